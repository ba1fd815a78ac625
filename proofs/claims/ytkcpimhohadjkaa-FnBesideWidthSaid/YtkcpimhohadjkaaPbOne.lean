/- A text of one byte. Plain. -/
import Derived.Test.YtkcpimhohadjkaaPbLine
namespace DocPure

def one (b : UInt8) : ByteArray := ⟨#[b]⟩

theorem extract_one {s : ByteArray} {i : Nat} (h : i < s.size) : s.extract i (i + 1) = one (s[i]'h) := by
  refine bytes_eq ?_
  rw [extract_data]
  have hl : i < s.data.toList.length := by rw [size_data]; exact h
  rw [List.take_succ_eq_append_getElem hl, List.drop_append_of_le_length (by rw [List.length_take]; omega), List.drop_of_length_le (by rw [List.length_take]; omega)]
  rfl

end DocPure
