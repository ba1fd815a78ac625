/- What the reference draws for wrapping: at most 12 words of at most 6 bytes. -/
import Derived.Test.YtkpnmninkmnbjaaDoorPKax0
import Derived.Test.YtkpnmninkmnbjaaDoorPKax1
import Derived.Test.YtkpnmninkmnbjaaDoorKaPickOf
namespace DocPure
open Go.RowKit Go.Proofs.YtkpnmninkmnbjaaDoor.PKa Go.Proofs.YtkpnmninkmnbjaaDoorW.PrintWords

structure Drawn (ws : List ByteArray) : Prop where
  len : ws.length ≤ 12
  sz : ∀ s ∈ ws, s.size ≤ 6

theorem drawWords_l0 {b : List Int} (hb : Code b) : ∀ (n : Nat) (acc : List ByteArray) (p : Int), acc.length + n ≤ 12 → (∀ s ∈ acc, s.size ≤ 6) → 0 ≤ p → p + n < 1000 →
    ∃ ws q, Tells (fun k => spec_l12Words.l0 k acc (n : Int) b p) (ws, q) ∧ Drawn ws ∧ 0 ≤ q ∧ q ≤ p + n + 2
  | 0, acc, p, h1, h2, h3, h4 => by
    by_cases ha : acc.length > 0
    · obtain ⟨r, hr, -, -⟩ := pick_tells hb h3 (by omega) (n := 20) (by omega)
      by_cases h0 : r = 0
      · obtain ⟨x, hx, ht⟩ := of_tells hb (p := p + 1) (by omega) (by omega) [(⟨#[]⟩ : ByteArray), (⟨#[65]⟩ : ByteArray), (⟨#[97, 32, 98]⟩ : ByteArray)] (by decide)
        refine ⟨acc.set 0 x, p + 1 + 1, ?_, ⟨by rw [List.length_set]; omega, fun s hs => ?_⟩, by omega, by omega⟩
        · refine Tells.step (fun k => by simp only [spec_l12Words.l0]; rw [if_neg (by omega), if_pos (by omega)]) ?_
          exact Tells.bind hr (Tells.iteT h0 (Tells.bind ht (Tells.iteT (by omega) (Tells.pure _))))
        · rcases List.mem_or_eq_of_mem_set hs with hs | rfl
          · exact h2 s hs
          · simp only [List.mem_cons, List.not_mem_nil, or_false] at hx
            rcases hx with rfl | rfl | rfl <;> decide
      · refine ⟨acc, p + 1, ?_, ⟨by omega, h2⟩, by omega, by omega⟩
        refine Tells.step (fun k => by simp only [spec_l12Words.l0]; rw [if_neg (by omega), if_pos (by omega)]) ?_
        exact Tells.bind hr (Tells.iteF h0 (Tells.pure _))
    · refine ⟨acc, p, Tells.step (fun k => ?_) (Tells.pure _), ⟨by omega, h2⟩, by omega, by omega⟩
      simp only [spec_l12Words.l0]
      rw [if_neg (by omega), if_neg (by omega)]
  | n + 1, acc, p, h1, h2, h3, h4 => by
    obtain ⟨x, hx, ht⟩ := of_tells hb h3 (by omega) [(⟨#[97]⟩ : ByteArray), (⟨#[98, 98]⟩ : ByteArray), (⟨#[99, 99, 99]⟩ : ByteArray), (⟨#[100, 100, 100, 100]⟩ : ByteArray), (⟨#[101, 101, 101, 101, 101]⟩ : ByteArray), (⟨#[102, 102, 102, 102, 102, 102]⟩ : ByteArray), (⟨#[120, 44]⟩ : ByteArray)] (by decide)
    have hx6 : x.size ≤ 6 := by
      simp only [List.mem_cons, List.not_mem_nil, or_false] at hx
      rcases hx with rfl | rfl | rfl | rfl | rfl | rfl | rfl <;> decide
    obtain ⟨ws, q, h, hd, g0, g1⟩ := drawWords_l0 hb n (acc ++ [x]) (p + 1) (by simp; omega) (fun s hs => by
      rcases List.mem_append.1 hs with hs | hs
      · exact h2 s hs
      · rw [List.mem_singleton.1 hs]; exact hx6) (by omega) (by omega)
    refine ⟨ws, q, ?_, hd, g0, by omega⟩
    refine Tells.step (fun k => by simp only [spec_l12Words.l0]; rw [if_pos (by omega), wr64 (n := ((n + 1 : Nat) : Int) - 1) (by omega) (by omega), show ((n + 1 : Nat) : Int) - 1 = n from by omega]) ?_
    exact Tells.bind ht (Tells.iteT (by omega) h)

end DocPure
