/- What the reference draws for a line to justify. -/
import Derived.Test.YthcfocpimoghbaaPJux0
import Derived.Test.YthcfocpimoghbaaPJux6
import Derived.Test.YthcfocpimoghbaaJuDrawWords0
import Derived.Test.YthcfocpimoghbaaJuJust
import Derived.Test.YthcfocpimoghbaaJustEven
namespace DocPure
open Go.RowKit Go.Proofs.Ythcfocpimoghbaa.PJu Go.Proofs.YthcfocpimoghbaaW.PrintWords

theorem drawJust {l : List Int} (hl : ∀ x ∈ l, (Go.Lit.int .u8 x).wf = true) : ∃ ws w, Tells (fun k => spec_DrawJustifyLine.f k l) (ws, w) ∧ Drawn ws ∧ 5 ≤ w ∧ w ≤ 201 := by
  obtain ⟨b, hb, ho⟩ := open_code hl
  obtain ⟨n, hn, h⟩ := num_tells hb (p := 0) (by omega) (by omega) [5, 3, 8, 2, 1, 0, 12] (by decide)
  have hr : 0 ≤ n ∧ n ≤ 12 := by simp at hn; omega
  obtain ⟨ws, q, h', hd, g0, g1⟩ := drawWords_l0 hb n.toNat [] (0 + 1) (by simp; omega) (fun s hs => by cases hs) (by omega) (by omega)
  rw [show ((n.toNat : Nat) : Int) = n from by omega] at h'
  obtain ⟨w, hw, h2⟩ := num_tells hb (p := q) g0 (by omega) [20, 15, 12, 30, 18, 5, 201] (by decide)
  have hwr : 5 ≤ w ∧ w ≤ 201 := by simp at hw; omega
  have hww : Tells (fun k => spec_l12Words.f k b 0) (ws, q) := by
    unfold spec_l12Words.f
    exact Tells.bind h h'
  by_cases h4 : ws.length > 4
  · refine ⟨ws.take 4, w, ?_, ⟨by rw [List.length_take]; omega, fun s hs => hd.sz s (List.mem_of_mem_take hs)⟩, hwr.1, hwr.2⟩
    refine Tells.congr (fun k => by unfold spec_DrawJustifyLine.f; rw [ho, Option.bind_some]) ?_
    exact Tells.bind hww (Tells.iteT (by simp only []; omega) (Tells.iteT (by simp only []; omega) (Tells.bind h2 (Tells.pure _))))
  · refine ⟨ws, w, ?_, hd, hwr.1, hwr.2⟩
    refine Tells.congr (fun k => by unfold spec_DrawJustifyLine.f; rw [ho, Option.bind_some]) ?_
    exact Tells.bind hww (Tells.iteF (by simp only []; omega) (Tells.bind h2 (Tells.pure _)))

theorem Drawn.small {ws : List ByteArray} (h : Drawn ws) : Small ws := ⟨by have := h.len; omega, fun s hs => by have := h.sz s hs; omega⟩

theorem Drawn.total {ws : List ByteArray} (h : Drawn ws) : total ws ≤ 1099511627776 := by
  have h1 := total_bound ws h.sz
  have h2 := h.len
  omega

theorem clean_of {ws : List ByteArray} (h : wordsOk ws = true) : ∀ s ∈ ws, Clean s := by
  intro s hs
  unfold wordsOk at h
  rw [Bool.and_eq_true, List.all_eq_true] at h
  have h1 := h.1 s hs
  unfold textOk at h1
  rw [Bool.and_eq_true, Bool.and_eq_true, decide_eq_true_eq] at h1
  refine ⟨h1.1.1, fun b hb => ?_⟩
  have h2 := h1.2
  unfold bytesOk at h2
  rw [List.all_eq_true] at h2
  have h3 := of_decide_eq_true (h2 b hb)
  rintro rfl
  revert h3
  decide

theorem just_parts {ws : List ByteArray} {w : Int} (h : justOk ws w = true) : wordsOk ws = true ∧ 0 ≤ w ∧ w ≤ 200 ∧ 2 ≤ ws.length ∧ ((lineWith sp1 ws).size : Int) ≤ w := by
  unfold justOk at h
  rw [Bool.and_eq_true, Bool.and_eq_true] at h
  obtain ⟨-, -, h3, h4⟩ := ok_parts h.1.1
  have h5 := h.1.1
  rw [Bool.and_eq_true] at h5
  exact ⟨h5.1, h3, h4, of_decide_eq_true h.1.2, of_decide_eq_true h.2⟩

end DocPure
