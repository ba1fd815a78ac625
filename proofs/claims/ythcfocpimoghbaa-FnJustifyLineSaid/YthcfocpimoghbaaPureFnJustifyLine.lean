/- A justified line is as long as the width asked for and holds the words, for every input. -/
import Derived.Test.YthcfocpimoghbaaPJux0
import Derived.Test.YthcfocpimoghbaaPJux7
import Derived.Test.YthcfocpimoghbaaJuDrawJust
import Derived.Test.YthcfocpimoghbaaJuDaTexts
import Derived.Test.YthcfocpimoghbaaJustWords
namespace DocPure
open Go.RowKit Go.Proofs.Ythcfocpimoghbaa.PJu Go.Proofs.YthcfocpimoghbaaW.PrintWords

theorem jempty_str (c : ByteArray) : c.toList = ([] : List UInt8) ↔ c.size = 0 := by
  rw [Go.ByteArray.toList_eq, ← size_data]
  exact List.length_eq_zero_iff.symm

theorem words_l0 (ws : List ByteArray) (W : Int) (L : ByteArray) (hL : L.size ≤ 1000000) (hW : (L.size : Int) = W) (q : List ByteArray) (hq : q = ws) : ∀ (d i : Nat) (out : List ByteArray) (cur : ByteArray), i + d = L.size → out.length ≤ i → cur.size ≤ i →
    (wordScan (L.data.toList.drop i) out cur).1 ++ [(wordScan (L.data.toList.drop i) out cur).2] = q →
    Tells (fun k => laws_FnJustifyLine.l0 k ws W L out cur (i : Int)) true
  | 0, i, out, cur, hd, ho, hc, hs => by
    rw [List.drop_of_length_le (by rw [size_data]; omega)] at hs
    have hs' : out ++ [cur] = ws := hs.trans hq
    refine Tells.step (fun k => by simp only [laws_FnJustifyLine.l0]; rw [if_neg (by omega), if_pos hW, if_pos (by omega), hs']) ?_
    have hl : ws.length ≤ 1000001 := by rw [← hs', List.length_append, List.length_singleton]; omega
    have := Tells.bind (f := fun _ t => some t) (daTexts ws ws (by omega)) (Tells.pure _)
    rw [decide_eq_true rfl] at this
    exact this
  | d + 1, i, out, cur, hd, ho, hc, hs => by
    have hw : ∀ _ : Unit, wrap64 ((i : Int) + 1) = ((i + 1 : Nat) : Int) := fun _ => by rw [wr64 (by omega) (by omega)]; rfl
    have hb := bt_get (s := L) (i := i) (by omega)
    have hdrop : L.data.toList.drop i = (L[i]'(by omega)) :: L.data.toList.drop (i + 1) := List.drop_eq_getElem_cons (by rw [size_data]; omega)
    rw [hdrop] at hs
    unfold wordScan at hs
    by_cases h : L[i]'(by omega) = 32
    · rw [if_pos h] at hs
      by_cases h0 : cur.size = 0
      · rw [if_pos h0] at hs
        have ih := words_l0 ws W L hL hW q hq d (i + 1) out cur (by omega) (by omega) (by omega) hs
        refine Tells.step (fun k => ?_) ih
        simp only [laws_FnJustifyLine.l0]
        rw [if_pos (by omega), if_pos (by omega), hb, if_pos (by rw [h]; rfl), if_pos ((jempty_str cur).2 h0), hw ()]
      · rw [if_neg h0] at hs
        have ih := words_l0 ws W L hL hW q hq d (i + 1) (out ++ [cur]) ByteArray.empty (by omega) (by rw [List.length_append, List.length_singleton]; omega) (by show 0 ≤ _; omega) hs
        refine Tells.step (fun k => ?_) ih
        simp only [laws_FnJustifyLine.l0]
        rw [if_pos (by omega), if_pos (by omega), hb, if_pos (by rw [h]; rfl), if_neg (fun e => h0 ((jempty_str cur).1 e)), if_pos (by omega), hw ()]; rfl
    · rw [if_neg h] at hs
      have hne : ¬ (((L[i]'(by omega)).toNat : Int) = 32) := by
        intro q
        exact h (UInt8.toNat_inj.1 (show (L[i]'(by omega)).toNat = 32 by omega))
      have e1 : (one (L[i]'(by omega))).size = 1 := rfl
      have ih := words_l0 ws W L hL hW q hq d (i + 1) out (cur ++ one (L[i]'(by omega))) (by omega) (by omega) (by rw [ByteArray.size_append, e1]; omega) hs
      refine Tells.step (fun k => ?_) ih
      simp only [laws_FnJustifyLine.l0]
      rw [if_pos (by omega), if_pos (by omega), hb, if_neg hne, hw (), if_pos (by omega), if_pos (by omega), Int.toNat_natCast, Int.toNat_natCast, extract_one (by omega), if_pos (by rw [e1]; omega)]

theorem lawJustifyLine (l : List Int) (hl : ∀ x ∈ l, (Go.Lit.int .u8 x).wf = true) (hs : l.length ≤ 1048576) : Tells (fun k => laws_FnJustifyLine.f k l) true := by
  obtain ⟨ws, w, hd, hD, hw0, hw1⟩ := drawJust hl
  have hsm := hD.small
  have hlen := hD.len
  refine Tells.congr (fun k => by unfold laws_FnJustifyLine.f; rw [if_neg (by omega)]) ?_
  refine Tells.bind hd (Tells.bind (impl_just ws w hsm (by omega) hD.total) (Tells.bind (spec_just ws w hsm (by omega) hD.total) (Tells.iteT rfl ?_)))
  simp only [bne_self_eq_false]
  refine Tells.congr (fun k => if_neg (by decide)) ?_
  by_cases ho : justOk ws w = true
  · have e1 : justifyLine ws w = (justT ws w.toNat, true) := by unfold justifyLine; rw [if_pos ho]
    rw [e1]
    obtain ⟨h1, h2, h3, h4, h5⟩ := just_parts ho
    have hz := justT_size (ws := ws) (w := w.toNat) h4 (by omega)
    have hwl := word_line (ws := ws) (w := w.toNat) (clean_of h1) h4
    have hl0 := words_l0 ws w (justT ws w.toNat) (by omega) (by omega) ws rfl (justT ws w.toNat).size 0 [] ByteArray.empty (by omega) (by simp) (by show 0 ≤ 0; omega) (by rw [List.drop_zero]; exact hwl)
    refine Tells.step (fun k => ?_) hl0
    simp only [laws_FnJustifyLine.j0]
    rw [if_neg (by decide)]; rfl
  · have e1 : justifyLine ws w = (ByteArray.empty, false) := by unfold justifyLine; rw [if_neg ho]
    rw [e1]
    refine Tells.step (fun k => ?_) (Tells.pure true)
    simp only [laws_FnJustifyLine.j0]
    rw [if_pos (by decide), if_pos trivial, if_pos (by decide), (jempty_str ByteArray.empty).2 rfl]; rfl

end DocPure
namespace Go.Proofs.Ythcfocpimoghbaa.Pure
open Go.RowKit Go.Proofs.Ythcfocpimoghbaa.PJu Go.Proofs.YthcfocpimoghbaaW.PrintWords Go.Proofs.YthcfocpimoghbaaW.PrintLast

theorem FnJustifyLine : laws_FnJustifyLine.Pure := by
  intro l _ _ hl
  by_cases h : l.length ≤ 1048576
  · exact (DocPure.lawJustifyLine l hl h).ex
  · exact ⟨0, by unfold laws_FnJustifyLine.f; rw [if_pos (by omega)]⟩

end Go.Proofs.Ythcfocpimoghbaa.Pure
