/- The laws' marks on rows: they tell a number that is not negative. -/
import Derived.Test.YtkcpimhohadjkaaPPex0
import Derived.Test.YtkcpimhohadjkaaPPex6
import Derived.Test.YtkcpimhohadjkaaPeMarkStrs
import Derived.Test.YtkcpimhohadjkaaPeLayout
namespace DocPure
open Go.RowKit Go.Proofs.Ytkcpimhohadjkaa.PPe Go.Proofs.YtkcpimhohadjkaaW.PrintWords

/-- One row marked. -/
noncomputable def markAt (t : List Row) (q i : Nat) : List Row :=
  (t.set i ⟨(q : Int), (rd_T59 t (i : Int)).f1⟩).set i ⟨(rd_T59 (t.set i ⟨(q : Int), (rd_T59 t (i : Int)).f1⟩) (i : Int)).f0, mtext ((q + 1 : Nat) : Int)⟩

theorem markAt_len (t : List Row) (q i : Nat) : (markAt t q i).length = t.length := by
  unfold markAt
  rw [List.length_set, List.length_set]

theorem markRows_step (t : List Row) (q i : Nat) (hi : i < t.length) (hq : q ≤ 4194000) (hl : t.length ≤ 1048576) (r : Int × List Row)
    (h : Tells (fun k => laws_markRowS.l0 k (markAt t q i) ((q + 2 : Nat) : Int) ((i + 1 : Nat) : Int)) r) : Tells (fun k => laws_markRowS.l0 k t (q : Int) (i : Int)) r := by
  have k1 : (i : Int) < (t.length : Int) := by omega
  have k2 : 0 ≤ (i : Int) := by omega
  have hm := mtext_tells ((q + 1 : Nat) : Int) (by omega)
  have e1 : wrap64 ((q : Int) + 1) = ((q + 1 : Nat) : Int) := by rw [wr64 (by omega) (by omega)]; rfl
  have e2 : wrap64 (((q + 1 : Nat) : Int) + 1) = ((q + 2 : Nat) : Int) := by rw [wr64 (by omega) (by omega)]; omega
  have e3 : wrap64 ((i : Int) + 1) = ((i + 1 : Nat) : Int) := by rw [wr64 (by omega) (by omega)]; rfl
  have head : ∀ k, laws_markRowS.l0 (k + 1) t (q : Int) (i : Int) = (laws_markText.f k ((q + 1 : Nat) : Int)).bind fun s => laws_markRowS.l0 k ((t.set i ⟨(q : Int), (rd_T59 t (i : Int)).f1⟩).set i ⟨(rd_T59 (t.set i ⟨(q : Int), (rd_T59 t (i : Int)).f1⟩) (i : Int)).f0, s⟩) ((q + 2 : Nat) : Int) ((i + 1 : Nat) : Int) := fun k => by
    rw [laws_markRowS.l0, if_pos k1, if_pos k2, Option.bind_some, e1, e2, e3, Int.toNat_natCast]
  unfold markAt at h
  exact Tells.step head (Tells.bind hm h)

theorem markRows_l0 : ∀ (d i : Nat) (t : List Row) (q : Nat), i + d = t.length → q + 2 * d ≤ 4194000 → t.length ≤ 1048576 →
    ∃ t', Tells (fun k => laws_markRowS.l0 k t (q : Int) (i : Int)) (((q + 2 * d : Nat) : Int), t')
  | 0, i, t, q, hd, hq, hl => by
    refine ⟨t, Tells.step (fun k => ?_) (Tells.pure _)⟩
    simp only [laws_markRowS.l0]
    rw [if_neg (by omega)]; rfl
  | d + 1, i, t, q, hd, hq, hl => by
    obtain ⟨t', h⟩ := markRows_l0 d (i + 1) (markAt t q i) (q + 2) (by rw [markAt_len]; omega) (by omega) (by rw [markAt_len]; omega)
    rw [show q + 2 + 2 * d = q + 2 * (d + 1) from by omega] at h
    exact ⟨t', markRows_step t q i (by omega) (by omega) hl _ h⟩

theorem markRows (t : List Row) (hl : t.length ≤ 1048576) : ∃ t', Tells (fun k => laws_markRowS.f k t 1) (((1 + 2 * t.length : Nat) : Int), t') :=
  markRows_l0 t.length 0 t 1 (by omega) (by omega) hl

end DocPure
