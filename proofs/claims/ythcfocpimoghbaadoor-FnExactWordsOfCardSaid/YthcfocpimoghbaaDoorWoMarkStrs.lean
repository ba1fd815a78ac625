/- The laws' marks on rows of strings: what is marked is held. -/
import Derived.Test.YthcfocpimoghbaaDoorPWox0
import Derived.Test.YthcfocpimoghbaaDoorPWox4
import Derived.Test.YthcfocpimoghbaaDoorBaseS
namespace DocPure
open Go.RowKit Go.Proofs.YthcfocpimoghbaaDoor.PWo Go.Proofs.YthcfocpimoghbaaDoorW.PrintWords

theorem markText_l0 : ∀ (n : Nat) (x : Int) (acc : ByteArray), x ≤ n → x ≤ 4194304 → acc.size + n ≤ 8388608 →
    ∃ s, Tells (fun k => laws_markText.l0 k x acc) s
  | 0, x, acc, h, h1, h2 => by
    exact ⟨_, Tells.step (fun k => by simp only [laws_markText.l0]; rw [if_neg (by omega), if_pos (by omega)]) (Tells.pure _)⟩
  | n + 1, x, acc, h, h1, h2 => by
    by_cases hx : x > 0
    · have hd : Int.tdiv x 10 ≤ n ∧ Int.tdiv x 10 ≤ 4194304 ∧ 0 ≤ Int.tdiv x 10 := by
        rw [Int.tdiv_eq_ediv_of_nonneg (by omega)]; omega
      have e : ∀ y : Int, (Go.strOfNums [y]).size = 1 := fun y => rfl
      obtain ⟨s, hs⟩ := markText_l0 n (Int.tdiv x 10) (Go.strOfNums [wrap64 (48 + Int.tmod x 10) % 256] ++ acc) (by omega) (by omega) (by rw [ByteArray.size_append, e]; omega)
      refine ⟨s, Tells.step (fun k => ?_) hs⟩
      simp only [laws_markText.l0, Option.bind_some]
      rw [if_pos hx, if_pos (by rw [e]; omega), wr64 (n := Int.tdiv x 10) (by omega) (by omega)]
    · exact ⟨_, Tells.step (fun k => by simp only [laws_markText.l0]; rw [if_neg hx, if_pos (by omega)]) (Tells.pure _)⟩

theorem markText_some (x : Int) (hx : x ≤ 4194304) : ∃ s, Tells (fun k => laws_markText.f k x) s := by
  by_cases h : x ≤ 0
  · exact ⟨_, Tells.of fun k => by unfold laws_markText.f; rw [if_pos h]⟩
  · obtain ⟨s, hs⟩ := markText_l0 x.toNat x ⟨#[]⟩ (by omega) hx (by show (0 : Nat) + _ ≤ _; omega)
    exact ⟨s, Tells.congr (fun k => by unfold laws_markText.f; rw [if_neg h]) hs⟩

theorem mtext_ex : ∃ f : Int → ByteArray, ∀ x, x ≤ 4194304 → Tells (fun k => laws_markText.f k x) (f x) :=
  ⟨fun x => if h : x ≤ 4194304 then (markText_some x h).choose else ByteArray.empty, fun x hx => by
    simp only [dif_pos hx]
    exact (markText_some x hx).choose_spec⟩

noncomputable def mtext : Int → ByteArray := mtext_ex.choose

theorem mtext_tells (x : Int) (hx : x ≤ 4194304) : Tells (fun k => laws_markText.f k x) (mtext x) := mtext_ex.choose_spec x hx

noncomputable def smarks (q n : Nat) : List ByteArray := (List.range n).map fun j => mtext ((q + j : Nat) : Int)

theorem smarks_succ (q n : Nat) : smarks q (n + 1) = mtext ((q : Nat) : Int) :: smarks (q + 1) n := by
  unfold smarks
  rw [List.range_succ_eq_map, List.map_cons, List.map_map, Nat.add_zero]
  have h : ∀ j, mtext ((q + (j + 1) : Nat) : Int) = mtext ((q + 1 + j : Nat) : Int) := fun j => congrArg mtext (by omega)
  exact congrArg (List.cons _) (List.map_congr_left fun j _ => h j)

theorem smarks_len (q n : Nat) : (smarks q n).length = n := by simp [smarks]

theorem markStrs_l0 : ∀ (t pre : List ByteArray) (q : Nat), q + t.length ≤ 4194304 → pre.length + t.length ≤ 2097152 →
    Tells (fun k => laws_markStringS.l0 k (pre ++ t) (q : Int) (pre.length : Int)) (((q + t.length : Nat) : Int), pre ++ smarks q t.length)
  | [], pre, q, hq, hl => by
    refine Tells.step (fun k => ?_) (Tells.pure _)
    simp only [laws_markStringS.l0, List.append_nil]
    rw [if_neg (by omega)]; simp [smarks]
  | a :: t, pre, q, hq, hl => by
    have ih := markStrs_l0 t (pre ++ [mtext q]) (q + 1) (by simp at hq ⊢; omega) (by simp at hl ⊢; omega)
    simp only [List.length_append, List.length_cons, List.length_nil, Nat.zero_add, List.append_assoc, List.singleton_append] at ih
    simp only [List.length_cons] at hl hq
    rw [List.length_cons, smarks_succ, show q + (t.length + 1) = q + 1 + t.length from by omega]
    refine Tells.step (fun k => by simp only [laws_markStringS.l0]; rw [if_pos (by simp; omega)]) ?_
    refine Tells.bind (mtext_tells q (by omega)) ?_
    refine Tells.congr (fun k => ?_) ih
    rw [if_pos (by omega), wr64 (by omega) (by omega), wr64 (by omega) (by omega), Int.toNat_natCast, List.set_append_right _ _ (by omega), Nat.sub_self, List.set_cons_zero]
    rfl

theorem markStrs (t : List ByteArray) (q : Nat) (hq : q ≤ 2097152) (hl : t.length ≤ 2097152) : Tells (fun k => laws_markStringS.f k t (q : Int)) (((q + t.length : Nat) : Int), smarks q t.length) := by
  have h := markStrs_l0 t [] q (by omega) (by simpa using hl)
  exact h

theorem heldStrs_l0 : ∀ (n : Nat) (pre : List ByteArray) (q : Nat), q + n ≤ 4194304 → pre.length + n ≤ 2097152 →
    Tells (fun k => laws_heldStringS.l0 k (pre ++ smarks q n) (q : Int) (pre.length : Int)) ((q + n : Nat) : Int)
  | 0, pre, q, hq, hl => by
    refine Tells.step (fun k => ?_) (Tells.pure _)
    simp only [laws_heldStringS.l0, smarks, List.range_zero, List.map_nil, List.append_nil]
    rw [if_neg (by omega)]; rfl
  | n + 1, pre, q, hq, hl => by
    have ih := heldStrs_l0 n (pre ++ [mtext q]) (q + 1) (by omega) (by simp; omega)
    simp only [List.length_append, List.length_cons, List.length_nil, Nat.zero_add, List.append_assoc, List.singleton_append] at ih
    rw [smarks_succ, show q + (n + 1) = q + 1 + n from by omega]
    have hr : rdOf ByteArray.empty (pre ++ mtext (q : Int) :: smarks (q + 1) n) (pre.length : Int) = mtext (q : Int) := by
      rw [rdS_get (by simp)]; simp
    refine Tells.step (fun k => by simp only [laws_heldStringS.l0]; rw [if_pos (by simp; omega), if_pos (by omega), hr]) ?_
    refine Tells.bind (mtext_tells q (by omega)) ?_
    refine Tells.congr (fun k => ?_) ih
    rw [if_pos rfl, wr64 (by omega) (by omega), wr64 (by omega) (by omega)]
    rfl

theorem heldStrs (n q : Nat) (hq : q ≤ 2097152) (hl : n ≤ 2097152) : Tells (fun k => laws_heldStringS.f k (smarks q n) (q : Int)) ((q + n : Nat) : Int) :=
  heldStrs_l0 n [] q (by omega) (by simpa using hl)

end DocPure
