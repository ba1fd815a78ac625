/- Documents as trees: which are well-formed down to a depth; the reference's counts and tests of them tell something. -/
import Derived.Test.YtkcpimhohadjkaaPPbx0
import Derived.Test.YtkcpimhohadjkaaPPbx10
import Derived.Test.YtkcpimhohadjkaaPPbx11
import Derived.Test.YtkcpimhohadjkaaPPbx9
import Derived.Test.YtkcpimhohadjkaaPbLayout
namespace DocPure
open Go.RowKit Go.Proofs.Ytkcpimhohadjkaa.PPb Go.Proofs.YtkcpimhohadjkaaW.PrintWords

abbrev Doc := S91

theorem Tells.shift {α : Type} {g : Nat → Option α} {r : α} (m : Nat) (h : Tells g r) : Tells (fun k => g (k + m)) r := by
  obtain ⟨n, hn⟩ := h
  exact ⟨n, fun k hk => hn (k + m) (by omega)⟩

theorem rd_docs {l : List Doc} {i : Nat} (h : i < l.length) : rd_T91 l (i : Int) = l[i] := by
  unfold rd_T91
  rw [Int.toNat_natCast, List.getD_eq_getElem?_getD, List.getElem?_eq_getElem h]; rfl

/-- Trees whose texts and rows of kids are not too long. -/
inductive Tx : Doc → Prop
  | mk (d : Doc) (h : d.f2.size ≤ 1000000) (hl : d.f3.length ≤ 1000000) (hk : ∀ x ∈ d.f3, Tx x) : Tx d

theorem count_l0 (op n : Int) (t : ByteArray) (ks : List Doc) (hl : ks.length ≤ 1000000) (ih : ∀ x ∈ ks, ∃ r, Tells (fun k => spec_l1Count.f k x.f0 x.f1 x.f2 x.f3) r) : ∀ (d i : Nat) (acc : Int), i + d = ks.length →
    ∃ r, Tells (fun k => spec_l1Count.l0 k acc (i : Int) op n t ks) r
  | 0, i, acc, hd => by
    refine ⟨acc, Tells.step (fun k => ?_) (Tells.pure _)⟩
    simp only [spec_l1Count.l0]
    rw [if_neg (by omega)]
  | d + 1, i, acc, hd => by
    obtain ⟨q, hq⟩ := ih (ks[i]'(by omega)) (List.getElem_mem _)
    obtain ⟨r, hr⟩ := count_l0 op n t ks hl ih d (i + 1) (wrap64 (acc + q)) (by omega)
    refine ⟨r, Tells.step (fun k => by simp only [spec_l1Count.l0]; rw [if_pos (by omega), if_pos (by omega), rd_docs (by omega), wr64 (n := (i : Int) + 1) (by omega) (by omega)]) (Tells.bind hq hr)⟩

theorem count_some {d : Doc} (h : Tx d) : ∃ r, Tells (fun k => spec_l1Count.f k d.f0 d.f1 d.f2 d.f3) r := by
  induction h with
  | mk d h hl hk ih =>
    obtain ⟨r, hr⟩ := count_l0 d.f0 d.f1 d.f2 d.f3 hl ih d.f3.length 0 1 (by omega)
    exact ⟨r, Tells.step (fun k => by simp only [spec_l1Count.f]; rfl) hr⟩

/-- How many kids a document of a kind has. -/
def kidsN (op : Int) : Int := if 1 ≤ op ∧ op ≤ 5 then 0 else if op = 6 ∨ op = 8 then 1 else if op = 7 then 2 else -1

theorem kids_tells (op : Int) : Tells (fun k => spec_l1Kids.f k op) (kidsN op) := by
  by_cases h : 1 ≤ op ∧ op ≤ 5
  · have e : kidsN op = 0 := by unfold kidsN; rw [if_pos h]
    rw [e]
    have fin : Tells (fun k => spec_l1Kids.j0 k op true) 0 := Tells.step (fun k => by simp only [spec_l1Kids.j0]; rw [if_pos trivial]) (Tells.pure _)
    refine Tells.congr (fun k => ?_) fin
    unfold spec_l1Kids.f
    rcases (show op = 1 ∨ op = 2 ∨ op = 3 ∨ op = 4 ∨ op = 5 by omega) with rfl | rfl | rfl | rfl | rfl <;> rfl
  · have hf : ∀ k, spec_l1Kids.f k op = spec_l1Kids.j0 k op false := fun k => by
      unfold spec_l1Kids.f
      rw [if_neg (by omega), if_neg (by omega), if_neg (by omega), if_neg (by omega), show (op == 5) = false from beq_eq_false_iff_ne.2 (by omega)]
    have hj : ∀ (b : Bool) (r : Int), r = (if b then 1 else if op = 7 then 2 else -1) → Tells (fun k => spec_l1Kids.j1 k op b) r := fun b r hr => by
      subst hr
      refine Tells.step (fun k => ?_) (Tells.pure _)
      simp only [spec_l1Kids.j1]
      cases b with
      | true => rfl
      | false =>
        rw [if_neg (show ¬ (false = true) by decide), if_neg (show ¬ (false = true) by decide)]
        by_cases h7 : op = 7
        · rw [if_pos h7, if_pos h7]
        · rw [if_neg h7, if_neg h7]
    refine Tells.congr hf ?_
    by_cases h6 : op = 6
    · refine Tells.step (fun k => by simp only [spec_l1Kids.j0]; rw [if_neg (by decide), if_pos h6]) (hj _ _ ?_)
      subst h6; rfl
    · refine Tells.step (fun k => by simp only [spec_l1Kids.j0]; rw [if_neg (by decide), if_neg h6]) (hj _ _ ?_)
      unfold kidsN
      rw [if_neg h]
      by_cases h8 : op = 8
      · subst h8; rfl
      · rw [if_neg (by omega), show (op == 8) = false from beq_eq_false_iff_ne.2 h8]; rfl

def txtB (d : Doc) : Bool := if d.f0 = 2 then textOk d.f2 else decide (d.f2.size = 0)

def numB (d : Doc) : Bool := if d.f0 = 6 then decide (0 ≤ d.f1 ∧ d.f1 ≤ 9) else decide (d.f1 = 0)

/-- Whether a document is well-formed, down to a depth. -/
def isB : Nat → Doc → Bool
  | 0, _ => false
  | n + 1, d => decide ((d.f3.length : Int) = kidsN d.f0) && (txtB d && (numB d && d.f3.all (isB n)))

theorem is_parts {n : Nat} {d : Doc} (h : isB (n + 1) d = true) : (d.f3.length : Int) = kidsN d.f0 ∧ txtB d = true ∧ numB d = true ∧ ∀ x ∈ d.f3, isB n x = true := by
  unfold isB at h
  rw [Bool.and_eq_true, Bool.and_eq_true, Bool.and_eq_true, decide_eq_true_eq] at h
  exact ⟨h.1, h.2.1, h.2.2.1, fun x hx => List.all_eq_true.1 h.2.2.2 x hx⟩

theorem is_mk {n : Nat} {d : Doc} (h1 : (d.f3.length : Int) = kidsN d.f0) (h2 : txtB d = true) (h3 : numB d = true) (h4 : ∀ x ∈ d.f3, isB n x = true) : isB (n + 1) d = true := by
  unfold isB
  rw [decide_eq_true h1, h2, h3, List.all_eq_true.2 h4]; rfl

theorem is_more : ∀ (n : Nat) (d : Doc), isB n d = true → isB (n + 1) d = true
  | 0, d, h => by cases h
  | n + 1, d, h => by
    obtain ⟨h1, h2, h3, h4⟩ := is_parts h
    exact is_mk h1 h2 h3 (fun x hx => is_more n x (h4 x hx))

theorem is_add (n : Nat) (d : Doc) (h : isB n d = true) : ∀ m, isB (n + m) d = true
  | 0 => h
  | m + 1 => is_more _ _ (is_add n d h m)

theorem text_small {s : ByteArray} (h : textOk s = true) : s.size ≤ 12 := by
  unfold textOk at h
  rw [Bool.and_eq_true, Bool.and_eq_true, decide_eq_true_eq, decide_eq_true_eq] at h
  exact h.1.2

theorem txt_small {d : Doc} (h : txtB d = true) : d.f2.size ≤ 12 := by
  unfold txtB at h
  split at h
  · exact text_small h
  · rw [decide_eq_true_eq] at h; omega

theorem kids_le (op : Int) : kidsN op ≤ 2 := by
  unfold kidsN
  split
  · omega
  · split
    · omega
    · split <;> omega

theorem is_tx : ∀ (n : Nat) (d : Doc), isB n d = true → Tx d
  | 0, d, h => by cases h
  | n + 1, d, h => by
    obtain ⟨h1, h2, -, h4⟩ := is_parts h
    have h5 := txt_small h2
    have h6 := kids_le d.f0
    exact Tx.mk d (by omega) (by omega) (fun x hx => is_tx n x (h4 x hx))

theorem ne_nil (t : ByteArray) : (t.toList != ([] : List UInt8)) = !decide (t.size = 0) := by
  by_cases h : t.size = 0
  · rw [(str_nil t).2 h, decide_eq_true h]; rfl
  · rw [decide_eq_false h]
    exact bne_iff_ne.2 (fun e => h ((str_nil t).1 e))

theorem is_l0 (n : Nat) (hn : n ≤ 1000) (op m : Int) (t : ByteArray) (ks : List Doc) (hl : ks.length ≤ 1000000) (ih : ∀ x ∈ ks, Tells (fun k => spec_l1Is.f k x.f0 x.f1 x.f2 x.f3 (n : Int)) (isB n x)) : ∀ (d i : Nat), i + d = ks.length →
    Tells (fun k => spec_l1Is.l0 k ((n + 1 : Nat) : Int) (i : Int) op m t ks) ((ks.drop i).all (isB n))
  | 0, i, hd => by
    rw [List.drop_of_length_le (by omega)]
    refine Tells.step (fun k => ?_) (Tells.pure _)
    simp only [spec_l1Is.l0]
    rw [if_neg (by omega)]; rfl
  | d + 1, i, hd => by
    have hq := ih (ks[i]'(by omega)) (List.getElem_mem _)
    have hr := is_l0 n hn op m t ks hl ih d (i + 1) (by omega)
    have e1 : ∀ _ : Unit, wrap64 (((n + 1 : Nat) : Int) - 1) = (n : Int) := fun _ => by rw [wr64 (by omega) (by omega)]; omega
    have e2 : ∀ _ : Unit, wrap64 ((i : Int) + 1) = ((i + 1 : Nat) : Int) := fun _ => by rw [wr64 (by omega) (by omega)]; rfl
    rw [List.drop_eq_getElem_cons (show i < ks.length by omega), List.all_cons]
    refine Tells.step (fun k => by simp only [spec_l1Is.l0]; rw [if_pos (by omega), if_pos (by omega), rd_docs (by omega), e1 (), e2 ()]) (Tells.bind hq ?_)
    cases isB n (ks[i]'(by omega)) with
    | true => rw [Bool.true_and]; exact Tells.iteT rfl hr
    | false => rw [Bool.false_and]; exact Tells.iteF (by decide) (Tells.pure _)

theorem is_tells : ∀ (n : Nat) (d : Doc), n ≤ 1000 → Tx d → Tells (fun k => spec_l1Is.f k d.f0 d.f1 d.f2 d.f3 (n : Int)) (isB n d)
  | 0, d, hn, h => by
    refine Tells.step (g' := fun k => spec_l1Is.j0 k 0 true d.f0 d.f1 d.f2 d.f3) (fun k => ?_) (Tells.step (fun k => ?_) (Tells.pure false))
    · simp only [spec_l1Is.f]
      rw [if_pos (show ((0 : Nat) : Int) = 0 from rfl)]; rfl
    · simp only [spec_l1Is.j0]
      rw [if_pos trivial]
  | n + 1, d, hn, h => by
    cases h with
    | mk _ ht hl hk =>
    have hall := is_l0 n (by omega) d.f0 d.f1 d.f2 d.f3 hl (fun x hx => is_tells n x (by omega) (hk x hx)) d.f3.length 0 (by omega)
    rw [List.drop_zero] at hall
    have j2 : ∀ b : Bool, Tells (fun k => spec_l1Is.j2 k ((n + 1 : Nat) : Int) b d.f0 d.f1 d.f2 d.f3) (!b && d.f3.all (isB n)) := fun b => by
      cases b with
      | true => exact Tells.step (fun k => by simp only [spec_l1Is.j2]; rw [if_pos trivial]; rfl) (Tells.pure _)
      | false => exact Tells.step (fun k => by simp only [spec_l1Is.j2]; rw [if_neg (by decide)]; rfl) hall
    have j1 : ∀ b : Bool, Tells (fun k => spec_l1Is.j1 k ((n + 1 : Nat) : Int) b d.f0 d.f1 d.f2 d.f3) (!b && (numB d && d.f3.all (isB n))) := fun b => by
      cases b with
      | true => exact Tells.step (fun k => by simp only [spec_l1Is.j1]; rw [if_pos trivial]; rfl) (Tells.pure _)
      | false =>
        rw [Bool.not_false, Bool.true_and]
        unfold numB
        by_cases h6 : d.f0 = 6
        · rw [if_pos h6]
          by_cases h0 : d.f1 < 0
          · have := j2 true
            rw [decide_eq_false (show ¬ (0 ≤ d.f1 ∧ d.f1 ≤ 9) by omega)]
            exact Tells.step (fun k => by simp only [spec_l1Is.j1]; rw [if_neg (by decide), if_pos h6, if_pos h0]) this
          · by_cases h9 : d.f1 > 9
            · have := j2 true
              rw [decide_eq_false (show ¬ (0 ≤ d.f1 ∧ d.f1 ≤ 9) by omega)]
              exact Tells.step (fun k => by simp only [spec_l1Is.j1]; rw [if_neg (by decide), if_pos h6, if_neg h0, if_pos h9]) this
            · have := j2 false
              rw [decide_eq_true (show 0 ≤ d.f1 ∧ d.f1 ≤ 9 by omega)]
              exact Tells.step (fun k => by simp only [spec_l1Is.j1]; rw [if_neg (by decide), if_pos h6, if_neg h0, if_neg h9]) this
        · rw [if_neg h6]
          have := j2 (d.f1 != 0)
          have e : (!(d.f1 != 0)) = decide (d.f1 = 0) := by
            by_cases h0 : d.f1 = 0
            · rw [h0]; rfl
            · rw [decide_eq_false h0, bne_iff_ne.2 h0]; rfl
          rw [e] at this
          exact Tells.step (fun k => by simp only [spec_l1Is.j1]; rw [if_neg (by decide), if_neg h6]) this
    have j0 : ∀ b : Bool, Tells (fun k => spec_l1Is.j0 k ((n + 1 : Nat) : Int) b d.f0 d.f1 d.f2 d.f3) (!b && (txtB d && (numB d && d.f3.all (isB n)))) := fun b => by
      cases b with
      | true => exact Tells.step (fun k => by simp only [spec_l1Is.j0]; rw [if_pos trivial]; rfl) (Tells.pure _)
      | false =>
        rw [Bool.not_false, Bool.true_and]
        unfold txtB
        by_cases h2 : d.f0 = 2
        · rw [if_pos h2]
          refine Tells.step (fun k => by simp only [spec_l1Is.j0]; rw [if_neg (by decide), if_pos h2]) (Tells.bind (spec_text d.f2 (by omega)) ?_)
          cases textOk d.f2 with
          | true => exact Tells.iteT rfl (j1 false)
          | false => exact Tells.iteF (by decide) (j1 true)
        · rw [if_neg h2]
          have := j1 (d.f2.toList != ([] : List UInt8))
          rw [ne_nil, Bool.not_not] at this
          exact Tells.step (fun k => by simp only [spec_l1Is.j0]; rw [if_neg (by decide), if_neg h2, ne_nil]) this
    unfold isB
    have := j0 ((d.f3.length : Int) != kidsN d.f0)
    have e : (!((d.f3.length : Int) != kidsN d.f0)) = decide ((d.f3.length : Int) = kidsN d.f0) := by
      by_cases h0 : (d.f3.length : Int) = kidsN d.f0
      · rw [decide_eq_true h0, h0]; simp
      · rw [decide_eq_false h0, bne_iff_ne.2 h0]; rfl
    rw [e] at this
    exact Tells.step (fun k => by simp only [spec_l1Is.f]; rw [if_neg (by omega)]) (Tells.bind (kids_tells d.f0) this)

theorem valid_tells {d : Doc} (h : Tx d) : ∃ b, Tells (fun k => spec_DocValid.f k d.f0 d.f1 d.f2 d.f3) b ∧ (b = true → isB 40 d = true) := by
  obtain ⟨r, hr⟩ := count_some h
  have hi := is_tells 40 d (by omega) h
  by_cases hb : isB 40 d = true
  · rw [hb] at hi
    refine ⟨decide (r ≤ 80), ?_, fun _ => hb⟩
    unfold spec_DocValid.f
    exact Tells.bind hi (Tells.iteT rfl (Tells.bind hr (Tells.of fun k => rfl)))
  · rw [Bool.not_eq_true] at hb
    rw [hb] at hi
    refine ⟨false, ?_, fun q => by cases q⟩
    unfold spec_DocValid.f
    exact Tells.bind hi (Tells.iteF (show ¬ (false = true) by decide) (Tells.of fun k => rfl))

end DocPure
