/- The plain facts on dividing a width among columns: one byte after the other goes to the column that has the fewest of those that need more. Plain lists of numbers, no program. -/
namespace DocPure

def rdi (l : List Int) (i : Int) : Int := l.getD i.toNat 0

/-- The column that is next, from column i on, with d columns left, b being the best one so far (negative: none). -/
def spScan (need out : List Int) : Nat → Int → Int → Int
  | 0, _, b => b
  | d + 1, i, b => spScan need out d (i + 1) (if rdi out i < rdi need i ∧ (b < 0 ∨ rdi out i < rdi out b) then i else b)

def Best (need out : List Int) (i b : Int) : Prop :=
  (b < 0 → ∀ j, 0 ≤ j → j < i → ¬ rdi out j < rdi need j) ∧
  (0 ≤ b → b < i ∧ rdi out b < rdi need b ∧ ∀ j, 0 ≤ j → j < i → rdi out j < rdi need j → rdi out b ≤ rdi out j)

theorem scan_best (need out : List Int) : ∀ (d : Nat) (i b : Int), 0 ≤ i → Best need out i b → Best need out (i + d) (spScan need out d i b)
  | 0, i, b, _, h => by simpa [spScan] using h
  | d + 1, i, b, hi, h => by
    have e : i + ((d + 1 : Nat) : Int) = (i + 1) + (d : Int) := by omega
    rw [e]
    unfold spScan
    refine scan_best need out d (i + 1) _ (by omega) ?_
    obtain ⟨h1, h2⟩ := h
    split
    · rename_i hc
      refine ⟨fun hb => by omega, fun _ => ⟨by omega, hc.1, fun j hj0 hj hlt => ?_⟩⟩
      by_cases hji : j = i
      · subst hji; exact Int.le_refl _
      · rcases hc.2 with hb | hb
        · exact absurd hlt (h1 hb j hj0 (by omega))
        · by_cases hb0 : b < 0
          · exact absurd hlt (h1 hb0 j hj0 (by omega))
          · have := (h2 (by omega)).2.2 j hj0 (by omega) hlt
            omega
    · rename_i hc
      refine ⟨fun hb j hj0 hj hlt => ?_, fun hb => ?_⟩
      · by_cases hji : j = i
        · subst hji; exact hc ⟨hlt, .inl hb⟩
        · exact h1 hb j hj0 (by omega) hlt
      · obtain ⟨g1, g2, g3⟩ := h2 hb
        refine ⟨by omega, g2, fun j hj0 hj hlt => ?_⟩
        by_cases hji : j = i
        · subst hji
          by_cases hle : rdi out b ≤ rdi out j
          · exact hle
          · exact absurd ⟨hlt, .inr (by omega)⟩ hc
        · exact g3 j hj0 (by omega) hlt

theorem scan_ge (need out : List Int) : ∀ (d : Nat) (i b : Int), 0 ≤ i → -1 ≤ b → -1 ≤ spScan need out d i b
  | 0, _, _, _, h => by simpa [spScan] using h
  | d + 1, i, b, hi, h => by
    unfold spScan
    refine scan_ge need out d (i + 1) _ (by omega) ?_
    split <;> omega

def pickCol (need out : List Int) : Int := spScan need out need.length 0 (-1)

theorem pickCol_best (need out : List Int) : Best need out need.length (pickCol need out) := by
  have h := scan_best need out need.length 0 (-1) (by omega) ⟨fun _ j h0 h1 => by omega, fun h => by omega⟩
  rw [show (0 : Int) + (need.length : Int) = need.length from by omega] at h
  exact h

/-- One round: nothing where no column needs more. -/
def spStep (need out : List Int) : Option (List Int) :=
  if pickCol need out < 0 then none else some (out.set (pickCol need out).toNat (rdi out (pickCol need out) + 1))

def spRun (need : List Int) : Nat → List Int → List Int
  | 0, out => out
  | m + 1, out => match spStep need out with
    | none => out
    | some o => spRun need m o

def okSplit (need : List Int) (width : Int) : Bool :=
  decide (1 ≤ need.length) && decide (need.length ≤ 20) && decide (0 ≤ width) && decide (width ≤ 200) && need.all fun n => decide (0 ≤ n) && decide (n ≤ 200)

def spSplit (need : List Int) (width : Int) : List Int × Bool :=
  if okSplit need width then (spRun need width.toNat (List.replicate need.length 0), true) else ([], false)

structure Evenly (need out : List Int) : Prop where
  len : out.length = need.length
  lo : ∀ i : Int, 0 ≤ i → i < (need.length : Int) → 0 ≤ rdi out i
  hi : ∀ i : Int, 0 ≤ i → i < (need.length : Int) → rdi out i ≤ rdi need i
  even : ∀ i j : Int, 0 ≤ i → i < (need.length : Int) → 0 ≤ j → j < (need.length : Int) → rdi out i < rdi need i → rdi out j ≤ rdi out i + 1

theorem gi_set (l : List Int) (i j : Int) (v : Int) (hi : 0 ≤ i) (hj : 0 ≤ j) (hl : i < l.length) : rdi (l.set i.toNat v) j = if j = i then v else rdi l j := by
  unfold rdi
  rw [List.getD_eq_getElem?_getD, List.getElem?_set]
  by_cases h : j = i
  · subst h; rw [if_pos rfl, if_pos (by omega)]; simp
  · rw [if_neg (by omega), if_neg h, List.getD_eq_getElem?_getD]

theorem gi_rep (n : Nat) (i : Int) : rdi (List.replicate n 0) i = 0 := by
  unfold rdi
  rw [List.getD_eq_getElem?_getD, List.getElem?_replicate]
  split <;> rfl

theorem fair_zero (need : List Int) (h : ∀ i : Int, 0 ≤ i → i < (need.length : Int) → 0 ≤ rdi need i) : Evenly need (List.replicate need.length 0) where
  len := by simp
  lo i _ _ := by rw [gi_rep]; exact Int.le_refl _
  hi i h0 h1 := by rw [gi_rep]; exact h i h0 h1
  even i j _ _ _ _ _ := by rw [gi_rep, gi_rep]; omega

theorem pickCol_pos {need out : List Int} (h : ¬ pickCol need out < 0) : 0 ≤ pickCol need out ∧ pickCol need out < need.length ∧ rdi out (pickCol need out) < rdi need (pickCol need out) ∧
    ∀ j : Int, 0 ≤ j → j < (need.length : Int) → rdi out j < rdi need j → rdi out (pickCol need out) ≤ rdi out j := by
  have hb := (pickCol_best need out).2 (by omega)
  exact ⟨by omega, hb.1, hb.2.1, hb.2.2⟩

theorem step_fair {need out o : List Int} (h : Evenly need out) (hs : spStep need out = some o) : Evenly need o := by
  unfold spStep at hs
  split at hs
  · cases hs
  · rename_i hn
    obtain ⟨b0, b1, b2, b3⟩ := pickCol_pos hn
    obtain rfl := Option.some.inj hs
    have hl := h.len
    have G : ∀ j, 0 ≤ j → rdi (out.set (pickCol need out).toNat (rdi out (pickCol need out) + 1)) j = if j = pickCol need out then rdi out (pickCol need out) + 1 else rdi out j :=
      fun j hj => gi_set out _ j _ b0 hj (by omega)
    refine ⟨by simp [hl], fun i h0 h1 => ?_, fun i h0 h1 => ?_, fun i j h0 h1 g0 g1 hlt => ?_⟩
    · rw [G i h0]; have := h.lo i h0 h1; split
      · subst i; omega
      · exact this
    · rw [G i h0]; have := h.hi i h0 h1; split
      · rename_i e; rw [e]; omega
      · exact this
    · rw [G i h0] at hlt ⊢
      rw [G j g0]
      by_cases ei : i = pickCol need out
      · rw [if_pos ei] at hlt ⊢
        by_cases ej : j = pickCol need out
        · rw [if_pos ej]; omega
        · rw [if_neg ej]
          have := h.even (pickCol need out) j b0 b1 g0 g1 b2
          omega
      · rw [if_neg ei] at hlt ⊢
        by_cases ej : j = pickCol need out
        · rw [if_pos ej]
          have := b3 i h0 h1 hlt
          omega
        · rw [if_neg ej]
          exact h.even i j h0 h1 g0 g1 hlt

theorem run_fair {need : List Int} : ∀ (m : Nat) {out : List Int}, Evenly need out → Evenly need (spRun need m out)
  | 0, _, h => h
  | m + 1, out, h => by
    unfold spRun
    cases hs : spStep need out with
    | none => exact h
    | some o => exact run_fair m (step_fair h hs)

def spSum (l : List Int) : Int := l.foldr (· + ·) 0

theorem sum_set : ∀ (l : List Int) (i : Nat) (v : Int), i < l.length → spSum (l.set i v) = spSum l - l.getD i 0 + v
  | [], i, v, h => by simp at h
  | a :: l, 0, v, _ => by simp [spSum]; omega
  | a :: l, i + 1, v, h => by
    have := sum_set l i v (by simpa using h)
    simp only [List.set_cons_succ, spSum, List.foldr_cons, List.getD_cons_succ] at this ⊢
    omega

theorem step_sum {need out o : List Int} (h : Evenly need out) (hs : spStep need out = some o) : spSum o = spSum out + 1 := by
  unfold spStep at hs
  split at hs
  · cases hs
  · rename_i hn
    obtain ⟨b0, b1, b2, b3⟩ := pickCol_pos hn
    obtain rfl := Option.some.inj hs
    have hl := h.len
    rw [sum_set _ _ _ (by omega)]
    unfold rdi
    omega

theorem ext_gi {a b : List Int} (hl : a.length = b.length) (h : ∀ i, 0 ≤ i → i < (a.length : Int) → rdi a i = rdi b i) : a = b := by
  refine List.ext_getElem hl fun i h1 h2 => ?_
  have := h i (by omega) (by omega)
  unfold rdi at this
  rw [Int.toNat_natCast, List.getD_eq_getElem?_getD, List.getD_eq_getElem?_getD, List.getElem?_eq_getElem h1, List.getElem?_eq_getElem h2] at this
  exact this

theorem step_none {need out : List Int} (h : Evenly need out) (hs : spStep need out = none) : out = need := by
  unfold spStep at hs
  split at hs
  · rename_i hn
    have hb := (pickCol_best need out).1 hn
    refine ext_gi h.len fun i h0 h1 => ?_
    have h1' : i < (need.length : Int) := by have := h.len; omega
    have := hb i h0 h1'
    have := h.hi i h0 h1'
    omega
  · cases hs

theorem step_of_need {need out : List Int} (h : out = need) : spStep need out = none := by
  subst h
  unfold spStep
  rw [if_pos]
  by_cases hn : pickCol out out < 0
  · exact hn
  · have := (pickCol_pos hn).2.2.1; omega

theorem run_sum {need : List Int} : ∀ (m : Nat) {out : List Int}, Evenly need out → spSum (spRun need m out) = spSum out + m ∨ (spRun need m out = need ∧ spSum need ≤ spSum out + m)
  | 0, _, h => .inl (by simp [spRun])
  | m + 1, out, h => by
    unfold spRun
    cases hs : spStep need out with
    | none => have := step_none h hs; subst this; exact .inr ⟨rfl, by omega⟩
    | some o =>
      have e := step_sum h hs
      rcases run_sum m (step_fair h hs) with g | ⟨g1, g2⟩
      · exact .inl (by simp only []; rw [g, e]; omega)
      · exact .inr ⟨g1, by omega⟩

/-- One more byte of width: one more round. -/
theorem run_succ {need : List Int} : ∀ (m : Nat) {out : List Int}, Evenly need out → spRun need (m + 1) out = (spStep need (spRun need m out)).getD (spRun need m out)
  | 0, out, h => by
    show (match spStep need out with | none => out | some o => spRun need 0 o) = (spStep need out).getD out
    cases spStep need out <;> rfl
  | m + 1, out, h => by
    have e1 : ∀ q, spRun need (q + 1) out = (match spStep need out with | none => out | some o => spRun need q o) := fun _ => rfl
    rw [e1 (m + 1), e1 m]
    cases hs : spStep need out with
    | none => simp [hs]
    | some o => exact run_succ m (step_fair h hs)

theorem gi_mem {l : List Int} {i : Int} (h0 : 0 ≤ i) (h1 : i < (l.length : Int)) : rdi l i ∈ l := by
  unfold rdi
  rw [List.getD_eq_getElem?_getD, List.getElem?_eq_getElem (by omega)]
  exact List.getElem_mem _

theorem okSplit_iff {need : List Int} {width : Int} : okSplit need width = true ↔ 1 ≤ need.length ∧ need.length ≤ 20 ∧ 0 ≤ width ∧ width ≤ 200 ∧ ∀ n ∈ need, 0 ≤ n ∧ n ≤ 200 := by
  unfold okSplit
  simp only [Bool.and_eq_true, decide_eq_true_eq, List.all_eq_true]
  constructor
  · rintro ⟨⟨⟨⟨a, b⟩, c⟩, d⟩, e⟩; exact ⟨a, b, c, d, e⟩
  · rintro ⟨a, b, c, d, e⟩; exact ⟨⟨⟨⟨a, b⟩, c⟩, d⟩, e⟩

theorem split_fair {need : List Int} {width : Int} (h : okSplit need width = true) : Evenly need (spSplit need width).1 := by
  unfold spSplit
  rw [if_pos h]
  refine run_fair _ (fair_zero need fun i h0 h1 => ?_)
  exact ((okSplit_iff.1 h).2.2.2.2 _ (gi_mem h0 h1)).1

theorem sum_rep (n : Nat) : spSum (List.replicate n 0) = 0 := by
  induction n with
  | zero => rfl
  | succ n ih => rw [List.replicate_succ]; simp only [spSum, List.foldr_cons] at ih ⊢; omega

theorem split_sum {need : List Int} {width : Int} (h : okSplit need width = true) :
    spSum (spSplit need width).1 = width ∨ ((spSplit need width).1 = need ∧ spSum need ≤ width) := by
  have hz := fair_zero need fun i h0 h1 => ((okSplit_iff.1 h).2.2.2.2 _ (gi_mem h0 h1)).1
  have hw := (okSplit_iff.1 h).2.2.1
  unfold spSplit
  rw [if_pos h]
  rcases run_sum width.toNat hz with g | ⟨g1, g2⟩
  · left; rw [sum_rep] at g; simp only []; omega
  · right; rw [sum_rep] at g2; exact ⟨g1, by omega⟩

/-- One byte more: all is as it was (and nobody needs more), or one column has one byte more. -/
theorem split_more {need : List Int} {width : Int} (h : okSplit need width = true) (h' : okSplit need (width + 1) = true) :
    ((spSplit need (width + 1)).1 = (spSplit need width).1 ∧ (spSplit need width).1 = need) ∨
    ∃ b : Int, 0 ≤ b ∧ b < need.length ∧ (spSplit need (width + 1)).1 = (spSplit need width).1.set b.toNat (rdi (spSplit need width).1 b + 1) := by
  have hz := fair_zero need fun i h0 h1 => ((okSplit_iff.1 h).2.2.2.2 _ (gi_mem h0 h1)).1
  have hw := (okSplit_iff.1 h).2.2.1
  have e : (width + 1).toNat = width.toNat + 1 := by omega
  unfold spSplit
  rw [if_pos h, if_pos h', e]
  simp only []
  rw [run_succ _ hz]
  have hf := run_fair width.toNat hz
  cases hs : spStep need (spRun need width.toNat (List.replicate need.length 0)) with
  | none => left; exact ⟨rfl, step_none hf hs⟩
  | some o =>
    right
    unfold spStep at hs
    split at hs
    · cases hs
    · rename_i hn
      obtain ⟨b0, b1, -, -⟩ := pickCol_pos hn
      exact ⟨_, b0, b1, (Option.some.inj hs).symm⟩

end DocPure
