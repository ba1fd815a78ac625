/- The open layout of a well-formed document: the reference's tells some rows, not too many and not too long. -/
import Derived.Test.YtkcpimhohadjkaaPPbx0
import Derived.Test.YtkcpimhohadjkaaPPbx7
import Derived.Test.YtkcpimhohadjkaaPPbx8
import Derived.Test.YtkcpimhohadjkaaPbDocs
namespace DocPure
open Go.RowKit Go.Proofs.Ytkcpimhohadjkaa.PPb Go.Proofs.YtkcpimhohadjkaaW.PrintWords

structure Opened (n : Nat) (rows : List Row) : Prop where
  pos : 1 ≤ rows.length
  len : rows.length ≤ 2 ^ n
  sz : ∀ r ∈ rows, r.f1.size ≤ 12 * 2 ^ n

theorem pow_40 {n : Nat} (h : n ≤ 40) : 2 ^ n ≤ 1099511627776 := Nat.pow_le_pow_right (by omega) h

theorem nest_l0 (n : Int) : ∀ (d i : Nat) (rows : List Row), i + d = rows.length → rows.length ≤ 2199023255552 →
    ∃ rows', Tells (fun k => spec_l2Nest.l0 k n rows (i : Int)) rows' ∧ rows'.length = rows.length ∧ ∀ r ∈ rows', ∃ q ∈ rows, r.f1 = q.f1
  | 0, i, rows, hd, hl => by
    refine ⟨rows, Tells.step (fun k => ?_) (Tells.pure _), rfl, fun r hr => ⟨r, hr, rfl⟩⟩
    simp only [spec_l2Nest.l0]
    rw [if_neg (by omega)]
  | d + 1, i, rows, hd, hl => by
    obtain ⟨rows', h, h1, h2⟩ := nest_l0 n d (i + 1) (rows.set i ⟨wrap64 ((rd_T59 rows (i : Int)).f0 + n), (rd_T59 rows (i : Int)).f1⟩) (by rw [List.length_set]; omega) (by rw [List.length_set]; exact hl)
    refine ⟨rows', Tells.step (fun k => ?_) h, by rw [h1, List.length_set], fun r hr => ?_⟩
    · simp only [spec_l2Nest.l0]
      rw [if_pos (by omega), if_pos (by omega), wr64 (n := (i : Int) + 1) (by omega) (by omega), Int.toNat_natCast]; rfl
    · obtain ⟨q, hq, e⟩ := h2 r hr
      rcases List.mem_or_eq_of_mem_set hq with hq | rfl
      · exact ⟨q, hq, e⟩
      · refine ⟨rows[i]'(by omega), List.getElem_mem _, ?_⟩
        rw [e]
        show (rd_T59 rows (i : Int)).f1 = _
        rw [rd_rows (by omega)]

theorem nest_tells (n : Int) (m : Nat) (hm : m ≤ 40) (rows : List Row) (h : Opened m rows) : ∃ rows', Tells (fun k => spec_l2Nest.f k n rows) rows' ∧ Opened m rows' := by
  have hp := pow_40 hm
  have hl := h.len
  have h1 := h.pos
  obtain ⟨rows', ht, h2, h3⟩ := nest_l0 n (rows.length - 1) 1 rows (by omega) (by omega)
  refine ⟨rows', Tells.congr (fun k => ?_) ht, by omega, by omega, fun r hr => ?_⟩
  · unfold spec_l2Nest.f
    rw [Option.bind_some, if_pos (by simp; omega), List.nil_append]; rfl
  · obtain ⟨q, hq, e⟩ := h3 r hr
    rw [e]
    exact h.sz q hq

theorem cat_tells (m : Nat) (hm : m + 1 ≤ 40) (a b : List Row) (ha : Opened m a) (hb : Opened m b) : ∃ rows, spec_l2Cat.f a b = some rows ∧ Opened (m + 1) rows := by
  have hp := pow_40 hm
  rw [Nat.pow_succ] at hp
  have la := ha.len
  have lb := hb.len
  have pa := ha.pos
  have pb := hb.pos
  have e0 : wrap64 (((([] : List Row) ++ a).length : Int) - 1) = ((a.length - 1 : Nat) : Int) := by rw [List.nil_append, wr64 (by omega) (by omega)]; omega
  have ea : rd_T59 (([] : List Row) ++ a) ((a.length - 1 : Nat) : Int) = a[a.length - 1]'(by omega) := by rw [List.nil_append, rd_rows (by omega)]
  have eb : rd_T59 b 0 = b[0]'(by omega) := rd_rows (i := 0) (by omega)
  have sa := ha.sz (a[a.length - 1]'(by omega)) (List.getElem_mem _)
  have sb := hb.sz (b[0]'(by omega)) (List.getElem_mem _)
  refine ⟨a.set (a.length - 1) ⟨(a[a.length - 1]'(by omega)).f0, (a[a.length - 1]'(by omega)).f1 ++ (b[0]'(by omega)).f1⟩ ++ b.drop 1, ?_, ?_, ?_, ?_⟩
  · unfold spec_l2Cat.f
    simp only [Option.bind_some, e0, ea, eb]
    rw [if_pos (by simp; omega), if_pos (by omega), if_pos (by rw [List.nil_append]; omega), if_pos (by omega), if_pos (by omega), if_pos (by omega), Int.toNat_natCast, List.nil_append, if_pos (by rw [List.length_set, List.length_drop]; omega)]
  · rw [List.length_append, List.length_set, List.length_drop]; omega
  · rw [List.length_append, List.length_set, List.length_drop, Nat.pow_succ]; omega
  · intro r hr
    rw [Nat.pow_succ]
    rcases List.mem_append.1 hr with hr | hr
    · rcases List.mem_or_eq_of_mem_set hr with hr | rfl
      · have := ha.sz r hr; omega
      · show ((a[a.length - 1]'(by omega)).f1 ++ (b[0]'(by omega)).f1).size ≤ _
        rw [ByteArray.size_append]; omega
    · have := hb.sz r (List.mem_of_mem_drop hr); omega

theorem open_tells : ∀ (n : Nat) (d : Doc), n ≤ 40 → isB n d = true → ∃ rows, Tells (fun k => spec_l2Open.f k d.f0 d.f1 d.f2 d.f3) rows ∧ Opened n rows
  | 0, d, hn, h => by cases h
  | n + 1, d, hn, h => by
    obtain ⟨h1, h2, h3, h4⟩ := is_parts h
    have hp1 : 1 ≤ 2 ^ n := Nat.one_le_two_pow
    have ht := txt_small h2
    have hz : (ByteArray.empty).size = 0 := rfl
    by_cases e2 : d.f0 = 2
    · refine ⟨[⟨0, d.f2⟩], Tells.step (fun k => by simp only [spec_l2Open.f]; rw [if_pos e2]) (Tells.pure _), by simp, by rw [Nat.pow_succ, List.length_singleton]; omega, fun r hr => ?_⟩
      rw [List.mem_singleton.1 hr, Nat.pow_succ]
      show d.f2.size ≤ _
      omega
    have hf : ∀ b : Bool, b = decide (3 ≤ d.f0 ∧ d.f0 ≤ 5) → ∀ r, Tells (fun k => spec_l2Open.j0 k d.f0 b d.f0 d.f1 d.f2 d.f3) r → Tells (fun k => spec_l2Open.f k d.f0 d.f1 d.f2 d.f3) r := fun b hb r hr => by
      refine Tells.step (fun k => ?_) hr
      simp only [spec_l2Open.f]
      rw [if_neg e2, hb]
      by_cases e3 : d.f0 = 3
      · rw [if_pos e3, show (d.f0 == 3) = true from beq_iff_eq.2 e3, decide_eq_true (by omega)]
      · by_cases e4 : d.f0 = 4
        · rw [if_neg e3, if_pos e4, show (d.f0 == 4) = true from beq_iff_eq.2 e4, decide_eq_true (by omega)]
        · rw [if_neg e3, if_neg e4]
          by_cases e5 : d.f0 = 5
          · rw [show (d.f0 == 5) = true from beq_iff_eq.2 e5, decide_eq_true (by omega)]
          · rw [show (d.f0 == 5) = false from beq_eq_false_iff_ne.2 e5, decide_eq_false (by omega)]
    by_cases h35 : 3 ≤ d.f0 ∧ d.f0 ≤ 5
    · refine ⟨[⟨0, ⟨#[]⟩⟩, ⟨0, ⟨#[]⟩⟩], hf true (decide_eq_true h35).symm _ (Tells.step (fun k => by simp only [spec_l2Open.j0]; rw [if_pos trivial]) (Tells.pure _)), by simp, by rw [Nat.pow_succ]; simp; omega, fun r hr => ?_⟩
      have : r.f1.size = 0 := by
        simp only [List.mem_cons, List.not_mem_nil, or_false] at hr
        rcases hr with rfl | rfl <;> rfl
      omega
    have hff := hf false (decide_eq_false h35).symm
    by_cases e6 : d.f0 = 6
    · have hk : d.f3.length = 1 := by rw [e6] at h1; have : kidsN 6 = 1 := rfl; omega
      obtain ⟨rows, hr, ho⟩ := open_tells n (d.f3[0]'(by omega)) (by omega) (h4 _ (List.getElem_mem _))
      obtain ⟨rows', hr', ho'⟩ := nest_tells d.f1 n (by omega) rows ho
      refine ⟨rows', hff _ (Tells.step (fun k => by simp only [spec_l2Open.j0]; rw [if_neg (by decide), if_pos e6, if_pos (by omega), show rd_T91 d.f3 0 = d.f3[0]'(by omega) from rd_docs (i := 0) (by omega)]) ?_), ho'.pos, ?_, fun r hm => ?_⟩
      · exact Tells.bind hr (Tells.bind hr' (Tells.pure _))
      · rw [Nat.pow_succ]; have := ho'.len; omega
      · rw [Nat.pow_succ]; have := ho'.sz r hm; omega
    by_cases e7 : d.f0 = 7
    · have hk : d.f3.length = 2 := by rw [e7] at h1; have : kidsN 7 = 2 := rfl; omega
      obtain ⟨rows, hr, ho⟩ := open_tells n (d.f3[0]'(by omega)) (by omega) (h4 _ (List.getElem_mem _))
      obtain ⟨rows1, hr1, ho1⟩ := open_tells n (d.f3[1]'(by omega)) (by omega) (h4 _ (List.getElem_mem _))
      obtain ⟨rows', hr', ho'⟩ := cat_tells n hn rows rows1 ho ho1
      refine ⟨rows', hff _ (Tells.step (fun k => by simp only [spec_l2Open.j0]; rw [if_neg (by decide), if_neg e6, if_pos e7, if_pos (by omega), show rd_T91 d.f3 0 = d.f3[0]'(by omega) from rd_docs (i := 0) (by omega)]) ?_), ho'⟩
      · refine Tells.bind hr (Tells.iteT (by omega) ?_)
        have r1 : rd_T91 d.f3 1 = d.f3[1]'(by omega) := rd_docs (i := 1) (by omega)
        rw [r1]
        exact Tells.bind hr1 (Tells.bind (Tells.of fun k => hr') (Tells.of fun k => rfl))
    by_cases e8 : d.f0 = 8
    · have hk : d.f3.length = 1 := by rw [e8] at h1; have : kidsN 8 = 1 := rfl; omega
      obtain ⟨rows, hr, ho⟩ := open_tells n (d.f3[0]'(by omega)) (by omega) (h4 _ (List.getElem_mem _))
      refine ⟨rows, hff _ (Tells.step (fun k => by simp only [spec_l2Open.j0]; rw [if_neg (by decide), if_neg e6, if_neg e7, if_pos e8, if_pos (by omega), show rd_T91 d.f3 0 = d.f3[0]'(by omega) from rd_docs (i := 0) (by omega)]) ?_), ho.pos, ?_, fun r hm => ?_⟩
      · exact Tells.bind hr (Tells.pure _)
      · rw [Nat.pow_succ]; have := ho.len; omega
      · rw [Nat.pow_succ]; have := ho.sz r hm; omega
    refine ⟨[⟨0, ⟨#[]⟩⟩], hff _ (Tells.step (fun k => by simp only [spec_l2Open.j0]; rw [if_neg (by decide), if_neg e6, if_neg e7, if_neg e8]) (Tells.pure _)), by simp, by rw [Nat.pow_succ]; simp; omega, fun r hr => ?_⟩
    rw [List.mem_singleton.1 hr]
    exact Nat.zero_le _

end DocPure
