/- What the reference draws: well-formed documents, and pages of a few rows. -/
import Derived.Test.YtkcpimhohadjkaaPPbx0
import Derived.Test.YtkcpimhohadjkaaPPbx11
import Derived.Test.YtkcpimhohadjkaaPPbx12
import Derived.Test.YtkcpimhohadjkaaPPbx7
import Derived.Test.YtkcpimhohadjkaaPPbx8
import Derived.Test.YtkcpimhohadjkaaPPbx9
import Derived.Test.YtkcpimhohadjkaaPbDocRead
import Derived.Test.YtkcpimhohadjkaaPbDocOpen
import Derived.Test.YtkcpimhohadjkaaPbPickOf
namespace DocPure
open Go.RowKit Go.Proofs.Ytkcpimhohadjkaa.PPb Go.Proofs.YtkcpimhohadjkaaW.PrintWords

theorem is_leaf {op : Int} (h : op = 1 ∨ op = 3 ∨ op = 4) (n : Nat) : isB (n + 1) (⟨op, 0, ⟨#[]⟩, []⟩ : Doc) = true := by
  refine is_mk ?_ ?_ ?_ (fun x hx => by cases hx)
  · rcases h with rfl | rfl | rfl <;> rfl
  · rcases h with rfl | rfl | rfl <;> rfl
  · rcases h with rfl | rfl | rfl <;> rfl

theorem is_word {t : ByteArray} (h : textOk t = true) (n : Nat) : isB (n + 1) (⟨2, 0, t, []⟩ : Doc) = true :=
  is_mk rfl (by show (if (2 : Int) = 2 then textOk t else _) = true; rw [if_pos rfl]; exact h) rfl (fun x hx => by cases hx)

theorem is_hard (n : Nat) : isB (n + 1) (⟨5, 0, ⟨#[]⟩, []⟩ : Doc) = true := is_mk rfl rfl rfl (fun x hx => by cases hx)

theorem is_cat {a b : Doc} {n : Nat} (ha : isB n a = true) (hb : isB n b = true) : isB (n + 1) (⟨7, 0, ⟨#[]⟩, [a, b]⟩ : Doc) = true :=
  is_mk rfl rfl rfl (fun x hx => by
    simp only [List.mem_cons, List.not_mem_nil, or_false] at hx
    rcases hx with rfl | rfl
    · exact ha
    · exact hb)

theorem is_group {a : Doc} {n : Nat} (ha : isB n a = true) : isB (n + 1) (⟨8, 0, ⟨#[]⟩, [a]⟩ : Doc) = true :=
  is_mk rfl rfl rfl (fun x hx => by rw [List.mem_singleton.1 hx]; exact ha)

theorem is_nest {a : Doc} {n : Nat} {m : Int} (hm : 0 ≤ m ∧ m ≤ 9) (ha : isB n a = true) : isB (n + 1) (⟨6, m, ⟨#[]⟩, [a]⟩ : Doc) = true :=
  is_mk rfl rfl (by show (if (6 : Int) = 6 then decide (0 ≤ m ∧ m ≤ 9) else _) = true; rw [if_pos rfl, decide_eq_true hm]) (fun x hx => by rw [List.mem_singleton.1 hx]; exact ha)

theorem word2_tells {b : List Int} (hb : Code b) {p : Int} (h0 : 0 ≤ p) (hp : p < 1000000000000) : ∃ t, Tells (fun k => spec_l1Word2.f k b p) (t, p + 1) ∧ textOk t = true := by
  obtain ⟨x, hx, ht⟩ := of_tells hb h0 hp [(⟨#[97]⟩ : ByteArray), (⟨#[98, 98]⟩ : ByteArray), (⟨#[99, 99, 99]⟩ : ByteArray), (⟨#[100, 100, 100, 100]⟩ : ByteArray), (⟨#[102, 40]⟩ : ByteArray), (⟨#[41]⟩ : ByteArray), (⟨#[44]⟩ : ByteArray), (⟨#[120, 61, 49]⟩ : ByteArray), (⟨#[97, 98, 99, 100, 101, 102, 103, 104]⟩ : ByteArray), (⟨#[101]⟩ : ByteArray)] (by decide)
  refine ⟨x, ?_, ?_⟩
  · unfold spec_l1Word2.f
    exact Tells.bind ht (Tells.of fun k => rfl)
  simp only [List.mem_cons, List.not_mem_nil, or_false] at hx
  rcases hx with rfl | rfl | rfl | rfl | rfl | rfl | rfl | rfl | rfl | rfl <;> decide +kernel

/-- A draw of a document: it is well-formed to depth m, and the counter grows by no more than c. -/
def DrawsDoc (g : Nat → Option (Int × Int × ByteArray × List Doc × Int)) (m : Nat) (p c : Int) : Prop :=
  ∃ (x : Doc) (q : Int), Tells g (x.f0, x.f1, x.f2, x.f3, q) ∧ isB m x = true ∧ p ≤ q ∧ q ≤ p + c

theorem some_0 {b : List Int} (hb : Code b) (p : Int) (h0 : 0 ≤ p) (hp : p < 100000000) : DrawsDoc (fun k => spec_l1Some.f k b p 0) 1 p 2 := by
  obtain ⟨r, hr, r0, r8⟩ := pick_tells hb h0 (by omega) (n := 8) (by omega)
  obtain ⟨t, ht, hok⟩ := word2_tells hb (p := p + 1) (by omega) (by omega)
  have e : ∀ q, Tells (fun k => (spec_l15Rd_pick.f k b p 8).bind fun bt => if bt.1 = 0 then some (1, 0, (⟨#[]⟩ : ByteArray), ([] : List Doc), bt.2) else if bt.1 = 1 then spec_l1Some.j0 k bt.1 (bt.1 == 1) b bt.2 else spec_l1Some.j0 k bt.1 (bt.1 == 2) b bt.2) q → Tells (fun k => spec_l1Some.f k b p 0) q := fun q h =>
    Tells.step (fun k => by simp only [spec_l1Some.f]; rw [if_pos trivial]) h
  have hj : ∀ f : Bool, f = decide (r = 1 ∨ r = 2) → r ≠ 0 → DrawsDoc (fun k => spec_l1Some.j0 k r f b (p + 1)) 1 p 2 := fun f hf hne => by
    by_cases h12 : r = 1 ∨ r = 2
    · rw [decide_eq_true h12] at hf
      exact ⟨⟨3, 0, ⟨#[]⟩, []⟩, p + 1, Tells.step (fun k => by simp only [spec_l1Some.j0]; rw [if_pos hf]) (Tells.pure _), is_leaf (.inr (.inl rfl)) 0, by omega, by omega⟩
    · rw [decide_eq_false h12] at hf
      by_cases h3 : r = 3
      · exact ⟨⟨4, 0, ⟨#[]⟩, []⟩, p + 1, Tells.step (fun k => by simp only [spec_l1Some.j0]; rw [hf, if_neg (by decide), if_pos h3]) (Tells.pure _), is_leaf (.inr (.inr rfl)) 0, by omega, by omega⟩
      · refine ⟨⟨2, 0, t, []⟩, p + 1 + 1, Tells.step (fun k => by simp only [spec_l1Some.j0]; rw [hf, if_neg (by decide), if_neg h3]) ?_, is_word hok 0, by omega, by omega⟩
        exact Tells.bind ht (Tells.pure _)
  by_cases c0 : r = 0
  · exact ⟨⟨1, 0, ⟨#[]⟩, []⟩, p + 1, e _ (Tells.bind hr (Tells.iteT c0 (Tells.pure _))), is_leaf (.inl rfl) 0, by omega, by omega⟩
  · by_cases c1 : r = 1
    · obtain ⟨x, q, hx, h⟩ := hj (r == 1) (by rw [decide_eq_true (.inl c1)]; exact beq_iff_eq.2 c1) c0
      exact ⟨x, q, e _ (Tells.bind hr (Tells.iteF c0 (Tells.iteT c1 hx))), h⟩
    · obtain ⟨x, q, hx, h⟩ := hj (r == 2) (by
        by_cases c2 : r = 2
        · rw [decide_eq_true (.inr c2)]; exact beq_iff_eq.2 c2
        · rw [decide_eq_false (by omega)]; exact beq_eq_false_iff_ne.2 c2) c0
      exact ⟨x, q, e _ (Tells.bind hr (Tells.iteF c0 (Tells.iteF c1 hx))), h⟩

theorem is_le {m m' : Nat} {d : Doc} (h : isB m d = true) (hm : m ≤ m') : isB m' d = true := by
  obtain ⟨j, rfl⟩ : ∃ j, m' = m + j := ⟨m' - m, by omega⟩
  exact is_add m d h j

/-- One step of a draw, over draws of smaller documents. -/
theorem some_step {b : List Int} (hb : Code b) (n : Nat) (hn : n ≤ 6) (M : Int) (hM : 4 ≤ M) (p : Int) (h0 : 0 ≤ p) (hp : p + 4 * M ≤ 100000000)
    (ih : ∀ p' : Int, 0 ≤ p' → p' + M ≤ 100000000 → DrawsDoc (fun k => spec_l1Some.f k b p' (n : Int)) (n + 2) p' M) : DrawsDoc (fun k => spec_l1Some.f k b p ((n + 1 : Nat) : Int)) (n + 3) p (4 * M) := by
  have ew : ∀ _ : Unit, wrap64 (((n + 1 : Nat) : Int) - 1) = (n : Int) := fun _ => by rw [wr64 (by omega) (by omega)]; omega
  obtain ⟨r, hr, r0, r12⟩ := pick_tells hb h0 (by omega) (n := 12) (by omega)
  have e : ∀ q, Tells (fun k => (spec_l15Rd_pick.f k b p 12).bind fun bt => if bt.1 = 0 then ((spec_l1Some.f k b bt.2 0).bind fun bt196 => (some (bt196.1, bt196.2.1, bt196.2.2.1, bt196.2.2.2.1, bt196.2.2.2.2))) else if bt.1 = 1 then spec_l1Some.j1 k ((n + 1 : Nat) : Int) bt.1 (bt.1 == 1) b bt.2 else spec_l1Some.j1 k ((n + 1 : Nat) : Int) bt.1 (bt.1 == 2) b bt.2) q → Tells (fun k => spec_l1Some.f k b p ((n + 1 : Nat) : Int)) q := fun q h =>
    Tells.step (fun k => by simp only [spec_l1Some.f]; rw [if_neg (by omega)]) h
  have j2 : ∀ f : Bool, f = decide (r = 3 ∨ r = 4 ∨ r = 5) → DrawsDoc (fun k => spec_l1Some.j2 k ((n + 1 : Nat) : Int) r f b (p + 1)) (n + 3) p (4 * M) := fun f hf => by
    by_cases h345 : r = 3 ∨ r = 4 ∨ r = 5
    · rw [decide_eq_true h345] at hf
      obtain ⟨⟨x0, x1, x2, x3⟩, q, hx, h1, h2, h3⟩ := ih (p + 1) (by omega) (by omega)
      refine ⟨⟨8, 0, ⟨#[]⟩, [⟨x0, x1, x2, x3⟩]⟩, q, Tells.step (fun k => by simp only [spec_l1Some.j2]; rw [if_pos hf, ew ()]) ?_, is_group h1, by omega, by omega⟩
      exact Tells.bind hx (Tells.pure _)
    · rw [decide_eq_false h345] at hf
      by_cases h6 : r = 6
      · obtain ⟨s, hs, -, -⟩ := pick_tells hb (p := p + 1) (by omega) (by omega) (n := 3) (by omega)
        obtain ⟨⟨x0, x1, x2, x3⟩, q, hx, h1, h2, h3⟩ := ih (p + 1 + 1) (by omega) (by omega)
        obtain ⟨⟨y0, y1, y2, y3⟩, q', hy, g1, g2, g3⟩ := some_0 hb q (by omega) (by omega)
        have hst : ∀ (u : Int × Int × ByteArray × List Doc × Int), Tells (fun k => (spec_l15Rd_pick.f k b (p + 1) 3).bind fun bt228 => (if bt228.1 = 0 then ((spec_l1Some.f k b bt228.2 (n : Int)).bind fun bt230 => ((spec_l1Some.f k b bt230.2.2.2.2 0).bind fun bt237 => ((spec_l1Cat.f 5 0 (⟨#[]⟩ : ByteArray) ([] : List Doc) bt237.1 bt237.2.1 bt237.2.2.1 bt237.2.2.2.1).bind fun bt244 => ((spec_l1Cat.f bt230.1 bt230.2.1 bt230.2.2.1 bt230.2.2.2.1 bt244.1 bt244.2.1 bt244.2.2.1 bt244.2.2.2).bind fun bt250 => (some (bt250.1, bt250.2.1, bt250.2.2.1, bt250.2.2.2, bt237.2.2.2.2)))))) else ((spec_l1Some.f k b bt228.2 (n : Int)).bind fun bt256 => ((spec_l1Some.f k b bt256.2.2.2.2 0).bind fun bt263 => ((spec_l1Cat.f 3 0 (⟨#[]⟩ : ByteArray) ([] : List Doc) bt263.1 bt263.2.1 bt263.2.2.1 bt263.2.2.2.1).bind fun bt270 => ((spec_l1Cat.f bt256.1 bt256.2.1 bt256.2.2.1 bt256.2.2.2.1 bt270.1 bt270.2.1 bt270.2.2.1 bt270.2.2.2).bind fun bt276 => (some (bt276.1, bt276.2.1, bt276.2.2.1, bt276.2.2.2, bt263.2.2.2.2)))))))) u →
            Tells (fun k => spec_l1Some.j2 k ((n + 1 : Nat) : Int) r f b (p + 1)) u := fun u h =>
          Tells.step (fun k => by simp only [spec_l1Some.j2]; rw [hf, if_neg (by decide), if_pos h6, ew ()]) h
        by_cases hs0 : s = 0
        · refine ⟨⟨7, 0, ⟨#[]⟩, [⟨x0, x1, x2, x3⟩, ⟨7, 0, ⟨#[]⟩, [⟨5, 0, ⟨#[]⟩, []⟩, ⟨y0, y1, y2, y3⟩]⟩]⟩, q', hst _ (Tells.bind hs (Tells.iteT hs0 (Tells.bind hx (Tells.bind hy (Tells.of fun k => rfl))))), is_cat h1 ?_, by omega, by omega⟩
          exact is_le (is_cat (is_hard 0) g1) (by omega)
        · refine ⟨⟨7, 0, ⟨#[]⟩, [⟨x0, x1, x2, x3⟩, ⟨7, 0, ⟨#[]⟩, [⟨3, 0, ⟨#[]⟩, []⟩, ⟨y0, y1, y2, y3⟩]⟩]⟩, q', hst _ (Tells.bind hs (Tells.iteF hs0 (Tells.bind hx (Tells.bind hy (Tells.of fun k => rfl))))), is_cat h1 ?_, by omega, by omega⟩
          exact is_le (is_cat (is_leaf (.inr (.inl rfl)) 0) g1) (by omega)
      · obtain ⟨⟨x0, x1, x2, x3⟩, q, hx, h1, h2, h3⟩ := ih (p + 1) (by omega) (by omega)
        obtain ⟨⟨y0, y1, y2, y3⟩, q', hy, g1, g2, g3⟩ := ih q (by omega) (by omega)
        refine ⟨⟨7, 0, ⟨#[]⟩, [⟨x0, x1, x2, x3⟩, ⟨y0, y1, y2, y3⟩]⟩, q', Tells.step (fun k => by simp only [spec_l1Some.j2]; rw [hf, if_neg (by decide), if_neg h6, ew ()]) ?_, is_cat h1 g1, by omega, by omega⟩
        exact Tells.bind hx (Tells.bind hy (Tells.of fun k => rfl))
  have j1 : ∀ f : Bool, f = decide (r = 1 ∨ r = 2) → DrawsDoc (fun k => spec_l1Some.j1 k ((n + 1 : Nat) : Int) r f b (p + 1)) (n + 3) p (4 * M) := fun f hf => by
    by_cases h12 : r = 1 ∨ r = 2
    · rw [decide_eq_true h12] at hf
      obtain ⟨m, hm, hmt⟩ := num_tells hb (p := p + 1) (by omega) (by omega) [2, 1, 4, 0, 9] (by decide)
      have hmr : 0 ≤ m ∧ m ≤ 9 := by simp at hm; omega
      obtain ⟨⟨x0, x1, x2, x3⟩, q, hx, h1, h2, h3⟩ := ih (p + 1 + 1) (by omega) (by omega)
      refine ⟨⟨6, m, ⟨#[]⟩, [⟨x0, x1, x2, x3⟩]⟩, q, Tells.step (fun k => by simp only [spec_l1Some.j1]; rw [if_pos hf, ew ()]) ?_, is_nest hmr h1, by omega, by omega⟩
      exact Tells.bind hmt (Tells.bind hx (Tells.pure _))
    · rw [decide_eq_false h12] at hf
      by_cases h3 : r = 3
      · obtain ⟨x, q, hx, h⟩ := j2 (r == 3) (by rw [decide_eq_true (.inl h3)]; exact beq_iff_eq.2 h3)
        exact ⟨x, q, Tells.step (fun k => by simp only [spec_l1Some.j1]; rw [hf, if_neg (by decide), if_pos h3]) hx, h⟩
      by_cases h4 : r = 4
      · obtain ⟨x, q, hx, h⟩ := j2 (r == 4) (by rw [decide_eq_true (.inr (.inl h4))]; exact beq_iff_eq.2 h4)
        exact ⟨x, q, Tells.step (fun k => by simp only [spec_l1Some.j1]; rw [hf, if_neg (by decide), if_neg h3, if_pos h4]) hx, h⟩
      · obtain ⟨x, q, hx, h⟩ := j2 (r == 5) (by
          by_cases h5 : r = 5
          · rw [decide_eq_true (.inr (.inr h5))]; exact beq_iff_eq.2 h5
          · rw [decide_eq_false (by omega)]; exact beq_eq_false_iff_ne.2 h5)
        exact ⟨x, q, Tells.step (fun k => by simp only [spec_l1Some.j1]; rw [hf, if_neg (by decide), if_neg h3, if_neg h4]) hx, h⟩
  by_cases c0 : r = 0
  · obtain ⟨x, q, hx, h1, h2, h3⟩ := some_0 hb (p + 1) (by omega) (by omega)
    exact ⟨x, q, e _ (Tells.bind hr (Tells.iteT c0 (Tells.bind hx (Tells.pure _)))), is_le h1 (by omega), by omega, by omega⟩
  · by_cases c1 : r = 1
    · obtain ⟨x, q, hx, h⟩ := j1 (r == 1) (by rw [decide_eq_true (.inl c1)]; exact beq_iff_eq.2 c1)
      exact ⟨x, q, e _ (Tells.bind hr (Tells.iteF c0 (Tells.iteT c1 hx))), h⟩
    · obtain ⟨x, q, hx, h⟩ := j1 (r == 2) (by
        by_cases c2 : r = 2
        · rw [decide_eq_true (.inr c2)]; exact beq_iff_eq.2 c2
        · rw [decide_eq_false (by omega)]; exact beq_eq_false_iff_ne.2 c2)
      exact ⟨x, q, e _ (Tells.bind hr (Tells.iteF c0 (Tells.iteF c1 hx))), h⟩

def pow4 : Nat → Int
  | 0 => 4
  | n + 1 => 4 * pow4 n

theorem pow4_ge : ∀ n, 4 ≤ pow4 n
  | 0 => Int.le_refl _
  | n + 1 => by have := pow4_ge n; unfold pow4; omega

theorem some_tells {b : List Int} (hb : Code b) : ∀ (n : Nat) (p : Int), n ≤ 6 → 0 ≤ p → p + pow4 n ≤ 100000000 → DrawsDoc (fun k => spec_l1Some.f k b p (n : Int)) (n + 2) p (pow4 n)
  | 0, p, hn, h0, hp => by
    have : pow4 0 = 4 := rfl
    obtain ⟨x, q, hx, h1, h2, h3⟩ := some_0 hb p h0 (by omega)
    exact ⟨x, q, hx, is_more _ _ h1, h2, by omega⟩
  | n + 1, p, hn, h0, hp =>
    some_step hb n (by omega) (pow4 n) (pow4_ge n) p h0 hp (fun p' h h2 => some_tells hb n p' (by omega) h h2)

/-- A page's texts, for ParseDoc. -/
theorem draw_l0 {b : List Int} (hb : Code b) (ts : List ByteArray) (h1 : 1 ≤ ts.length) (ht : ∀ t ∈ ts, t.size ≤ 1000000) : ∀ (m i : Nat) (p : Int), i + m = 3 → 0 ≤ p → p + 10000 * (m + 1) ≤ 1000000 →
    DrawsDoc (fun k => spec_l1Draw.l0 k ts (i : Int) b p) 40 p (10000 * (m + 1))
  | 0, i, p, hi, h0, hp => by
    obtain ⟨x, q, hx, g1, g2, g3⟩ := some_tells hb 2 p (by omega) h0 (by have : pow4 2 = 64 := rfl; omega)
    have : pow4 2 = 64 := rfl
    refine ⟨x, q, Tells.step (fun k => ?_) (Tells.bind hx (Tells.pure _)), is_le g1 (by omega), g2, by omega⟩
    simp only [spec_l1Draw.l0]
    rw [if_neg (by omega)]; rfl
  | m + 1, i, p, hi, h0, hp => by
    have e2 : ∀ _ : Unit, wrap64 ((i : Int) + 1) = ((i + 1 : Nat) : Int) := fun _ => by rw [wr64 (by omega) (by omega)]; rfl
    obtain ⟨r, hr, -, -⟩ := pick_tells hb h0 (by omega) (n := 3) (by omega)
    -- what follows a text that is not taken
    have j1 : ∀ p' : Int, p ≤ p' → p' ≤ p + 2 → DrawsDoc (fun k => spec_l1Draw.j1 k ts (i : Int) b p') 40 p (10000 * ((m + 1 : Nat) + 1)) := fun p' g0 g1 => by
      obtain ⟨n, hn, hnt⟩ := num_tells hb (p := p') (by omega) (by omega) [4, 3, 5, 2] (by decide)
      obtain ⟨nn, hnn, hn6⟩ : ∃ nn : Nat, n = (nn : Int) ∧ nn ≤ 5 := by
        simp at hn
        exact ⟨n.toNat, by omega, by omega⟩
      subst hnn
      have h5 : pow4 nn ≤ 4096 := by
        rcases (show nn = 0 ∨ nn = 1 ∨ nn = 2 ∨ nn = 3 ∨ nn = 4 ∨ nn = 5 by omega) with rfl | rfl | rfl | rfl | rfl | rfl <;> decide
      obtain ⟨x, q, hx, w1, w2, w3⟩ := some_tells hb nn (p' + 1) (by omega) (by omega) (by omega)
      obtain ⟨v, hv, hvi⟩ := valid_tells (is_tx _ _ w1)
      obtain ⟨c, hc⟩ := count_some (is_tx _ _ w1)
      obtain ⟨y, q', hy, u1, u2, u3⟩ := draw_l0 hb ts h1 ht m (i + 1) q (by omega) (by omega) (by omega)
      cases v with
      | false => refine ⟨y, q', Tells.step (fun k => by simp only [spec_l1Draw.j1]; rfl) ?_, u1, by omega, by omega⟩
                 exact Tells.bind hnt (Tells.bind hx (Tells.bind hv (Tells.iteF (by decide) (Tells.congr (fun k => by rw [e2 ()]) hy))))
      | true =>
        by_cases hc40 : c ≤ 40
        · refine ⟨x, q, Tells.step (fun k => by simp only [spec_l1Draw.j1]; rfl) ?_, hvi rfl, by omega, by omega⟩
          exact Tells.bind hnt (Tells.bind hx (Tells.bind hv (Tells.iteT rfl (Tells.bind hc (Tells.iteT hc40 (Tells.pure _))))))
        · refine ⟨y, q', Tells.step (fun k => by simp only [spec_l1Draw.j1]; rfl) ?_, u1, by omega, by omega⟩
          exact Tells.bind hnt (Tells.bind hx (Tells.bind hv (Tells.iteT rfl (Tells.bind hc (Tells.iteF hc40 (Tells.congr (fun k => by rw [e2 ()]) hy))))))
    by_cases r0 : r = 0
    · obtain ⟨s, hs, s0, s1⟩ := pick_tells hb (p := p + 1) (by omega) (by omega) (n := (ts.length : Int)) (by omega)
      obtain ⟨sn, rfl⟩ := Int.eq_ofNat_of_zero_le s0
      obtain ⟨x, ok, hx, hok⟩ := parse_tells (ts[sn]'(by omega)) (ht _ (List.getElem_mem _))
      have hx' : Tells (fun k => spec_ParseDoc.f k (rdOf ByteArray.empty ts (sn : Int))) (x.f0, x.f1, x.f2, x.f3, ok) := by rw [rdS_get (by omega)]; exact hx
      cases ok with
      | true => refine ⟨x, p + 1 + 1, Tells.step (fun k => by simp only [spec_l1Draw.l0]; rw [if_pos (by omega)]) ?_, hok rfl, by omega, by omega⟩
                exact Tells.bind hr (Tells.iteT r0 (Tells.bind hs (Tells.iteT s0 (Tells.iteT s1 (Tells.bind hx' (Tells.iteT rfl (Tells.pure _)))))))
      | false =>
        obtain ⟨y, q, hy, h⟩ := j1 (p + 1 + 1) (by omega) (by omega)
        refine ⟨y, q, Tells.step (fun k => by simp only [spec_l1Draw.l0]; rw [if_pos (by omega)]) ?_, h⟩
        exact Tells.bind hr (Tells.iteT r0 (Tells.bind hs (Tells.iteT s0 (Tells.iteT s1 (Tells.bind hx' (Tells.iteF (show ¬ (false = true) by decide) hy))))))
    · obtain ⟨y, q, hy, h⟩ := j1 (p + 1) (by omega) (by omega)
      refine ⟨y, q, Tells.step (fun k => by simp only [spec_l1Draw.l0]; rw [if_pos (by omega)]) ?_, h⟩
      exact Tells.bind hr (Tells.iteF r0 hy)

theorem draw1_tells {b : List Int} (hb : Code b) (p : Int) (h0 : 0 ≤ p) (hp : p ≤ 1000) : DrawsDoc (fun k => spec_l1Draw.f k b p) 40 p 40000 := by
  unfold spec_l1Draw.f
  exact draw_l0 hb _ (by decide) (by decide) 3 0 p (by omega) h0 (by omega)

/-- A drawn page. -/
theorem draw2_tells {b : List Int} (hb : Code b) (p : Int) (h0 : 0 ≤ p) (hp : p ≤ 1000) : ∃ (rows : List Row) (q : Int), Tells (fun k => spec_l2Draw.f k b p) (rows, q) ∧ SmallR rows ∧ 0 ≤ q ∧ q ≤ 1000000 := by
  obtain ⟨x, q, hx, h1, h2, h3⟩ := draw1_tells hb p h0 hp
  obtain ⟨rows, hr, ho⟩ := open_tells 40 x (by omega) h1
  have l0 := ho.pos
  have l1 := ho.len
  have h40 : (2 : Nat) ^ 40 = 1099511627776 := by decide
  have hsm : SmallR rows := ⟨by omega, fun r hm => by have := ho.sz r hm; omega⟩
  obtain ⟨s, hs, s0, s1⟩ := pick_tells hb (p := q) (by omega) (by omega) (n := (rows.length : Int)) (by omega)
  obtain ⟨sn, rfl⟩ := Int.eq_ofNat_of_zero_le s0
  obtain ⟨c, hc, -, -⟩ := pick_tells hb (p := q + 1) (by omega) (by omega) (n := 16) (by omega)
  have hset : ∀ y : Row, y.f1.size ≤ 1000 ∨ y.f1 = (rd_T59 rows (sn : Int)).f1 → SmallR (rows.set sn y) := fun y hy => ⟨by rw [List.length_set]; exact hsm.len, fun r hm => by
    rcases List.mem_or_eq_of_mem_set hm with hm | rfl
    · exact hsm.sz r hm
    · rcases hy with hy | hy
      · omega
      · rw [hy, rd_rows (by omega)]
        exact hsm.sz _ (List.getElem_mem _)⟩
  have base : ∀ u, Tells (fun k => if c = 0 then ((spec_l15Rd_num.f k b (q + 1 + 1) (([(-1), 401, 3] : List Int))).bind fun bt414 => (if 0 ≤ (sn : Int) then (if (sn : Int) < (rows.length : Int) then (some ((rows.set ((sn : Int) : Int).toNat (⟨bt414.1, (rd_T59 rows (sn : Int)).f1⟩ : Row)), bt414.2)) else (none)) else (none))) else (if c = 1 then ((spec_l15Rd_of.f k b (q + 1 + 1) (([(⟨#[65]⟩ : ByteArray), (⟨#[97, 32, 98]⟩ : ByteArray), (⟨#[120, 10]⟩ : ByteArray), (⟨#[]⟩ : ByteArray)] : List ByteArray))).bind fun bt420 => (if 0 ≤ (sn : Int) then (if (sn : Int) < (rows.length : Int) then (some ((rows.set ((sn : Int) : Int).toNat (⟨(rd_T59 rows (sn : Int)).f0, bt420.1⟩ : Row)), bt420.2)) else (none)) else (none))) else (if c = 2 then (if 0 ≤ (rows.length : Int) then (some ((rows.take (0 : Int).toNat), q + 1 + 1)) else (none)) else (some (rows, q + 1 + 1))))) u → Tells (fun k => spec_l2Draw.f k b p) u := fun u h => by
    unfold spec_l2Draw.f
    exact Tells.bind hx (Tells.bind hr (Tells.bind hs (Tells.bind hc h)))
  by_cases c0 : c = 0
  · obtain ⟨v, -, hv⟩ := num_tells hb (p := q + 1 + 1) (by omega) (by omega) [(-1), 401, 3] (by decide)
    exact ⟨_, _, base _ (Tells.iteT c0 (Tells.bind hv (Tells.iteT s0 (Tells.iteT s1 (Tells.pure _))))), hset _ (.inr rfl), by omega, by omega⟩
  by_cases c1 : c = 1
  · obtain ⟨v, hm, hv⟩ := of_tells hb (p := q + 1 + 1) (by omega) (by omega) [(⟨#[65]⟩ : ByteArray), (⟨#[97, 32, 98]⟩ : ByteArray), (⟨#[120, 10]⟩ : ByteArray), (⟨#[]⟩ : ByteArray)] (by decide)
    have hv3 : v.size ≤ 1000 := by
      simp only [List.mem_cons, List.not_mem_nil, or_false] at hm
      rcases hm with rfl | rfl | rfl | rfl <;> decide
    exact ⟨_, _, base _ (Tells.iteF c0 (Tells.iteT c1 (Tells.bind hv (Tells.iteT s0 (Tells.iteT s1 (Tells.pure _)))))), hset _ (.inl hv3), by omega, by omega⟩
  by_cases c2 : c = 2
  · exact ⟨[], _, base _ (Tells.iteF c0 (Tells.iteF c1 (Tells.iteT c2 (Tells.iteT (by omega) (Tells.pure _))))), ⟨by simp, fun r hm => by cases hm⟩, by omega, by omega⟩
  · exact ⟨rows, _, base _ (Tells.iteF c0 (Tells.iteF c1 (Tells.iteF c2 (Tells.pure _)))), hsm, by omega, by omega⟩

end DocPure
