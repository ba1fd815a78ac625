/- The reference's reading of a document's text tells something for every short text; what it takes is well-formed. -/
import Derived.Test.YtkcpimhohadjkaaPPbx0
import Derived.Test.YtkcpimhohadjkaaPPbx11
import Derived.Test.YtkcpimhohadjkaaPbDocs
namespace DocPure
open Go.RowKit Go.Proofs.Ytkcpimhohadjkaa.PPb Go.Proofs.YtkcpimhohadjkaaW.PrintWords

def noDoc : Doc := ⟨0, 0, ⟨#[]⟩, []⟩

theorem tx_leaf (a b : Int) (t : ByteArray) (h : t.size ≤ 1000000) : Tx (⟨a, b, t, []⟩ : Doc) := Tx.mk _ h (by simp) (fun x hx => by cases hx)

/-- An offset behind what was read, or less than nothing. -/
def NextOk (s : ByteArray) (next : Int) : Prop := next < 0 ∨ ∃ m : Nat, next = (m : Int) ∧ m ≤ s.size

theorem extract_le (s : ByteArray) (a b : Nat) : (s.extract a b).size ≤ s.size := by
  rw [← size_data, extract_data, List.length_drop, List.length_take, size_data]
  omega

theorem word_l0 (s : ByteArray) (hs : s.size ≤ 1000000) (a : Nat) : ∀ (d i : Nat), i + d = s.size → a + 1 ≤ i →
    ∃ (x : Doc) (next : Int), Tells (fun k => spec_l1Word.l0 k s (a : Int) (i : Int)) (x.f0, x.f1, x.f2, x.f3, next) ∧ Tx x ∧ NextOk s next
  | 0, i, hd, hi => by
    refine ⟨noDoc, -1, Tells.step (fun k => ?_) (Tells.pure _), tx_leaf 0 0 _ (by show 0 ≤ _; omega), .inl (by omega)⟩
    simp only [spec_l1Word.l0]
    rw [if_neg (by omega), if_pos (by omega)]; rfl
  | d + 1, i, hd, hi => by
    have e1 : ∀ _ : Unit, wrap64 ((a : Int) + 1) = ((a + 1 : Nat) : Int) := fun _ => by rw [wr64 (by omega) (by omega)]; rfl
    have e2 : ∀ _ : Unit, wrap64 ((i : Int) + 1) = ((i + 1 : Nat) : Int) := fun _ => by rw [wr64 (by omega) (by omega)]; rfl
    by_cases h : bt s (i : Int) = 34
    · have := extract_le s (a + 1) i
      refine ⟨⟨2, 0, s.extract (a + 1) i, []⟩, ((i + 1 : Nat) : Int), Tells.step (fun k => ?_) (Tells.pure _), tx_leaf 2 0 _ (by omega), .inr ⟨i + 1, rfl, by omega⟩⟩
      simp only [spec_l1Word.l0]
      rw [if_pos (by omega), if_pos (by omega), if_pos h, if_neg (by omega), e1 (), if_pos (by omega), if_pos (by omega), if_pos (by omega), e2 (), Int.toNat_natCast, Int.toNat_natCast]
    · obtain ⟨x, next, hx, ht, hn⟩ := word_l0 s hs a d (i + 1) (by omega) (by omega)
      refine ⟨x, next, Tells.step (fun k => ?_) hx, ht, hn⟩
      simp only [spec_l1Word.l0]
      rw [if_pos (by omega), if_pos (by omega), if_neg h, e2 ()]

theorem word_tells (s : ByteArray) (hs : s.size ≤ 1000000) (a : Nat) (ha : a < s.size) : ∃ (x : Doc) (next : Int), Tells (fun k => spec_l1Word.f k s (a : Int)) (x.f0, x.f1, x.f2, x.f3, next) ∧ Tx x ∧ NextOk s next := by
  obtain ⟨x, next, hx, ht, hn⟩ := word_l0 s hs a (s.size - (a + 1)) (a + 1) (by omega) (by omega)
  refine ⟨x, next, Tells.congr (fun k => ?_) hx, ht, hn⟩
  unfold spec_l1Word.f
  rw [wr64 (by omega) (by omega)]; rfl

/-- Reading at each place of a text, down to a depth. -/
def Reads (s : ByteArray) (n : Nat) : Prop := ∀ a : Nat, a ≤ s.size → ∃ (x : Doc) (next : Int), Tells (fun k => spec_l1Read.f k s (a : Int) (n : Int)) (x.f0, x.f1, x.f2, x.f3, next) ∧ Tx x ∧ NextOk s next

theorem inner_l0 (s : ByteArray) (hs : s.size ≤ 1000000) (n : Nat) (hn : n ≤ 1000) (hr : Reads s n) (count : Nat) (hc : count ≤ 2) (sign : Int) : ∀ (d i m a : Nat) (out : List Doc), i + d = count → a ≤ s.size → out.length ≤ i → (∀ x ∈ out, Tx x) →
    ∃ (ks : List Doc) (next : Int), Tells (fun k => spec_l1Inner.l0 (spec_l1Read.f (k + m)) k s (a : Int) (count : Int) sign ((n + 1 : Nat) : Int) out (i : Int)) (ks, next) ∧ ks.length ≤ 2 ∧ (∀ x ∈ ks, Tx x) ∧ NextOk s next
  | 0, i, m, a, out, hd, ha, ho, ht => by
    by_cases h1 : a < s.size
    · by_cases h2 : bt s (a : Int) = sign
      · refine ⟨out, ((a + 1 : Nat) : Int), Tells.step (fun k => ?_) (Tells.pure _), by omega, ht, .inr ⟨a + 1, rfl, by omega⟩⟩
        simp only [spec_l1Inner.l0]
        rw [if_neg (by omega), if_neg (by omega), if_pos (by omega), if_pos (by omega), if_pos h2, wr64 (by omega) (by omega)]; rfl
      · refine ⟨out, -1, Tells.step (fun k => ?_) (Tells.pure _), by omega, ht, .inl (by omega)⟩
        simp only [spec_l1Inner.l0]
        rw [if_neg (by omega), if_neg (by omega), if_pos (by omega), if_pos (by omega), if_neg h2]
    · refine ⟨out, -1, Tells.step (fun k => ?_) (Tells.pure _), by omega, ht, .inl (by omega)⟩
      simp only [spec_l1Inner.l0]
      rw [if_neg (by omega), if_pos (by omega)]
  | d + 1, i, m, a, out, hd, ha, ho, ht => by
    have e1 : ∀ _ : Unit, wrap64 (((n + 1 : Nat) : Int) - 1) = (n : Int) := fun _ => by rw [wr64 (by omega) (by omega)]; omega
    have e2 : ∀ _ : Unit, wrap64 ((i : Int) + 1) = ((i + 1 : Nat) : Int) := fun _ => by rw [wr64 (by omega) (by omega)]; rfl
    obtain ⟨⟨x0, x1, x2, x3⟩, next, hx, htx, hnx⟩ := hr a ha
    have hx' := hx.shift (m + 1)
    rcases hnx with hneg | ⟨b, rfl, hb⟩
    · refine ⟨out, -1, Tells.step (fun k => by simp only [spec_l1Inner.l0]; rw [if_pos (by omega), e1 (), show k + 1 + m = k + (m + 1) from by omega]) ?_, by omega, ht, .inl (by omega)⟩
      exact Tells.bind hx' (Tells.iteT hneg (Tells.pure _))
    · obtain ⟨ks, nx, hk, h1, h2, h3⟩ := inner_l0 s hs n hn hr count hc sign d (i + 1) (m + 1) b (out ++ [⟨x0, x1, x2, x3⟩]) (by omega) hb (by rw [List.length_append, List.length_singleton]; omega) (fun y hy => by
        rcases List.mem_append.1 hy with hy | hy
        · exact ht y hy
        · rw [List.mem_singleton.1 hy]; exact htx)
      refine ⟨ks, nx, Tells.step (fun k => by simp only [spec_l1Inner.l0]; rw [if_pos (by omega), e1 (), e2 (), show k + 1 + m = k + (m + 1) from by omega]) ?_, h1, h2, h3⟩
      refine Tells.bind hx' ?_
      dsimp only
      exact Tells.iteF (by omega) (Tells.iteT (by omega) hk)

theorem inner_tells (s : ByteArray) (hs : s.size ≤ 1000000) (n : Nat) (hn : n ≤ 1000) (hr : Reads s n) (count : Nat) (hc : count ≤ 2) (sign : Int) (a : Nat) (ha : a ≤ s.size) :
    ∃ (ks : List Doc) (next : Int), Tells (fun k => spec_l1Inner.f (spec_l1Read.f k) k s (a : Int) (count : Int) sign ((n + 1 : Nat) : Int)) (ks, next) ∧ ks.length ≤ 2 ∧ (∀ x ∈ ks, Tx x) ∧ NextOk s next := by
  obtain ⟨ks, nx, hk, h⟩ := inner_l0 s hs n hn hr count hc sign count 0 0 a [] (by omega) ha (by simp) (fun x hx => by cases hx)
  exact ⟨ks, nx, hk, h⟩

theorem tx_kids (a b : Int) (ks : List Doc) (h : ks.length ≤ 2) (hk : ∀ x ∈ ks, Tx x) : Tx (⟨a, b, ⟨#[]⟩, ks⟩ : Doc) := Tx.mk _ (by show 0 ≤ _; omega) (by show ks.length ≤ _; omega) hk

theorem read_tells (s : ByteArray) (hs : s.size ≤ 1000000) : ∀ (n : Nat), n ≤ 1000 → Reads s n
  | 0, hn, a, ha => by
    have fin : Tells (fun k => spec_l1Read.j0 k s (a : Int) 0 true) (noDoc.f0, noDoc.f1, noDoc.f2, noDoc.f3, -1) := Tells.step (fun k => by simp only [spec_l1Read.j0]; rw [if_pos trivial]; rfl) (Tells.pure _)
    refine ⟨noDoc, -1, Tells.step (fun k => ?_) fin, tx_leaf 0 0 _ (by show 0 ≤ _; omega), .inl (by omega)⟩
    simp only [spec_l1Read.f]
    by_cases h : (a : Int) ≥ (s.size : Int)
    · rw [if_pos h]; rfl
    · rw [if_neg h]; rfl
  | n + 1, hn, a, ha => by
    have hr := read_tells s hs n (by omega)
    have lost : ∀ b : Bool, b = true → Tells (fun k => spec_l1Read.j0 k s (a : Int) ((n + 1 : Nat) : Int) b) (noDoc.f0, noDoc.f1, noDoc.f2, noDoc.f3, -1) := fun b hb => Tells.step (fun k => by simp only [spec_l1Read.j0]; rw [if_pos hb]; rfl) (Tells.pure _)
    have txn : Tx noDoc := tx_leaf 0 0 _ (by show 0 ≤ _; omega)
    by_cases h : (a : Int) ≥ (s.size : Int)
    · exact ⟨noDoc, -1, Tells.step (fun k => by simp only [spec_l1Read.f]; rw [if_pos h]) (lost true rfl), txn, .inl (by omega)⟩
    · have hf : ∀ r, Tells (fun k => spec_l1Read.j0 k s (a : Int) ((n + 1 : Nat) : Int) false) r → Tells (fun k => spec_l1Read.f k s (a : Int) ((n + 1 : Nat) : Int)) r := fun r hj => by
        refine Tells.step (fun k => ?_) hj
        simp only [spec_l1Read.f]
        rw [if_neg h, show (((n + 1 : Nat) : Int) == 0) = false from beq_eq_false_iff_ne.2 (by omega)]
      have e1 : ∀ _ : Unit, wrap64 ((a : Int) + 1) = ((a + 1 : Nat) : Int) := fun _ => by rw [wr64 (by omega) (by omega)]; rfl
      have e2 : ∀ _ : Unit, wrap64 ((a : Int) + 2) = ((a + 2 : Nat) : Int) := fun _ => by rw [wr64 (by omega) (by omega)]; rfl
      have k1 : 0 ≤ (a : Int) := by omega
      have k2 : (a : Int) < (s.size : Int) := by omega
      have leaf : ∀ op : Int, ∃ (x : Doc), x.f0 = op ∧ x.f1 = 0 ∧ x.f2 = ⟨#[]⟩ ∧ x.f3 = [] ∧ Tx x := fun op => ⟨⟨op, 0, ⟨#[]⟩, []⟩, rfl, rfl, rfl, rfl, tx_leaf op 0 _ (by show 0 ≤ _; omega)⟩
      have nx1 : NextOk s ((a + 1 : Nat) : Int) := .inr ⟨a + 1, rfl, by omega⟩
      by_cases c1 : bt s (a : Int) = 126
      · exact ⟨⟨1, 0, ⟨#[]⟩, []⟩, _, hf _ (Tells.step (fun k => by simp only [spec_l1Read.j0]; rw [if_neg (by decide), if_pos k1, if_pos k2, if_pos c1, e1 ()]) (Tells.pure _)), tx_leaf 1 0 _ (by show 0 ≤ _; omega), nx1⟩
      by_cases c2 : bt s (a : Int) = 95
      · exact ⟨⟨3, 0, ⟨#[]⟩, []⟩, _, hf _ (Tells.step (fun k => by simp only [spec_l1Read.j0]; rw [if_neg (by decide), if_pos k1, if_pos k2, if_neg c1, if_pos c2, e1 ()]) (Tells.pure _)), tx_leaf 3 0 _ (by show 0 ≤ _; omega), nx1⟩
      by_cases c3 : bt s (a : Int) = 46
      · exact ⟨⟨4, 0, ⟨#[]⟩, []⟩, _, hf _ (Tells.step (fun k => by simp only [spec_l1Read.j0]; rw [if_neg (by decide), if_pos k1, if_pos k2, if_neg c1, if_neg c2, if_pos c3, e1 ()]) (Tells.pure _)), tx_leaf 4 0 _ (by show 0 ≤ _; omega), nx1⟩
      by_cases c4 : bt s (a : Int) = 33
      · exact ⟨⟨5, 0, ⟨#[]⟩, []⟩, _, hf _ (Tells.step (fun k => by simp only [spec_l1Read.j0]; rw [if_neg (by decide), if_pos k1, if_pos k2, if_neg c1, if_neg c2, if_neg c3, if_pos c4, e1 ()]) (Tells.pure _)), tx_leaf 5 0 _ (by show 0 ≤ _; omega), nx1⟩
      by_cases c5 : bt s (a : Int) = 34
      · obtain ⟨x, next, hx, ht, hn'⟩ := word_tells s hs a (by omega)
        refine ⟨x, next, hf _ (Tells.step (fun k => by simp only [spec_l1Read.j0]; rw [if_neg (by decide), if_pos k1, if_pos k2, if_neg c1, if_neg c2, if_neg c3, if_neg c4, if_pos c5]) ?_), ht, hn'⟩
        exact Tells.bind hx (Tells.pure _)
      by_cases c6 : bt s (a : Int) = 40
      · obtain ⟨ks, nx, hk, g1, g2, g3⟩ := inner_tells s hs n (by omega) hr 2 (by omega) 41 (a + 1) (by omega)
        refine ⟨⟨7, 0, ⟨#[]⟩, ks⟩, nx, hf _ (Tells.step (fun k => by simp only [spec_l1Read.j0]; rw [if_neg (by decide), if_pos k1, if_pos k2, if_neg c1, if_neg c2, if_neg c3, if_neg c4, if_neg c5, if_pos c6, e1 ()]) ?_), tx_kids 7 0 ks g1 g2, g3⟩
        exact Tells.bind hk (Tells.pure _)
      by_cases c7 : bt s (a : Int) = 91
      · obtain ⟨ks, nx, hk, g1, g2, g3⟩ := inner_tells s hs n (by omega) hr 1 (by omega) 93 (a + 1) (by omega)
        refine ⟨⟨8, 0, ⟨#[]⟩, ks⟩, nx, hf _ (Tells.step (fun k => by simp only [spec_l1Read.j0]; rw [if_neg (by decide), if_pos k1, if_pos k2, if_neg c1, if_neg c2, if_neg c3, if_neg c4, if_neg c5, if_neg c6, if_pos c7, e1 ()]) ?_), tx_kids 8 0 ks g1 g2, g3⟩
        exact Tells.bind hk (Tells.pure _)
      by_cases c8 : bt s (a : Int) ≥ 48
      · by_cases c9 : bt s (a : Int) ≤ 57
        · by_cases c10 : a + 1 < s.size
          · by_cases c11 : bt s ((a + 1 : Nat) : Int) = 60
            · obtain ⟨ks, nx, hk, g1, g2, g3⟩ := inner_tells s hs n (by omega) hr 1 (by omega) 62 (a + 2) (by omega)
              refine ⟨⟨6, (bt s (a : Int) - 48) % 256, ⟨#[]⟩, ks⟩, nx, hf _ (Tells.step (fun k => by simp only [spec_l1Read.j0]; rw [if_neg (by decide), if_pos k1, if_pos k2, if_neg c1, if_neg c2, if_neg c3, if_neg c4, if_neg c5, if_neg c6, if_neg c7, if_pos c8, if_pos c9, e1 (), if_pos (by omega), if_pos (by omega), if_pos c11, e2 ()]) ?_), tx_kids 6 _ ks g1 g2, g3⟩
              exact Tells.bind hk (Tells.pure _)
            · exact ⟨noDoc, -1, hf _ (Tells.step (fun k => by simp only [spec_l1Read.j0]; rw [if_neg (by decide), if_pos k1, if_pos k2, if_neg c1, if_neg c2, if_neg c3, if_neg c4, if_neg c5, if_neg c6, if_neg c7, if_pos c8, if_pos c9, e1 (), if_pos (by omega), if_pos (by omega), if_neg c11]; rfl) (Tells.pure _)), txn, .inl (by omega)⟩
          · exact ⟨noDoc, -1, hf _ (Tells.step (fun k => by simp only [spec_l1Read.j0]; rw [if_neg (by decide), if_pos k1, if_pos k2, if_neg c1, if_neg c2, if_neg c3, if_neg c4, if_neg c5, if_neg c6, if_neg c7, if_pos c8, if_pos c9, e1 (), if_neg (by omega)]; rfl) (Tells.pure _)), txn, .inl (by omega)⟩
        · exact ⟨noDoc, -1, hf _ (Tells.step (fun k => by simp only [spec_l1Read.j0]; rw [if_neg (by decide), if_pos k1, if_pos k2, if_neg c1, if_neg c2, if_neg c3, if_neg c4, if_neg c5, if_neg c6, if_neg c7, if_pos c8, if_neg c9]; rfl) (Tells.pure _)), txn, .inl (by omega)⟩
      · exact ⟨noDoc, -1, hf _ (Tells.step (fun k => by simp only [spec_l1Read.j0]; rw [if_neg (by decide), if_pos k1, if_pos k2, if_neg c1, if_neg c2, if_neg c3, if_neg c4, if_neg c5, if_neg c6, if_neg c7, if_neg c8]; rfl) (Tells.pure _)), txn, .inl (by omega)⟩

theorem parse_tells (s : ByteArray) (hs : s.size ≤ 1000000) : ∃ (x : Doc) (ok : Bool), Tells (fun k => spec_ParseDoc.f k s) (x.f0, x.f1, x.f2, x.f3, ok) ∧ (ok = true → isB 40 x = true) := by
  obtain ⟨x, next, hx, ht, -⟩ := read_tells s hs 40 (by omega) 0 (by omega)
  by_cases h : next = (s.size : Int)
  · obtain ⟨b, hb, hv⟩ := valid_tells ht
    cases b with
    | true =>
      refine ⟨x, true, ?_, hv⟩
      unfold spec_ParseDoc.f
      exact Tells.bind hx (Tells.iteT h (Tells.bind hb (Tells.iteT rfl (Tells.of fun k => rfl))))
    | false =>
      refine ⟨noDoc, false, ?_, fun q => by cases q⟩
      unfold spec_ParseDoc.f
      exact Tells.bind hx (Tells.iteT h (Tells.bind hb (Tells.iteF (show ¬ (false = true) by decide) (Tells.of fun k => rfl))))
  · refine ⟨noDoc, false, ?_, fun q => by cases q⟩
    unfold spec_ParseDoc.f
    exact Tells.bind hx (Tells.iteF h (Tells.of fun k => rfl))

end DocPure
