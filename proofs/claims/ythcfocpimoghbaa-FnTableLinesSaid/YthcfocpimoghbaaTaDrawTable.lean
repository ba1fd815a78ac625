/- What the reference draws for tables: few rows of few short cells. -/
import Derived.Test.YthcfocpimoghbaaPTax0
import Derived.Test.YthcfocpimoghbaaPTax2
import Derived.Test.YthcfocpimoghbaaTaPickOf
import Derived.Test.YthcfocpimoghbaaTaTableOk
namespace DocPure
open Go.RowKit Go.Proofs.Ythcfocpimoghbaa.PTa Go.Proofs.YthcfocpimoghbaaW.PrintWords

structure DrawnT (cells : Cells) : Prop where
  len : cells.length ≤ 4
  row : ∀ r ∈ cells, r.length ≤ 5 ∧ ∀ c ∈ r, c.size ≤ 6

theorem DrawnT.small {cells : Cells} (h : DrawnT cells) : SmallT cells := ⟨by have := h.len; omega, fun r hr => ⟨by have := (h.row r hr).1; omega, fun c hc => by have := (h.row r hr).2 c hc; omega⟩⟩

structure Rows4 (wide : Nat) (cells : Cells) : Prop where
  row : ∀ r ∈ cells, r.length = wide ∧ ∀ c ∈ r, c.size ≤ 6

theorem drawTable_l1 {b : List Int} (hb : Code b) (wide : Nat) (hwide : wide ≤ 4) (acc : Cells) (hacc : acc.length ≤ 100) (x5 p0 : Int) (hp0 : p0 < 1000000) (P : Cells × Int → Prop)
    (hq : ∀ (row : List ByteArray) (p : Int), row.length = wide → (∀ c ∈ row, c.size ≤ 6) → 0 ≤ p → p ≤ p0 → ∃ q, Tells (fun k => spec_l13Table.l0 k (acc ++ [row]) (wide : Int) (wrap64 (x5 - 1)) b p) q ∧ P q) :
    ∀ (d j : Nat) (row : List ByteArray) (p : Int), j + d = wide → row.length = j → (∀ c ∈ row, c.size ≤ 6) → 0 ≤ p → p + d ≤ p0 →
    ∃ q, Tells (fun k => spec_l13Table.l1 k acc (wide : Int) x5 row (j : Int) b p) q ∧ P q
  | 0, j, row, p, hd, hl, hs, h0, h1 => by
    obtain ⟨q, hq, hP⟩ := hq row p (by omega) hs h0 (by omega)
    refine ⟨q, Tells.step (fun k => ?_) hq, hP⟩
    simp only [spec_l13Table.l1]
    rw [if_neg (by omega), if_pos (by omega)]
  | d + 1, j, row, p, hd, hl, hs, h0, h1 => by
    obtain ⟨x, hx, ht⟩ := of_tells hb h0 (by omega) [(⟨#[97]⟩ : ByteArray), (⟨#[98, 98]⟩ : ByteArray), (⟨#[99, 99, 99]⟩ : ByteArray), (⟨#[]⟩ : ByteArray), (⟨#[120, 61, 49]⟩ : ByteArray), (⟨#[108, 111, 110, 103, 101, 114]⟩ : ByteArray)] (by decide)
    have hx6 : x.size ≤ 6 := by
      simp only [List.mem_cons, List.not_mem_nil, or_false] at hx
      rcases hx with rfl | rfl | rfl | rfl | rfl | rfl <;> decide
    obtain ⟨q, h, hP⟩ := drawTable_l1 hb wide hwide acc hacc x5 p0 hp0 P hq d (j + 1) (row ++ [x]) (p + 1) (by omega) (by simp; omega) (fun c hc => by
      rcases List.mem_append.1 hc with hc | hc
      · exact hs c hc
      · rw [List.mem_singleton.1 hc]; exact hx6) (by omega) (by omega)
    refine ⟨q, ?_, hP⟩
    refine Tells.step (fun k => by simp only [spec_l13Table.l1]; rw [if_pos (by omega)]) ?_
    refine Tells.bind ht (Tells.iteT (by omega) ?_)
    rw [wr64 (by omega) (by omega)]
    exact h

theorem drawTable_l0 {b : List Int} (hb : Code b) (wide : Nat) (hw0 : 1 ≤ wide) (hwide : wide ≤ 4) : ∀ (n : Nat) (acc : Cells) (p : Int), acc.length + n ≤ 4 → Rows4 wide acc → 0 ≤ p → p + 10 * n < 100000 →
    ∃ q, Tells (fun k => spec_l13Table.l0 k acc (wide : Int) (n : Int) b p) q ∧ DrawnT q.1 ∧ 0 ≤ q.2 ∧ q.2 < 1000100
  | 0, acc, p, hl, hr, h0, h1 => by
    have hdr : DrawnT acc := ⟨by omega, fun r h => ⟨by have := (hr.row r h).1; omega, (hr.row r h).2⟩⟩
    by_cases ha : acc.length > 0
    · obtain ⟨r, ht, -, -⟩ := pick_tells hb h0 (by omega) (n := 20) (by omega)
      have hrow : rd_L3 acc 0 = acc[0]'(by omega) := rd_row (i := 0) (by omega)
      have hr0 := hr.row _ (List.getElem_mem (l := acc) (n := 0) (by omega))
      have hset : ∀ row : List ByteArray, row.length ≤ 5 → (∀ c ∈ row, c.size ≤ 6) → DrawnT (acc.set 0 row) := fun row g1 g2 =>
        ⟨by rw [List.length_set]; omega, fun r hm => by
          rcases List.mem_or_eq_of_mem_set hm with hm | rfl
          · exact hdr.row r hm
          · exact ⟨g1, g2⟩⟩
      by_cases e0 : r = 0
      · refine ⟨(acc.set 0 (acc[0]'(by omega) ++ [(⟨#[122]⟩ : ByteArray)]), p + 1), ?_, hset _ (by simp; omega) (fun c hc => ?_), by simp only []; omega, by simp only []; omega⟩
        · refine Tells.step (fun k => by simp only [spec_l13Table.l0]; rw [if_neg (by omega), if_pos (by omega)]) ?_
          refine Tells.bind ht (Tells.iteT e0 (Tells.iteT (by omega) ?_))
          rw [hrow]
          exact Tells.iteT (by omega) (Tells.pure _)
        · rcases List.mem_append.1 hc with hc | hc
          · exact hr0.2 c hc
          · rw [List.mem_singleton.1 hc]; decide
      · by_cases e1 : r = 1
        · obtain ⟨x, hx, hx2⟩ := of_tells hb (p := p + 1) (by omega) (by omega) [(⟨#[65]⟩ : ByteArray), (⟨#[97, 32, 98]⟩ : ByteArray)] (by decide)
          have hx6 : x.size ≤ 6 := by
            simp only [List.mem_cons, List.not_mem_nil, or_false] at hx
            rcases hx with rfl | rfl <;> decide
          refine ⟨(acc.set 0 ((acc[0]'(by omega)).set 0 x), p + 1 + 1), ?_, hset _ (by rw [List.length_set]; omega) (fun c hc => ?_), by simp only []; omega, by simp only []; omega⟩
          · refine Tells.step (fun k => by simp only [spec_l13Table.l0]; rw [if_neg (by omega), if_pos (by omega)]) ?_
            refine Tells.bind ht (Tells.iteF e0 (Tells.iteT e1 (Tells.iteT (by omega) (Tells.bind hx2 ?_))))
            rw [hrow]
            exact Tells.iteT (by omega) (Tells.pure _)
          · rcases List.mem_or_eq_of_mem_set hc with hc | rfl
            · exact hr0.2 c hc
            · exact hx6
        · refine ⟨(acc, p + 1), ?_, hdr, by simp only []; omega, by simp only []; omega⟩
          refine Tells.step (fun k => by simp only [spec_l13Table.l0]; rw [if_neg (by omega), if_pos (by omega)]) ?_
          exact Tells.bind ht (Tells.iteF e0 (Tells.iteF e1 (Tells.pure _)))
    · refine ⟨(acc, p), Tells.step (fun k => ?_) (Tells.pure _), hdr, by simp only []; omega, by simp only []; omega⟩
      simp only [spec_l13Table.l0]
      rw [if_neg (by omega), if_neg (by omega)]
  | n + 1, acc, p, hl, hr, h0, h1 => by
    obtain ⟨q, h, hP⟩ := drawTable_l1 hb wide hwide acc (by omega) ((n + 1 : Nat) : Int) (p + wide) (by omega) (fun q => DrawnT q.1 ∧ 0 ≤ q.2 ∧ q.2 < 1000100) (fun row p' g1 g2 g3 g4 => by
      rw [wr64 (by omega) (by omega), show ((n + 1 : Nat) : Int) - 1 = n from by omega]
      exact drawTable_l0 hb wide hw0 hwide n (acc ++ [row]) p' (by simp; omega) ⟨fun r hm => by
        rcases List.mem_append.1 hm with hm | hm
        · exact hr.row r hm
        · rw [List.mem_singleton.1 hm]; exact ⟨g1, g2⟩⟩ g3 (by omega)) wide 0 [] p (by omega) rfl (fun c hc => by cases hc) h0 (by omega)
    refine ⟨q, Tells.step (fun k => ?_) h, hP⟩
    simp only [spec_l13Table.l0]
    rw [if_pos (by omega)]; rfl

theorem drawTable {b : List Int} (hb : Code b) : ∃ cells p, Tells (fun k => spec_l13Table.f k b 0) (cells, p) ∧ DrawnT cells ∧ 0 ≤ p ∧ p < 1000100 := by
  obtain ⟨w, hw, h⟩ := num_tells hb (p := 0) (by omega) (by omega) [2, 3, 1, 4] (by decide)
  have hr : 1 ≤ w ∧ w ≤ 4 := by simp at hw; omega
  obtain ⟨n, hn, h'⟩ := num_tells hb (p := 0 + 1) (by omega) (by omega) [2, 3, 1, 4, 0] (by decide)
  have hr' : 0 ≤ n ∧ n ≤ 4 := by simp at hn; omega
  obtain ⟨q, hq, hd, g0, g1⟩ := drawTable_l0 hb w.toNat (by omega) (by omega) n.toNat [] (0 + 1 + 1) (by simp; omega) ⟨fun r h => by cases h⟩ (by omega) (by omega)
  rw [show ((w.toNat : Nat) : Int) = w from by omega, show ((n.toNat : Nat) : Int) = n from by omega] at hq
  refine ⟨q.1, q.2, ?_, hd, g0, g1⟩
  unfold spec_l13Table.f
  exact Tells.bind h (Tells.bind h' hq)

end DocPure
