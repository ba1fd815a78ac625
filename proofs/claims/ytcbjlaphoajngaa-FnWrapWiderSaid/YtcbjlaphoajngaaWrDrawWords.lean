/- What the reference draws for wrapping: at most 12 words of at most 6 bytes. -/
import Derived.Test.YtcbjlaphoajngaaPWrx
import Derived.Test.YtcbjlaphoajngaaWrPickOf
namespace DocPure
open Go.RowKit Go.Proofs.Ytcbjlaphoajngaa.PWr Go.Proofs.YtcbjlaphoajngaaW.PrintWords

structure Drawn (ws : List ByteArray) : Prop where
  len : ws.length ≤ 12
  sz : ∀ s ∈ ws, s.size ≤ 6

theorem drawWords_l0 {b : List Int} (hb : Code b) : ∀ (n : Nat) (acc : List ByteArray) (p : Int), acc.length + n ≤ 12 → (∀ s ∈ acc, s.size ≤ 6) → 0 ≤ p → p + n < 1000 →
    ∃ ws q, Tells (fun k => spec_l12Words.l0 k acc (n : Int) b p) (ws, q) ∧ Drawn ws ∧ 0 ≤ q ∧ q ≤ p + n + 2
  | 0, acc, p, h1, h2, h3, h4 => by
    by_cases ha : acc.length > 0
    · obtain ⟨r, hr, -, -⟩ := pick_tells hb h3 (by omega) (n := 20) (by omega)
      by_cases h0 : r = 0
      · obtain ⟨x, hx, ht⟩ := of_tells hb (p := p + 1) (by omega) (by omega) [(⟨#[]⟩ : ByteArray), (⟨#[65]⟩ : ByteArray), (⟨#[97, 32, 98]⟩ : ByteArray)] (by decide)
        refine ⟨acc.set 0 x, p + 1 + 1, ?_, ⟨by rw [List.length_set]; omega, fun s hs => ?_⟩, by omega, by omega⟩
        · refine Tells.step (fun k => by simp only [spec_l12Words.l0]; rw [if_neg (by omega), if_pos (by omega)]) ?_
          exact Tells.bind hr (Tells.iteT h0 (Tells.bind ht (Tells.iteT (by omega) (Tells.pure _))))
        · rcases List.mem_or_eq_of_mem_set hs with hs | rfl
          · exact h2 s hs
          · simp only [List.mem_cons, List.not_mem_nil, or_false] at hx
            rcases hx with rfl | rfl | rfl <;> decide
      · refine ⟨acc, p + 1, ?_, ⟨by omega, h2⟩, by omega, by omega⟩
        refine Tells.step (fun k => by simp only [spec_l12Words.l0]; rw [if_neg (by omega), if_pos (by omega)]) ?_
        exact Tells.bind hr (Tells.iteF h0 (Tells.pure _))
    · refine ⟨acc, p, Tells.step (fun k => ?_) (Tells.pure _), ⟨by omega, h2⟩, by omega, by omega⟩
      simp only [spec_l12Words.l0]
      rw [if_neg (by omega), if_neg (by omega)]
  | n + 1, acc, p, h1, h2, h3, h4 => by
    obtain ⟨x, hx, ht⟩ := of_tells hb h3 (by omega) [(⟨#[97]⟩ : ByteArray), (⟨#[98, 98]⟩ : ByteArray), (⟨#[99, 99, 99]⟩ : ByteArray), (⟨#[100, 100, 100, 100]⟩ : ByteArray), (⟨#[101, 101, 101, 101, 101]⟩ : ByteArray), (⟨#[102, 102, 102, 102, 102, 102]⟩ : ByteArray), (⟨#[120, 44]⟩ : ByteArray)] (by decide)
    have hx6 : x.size ≤ 6 := by
      simp only [List.mem_cons, List.not_mem_nil, or_false] at hx
      rcases hx with rfl | rfl | rfl | rfl | rfl | rfl | rfl <;> decide
    obtain ⟨ws, q, h, hd, g0, g1⟩ := drawWords_l0 hb n (acc ++ [x]) (p + 1) (by simp; omega) (fun s hs => by
      rcases List.mem_append.1 hs with hs | hs
      · exact h2 s hs
      · rw [List.mem_singleton.1 hs]; exact hx6) (by omega) (by omega)
    refine ⟨ws, q, ?_, hd, g0, by omega⟩
    refine Tells.step (fun k => by simp only [spec_l12Words.l0]; rw [if_pos (by omega), wr64 (n := ((n + 1 : Nat) : Int) - 1) (by omega) (by omega), show ((n + 1 : Nat) : Int) - 1 = n from by omega]) ?_
    exact Tells.bind ht (Tells.iteT (by omega) h)

theorem drawCase {l : List Int} (hl : ∀ x ∈ l, (Go.Lit.int .u8 x).wf = true) : ∃ ws w, Tells (fun k => spec_l12Case.f k l) (ws, w) ∧ Drawn ws ∧ -1 ≤ w ∧ w ≤ 201 := by
  obtain ⟨b, hb, ho⟩ := open_code hl
  obtain ⟨n, hn, h⟩ := num_tells hb (p := 0) (by omega) (by omega) [5, 3, 8, 2, 1, 0, 12] (by decide)
  have hr : 0 ≤ n ∧ n ≤ 12 := by simp at hn; omega
  obtain ⟨ws, q, h', hd, g0, g1⟩ := drawWords_l0 hb n.toNat [] (0 + 1) (by simp; omega) (fun s hs => by cases hs) (by omega) (by omega)
  rw [show ((n.toNat : Nat) : Int) = n from by omega] at h'
  obtain ⟨w, hw, h2⟩ := num_tells hb (p := q) g0 (by omega) [8, 6, 10, 12, 4, 20, 0, 201, (-1)] (by decide)
  have hwr : -1 ≤ w ∧ w ≤ 201 := by simp at hw; omega
  refine ⟨ws, w, ?_, hd, hwr.1, hwr.2⟩
  refine Tells.congr (fun k => by unfold spec_l12Case.f; rw [ho, Option.bind_some]) ?_
  refine Tells.bind (r := (ws, q)) ?_ (Tells.bind h2 (Tells.pure _))
  unfold spec_l12Words.f
  exact Tells.bind h h'

end DocPure
