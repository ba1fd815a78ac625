/- What the reference draws for wrapping: words and a width. -/
import Derived.Test.YtkpnmninkmnbjaaDoorPKax0
import Derived.Test.YtkpnmninkmnbjaaDoorPKax1
import Derived.Test.YtkpnmninkmnbjaaDoorKaDrawWords0
namespace DocPure
open Go.RowKit Go.Proofs.YtkpnmninkmnbjaaDoor.PKa Go.Proofs.YtkpnmninkmnbjaaDoorW.PrintWords

theorem drawCase {l : List Int} (hl : ∀ x ∈ l, (Go.Lit.int .u8 x).wf = true) : ∃ ws w, Tells (fun k => spec_l12Case.f k l) (ws, w) ∧ Drawn ws ∧ -1 ≤ w ∧ w ≤ 201 := by
  obtain ⟨b, hb, ho⟩ := open_code hl
  obtain ⟨n, hn, h⟩ := num_tells hb (p := 0) (by omega) (by omega) [5, 3, 8, 2, 1, 0, 12] (by decide)
  have hr : 0 ≤ n ∧ n ≤ 12 := by simp at hn; omega
  obtain ⟨ws, q, h', hd, g0, g1⟩ := drawWords_l0 hb n.toNat [] (0 + 1) (by simp; omega) (fun s hs => by cases hs) (by omega) (by omega)
  rw [show ((n.toNat : Nat) : Int) = n from by omega] at h'
  obtain ⟨w, hw, h2⟩ := num_tells hb (p := q) g0 (by omega) [8, 6, 10, 12, 4, 20, 0, 201, (-1)] (by decide)
  have hwr : -1 ≤ w ∧ w ≤ 201 := by simp at hw; omega
  refine ⟨ws, w, ?_, hd, hwr.1, hwr.2⟩
  refine Tells.congr (fun k => by unfold spec_l12Case.f; rw [ho, Option.bind_some]) ?_
  refine Tells.bind (r := (ws, q)) ?_ (Tells.bind h2 (Tells.pure _))
  unfold spec_l12Words.f
  exact Tells.bind h h'

end DocPure
