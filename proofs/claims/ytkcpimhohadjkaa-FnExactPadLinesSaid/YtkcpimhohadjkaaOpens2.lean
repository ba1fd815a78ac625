/- What a row's argument of a type reads as: structs of two fields. -/
import Derived.Test.YtkcpimhohadjkaaOpens
import Derived.ChangeSame
namespace Go.Proofs.YtkcpimhohadjkaaW.Opens
open Go Go.ChangeShapes Go.Proofs.YtkcpimhohadjkaaW.PrintWords

theorem opens_struct2 {α β : Type} {P : Program} {t : TypeId} {f0 f1 : Field} {a : Kd α} {b : Kd β} {oa : α → Prop} {ob : β → Prop}
    (ht : P.underlying t = some (.struct #[f0, f1])) (h0 : f0.offset = 0) (z0 : P.cellsOf f0.type = a.sz) (h1 : f1.offset = a.sz) (z1 : P.cellsOf f1.type = b.sz) (hz : P.cellsOf t = a.sz + b.sz)
    (o0 : Opens P f0.type a oa) (o1 : Opens P f1.type b ob) : Opens P t (Kd.pair a b) (fun x => oa x.1 ∧ ob x.2) := by
  intro H enc w base spare held fuel cs x h
  obtain ⟨y0, y1, n, rfl, hl, hf0, hf1⟩ := trod_struct2 ht h
  obtain ⟨q0, hq0, g0⟩ := o0 enc w base spare held n _ _ hf0
  obtain ⟨q1, hq1, g1⟩ := o1 enc w base spare held n _ _ hf1
  refine ⟨(q0, q1), ⟨_, _, ?_, hq0, hq1⟩, g0, g1⟩
  rw [h0, z0, h1, z1, List.drop_zero]
  have : (cs.drop a.sz).take b.sz = cs.drop a.sz := List.take_of_length_le (by rw [List.length_drop]; omega)
  rw [this, List.take_append_drop]

theorem opens_iso {α β : Type} {P : Program} {t : TypeId} {d : Kd α} {f : β → α} {ok : α → Prop} (g : α → β) (hg : ∀ x, f (g x) = x) (h : Opens P t d ok) : Opens P t (Kd.iso d f) (fun x => ok (f x)) := by
  intro H enc w base spare held fuel cs x hx
  obtain ⟨a, ha, hok⟩ := h enc w base spare held fuel cs x hx
  refine ⟨g a, ?_, ?_⟩
  · show d.K w (f (g a)) cs
    rw [hg]; exact ha
  · show ok (f (g a))
    rw [hg]; exact hok

theorem okWide_agg {P : Program} {w : World} {r : Reach} {base : Nat} {t : TypeId} {v : Value} {fs : Array Field} (ht : P.underlying t = some (.struct fs)) (h : Value.okWide P w r base t v) : ∃ cs, v = .agg cs := by
  simp only [Value.okWide, ht] at h
  obtain ⟨cs, h, -⟩ := h
  exact ⟨cs, h⟩

theorem cells_pair {α β : Type} {e0 : α → Value} {e1 : β → Value} {h0 : ∀ x, (e0 x).oneCell' = true} {h1 : ∀ x, (e1 x).oneCell' = true} {w : World} {x : α × β} {cs : Array Value}
    (h : (Kd.pair (Kd.scalar e0 h0) (Kd.scalar e1 h1)).K w x (Value.agg cs).cells.toList) : cs = #[e0 x.1, e1 x.2] := by
  obtain ⟨c0, c1, h, rfl, rfl⟩ := h
  exact Array.toList_inj.1 h

end Go.Proofs.YtkcpimhohadjkaaW.Opens
