/- What a row's argument of a type reads as, in the print's kinds: strings, whole numbers, slices of what can be read. -/
import Derived.Test.YtkpnmninkmnbjaaDoorVKa
import Derived.ChangeArms
import Derived.DataReads
namespace Go.Proofs.YtkpnmninkmnbjaaDoorW.Opens
open Go Go.Proofs.YtkpnmninkmnbjaaDoorW.PrintWords

def Opens {α : Type} (P : Program) (t : TypeId) (d : Kd α) (ok : α → Prop) : Prop :=
  ∀ {H : Type} (enc : TypeId × Value → H) (w : World) (base : Nat) (spare : Nat → Bool) (held : Bool) (fuel : Nat) (cs : List Value) (x : DataW H × List MemPlace),
    DataW.trod enc P w base spare held fuel t cs = some x → ∃ a : α, d.K w a cs ∧ ok a

theorem Opens.trod {α : Type} {P : Program} {t : TypeId} {d : Kd α} {ok : α → Prop} (ho : Opens P t d ok) {H : Type} {enc : TypeId × Value → H} {w : World} {base : Nat} {spare : Nat → Bool} {held : Bool} {v : Value} {x : DataW H} {ps : List MemPlace}
    (h : DataW.Trod enc P w base spare held t v x ps) : ∃ a : α, d.K w a v.cells.toList ∧ ok a := by
  obtain ⟨fuel, hf⟩ := h
  exact ho enc w base spare held fuel _ _ hf

theorem opens_string {P : Program} {t : TypeId} (ht : P.underlying t = some .string) : Opens P t Kd.string (fun s => s.size ≤ maxLen) := by
  intro H enc w base spare held fuel cs x h
  obtain ⟨s, rfl, -, hs⟩ := DataW.trod_string ht h
  exact ⟨s, rfl, hs⟩

theorem opens_int {P : Program} {t : TypeId} {k : IntKind} (ht : P.underlying t = some (.int k)) : Opens P t (Kd.int k) (fun n => (Lit.int k n).wf = true) := by
  intro H enc w base spare held fuel cs x h
  obtain ⟨n, rfl, -, hn⟩ := DataW.trod_int ht h
  exact ⟨n, rfl, hn⟩

theorem choose_list {α β : Type} [Inhabited α] (p : Nat → α → Prop) : ∀ (n : Nat), (∀ i, i < n → ∃ a, p i a) → ∃ l : List α, l.length = n ∧ ∀ i a, l[i]? = some a → p i a
  | 0, _ => ⟨[], rfl, fun i a h => by simp at h⟩
  | n + 1, h => by
    obtain ⟨l, hl, hp⟩ := choose_list (β := β) p n fun i hi => h i (by omega)
    obtain ⟨a, ha⟩ := h n (by omega)
    refine ⟨l ++ [a], by simp [hl], fun i b hb => ?_⟩
    rw [List.getElem?_append] at hb
    split at hb
    · exact hp i b hb
    · rename_i hi
      have hi' : i = n := by
        have : i - l.length < 1 := by
          rcases Nat.lt_or_ge (i - l.length) 1 with q | q
          · exact q
          · rw [List.getElem?_eq_none (by simpa using q)] at hb; cases hb
        omega
      subst hi'
      rw [show i - l.length = 0 from by omega] at hb
      simp only [List.getElem?_cons_zero] at hb
      obtain rfl := Option.some.inj hb
      exact ha

theorem opens_slice {α : Type} [Inhabited α] {P : Program} {t e : TypeId} {d : Kd α} {ok : α → Prop} (ht : P.underlying t = some (.slice e)) (hc : P.cellsOf e = d.sz) (he : Opens P e d ok) :
    Opens P t (Kd.slice e d) (fun xs => xs.length ≤ maxLen ∧ ∀ x ∈ xs, ok x) := by
  intro H enc w base spare held fuel cs x h
  rcases DataW.trod_slice ht h with ⟨rfl, -⟩ | ⟨a, len, cap, elems, rest, n, -, rfl, -, hb, hl, hm, hlen, hel, -, -⟩
  · exact ⟨[], ⟨none, 0, rfl, Nat.le_refl _, rfl, by simp, fun h => absurd h (by simp)⟩, by simp [maxLen], fun x hx => by cases hx⟩
  · have each : ∀ i, i < len → ∃ q : α, ok q ∧ ∃ c, c.length = d.sz ∧ d.K w q c ∧ ∀ j u, c[j]? = some u → w.cell? (a.add (i * d.sz + j)) = some u := by
      intro i hi
      have h1 := hel i hi
      rw [List.getElem?_eq_getElem (by omega)] at h1
      rw [Option.bind_eq_some_iff] at h1
      obtain ⟨c, h2, h3⟩ := h1
      obtain ⟨q, hq, hok⟩ := he enc w base spare held n c _ h3
      obtain ⟨-, h4, h5⟩ := World.cells?_some h2
      refine ⟨q, hok, c, d.K_len hq, hq, fun j u hj => ?_⟩
      have hj' : j < P.cellsOf e := by
        have := (List.getElem?_eq_some_iff.1 hj).1
        omega
      have := h5 j hj'
      rw [hj, hc] at this
      rw [show (a.add (i * d.sz + j)) = (a.add (i * d.sz)).add j from (Addr.add_add _ _ _).symm]
      exact this
    obtain ⟨l, hll, hp⟩ := choose_list (β := Unit) _ len each
    refine ⟨l, ⟨some a, cap, by rw [hll], by omega, rfl, by have : cap ≤ 9223372036854775807 := hm; omega, fun _ => ⟨a, rfl, fun j p hj => (hp j p hj).2⟩⟩, by rw [hll]; omega, fun q hq => ?_⟩
    obtain ⟨j, hj, rfl⟩ := List.getElem_of_mem hq
    exact (hp j _ (List.getElem?_eq_getElem hj)).1

end Go.Proofs.YtkpnmninkmnbjaaDoorW.Opens
