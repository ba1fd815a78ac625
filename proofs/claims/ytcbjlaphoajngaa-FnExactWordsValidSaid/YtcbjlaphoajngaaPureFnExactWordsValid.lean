/- The program's WordsValid returns what the reference's returns, for all lists of words. -/
import Derived.Test.YtcbjlaphoajngaaPWrx
import Derived.Test.YtcbjlaphoajngaaWrWordsOk
import Derived.Test.YtcbjlaphoajngaaWrStrs
namespace DocPure
open Go.RowKit Go.Proofs.Ytcbjlaphoajngaa.PWr Go.Proofs.YtcbjlaphoajngaaW.PrintWords

theorem lawExactWords (l : List ByteArray) (hl : l.length ≤ 9223372036854775807) (hm : ∀ s ∈ l, s.size ≤ 9223372036854775807) : Tells (fun k => laws_FnExactWordsValid.f k l) true := by
  obtain ⟨r, hr, hp⟩ := szStrs l hl hm 1048576 (by omega) (by omega)
  unfold laws_FnExactWordsValid.f
  refine Tells.bind hr ?_
  rcases hp with hp | ⟨h0, h1, h2, h3⟩
  · exact Tells.iteT hp (Tells.pure _)
  · have hsm : Small l := ⟨by omega, fun s hs => by have := h3 s hs; omega⟩
    refine Tells.iteF (by omega) (Tells.bind (toStrs l h2) (Tells.bind (spec_words l hsm) (Tells.bind (toStrs l h2) (Tells.bind (impl_words l hsm) ?_))))
    refine Tells.iteF (by simp) (Tells.bind (toStrs l h2) (Tells.bind (eqStrs l l h2) ?_))
    exact Tells.iteT (by simp) (Tells.pure _)

end DocPure
namespace Go.Proofs.Ytcbjlaphoajngaa.Pure
open Go.Proofs.Ytcbjlaphoajngaa.PWr

theorem FnExactWordsValid : ∀ (l : List ByteArray), (l.length ≤ maxLen ∧ ∀ s ∈ l, s.size ≤ maxLen) → ∃ k, laws_FnExactWordsValid.f k l = some true :=
  fun l h => (DocPure.lawExactWords l h.1 h.2).ex

end Go.Proofs.Ytcbjlaphoajngaa.Pure
