/- The reference's source of numbers tells a number from 0 to n-1, and its counter grows by one. -/
import Derived.Test.YtkpnmninkmnbjaaDoorPKax0
import Derived.Test.YtkpnmninkmnbjaaDoorPKax1
import Derived.Test.YtkpnmninkmnbjaaDoorKaBase
namespace DocPure
open Go.RowKit Go.Proofs.YtkpnmninkmnbjaaDoor.PKa Go.Proofs.YtkpnmninkmnbjaaDoorW.PrintWords

/-- The bytes of an input. -/
structure Code (b : List Int) : Prop where
  len : b.length ≤ 2000
  byte : ∀ x ∈ b, 0 ≤ x ∧ x ≤ 255

theorem Code.rd {b : List Int} (h : Code b) {i : Int} (h1 : i.toNat < b.length) : 0 ≤ rd b i ∧ rd b i ≤ 255 := by
  refine h.byte _ ?_
  unfold Go.Proofs.YtkpnmninkmnbjaaDoorW.PrintWords.rd
  rw [List.getD_eq_getElem?_getD, List.getElem?_eq_getElem h1]
  exact List.getElem_mem _

theorem xor_i64 {a b : Int} (ha : 0 ≤ a) (ha' : a < 9223372036854775808) (hb : 0 ≤ b) (hb' : b < 9223372036854775808) :
    0 ≤ Go.bits .xor .i64 a b ∧ Go.bits .xor .i64 a b < 9223372036854775808 := by
  obtain ⟨a, rfl⟩ := Int.eq_ofNat_of_zero_le ha
  obtain ⟨b, rfl⟩ := Int.eq_ofNat_of_zero_le hb
  have hx : a ^^^ b < 2 ^ 63 := Nat.xor_lt_two_pow (by omega) (by omega)
  have h1 : (BitVec.ofInt 64 (a : Int)).toNat = a := by
    rw [BitVec.ofInt_natCast, BitVec.toNat_ofNat]; exact Nat.mod_eq_of_lt (by omega)
  have h2 : (BitVec.ofInt 64 (b : Int)).toNat = b := by
    rw [BitVec.ofInt_natCast, BitVec.toNat_ofNat]; exact Nat.mod_eq_of_lt (by omega)
  have e : Go.bits .xor .i64 (a : Int) (b : Int) = Go.IntKind.i64.wrap ((BitVec.ofInt 64 (a : Int) ^^^ BitVec.ofInt 64 (b : Int)).toNat : Int) := rfl
  rw [e, BitVec.toNat_xor, h1, h2]
  have w : Go.IntKind.i64.wrap ((a ^^^ b : Nat) : Int) = ((a ^^^ b : Nat) : Int) := by
    simp only [Go.IntKind.wrap, Go.IntKind.bits, Go.IntKind.signed]
    simp
    omega
  rw [w]; omega

theorem tmod_in {x n : Int} (hx : 0 ≤ x) (hn : 1 ≤ n) : 0 ≤ Int.tmod x n ∧ Int.tmod x n < n := by
  rw [Int.tmod_eq_emod_of_nonneg hx]
  exact ⟨Int.emod_nonneg _ (by omega), Int.emod_lt_of_pos _ (by omega)⟩

theorem pick_mix {x y p l : Int} (hx : 0 ≤ x ∧ x ≤ 255) (hy : 0 ≤ y ∧ y ≤ 255) (h0 : 0 ≤ p) (hp : p < 1000000000000) (hl : 1 ≤ l) :
    let s := wrap64 ((wrap64 ((wrap64 ((wrap64 ((wrap64 x) * 131)) + (wrap64 ((wrap64 y) * 1117)))) + (wrap64 (p * 29)))) + (wrap64 ((wrap64 (Int.tdiv p l)) * 53)))
    0 ≤ Go.bits .xor .i64 s (wrap64 (Int.tdiv s 64)) := by
  intro s
  have hd : 0 ≤ Int.tdiv p l ∧ Int.tdiv p l ≤ p := by
    rw [Int.tdiv_eq_ediv_of_nonneg h0]
    exact ⟨Int.ediv_nonneg h0 (by omega), Int.ediv_le_self _ h0⟩
  have hs : 0 ≤ s ∧ s < 9223372036854775808 := by
    show 0 ≤ wrap64 _ ∧ wrap64 _ < _
    rw [wr64 (n := x) (by omega) (by omega), wr64 (n := y) (by omega) (by omega), wr64 (n := Int.tdiv p l) (by omega) (by omega), wr64 (n := x * 131) (by omega) (by omega), wr64 (n := y * 1117) (by omega) (by omega), wr64 (n := p * 29) (by omega) (by omega), wr64 (n := Int.tdiv p l * 53) (by omega) (by omega), wr64 (n := x * 131 + y * 1117) (by omega) (by omega), wr64 (n := x * 131 + y * 1117 + p * 29) (by omega) (by omega), wr64 (by omega) (by omega)]
    omega
  have ht : 0 ≤ Int.tdiv s 64 ∧ Int.tdiv s 64 ≤ s := by
    rw [Int.tdiv_eq_ediv_of_nonneg hs.1]
    exact ⟨Int.ediv_nonneg hs.1 (by omega), Int.ediv_le_self _ hs.1⟩
  refine (xor_i64 hs.1 hs.2 ?_ ?_).1
  · rw [wr64 (by omega) (by omega)]; exact ht.1
  · rw [wr64 (by omega) (by omega)]; omega

theorem pick_tells {b : List Int} (hb : Code b) {p n : Int} (h0 : 0 ≤ p) (hp : p < 1000000000000) (hn : 1 ≤ n) :
    ∃ r, Tells (fun k => spec_l15Rd_pick.f k b p n) (r, p + 1) ∧ 0 ≤ r ∧ r < n := by
  have hl := hb.len
  by_cases he : b.length = 0
  · refine ⟨0, Tells.congr (fun k => ?_) (Tells.step (g := fun k => spec_l15Rd_pick.j0 k n true b (p + 1)) (fun k => ?_) (Tells.pure _)), by omega, by omega⟩
    · unfold spec_l15Rd_pick.f
      rw [if_neg (by omega), wr64 (by omega) (by omega), show ((b.length : Int) == 0) = true from by rw [he]; rfl]
    · simp only [spec_l15Rd_pick.j0]; rw [if_pos trivial]
  · have hf : ∀ k, spec_l15Rd_pick.f k b p n = spec_l15Rd_pick.j0 k n false b (p + 1) := fun k => by
      unfold spec_l15Rd_pick.f
      rw [if_neg (by omega), wr64 (by omega) (by omega), show ((b.length : Int) == 0) = false from by rw [beq_eq_false_iff_ne]; omega]
    have hp1 : wrap64 (p + 1 - 1) = p := by rw [wr64 (by omega) (by omega)]; omega
    by_cases hlt : p < (b.length : Int)
    · have hx := hb.rd (i := p) (by omega)
      have hr := tmod_in hx.1 hn
      refine ⟨Int.tmod (rd b p) n, Tells.congr hf (Tells.step (fun k => ?_) (Tells.pure _)), hr.1, hr.2⟩
      simp only [spec_l15Rd_pick.j0]
      rw [if_neg (by decide), hp1, if_pos hlt, if_pos h0, if_neg (by omega), wr64 (n := rd b p) (by omega) (by omega)]
    · have m1 := tmod_in (x := p) (n := b.length) h0 (by omega)
      have m2 := tmod_in (x := p * 7 + 3) (n := b.length) (by omega) (by omega)
      have hx := hb.rd (i := Int.tmod p b.length) (by omega)
      have hy := hb.rd (i := Int.tmod (p * 7 + 3) b.length) (by omega)
      have hm := pick_mix hx hy h0 hp (l := b.length) (by omega)
      have hr := tmod_in hm hn
      refine ⟨_, Tells.congr hf (Tells.step (fun k => ?_) (Tells.pure _)), hr.1, hr.2⟩
      simp only [spec_l15Rd_pick.j0]
      rw [if_neg (by decide), hp1, wr64 (n := p * 7) (by omega) (by omega), wr64 (n := p * 7 + 3) (by omega) (by omega), if_neg hlt, if_neg (by omega), if_pos m1.1, if_pos m1.2, if_pos m2.1, if_pos m2.2, if_neg (by omega)]

theorem num_tells {b : List Int} (hb : Code b) {p : Int} (h0 : 0 ≤ p) (hp : p < 1000000000000) (l : List Int) (hl : 1 ≤ l.length) :
    ∃ x, x ∈ l ∧ Tells (fun k => spec_l15Rd_num.f k b p l) (x, p + 1) := by
  obtain ⟨r, hr, r0, r1⟩ := pick_tells hb h0 hp (n := l.length) (by omega)
  refine ⟨rd l r, ?_, Tells.congr (fun k => rfl) (Tells.bind hr (Tells.iteT r0 (Tells.iteT r1 (Tells.pure _))))⟩
  unfold rd
  rw [List.getD_eq_getElem?_getD, List.getElem?_eq_getElem (by omega)]
  exact List.getElem_mem _

theorem open_code {l : List Int} (hl : ∀ x ∈ l, (Go.Lit.int .u8 x).wf = true) : ∃ b, Code b ∧ spec_l15Open.f l = some (b, 0) := by
  have hB : ∀ x ∈ l, 0 ≤ x ∧ x ≤ 255 := fun x hx => by
    have := hl x hx
    simp only [Go.Lit.wf, Go.IntKind.min, Go.IntKind.max, Go.IntKind.bits, Go.IntKind.signed, Bool.and_eq_true] at this
    simp at this
    omega
  unfold spec_l15Open.f
  by_cases h : (l.length : Int) > 2000
  · rw [if_pos h, if_pos (by omega)]
    exact ⟨_, ⟨by rw [List.length_take]; omega, fun x hx => hB x (List.mem_of_mem_take hx)⟩, rfl⟩
  · rw [if_neg h]
    exact ⟨_, ⟨by omega, hB⟩, rfl⟩

end DocPure
