/- An instruction by value, as an argument, opened: six whole numbers. -/
import Derived.Test.YtolacdlobopoiaaEnvI
import Derived.WalkKit
import Derived.ProofKit
import Derived.OpenShut
import Derived.ChangeOld
import Derived.Below
import Derived.SizedLaws
namespace Go.Proofs.Ytolacdlobopoiaa.Num
open Go.ChangeShapes Go.WideShapes Go.ChangeAt Go.RowKit
set_option linter.unusedVariables false
set_option linter.unusedSimpArgs false
theorem cells62 : Try.prog.cellsOf 62 = 6 := by kernel_rfl
theorem cells3 : Try.prog.cellsOf 3 = 1 := by kernel_rfl
theorem cells2 : Try.prog.cellsOf 2 = 1 := by kernel_rfl
theorem array6 {α : Type} {cs : Array α} (h : cs.size = 6) : ∃ c0 c1 c2 c3 c4 c5, cs = #[c0, c1, c2, c3, c4, c5] := by
  obtain ⟨l⟩ := cs
  match l, h with
  | [c0, c1, c2, c3, c4, c5], _ => exact ⟨c0, c1, c2, c3, c4, c5, rfl⟩
/-- An instruction by value, opened. -/
theorem open_ins {H : Type} {enc : TypeId × Value → H} {w W : World} {base : Nat} {spare : Nat → Bool} {held : Bool} {r : Reach} {b0 : Nat} {v : Value} {d : DataW H} {p : List MemPlace} (hval : Value.okWide Try.prog W r b0 62 v)
    (h : DataW.Trod enc Try.prog w base spare held 62 v d p) : ∃ x : In, v = .agg x.cells := by
  obtain ⟨cs, rfl, hsz⟩ := okWide_struct Try.underlying62 hval
  obtain ⟨c0, c1, c2, c3, c4, c5, rfl⟩ := array6 (hsz.trans cells62)
  obtain ⟨fuel, hf⟩ := h
  obtain ⟨xs, n, _, _, hl, hlen, hfs⟩ := DataW.trod_struct Try.underlying62 hf
  obtain ⟨n0, e0, _⟩ : ∃ n, c0 = .int .i64 n ∧ True := by
    have h := hfs 0 _ rfl
    have hx : ∃ x, xs[0]? = some x := ⟨_, List.getElem?_eq_getElem (by rw [hlen]; decide)⟩
    obtain ⟨x, hx⟩ := hx
    rw [hx] at h
    obtain ⟨m, hm, _⟩ := DataW.trod_int Try.underlying3 h
    simp [Value.cells, cells3] at hm
    exact ⟨m, hm, trivial⟩
  obtain ⟨n1, e1, _⟩ : ∃ n, c1 = .int .i64 n ∧ True := by
    have h := hfs 1 _ rfl
    have hx : ∃ x, xs[1]? = some x := ⟨_, List.getElem?_eq_getElem (by rw [hlen]; decide)⟩
    obtain ⟨x, hx⟩ := hx
    rw [hx] at h
    obtain ⟨m, hm, _⟩ := DataW.trod_int Try.underlying3 h
    simp [Value.cells, cells3] at hm
    exact ⟨m, hm, trivial⟩
  obtain ⟨n2, e2, _⟩ : ∃ n, c2 = .int .i64 n ∧ True := by
    have h := hfs 2 _ rfl
    have hx : ∃ x, xs[2]? = some x := ⟨_, List.getElem?_eq_getElem (by rw [hlen]; decide)⟩
    obtain ⟨x, hx⟩ := hx
    rw [hx] at h
    obtain ⟨m, hm, _⟩ := DataW.trod_int Try.underlying3 h
    simp [Value.cells, cells3] at hm
    exact ⟨m, hm, trivial⟩
  obtain ⟨n3, e3, _⟩ : ∃ n, c3 = .int .i64 n ∧ True := by
    have h := hfs 3 _ rfl
    have hx : ∃ x, xs[3]? = some x := ⟨_, List.getElem?_eq_getElem (by rw [hlen]; decide)⟩
    obtain ⟨x, hx⟩ := hx
    rw [hx] at h
    obtain ⟨m, hm, _⟩ := DataW.trod_int Try.underlying3 h
    simp [Value.cells, cells3] at hm
    exact ⟨m, hm, trivial⟩
  obtain ⟨n4, e4, _⟩ : ∃ n, c4 = .int .i64 n ∧ True := by
    have h := hfs 4 _ rfl
    have hx : ∃ x, xs[4]? = some x := ⟨_, List.getElem?_eq_getElem (by rw [hlen]; decide)⟩
    obtain ⟨x, hx⟩ := hx
    rw [hx] at h
    obtain ⟨m, hm, _⟩ := DataW.trod_int Try.underlying2 h
    simp [Value.cells, cells2] at hm
    exact ⟨m, hm, trivial⟩
  obtain ⟨n5, e5, _⟩ : ∃ n, c5 = .int .i64 n ∧ True := by
    have h := hfs 5 _ rfl
    have hx : ∃ x, xs[5]? = some x := ⟨_, List.getElem?_eq_getElem (by rw [hlen]; decide)⟩
    obtain ⟨x, hx⟩ := hx
    rw [hx] at h
    obtain ⟨m, hm, _⟩ := DataW.trod_int Try.underlying3 h
    simp [Value.cells, cells3] at hm
    exact ⟨m, hm, trivial⟩
  exact ⟨⟨n0, n1, n2, n3, n4, n5⟩, by rw [e0, e1, e2, e3, e4, e5]; rfl⟩
end Go.Proofs.Ytolacdlobopoiaa.Num
