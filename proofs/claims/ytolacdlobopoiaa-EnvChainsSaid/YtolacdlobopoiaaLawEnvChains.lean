/- The given statement 'EnvChains': the row, out of the law's walk and its plain statement. No condition beyond the row's own. Begun as a text of the kit's print tool. -/
import Derived.Test.YtolacdlobopoiaaRows
import Derived.Test.YtolacdlobopoiaaEnvAE
import Derived.Deep.Grids
import Derived.WalkKit
import Derived.ProofKit
import Derived.OpenShut
import Derived.ShutString
import Derived.ChangeOld
import Derived.Below
import Derived.SizedLaws
import Derived.Test.YtolacdlobopoiaaWSized
namespace Go.Proofs.Ytolacdlobopoiaa.envChains
open Go.ChangeShapes Go.WideShapes Go.ChangeAt Go.RowKit Go.Proofs.YtolacdlobopoiaaW.PrintWords
open Go.ChangeMaps (open_string shut_string)
set_option linter.unusedVariables false
theorem own : ownKnob Try.prog.godebug = none := by kernel_rfl
theorem laidOut : laidOutB Try.prog = true := by kernel_rfl
/-- A slice of whole numbers, opened: a list that it reads as. -/
theorem ints_of {H : Type} {enc : TypeId × Value → H} {W : World} {base : Nat} {held : Bool} {t e : TypeId} {k : IntKind} {a : Option Addr} {len cap : Nat} {d : DataW H} {p : List MemPlace}
    (ht : Try.prog.underlying t = some (.slice e)) (he : Try.prog.underlying e = some (.int k)) (hc : Try.prog.cellsOf e = 1) (h : DataW.Trod enc Try.prog W base (fun _ => true) held t (.slice a len cap) d p) :
    ∃ l : List Int, len = l.length ∧ Kd.C (Kd.int k) W a l.length l ∧ l.length ≤ cap := by
  obtain ⟨fuel, hf⟩ := h
  rcases open_ints ht he hc hf with ⟨hcs, _⟩ | ⟨x, l, c, zs, hcs, _, hl, hm, hz, _, hcell, hwz⟩
  · simp [Value.cells] at hcs
    obtain ⟨rfl, rfl, rfl⟩ := hcs
    exact ⟨[], rfl, Kd.C_nil _ _, Nat.le_refl _⟩
  · simp [Value.cells] at hcs
    obtain ⟨rfl, rfl, rfl⟩ := hcs
    obtain ⟨l, h1, h2, _, _, h5⟩ := ReadsInt.ofRowC (w := W) (k := k) (.inr ⟨x, rfl, hl, hm, by simpa using hz, hcell, hwz⟩)
    exact ⟨l, h1, Kd.C_of_reads (d := (0 : Int)) (h1 := fun _ => rfl) h2, h5⟩
/-- A slice of bools, opened. -/
theorem bools_of {H : Type} {enc : TypeId × Value → H} {W : World} {base : Nat} {held : Bool} {t e : TypeId} {a : Option Addr} {len cap : Nat} {d : DataW H} {p : List MemPlace}
    (ht : Try.prog.underlying t = some (.slice e)) (he : Try.prog.underlying e = some .bool) (hc : Try.prog.cellsOf e = 1) (h : DataW.Trod enc Try.prog W base (fun _ => true) held t (.slice a len cap) d p) :
    ∃ l : List Bool, len = l.length ∧ Kd.C Kd.bool W a l.length l ∧ l.length ≤ cap := by
  obtain ⟨fuel, hf⟩ := h
  rcases Go.Deep.open_bools ht he hc hf with ⟨hcs, _⟩ | ⟨x, l, c, B, hcs, _, hl, hm, _, hcell⟩
  · simp [Value.cells] at hcs
    obtain ⟨rfl, rfl, rfl⟩ := hcs
    exact ⟨[], rfl, Kd.C_nil _ _, Nat.le_refl _⟩
  · simp [Value.cells] at hcs
    obtain ⟨rfl, rfl, rfl⟩ := hcs
    refine ⟨(List.range len).map B, by simp, Kd.C_of_reads (d := false) (h1 := fun _ => rfl) ⟨rfl, by unfold maxLen at hm; simp; omega, fun _ => ⟨x, rfl, fun j hj => ?_⟩⟩, by simpa using hl⟩
    have hj' : j < len := by simpa using hj
    rw [hcell j (by omega)]
    simp [List.getD_eq_getElem?_getD, hj']
theorem cells3 : Try.prog.cellsOf 3 = 1 := by kernel_rfl
theorem cells2 : Try.prog.cellsOf 2 = 1 := by kernel_rfl
theorem cells62 : Try.prog.cellsOf 62 = 6 := by kernel_rfl
theorem list6 {α : Type} {cs : List α} (h : cs.length = 6) : ∃ c0 c1 c2 c3 c4 c5, cs = [c0, c1, c2, c3, c4, c5] := by
  match cs, h with
  | [c0, c1, c2, c3, c4, c5], _ => exact ⟨c0, c1, c2, c3, c4, c5, rfl⟩
/-- The six cells of an instruction. -/
theorem ins_cells {H : Type} {enc : TypeId × Value → H} {w : World} {base : Nat} {spare : Nat → Bool} {held : Bool} {fuel : Nat} {cs : List Value} {y : DataW H × List MemPlace} (h6 : cs.length = 6)
    (h : DataW.trod enc Try.prog w base spare held fuel 62 cs = some y) : ∃ x : Num.S62, cs = [.int .i64 x.f0, .int .i64 x.f1, .int .i64 x.f2, .int .i64 x.f3, .int .i64 x.f4, .int .i64 x.f5] := by
  obtain ⟨c0, c1, c2, c3, c4, c5, rfl⟩ := list6 h6
  obtain ⟨xs, n, _, _, hl, hlen, hfs⟩ := DataW.trod_struct Try.underlying62 h
  obtain ⟨n0, e0⟩ : ∃ n, c0 = Value.int .i64 n := by
    have h := hfs 0 _ rfl
    obtain ⟨x, hx⟩ : ∃ x, xs[0]? = some x := ⟨_, List.getElem?_eq_getElem (by rw [hlen]; decide)⟩
    rw [hx] at h
    obtain ⟨m, hm, _⟩ := DataW.trod_int Try.underlying3 h
    simp [cells3] at hm
    exact ⟨m, hm⟩
  obtain ⟨n1, e1⟩ : ∃ n, c1 = Value.int .i64 n := by
    have h := hfs 1 _ rfl
    obtain ⟨x, hx⟩ : ∃ x, xs[1]? = some x := ⟨_, List.getElem?_eq_getElem (by rw [hlen]; decide)⟩
    rw [hx] at h
    obtain ⟨m, hm, _⟩ := DataW.trod_int Try.underlying3 h
    simp [cells3] at hm
    exact ⟨m, hm⟩
  obtain ⟨n2, e2⟩ : ∃ n, c2 = Value.int .i64 n := by
    have h := hfs 2 _ rfl
    obtain ⟨x, hx⟩ : ∃ x, xs[2]? = some x := ⟨_, List.getElem?_eq_getElem (by rw [hlen]; decide)⟩
    rw [hx] at h
    obtain ⟨m, hm, _⟩ := DataW.trod_int Try.underlying3 h
    simp [cells3] at hm
    exact ⟨m, hm⟩
  obtain ⟨n3, e3⟩ : ∃ n, c3 = Value.int .i64 n := by
    have h := hfs 3 _ rfl
    obtain ⟨x, hx⟩ : ∃ x, xs[3]? = some x := ⟨_, List.getElem?_eq_getElem (by rw [hlen]; decide)⟩
    rw [hx] at h
    obtain ⟨m, hm, _⟩ := DataW.trod_int Try.underlying3 h
    simp [cells3] at hm
    exact ⟨m, hm⟩
  obtain ⟨n4, e4⟩ : ∃ n, c4 = Value.int .i64 n := by
    have h := hfs 4 _ rfl
    obtain ⟨x, hx⟩ : ∃ x, xs[4]? = some x := ⟨_, List.getElem?_eq_getElem (by rw [hlen]; decide)⟩
    rw [hx] at h
    obtain ⟨m, hm, _⟩ := DataW.trod_int Try.underlying2 h
    simp [cells2] at hm
    exact ⟨m, hm⟩
  obtain ⟨n5, e5⟩ : ∃ n, c5 = Value.int .i64 n := by
    have h := hfs 5 _ rfl
    obtain ⟨x, hx⟩ : ∃ x, xs[5]? = some x := ⟨_, List.getElem?_eq_getElem (by rw [hlen]; decide)⟩
    rw [hx] at h
    obtain ⟨m, hm, _⟩ := DataW.trod_int Try.underlying3 h
    simp [cells3] at hm
    exact ⟨m, hm⟩
  exact ⟨⟨n0, n1, n2, n3, n4, n5⟩, by rw [e0, e1, e2, e3, e4, e5]⟩
/-- A slice of instructions, opened. -/
theorem rows_of {H : Type} {enc : TypeId × Value → H} {W : World} {base : Nat} {held : Bool} {a : Option Addr} {len cap : Nat} {d : DataW H} {p : List MemPlace}
    (h : DataW.Trod enc Try.prog W base (fun _ => true) held 79 (.slice a len cap) d p) :
    ∃ l : List Num.S62, len = l.length ∧ Kd.C Num.k62 W a l.length l ∧ l.length ≤ cap := by
  obtain ⟨fuel, hf⟩ := h
  rcases Go.Deep.open_slice Try.underlying79 hf with ⟨hcs, _⟩ | ⟨x, l, c, m, n, D, Pl, hcs, _, hl, hm, hmm, _, hx⟩
  · simp [Value.cells] at hcs
    obtain ⟨rfl, rfl, rfl⟩ := hcs
    exact ⟨[], rfl, Kd.C_nil _ _, Nat.le_refl _⟩
  · simp [Value.cells] at hcs
    obtain ⟨rfl, rfl, rfl⟩ := hcs
    simp only [if_true] at hmm
    subst hmm
    rw [cells62] at hx
    have hall : ∀ i, i < m → ∃ y : Num.S62, ∀ j u, [Value.int .i64 y.f0, .int .i64 y.f1, .int .i64 y.f2, .int .i64 y.f3, .int .i64 y.f4, .int .i64 y.f5][j]? = some u → W.cell? (x.add (i * 6 + j)) = some u := by
      intro i hi
      obtain ⟨cs, h1, h2⟩ := hx i hi
      obtain ⟨_, hlen, hc⟩ := World.cells?_some h1
      obtain ⟨y, rfl⟩ := ins_cells hlen h2
      refine ⟨y, fun j u hj => ?_⟩
      have := hc j (List.getElem?_eq_some_iff.1 hj).1
      rw [hj] at this
      rw [← Addr.add_add]
      exact this
    have : Inhabited Num.S62 := ⟨Num.z62⟩
    obtain ⟨F, hF⟩ := Go.Deep.choose_lt (α := Num.S62) hall
    refine ⟨(List.range len).map F, by simp, ⟨by simp, by unfold maxLen at hm; simp; omega, fun _ => ⟨x, rfl, fun j y hj => ?_⟩⟩, by simpa using hl⟩
    have hj' : j < len := by
      have := (List.getElem?_eq_some_iff.1 hj).1
      simpa using this
    have hy : F j = y := by simpa [hj'] using hj
    subst hy
    exact ⟨_, rfl, Num.k62_mk _ _, fun i u hu => hF j (by omega) i u hu⟩
set_option maxRecDepth 100000 in
theorem lifted (os : Os) (started : os.Started) (H : Type) (enc : TypeId × Value → H) :
    ReturnsInHanded {} Try.checked os 19 .any (Rows.envChainsSpec.pre6 enc Try.prog Try.f19 Rows.envChainsRow.domain false) (Rows.envChainsSpec.post enc Try.prog Try.f19 false true false false) := by
  refine returnsInHanded_of_change_sized (C := Try.checked) own started (by kernel_rfl) Try.func19
    (ChangeSpec.witness6 (enc := enc) (C := Try.checked) false ⟨#[], #[.slice none 0 0, .slice none 0 0, .slice none 0 0, .slice none 0 0, .slice none 0 0], []⟩ 8 (by kernel_rfl) (by kernel_rfl) (by kernel_rfl) (by kernel_rfl)) ?_
  intro W base args ds gs before hval0 hW hcnd hsz0 _
  have hval : ∀ (j : Nat) t v, Try.f19.params[j]? = some t → args[j]? = some v → Value.okWide Try.prog W .any base t v := hval0
  have hW' := hW
  obtain ⟨p, q, hA0, hV, rfl, hfz, hnd⟩ := hW
  have hA : DataW.TrodAll enc Try.prog W 0 (fun _ => true) true Try.f19.params.toList args.toList ds p := hA0
  rw [Try.params19] at hA hval
  obtain ⟨v0, vs0, d0, ds0, p0, q0, hargs, rfl, rfl, h0, r0⟩ := trodAll_cons hA
  obtain ⟨v1, vs1, d1, ds1, p1, q1, rfl, rfl, rfl, h1, r1⟩ := trodAll_cons r0
  obtain ⟨v2, vs2, d2, ds2, p2, q2, rfl, rfl, rfl, h2, r2⟩ := trodAll_cons r1
  obtain ⟨v3, vs3, d3, ds3, p3, q3, rfl, rfl, rfl, h3, r3⟩ := trodAll_cons r2
  obtain ⟨v4, vs4, d4, ds4, p4, q4, rfl, rfl, rfl, h4, r4⟩ := trodAll_cons r3
  obtain ⟨rfl, rfl, rfl⟩ := trodAll_nil r4
  obtain rfl : args = #[v0, v1, v2, v3, v4] := by cases args; simp_all
  obtain ⟨rfl, rfl⟩ := trodVars_none hV
  obtain ⟨a0, len0, cap0, rfl⟩ := okWide_slice Try.underlying79 (hval 0 79 v0 rfl rfl)
  obtain ⟨a1, len1, cap1, rfl⟩ := okWide_slice Try.underlying79 (hval 1 79 v1 rfl rfl)
  obtain ⟨a2, len2, cap2, rfl⟩ := okWide_slice Try.underlying79 (hval 2 79 v2 rfl rfl)
  obtain ⟨a3, len3, cap3, rfl⟩ := okWide_slice Try.underlying66 (hval 3 66 v3 rfl rfl)
  obtain ⟨a4, len4, cap4, rfl⟩ := okWide_slice Try.underlying53 (hval 4 53 v4 rfl rfl)
  have lt0 : ∀ x ∈ p0, x.block < W.heap.size := by obtain ⟨m, hm⟩ := h0; exact DataW.trod_lt m _ _ _ hm
  have lt1 : ∀ x ∈ p1, x.block < W.heap.size := by obtain ⟨m, hm⟩ := h1; exact DataW.trod_lt m _ _ _ hm
  have lt2 : ∀ x ∈ p2, x.block < W.heap.size := by obtain ⟨m, hm⟩ := h2; exact DataW.trod_lt m _ _ _ hm
  have lt3 : ∀ x ∈ p3, x.block < W.heap.size := by obtain ⟨m, hm⟩ := h3; exact DataW.trod_lt m _ _ _ hm
  have lt4 : ∀ x ∈ p4, x.block < W.heap.size := by obtain ⟨m, hm⟩ := h4; exact DataW.trod_lt m _ _ _ hm
  obtain ⟨l0, rfl, hr0, hc0⟩ := rows_of h0
  obtain ⟨l1, rfl, hr1, hc1⟩ := rows_of h1
  obtain ⟨l2, rfl, hr2, hc2⟩ := rows_of h2
  obtain ⟨l3, rfl, hr3, hc3⟩ := bools_of Try.underlying66 Try.underlying4 (by kernel_rfl) h3
  obtain ⟨l4, rfl, hr4, hc4⟩ := ints_of Try.underlying53 Try.underlying2 (by kernel_rfl) h4
  clear hA0 hval0 hsz0
  refine (Num.chains_of a0 cap0 l0 a1 cap1 l1 a2 cap2 l2 a3 cap3 l3 a4 cap4 l4 (Num.woT l3 l4) (Num.woTo_len _ _ _) W hr0 hr1 hr2 hc0 hc1 hc2 (fun w1 hb => Num.env_Words a3 cap3 l3 a4 cap4 l4 w1 (Kd.C_below hr3 hb) hc3 (Kd.C_below hr4 hb) hc4)).mono fun e W' ⟨he, bel⟩ => ?_
  subst he
  exact ⟨_, rfl, _, _, _, [], _, [], hW', trodAll_mk1 (shut_bool Try.underlying4 _), (trodAll_cons_mk (Below.trod laidOut (by kernel_rfl) (of_decide_eq_true (by kernel_rfl)) h0 bel lt0) (trodAll_cons_mk (Below.trod laidOut (by kernel_rfl) (of_decide_eq_true (by kernel_rfl)) h1 bel lt1) (trodAll_cons_mk (Below.trod laidOut (by kernel_rfl) (of_decide_eq_true (by kernel_rfl)) h2 bel lt2) (trodAll_cons_mk (Below.trod laidOut (by kernel_rfl) (of_decide_eq_true (by kernel_rfl)) h3 bel lt3) (trodAll_cons_mk (Below.trod laidOut (by kernel_rfl) (of_decide_eq_true (by kernel_rfl)) h4 bel lt4) trodAll_mk0))))), rfl, bel.frame _, fun h => by cases h⟩
theorem over : Rows.envChainsRow.holds Try.pinned (OpenSpec.ofChange Rows.envChainsSpec) :=
  OpenClaim.holds_of_wide 19 Try.f19 rfl rfl rfl rfl rfl rfl rfl ⟨rfl, rfl, rfl, rfl, rfl⟩ rfl rfl rfl rfl rfl (by kernel_rfl) Try.func19 (by kernel_rfl)
    (of_decide_eq_true (by kernel_rfl)) (by unfold Func.isWrapper; first | (rw [if_pos (by decide +kernel)]; kernel_rfl) | (rw [if_neg (by decide +kernel)]; exact ⟨rfl, rfl⟩))
    (fun os started H enc _ => lifted os started H enc)
theorem proved : Rows.EnvChainsSaid := over
#print axioms proved
end Go.Proofs.Ytolacdlobopoiaa.envChains
namespace Go.Proofs.Ytolacdlobopoiaa
/-- The row, under a short name, for the claim. -/
theorem envChains_holds : Rows.EnvChainsSaid := envChains.proved
end Go.Proofs.Ytolacdlobopoiaa
