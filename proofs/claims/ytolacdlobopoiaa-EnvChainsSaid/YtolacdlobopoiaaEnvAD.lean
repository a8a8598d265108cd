/- env: tables put together, in plain words -/
import Derived.Test.YtolacdlobopoiaaNum0
import Derived.Test.YtolacdlobopoiaaEnvAB
namespace Go.Proofs.Ytolacdlobopoiaa.Num
open Go.RowKit Go.Proofs.YtolacdlobopoiaaW.PrintWords Go.Proofs.YtolacdlobopoiaaW.PrintLast Go.Proofs.YtolacdlobopoiaaW.PrintMore
attribute [local go_sem] max2_int min2_int max_two min_two max_three min_three max_four min_four   -- for this text's walks alone
set_option linter.unusedVariables false
set_option linter.unusedSimpArgs false

/-! ### Tables put together, in plain words -/
def through (A : List Sr) : Sr → Sr
  | .was l => srAt A l
  | s => s
theorem thenG_map (A B : List Sr) : thenG A B = B.map (through A) := by
  unfold thenG
  apply List.map_congr_left
  intro s _
  cases s <;> rfl
theorem srAt_map {B : List Sr} (f : Sr → Sr) {l : Int} (h : l.toNat < B.length) : srAt (B.map f) l = f (srAt B l) := by
  unfold srAt
  simp [List.getD_eq_getElem?_getD, h]
theorem through_map {A B : List Sr} (hB : B.length = 24) {s : Sr} (hs : s.ok = true) : through (B.map (through A)) s = through A (through B s) := by
  cases s with
  | was l =>
    have hr := inR_at hs
    exact srAt_map _ (by omega)
  | is n => rfl
  | no => cases hs
theorem thenG_assoc {A B C : List Sr} (hB : B.length = 24) (gC : goodB C = true) : thenG (thenG A B) C = thenG A (thenG B C) := by
  simp only [thenG_map, List.map_map]
  apply List.map_congr_left
  intro s hs
  exact through_map hB (List.all_eq_true.1 gC s hs)
theorem first_good : goodB first = true := by decide
theorem through_first {s : Sr} (hs : s.ok = true) : through first s = s := by
  cases s with
  | was l =>
    have hr := inR_at hs
    obtain ⟨n, rfl⟩ := Int.eq_ofNat_of_zero_le hr.1
    have hn : n < 24 := by omega
    show srAt first (n : Int) = .was n
    unfold srAt first
    simp [List.getD_eq_getElem?_getD, hn]
  | is n => rfl
  | no => cases hs
theorem thenG_first {A : List Sr} (gA : goodB A = true) : thenG first A = A := by
  rw [thenG_map]
  have : A.map (through first) = A.map id := List.map_congr_left fun s hs => through_first (List.all_eq_true.1 gA s hs)
  rw [this, List.map_id]
theorem thenG_to_first {A : List Sr} (hA : A.length = 24) : thenG A first = A := by
  rw [thenG_map]
  apply List.ext_getElem
  · simp [first, hA]
  · intro i h1 h2
    simp only [first, List.getElem_map, List.getElem_range, through, srAt, Int.toNat_natCast]
    simp [List.getD_eq_getElem?_getD, h2]
theorem moveT_then {A B : List Sr} (hB : B.length = 24) (x : In) (hd : inR x.d = true) (ha : inR x.a = true) : moveT (B.map (through A)) x = (moveT B x).map (through A) := by
  have h1 := inR_at hd
  have h2 := inR_at ha
  unfold moveT
  split
  · rw [List.map_set]; rfl
  · split
    · rw [List.map_set, srAt_map _ (by omega)]
    · split
      · rw [List.map_set, List.map_set, srAt_map _ (by omega), srAt_map _ (by omega)]
      · rfl
theorem thenT_of {A B : List Sr} (gA : goodB A = true) (gB : goodB B = true) : thenT A B = thenG A B := by
  unfold thenT
  rw [goodT_of gA, goodT_of gB]
theorem after_then {A B : List Sr} (hA : A.length = 24) (hB : B.length = 24) (gA : goodB A = true) (gB : goodB B = true) (x : In) : afterT (thenT A B) x = thenT A (afterT B x) := by
  rw [afterT_of (thenT_good hA), thenT_of gA gB, thenT_of gA (afterT_good hB x), afterT_of gB]
  by_cases c : x.moves = true ∧ inR x.d = true ∧ inR x.a = true
  · rw [if_pos c, if_pos c, thenG_map, thenG_map]
    exact moveT_then hB x c.2.1 c.2.2
  · rw [if_neg c, if_neg c]
def runT (T : List Sr) (l : List In) : List Sr := l.foldl afterT T
theorem runT_len {T : List Sr} (hT : T.length = 24) (l : List In) : (runT T l).length = 24 := by
  induction l generalizing T with
  | nil => exact hT
  | cons x l ih => exact ih (afterT_len' hT x)
theorem runT_good {T : List Sr} (hT : T.length = 24) (gT : goodB T = true) (l : List In) : goodB (runT T l) = true := by
  induction l generalizing T with
  | nil => exact gT
  | cons x l ih => exact ih (afterT_len' hT x) (afterT_good hT x)
theorem runT_then {A B : List Sr} (hA : A.length = 24) (hB : B.length = 24) (gA : goodB A = true) (gB : goodB B = true) (l : List In) : runT (thenT A B) l = thenT A (runT B l) := by
  induction l generalizing B with
  | nil => rfl
  | cons x l ih =>
    show runT (afterT (thenT A B) x) l = thenT A (runT (afterT B x) l)
    rw [after_then hA hB gA gB]
    exact ih (afterT_len' hB x) (afterT_good hB x)
theorem runT_run {A : List Sr} (hA : A.length = 24) (gA : goodB A = true) (l : List In) : runT A l = thenT A (runT first l) := by
  rw [← runT_then hA first_len gA first_good, thenT_of gA first_good, thenG_to_first hA]
theorem fill_then {A B : List Sr} (hA : A.length = 24) (hB : B.length = 24) (gA : goodB A = true) (gB : goodB B = true) (L : List S68) : fillT (thenT A B) L = fillT B (fillT A L) := by
  unfold fillT
  rw [goodT_of (thenT_good hA), goodT_of gA, goodT_of gB, thenT_of gA gB, thenG_map]
  unfold fillW
  rw [List.map_map]
  apply List.map_congr_left
  intro s hs
  have hok := List.all_eq_true.1 gB s hs
  cases s with
  | was l =>
    have hr := inR_at hok
    have hl : l.toNat < A.length := by omega
    show fillS L (srAt A l) = (A.map (fillS L)).getD l.toNat ⟨false, 0⟩
    unfold srAt
    simp [List.getD_eq_getElem?_getD, hl]
  | is n => rfl
  | no => cases hok
theorem runT_take (T : List Sr) (l : List In) (i : Nat) (h : i < l.length) : runT T (l.take (i + 1)) = afterT (runT T (l.take i)) (l[i]) := by
  unfold runT
  rw [List.take_succ_eq_append_getElem h, List.foldl_append]
  rfl
/-- Two equal rows of words compared. -/
theorem wcs_mid : ∀ (L : List S68) (i : Nat) (h : i < L.length), ((wcs L).drop (i * 2)).take 2 = [.bool (L[i]).f0, .int .i64 (L[i]).f1]
  | x :: L, 0, _ => by simp [wcs]
  | x :: L, i + 1, h => by
    have := wcs_mid L i (by simpa using h)
    rw [show (i + 1) * 2 = i * 2 + 1 + 1 by omega]
    simpa [wcs] using this
theorem part_w (L : List S68) (i : Nat) (h : i < L.length) (w : World) : (part 68 (wcells L) (i * 2)).run Try.prog w = .ok (.agg #[.bool (L[i]).f0, .int .i64 (L[i]).f1]) w := by
  have hc : (wcells L).extract (i * 2) (i * 2 + 2) = #[.bool (L[i]).f0, .int .i64 (L[i]).f1] := by
    apply Array.toList_inj.1
    rw [Array.toList_extract]
    have := wcs_mid L i h
    simpa [wcells, List.extract] using this
  have hi := info_eq 68 (by kernel_rfl)
  obtain ⟨i68, h68, _⟩ := hi
  have h2 : Try.prog.cellsOf 68 = 2 := by kernel_rfl
  simp only [part, isAgg, Sem.run_bind, run_underlying Try.underlying68, Result.andThen_ok, Sem.run_pure, if_true, run_sizeOf w h68, h2, hc]
theorem eqItems_w (d : Nat) (A : List S68) (hA : A.length = 24) (w : World) : ∀ is : List Nat, (∀ i ∈ is, i < 24) → (Op.eqItems (d + 2) 68 2 (wcells A) (wcells A) is).run Try.prog w = .ok true w
  | [], _ => by simp [Op.eqItems]
  | i :: is, h => by
    have hi : i < 24 := h i (List.mem_cons_self ..)
    have ih := eqItems_w d A hA w is fun j hj => h j (List.mem_cons_of_mem _ hj)
    simp only [Op.eqItems, Sem.run_bind, part_w A i (by omega), Result.andThen_ok, eqA68, ih, beq_self_eq_true, Bool.and_true, Bool.not_true, Bool.false_eq_true, if_false]
theorem eq_words {aF : Act} {o : Oper} {x y : Operand} {t : TypeId} {A : List S68} (ho : o.op = .binOp .eql 69 x y t) (hx : aF.eval x = .agg (wcells A)) (hy : aF.eval y = .agg (wcells A)) (hA : A.length = 24) (w : World) :
    (execOp aF.eval o).run Try.prog w = .ok (.value (.bool true)) w := by
  have c68 := info_eq 68 (by kernel_rfl)
  obtain ⟨i68, h68, _⟩ := c68
  have hc : Try.prog.cellsOf 68 = 2 := by kernel_rfl
  have h2 : (Op.equal 69 (.agg (wcells A)) (.agg (wcells A))).run Try.prog w = .ok true w := by
    show (Op.equalIn (9998 + 1 + 1) 69 (.agg (wcells A)) (.agg (wcells A))).run Try.prog w = .ok true w
    rw [run_equalIn_array w (9998 + 1) (wcells A) (wcells A) Try.underlying69 h68, hc]
    exact eqItems_w 9997 A hA w _ (fun i hi => List.mem_range.1 hi)
  have h1 : (eqGuard .eql 69 x y (.agg (wcells A)) (.agg (wcells A))).run Try.prog w = .ok () w := by
    have hg : Try.prog.eqGuardType Try.prog.depth 69 = false := by kernel_rfl
    simp [eqGuard, run_program, hg]
  unfold execOp
  simp only [ho, hx, hy, Sem.run_bind, h1, binOp, h2, Result.andThen_ok, Sem.run_pure]
/-- Two equal tables told from one another. -/
theorem ne_tabs {aF : Act} {o : Oper} {x y : Operand} {t : TypeId} {A : List Sr} (ho : o.op = .binOp .neq 57 x y t) (hx : aF.eval x = .agg (tcells A)) (hy : aF.eval y = .agg (tcells A)) (hA : A.length = 24) (hn : NoNo A) (w : World) :
    (execOp aF.eval o).run Try.prog w = .ok (.value (.bool false)) w := by
  have h1 := eqGuard_tab .neq x y A A hA hA hn w
  have h2 := ne_tab A A hA hA w
  rw [show decide (A = A) = true from decide_eq_true rfl] at h2
  unfold execOp
  simp only [ho, hx, hy, Sem.run_bind, h1, h2, Result.andThen_ok, Sem.run_pure, Bool.not_true]
/-- An instruction of a row that came in, loaded. -/
def insOf (x : S62) : In := ⟨x.f0, x.f1, x.f2, x.f3, x.f4, x.f5⟩
theorem load_ins {aF : Act} {o : Oper} {x : Operand} {W : World} {A : Option Addr} {l : List S62} (h : Kd.C k62 W A l.length l) (i : Nat) (hi : i < l.length) (ad : Addr) (hA : A = some ad) (ho : o.op = .load 62 x) (hx : aF.eval x = .pointer (some (ad.add (i * 6)))) :
    (execOp aF.eval o).run Try.prog W = .ok (.value (.agg (insOf l[i]).cells)) W := by
  obtain ⟨ad', c, e, hlen, hK, hc⟩ := Kd.C_get h z62 (i : Int) (by omega) (by omega)
  rw [hA] at e
  obtain rfl := Option.some.inj e
  have hg : l.getD (i : Int).toNat z62 = l[i] := by simp [List.getD_eq_getElem?_getD, hi]
  rw [hg] at hK
  obtain rfl := k62_open hK
  have hcl : ∀ j v, [Value.int .i64 l[i].f0, .int .i64 l[i].f1, .int .i64 l[i].f2, .int .i64 l[i].f3, .int .i64 l[i].f4, .int .i64 l[i].f5][j]? = some v → W.cell? ((ad.add (i * 6)).add j) = some v := by
    intro j v hj
    have := hc j v hj
    rw [show (i : Int).toNat * k62.sz + j = i * 6 + j from rfl] at this
    rw [Addr.add_add]
    exact this
  have hl := run_loadCells_list (P := Try.prog) (w := W) (ad.add (i * 6)) _ hcl
  have hi62 := info_eq 62 (by kernel_rfl)
  obtain ⟨i62, h62, _⟩ := hi62
  have h6 : Try.prog.cellsOf 62 = 6 := by kernel_rfl
  unfold execOp
  simp only [ho, hx, Instr.loadAt, Instr.sureAddr, loadVar, isAgg, Sem.run_bind, run_underlying Try.underlying62, Result.andThen_ok, Sem.run_pure, if_true, run_sizeOf W h62, h6]
  have hl' : (loadCells (ad.add (i * 6)) 6).run Try.prog W = .ok (insOf l[i]).cells W := hl
  simp only [hl', Result.andThen_ok]

end Go.Proofs.Ytolacdlobopoiaa.Num
