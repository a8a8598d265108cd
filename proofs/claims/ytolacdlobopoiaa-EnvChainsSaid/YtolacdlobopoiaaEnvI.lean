/- env: what tables do, in plain words; a region that draws its order, its last frame written out -/
import Derived.Test.YtolacdlobopoiaaNum0
import Derived.Test.YtolacdlobopoiaaEnvH
import Derived.Test.YtolacdlobopoiaaEnvF
namespace Go.Proofs.Ytolacdlobopoiaa.Num
open Go.RowKit Go.Proofs.YtolacdlobopoiaaW.PrintWords Go.Proofs.YtolacdlobopoiaaW.PrintLast Go.Proofs.YtolacdlobopoiaaW.PrintMore
attribute [local go_sem] max2_int min2_int max_two min_two max_three min_three max_four min_four   -- for this text's walks alone
set_option linter.unusedVariables false
set_option linter.unusedSimpArgs false

/-! ### What tables do, in plain words -/
theorem inR_at {i : Int} (h : inR i = true) : 0 ≤ i ∧ i ≤ 23 := of_decide_eq_true h
theorem goodB_iff {T : List Sr} : goodB T = true ↔ ∀ i (h : i < T.length), (T[i]).ok = true := by
  constructor
  · intro h i hi; exact goodB_at h i hi
  · intro h
    refine List.all_eq_true.2 fun s hs => ?_
    obtain ⟨i, hi, rfl⟩ := List.mem_iff_getElem.1 hs
    exact h i hi
theorem srAt_ok {T : List Sr} (hT : T.length = 24) (h : goodB T = true) {i : Int} (hi : inR i = true) : (srAt T i).ok = true := by
  have hr := inR_at hi
  have hl : i.toNat < T.length := by omega
  have := goodB_at h i.toNat hl
  unfold srAt
  simpa [List.getD_eq_getElem?_getD, hl] using this
theorem goodB_set {T : List Sr} (h : goodB T = true) (i : Nat) (s : Sr) (hs : s.ok = true) : goodB (T.set i s) = true := by
  refine goodB_iff.2 fun j hj => ?_
  rw [List.getElem_set]
  split
  · exact hs
  · exact goodB_at h j (by simpa using hj)
theorem moveT_good {T : List Sr} (hT : T.length = 24) (h : goodB T = true) (x : In) (hd : inR x.d = true) (ha : inR x.a = true) : goodB (moveT T x) = true := by
  unfold moveT
  repeat' split
  · exact goodB_set h _ _ rfl
  · exact goodB_set h _ _ (srAt_ok hT h ha)
  · exact goodB_set (goodB_set h _ _ (srAt_ok hT h ha)) _ _ (srAt_ok hT h hd)
  · exact h
theorem afterT_good {T : List Sr} (hT : T.length = 24) (x : In) : goodB (afterT T x) = true := by
  unfold afterT
  split
  · rename_i h
    exact moveT_good (goodT_len hT) (goodT_good T) x h.2.1 h.2.2
  · exact goodT_good T
theorem thenG_good {G H : List Sr} (hG : G.length = 24) (h1 : goodB G = true) (h2 : goodB H = true) : goodB (thenG G H) = true := by
  refine goodB_iff.2 fun i hi => ?_
  have hi' : i < H.length := by rw [thenG_len] at hi; exact hi
  have hok := goodB_at h2 i hi'
  simp only [thenG, List.getElem_map]
  cases hs : H[i] with
  | was l =>
    rw [hs] at hok
    exact srAt_ok hG h1 hok
  | is n => rfl
  | no => rw [hs] at hok; exact hok
theorem thenT_good {A B : List Sr} (hA : A.length = 24) : goodB (thenT A B) = true := thenG_good (goodT_len hA) (goodT_good A) (goodT_good B)
theorem noNo_of {T : List Sr} (h : goodB T = true) : NoNo T := by
  intro i _ he
  obtain ⟨hi, hs⟩ := List.getElem?_eq_some_iff.1 he
  have := goodB_at h i hi
  rw [hs] at this
  cases this
theorem srAt_eq {T : List Sr} (i : Int) : srAt T i = (T[i.toNat]?).getD .no := by
  unfold srAt
  rw [List.getD_eq_getElem?_getD]
theorem swap_twice (T : List Sr) (d a : Int) (hd : d.toNat < T.length) (ha : a.toNat < T.length) : (((T.set d.toNat (srAt T a)).set a.toNat (srAt T d)).set d.toNat (srAt ((T.set d.toNat (srAt T a)).set a.toNat (srAt T d)) a)).set a.toNat (srAt ((T.set d.toNat (srAt T a)).set a.toNat (srAt T d)) d) = T := by
  simp only [srAt_eq]
  generalize d.toNat = i at *
  generalize a.toNat = j at *
  apply List.ext_getElem?
  intro k
  simp only [List.getElem?_set, List.length_set]
  by_cases h1 : i = j
  · subst h1
    by_cases h2 : i = k
    · subst h2; simp [hd]
    · simp [h2]
  · have h1' : ¬ j = i := fun e => h1 e.symm
    by_cases h2 : j = k
    · subst h2; simp [hd, ha, h1, h1']
    · by_cases h3 : i = k
      · subst h3; simp [hd, ha, h1, h1']
      · simp [h2, h3]
theorem mov_twice (T : List Sr) (d a : Int) (hd : d.toNat < T.length) (ha : a.toNat < T.length) : (T.set d.toNat (srAt T a)).set d.toNat (srAt (T.set d.toNat (srAt T a)) a) = T.set d.toNat (srAt T a) := by
  rw [List.set_set]
  congr 1
  simp only [srAt_eq, List.getElem?_set]
  by_cases h : d.toNat = a.toNat
  · rw [← h]; simp [hd]
  · simp [h]
theorem afterT_of {T : List Sr} (h : goodB T = true) (x : In) : afterT T x = if x.moves = true ∧ inR x.d = true ∧ inR x.a = true then moveT T x else T := by
  unfold afterT
  rw [goodT_of h]
theorem afterT_len' {T : List Sr} (hT : T.length = 24) (x : In) : (afterT T x).length = 24 := afterT_len x hT
theorem twice_swap (T : List Sr) (hT : T.length = 24) (h : goodB T = true) (d a : Int) : afterT (afterT T ⟨3, d, a, 0, 0, 0⟩) ⟨3, d, a, 0, 0, 0⟩ = T := by
  have hg := afterT_good hT ⟨3, d, a, 0, 0, 0⟩
  rw [afterT_of hg, afterT_of h]
  by_cases c : (In.mk 3 d a 0 0 0).moves = true ∧ inR (In.mk 3 d a 0 0 0).d = true ∧ inR (In.mk 3 d a 0 0 0).a = true
  · rw [if_pos c, if_pos c]
    have h1 := inR_at c.2.1
    have h2 := inR_at c.2.2
    exact swap_twice T d a (by simp at h1; omega) (by simp at h2; omega)
  · rw [if_neg c, if_neg c]
theorem twice_mov (T : List Sr) (hT : T.length = 24) (h : goodB T = true) (d a : Int) : afterT (afterT T ⟨2, d, a, 0, 0, 0⟩) ⟨2, d, a, 0, 0, 0⟩ = afterT T ⟨2, d, a, 0, 0, 0⟩ := by
  have hg := afterT_good hT ⟨2, d, a, 0, 0, 0⟩
  rw [afterT_of hg, afterT_of h]
  by_cases c : (In.mk 2 d a 0 0 0).moves = true ∧ inR (In.mk 2 d a 0 0 0).d = true ∧ inR (In.mk 2 d a 0 0 0).a = true
  · rw [if_pos c, if_pos c]
    have h1 := inR_at c.2.1
    have h2 := inR_at c.2.2
    exact mov_twice T d a (by simp at h1; omega) (by simp at h2; omega)
  · rw [if_neg c, if_neg c]
theorem twice_const (T : List Sr) (hT : T.length = 24) (h : goodB T = true) (d n : Int) : afterT (afterT T ⟨1, d, 0, 0, n, 0⟩) ⟨1, d, 0, 0, n, 0⟩ = afterT T ⟨1, d, 0, 0, n, 0⟩ := by
  have hg := afterT_good hT ⟨1, d, 0, 0, n, 0⟩
  rw [afterT_of hg, afterT_of h]
  by_cases c : (In.mk 1 d 0 0 n 0).moves = true ∧ inR (In.mk 1 d 0 0 n 0).d = true ∧ inR (In.mk 1 d 0 0 n 0).a = true
  · rw [if_pos c, if_pos c]
    exact List.set_set ..
  · rw [if_neg c, if_neg c]
theorem region_det' {P : Program} {ops : Array Oper} {Q : Exit → Act → World → Prop} {id : Nat} {a0 : Act} {w : World} (vals : List (Tmp × Value)) (aF : Act) (S : Array Bool → World → Prop) (hm : P.follows .mixedOrders = true) (hd : detB ops = true)
    (hv : (vals.map (·.1)).all (fun t => ops.any fun o => o.dst == some t) = true) (haF : putAll a0 vals = aF)
    (hops : ∀ i o, ops[i]? = some o → ∀ L w, ListedClosed .any ops L → i ∈ Region.ready .any ops L → S L w → Step P ops aF o w (S (L.setIfInBounds i true)))
    (h0 : S (Array.replicate ops.size false) w.drew)
    (hQ : ∀ L w', (∀ i, i < ops.size → L.getD i false = true) → S L w' → Q .normal aF w') : (Code.region id ops true).wp P Q a0 w := by
  subst haF
  exact region_det vals S hm hd hv hops h0 hQ
/-- Two equal tables compared. -/
theorem eq_step {aF : Act} {o : Oper} {x y : Operand} {t : TypeId} {A : List Sr} (ho : o.op = .binOp .eql 57 x y t) (hx : aF.eval x = .agg (tcells A)) (hy : aF.eval y = .agg (tcells A)) (hA : A.length = 24) (hn : NoNo A) (w : World) :
    (execOp aF.eval o).run Try.prog w = .ok (.value (.bool true)) w := by
  have h1 := eqGuard_tab .eql x y A A hA hA hn w
  have h2 := eq_tab A A hA hA w
  rw [show decide (A = A) = true from decide_eq_true rfl] at h2
  unfold execOp
  simp only [ho, hx, hy, Sem.run_bind, h1, h2, Result.andThen_ok, Sem.run_pure]
def TwSt (T : List Sr) (d a n : Int) (g : Nat) (w w' : World) : Prop :=
  Below w.heap.size w w' ∧ IsTab w' g T ∧ w'.heap[g + 1]? = some (.cells #[.int .i64 3, .int .i64 d, .int .i64 a, .int .i64 0, .int .i64 0, .int .i64 0] 62 (0, 0)) ∧
    w'.heap[g + 1 + 1]? = some (.cells #[.int .i64 2, .int .i64 d, .int .i64 a, .int .i64 0, .int .i64 0, .int .i64 0] 62 (0, 0)) ∧
    w'.heap[g + 1 + 1 + 1]? = some (.cells #[.int .i64 1, .int .i64 d, .int .i64 0, .int .i64 0, .int .i64 n, .int .i64 0] 62 (0, 0))
theorem TwSt.below {T : List Sr} {d a n : Int} {g : Nat} {w w1 w2 : World} (h : TwSt T d a n g w w1) (hb : Below w1.heap.size w1 w2) : TwSt T d a n g w w2 := by
  obtain ⟨h1, h2, h3, h4, h5⟩ := h
  exact ⟨below_step h1 hb, h2.below hb, (hb.block _ (blk_lt h3)).trans h3, (hb.block _ (blk_lt h4)).trans h4, (hb.block _ (blk_lt h5)).trans h5⟩
theorem TwSt.start {T : List Sr} {d a n : Int} {g : Nat} {w W : World} (hg : W.heap.size = g + 1) (hb : Below w.heap.size w W) (ht : IsTab W g T) :
    TwSt T d a n g w (((W.alloc (.cells #[.int .i64 3, .int .i64 d, .int .i64 a, .int .i64 0, .int .i64 0, .int .i64 0] 62)).alloc (.cells #[.int .i64 2, .int .i64 d, .int .i64 a, .int .i64 0, .int .i64 0, .int .i64 0] 62)).alloc (.cells #[.int .i64 1, .int .i64 d, .int .i64 0, .int .i64 0, .int .i64 n, .int .i64 0] 62)).drew := by
  obtain ⟨h1, h2, h3, h4⟩ := three_after (w := W) (w1 := ((W.alloc (.cells #[.int .i64 3, .int .i64 d, .int .i64 a, .int .i64 0, .int .i64 0, .int .i64 0] 62)).alloc (.cells #[.int .i64 2, .int .i64 d, .int .i64 a, .int .i64 0, .int .i64 0, .int .i64 0] 62)).alloc (.cells #[.int .i64 1, .int .i64 d, .int .i64 0, .int .i64 0, .int .i64 n, .int .i64 0] 62)) (Below.refl _ _)
  rw [hg] at h1 h2 h3
  exact ⟨below_drew (below_step hb h4), ht.below (below_drew h4), h1, h2, h3⟩

end Go.Proofs.Ytolacdlobopoiaa.Num
