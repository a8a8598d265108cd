/- env: regions whose values hang on the order -/
import Derived.Test.YtolacdlobopoiaaNum0
import Derived.Test.YtolacdlobopoiaaEnvZ
namespace Go.Proofs.Ytolacdlobopoiaa.Num
open Go.RowKit Go.Proofs.YtolacdlobopoiaaW.PrintWords Go.Proofs.YtolacdlobopoiaaW.PrintLast Go.Proofs.YtolacdlobopoiaaW.PrintMore
attribute [local go_sem] max2_int min2_int max_two min_two max_three min_three max_four min_four   -- for this text's walks alone
set_option linter.unusedVariables false
set_option linter.unusedSimpArgs false

/-! ### The same, where values hang on the order: a family of last frames -/
section
variable {P : Program} {ops : Array Oper} {Q : Exit → Act → World → Prop} {σ : Type}
def ComesS (P : Program) (G : Value → World → Prop) : Result Next → Prop
  | .ok (.value v) w' => G v w'
  | .ok .skip w' => G undef w'
  | .ok (.enter f args) w' => Calls P f args w' fun e w'' => ∃ v, e = .returned v ∧ G v w''
  | _ => False
def StepS (P : Program) (ops : Array Oper) (aF : Act) (o : Oper) (w : World) (G : Value → World → Prop) : Prop :=
  (Region.wanted o (yielded ops aF.tmps) = false ∧ G undef w) ∨
  (Region.wanted o (yielded ops aF.tmps) = true ∧ ComesS P G ((execOp aF.eval o).run P w))
theorem stepS_at {i : Nat} {o : Oper} {a aF : Act} {w : World} {G : Value → World → Prop} {K : Act → World → Prop} (hi : ops[i]? = some o) (he : execOp a.eval o = execOp aF.eval o)
    (hw : Region.wanted o (yielded ops a.tmps) = Region.wanted o (yielded ops aF.tmps)) (h : StepS P ops aF o w G)
    (hK : ∀ v w', G v w' → K (a.put o.dst v) w') : wpOp P ops Q i K a w := by
  unfold wpOp
  simp only [hi, hw]
  rcases h with ⟨h1, h3⟩ | ⟨h1, h2⟩
  · simp only [h1, Bool.false_eq_true, if_false]
    exact hK _ _ h3
  · simp only [h1, if_true]
    left
    unfold Oper.wp
    rw [he]
    generalize (execOp aF.eval o).run P w = r at h2
    cases r with
    | ok n w' =>
      cases n with
      | value v => exact hK _ _ h2
      | skip => exact hK _ _ h2
      | enter f args =>
        refine Calls.mono h2 fun e w'' hh => ?_
        obtain ⟨v, rfl, h4⟩ := hh
        exact hK _ _ h4
      | _ => exact h2.elim
    | halt x w' => exact h2.elim
/-- What comes of an operation: the family's member that has it. -/
def NextS (ops : Array Oper) (aF : σ → Act) (S : σ → Array Bool → World → Prop) (s : σ) (L : Array Bool) (i : Nat) (o : Oper) (v : Value) (w' : World) : Prop :=
  ∃ s', (aF s').put o.dst v = aF s' ∧ (∀ t, Written ops L t → (aF s).tmps[t]? = (aF s').tmps[t]?) ∧ S s' (L.setIfInBounds i true) w'
theorem any_detS {a0 : Act} {vals : σ → List (Tmp × Value)} {S : σ → Array Bool → World → Prop} (hd : detB ops = true) (hv : ∀ s, ((vals s).map (·.1)).all (fun t => ops.any fun o => o.dst == some t) = true)
    (hops : ∀ i o, ops[i]? = some o → ∀ s L w, ListedClosed .any ops L → i ∈ Region.ready .any ops L → S s L w → StepS P ops (putAll a0 (vals s)) o w (NextS ops (fun s => putAll a0 (vals s)) S s L i o))
    (hQ : ∀ s L w, (∀ i, i < ops.size → L.getD i false = true) → S s L w → Q .normal (putAll a0 (vals s)) w) :
    ∀ (fuel : Nat) (s : σ) (L : Array Bool) (a : Act) (w : World), L.size = ops.size → L.toList.count false = fuel → ListedClosed .any ops L → Agr ops a0 (putAll a0 (vals s)) L a → S s L w → wpAny P .any ops Q fuel L a w
  | 0, s, L, a, w, hL, hn, hc, ha, hs => by
    have hall : ∀ i, i < ops.size → L.getD i false = true := by
      intro i hi
      have hm := List.count_eq_zero.1 hn
      cases hg : L.getD i false with
      | true => rfl
      | false =>
        exfalso
        apply hm
        have hlt : i < L.size := by omega
        simp [hlt] at hg
        rw [← hg]
        simp
    have hr : Region.ready .any ops L = [] := by
      apply List.eq_nil_iff_forall_not_mem.2
      intro i hi
      obtain ⟨h1, o, ho, _⟩ := mem_ready.1 hi
      have hlt := (Array.getElem?_eq_some_iff.1 ho).1
      have h2 := hall i hlt
      have hlt' : i < L.size := by omega
      simp [hlt'] at h1 h2
      rw [h1] at h2
      cases h2
    have he := ha.full hall
    subst he
    exact ⟨hr, hQ s L w hall hs⟩
  | fuel + 1, s, L, a, w, hL, hn, hc, ha, hs => by
    refine ⟨fun hr => ?_, fun i hi => ?_⟩
    · have hall : ∀ i, i < ops.size → L.getD i false = true := fun i hi => all_listed hd hL hr (i + 1) i (by omega) hi
      have he := ha.full hall
      subst he
      exact hQ s L w hall hs
    · obtain ⟨h1, o, ho, _⟩ := mem_ready.1 hi
      have hlt := (Array.getElem?_eq_some_iff.1 ho).1
      obtain ⟨hx, hw⟩ := ha.exec hd ho hL hc hi
      refine stepS_at ho hx hw (hops i o ho s L w hc hi hs) fun v w' hN => ?_
      obtain ⟨s', hput, hsame, hs'⟩ := hN
      have ha' : Agr ops a0 (putAll a0 (vals s')) L a := by
        refine ⟨by rw [ha.size, putAll_size, putAll_size], by rw [ha.defers, putAll_def, putAll_def], fun t ht => (ha.met t ht).trans (hsame t ht), ha.other, fun t ht => ?_⟩
        refine (putAll_get (vals s') a0 fun p hp he => ?_).symm
        have h1 := List.all_eq_true.1 (hv s') p.1 (List.mem_map.2 ⟨p, hp, rfl⟩)
        obtain ⟨o, ho, h2⟩ := Array.any_eq_true'.1 h1
        obtain ⟨j, hj⟩ := Array.mem_iff_getElem?.1 ho
        exact ht j o hj (by simpa [he] using h2)
      refine any_detS hd hv hops hQ fuel s' _ _ w' (by simpa using hL) ?_ (hc.set hi) (ha'.put ho hL hput) hs'
      have hlt' : i < L.toList.length := by simpa [hL] using hlt
      have hlf : L.toList[i] = false := by
        have : i < L.size := by omega
        simp [this] at h1
        simpa using h1
      rw [Array.toList_setIfInBounds, List.count_set hlt', hlf, hn]
      simp
theorem region_detS {id : Nat} {a0 : Act} {w : World} (vals : σ → List (Tmp × Value)) (S : σ → Array Bool → World → Prop) (s0 : σ) (hm : P.follows .mixedOrders = true) (hd : detB ops = true)
    (hv : ∀ s, ((vals s).map (·.1)).all (fun t => ops.any fun o => o.dst == some t) = true)
    (hops : ∀ i o, ops[i]? = some o → ∀ s L w, ListedClosed .any ops L → i ∈ Region.ready .any ops L → S s L w → StepS P ops (putAll a0 (vals s)) o w (NextS ops (fun s => putAll a0 (vals s)) S s L i o))
    (h0 : S s0 (Array.replicate ops.size false) w.drew)
    (hQ : ∀ s L w', (∀ i, i < ops.size → L.getD i false = true) → S s L w' → Q .normal (putAll a0 (vals s)) w') : (Code.region id ops true).wp P Q a0 w := by
  refine wp_region_any hm (any_detS (a0 := a0) (vals := vals) hd hv hops hQ ops.size s0 _ a0 _ (by simp) (by simp) ?_ ?_ h0)
  · intro j oj hj hl
    simp [Array.getElem?_replicate] at hl
    split at hl <;> simp_all
  · have hno : ∀ t, ¬ Written ops (Array.replicate ops.size false) t := by
      rintro t ⟨j, o, hj, hdj, hl⟩
      simp [Array.getElem?_replicate] at hl
      split at hl <;> simp_all
    refine ⟨(putAll_size _ _).symm, (putAll_def _ _).symm, fun t hw => absurd hw (hno t), fun t _ => rfl, fun t ht => ?_⟩
    refine (putAll_get (vals s0) a0 fun p hp he => ?_).symm
    have h1 := List.all_eq_true.1 (hv s0) p.1 (List.mem_map.2 ⟨p, hp, rfl⟩)
    obtain ⟨o, ho, h2⟩ := Array.any_eq_true'.1 h1
    obtain ⟨j, hj⟩ := Array.mem_iff_getElem?.1 ho
    exact ht j o hj (by simpa [he] using h2)
end
theorem region_detS' {P : Program} {ops : Array Oper} {Q : Exit → Act → World → Prop} {σ : Type} {id : Nat} {a0 : Act} {w : World} (vals : σ → List (Tmp × Value)) (aF : σ → Act) (S : σ → Array Bool → World → Prop) (s0 : σ) (hm : P.follows .mixedOrders = true) (hd : detB ops = true)
    (hv : ∀ s, ((vals s).map (·.1)).all (fun t => ops.any fun o => o.dst == some t) = true) (haF : ∀ s, putAll a0 (vals s) = aF s)
    (hops : ∀ i o, ops[i]? = some o → ∀ s L w, ListedClosed .any ops L → i ∈ Region.ready .any ops L → S s L w → StepS P ops (aF s) o w (NextS ops aF S s L i o))
    (h0 : S s0 (Array.replicate ops.size false) w.drew)
    (hQ : ∀ s L w', (∀ i, i < ops.size → L.getD i false = true) → S s L w' → Q .normal (aF s) w') : (Code.region id ops true).wp P Q a0 w := by
  obtain rfl : (fun s => putAll a0 (vals s)) = aF := funext haF
  exact region_detS vals S s0 hm hd hv hops h0 hQ
theorem next_same {ops : Array Oper} {σ : Type} {aF : σ → Act} {S : σ → Array Bool → World → Prop} {s : σ} {L : Array Bool} {i : Nat} {o : Oper} {v : Value} {w' : World} (hput : (aF s).put o.dst v = aF s) (hS : S s (L.setIfInBounds i true) w') : NextS ops aF S s L i o v w' :=
  ⟨s, hput, fun _ _ => rfl, hS⟩
theorem next_new {ops : Array Oper} {σ : Type} {aF : σ → Act} {S : σ → Array Bool → World → Prop} {s : σ} {L : Array Bool} {i : Nat} {o : Oper} {v : Value} {w' : World} (s' : σ) (d : Tmp) (hr : i ∈ Region.ready .any ops L) (hd : o.dst = some d)
    (hu : ((List.range ops.size).all fun j => ((ops[j]?).map (·.dst)).getD none != some d || j == i) = true) (hput : (aF s').put o.dst v = aF s') (hnew : aF s' = (aF s).put o.dst v) (hS : S s' (L.setIfInBounds i true) w') : NextS ops aF S s L i o v w' := by
  refine ⟨s', hput, fun t ht => ?_, hS⟩
  rw [hnew, put_get]
  by_cases h : o.dst = some t
  · exfalso
    obtain ⟨j, p, hj, hp, hl⟩ := ht
    have h1 := List.all_eq_true.1 hu j (List.mem_range.2 (Array.getElem?_eq_some_iff.1 hj).1)
    rw [hj] at h1
    have e : d = t := Option.some.inj (hd.symm.trans h)
    subst e
    simp [hp] at h1
    subst h1
    obtain ⟨h2, _⟩ := mem_ready.1 hr
    by_cases hlt : j < L.size
    · simp [hlt] at h2 hl
      rw [h2] at hl
      cases hl
    · simp [Array.getElem?_eq_none (Nat.le_of_not_lt hlt)] at hl
  · rw [if_neg h]
theorem stepS_run {P : Program} {ops : Array Oper} {aF : Act} {o : Oper} {w w' : World} {G : Value → World → Prop} {v : Value} (hgd : Region.wanted o (yielded ops aF.tmps) = true) (hrun : (execOp aF.eval o).run P w = .ok (.value v) w') (hG : G v w') : StepS P ops aF o w G := by
  refine .inr ⟨hgd, ?_⟩
  rw [hrun]
  exact hG
theorem stepS_load_row {P : Program} {ops : Array Oper} {aF : Act} {o : Oper} {w : World} {G : Value → World → Prop} (hgd : Region.wanted o (yielded ops aF.tmps) = true) (ty : TypeId) (x : Operand) (ho : o.op = .load ty x)
    (g : Nat) (hx : aF.eval x = .pointer (some ⟨g, 0, none⟩)) (t : TypeId) (cs : Array Value) (fr : Nat × Nat) (d : TypeDesc) (hg : w.heap[g]? = some (.cells cs t fr))
    (hu : P.underlying ty = some d) (hd : (match d with | .struct _ | .array _ _ => true | _ => false) = true) (hi : (P.info? ty).map (·.size) = some cs.size) (hG : G (.agg cs) w) : StepS P ops aF o w G := by
  refine .inr ⟨hgd, ?_⟩
  unfold execOp
  simp only [ho, hx, Instr.loadAt, Instr.sureAddr, Sem.run_bind, Sem.run_pure, Result.andThen_ok, run_loadVar_row w g t ty cs fr d hg hu hd hi]
  exact hG
theorem stepS_call {P : Program} {ops : Array Oper} {aF : Act} {o : Oper} {w : World} {G : Value → World → Prop} (hgd : Region.wanted o (yielded ops aF.tmps) = true) {f : FuncId} {fn : Func} {xs : Array Operand} {ts : Array TypeId} (hf : P.funcs[f]? = some fn) (hname : (fn.name == "runtime.NumGoroutine") = false) (hb : fn.body.isSome = true) (args : Array Value)
    (hop : o.op = .call { callee := .value (.func f), args := xs, argTypes := ts }) (hargs : xs.toList.map aF.eval = args.toList)
    (h : Calls P f args w fun e w' => ∃ v, e = .returned v ∧ G v w') : StepS P ops aF o w G := by
  refine .inr ⟨hgd, ?_⟩
  have hargs' : xs.map aF.eval = args := by apply Array.toList_inj.1; simpa using hargs
  have he := enters_ hf hname hb args w
  have hrun : (execOp aF.eval o).run P w = .ok (.enter f args) w := by
    unfold execOp
    simp [hop, resolve, Deferred.ofValue, invoke, Act.eval, hargs', he]
  rw [hrun]
  exact h

end Go.Proofs.Ytolacdlobopoiaa.Num
