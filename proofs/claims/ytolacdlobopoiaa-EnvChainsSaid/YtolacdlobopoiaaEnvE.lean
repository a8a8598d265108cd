/- env: the texts of sources; when sources and tables are alike; regions that draw their order -/
import Derived.Test.YtolacdlobopoiaaNum0
import Derived.Test.YtolacdlobopoiaaEnvD
import Derived.Test.YtolacdlobopoiaaNum5
import Derived.Test.YtolacdlobopoiaaWEqStruct
import Derived.ChangeKeysEq
import Derived.Test.YtolacdlobopoiaaFactsL
import Derived.Test.YtolacdlobopoiaaFactsN
import Derived.Test.YtolacdlobopoiaaWLast
namespace Go.Proofs.Ytolacdlobopoiaa.Num
open Go.RowKit Go.Proofs.YtolacdlobopoiaaW.PrintWords Go.Proofs.YtolacdlobopoiaaW.PrintLast Go.Proofs.YtolacdlobopoiaaW.PrintMore
attribute [local go_sem] max2_int min2_int max_two min_two max_three min_three max_four min_four   -- for this text's walks alone
set_option linter.unusedVariables false
set_option linter.unusedSimpArgs false

/-! ### A region that draws its order, where each operation's value is the same whatever came up before it
  Of each operation one fact is shown, at the frame as it stands behind the region, in every world that meets 'S listed': no order is walked. -/
section
variable {P : Program} {ops : Array Oper} {Q : Exit → Act → World → Prop} {aF : Act}
/-- What an operation comes to at the last frame: that frame again. -/
def Comes (P : Program) (aF : Act) (dst : Option Tmp) (G : World → Prop) : Result Next → Prop
  | .ok (.value v) w' => aF.put dst v = aF ∧ G w'
  | .ok .skip w' => aF.put dst undef = aF ∧ G w'
  | .ok (.enter f args) w' => Calls P f args w' fun e w'' => ∃ v, e = .returned v ∧ aF.put dst v = aF ∧ G w''
  | _ => False
def Step (P : Program) (ops : Array Oper) (aF : Act) (o : Oper) (w : World) (G : World → Prop) : Prop :=
  (Region.wanted o (yielded ops aF.tmps) = false ∧ aF.put o.dst undef = aF ∧ G w) ∨
  (Region.wanted o (yielded ops aF.tmps) = true ∧ Comes P aF o.dst G ((execOp aF.eval o).run P w))
theorem step_at {i : Nat} {o : Oper} {a : Act} {w : World} {G : World → Prop} {K : Act → World → Prop} (hi : ops[i]? = some o) (he : execOp a.eval o = execOp aF.eval o)
    (hw : Region.wanted o (yielded ops a.tmps) = Region.wanted o (yielded ops aF.tmps)) (h : Step P ops aF o w G)
    (hK : ∀ v w', aF.put o.dst v = aF → G w' → K (a.put o.dst v) w') : wpOp P ops Q i K a w := by
  unfold wpOp
  simp only [hi, hw]
  rcases h with ⟨h1, h2, h3⟩ | ⟨h1, h2⟩
  · simp only [h1, Bool.false_eq_true, if_false]
    exact hK _ _ h2 h3
  · simp only [h1, if_true]
    left
    unfold Oper.wp
    rw [he]
    generalize (execOp aF.eval o).run P w = r at h2
    cases r with
    | ok n w' =>
      cases n with
      | value v => exact hK _ _ h2.1 h2.2
      | skip => exact hK _ _ h2.1 h2.2
      | enter f args =>
        refine Calls.mono h2 fun e w'' hh => ?_
        obtain ⟨v, rfl, h3, h4⟩ := hh
        exact hK _ _ h3 h4
      | _ => exact h2.elim
    | halt x w' => exact h2.elim
/-- What an operation looks at was written ahead of it, or by nobody in the region. -/
def detB (ops : Array Oper) : Bool :=
  Region.noSelect ops && (List.range ops.size).all fun i => match ops[i]? with
    | some o => (o.after.all fun e => decide (e.on < i)) && (o.looksAt ops).all fun t => (ops.all fun p => p.dst != some t) || (List.range ops.size).any fun j => (((ops[j]?).map (·.dst)).getD none == some t) && Region.reachB .any ops j ops.size i
    | none => true
def Written (ops : Array Oper) (L : Array Bool) (t : Tmp) : Prop := ∃ (j : Nat) (o : Oper), ops[j]? = some o ∧ o.dst = some t ∧ L.getD j false = true
/-- The frame, when L has come up. -/
structure Agr (ops : Array Oper) (a0 aF : Act) (L : Array Bool) (a : Act) : Prop where
  size : a.tmps.size = aF.tmps.size
  defers : a.defers = aF.defers
  met : ∀ t, Written ops L t → a.tmps[t]? = aF.tmps[t]?
  other : ∀ t, ¬ Written ops L t → a.tmps[t]? = a0.tmps[t]?
  apart : ∀ t, (∀ (j : Nat) (o : Oper), ops[j]? = some o → o.dst ≠ some t) → a0.tmps[t]? = aF.tmps[t]?
theorem put_get (a : Act) (dst : Option Tmp) (v : Value) (t : Nat) : (a.put dst v).tmps[t]? = if dst = some t then (if t < a.tmps.size then some v else none) else a.tmps[t]? := by
  cases dst with
  | none => simp [Act.put]
  | some d =>
    by_cases h : d = t
    · subst h; simp [Act.put, Array.getElem?_setIfInBounds]
    · simp [Act.put, Array.getElem?_setIfInBounds_ne h, h]
theorem put_size (a : Act) (dst : Option Tmp) (v : Value) : (a.put dst v).tmps.size = a.tmps.size := by
  cases dst <;> simp [Act.put]
theorem put_def (a : Act) (dst : Option Tmp) (v : Value) : (a.put dst v).defers = a.defers := by
  cases dst <;> rfl
theorem Agr.put {a0 a : Act} {L : Array Bool} {i : Nat} {o : Oper} {v : Value} (hi : ops[i]? = some o) (hL : L.size = ops.size) (h : Agr ops a0 aF L a) (hv : aF.put o.dst v = aF) :
    Agr ops a0 aF (L.setIfInBounds i true) (a.put o.dst v) := by
  have hlt : i < ops.size := (Array.getElem?_eq_some_iff.1 hi).1
  have hF : ∀ t, o.dst = some t → aF.tmps[t]? = if t < aF.tmps.size then some v else none := by
    intro t ht
    have := put_get aF o.dst v t
    rw [hv, if_pos ht] at this
    exact this
  have hset : (L.setIfInBounds i true).getD i false = true := by simp [hL, hlt]
  refine ⟨by rw [put_size]; exact h.size, by rw [put_def]; exact h.defers, ?_, ?_, h.apart⟩
  · rintro t ⟨j, oj, hj, hdj, hlj⟩
    rw [put_get]
    by_cases hd : o.dst = some t
    · rw [if_pos hd, hF t hd, h.size]
    · rw [if_neg hd]
      refine h.met t ⟨j, oj, hj, hdj, ?_⟩
      have hne : i ≠ j := by
        rintro rfl
        rw [hi] at hj
        cases hj
        exact hd hdj
      rwa [getD_set_ne false hne] at hlj
  · intro t hn
    rw [put_get]
    by_cases hd : o.dst = some t
    · exact absurd ⟨i, o, hi, hd, hset⟩ hn
    · rw [if_neg hd]
      refine h.other t ?_
      rintro ⟨j, oj, hj, hdj, hlj⟩
      exact hn ⟨j, oj, hj, hdj, getD_set_true hlj⟩
theorem detB_spec (h : detB ops = true) {i : Nat} {o : Oper} (hi : ops[i]? = some o) : (∀ e ∈ o.after, e.on < i) ∧ ∀ t ∈ o.looksAt ops, (∀ (j : Nat) (p : Oper), ops[j]? = some p → p.dst ≠ some t) ∨ ∃ (j : Nat) (p : Oper), ops[j]? = some p ∧ p.dst = some t ∧ Region.reachB .any ops j ops.size i = true := by
  unfold detB at h
  simp only [Bool.and_eq_true] at h
  have h1 := List.all_eq_true.1 h.2 i (List.mem_range.2 (Array.getElem?_eq_some_iff.1 hi).1)
  simp only [hi, Bool.and_eq_true] at h1
  refine ⟨fun e he => by simpa using Array.all_eq_true_iff_forall_mem.1 h1.1 e he, fun t ht => ?_⟩
  have h2 := List.all_eq_true.1 h1.2 t ht
  rw [Bool.or_eq_true] at h2
  rcases h2 with h2 | h2
  · left
    intro j p hj
    have := Array.all_eq_true_iff_forall_mem.1 h2 p (Array.mem_of_getElem? hj)
    simpa using this
  · right
    obtain ⟨j, hj, h3⟩ := List.any_eq_true.1 h2
    rw [Bool.and_eq_true] at h3
    have hlt := List.mem_range.1 hj
    refine ⟨j, ops[j], Array.getElem?_eq_some_iff.2 ⟨hlt, rfl⟩, ?_, h3.2⟩
    have h4 := h3.1
    rw [Array.getElem?_eq_some_iff.2 ⟨hlt, rfl⟩] at h4
    simpa using h4
theorem getD_true_false {L : Array Bool} {j : Nat} (hlt : j < L.size) (h : L.getD j true = true) : L.getD j false = true := by
  simp [hlt] at h ⊢
  exact h
theorem Agr.looks {a0 a : Act} {L : Array Bool} {i : Nat} {o : Oper} (hd : detB ops = true) (hi : ops[i]? = some o) (hL : L.size = ops.size) (hc : ListedClosed .any ops L) (hr : i ∈ Region.ready .any ops L)
    (h : Agr ops a0 aF L a) : ∀ t ∈ o.looksAt ops, a.tmps[t]? = aF.tmps[t]? := by
  intro t ht
  rcases (detB_spec hd hi).2 t ht with h1 | ⟨j, p, hj, hp, hrj⟩
  · rw [h.other t (fun ⟨j, oj, hj, hdj, _⟩ => h1 j oj hj hdj), h.apart t h1]
  · refine h.met t ⟨j, p, hj, hp, ?_⟩
    have hlt := (Array.getElem?_eq_some_iff.1 hj).1
    cases hg : L.getD j true with
    | false => exact absurd hr (Region.reach_not_ready hc hrj hg)
    | true => exact getD_true_false (by omega) hg
theorem Agr.exec {a0 a : Act} {L : Array Bool} {i : Nat} {o : Oper} (hd : detB ops = true) (hi : ops[i]? = some o) (hL : L.size = ops.size) (hc : ListedClosed .any ops L) (hr : i ∈ Region.ready .any ops L)
    (h : Agr ops a0 aF L a) : execOp a.eval o = execOp aF.eval o ∧ Region.wanted o (yielded ops a.tmps) = Region.wanted o (yielded ops aF.tmps) := by
  have hl := h.looks hd hi hL hc hr
  constructor
  · refine execOp_congr o (Region.noSelect_spec (by unfold detB at hd; simp only [Bool.and_eq_true] at hd; exact hd.1) i o · · hi) fun x hx => ?_
    cases x with
    | tmp t =>
      have := hl t (List.mem_append_left _ (List.mem_filterMap.2 ⟨.tmp t, by simpa using hx, rfl⟩))
      simp only [Act.eval, Array.getD_eq_getD_getElem?, this]
    | _ => rfl
  · unfold Region.wanted
    cases hg : o.guard with
    | none => rfl
    | some gw =>
      obtain ⟨g, want⟩ := gw
      have hy : yielded ops a.tmps g = yielded ops aF.tmps g := by
        unfold yielded
        cases ht : (ops[g]?).bind (·.dst) with
        | none => rfl
        | some t =>
          have := hl t (by simp [Oper.looksAt, hg, ht])
          simp only [Option.bind_some, this]
      simp only [hy]
theorem all_listed (hd : detB ops = true) {L : Array Bool} (hL : L.size = ops.size) (hr : Region.ready .any ops L = []) : ∀ n i, i < n → i < ops.size → L.getD i false = true
  | 0, _, h, _ => absurd h (Nat.not_lt_zero _)
  | n + 1, i, hin, hlt => by
    cases hg : L.getD i true with
    | true => exact getD_true_false (by omega) hg
    | false =>
      have hi : ops[i]? = some ops[i] := Array.getElem?_eq_some_iff.2 ⟨hlt, rfl⟩
      have hm : i ∈ Region.ready .any ops L := mem_ready.2 ⟨hg, ops[i], hi, fun e he _ => by
        have := (detB_spec hd hi).1 e he
        exact all_listed hd hL hr n e.on (by omega) (by omega)⟩
      rw [hr] at hm
      cases hm
theorem Agr.full {a0 a : Act} {L : Array Bool} (hall : ∀ i, i < ops.size → L.getD i false = true) (h : Agr ops a0 aF L a) : a = aF := by
  obtain ⟨ts, ds⟩ := a
  obtain ⟨tf, df⟩ := aF
  have h1 : ts = tf := by
    refine Array.ext_getElem? fun t => ?_
    by_cases hw : Written ops L t
    · exact h.met t hw
    · have hn : ∀ (j : Nat) (o : Oper), ops[j]? = some o → o.dst ≠ some t := fun j o hj hdj => hw ⟨j, o, hj, hdj, hall j (Array.getElem?_eq_some_iff.1 hj).1⟩
      exact (h.other t hw).trans (h.apart t hn)
  have h2 : ds = df := h.defers
  rw [h1, h2]
theorem any_det {a0 : Act} {S : Array Bool → World → Prop} (hd : detB ops = true)
    (hops : ∀ i o, ops[i]? = some o → ∀ L w, ListedClosed .any ops L → i ∈ Region.ready .any ops L → S L w → Step P ops aF o w (S (L.setIfInBounds i true)))
    (hQ : ∀ L w, (∀ i, i < ops.size → L.getD i false = true) → S L w → Q .normal aF w) :
    ∀ (fuel : Nat) (L : Array Bool) (a : Act) (w : World), L.size = ops.size → L.toList.count false = fuel → ListedClosed .any ops L → Agr ops a0 aF L a → S L w → wpAny P .any ops Q fuel L a w
  | 0, L, a, w, hL, hn, hc, ha, hs => by
    have hall : ∀ i, i < ops.size → L.getD i false = true := by
      intro i hi
      have hm := List.count_eq_zero.1 hn
      cases hg : L.getD i false with
      | true => rfl
      | false =>
        exfalso
        apply hm
        have hlt : i < L.size := by omega
        simp [hlt] at hg
        rw [← hg]
        simp
    have hr : Region.ready .any ops L = [] := by
      apply List.eq_nil_iff_forall_not_mem.2
      intro i hi
      obtain ⟨h1, o, ho, _⟩ := mem_ready.1 hi
      have hlt := (Array.getElem?_eq_some_iff.1 ho).1
      have h2 := hall i hlt
      have hlt' : i < L.size := by omega
      simp [hlt'] at h1 h2
      rw [h1] at h2
      cases h2
    have he := ha.full hall
    subst he
    exact ⟨hr, hQ L w hall hs⟩
  | fuel + 1, L, a, w, hL, hn, hc, ha, hs => by
    refine ⟨fun hr => ?_, fun i hi => ?_⟩
    · have hall : ∀ i, i < ops.size → L.getD i false = true := fun i hi => all_listed hd hL hr (i + 1) i (by omega) hi
      have he := ha.full hall
      subst he
      exact hQ L w hall hs
    · obtain ⟨h1, o, ho, _⟩ := mem_ready.1 hi
      have hlt := (Array.getElem?_eq_some_iff.1 ho).1
      obtain ⟨hx, hw⟩ := ha.exec hd ho hL hc hi
      refine step_at ho hx hw (hops i o ho L w hc hi hs) fun v w' hv hs' => ?_
      refine any_det hd hops hQ fuel _ _ w' (by simpa using hL) ?_ (hc.set hi) (ha.put ho hL hv) hs'
      have hlt' : i < L.toList.length := by simpa [hL] using hlt
      have hlf : L.toList[i] = false := by
        have : i < L.size := by omega
        simp [this] at h1
        simpa using h1
      rw [Array.toList_setIfInBounds, List.count_set hlt', hlf, hn]
      simp
theorem putAll_size : ∀ (vals : List (Tmp × Value)) (a : Act), (putAll a vals).tmps.size = a.tmps.size
  | [], _ => rfl
  | (n, v) :: r, a => by unfold putAll; rw [putAll_size r, put_size]
theorem putAll_def : ∀ (vals : List (Tmp × Value)) (a : Act), (putAll a vals).defers = a.defers
  | [], _ => rfl
  | (n, v) :: r, a => by unfold putAll; rw [putAll_def r, put_def]
theorem putAll_get {t : Nat} : ∀ (vals : List (Tmp × Value)) (a : Act), (∀ p ∈ vals, p.1 ≠ t) → (putAll a vals).tmps[t]? = a.tmps[t]?
  | [], _, _ => rfl
  | (n, v) :: r, a, h => by
    unfold putAll
    rw [putAll_get r _ fun p hp => h p (List.mem_cons_of_mem _ hp), put_get, if_neg]
    intro e
    exact h (n, v) (List.mem_cons_self ..) (Option.some.inj e)
theorem region_det {id : Nat} {a0 : Act} {w : World} (vals : List (Tmp × Value)) (S : Array Bool → World → Prop) (hm : P.follows .mixedOrders = true) (hd : detB ops = true)
    (hv : (vals.map (·.1)).all (fun t => ops.any fun o => o.dst == some t) = true)
    (hops : ∀ i o, ops[i]? = some o → ∀ L w, ListedClosed .any ops L → i ∈ Region.ready .any ops L → S L w → Step P ops (putAll a0 vals) o w (S (L.setIfInBounds i true)))
    (h0 : S (Array.replicate ops.size false) w.drew)
    (hQ : ∀ L w', (∀ i, i < ops.size → L.getD i false = true) → S L w' → Q .normal (putAll a0 vals) w') : (Code.region id ops true).wp P Q a0 w := by
  refine wp_region_any hm (any_det (a0 := a0) (aF := putAll a0 vals) hd hops hQ ops.size _ a0 _ (by simp) (by simp) ?_ ?_ h0)
  · intro j oj hj hl
    simp [Array.getElem?_replicate] at hl
    split at hl <;> simp_all
  · have hno : ∀ t, ¬ Written ops (Array.replicate ops.size false) t := by
      rintro t ⟨j, o, hj, hdj, hl⟩
      simp [Array.getElem?_replicate] at hl
      split at hl <;> simp_all
    refine ⟨(putAll_size _ _).symm, (putAll_def _ _).symm, fun t hw => absurd hw (hno t), fun t _ => rfl, fun t ht => ?_⟩
    refine (putAll_get vals a0 fun p hp he => ?_).symm
    have h1 := List.all_eq_true.1 hv p.1 (List.mem_map.2 ⟨p, hp, rfl⟩)
    obtain ⟨o, ho, h2⟩ := Array.any_eq_true'.1 h1
    obtain ⟨j, hj⟩ := Array.mem_iff_getElem?.1 ho
    exact ht j o hj (by simpa [he] using h2)
end

theorem env_WasText (l : Int) (s : ByteArray) (c : Int) (hs : loc_Text.f l = some (s, c)) (w : World) : Calls Try.prog 36 #[.agg #[.int .i64 l]] w fun e w' => e = .returned (.string s) ∧ Below w.heap.size w w' := by
  have HS := Aside0.mk hs
  clear hs
  go_enter Try.func36, Try.ntmps36
  go_wp2_with (first
      | (go_at_call 20; refine (loc_Text.calls l s c _ HS.out).mono ?_; rintro e w1 ⟨rfl, hb⟩; have HB := Aside0.mk (below_step (below_alloc (Below.refl _ _) _) hb); clear hb))
  go_ret
  exact ⟨rfl, HB.out⟩
theorem env_IsText (k : Nat) (n : Int) (s : ByteArray) (hs : num_Text.f k n = some s) (w : World) : Calls Try.prog 37 #[.agg #[.int .i64 n]] w fun e w' => e = .returned (.string s) ∧ Below w.heap.size w w' := by
  have HS := Aside0.mk hs
  clear hs
  go_enter Try.func37, Try.ntmps37
  go_wp2_with (first
      | (go_at_call 34; refine (num_Text.calls k n s _ HS.out).mono ?_; rintro e w1 ⟨rfl, hb⟩; have HB := Aside0.mk (below_step (below_alloc (Below.refl _ _) _) hb); clear hb))
  go_ret
  exact ⟨rfl, HB.out⟩
theorem eqIn_int (d : Nat) (t : TypeId) (ht : Try.prog.underlying t = some (.int .i64)) (l m : Int) (w : World) : (Op.equalIn (d + 1) t (.int .i64 l) (.int .i64 m)).run Try.prog w = .ok (l == m) w := by
  simp [Op.equalIn, Sem.run_bind, run_underlying ht]
theorem eqIn_was (d : Nat) (l m : Int) (w : World) : (Op.equalIn (d + 2) 47 (.agg #[.int .i64 l]) (.agg #[.int .i64 m])).run Try.prog w = .ok (l == m) w :=
  eqA_of Try.underlying47 (by kernel_rfl) (eqf_last (by rfl) (a := .int .i64 l) (b := .int .i64 m) (by kernel_rfl) (by kernel_rfl) (eqIn_int d 3 Try.underlying3 l m w))
theorem eqIn_is (d : Nat) (l m : Int) (w : World) : (Op.equalIn (d + 2) 49 (.agg #[.int .i64 l]) (.agg #[.int .i64 m])).run Try.prog w = .ok (l == m) w :=
  eqA_of Try.underlying49 (by kernel_rfl) (eqf_last (by rfl) (a := .int .i64 l) (b := .int .i64 m) (by kernel_rfl) (by kernel_rfl) (eqIn_int d 2 Try.underlying2 l m w))
theorem eqIn_iface (d : Nat) (t : TypeId) (ti : TypeInfo) (hi : Try.prog.info? t = some ti) (hc : ti.comparable = true) (x y : Value) (r : Bool) (w : World) (h : (Op.equalIn d t x y).run Try.prog w = .ok r w) : (Op.equalIn (d + 1) 55 (.iface t x) (.iface t y)).run Try.prog w = .ok r w := by
  simp [Op.equalIn, Sem.run_bind, run_underlying Try.underlying55, run_typeInfo w hi, hc, h]
theorem info_eq (t : TypeId) (h : ((Try.prog.info? t).map (·.comparable)) = some true) : ∃ ti, Try.prog.info? t = some ti ∧ ti.comparable = true := by
  cases hi : Try.prog.info? t with
  | none => rw [hi] at h; cases h
  | some ti => rw [hi] at h; exact ⟨ti, rfl, Option.some.inj h⟩
theorem eqIn_other (d : Nat) (t t' : TypeId) (ht : t ≠ t') (x y : Value) (w : World) : (Op.equalIn (d + 1) 55 (.iface t x) (.iface t' y)).run Try.prog w = .ok false w := by
  simp [Op.equalIn, Sem.run_bind, run_underlying Try.underlying55, ht]
theorem eqIn_held (d : Nat) (t : TypeId) (x : Value) (w : World) : (Op.equalIn (d + 1) 55 (.iface t x) .nilIface).run Try.prog w = .ok false w := by
  simp [Op.equalIn, Sem.run_bind, run_underlying Try.underlying55]
theorem eqIn_nilheld (d : Nat) (t : TypeId) (x : Value) (w : World) : (Op.equalIn (d + 1) 55 .nilIface (.iface t x)).run Try.prog w = .ok false w := by
  simp [Op.equalIn, Sem.run_bind, run_underlying Try.underlying55]
theorem eqIn_nils (d : Nat) (w : World) : (Op.equalIn (d + 1) 55 .nilIface .nilIface).run Try.prog w = .ok true w := by
  simp [Op.equalIn, Sem.run_bind, run_underlying Try.underlying55]
theorem eqIn_sr (d : Nat) (s u : Sr) (w : World) : (Op.equalIn (d + 3) 55 s.v u.v).run Try.prog w = .ok (decide (s = u)) w := by
  have c47 := info_eq 47 (by kernel_rfl)
  have c49 := info_eq 49 (by kernel_rfl)
  obtain ⟨i47, h47, k47⟩ := c47
  obtain ⟨i49, h49, k49⟩ := c49
  cases s with
  | was l =>
    cases u with
    | was m =>
      refine (eqIn_iface (d + 2) 47 i47 h47 k47 _ _ _ w (eqIn_was d l m w)).trans ?_
      by_cases h : l = m <;> simp [h]
    | is m => exact eqIn_other (d + 2) 47 49 (by decide) _ _ w
    | no => exact eqIn_held (d + 2) 47 _ w
  | is l =>
    cases u with
    | is m =>
      refine (eqIn_iface (d + 2) 49 i49 h49 k49 _ _ _ w (eqIn_is d l m w)).trans ?_
      by_cases h : l = m <;> simp [h]
    | was m => exact eqIn_other (d + 2) 49 47 (by decide) _ _ w
    | no => exact eqIn_held (d + 2) 49 _ w
  | no =>
    cases u with
    | was m => exact eqIn_nilheld (d + 2) 47 _ w
    | is m => exact eqIn_nilheld (d + 2) 49 _ w
    | no => exact eqIn_nils (d + 2) w
theorem eq_sr (s u : Sr) (w : World) : (binOp .eql 55 s.v u.v).run Try.prog w = .ok (.bool (decide (s = u))) w := by
  have h : (Op.equal 55 s.v u.v).run Try.prog w = .ok (decide (s = u)) w := eqIn_sr 9997 s u w
  generalize hr : decide (s = u) = r at h ⊢
  clear hr
  cases s <;> cases u <;> (simp only [Sr.v] at h ⊢; simp only [binOp, Sem.run_bind, h, Result.andThen_ok, Sem.run_pure])
theorem ne_sr (s u : Sr) (w : World) : (binOp .neq 55 s.v u.v).run Try.prog w = .ok (.bool (!decide (s = u))) w := by
  have h : (Op.equal 55 s.v u.v).run Try.prog w = .ok (decide (s = u)) w := eqIn_sr 9997 s u w
  generalize hr : decide (s = u) = r at h ⊢
  clear hr
  cases s <;> cases u <;> (simp only [Sr.v] at h ⊢; simp only [binOp, Sem.run_bind, h, Result.andThen_ok, Sem.run_pure])
theorem part_sr (T : List Sr) (i : Nat) (h : i < T.length) (w : World) : (part 55 (tcells T) i).run Try.prog w = .ok (T[i]).v w := by
  simp [part, isAgg, run_underlying Try.underlying55, tcells_get T i h]
theorem eqItems_sr (d : Nat) (A B : List Sr) (hA : A.length = 24) (hB : B.length = 24) (w : World) : ∀ is : List Nat, (∀ i ∈ is, i < 24) →
    (Op.eqItems (d + 3) 55 1 (tcells A) (tcells B) is).run Try.prog w = .ok (is.all fun i => decide (A[i]? = B[i]?)) w
  | [], _ => by simp [Op.eqItems]
  | i :: is, h => by
    have hi : i < 24 := h i (List.mem_cons_self ..)
    have ih := eqItems_sr d A B hA hB w is fun j hj => h j (List.mem_cons_of_mem _ hj)
    simp only [Op.eqItems, Sem.run_bind, Nat.mul_one, part_sr A i (by omega), part_sr B i (by omega), Result.andThen_ok, eqIn_sr, ih]
    have hg : decide (A[i]'(by omega) = B[i]'(by omega)) = decide (A[i]? = B[i]?) := by simp [hA, hB, hi]
    rw [hg]
    cases hd : decide (A[i]? = B[i]?) <;> simp [List.all_cons, hd]
    all_goals first | done | (simp at hd; simp [hd, ih])
theorem all_range {A B : List Sr} (hA : A.length = 24) (hB : B.length = 24) : ((List.range 24).all fun i => decide (A[i]? = B[i]?)) = decide (A = B) := by
  rw [Bool.eq_iff_iff]
  simp only [List.all_eq_true, List.mem_range, decide_eq_true_eq]
  constructor
  · intro h
    apply List.ext_getElem?
    intro i
    by_cases hi : i < 24
    · exact h i hi
    · rw [List.getElem?_eq_none (by omega), List.getElem?_eq_none (by omega)]
  · rintro rfl i _
    rfl
theorem eqIn_tab (d : Nat) (A B : List Sr) (hA : A.length = 24) (hB : B.length = 24) (w : World) : (Op.equalIn (d + 4) 57 (.agg (tcells A)) (.agg (tcells B))).run Try.prog w = .ok (decide (A = B)) w := by
  have c55 := info_eq 55 (by kernel_rfl)
  obtain ⟨i55, h55, _⟩ := c55
  rw [run_equalIn_array w (d + 3) (tcells A) (tcells B) Try.underlying57 h55]
  have hc : Try.prog.cellsOf 55 = 1 := by kernel_rfl
  rw [hc, eqItems_sr d A B hA hB w (List.range 24) (fun i hi => List.mem_range.1 hi), all_range hA hB]
theorem eq_tab (A B : List Sr) (hA : A.length = 24) (hB : B.length = 24) (w : World) : (binOp .eql 57 (.agg (tcells A)) (.agg (tcells B))).run Try.prog w = .ok (.bool (decide (A = B))) w := by
  have h : (Op.equal 57 (.agg (tcells A)) (.agg (tcells B))).run Try.prog w = .ok (decide (A = B)) w := eqIn_tab 9996 A B hA hB w
  simp only [binOp, Sem.run_bind, h, Result.andThen_ok, Sem.run_pure]
theorem ne_tab (A B : List Sr) (hA : A.length = 24) (hB : B.length = 24) (w : World) : (binOp .neq 57 (.agg (tcells A)) (.agg (tcells B))).run Try.prog w = .ok (.bool (!decide (A = B))) w := by
  have h : (Op.equal 57 (.agg (tcells A)) (.agg (tcells B))).run Try.prog w = .ok (decide (A = B)) w := eqIn_tab 9996 A B hA hB w
  simp only [binOp, Sem.run_bind, h, Result.andThen_ok, Sem.run_pure]
def NoNo (A : List Sr) : Prop := ∀ i : Nat, i < 24 → A[i]? ≠ some .no
theorem guard_sr (d : Nat) (s u : Sr) (h : s ≠ .no) (w : World) : (Op.eqGuardIn (d + 1) 55 s.v u.v).run Try.prog w = .ok false w := by
  cases s with
  | no => exact absurd rfl h
  | was l => cases u <;> simp [Sr.v, Op.eqGuardIn, Sem.run_bind, run_underlying Try.underlying55]
  | is l => cases u <;> simp [Sr.v, Op.eqGuardIn, Sem.run_bind, run_underlying Try.underlying55]
theorem guard_tab (d : Nat) (A B : List Sr) (hA : A.length = 24) (hB : B.length = 24) (hn : NoNo A) (w : World) : (Op.eqGuardIn (d + 2) 57 (.agg (tcells A)) (.agg (tcells B))).run Try.prog w = .ok false w := by
  have c55 := info_eq 55 (by kernel_rfl)
  obtain ⟨i55, h55, _⟩ := c55
  have hc : Try.prog.cellsOf 55 = 1 := by kernel_rfl
  rw [Op.eqGuardIn]
  simp only [Sem.run_bind, run_underlying Try.underlying57, Result.andThen_ok, run_sizeOf w h55, hc, Nat.mul_one]
  simp only [Std.Legacy.Range.forIn_eq_forIn_range', Std.Legacy.Range.size, Nat.sub_zero, Nat.add_one_sub_one, Nat.div_one]
  have hl : ∀ i ∈ List.range' 0 24, i < 24 := by simp
  generalize List.range' 0 24 = is at hl
  induction is with
  | nil => simp
  | cons j is ih =>
    have hj := hl j (List.mem_cons_self ..)
    have h1 : A[j]'(by omega) ≠ .no := fun e => hn j hj (by rw [List.getElem?_eq_getElem (by omega), e])
    simp only [List.forIn_cons, Sem.run_bind, part_sr A j (by omega), part_sr B j (by omega), Result.andThen_ok, guard_sr d _ _ h1, Bool.false_eq_true, if_false, Sem.run_pure]
    exact ih fun i hi => hl i (List.mem_cons_of_mem _ hi)
theorem eqGuard_tab (op : BinOp) (x y : Operand) (A B : List Sr) (hA : A.length = 24) (hB : B.length = 24) (hn : NoNo A) (w : World) : (eqGuard op 57 x y (.agg (tcells A)) (.agg (tcells B))).run Try.prog w = .ok () w := by
  have h : (Op.eqGuardIn Op.maxDepth 57 (.agg (tcells A)) (.agg (tcells B))).run Try.prog w = .ok false w := guard_tab 9998 A B hA hB hn w
  cases op <;> simp [eqGuard, run_program, h]
  all_goals (split <;> simp)

end Go.Proofs.Ytolacdlobopoiaa.Num
