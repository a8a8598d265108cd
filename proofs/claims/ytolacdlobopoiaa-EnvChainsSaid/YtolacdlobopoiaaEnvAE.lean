/- env: the walk of EnvChains -/
import Derived.Test.YtolacdlobopoiaaNum0
import Derived.Test.YtolacdlobopoiaaEnvAD
import Derived.Deep.Cut
import Derived.Deep.CutBlock
import Derived.Deep.CutRange
import Derived.Test.YtolacdlobopoiaaEnvF
import Derived.Test.YtolacdlobopoiaaEnvG
import Derived.Test.YtolacdlobopoiaaEnvU
namespace Go.Proofs.Ytolacdlobopoiaa.Num
open Go.RowKit Go.Proofs.YtolacdlobopoiaaW.PrintWords Go.Proofs.YtolacdlobopoiaaW.PrintLast Go.Proofs.YtolacdlobopoiaaW.PrintMore
attribute [local go_sem] max2_int min2_int max_two min_two max_three min_three max_four min_four   -- for this text's walks alone
set_option linter.unusedVariables false
set_option linter.unusedSimpArgs false

def ChSt (w : World) (gw g : Nat) (Ws : List S68) (A B C D : List Sr) (W : World) : Prop :=
  Below w.heap.size w W ∧ w.heap.size ≤ gw ∧ gw < g ∧ IsW W gw Ws ∧ IsTab W g A ∧ IsTab W (g + 1) B ∧ IsTab W (g + 1 + 1) C ∧ IsTab W (g + 1 + 1 + 1) D
section
variable {w W W' w5 : World} {gw g : Nat} {Ws : List S68} {A B C D T : List Sr}
theorem ChSt.below (h : ChSt w gw g Ws A B C D W) (hb : Below W.heap.size W W') : ChSt w gw g Ws A B C D W' := by
  obtain ⟨h1, h2, h3, h4, h5, h6, h7, h8⟩ := h
  exact ⟨below_step h1 hb, h2, h3, h4.below hb, h5.below hb, h6.below hb, h7.below hb, h8.below hb⟩
theorem ChSt.begin (hb : Below w.heap.size w w5) (hgw : w.heap.size ≤ gw) (hlt : gw < w5.heap.size) (hw : IsW w5 gw Ws) :
    ChSt w gw w5.heap.size Ws noes noes noes noes ((((w5.alloc (.cells (tcells noes) 57)).alloc (.cells (tcells noes) 57)).alloc (.cells (tcells noes) 57)).alloc (.cells (tcells noes) 57)) := by
  obtain ⟨h1, h2, h3, h4, h5⟩ := four_after (w := w5) (Below.refl _ ((((w5.alloc (.cells (tcells noes) 57)).alloc (.cells (tcells noes) 57)).alloc (.cells (tcells noes) 57)).alloc (.cells (tcells noes) 57)))
  exact ⟨below_step hb h5, hgw, hlt, hw.below h5, h1, h2, h3, h4⟩
theorem ChSt.set0 (h : ChSt w gw g Ws A B C D W) : ChSt w gw g Ws T B C D (W.setRow g (tcells T)) := by
  obtain ⟨h1, h2, h3, h4, h5, h6, h7, h8⟩ := h
  exact ⟨below_setRow h1 (by omega) _, h2, h3, h4.row (by omega) _, h5.laid, h6.row (by omega) _, h7.row (by omega) _, h8.row (by omega) _⟩
theorem ChSt.set1 (h : ChSt w gw g Ws A B C D W) : ChSt w gw g Ws A T C D (W.setRow (g + 1) (tcells T)) := by
  obtain ⟨h1, h2, h3, h4, h5, h6, h7, h8⟩ := h
  exact ⟨below_setRow h1 (by omega) _, h2, h3, h4.row (by omega) _, h5.row (by omega) _, h6.laid, h7.row (by omega) _, h8.row (by omega) _⟩
theorem ChSt.set2 (h : ChSt w gw g Ws A B C D W) : ChSt w gw g Ws A B T D (W.setRow (g + 1 + 1) (tcells T)) := by
  obtain ⟨h1, h2, h3, h4, h5, h6, h7, h8⟩ := h
  exact ⟨below_setRow h1 (by omega) _, h2, h3, h4.row (by omega) _, h5.row (by omega) _, h6.row (by omega) _, h7.laid, h8.row (by omega) _⟩
theorem ChSt.set3 (h : ChSt w gw g Ws A B C D W) : ChSt w gw g Ws A B C T (W.setRow (g + 1 + 1 + 1) (tcells T)) := by
  obtain ⟨h1, h2, h3, h4, h5, h6, h7, h8⟩ := h
  exact ⟨below_setRow h1 (by omega) _, h2, h3, h4.row (by omega) _, h5.row (by omega) _, h6.row (by omega) _, h7.row (by omega) _, h8.laid⟩
end
/-- A region of seven operations, the last a store that lays the table anew. -/
def pickT (b : Bool) (T T' : List Sr) : List Sr := if b = true then T' else T
def ChR (St : List Sr → World → Prop) (A A' : List Sr) (L : Array Bool) (W : World) : Prop := L.size = 7 ∧ St (pickT (L.getD 6 false) A A') W
section
variable {St : List Sr → World → Prop} {A A' : List Sr} {L : Array Bool} {W W' : World} {i : Nat}
theorem ChR.now (h : ChR St A A' L W) (n6 : L.getD 6 false = false) : St A W := by
  have := h.2
  rw [n6] at this
  exact this
theorem ChR.keep (h : ChR St A A' L W) (hi : i ≠ 6) (hs : ∀ T, St T W → St T W') : ChR St A A' (L.setIfInBounds i true) W' := by
  refine ⟨by rw [Array.size_setIfInBounds]; exact h.1, ?_⟩
  rw [getD_set_ne false hi]
  exact hs _ h.2
theorem ChR.last (h : ChR St A A' L W) (hs : St A' W') : ChR St A A' (L.setIfInBounds 6 true) W' := by
  refine ⟨by rw [Array.size_setIfInBounds]; exact h.1, ?_⟩
  have : (L.setIfInBounds 6 true).getD 6 false = true := by simp [h.1]
  rw [this]
  exact hs
theorem ChR.start (h : St A W) : ChR St A A' (Array.replicate 7 false) W := ⟨by simp, h⟩
theorem ChR.done (h : ChR St A A' L W) (h6 : L.getD 6 false = true) : St A' W := by
  have := h.2
  rw [h6] at this
  exact this
end
theorem region_det3 {P : Program} {ops : Array Oper} {Q : Exit → Act → World → Prop} {id : Nat} {a0 : Act} {w : World} (vals : List (Tmp × Value)) (S : Array Bool → World → Prop) (hm : P.follows .mixedOrders = true) (hd : detB ops = true)
    (hv : (vals.map (·.1)).all (fun t => ops.any fun o => o.dst == some t) = true)
    (h : ∀ aF, putAll a0 vals = aF → (∀ i o, ops[i]? = some o → ∀ L w, ListedClosed .any ops L → i ∈ Region.ready .any ops L → S L w → Step P ops aF o w (S (L.setIfInBounds i true))) ∧
      S (Array.replicate ops.size false) w.drew ∧ (∀ L w', (∀ i, i < ops.size → L.getD i false = true) → S L w' → Q .normal aF w')) : (Code.region id ops true).wp P Q a0 w := by
  obtain ⟨h1, h2, h3⟩ := h _ rfl
  exact region_det vals S hm hd hv h1 h2 h3
/-- An operation that is not wanted. -/
theorem step_off {P : Program} {ops : Array Oper} {aF : Act} {o : Oper} {w : World} {G : World → Prop} (hgd : Region.wanted o (yielded ops aF.tmps) = false) (hput : aF.put o.dst undef = aF) (hG : G w) : Step P ops aF o w G := .inl ⟨hgd, hput, hG⟩
theorem unlisted {ops : Array Oper} {L : Array Bool} {i : Nat} (hi : i ∈ Region.ready .any ops L) : L.getD i false = false := by
  obtain ⟨h1, _⟩ := mem_ready.1 hi
  cases hg : L.getD i false with
  | false => rfl
  | true =>
    by_cases hlt : i < L.size
    · simp [hlt] at h1 hg
      rw [h1] at hg
      cases hg
    · simp [Array.getElem?_eq_none (Nat.le_of_not_lt hlt)] at hg
theorem ChSt.drew {w W : World} {gw g : Nat} {Ws : List S68} {A B C D : List Sr} (h : ChSt w gw g Ws A B C D W) : ChSt w gw g Ws A B C D W.drew := h.below (below_drew (Below.refl _ _))
theorem run_next {T0 T : List Sr} {l : List S62} {i : Nat} {x : S62} (hT : T = runT T0 ((l.map insOf).take i)) (hx : l[i]? = some x) : afterT T (insOf x) = runT T0 ((l.map insOf).take (i + 1)) := by
  obtain ⟨hi, e⟩ := List.getElem?_eq_some_iff.1 hx
  rw [runT_take T0 (l.map insOf) i (by simpa using hi), hT]
  simp [e]
theorem sizeOf62 (w : World) : (sizeOf 62).run Try.prog w = .ok 6 w := by
  obtain ⟨i62, h62, _⟩ := info_eq 62 (by kernel_rfl)
  have h6 : Try.prog.cellsOf 62 = 6 := by kernel_rfl
  rw [run_sizeOf w h62, h6]
theorem idx_row {aF : Act} {o : Oper} {x y : Operand} (ad : Addr) (n c i : Nat) (hi : i < n) (hn : n ≤ 9223372036854775807) (ho : o.op = .indexAddr 79 x y) (hx : aF.eval x = .slice (some ad) n c) (hy : aF.eval y = .int .i64 (i : Int)) (W : World) :
    (execOp aF.eval o).run Try.prog W = .ok (.value (.pointer (some (ad.add (i * 6))))) W := by
  have h0 : (0 : Int) ≤ i := by omega
  have h1 : (i : Int) < n := by omega
  unfold execOp
  simp only [ho, hx, hy, Sem.run_bind]
  simp [Instr.indexAt, asIntOf, run_underlying Try.underlying79, h0, h1, hi, sizeOf62, Result.andThen, Instr.sureAddr, Program.elem, Try.underlying79]
theorem load_ins' {aF : Act} {o : Oper} {x : Operand} {W w : World} {ad : Addr} {l : List S62} {i : Nat} {y : S62} (h : Kd.C k62 w (some ad) l.length l) (hb : Below w.heap.size w W) (hy : l[i]? = some y) (ho : o.op = .load 62 x) (hx : aF.eval x = .pointer (some (ad.add (i * 6)))) :
    (execOp aF.eval o).run Try.prog W = .ok (.value (.agg (insOf y).cells)) W := by
  obtain ⟨hi, e⟩ := List.getElem?_eq_some_iff.1 hy
  have := load_ins (Kd.C_below h hb) i hi ad rfl ho hx
  rw [e] at this
  exact this
/-- A region that allocates a table (number 5), and lays it (number 6). -/
def ChN (b : Nat) (P : World → Prop) (X : List Sr) (s : Nat) (L : Array Bool) (W : World) : Prop :=
  L.size = 7 ∧ P W ∧ (L.getD 5 false = true → b < s ∧ IsTab W s (pickT (L.getD 6 false) noes X))
section
variable {b : Nat} {P : World → Prop} {X : List Sr} {s : Nat} {L : Array Bool} {W W' : World} {i : Nat}
theorem ChN.keep (h : ChN b P X s L W) (h5 : i ≠ 5) (h6 : i ≠ 6) (hP : P W → P W') (hb : Below W.heap.size W W') : ChN b P X s (L.setIfInBounds i true) W' := by
  refine ⟨by rw [Array.size_setIfInBounds]; exact h.1, hP h.2.1, ?_⟩
  rw [getD_set_ne false h5, getD_set_ne false h6]
  exact fun e => ⟨(h.2.2 e).1, (h.2.2 e).2.below hb⟩
theorem ChN.made (h : ChN b P X s L W) (hb : b < W.heap.size) (h6 : L.getD 6 false = false) (hP : P (W.alloc (.cells (tcells noes) 57))) : ChN b P X W.heap.size (L.setIfInBounds 5 true) (W.alloc (.cells (tcells noes) 57)) := by
  refine ⟨by rw [Array.size_setIfInBounds]; exact h.1, hP, fun _ => ⟨hb, ?_⟩⟩
  rw [getD_set_ne false (by decide), h6]
  exact heap_alloc_last W _
theorem ChN.laid (h : ChN b P X s L W) (h5 : L.getD 5 false = true) (hP : P (W.setRow s (tcells X))) : ChN b P X s (L.setIfInBounds 6 true) (W.setRow s (tcells X)) := by
  refine ⟨by rw [Array.size_setIfInBounds]; exact h.1, hP, fun _ => ⟨(h.2.2 h5).1, ?_⟩⟩
  have : (L.setIfInBounds 6 true).getD 6 false = true := by simp [h.1]
  rw [this]
  exact (h.2.2 h5).2.laid
end
theorem stepS_store_row {P : Program} {ops : Array Oper} {aF : Act} {o : Oper} {w : World} {G : Value → World → Prop} (hgd : Region.wanted o (yielded ops aF.tmps) = true) (ty : TypeId) (x y : Operand) (ho : o.op = .store ty x y)
    (g : Nat) (cells : Array Value) (hx : aF.eval x = .pointer (some ⟨g, 0, none⟩)) (hy : aF.eval y = .agg cells)
    (t : TypeId) (old : Array Value) (hg : w.heap[g]? = some (.cells old t (0, 0))) (hi : (P.info? ty).map (·.size) = some cells.size)
    (hold : old.size = cells.size) (h1 : cells.all (·.oneCell') = true) (hG : G undef (w.setRow g cells)) : StepS P ops aF o w G := by
  refine .inr ⟨hgd, ?_⟩
  unfold execOp
  simp only [ho, hx, hy, Instr.storeAt, Instr.sureAddr, Sem.run_bind, Sem.run_pure, Result.andThen_ok, run_storeVar_row w g t ty old cells hg hi hold h1]
  exact hG
theorem alloc_tab {aF : Act} {o : Oper} (ho : o.op = .alloc 57) (W : World) : (execOp aF.eval o).run Try.prog W = .ok (.value (.pointer (some ⟨W.heap.size, 0, none⟩))) (W.alloc (.cells (tcells noes) 57)) := by
  unfold execOp
  simp only [ho]
  go_simp
  rfl
theorem runs3 (X0 X1 X2 : List In) : thenT (thenT (runT first X0) (runT first X1)) (runT first X2) = runT (runT (runT first X0) X1) X2 := by
  have h1 := runT_run (A := runT first X0) (runT_len first_len _) (runT_good first_len first_good _) X1
  have h2 := runT_run (A := runT (runT first X0) X1) (runT_len (runT_len first_len _) _) (runT_good (runT_len first_len _) (runT_good first_len first_good _) _) X2
  rw [h2, h1]
theorem ChSt.far {w W : World} {gw g s : Nat} {Ws : List S68} {A B C D : List Sr} (h : ChSt w gw g Ws A B C D W) (hs : g + 1 + 1 + 1 < s) (cs : Array Value) : ChSt w gw g Ws A B C D (W.setRow s cs) := by
  obtain ⟨h1, h2, h3, h4, h5, h6, h7, h8⟩ := h
  exact ⟨below_setRow h1 (by omega) _, h2, h3, h4.row (by omega) _, h5.row (by omega) _, h6.row (by omega) _, h7.row (by omega) _, h8.row (by omega) _⟩
/-- .. and the two tables made of three. -/
def ChT (w : World) (gw g : Nat) (Ws : List S68) (A B C D : List Sr) (s : Nat) (W : World) : Prop := ChSt w gw g Ws A B C D W ∧ g + 1 + 1 + 1 < s ∧ IsTab W s D
theorem ChT.below {w W W' : World} {gw g s : Nat} {Ws : List S68} {A B C D : List Sr} (h : ChT w gw g Ws A B C D s W) (hb : Below W.heap.size W W') : ChT w gw g Ws A B C D s W' := ⟨h.1.below hb, h.2.1, h.2.2.below hb⟩
theorem ChT.far {w W : World} {gw g s t : Nat} {Ws : List S68} {A B C D : List Sr} (h : ChT w gw g Ws A B C D s W) (hs : s < t) (cs : Array Value) : ChT w gw g Ws A B C D s (W.setRow t cs) := ⟨h.1.far (by have := h.2.1; omega) cs, h.2.1, h.2.2.row (by omega) cs⟩
def ChV (w : World) (gw g : Nat) (Ws : List S68) (A B C D : List Sr) (s t : Nat) (W : World) : Prop := ChT w gw g Ws A B C D s W ∧ IsTab W t D
theorem ChV.below {w W W' : World} {gw g s t : Nat} {Ws : List S68} {A B C D : List Sr} (h : ChV w gw g Ws A B C D s t W) (hb : Below W.heap.size W W') : ChV w gw g Ws A B C D s t W' := ⟨h.1.below hb, h.2.below hb⟩
theorem region_detS3 {P : Program} {ops : Array Oper} {Q : Exit → Act → World → Prop} {σ : Type} {id : Nat} {a0 : Act} {w : World} (vals : σ → List (Tmp × Value)) (S : σ → Array Bool → World → Prop) (s0 : σ) (hm : P.follows .mixedOrders = true) (hd : detB ops = true)
    (hv : ∀ s, ((vals s).map (·.1)).all (fun t => ops.any fun o => o.dst == some t) = true)
    (h : ∀ aF : σ → Act, (fun s => putAll a0 (vals s)) = aF → (∀ i o, ops[i]? = some o → ∀ s L w, ListedClosed .any ops L → i ∈ Region.ready .any ops L → S s L w → StepS P ops (aF s) o w (NextS ops aF S s L i o)) ∧
      S s0 (Array.replicate ops.size false) w.drew ∧ (∀ s L w', (∀ i, i < ops.size → L.getD i false = true) → S s L w' → Q .normal (aF s) w')) : (Code.region id ops true).wp P Q a0 w := by
  obtain ⟨h1, h2, h3⟩ := h _ rfl
  exact region_detS vals S s0 hm hd hv h1 h2 h3
set_option maxHeartbeats 1000000 in
set_option maxRecDepth 100000 in
theorem chains_of (A0 : Option Addr) (c0 : Nat) (l0 : List S62) (A1 : Option Addr) (c1 : Nat) (l1 : List S62) (A2 : Option Addr) (c2 : Nat) (l2 : List S62) (A3 : Option Addr) (c3 : Nat) (l3 : List Bool) (A4 : Option Addr) (c4 : Nat) (l4 : List Int) (Ws : List S68) (lW : Ws.length = 24) (w : World)
    (h0 : Kd.C k62 w A0 l0.length l0) (h1 : Kd.C k62 w A1 l1.length l1) (h2 : Kd.C k62 w A2 l2.length l2) (hc0 : l0.length ≤ c0) (hc1 : l1.length ≤ c1) (hc2 : l2.length ≤ c2)
    (hW : ∀ w1, Below w.heap.size w w1 → Calls Try.prog 43 #[.slice A3 l3.length c3, .slice A4 l4.length c4] w1 fun e w' => e = .returned (.agg (wcells Ws)) ∧ Below w1.heap.size w1 w')
    : Calls Try.prog 19 #[.slice A0 l0.length c0, .slice A1 l1.length c1, .slice A2 l2.length c2, .slice A3 l3.length c3, .slice A4 l4.length c4] w fun e w' => e = .returned (.bool true) ∧ Below w.heap.size w w' := by
  have m0 := Kd.C_max h0
  have m1 := Kd.C_max h1
  have m2 := Kd.C_max h2
  have HC0 := Aside0.mk h0
  have HC1 := Aside0.mk h1
  have HC2 := Aside0.mk h2
  have HW := Aside0.mk hW
  have LF := Aside0.mk (tab_size first_len)
  have LW := Aside0.mk (wt_size lW)
  have NF : Aside0 ((tcells noes).size = (tcells first).size) := ⟨by rw [tcells_size, tcells_size, first_len]; rfl⟩
  have NW : Aside0 ((wcells w0s).size = (wcells Ws).size) := ⟨by rw [wcells_size, wcells_size, w0s_len, lW]⟩
  have QW := Aside0.mk lW
  clear h0 h1 h2 hW lW
  go_enter Try.func19, Try.ntmps19
  go_upto_block 0 with (first
      | (go_at_call 43; refine (HW.out _ (Below.refl _ _)).mono ?_; rintro e w1 ⟨rfl, hb⟩; have HB1 := Aside0.mk hb; have SZ1 := Aside0.mk hb.size; clear hb)
      | ((with_reducible refine gate_store (t := 69) (p := 11) rfl ?_); refine wpList_store_row rfl 69 _ _ rfl w1.heap.size (wcells Ws) rfl rfl 69 (wcells w0s) (heap_alloc_last w1 _) LW.out NW.out (wcells_one Ws) ?_; have KW1 := Aside0.mk (show IsW _ w1.heap.size Ws from IsW.laid (L := w0s) (heap_alloc_last w1 _)); have HB11 := Aside0.mk (below_setRow (below_alloc HB1.out (.cells (wcells w0s) 69 (0, 0))) HB1.out.size (wcells Ws)))
      | (go_at_call 40; refine (env_New _).mono ?_; rintro e w5 ⟨rfl, hb⟩; have KW5 := Aside0.mk (KW4.out.below hb); have HB5 := Aside0.mk (below_step HB4.out hb); have ST0 := Aside0.mk (ChSt.begin HB5.out SZ1.out (blk_lt KW5.out) KW5.out); clear hb)
      | (go_at_call 40; refine (env_New _).mono ?_; rintro e w4 ⟨rfl, hb⟩; have KW4 := Aside0.mk (KW3.out.below hb); have HB4 := Aside0.mk (below_step HB3.out hb); clear hb)
      | (go_at_call 40; refine (env_New _).mono ?_; rintro e w3 ⟨rfl, hb⟩; have KW3 := Aside0.mk (KW2.out.below hb); have HB3 := Aside0.mk (below_step HB2.out hb); clear hb)
      | (go_at_call 40; refine (env_New _).mono ?_; rintro e w2 ⟨rfl, hb⟩; have KW2 := Aside0.mk (KW1.out.below hb); have HB2 := Aside0.mk (below_step HB11.out hb); have SZ2 := Aside0.mk (blk_lt KW2.out); clear hb)
      | ((with_reducible refine gate_store (t := 57) (p := 12) rfl ?_); refine wpList_store_row rfl 57 _ _ rfl w5.heap.size (tcells first) rfl rfl 57 (tcells noes) ST0.out.2.2.2.2.1 LF.out NF.out (tcells_one first) ?_; have ST1 := Aside0.mk (ST0.out.set0 (T := first)))
      | ((with_reducible refine gate_store (t := 57) (p := 13) rfl ?_); refine wpList_store_row rfl 57 _ _ rfl (w5.heap.size + 1) (tcells first) rfl rfl 57 (tcells noes) ST1.out.2.2.2.2.2.1 LF.out NF.out (tcells_one first) ?_; have ST2 := Aside0.mk (ST1.out.set1 (T := first)))
      | ((with_reducible refine gate_store (t := 57) (p := 14) rfl ?_); refine wpList_store_row rfl 57 _ _ rfl (w5.heap.size + 1 + 1) (tcells first) rfl rfl 57 (tcells noes) ST2.out.2.2.2.2.2.2.1 LF.out NF.out (tcells_one first) ?_; have ST3 := Aside0.mk (ST2.out.set2 (T := first)))
      | ((with_reducible refine gate_store (t := 57) (p := 15) rfl ?_); refine wpList_store_row rfl 57 _ _ rfl (w5.heap.size + 1 + 1 + 1) (tcells first) rfl rfl 57 (tcells noes) ST3.out.2.2.2.2.2.2.2 LF.out NF.out (tcells_one first) ?_; have ST4 := Aside0.mk (ST3.out.set3 (T := first))))
  go_cut [16] from 28 to 49 (fun _ wc => ∃ X : List In, Aside0 (ChSt w w1.heap.size w5.heap.size Ws (runT first X) first first (runT (first) X) wc))
  case first =>
    go_wp2_with fail
    go_loopw [16] (fun c wr => ∃ i : Nat, c = .int .i64 i ∧ Aside0 (i ≤ l0.length ∧ i ≤ 20 ∧ ChSt w w1.heap.size w5.heap.size Ws (runT first ((l0.map insOf).take i)) first first (runT (first) ((l0.map insOf).take i)) wr)) (fun c _ => 20 - (intOf c).toNat)
    case atStart => exact ⟨0, rfl, ⟨⟨Nat.zero_le _, by omega, ST4.out⟩⟩⟩
    case round =>
      obtain ⟨i, rfl, HS⟩ := hrel
      obtain ⟨hi1, hi2, hst⟩ := HS.out
      have HST := Aside0.mk hst
      clear hst HS
      have HM := Aside0.mk m0
      by_cases hi : i < l0.length
      · have hi' : (i : Int) < (l0.length : Int) := by omega
        by_cases hj : i < 20
        · have hj' : (i : Int) < 20 := by omega
          have HI := Aside0.mk hi
          obtain ⟨ad, rfl, HCC⟩ : ∃ ad, A0 = some ad ∧ Aside0 (Kd.C k62 w (some ad) l0.length l0) := by
            obtain ⟨ad, _, e, _⟩ := Kd.C_get HC0.out z62 (i : Int) (by omega) (by omega)
            exact ⟨ad, e, ⟨e ▸ HC0.out⟩⟩
          obtain ⟨T, HT⟩ : ∃ T, Aside0 (T = runT first ((l0.map insOf).take i)) := ⟨_, ⟨rfl⟩⟩
          obtain ⟨U, HU⟩ : ∃ U, Aside0 (U = runT (first) ((l0.map insOf).take i)) := ⟨_, ⟨rfl⟩⟩
          obtain ⟨x, HX⟩ : ∃ x, Aside0 (l0[i]? = some x) := ⟨_, ⟨List.getElem?_eq_getElem hi⟩⟩
          have QT : Aside0 (T.length = 24) := ⟨by rw [HT.out]; exact runT_len first_len _⟩
          have QU : Aside0 (U.length = 24) := ⟨by rw [HU.out]; exact runT_len first_len _⟩
          have LT := Aside0.mk (tab_size QT.out)
          have LU := Aside0.mk (tab_size QU.out)
          have G1 : Aside0 (ChSt w w1.heap.size w5.heap.size Ws (T) first first (U) _) := ⟨by rw [HT.out, HU.out]; exact HST.out⟩
          go_upto_region 6 with fail
          refine region_det3 [(38, .agg (tcells T)), (39, .slice (some ad) l0.length c0), (40, .int .i64 (i : Int)), (41, .pointer (some (ad.add (i * 6)))), (42, .agg (insOf x).cells), (43, .agg (tcells (afterT T (insOf x))))] (ChR (fun Tv W => ChSt w w1.heap.size w5.heap.size Ws Tv first first U W) T (afterT T (insOf x))) (by kernel_rfl) (by kernel_rfl) (by kernel_rfl) ?_
          intro aF haF
          simp only [putAll, Act.put, List.setIfInBounds_toArray, List.set_cons_succ, List.set_cons_zero] at haF
          subst haF
          refine ⟨?_, ChR.start (St := (fun Tv W => ChSt w w1.heap.size w5.heap.size Ws Tv first first U W)) G1.out.drew, ?_⟩
          · intro j o ho L W hc hr hs
            rcases j with _ | _ | _ | _ | _ | _ | _ | j
            · obtain rfl := Option.some.inj ho
              have hn := hs.now (not_yet hc hr (by kernel_rfl))
              exact step_load_row rfl 57 _ rfl w5.heap.size rfl 57 (tcells T) (0, 0) _ hn.2.2.2.2.1 Try.underlying57 rfl LT.out rfl (hs.keep (by decide) (fun _ h => h))
            · obtain rfl := Option.some.inj ho
              exact step_run (v := .slice (some ad) l0.length c0) (w' := W) rfl rfl rfl (hs.keep (by decide) (fun _ h => h))
            · obtain rfl := Option.some.inj ho
              exact step_run (v := .int .i64 (i : Int)) (w' := W) rfl rfl rfl (hs.keep (by decide) (fun _ h => h))
            · obtain rfl := Option.some.inj ho
              exact step_run (v := .pointer (some (ad.add (i * 6)))) (w' := W) rfl (idx_row ad l0.length c0 i HI.out HM.out rfl rfl rfl W) rfl (hs.keep (by decide) (fun _ h => h))
            · obtain rfl := Option.some.inj ho
              have hn := hs.now (not_yet hc hr (by kernel_rfl))
              exact step_run (v := .agg (insOf x).cells) (w' := W) rfl (load_ins' HCC.out hn.1 HX.out rfl rfl) rfl (hs.keep (by decide) (fun _ h => h))
            · obtain rfl := Option.some.inj ho
              exact step_call rfl Try.func42 (by kernel_rfl) rfl #[.agg (tcells T), .agg (insOf x).cells] rfl rfl ((env_After T QT.out (insOf x) W).mono fun e w' h => ⟨_, h.1, rfl, hs.keep (by decide) (fun _ hh => hh.below h.2)⟩)
            · obtain rfl := Option.some.inj ho
              have hn := hs.now (unlisted hr)
              exact step_store_row rfl 57 _ _ rfl w5.heap.size (tcells (afterT T (insOf x))) rfl rfl 57 (tcells T) hn.2.2.2.2.1 (tab_size (afterT_len' QT.out _)) (by rw [tcells_size, tcells_size, QT.out, afterT_len' QT.out]) (tcells_one _) rfl (hs.last hn.set0)
            · exact absurd (Array.getElem?_eq_some_iff.1 ho).1 (by simp)
          · intro L W hall hs
            have G2 := Aside0.mk (hs.done (hall 6 (by simp)))
            clear hs hall
            go_upto_region 7 with fail
            refine region_det3 [(44, .agg (tcells U)), (45, .slice (some ad) l0.length c0), (46, .int .i64 (i : Int)), (47, .pointer (some (ad.add (i * 6)))), (48, .agg (insOf x).cells), (49, .agg (tcells (afterT U (insOf x))))] (ChR (fun Tv W => ChSt w w1.heap.size w5.heap.size Ws (afterT T (insOf x)) first first Tv W) U (afterT U (insOf x))) (by kernel_rfl) (by kernel_rfl) (by kernel_rfl) ?_
            intro aF haF
            simp only [putAll, Act.put, List.setIfInBounds_toArray, List.set_cons_succ, List.set_cons_zero] at haF
            subst haF
            refine ⟨?_, ChR.start (St := (fun Tv W => ChSt w w1.heap.size w5.heap.size Ws (afterT T (insOf x)) first first Tv W)) G2.out.drew, ?_⟩
            · intro j o ho L W hc hr hs
              rcases j with _ | _ | _ | _ | _ | _ | _ | j
              · obtain rfl := Option.some.inj ho
                have hn := hs.now (not_yet hc hr (by kernel_rfl))
                exact step_load_row rfl 57 _ rfl (w5.heap.size + 1 + 1 + 1) rfl 57 (tcells U) (0, 0) _ hn.2.2.2.2.2.2.2 Try.underlying57 rfl LU.out rfl (hs.keep (by decide) (fun _ h => h))
              · obtain rfl := Option.some.inj ho
                exact step_run (v := .slice (some ad) l0.length c0) (w' := W) rfl rfl rfl (hs.keep (by decide) (fun _ h => h))
              · obtain rfl := Option.some.inj ho
                exact step_run (v := .int .i64 (i : Int)) (w' := W) rfl rfl rfl (hs.keep (by decide) (fun _ h => h))
              · obtain rfl := Option.some.inj ho
                exact step_run (v := .pointer (some (ad.add (i * 6)))) (w' := W) rfl (idx_row ad l0.length c0 i HI.out HM.out rfl rfl rfl W) rfl (hs.keep (by decide) (fun _ h => h))
              · obtain rfl := Option.some.inj ho
                have hn := hs.now (not_yet hc hr (by kernel_rfl))
                exact step_run (v := .agg (insOf x).cells) (w' := W) rfl (load_ins' HCC.out hn.1 HX.out rfl rfl) rfl (hs.keep (by decide) (fun _ h => h))
              · obtain rfl := Option.some.inj ho
                exact step_call rfl Try.func42 (by kernel_rfl) rfl #[.agg (tcells U), .agg (insOf x).cells] rfl rfl ((env_After U QU.out (insOf x) W).mono fun e w' h => ⟨_, h.1, rfl, hs.keep (by decide) (fun _ hh => hh.below h.2)⟩)
              · obtain rfl := Option.some.inj ho
                have hn := hs.now (unlisted hr)
                exact step_store_row rfl 57 _ _ rfl (w5.heap.size + 1 + 1 + 1) (tcells (afterT U (insOf x))) rfl rfl 57 (tcells U) hn.2.2.2.2.2.2.2 (tab_size (afterT_len' QU.out _)) (by rw [tcells_size, tcells_size, QU.out, afterT_len' QU.out]) (tcells_one _) rfl (hs.last hn.set3)
              · exact absurd (Array.getElem?_eq_some_iff.1 ho).1 (by simp)
            · intro L W hall hs
              have G3 := Aside0.mk (hs.done (hall 6 (by simp)))
              clear hs hall
              have G4 := G3.out
              rw [run_next HT.out HX.out, run_next HU.out HX.out] at G4
              have G5 := Aside0.mk G4
              clear G4
              go_wp2
              go_roundw
              case rel => exact ⟨i + 1, by go_num, ⟨⟨by omega, by omega, G5.out⟩⟩⟩
              case measure => simp [intOf]; omega
        · have hj' : ¬ (i : Int) < 20 := by omega
          go_wp2_with fail
          go_meet
          case rel => exact ⟨_, HST⟩
      · have hi' : ¬ (i : Int) < (l0.length : Int) := by omega
        go_wp2_with fail
        go_meet
        case rel => exact ⟨_, HST⟩
  case rest =>
    obtain ⟨X0, HST⟩ := hcut
    have STA := HST
    clear HST
    go_upto_block 2 with fail
    go_cut [17] from 50 to 71 (fun _ wc => ∃ X : List In, Aside0 (ChSt w w1.heap.size w5.heap.size Ws (runT first X0) (runT first X) first (runT (runT first X0) X) wc))
    case first =>
      go_wp2_with fail
      go_loopw [17] (fun c wr => ∃ i : Nat, c = .int .i64 i ∧ Aside0 (i ≤ l1.length ∧ i ≤ 20 ∧ ChSt w w1.heap.size w5.heap.size Ws (runT first X0) (runT first ((l1.map insOf).take i)) first (runT (runT first X0) ((l1.map insOf).take i)) wr)) (fun c _ => 20 - (intOf c).toNat)
      case atStart => exact ⟨0, rfl, ⟨⟨Nat.zero_le _, by omega, STA.out⟩⟩⟩
      case round =>
        obtain ⟨i, rfl, HS⟩ := hrel
        obtain ⟨hi1, hi2, hst⟩ := HS.out
        have HST := Aside0.mk hst
        clear hst HS
        have HM := Aside0.mk m1
        by_cases hi : i < l1.length
        · have hi' : (i : Int) < (l1.length : Int) := by omega
          by_cases hj : i < 20
          · have hj' : (i : Int) < 20 := by omega
            have HI := Aside0.mk hi
            obtain ⟨ad, rfl, HCC⟩ : ∃ ad, A1 = some ad ∧ Aside0 (Kd.C k62 w (some ad) l1.length l1) := by
              obtain ⟨ad, _, e, _⟩ := Kd.C_get HC1.out z62 (i : Int) (by omega) (by omega)
              exact ⟨ad, e, ⟨e ▸ HC1.out⟩⟩
            obtain ⟨T, HT⟩ : ∃ T, Aside0 (T = runT first ((l1.map insOf).take i)) := ⟨_, ⟨rfl⟩⟩
            obtain ⟨U, HU⟩ : ∃ U, Aside0 (U = runT (runT first X0) ((l1.map insOf).take i)) := ⟨_, ⟨rfl⟩⟩
            obtain ⟨x, HX⟩ : ∃ x, Aside0 (l1[i]? = some x) := ⟨_, ⟨List.getElem?_eq_getElem hi⟩⟩
            have QT : Aside0 (T.length = 24) := ⟨by rw [HT.out]; exact runT_len first_len _⟩
            have QU : Aside0 (U.length = 24) := ⟨by rw [HU.out]; exact runT_len (runT_len first_len _) _⟩
            have LT := Aside0.mk (tab_size QT.out)
            have LU := Aside0.mk (tab_size QU.out)
            have G1 : Aside0 (ChSt w w1.heap.size w5.heap.size Ws (runT first X0) (T) first (U) _) := ⟨by rw [HT.out, HU.out]; exact HST.out⟩
            go_upto_region 11 with fail
            refine region_det3 [(60, .agg (tcells T)), (61, .slice (some ad) l1.length c1), (62, .int .i64 (i : Int)), (63, .pointer (some (ad.add (i * 6)))), (64, .agg (insOf x).cells), (65, .agg (tcells (afterT T (insOf x))))] (ChR (fun Tv W => ChSt w w1.heap.size w5.heap.size Ws (runT first X0) Tv first U W) T (afterT T (insOf x))) (by kernel_rfl) (by kernel_rfl) (by kernel_rfl) ?_
            intro aF haF
            simp only [putAll, Act.put, List.setIfInBounds_toArray, List.set_cons_succ, List.set_cons_zero] at haF
            subst haF
            refine ⟨?_, ChR.start (St := (fun Tv W => ChSt w w1.heap.size w5.heap.size Ws (runT first X0) Tv first U W)) G1.out.drew, ?_⟩
            · intro j o ho L W hc hr hs
              rcases j with _ | _ | _ | _ | _ | _ | _ | j
              · obtain rfl := Option.some.inj ho
                have hn := hs.now (not_yet hc hr (by kernel_rfl))
                exact step_load_row rfl 57 _ rfl (w5.heap.size + 1) rfl 57 (tcells T) (0, 0) _ hn.2.2.2.2.2.1 Try.underlying57 rfl LT.out rfl (hs.keep (by decide) (fun _ h => h))
              · obtain rfl := Option.some.inj ho
                exact step_run (v := .slice (some ad) l1.length c1) (w' := W) rfl rfl rfl (hs.keep (by decide) (fun _ h => h))
              · obtain rfl := Option.some.inj ho
                exact step_run (v := .int .i64 (i : Int)) (w' := W) rfl rfl rfl (hs.keep (by decide) (fun _ h => h))
              · obtain rfl := Option.some.inj ho
                exact step_run (v := .pointer (some (ad.add (i * 6)))) (w' := W) rfl (idx_row ad l1.length c1 i HI.out HM.out rfl rfl rfl W) rfl (hs.keep (by decide) (fun _ h => h))
              · obtain rfl := Option.some.inj ho
                have hn := hs.now (not_yet hc hr (by kernel_rfl))
                exact step_run (v := .agg (insOf x).cells) (w' := W) rfl (load_ins' HCC.out hn.1 HX.out rfl rfl) rfl (hs.keep (by decide) (fun _ h => h))
              · obtain rfl := Option.some.inj ho
                exact step_call rfl Try.func42 (by kernel_rfl) rfl #[.agg (tcells T), .agg (insOf x).cells] rfl rfl ((env_After T QT.out (insOf x) W).mono fun e w' h => ⟨_, h.1, rfl, hs.keep (by decide) (fun _ hh => hh.below h.2)⟩)
              · obtain rfl := Option.some.inj ho
                have hn := hs.now (unlisted hr)
                exact step_store_row rfl 57 _ _ rfl (w5.heap.size + 1) (tcells (afterT T (insOf x))) rfl rfl 57 (tcells T) hn.2.2.2.2.2.1 (tab_size (afterT_len' QT.out _)) (by rw [tcells_size, tcells_size, QT.out, afterT_len' QT.out]) (tcells_one _) rfl (hs.last hn.set1)
              · exact absurd (Array.getElem?_eq_some_iff.1 ho).1 (by simp)
            · intro L W hall hs
              have G2 := Aside0.mk (hs.done (hall 6 (by simp)))
              clear hs hall
              go_upto_region 12 with fail
              refine region_det3 [(66, .agg (tcells U)), (67, .slice (some ad) l1.length c1), (68, .int .i64 (i : Int)), (69, .pointer (some (ad.add (i * 6)))), (70, .agg (insOf x).cells), (71, .agg (tcells (afterT U (insOf x))))] (ChR (fun Tv W => ChSt w w1.heap.size w5.heap.size Ws (runT first X0) (afterT T (insOf x)) first Tv W) U (afterT U (insOf x))) (by kernel_rfl) (by kernel_rfl) (by kernel_rfl) ?_
              intro aF haF
              simp only [putAll, Act.put, List.setIfInBounds_toArray, List.set_cons_succ, List.set_cons_zero] at haF
              subst haF
              refine ⟨?_, ChR.start (St := (fun Tv W => ChSt w w1.heap.size w5.heap.size Ws (runT first X0) (afterT T (insOf x)) first Tv W)) G2.out.drew, ?_⟩
              · intro j o ho L W hc hr hs
                rcases j with _ | _ | _ | _ | _ | _ | _ | j
                · obtain rfl := Option.some.inj ho
                  have hn := hs.now (not_yet hc hr (by kernel_rfl))
                  exact step_load_row rfl 57 _ rfl (w5.heap.size + 1 + 1 + 1) rfl 57 (tcells U) (0, 0) _ hn.2.2.2.2.2.2.2 Try.underlying57 rfl LU.out rfl (hs.keep (by decide) (fun _ h => h))
                · obtain rfl := Option.some.inj ho
                  exact step_run (v := .slice (some ad) l1.length c1) (w' := W) rfl rfl rfl (hs.keep (by decide) (fun _ h => h))
                · obtain rfl := Option.some.inj ho
                  exact step_run (v := .int .i64 (i : Int)) (w' := W) rfl rfl rfl (hs.keep (by decide) (fun _ h => h))
                · obtain rfl := Option.some.inj ho
                  exact step_run (v := .pointer (some (ad.add (i * 6)))) (w' := W) rfl (idx_row ad l1.length c1 i HI.out HM.out rfl rfl rfl W) rfl (hs.keep (by decide) (fun _ h => h))
                · obtain rfl := Option.some.inj ho
                  have hn := hs.now (not_yet hc hr (by kernel_rfl))
                  exact step_run (v := .agg (insOf x).cells) (w' := W) rfl (load_ins' HCC.out hn.1 HX.out rfl rfl) rfl (hs.keep (by decide) (fun _ h => h))
                · obtain rfl := Option.some.inj ho
                  exact step_call rfl Try.func42 (by kernel_rfl) rfl #[.agg (tcells U), .agg (insOf x).cells] rfl rfl ((env_After U QU.out (insOf x) W).mono fun e w' h => ⟨_, h.1, rfl, hs.keep (by decide) (fun _ hh => hh.below h.2)⟩)
                · obtain rfl := Option.some.inj ho
                  have hn := hs.now (unlisted hr)
                  exact step_store_row rfl 57 _ _ rfl (w5.heap.size + 1 + 1 + 1) (tcells (afterT U (insOf x))) rfl rfl 57 (tcells U) hn.2.2.2.2.2.2.2 (tab_size (afterT_len' QU.out _)) (by rw [tcells_size, tcells_size, QU.out, afterT_len' QU.out]) (tcells_one _) rfl (hs.last hn.set3)
                · exact absurd (Array.getElem?_eq_some_iff.1 ho).1 (by simp)
              · intro L W hall hs
                have G3 := Aside0.mk (hs.done (hall 6 (by simp)))
                clear hs hall
                have G4 := G3.out
                rw [run_next HT.out HX.out, run_next HU.out HX.out] at G4
                have G5 := Aside0.mk G4
                clear G4
                go_wp2
                go_roundw
                case rel => exact ⟨i + 1, by go_num, ⟨⟨by omega, by omega, G5.out⟩⟩⟩
                case measure => simp [intOf]; omega
          · have hj' : ¬ (i : Int) < 20 := by omega
            go_wp2_with fail
            go_meet
            case rel => exact ⟨_, HST⟩
        · have hi' : ¬ (i : Int) < (l1.length : Int) := by omega
          go_wp2_with fail
          go_meet
          case rel => exact ⟨_, HST⟩
    case rest =>
      obtain ⟨X1, HST⟩ := hcut
      have STB := HST
      clear HST
      go_upto_block 4 with fail
      go_cut [18] from 72 to 93 (fun _ wc => ∃ X : List In, Aside0 (ChSt w w1.heap.size w5.heap.size Ws (runT first X0) (runT first X1) (runT first X) (runT (runT (runT first X0) X1) X) wc))
      case first =>
        go_wp2_with fail
        go_loopw [18] (fun c wr => ∃ i : Nat, c = .int .i64 i ∧ Aside0 (i ≤ l2.length ∧ i ≤ 20 ∧ ChSt w w1.heap.size w5.heap.size Ws (runT first X0) (runT first X1) (runT first ((l2.map insOf).take i)) (runT (runT (runT first X0) X1) ((l2.map insOf).take i)) wr)) (fun c _ => 20 - (intOf c).toNat)
        case atStart => exact ⟨0, rfl, ⟨⟨Nat.zero_le _, by omega, STB.out⟩⟩⟩
        case round =>
          obtain ⟨i, rfl, HS⟩ := hrel
          obtain ⟨hi1, hi2, hst⟩ := HS.out
          have HST := Aside0.mk hst
          clear hst HS
          have HM := Aside0.mk m2
          by_cases hi : i < l2.length
          · have hi' : (i : Int) < (l2.length : Int) := by omega
            by_cases hj : i < 20
            · have hj' : (i : Int) < 20 := by omega
              have HI := Aside0.mk hi
              obtain ⟨ad, rfl, HCC⟩ : ∃ ad, A2 = some ad ∧ Aside0 (Kd.C k62 w (some ad) l2.length l2) := by
                obtain ⟨ad, _, e, _⟩ := Kd.C_get HC2.out z62 (i : Int) (by omega) (by omega)
                exact ⟨ad, e, ⟨e ▸ HC2.out⟩⟩
              obtain ⟨T, HT⟩ : ∃ T, Aside0 (T = runT first ((l2.map insOf).take i)) := ⟨_, ⟨rfl⟩⟩
              obtain ⟨U, HU⟩ : ∃ U, Aside0 (U = runT (runT (runT first X0) X1) ((l2.map insOf).take i)) := ⟨_, ⟨rfl⟩⟩
              obtain ⟨x, HX⟩ : ∃ x, Aside0 (l2[i]? = some x) := ⟨_, ⟨List.getElem?_eq_getElem hi⟩⟩
              have QT : Aside0 (T.length = 24) := ⟨by rw [HT.out]; exact runT_len first_len _⟩
              have QU : Aside0 (U.length = 24) := ⟨by rw [HU.out]; exact runT_len (runT_len (runT_len first_len _) _) _⟩
              have LT := Aside0.mk (tab_size QT.out)
              have LU := Aside0.mk (tab_size QU.out)
              have G1 : Aside0 (ChSt w w1.heap.size w5.heap.size Ws (runT first X0) (runT first X1) (T) (U) _) := ⟨by rw [HT.out, HU.out]; exact HST.out⟩
              go_upto_region 16 with fail
              refine region_det3 [(82, .agg (tcells T)), (83, .slice (some ad) l2.length c2), (84, .int .i64 (i : Int)), (85, .pointer (some (ad.add (i * 6)))), (86, .agg (insOf x).cells), (87, .agg (tcells (afterT T (insOf x))))] (ChR (fun Tv W => ChSt w w1.heap.size w5.heap.size Ws (runT first X0) (runT first X1) Tv U W) T (afterT T (insOf x))) (by kernel_rfl) (by kernel_rfl) (by kernel_rfl) ?_
              intro aF haF
              simp only [putAll, Act.put, List.setIfInBounds_toArray, List.set_cons_succ, List.set_cons_zero] at haF
              subst haF
              refine ⟨?_, ChR.start (St := (fun Tv W => ChSt w w1.heap.size w5.heap.size Ws (runT first X0) (runT first X1) Tv U W)) G1.out.drew, ?_⟩
              · intro j o ho L W hc hr hs
                rcases j with _ | _ | _ | _ | _ | _ | _ | j
                · obtain rfl := Option.some.inj ho
                  have hn := hs.now (not_yet hc hr (by kernel_rfl))
                  exact step_load_row rfl 57 _ rfl (w5.heap.size + 1 + 1) rfl 57 (tcells T) (0, 0) _ hn.2.2.2.2.2.2.1 Try.underlying57 rfl LT.out rfl (hs.keep (by decide) (fun _ h => h))
                · obtain rfl := Option.some.inj ho
                  exact step_run (v := .slice (some ad) l2.length c2) (w' := W) rfl rfl rfl (hs.keep (by decide) (fun _ h => h))
                · obtain rfl := Option.some.inj ho
                  exact step_run (v := .int .i64 (i : Int)) (w' := W) rfl rfl rfl (hs.keep (by decide) (fun _ h => h))
                · obtain rfl := Option.some.inj ho
                  exact step_run (v := .pointer (some (ad.add (i * 6)))) (w' := W) rfl (idx_row ad l2.length c2 i HI.out HM.out rfl rfl rfl W) rfl (hs.keep (by decide) (fun _ h => h))
                · obtain rfl := Option.some.inj ho
                  have hn := hs.now (not_yet hc hr (by kernel_rfl))
                  exact step_run (v := .agg (insOf x).cells) (w' := W) rfl (load_ins' HCC.out hn.1 HX.out rfl rfl) rfl (hs.keep (by decide) (fun _ h => h))
                · obtain rfl := Option.some.inj ho
                  exact step_call rfl Try.func42 (by kernel_rfl) rfl #[.agg (tcells T), .agg (insOf x).cells] rfl rfl ((env_After T QT.out (insOf x) W).mono fun e w' h => ⟨_, h.1, rfl, hs.keep (by decide) (fun _ hh => hh.below h.2)⟩)
                · obtain rfl := Option.some.inj ho
                  have hn := hs.now (unlisted hr)
                  exact step_store_row rfl 57 _ _ rfl (w5.heap.size + 1 + 1) (tcells (afterT T (insOf x))) rfl rfl 57 (tcells T) hn.2.2.2.2.2.2.1 (tab_size (afterT_len' QT.out _)) (by rw [tcells_size, tcells_size, QT.out, afterT_len' QT.out]) (tcells_one _) rfl (hs.last hn.set2)
                · exact absurd (Array.getElem?_eq_some_iff.1 ho).1 (by simp)
              · intro L W hall hs
                have G2 := Aside0.mk (hs.done (hall 6 (by simp)))
                clear hs hall
                go_upto_region 17 with fail
                refine region_det3 [(88, .agg (tcells U)), (89, .slice (some ad) l2.length c2), (90, .int .i64 (i : Int)), (91, .pointer (some (ad.add (i * 6)))), (92, .agg (insOf x).cells), (93, .agg (tcells (afterT U (insOf x))))] (ChR (fun Tv W => ChSt w w1.heap.size w5.heap.size Ws (runT first X0) (runT first X1) (afterT T (insOf x)) Tv W) U (afterT U (insOf x))) (by kernel_rfl) (by kernel_rfl) (by kernel_rfl) ?_
                intro aF haF
                simp only [putAll, Act.put, List.setIfInBounds_toArray, List.set_cons_succ, List.set_cons_zero] at haF
                subst haF
                refine ⟨?_, ChR.start (St := (fun Tv W => ChSt w w1.heap.size w5.heap.size Ws (runT first X0) (runT first X1) (afterT T (insOf x)) Tv W)) G2.out.drew, ?_⟩
                · intro j o ho L W hc hr hs
                  rcases j with _ | _ | _ | _ | _ | _ | _ | j
                  · obtain rfl := Option.some.inj ho
                    have hn := hs.now (not_yet hc hr (by kernel_rfl))
                    exact step_load_row rfl 57 _ rfl (w5.heap.size + 1 + 1 + 1) rfl 57 (tcells U) (0, 0) _ hn.2.2.2.2.2.2.2 Try.underlying57 rfl LU.out rfl (hs.keep (by decide) (fun _ h => h))
                  · obtain rfl := Option.some.inj ho
                    exact step_run (v := .slice (some ad) l2.length c2) (w' := W) rfl rfl rfl (hs.keep (by decide) (fun _ h => h))
                  · obtain rfl := Option.some.inj ho
                    exact step_run (v := .int .i64 (i : Int)) (w' := W) rfl rfl rfl (hs.keep (by decide) (fun _ h => h))
                  · obtain rfl := Option.some.inj ho
                    exact step_run (v := .pointer (some (ad.add (i * 6)))) (w' := W) rfl (idx_row ad l2.length c2 i HI.out HM.out rfl rfl rfl W) rfl (hs.keep (by decide) (fun _ h => h))
                  · obtain rfl := Option.some.inj ho
                    have hn := hs.now (not_yet hc hr (by kernel_rfl))
                    exact step_run (v := .agg (insOf x).cells) (w' := W) rfl (load_ins' HCC.out hn.1 HX.out rfl rfl) rfl (hs.keep (by decide) (fun _ h => h))
                  · obtain rfl := Option.some.inj ho
                    exact step_call rfl Try.func42 (by kernel_rfl) rfl #[.agg (tcells U), .agg (insOf x).cells] rfl rfl ((env_After U QU.out (insOf x) W).mono fun e w' h => ⟨_, h.1, rfl, hs.keep (by decide) (fun _ hh => hh.below h.2)⟩)
                  · obtain rfl := Option.some.inj ho
                    have hn := hs.now (unlisted hr)
                    exact step_store_row rfl 57 _ _ rfl (w5.heap.size + 1 + 1 + 1) (tcells (afterT U (insOf x))) rfl rfl 57 (tcells U) hn.2.2.2.2.2.2.2 (tab_size (afterT_len' QU.out _)) (by rw [tcells_size, tcells_size, QU.out, afterT_len' QU.out]) (tcells_one _) rfl (hs.last hn.set3)
                  · exact absurd (Array.getElem?_eq_some_iff.1 ho).1 (by simp)
                · intro L W hall hs
                  have G3 := Aside0.mk (hs.done (hall 6 (by simp)))
                  clear hs hall
                  have G4 := G3.out
                  rw [run_next HT.out HX.out, run_next HU.out HX.out] at G4
                  have G5 := Aside0.mk G4
                  clear G4
                  go_wp2
                  go_roundw
                  case rel => exact ⟨i + 1, by go_num, ⟨⟨by omega, by omega, G5.out⟩⟩⟩
                  case measure => simp [intOf]; omega
            · have hj' : ¬ (i : Int) < 20 := by omega
              go_wp2_with fail
              go_meet
              case rel => exact ⟨_, HST⟩
          · have hi' : ¬ (i : Int) < (l2.length : Int) := by omega
            go_wp2_with fail
            go_meet
            case rel => exact ⟨_, HST⟩
      case rest =>
        obtain ⟨X2, HST⟩ := hcut
        have STC := HST
        clear HST
        obtain ⟨TA, HTA⟩ : ∃ T, Aside0 (T = runT first X0) := ⟨_, ⟨rfl⟩⟩
        obtain ⟨TB, HTB⟩ : ∃ T, Aside0 (T = runT first X1) := ⟨_, ⟨rfl⟩⟩
        obtain ⟨TC, HTC⟩ : ∃ T, Aside0 (T = runT first X2) := ⟨_, ⟨rfl⟩⟩
        obtain ⟨TD, HTD⟩ : ∃ T, Aside0 (T = runT (runT (runT first X0) X1) X2) := ⟨_, ⟨rfl⟩⟩
        have S0 : Aside0 (ChSt w w1.heap.size w5.heap.size Ws TA TB TC TD _) := ⟨by rw [HTA.out, HTB.out, HTC.out, HTD.out]; exact STC.out⟩
        have LA : TA.length = 24 := by rw [HTA.out]; exact runT_len first_len _
        have LB : TB.length = 24 := by rw [HTB.out]; exact runT_len first_len _
        have LC : TC.length = 24 := by rw [HTC.out]; exact runT_len first_len _
        have gA : goodB TA = true := by rw [HTA.out]; exact runT_good first_len first_good _
        have gB : goodB TB = true := by rw [HTB.out]; exact runT_good first_len first_good _
        have gC : goodB TC = true := by rw [HTC.out]; exact runT_good first_len first_good _
        obtain ⟨AB, HAB⟩ : ∃ T, Aside0 (T = thenT TA TB) := ⟨_, ⟨rfl⟩⟩
        obtain ⟨BC, HBC⟩ : ∃ T, Aside0 (T = thenT TB TC) := ⟨_, ⟨rfl⟩⟩
        have LAB : AB.length = 24 := by rw [HAB.out]; exact thenT_len _ _ LB
        have LBC : BC.length = 24 := by rw [HBC.out]; exact thenT_len _ _ LC
        have gAB : goodB AB = true := by rw [HAB.out]; exact thenT_good LA
        have gBC : goodB BC = true := by rw [HBC.out]; exact thenT_good LB
        have eD : thenT AB TC = TD := by
          rw [HAB.out, HTA.out, HTB.out, HTC.out, HTD.out, runs3]
        have eD2 : thenT TA BC = TD := by
          rw [← eD, HAB.out, HBC.out, thenT_of gA gB, thenT_of gB gC, thenT_of gA (by rw [← thenT_of gB gC]; exact thenT_good LB), thenT_of (by rw [← thenT_of gA gB]; exact thenT_good LA) gC, thenG_assoc LB gC]
        have LD : TD.length = 24 := by rw [← eD]; exact thenT_len _ _ LC
        have gD : goodB TD = true := by rw [← eD]; exact thenT_good LAB
        have eF1 : thenT first TA = TA := by rw [thenT_of first_good gA, thenG_first gA]
        have eF2 : thenT TA first = TA := by rw [thenT_of gA first_good, thenG_to_first LA]
        obtain ⟨FA, HFA⟩ : ∃ F, Aside0 (F = fillT TA Ws) := ⟨_, ⟨rfl⟩⟩
        obtain ⟨FO, HFO⟩ : ∃ F, Aside0 (F = fillT AB Ws) := ⟨_, ⟨rfl⟩⟩
        have eF : fillT TB FA = FO := by rw [HFA.out, HFO.out, HAB.out, fill_then LA LB gA gB]
        have LFA : FA.length = 24 := by rw [HFA.out]; exact fillT_len _ _ LA
        have LFO : FO.length = 24 := by rw [HFO.out]; exact fillT_len _ _ LAB
        have CAB : ∀ w, Calls Try.prog 39 #[.agg (tcells TA), .agg (tcells TB)] w fun e w' => e = .returned (.agg (tcells AB)) ∧ Below w.heap.size w w' := fun w => by rw [HAB.out]; exact env_Then _ _ LA LB w
        have CABC : ∀ w, Calls Try.prog 39 #[.agg (tcells AB), .agg (tcells TC)] w fun e w' => e = .returned (.agg (tcells TD)) ∧ Below w.heap.size w w' := fun w => by rw [← eD]; exact env_Then _ _ LAB LC w
        have CBC : ∀ w, Calls Try.prog 39 #[.agg (tcells TB), .agg (tcells TC)] w fun e w' => e = .returned (.agg (tcells BC)) ∧ Below w.heap.size w w' := fun w => by rw [HBC.out]; exact env_Then _ _ LB LC w
        have CA_BC : ∀ w, Calls Try.prog 39 #[.agg (tcells TA), .agg (tcells BC)] w fun e w' => e = .returned (.agg (tcells TD)) ∧ Below w.heap.size w w' := fun w => by rw [← eD2]; exact env_Then _ _ LA LBC w
        have CFA : ∀ w, Calls Try.prog 39 #[.agg (tcells first), .agg (tcells TA)] w fun e w' => e = .returned (.agg (tcells TA)) ∧ Below w.heap.size w w' := fun w => by have h := env_Then _ _ first_len LA w; rw [eF1] at h; exact h
        have CAF : ∀ w, Calls Try.prog 39 #[.agg (tcells TA), .agg (tcells first)] w fun e w' => e = .returned (.agg (tcells TA)) ∧ Below w.heap.size w w' := fun w => by have h := env_Then _ _ LA first_len w; rw [eF2] at h; exact h
        have CFi1 : ∀ w, Calls Try.prog 46 #[.agg (tcells AB), .agg (wcells Ws)] w fun e w' => e = .returned (.agg (wcells FO)) ∧ Below w.heap.size w w' := fun w => by rw [HFO.out]; exact env_Fill _ _ LAB QW.out w
        have CFi2 : ∀ w, Calls Try.prog 46 #[.agg (tcells TA), .agg (wcells Ws)] w fun e w' => e = .returned (.agg (wcells FA)) ∧ Below w.heap.size w w' := fun w => by rw [HFA.out]; exact env_Fill _ _ LA QW.out w
        have CFi3 : ∀ w, Calls Try.prog 46 #[.agg (tcells TB), .agg (wcells FA)] w fun e w' => e = .returned (.agg (wcells FO)) ∧ Below w.heap.size w w' := fun w => by rw [← eF]; exact env_Fill _ _ LB LFA w
        have SA := Aside0.mk (tab_size LA)
        have SB := Aside0.mk (tab_size LB)
        have SC := Aside0.mk (tab_size LC)
        have SD := Aside0.mk (tab_size LD)
        have ZD : Aside0 ((tcells noes).size = (tcells TD).size) := ⟨by rw [tcells_size, tcells_size, LD]; rfl⟩
        have HLA := Aside0.mk LA
        have HLD := Aside0.mk LD
        have HLFO := Aside0.mk LFO
        have NA := Aside0.mk (noNo_of gA)
        have ND := Aside0.mk (noNo_of gD)
        have KAB := Aside0.mk CAB
        have KABC := Aside0.mk CABC
        have KBC := Aside0.mk CBC
        have KA_BC := Aside0.mk CA_BC
        have KFA := Aside0.mk CFA
        have KAF := Aside0.mk CAF
        have KFi1 := Aside0.mk CFi1
        have KFi2 := Aside0.mk CFi2
        have KFi3 := Aside0.mk CFi3
        clear LA LB LC gA gB gC LAB LBC gAB gBC eD eD2 LD gD eF1 eF2 eF LFA LFO CAB CABC CBC CA_BC CFA CAF CFi1 CFi2 CFi3
        go_upto_region 18 with fail
        refine region_detS3 (fun s : Nat => [(94, .agg (tcells TA)), (95, .agg (tcells TB)), (96, .agg (tcells AB)), (97, .agg (tcells TC)), (98, .agg (tcells TD)), (19, .pointer (some ⟨s, 0, none⟩))]) (ChN (w5.heap.size + 1 + 1 + 1) (ChSt w w1.heap.size w5.heap.size Ws TA TB TC TD) TD) 0 (by kernel_rfl) (by kernel_rfl) (fun _ => by kernel_rfl) ?_
        intro aF haF
        simp only [putAll, Act.put, List.setIfInBounds_toArray, List.set_cons_succ, List.set_cons_zero] at haF
        subst haF
        refine ⟨?_, ⟨by simp, S0.out.drew, fun e => absurd e (by decide)⟩, ?_⟩
        · intro j o ho s L W hc hr hs
          rcases j with _ | _ | _ | _ | _ | _ | _ | j
          · obtain rfl := Option.some.inj ho
            exact stepS_load_row rfl 57 _ rfl w5.heap.size rfl 57 (tcells TA) (0, 0) _ hs.2.1.2.2.2.2.1 Try.underlying57 rfl SA.out (next_same rfl (hs.keep (by decide) (by decide) (fun h => h) (Below.refl _ _)))
          · obtain rfl := Option.some.inj ho
            exact stepS_load_row rfl 57 _ rfl (w5.heap.size + 1) rfl 57 (tcells TB) (0, 0) _ hs.2.1.2.2.2.2.2.1 Try.underlying57 rfl SB.out (next_same rfl (hs.keep (by decide) (by decide) (fun h => h) (Below.refl _ _)))
          · obtain rfl := Option.some.inj ho
            exact stepS_call rfl Try.func39 (by kernel_rfl) rfl #[.agg (tcells TA), .agg (tcells TB)] rfl rfl ((KAB.out W).mono fun e w' h => ⟨_, h.1, next_same rfl (hs.keep (by decide) (by decide) (fun hp => ChSt.below hp h.2) h.2)⟩)
          · obtain rfl := Option.some.inj ho
            exact stepS_load_row rfl 57 _ rfl (w5.heap.size + 1 + 1) rfl 57 (tcells TC) (0, 0) _ hs.2.1.2.2.2.2.2.2.1 Try.underlying57 rfl SC.out (next_same rfl (hs.keep (by decide) (by decide) (fun h => h) (Below.refl _ _)))
          · obtain rfl := Option.some.inj ho
            exact stepS_call rfl Try.func39 (by kernel_rfl) rfl #[.agg (tcells AB), .agg (tcells TC)] rfl rfl ((KABC.out W).mono fun e w' h => ⟨_, h.1, next_same rfl (hs.keep (by decide) (by decide) (fun hp => ChSt.below hp h.2) h.2)⟩)
          · obtain rfl := Option.some.inj ho
            exact stepS_run rfl (alloc_tab rfl W) (next_new W.heap.size 19 hr rfl (by kernel_rfl) rfl rfl (hs.made (blk_lt hs.2.1.2.2.2.2.2.2.2) (not_yet hc hr (by kernel_rfl)) (ChSt.below hs.2.1 (below_alloc (Below.refl _ _) _))))
          · obtain rfl := Option.some.inj ho
            have h5 := done_of hc hr 5 (by kernel_rfl) (by rw [hs.1]; decide)
            obtain ⟨hb, ht⟩ := hs.2.2 h5
            rw [unlisted hr] at ht
            exact stepS_store_row rfl 57 _ _ rfl s (tcells TD) rfl rfl 57 (tcells noes) ht SD.out ZD.out (tcells_one TD) (next_same rfl (hs.laid h5 (ChSt.far hs.2.1 hb _)))
          · exact absurd (Array.getElem?_eq_some_iff.1 ho).1 (by simp)
        · intro s L W hall hs
          have hb := (hs.2.2 (hall 5 (by simp)))
          rw [hall 6 (by simp)] at hb
          have U0 : Aside0 (ChT w w1.heap.size w5.heap.size Ws TA TB TC TD s W) := ⟨⟨hs.2.1, hb.1, hb.2⟩⟩
          clear hs hb hall
          dsimp only
          go_upto_region 19 with fail
          refine region_detS3 (fun s : Nat => [(99, .agg (tcells TA)), (100, .agg (tcells TB)), (101, .agg (tcells TC)), (102, .agg (tcells BC)), (103, .agg (tcells TD)), (20, .pointer (some ⟨s, 0, none⟩))]) (ChN s (ChT w w1.heap.size w5.heap.size Ws TA TB TC TD s) TD) 0 (by kernel_rfl) (by kernel_rfl) (fun _ => by kernel_rfl) ?_
          intro aF haF
          simp only [putAll, Act.put, List.setIfInBounds_toArray, List.set_cons_succ, List.set_cons_zero] at haF
          subst haF
          refine ⟨?_, ⟨by simp, U0.out.below (below_drew (Below.refl _ _)), fun e => absurd e (by decide)⟩, ?_⟩
          · intro j o ho s L W hc hr hs
            rcases j with _ | _ | _ | _ | _ | _ | _ | j
            · obtain rfl := Option.some.inj ho
              exact stepS_load_row rfl 57 _ rfl w5.heap.size rfl 57 (tcells TA) (0, 0) _ hs.2.1.1.2.2.2.2.1 Try.underlying57 rfl SA.out (next_same rfl (hs.keep (by decide) (by decide) (fun h => h) (Below.refl _ _)))
            · obtain rfl := Option.some.inj ho
              exact stepS_load_row rfl 57 _ rfl (w5.heap.size + 1) rfl 57 (tcells TB) (0, 0) _ hs.2.1.1.2.2.2.2.2.1 Try.underlying57 rfl SB.out (next_same rfl (hs.keep (by decide) (by decide) (fun h => h) (Below.refl _ _)))
            · obtain rfl := Option.some.inj ho
              exact stepS_load_row rfl 57 _ rfl (w5.heap.size + 1 + 1) rfl 57 (tcells TC) (0, 0) _ hs.2.1.1.2.2.2.2.2.2.1 Try.underlying57 rfl SC.out (next_same rfl (hs.keep (by decide) (by decide) (fun h => h) (Below.refl _ _)))
            · obtain rfl := Option.some.inj ho
              exact stepS_call rfl Try.func39 (by kernel_rfl) rfl #[.agg (tcells TB), .agg (tcells TC)] rfl rfl ((KBC.out W).mono fun e w' h => ⟨_, h.1, next_same rfl (hs.keep (by decide) (by decide) (fun hp => ChT.below hp h.2) h.2)⟩)
            · obtain rfl := Option.some.inj ho
              exact stepS_call rfl Try.func39 (by kernel_rfl) rfl #[.agg (tcells TA), .agg (tcells BC)] rfl rfl ((KA_BC.out W).mono fun e w' h => ⟨_, h.1, next_same rfl (hs.keep (by decide) (by decide) (fun hp => ChT.below hp h.2) h.2)⟩)
            · obtain rfl := Option.some.inj ho
              exact stepS_run rfl (alloc_tab rfl W) (next_new W.heap.size 20 hr rfl (by kernel_rfl) rfl rfl (hs.made (blk_lt hs.2.1.2.2) (not_yet hc hr (by kernel_rfl)) (ChT.below hs.2.1 (below_alloc (Below.refl _ _) _))))
            · obtain rfl := Option.some.inj ho
              have h5 := done_of hc hr 5 (by kernel_rfl) (by rw [hs.1]; decide)
              obtain ⟨hb, ht⟩ := hs.2.2 h5
              rw [unlisted hr] at ht
              exact stepS_store_row rfl 57 _ _ rfl s (tcells TD) rfl rfl 57 (tcells noes) ht SD.out ZD.out (tcells_one TD) (next_same rfl (hs.laid h5 (ChT.far hs.2.1 hb _)))
            · exact absurd (Array.getElem?_eq_some_iff.1 ho).1 (by simp)
          · intro t L W hall hs
            have hb := (hs.2.2 (hall 5 (by simp)))
            rw [hall 6 (by simp)] at hb
            have V0 : Aside0 (ChV w w1.heap.size w5.heap.size Ws TA TB TC TD s t W) := ⟨⟨hs.2.1, hb.2⟩⟩
            clear hs hb hall
            dsimp only
            go_upto_region 20 with fail
            refine region_det3 [(104, .agg (tcells TD)), (105, .agg (tcells TD)), (106, .bool false), (107, .bool false), (108, .agg (tcells TD)), (109, .agg (tcells TD)), (110, .bool false), (111, .bool false), (112, .bool false), (113, .agg (tcells first)), (114, .agg (tcells TA)), (115, .agg (tcells TA)), (116, .agg (tcells TA)), (117, .bool false), (118, .bool false), (119, .bool false), (120, .agg (tcells TA)), (121, .agg (tcells first)), (122, .agg (tcells TA)), (123, .agg (tcells TA)), (124, .bool false), (125, .bool false)] (fun _ => ChV w w1.heap.size w5.heap.size Ws TA TB TC TD s t) (by kernel_rfl) (by kernel_rfl) (by kernel_rfl) ?_
            intro aF haF
            simp only [putAll, Act.put, List.setIfInBounds_toArray, List.set_cons_succ, List.set_cons_zero] at haF
            subst haF
            refine ⟨?_, V0.out.below (below_drew (Below.refl _ _)), ?_⟩
            · intro j o ho L W hc hr hs
              rcases j with _ | _ | _ | _ | _ | _ | _ | _ | _ | _ | _ | _ | _ | _ | _ | _ | _ | _ | _ | _ | _ | _ | j
              · obtain rfl := Option.some.inj ho
                exact step_load_row rfl 57 _ rfl s rfl 57 (tcells TD) (0, 0) _ hs.1.2.2 Try.underlying57 rfl SD.out rfl hs
              · obtain rfl := Option.some.inj ho
                exact step_load_row rfl 57 _ rfl t rfl 57 (tcells TD) (0, 0) _ hs.2 Try.underlying57 rfl SD.out rfl hs
              · obtain rfl := Option.some.inj ho
                exact step_run (v := .bool false) (w' := W) rfl (ne_tabs rfl rfl rfl HLD.out ND.out W) rfl hs
              · obtain rfl := Option.some.inj ho
                exact step_run (v := .bool false) (w' := W) rfl rfl rfl hs
              · obtain rfl := Option.some.inj ho
                exact step_load_row rfl 57 _ rfl s rfl 57 (tcells TD) (0, 0) _ hs.1.2.2 Try.underlying57 rfl SD.out rfl hs
              · obtain rfl := Option.some.inj ho
                exact step_load_row rfl 57 _ rfl (w5.heap.size + 1 + 1 + 1) rfl 57 (tcells TD) (0, 0) _ hs.1.1.2.2.2.2.2.2.2 Try.underlying57 rfl SD.out rfl hs
              · obtain rfl := Option.some.inj ho
                exact step_run (v := .bool false) (w' := W) rfl (ne_tabs rfl rfl rfl HLD.out ND.out W) rfl hs
              · obtain rfl := Option.some.inj ho
                exact step_run (v := .bool false) (w' := W) rfl rfl rfl hs
              · obtain rfl := Option.some.inj ho
                exact step_run (v := .bool false) (w' := W) rfl rfl rfl hs
              · obtain rfl := Option.some.inj ho
                exact step_call rfl Try.func40 (by kernel_rfl) rfl #[] rfl rfl ((env_New W).mono fun e w' h => ⟨_, h.1, rfl, hs.below h.2⟩)
              · obtain rfl := Option.some.inj ho
                exact step_load_row rfl 57 _ rfl w5.heap.size rfl 57 (tcells TA) (0, 0) _ hs.1.1.2.2.2.2.1 Try.underlying57 rfl SA.out rfl hs
              · obtain rfl := Option.some.inj ho
                exact step_call rfl Try.func39 (by kernel_rfl) rfl #[.agg (tcells first), .agg (tcells TA)] rfl rfl ((KFA.out W).mono fun e w' h => ⟨_, h.1, rfl, hs.below h.2⟩)
              · obtain rfl := Option.some.inj ho
                exact step_load_row rfl 57 _ rfl w5.heap.size rfl 57 (tcells TA) (0, 0) _ hs.1.1.2.2.2.2.1 Try.underlying57 rfl SA.out rfl hs
              · obtain rfl := Option.some.inj ho
                exact step_run (v := .bool false) (w' := W) rfl (ne_tabs rfl rfl rfl HLA.out NA.out W) rfl hs
              · obtain rfl := Option.some.inj ho
                exact step_run (v := .bool false) (w' := W) rfl rfl rfl hs
              · obtain rfl := Option.some.inj ho
                exact step_run (v := .bool false) (w' := W) rfl rfl rfl hs
              · obtain rfl := Option.some.inj ho
                exact step_load_row rfl 57 _ rfl w5.heap.size rfl 57 (tcells TA) (0, 0) _ hs.1.1.2.2.2.2.1 Try.underlying57 rfl SA.out rfl hs
              · obtain rfl := Option.some.inj ho
                exact step_call rfl Try.func40 (by kernel_rfl) rfl #[] rfl rfl ((env_New W).mono fun e w' h => ⟨_, h.1, rfl, hs.below h.2⟩)
              · obtain rfl := Option.some.inj ho
                exact step_call rfl Try.func39 (by kernel_rfl) rfl #[.agg (tcells TA), .agg (tcells first)] rfl rfl ((KAF.out W).mono fun e w' h => ⟨_, h.1, rfl, hs.below h.2⟩)
              · obtain rfl := Option.some.inj ho
                exact step_load_row rfl 57 _ rfl w5.heap.size rfl 57 (tcells TA) (0, 0) _ hs.1.1.2.2.2.2.1 Try.underlying57 rfl SA.out rfl hs
              · obtain rfl := Option.some.inj ho
                exact step_run (v := .bool false) (w' := W) rfl (ne_tabs rfl rfl rfl HLA.out NA.out W) rfl hs
              · obtain rfl := Option.some.inj ho
                exact step_run (v := .bool false) (w' := W) rfl rfl rfl hs
              · exact absurd (Array.getElem?_eq_some_iff.1 ho).1 (by simp)
            · intro L W hall hs
              have V1 := Aside0.mk hs
              clear hs hall
              go_upto_region 22 with fail
              refine region_det3 [(126, .agg (tcells TA)), (127, .agg (tcells TB)), (128, .agg (tcells AB)), (129, .agg (wcells Ws)), (130, .agg (wcells FO)), (131, .agg (tcells TB)), (132, .agg (tcells TA)), (133, .agg (wcells Ws)), (134, .agg (wcells FA)), (135, .agg (wcells FO)), (136, .bool true), (137, .bool true), (138, .bool true), (139, .bool true), (10, .bool true)] (fun _ => ChV w w1.heap.size w5.heap.size Ws TA TB TC TD s t) (by kernel_rfl) (by kernel_rfl) (by kernel_rfl) ?_
              intro aF haF
              simp only [putAll, Act.put, List.setIfInBounds_toArray, List.set_cons_succ, List.set_cons_zero] at haF
              subst haF
              refine ⟨?_, V1.out.below (below_drew (Below.refl _ _)), ?_⟩
              · intro j o ho L W hc hr hs
                rcases j with _ | _ | _ | _ | _ | _ | _ | _ | _ | _ | _ | _ | _ | _ | _ | j
                · obtain rfl := Option.some.inj ho
                  exact step_load_row rfl 57 _ rfl w5.heap.size rfl 57 (tcells TA) (0, 0) _ hs.1.1.2.2.2.2.1 Try.underlying57 rfl SA.out rfl hs
                · obtain rfl := Option.some.inj ho
                  exact step_load_row rfl 57 _ rfl (w5.heap.size + 1) rfl 57 (tcells TB) (0, 0) _ hs.1.1.2.2.2.2.2.1 Try.underlying57 rfl SB.out rfl hs
                · obtain rfl := Option.some.inj ho
                  exact step_call rfl Try.func39 (by kernel_rfl) rfl #[.agg (tcells TA), .agg (tcells TB)] rfl rfl ((KAB.out W).mono fun e w' h => ⟨_, h.1, rfl, hs.below h.2⟩)
                · obtain rfl := Option.some.inj ho
                  exact step_load_row rfl 69 _ rfl w1.heap.size rfl 69 (wcells Ws) (0, 0) _ hs.1.1.2.2.2.1 Try.underlying69 rfl LW.out rfl hs
                · obtain rfl := Option.some.inj ho
                  exact step_call rfl Try.func46 (by kernel_rfl) rfl #[.agg (tcells AB), .agg (wcells Ws)] rfl rfl ((KFi1.out W).mono fun e w' h => ⟨_, h.1, rfl, hs.below h.2⟩)
                · obtain rfl := Option.some.inj ho
                  exact step_load_row rfl 57 _ rfl (w5.heap.size + 1) rfl 57 (tcells TB) (0, 0) _ hs.1.1.2.2.2.2.2.1 Try.underlying57 rfl SB.out rfl hs
                · obtain rfl := Option.some.inj ho
                  exact step_load_row rfl 57 _ rfl w5.heap.size rfl 57 (tcells TA) (0, 0) _ hs.1.1.2.2.2.2.1 Try.underlying57 rfl SA.out rfl hs
                · obtain rfl := Option.some.inj ho
                  exact step_load_row rfl 69 _ rfl w1.heap.size rfl 69 (wcells Ws) (0, 0) _ hs.1.1.2.2.2.1 Try.underlying69 rfl LW.out rfl hs
                · obtain rfl := Option.some.inj ho
                  exact step_call rfl Try.func46 (by kernel_rfl) rfl #[.agg (tcells TA), .agg (wcells Ws)] rfl rfl ((KFi2.out W).mono fun e w' h => ⟨_, h.1, rfl, hs.below h.2⟩)
                · obtain rfl := Option.some.inj ho
                  exact step_call rfl Try.func46 (by kernel_rfl) rfl #[.agg (tcells TB), .agg (wcells FA)] rfl rfl ((KFi3.out W).mono fun e w' h => ⟨_, h.1, rfl, hs.below h.2⟩)
                · obtain rfl := Option.some.inj ho
                  exact step_run (v := .bool true) (w' := W) rfl (eq_words rfl rfl rfl HLFO.out W) rfl hs
                · obtain rfl := Option.some.inj ho
                  exact step_run (v := .bool true) (w' := W) rfl rfl rfl hs
                · obtain rfl := Option.some.inj ho
                  exact step_call rfl Try.func38 (by kernel_rfl) rfl #[] rfl rfl ((env_knows W).mono fun e w' h => ⟨_, h.1, rfl, hs.below h.2⟩)
                · obtain rfl := Option.some.inj ho
                  exact step_run (v := .bool true) (w' := W) rfl rfl rfl hs
                · obtain rfl := Option.some.inj ho
                  exact step_run (v := .bool true) (w' := W) rfl rfl rfl hs
                · exact absurd (Array.getElem?_eq_some_iff.1 ho).1 (by simp)
              · intro L W hall hs
                have V2 := Aside0.mk hs.1.1.1
                clear hs hall
                go_wp2
                go_ret
                exact ⟨rfl, V2.out⟩

end Go.Proofs.Ytolacdlobopoiaa.Num
