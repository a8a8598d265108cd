/- Walks of the program, and what it computes, told plainly. No condition. (TA TB TC TD TE) -/
import Derived.Test.YtlinbehijfcelaaGreatDoorPA
set_option linter.unusedVariables false
set_option linter.unusedSimpArgs false
set_option linter.unusedSectionVars false
set_option maxHeartbeats 8000000
set_option maxRecDepth 100000
namespace Go.Proofs.YtlinbehijfcelaaGreatDoor.Top
open Go.RowKit Go.Proofs.YtlinbehijfcelaaGreatDoorW.PrintWords Go.Proofs.YtlinbehijfcelaaGreatDoorW.PrintLast
section
theorem a7 {P:Program} {ops:Array Oper} {rest:List Oper} {o:Oper} {a:Act} {W:World} {Q:Exit→Act→World→Prop} {b:Builtin} {xs:Array Operand} {ts:Array TypeId} (_ho:o.op=.call { callee:=.builtin b,args:=xs,argTypes:=ts }) (h:wpList P ops Q (o :: rest) a W):wpList P ops Q (o :: rest) a W:=h
section
variable {P:Program} {ops:Array Oper} {Q:Exit→Act→World→Prop} {aF:Act}
def DW (P:Program) (aF:Act) (dst:Option Tmp) (G:World→Prop):Result Next→Prop
 | .ok (.value v) w'=>aF.put dst v=aF∧G w'
 | .ok .skip w'=>aF.put dst undef=aF∧G w'
 | .ok (.enter f args) w'=>Calls P f args w' fun e w''=>∃ v,e=.returned v∧aF.put dst v=aF∧G w''
 | _=>False
def ru (P:Program) (ops:Array Oper) (aF:Act) (o:Oper) (w:World) (G:World→Prop):Prop:=
 (Region.wanted o (yielded ops aF.tmps)=false∧aF.put o.dst undef=aF∧G w)∨
 (Region.wanted o (yielded ops aF.tmps)=true∧DW P aF o.dst G ((execOp aF.eval o).run P w))
theorem Bn {i:Nat} {o:Oper} {a:Act} {w:World} {G:World→Prop} {K:Act→World→Prop} (hi:ops[i]?=some o) (he:execOp a.eval o=execOp aF.eval o)
  (hw:Region.wanted o (yielded ops a.tmps)=Region.wanted o (yielded ops aF.tmps)) (h:ru P ops aF o w G)
  (hK:∀ v w',aF.put o.dst v=aF→G w'→K (a.put o.dst v) w'):wpOp P ops Q i K a w:=by
 unfold wpOp
 simp only[hi,hw]
 rcases h with ⟨h1,h2,h3⟩ | ⟨h1,h2⟩
 ·simp only[h1,Bool.false_eq_true,if_false]
  exact hK _ _ h2 h3
 ·simp only[h1,if_true]
  left
  unfold Oper.wp
  rw[he]
  generalize (execOp aF.eval o).run P w=r at h2
  cases r with
  | ok n w'=>
   cases n with
   | value v=>exact hK _ _ h2.1 h2.2
   | skip=>exact hK _ _ h2.1 h2.2
   | enter f args=>
    refine Calls.mono h2 fun e w'' hh=>?_
    obtain⟨v,rfl,h3,h4⟩:=hh
    exact hK _ _ h3 h4
   | _=>exact h2.elim
  | halt x w'=>exact h2.elim
def ll (ops:Array Oper):Bool:=
 Region.noSelect ops && (List.range ops.size).all fun i=>match ops[i]? with
  | some o=>(o.after.all fun e=>!(Region.binds .any e) || decide (e.on < i)) && (o.looksAt ops).all fun t=>(ops.all fun p=>p.dst != some t) || (List.range ops.size).any fun j=>(((ops[j]?).map (·.dst)).getD none == some t) && Region.reachB .any ops j ops.size i
  | none=>true
def kx (ops:Array Oper) (L:Array Bool) (t:Tmp):Prop:=∃ (j:Nat) (o:Oper),ops[j]?=some o∧o.dst=some t∧L.getD j false=true
structure Agr (ops:Array Oper) (a0 aF:Act) (L:Array Bool) (a:Act):Prop where
 size:a.tmps.size=aF.tmps.size
 defers:a.defers=aF.defers
 met:∀ t,kx ops L t→a.tmps[t]?=aF.tmps[t]?
 other:∀ t,¬ kx ops L t→a.tmps[t]?=a0.tmps[t]?
 apart:∀ t,(∀ (j:Nat) (o:Oper),ops[j]?=some o→o.dst≠some t)→a0.tmps[t]?=aF.tmps[t]?
theorem lF (a:Act) (dst:Option Tmp) (v:Value) (t:Nat):(a.put dst v).tmps[t]?=if dst=some t then (if t < a.tmps.size then some v else none) else a.tmps[t]?:=by
 cases dst with
 | none=>simp[Act.put]
 | some d=>
  by_cases h:d=t
  ·subst h;simp[Act.put,Array.getElem?_setIfInBounds]
  ·simp[Act.put,Array.getElem?_setIfInBounds_ne h,h]
theorem sa (a:Act) (dst:Option Tmp) (v:Value):(a.put dst v).tmps.size=a.tmps.size:=by
 cases dst <;> simp[Act.put]
theorem uO (a:Act) (dst:Option Tmp) (v:Value):(a.put dst v).defers=a.defers:=by
 cases dst <;> rfl
theorem Agr.put {a0 a:Act} {L:Array Bool} {i:Nat} {o:Oper} {v:Value} (hi:ops[i]?=some o) (hL:L.size=ops.size) (h:Agr ops a0 aF L a) (hv:aF.put o.dst v=aF) :
  Agr ops a0 aF (L.setIfInBounds i true) (a.put o.dst v):=by
 have hlt:i < ops.size:=(Array.getElem?_eq_some_iff.1 hi).1
 have hF:∀ t,o.dst=some t→aF.tmps[t]?=if t < aF.tmps.size then some v else none:=by
  intro t ht
  have:=lF aF o.dst v t
  rw[hv,if_pos ht] at this
  exact this
 have hset:(L.setIfInBounds i true).getD i false=true:=by simp[hL,hlt]
 refine⟨by rw[sa];exact h.size,by rw[uO];exact h.defers,?_,?_,h.apart⟩
 ·rintro t ⟨j,oj,hj,hdj,hlj⟩
  rw[lF]
  by_cases hd:o.dst=some t
  ·rw[if_pos hd,hF t hd,h.size]
  ·rw[if_neg hd]
   refine h.met t ⟨j,oj,hj,hdj,?_⟩
   have hne:i≠j:=by
    rintro rfl
    rw[hi] at hj
    cases hj
    exact hd hdj
   rwa [getD_set_ne false hne] at hlj
 ·intro t hn
  rw[lF]
  by_cases hd:o.dst=some t
  ·exact absurd ⟨i,o,hi,hd,hset⟩ hn
  ·rw[if_neg hd]
   refine h.other t ?_
   rintro⟨j,oj,hj,hdj,hlj⟩
   exact hn ⟨j,oj,hj,hdj,getD_set_true hlj⟩
theorem qw (h:ll ops=true) {i:Nat} {o:Oper} (hi:ops[i]?=some o):(∀ e∈o.after,Region.binds .any e=true→e.on < i)∧∀ t∈o.looksAt ops,(∀ (j:Nat) (p:Oper),ops[j]?=some p→p.dst≠some t)∨∃ (j:Nat) (p:Oper),ops[j]?=some p∧p.dst=some t∧Region.reachB .any ops j ops.size i=true:=by
 unfold ll at h
 simp only[Bool.and_eq_true] at h
 have h1:=List.all_eq_true.1 h.2 i (List.mem_range.2 (Array.getElem?_eq_some_iff.1 hi).1)
 simp only[hi,Bool.and_eq_true] at h1
 refine⟨fun e he hb=>by have h0:=Array.all_eq_true_iff_forall_mem.1 h1.1 e he;rw[hb] at h0;simpa using h0,fun t ht=>?_⟩
 have h2:=List.all_eq_true.1 h1.2 t ht
 rw[Bool.or_eq_true] at h2
 rcases h2 with h2 | h2
 ·left
  intro j p hj
  have:=Array.all_eq_true_iff_forall_mem.1 h2 p (Array.mem_of_getElem? hj)
  simpa using this
 ·right
  obtain⟨j,hj,h3⟩:=List.any_eq_true.1 h2
  rw[Bool.and_eq_true] at h3
  have hlt:=List.mem_range.1 hj
  refine⟨j,ops[j],Array.getElem?_eq_some_iff.2 ⟨hlt,rfl⟩,?_,h3.2⟩
  have h4:=h3.1
  rw[Array.getElem?_eq_some_iff.2 ⟨hlt,rfl⟩] at h4
  simpa using h4
theorem gD {L:Array Bool} {j:Nat} (hlt:j < L.size) (h:L.getD j true=true):L.getD j false=true:=by
 simp[hlt] at h ⊢
 exact h
theorem Agr.looks {a0 a:Act} {L:Array Bool} {i:Nat} {o:Oper} (hd:ll ops=true) (hi:ops[i]?=some o) (hL:L.size=ops.size) (hc:bp .any ops L) (hr:i∈Region.ready .any ops L)
  (h:Agr ops a0 aF L a):∀ t∈o.looksAt ops,a.tmps[t]?=aF.tmps[t]?:=by
 intro t ht
 rcases (qw hd hi).2 t ht with h1 | ⟨j,p,hj,hp,hrj⟩
 ·rw[h.other t (fun ⟨j,oj,hj,hdj,_⟩=>h1 j oj hj hdj),h.apart t h1]
 ·refine h.met t ⟨j,p,hj,hp,?_⟩
  have hlt:=(Array.getElem?_eq_some_iff.1 hj).1
  cases hg:L.getD j true with
  | false=>exact absurd hr (Region.reach_not_ready hc hrj hg)
  | true=>exact gD (by omega) hg
theorem Agr.exec {a0 a:Act} {L:Array Bool} {i:Nat} {o:Oper} (hd:ll ops=true) (hi:ops[i]?=some o) (hL:L.size=ops.size) (hc:bp .any ops L) (hr:i∈Region.ready .any ops L)
  (h:Agr ops a0 aF L a):execOp a.eval o=execOp aF.eval o∧Region.wanted o (yielded ops a.tmps)=Region.wanted o (yielded ops aF.tmps):=by
 have hl:=h.looks hd hi hL hc hr
 constructor
 ·refine execOp_congr o (Region.noSelect_spec (by unfold ll at hd;simp only[Bool.and_eq_true] at hd;exact hd.1) i o · · hi) fun x hx=>?_
  cases x with
  | tmp t=>
   have:=hl t (List.mem_append_left _ (List.mem_filterMap.2 ⟨.tmp t,by simpa using hx,rfl⟩))
   simp only[Act.eval,Array.getD_eq_getD_getElem?,this]
  | _=>rfl
 ·unfold Region.wanted
  cases hg:o.guard with
  | none=>rfl
  | some gw=>
   obtain⟨g,want⟩:=gw
   have hy:yielded ops a.tmps g=yielded ops aF.tmps g:=by
    unfold yielded
    cases ht:(ops[g]?).bind (·.dst) with
    | none=>rfl
    | some t=>
     have:=hl t (by simp[Oper.looksAt,hg,ht])
     simp only[Option.bind_some,this]
   simp only[hy]
theorem ln (hd:ll ops=true) {L:Array Bool} (hL:L.size=ops.size) (hr:Region.ready .any ops L=[]):∀ n i,i < n→i < ops.size→L.getD i false=true
 | 0,_,h,_=>absurd h (Nat.not_lt_zero _)
 | n+1,i,hin,hlt=>by
  cases hg:L.getD i true with
  | true=>exact gD (by omega) hg
  | false=>
   have hi:ops[i]?=some ops[i]:=Array.getElem?_eq_some_iff.2 ⟨hlt,rfl⟩
   have hm:i∈Region.ready .any ops L:=mem_ready.2 ⟨hg,ops[i],hi,fun e he hbi=>by
    have:=(qw hd hi).1 e he hbi
    exact ln hd hL hr n e.on (by omega) (by omega)⟩
   rw[hr] at hm
   cases hm
theorem Agr.full {a0 a:Act} {L:Array Bool} (hall:∀ i,i < ops.size→L.getD i false=true) (h:Agr ops a0 aF L a):a=aF:=by
 obtain⟨ts,ds⟩:=a
 obtain⟨tf,df⟩:=aF
 have h1:ts=tf:=by
  refine Array.ext_getElem? fun t=>?_
  by_cases hw:kx ops L t
  ·exact h.met t hw
  ·have hn:∀ (j:Nat) (o:Oper),ops[j]?=some o→o.dst≠some t:=fun j o hj hdj=>hw ⟨j,o,hj,hdj,hall j (Array.getElem?_eq_some_iff.1 hj).1⟩
   exact(h.other t hw).trans (h.apart t hn)
 have h2:ds=df:=h.defers
 rw[h1,h2]
theorem vv {a0:Act} {S:Array Bool→World→Prop} (hd:ll ops=true)
  (hops:∀ i o,ops[i]?=some o→∀ L w,bp .any ops L→i∈Region.ready .any ops L→S L w→ru P ops aF o w (S (L.setIfInBounds i true)))
  (hQ:∀ L w,(∀ i,i < ops.size→L.getD i false=true)→S L w→Q .normal aF w) :
  ∀ (fuel:Nat) (L:Array Bool) (a:Act) (w:World),L.size=ops.size→L.toList.count false=fuel→bp .any ops L→Agr ops a0 aF L a→S L w→wpAny P .any ops Q fuel L a w
 | 0,L,a,w,hL,hn,hc,ha,hs=>by
  have hall:∀ i,i < ops.size→L.getD i false=true:=by
   intro i hi
   have hm:=List.count_eq_zero.1 hn
   cases hg:L.getD i false with
   | true=>rfl
   | false=>
    exfalso
    apply hm
    have hlt:i < L.size:=by omega
    simp[hlt] at hg
    rw[←hg]
    simp
  have hr:Region.ready .any ops L=[]:=by
   apply List.eq_nil_iff_forall_not_mem.2
   intro i hi
   obtain⟨h1,o,ho,_⟩:=mem_ready.1 hi
   have hlt:=(Array.getElem?_eq_some_iff.1 ho).1
   have h2:=hall i hlt
   have hlt':i < L.size:=by omega
   simp[hlt'] at h1 h2
   rw[h1] at h2
   cases h2
  have he:=ha.full hall
  subst he
  exact⟨hr,hQ L w hall hs⟩
 | fuel+1,L,a,w,hL,hn,hc,ha,hs=>by
  refine⟨fun hr=>?_,fun i hi=>?_⟩
  ·have hall:∀ i,i < ops.size→L.getD i false=true:=fun i hi=>ln hd hL hr (i+1) i (by omega) hi
   have he:=ha.full hall
   subst he
   exact hQ L w hall hs
  ·obtain⟨h1,o,ho,_⟩:=mem_ready.1 hi
   have hlt:=(Array.getElem?_eq_some_iff.1 ho).1
   obtain⟨hx,hw⟩:=ha.exec hd ho hL hc hi
   refine Bn ho hx hw (hops i o ho L w hc hi hs) fun v w' hv hs'=>?_
   refine vv hd hops hQ fuel _ _ w' (by simpa using hL) ?_ (hc.set hi) (ha.put ho hL hv) hs'
   have hlt':i < L.toList.length:=by simpa [hL] using hlt
   have hlf:L.toList[i]=false:=by
    have:i < L.size:=by omega
    simp[this] at h1
    simpa using h1
   rw[Array.toList_setIfInBounds,List.count_set hlt',hlf,hn]
   simp
theorem gd:∀ (vals:List (Tmp × Value)) (a:Act),(bd a vals).tmps.size=a.tmps.size
 | [],_=>rfl
 | (n,v) :: r,a=>by unfold bd;rw[gd r,sa]
theorem ia:∀ (vals:List (Tmp × Value)) (a:Act),(bd a vals).defers=a.defers
 | [],_=>rfl
 | (n,v) :: r,a=>by unfold bd;rw[ia r,uO]
theorem g_ {t:Nat}:∀ (vals:List (Tmp × Value)) (a:Act),(∀ p∈vals,p.1≠t)→(bd a vals).tmps[t]?=a.tmps[t]?
 | [],_,_=>rfl
 | (n,v) :: r,a,h=>by
  unfold bd
  rw[g_ r _ fun p hp=>h p (List.mem_cons_of_mem _ hp),lF,if_neg]
  intro e
  exact h (n,v) (List.mem_cons_self ..) (Option.some.inj e)
theorem tD {id:Nat} {a0:Act} {w:World} (vals:List (Tmp × Value)) (S:Array Bool→World→Prop) (hm:P.follows .mixedOrders=true) (hd:ll ops=true)
  (hv:(vals.map (·.1)).all (fun t=>ops.any fun o=>o.dst == some t)=true)
  (hops:∀ i o,ops[i]?=some o→∀ L w,bp .any ops L→i∈Region.ready .any ops L→S L w→ru P ops (bd a0 vals) o w (S (L.setIfInBounds i true)))
  (h0:S (Array.replicate ops.size false) w.drew)
  (hQ:∀ L w',(∀ i,i < ops.size→L.getD i false=true)→S L w'→Q .normal (bd a0 vals) w'):(Code.region id ops true).wp P Q a0 w:=by
 refine wp_region_any hm (vv (a0:=a0) (aF:=bd a0 vals) hd hops hQ ops.size _ a0 _ (by simp) (by simp) ?_ ?_ h0)
 ·intro j oj hj hl
  simp[Array.getElem?_replicate] at hl
  split at hl <;> simp_all
 ·have hno:∀ t,¬ kx ops (Array.replicate ops.size false) t:=by
   rintro t ⟨j,o,hj,hdj,hl⟩
   simp[Array.getElem?_replicate] at hl
   split at hl <;> simp_all
  refine⟨(gd _ _).symm,(ia _ _).symm,fun t hw=>absurd hw (hno t),fun t _=>rfl,fun t ht=>?_⟩
  refine(g_ vals a0 fun p hp he=>?_).symm
  have h1:=List.all_eq_true.1 hv p.1 (List.mem_map.2 ⟨p,hp,rfl⟩)
  obtain⟨o,ho,h2⟩:=Array.any_eq_true'.1 h1
  obtain⟨j,hj⟩:=Array.mem_iff_getElem?.1 ho
  exact ht j o hj (by simpa [he] using h2)
end
section
variable {P:Program} {ops:Array Oper} {aF:Act}
theorem aD {o:Oper} {w w':World} {G:World→Prop} {v:Value} (hgd:Region.wanted o (yielded ops aF.tmps)=true) (hrun:(execOp aF.eval o).run P w=.ok (.value v) w') (hput:aF.put o.dst v=aF) (hG:G w'):ru P ops aF o w G:=by
 refine .inr ⟨hgd,?_⟩
 rw[hrun]
 exact⟨hput,hG⟩
theorem pA {o:Oper} {w:World} {G:World→Prop} (hgd:Region.wanted o (yielded ops aF.tmps)=true) (ty:TypeId) (x:Operand) (ho:o.op=.load ty x)
  (g:Nat) (hx:aF.eval x=.pointer (some ⟨g,0,none⟩)) (t:TypeId) (cs:Array Value) (fr:Nat × Nat) (d:TypeDesc) (hg:w.heap[g]?=some (.cells cs t fr))
  (hu:P.underlying ty=some d) (hd:(match d with | .struct _ | .array _ _=>true | _=>false)=true) (hi:(P.info? ty).map (·.size)=some cs.size)
  (hput:aF.put o.dst (.agg cs)=aF) (hG:G w):ru P ops aF o w G:=by
 refine .inr ⟨hgd,?_⟩
 unfold execOp
 simp only[ho,hx,Instr.loadAt,Instr.sureAddr,Sem.run_bind,Sem.run_pure,Result.andThen_ok,run_loadVar_row w g t ty cs fr d hg hu hd hi]
 exact⟨hput,hG⟩
theorem nO {o:Oper} {w:World} {G:World→Prop} (hgd:Region.wanted o (yielded ops aF.tmps)=true) (ty:TypeId) (x y:Operand) (ho:o.op=.store ty x y)
  (g:Nat) (cells:Array Value) (hx:aF.eval x=.pointer (some ⟨g,0,none⟩)) (hy:aF.eval y=.agg cells)
  (t:TypeId) (old:Array Value) (hg:w.heap[g]?=some (.cells old t (0,0))) (hi:(P.info? ty).map (·.size)=some cells.size)
  (hold:old.size=cells.size) (h1:cells.all (·.oneCell')=true)
  (hput:aF.put o.dst undef=aF) (hG:G (w.setRow g cells)):ru P ops aF o w G:=by
 refine .inr ⟨hgd,?_⟩
 unfold execOp
 simp only[ho,hx,hy,Instr.storeAt,Instr.sureAddr,Sem.run_bind,Sem.run_pure,Result.andThen_ok,run_storeVar_row w g t ty old cells hg hi hold h1]
 exact⟨hput,hG⟩
theorem gQ {o:Oper} {w:World} {G:World→Prop} (hgd:Region.wanted o (yielded ops aF.tmps)=true) {f:FuncId} {fn:Func} {xs:Array Operand} {ts:Array TypeId} (hf:P.funcs[f]?=some fn) (hname:(fn.name == "runtime.NumGoroutine")=false) (hb:fn.body.isSome=true) (args:Array Value)
  (hop:o.op=.call { callee:=.value (.func f),args:=xs,argTypes:=ts }) (hargs:xs.toList.map aF.eval=args.toList)
  (h:Calls P f args w fun e w'=>∃ v,e=.returned v∧aF.put o.dst v=aF∧G w'):ru P ops aF o w G:=by
 refine .inr ⟨hgd,?_⟩
 have hargs':xs.map aF.eval=args:=by apply Array.toList_inj.1;simpa using hargs
 have he:=rl hf hname hb args w
 have hrun:(execOp aF.eval o).run P w=.ok (.enter f args) w:=by
  unfold execOp
  simp[hop,resolve,Deferred.ofValue,invoke,Act.eval,hargs',he]
 rw[hrun]
 exact h
theorem iD {L:Array Bool} {i j:Nat} (hc:bp .any ops L) (hi:i∈Region.ready .any ops L) (hr:Region.reachB .any ops i ops.size j=true):L.getD j false=false:=by
 obtain⟨h1,o,ho,_⟩:=mem_ready.1 hi
 cases hg:L.getD j false with
 | false=>rfl
 | true=>
  have h2:=Region.reach_listed hc ops.size j hr hg
  by_cases hlt:i < L.size
  ·simp[hlt] at h1 h2
   rw[h1] at h2
   cases h2
  ·simp[Array.getElem?_eq_none (Nat.le_of_not_lt hlt)] at h2
end
theorem az {B:Nat} {w W:World} (h:Below B w W):Below B w W.drew:=⟨h.os,h.tape,h.output,h.size,h.block⟩
section
variable {P:Program} {ops:Array Oper} {Q:Exit→Act→World→Prop} {σ:Type}
def Do (P:Program) (G:Value→World→Prop):Result Next→Prop
 | .ok (.value v) w'=>G v w'
 | .ok .skip w'=>G undef w'
 | .ok (.enter f args) w'=>Calls P f args w' fun e w''=>∃ v,e=.returned v∧G v w''
 | _=>False
def fK (P:Program) (ops:Array Oper) (aF:Act) (o:Oper) (w:World) (G:Value→World→Prop):Prop:=
 (Region.wanted o (yielded ops aF.tmps)=false∧G undef w)∨
 (Region.wanted o (yielded ops aF.tmps)=true∧Do P G ((execOp aF.eval o).run P w))
theorem zo {i:Nat} {o:Oper} {a aF:Act} {w:World} {G:Value→World→Prop} {K:Act→World→Prop} (hi:ops[i]?=some o) (he:execOp a.eval o=execOp aF.eval o)
  (hw:Region.wanted o (yielded ops a.tmps)=Region.wanted o (yielded ops aF.tmps)) (h:fK P ops aF o w G)
  (hK:∀ v w',G v w'→K (a.put o.dst v) w'):wpOp P ops Q i K a w:=by
 unfold wpOp
 simp only[hi,hw]
 rcases h with ⟨h1,h3⟩ | ⟨h1,h2⟩
 ·simp only[h1,Bool.false_eq_true,if_false]
  exact hK _ _ h3
 ·simp only[h1,if_true]
  left
  unfold Oper.wp
  rw[he]
  generalize (execOp aF.eval o).run P w=r at h2
  cases r with
  | ok n w'=>
   cases n with
   | value v=>exact hK _ _ h2
   | skip=>exact hK _ _ h2
   | enter f args=>
    refine Calls.mono h2 fun e w'' hh=>?_
    obtain⟨v,rfl,h4⟩:=hh
    exact hK _ _ h4
   | _=>exact h2.elim
  | halt x w'=>exact h2.elim
def s_ (ops:Array Oper) (aF:σ→Act) (S:σ→Array Bool→World→Prop) (s:σ) (L:Array Bool) (i:Nat) (o:Oper) (v:Value) (w':World):Prop:=
 ∃ s',(aF s').put o.dst v=aF s'∧(∀ t,kx ops L t→(aF s).tmps[t]?=(aF s').tmps[t]?)∧S s' (L.setIfInBounds i true) w'
theorem s6 {a0:Act} {vals:σ→List (Tmp × Value)} {S:σ→Array Bool→World→Prop} (hd:ll ops=true) (hv:∀ s,((vals s).map (·.1)).all (fun t=>ops.any fun o=>o.dst == some t)=true)
  (hops:∀ i o,ops[i]?=some o→∀ s L w,bp .any ops L→i∈Region.ready .any ops L→S s L w→fK P ops (bd a0 (vals s)) o w (s_ ops (fun s=>bd a0 (vals s)) S s L i o))
  (hQ:∀ s L w,(∀ i,i < ops.size→L.getD i false=true)→S s L w→Q .normal (bd a0 (vals s)) w) :
  ∀ (fuel:Nat) (s:σ) (L:Array Bool) (a:Act) (w:World),L.size=ops.size→L.toList.count false=fuel→bp .any ops L→Agr ops a0 (bd a0 (vals s)) L a→S s L w→wpAny P .any ops Q fuel L a w
 | 0,s,L,a,w,hL,hn,hc,ha,hs=>by
  have hall:∀ i,i < ops.size→L.getD i false=true:=by
   intro i hi
   have hm:=List.count_eq_zero.1 hn
   cases hg:L.getD i false with
   | true=>rfl
   | false=>
    exfalso
    apply hm
    have hlt:i < L.size:=by omega
    simp[hlt] at hg
    rw[←hg]
    simp
  have hr:Region.ready .any ops L=[]:=by
   apply List.eq_nil_iff_forall_not_mem.2
   intro i hi
   obtain⟨h1,o,ho,_⟩:=mem_ready.1 hi
   have hlt:=(Array.getElem?_eq_some_iff.1 ho).1
   have h2:=hall i hlt
   have hlt':i < L.size:=by omega
   simp[hlt'] at h1 h2
   rw[h1] at h2
   cases h2
  have he:=ha.full hall
  subst he
  exact⟨hr,hQ s L w hall hs⟩
 | fuel+1,s,L,a,w,hL,hn,hc,ha,hs=>by
  refine⟨fun hr=>?_,fun i hi=>?_⟩
  ·have hall:∀ i,i < ops.size→L.getD i false=true:=fun i hi=>ln hd hL hr (i+1) i (by omega) hi
   have he:=ha.full hall
   subst he
   exact hQ s L w hall hs
  ·obtain⟨h1,o,ho,_⟩:=mem_ready.1 hi
   have hlt:=(Array.getElem?_eq_some_iff.1 ho).1
   obtain⟨hx,hw⟩:=ha.exec hd ho hL hc hi
   refine zo ho hx hw (hops i o ho s L w hc hi hs) fun v w' hN=>?_
   obtain⟨s',hput,hsame,hs'⟩:=hN
   have ha':Agr ops a0 (bd a0 (vals s')) L a:=by
    refine⟨by rw[ha.size,gd,gd],by rw[ha.defers,ia,ia],fun t ht=>(ha.met t ht).trans (hsame t ht),ha.other,fun t ht=>?_⟩
    refine(g_ (vals s') a0 fun p hp he=>?_).symm
    have h1:=List.all_eq_true.1 (hv s') p.1 (List.mem_map.2 ⟨p,hp,rfl⟩)
    obtain⟨o,ho,h2⟩:=Array.any_eq_true'.1 h1
    obtain⟨j,hj⟩:=Array.mem_iff_getElem?.1 ho
    exact ht j o hj (by simpa [he] using h2)
   refine s6 hd hv hops hQ fuel s' _ _ w' (by simpa using hL) ?_ (hc.set hi) (ha'.put ho hL hput) hs'
   have hlt':i < L.toList.length:=by simpa [hL] using hlt
   have hlf:L.toList[i]=false:=by
    have:i < L.size:=by omega
    simp[this] at h1
    simpa using h1
   rw[Array.toList_setIfInBounds,List.count_set hlt',hlf,hn]
   simp
theorem r9 {id:Nat} {a0:Act} {w:World} (vals:σ→List (Tmp × Value)) (S:σ→Array Bool→World→Prop) (s0:σ) (hm:P.follows .mixedOrders=true) (hd:ll ops=true)
  (hv:∀ s,((vals s).map (·.1)).all (fun t=>ops.any fun o=>o.dst == some t)=true)
  (hops:∀ i o,ops[i]?=some o→∀ s L w,bp .any ops L→i∈Region.ready .any ops L→S s L w→fK P ops (bd a0 (vals s)) o w (s_ ops (fun s=>bd a0 (vals s)) S s L i o))
  (h0:S s0 (Array.replicate ops.size false) w.drew)
  (hQ:∀ s L w',(∀ i,i < ops.size→L.getD i false=true)→S s L w'→Q .normal (bd a0 (vals s)) w'):(Code.region id ops true).wp P Q a0 w:=by
 refine wp_region_any hm (s6 (a0:=a0) (vals:=vals) hd hv hops hQ ops.size s0 _ a0 _ (by simp) (by simp) ?_ ?_ h0)
 ·intro j oj hj hl
  simp[Array.getElem?_replicate] at hl
  split at hl <;> simp_all
 ·have hno:∀ t,¬ kx ops (Array.replicate ops.size false) t:=by
   rintro t ⟨j,o,hj,hdj,hl⟩
   simp[Array.getElem?_replicate] at hl
   split at hl <;> simp_all
  refine⟨(gd _ _).symm,(ia _ _).symm,fun t hw=>absurd hw (hno t),fun t _=>rfl,fun t ht=>?_⟩
  refine(g_ (vals s0) a0 fun p hp he=>?_).symm
  have h1:=List.all_eq_true.1 (hv s0) p.1 (List.mem_map.2 ⟨p,hp,rfl⟩)
  obtain⟨o,ho,h2⟩:=Array.any_eq_true'.1 h1
  obtain⟨j,hj⟩:=Array.mem_iff_getElem?.1 ho
  exact ht j o hj (by simpa [he] using h2)
end
theorem cj {ops:Array Oper} {σ:Type} {aF:σ→Act} {S:σ→Array Bool→World→Prop} {s:σ} {L:Array Bool} {i:Nat} {o:Oper} {v:Value} {w':World} (hput:(aF s).put o.dst v=aF s) (hS:S s (L.setIfInBounds i true) w'):s_ ops aF S s L i o v w':=
 ⟨s,hput,fun _ _=>rfl,hS⟩
theorem iS {ops:Array Oper} {σ:Type} {aF:σ→Act} {S:σ→Array Bool→World→Prop} {s:σ} {L:Array Bool} {i:Nat} {o:Oper} {v:Value} {w':World} (s':σ) (d:Tmp) (hr:i∈Region.ready .any ops L) (hd:o.dst=some d)
  (hu:((List.range ops.size).all fun j=>((ops[j]?).map (·.dst)).getD none != some d || j == i)=true) (hput:(aF s').put o.dst v=aF s') (hnew:aF s'=(aF s).put o.dst v) (hS:S s' (L.setIfInBounds i true) w'):s_ ops aF S s L i o v w':=by
 refine⟨s',hput,fun t ht=>?_,hS⟩
 rw[hnew,lF]
 by_cases h:o.dst=some t
 ·exfalso
  obtain⟨j,p,hj,hp,hl⟩:=ht
  have h1:=List.all_eq_true.1 hu j (List.mem_range.2 (Array.getElem?_eq_some_iff.1 hj).1)
  rw[hj] at h1
  have e:d=t:=Option.some.inj (hd.symm.trans h)
  subst e
  simp[hp] at h1
  subst h1
  obtain⟨h2,_⟩:=mem_ready.1 hr
  by_cases hlt:j < L.size
  ·simp[hlt] at h2 hl
   rw[h2] at hl
   cases hl
  ·simp[Array.getElem?_eq_none (Nat.le_of_not_lt hlt)] at hl
 ·rw[if_neg h]
theorem ab {P:Program} {ops:Array Oper} {aF:Act} {o:Oper} {w w':World} {G:Value→World→Prop} {v:Value} (hgd:Region.wanted o (yielded ops aF.tmps)=true) (hrun:(execOp aF.eval o).run P w=.ok (.value v) w') (hG:G v w'):fK P ops aF o w G:=by
 refine .inr ⟨hgd,?_⟩
 rw[hrun]
 exact hG
theorem fl {P:Program} {ops:Array Oper} {aF:Act} {o:Oper} {w:World} {G:Value→World→Prop} (hgd:Region.wanted o (yielded ops aF.tmps)=true) (ty:TypeId) (x:Operand) (ho:o.op=.load ty x)
  (g:Nat) (hx:aF.eval x=.pointer (some ⟨g,0,none⟩)) (t:TypeId) (cs:Array Value) (fr:Nat × Nat) (d:TypeDesc) (hg:w.heap[g]?=some (.cells cs t fr))
  (hu:P.underlying ty=some d) (hd:(match d with | .struct _ | .array _ _=>true | _=>false)=true) (hi:(P.info? ty).map (·.size)=some cs.size) (hG:G (.agg cs) w):fK P ops aF o w G:=by
 refine .inr ⟨hgd,?_⟩
 unfold execOp
 simp only[ho,hx,Instr.loadAt,Instr.sureAddr,Sem.run_bind,Sem.run_pure,Result.andThen_ok,run_loadVar_row w g t ty cs fr d hg hu hd hi]
 exact hG
theorem aN {P:Program} {ops:Array Oper} {aF:Act} {o:Oper} {w:World} {G:Value→World→Prop} (hgd:Region.wanted o (yielded ops aF.tmps)=true) {f:FuncId} {fn:Func} {xs:Array Operand} {ts:Array TypeId} (hf:P.funcs[f]?=some fn) (hname:(fn.name == "runtime.NumGoroutine")=false) (hb:fn.body.isSome=true) (args:Array Value)
  (hop:o.op=.call { callee:=.value (.func f),args:=xs,argTypes:=ts }) (hargs:xs.toList.map aF.eval=args.toList)
  (h:Calls P f args w fun e w'=>∃ v,e=.returned v∧G v w'):fK P ops aF o w G:=by
 refine .inr ⟨hgd,?_⟩
 have hargs':xs.map aF.eval=args:=by apply Array.toList_inj.1;simpa using hargs
 have he:=rl hf hname hb args w
 have hrun:(execOp aF.eval o).run P w=.ok (.enter f args) w:=by
  unfold execOp
  simp[hop,resolve,Deferred.ofValue,invoke,Act.eval,hargs',he]
 rw[hrun]
 exact h
theorem f_ {P:Program} {ops:Array Oper} {Q:Exit→Act→World→Prop} {id:Nat} {a0:Act} {w:World} (vals:List (Tmp × Value)) (S:Array Bool→World→Prop) (hm:P.follows .mixedOrders=true) (hd:ll ops=true)
  (hv:(vals.map (·.1)).all (fun t=>ops.any fun o=>o.dst == some t)=true)
  (h:∀ aF,bd a0 vals=aF→(∀ i o,ops[i]?=some o→∀ L w,bp .any ops L→i∈Region.ready .any ops L→S L w→ru P ops aF o w (S (L.setIfInBounds i true)))∧
   S (Array.replicate ops.size false) w.drew∧(∀ L w',(∀ i,i < ops.size→L.getD i false=true)→S L w'→Q .normal aF w')):(Code.region id ops true).wp P Q a0 w:=by
 obtain⟨h1,h2,h3⟩:=h _ rfl
 exact tD vals S hm hd hv h1 h2 h3
theorem br {P:Program} {ops:Array Oper} {aF:Act} {o:Oper} {w:World} {G:World→Prop} (hgd:Region.wanted o (yielded ops aF.tmps)=false) (hput:aF.put o.dst undef=aF) (hG:G w):ru P ops aF o w G:=.inl ⟨hgd,hput,hG⟩
theorem fk {ops:Array Oper} {L:Array Bool} {i:Nat} (hi:i∈Region.ready .any ops L):L.getD i false=false:=by
 obtain⟨h1,_⟩:=mem_ready.1 hi
 cases hg:L.getD i false with
 | false=>rfl
 | true=>
  by_cases hlt:i < L.size
  ·simp[hlt] at h1 hg
   rw[h1] at hg
   cases hg
  ·simp[Array.getElem?_eq_none (Nat.le_of_not_lt hlt)] at hg
theorem ji {P:Program} {ops:Array Oper} {Q:Exit→Act→World→Prop} {σ:Type} {id:Nat} {a0:Act} {w:World} (vals:σ→List (Tmp × Value)) (S:σ→Array Bool→World→Prop) (s0:σ) (hm:P.follows .mixedOrders=true) (hd:ll ops=true)
  (hv:∀ s,((vals s).map (·.1)).all (fun t=>ops.any fun o=>o.dst == some t)=true)
  (h:∀ aF:σ→Act,(fun s=>bd a0 (vals s))=aF→(∀ i o,ops[i]?=some o→∀ s L w,bp .any ops L→i∈Region.ready .any ops L→S s L w→fK P ops (aF s) o w (s_ ops aF S s L i o))∧
   S s0 (Array.replicate ops.size false) w.drew∧(∀ s L w',(∀ i,i < ops.size→L.getD i false=true)→S s L w'→Q .normal (aF s) w')):(Code.region id ops true).wp P Q a0 w:=by
 obtain⟨h1,h2,h3⟩:=h _ rfl
 exact r9 vals S s0 hm hd hv h1 h2 h3
theorem jz {ops:Array Oper} {L:Array Bool} {i:Nat} (hc:bp .any ops L) (hi:i∈Region.ready .any ops L) (j:Nat) (hr:Region.reachB .any ops j ops.size i=true) (hlt:j < L.size):L.getD j false=true:=by
 cases hg:L.getD j true with
 | false=>exact absurd hi (Region.reach_not_ready hc hr hg)
 | true=>exact gD hlt hg
end
inductive Sr where
 | was (l:Int)
 | is (n:Int)
 | no
 deriving DecidableEq
def Sr.v:Sr→Value
 | .was l=>.iface 199 (.agg #[.int .i64 l])
 | .is n=>.iface 202 (.agg #[.int .i64 n])
 | .no=>.nilIface
theorem Sr.one (s:Sr):s.v.oneCell'=true:=by cases s <;> rfl
def av (T:List Sr):Array Value:=(T.map Sr.v).toArray
theorem aR (T:List Sr):(av T).size=T.length:=by simp[av]
theorem bQ (T:List Sr):(av T).all (·.oneCell')=true:=by
 rw[Array.all_eq_true_iff_forall_mem]
 intro v hv
 simp only[av,List.mem_toArray,List.mem_map] at hv
 obtain⟨s,_,rfl⟩:=hv
 exact s.one
theorem tq (T:List Sr) (i:Nat) (s:Sr):(av T).setIfInBounds i s.v=av (T.set i s):=by
 simp[av,List.map_set]
theorem kU (T:List Sr) (i:Nat) (h:i < T.length):(av T)[i]?=some (T[i]).v:=by
 simp[av,h]
def bo:List Sr:=List.replicate 24 .no
def first:List Sr:=(List.range 24).map fun i:Nat=>Sr.was (i:Int)
theorem yC:first.length=24:=by simp[first]
def iM (i:Nat):List Sr:=(List.range 24).map fun j:Nat=>if j < i then Sr.was (j:Int) else Sr.no
theorem o5 (i:Nat):(iM i).length=24:=by simp[iM]
theorem tZ:iM 24=first:=by decide
theorem tY (i:Nat) (h:i < 24):(iM i).set i (.was (i:Int))=iM (i+1):=by
 apply List.ext_getElem
 ·simp[iM]
 ·intro j h1 h2
  have hj:j < 24:=by simpa [iM] using h1
  rw[List.getElem_set]
  simp only[iM,List.getElem_map,List.getElem_range]
  by_cases e:i=j
  ·subst e
   rw[if_pos rfl,if_pos (by omega)]
  ·rw[if_neg e]
   by_cases c:j < i
   ·rw[if_pos c,if_pos (by omega)]
   ·rw[if_neg c,if_neg (by omega)]
theorem j7:(Tryz.prog.info? 99).map (·.size)=some 24:=by kernel_rfl
def bC (w:World) (g:Nat) (T:List Sr):Prop:=w.heap[g]?=some (.cells (av T) 99 (0,0))
theorem bC.cell {w:World} {g:Nat} {T:List Sr} (h:bC w g T) (i:Nat) (hi:i < T.length):w.cell? ⟨g,i,none⟩=some (T[i]).v:=by
 rw[ah h,kU T i hi]
theorem bC.free {w:World} {g:Nat} {T:List Sr} (h:bC w g T) (i:Nat):w.frozen? ⟨g,i,none⟩=false:=aq h i
theorem bC.set {w:World} {g:Nat} {T:List Sr} (h:bC w g T) (i:Nat) (s:Sr):bC (w.setCell ⟨g,i,none⟩ s.v) g (T.set i s):=by
 have:=ey h i s.v
 rw[tq] at this
 exact this
theorem bC.far {w:World} {g:Nat} {T:List Sr} (h:bC w g T) {p:Addr} (hp:g≠p.block) (u:Value):bC (w.setCell p u) g T:=a8 h hp u
theorem bC.below {w w':World} {g:Nat} {T:List Sr} (h:bC w g T) (hb:Below w.heap.size w w'):bC w' g T:=(hb.block g (ai h)).trans h
def DU (w:World) (i:Nat) (wr:World):Prop:=i≤24∧Below w.heap.size w wr∧bC wr w.heap.size bo∧bC wr (w.heap.size+1) (iM i)
theorem u_ (w:World):Calls Tryz.prog 68 #[] w fun e w'=>e=.returned (.agg (av first))∧Below w.heap.size w w':=by
 go_enter Tryz.func68,Tryz.ntmps68
 go_wp2
 go_loopw [3] (fun c wr=>∃ i:Nat,c=.int .i64 i∧aa (DU w i wr)) (fun c _=>24 - (intOf c).toNat)
 case atStart=>exact⟨0,rfl,⟨⟨by omega,ae (ae (Below.refl _ _) _) _,heap_alloc2_old _ _ _,heap_alloc2_new _ _ _⟩⟩⟩
 case round=>
  obtain⟨i,rfl,HS⟩:=hrel
  obtain⟨h24,hb,hr,ht⟩:=HS.out
  by_cases hi:i < 24
  ·have hc:=ht.cell i (by rw[o5];exact hi)
   have hf:=ht.free i
   have hi':(i:Int) < 24:=by omega
   obtain⟨v,hv⟩:=nm_ (((iM i)[i]'(by rw[o5];exact hi)).v)
   rw[←hv] at hc
   clear hv HS
   have HT:=ak_ ht
   have HR:=ak_ hr
   have HB:=ak_ hb
   clear ht hr hb
   go_wp2
   go_roundw
   case rel=>exact⟨i+1,by go_num,⟨⟨by omega,HB.out.setCell (by simp) _,HR.out.far (by simp) _,by rw[←tY i hi];exact HT.out.set i (.was (i:Int))⟩⟩⟩
   case measure=>simp[intOf];omega
  ·obtain rfl:i=24:=by omega
   rw[tZ] at ht
   have HT:=ak_ ht
   have HR:=ak_ hr
   have HB:=ak_ hb
   clear ht hr hb HS
   go_wp2_with (first
    | ((with_reducible refine aj (N:=12) rfl ?_);refine wpList_load_row rfl 99 _ rfl (w.heap.size+1) rfl 99 (av first) (0,0) _ HT.out Tryz.underlying99 rfl j7 ?_)
    | ((with_reducible refine ao (t:=99) (p:=0) rfl ?_);refine wpList_store_row rfl 99 _ _ rfl w.heap.size (av first) rfl rfl 99 (av bo) HR.out j7 rfl (bQ first) ?_))
   have hres:(wr.setRow w.heap.size (av first)).heap[w.heap.size]?=some (.cells (av first) 99 (0,0)):=setRow_heap wr w.heap.size _ _ 99 _ HR.out
   exact bodyPost_ret (v:=.agg (av first)) (results_cell_row rfl _ _ w.heap.size 99 (av first) (0,0) _ rfl hres Tryz.underlying99 rfl j7) rfl ⟨rfl,below_setRow HB.out (Nat.le_refl _) _⟩
def inR (l:Int):Bool:=decide (0≤l∧l≤23)
def Sr.ok:Sr→Bool
 | .was l=>inR l
 | .is _=>true
 | .no=>false
theorem pY (l:Int) (w:World):Calls Tryz.prog 94 #[.int .i64 l] w fun e w'=>e=.returned (.bool (inR l))∧ir w w':=by
 unfold inR
 by_cases h1:0≤l
 ·by_cases h2:l < 24
  ·have e:decide (0≤l∧l≤23)=true:=decide_eq_true (by omega)
   rw[e]
   go_enter Tryz.func94,Tryz.ntmps94
   go_wp2
   go_ret
   exact⟨rfl,⟨0,rfl⟩⟩
  ·have e:decide (0≤l∧l≤23)=false:=decide_eq_false (by omega)
   rw[e]
   go_enter Tryz.func94,Tryz.ntmps94
   go_wp2
   go_ret
   exact⟨rfl,⟨0,rfl⟩⟩
 ·have e:decide (0≤l∧l≤23)=false:=decide_eq_false (by omega)
  rw[e]
  go_enter Tryz.func94,Tryz.ntmps94
  go_wp2
  go_ret
  exact⟨rfl,⟨0,rfl⟩⟩
theorem jT (l:Int) (w:World):Calls Tryz.prog 94 #[.int .i64 l] w fun e w'=>e=.returned (.bool (inR l))∧ir w w':=pY l w
def lV (l:Int):Bool:=decide (0≤l∧l≤7)
theorem lL (l:Int) (w:World):Calls Tryz.prog 98 #[.int .i64 l] w fun e w'=>e=.returned (.bool (lV l))∧ir w w':=by
 unfold lV
 by_cases h1:0≤l
 ·by_cases h2:l < 8
  ·have e:decide (0≤l∧l≤7)=true:=decide_eq_true (by omega)
   rw[e]
   go_enter Tryz.func98,Tryz.ntmps98
   go_wp2
   go_ret
   exact⟨rfl,⟨0,rfl⟩⟩
  ·have e:decide (0≤l∧l≤7)=false:=decide_eq_false (by omega)
   rw[e]
   go_enter Tryz.func98,Tryz.ntmps98
   go_wp2
   go_ret
   exact⟨rfl,⟨0,rfl⟩⟩
 ·have e:decide (0≤l∧l≤7)=false:=decide_eq_false (by omega)
  rw[e]
  go_enter Tryz.func98,Tryz.ntmps98
  go_wp2
  go_ret
  exact⟨rfl,⟨0,rfl⟩⟩
theorem zk (x:Value) (W:World):(Instr.typeAssert (.iface 199 x) 97 199 true).run Tryz.prog W=.ok (.tuple #[x,.bool true]) W:=by kernel_rfl
theorem pN (x:Value) (W:World):(Instr.typeAssert (.iface 199 x) 97 202 true).run Tryz.prog W=.ok (.tuple #[.agg #[.int .i64 0],.bool false]) W:=by kernel_rfl
theorem vQ (x:Value) (W:World):(Instr.typeAssert (.iface 202 x) 97 199 true).run Tryz.prog W=.ok (.tuple #[.agg #[.int .i64 0],.bool false]) W:=by kernel_rfl
theorem Cy (x:Value) (W:World):(Instr.typeAssert (.iface 202 x) 97 202 true).run Tryz.prog W=.ok (.tuple #[x,.bool true]) W:=by kernel_rfl
theorem pO (W:World):(Instr.typeAssert .nilIface 97 199 true).run Tryz.prog W=.ok (.tuple #[.agg #[.int .i64 0],.bool false]) W:=by kernel_rfl
theorem rK (W:World):(Instr.typeAssert .nilIface 97 202 true).run Tryz.prog W=.ok (.tuple #[.agg #[.int .i64 0],.bool false]) W:=by kernel_rfl
theorem uZ (s:Sr) (w:World):Calls Tryz.prog 121 #[s.v] w fun e w'=>e=.returned (.bool s.ok)∧Below w.heap.size w w':=by
 have t1:=zk
 have t2:=pN
 have t3:=vQ
 have t4:=Cy
 have t5:=pO
 have t6:=rK
 cases s with
 | was l=>
  unfold Sr.v Sr.ok
  go_enter Tryz.func121,Tryz.ntmps121
  go_wp2_with (first | (go_at_call 94;refine(jT _ _).mono ?_;rintro e w' ⟨rfl,⟨nd,rfl⟩⟩))
  go_ret
  exact⟨rfl,by repeat (first | exact Below.refl _ _ | apply ae | apply aI | refine Below.setCell ?_ (by simp) _)⟩
 | is n=>
  unfold Sr.v Sr.ok
  go_enter Tryz.func121,Tryz.ntmps121
  go_wp2
  go_ret
  exact⟨rfl,by repeat (first | exact Below.refl _ _ | apply ae | apply aI | refine Below.setCell ?_ (by simp) _)⟩
 | no=>
  unfold Sr.v Sr.ok
  go_enter Tryz.func121,Tryz.ntmps121
  go_wp2
  go_ret
  exact⟨rfl,by repeat (first | exact Below.refl _ _ | apply ae | apply aI | refine Below.setCell ?_ (by simp) _)⟩
def kL (T:List Sr):Bool:=T.all Sr.ok
def iV (T:List Sr):List Sr:=if kL T=true then T else first
def rz (T:List Sr) (i:Nat):Prop:=∀ j (h:j < T.length),j < i→(T[j]).ok=true
theorem sF {T:List Sr} {i:Nat} (hi:i < T.length) (h:rz T i) (hs:(T[i]).ok=true):rz T (i+1):=by
 intro j hj hlt
 by_cases e:j=i
 ·subst e;exact hs
 ·exact h j hj (by omega)
theorem tV {T:List Sr} (h:rz T T.length):kL T=true:=by
 unfold kL
 rw[List.all_eq_true]
 intro s hs
 obtain⟨i,hi,rfl⟩:=List.mem_iff_getElem.mp hs
 exact h i hi hi
theorem yz {T:List Sr} {i:Nat} (hi:i < T.length) (hs:(T[i]).ok=false):kL T=false:=by
 unfold kL
 rw[List.all_eq_false]
 exact⟨T[i],List.getElem_mem hi,by rw[hs];decide⟩
theorem BL (W:World):(isAgg 97).run Tryz.prog W=.ok false W:=by kernel_rfl
theorem zu (W:World):(sizeOf 97).run Tryz.prog W=.ok 1 W:=by kernel_rfl
theorem pC (T:List Sr) (hT:T.length=24) (i:Nat) (hi:i < T.length) (W:World):(Instr.index 99 (.agg (av T)) (.int .i64 (i:Int))).run Tryz.prog W=.ok (T[i]).v W:=by
 have hg:=kU T i hi
 have h0:(0:Int)≤i:=by omega
 have h1:(i:Int) < 24:=by omega
 have h2:i < 24:=by omega
 simp[Instr.index,asIntOf,run_underlying Tryz.underlying99,h0,h1,h2,part,BL,zu,hg,Result.andThen]
theorem rY {a b:Bool} (h:a=b):Ending.returned (.bool a)=Ending.returned (.bool b):=by rw[h]
theorem Ao (T:List Sr) (hT:T.length=24) (w:World):Calls Tryz.prog 113 #[.agg (av T)] w fun e w'=>e=.returned (.bool (kL T))∧Below w.heap.size w w':=by
 have HL:=ak_ hT
 clear hT
 obtain⟨g,hg⟩:=nm_ (kL T)
 rw[←hg]
 have HG:=ak_ hg
 clear hg
 go_enter Tryz.func113,Tryz.ntmps113
 go_wp2_with (first
    | ((with_reducible refine aj (N:=5) rfl ?_);refine wpList_load_row rfl 99 _ rfl w.heap.size rfl 99 (av T) (0,0) _ (heap_alloc_new w _) Tryz.underlying99 rfl (by rw[aR,HL.out];exact j7) ?_))
 go_loopw [6] (fun c wr=>∃ i:Nat,c=.int .i64 i∧aa (i≤24∧rz T i∧Below w.heap.size w wr)) (fun c _=>24 - (intOf c).toNat)
 case atStart=>exact⟨0,rfl,⟨⟨by omega,fun j _ h=>by omega,ae (Below.refl _ _) _⟩⟩⟩
 case round=>
  obtain⟨i,rfl,HS⟩:=hrel
  by_cases hi:i < 24
  ·have hix:=pC T HL.out i (by rw[HL.out];exact hi)
   have hi':(i:Int) < 24:=by omega
   obtain⟨s,hs⟩:=nm_ (T[i]'(by rw[HL.out];exact hi))
   rw[←hs] at hix
   have HE:=ak_ hs
   clear hs
   cases hok:s.ok with
   | true=>
    have HO:=ak_ hok
    have hm:=uZ s
    rw[hok] at hm
    have HM:=ak_ hm
    clear hok hm
    go_wp2_with (first | (go_at_call 121;refine(HM.out _).mono ?_;rintro e w' ⟨rfl,hb⟩;have HB:=ak_ hb;clear hb))
    go_roundw
    case rel=>exact⟨i+1,by go_num,⟨⟨by omega,sF (by rw[HL.out];exact hi) HS.out.2.1 (by rw[←HE.out];exact HO.out),af HS.out.2.2 HB.out⟩⟩⟩
    case measure=>simp[intOf];omega
   | false=>
    have hg:=yz (T:=T) (i:=i) (by rw[HL.out];exact hi) (by rw[←HE.out];exact hok)
    obtain rfl:g=false:=HG.out.trans hg
    have hm:=uZ s
    rw[hok] at hm
    have HM:=ak_ hm
    clear hok hm hg
    go_wp2_with (first | (go_at_call 121;refine(HM.out _).mono ?_;rintro e w' ⟨rfl,hb⟩;have HB:=ak_ hb;clear hb))
    go_ret
    exact⟨rfl,af HS.out.2.2 HB.out⟩
  ·obtain rfl:i=24:=by have:=HS.out.1;omega
   have hg:=tV (T:=T) (by rw[HL.out];exact HS.out.2.1)
   obtain rfl:g=true:=HG.out.trans hg
   clear hg
   go_wp2
   go_ret
   exact⟨rfl,HS.out.2.2⟩
theorem Ad {T:List Sr} (h:kL T=true):iV T=T:=by unfold iV;rw[if_pos h]
theorem yy {T:List Sr} (h:kL T=false):iV T=first:=by unfold iV;rw[if_neg (by rw[h];decide)]
theorem mQ {T:List Sr} (h:T.length=24):(iV T).length=24:=by
 unfold iV
 split
 ·exact h
 ·exact yC
theorem aZ {T:List Sr} (h:T.length=24):(Tryz.prog.info? 99).map (·.size)=some (av T).size:=by rw[aR,h];exact j7
theorem dm {w w1:World} {A B:Obj} (hb:Below ((w.alloc A).alloc B).heap.size ((w.alloc A).alloc B) w1) :
  w1.heap[w.heap.size+1]?=some B∧w1.heap[w.heap.size]?=some A∧Below w.heap.size w w1:=by
 have hs:((w.alloc A).alloc B).heap.size=w.heap.size+2:=by simp
 refine⟨(hb.block _ (by omega)).trans (heap_alloc2_new w A B),(hb.block _ (by omega)).trans (heap_alloc2_old w A B),af (ae (ae (Below.refl _ _) _) _) hb⟩
theorem An (T:List Sr) (hT:T.length=24) (w:World):Calls Tryz.prog 93 #[.agg (av T)] w fun e w'=>e=.returned (.agg (av (iV T)))∧Below w.heap.size w w':=by
 have HL:=ak_ hT
 have hG:=Ao T hT
 clear hT
 obtain⟨R,hR⟩:=nm_ (iV T)
 rw[←hR]
 have HR:=ak_ hR
 clear hR
 cases hg:kL T with
 | true=>
  obtain rfl:R=T:=HR.out.trans (Ad hg)
  rw[hg] at hG
  have HM:=ak_ hG
  clear hG hg
  go_enter Tryz.func93,Tryz.ntmps93
  go_wp2_with (first
    | ((with_reducible refine aj (N:=3) rfl ?_);refine wpList_load_row rfl 99 _ rfl w.heap.size rfl 99 (av R) (0,0) _ (heap_alloc2_old w _ _) Tryz.underlying99 rfl (aZ HL.out) ?_)
    | (go_at_call 113;refine(HM.out _).mono ?_;rintro e w1 ⟨rfl,hb⟩;obtain⟨hr,ht,hb2⟩:=dm hb;have HR1:=ak_ hr;have HT1:=ak_ ht;have HB:=ak_ hb2;clear hr ht hb hb2)
    | ((with_reducible refine aj (N:=5) rfl ?_);refine wpList_load_row rfl 99 _ rfl w.heap.size rfl 99 (av R) (0,0) _ HT1.out Tryz.underlying99 rfl (aZ HL.out) ?_)
    | ((with_reducible refine ao (t:=99) (p:=2) rfl ?_);refine wpList_store_row rfl 99 _ _ rfl (w.heap.size+1) (av R) rfl rfl 99 (av bo) HR1.out (aZ HL.out) (by rw[aR,aR,HL.out];rfl) (bQ R) ?_))
  have hres:(w1.setRow (w.heap.size+1) (av R)).heap[w.heap.size+1]?=some (.cells (av R) 99 (0,0)):=setRow_heap w1 (w.heap.size+1) _ _ 99 _ HR1.out
  exact bodyPost_ret (v:=.agg (av R)) (results_cell_row rfl _ _ (w.heap.size+1) 99 (av R) (0,0) _ rfl hres Tryz.underlying99 rfl (aZ HL.out)) rfl ⟨rfl,below_setRow HB.out (by omega) _⟩
 | false=>
  obtain rfl:R=first:=HR.out.trans (yy hg)
  rw[hg] at hG
  have HM:=ak_ hG
  clear hG hg
  go_enter Tryz.func93,Tryz.ntmps93
  go_wp2_with (first
    | ((with_reducible refine aj (N:=3) rfl ?_);refine wpList_load_row rfl 99 _ rfl w.heap.size rfl 99 (av T) (0,0) _ (heap_alloc2_old w _ _) Tryz.underlying99 rfl (aZ HL.out) ?_)
    | (go_at_call 113;refine(HM.out _).mono ?_;rintro e w1 ⟨rfl,hb⟩;obtain⟨hr,_,hb2⟩:=dm hb;have HR1:=ak_ hr;have HB:=ak_ hb2;clear hr hb hb2)
    | (go_at_call 68;refine(u_ _).mono ?_;rintro e w2 ⟨rfl,hb⟩;have HR2:=ak_ ((hb.block _ (ai HR1.out)).trans HR1.out);have HB2:=ak_ (af HB.out hb);clear hb)
    | ((with_reducible refine ao (t:=99) (p:=2) rfl ?_);refine wpList_store_row rfl 99 _ _ rfl (w.heap.size+1) (av first) rfl rfl 99 (av bo) HR2.out j7 rfl (bQ first) ?_))
  have hres:(w2.setRow (w.heap.size+1) (av first)).heap[w.heap.size+1]?=some (.cells (av first) 99 (0,0)):=setRow_heap w2 (w.heap.size+1) _ _ 99 _ HR2.out
  exact bodyPost_ret (v:=.agg (av first)) (results_cell_row rfl _ _ (w.heap.size+1) 99 (av first) (0,0) _ rfl hres Tryz.underlying99 rfl j7) rfl ⟨rfl,below_setRow HB2.out (by omega) _⟩
structure In where
 op:Int
 d:Int
 a:Int
 b:Int
 n:Int
 jt:Int
 deriving DecidableEq
def In.cells (x:In):Array Value:=#[.int .i64 x.op,.int .i64 x.d,.int .i64 x.a,.int .i64 x.b,.int .i64 x.n,.int .i64 x.jt]
def In.moves (x:In):Bool:=decide (x.op=1∨x.op=2∨x.op=3∨x.op=16)
theorem iU (x:In) (w:World):Calls Tryz.prog 66 #[.agg x.cells] w fun e w'=>e=.returned (.bool x.moves)∧Below w.heap.size w w':=by
 obtain⟨op,d,a,b,n,jt⟩:=x
 unfold In.cells
 obtain⟨r,hr⟩:=nm_ (In.moves ⟨op,d,a,b,n,jt⟩)
 rw[←hr]
 have HR:=ak_ hr
 clear hr
 have hcase:(op == 1)=true∨((op == 1)=false∧(op == 2)=true)∨((op == 1)=false∧(op == 2)=false∧(op == 3)=true)∨((op == 1)=false∧(op == 2)=false∧(op == 3)=false):=by
  cases (op == 1) <;> cases (op == 2) <;> cases (op == 3) <;> simp
 rcases hcase with h1 | ⟨h1,h2⟩ | ⟨h1,h2,h3⟩ | ⟨h1,h2,h3⟩
 ·obtain rfl:r=true:=HR.out.trans (decide_eq_true (.inl (by simpa using h1)))
  go_enter Tryz.func66,Tryz.ntmps66
  go_wp2
  go_ret
  exact⟨rfl,ae (Below.refl _ _) _⟩
 ·obtain rfl:r=true:=HR.out.trans (decide_eq_true (.inr (.inl (by simpa using h2))))
  go_enter Tryz.func66,Tryz.ntmps66
  go_wp2
  go_ret
  exact⟨rfl,ae (Below.refl _ _) _⟩
 ·obtain rfl:r=true:=HR.out.trans (decide_eq_true (.inr (.inr (.inl (by simpa using h3)))))
  go_enter Tryz.func66,Tryz.ntmps66
  go_wp2
  go_ret
  exact⟨rfl,ae (Below.refl _ _) _⟩
 ·have hm:r=(op == 16):=by
   rw[HR.out]
   unfold In.moves
   simp only[beq_eq_false_iff_ne] at h1 h2 h3
   rw[Bool.eq_iff_iff]
   simp[h1,h2,h3]
  have HM:=ak_ hm
  clear hm
  go_enter Tryz.func66,Tryz.ntmps66
  go_wp2
  go_ret
  exact⟨rY HM.out.symm,ae (Below.refl _ _) _⟩
def iu (T:List Sr) (i:Int):Sr:=T.getD i.toNat .no
def lK (T:List Sr) (x:In):List Sr:=
 if x.op=1 then T.set x.d.toNat (.is x.n)
 else if x.op=2 then T.set x.d.toNat (iu T x.a)
 else if x.op=3 then (T.set x.d.toNat (iu T x.a)).set x.a.toNat (iu T x.d)
 else T
def fD (T:List Sr) (x:In):List Sr:=if x.moves=true∧inR x.d=true∧inR x.a=true then lK (iV T) x else iV T
theorem pX {T:List Sr} (x:In) (h:T.length=24):(lK T x).length=24:=by
 unfold lK
 repeat' split
 all_goals simp[h]
theorem pq {T:List Sr} (x:In) (h:T.length=24):(fD T x).length=24:=by
 unfold fD
 split
 ·exact pX x (mQ h)
 ·exact mQ h
def be (w:World) (g:Nat) (x:In):Prop:=w.heap[g]?=some (.cells x.cells 49 (0,0))
theorem be.cells {w:World} {g:Nat} {x:In} (h:be w g x):w.cell? ⟨g,0,none⟩=some (.int .i64 x.op)∧w.cell? ⟨g,1,none⟩=some (.int .i64 x.d)∧w.cell? ⟨g,2,none⟩=some (.int .i64 x.a)∧w.cell? ⟨g,4,none⟩=some (.int .i64 x.n):=by
 refine⟨?_,?_,?_,?_⟩ <;> (rw[ah h];rfl)
theorem be.below {w w':World} {g:Nat} {x:In} (h:be w g x) (hb:Below w.heap.size w w'):be w' g x:=(hb.block g (ai h)).trans h
theorem be.row {w:World} {g g':Nat} {x:In} (h:be w g x) (hne:g≠g') (cs:Array Value):be (w.setRow g' cs) g x:=(setRow_other w g' g cs hne).trans h
theorem be.far {w:World} {g:Nat} {x:In} (h:be w g x) {p:Addr} (hp:g≠p.block) (u:Value):be (w.setCell p u) g x:=a8 h hp u
theorem bC.row {w:World} {g g':Nat} {T:List Sr} (h:bC w g T) (hne:g≠g') (cs:Array Value):bC (w.setRow g' cs) g T:=(setRow_other w g' g cs hne).trans h
theorem bC.laid {w:World} {g:Nat} {T U:List Sr} (h:bC w g T):bC (w.setRow g (av U)) g U:=setRow_heap w g _ _ 99 _ h
theorem jp (x:In):In.cells x=#[.int .i64 x.op,.int .i64 x.d,.int .i64 x.a,.int .i64 x.b,.int .i64 x.n,.int .i64 x.jt]:=rfl
theorem bE:(Tryz.prog.info? 49).map (·.size)=some 6:=by kernel_rfl
theorem sX (w:World) (A B C:Obj):(((w.alloc A).alloc B).alloc C).heap[w.heap.size]?=some A:=by
 show (((w.heap.push A).push B).push C)[w.heap.size]?=some A
 simp[Array.getElem?_push]
 intro h
 omega
theorem nN (W:World) (a:Addr) (s:Sr) (u:Value) (hc:W.cell? a=some u) (hf:W.frozen? a=false):(store a s.v).run Tryz.prog W=.ok () (W.setCell a s.v):=by
 rw[run_store Tryz.prog W a s.v _ s.one,hc]
 simp[hf]
theorem Sr.own (s:Sr):s.v.cells=#[s.v]:=by cases s <;> rfl
theorem bC.at_ {w:World} {g:Nat} {T:List Sr} (h:bC w g T) (hl:T.length=24) {i:Int} (hi:0≤i∧i≤23):w.cell? ⟨g,i.toNat,none⟩=some (iu T i).v∧w.frozen? ⟨g,i.toNat,none⟩=false:=by
 have hlt:i.toNat < T.length:=by omega
 refine⟨?_,h.free _⟩
 rw[h.cell i.toNat hlt]
 unfold iu
 simp[List.getD_eq_getElem?_getD,hlt]
theorem vZ {W:World} {g:Nat} {T:List Sr} (h:bC W g T) (hl:T.length=24) (i:Nat) {j:Int} (hj:0≤j∧j≤23) (s u:Sr):(store ⟨g,j.toNat,none⟩ u.v).run Tryz.prog (W.setCell ⟨g,i,none⟩ s.v)=.ok () ((W.setCell ⟨g,i,none⟩ s.v).setCell ⟨g,j.toNat,none⟩ u.v):=by
 obtain⟨h1,h2⟩:=(h.set i s).at_ (by rw[List.length_set];exact hl) hj
 exact nN _ _ _ _ h1 h2
theorem cw {w w1:World} {A B C:Obj} (hb:Below (((w.alloc A).alloc B).alloc C).heap.size (((w.alloc A).alloc B).alloc C) w1) :
  w1.heap[w.heap.size]?=some A∧w1.heap[w.heap.size+1]?=some B∧w1.heap[w.heap.size+2]?=some C∧Below w.heap.size w w1:=by
 have h0:(w.alloc A).heap.size=w.heap.size+1:=by simp
 have hs:(((w.alloc A).alloc B).alloc C).heap.size=w.heap.size+3:=by simp
 have hC:(((w.alloc A).alloc B).alloc C).heap[w.heap.size+2]?=some C:=by
  have:=heap_alloc2_new (w.alloc A) B C
  rw[h0] at this
  exact this
 have hB:(((w.alloc A).alloc B).alloc C).heap[w.heap.size+1]?=some B:=by
  have:=heap_alloc2_old (w.alloc A) B C
  rw[h0] at this
  exact this
 have hA:(((w.alloc A).alloc B).alloc C).heap[w.heap.size]?=some A:=sX w A B C
 exact⟨(hb.block _ (by omega)).trans hA,(hb.block _ (by omega)).trans hB,(hb.block _ (by omega)).trans hC,af (ae (ae (ae (Below.refl _ _) _) _) _) hb⟩
theorem yI (T:List Sr) (hT:T.length=24) (x:In) (w:World):Calls Tryz.prog 70 #[.agg (av T),.agg x.cells] w fun e w'=>e=.returned (.agg (av (fD T x)))∧Below w.heap.size w w':=by
 have hG:=An T hT
 obtain⟨G,hg⟩:=nm_ (iV T)
 have hGl:G.length=24:=by rw[hg];exact mQ hT
 rw[←hg] at hG
 have HL:=ak_ hT
 have HGl:=ak_ hGl
 have HG:=ak_ hG
 have HGe:=ak_ hg
 obtain⟨R,hR⟩:=nm_ (fD T x)
 rw[←hR]
 have HR:=ak_ hR
 clear hR hG hg hGl hT
 cases hm:x.moves with
 | false=>
  obtain rfl:R=G:=HR.out.trans (by unfold fD;rw[if_neg (fun h=>by rw[hm] at h;exact absurd h.1 (by decide)),HGe.out])
  have hM:=iU x
  rw[hm] at hM
  have HM:=ak_ hM
  clear hM hm
  go_enter Tryz.func70,Tryz.ntmps70
  go_wp2_with (first
    | ((with_reducible refine aj (N:=5) rfl ?_);refine wpList_load_row rfl 99 _ rfl w.heap.size rfl 99 (av T) (0,0) _ (sX w _ _ _) Tryz.underlying99 rfl (aZ HL.out) ?_)
    | (go_at_call 93;refine(HG.out _).mono ?_;rintro e w1 ⟨rfl,hb⟩;obtain⟨ht,hi,hr,hb2⟩:=cw hb;have KT:=ak_ (show bC w1 w.heap.size T from ht);have KI:=ak_ (show be w1 (w.heap.size+1) x from hi);have KR:=ak_ (show bC w1 (w.heap.size+2) bo from hr);have HB:=ak_ hb2;clear ht hi hr hb hb2)
    | ((with_reducible refine ao (t:=99) (p:=2) rfl ?_);refine wpList_store_row rfl 99 _ _ rfl w.heap.size (av R) rfl rfl 99 (av T) KT.out (aZ HGl.out) (by rw[aR,aR,HL.out,HGl.out]) (bQ R) ?_;have KT2:=ak_ (show bC (w1.setRow w.heap.size (av R)) w.heap.size R from KT.out.laid);have KI2:=ak_ (KI.out.row (by omega) (av R) (g':=w.heap.size));have KR2:=ak_ (KR.out.row (by omega) (av R) (g':=w.heap.size));have HB2:=ak_ (below_setRow HB.out (Nat.le_refl _) (av R)))
    | ((with_reducible refine aj (N:=7) rfl ?_);refine wpList_load_row rfl 49 _ rfl (w.heap.size+1) rfl 49 x.cells (0,0) _ KI2.out Tryz.underlying49 rfl bE ?_)
    | (go_at_call 66;refine(HM.out _).mono ?_;rintro e w3 ⟨rfl,hb⟩;have KT3:=ak_ (KT2.out.below hb);have KR3:=ak_ (KR2.out.below hb);have HB3:=ak_ (af HB2.out hb);clear hb)
    | ((with_reducible refine aj (N:=22) rfl ?_);refine wpList_load_row rfl 99 _ rfl w.heap.size rfl 99 (av R) (0,0) _ KT3.out Tryz.underlying99 rfl (aZ HGl.out) ?_)
    | ((with_reducible refine ao (t:=99) (p:=4) rfl ?_);refine wpList_store_row rfl 99 _ _ rfl (w.heap.size+2) (av R) rfl rfl 99 (av bo) KR3.out (aZ HGl.out) (by rw[aR,aR,HGl.out];rfl) (bQ R) ?_))
  exact bodyPost_ret (v:=.agg (av R)) (results_cell_row rfl _ _ (w.heap.size+2) 99 (av R) (0,0) _ rfl KR3.out.laid Tryz.underlying99 rfl (aZ HGl.out)) rfl ⟨rfl,below_setRow HB3.out (by omega) _⟩
 | true=>
  have hM:=iU x
  rw[hm] at hM
  have HM:=ak_ hM
  have Hm:=ak_ hm
  clear hM hm
  have hrd:=jT x.d
  have hra:=jT x.a
  cases hd:inR x.d with
  | false=>
   obtain rfl:R=G:=HR.out.trans (by unfold fD;rw[if_neg (fun h=>by rw[hd] at h;exact absurd h.2.1 (by decide)),HGe.out])
   rw[hd] at hrd
   have RD:=ak_ hrd
   clear hrd hra hd
   go_enter Tryz.func70,Tryz.ntmps70
   go_wp2_with (first
     | ((with_reducible refine aj (N:=5) rfl ?_);refine wpList_load_row rfl 99 _ rfl w.heap.size rfl 99 (av T) (0,0) _ (sX w _ _ _) Tryz.underlying99 rfl (aZ HL.out) ?_)
     | (go_at_call 93;refine(HG.out _).mono ?_;rintro e w1 ⟨rfl,hb⟩;obtain⟨ht,hi,hr,hb2⟩:=cw hb;have KT:=ak_ (show bC w1 w.heap.size T from ht);have KI:=ak_ (show be w1 (w.heap.size+1) x from hi);have KR:=ak_ (show bC w1 (w.heap.size+2) bo from hr);have HB:=ak_ hb2;clear ht hi hr hb hb2)
     | ((with_reducible refine ao (t:=99) (p:=2) rfl ?_);refine wpList_store_row rfl 99 _ _ rfl w.heap.size (av R) rfl rfl 99 (av T) KT.out (aZ HGl.out) (by rw[aR,aR,HL.out,HGl.out]) (bQ R) ?_;have KT2:=ak_ (show bC (w1.setRow w.heap.size (av R)) w.heap.size R from KT.out.laid);have KI2:=ak_ (KI.out.row (by omega) (av R) (g':=w.heap.size));have KR2:=ak_ (KR.out.row (by omega) (av R) (g':=w.heap.size));have HB2:=ak_ (below_setRow HB.out (Nat.le_refl _) (av R)))
     | ((with_reducible refine aj (N:=7) rfl ?_);refine wpList_load_row rfl 49 _ rfl (w.heap.size+1) rfl 49 x.cells (0,0) _ KI2.out Tryz.underlying49 rfl bE ?_)
     | (go_at_call 66;refine(HM.out _).mono ?_;rintro e w3 ⟨rfl,hb⟩;have KT3:=ak_ (KT2.out.below hb);have KI3:=ak_ (KI2.out.below hb);have KR3:=ak_ (KR2.out.below hb);have HB3:=ak_ (af HB2.out hb);clear hb;obtain⟨c0,c1,c2,c4⟩:=KI3.out.cells)
     | (go_at_call 94;(with_reducible refine(RD.out _).mono ?_);rintro e w' ⟨rfl,⟨nd,rfl⟩⟩)
     | ((with_reducible refine aj (N:=22) rfl ?_);refine wpList_load_row rfl 99 _ rfl w.heap.size rfl 99 (av R) (0,0) _ KT3.out Tryz.underlying99 rfl (aZ HGl.out) ?_)
     | ((with_reducible refine ao (t:=99) (p:=4) rfl ?_);refine wpList_store_row rfl 99 _ _ rfl (w.heap.size+2) (av R) rfl rfl 99 (av bo) KR3.out (aZ HGl.out) (by rw[aR,aR,HGl.out];rfl) (bQ R) ?_))
   exact bodyPost_ret (v:=.agg (av R)) (results_cell_row rfl _ _ (w.heap.size+2) 99 (av R) (0,0) _ rfl KR3.out.laid Tryz.underlying99 rfl (aZ HGl.out)) rfl ⟨rfl,below_setRow (aI HB3.out _) (by omega) _⟩
  | true=>
   rw[hd] at hrd
   have RD:=ak_ hrd
   have Hd:=ak_ hd
   clear hrd hd
   cases ha:inR x.a with
   | false=>
    obtain rfl:R=G:=HR.out.trans (by unfold fD;rw[if_neg (fun h=>by rw[ha] at h;exact absurd h.2.2 (by decide)),HGe.out])
    rw[ha] at hra
    have RA:=ak_ hra
    clear hra ha
    go_enter Tryz.func70,Tryz.ntmps70
    go_wp2_with (first
      | ((with_reducible refine aj (N:=5) rfl ?_);refine wpList_load_row rfl 99 _ rfl w.heap.size rfl 99 (av T) (0,0) _ (sX w _ _ _) Tryz.underlying99 rfl (aZ HL.out) ?_)
      | (go_at_call 93;refine(HG.out _).mono ?_;rintro e w1 ⟨rfl,hb⟩;obtain⟨ht,hi,hr,hb2⟩:=cw hb;have KT:=ak_ (show bC w1 w.heap.size T from ht);have KI:=ak_ (show be w1 (w.heap.size+1) x from hi);have KR:=ak_ (show bC w1 (w.heap.size+2) bo from hr);have HB:=ak_ hb2;clear ht hi hr hb hb2)
      | ((with_reducible refine ao (t:=99) (p:=2) rfl ?_);refine wpList_store_row rfl 99 _ _ rfl w.heap.size (av R) rfl rfl 99 (av T) KT.out (aZ HGl.out) (by rw[aR,aR,HL.out,HGl.out]) (bQ R) ?_;have KT2:=ak_ (show bC (w1.setRow w.heap.size (av R)) w.heap.size R from KT.out.laid);have KI2:=ak_ (KI.out.row (by omega) (av R) (g':=w.heap.size));have KR2:=ak_ (KR.out.row (by omega) (av R) (g':=w.heap.size));have HB2:=ak_ (below_setRow HB.out (Nat.le_refl _) (av R)))
      | ((with_reducible refine aj (N:=7) rfl ?_);refine wpList_load_row rfl 49 _ rfl (w.heap.size+1) rfl 49 x.cells (0,0) _ KI2.out Tryz.underlying49 rfl bE ?_)
      | (go_at_call 66;refine(HM.out _).mono ?_;rintro e w3 ⟨rfl,hb⟩;have KT3:=ak_ (KT2.out.below hb);have KI3:=ak_ (KI2.out.below hb);have KR3:=ak_ (KR2.out.below hb);have HB3:=ak_ (af HB2.out hb);clear hb;obtain⟨c0,c1,c2,c4⟩:=KI3.out.cells)
      | (go_at_call 94;(with_reducible refine(RD.out _).mono ?_);rintro e w' ⟨rfl,⟨nd,rfl⟩⟩)
      | (go_at_call 94;(with_reducible refine(RA.out _).mono ?_);rintro e w' ⟨rfl,⟨nd2,rfl⟩⟩)
      | ((with_reducible refine aj (N:=22) rfl ?_);refine wpList_load_row rfl 99 _ rfl w.heap.size rfl 99 (av R) (0,0) _ KT3.out Tryz.underlying99 rfl (aZ HGl.out) ?_)
      | ((with_reducible refine ao (t:=99) (p:=4) rfl ?_);refine wpList_store_row rfl 99 _ _ rfl (w.heap.size+2) (av R) rfl rfl 99 (av bo) KR3.out (aZ HGl.out) (by rw[aR,aR,HGl.out];rfl) (bQ R) ?_))
    exact bodyPost_ret (v:=.agg (av R)) (results_cell_row rfl _ _ (w.heap.size+2) 99 (av R) (0,0) _ rfl KR3.out.laid Tryz.underlying99 rfl (aZ HGl.out)) rfl ⟨rfl,below_setRow (aI HB3.out _) (by omega) _⟩
   | true=>
    have hRm:R=lK G x:=HR.out.trans (by unfold fD;rw[if_pos ⟨Hm.out,Hd.out,ha⟩,HGe.out])
    rw[ha] at hra
    have RA:=ak_ hra
    have HRm:=ak_ hRm
    have hd0:0≤x.d∧x.d≤23:=of_decide_eq_true Hd.out
    have ha0:0≤x.a∧x.a≤23:=of_decide_eq_true ha
    clear hra ha hRm
    have hRl:R.length=24:=by rw[HRm.out];exact pX x HGl.out
    have HRl:=ak_ hRl
    have hops:x.op=1∨x.op=2∨x.op=3∨x.op=16:=of_decide_eq_true Hm.out
    clear hRl
    rcases hops with ho | ho | ho | ho
    ·have HRs:=ak_ (show R=G.set x.d.toNat (.is x.n) by rw[HRm.out];unfold lK;rw[if_pos ho])
     go_enter Tryz.func70,Tryz.ntmps70
     go_wp2_with (first
       | ((with_reducible refine aj (N:=5) rfl ?_);refine wpList_load_row rfl 99 _ rfl w.heap.size rfl 99 (av T) (0,0) _ (sX w _ _ _) Tryz.underlying99 rfl (aZ HL.out) ?_)
       | (go_at_call 93;refine(HG.out _).mono ?_;rintro e w1 ⟨rfl,hb⟩;obtain⟨ht,hi,hr,hb2⟩:=cw hb;have KT:=ak_ (show bC w1 w.heap.size T from ht);have KI:=ak_ (show be w1 (w.heap.size+1) x from hi);have KR:=ak_ (show bC w1 (w.heap.size+2) bo from hr);have HB:=ak_ hb2;clear ht hi hr hb hb2)
       | ((with_reducible refine ao (t:=99) (p:=2) rfl ?_);refine wpList_store_row rfl 99 _ _ rfl w.heap.size (av G) rfl rfl 99 (av T) KT.out (aZ HGl.out) (by rw[aR,aR,HL.out,HGl.out]) (bQ G) ?_;have KT2:=ak_ (show bC (w1.setRow w.heap.size (av G)) w.heap.size G from KT.out.laid);have KI2:=ak_ (KI.out.row (by omega) (av G) (g':=w.heap.size));have KR2:=ak_ (KR.out.row (by omega) (av G) (g':=w.heap.size));have HB2:=ak_ (below_setRow HB.out (Nat.le_refl _) (av G)))
       | ((with_reducible refine aj (N:=7) rfl ?_);refine wpList_load_row rfl 49 _ rfl (w.heap.size+1) rfl 49 x.cells (0,0) _ KI2.out Tryz.underlying49 rfl bE ?_)
       | (go_at_call 66;refine(HM.out _).mono ?_;rintro e w3 ⟨rfl,hb⟩;have KT3:=ak_ (KT2.out.below hb);have KI3:=ak_ (KI2.out.below hb);have KR3:=ak_ (KR2.out.below hb);have HB3:=ak_ (af HB2.out hb);clear hb;obtain⟨c0,c1,c2,c4⟩:=KI3.out.cells;obtain⟨td,tf⟩:=KT3.out.at_ HGl.out hd0;obtain⟨tb,tg⟩:=KT3.out.at_ HGl.out ha0)
       | (go_at_call 94;(with_reducible refine(RD.out _).mono ?_);rintro e w' ⟨rfl,⟨nd,rfl⟩⟩)
       | (go_at_call 94;(with_reducible refine(RA.out _).mono ?_);rintro e w' ⟨rfl,⟨nd2,rfl⟩⟩)
       | ((with_reducible refine aj (N:=59) rfl ?_);refine wpList_load_row rfl 99 _ rfl w.heap.size rfl 99 (av R) (0,0) _ (by rw[HRs.out];exact(KT3.out.set x.d.toNat (.is x.n))) Tryz.underlying99 rfl (aZ HRl.out) ?_)
       | ((with_reducible refine ao (t:=99) (p:=4) rfl ?_);refine wpList_store_row rfl 99 _ _ rfl (w.heap.size+2) (av R) rfl rfl 99 (av bo) (show bC _ (w.heap.size+2) bo from KR3.out.far (by simp) _) (aZ HRl.out) (by rw[aR,aR,HRl.out];rfl) (bQ R) ?_))
     exact bodyPost_ret (v:=.agg (av R)) (results_cell_row rfl _ _ (w.heap.size+2) 99 (av R) (0,0) _ rfl (setRow_heap _ (w.heap.size+2) _ _ 99 _ (show bC _ (w.heap.size+2) bo from KR3.out.far (by simp) _)) Tryz.underlying99 rfl (aZ HRl.out)) rfl ⟨rfl,below_setRow ((aI HB3.out _).setCell (Nat.le_refl _) _) (by omega) _⟩
    ·have HRs:=ak_ (show R=G.set x.d.toNat (iu G x.a) by rw[HRm.out];unfold lK;rw[if_neg (by omega),if_pos ho])
     go_enter Tryz.func70,Tryz.ntmps70
     go_wp2_with (first
       | ((with_reducible refine aj (N:=5) rfl ?_);refine wpList_load_row rfl 99 _ rfl w.heap.size rfl 99 (av T) (0,0) _ (sX w _ _ _) Tryz.underlying99 rfl (aZ HL.out) ?_)
       | (go_at_call 93;refine(HG.out _).mono ?_;rintro e w1 ⟨rfl,hb⟩;obtain⟨ht,hi,hr,hb2⟩:=cw hb;have KT:=ak_ (show bC w1 w.heap.size T from ht);have KI:=ak_ (show be w1 (w.heap.size+1) x from hi);have KR:=ak_ (show bC w1 (w.heap.size+2) bo from hr);have HB:=ak_ hb2;clear ht hi hr hb hb2)
       | ((with_reducible refine ao (t:=99) (p:=2) rfl ?_);refine wpList_store_row rfl 99 _ _ rfl w.heap.size (av G) rfl rfl 99 (av T) KT.out (aZ HGl.out) (by rw[aR,aR,HL.out,HGl.out]) (bQ G) ?_;have KT2:=ak_ (show bC (w1.setRow w.heap.size (av G)) w.heap.size G from KT.out.laid);have KI2:=ak_ (KI.out.row (by omega) (av G) (g':=w.heap.size));have KR2:=ak_ (KR.out.row (by omega) (av G) (g':=w.heap.size));have HB2:=ak_ (below_setRow HB.out (Nat.le_refl _) (av G)))
       | ((with_reducible refine aj (N:=7) rfl ?_);refine wpList_load_row rfl 49 _ rfl (w.heap.size+1) rfl 49 x.cells (0,0) _ KI2.out Tryz.underlying49 rfl bE ?_)
       | (go_at_call 66;refine(HM.out _).mono ?_;rintro e w3 ⟨rfl,hb⟩;have KT3:=ak_ (KT2.out.below hb);have KI3:=ak_ (KI2.out.below hb);have KR3:=ak_ (KR2.out.below hb);have HB3:=ak_ (af HB2.out hb);clear hb;obtain⟨c0,c1,c2,c4⟩:=KI3.out.cells;obtain⟨td,tf⟩:=KT3.out.at_ HGl.out hd0;obtain⟨tb,tg⟩:=KT3.out.at_ HGl.out ha0;have o1:=fun k=>nN (w3.drewN k) ⟨w.heap.size,x.d.toNat,none⟩ (iu G x.a) (iu G x.d).v td tf;have o2:=(iu G x.a).own;unfold Value.cells at o2;have q1:x.a < 24:=Int.lt_add_one_of_le ha0.2;have q2:x.d < 24:=Int.lt_add_one_of_le hd0.2;have q3:=ha0.1;have q4:=hd0.1)
       | (go_at_call 94;(with_reducible refine(RD.out _).mono ?_);rintro e w' ⟨rfl,⟨nd,rfl⟩⟩)
       | (go_at_call 94;(with_reducible refine(RA.out _).mono ?_);rintro e w' ⟨rfl,⟨nd2,rfl⟩⟩))
     go_region
     all_goals
      go_wp2_with (first
       | ((with_reducible refine aj (N:=59) rfl ?_);refine wpList_load_row rfl 99 _ rfl w.heap.size rfl 99 (av R) (0,0) _ (by rw[HRs.out];exact(KT3.out.set x.d.toNat (iu G x.a))) Tryz.underlying99 rfl (aZ HRl.out) ?_)
       | ((with_reducible refine ao (t:=99) (p:=4) rfl ?_);refine wpList_store_row rfl 99 _ _ rfl (w.heap.size+2) (av R) rfl rfl 99 (av bo) (show bC _ (w.heap.size+2) bo from KR3.out.far (by simp) _) (aZ HRl.out) (by rw[aR,aR,HRl.out];rfl) (bQ R) ?_))
      exact bodyPost_ret (v:=.agg (av R)) (results_cell_row rfl _ _ (w.heap.size+2) 99 (av R) (0,0) _ rfl (setRow_heap _ (w.heap.size+2) _ _ 99 _ (show bC _ (w.heap.size+2) bo from KR3.out.far (by simp) _)) Tryz.underlying99 rfl (aZ HRl.out)) rfl ⟨rfl,below_setRow ((aI HB3.out _).setCell (Nat.le_refl _) _) (by omega) _⟩
    ·have HRs:=ak_ (show R=(G.set x.d.toNat (iu G x.a)).set x.a.toNat (iu G x.d) by rw[HRm.out];unfold lK;rw[if_neg (by omega),if_neg (by omega),if_pos ho])
     go_enter Tryz.func70,Tryz.ntmps70
     go_wp2_with (first
       | ((with_reducible refine aj (N:=5) rfl ?_);refine wpList_load_row rfl 99 _ rfl w.heap.size rfl 99 (av T) (0,0) _ (sX w _ _ _) Tryz.underlying99 rfl (aZ HL.out) ?_)
       | (go_at_call 93;refine(HG.out _).mono ?_;rintro e w1 ⟨rfl,hb⟩;obtain⟨ht,hi,hr,hb2⟩:=cw hb;have KT:=ak_ (show bC w1 w.heap.size T from ht);have KI:=ak_ (show be w1 (w.heap.size+1) x from hi);have KR:=ak_ (show bC w1 (w.heap.size+2) bo from hr);have HB:=ak_ hb2;clear ht hi hr hb hb2)
       | ((with_reducible refine ao (t:=99) (p:=2) rfl ?_);refine wpList_store_row rfl 99 _ _ rfl w.heap.size (av G) rfl rfl 99 (av T) KT.out (aZ HGl.out) (by rw[aR,aR,HL.out,HGl.out]) (bQ G) ?_;have KT2:=ak_ (show bC (w1.setRow w.heap.size (av G)) w.heap.size G from KT.out.laid);have KI2:=ak_ (KI.out.row (by omega) (av G) (g':=w.heap.size));have KR2:=ak_ (KR.out.row (by omega) (av G) (g':=w.heap.size));have HB2:=ak_ (below_setRow HB.out (Nat.le_refl _) (av G)))
       | ((with_reducible refine aj (N:=7) rfl ?_);refine wpList_load_row rfl 49 _ rfl (w.heap.size+1) rfl 49 x.cells (0,0) _ KI2.out Tryz.underlying49 rfl bE ?_)
       | (go_at_call 66;refine(HM.out _).mono ?_;rintro e w3 ⟨rfl,hb⟩;have KT3:=ak_ (KT2.out.below hb);have KI3:=ak_ (KI2.out.below hb);have KR3:=ak_ (KR2.out.below hb);have HB3:=ak_ (af HB2.out hb);clear hb;obtain⟨c0,c1,c2,c4⟩:=KI3.out.cells;obtain⟨td,tf⟩:=KT3.out.at_ HGl.out hd0;obtain⟨tb,tg⟩:=KT3.out.at_ HGl.out ha0;have o1:=fun k=>nN (w3.drewN k) ⟨w.heap.size,x.d.toNat,none⟩ (iu G x.a) (iu G x.d).v td tf;have o2:=(iu G x.a).own;unfold Value.cells at o2;have o3:=(iu G x.d).own;unfold Value.cells at o3;have o4:=fun k=>vZ (show bC (w3.drewN k) w.heap.size G from KT3.out) HGl.out x.d.toNat ha0 (iu G x.a) (iu G x.d);have q1:x.a < 24:=Int.lt_add_one_of_le ha0.2;have q2:x.d < 24:=Int.lt_add_one_of_le hd0.2;have q3:=ha0.1;have q4:=hd0.1)
       | (go_at_call 94;(with_reducible refine(RD.out _).mono ?_);rintro e w' ⟨rfl,⟨nd,rfl⟩⟩)
       | (go_at_call 94;(with_reducible refine(RA.out _).mono ?_);rintro e w' ⟨rfl,⟨nd2,rfl⟩⟩))
     go_region
     all_goals
      go_wp2_with (first
       | ((with_reducible refine aj (N:=59) rfl ?_);refine wpList_load_row rfl 99 _ rfl w.heap.size rfl 99 (av R) (0,0) _ (by rw[HRs.out];exact((KT3.out.set x.d.toNat (iu G x.a)).set x.a.toNat (iu G x.d))) Tryz.underlying99 rfl (aZ HRl.out) ?_)
       | ((with_reducible refine ao (t:=99) (p:=4) rfl ?_);refine wpList_store_row rfl 99 _ _ rfl (w.heap.size+2) (av R) rfl rfl 99 (av bo) (show bC _ (w.heap.size+2) bo from bC.far (KR3.out.far (by simp) _) (by simp) _) (aZ HRl.out) (by rw[aR,aR,HRl.out];rfl) (bQ R) ?_))
      exact bodyPost_ret (v:=.agg (av R)) (results_cell_row rfl _ _ (w.heap.size+2) 99 (av R) (0,0) _ rfl (setRow_heap _ (w.heap.size+2) _ _ 99 _ (show bC _ (w.heap.size+2) bo from bC.far (KR3.out.far (by simp) _) (by simp) _)) Tryz.underlying99 rfl (aZ HRl.out)) rfl ⟨rfl,below_setRow (((aI HB3.out _).setCell (Nat.le_refl _) _).setCell (Nat.le_refl _) _) (by omega) _⟩
    ·have HRs:=ak_ (show R=G by rw[HRm.out];unfold lK;rw[if_neg (by omega),if_neg (by omega),if_neg (by omega)])
     go_enter Tryz.func70,Tryz.ntmps70
     go_wp2_with (first
       | ((with_reducible refine aj (N:=5) rfl ?_);refine wpList_load_row rfl 99 _ rfl w.heap.size rfl 99 (av T) (0,0) _ (sX w _ _ _) Tryz.underlying99 rfl (aZ HL.out) ?_)
       | (go_at_call 93;refine(HG.out _).mono ?_;rintro e w1 ⟨rfl,hb⟩;obtain⟨ht,hi,hr,hb2⟩:=cw hb;have KT:=ak_ (show bC w1 w.heap.size T from ht);have KI:=ak_ (show be w1 (w.heap.size+1) x from hi);have KR:=ak_ (show bC w1 (w.heap.size+2) bo from hr);have HB:=ak_ hb2;clear ht hi hr hb hb2)
       | ((with_reducible refine ao (t:=99) (p:=2) rfl ?_);refine wpList_store_row rfl 99 _ _ rfl w.heap.size (av G) rfl rfl 99 (av T) KT.out (aZ HGl.out) (by rw[aR,aR,HL.out,HGl.out]) (bQ G) ?_;have KT2:=ak_ (show bC (w1.setRow w.heap.size (av G)) w.heap.size G from KT.out.laid);have KI2:=ak_ (KI.out.row (by omega) (av G) (g':=w.heap.size));have KR2:=ak_ (KR.out.row (by omega) (av G) (g':=w.heap.size));have HB2:=ak_ (below_setRow HB.out (Nat.le_refl _) (av G)))
       | ((with_reducible refine aj (N:=7) rfl ?_);refine wpList_load_row rfl 49 _ rfl (w.heap.size+1) rfl 49 x.cells (0,0) _ KI2.out Tryz.underlying49 rfl bE ?_)
       | (go_at_call 66;refine(HM.out _).mono ?_;rintro e w3 ⟨rfl,hb⟩;have KT3:=ak_ (KT2.out.below hb);have KI3:=ak_ (KI2.out.below hb);have KR3:=ak_ (KR2.out.below hb);have HB3:=ak_ (af HB2.out hb);clear hb;obtain⟨c0,c1,c2,c4⟩:=KI3.out.cells;obtain⟨td,tf⟩:=KT3.out.at_ HGl.out hd0;obtain⟨tb,tg⟩:=KT3.out.at_ HGl.out ha0)
       | (go_at_call 94;(with_reducible refine(RD.out _).mono ?_);rintro e w' ⟨rfl,⟨nd,rfl⟩⟩)
       | (go_at_call 94;(with_reducible refine(RA.out _).mono ?_);rintro e w' ⟨rfl,⟨nd2,rfl⟩⟩)
       | ((with_reducible refine aj (N:=59) rfl ?_);refine wpList_load_row rfl 99 _ rfl w.heap.size rfl 99 (av R) (0,0) _ (by rw[HRs.out];exact KT3.out) Tryz.underlying99 rfl (aZ HRl.out) ?_)
       | ((with_reducible refine ao (t:=99) (p:=4) rfl ?_);refine wpList_store_row rfl 99 _ _ rfl (w.heap.size+2) (av R) rfl rfl 99 (av bo) KR3.out (aZ HRl.out) (by rw[aR,aR,HRl.out];rfl) (bQ R) ?_))
     exact bodyPost_ret (v:=.agg (av R)) (results_cell_row rfl _ _ (w.heap.size+2) 99 (av R) (0,0) _ rfl (setRow_heap _ (w.heap.size+2) _ _ 99 _ KR3.out) Tryz.underlying99 rfl (aZ HRl.out)) rfl ⟨rfl,below_setRow (aI HB3.out _) (by omega) _⟩
def World.setIter (W:World) (g:Nat) (s:ByteArray) (pos:Nat):World:={ W with heap:=W.heap.setIfInBounds g (.stringIter s pos) }
theorem em {W:World} {g:Nat} {s:ByteArray} {p:Nat} (h:W.heap[g]?=some (.stringIter s p)) (q:Nat):(World.setIter W g s q).heap[g]?=some (.stringIter s q):=by
 have hlt:=ai h
 show (W.heap.setIfInBounds g _)[g]?=_
 simp[hlt]
theorem dV {B:Nat} {w W:World} {g:Nat} (hb:Below B w W) (hg:B≤g) (s:ByteArray) (q:Nat):Below B w (World.setIter W g s q):=by
 refine⟨hb.os,hb.tape,hb.output,?_,fun k hk=>?_⟩
 ·have:(World.setIter W g s q).heap.size=W.heap.size:=Array.size_setIfInBounds ..
  rw[this]
  exact hb.size
 ·show (W.heap.setIfInBounds g (.stringIter s q))[k]?=_
  rw[Array.getElem?_setIfInBounds_ne (by omega)]
  exact hb.block k hk
theorem fc {P:Program} (W:World) (g:Nat) (s:ByteArray) (pos:Nat) (ty:TypeId) (hg:W.heap[g]?=some (.stringIter s pos)) (hp:pos < s.size) (ha:bt s pos < 128) :
  (Instr.next (.pointer (some ⟨g,0,none⟩)) true ty).run P W=.ok (.tuple #[.bool true,.int .i64 pos,.int .i32 (bt s pos)]) (World.setIter W g s (pos+1)):=by
 have hb:=nk s (pos:Int) hp
 simp only[Int.toNat_natCast] at hb
 have hd:=decode_ascii s pos hp (by omega)
 rw[←hb]
 simp only[Instr.next,getObj,setObj,Sem.run_bind,Sem.run,hg,Result.andThen,hp,if_true,hd]
 simp[goInt,Sem.run,World.setIter]
theorem dW {P:Program} (W:World) (g:Nat) (s:ByteArray) (pos:Nat) (ty:TypeId) (hg:W.heap[g]?=some (.stringIter s pos)) (hp:¬ pos < s.size) :
  (Instr.next (.pointer (some ⟨g,0,none⟩)) true ty).run P W=.ok (.tuple #[.bool false]) W:=by
 simp[Instr.next,getObj,Sem.run,hg,hp,Sem.run_bind,Result.andThen]
theorem aY {W:World} {g:Nat} {s:ByteArray} {p:Nat} (h:W.heap[g]?=some (.stringIter s p)):W.iterPos g=p:=by
 unfold World.iterPos
 rw[h]
def Asc (s:ByteArray):Prop:=∀ i:Nat,i < s.size→bt s i < 128
def mkS (l:List UInt8):ByteArray:=⟨l.toArray⟩
def a_:List (ByteArray × ByteArray):=[(mkS [99,111,110,115,116],mkS [100,78]),(mkS [109,111,118],mkS [100,97]),(mkS [115,119,97,112],mkS [100,97]),
 (mkS [97,100,100],mkS [68,65,66]),(mkS [115,117,98],mkS [68,65,66]),(mkS [109,117,108],mkS [68,65,66]),(mkS [100,105,118],mkS [68,65,66]),(mkS [97,110,100],mkS [68,65,66]),(mkS [111,114],mkS [68,65,66]),(mkS [120,111,114],mkS [68,65,66]),(mkS [108,101,115,115],mkS [68,65,66]),(mkS [115,97,109,101],mkS [68,65,66]),
 (mkS [108,111,97,100],mkS [68,65]),(mkS [115,116,111,114,101],mkS [65,66]),(mkS [99,97,108,108],mkS [68,65,78]),(mkS [106,117,109,112],mkS [84]),(mkS [122,101,114,111],mkS [65,84]),(mkS [114,101,116],mkS [65])]
theorem jf:a_.length=18:=rfl
def mD (op:Int):Bool:=decide (1≤op∧op≤18)
def shW (op:Int):ByteArray:=if mD op=true then (a_.getD (op - 1).toNat (mkS [],mkS [])).1 else mkS []
def shF (op:Int):ByteArray:=if mD op=true then (a_.getD (op - 1).toNat (mkS [],mkS [])).2 else mkS []
def Gl (w:World):Prop:=(∀ i,i < 18→w.cell? ⟨0,i * 2,none⟩=some (.string (a_.getD i (mkS [],mkS [])).1)∧w.cell? ⟨0,i * 2+1,none⟩=some (.string (a_.getD i (mkS [],mkS [])).2))∧
 w.cell? ⟨1,0,none⟩=some (.int .i64 (-1))∧w.cell? ⟨1,1,none⟩=some (.int .i64 0)∧2≤w.heap.size
theorem Gl.below {w w':World} (h:Gl w) (hb:Below w.heap.size w w'):Gl w':=by
 obtain⟨h1,h2,h3,h4⟩:=h
 have hs:=hb.size
 have c:∀ b o,b < w.heap.size→w'.cell? ⟨b,o,none⟩=w.cell? ⟨b,o,none⟩:=fun b o hl=>hb.cell (p:=⟨b,o,none⟩) hl
 refine⟨fun i hi=>?_,?_,?_,by omega⟩
 ·rw[c 0 _ (by omega),c 0 _ (by omega)]
  exact h1 i hi
 ·rw[c 1 _ (by omega)];exact h2
 ·rw[c 1 _ (by omega)];exact h3
def je (op:Int):Array Value:=#[.string (shW op),.string (shF op)]
theorem nm {w:World} {g o:Nat} {v:Value} (h:w.cell? ⟨g,o,none⟩=some v) (hg:g < w.heap.size) (x:Obj):(w.alloc x).cell? ⟨g,o,none⟩=some v:=by
 have hb:=(ae (Below.refl w.heap.size w) x).cell (p:=⟨g,o,none⟩) hg
 rw[hb]
 exact h
theorem zW (op:Int) (w:World) (hG:Gl w):Calls Tryz.prog 85 #[.int .i64 op] w fun e w'=>e=.returned (.tuple #[.agg #[.string (shW op),.string (shF op)],.bool (mD op)])∧Below w.heap.size w w':=by
 rw[show #[Value.string (shW op),.string (shF op)]=je op from rfl]
 by_cases h1:op < 1
 ·have e:mD op=false:=decide_eq_false (by omega)
  have e1:je op=#[.string (mkS []),.string (mkS [])]:=by unfold je shW shF;rw[e];rfl
  rw[e,e1]
  clear e e1
  go_enter Tryz.func85,Tryz.ntmps85
  go_wp2
  exact bodyPost_ret (v:=.tuple #[.agg #[.string (mkS []),.string (mkS [])],.bool false]) (by simp[results,Tryz.results85,go_sem];rfl) rfl ⟨rfl,ae (Below.refl _ _) _⟩
 ·by_cases h2:op > 18
  ·have e:mD op=false:=decide_eq_false (by omega)
   have e1:je op=#[.string (mkS []),.string (mkS [])]:=by unfold je shW shF;rw[e];rfl
   rw[e,e1]
   clear e e1
   go_enter Tryz.func85,Tryz.ntmps85
   go_wp2
   exact bodyPost_ret (v:=.tuple #[.agg #[.string (mkS []),.string (mkS [])],.bool false]) (by simp[results,Tryz.results85,go_sem];rfl) rfl ⟨rfl,ae (Below.refl _ _) _⟩
  ·have e:mD op=true:=decide_eq_true (by omega)
   obtain⟨i,rfl⟩:∃ i:Nat,op=(i:Int)+1:=⟨(op - 1).toNat,by omega⟩
   have hi:i < 18:=by omega
   have hi':(i:Int) < 18:=by omega
   have ht:((i:Int)+1 - 1).toNat=i:=by omega
   obtain⟨c0,c1⟩:=hG.1 i hi
   have e1:je ((i:Int)+1)=#[.string (a_.getD i (mkS [],mkS [])).1,.string (a_.getD i (mkS [],mkS [])).2]:=by unfold je shW shF;rw[e,ht];rfl
   rw[e,e1]
   obtain⟨x,hx⟩:∃ x,x=(a_.getD i (mkS [],mkS [])).1:=⟨_,rfl⟩
   obtain⟨y,hy⟩:∃ y,y=(a_.getD i (mkS [],mkS [])).2:=⟨_,rfl⟩
   rw[←hx] at c0 ⊢
   rw[←hy] at c1 ⊢
   have hz:0 < w.heap.size:=by have:=hG.2.2.2;omega
   have d0:=nm c0 hz
   have d1:=nm c1 hz
   clear e e1 hx hy hG c0 c1 hz ht h1 h2
   go_enter Tryz.func85,Tryz.ntmps85
   go_wp2
   exact bodyPost_ret (v:=.tuple #[.agg #[.string x,.string y],.bool true]) (by simp[results,Tryz.results85,go_sem]) rfl ⟨rfl,ae (Below.refl _ _) _⟩
def fF (c:Int):Nat:=if c=68∨c=100 then 1 else if c=65∨c=97 then 2 else 3
theorem fS (g:Nat) (c:Int) (w:World):Calls Tryz.prog 86 #[.pointer (some ⟨g,0,none⟩),.int .i32 c] w fun e w'=>e=.returned (.pointer (some ⟨g,fF c,none⟩))∧w=w':=by
 unfold fF
 by_cases h1:c=68
 ·subst h1
  go_enter Tryz.func86,Tryz.ntmps86
  go_wp2
  go_ret
  exact⟨rfl,rfl⟩
 ·by_cases h2:c=100
  ·subst h2
   go_enter Tryz.func86,Tryz.ntmps86
   go_wp2
   go_ret
   exact⟨rfl,rfl⟩
  ·by_cases h3:c=65
   ·subst h3
    go_enter Tryz.func86,Tryz.ntmps86
    go_wp2
    go_ret
    exact⟨rfl,rfl⟩
   ·by_cases h4:c=97
    ·subst h4
     go_enter Tryz.func86,Tryz.ntmps86
     go_wp2
     go_ret
     exact⟨rfl,rfl⟩
    ·have e1:(c == 68)=false:=beq_eq_false_iff_ne.mpr h1
     have e2:(c == 100)=false:=beq_eq_false_iff_ne.mpr h2
     have e3:(c == 65)=false:=beq_eq_false_iff_ne.mpr h3
     have e4:(c == 97)=false:=beq_eq_false_iff_ne.mpr h4
     rw[if_neg (by omega),if_neg (by omega)]
     clear h1 h2 h3 h4
     go_enter Tryz.func86,Tryz.ntmps86
     go_wp2
     go_ret
     exact⟨rfl,rfl⟩
theorem CG (d:Nat) (w:World) (a0 a1 a2 a3 a4 a5 b0 b1 b2 b3 b4 b5:Int) :
  (Op.equalIn (d+2) 49 (.agg #[.int .i64 a0,.int .i64 a1,.int .i64 a2,.int .i64 a3,.int .i64 a4,.int .i64 a5]) (.agg #[.int .i64 b0,.int .i64 b1,.int .i64 b2,.int .i64 b3,.int .i64 b4,.int .i64 b5])).run Tryz.prog w=.ok (a0 == b0 && (a1 == b1 && (a2 == b2 && (a3 == b3 && (a4 == b4 && (a5 == b5)))))) w:=by
 refine jx Tryz.underlying49 (by kernel_rfl) ?_
 refine dA (by rfl) (by go_simp;rfl) (by go_simp;rfl) (by go_simp) ?_
 refine dA (by rfl) (by go_simp;rfl) (by go_simp;rfl) (by go_simp) ?_
 refine dA (by rfl) (by go_simp;rfl) (by go_simp;rfl) (by go_simp) ?_
 refine dA (by rfl) (by go_simp;rfl) (by go_simp;rfl) (by go_simp) ?_
 refine dA (by rfl) (by go_simp;rfl) (by go_simp;rfl) (by go_simp) ?_
 exact fA (by rfl) (by go_simp;rfl) (by go_simp;rfl) (by go_simp)
theorem DH (x y:In):(x.op == y.op && (x.d == y.d && (x.a == y.a && (x.b == y.b && (x.n == y.n && (x.jt == y.jt))))))=decide (x=y):=by
 obtain⟨a0,a1,a2,a3,a4,a5⟩:=x
 obtain⟨b0,b1,b2,b3,b4,b5⟩:=y
 rw[Bool.eq_iff_iff]
 simp[In.mk.injEq]
theorem D6 (x y:In) (w:World):(binOp .neq 49 (.agg x.cells) (.agg y.cells)).run Tryz.prog w=.ok (.bool (!decide (x=y))) w:=by
 have h:(Op.equal 49 (.agg x.cells) (.agg y.cells)).run Tryz.prog w=.ok (decide (x=y)) w:=by
  rw[←DH]
  exact CG 9998 w _ _ _ _ _ _ _ _ _ _ _ _
 simp only[binOp,Sem.run_bind,h,Result.andThen_ok,Sem.run_pure]
def In.zeroField (x:In) (c:Int):In:=
 if c=78 then { x with n:=0 } else if c=84 then { x with jt:=0 } else if fF c=1 then { x with d:=0 } else if fF c=2 then { x with a:=0 } else { x with b:=0 }
def kW (x:In) (f:ByteArray):Nat→In
 | 0=>{ x with op:=0 }
 | k+1=>(kW x f k).zeroField (bt f k)
def mx (x:In) (f:ByteArray):In:=kW x f f.size
def In.get (x:In):Nat→Int
 | 0=>x.op | 1=>x.d | 2=>x.a | 3=>x.b | 4=>x.n | _=>x.jt
theorem be.get {w:World} {g:Nat} {x:In} (h:be w g x) (k:Nat) (hk:k < 6):w.cell? ⟨g,k,none⟩=some (.int .i64 (x.get k)):=by
 rw[ah h]
 match k,hk with
 | 0,_=>rfl
 | 1,_=>rfl
 | 2,_=>rfl
 | 3,_=>rfl
 | 4,_=>rfl
 | 5,_=>rfl
theorem o6 (c:Int):fF c=1∨fF c=2∨fF c=3:=by
 unfold fF
 by_cases h1:c=68∨c=100
 ·rw[if_pos h1];exact .inl rfl
 ·rw[if_neg h1]
  by_cases h2:c=65∨c=97
  ·rw[if_pos h2];exact .inr (.inl rfl)
  ·rw[if_neg h2];exact .inr (.inr rfl)
theorem l_ (c:Int):fF c < 6:=by have:=o6 c;omega
theorem be.zero_n {w:World} {g:Nat} {x:In} (h:be w g x) {c:Int} (hc:c=78):be (w.setCell ⟨g,4,none⟩ (.int .i64 0)) g (x.zeroField c):=by
 have:=ey h 4 (.int .i64 0)
 unfold In.zeroField
 rw[if_pos hc]
 exact this
theorem be.zero_t {w:World} {g:Nat} {x:In} (h:be w g x) {c:Int} (hc:c=84):be (w.setCell ⟨g,5,none⟩ (.int .i64 0)) g (x.zeroField c):=by
 have:=ey h 5 (.int .i64 0)
 unfold In.zeroField
 rw[if_neg (by omega),if_pos hc]
 exact this
theorem be.zero_f {w:World} {g:Nat} {x:In} (h:be w g x) {c:Int} (h1:c≠78) (h2:c≠84):be (w.setCell ⟨g,fF c,none⟩ (.int .i64 0)) g (x.zeroField c):=by
 have:=ey h (fF c) (.int .i64 0)
 unfold In.zeroField
 rw[if_neg h1,if_neg h2]
 rcases o6 c with e | e | e <;> rw[e] at this ⊢
 ·exact this
 ·exact this
 ·exact this
theorem ko (x:In):x.cells.all (·.oneCell')=true:=by simp[In.cells,Value.oneCell']
def In.zero:In:=⟨0,0,0,0,0,0⟩
def Dk (w:World) (x:In) (f:ByteArray) (g:Nat) (k:Nat) (W:World):Prop:=k≤f.size∧Below w.heap.size w W∧be W g (kW x f k)∧be W (g+2) In.zero∧W.heap[g+3]?=some (.stringIter f k)
theorem ii {W:World} {g b:Nat} {x:In} (h:be W g x) (hne:g≠b) (s:ByteArray) (q:Nat):be (World.setIter W b s q) g x:=by
 show (W.heap.setIfInBounds b (.stringIter s q))[g]?=_
 rw[Array.getElem?_setIfInBounds_ne (by omega)]
 exact h
theorem fy {W:World} {b:Nat} {s:ByteArray} {k:Nat} (h:W.heap[b]?=some (.stringIter s k)) {p:Addr} (hp:b≠p.block) (u:Value):(W.setCell p u).heap[b]?=some (.stringIter s k):=by
 rw[Below.heap_setCell W p u b hp]
 exact h
def uy (w:World) (L:List Obj):World:=L.foldl World.alloc w
theorem dS (w:World) (L:List Obj):Below w.heap.size w (uy w L):=by
 induction L generalizing w with
 | nil=>exact Below.refl _ _
 | cons o L ih=>exact af (ae (Below.refl _ _) o) (ih (w.alloc o))
theorem dZ (w:World) (L:List Obj) (i:Nat) (o:Obj) (h:L[i]?=some o):(uy w L).heap[w.heap.size+i]?=some o:=by
 induction L generalizing w i with
 | nil=>simp at h
 | cons x L ih=>
  cases i with
  | zero=>
   obtain rfl:x=o:=by simpa using h
   exact((dS (w.alloc x) L).block _ (by simp)).trans (heap_alloc_last w x)
  | succ i=>
   have:=ih (w.alloc x) i (by simpa using h)
   rw[show (w.alloc x).heap.size+i=w.heap.size+(i+1) by simp;omega] at this
   exact this
theorem zV (x:In) (s f:ByteArray) (hf:Asc f) (w:World):Calls Tryz.prog 97 #[.agg x.cells,.agg #[.string s,.string f]] w fun e w'=>e=.returned (.agg (mx x f).cells)∧Below w.heap.size w w':=by
 have HF:=ak_ hf
 clear hf
 obtain⟨r,hr⟩:=nm_ (mx x f)
 rw[←hr]
 have HR:=ak_ hr
 clear hr
 go_enter Tryz.func97,Tryz.ntmps97
 go_wp2
 go_loopw [6] (fun _ wr=>∃ k:Nat,aa (Dk w x f w.heap.size k wr)) (fun _ wr=>f.size - wr.iterPos (w.heap.size+3))
 case atStart=>exact⟨0,⟨⟨Nat.zero_le _,dS w [_,_,_,_],dZ w [_,_,_,_] 0 _ rfl,dZ w [_,_,_,_] 2 _ rfl,dZ w [_,_,_,_] 3 _ rfl⟩⟩⟩
 case round=>
  obtain⟨k,HS⟩:=hrel
  obtain⟨hk,hb,hx,hz,hi⟩:=HS.out
  by_cases hlt:k < f.size
  ·have ha:=HF.out k hlt
   have hnx:=fun ty=>fc (P:=Tryz.prog) wr (w.heap.size+3) f k ty hi hlt ha
   obtain⟨w2,hw2⟩:=nm_ (World.setIter wr (w.heap.size+3) f (k+1))
   have hi2:w2.heap[w.heap.size+3]?=some (.stringIter f (k+1)):=by rw[hw2];exact em hi _
   have hx2:be w2 w.heap.size (kW x f k):=by rw[hw2];exact ii hx (by omega) _ _
   have hz2:be w2 (w.heap.size+2) In.zero:=by rw[hw2];exact ii hz (by omega) _ _
   have hb2:Below w.heap.size w w2:=by rw[hw2];exact dV hb (by omega) _ _
   rw[←hw2] at hnx
   obtain⟨c,hc⟩:∃ c:Int,c=bt f k:=⟨_,rfl⟩
   have hre:kW x f (k+1)=(kW x f k).zeroField c:=by rw[hc];rfl
   rw[←hc] at hnx
   have HI0:=ak_ hi
   clear hc hw2 hi hx hz hb ha HS
   have HI:=ak_ hi2
   have HX:=ak_ hx2
   have HZ:=ak_ hz2
   have HB:=ak_ hb2
   have HRe:=ak_ hre
   clear hi2 hx2 hz2 hb2 hre
   by_cases c78:c=78
   ·have HC:=ak_ c78
    subst c78
    have g4:=HX.out.get 4 (by omega)
    have f4:=aq HX.out 4
    go_wp2
    go_roundw
    case rel=>exact⟨k+1,⟨⟨hlt,HB.out.setCell (Nat.le_refl _) _,by rw[HRe.out];exact HX.out.zero_n rfl,HZ.out.far (by simp) _,fy HI.out (by simp) _⟩⟩⟩
    case measure=>rw[aY (fy HI.out (by simp) _),aY HI0.out];omega
   ·by_cases c84:c=84
    ·subst c84
     have g5:=HX.out.get 5 (by omega)
     have f5:=aq HX.out 5
     go_wp2
     go_roundw
     case rel=>exact⟨k+1,⟨⟨hlt,HB.out.setCell (Nat.le_refl _) _,by rw[HRe.out];exact HX.out.zero_t rfl,HZ.out.far (by simp) _,fy HI.out (by simp) _⟩⟩⟩
     case measure=>rw[aY (fy HI.out (by simp) _),aY HI0.out];omega
    ·have e1:(c == 78)=false:=beq_eq_false_iff_ne.mpr c78
     have e2:(c == 84)=false:=beq_eq_false_iff_ne.mpr c84
     have HN1:=ak_ c78
     have HN2:=ak_ c84
     have gf:=HX.out.get (fF c) (l_ c)
     have ff:=aq HX.out (fF c)
     clear c78 c84
     go_wp2_with (go_at_call 86;refine(fS _ _ _).mono ?_;rintro e w' ⟨rfl,rfl⟩)
     go_roundw
     case rel=>exact⟨k+1,⟨⟨hlt,HB.out.setCell (Nat.le_refl _) _,by rw[HRe.out];exact HX.out.zero_f HN1.out HN2.out,HZ.out.far (by simp) _,fy HI.out (by simp) _⟩⟩⟩
     case measure=>rw[aY (fy HI.out (by simp) _),aY HI0.out];omega
  ·have hnx:=fun ty=>dW (P:=Tryz.prog) wr (w.heap.size+3) f k ty hi hlt
   obtain rfl:k=f.size:=by omega
   have hrr:kW x f f.size=r:=HR.out.symm
   rw[hrr] at hx
   have HX:=ak_ hx
   have HZ:=ak_ hz
   have HB:=ak_ hb
   clear hx hz hb hi HS hrr
   go_wp2_with (first
    | ((with_reducible refine aj (N:=24) rfl ?_);refine wpList_load_row rfl 49 _ rfl w.heap.size rfl 49 r.cells (0,0) _ HX.out Tryz.underlying49 rfl bE ?_)
    | ((with_reducible refine ao (t:=49) (p:=4) rfl ?_);refine wpList_store_row rfl 49 _ _ rfl (w.heap.size+2) r.cells rfl rfl 49 In.zero.cells HZ.out bE rfl (ko r) ?_))
   exact bodyPost_ret (v:=.agg r.cells) (results_cell_row rfl _ _ (w.heap.size+2) 49 r.cells (0,0) _ rfl (setRow_heap wr (w.heap.size+2) _ _ 49 _ HZ.out) Tryz.underlying49 rfl bE) rfl ⟨rfl,below_setRow HB.out (by omega) _⟩
end Go.Proofs.YtlinbehijfcelaaGreatDoor.Top
