/- Walks of the program, and what it computes, told plainly. No condition. (TA TB TC TD TE) -/
import Derived.Below
import Derived.Deep.Draws
import Derived.Deep.AppendLies
import Derived.Maps.AppendAt
import Derived.OwnWalk
import Derived.Laws.BytesArg
import Derived.Laws.MakeOwn
import Derived.Laws.OwnMore
import Derived.Deep.OwnRows
import Derived.Tactics
import Derived.Lib.ConvBytes
import Derived.Laws.Slices
import Derived.WalkKit
import Derived.KernelRfl
import Derived.RowKit3
import Derived.Deep.LoopGhost
import Derived.Deep.QuietTactic
import Derived.BigQuiet
import Derived.WideLaws
import Derived.Deep.DeepCutAuto
import Derived.Deep.CutBlock
import Derived.Deep.RegionHeld3
import Derived.Laws.Rows
import Derived.Lib.AppendStr
import Derived.ArgAppend
import Derived.Laws.IdiomCopy
import Derived.RowKit
import Derived.OrdersHeld
import Derived.Laws.BitsLemmas
import Derived.Laws.StructEq
import Derived.Test.YtlinbehijfcelaaGreatDoorProg
import Derived.Deep.WholeRow
import Derived.Laws.CopyOwn
import Derived.Carry
import Derived.ChangeKeysEq
import Derived.Laws.RangeAny
import Derived.Test.YtlinbehijfcelaaGreatDoorPA
set_option linter.unusedVariables false
set_option linter.unusedSimpArgs false
set_option linter.unusedSectionVars false
set_option maxHeartbeats 8000000
set_option maxRecDepth 100000
open Go renaming Calls->I9,Operand->Lf,Program->Jn,TypeId->Je,Value->Io,World->Im,below_setRow->Jl,bodyPost_ret->IG,execOp->JJ,getD_set_ne->IL,heap_alloc2_new->L9,heap_alloc2_old->Lz,heap_alloc_last->Iu,heap_alloc_new->JZ,mem_ready->L0,results->Lg,results_cell_row->IX,run_underlying->I2,setRow_heap->JX,undef->KG,wpList->Kg,wpList_load_row->II,wpList_store_row->I3,yielded->KH
open Go.Ending renaming returned->Iv
open Go.Region renaming ready->JA,wanted->Jk
open Bool renaming and_eq_true->Js,eq_iff_iff->L6,false->Ik,or_eq_true->Mb,true->Ir
open Option renaming none->Ih,some->Ic
open List renaming all_eq_true->Jd,getD_eq_getElem?_getD->Ij,getElem_mem->K8,length_set->Jq,mem_cons_of_mem->Jm,mem_cons_self->JH,mem_map->JM,mem_range->Kq,range->Jy,replicate->IF
open Go.Act renaming put->KY
open Array renaming all_eq_true_iff_forall_mem->Jh,any_eq_true'->Lt,getElem?_eq_none->LB,getElem?_eq_some_iff->IB,getElem?_replicate->Lh,getElem?_setIfInBounds_ne->Kf,replicate->Lp,toList_setIfInBounds->Mw
open Nat renaming le_refl->Iz,not_lt_zero->LG,zero_le->ID
open Option.some renaming inj->Ii
open Go.Value renaming agg->IA,bool->Iy,cells->Mz,int->Ib,oneCell'->IH,pointer->Iq,tuple->IR
open Go.Instr renaming next->LD,sureAddr->Mg,typeAssert->K9
open Go.Sem renaming run_bind->IJ,run_pure->JO
open Go.Result renaming andThen->Jf,andThen_ok->I1
open Go.RowKit renaming Below->It,intOf->Jj
open Go.IntKind renaming i64->Ie
open Go.Proofs.Tryz renaming func70->LF,ntmps70->Lv,prog->If,underlying49->I6,underlying99->IU
open Go.RowKit.Below renaming heap_setCell->Ld,refl->Il
open Int renaming lt_add_one_of_le->LH,toNat_natCast->IC
open Go.Op renaming equalIn->Jp
namespace Go.Proofs.YtlinbehijfcelaaGreatDoor.Top
open Go.RowKit Go.Proofs.YtlinbehijfcelaaGreatDoorW.PrintWords Go.Proofs.YtlinbehijfcelaaGreatDoorW.PrintLast
section
theorem a6{P:Jn}{ops:Array Oper}{rest:List Oper}{o:Oper}{a:Act}{W:Im}{Q:Exit->Act->Im->Prop}{b:Builtin}{xs:Array Lf}{ts:Array Je}(_ho:o.op=.call { callee:=.builtin b,args:=xs,argTypes:=ts })(h:Kg P ops Q (o::rest) a W):Kg P ops Q (o::rest) a W:=h
section
variable{P:Jn}{ops:Array Oper}{Q:Exit->Act->Im->Prop}{aF:Act}
def Hf(P:Jn)(aF:Act)(dst:Option Tmp)(G:Im->Prop):Result Next->Prop
 |.ok (.value v) w'=>aF.put dst v=aF/\G w'
 |.ok .skip w'=>aF.put dst KG=aF/\G w'
 |.ok (.enter f args) w'=>I9 P f args w' λe w''=>∃v,e=Iv v/\aF.put dst v=aF/\G w''
 |_=>False
def tW(P:Jn)(ops:Array Oper)(aF:Act)(o:Oper)(w:Im)(G:Im->Prop):Prop:=
 (Jk o (KH ops aF.tmps)=Ik/\aF.put o.dst KG=aF/\G w)\/
 (Jk o (KH ops aF.tmps)=Ir/\Hf P aF o.dst G ((JJ aF.eval o).run P w))
theorem Ez{i:Nat}{o:Oper}{a:Act}{w:Im}{G:Im->Prop}{K:Act->Im->Prop}(hi:ops[i]?=Ic o)(he:JJ a.eval o=JJ aF.eval o)
  (hw:Jk o (KH ops a.tmps)=Jk o (KH ops aF.tmps)) (h:tW P ops aF o w G)
  (hK:∀v w',aF.put o.dst v=aF->G w'->K (a.put o.dst v) w'):wpOp P ops Q i K a w:=by
 unfold wpOp;simp only[hi,hw];rcases h with⟨h1,h2,h3⟩|⟨h1,h2⟩
 .simp only[h1,Bool.false_eq_true,if_false]
  exact hK _ _ h2 h3
 .simp only[h1,if_true]
  left;unfold Oper.wp;rw[he];generalize(JJ aF.eval o).run P w=r at h2;cases r with
  |ok n w'=>
   cases n with
   |value v=>exact hK _ _ h2.1 h2.2
   |skip=>exact hK _ _ h2.1 h2.2
   |enter f args=>
    refine I9.mono h2 λe w'' hh=>?_;obtain⟨v,rfl,h3,h4⟩:=hh;exact hK _ _ h3 h4
   |_=>exact h2.elim
  |halt x w'=>exact h2.elim
def mH(ops:Array Oper):Bool:=
 Region.noSelect ops&&(Jy ops.size).all λi=>match ops[i]? with
  |some o=>(o.after.all λe=>!(Region.binds .any e)||decide (e.on<i))&&(o.looksAt ops).all λt=>(ops.all λp=>p.dst != Ic t)||(Jy ops.size).any λj=>(((ops[j]?).map (·.dst)).getD Ih==Ic t)&&Region.reachB .any ops j ops.size i
  |none=>Ir
def lZ(ops:Array Oper)(L:Array Bool)(t:Tmp):Prop:=∃(j:Nat) (o:Oper),ops[j]?=Ic o/\o.dst=Ic t/\L.getD j Ik=Ir
structure Agr(ops:Array Oper)(a0 aF:Act)(L:Array Bool)(a:Act):Prop where
 size:a.tmps.size=aF.tmps.size
 defers:a.defers=aF.defers
 met:∀t,lZ ops L t->a.tmps[t]?=aF.tmps[t]?
 other:∀t,¬lZ ops L t->a.tmps[t]?=a0.tmps[t]?
 apart:∀t,(∀(j:Nat) (o:Oper),ops[j]?=Ic o->o.dst≠Ic t)->a0.tmps[t]?=aF.tmps[t]?
theorem m5(a:Act)(dst:Option Tmp)(v:Io)(t:Nat):(a.put dst v).tmps[t]?=if dst=Ic t then(if t<a.tmps.size then Ic v else Ih)else a.tmps[t]?:=by
 cases dst with
 |none=>simp[KY]
 |some d=>
  by_cases h:d=t
  .subst h;simp[KY,Array.getElem?_setIfInBounds]
  .simp[KY,Kf h,h]
theorem uC(a:Act)(dst:Option Tmp)(v:Io):(a.put dst v).tmps.size=a.tmps.size:=by
 cases dst<;>simp[KY]
theorem Am(a:Act)(dst:Option Tmp)(v:Io):(a.put dst v).defers=a.defers:=by
 cases dst<;>rfl
theorem Agr.put{a0 a:Act}{L:Array Bool}{i:Nat}{o:Oper}{v:Io}(hi:ops[i]?=Ic o)(hL:L.size=ops.size)(h:Agr ops a0 aF L a)(hv:aF.put o.dst v=aF) :
  Agr ops a0 aF (L.setIfInBounds i Ir) (a.put o.dst v):=by
 have hlt:i<ops.size:=(IB.1 hi).1;have hF:∀t,o.dst=Ic t->aF.tmps[t]?=if t<aF.tmps.size then Ic v else Ih:=by
  intro t ht;have:=m5 aF o.dst v t;rw[hv,if_pos ht]at this;exact this
 have hset:(L.setIfInBounds i Ir).getD i Ik=Ir:=by simp[hL,hlt]
 refine⟨by rw[uC];exact h.size,by rw[Am];exact h.defers,?_,?_,h.apart⟩
 .rintro t ⟨j,oj,hj,hdj,hlj⟩
  rw[m5];by_cases hd:o.dst=Ic t
  .rw[if_pos hd,hF t hd,h.size]
  .rw[if_neg hd]
   refine h.met t ⟨j,oj,hj,hdj,?_⟩;have hne:i≠j:=by
    rintro rfl;rw[hi]at hj;cases hj;exact hd hdj
   rwa[IL Ik hne]at hlj
 .intro t hn
  rw[m5];by_cases hd:o.dst=Ic t
  .exact absurd ⟨i,o,hi,hd,hset⟩ hn
  .rw[if_neg hd]
   refine h.other t ?_;rintro⟨j,oj,hj,hdj,hlj⟩;exact hn ⟨j,oj,hj,hdj,getD_set_true hlj⟩
theorem sE(h:mH ops=Ir){i:Nat}{o:Oper}(hi:ops[i]?=Ic o):(∀e∈o.after,Region.binds .any e=Ir->e.on<i)/\∀t∈o.looksAt ops,(∀(j:Nat) (p:Oper),ops[j]?=Ic p->p.dst≠Ic t)\/∃(j:Nat) (p:Oper),ops[j]?=Ic p/\p.dst=Ic t/\Region.reachB .any ops j ops.size i=Ir:=by
 unfold mH at h;simp only[Js]at h;have h1:=Jd.1 h.2 i (Kq.2 (IB.1 hi).1);simp only[hi,Js]at h1;refine⟨λe he hb=>by have h0:=Jh.1 h1.1 e he;rw[hb]at h0;simpa using h0,λt ht=>?_⟩;have h2:=Jd.1 h1.2 t ht;rw[Mb]at h2;rcases h2 with h2|h2
 .left
  intro j p hj;have:=Jh.1 h2 p (Array.mem_of_getElem? hj);simpa using this
 .right
  obtain⟨j,hj,h3⟩:=List.any_eq_true.1 h2;rw[Js]at h3;have hlt:=Kq.1 hj;refine⟨j,ops[j],IB.2 ⟨hlt,rfl⟩,?_,h3.2⟩;have h4:=h3.1;rw[IB.2 ⟨hlt,rfl⟩]at h4;simpa using h4
theorem iH{L:Array Bool}{j:Nat}(hlt:j<L.size)(h:L.getD j Ir=Ir):L.getD j Ik=Ir:=by
 simp[hlt]at h ⊢;exact h
theorem Agr.looks{a0 a:Act}{L:Array Bool}{i:Nat}{o:Oper}(hd:mH ops=Ir)(hi:ops[i]?=Ic o)(hL:L.size=ops.size)(hc:bH .any ops L)(hr:i∈JA .any ops L)
  (h:Agr ops a0 aF L a):∀t∈o.looksAt ops,a.tmps[t]?=aF.tmps[t]?:=by
 intro t ht;rcases(sE hd hi).2 t ht with h1|⟨j,p,hj,hp,hrj⟩
 .rw[h.other t (λ⟨j,oj,hj,hdj,_⟩=>h1 j oj hj hdj),h.apart t h1]
 .refine h.met t ⟨j,p,hj,hp,?_⟩
  have hlt:=(IB.1 hj).1;cases hg:L.getD j Ir with
  |false=>exact absurd hr (Region.reach_not_ready hc hrj hg)
  |true=>exact iH (by omega) hg
theorem Agr.exec{a0 a:Act}{L:Array Bool}{i:Nat}{o:Oper}(hd:mH ops=Ir)(hi:ops[i]?=Ic o)(hL:L.size=ops.size)(hc:bH .any ops L)(hr:i∈JA .any ops L)
  (h:Agr ops a0 aF L a):JJ a.eval o=JJ aF.eval o/\Jk o (KH ops a.tmps)=Jk o (KH ops aF.tmps):=by
 have hl:=h.looks hd hi hL hc hr;constructor
 .refine execOp_congr o (Region.noSelect_spec (by unfold mH at hd;simp only[Js]at hd;exact hd.1) i o · · hi) λx hx=>?_
  cases x with
  |tmp t=>
   have:=hl t (List.mem_append_left _ (List.mem_filterMap.2 ⟨.tmp t,by simpa using hx,rfl⟩));simp only[Act.eval,Array.getD_eq_getD_getElem?,this]
  |_=>rfl
 .unfold Jk
  cases hg:o.guard with
  |none=>rfl
  |some gw=>
   obtain⟨g,want⟩:=gw;have hy:KH ops a.tmps g=KH ops aF.tmps g:=by
    unfold KH;cases ht:(ops[g]?).bind (·.dst)with
    |none=>rfl
    |some t=>
     have:=hl t (by simp[Oper.looksAt,hg,ht]);simp only[Option.bind_some,this]
   simp only[hy]
theorem mJ(hd:mH ops=Ir){L:Array Bool}(hL:L.size=ops.size)(hr:JA .any ops L=[]):∀n i,i<n->i<ops.size->L.getD i Ik=Ir
 |0,_,h,_=>absurd h (LG _)
 |n+1,i,hin,hlt=>by
  cases hg:L.getD i Ir with
  |true=>exact iH (by omega) hg
  |false=>
   have hi:ops[i]?=Ic ops[i]:=IB.2 ⟨hlt,rfl⟩;have hm:i∈JA .any ops L:=L0.2 ⟨hg,ops[i],hi,λe he hbi=>by
    have:=(sE hd hi).1 e he hbi;exact mJ hd hL hr n e.on (by omega) (by omega)⟩
   rw[hr]at hm;cases hm
theorem Agr.full{a0 a:Act}{L:Array Bool}(hall:∀i,i<ops.size->L.getD i Ik=Ir)(h:Agr ops a0 aF L a):a=aF:=by
 obtain⟨ts,ds⟩:=a;obtain⟨tf,df⟩:=aF;have h1:ts=tf:=by
  refine Array.ext_getElem? λt=>?_;by_cases hw:lZ ops L t
  .exact h.met t hw
  .have hn:∀(j:Nat) (o:Oper),ops[j]?=Ic o->o.dst≠Ic t:=λj o hj hdj=>hw ⟨j,o,hj,hdj,hall j (IB.1 hj).1⟩
   exact(h.other t hw).trans (h.apart t hn)
 have h2:ds=df:=h.defers;rw[h1,h2]
theorem Bi{a0:Act}{S:Array Bool->Im->Prop}(hd:mH ops=Ir)
  (hops:∀i o,ops[i]?=Ic o->∀L w,bH .any ops L->i∈JA .any ops L->S L w->tW P ops aF o w (S (L.setIfInBounds i Ir)))
  (hQ:∀L w,(∀i,i<ops.size->L.getD i Ik=Ir)->S L w->Q .normal aF w) :
  ∀(fuel:Nat) (L:Array Bool) (a:Act) (w:Im),L.size=ops.size->L.toList.count Ik=fuel->bH .any ops L->Agr ops a0 aF L a->S L w->wpAny P .any ops Q fuel L a w
 |0,L,a,w,hL,hn,hc,ha,hs=>by
  have hall:∀i,i<ops.size->L.getD i Ik=Ir:=by
   intro i hi;have hm:=List.count_eq_zero.1 hn;cases hg:L.getD i Ik with
   |true=>rfl
   |false=>
    exfalso;apply hm;have hlt:i<L.size:=by omega
    simp[hlt]at hg;rw[<-hg];simp
  have hr:JA .any ops L=[]:=by
   apply List.eq_nil_iff_forall_not_mem.2;intro i hi;obtain⟨h1,o,ho,_⟩:=L0.1 hi;have hlt:=(IB.1 ho).1;have h2:=hall i hlt;have hlt':i<L.size:=by omega
   simp[hlt']at h1 h2;rw[h1]at h2;cases h2
  have he:=ha.full hall;subst he;exact⟨hr,hQ L w hall hs⟩
 |fuel+1,L,a,w,hL,hn,hc,ha,hs=>by
  refine⟨λhr=>?_,λi hi=>?_⟩
  .have hall:∀i,i<ops.size->L.getD i Ik=Ir:=λi hi=>mJ hd hL hr (i+1) i (by omega) hi
   have he:=ha.full hall;subst he;exact hQ L w hall hs
  .obtain⟨h1,o,ho,_⟩:=L0.1 hi
   have hlt:=(IB.1 ho).1;obtain⟨hx,hw⟩:=ha.exec hd ho hL hc hi;refine Ez ho hx hw (hops i o ho L w hc hi hs) λv w' hv hs'=>?_;refine Bi hd hops hQ fuel _ _ w' (by simpa using hL) ?_ (hc.set hi) (ha.put ho hL hv) hs';have hlt':i<L.toList.length:=by simpa[hL]using hlt
   have hlf:L.toList[i]=Ik:=by
    have:i<L.size:=by omega
    simp[this]at h1;simpa using h1
   rw[Mw,List.count_set hlt',hlf,hn];simp
theorem io:∀(vals:List (Tmp×Io)) (a:Act),(bk a vals).tmps.size=a.tmps.size
 | [],_=>rfl
 |(n,v)::r,a=>by unfold bk;rw[io r,uC]
theorem je:∀(vals:List (Tmp×Io)) (a:Act),(bk a vals).defers=a.defers
 | [],_=>rfl
 |(n,v)::r,a=>by unfold bk;rw[je r,Am]
theorem jc{t:Nat}:∀(vals:List (Tmp×Io)) (a:Act),(∀p∈vals,p.1≠t)->(bk a vals).tmps[t]?=a.tmps[t]?
 | [],_,_=>rfl
 |(n,v)::r,a,h=>by
  unfold bk;rw[jc r _ λp hp=>h p (Jm _ hp),m5,if_neg];intro e;exact h (n,v) (JH ..) (Ii e)
theorem yJ{id:Nat}{a0:Act}{w:Im}(vals:List (Tmp×Io))(S:Array Bool->Im->Prop)(hm:P.follows .mixedOrders=Ir)(hd:mH ops=Ir)
  (hv:(vals.map (·.1)).all (λt=>ops.any λo=>o.dst==Ic t)=Ir)
  (hops:∀i o,ops[i]?=Ic o->∀L w,bH .any ops L->i∈JA .any ops L->S L w->tW P ops (bk a0 vals) o w (S (L.setIfInBounds i Ir)))
  (h0:S (Lp ops.size Ik) w.drew)
  (hQ:∀L w',(∀i,i<ops.size->L.getD i Ik=Ir)->S L w'->Q .normal (bk a0 vals) w'):(Code.region id ops Ir).wp P Q a0 w:=by
 refine wp_region_any hm (Bi (a0:=a0) (aF:=bk a0 vals) hd hops hQ ops.size _ a0 _ (by simp) (by simp) ?_ ?_ h0)
 .intro j oj hj hl
  simp[Lh]at hl;split at hl<;>simp_all
 .have hno:∀t,¬lZ ops (Lp ops.size Ik) t:=by
   rintro t ⟨j,o,hj,hdj,hl⟩;simp[Lh]at hl;split at hl<;>simp_all
  refine⟨(io _ _).symm,(je _ _).symm,λt hw=>absurd hw (hno t),λt _=>rfl,λt ht=>?_⟩;refine(jc vals a0 λp hp he=>?_).symm;have h1:=Jd.1 hv p.1 (JM.2 ⟨p,hp,rfl⟩);obtain⟨o,ho,h2⟩:=Lt.1 h1;obtain⟨j,hj⟩:=Array.mem_iff_getElem?.1 ho;exact ht j o hj (by simpa[he]using h2)
end
section
variable{P:Jn}{ops:Array Oper}{aF:Act}
theorem aI{o:Oper}{w w':Im}{G:Im->Prop}{v:Io}(hgd:Jk o (KH ops aF.tmps)=Ir)(hrun:(JJ aF.eval o).run P w=.ok (.value v) w')(hput:aF.put o.dst v=aF)(hG:G w'):tW P ops aF o w G:=by
 refine .inr ⟨hgd,?_⟩;rw[hrun];exact⟨hput,hG⟩
theorem rx{o:Oper}{w:Im}{G:Im->Prop}(hgd:Jk o (KH ops aF.tmps)=Ir)(ty:Je)(x:Lf)(ho:o.op=.load ty x)
  (g:Nat) (hx:aF.eval x=Iq (Ic ⟨g,0,Ih⟩)) (t:Je) (cs:Array Io) (fr:Nat×Nat) (d:TypeDesc) (hg:w.heap[g]?=Ic (.cells cs t fr))
  (hu:P.underlying ty=Ic d) (hd:(match d with|.struct _|.array _ _=>Ir|_=>Ik)=Ir) (hi:(P.info? ty).map (·.size)=Ic cs.size)
  (hput:aF.put o.dst (IA cs)=aF) (hG:G w):tW P ops aF o w G:=by
 refine .inr ⟨hgd,?_⟩;unfold JJ;simp only[ho,hx,Instr.loadAt,Mg,IJ,JO,I1,run_loadVar_row w g t ty cs fr d hg hu hd hi];exact⟨hput,hG⟩
theorem pD{o:Oper}{w:Im}{G:Im->Prop}(hgd:Jk o (KH ops aF.tmps)=Ir)(ty:Je)(x y:Lf)(ho:o.op=.store ty x y)
  (g:Nat) (cells:Array Io) (hx:aF.eval x=Iq (Ic ⟨g,0,Ih⟩)) (hy:aF.eval y=IA cells)
  (t:Je) (old:Array Io) (hg:w.heap[g]?=Ic (.cells old t (0,0))) (hi:(P.info? ty).map (·.size)=Ic cells.size)
  (hold:old.size=cells.size) (h1:cells.all (·.oneCell')=Ir)
  (hput:aF.put o.dst KG=aF) (hG:G (w.setRow g cells)):tW P ops aF o w G:=by
 refine .inr ⟨hgd,?_⟩;unfold JJ;simp only[ho,hx,hy,Instr.storeAt,Mg,IJ,JO,I1,run_storeVar_row w g t ty old cells hg hi hold h1];exact⟨hput,hG⟩
theorem iR{o:Oper}{w:Im}{G:Im->Prop}(hgd:Jk o (KH ops aF.tmps)=Ir){f:FuncId}{fn:Func}{xs:Array Lf}{ts:Array Je}(hf:P.funcs[f]?=Ic fn)(hname:(fn.name == "runtime.NumGoroutine")=Ik)(hb:fn.body.isSome=Ir)(args:Array Io)
  (hop:o.op=.call { callee:=.value (.func f),args:=xs,argTypes:=ts }) (hargs:xs.toList.map aF.eval=args.toList)
  (h:I9 P f args w λe w'=>∃v,e=Iv v/\aF.put o.dst v=aF/\G w'):tW P ops aF o w G:=by
 refine .inr ⟨hgd,?_⟩;have hargs':xs.map aF.eval=args:=by apply Array.toList_inj.1;simpa using hargs
 have he:=tP hf hname hb args w;have hrun:(JJ aF.eval o).run P w=.ok (.enter f args) w:=by
  unfold JJ;simp[hop,resolve,Deferred.ofValue,invoke,Act.eval,hargs',he]
 rw[hrun];exact h
theorem jC{L:Array Bool}{i j:Nat}(hc:bH .any ops L)(hi:i∈JA .any ops L)(hr:Region.reachB .any ops i ops.size j=Ir):L.getD j Ik=Ik:=by
 obtain⟨h1,o,ho,_⟩:=L0.1 hi;cases hg:L.getD j Ik with
 |false=>rfl
 |true=>
  have h2:=Region.reach_listed hc ops.size j hr hg;by_cases hlt:i<L.size
  .simp[hlt]at h1 h2
   rw[h1]at h2;cases h2
  .simp[LB (Nat.le_of_not_lt hlt)]at h2
end
theorem aA{B:Nat}{w W:Im}(h:It B w W):It B w W.drew:=⟨h.os,h.tape,h.output,h.size,h.block⟩
section
variable{P:Jn}{ops:Array Oper}{Q:Exit->Act->Im->Prop}{σ:Type}
def Gx(P:Jn)(G:Io->Im->Prop):Result Next->Prop
 |.ok (.value v) w'=>G v w'
 |.ok .skip w'=>G KG w'
 |.ok (.enter f args) w'=>I9 P f args w' λe w''=>∃v,e=Iv v/\G v w''
 |_=>False
def gQ(P:Jn)(ops:Array Oper)(aF:Act)(o:Oper)(w:Im)(G:Io->Im->Prop):Prop:=
 (Jk o (KH ops aF.tmps)=Ik/\G KG w)\/
 (Jk o (KH ops aF.tmps)=Ir/\Gx P G ((JJ aF.eval o).run P w))
theorem CR{i:Nat}{o:Oper}{a aF:Act}{w:Im}{G:Io->Im->Prop}{K:Act->Im->Prop}(hi:ops[i]?=Ic o)(he:JJ a.eval o=JJ aF.eval o)
  (hw:Jk o (KH ops a.tmps)=Jk o (KH ops aF.tmps)) (h:gQ P ops aF o w G)
  (hK:∀v w',G v w'->K (a.put o.dst v) w'):wpOp P ops Q i K a w:=by
 unfold wpOp;simp only[hi,hw];rcases h with⟨h1,h3⟩|⟨h1,h2⟩
 .simp only[h1,Bool.false_eq_true,if_false]
  exact hK _ _ h3
 .simp only[h1,if_true]
  left;unfold Oper.wp;rw[he];generalize(JJ aF.eval o).run P w=r at h2;cases r with
  |ok n w'=>
   cases n with
   |value v=>exact hK _ _ h2
   |skip=>exact hK _ _ h2
   |enter f args=>
    refine I9.mono h2 λe w'' hh=>?_;obtain⟨v,rfl,h4⟩:=hh;exact hK _ _ h4
   |_=>exact h2.elim
  |halt x w'=>exact h2.elim
def ym(ops:Array Oper)(aF:σ->Act)(S:σ->Array Bool->Im->Prop)(s:σ)(L:Array Bool)(i:Nat)(o:Oper)(v:Io)(w':Im):Prop:=
 ∃s',(aF s').put o.dst v=aF s'/\(∀t,lZ ops L t->(aF s).tmps[t]?=(aF s').tmps[t]?)/\S s' (L.setIfInBounds i Ir) w'
theorem yk{a0:Act}{vals:σ->List (Tmp×Io)}{S:σ->Array Bool->Im->Prop}(hd:mH ops=Ir)(hv:∀s,((vals s).map (·.1)).all (λt=>ops.any λo=>o.dst==Ic t)=Ir)
  (hops:∀i o,ops[i]?=Ic o->∀s L w,bH .any ops L->i∈JA .any ops L->S s L w->gQ P ops (bk a0 (vals s)) o w (ym ops (λs=>bk a0 (vals s)) S s L i o))
  (hQ:∀s L w,(∀i,i<ops.size->L.getD i Ik=Ir)->S s L w->Q .normal (bk a0 (vals s)) w) :
  ∀(fuel:Nat) (s:σ) (L:Array Bool) (a:Act) (w:Im),L.size=ops.size->L.toList.count Ik=fuel->bH .any ops L->Agr ops a0 (bk a0 (vals s)) L a->S s L w->wpAny P .any ops Q fuel L a w
 |0,s,L,a,w,hL,hn,hc,ha,hs=>by
  have hall:∀i,i<ops.size->L.getD i Ik=Ir:=by
   intro i hi;have hm:=List.count_eq_zero.1 hn;cases hg:L.getD i Ik with
   |true=>rfl
   |false=>
    exfalso;apply hm;have hlt:i<L.size:=by omega
    simp[hlt]at hg;rw[<-hg];simp
  have hr:JA .any ops L=[]:=by
   apply List.eq_nil_iff_forall_not_mem.2;intro i hi;obtain⟨h1,o,ho,_⟩:=L0.1 hi;have hlt:=(IB.1 ho).1;have h2:=hall i hlt;have hlt':i<L.size:=by omega
   simp[hlt']at h1 h2;rw[h1]at h2;cases h2
  have he:=ha.full hall;subst he;exact⟨hr,hQ s L w hall hs⟩
 |fuel+1,s,L,a,w,hL,hn,hc,ha,hs=>by
  refine⟨λhr=>?_,λi hi=>?_⟩
  .have hall:∀i,i<ops.size->L.getD i Ik=Ir:=λi hi=>mJ hd hL hr (i+1) i (by omega) hi
   have he:=ha.full hall;subst he;exact hQ s L w hall hs
  .obtain⟨h1,o,ho,_⟩:=L0.1 hi
   have hlt:=(IB.1 ho).1;obtain⟨hx,hw⟩:=ha.exec hd ho hL hc hi;refine CR ho hx hw (hops i o ho s L w hc hi hs) λv w' hN=>?_;obtain⟨s',hput,hsame,hs'⟩:=hN;have ha':Agr ops a0 (bk a0 (vals s')) L a:=by
    refine⟨by rw[ha.size,io,io],by rw[ha.defers,je,je],λt ht=>(ha.met t ht).trans (hsame t ht),ha.other,λt ht=>?_⟩;refine(jc (vals s') a0 λp hp he=>?_).symm;have h1:=Jd.1 (hv s') p.1 (JM.2 ⟨p,hp,rfl⟩);obtain⟨o,ho,h2⟩:=Lt.1 h1;obtain⟨j,hj⟩:=Array.mem_iff_getElem?.1 ho;exact ht j o hj (by simpa[he]using h2)
   refine yk hd hv hops hQ fuel s' _ _ w' (by simpa using hL) ?_ (hc.set hi) (ha'.put ho hL hput) hs';have hlt':i<L.toList.length:=by simpa[hL]using hlt
   have hlf:L.toList[i]=Ik:=by
    have:i<L.size:=by omega
    simp[this]at h1;simpa using h1
   rw[Mw,List.count_set hlt',hlf,hn];simp
theorem uw{id:Nat}{a0:Act}{w:Im}(vals:σ->List (Tmp×Io))(S:σ->Array Bool->Im->Prop)(s0:σ)(hm:P.follows .mixedOrders=Ir)(hd:mH ops=Ir)
  (hv:∀s,((vals s).map (·.1)).all (λt=>ops.any λo=>o.dst==Ic t)=Ir)
  (hops:∀i o,ops[i]?=Ic o->∀s L w,bH .any ops L->i∈JA .any ops L->S s L w->gQ P ops (bk a0 (vals s)) o w (ym ops (λs=>bk a0 (vals s)) S s L i o))
  (h0:S s0 (Lp ops.size Ik) w.drew)
  (hQ:∀s L w',(∀i,i<ops.size->L.getD i Ik=Ir)->S s L w'->Q .normal (bk a0 (vals s)) w'):(Code.region id ops Ir).wp P Q a0 w:=by
 refine wp_region_any hm (yk (a0:=a0) (vals:=vals) hd hv hops hQ ops.size s0 _ a0 _ (by simp) (by simp) ?_ ?_ h0)
 .intro j oj hj hl
  simp[Lh]at hl;split at hl<;>simp_all
 .have hno:∀t,¬lZ ops (Lp ops.size Ik) t:=by
   rintro t ⟨j,o,hj,hdj,hl⟩;simp[Lh]at hl;split at hl<;>simp_all
  refine⟨(io _ _).symm,(je _ _).symm,λt hw=>absurd hw (hno t),λt _=>rfl,λt ht=>?_⟩;refine(jc (vals s0) a0 λp hp he=>?_).symm;have h1:=Jd.1 (hv s0) p.1 (JM.2 ⟨p,hp,rfl⟩);obtain⟨o,ho,h2⟩:=Lt.1 h1;obtain⟨j,hj⟩:=Array.mem_iff_getElem?.1 ho;exact ht j o hj (by simpa[he]using h2)
end
theorem de{ops:Array Oper}{σ:Type}{aF:σ->Act}{S:σ->Array Bool->Im->Prop}{s:σ}{L:Array Bool}{i:Nat}{o:Oper}{v:Io}{w':Im}(hput:(aF s).put o.dst v=aF s)(hS:S s (L.setIfInBounds i Ir) w'):ym ops aF S s L i o v w':=
 ⟨s,hput,λ_ _=>rfl,hS⟩
theorem jZ{ops:Array Oper}{σ:Type}{aF:σ->Act}{S:σ->Array Bool->Im->Prop}{s:σ}{L:Array Bool}{i:Nat}{o:Oper}{v:Io}{w':Im}(s':σ)(d:Tmp)(hr:i∈JA .any ops L)(hd:o.dst=Ic d)
  (hu:((Jy ops.size).all λj=>((ops[j]?).map (·.dst)).getD Ih != Ic d||j==i)=Ir) (hput:(aF s').put o.dst v=aF s') (hnew:aF s'=(aF s).put o.dst v) (hS:S s' (L.setIfInBounds i Ir) w'):ym ops aF S s L i o v w':=by
 refine⟨s',hput,λt ht=>?_,hS⟩;rw[hnew,m5];by_cases h:o.dst=Ic t
 .exfalso
  obtain⟨j,p,hj,hp,hl⟩:=ht;have h1:=Jd.1 hu j (Kq.2 (IB.1 hj).1);rw[hj]at h1;have e:d=t:=Ii (hd.symm.trans h);subst e;simp[hp]at h1;subst h1;obtain⟨h2,_⟩:=L0.1 hr;by_cases hlt:j<L.size
  .simp[hlt]at h2 hl
   rw[h2]at hl;cases hl
  .simp[LB (Nat.le_of_not_lt hlt)]at hl
 .rw[if_neg h]
theorem ab{P:Jn}{ops:Array Oper}{aF:Act}{o:Oper}{w w':Im}{G:Io->Im->Prop}{v:Io}(hgd:Jk o (KH ops aF.tmps)=Ir)(hrun:(JJ aF.eval o).run P w=.ok (.value v) w')(hG:G v w'):gQ P ops aF o w G:=by
 refine .inr ⟨hgd,?_⟩;rw[hrun];exact hG
theorem gd{P:Jn}{ops:Array Oper}{aF:Act}{o:Oper}{w:Im}{G:Io->Im->Prop}(hgd:Jk o (KH ops aF.tmps)=Ir)(ty:Je)(x:Lf)(ho:o.op=.load ty x)
  (g:Nat) (hx:aF.eval x=Iq (Ic ⟨g,0,Ih⟩)) (t:Je) (cs:Array Io) (fr:Nat×Nat) (d:TypeDesc) (hg:w.heap[g]?=Ic (.cells cs t fr))
  (hu:P.underlying ty=Ic d) (hd:(match d with|.struct _|.array _ _=>Ir|_=>Ik)=Ir) (hi:(P.info? ty).map (·.size)=Ic cs.size) (hG:G (IA cs) w):gQ P ops aF o w G:=by
 refine .inr ⟨hgd,?_⟩;unfold JJ;simp only[ho,hx,Instr.loadAt,Mg,IJ,JO,I1,run_loadVar_row w g t ty cs fr d hg hu hd hi];exact hG
theorem aN{P:Jn}{ops:Array Oper}{aF:Act}{o:Oper}{w:Im}{G:Io->Im->Prop}(hgd:Jk o (KH ops aF.tmps)=Ir){f:FuncId}{fn:Func}{xs:Array Lf}{ts:Array Je}(hf:P.funcs[f]?=Ic fn)(hname:(fn.name == "runtime.NumGoroutine")=Ik)(hb:fn.body.isSome=Ir)(args:Array Io)
  (hop:o.op=.call { callee:=.value (.func f),args:=xs,argTypes:=ts }) (hargs:xs.toList.map aF.eval=args.toList)
  (h:I9 P f args w λe w'=>∃v,e=Iv v/\G v w'):gQ P ops aF o w G:=by
 refine .inr ⟨hgd,?_⟩;have hargs':xs.map aF.eval=args:=by apply Array.toList_inj.1;simpa using hargs
 have he:=tP hf hname hb args w;have hrun:(JJ aF.eval o).run P w=.ok (.enter f args) w:=by
  unfold JJ;simp[hop,resolve,Deferred.ofValue,invoke,Act.eval,hargs',he]
 rw[hrun];exact h
theorem im{P:Jn}{ops:Array Oper}{Q:Exit->Act->Im->Prop}{id:Nat}{a0:Act}{w:Im}(vals:List (Tmp×Io))(S:Array Bool->Im->Prop)(hm:P.follows .mixedOrders=Ir)(hd:mH ops=Ir)
  (hv:(vals.map (·.1)).all (λt=>ops.any λo=>o.dst==Ic t)=Ir)
  (h:∀aF,bk a0 vals=aF->(∀i o,ops[i]?=Ic o->∀L w,bH .any ops L->i∈JA .any ops L->S L w->tW P ops aF o w (S (L.setIfInBounds i Ir)))/\
   S (Lp ops.size Ik) w.drew/\(∀L w',(∀i,i<ops.size->L.getD i Ik=Ir)->S L w'->Q .normal aF w')):(Code.region id ops Ir).wp P Q a0 w:=by
 obtain⟨h1,h2,h3⟩:=h _ rfl;exact yJ vals S hm hd hv h1 h2 h3
theorem bJ{P:Jn}{ops:Array Oper}{aF:Act}{o:Oper}{w:Im}{G:Im->Prop}(hgd:Jk o (KH ops aF.tmps)=Ik)(hput:aF.put o.dst KG=aF)(hG:G w):tW P ops aF o w G:=.inl ⟨hgd,hput,hG⟩
theorem f_{ops:Array Oper}{L:Array Bool}{i:Nat}(hi:i∈JA .any ops L):L.getD i Ik=Ik:=by
 obtain⟨h1,_⟩:=L0.1 hi;cases hg:L.getD i Ik with
 |false=>rfl
 |true=>
  by_cases hlt:i<L.size
  .simp[hlt]at h1 hg
   rw[h1]at hg;cases hg
  .simp[LB (Nat.le_of_not_lt hlt)]at hg
theorem ku{P:Jn}{ops:Array Oper}{Q:Exit->Act->Im->Prop}{σ:Type}{id:Nat}{a0:Act}{w:Im}(vals:σ->List (Tmp×Io))(S:σ->Array Bool->Im->Prop)(s0:σ)(hm:P.follows .mixedOrders=Ir)(hd:mH ops=Ir)
  (hv:∀s,((vals s).map (·.1)).all (λt=>ops.any λo=>o.dst==Ic t)=Ir)
  (h:∀aF:σ->Act,(λs=>bk a0 (vals s))=aF->(∀i o,ops[i]?=Ic o->∀s L w,bH .any ops L->i∈JA .any ops L->S s L w->gQ P ops (aF s) o w (ym ops aF S s L i o))/\
   S s0 (Lp ops.size Ik) w.drew/\(∀s L w',(∀i,i<ops.size->L.getD i Ik=Ir)->S s L w'->Q .normal (aF s) w')):(Code.region id ops Ir).wp P Q a0 w:=by
 obtain⟨h1,h2,h3⟩:=h _ rfl;exact uw vals S s0 hm hd hv h1 h2 h3
theorem kH{ops:Array Oper}{L:Array Bool}{i:Nat}(hc:bH .any ops L)(hi:i∈JA .any ops L)(j:Nat)(hr:Region.reachB .any ops j ops.size i=Ir)(hlt:j<L.size):L.getD j Ik=Ir:=by
 cases hg:L.getD j Ir with
 |false=>exact absurd hi (Region.reach_not_ready hc hr hg)
 |true=>exact iH hlt hg
end
inductive Sr where
 |was (l:Int)
 |is (n:Int)
 |no
 deriving DecidableEq
def Sr.v:Sr->Io
 |.was l=>.iface 199 (IA #[Ib Ie l])
 |.is n=>.iface 202 (IA #[Ib Ie n])
 |.no=>.nilIface
theorem Sr.one(s:Sr):s.v.oneCell'=Ir:=by cases s<;>rfl
def aw(T:List Sr):Array Io:=(T.map Sr.v).toArray
theorem aW(T:List Sr):(aw T).size=T.length:=by simp[aw]
theorem ci(T:List Sr):(aw T).all (·.oneCell')=Ir:=by
 rw[Jh];intro v hv;simp only[aw,List.mem_toArray,JM]at hv;obtain⟨s,_,rfl⟩:=hv;exact s.one
theorem yv(T:List Sr)(i:Nat)(s:Sr):(aw T).setIfInBounds i s.v=aw (T.set i s):=by
 simp[aw,List.map_set]
theorem mt(T:List Sr)(i:Nat)(h:i<T.length):(aw T)[i]?=Ic (T[i]).v:=by
 simp[aw,h]
def bE:List Sr:=IF 24 .no
def first:List Sr:=(Jy 24).map λi:Nat=>Sr.was (i:Int)
theorem su:first.length=24:=by simp[first]
def jR(i:Nat):List Sr:=(Jy 24).map λj:Nat=>if j<i then Sr.was (j:Int)else Sr.no
theorem qO(i:Nat):(jR i).length=24:=by simp[jR]
theorem zj:jR 24=first:=by decide
theorem zi(i:Nat)(h:i<24):(jR i).set i (.was (i:Int))=jR (i+1):=by
 apply List.ext_getElem
 .simp[jR]
 .intro j h1 h2
  have hj:j<24:=by simpa[jR]using h1
  rw[List.getElem_set];simp only[jR,List.getElem_map,List.getElem_range];by_cases e:i=j
  .subst e
   rw[if_pos rfl,if_pos (by omega)]
  .rw[if_neg e]
   by_cases c:j<i
   .rw[if_pos c,if_pos (by omega)]
   .rw[if_neg c,if_neg (by omega)]
theorem lB:(If.info? 99).map (·.size)=Ic 24:=by kernel_rfl
def bR(w:Im)(g:Nat)(T:List Sr):Prop:=w.heap[g]?=Ic (.cells (aw T) 99 (0,0))
theorem bR.cell{w:Im}{g:Nat}{T:List Sr}(h:bR w g T)(i:Nat)(hi:i<T.length):w.cell? ⟨g,i,Ih⟩=Ic (T[i]).v:=by
 rw[ah h,mt T i hi]
theorem bR.free{w:Im}{g:Nat}{T:List Sr}(h:bR w g T)(i:Nat):w.frozen? ⟨g,i,Ih⟩=Ik:=au h i
theorem bR.set{w:Im}{g:Nat}{T:List Sr}(h:bR w g T)(i:Nat)(s:Sr):bR (w.setCell ⟨g,i,Ih⟩ s.v) g (T.set i s):=by
 have:=fv h i s.v;rw[yv]at this;exact this
theorem bR.far{w:Im}{g:Nat}{T:List Sr}(h:bR w g T){p:Addr}(hp:g≠p.block)(u:Io):bR (w.setCell p u) g T:=bp h hp u
theorem bR.below{w w':Im}{g:Nat}{T:List Sr}(h:bR w g T)(hb:It w.heap.size w w'):bR w' g T:=(hb.block g (aj h)).trans h
def G_(w:Im)(i:Nat)(wr:Im):Prop:=i<=24/\It w.heap.size w wr/\bR wr w.heap.size bE/\bR wr (w.heap.size+1) (jR i)
theorem AQ(w:Im):I9 If 68 #[] w λe w'=>e=Iv (IA (aw first))/\It w.heap.size w w':=by
 go_enter Tryz.func68,Tryz.ntmps68;go_wp2;go_loopw [3] (λc wr=>∃i:Nat,c=Ib Ie i/\aa (G_ w i wr)) (λc _=>24-(Jj c).toNat)
 case atStart=>exact⟨0,rfl,⟨⟨by omega,ae (ae (Il _ _) _) _,Lz _ _ _,L9 _ _ _⟩⟩⟩
 case round=>
  obtain⟨i,rfl,HS⟩:=hrel;obtain⟨h24,hb,hr,ht⟩:=HS.1;by_cases hi:i<24
  .have hc:=ht.cell i (by rw[qO];exact hi)
   have hf:=ht.free i;have hi':(i:Int)<24:=by omega
   obtain⟨v,hv⟩:=ME (((jR i)[i]'(by rw[qO];exact hi)).v);rw[<-hv]at hc;clear hv HS;have HT:=MD ht;have HR:=MD hr;have HB:=MD hb;clear ht hr hb;go_wp2;go_roundw
   case rel=>exact⟨i+1,by go_num,⟨⟨by omega,HB.1.setCell (by simp) _,HR.1.far (by simp) _,by rw[<-zi i hi];exact HT.1.set i (.was (i:Int))⟩⟩⟩
   case measure=>simp[Jj];omega
  .obtain rfl:i=24:=by omega
   rw[zj]at ht;have HT:=MD ht;have HR:=MD hr;have HB:=MD hb;clear ht hr hb HS;go_wp2_with (first
    |((with_reducible refine ai (N:=12) rfl ?_);refine II rfl 99 _ rfl (w.heap.size+1) rfl 99 (aw first) (0,0) _ HT.1 IU rfl lB ?_)
    |((with_reducible refine ap (t:=99) (p:=0) rfl ?_);refine I3 rfl 99 _ _ rfl w.heap.size (aw first) rfl rfl 99 (aw bE) HR.1 lB rfl (ci first) ?_))
   have hres:(wr.setRow w.heap.size (aw first)).heap[w.heap.size]?=Ic (.cells (aw first) 99 (0,0)):=JX wr w.heap.size _ _ 99 _ HR.1;exact IG (v:=IA (aw first)) (IX rfl _ _ w.heap.size 99 (aw first) (0,0) _ rfl hres IU rfl lB) rfl ⟨rfl,Jl HB.1 (Iz _) _⟩
def inR(l:Int):Bool:=decide (0<=l/\l<=23)
def Sr.ok:Sr->Bool
 |.was l=>inR l
 |.is _=>Ir
 |.no=>Ik
theorem sf(l:Int)(w:Im):I9 If 94 #[Ib Ie l] w λe w'=>e=Iv (Iy (inR l))/\jv w w':=by
 unfold inR;by_cases h1:0<=l
 .by_cases h2:l<24
  .have e:decide (0<=l/\l<=23)=Ir:=decide_eq_true (by omega)
   rw[e];go_enter Tryz.func94,Tryz.ntmps94;go_wp2;go_ret;exact⟨rfl,⟨0,rfl⟩⟩
  .have e:decide (0<=l/\l<=23)=Ik:=decide_eq_false (by omega)
   rw[e];go_enter Tryz.func94,Tryz.ntmps94;go_wp2;go_ret;exact⟨rfl,⟨0,rfl⟩⟩
 .have e:decide (0<=l/\l<=23)=Ik:=decide_eq_false (by omega)
  rw[e];go_enter Tryz.func94,Tryz.ntmps94;go_wp2;go_ret;exact⟨rfl,⟨0,rfl⟩⟩
theorem lm(l:Int)(w:Im):I9 If 94 #[Ib Ie l] w λe w'=>e=Iv (Iy (inR l))/\jv w w':=sf l w
def jG(l:Int):Bool:=decide (0<=l/\l<=7)
theorem nj(l:Int)(w:Im):I9 If 98 #[Ib Ie l] w λe w'=>e=Iv (Iy (jG l))/\jv w w':=by
 unfold jG;by_cases h1:0<=l
 .by_cases h2:l<8
  .have e:decide (0<=l/\l<=7)=Ir:=decide_eq_true (by omega)
   rw[e];go_enter Tryz.func98,Tryz.ntmps98;go_wp2;go_ret;exact⟨rfl,⟨0,rfl⟩⟩
  .have e:decide (0<=l/\l<=7)=Ik:=decide_eq_false (by omega)
   rw[e];go_enter Tryz.func98,Tryz.ntmps98;go_wp2;go_ret;exact⟨rfl,⟨0,rfl⟩⟩
 .have e:decide (0<=l/\l<=7)=Ik:=decide_eq_false (by omega)
  rw[e];go_enter Tryz.func98,Tryz.ntmps98;go_wp2;go_ret;exact⟨rfl,⟨0,rfl⟩⟩
theorem CO(x:Io)(W:Im):(K9 (.iface 199 x) 97 199 Ir).run If W=.ok (IR #[x,Iy Ir]) W:=by kernel_rfl
theorem rS(x:Io)(W:Im):(K9 (.iface 199 x) 97 202 Ir).run If W=.ok (IR #[IA #[Ib Ie 0],Iy Ik]) W:=by kernel_rfl
theorem Bs(x:Io)(W:Im):(K9 (.iface 202 x) 97 199 Ir).run If W=.ok (IR #[IA #[Ib Ie 0],Iy Ik]) W:=by kernel_rfl
theorem FA(x:Io)(W:Im):(K9 (.iface 202 x) 97 202 Ir).run If W=.ok (IR #[x,Iy Ir]) W:=by kernel_rfl
theorem rT(W:Im):(K9 .nilIface 97 199 Ir).run If W=.ok (IR #[IA #[Ib Ie 0],Iy Ik]) W:=by kernel_rfl
theorem uc(W:Im):(K9 .nilIface 97 202 Ir).run If W=.ok (IR #[IA #[Ib Ie 0],Iy Ik]) W:=by kernel_rfl
theorem AP(s:Sr)(w:Im):I9 If 121 #[s.v] w λe w'=>e=Iv (Iy s.ok)/\It w.heap.size w w':=by
 have t1:=CO;have t2:=rS;have t3:=Bs;have t4:=FA;have t5:=rT;have t6:=uc;cases s with
 |was l=>
  unfold Sr.v Sr.ok;go_enter Tryz.func121,Tryz.ntmps121;go_wp2_with (first|(go_at_call 94;refine(lm _ _).mono ?_;rintro e w' ⟨rfl,⟨nd,rfl⟩⟩));go_ret;exact⟨rfl,by repeat(first|exact Il _ _|apply ae|apply aQ|refine It.setCell ?_ (by simp) _)⟩
 |is n=>
  unfold Sr.v Sr.ok;go_enter Tryz.func121,Tryz.ntmps121;go_wp2;go_ret;exact⟨rfl,by repeat(first|exact Il _ _|apply ae|apply aQ|refine It.setCell ?_ (by simp) _)⟩
 |no=>
  unfold Sr.v Sr.ok;go_enter Tryz.func121,Tryz.ntmps121;go_wp2;go_ret;exact⟨rfl,by repeat(first|exact Il _ _|apply ae|apply aQ|refine It.setCell ?_ (by simp) _)⟩
def ey(T:List Sr):Bool:=T.all Sr.ok
def jH(T:List Sr):List Sr:=if ey T=Ir then T else first
def tZ(T:List Sr)(i:Nat):Prop:=∀j (h:j<T.length),j<i->(T[j]).ok=Ir
theorem vo{T:List Sr}{i:Nat}(hi:i<T.length)(h:tZ T i)(hs:(T[i]).ok=Ir):tZ T (i+1):=by
 intro j hj hlt;by_cases e:j=i
 .subst e;exact hs
 .exact h j hj (by omega)
theorem ze{T:List Sr}(h:tZ T T.length):ey T=Ir:=by
 unfold ey;rw[Jd];intro s hs;obtain⟨i,hi,rfl⟩:=List.mem_iff_getElem.mp hs;exact h i hi hi
theorem Cc{T:List Sr}{i:Nat}(hi:i<T.length)(hs:(T[i]).ok=Ik):ey T=Ik:=by
 unfold ey;rw[List.all_eq_false];exact⟨T[i],K8 hi,by rw[hs];decide⟩
theorem EV(W:Im):(isAgg 97).run If W=.ok Ik W:=by kernel_rfl
theorem CW(W:Im):(sizeOf 97).run If W=.ok 1 W:=by kernel_rfl
theorem rz(T:List Sr)(hT:T.length=24)(i:Nat)(hi:i<T.length)(W:Im):(Instr.index 99 (IA (aw T)) (Ib Ie (i:Int))).run If W=.ok (T[i]).v W:=by
 have hg:=mt T i hi;have h0:(0:Int)<=i:=by omega
 have h1:(i:Int)<24:=by omega
 have h2:i<24:=by omega
 simp[Instr.index,asIntOf,I2 IU,h0,h1,h2,part,EV,CW,hg,Jf]
theorem ut{a b:Bool}(h:a=b):Iv (Iy a)=Iv (Iy b):=by rw[h]
theorem DP(T:List Sr)(hT:T.length=24)(w:Im):I9 If 113 #[IA (aw T)] w λe w'=>e=Iv (Iy (ey T))/\It w.heap.size w w':=by
 have HL:=MD hT;clear hT;obtain⟨g,hg⟩:=ME (ey T);rw[<-hg];have HG:=MD hg;clear hg;go_enter Tryz.func113,Tryz.ntmps113;go_wp2_with (first
    |((with_reducible refine ai (N:=5) rfl ?_);refine II rfl 99 _ rfl w.heap.size rfl 99 (aw T) (0,0) _ (JZ w _) IU rfl (by rw[aW,HL.1];exact lB) ?_))
 go_loopw [6] (λc wr=>∃i:Nat,c=Ib Ie i/\aa (i<=24/\tZ T i/\It w.heap.size w wr)) (λc _=>24-(Jj c).toNat)
 case atStart=>exact⟨0,rfl,⟨⟨by omega,λj _ h=>by omega,ae (Il _ _) _⟩⟩⟩
 case round=>
  obtain⟨i,rfl,HS⟩:=hrel;by_cases hi:i<24
  .have hix:=rz T HL.1 i (by rw[HL.1];exact hi)
   have hi':(i:Int)<24:=by omega
   obtain⟨s,hs⟩:=ME (T[i]'(by rw[HL.1];exact hi));rw[<-hs]at hix;have HE:=MD hs;clear hs;cases hok:s.ok with
   |true=>
    have HO:=MD hok;have hm:=AP s;rw[hok]at hm;have HM:=MD hm;clear hok hm;go_wp2_with (first|(go_at_call 121;refine(HM.1 _).mono ?_;rintro e w' ⟨rfl,hb⟩;have HB:=MD hb;clear hb));go_roundw
    case rel=>exact⟨i+1,by go_num,⟨⟨by omega,vo (by rw[HL.1];exact hi) HS.1.2.1 (by rw[<-HE.1];exact HO.1),af HS.1.2.2 HB.1⟩⟩⟩
    case measure=>simp[Jj];omega
   |false=>
    have hg:=Cc (T:=T) (i:=i) (by rw[HL.1];exact hi) (by rw[<-HE.1];exact hok);obtain rfl:g=Ik:=HG.1.trans hg;have hm:=AP s;rw[hok]at hm;have HM:=MD hm;clear hok hm hg;go_wp2_with (first|(go_at_call 121;refine(HM.1 _).mono ?_;rintro e w' ⟨rfl,hb⟩;have HB:=MD hb;clear hb));go_ret;exact⟨rfl,af HS.1.2.2 HB.1⟩
  .obtain rfl:i=24:=by have:=HS.1.1;omega
   have hg:=ze (T:=T) (by rw[HL.1];exact HS.1.2.1);obtain rfl:g=Ir:=HG.1.trans hg;clear hg;go_wp2;go_ret;exact⟨rfl,HS.1.2.2⟩
theorem DG{T:List Sr}(h:ey T=Ir):jH T=T:=by unfold jH;rw[if_pos h]
theorem B_{T:List Sr}(h:ey T=Ik):jH T=first:=by unfold jH;rw[if_neg (by rw[h];decide)]
theorem ow{T:List Sr}(h:T.length=24):(jH T).length=24:=by
 unfold jH;split
 .exact h
 .exact su
theorem be{T:List Sr}(h:T.length=24):(If.info? 99).map (·.size)=Ic (aw T).size:=by rw[aW,h];exact lB
theorem dz{w w1:Im}{A B:Obj}(hb:It ((w.alloc A).alloc B).heap.size ((w.alloc A).alloc B) w1) :
  w1.heap[w.heap.size+1]?=Ic B/\w1.heap[w.heap.size]?=Ic A/\It w.heap.size w w1:=by
 have hs:((w.alloc A).alloc B).heap.size=w.heap.size+2:=by simp
 refine⟨(hb.block _ (by omega)).trans (L9 w A B),(hb.block _ (by omega)).trans (Lz w A B),af (ae (ae (Il _ _) _) _) hb⟩
theorem DO(T:List Sr)(hT:T.length=24)(w:Im):I9 If 93 #[IA (aw T)] w λe w'=>e=Iv (IA (aw (jH T)))/\It w.heap.size w w':=by
 have HL:=MD hT;have hG:=DP T hT;clear hT;obtain⟨R,hR⟩:=ME (jH T);rw[<-hR];have HR:=MD hR;clear hR;cases hg:ey T with
 |true=>
  obtain rfl:R=T:=HR.1.trans (DG hg);rw[hg]at hG;have HM:=MD hG;clear hG hg;go_enter Tryz.func93,Tryz.ntmps93;go_wp2_with (first
    |((with_reducible refine ai (N:=3) rfl ?_);refine II rfl 99 _ rfl w.heap.size rfl 99 (aw R) (0,0) _ (Lz w _ _) IU rfl (be HL.1) ?_)
    |(go_at_call 113;refine(HM.1 _).mono ?_;rintro e w1 ⟨rfl,hb⟩;obtain⟨hr,ht,hb2⟩:=dz hb;have HR1:=MD hr;have HT1:=MD ht;have HB:=MD hb2;clear hr ht hb hb2)
    |((with_reducible refine ai (N:=5) rfl ?_);refine II rfl 99 _ rfl w.heap.size rfl 99 (aw R) (0,0) _ HT1.1 IU rfl (be HL.1) ?_)
    |((with_reducible refine ap (t:=99) (p:=2) rfl ?_);refine I3 rfl 99 _ _ rfl (w.heap.size+1) (aw R) rfl rfl 99 (aw bE) HR1.1 (be HL.1) (by rw[aW,aW,HL.1];rfl) (ci R) ?_))
  have hres:(w1.setRow (w.heap.size+1) (aw R)).heap[w.heap.size+1]?=Ic (.cells (aw R) 99 (0,0)):=JX w1 (w.heap.size+1) _ _ 99 _ HR1.1;exact IG (v:=IA (aw R)) (IX rfl _ _ (w.heap.size+1) 99 (aw R) (0,0) _ rfl hres IU rfl (be HL.1)) rfl ⟨rfl,Jl HB.1 (by omega) _⟩
 |false=>
  obtain rfl:R=first:=HR.1.trans (B_ hg);rw[hg]at hG;have HM:=MD hG;clear hG hg;go_enter Tryz.func93,Tryz.ntmps93;go_wp2_with (first
    |((with_reducible refine ai (N:=3) rfl ?_);refine II rfl 99 _ rfl w.heap.size rfl 99 (aw T) (0,0) _ (Lz w _ _) IU rfl (be HL.1) ?_)
    |(go_at_call 113;refine(HM.1 _).mono ?_;rintro e w1 ⟨rfl,hb⟩;obtain⟨hr,_,hb2⟩:=dz hb;have HR1:=MD hr;have HB:=MD hb2;clear hr hb hb2)
    |(go_at_call 68;refine(AQ _).mono ?_;rintro e w2 ⟨rfl,hb⟩;have HR2:=MD ((hb.block _ (aj HR1.1)).trans HR1.1);have HB2:=MD (af HB.1 hb);clear hb)
    |((with_reducible refine ap (t:=99) (p:=2) rfl ?_);refine I3 rfl 99 _ _ rfl (w.heap.size+1) (aw first) rfl rfl 99 (aw bE) HR2.1 lB rfl (ci first) ?_))
  have hres:(w2.setRow (w.heap.size+1) (aw first)).heap[w.heap.size+1]?=Ic (.cells (aw first) 99 (0,0)):=JX w2 (w.heap.size+1) _ _ 99 _ HR2.1;exact IG (v:=IA (aw first)) (IX rfl _ _ (w.heap.size+1) 99 (aw first) (0,0) _ rfl hres IU rfl lB) rfl ⟨rfl,Jl HB2.1 (by omega) _⟩
structure In where
 op:Int
 d:Int
 a:Int
 b:Int
 n:Int
 jt:Int
 deriving DecidableEq
def In.cells(x:In):Array Io:=#[Ib Ie x.op,Ib Ie x.d,Ib Ie x.a,Ib Ie x.b,Ib Ie x.n,Ib Ie x.jt]
def In.moves(x:In):Bool:=decide (x.op=1\/x.op=2\/x.op=3\/x.op=16)
theorem j7(x:In)(w:Im):I9 If 66 #[IA x.cells] w λe w'=>e=Iv (Iy x.moves)/\It w.heap.size w w':=by
 obtain⟨op,d,a,b,n,jt⟩:=x;unfold In.cells;obtain⟨r,hr⟩:=ME (In.moves ⟨op,d,a,b,n,jt⟩);rw[<-hr];have HR:=MD hr;clear hr;have hcase:(op==1)=Ir\/((op==1)=Ik/\(op==2)=Ir)\/((op==1)=Ik/\(op==2)=Ik/\(op==3)=Ir)\/((op==1)=Ik/\(op==2)=Ik/\(op==3)=Ik):=by
  cases(op==1)<;>cases(op==2)<;>cases(op==3)<;>simp
 rcases hcase with h1|⟨h1,h2⟩|⟨h1,h2,h3⟩|⟨h1,h2,h3⟩
 .obtain rfl:r=Ir:=HR.1.trans (decide_eq_true (.inl (by simpa using h1)))
  go_enter Tryz.func66,Tryz.ntmps66;go_wp2;go_ret;exact⟨rfl,ae (Il _ _) _⟩
 .obtain rfl:r=Ir:=HR.1.trans (decide_eq_true (.inr (.inl (by simpa using h2))))
  go_enter Tryz.func66,Tryz.ntmps66;go_wp2;go_ret;exact⟨rfl,ae (Il _ _) _⟩
 .obtain rfl:r=Ir:=HR.1.trans (decide_eq_true (.inr (.inr (.inl (by simpa using h3)))))
  go_enter Tryz.func66,Tryz.ntmps66;go_wp2;go_ret;exact⟨rfl,ae (Il _ _) _⟩
 .have hm:r=(op==16):=by
   rw[HR.1];unfold In.moves;simp only[beq_eq_false_iff_ne]at h1 h2 h3;rw[L6];simp[h1,h2,h3]
  have HM:=MD hm;clear hm;go_enter Tryz.func66,Tryz.ntmps66;go_wp2;go_ret;exact⟨ut HM.1.symm,ae (Il _ _) _⟩
def iL(T:List Sr)(i:Int):Sr:=T.getD i.toNat .no
def kR(T:List Sr)(x:In):List Sr:=
 if x.op=1 then T.set x.d.toNat (.is x.n)
 else if x.op=2 then T.set x.d.toNat (iL T x.a)
 else if x.op=3 then(T.set x.d.toNat (iL T x.a)).set x.a.toNat (iL T x.d)
 else T
def dS(T:List Sr)(x:In):List Sr:=if x.moves=Ir/\inR x.d=Ir/\inR x.a=Ir then kR (jH T) x else jH T
theorem se{T:List Sr}(x:In)(h:T.length=24):(kR T x).length=24:=by
 unfold kR
 repeat' split
 all_goals simp[h]
theorem mK{T:List Sr}(x:In)(h:T.length=24):(dS T x).length=24:=by
 unfold dS;split
 .exact se x (ow h)
 .exact ow h
def bq(w:Im)(g:Nat)(x:In):Prop:=w.heap[g]?=Ic (.cells x.cells 49 (0,0))
theorem bq.cells{w:Im}{g:Nat}{x:In}(h:bq w g x):w.cell? ⟨g,0,Ih⟩=Ic (Ib Ie x.op)/\w.cell? ⟨g,1,Ih⟩=Ic (Ib Ie x.d)/\w.cell? ⟨g,2,Ih⟩=Ic (Ib Ie x.a)/\w.cell? ⟨g,4,Ih⟩=Ic (Ib Ie x.n):=by
 refine⟨?_,?_,?_,?_⟩<;>(rw[ah h];rfl)
theorem bq.below{w w':Im}{g:Nat}{x:In}(h:bq w g x)(hb:It w.heap.size w w'):bq w' g x:=(hb.block g (aj h)).trans h
theorem bq.row{w:Im}{g g':Nat}{x:In}(h:bq w g x)(hne:g≠g')(cs:Array Io):bq (w.setRow g' cs) g x:=(setRow_other w g' g cs hne).trans h
theorem bq.far{w:Im}{g:Nat}{x:In}(h:bq w g x){p:Addr}(hp:g≠p.block)(u:Io):bq (w.setCell p u) g x:=bp h hp u
theorem bR.row{w:Im}{g g':Nat}{T:List Sr}(h:bR w g T)(hne:g≠g')(cs:Array Io):bR (w.setRow g' cs) g T:=(setRow_other w g' g cs hne).trans h
theorem bR.laid{w:Im}{g:Nat}{T U:List Sr}(h:bR w g T):bR (w.setRow g (aw U)) g U:=JX w g _ _ 99 _ h
theorem kz(x:In):In.cells x=#[Ib Ie x.op,Ib Ie x.d,Ib Ie x.a,Ib Ie x.b,Ib Ie x.n,Ib Ie x.jt]:=rfl
theorem bU:(If.info? 49).map (·.size)=Ic 6:=by kernel_rfl
theorem yi(w:Im)(A B C:Obj):(((w.alloc A).alloc B).alloc C).heap[w.heap.size]?=Ic A:=by
 show(((w.heap.push A).push B).push C)[w.heap.size]?=Ic A;simp[Array.getElem?_push];intro h;omega
theorem pC(W:Im)(a:Addr)(s:Sr)(u:Io)(hc:W.cell? a=Ic u)(hf:W.frozen? a=Ik):(store a s.v).run If W=.ok () (W.setCell a s.v):=by
 rw[run_store If W a s.v _ s.one,hc];simp[hf]
theorem Sr.own(s:Sr):s.v.cells=#[s.v]:=by cases s<;>rfl
theorem bR.at_{w:Im}{g:Nat}{T:List Sr}(h:bR w g T)(hl:T.length=24){i:Int}(hi:0<=i/\i<=23):w.cell? ⟨g,i.toNat,Ih⟩=Ic (iL T i).v/\w.frozen? ⟨g,i.toNat,Ih⟩=Ik:=by
 have hlt:i.toNat<T.length:=by omega
 refine⟨?_,h.free _⟩;rw[h.cell i.toNat hlt];unfold iL;simp[Ij,hlt]
theorem Bt{W:Im}{g:Nat}{T:List Sr}(h:bR W g T)(hl:T.length=24)(i:Nat){j:Int}(hj:0<=j/\j<=23)(s u:Sr):(store ⟨g,j.toNat,Ih⟩ u.v).run If (W.setCell ⟨g,i,Ih⟩ s.v)=.ok () ((W.setCell ⟨g,i,Ih⟩ s.v).setCell ⟨g,j.toNat,Ih⟩ u.v):=by
 obtain⟨h1,h2⟩:=(h.set i s).at_ (by rw[Jq];exact hl) hj;exact pC _ _ _ _ h1 h2
theorem dh{w w1:Im}{A B C:Obj}(hb:It (((w.alloc A).alloc B).alloc C).heap.size (((w.alloc A).alloc B).alloc C) w1) :
  w1.heap[w.heap.size]?=Ic A/\w1.heap[w.heap.size+1]?=Ic B/\w1.heap[w.heap.size+2]?=Ic C/\It w.heap.size w w1:=by
 have h0:(w.alloc A).heap.size=w.heap.size+1:=by simp
 have hs:(((w.alloc A).alloc B).alloc C).heap.size=w.heap.size+3:=by simp
 have hC:(((w.alloc A).alloc B).alloc C).heap[w.heap.size+2]?=Ic C:=by
  have:=L9 (w.alloc A) B C;rw[h0]at this;exact this
 have hB:(((w.alloc A).alloc B).alloc C).heap[w.heap.size+1]?=Ic B:=by
  have:=Lz (w.alloc A) B C;rw[h0]at this;exact this
 have hA:(((w.alloc A).alloc B).alloc C).heap[w.heap.size]?=Ic A:=yi w A B C;exact⟨(hb.block _ (by omega)).trans hA,(hb.block _ (by omega)).trans hB,(hb.block _ (by omega)).trans hC,af (ae (ae (ae (Il _ _) _) _) _) hb⟩
theorem Cm(T:List Sr)(hT:T.length=24)(x:In)(w:Im):I9 If 70 #[IA (aw T),IA x.cells] w λe w'=>e=Iv (IA (aw (dS T x)))/\It w.heap.size w w':=by
 have hG:=DO T hT;obtain⟨G,hg⟩:=ME (jH T);have hGl:G.length=24:=by rw[hg];exact ow hT
 rw[<-hg]at hG;have HL:=MD hT;have HGl:=MD hGl;have HG:=MD hG;have HGe:=MD hg;obtain⟨R,hR⟩:=ME (dS T x);rw[<-hR];have HR:=MD hR;clear hR hG hg hGl hT;cases hm:x.moves with
 |false=>
  obtain rfl:R=G:=HR.1.trans (by unfold dS;rw[if_neg (λh=>by rw[hm]at h;exact absurd h.1 (by decide)),HGe.1]);have hM:=j7 x;rw[hm]at hM;have HM:=MD hM;clear hM hm;go_enter LF,Lv;go_wp2_with (first
    |((with_reducible refine ai (N:=5) rfl ?_);refine II rfl 99 _ rfl w.heap.size rfl 99 (aw T) (0,0) _ (yi w _ _ _) IU rfl (be HL.1) ?_)
    |(go_at_call 93;refine(HG.1 _).mono ?_;rintro e w1 ⟨rfl,hb⟩;obtain⟨ht,hi,hr,hb2⟩:=dh hb;have KT:=MD (show bR w1 w.heap.size T from ht);have KI:=MD (show bq w1 (w.heap.size+1) x from hi);have KR:=MD (show bR w1 (w.heap.size+2) bE from hr);have HB:=MD hb2;clear ht hi hr hb hb2)
    |((with_reducible refine ap (t:=99) (p:=2) rfl ?_);refine I3 rfl 99 _ _ rfl w.heap.size (aw R) rfl rfl 99 (aw T) KT.1 (be HGl.1) (by rw[aW,aW,HL.1,HGl.1]) (ci R) ?_;have KT2:=MD (show bR (w1.setRow w.heap.size (aw R)) w.heap.size R from KT.1.laid);have KI2:=MD (KI.1.row (by omega) (aw R) (g':=w.heap.size));have KR2:=MD (KR.1.row (by omega) (aw R) (g':=w.heap.size));have HB2:=MD (Jl HB.1 (Iz _) (aw R)))
    |((with_reducible refine ai (N:=7) rfl ?_);refine II rfl 49 _ rfl (w.heap.size+1) rfl 49 x.cells (0,0) _ KI2.1 I6 rfl bU ?_)
    |(go_at_call 66;refine(HM.1 _).mono ?_;rintro e w3 ⟨rfl,hb⟩;have KT3:=MD (KT2.1.below hb);have KR3:=MD (KR2.1.below hb);have HB3:=MD (af HB2.1 hb);clear hb)
    |((with_reducible refine ai (N:=22) rfl ?_);refine II rfl 99 _ rfl w.heap.size rfl 99 (aw R) (0,0) _ KT3.1 IU rfl (be HGl.1) ?_)
    |((with_reducible refine ap (t:=99) (p:=4) rfl ?_);refine I3 rfl 99 _ _ rfl (w.heap.size+2) (aw R) rfl rfl 99 (aw bE) KR3.1 (be HGl.1) (by rw[aW,aW,HGl.1];rfl) (ci R) ?_))
  exact IG (v:=IA (aw R)) (IX rfl _ _ (w.heap.size+2) 99 (aw R) (0,0) _ rfl KR3.1.laid IU rfl (be HGl.1)) rfl ⟨rfl,Jl HB3.1 (by omega) _⟩
 |true=>
  have hM:=j7 x;rw[hm]at hM;have HM:=MD hM;have Hm:=MD hm;clear hM hm;have hrd:=lm x.d;have hra:=lm x.a;cases hd:inR x.d with
  |false=>
   obtain rfl:R=G:=HR.1.trans (by unfold dS;rw[if_neg (λh=>by rw[hd]at h;exact absurd h.2.1 (by decide)),HGe.1]);rw[hd]at hrd;have RD:=MD hrd;clear hrd hra hd;go_enter LF,Lv;go_wp2_with (first
     |((with_reducible refine ai (N:=5) rfl ?_);refine II rfl 99 _ rfl w.heap.size rfl 99 (aw T) (0,0) _ (yi w _ _ _) IU rfl (be HL.1) ?_)
     |(go_at_call 93;refine(HG.1 _).mono ?_;rintro e w1 ⟨rfl,hb⟩;obtain⟨ht,hi,hr,hb2⟩:=dh hb;have KT:=MD (show bR w1 w.heap.size T from ht);have KI:=MD (show bq w1 (w.heap.size+1) x from hi);have KR:=MD (show bR w1 (w.heap.size+2) bE from hr);have HB:=MD hb2;clear ht hi hr hb hb2)
     |((with_reducible refine ap (t:=99) (p:=2) rfl ?_);refine I3 rfl 99 _ _ rfl w.heap.size (aw R) rfl rfl 99 (aw T) KT.1 (be HGl.1) (by rw[aW,aW,HL.1,HGl.1]) (ci R) ?_;have KT2:=MD (show bR (w1.setRow w.heap.size (aw R)) w.heap.size R from KT.1.laid);have KI2:=MD (KI.1.row (by omega) (aw R) (g':=w.heap.size));have KR2:=MD (KR.1.row (by omega) (aw R) (g':=w.heap.size));have HB2:=MD (Jl HB.1 (Iz _) (aw R)))
     |((with_reducible refine ai (N:=7) rfl ?_);refine II rfl 49 _ rfl (w.heap.size+1) rfl 49 x.cells (0,0) _ KI2.1 I6 rfl bU ?_)
     |(go_at_call 66;refine(HM.1 _).mono ?_;rintro e w3 ⟨rfl,hb⟩;have KT3:=MD (KT2.1.below hb);have KI3:=MD (KI2.1.below hb);have KR3:=MD (KR2.1.below hb);have HB3:=MD (af HB2.1 hb);clear hb;obtain⟨c0,c1,c2,c4⟩:=KI3.1.cells)
     |(go_at_call 94;(with_reducible refine(RD.1 _).mono ?_);rintro e w' ⟨rfl,⟨nd,rfl⟩⟩)
     |((with_reducible refine ai (N:=22) rfl ?_);refine II rfl 99 _ rfl w.heap.size rfl 99 (aw R) (0,0) _ KT3.1 IU rfl (be HGl.1) ?_)
     |((with_reducible refine ap (t:=99) (p:=4) rfl ?_);refine I3 rfl 99 _ _ rfl (w.heap.size+2) (aw R) rfl rfl 99 (aw bE) KR3.1 (be HGl.1) (by rw[aW,aW,HGl.1];rfl) (ci R) ?_))
   exact IG (v:=IA (aw R)) (IX rfl _ _ (w.heap.size+2) 99 (aw R) (0,0) _ rfl KR3.1.laid IU rfl (be HGl.1)) rfl ⟨rfl,Jl (aQ HB3.1 _) (by omega) _⟩
  |true=>
   rw[hd]at hrd;have RD:=MD hrd;have Hd:=MD hd;clear hrd hd;cases ha:inR x.a with
   |false=>
    obtain rfl:R=G:=HR.1.trans (by unfold dS;rw[if_neg (λh=>by rw[ha]at h;exact absurd h.2.2 (by decide)),HGe.1]);rw[ha]at hra;have RA:=MD hra;clear hra ha;go_enter LF,Lv;go_wp2_with (first
      |((with_reducible refine ai (N:=5) rfl ?_);refine II rfl 99 _ rfl w.heap.size rfl 99 (aw T) (0,0) _ (yi w _ _ _) IU rfl (be HL.1) ?_)
      |(go_at_call 93;refine(HG.1 _).mono ?_;rintro e w1 ⟨rfl,hb⟩;obtain⟨ht,hi,hr,hb2⟩:=dh hb;have KT:=MD (show bR w1 w.heap.size T from ht);have KI:=MD (show bq w1 (w.heap.size+1) x from hi);have KR:=MD (show bR w1 (w.heap.size+2) bE from hr);have HB:=MD hb2;clear ht hi hr hb hb2)
      |((with_reducible refine ap (t:=99) (p:=2) rfl ?_);refine I3 rfl 99 _ _ rfl w.heap.size (aw R) rfl rfl 99 (aw T) KT.1 (be HGl.1) (by rw[aW,aW,HL.1,HGl.1]) (ci R) ?_;have KT2:=MD (show bR (w1.setRow w.heap.size (aw R)) w.heap.size R from KT.1.laid);have KI2:=MD (KI.1.row (by omega) (aw R) (g':=w.heap.size));have KR2:=MD (KR.1.row (by omega) (aw R) (g':=w.heap.size));have HB2:=MD (Jl HB.1 (Iz _) (aw R)))
      |((with_reducible refine ai (N:=7) rfl ?_);refine II rfl 49 _ rfl (w.heap.size+1) rfl 49 x.cells (0,0) _ KI2.1 I6 rfl bU ?_)
      |(go_at_call 66;refine(HM.1 _).mono ?_;rintro e w3 ⟨rfl,hb⟩;have KT3:=MD (KT2.1.below hb);have KI3:=MD (KI2.1.below hb);have KR3:=MD (KR2.1.below hb);have HB3:=MD (af HB2.1 hb);clear hb;obtain⟨c0,c1,c2,c4⟩:=KI3.1.cells)
      |(go_at_call 94;(with_reducible refine(RD.1 _).mono ?_);rintro e w' ⟨rfl,⟨nd,rfl⟩⟩)
      |(go_at_call 94;(with_reducible refine(RA.1 _).mono ?_);rintro e w' ⟨rfl,⟨nd2,rfl⟩⟩)
      |((with_reducible refine ai (N:=22) rfl ?_);refine II rfl 99 _ rfl w.heap.size rfl 99 (aw R) (0,0) _ KT3.1 IU rfl (be HGl.1) ?_)
      |((with_reducible refine ap (t:=99) (p:=4) rfl ?_);refine I3 rfl 99 _ _ rfl (w.heap.size+2) (aw R) rfl rfl 99 (aw bE) KR3.1 (be HGl.1) (by rw[aW,aW,HGl.1];rfl) (ci R) ?_))
    exact IG (v:=IA (aw R)) (IX rfl _ _ (w.heap.size+2) 99 (aw R) (0,0) _ rfl KR3.1.laid IU rfl (be HGl.1)) rfl ⟨rfl,Jl (aQ HB3.1 _) (by omega) _⟩
   |true=>
    have hRm:R=kR G x:=HR.1.trans (by unfold dS;rw[if_pos ⟨Hm.1,Hd.1,ha⟩,HGe.1]);rw[ha]at hra;have RA:=MD hra;have HRm:=MD hRm;have hd0:0<=x.d/\x.d<=23:=of_decide_eq_true Hd.1;have ha0:0<=x.a/\x.a<=23:=of_decide_eq_true ha;clear hra ha hRm;have hRl:R.length=24:=by rw[HRm.1];exact se x HGl.1
    have HRl:=MD hRl;have hops:x.op=1\/x.op=2\/x.op=3\/x.op=16:=of_decide_eq_true Hm.1;clear hRl;rcases hops with ho|ho|ho|ho
    .have HRs:=MD (show R=G.set x.d.toNat (.is x.n) by rw[HRm.1];unfold kR;rw[if_pos ho])
     go_enter LF,Lv;go_wp2_with (first
       |((with_reducible refine ai (N:=5) rfl ?_);refine II rfl 99 _ rfl w.heap.size rfl 99 (aw T) (0,0) _ (yi w _ _ _) IU rfl (be HL.1) ?_)
       |(go_at_call 93;refine(HG.1 _).mono ?_;rintro e w1 ⟨rfl,hb⟩;obtain⟨ht,hi,hr,hb2⟩:=dh hb;have KT:=MD (show bR w1 w.heap.size T from ht);have KI:=MD (show bq w1 (w.heap.size+1) x from hi);have KR:=MD (show bR w1 (w.heap.size+2) bE from hr);have HB:=MD hb2;clear ht hi hr hb hb2)
       |((with_reducible refine ap (t:=99) (p:=2) rfl ?_);refine I3 rfl 99 _ _ rfl w.heap.size (aw G) rfl rfl 99 (aw T) KT.1 (be HGl.1) (by rw[aW,aW,HL.1,HGl.1]) (ci G) ?_;have KT2:=MD (show bR (w1.setRow w.heap.size (aw G)) w.heap.size G from KT.1.laid);have KI2:=MD (KI.1.row (by omega) (aw G) (g':=w.heap.size));have KR2:=MD (KR.1.row (by omega) (aw G) (g':=w.heap.size));have HB2:=MD (Jl HB.1 (Iz _) (aw G)))
       |((with_reducible refine ai (N:=7) rfl ?_);refine II rfl 49 _ rfl (w.heap.size+1) rfl 49 x.cells (0,0) _ KI2.1 I6 rfl bU ?_)
       |(go_at_call 66;refine(HM.1 _).mono ?_;rintro e w3 ⟨rfl,hb⟩;have KT3:=MD (KT2.1.below hb);have KI3:=MD (KI2.1.below hb);have KR3:=MD (KR2.1.below hb);have HB3:=MD (af HB2.1 hb);clear hb;obtain⟨c0,c1,c2,c4⟩:=KI3.1.cells;obtain⟨td,tf⟩:=KT3.1.at_ HGl.1 hd0;obtain⟨tb,tg⟩:=KT3.1.at_ HGl.1 ha0)
       |(go_at_call 94;(with_reducible refine(RD.1 _).mono ?_);rintro e w' ⟨rfl,⟨nd,rfl⟩⟩)
       |(go_at_call 94;(with_reducible refine(RA.1 _).mono ?_);rintro e w' ⟨rfl,⟨nd2,rfl⟩⟩)
       |((with_reducible refine ai (N:=59) rfl ?_);refine II rfl 99 _ rfl w.heap.size rfl 99 (aw R) (0,0) _ (by rw[HRs.1];exact(KT3.1.set x.d.toNat (.is x.n))) IU rfl (be HRl.1) ?_)
       |((with_reducible refine ap (t:=99) (p:=4) rfl ?_);refine I3 rfl 99 _ _ rfl (w.heap.size+2) (aw R) rfl rfl 99 (aw bE) (show bR _ (w.heap.size+2) bE from KR3.1.far (by simp) _) (be HRl.1) (by rw[aW,aW,HRl.1];rfl) (ci R) ?_))
     exact IG (v:=IA (aw R)) (IX rfl _ _ (w.heap.size+2) 99 (aw R) (0,0) _ rfl (JX _ (w.heap.size+2) _ _ 99 _ (show bR _ (w.heap.size+2) bE from KR3.1.far (by simp) _)) IU rfl (be HRl.1)) rfl ⟨rfl,Jl ((aQ HB3.1 _).setCell (Iz _) _) (by omega) _⟩
    .have HRs:=MD (show R=G.set x.d.toNat (iL G x.a) by rw[HRm.1];unfold kR;rw[if_neg (by omega),if_pos ho])
     go_enter LF,Lv;go_wp2_with (first
       |((with_reducible refine ai (N:=5) rfl ?_);refine II rfl 99 _ rfl w.heap.size rfl 99 (aw T) (0,0) _ (yi w _ _ _) IU rfl (be HL.1) ?_)
       |(go_at_call 93;refine(HG.1 _).mono ?_;rintro e w1 ⟨rfl,hb⟩;obtain⟨ht,hi,hr,hb2⟩:=dh hb;have KT:=MD (show bR w1 w.heap.size T from ht);have KI:=MD (show bq w1 (w.heap.size+1) x from hi);have KR:=MD (show bR w1 (w.heap.size+2) bE from hr);have HB:=MD hb2;clear ht hi hr hb hb2)
       |((with_reducible refine ap (t:=99) (p:=2) rfl ?_);refine I3 rfl 99 _ _ rfl w.heap.size (aw G) rfl rfl 99 (aw T) KT.1 (be HGl.1) (by rw[aW,aW,HL.1,HGl.1]) (ci G) ?_;have KT2:=MD (show bR (w1.setRow w.heap.size (aw G)) w.heap.size G from KT.1.laid);have KI2:=MD (KI.1.row (by omega) (aw G) (g':=w.heap.size));have KR2:=MD (KR.1.row (by omega) (aw G) (g':=w.heap.size));have HB2:=MD (Jl HB.1 (Iz _) (aw G)))
       |((with_reducible refine ai (N:=7) rfl ?_);refine II rfl 49 _ rfl (w.heap.size+1) rfl 49 x.cells (0,0) _ KI2.1 I6 rfl bU ?_)
       |(go_at_call 66;refine(HM.1 _).mono ?_;rintro e w3 ⟨rfl,hb⟩;have KT3:=MD (KT2.1.below hb);have KI3:=MD (KI2.1.below hb);have KR3:=MD (KR2.1.below hb);have HB3:=MD (af HB2.1 hb);clear hb;obtain⟨c0,c1,c2,c4⟩:=KI3.1.cells;obtain⟨td,tf⟩:=KT3.1.at_ HGl.1 hd0;obtain⟨tb,tg⟩:=KT3.1.at_ HGl.1 ha0;have o1:=λk=>pC (w3.drewN k) ⟨w.heap.size,x.d.toNat,Ih⟩ (iL G x.a) (iL G x.d).v td tf;have o2:=(iL G x.a).own;unfold Mz at o2;have q1:x.a<24:=LH ha0.2;have q2:x.d<24:=LH hd0.2;have q3:=ha0.1;have q4:=hd0.1)
       |(go_at_call 94;(with_reducible refine(RD.1 _).mono ?_);rintro e w' ⟨rfl,⟨nd,rfl⟩⟩)
       |(go_at_call 94;(with_reducible refine(RA.1 _).mono ?_);rintro e w' ⟨rfl,⟨nd2,rfl⟩⟩))
     go_region
     all_goals
      go_wp2_with (first
       |((with_reducible refine ai (N:=59) rfl ?_);refine II rfl 99 _ rfl w.heap.size rfl 99 (aw R) (0,0) _ (by rw[HRs.1];exact(KT3.1.set x.d.toNat (iL G x.a))) IU rfl (be HRl.1) ?_)
       |((with_reducible refine ap (t:=99) (p:=4) rfl ?_);refine I3 rfl 99 _ _ rfl (w.heap.size+2) (aw R) rfl rfl 99 (aw bE) (show bR _ (w.heap.size+2) bE from KR3.1.far (by simp) _) (be HRl.1) (by rw[aW,aW,HRl.1];rfl) (ci R) ?_))
      exact IG (v:=IA (aw R)) (IX rfl _ _ (w.heap.size+2) 99 (aw R) (0,0) _ rfl (JX _ (w.heap.size+2) _ _ 99 _ (show bR _ (w.heap.size+2) bE from KR3.1.far (by simp) _)) IU rfl (be HRl.1)) rfl ⟨rfl,Jl ((aQ HB3.1 _).setCell (Iz _) _) (by omega) _⟩
    .have HRs:=MD (show R=(G.set x.d.toNat (iL G x.a)).set x.a.toNat (iL G x.d) by rw[HRm.1];unfold kR;rw[if_neg (by omega),if_neg (by omega),if_pos ho])
     go_enter LF,Lv;go_wp2_with (first
       |((with_reducible refine ai (N:=5) rfl ?_);refine II rfl 99 _ rfl w.heap.size rfl 99 (aw T) (0,0) _ (yi w _ _ _) IU rfl (be HL.1) ?_)
       |(go_at_call 93;refine(HG.1 _).mono ?_;rintro e w1 ⟨rfl,hb⟩;obtain⟨ht,hi,hr,hb2⟩:=dh hb;have KT:=MD (show bR w1 w.heap.size T from ht);have KI:=MD (show bq w1 (w.heap.size+1) x from hi);have KR:=MD (show bR w1 (w.heap.size+2) bE from hr);have HB:=MD hb2;clear ht hi hr hb hb2)
       |((with_reducible refine ap (t:=99) (p:=2) rfl ?_);refine I3 rfl 99 _ _ rfl w.heap.size (aw G) rfl rfl 99 (aw T) KT.1 (be HGl.1) (by rw[aW,aW,HL.1,HGl.1]) (ci G) ?_;have KT2:=MD (show bR (w1.setRow w.heap.size (aw G)) w.heap.size G from KT.1.laid);have KI2:=MD (KI.1.row (by omega) (aw G) (g':=w.heap.size));have KR2:=MD (KR.1.row (by omega) (aw G) (g':=w.heap.size));have HB2:=MD (Jl HB.1 (Iz _) (aw G)))
       |((with_reducible refine ai (N:=7) rfl ?_);refine II rfl 49 _ rfl (w.heap.size+1) rfl 49 x.cells (0,0) _ KI2.1 I6 rfl bU ?_)
       |(go_at_call 66;refine(HM.1 _).mono ?_;rintro e w3 ⟨rfl,hb⟩;have KT3:=MD (KT2.1.below hb);have KI3:=MD (KI2.1.below hb);have KR3:=MD (KR2.1.below hb);have HB3:=MD (af HB2.1 hb);clear hb;obtain⟨c0,c1,c2,c4⟩:=KI3.1.cells;obtain⟨td,tf⟩:=KT3.1.at_ HGl.1 hd0;obtain⟨tb,tg⟩:=KT3.1.at_ HGl.1 ha0;have o1:=λk=>pC (w3.drewN k) ⟨w.heap.size,x.d.toNat,Ih⟩ (iL G x.a) (iL G x.d).v td tf;have o2:=(iL G x.a).own;unfold Mz at o2;have o3:=(iL G x.d).own;unfold Mz at o3;have o4:=λk=>Bt (show bR (w3.drewN k) w.heap.size G from KT3.1) HGl.1 x.d.toNat ha0 (iL G x.a) (iL G x.d);have q1:x.a<24:=LH ha0.2;have q2:x.d<24:=LH hd0.2;have q3:=ha0.1;have q4:=hd0.1)
       |(go_at_call 94;(with_reducible refine(RD.1 _).mono ?_);rintro e w' ⟨rfl,⟨nd,rfl⟩⟩)
       |(go_at_call 94;(with_reducible refine(RA.1 _).mono ?_);rintro e w' ⟨rfl,⟨nd2,rfl⟩⟩))
     go_region
     all_goals
      go_wp2_with (first
       |((with_reducible refine ai (N:=59) rfl ?_);refine II rfl 99 _ rfl w.heap.size rfl 99 (aw R) (0,0) _ (by rw[HRs.1];exact((KT3.1.set x.d.toNat (iL G x.a)).set x.a.toNat (iL G x.d))) IU rfl (be HRl.1) ?_)
       |((with_reducible refine ap (t:=99) (p:=4) rfl ?_);refine I3 rfl 99 _ _ rfl (w.heap.size+2) (aw R) rfl rfl 99 (aw bE) (show bR _ (w.heap.size+2) bE from bR.far (KR3.1.far (by simp) _) (by simp) _) (be HRl.1) (by rw[aW,aW,HRl.1];rfl) (ci R) ?_))
      exact IG (v:=IA (aw R)) (IX rfl _ _ (w.heap.size+2) 99 (aw R) (0,0) _ rfl (JX _ (w.heap.size+2) _ _ 99 _ (show bR _ (w.heap.size+2) bE from bR.far (KR3.1.far (by simp) _) (by simp) _)) IU rfl (be HRl.1)) rfl ⟨rfl,Jl (((aQ HB3.1 _).setCell (Iz _) _).setCell (Iz _) _) (by omega) _⟩
    .have HRs:=MD (show R=G by rw[HRm.1];unfold kR;rw[if_neg (by omega),if_neg (by omega),if_neg (by omega)])
     go_enter LF,Lv;go_wp2_with (first
       |((with_reducible refine ai (N:=5) rfl ?_);refine II rfl 99 _ rfl w.heap.size rfl 99 (aw T) (0,0) _ (yi w _ _ _) IU rfl (be HL.1) ?_)
       |(go_at_call 93;refine(HG.1 _).mono ?_;rintro e w1 ⟨rfl,hb⟩;obtain⟨ht,hi,hr,hb2⟩:=dh hb;have KT:=MD (show bR w1 w.heap.size T from ht);have KI:=MD (show bq w1 (w.heap.size+1) x from hi);have KR:=MD (show bR w1 (w.heap.size+2) bE from hr);have HB:=MD hb2;clear ht hi hr hb hb2)
       |((with_reducible refine ap (t:=99) (p:=2) rfl ?_);refine I3 rfl 99 _ _ rfl w.heap.size (aw G) rfl rfl 99 (aw T) KT.1 (be HGl.1) (by rw[aW,aW,HL.1,HGl.1]) (ci G) ?_;have KT2:=MD (show bR (w1.setRow w.heap.size (aw G)) w.heap.size G from KT.1.laid);have KI2:=MD (KI.1.row (by omega) (aw G) (g':=w.heap.size));have KR2:=MD (KR.1.row (by omega) (aw G) (g':=w.heap.size));have HB2:=MD (Jl HB.1 (Iz _) (aw G)))
       |((with_reducible refine ai (N:=7) rfl ?_);refine II rfl 49 _ rfl (w.heap.size+1) rfl 49 x.cells (0,0) _ KI2.1 I6 rfl bU ?_)
       |(go_at_call 66;refine(HM.1 _).mono ?_;rintro e w3 ⟨rfl,hb⟩;have KT3:=MD (KT2.1.below hb);have KI3:=MD (KI2.1.below hb);have KR3:=MD (KR2.1.below hb);have HB3:=MD (af HB2.1 hb);clear hb;obtain⟨c0,c1,c2,c4⟩:=KI3.1.cells;obtain⟨td,tf⟩:=KT3.1.at_ HGl.1 hd0;obtain⟨tb,tg⟩:=KT3.1.at_ HGl.1 ha0)
       |(go_at_call 94;(with_reducible refine(RD.1 _).mono ?_);rintro e w' ⟨rfl,⟨nd,rfl⟩⟩)
       |(go_at_call 94;(with_reducible refine(RA.1 _).mono ?_);rintro e w' ⟨rfl,⟨nd2,rfl⟩⟩)
       |((with_reducible refine ai (N:=59) rfl ?_);refine II rfl 99 _ rfl w.heap.size rfl 99 (aw R) (0,0) _ (by rw[HRs.1];exact KT3.1) IU rfl (be HRl.1) ?_)
       |((with_reducible refine ap (t:=99) (p:=4) rfl ?_);refine I3 rfl 99 _ _ rfl (w.heap.size+2) (aw R) rfl rfl 99 (aw bE) KR3.1 (be HRl.1) (by rw[aW,aW,HRl.1];rfl) (ci R) ?_))
     exact IG (v:=IA (aw R)) (IX rfl _ _ (w.heap.size+2) 99 (aw R) (0,0) _ rfl (JX _ (w.heap.size+2) _ _ 99 _ KR3.1) IU rfl (be HRl.1)) rfl ⟨rfl,Jl (aQ HB3.1 _) (by omega) _⟩
def World.setIter(W:Im)(g:Nat)(s:ByteArray)(pos:Nat):Im:={ W with heap:=W.heap.setIfInBounds g (.stringIter s pos) }
theorem fj{W:Im}{g:Nat}{s:ByteArray}{p:Nat}(h:W.heap[g]?=Ic (.stringIter s p))(q:Nat):(World.setIter W g s q).heap[g]?=Ic (.stringIter s q):=by
 have hlt:=aj h;show(W.heap.setIfInBounds g _)[g]?=_;simp[hlt]
theorem eB{B:Nat}{w W:Im}{g:Nat}(hb:It B w W)(hg:B<=g)(s:ByteArray)(q:Nat):It B w (World.setIter W g s q):=by
 refine⟨hb.os,hb.tape,hb.output,?_,λk hk=>?_⟩
 .have:(World.setIter W g s q).heap.size=W.heap.size:=Array.size_setIfInBounds ..
  rw[this];exact hb.size
 .show (W.heap.setIfInBounds g (.stringIter s q))[k]?=_
  rw[Kf (by omega)];exact hb.block k hk
theorem fW{P:Jn}(W:Im)(g:Nat)(s:ByteArray)(pos:Nat)(ty:Je)(hg:W.heap[g]?=Ic (.stringIter s pos))(hp:pos<s.size)(ha:bt s pos<128) :
  (LD (Iq (Ic ⟨g,0,Ih⟩)) Ir ty).run P W=.ok (IR #[Iy Ir,Ib Ie pos,.int .i32 (bt s pos)]) (World.setIter W g s (pos+1)):=by
 have hb:=oX s (pos:Int) hp;simp only[IC]at hb;have hd:=decode_ascii s pos hp (by omega);rw[<-hb];simp only[LD,getObj,setObj,IJ,Sem.run,hg,Jf,hp,if_true,hd];simp[goInt,Sem.run,World.setIter]
theorem eC{P:Jn}(W:Im)(g:Nat)(s:ByteArray)(pos:Nat)(ty:Je)(hg:W.heap[g]?=Ic (.stringIter s pos))(hp:¬pos<s.size) :
  (LD (Iq (Ic ⟨g,0,Ih⟩)) Ir ty).run P W=.ok (IR #[Iy Ik]) W:=by
 simp[LD,getObj,Sem.run,hg,hp,IJ,Jf]
theorem bd{W:Im}{g:Nat}{s:ByteArray}{p:Nat}(h:W.heap[g]?=Ic (.stringIter s p)):W.iterPos g=p:=by
 unfold Im.iterPos;rw[h]
def Asc(s:ByteArray):Prop:=∀i:Nat,i<s.size->bt s i<128
def mkS(l:List UInt8):ByteArray:=⟨l.toArray⟩
def aM:List (ByteArray×ByteArray):=[(mkS [99,111,110,115,116],mkS [100,78]),(mkS [109,111,118],mkS [100,97]),(mkS [115,119,97,112],mkS [100,97]),
 (mkS [97,100,100],mkS [68,65,66]),(mkS [115,117,98],mkS [68,65,66]),(mkS [109,117,108],mkS [68,65,66]),(mkS [100,105,118],mkS [68,65,66]),(mkS [97,110,100],mkS [68,65,66]),(mkS [111,114],mkS [68,65,66]),(mkS [120,111,114],mkS [68,65,66]),(mkS [108,101,115,115],mkS [68,65,66]),(mkS [115,97,109,101],mkS [68,65,66]),
 (mkS [108,111,97,100],mkS [68,65]),(mkS [115,116,111,114,101],mkS [65,66]),(mkS [99,97,108,108],mkS [68,65,78]),(mkS [106,117,109,112],mkS [84]),(mkS [122,101,114,111],mkS [65,84]),(mkS [114,101,116],mkS [65])]
theorem km:aM.length=18:=rfl
def kY(op:Int):Bool:=decide (1<=op/\op<=18)
def shW(op:Int):ByteArray:=if kY op=Ir then(aM.getD (op-1).toNat (mkS [],mkS [])).1 else mkS []
def shF(op:Int):ByteArray:=if kY op=Ir then(aM.getD (op-1).toNat (mkS [],mkS [])).2 else mkS []
def Gl(w:Im):Prop:=(∀i,i<18->w.cell? ⟨0,i*2,Ih⟩=Ic (.string (aM.getD i (mkS [],mkS [])).1)/\w.cell? ⟨0,i*2+1,Ih⟩=Ic (.string (aM.getD i (mkS [],mkS [])).2))/\
 w.cell? ⟨1,0,Ih⟩=Ic (Ib Ie (-1))/\w.cell? ⟨1,1,Ih⟩=Ic (Ib Ie 0)/\2<=w.heap.size
theorem Gl.below{w w':Im}(h:Gl w)(hb:It w.heap.size w w'):Gl w':=by
 obtain⟨h1,h2,h3,h4⟩:=h;have hs:=hb.size;have c:∀b o,b<w.heap.size->w'.cell? ⟨b,o,Ih⟩=w.cell? ⟨b,o,Ih⟩:=λb o hl=>hb.cell (p:=⟨b,o,Ih⟩) hl;refine⟨λi hi=>?_,?_,?_,by omega⟩
 .rw[c 0 _ (by omega),c 0 _ (by omega)]
  exact h1 i hi
 .rw[c 1 _ (by omega)];exact h2
 .rw[c 1 _ (by omega)];exact h3
def kl(op:Int):Array Io:=#[.string (shW op),.string (shF op)]
theorem oZ{w:Im}{g o:Nat}{v:Io}(h:w.cell? ⟨g,o,Ih⟩=Ic v)(hg:g<w.heap.size)(x:Obj):(w.alloc x).cell? ⟨g,o,Ih⟩=Ic v:=by
 have hb:=(ae (Il w.heap.size w) x).cell (p:=⟨g,o,Ih⟩) hg;rw[hb];exact h
theorem Dx(op:Int)(w:Im)(hG:Gl w):I9 If 85 #[Ib Ie op] w λe w'=>e=Iv (IR #[IA #[.string (shW op),.string (shF op)],Iy (kY op)])/\It w.heap.size w w':=by
 rw[show #[Io.string (shW op),.string (shF op)]=kl op from rfl];by_cases h1:op<1
 .have e:kY op=Ik:=decide_eq_false (by omega)
  have e1:kl op=#[.string (mkS []),.string (mkS [])]:=by unfold kl shW shF;rw[e];rfl
  rw[e,e1];clear e e1;go_enter Tryz.func85,Tryz.ntmps85;go_wp2;exact IG (v:=IR #[IA #[.string (mkS []),.string (mkS [])],Iy Ik]) (by simp[Lg,Tryz.results85,go_sem];rfl) rfl ⟨rfl,ae (Il _ _) _⟩
 .by_cases h2:op>18
  .have e:kY op=Ik:=decide_eq_false (by omega)
   have e1:kl op=#[.string (mkS []),.string (mkS [])]:=by unfold kl shW shF;rw[e];rfl
   rw[e,e1];clear e e1;go_enter Tryz.func85,Tryz.ntmps85;go_wp2;exact IG (v:=IR #[IA #[.string (mkS []),.string (mkS [])],Iy Ik]) (by simp[Lg,Tryz.results85,go_sem];rfl) rfl ⟨rfl,ae (Il _ _) _⟩
  .have e:kY op=Ir:=decide_eq_true (by omega)
   obtain⟨i,rfl⟩:∃i:Nat,op=(i:Int)+1:=⟨(op-1).toNat,by omega⟩;have hi:i<18:=by omega
   have hi':(i:Int)<18:=by omega
   have ht:((i:Int)+1-1).toNat=i:=by omega
   obtain⟨c0,c1⟩:=hG.1 i hi;have e1:kl ((i:Int)+1)=#[.string (aM.getD i (mkS [],mkS [])).1,.string (aM.getD i (mkS [],mkS [])).2]:=by unfold kl shW shF;rw[e,ht];rfl
   rw[e,e1];obtain⟨x,hx⟩:∃x,x=(aM.getD i (mkS [],mkS [])).1:=⟨_,rfl⟩;obtain⟨y,hy⟩:∃y,y=(aM.getD i (mkS [],mkS [])).2:=⟨_,rfl⟩;rw[<-hx]at c0 ⊢;rw[<-hy]at c1 ⊢;have hz:0<w.heap.size:=by have:=hG.2.2.2;omega
   have d0:=oZ c0 hz;have d1:=oZ c1 hz;clear e e1 hx hy hG c0 c1 hz ht h1 h2;go_enter Tryz.func85,Tryz.ntmps85;go_wp2;exact IG (v:=IR #[IA #[.string x,.string y],Iy Ir]) (by simp[Lg,Tryz.results85,go_sem]) rfl ⟨rfl,ae (Il _ _) _⟩
def ez(c:Int):Nat:=if c=68\/c=100 then 1 else if c=65\/c=97 then 2 else 3
theorem g_(g:Nat)(c:Int)(w:Im):I9 If 86 #[Iq (Ic ⟨g,0,Ih⟩),.int .i32 c] w λe w'=>e=Iv (Iq (Ic ⟨g,ez c,Ih⟩))/\w=w':=by
 unfold ez;by_cases h1:c=68
 .subst h1
  go_enter Tryz.func86,Tryz.ntmps86;go_wp2;go_ret;exact⟨rfl,rfl⟩
 .by_cases h2:c=100
  .subst h2
   go_enter Tryz.func86,Tryz.ntmps86;go_wp2;go_ret;exact⟨rfl,rfl⟩
  .by_cases h3:c=65
   .subst h3
    go_enter Tryz.func86,Tryz.ntmps86;go_wp2;go_ret;exact⟨rfl,rfl⟩
   .by_cases h4:c=97
    .subst h4
     go_enter Tryz.func86,Tryz.ntmps86;go_wp2;go_ret;exact⟨rfl,rfl⟩
    .have e1:(c==68)=Ik:=beq_eq_false_iff_ne.mpr h1
     have e2:(c==100)=Ik:=beq_eq_false_iff_ne.mpr h2;have e3:(c==65)=Ik:=beq_eq_false_iff_ne.mpr h3;have e4:(c==97)=Ik:=beq_eq_false_iff_ne.mpr h4;rw[if_neg (by omega),if_neg (by omega)];clear h1 h2 h3 h4;go_enter Tryz.func86,Tryz.ntmps86;go_wp2;go_ret;exact⟨rfl,rfl⟩
theorem FJ(d:Nat)(w:Im)(a0 a1 a2 a3 a4 a5 b0 b1 b2 b3 b4 b5:Int) :
  (Jp (d+2) 49 (IA #[Ib Ie a0,Ib Ie a1,Ib Ie a2,Ib Ie a3,Ib Ie a4,Ib Ie a5]) (IA #[Ib Ie b0,Ib Ie b1,Ib Ie b2,Ib Ie b3,Ib Ie b4,Ib Ie b5])).run If w=.ok (a0==b0&&(a1==b1&&(a2==b2&&(a3==b3&&(a4==b4&&(a5==b5)))))) w:=by
 refine kF I6 (by kernel_rfl) ?_;refine dW (by rfl) (by go_simp;rfl) (by go_simp;rfl) (by go_simp) ?_;refine dW (by rfl) (by go_simp;rfl) (by go_simp;rfl) (by go_simp) ?_;refine dW (by rfl) (by go_simp;rfl) (by go_simp;rfl) (by go_simp) ?_;refine dW (by rfl) (by go_simp;rfl) (by go_simp;rfl) (by go_simp) ?_;refine dW (by rfl) (by go_simp;rfl) (by go_simp;rfl) (by go_simp) ?_;exact gH (by rfl) (by go_simp;rfl) (by go_simp;rfl) (by go_simp)
theorem GS(x y:In):(x.op==y.op&&(x.d==y.d&&(x.a==y.a&&(x.b==y.b&&(x.n==y.n&&(x.jt==y.jt))))))=decide (x=y):=by
 obtain⟨a0,a1,a2,a3,a4,a5⟩:=x;obtain⟨b0,b1,b2,b3,b4,b5⟩:=y;rw[L6];simp[In.mk.injEq]
theorem Hk(x y:In)(w:Im):(binOp .neq 49 (IA x.cells) (IA y.cells)).run If w=.ok (Iy (!decide (x=y))) w:=by
 have h:(Op.equal 49 (IA x.cells) (IA y.cells)).run If w=.ok (decide (x=y)) w:=by
  rw[<-GS];exact FJ 9998 w _ _ _ _ _ _ _ _ _ _ _ _
 simp only[binOp,IJ,h,I1,JO]
def In.zeroField(x:In)(c:Int):In:=
 if c=78 then { x with n:=0 }else if c=84 then { x with jt:=0 }else if ez c=1 then { x with d:=0 }else if ez c=2 then { x with a:=0 }else { x with b:=0 }
def mw(x:In)(f:ByteArray):Nat->In
 |0=>{ x with op:=0 }
 |k+1=>(mw x f k).zeroField (bt f k)
def ja(x:In)(f:ByteArray):In:=mw x f f.size
def In.get(x:In):Nat->Int
 |0=>x.op|1=>x.d|2=>x.a|3=>x.b|4=>x.n|_=>x.jt
theorem bq.get{w:Im}{g:Nat}{x:In}(h:bq w g x)(k:Nat)(hk:k<6):w.cell? ⟨g,k,Ih⟩=Ic (Ib Ie (x.get k)):=by
 rw[ah h]
 match k,hk with
 |0,_=>rfl
 |1,_=>rfl
 |2,_=>rfl
 |3,_=>rfl
 |4,_=>rfl
 |5,_=>rfl
theorem qQ(c:Int):ez c=1\/ez c=2\/ez c=3:=by
 unfold ez;by_cases h1:c=68\/c=100
 .rw[if_pos h1];exact .inl rfl
 .rw[if_neg h1]
  by_cases h2:c=65\/c=97
  .rw[if_pos h2];exact .inr (.inl rfl)
  .rw[if_neg h2];exact .inr (.inr rfl)
theorem nB(c:Int):ez c<6:=by have:=qQ c;omega
theorem bq.zero_n{w:Im}{g:Nat}{x:In}(h:bq w g x){c:Int}(hc:c=78):bq (w.setCell ⟨g,4,Ih⟩ (Ib Ie 0)) g (x.zeroField c):=by
 have:=fv h 4 (Ib Ie 0);unfold In.zeroField;rw[if_pos hc];exact this
theorem bq.zero_t{w:Im}{g:Nat}{x:In}(h:bq w g x){c:Int}(hc:c=84):bq (w.setCell ⟨g,5,Ih⟩ (Ib Ie 0)) g (x.zeroField c):=by
 have:=fv h 5 (Ib Ie 0);unfold In.zeroField;rw[if_neg (by omega),if_pos hc];exact this
theorem bq.zero_f{w:Im}{g:Nat}{x:In}(h:bq w g x){c:Int}(h1:c≠78)(h2:c≠84):bq (w.setCell ⟨g,ez c,Ih⟩ (Ib Ie 0)) g (x.zeroField c):=by
 have:=fv h (ez c) (Ib Ie 0);unfold In.zeroField;rw[if_neg h1,if_neg h2];rcases qQ c with e|e|e<;>rw[e]at this ⊢
 .exact this
 .exact this
 .exact this
theorem lP(x:In):x.cells.all (·.oneCell')=Ir:=by simp[In.cells,IH]
def In.zero:In:=⟨0,0,0,0,0,0⟩
def Gt(w:Im)(x:In)(f:ByteArray)(g:Nat)(k:Nat)(W:Im):Prop:=k<=f.size/\It w.heap.size w W/\bq W g (mw x f k)/\bq W (g+2) In.zero/\W.heap[g+3]?=Ic (.stringIter f k)
theorem jm{W:Im}{g b:Nat}{x:In}(h:bq W g x)(hne:g≠b)(s:ByteArray)(q:Nat):bq (World.setIter W b s q) g x:=by
 show(W.heap.setIfInBounds b (.stringIter s q))[g]?=_;rw[Kf (by omega)];exact h
theorem gE{W:Im}{b:Nat}{s:ByteArray}{k:Nat}(h:W.heap[b]?=Ic (.stringIter s k)){p:Addr}(hp:b≠p.block)(u:Io):(W.setCell p u).heap[b]?=Ic (.stringIter s k):=by
 rw[Ld W p u b hp];exact h
def zU(w:Im)(L:List Obj):Im:=L.foldl Im.alloc w
theorem ev(w:Im)(L:List Obj):It w.heap.size w (zU w L):=by
 induction L generalizing w with
 |nil=>exact Il _ _
 |cons o L ih=>exact af (ae (Il _ _) o) (ih (w.alloc o))
theorem eF(w:Im)(L:List Obj)(i:Nat)(o:Obj)(h:L[i]?=Ic o):(zU w L).heap[w.heap.size+i]?=Ic o:=by
 induction L generalizing w i with
 |nil=>simp at h
 |cons x L ih=>
  cases i with
  |zero=>
   obtain rfl:x=o:=by simpa using h
   exact((ev (w.alloc x) L).block _ (by simp)).trans (Iu w x)
  |succ i=>
   have:=ih (w.alloc x) i (by simpa using h);rw[show(w.alloc x).heap.size+i=w.heap.size+(i+1) by simp;omega]at this;exact this
theorem Dw(x:In)(s f:ByteArray)(hf:Asc f)(w:Im):I9 If 97 #[IA x.cells,IA #[.string s,.string f]] w λe w'=>e=Iv (IA (ja x f).cells)/\It w.heap.size w w':=by
 have HF:=MD hf;clear hf;obtain⟨r,hr⟩:=ME (ja x f);rw[<-hr];have HR:=MD hr;clear hr;go_enter Tryz.func97,Tryz.ntmps97;go_wp2;go_loopw [6] (λ_ wr=>∃k:Nat,aa (Gt w x f w.heap.size k wr)) (λ_ wr=>f.size-wr.iterPos (w.heap.size+3))
 case atStart=>exact⟨0,⟨⟨ID _,ev w [_,_,_,_],eF w [_,_,_,_] 0 _ rfl,eF w [_,_,_,_] 2 _ rfl,eF w [_,_,_,_] 3 _ rfl⟩⟩⟩
 case round=>
  obtain⟨k,HS⟩:=hrel;obtain⟨hk,hb,hx,hz,hi⟩:=HS.1;by_cases hlt:k<f.size
  .have ha:=HF.1 k hlt
   have hnx:=λty=>fW (P:=If) wr (w.heap.size+3) f k ty hi hlt ha;obtain⟨w2,hw2⟩:=ME (World.setIter wr (w.heap.size+3) f (k+1));have hi2:w2.heap[w.heap.size+3]?=Ic (.stringIter f (k+1)):=by rw[hw2];exact fj hi _
   have hx2:bq w2 w.heap.size (mw x f k):=by rw[hw2];exact jm hx (by omega) _ _
   have hz2:bq w2 (w.heap.size+2) In.zero:=by rw[hw2];exact jm hz (by omega) _ _
   have hb2:It w.heap.size w w2:=by rw[hw2];exact eB hb (by omega) _ _
   rw[<-hw2]at hnx;obtain⟨c,hc⟩:∃c:Int,c=bt f k:=⟨_,rfl⟩;have hre:mw x f (k+1)=(mw x f k).zeroField c:=by rw[hc];rfl
   rw[<-hc]at hnx;have HI0:=MD hi;clear hc hw2 hi hx hz hb ha HS;have HI:=MD hi2;have HX:=MD hx2;have HZ:=MD hz2;have HB:=MD hb2;have HRe:=MD hre;clear hi2 hx2 hz2 hb2 hre;by_cases c78:c=78
   .have HC:=MD c78
    subst c78;have g4:=HX.1.get 4 (by omega);have f4:=au HX.1 4;go_wp2;go_roundw
    case rel=>exact⟨k+1,⟨⟨hlt,HB.1.setCell (Iz _) _,by rw[HRe.1];exact HX.1.zero_n rfl,HZ.1.far (by simp) _,gE HI.1 (by simp) _⟩⟩⟩
    case measure=>rw[bd (gE HI.1 (by simp) _),bd HI0.1];omega
   .by_cases c84:c=84
    .subst c84
     have g5:=HX.1.get 5 (by omega);have f5:=au HX.1 5;go_wp2;go_roundw
     case rel=>exact⟨k+1,⟨⟨hlt,HB.1.setCell (Iz _) _,by rw[HRe.1];exact HX.1.zero_t rfl,HZ.1.far (by simp) _,gE HI.1 (by simp) _⟩⟩⟩
     case measure=>rw[bd (gE HI.1 (by simp) _),bd HI0.1];omega
    .have e1:(c==78)=Ik:=beq_eq_false_iff_ne.mpr c78
     have e2:(c==84)=Ik:=beq_eq_false_iff_ne.mpr c84;have HN1:=MD c78;have HN2:=MD c84;have gf:=HX.1.get (ez c) (nB c);have ff:=au HX.1 (ez c);clear c78 c84;go_wp2_with (go_at_call 86;refine(g_ _ _ _).mono ?_;rintro e w' ⟨rfl,rfl⟩);go_roundw
     case rel=>exact⟨k+1,⟨⟨hlt,HB.1.setCell (Iz _) _,by rw[HRe.1];exact HX.1.zero_f HN1.1 HN2.1,HZ.1.far (by simp) _,gE HI.1 (by simp) _⟩⟩⟩
     case measure=>rw[bd (gE HI.1 (by simp) _),bd HI0.1];omega
  .have hnx:=λty=>eC (P:=If) wr (w.heap.size+3) f k ty hi hlt
   obtain rfl:k=f.size:=by omega
   have hrr:mw x f f.size=r:=HR.1.symm;rw[hrr]at hx;have HX:=MD hx;have HZ:=MD hz;have HB:=MD hb;clear hx hz hb hi HS hrr;go_wp2_with (first
    |((with_reducible refine ai (N:=24) rfl ?_);refine II rfl 49 _ rfl w.heap.size rfl 49 r.cells (0,0) _ HX.1 I6 rfl bU ?_)
    |((with_reducible refine ap (t:=49) (p:=4) rfl ?_);refine I3 rfl 49 _ _ rfl (w.heap.size+2) r.cells rfl rfl 49 In.zero.cells HZ.1 bU rfl (lP r) ?_))
   exact IG (v:=IA r.cells) (IX rfl _ _ (w.heap.size+2) 49 r.cells (0,0) _ rfl (JX wr (w.heap.size+2) _ _ 49 _ HZ.1) I6 rfl bU) rfl ⟨rfl,Jl HB.1 (by omega) _⟩
end Go.Proofs.YtlinbehijfcelaaGreatDoor.Top
