/- Walks of the program, and what it computes, told plainly. No condition. (URA RE UP UR) -/
import Derived.Below
import Derived.Deep.Draws
import Derived.Deep.AppendLies
import Derived.Maps.AppendAt
import Derived.OwnWalk
import Derived.Laws.BytesArg
import Derived.Laws.MakeOwn
import Derived.Laws.OwnMore
import Derived.Deep.OwnRows
import Derived.Tactics
import Derived.Lib.ConvBytes
import Derived.Laws.Slices
import Derived.WalkKit
import Derived.KernelRfl
import Derived.RowKit3
import Derived.Deep.LoopGhost
import Derived.Deep.QuietTactic
import Derived.BigQuiet
import Derived.WideLaws
import Derived.Deep.DeepCutAuto
import Derived.Deep.CutBlock
import Derived.Deep.RegionHeld3
import Derived.Laws.Rows
import Derived.Lib.AppendStr
import Derived.ArgAppend
import Derived.Laws.IdiomCopy
import Derived.RowKit
import Derived.OrdersHeld
import Derived.Laws.BitsLemmas
import Derived.Laws.StructEq
import Derived.Test.YtlinbehijfcelaaGreatDoorProg
import Derived.Deep.WholeRow
import Derived.Laws.CopyOwn
import Derived.Carry
import Derived.ChangeKeysEq
import Derived.Laws.RangeAny
import Derived.Deep.MidRow
import Derived.Laws.Tables
import Derived.StillTailTactics
import Derived.Test.YtlinbehijfcelaaGreatDoorPA
import Derived.Test.YtlinbehijfcelaaGreatDoorPB
import Derived.Test.YtlinbehijfcelaaGreatDoorPC
import Derived.Test.YtlinbehijfcelaaGreatDoorPD
import Derived.Test.YtlinbehijfcelaaGreatDoorPE
import Derived.Test.YtlinbehijfcelaaGreatDoorPF
import Derived.Test.YtlinbehijfcelaaGreatDoorPG
set_option linter.unusedVariables false
set_option linter.unusedSimpArgs false
set_option linter.unusedSectionVars false
set_option maxHeartbeats 8000000
set_option maxRecDepth 100000
open Go renaming Calls->I9,Operand->Lf,Program->Jn,TypeId->Je,Value->Io,World->Im,bodyPost_ret->IG,bytes->KU,execOp->JJ,getD_set_ne->IL,heap_alloc_last->Iu,loadVar->Le,results_cell_row->IX,setRow_heap->JX,undef->KG,wpStill_nil->Mc,yielded->KH
open Bool renaming and_eq_true->Js,false->Ik,noConfusion->Ix,or_eq_true->Mb,true->Ir
open List renaming all_eq_true->Jd,drop_eq_getElem_cons->Jc,drop_of_length_le->Ju,ext_getElem?->JN,getD_eq_getElem?_getD->Ij,getElem?_eq_getElem->Ig,getElem?_eq_none->I0,getElem?_eq_some_iff->Ip,getElem?_map->IK,getElem?_of_mem->Kb,getElem?_range->KW,getElem?_replicate->Ku,getElem?_set->KD,length_map->Jb,length_replicate->JP,length_set->Jq,map_cons->Jt,map_nil->La,map_toArray->Mt,mem_cons->I7,mem_of_getElem?->Iw,mem_range->Kq,mem_singleton->IS,pairwise_iff_getElem->Ma,range->Jy,replicate->IF,size_toArray->I8
open Option renaming getD_some->JL,map_eq_some_iff->Ks,map_some->Mu,none->Ih,some->Ic
open Go.Region renaming ready->JA,wanted->Jk
open Option.some renaming inj->Ii
open Array renaming getElem?_eq_some_iff->IB,replicate->Lp
open Go.Value renaming agg->IA,bool->Iy,cells->Mz,int->Ib,oneCell'->IH,pointer->Iq,slice->Ia
open Go.Builtin renaming append_->Kj
open Prod.mk renaming injEq->IM
open Nat renaming le_mul_of_pos_right->Mk,le_refl->Iz,le_trans->IT,lt_irrefl->Mq,mul_one->JQ,not_lt_zero->LG,zero_le->ID
open Go.Sem renaming run_bind->IJ,run_pure->JO
open Go.Result renaming andThen->Jf,andThen_ok->I1
open Go.Addr renaming add->Mo
open Go.IntKind renaming i64->Ie
open Go.Obj renaming cells->Is
open Go.Proofs.Tryz renaming prog->If,underlying135->IN,underlying151->MB,underlying49->I6
open Go.Instr renaming sureAddr->Mg
open Go.Ending renaming returned->Iv
open Go.RowKit renaming Below->It,intOf->Jj
open And renaming intro->IE
open Go.RowKit.Below renaming refl->Il
open Go.World renaming block_lt_of_cell?->J8
open Int renaming toNat_natCast->IC
namespace Go.Proofs.YtlinbehijfcelaaGreatDoor.Top
open Go.RowKit Go.Proofs.YtlinbehijfcelaaGreatDoorW.PrintWords Go.Proofs.YtlinbehijfcelaaGreatDoorW.PrintLast
section
section
variable{P:Jn}{ops:Array Oper}{Q:Exit->Act->Im->Prop}{σ:Type}
theorem pE{aF:Act}{o:Oper}{w:Im}{G G':Io->Im->Prop}(h:gQ P ops aF o w G)(hg:∀v w',G v w'->G' v w'):gQ P ops aF o w G':=by
 rcases h with⟨h1,h2⟩|⟨h1,h2⟩
 .exact .inl ⟨h1,hg _ _ h2⟩
 .refine .inr ⟨h1,?_⟩
  generalize(JJ aF.eval o).run P w=r at h2 ⊢;cases r with
  |ok n w'=>
   cases n with
   |value v=>exact hg _ _ h2
   |skip=>exact hg _ _ h2
   |enter f args=>exact I9.mono h2 (λe w'' ⟨v,q1,q2⟩=>⟨v,q1,hg _ _ q2⟩)
   |_=>exact h2
  |halt x w'=>exact h2
def ep(es:List Nat)(L:Array Bool):List Bool:=es.map λe=>L.getD e Ik
def qu(ops:Array Oper)(es:List Nat)(j:Nat)(bs:List Bool):Bool:=
 (es.zip bs).all λp=>if p.1=j then !p.2 else if p.2=Ir then !(Region.reachB .any ops j ops.size p.1)else !(Region.reachB .any ops p.1 ops.size j)
def esB(ops:Array Oper)(es:List Nat):Bool:=es.all (λe=>decide (e<ops.size))&&decide es.Nodup
def FI(ops:Array Oper)(j:Nat)(ts:List Tmp):Bool:=
 ts.all λt=>(Jy ops.size).all λi=>((ops[i]?).map (·.dst) != Ic (Ic t))||i==j||Region.reachB .any ops j ops.size i
theorem yU{es:List Nat}{L:Array Bool}{j:Nat}(hL:L.size=ops.size)(he:esB ops es=Ir)(hc:bH .any ops L)(hr:j∈JA .any ops L):qu ops es j (ep es L)=Ir:=by
 unfold qu ep;rw[Jd];intro p hp;have h1:=List.of_mem_zip hp;obtain⟨i,hi⟩:=Kb hp;rw[List.getElem?_zip_eq_some]at hi;obtain⟨hi1,hi2⟩:=hi;rw[IK,hi1]at hi2;have hp2:L.getD p.1 Ik=p.2:=Ii hi2;unfold esB at he;rw[Js,Jd]at he;have hlt:p.1<ops.size:=of_decide_eq_true (he.1 p.1 h1.1);split
 .rename_i e
  rw[e,f_ hr]at hp2;rw[<-hp2];rfl
 .split
  .rename_i e
   cases hq:Region.reachB .any ops j ops.size p.1 with
   |false=>rfl
   |true=>rw[jC hc hr hq]at hp2;rw[<-hp2]at e;exact absurd e (by simp)
  .rename_i e
   cases hq:Region.reachB .any ops p.1 ops.size j with
   |false=>rfl
   |true=>rw[kH hc hr p.1 hq (by omega)]at hp2;exact absurd hp2.symm e
theorem vz{es:List Nat}{L:Array Bool}{j:Nat}(h:es.contains j=Ik):ep es (L.setIfInBounds j Ir)=ep es L:=by
 unfold ep;apply List.map_congr_left;intro e he;refine IL Ik (λq=>?_);subst q;have:es.contains j=Ir:=by simpa using he
 rw[this]at h;exact absurd h (by simp)
theorem Ch{es:List Nat}{L:Array Bool}{j k:Nat}(hL:L.size=ops.size)(he:esB ops es=Ir)(hk:es[k]?=Ic j):ep es (L.setIfInBounds j Ir)=(ep es L).set k Ir:=by
 unfold esB at he;rw[Js,Jd,decide_eq_true_eq]at he;obtain⟨h1,h2⟩:=he;have hlt:j<ops.size:=of_decide_eq_true (h1 j (Iw hk));unfold ep;apply JN;intro i;rw[IK,KD,Jb,IK];by_cases e:k=i
 .subst e
  rw[if_pos rfl,if_pos (Ip.1 hk).1,hk];simp[hL,hlt]
 .rw[if_neg e]
  cases hq:es[i]? with
  |none=>rfl
  |some x=>
   simp only[Mu];congr 1;refine IL Ik (λq=>?_);subst q;obtain⟨a1,a2⟩:=Ip.1 hk;obtain⟨b1,b2⟩:=Ip.1 hq;have hp:=Ma.1 h2;rcases Nat.lt_or_gt_of_ne e with q|q
   .exact hp k i a1 b1 q (a2.trans b2.symm)
   .exact hp i k b1 a1 q (b2.trans a2.symm)
theorem bm{id:Nat}{a0:Act}{w:Im}(es:List Nat)(vals:σ->List (Tmp×Io))(I:List Bool->σ->Im->Prop)(s0:σ)(hm:P.follows .mixedOrders=Ir)(hd:mH ops=Ir)(hes:esB ops es=Ir)
  (hv:∀s,((vals s).map (·.1)).all (λt=>ops.any λo=>o.dst==Ic t)=Ir)
  (h:∀aF:σ->Act,(λs=>bk a0 (vals s))=aF->
   (∀j o,ops[j]?=Ic o->es.contains j=Ik->∀s W bs,bs.length=es.length->qu ops es j bs=Ir->I bs s W->gQ P ops (aF s) o W (λv w'=>(aF s).put o.dst v=aF s/\I bs s w'))/\
   (∀k j o,es[k]?=Ic j->ops[j]?=Ic o->∀s W bs,bs.length=es.length->qu ops es j bs=Ir->I bs s W->gQ P ops (aF s) o W (λv w'=>∃s' ps,(aF s').put o.dst v=aF s'/\aF s'=bk (aF s) ps/\FI ops j (ps.map (·.1))=Ir/\I (bs.set k Ir) s' w'))/\
   I (es.map λ_=>Ik) s0 w.drew/\(∀s w',I (es.map λ_=>Ir) s w'->Q .normal (aF s) w')):(Code.region id ops Ir).wp P Q a0 w:=by
 refine ku vals (λs L W=>L.size=ops.size/\I (ep es L) s W) s0 hm hd hv ?_;intro aF haF;obtain⟨h1,h2,h3,h4⟩:=h aF haF;refine⟨λj o ho s L W hc hr hS=>?_,⟨by simp,?_⟩,λs L W hall hS=>?_⟩
 .obtain⟨hL,hI⟩:=hS
  have hok:=yU hL hes hc hr;have hlen:(ep es L).length=es.length:=by unfold ep;rw[Jb]
  cases hct:es.contains j with
  |false=>
   refine pE (h1 j o ho hct s W _ hlen hok hI) (λv w' hq=>de hq.1 ⟨by simpa using hL,?_⟩);rw[vz hct];exact hq.2
  |true=>
   obtain⟨k,hk⟩:=Kb (show j∈es by simpa using hct);refine pE (h2 k j o hk ho s W _ hlen hok hI) (λv w' hq=>?_);obtain⟨s',ps,q1,q2,q3,q4⟩:=hq;refine⟨s',q1,λt ht=>?_,by simpa using hL,?_⟩
   .obtain⟨i,o',hi,hdst,hli⟩:=ht
    rw[q2];refine(jc ps (aF s) (λp hp e=>?_)).symm;unfold FI at q3;rw[Jd]at q3;have h5:=q3 p.1 (List.mem_map_of_mem hp);rw[Jd]at h5;have h6:=h5 i (by rw[Kq];exact(IB.1 hi).1);rw[Mb,Mb,hi]at h6;simp only[Mu,hdst,e]at h6;rcases h6 with(h6|h6)|h6
    .simp at h6
    .rw[beq_iff_eq]at h6
     rw[h6,f_ hr]at hli;exact absurd hli (by simp)
    .rw[jC hc hr h6]at hli
     exact absurd hli (by simp)
   .rw[Ch hL hes hk]
    exact q4
 .have:ep es (Lp ops.size Ik)=es.map λ_=>Ik:=by
   unfold ep;apply List.map_congr_left;intro e he;rw[getD_replicate_false]
  rw[this];exact h3
 .have:ep es L=es.map λ_=>Ir:=by
   unfold ep;apply List.map_congr_left;intro e he;unfold esB at hes;rw[Js,Jd]at hes;exact hall e (of_decide_eq_true (hes.1 e he))
  have hI:=hS.2;rw[this]at hI;exact h4 s W hI
end
theorem bh{ops:Array Oper}{es:List Nat}{j:Nat}{bs:List Bool}{p:Prop}(h:qu ops es j bs=Ir)(k:qu ops es j bs=Ik):p:=by rw[h]at k;exact absurd k (by simp)
theorem kK{P:Jn}{α:Type}(d:Kd α)(base:Nat)(t ty e:Je)(z:Io)(KU:Nat){W:Im}
  (ht:P.underlying t=Ic (.slice e)) (hinfo:(P.info? e).map (λi=>(i.zero,i.size,i.bytes))=Ic (Ic z,d.sz,KU)) (hz:z.cells.size=d.sz) (hs0:0<d.sz) (hb0:0<KU)
  (v:Io) (xs:List α) (p:α) (cs:List Io) (ok okp:Nat->Prop) (ad:Addr) (hbox:∀j u,cs[j]?=Ic u->W.cell? (ad.add j)=Ic u)
  (hp:d.M W base okp p cs) (hokp:∀k,okp k->ok k/\Ic k≠v.ownBlock) (hfresh:∀k,W.heap.size<=k->ok k)
  (HO:d.R e W base ok v xs) (hbase:base<=W.heap.size) (hl:(xs.length+1)*KU<=140737488355328) :
  ∃v1 w1,(Kj #[t,t] ty #[v,Ia (Ic ad) 1 1]).run P W=.ok v1 w1/\d.R e w1 base ok v1 (xs++[p])/\W.grownBy w1 v.ownBlock/\(v1.ownBlock=v.ownBlock\/∃b,v1.ownBlock=Ic b/\W.heap.size<=b):=by
 obtain⟨i0,hi,hzz⟩:=Ks.1 hinfo;simp only[IM]at hzz;obtain⟨hz0,hz1,hz2⟩:=hzz;have hlen:xs.length+1<=140737488355328:=IT (Mk _ hb0) hl;obtain⟨h0,inner,hown,hr⟩:=HO;obtain⟨v1,w1,hrun,hown1,hg,_,hat⟩:=run_append_own_at (P:=P) W base t ty e i0 z d.sz KU ht hi hz0 hz1 hz2 hz hs0 v xs.length inner hown ad 1 1 cs (by rw[d.K_len (d.K_of_M hp)];simp)
  hbox (d.K_one (d.K_of_M hp)) (by simp only[maxLen];omega) hl hbase
 have hat':v1.ownBlock=v.ownBlock\/∃b,v1.ownBlock=Ic b/\W.heap.size<=b:=by
  rcases hat with hat|hat
  .exact .inl hat
  .exact .inr ⟨_,hat,Iz _⟩
 exact⟨v1,w1,hrun,Kd.R_appended h0 hr hp hokp hfresh hown1 hg hat',hg,hat'⟩
theorem j_{P:Jn}{a:Act}{o:Oper}{W w1:Im}{s x:Lf}{t:Je}{v v1 b:Io}(ho:o.op=.call { callee:=.builtin .append,args:=#[s,x],argTypes:=#[t,t] })(hs:a.eval s=v)(hx:a.eval x=b)(hrun:(Kj #[t,t] o.type #[v,b]).run P W=.ok v1 w1):(JJ a.eval o).run P W=.ok (.value v1) w1:=by
 unfold JJ;simp only[ho,resolve,invoke,builtin,IJ,JO,I1,Mt,Jt,La,hs,hx,hrun]
theorem lY{W:Im}{g t:Nat}{cs:List Io}(h:W.heap[g]?=Ic (.cells cs.toArray t (0,0))):∀j u,cs[j]?=Ic u->W.cell? ((⟨g,0,Ih⟩:Addr).add j)=Ic u:=by
 intro j u hu;have:(⟨g,0,Ih⟩:Addr).add j=⟨g,j,Ih⟩:=by unfold Mo;by_cases h0:j=0<;>simp[h0]
 rw[this,aq h];exact hu
theorem mI{aF:Act}{o:Oper}(x y:Int)(W:Im){u:Lf}(ho:o.op=.buildSlice 143 1 #[(0,u)])(hu:aF.eval u=IA #[Ib Ie x,Ib Ie y]):(JJ aF.eval o).run If W=.ok (.value (Ia (Ic ⟨W.heap.size,0,Ih⟩) 1 1)) (W.alloc (Is #[Ib Ie x,Ib Ie y] 135)):=by
 unfold JJ;simp only[ho,Mt,Jt,La,hu]
 go_simp
theorem tv{ops:Array Oper}{es:List Nat}{j:Nat}{bs:List Bool}(h:qu ops es j bs=Ir)(k:Nat){e:Nat}{b:Bool}(he:es[k]?=Ic e)(hb:bs[k]?=Ic b):(if e=j then !b else if b=Ir then !(Region.reachB .any ops j ops.size e)else !(Region.reachB .any ops e ops.size j))=Ir:=by
 unfold qu at h;rw[Jd]at h;exact h (e,b) (Iw (List.getElem?_zip_eq_some.2 ⟨he,hb⟩))
theorem okT{ops:Array Oper}{es:List Nat}{j:Nat}{bs:List Bool}(h:qu ops es j bs=Ir)(k:Nat){e:Nat}{b:Bool}(he:es[k]?=Ic e)(hb:bs[k]?=Ic b)(hne:(e==j)=Ik)(hr:Region.reachB .any ops e ops.size j=Ir):b=Ir:=by
 have:=tv h k he hb;rw[if_neg (by simpa using hne)]at this;cases b with
 |true=>rfl
 |false=>simp[hr]at this
theorem okF{ops:Array Oper}{es:List Nat}{j:Nat}{bs:List Bool}(h:qu ops es j bs=Ir)(k:Nat){e:Nat}{b:Bool}(he:es[k]?=Ic e)(hb:bs[k]?=Ic b)(hne:(e==j)=Ik)(hr:Region.reachB .any ops j ops.size e=Ir):b=Ik:=by
 have:=tv h k he hb;rw[if_neg (by simpa using hne)]at this;cases b with
 |false=>rfl
 |true=>simp[hr]at this
theorem okS{ops:Array Oper}{es:List Nat}{j:Nat}{bs:List Bool}(h:qu ops es j bs=Ir)(k:Nat){b:Bool}(he:es[k]?=Ic j)(hb:bs[k]?=Ic b):b=Ik:=by
 have:=tv h k he hb;rw[if_pos rfl]at this;simpa using this
theorem it{bs:List Bool}(h:bs.length=2):∃a b,bs=[a,b]:=by
 rcases bs with _|⟨a,_|⟨b,_|⟨c,r⟩⟩⟩<;>simp at h
 exact⟨_,_,rfl⟩
theorem rG{bs:List Bool}(h:bs.length=3):∃a b c,bs=[a,b,c]:=by
 rcases bs with _|⟨a,bs⟩
 .simp at h
 .obtain⟨b,c,rfl⟩:=it (by simpa using h)
  exact⟨_,_,_,rfl⟩
theorem BV{bs:List Bool}(h:bs.length=4):∃a b c d,bs=[a,b,c,d]:=by
 rcases bs with _|⟨a,bs⟩
 .simp at h
 .obtain⟨b,c,d,rfl⟩:=rG (by simpa using h)
  exact⟨_,_,_,_,rfl⟩
theorem Hn{bs:List Bool}(h:bs.length=5):∃a b c d e,bs=[a,b,c,d,e]:=by
 rcases bs with _|⟨a,bs⟩
 .simp at h
 .obtain⟨b,c,d,e,rfl⟩:=BV (by simpa using h)
  exact⟨_,_,_,_,_,rfl⟩
theorem mx{bs:List Bool}(h:bs.length=6):∃a b c d e f,bs=[a,b,c,d,e,f]:=by
 rcases bs with _|⟨a,bs⟩
 .simp at h
 .obtain⟨b,c,d,e,f,rfl⟩:=Hn (by simpa using h)
  exact⟨_,_,_,_,_,_,rfl⟩
theorem qR{aF:Act}{p:Oper}{x y:Lf}{t:Je}{s u:Src}(hp:p.op=.binOp .neq 135 x y t)(hx:aF.eval x=IA #[Ib Ie s.kind,Ib Ie s.n])(hy:aF.eval y=IA #[Ib Ie u.kind,Ib Ie u.n])(w:Im):(JJ aF.eval p).run If w=.ok (.value (Iy (!decide (s=u)))) w:=by
 have hk:If.eqGuardType If.depth 135=Ik:=by kernel_rfl
 have h1:(eqGuard .neq 135 x y (IA #[Ib Ie s.kind,Ib Ie s.n]) (IA #[Ib Ie u.kind,Ib Ie u.n])).run If w=.ok () w:=by
  simp[eqGuard,run_program,hk]
 unfold JJ;simp only[hp,hx,hy,IJ,h1,GN,I1,JO]
theorem aY{P:Jn}{W:Im}{g ty:Nat}{cs:Array Io}{fr:Nat×Nat}{t:Je}{d:TypeDesc}(hg:W.heap[g]?=Ic (.cells cs t fr))(hu:P.underlying ty=Ic d)(hd:(match d with|.struct _|.array _ _=>Ir|_=>Ik)=Ir)(hi:(P.info? ty).map (·.size)=Ic cs.size):(Le ty ⟨g,0,Ih⟩).run P W=.ok (IA cs) W:=run_loadVar_row W g t ty cs fr d hg hu hd hi
theorem zV(g n:Nat):(⟨g,0,Ih⟩:Addr).add n=⟨g,n,Ih⟩:=by unfold Mo;by_cases h0:n=0<;>simp[h0]
theorem kE{P:Jn}{a:Act}{o:Oper}{w:Im}(t:Je)(parts:Array (Nat×Lf))(ho:o.op=.build t parts)(L:List (Nat×Io))(cells:Array Io)(hL0:(parts.toList.map λp=>(p.1,a.eval p.2))=L)(hb:P.built t L=Ic cells):(JJ a.eval o).run P w=.ok (.value (IA cells)) w:=by
 have hL:(parts.map λ(i,x)=>(i,a.eval x)).toList=L:=by rw[Array.toList_map];exact hL0
 unfold JJ;simp only[ho,IJ,run_build w t _ cells (by rw[hL];exact hb),I1,JO]
theorem kU{P:Jn}{a:Act}{o:Oper}{W:Im}(ty:Je)(x y:Lf)(ho:o.op=.store ty x y)(g i:Nat)(vs:List Io)
  (hx:a.eval x=Iq (Ic ⟨g,i,Ih⟩)) (hy:a.eval y=IA vs.toArray) (t:Nat) (L L':List Io) (hg:W.heap[g]?=Ic (.cells L.toArray t (0,0))) (hi:(P.info? ty).map (·.size)=Ic vs.length) (hl:i+vs.length<=L.length) (h1:∀v∈vs,v.oneCell'=Ir) (hL:L.take i++vs++L.drop (i+vs.length)=L') :
  ∃W',(JJ a.eval o).run P W=.ok .skip W'/\W'.heap[g]?=Ic (.cells L'.toArray t (0,0))/\Fr (λk=>k=g) W W':=by
 have hr:=run_storeCells_at P g i t vs 0 L.toArray W hg (by simpa using hl) h1;simp only[Nat.add_zero]at hr;refine⟨W.setRow g (L.take i++vs++L.drop (i+vs.length)).toArray,?_,?_,Fr.row (S:=λk=>k=g) rfl _⟩
 .unfold JJ
  cases hq:P.info? ty with
  |none=>simp[hq]at hi
  |some q=>
   have hs:q.size=vs.length:=by simpa[hq]using hi
   simp[ho,hx,hy,Instr.storeAt,Mg,storeVar,sizeOf,typeInfo,hq,hs,Mz,IJ,Jf,hr]
 .rw[hL]
  exact JX W g _ _ t _ hg
theorem yB{P:Jn}{ops:Array Oper}{aF:Act}{o:Oper}{w w':Im}{G:Io->Im->Prop}(hgd:Jk o (KH ops aF.tmps)=Ir)(hrun:(JJ aF.eval o).run P w=.ok .skip w')(hG:G KG w'):gQ P ops aF o w G:=by
 refine .inr ⟨hgd,?_⟩;rw[hrun];exact hG
theorem bC{P:Jn}{ops:Array Oper}{aF:Act}{o:Oper}{W:Im}{G:Io->Im->Prop}(hgd:Jk o (KH ops aF.tmps)=Ir)(ty:Je)(x y:Lf)(ho:o.op=.store ty x y)(g i:Nat)(vs:List Io)
  (hx:aF.eval x=Iq (Ic ⟨g,i,Ih⟩)) (hy:aF.eval y=IA vs.toArray) (t:Nat) (L L':List Io) (hg:W.heap[g]?=Ic (.cells L.toArray t (0,0))) (hi:(P.info? ty).map (·.size)=Ic vs.length) (hl:i+vs.length<=L.length) (h1:∀v∈vs,v.oneCell'=Ir) (hL:L.take i++vs++L.drop (i+vs.length)=L')
  (h:∀W',W'.heap[g]?=Ic (.cells L'.toArray t (0,0))->Fr (λk=>k=g) W W'->G KG W'):gQ P ops aF o W G:=by
 obtain⟨W',q1,q2,q3⟩:=kU (P:=P) (a:=aF) (o:=o) (W:=W) ty x y ho g i vs hx hy t L L' hg hi hl h1 hL;exact yB hgd q1 (h W' q2 q3)
theorem ld{P:Jn}{ops:Array Oper}{aF:Act}{o:Oper}{w:Im}{G:Io->Im->Prop}(hgd:Jk o (KH ops aF.tmps)=Ir){f:FuncId}{fn:Func}{x:Lf}{xs:Array Lf}{ts:Array Je}{caps:Array Io}(hf:P.funcs[f]?=Ic fn)(hname:(fn.name == "runtime.NumGoroutine")=Ik)(hb:fn.body.isSome=Ir)(hx:aF.eval x=.func (.func f) #[] caps)(args:Array Io)
  (hop:o.op=.call { callee:=.value x,args:=xs,argTypes:=ts }) (hargs:xs.toList.map aF.eval++caps.toList=args.toList)
  (h:I9 P f args w λe w'=>∃v,e=Iv v/\G v w'):gQ P ops aF o w G:=by
 refine .inr ⟨hgd,?_⟩;have hargs':xs.map aF.eval++caps=args:=by apply Array.toList_inj.1;simpa using hargs
 have he:=tP hf hname hb args w;have hrun:(JJ aF.eval o).run P w=.ok (.enter f args) w:=by
  unfold JJ;simp[hop,resolve,Deferred.ofValue,hx,invoke,hargs',he]
 rw[hrun];exact h
end
def Six(W:Im)(g:Nat)(L:List Int):Prop:=L.length=6/\W.heap[g]?=Ic (.cells (L.map (Ib .i64)).toArray 49 (0,0))
theorem Six.cell{W:Im}{g:Nat}{L:List Int}(h:Six W g L)(i:Nat)(hi:i<6):∃n,W.cell? ⟨g,i,Ih⟩=Ic (Ib Ie n):=by
 rw[aq h.2,IK,Ig (by rw[h.1];exact hi)];exact⟨_,rfl⟩
theorem Six.put{W:Im}{g:Nat}{L:List Int}(h:Six W g L)(i:Nat)(n:Int):Six (W.setCell ⟨g,i,Ih⟩ (Ib Ie n)) g (L.set i n):=⟨by rw[Jq];exact h.1,by rw[List.map_set];exact aR h.2 i _⟩
structure tY(w W:Im)(x:In)(g g3:Nat)(L:List Int):Prop where
 b:It w.heap.size w W
 x:W.heap[g]?=Ic (.cells #[Ib Ie x.op,Ib Ie x.d,Ib Ie x.a,Ib Ie x.b,Ib Ie x.n,Ib Ie x.jt] 49 (0,0))
 r:∃L,Six W (g+1) L
 o:Six W g3 L
theorem tY.put{w W:Im}{x:In}{g g3:Nat}{L:List Int}(h:tY w W x g g3 L)(hg:w.heap.size=g/\g+1+1=g3)(i:Nat)(n:Int):tY w (W.setCell ⟨g3,i,Ih⟩ (Ib Ie n)) x g g3 (L.set i n):=by
 obtain⟨hg,hg3⟩:=hg;have h3:=h.o;obtain⟨L2,h4⟩:=h.r;exact⟨h.b.setCell (by show w.heap.size<=g3;omega) _,bp h.x (by show g≠g3;omega) _,⟨L2,h4.1,bp h4.2 (by show g+1≠g3;omega) _⟩,h3.put i n⟩
theorem pI{L:List Int}(h:L.length=6):(If.info? 49).map (·.size)=Ic (L.map (Ib .i64)).toArray.size:=by rw[I8,Jb,h];exact bU
def BIs(c:Bool)(P:Prop):Prop:=c=Ir↔P
def ip(x:In):List Int:=
 let L1:=if x.op=1\/x.op=15 then [x.op,0,0,0,0,0].set 4 x.n else [x.op,0,0,0,0,0]
 let L2:=if x.op=16\/x.op=17 then L1.set 5 x.jt else L1
 let L3:=if x.op<=13\/x.op=15 then L2.set 1 x.d else L2
 let L4:=if x.op≠1/\x.op≠16 then L3.set 2 x.a else L3
 if(4<=x.op/\x.op<=12)\/x.op=14 then L4.set 3 x.b else L4
theorem BN(x:In):(ip x).length=6:=by
 unfold ip;simp only
 repeat' split
 all_goals simp
theorem BH(x:In)(h:1<=x.op/\x.op<=18)(w:Im):I9 If 71 #[IA x.cells] w λe w'=>e=Iv (IA ((ip x).map (Ib .i64)).toArray)/\It w.heap.size w w':=by
 obtain⟨R,hR⟩:=ME (ip x);rw[<-hR];have HRe:=MD hR;clear hR;obtain⟨op,xd,xa,xb,xn,xt⟩:=x;simp only at h;obtain⟨h1,h18⟩:=h;rw[kz];obtain⟨g,hg⟩:=MF w.heap.size;obtain⟨g3,hg3⟩:=MF (g+1+1);have HG:=MD (IE hg hg3);go_enter Tryz.func71,Tryz.ntmps71;go_upto_region 2 with fail
 obtain⟨w1,hw1⟩:∃w1,w1=((w.alloc (Is #[Ib Ie op,Ib Ie xd,Ib Ie xa,Ib Ie xb,Ib Ie xn,Ib Ie xt] 49)).alloc (Is #[Ib Ie 0,Ib Ie 0,Ib Ie 0,Ib Ie 0,Ib Ie 0,Ib Ie 0] 49)).alloc (Is #[Ib Ie op,Ib Ie 0,Ib Ie 0,Ib Ie 0,Ib Ie 0,Ib Ie 0] 49):=⟨_,rfl⟩;have HS:=MD (show tY w w1 ⟨op,xd,xa,xb,xn,xt⟩ g g3 [op,0,0,0,0,0] by
  obtain⟨b1,b2,b3,b4⟩:=dh (w:=w) (w1:=w1) (by rw[hw1];exact Il _ _);rw[hg]at b1 b2 b3;rw[show g+2=g3 from hg3]at b3;exact⟨b4,b1,⟨[0,0,0,0,0,0],rfl,b2⟩,⟨rfl,b3⟩⟩)
 refine ar (show _=w1 from hw1.symm) ?_;clear hw1;have c0:=(show w1.cell? ⟨g,0,Ih⟩=Ic (Ib Ie op) by rw[ah HS.1.x];rfl);clear hg hg3;go_cut [14]from 7 to 14 (λv wx=>∃c:Bool,v=Iy c/\aa (BIs c (op=1\/op=15))/\wx=w1)
 case first=>
  by_cases h20:op=1
  .have q1:(op==1)=Ir:=beq_iff_eq.mpr (by omega)
   have HI:=MD (show BIs Ir (op=1\/op=15)from⟨λe=>by first|omega|exact absurd e (by decide),λe=>by first|rfl|omega⟩);clear h1 h18 h20;go_wp2;go_meet
   case rel=>exact⟨_,rfl,HI,rfl⟩
  .by_cases h21:op=15
   .have q1:(op==1)=Ik:=beq_eq_false_iff_ne.mpr (by omega)
    have q15:(op==15)=Ir:=beq_iff_eq.mpr (by omega);have HI:=MD (show BIs Ir (op=1\/op=15)from⟨λe=>by first|omega|exact absurd e (by decide),λe=>by first|rfl|omega⟩);clear h1 h18 h20 h21;go_wp2;go_meet
    case rel=>exact⟨_,rfl,HI,rfl⟩
   .have q1:(op==1)=Ik:=beq_eq_false_iff_ne.mpr (by omega)
    have q15:(op==15)=Ik:=beq_eq_false_iff_ne.mpr (by omega);have HI:=MD (show BIs Ik (op=1\/op=15)from⟨λe=>by first|omega|exact absurd e (by decide),λe=>by first|rfl|omega⟩);clear h1 h18 h20 h21;go_wp2;go_meet
    case rel=>exact⟨_,rfl,HI,rfl⟩
 case rest=>
  obtain⟨c,rfl,HI,rfl⟩:=hcut;obtain⟨L1,hL⟩:=ME ((if op=1\/op=15 then [op,0,0,0,0,0].set 4 xn else [op,0,0,0,0,0]));have HL1:=MD hL;clear hL;go_upto_if 14 with fail
  have cv:=(show wc.cell? ⟨g,4,Ih⟩=Ic (Ib Ie xn) by rw[ah HS.1.x];rfl);obtain⟨ds,co,fz⟩:∃d,wc.cell? ⟨g3,4,Ih⟩=Ic (Ib Ie d)/\wc.frozen? ⟨g3,4,Ih⟩=Ik:=by obtain⟨d,hd⟩:=HS.1.o.cell 4 (by decide);exact⟨d,hd,au HS.1.o.2 4⟩
  go_cut []from 15 to 17 (λwx=>aa (tY w wx ⟨op,xd,xa,xb,xn,xt⟩ g g3 L1))
  case first=>
   cases c with
   |true=>go_wp2;go_meet;(case rel=>exact⟨by rw[HL1.1,if_pos (HI.1.1 rfl)];exact HS.1.put HG.1 4 xn⟩)
   |false=>go_wp2;go_meet;(case rel=>exact⟨by rw[HL1.1,if_neg (λh=>Ix (HI.1.2 h))];exact HS.1⟩)
  case rest=>
   obtain⟨w2,hw2⟩:=ME wc;rw[<-hw2]at hcut ⊢;clear HS c0 cv co fz ds hw2 HI;have HS:=hcut;clear hcut;go_upto_region 4 with fail
   have c0:=(show w2.cell? ⟨g,0,Ih⟩=Ic (Ib Ie op) by rw[ah HS.1.x];rfl);go_cut [25]from 18 to 25 (λv wx=>∃c:Bool,v=Iy c/\aa (BIs c (op=16\/op=17))/\wx=w2)
   case first=>
    by_cases h20:op=16
    .have q16:(op==16)=Ir:=beq_iff_eq.mpr (by omega)
     have HI:=MD (show BIs Ir (op=16\/op=17)from⟨λe=>by first|omega|exact absurd e (by decide),λe=>by first|rfl|omega⟩);clear h1 h18 h20;go_wp2;go_meet
     case rel=>exact⟨_,rfl,HI,rfl⟩
    .by_cases h21:op=17
     .have q16:(op==16)=Ik:=beq_eq_false_iff_ne.mpr (by omega)
      have q17:(op==17)=Ir:=beq_iff_eq.mpr (by omega);have HI:=MD (show BIs Ir (op=16\/op=17)from⟨λe=>by first|omega|exact absurd e (by decide),λe=>by first|rfl|omega⟩);clear h1 h18 h20 h21;go_wp2;go_meet
      case rel=>exact⟨_,rfl,HI,rfl⟩
     .have q16:(op==16)=Ik:=beq_eq_false_iff_ne.mpr (by omega)
      have q17:(op==17)=Ik:=beq_eq_false_iff_ne.mpr (by omega);have HI:=MD (show BIs Ik (op=16\/op=17)from⟨λe=>by first|omega|exact absurd e (by decide),λe=>by first|rfl|omega⟩);clear h1 h18 h20 h21;go_wp2;go_meet
      case rel=>exact⟨_,rfl,HI,rfl⟩
   case rest=>
    obtain⟨c,rfl,HI,rfl⟩:=hcut;obtain⟨L2,hL⟩:=ME ((if op=16\/op=17 then L1.set 5 xt else L1));have HL2:=MD hL;clear hL;go_upto_if 25 with fail
    have cv:=(show wc.cell? ⟨g,5,Ih⟩=Ic (Ib Ie xt) by rw[ah HS.1.x];rfl);obtain⟨ds,co,fz⟩:∃d,wc.cell? ⟨g3,5,Ih⟩=Ic (Ib Ie d)/\wc.frozen? ⟨g3,5,Ih⟩=Ik:=by obtain⟨d,hd⟩:=HS.1.o.cell 5 (by decide);exact⟨d,hd,au HS.1.o.2 5⟩
    go_cut []from 26 to 28 (λwx=>aa (tY w wx ⟨op,xd,xa,xb,xn,xt⟩ g g3 L2))
    case first=>
     cases c with
     |true=>go_wp2;go_meet;(case rel=>exact⟨by rw[HL2.1,if_pos (HI.1.1 rfl)];exact HS.1.put HG.1 5 xt⟩)
     |false=>go_wp2;go_meet;(case rel=>exact⟨by rw[HL2.1,if_neg (λh=>Ix (HI.1.2 h))];exact HS.1⟩)
    case rest=>
     obtain⟨w3,hw3⟩:=ME wc;rw[<-hw3]at hcut ⊢;clear HS c0 cv co fz ds hw3 HI;have HS:=hcut;clear hcut;go_upto_region 6 with fail
     have c0:=(show w3.cell? ⟨g,0,Ih⟩=Ic (Ib Ie op) by rw[ah HS.1.x];rfl);go_cut [36]from 29 to 36 (λv wx=>∃c:Bool,v=Iy c/\aa (BIs c (op<=13\/op=15))/\wx=w3)
     case first=>
      by_cases h20:op<=13
      .have q13:decide (op<=13)=Ir:=decide_eq_true (by omega)
       have HI:=MD (show BIs Ir (op<=13\/op=15)from⟨λe=>by first|omega|exact absurd e (by decide),λe=>by first|rfl|omega⟩);clear h1 h18 h20;go_wp2;go_meet
       case rel=>exact⟨_,rfl,HI,rfl⟩
      .by_cases h21:op=15
       .have q13:decide (op<=13)=Ik:=decide_eq_false (by omega)
        have q15:(op==15)=Ir:=beq_iff_eq.mpr (by omega);have HI:=MD (show BIs Ir (op<=13\/op=15)from⟨λe=>by first|omega|exact absurd e (by decide),λe=>by first|rfl|omega⟩);clear h1 h18 h20 h21;go_wp2;go_meet
        case rel=>exact⟨_,rfl,HI,rfl⟩
       .have q13:decide (op<=13)=Ik:=decide_eq_false (by omega)
        have q15:(op==15)=Ik:=beq_eq_false_iff_ne.mpr (by omega);have HI:=MD (show BIs Ik (op<=13\/op=15)from⟨λe=>by first|omega|exact absurd e (by decide),λe=>by first|rfl|omega⟩);clear h1 h18 h20 h21;go_wp2;go_meet
        case rel=>exact⟨_,rfl,HI,rfl⟩
     case rest=>
      obtain⟨c,rfl,HI,rfl⟩:=hcut;obtain⟨L3,hL⟩:=ME ((if op<=13\/op=15 then L2.set 1 xd else L2));have HL3:=MD hL;clear hL;go_upto_if 36 with fail
      have cv:=(show wc.cell? ⟨g,1,Ih⟩=Ic (Ib Ie xd) by rw[ah HS.1.x];rfl);obtain⟨ds,co,fz⟩:∃d,wc.cell? ⟨g3,1,Ih⟩=Ic (Ib Ie d)/\wc.frozen? ⟨g3,1,Ih⟩=Ik:=by obtain⟨d,hd⟩:=HS.1.o.cell 1 (by decide);exact⟨d,hd,au HS.1.o.2 1⟩
      go_cut []from 37 to 39 (λwx=>aa (tY w wx ⟨op,xd,xa,xb,xn,xt⟩ g g3 L3))
      case first=>
       cases c with
       |true=>go_wp2;go_meet;(case rel=>exact⟨by rw[HL3.1,if_pos (HI.1.1 rfl)];exact HS.1.put HG.1 1 xd⟩)
       |false=>go_wp2;go_meet;(case rel=>exact⟨by rw[HL3.1,if_neg (λh=>Ix (HI.1.2 h))];exact HS.1⟩)
      case rest=>
       obtain⟨w4,hw4⟩:=ME wc;rw[<-hw4]at hcut ⊢;clear HS c0 cv co fz ds hw4 HI;have HS:=hcut;clear hcut;go_upto_region 8 with fail
       have c0:=(show w4.cell? ⟨g,0,Ih⟩=Ic (Ib Ie op) by rw[ah HS.1.x];rfl);go_cut [47]from 40 to 47 (λv wx=>∃c:Bool,v=Iy c/\aa (BIs c (op≠1/\op≠16))/\wx=w4)
       case first=>
        by_cases h20:op=1
        .have q1:(op != 1)=Ik:=by simp;omega
         have HI:=MD (show BIs Ik (op≠1/\op≠16)from⟨λe=>by first|omega|exact absurd e (by decide),λe=>by first|rfl|omega⟩);clear h1 h18 h20;go_wp2;go_meet
         case rel=>exact⟨_,rfl,HI,rfl⟩
        .by_cases h21:op=16
         .have q1:(op != 1)=Ir:=by simp;omega
          have q16:(op != 16)=Ik:=by simp;omega
          have HI:=MD (show BIs Ik (op≠1/\op≠16)from⟨λe=>by first|omega|exact absurd e (by decide),λe=>by first|rfl|omega⟩);clear h1 h18 h20 h21;go_wp2;go_meet
          case rel=>exact⟨_,rfl,HI,rfl⟩
         .have q1:(op != 1)=Ir:=by simp;omega
          have q16:(op != 16)=Ir:=by simp;omega
          have HI:=MD (show BIs Ir (op≠1/\op≠16)from⟨λe=>by first|omega|exact absurd e (by decide),λe=>by first|rfl|omega⟩);clear h1 h18 h20 h21;go_wp2;go_meet
          case rel=>exact⟨_,rfl,HI,rfl⟩
       case rest=>
        obtain⟨c,rfl,HI,rfl⟩:=hcut;obtain⟨L4,hL⟩:=ME ((if op≠1/\op≠16 then L3.set 2 xa else L3));have HL4:=MD hL;clear hL;go_upto_if 47 with fail
        have cv:=(show wc.cell? ⟨g,2,Ih⟩=Ic (Ib Ie xa) by rw[ah HS.1.x];rfl);obtain⟨ds,co,fz⟩:∃d,wc.cell? ⟨g3,2,Ih⟩=Ic (Ib Ie d)/\wc.frozen? ⟨g3,2,Ih⟩=Ik:=by obtain⟨d,hd⟩:=HS.1.o.cell 2 (by decide);exact⟨d,hd,au HS.1.o.2 2⟩
        go_cut []from 48 to 50 (λwx=>aa (tY w wx ⟨op,xd,xa,xb,xn,xt⟩ g g3 L4))
        case first=>
         cases c with
         |true=>go_wp2;go_meet;(case rel=>exact⟨by rw[HL4.1,if_pos (HI.1.1 rfl)];exact HS.1.put HG.1 2 xa⟩)
         |false=>go_wp2;go_meet;(case rel=>exact⟨by rw[HL4.1,if_neg (λh=>Ix (HI.1.2 h))];exact HS.1⟩)
        case rest=>
         obtain⟨w5,hw5⟩:=ME wc;rw[<-hw5]at hcut ⊢;clear HS c0 cv co fz ds hw5 HI;have HS:=hcut;clear hcut;go_upto_region 10 with fail
         have c0:=(show w5.cell? ⟨g,0,Ih⟩=Ic (Ib Ie op) by rw[ah HS.1.x];rfl);go_cut [63]from 51 to 63 (λv wx=>∃c:Bool,v=Iy c/\aa (BIs c ((4<=op/\op<=12)\/op=14))/\wx=w5)
         case first=>
          by_cases h20:op<4
          .have q4:decide (4<=op)=Ik:=decide_eq_false (by omega)
           have q14:(op==14)=Ik:=beq_eq_false_iff_ne.mpr (by omega);have HI:=MD (show BIs Ik ((4<=op/\op<=12)\/op=14)from⟨λe=>by first|omega|exact absurd e (by decide),λe=>by first|rfl|omega⟩);clear h1 h18 h20;go_wp2;go_meet
           case rel=>exact⟨_,rfl,HI,rfl⟩
          .by_cases h21:op<=12
           .have q4:decide (4<=op)=Ir:=decide_eq_true (by omega)
            have q12:decide (op<=12)=Ir:=decide_eq_true (by omega);have HI:=MD (show BIs Ir ((4<=op/\op<=12)\/op=14)from⟨λe=>by first|omega|exact absurd e (by decide),λe=>by first|rfl|omega⟩);clear h1 h18 h20 h21;go_wp2;go_meet
            case rel=>exact⟨_,rfl,HI,rfl⟩
           .by_cases h22:op=14
            .have q4:decide (4<=op)=Ir:=decide_eq_true (by omega)
             have q12:decide (op<=12)=Ik:=decide_eq_false (by omega);have q14:(op==14)=Ir:=beq_iff_eq.mpr (by omega);have HI:=MD (show BIs Ir ((4<=op/\op<=12)\/op=14)from⟨λe=>by first|omega|exact absurd e (by decide),λe=>by first|rfl|omega⟩);clear h1 h18 h20 h21 h22;go_wp2;go_meet
             case rel=>exact⟨_,rfl,HI,rfl⟩
            .have q4:decide (4<=op)=Ir:=decide_eq_true (by omega)
             have q12:decide (op<=12)=Ik:=decide_eq_false (by omega);have q14:(op==14)=Ik:=beq_eq_false_iff_ne.mpr (by omega);have HI:=MD (show BIs Ik ((4<=op/\op<=12)\/op=14)from⟨λe=>by first|omega|exact absurd e (by decide),λe=>by first|rfl|omega⟩);clear h1 h18 h20 h21 h22;go_wp2;go_meet
             case rel=>exact⟨_,rfl,HI,rfl⟩
         case rest=>
          obtain⟨c,rfl,HI,rfl⟩:=hcut;obtain⟨L5,hL⟩:=ME ((if(4<=op/\op<=12)\/op=14 then L4.set 3 xb else L4));have HL5:=MD hL;clear hL;go_upto_if 63 with fail
          have cv:=(show wc.cell? ⟨g,3,Ih⟩=Ic (Ib Ie xb) by rw[ah HS.1.x];rfl);obtain⟨ds,co,fz⟩:∃d,wc.cell? ⟨g3,3,Ih⟩=Ic (Ib Ie d)/\wc.frozen? ⟨g3,3,Ih⟩=Ik:=by obtain⟨d,hd⟩:=HS.1.o.cell 3 (by decide);exact⟨d,hd,au HS.1.o.2 3⟩
          go_cut []from 64 to 66 (λwx=>aa (tY w wx ⟨op,xd,xa,xb,xn,xt⟩ g g3 L5))
          case first=>
           cases c with
           |true=>go_wp2;go_meet;(case rel=>exact⟨by rw[HL5.1,if_pos (HI.1.1 rfl)];exact HS.1.put HG.1 3 xb⟩)
           |false=>go_wp2;go_meet;(case rel=>exact⟨by rw[HL5.1,if_neg (λh=>Ix (HI.1.2 h))];exact HS.1⟩)
          case rest=>
           obtain⟨w6,hw6⟩:=ME wc;rw[<-hw6]at hcut ⊢;clear HS c0 cv co fz ds hw6 HI;have HS:=hcut;clear hcut;obtain⟨L2,hr⟩:=HS.1.r;have ho:=HS.1.o;obtain⟨L,hL⟩:=ME L5;rw[<-hL]at ho;have HLR:=MD (show L=R by rw[hL,HRe.1,HL5.1,HL4.1,HL3.1,HL2.1,HL1.1];rfl);clear hL;have HLd:=MD (aY (P:=If) ho.2 I6 rfl (pI ho.1));have HO:=MD ho;have HR:=MD hr;have HB:=MD HS.1.b;clear hr ho HS h1 h18;go_wp2_with (first
            |((with_reducible refine ai (N:=67) rfl ?_);refine ay rfl _ (ao rfl rfl HLd.1) ?_)
            |((with_reducible refine ap (t:=49) (p:=2) rfl ?_);refine an rfl 49 _ _ rfl (g+1) (L.map (Ib .i64)).toArray rfl rfl 49 (L2.map (Ib .i64)).toArray HR.1.2 (pI HO.1.1) (by rw[I8,I8,Jb,Jb,HR.1.1,HO.1.1]) (by simp[IH]) ?_;intro w7 h7 hf7;have H7:=MD h7;have HF7:=MD hf7;clear h7 hf7))
           exact IG (v:=IA (L.map (Ib .i64)).toArray) (IX rfl _ _ (g+1) 49 _ (0,0) _ rfl H7.1 I6 rfl (pI HO.1.1)) rfl ⟨by rw[HLR.1],Fr.below HB.1 HF7.1 (λk hk e=>by have:=HG.1.1;omega) HB.1.size⟩
structure o9(w W:Im)(l:Nat)(now:Src):Prop where
 b:It w.heap.size w W
 r:W.heap[w.heap.size]?=Ic (.cells #[Ib Ie 0,Ib Ie 0] 135 (0,0))
 o:W.heap[w.heap.size+1]?=Ic (.cells #[Ib Ie 4,Ib Ie (l:Int)] 135 (0,0))
 n:W.heap[w.heap.size+1+1]?=Ic (.cells #[Ib Ie now.kind,Ib Ie now.n] 135 (0,0))
theorem o9.below{w W W':Im}{l:Nat}{now:Src}(h:o9 w W l now)(hb:It W.heap.size W W'):o9 w W' l now:=⟨af h.b hb,ag h.r hb,ag h.o hb,ag h.n hb⟩
theorem o9.take{w W W':Im}{l:Nat}{now v:Src}(h:o9 w W l now)(hf:Fr (λk=>k=w.heap.size+1+1) W W')(h8:W'.heap[w.heap.size+1+1]?=Ic (.cells #[Ib Ie v.kind,Ib Ie v.n] 135 (0,0))):o9 w W' l v:=
 ⟨Fr.below h.b hf (λk hk q=>by omega) h.b.size,(hf.block _ (aj h.r) (by omega)).trans h.r,(hf.block _ (aj h.o) (by omega)).trans h.o,h8⟩
theorem o9.fr{w W W':Im}{l:Nat}{now:Src}(h:o9 w W l now){g:Nat}(hf:Fr (λk=>k=g) W W')(hg:w.heap.size+3<=g):o9 w W' l now:=
 ⟨Fr.below h.b hf (λk hk q=>by omega) h.b.size,(hf.block _ (aj h.r) (by omega)).trans h.r,(hf.block _ (aj h.o) (by omega)).trans h.o,(hf.block _ (aj h.n) (by omega)).trans h.n⟩
theorem Hl(w:Im)(l:Nat):o9 w (((w.alloc (Is #[Ib Ie 0,Ib Ie 0] 135)).alloc (Is #[Ib Ie 4,Ib Ie (l:Int)] 135)).alloc (Is #[Ib Ie (-1),Ib Ie 0] 135)) l opn:=by
 have h:=λi o h=>eF w [Is #[Ib Ie 0,Ib Ie 0] 135,Is #[Ib Ie 4,Ib Ie (l:Int)] 135,Is #[Ib Ie (-1),Ib Ie 0] 135] i o h;exact⟨ev w [_,_,_],h 0 _ rfl,h 1 _ rfl,h 2 _ rfl⟩
theorem CK(f:List In)(S:bj)(F:List (List Src))(vs:List Io)(n l g2 g3 g4 g base lo:Nat)(AW AA:Option Addr)(cW cA:Nat)(w:Im)(hG:Gl w)
  (h2:w.heap[g2]?=Ic (.cells #[Ia AW (a7 S).length cW] 122 (0,0))) (hCW:Kd.C (Kd.slice 151 dw) w AW (a7 S).length (a7 S))
  (h3:w.heap[g3]?=Ic (.cells #[Ia AA (a7 S).length cA] 121 (0,0))) (hCA:Kd.C np w AA (a7 S).length (fJ f S))
  (h4:w.heap[g4]?=Ic (.cells #[Ia (Ic ⟨g,0,Ih⟩) F.length F.length] 120 (0,0))) (hM:Mat fF 135 143 base lo w g vs F) (hS:gS S.nodes.length F)
  (hn:n<S.nodes.length) (hl:l<24) (hsm:∀xs∈a7 S,xs.length<=401) (hnw:iD S.nodes) (hne:OOk S.nodes.length S.entry) :
  I9 If 81 #[Ib Ie (n:Int),Ib Ie (l:Int),Iq (Ic ⟨g2,0,Ih⟩),Iq (Ic ⟨g3,0,Ih⟩),Iq (Ic ⟨g4,0,Ih⟩)] w λe w'=>e=Iv (IA #[Ib Ie (dc f S F n l).kind,Ib Ie (dc f S F n l).n])/\It w.heap.size w w':=by
 obtain⟨r,hr⟩:=ME (dc f S F n l);rw[<-hr];have hnwl:n<(a7 S).length:=by rw[iW];exact hn
 obtain⟨ws,hws⟩:∃ws,(a7 S)[n]?=Ic ws:=⟨_,Ig hnwl⟩;have hwl:=hsm ws (Iw hws);have hal:(fJ f S)[n]?=Ic (ws.map (ex f S)):=by unfold fJ;rw[IK,hws];rfl
 obtain⟨adW,csW,rfl,_,hKW,hcW⟩:=b_ hCW n hnwl ws hws;obtain⟨AE,cE,rfl,hlE,hCE⟩:=hKW;obtain⟨adA,csA,rfl,_,hKA,hcA⟩:=b_ hCA n hnwl _ hal;obtain⟨AM,cM,rfl,hlM,hCM⟩:=hKA;have c2:=(show w.cell? ⟨g2,0,Ih⟩=Ic (.slice (Ic adW) (a7 S).length cW) by rw[ah h2];rfl);have vW:w.cell? (adW.add n)=Ic (.slice AE ws.length cE):=by
  have:=hcW 0 _ rfl
  rwa[show n*(Kd.slice 151 dw).sz+0=n from JQ n]at this
 have gl1:=hG.2.1;have gl2:=hG.2.2.1;have l2:=aj h2;have hnw':(n:Int)<((a7 S).length:Int):=by omega
 have hl':(l:Int)<24:=by omega
 have hwl':(ws.length:Int)<=401:=by omega
 have hg2:=hG.2.2.2;have hbW:=J8 w _ vW;have hfin:r=br ⟨4,l⟩ ((ws.drop 0).map λe=>c_ F e (dq f S e l)) opn:=by rw[hr];unfold dc q_;rw[Ij,hws];rfl
 have H3:=MD h3;have H4:=MD h4;have HM:=MD hM;have HS:=MD hS;have HG:=MD hG;have HCE:=MD hCE;have HCM:=MD hCM;have HCA:=MD (hcA 0 _ rfl);have HFin:=MD hfin;have HAll:=MD (pA S n ws hws);have HNw:=MD (IE hnw hne);clear hnw hne;clear hr h2 hCW h3 hCA h4 hM hS hn hsm hws hal hcW hcA hCE hCM hfin hG;go_enter Tryz.func81,Tryz.ntmps81;go_upto_region 2 with fail
 obtain⟨wa,hwa⟩:∃wa,wa=((w.alloc (Is #[Ib Ie 0,Ib Ie 0] 135)).alloc (Is #[Ib Ie 4,Ib Ie (l:Int)] 135)):=⟨_,rfl⟩;have hba:It w.heap.size w wa:=by rw[hwa];exact ae (ae (Il _ _) _) _
 have hsa:wa.heap.size=w.heap.size+1+1:=by rw[hwa];simp
 have gla:=(HG.1.below hba).2.1;have glb:=(HG.1.below hba).2.2.1;have hst:=Hl w l;rw[<-hwa]at hst;refine ar hwa.symm ?_;have HSt:=MD hst;clear hwa hba hst gl1 gl2;go_upto_region 3 with fail
 obtain⟨w3,hw3⟩:∃w3,w3=wa.alloc (Is #[Ib Ie (-1),Ib Ie 0] 135):=⟨_,rfl⟩;have hst:=HSt.1;rw[<-hw3]at hst;refine ar hw3.symm ?_;have e2:=ak hst.b c2;have eW:=ak hst.b vW;have HSt3:=MD hst;clear hw3 hst hsa gla glb c2 vW HSt hbW;go_wp2;go_loopw [21] (λj wr=>∃(k:Nat) (now:Src),j=Ib Ie k/\aa (k<=ws.length/\o9 w wr l now/\r=br ⟨4,l⟩ ((ws.drop k).map λe=>c_ F e (dq f S e l)) now)) (λj _=>ws.length-(Jj j).toNat)
 case atStart=>exact⟨0,opn,rfl,⟨⟨ID _,HSt3.1,HFin.1⟩⟩⟩
 case round=>
  obtain⟨k,now,rfl,HL⟩:=hrel;obtain⟨hk,hT,hfin⟩:=HL.1;by_cases hkl:k<ws.length
  .have hkl':(k:Int)<(ws.length:Int):=by omega
   obtain⟨e,he⟩:∃e,ws[k]?=Ic e:=⟨_,Ig hkl⟩;obtain⟨adE,csE,rfl,hKE,hldE⟩:=ba (P:=If) HCE.1 hT.b k hkl e he 151 MB rfl jp;obtain rfl:csE=e.cells:=hKE;have hre:(ws.map (ex f S))[k]?=Ic (ex f S e):=by rw[IK,he];rfl
   obtain⟨adM,csM,rfl,_,hKM,hcM⟩:=b_ HCM.1 k (by rw[Jb];exact hkl) _ hre;obtain⟨AR,cR,rfl,hlR,hCR⟩:=hKM;have hrl:(ex f S e).length=24:=by simp[ex]
   have hxe:(ex f S e)[l]?=Ic (dq f S e l):=by unfold ex;rw[IK,KW hl];rfl
   obtain⟨x,hx⟩:=ME (dq f S e l);rw[<-hx]at hxe;obtain⟨adR,csR,rfl,hKR,hldR⟩:=ba (P:=If) hCR hT.b l (by rw[hrl];exact hl) x hxe 135 IN rfl aK;obtain rfl:csR=[Ib Ie x.kind,Ib Ie x.n]:=hKR;have vM:wr.cell? (adM.add k)=Ic (.slice (Ic adR) 24 cR):=by
    have:=ak hT.b (hcM 0 _ rfl);rw[hrl]at this
    rwa[show k*my.sz+0=k from JQ k]at this
   have vA:wr.cell? (adA.add n)=Ic (.slice (Ic adM) ws.length cM):=by
    have:=ak hT.b HCA.1;rw[Jb]at this
    rwa[show n*np.sz+0=n from JQ n]at this
   have v3:=(show wr.cell? ⟨g3,0,Ih⟩=Ic (.slice (Ic adA) (a7 S).length cA) by rw[ah (ag H3.1 hT.b)];rfl);have hval:c_ F e (dq f S e l)=c_ F e x:=by rw[hx]
   rw[Jc hkl,(Ip.1 he).2,Jt,hval]at hfin;have HFi:=MD hfin;have HE:=MD (HAll.1 e (Iw he));have HLdE:=MD (show(Le 151 (adE.add (k*2))).run If wr=.ok (IA #[Ib Ie e.1,Ib Ie e.2]) wr from hldE);have HLdR:aa (∀W:Im,It w.heap.size w W->(Le 135 (adR.add (l*2))).run If W=.ok (IA #[Ib Ie x.kind,Ib Ie x.n]) W):=⟨λW hb=>by
    obtain⟨a3,c3,q1,q2,q3⟩:=ba (P:=If) hCR hb l (by rw[hrl];exact hl) x hxe 135 IN rfl aK;injection q1 with q1
    subst q1;obtain rfl:c3=[Ib Ie x.kind,Ib Ie x.n]:=q2;exact q3⟩
   have HT:=MD hT;have HX:=MD hx;have HKl:=MD hkl;have lM:=J8 wr _ vM;have lA:=J8 wr _ vA;have l3:=J8 wr _ v3;clear hldE hldR hT hfin hval hxe hre hcM hCR hrl he hkl hk HL hx;go_upto_region 6 with(first
    |((with_reducible refine ai (N:=25) rfl ?_);refine av rfl 151 _ rfl (adE.add (k*2)) rfl _ HLdE.1 ?_))
   obtain⟨w5,hw5⟩:∃w5,w5=wr.alloc (Is #[Ib Ie e.1,Ib Ie e.2] 151):=⟨_,rfl⟩;have hb5:It wr.heap.size wr w5:=by rw[hw5];exact ae (Il _ _) _
   refine ar hw5.symm ?_;have k3:=ak hb5 v3;have kA:=ak hb5 vA;have kM:=ak hb5 vM;have HT5:=MD (HT.1.below hb5);have H11:aa (w5.heap[wr.heap.size]?=Ic (.cells #[Ib Ie e.1,Ib Ie e.2] 151 (0,0))):=⟨by rw[hw5];exact Iu wr _⟩;clear hw5 hb5 v3 vA vM lM lA l3;go_upto_region 7 with(first
    |((with_reducible refine ai (N:=35) rfl ?_);refine av rfl 135 _ rfl (adR.add (l*2)) rfl _ (HLdR.1 w5 HT5.1.b) ?_))
   obtain⟨w6,hw6⟩:∃w6,w6=w5.alloc (Is #[Ib Ie x.kind,Ib Ie x.n] 135):=⟨_,rfl⟩;have hb6:It w5.heap.size w5 w6:=by rw[hw6];exact ae (Il _ _) _
   have h12:w6.heap[w5.heap.size]?=Ic (.cells #[Ib Ie x.kind,Ib Ie x.n] 135 (0,0)):=by rw[hw6];exact Iu w5 _
   refine ar hw6.symm ?_;have HT6:=MD (HT5.1.below hb6);clear k3 kA kM hw6;obtain⟨v,hv⟩:=ME (c_ F e x);rw[<-hv]at HFi;have HV:=MD hv;have H12:=MD h12;clear hv h12;have x0:=(show w6.cell? ⟨w5.heap.size,0,Ih⟩=Ic (Ib Ie x.kind) by rw[ah H12.1];rfl);have x1:=(show w6.cell? ⟨w5.heap.size,1,Ih⟩=Ic (Ib Ie x.n) by rw[ah H12.1];rfl);go_upto_if 38 with fail
   go_cut []from 39 to 47 (λwx=>aa (o9 w wx l now/\wx.heap[w5.heap.size]?=Ic (.cells #[Ib Ie v.kind,Ib Ie v.n] 135 (0,0))))
   case first=>
    by_cases h4:x.kind=4
    .have q4:(x.kind==4)=Ir:=beq_iff_eq.mpr h4
     have hx4:dq f S e l=x:=HX.1.symm;obtain⟨o,ho,hoj⟩:=HE.1;obtain⟨b1,b2,b3,b4⟩:=zN (A6 HNw.1.1 HNw.1.2 ho) ho hl (by rw[hx4];exact h4);rw[hx4]at b3 b4;obtain⟨e1,e2⟩:=e;simp only at b1 b2;obtain⟨m,rfl⟩:∃m:Nat,e1=m:=⟨e1.toNat,by omega⟩;obtain⟨xk,xn⟩:=x;simp only at b3 b4 h4 x0 x1;obtain rfl:xk=4:=h4;obtain⟨q,rfl⟩:∃q:Nat,xn=q:=⟨xn.toNat,by omega⟩;have hm:m<F.length:=by rw[HS.1.len];omega
     have hM6:=HM.1.below HT6.1.b;obtain⟨vR,hvR⟩:∃vR,vs[m]?=Ic vR:=⟨_,Ig (by rw[hM6.len];exact hm)⟩;obtain⟨row,hrow⟩:∃row,F[m]?=Ic row:=⟨_,Ig hm⟩;have hRr:=hM6.row m vR row hvR hrow;have hr24:row.length=24:=HS.1.row row (Iw hrow);obtain⟨AR2,cR2,rfl⟩:=Kd.R_slice hRr;obtain⟨s,hs⟩:∃s,row[q]?=Ic s:=⟨_,Ig (by omega)⟩;obtain⟨A3,c3,z1,z2,z3⟩:=Rd.of_R (Kd.R_drew hRr);injection z1 with z1 z4 z5
     subst z1;obtain⟨adS,csS,rfl,hKS,hldS⟩:=fl (P:=If) z3 q (by omega) s hs 135 IN rfl aK;obtain rfl:csS=[Ib Ie s.kind,Ib Ie s.n]:=hKS;have hv:=HV.1;have hq':(q:Int)<(row.length:Int):=by omega
     have HR24:=MD hr24;clear hr24;have c4:=(show w6.cell? ⟨g4,0,Ih⟩=Ic (.slice (Ic ⟨g,0,Ih⟩) F.length F.length) by rw[ah (ag H4.1 HT6.1.b)];rfl);have cM:=(show w6.cell? ⟨g,m,Ih⟩=Ic (.slice (Ic adS) row.length cR2) by rw[aq hM6.blk];exact hvR);have e0:=(show w6.cell? ⟨wr.heap.size,0,Ih⟩=Ic (Ib Ie (m:Int)) by rw[ah (ag H11.1 hb6)];rfl);go_upto_region 8 with fail
     go_still_tail 9,(by kernel_rfl);refine bO rfl (ao rfl rfl hldS) ?_;refine Mc ?_;refine an (W:=w6.drew) rfl 135 _ _ rfl w5.heap.size #[Ib Ie s.kind,Ib Ie s.n] rfl rfl 135 #[Ib Ie 4,Ib Ie (q:Int)] H12.1 aK rfl (by simp[IH]) ?_;intro w8 h8 hf8;have HT8:=MD (HT6.1.fr (Fr.trans (Fr.drew (S:=λk=>k=w5.heap.size)) hf8) (by have:=aj H11.1;have:=HT5.1.n;have:=aj this;omega));have hvs:v=s:=by
      rw[hv];unfold c_;rw[if_pos rfl];simp only[IC];rw[Ij (l:=F),hrow];simp only[JL];rw[Ij,hs];rfl
     rw[<-hvs]at h8;have H8:=MD h8;clear h8 hf8 hv hvs z3 hldS hRr hs hrow hvR hM6 ho;go_wp2;go_meet
     case rel=>exact⟨⟨HT8.1,H8.1⟩⟩
    .have q4:(x.kind==4)=Ik:=beq_eq_false_iff_ne.mpr h4
     have HV2:=MD (show v=x by rw[HV.1,c_,if_neg h4]);clear h4;go_wp2;go_meet
     case rel=>exact⟨⟨HT6.1,by rw[HV2.1];exact H12.1⟩⟩
   case rest=>
    obtain⟨hT7,h12⟩:=hcut.1;have HT7:=MD hT7;have gl1:=(HG.1.below HT7.1.b).2.1;have gl2:=(HG.1.below HT7.1.b).2.2.1;have n0:=(show wc.cell? ⟨w.heap.size+1+1,0,Ih⟩=Ic (Ib Ie now.kind) by rw[ah HT7.1.n];rfl);have n1:=(show wc.cell? ⟨w.heap.size+1+1,1,Ih⟩=Ic (Ib Ie now.n) by rw[ah HT7.1.n];rfl);have o0:=(show wc.cell? ⟨w.heap.size+1,0,Ih⟩=Ic (Ib Ie 4) by rw[ah HT7.1.o];rfl);have o1:=(show wc.cell? ⟨w.heap.size+1,1,Ih⟩=Ic (Ib Ie (l:Int)) by rw[ah HT7.1.o];rfl);have x0:=(show wc.cell? ⟨w5.heap.size,0,Ih⟩=Ic (Ib Ie v.kind) by rw[ah h12];rfl);have x1:=(show wc.cell? ⟨w5.heap.size,1,Ih⟩=Ic (Ib Ie v.n) by rw[ah h12];rfl);clear h12 hT7 hcut HV H12 hb6;by_cases hvk:v.kind=-1
    .by_cases hvn:v.n=0
     .have HR0:=MD (show r=br ⟨4,l⟩ ((ws.drop (k+1)).map λe=>c_ F e (dq f S e l)) now by rw[HFi.1,br,if_pos (show v=opn by obtain⟨a,b⟩:=v;simp only at hvk hvn;rw[hvk,hvn];rfl)])
      go_wp2;go_roundw
      case rel=>exact⟨k+1,now,by go_num,⟨⟨HKl.1,HT7.1,HR0.1⟩⟩⟩
      case measure=>have:=HKl.1;simp[Jj];omega
     .have HR0:=MD (show r=⟨4,l⟩ by rw[HFi.1,br,if_neg (show v≠opn from λe=>hvn (by rw[e];rfl)),if_pos (.inl ⟨by rw[hvk];decide,by rw[hvk];decide⟩)])
      have q1:(v.n==0)=Ik:=beq_eq_false_iff_ne.mpr hvn;go_wp2_with (first
       |((with_reducible refine ap (t:=135) (p:=7) rfl ?_);refine an rfl 135 _ _ rfl w.heap.size #[Ib Ie 4,Ib Ie (l:Int)] rfl rfl 135 #[Ib Ie 0,Ib Ie 0] HT7.1.r aK rfl (by simp[IH]) ?_;intro w8 h8 hf8;have H8:=MD h8;have F8:=MD hf8;clear h8 hf8))
      all_goals rw[HR0.1]
      all_goals exact IG (v:=IA #[Ib Ie 4,Ib Ie (l:Int)]) (IX rfl _ _ w.heap.size 135 #[Ib Ie 4,Ib Ie (l:Int)] (0,0) _ rfl H8.1 IN rfl aK) rfl ⟨rfl,Fr.below HT7.1.b F8.1 (λk hk h=>by omega) HT7.1.b.size⟩
    .have q0:(v.kind == -1)=Ik:=beq_eq_false_iff_ne.mpr hvk
     have HVo:=MD (show v≠opn from λe=>hvk (by rw[e];rfl));by_cases hb1:v.kind≠2/\v.kind≠0
     .have HR0:=MD (show r=⟨4,l⟩ by rw[HFi.1,br,if_neg HVo.1,if_pos (.inl hb1)])
      have q1:(v.kind != 2)=Ir:=bne_iff_ne.mpr hb1.1;have q2:(v.kind != 0)=Ir:=bne_iff_ne.mpr hb1.2;clear hb1 hvk;go_wp2_with (first
       |((with_reducible refine ap (t:=135) (p:=7) rfl ?_);refine an rfl 135 _ _ rfl w.heap.size #[Ib Ie 4,Ib Ie (l:Int)] rfl rfl 135 #[Ib Ie 0,Ib Ie 0] HT7.1.r aK rfl (by simp[IH]) ?_;intro w8 h8 hf8;have H8:=MD h8;have F8:=MD hf8;clear h8 hf8))
      rw[HR0.1];exact IG (v:=IA #[Ib Ie 4,Ib Ie (l:Int)]) (IX rfl _ _ w.heap.size 135 #[Ib Ie 4,Ib Ie (l:Int)] (0,0) _ rfl H8.1 IN rfl aK) rfl ⟨rfl,Fr.below HT7.1.b F8.1 (λk hk h=>by omega) HT7.1.b.size⟩
     .by_cases hkv:v.kind=2
      .by_cases hnk:now.kind=-1
       .by_cases hnn:now.n=0
        .have HR0:=MD (show r=br ⟨4,l⟩ ((ws.drop (k+1)).map λe=>c_ F e (dq f S e l)) v by rw[HFi.1,br,if_neg HVo.1,if_neg (by rintro(q|q);exact hb1 q;exact(q.1 (by obtain⟨a,b⟩:=now;simp only at hnk hnn;rw[hnk,hnn];rfl)))])
         go_wp2_with (first
          |((with_reducible refine ap (t:=135) (p:=9) rfl ?_);refine an rfl 135 _ _ rfl (w.heap.size+1+1) #[Ib Ie 2,Ib Ie v.n] rfl rfl 135 #[Ib Ie now.kind,Ib Ie now.n] HT7.1.n aK rfl (by simp[IH]) ?_;intro w8 h8 hf8;have H8:=MD h8;have F8:=MD hf8;clear h8 hf8))
         have HT8:=MD (HT7.1.take F8.1 (by rw[hkv];exact H8.1));go_roundw
         case rel=>exact⟨k+1,v,by go_num,⟨⟨HKl.1,HT8.1,HR0.1⟩⟩⟩
         case measure=>have:=HKl.1;simp[Jj];omega
        .have qn:(now.n==0)=Ik:=beq_eq_false_iff_ne.mpr hnn
         have HR0:=MD (show r=⟨4,l⟩ by rw[HFi.1,br,if_neg HVo.1,if_pos (.inr ⟨λe=>hnn (by rw[e];rfl),λe=>by rw[e,hkv]at hnk;exact absurd hnk (by decide)⟩)]);go_wp2_with (first
          |((with_reducible refine ap (t:=135) (p:=7) rfl ?_);refine an rfl 135 _ _ rfl w.heap.size #[Ib Ie 4,Ib Ie (l:Int)] rfl rfl 135 #[Ib Ie 0,Ib Ie 0] HT7.1.r aK rfl (by simp[IH]) ?_;intro w8 h8 hf8;have H8:=MD h8;have F8:=MD hf8;clear h8 hf8))
         rw[HR0.1];exact IG (v:=IA #[Ib Ie 4,Ib Ie (l:Int)]) (IX rfl _ _ w.heap.size 135 #[Ib Ie 4,Ib Ie (l:Int)] (0,0) _ rfl H8.1 IN rfl aK) rfl ⟨rfl,Fr.below HT7.1.b F8.1 (λk hk h=>by omega) HT7.1.b.size⟩
       .have qk:(now.kind == -1)=Ik:=beq_eq_false_iff_ne.mpr hnk
        by_cases hk2:now.kind=2
        .by_cases hn2:now.n=v.n
         .have HR0:=MD (show r=br ⟨4,l⟩ ((ws.drop (k+1)).map λe=>c_ F e (dq f S e l)) v by rw[HFi.1,br,if_neg HVo.1,if_neg (by rintro(q|q);exact hb1 q;exact(q.2 (by obtain⟨a,b⟩:=now;obtain⟨c,d⟩:=v;simp only at hkv hk2 hn2;rw[hk2,hn2,hkv])))])
          go_wp2_with (first
           |((with_reducible refine ap (t:=135) (p:=9) rfl ?_);refine an rfl 135 _ _ rfl (w.heap.size+1+1) #[Ib Ie 2,Ib Ie v.n] rfl rfl 135 #[Ib Ie now.kind,Ib Ie now.n] HT7.1.n aK rfl (by simp[IH]) ?_;intro w8 h8 hf8;have H8:=MD h8;have F8:=MD hf8;clear h8 hf8))
          have HT8:=MD (HT7.1.take F8.1 (by rw[hkv];exact H8.1));go_roundw
          case rel=>exact⟨k+1,v,by go_num,⟨⟨HKl.1,HT8.1,HR0.1⟩⟩⟩
          case measure=>have:=HKl.1;simp[Jj];omega
         .have qn:(now.n==v.n)=Ik:=beq_eq_false_iff_ne.mpr hn2
          have HR0:=MD (show r=⟨4,l⟩ by rw[HFi.1,br,if_neg HVo.1,if_pos (.inr ⟨λe=>hnk (by rw[e];rfl),λe=>hn2 (by rw[e])⟩)]);go_wp2_with (first
           |((with_reducible refine ap (t:=135) (p:=7) rfl ?_);refine an rfl 135 _ _ rfl w.heap.size #[Ib Ie 4,Ib Ie (l:Int)] rfl rfl 135 #[Ib Ie 0,Ib Ie 0] HT7.1.r aK rfl (by simp[IH]) ?_;intro w8 h8 hf8;have H8:=MD h8;have F8:=MD hf8;clear h8 hf8))
          rw[HR0.1];exact IG (v:=IA #[Ib Ie 4,Ib Ie (l:Int)]) (IX rfl _ _ w.heap.size 135 #[Ib Ie 4,Ib Ie (l:Int)] (0,0) _ rfl H8.1 IN rfl aK) rfl ⟨rfl,Fr.below HT7.1.b F8.1 (λk hk h=>by omega) HT7.1.b.size⟩
        .have qn:(now.kind==2)=Ik:=beq_eq_false_iff_ne.mpr hk2
         have HR0:=MD (show r=⟨4,l⟩ by rw[HFi.1,br,if_neg HVo.1,if_pos (.inr ⟨λe=>hnk (by rw[e];rfl),λe=>hk2 (by rw[e,hkv])⟩)]);go_wp2_with (first
          |((with_reducible refine ap (t:=135) (p:=7) rfl ?_);refine an rfl 135 _ _ rfl w.heap.size #[Ib Ie 4,Ib Ie (l:Int)] rfl rfl 135 #[Ib Ie 0,Ib Ie 0] HT7.1.r aK rfl (by simp[IH]) ?_;intro w8 h8 hf8;have H8:=MD h8;have F8:=MD hf8;clear h8 hf8))
         rw[HR0.1];exact IG (v:=IA #[Ib Ie 4,Ib Ie (l:Int)]) (IX rfl _ _ w.heap.size 135 #[Ib Ie 4,Ib Ie (l:Int)] (0,0) _ rfl H8.1 IN rfl aK) rfl ⟨rfl,Fr.below HT7.1.b F8.1 (λk hk h=>by omega) HT7.1.b.size⟩
      .have hkv:v.kind=0:=by
        by_cases q:v.kind=0
        .exact q
        .exact absurd ⟨hkv,q⟩ hb1
       by_cases hnk:now.kind=-1
       .by_cases hnn:now.n=0
        .have HR0:=MD (show r=br ⟨4,l⟩ ((ws.drop (k+1)).map λe=>c_ F e (dq f S e l)) v by rw[HFi.1,br,if_neg HVo.1,if_neg (by rintro(q|q);exact hb1 q;exact(q.1 (by obtain⟨a,b⟩:=now;simp only at hnk hnn;rw[hnk,hnn];rfl)))])
         go_wp2_with (first
          |((with_reducible refine ap (t:=135) (p:=9) rfl ?_);refine an rfl 135 _ _ rfl (w.heap.size+1+1) #[Ib Ie 0,Ib Ie v.n] rfl rfl 135 #[Ib Ie now.kind,Ib Ie now.n] HT7.1.n aK rfl (by simp[IH]) ?_;intro w8 h8 hf8;have H8:=MD h8;have F8:=MD hf8;clear h8 hf8))
         have HT8:=MD (HT7.1.take F8.1 (by rw[hkv];exact H8.1));go_roundw
         case rel=>exact⟨k+1,v,by go_num,⟨⟨HKl.1,HT8.1,HR0.1⟩⟩⟩
         case measure=>have:=HKl.1;simp[Jj];omega
        .have qn:(now.n==0)=Ik:=beq_eq_false_iff_ne.mpr hnn
         have HR0:=MD (show r=⟨4,l⟩ by rw[HFi.1,br,if_neg HVo.1,if_pos (.inr ⟨λe=>hnn (by rw[e];rfl),λe=>by rw[e,hkv]at hnk;exact absurd hnk (by decide)⟩)]);go_wp2_with (first
          |((with_reducible refine ap (t:=135) (p:=7) rfl ?_);refine an rfl 135 _ _ rfl w.heap.size #[Ib Ie 4,Ib Ie (l:Int)] rfl rfl 135 #[Ib Ie 0,Ib Ie 0] HT7.1.r aK rfl (by simp[IH]) ?_;intro w8 h8 hf8;have H8:=MD h8;have F8:=MD hf8;clear h8 hf8))
         rw[HR0.1];exact IG (v:=IA #[Ib Ie 4,Ib Ie (l:Int)]) (IX rfl _ _ w.heap.size 135 #[Ib Ie 4,Ib Ie (l:Int)] (0,0) _ rfl H8.1 IN rfl aK) rfl ⟨rfl,Fr.below HT7.1.b F8.1 (λk hk h=>by omega) HT7.1.b.size⟩
       .have qk:(now.kind == -1)=Ik:=beq_eq_false_iff_ne.mpr hnk
        by_cases hk2:now.kind=0
        .by_cases hn2:now.n=v.n
         .have HR0:=MD (show r=br ⟨4,l⟩ ((ws.drop (k+1)).map λe=>c_ F e (dq f S e l)) v by rw[HFi.1,br,if_neg HVo.1,if_neg (by rintro(q|q);exact hb1 q;exact(q.2 (by obtain⟨a,b⟩:=now;obtain⟨c,d⟩:=v;simp only at hkv hk2 hn2;rw[hk2,hn2,hkv])))])
          go_wp2_with (first
           |((with_reducible refine ap (t:=135) (p:=9) rfl ?_);refine an rfl 135 _ _ rfl (w.heap.size+1+1) #[Ib Ie 0,Ib Ie v.n] rfl rfl 135 #[Ib Ie now.kind,Ib Ie now.n] HT7.1.n aK rfl (by simp[IH]) ?_;intro w8 h8 hf8;have H8:=MD h8;have F8:=MD hf8;clear h8 hf8))
          have HT8:=MD (HT7.1.take F8.1 (by rw[hkv];exact H8.1));go_roundw
          case rel=>exact⟨k+1,v,by go_num,⟨⟨HKl.1,HT8.1,HR0.1⟩⟩⟩
          case measure=>have:=HKl.1;simp[Jj];omega
         .have qn:(now.n==v.n)=Ik:=beq_eq_false_iff_ne.mpr hn2
          have HR0:=MD (show r=⟨4,l⟩ by rw[HFi.1,br,if_neg HVo.1,if_pos (.inr ⟨λe=>hnk (by rw[e];rfl),λe=>hn2 (by rw[e])⟩)]);go_wp2_with (first
           |((with_reducible refine ap (t:=135) (p:=7) rfl ?_);refine an rfl 135 _ _ rfl w.heap.size #[Ib Ie 4,Ib Ie (l:Int)] rfl rfl 135 #[Ib Ie 0,Ib Ie 0] HT7.1.r aK rfl (by simp[IH]) ?_;intro w8 h8 hf8;have H8:=MD h8;have F8:=MD hf8;clear h8 hf8))
          rw[HR0.1];exact IG (v:=IA #[Ib Ie 4,Ib Ie (l:Int)]) (IX rfl _ _ w.heap.size 135 #[Ib Ie 4,Ib Ie (l:Int)] (0,0) _ rfl H8.1 IN rfl aK) rfl ⟨rfl,Fr.below HT7.1.b F8.1 (λk hk h=>by omega) HT7.1.b.size⟩
        .have qn:(now.kind==0)=Ik:=beq_eq_false_iff_ne.mpr hk2
         have HR0:=MD (show r=⟨4,l⟩ by rw[HFi.1,br,if_neg HVo.1,if_pos (.inr ⟨λe=>hnk (by rw[e];rfl),λe=>hk2 (by rw[e,hkv])⟩)]);go_wp2_with (first
          |((with_reducible refine ap (t:=135) (p:=7) rfl ?_);refine an rfl 135 _ _ rfl w.heap.size #[Ib Ie 4,Ib Ie (l:Int)] rfl rfl 135 #[Ib Ie 0,Ib Ie 0] HT7.1.r aK rfl (by simp[IH]) ?_;intro w8 h8 hf8;have H8:=MD h8;have F8:=MD hf8;clear h8 hf8))
         rw[HR0.1];exact IG (v:=IA #[Ib Ie 4,Ib Ie (l:Int)]) (IX rfl _ _ w.heap.size 135 #[Ib Ie 4,Ib Ie (l:Int)] (0,0) _ rfl H8.1 IN rfl aK) rfl ⟨rfl,Fr.below HT7.1.b F8.1 (λk hk h=>by omega) HT7.1.b.size⟩
  .obtain rfl:k=ws.length:=by omega
   rw[Ju (Iz _)]at hfin;have hres:r=now:=hfin;have HT:=MD hT;subst hres;have n0:=(show wr.cell? ⟨w.heap.size+1+1,0,Ih⟩=Ic (Ib Ie r.kind) by rw[ah hT.n];rfl);have n1:=(show wr.cell? ⟨w.heap.size+1+1,1,Ih⟩=Ic (Ib Ie r.n) by rw[ah hT.n];rfl);clear hT hk hfin HL;go_wp2_with (first
    |((with_reducible refine ap (t:=135) (p:=7) rfl ?_);refine an rfl 135 _ _ rfl w.heap.size #[Ib Ie r.kind,Ib Ie r.n] rfl rfl 135 #[Ib Ie 0,Ib Ie 0] HT.1.r aK rfl (by simp[IH]) ?_;intro w8 h8 hf8;have H8:=MD h8;have F8:=MD hf8;clear h8 hf8))
   exact IG (v:=IA #[Ib Ie r.kind,Ib Ie r.n]) (IX rfl _ _ w.heap.size 135 #[Ib Ie r.kind,Ib Ie r.n] (0,0) _ rfl H8.1 IN rfl aK) rfl ⟨rfl,Fr.below HT.1.b F8.1 (λk hk h=>by omega) HT.1.b.size⟩
section
def iK(N n l:Nat):List (List Src):=(Jy N).map λi=>if i<n then IF 24 opn else if i=n then IF l opn else []
theorem fq(N n l:Nat):(iK N n l).length=N:=by unfold iK;rw[Jb,List.length_range]
theorem fU{N n l i:Nat}(hi:i<N):(iK N n l)[i]?=Ic (if i<n then IF 24 opn else if i=n then IF l opn else []):=by
 unfold iK;rw[IK,KW hi];rfl
theorem vG(N:Nat):iK N 0 0=IF N []:=by
 apply JN;intro i;by_cases hi:i<N
 .rw[fU hi,Ku,if_pos hi,if_neg (LG _)]
  split<;>rfl
 .rw[I0 (by rw[fq];omega),I0 (by rw[JP];omega)]
theorem zk(N n:Nat):iK N n 24=iK N (n+1) 0:=by
 apply JN;intro i;by_cases hi:i<N
 .rw[fU hi,fU hi]
  congr 1;by_cases h1:i<n
  .rw[if_pos h1,if_pos (by omega)]
  .rw[if_neg h1]
   by_cases h2:i=n
   .rw[if_pos h2,if_pos (by omega)]
   .rw[if_neg h2,if_neg (by omega)]
    split<;>rfl
 .rw[I0 (by rw[fq];omega),I0 (by rw[fq];omega)]
theorem vI{N n l:Nat}(hn:n<N):(iK N n l)[n]?=Ic (IF l opn):=by rw[fU hn,if_neg (Mq _),if_pos rfl]
theorem Ci{N n l:Nat}(hn:n<N):(iK N n l).set n (IF l opn++[opn])=iK N n (l+1):=by
 apply JN;intro i;by_cases hi:i<N
 .rw[KD,fq]
  by_cases e:n=i
  .subst e
   rw[if_pos rfl,if_pos hn,vI hn,List.replicate_succ']
  .rw[if_neg e,fU hi,fU hi]
   congr 1;split
   .rfl
   .rw[if_neg (λq=>e q.symm),if_neg (λq=>e q.symm)]
 .rw[I0 (by rw[Jq,fq];omega),I0 (by rw[fq];omega)]
theorem Cj(N:Nat):iK N N 0=jr N:=by
 apply JN;intro i;unfold jr;by_cases hi:i<N
 .rw[fU hi,if_pos hi,Ku,if_pos hi]
 .rw[I0 (by rw[fq];omega),I0 (by rw[JP];omega)]
theorem Mat.app{α:Type}{d:Kd α}{e t base lo:Nat}{W1 W2:Im}{g:Nat}{vs:List Io}{rows:List (List α)}(h:Mat d e t base lo W1 g vs rows)(hE:d.E=[]){i:Nat}{v v1:Io}{xs ys:List α}(hv:vs[i]?=Ic v)(hx:rows[i]?=Ic xs)
  (hR:Kd.R d e W2 base (λk=>lo<=k/\k≠g) v1 ys) (hg:W1.grownBy W2 v.ownBlock) (hat:v1.ownBlock=v.ownBlock\/∃b,v1.ownBlock=Ic b/\W1.heap.size<=b):Mat d e t base lo (W2.setCell ⟨g,i,Ih⟩ v1) g (vs.set i v1) (rows.set i ys):=by
 have hne:Ic g≠v.ownBlock:=Kd.R_away (h.row i v xs hv hx) (λk hk=>hk.2);have hb2:=(hg.block g (aj h.blk) hne).trans h.blk;exact h.put hE hv hx (Kd.R_far hR (p:=⟨g,i,Ih⟩) (λk hk=>hk.2) _) (aR hb2 i v1) ((Fr.grown hg (λk e=>.inr e.symm.symm)).trans (Fr.cell (p:=⟨g,i,Ih⟩) (.inl rfl) _)) hat
structure o_(w W:Im)(S:bj)(A:Option Addr)(c g:Nat)(vs:List Io)(F:List (List Src)):Prop where
 b:It w.heap.size w W
 bx:W.heap[w.heap.size]?=Ic (.cells (S.entry.cells++[Ia A S.nodes.length c]).toArray 119 (0,0))
 gt:W.heap[g+1]?=Ic (.cells #[Ia (Ic ⟨g,0,Ih⟩) S.nodes.length S.nodes.length] 120 (0,0))
 m:Mat fF 135 143 w.heap.size (g+2) W g vs F
 len:F.length=S.nodes.length
 lo:w.heap.size<g
section
variable{w W W1 W2:Im}{S:bj}{A:Option Addr}{c g:Nat}{vs:List Io}{F:List (List Src)}
theorem o_.below(h:o_ w W S A c g vs F)(hb:It W.heap.size W W1):o_ w W1 S A c g vs F:=⟨af h.b hb,ag h.bx hb,ag h.gt hb,h.m.below hb,h.len,h.lo⟩
theorem o_.app(h:o_ w W1 S A c g vs F){i:Nat}{v v1:Io}{xs ys:List Src}(hv:vs[i]?=Ic v)(hx:F[i]?=Ic xs)(hR:Kd.R fF 135 W2 w.heap.size (λk=>g+2<=k/\k≠g) v1 ys)(hg:W1.grownBy W2 v.ownBlock)(hat:v1.ownBlock=v.ownBlock\/∃b,v1.ownBlock=Ic b/\W1.heap.size<=b):o_ w (W2.setCell ⟨g,i,Ih⟩ v1) S A c g (vs.set i v1) (F.set i ys):=by
 have hr:=h.m.row i v xs hv hx;have hne:∀k,k<g+2->Ic k≠v.ownBlock:=λk hk=>Kd.R_away hr (λj hj=>by omega);have hf:Fr (λk=>k=g\/Ic k=v.ownBlock) W1 (W2.setCell ⟨g,i,Ih⟩ v1):=(Fr.grown hg (λk e=>.inr e)).trans (Fr.cell (p:=⟨g,i,Ih⟩) (.inl rfl) _);have hlo:=h.lo;refine⟨Fr.below h.b hf (λk hk q=>?_) h.b.size,(hf.block _ (aj h.bx) ?_).trans h.bx,(hf.block _ (aj h.gt) ?_).trans h.gt,h.m.app rfl hv hx hR hg hat,by rw[Jq];exact h.len,hlo⟩
 .rcases q with q|q
  .omega
  .exact hne k (by omega) q
 .rintro(q|q)
  .omega
  .exact hne _ (by omega) q
 .rintro(q|q)
  .omega
  .exact hne _ (by omega) q
end
structure rr(w W:Im)(f:List In)(S:bj)(A:Option Addr)(c g B g7 g8:Nat)(vW vA:Io)(vs:List Io)(F:List (List Src)):Prop where
 fa:o_ w W S A c g vs F
 h7:W.heap[g7]?=Ic (.cells #[vW] 122 (0,0))
 h8:W.heap[g8]?=Ic (.cells #[vA] 121 (0,0))
 r7:Kd.R (Kd.slice 151 dw) 149 W B (λk=>B<=k) vW (a7 S)
 r8:Kd.R np 120 W B (λk=>B<=k) vA (fJ f S)
 old:∀v∈vs,∀k,v.ownBlock=Ic k->k<B
 lo:w.heap.size<=B
 gB:g+2<=B
 b7:B<=g7
 b8:B<=g8
section
variable{w W W1 W2:Im}{f:List In}{S:bj}{A:Option Addr}{c g B g7 g8:Nat}{vW vA:Io}{vs:List Io}{F:List (List Src)}
theorem rr.below(h:rr w W f S A c g B g7 g8 vW vA vs F)(hb:It W.heap.size W W1):rr w W1 f S A c g B g7 g8 vW vA vs F:=⟨h.fa.below hb,ag h.h7 hb,ag h.h8 hb,Kd.R_below h.r7 hb,Kd.R_below h.r8 hb,h.old,h.lo,h.gB,h.b7,h.b8⟩
theorem rr.put(h:rr w W f S A c g B g7 g8 vW vA vs F){n gr cap:Nat}{ys xs:List Src}(hv:vs[n]?=Ic (.slice (Ic ⟨gr,0,Ih⟩) xs.length cap))(hx:F[n]?=Ic xs)(hR:Kd.R fF 135 W1 w.heap.size (λk=>g+2<=k/\k≠g) (Ia (Ic ⟨gr,0,Ih⟩) xs.length cap) ys)(hg:W.grownBy W1 (Ic gr)):rr w W1 f S A c g B g7 g8 vW vA vs (F.set n ys):=by
 have hr:=h.fa.m.row n _ xs hv hx;have hgr:g+2<=gr:=(hr.1 gr rfl).1;have hgB:gr<B:=h.old _ (Iw hv) gr rfl;have h1:=h.lo;have h2:=h.b7;have h3:=h.b8;have h4:=h.fa.lo;have hf:Fr (λk=>k=gr) W W1:=Fr.grown hg (λk e=>by injection e);have hvs:vs.set n (Ia (Ic ⟨gr,0,Ih⟩) xs.length cap)=vs:=by
  apply JN;intro i;rw[KD];split
  .rename_i e
   subst e;rw[if_pos (Ip.1 hv).1,hv]
  .rfl
 have hm:=h.fa.m.put rfl hv hx hR (by rw[hvs];exact(hf.block _ (aj h.fa.m.blk) (by omega)).trans h.fa.m.blk) (hf.mono (λk _ q=>.inr (by rw[q];rfl))) (.inl rfl);rw[hvs]at hm;refine⟨⟨Fr.below h.fa.b hf (λk hk q=>by omega) h.fa.b.size,(hf.block _ (aj h.fa.bx) (by omega)).trans h.fa.bx,(hf.block _ (aj h.fa.gt) (by omega)).trans h.fa.gt,hm,by rw[Jq];exact h.fa.len,h4⟩,(hf.block _ (aj h.h7) (by omega)).trans h.h7,(hf.block _ (aj h.h8) (by omega)).trans h.h8,?_,?_,h.old,h1,h.gB,h2,h3⟩
 .exact Kd.R_step h.r7 (λk hk hlt=>hf.block k hlt (by omega))
 .exact Kd.R_step h.r8 (λk hk hlt=>hf.block k hlt (by omega))
end
structure iB(w0 W:Im)(f:List In)(S:bj)(s:Io×Io×Nat×Nat)(b1 b4 b5 b6 b7 b8:Bool):Prop where
 b:It w0.heap.size w0 W
 r1:b1=Ir->Kd.R (Kd.slice 151 dw) 149 W w0.heap.size (λk=>w0.heap.size<=k) s.1 (a7 S)
 r4:b4=Ir->Kd.R np 120 W w0.heap.size (λk=>w0.heap.size<=k) s.2.1 (fJ f S)
 h5:b5=Ir->W.heap[s.2.2.1]?=Ic (.cells #[if b7=Ir then s.1 else Ia Ih 0 0] 122 (0,0))/\w0.heap.size<=s.2.2.1
 h6:b6=Ir->W.heap[s.2.2.2]?=Ic (.cells #[if b8=Ir then s.2.1 else Ia Ih 0 0] 121 (0,0))/\w0.heap.size<=s.2.2.2
section
variable{w0 W W1:Im}{f:List In}{S:bj}{s:Io×Io×Nat×Nat}{b1 b4 b5 b6 b7 b8:Bool}
theorem iB.call1(h:iB w0 W f S s Ik b4 b5 b6 Ik b8){v:Io}(hr:Kd.R (Kd.slice 151 dw) 149 W1 W.heap.size (λk=>W.heap.size<=k) v (a7 S))(hb:It W.heap.size W W1):iB w0 W1 f S (v,s.2.1,s.2.2.1,s.2.2.2) Ir b4 b5 b6 Ik b8:=
 have hz:=h.b.size
 ⟨af h.b hb,λ_=>Kd.R_lower (Kd.R_mono hr (λk hk=>IT hz hk)) hz,λe=>Kd.R_below (h.r4 e) hb,λe=>⟨ag (h.h5 e).1 hb,(h.h5 e).2⟩,λe=>⟨ag (h.h6 e).1 hb,(h.h6 e).2⟩⟩
theorem iB.call4(h:iB w0 W f S s b1 Ik b5 b6 b7 Ik){v:Io}(hr:Kd.R np 120 W1 W.heap.size (λk=>W.heap.size<=k) v (fJ f S))(hb:It W.heap.size W W1):iB w0 W1 f S (s.1,v,s.2.2.1,s.2.2.2) b1 Ir b5 b6 b7 Ik:=
 have hz:=h.b.size
 ⟨af h.b hb,λe=>Kd.R_below (h.r1 e) hb,λ_=>Kd.R_lower (Kd.R_mono hr (λk hk=>IT hz hk)) hz,λe=>⟨ag (h.h5 e).1 hb,(h.h5 e).2⟩,λe=>⟨ag (h.h6 e).1 hb,(h.h6 e).2⟩⟩
theorem iB.new5(h:iB w0 W f S s b1 b4 Ik b6 Ik b8):iB w0 (W.alloc (Is #[Ia Ih 0 0] 122)) f S (s.1,s.2.1,W.heap.size,s.2.2.2) b1 b4 Ir b6 Ik b8:=
 have hb:=ae (Il W.heap.size W) (Is #[Ia Ih 0 0] 122)
 ⟨af h.b hb,λe=>Kd.R_below (h.r1 e) hb,λe=>Kd.R_below (h.r4 e) hb,λ_=>⟨Iu W _,h.b.size⟩,λe=>⟨ag (h.h6 e).1 hb,(h.h6 e).2⟩⟩
theorem iB.new6(h:iB w0 W f S s b1 b4 b5 Ik b7 Ik):iB w0 (W.alloc (Is #[Ia Ih 0 0] 121)) f S (s.1,s.2.1,s.2.2.1,W.heap.size) b1 b4 b5 Ir b7 Ik:=
 have hb:=ae (Il W.heap.size W) (Is #[Ia Ih 0 0] 121)
 ⟨af h.b hb,λe=>Kd.R_below (h.r1 e) hb,λe=>Kd.R_below (h.r4 e) hb,λe=>⟨ag (h.h5 e).1 hb,(h.h5 e).2⟩,λ_=>⟨Iu W _,h.b.size⟩⟩
theorem iB.put7(h:iB w0 W f S s Ir Ir Ir Ir Ik b8):iB w0 (W.setCell ⟨s.2.2.1,0,Ih⟩ s.1) f S s Ir Ir Ir Ir Ir b8:=by
 obtain⟨h1,h2⟩:=h.h5 rfl;obtain⟨h3,h4⟩:=h.h6 rfl;have hne:s.2.2.2≠s.2.2.1:=λe=>by rw[e,h1]at h3;simp at h3
 refine⟨Fr.below h.b (Fr.cell (S:=λk=>k=s.2.2.1) rfl _) (λk hk q=>by omega) h.b.size,λ_=>Kd.R_set (h.r1 rfl) h1 (λq hq=>?_) 0 _,λ_=>Kd.R_set (h.r4 rfl) h1 (λq hq=>?_) 0 _,λ_=>⟨aR (L:=[_]) h1 0 _,h2⟩,λ_=>⟨bp h3 hne _,h4⟩⟩
 .have:q=149\/q=151:=by rcases I7.1 hq with e|e;exact .inl e;exact .inr (IS.1 e)
  omega
 .have:q=120\/q=143\/q=135:=by
   rcases I7.1 hq with e|e
   .exact .inl e
   .rcases I7.1 e with e|e
    .exact .inr (.inl e)
    .exact .inr (.inr (IS.1 e))
  omega
theorem iB.put8(h:iB w0 W f S s Ir Ir Ir Ir Ir Ik):iB w0 (W.setCell ⟨s.2.2.2,0,Ih⟩ s.2.1) f S s Ir Ir Ir Ir Ir Ir:=by
 obtain⟨h1,h2⟩:=h.h5 rfl;obtain⟨h3,h4⟩:=h.h6 rfl;have hne:s.2.2.1≠s.2.2.2:=λe=>by rw[e]at h1;rw[h1]at h3;simp at h3
 refine⟨Fr.below h.b (Fr.cell (S:=λk=>k=s.2.2.2) rfl _) (λk hk q=>by omega) h.b.size,λ_=>Kd.R_set (h.r1 rfl) h3 (λq hq=>?_) 0 _,λ_=>Kd.R_set (h.r4 rfl) h3 (λq hq=>?_) 0 _,λ_=>⟨bp h1 hne _,h2⟩,λ_=>⟨aR (L:=[_]) h3 0 _,h4⟩⟩
 .have:q=149\/q=151:=by rcases I7.1 hq with e|e;exact .inl e;exact .inr (IS.1 e)
  omega
 .have:q=120\/q=143\/q=135:=by
   rcases I7.1 hq with e|e
   .exact .inl e
   .rcases I7.1 e with e|e
    .exact .inr (.inl e)
    .exact .inr (.inr (IS.1 e))
  omega
end
end
end Go.Proofs.YtlinbehijfcelaaGreatDoor.Top
