/- Shuffle code is settled: parse, check, decide, tell, as the statement says. No condition. -/
import Derived.Below
import Derived.Deep.Draws
import Derived.Deep.AppendLies
import Derived.Maps.AppendAt
import Derived.OwnWalk
import Derived.Laws.BytesArg
import Derived.Laws.MakeOwn
import Derived.Laws.OwnMore
import Derived.Deep.OwnRows
import Derived.Tactics
import Derived.Lib.ConvBytes
import Derived.Laws.Slices
import Derived.WalkKit
import Derived.KernelRfl
import Derived.RowKit3
import Derived.Deep.LoopGhost
import Derived.Deep.QuietTactic
import Derived.BigQuiet
import Derived.WideLaws
import Derived.Deep.DeepCutAuto
import Derived.Deep.CutBlock
import Derived.Deep.RegionHeld3
import Derived.Laws.Rows
import Derived.Lib.AppendStr
import Derived.ArgAppend
import Derived.Laws.IdiomCopy
import Derived.RowKit
import Derived.OrdersHeld
import Derived.Laws.BitsLemmas
import Derived.Laws.StructEq
import Derived.Test.YtlinbehijfcelaaGreatDoorProg
import Derived.Deep.WholeRow
import Derived.Laws.CopyOwn
import Derived.Carry
import Derived.ChangeKeysEq
import Derived.Laws.RangeAny
import Derived.Deep.MidRow
import Derived.Laws.Tables
import Derived.StillTailTactics
import Derived.RangeFuncNested
import Derived.RangeFuncBound
import Derived.RangeFuncCalls
import Derived.RangeFuncLeaves
import Derived.Shelf.Abstract
import Derived.Shelf.RegionOpen
import Derived.OwnWalkIn
import Derived.TacticsInMore
import Derived.LoopNIn
import Derived.LoopIn
import Derived.Test.YtlinbehijfcelaaGreatDoorRows
import Derived.ProofKit
import Derived.LaidMore
import Derived.OpenShut
import Derived.Stop.Joined
import Derived.Deep.Slices
import Derived.SizedLaws
import Derived.ShutString
import Derived.ChangeOld
import Derived.SevenTiedAt
import Derived.Test.YtlinbehijfcelaaGreatDoorTie
import Derived.Test.YtlinbehijfcelaaGreatDoorCards
import Derived.Test.YtlinbehijfcelaaGreatDoorPA
import Derived.Test.YtlinbehijfcelaaGreatDoorPB
import Derived.Test.YtlinbehijfcelaaGreatDoorPC
import Derived.Test.YtlinbehijfcelaaGreatDoorPD
import Derived.Test.YtlinbehijfcelaaGreatDoorPE
import Derived.Test.YtlinbehijfcelaaGreatDoorPF
import Derived.Test.YtlinbehijfcelaaGreatDoorPG
import Derived.Test.YtlinbehijfcelaaGreatDoorPH
import Derived.Test.YtlinbehijfcelaaGreatDoorPI
import Derived.Test.YtlinbehijfcelaaGreatDoorPJ
import Derived.Test.YtlinbehijfcelaaGreatDoorPM
import Derived.Test.YtlinbehijfcelaaGreatDoorPO
import Derived.Test.YtlinbehijfcelaaGreatDoorPP
import Derived.Test.YtlinbehijfcelaaGreatDoorPQ
import Derived.Test.YtlinbehijfcelaaGreatDoorPR
import Derived.Test.YtlinbehijfcelaaGreatDoorPS
import Derived.Test.YtlinbehijfcelaaGreatDoorPT
set_option linter.unusedVariables false
set_option linter.unusedSimpArgs false
set_option linter.unusedSectionVars false
set_option maxHeartbeats 8000000
set_option maxRecDepth 100000
open Prod.mk renaming injEq->IM
open List.cons renaming injEq->Ke
open Option renaming map_eq_some_iff->Ks,map_some->Mu,none->Ih,some->Ic
open Bool renaming false->Ik,noConfusion->Ix,true->Ir
open List renaming all_eq_true->Jd,append_assoc->Kv,append_nil->JS,drop_eq_getElem_cons->Jc,ext_getElem?->JN,getD_eq_getElem?_getD->Ij,getElem?_append_left->Jg,getElem?_append_right->IW,getElem?_cons_zero->Mn,getElem?_eq_getElem->Ig,getElem?_eq_none->I0,getElem?_eq_none_iff->LR,getElem?_eq_some_iff->Ip,getElem?_map->IK,getElem?_of_mem->Kb,length_append->IV,length_map->Jb,length_singleton->LU,map_cons->Jt,map_nil->La,mem_cons_of_mem->Jm,mem_cons_self->JH,mem_map->JM,mem_of_getElem?->Iw,mem_range->Kq,nodup_nil->Li,not_mem_nil->JE,pairwise_iff_getElem->Ma,range->Jy,setIfInBounds_toArray->IP,set_cons_succ->IZ,set_cons_zero->IY,size_toArray->I8
open Option.some renaming inj->Ii,injEq->Ja
open Nat renaming le_refl->Iz,not_lt_zero->LG,zero_add->KB,zero_le->ID
open Int renaming toNat_natCast->IC
open Go renaming Calls->I9,DataW->Ls,IntKind->LP,Program->Jn,TypeId->Je,Value->Io,World->Im,heap_alloc_last->Iu,wpList_load_row->II
open Go.Proofs.Tryz renaming prog->If,underlying135->IN,underlying2->Mi,underlying22->Me,underlying3->Jr,underlying37->I4,underlying4->Md,underlying49->I6
open Go.RowKit renaming Below->It
open Go.RowKit.Below renaming refl->Il
open And renaming intro->IE
open Array renaming all_eq_true_iff_forall_mem->Jh,getElem?_eq_some_iff->IB
open Go.Act renaming put->KY
open Go.Value renaming cells->Mz,int->Ib
open Go.World renaming block_lt_of_cell?->J8
namespace Go.Proofs.YtlinbehijfcelaaGreatDoor.Top
open Go.RowKit Go.Proofs.YtlinbehijfcelaaGreatDoorW.PrintWords Go.Proofs.YtlinbehijfcelaaGreatDoorW.PrintLast
section
def vwN(y:In)(s:Sym):Int×Int×Sym:=if s=.no then(0,0,.no)else(y.op,if y.op=15 then y.n else 0,s)
def vwT(t:List (Int×Sym)×Sym):List (Int×Int×Sym):=t.1.map (λe=>(15,e.1,e.2))++[if t.2=.no then(0,0,.no)else(18,0,t.2)]
theorem Ep{t u:List (Int×Sym)×Sym}(h:vwT t=vwT u):t=u:=by
 unfold vwT at h;obtain⟨h1,h2⟩:=List.append_inj' h rfl;have e1:t.1=u.1:=List.map_inj_right (λa b e=>by simp only[IM,true_and]at e;exact Prod.ext e.1 e.2) |>.1 h1
 have e2:t.2=u.2:=by
  simp only[Ke,and_true]at h2;by_cases a:t.2=.no<;>by_cases b:u.2=.no<;>simp[a,b]at h2 ⊢;exact h2
 exact Prod.ext e1 e2
def vwD(f:List In)(d:Nat×List Sym):Int×Int×Sym:=vwN (f.getD d.1 In.zero) (d.2.getD (f.getD d.1 In.zero).a.toNat .no)
theorem sZ{f:List In}(h:eh f)(c:List Bool):∀(m k:Nat) (L:List Sym) (p:Nat),f.length-k<=m->k<f.length->
  (∀(d:Nat×List Sym) (y:In),d∈ndS c (f.drop k) k L p->f[d.1]?=Ic y->(c.getD d.1 Ik=Ir↔d.2.getD y.a.toNat .no=.no))->(ndS c (f.drop k) k L p).map (vwD f)=vwT (trS (f.drop k) L p)
 |0,k,_,_,h0,h1,_=>by omega
 |m+1,k,L,p,h0,h1,hc=>by
  obtain⟨x,hx⟩:∃x,f[k]?=Ic x:=⟨_,Ig h1⟩;have hg:f.getD k In.zero=x:=by rw[Ij,hx];rfl
  have hop:=h.op x (Iw hx);by_cases hm:x.op=15\/x.op=18
  .have hd:=lJ c hx hm L p
   rw[hd]at hc ⊢;have hk:=hc (k,L) x JH hx;rw[eh.cons hx,trS];by_cases hs:L.getD x.a.toNat .no=.no
   .have hct:=hk.2 hs
    have hct:c.getD k Ik=Ir:=hct;rw[if_neg (λq=>by rw[hct]at q;exact Ix q.2)];have hv:vwD f (k,L)=(0,0,.no):=by unfold vwD vwN;simp only;rw[hg,if_pos hs]
    rw[Jt,La,hv];rcases hm with e|e
    .rw[if_pos e,if_pos hs];rfl
    .rw[if_neg (by omega),if_pos e,hs];rfl
   .have hv:vwD f (k,L)=(x.op,if x.op=15 then x.n else 0,L.getD x.a.toNat .no):=by unfold vwD vwN;simp only;rw[hg,if_neg hs]
    by_cases e:x.op=15
    .have hct:c.getD k Ik=Ik:=by
      cases q:c.getD k Ik with
      |true=>exact absurd (hk.1 q) hs
      |false=>rfl
     rw[if_pos ⟨e,hct⟩]at hc ⊢;rw[if_pos e,e]at hv;rw[if_pos e,if_neg hs,Jt,hv,sZ h c m (k+1) _ _ (by omega) (h.next hx (by omega)) (λd y hd=>hc d y (Jm _ hd))];rfl
    .have e18:x.op=18:=by omega
     rw[if_neg e,e18]at hv;rw[if_neg (λq=>e q.1),if_neg e,if_pos e18,Jt,hv];unfold vwT;simp only;rw[if_neg hs];rfl
  .have e1:ndS c (f.drop k) k L p=ndS c (f.drop (k+1)) (k+1) (jx L x) p:=by
    rw[eh.cons hx,ndS,if_neg (by omega),if_neg (by omega)]
   rw[e1]at hc ⊢;rw[eh.cons hx,trS,if_neg (by omega),if_neg (by omega)];exact sZ h c m (k+1) _ _ (by omega) (h.next hx (by omega)) hc
def BJ(i:Nat)(Q:List (Nat×Sym)):Sym->Src×List (Nat×Sym)
 |.no=>(⟨0,0⟩,Q)
 |.num m=>(⟨2,m⟩,Q)
 |s=>(⟨4,((bN Q (i,s)).1:Int)⟩,(bN Q (i,s)).2)
def jX(N i:Nat)(v:Int×Int×Sym)(Q:List (Nat×Sym)):fi×List (Nat×Sym):=
 if v.2.2=.no then(⟨0,0,[],[]⟩,Q)else(⟨v.1,v.2.1,[(BJ i Q v.2.2).1],if i+1<N then [(i:Int)+1]else []⟩,(BJ i Q v.2.2).2)
def dA(N:Nat):List (Int×Int×Sym)->Nat->List (Nat×Sym)->List fi×List (Nat×Sym)
 | [],_,Q=>([],Q)
 |v::vs,i,Q=>((jX N i v Q).1::(dA N vs (i+1) (jX N i v Q).2).1,(dA N vs (i+1) (jX N i v Q).2).2)
def jM:Nat->Sym->List (Nat×Sym)->Src×List (Nat×Sym)
 |0,.reg r,Q=>(⟨1,(r:Int)⟩,Q)
 |0,_,Q=>(⟨0,0⟩,Q)
 |j+1,s,Q=>if s=.res j then(⟨3,0⟩,Q)else(⟨4,((bN Q (j,s)).1:Int)⟩,(bN Q (j,s)).2)
def r5:Nat->Nat->List (Nat×Sym)->List kO
 |0,_,_=>[]
 |k+1,i,Q=>match Q[i]? with
  |none=>[]
  |some p=>⟨(p.1:Int),[(jM p.1 p.2 Q).1]⟩::r5 k (i+1) (jM p.1 p.2 Q).2
def kX:Nat->Nat->List (Nat×Sym)->List (Nat×Sym)
 |0,_,Q=>Q
 |k+1,i,Q=>match Q[i]? with
  |none=>Q
  |some p=>kX k (i+1) (jM p.1 p.2 Q).2
def vq(V:List (Int×Int×Sym)):kV:=⟨0,(dA V.length V 0 []).1,r5 (V.length*24+1) 0 (dA V.length V 0 []).2⟩
theorem vk{α β:Type}[DecidableEq α][DecidableEq β]{x:α}{y:β}:∀(L:List α) (M:List β),L.length=M.length->(∀(i:Nat) (a:α) (b:β),L[i]?=Ic a->M[i]?=Ic b->(a=x↔b=y))->jl L x=jl M y
 | [],[],_,_=>rfl
 | [],_::_,h,_=>by simp at h
 |_::_,[],h,_=>by simp at h
 |a::L,b::M,h,he=>by
  have ih:=vk L M (by simpa using h) (λi a b h1 h2=>he (i+1) a b h1 h2);have h0:=he 0 a b rfl rfl;unfold jl at ih ⊢;rw[List.findIdx?_cons,List.findIdx?_cons,ih];by_cases q:a=x
  .rw[if_pos (by simpa using q),if_pos (by simpa using h0.1 q)]
  .rw[if_neg (by simpa using q),if_neg (by simpa using λe=>q (h0.2 e))]
section
variable{f:List In}(h:eh f){c:List Bool}{S:bj}{D:List (Nat×List Sym)}(hs:SK f c S D){F:List (List Src)}(hF:rq f S F)
def MQ(f:List In)(S:bj)(F:List (List Src))(D:List (Nat×List Sym))(m:dl)(Q:List (Nat×Sym)):Prop:=m.cs.length=Q.length/\m.ps.length=Q.length/\∀(i:Nat) (q:Nat×Sym),Q[i]?=Ic q->∃(l:Nat),l<24/\q.1<D.length/\m.ps[i]?=Ic ((q.1:Int),(l:Int))/\m.cs[i]?=Ic (rJ f S F q.1 l)/\stS D q.1 l=q.2/\j0 q.2=Ir
include h hs hF
theorem yW{m:dl}{Q:List (Nat×Sym)}(hm:MQ f S F D m Q){n l:Nat}(hn:n<D.length)(hl:l<24){s:Sym}(hse:stS D n l=s)(hv:j0 s=Ir) :
  eK (aV (cQ f S F)) (n:Int) ⟨4,(l:Int)⟩ m=(⟨4,((bN Q (n,s)).1:Int)⟩,m.add (rJ f S F n l) n l)/\MQ f S F D (m.add (rJ f S F n l) n l) (bN Q (n,s)).2:=by
 obtain⟨h1,h2,h3⟩:=hm;have hix:jl m.cs (rJ f S F n l)=jl Q (n,s):=by
  refine vk _ _ h1 (λi a b ha hb=>?_);obtain⟨l',e1,e2,e3,e4,e5,e6⟩:=h3 i b hb;rw[e4]at ha;obtain rfl:=Ii ha;rw[Fj h hs hF e2 e1 hn hl (by rw[e5];exact e6) (by rw[hse];exact hv),e5,hse];constructor
  .rintro⟨q1,q2⟩;exact Prod.ext q1 q2
  .rintro rfl;exact⟨rfl,rfl⟩
 have hc:(aV (cQ f S F)).getD ((n:Int)*24+(l:Int)).toNat 0=rJ f S F n l:=by
  unfold rJ;rw[show((n:Int)*24+(l:Int)).toNat=n*24+l by omega]
 constructor
 .unfold eK
  rw[if_pos rfl];simp only;rw[hc];unfold bN;rw[hix];cases jl Q (n,s)with
  |some i=>rfl
  |none=>simp only;rw[h1]
 .unfold dl.add bN
  rw[hix];cases jl Q (n,s)with
  |some i=>exact⟨h1,h2,h3⟩
  |none=>
   refine⟨by simp[h1],by simp[h2],λi q hq=>?_⟩;by_cases hi:i<Q.length
   .rw[Jg hi]at hq
    obtain⟨l',e1,e2,e3,e4,e5⟩:=h3 i q hq;exact⟨l',e1,e2,gG rfl e3,gG rfl e4,e5⟩
   .have hi2:=(Ip.1 hq).1
    rw[IV,LU]at hi2;obtain rfl:i=Q.length:=by omega
    rw[IW (Iz _),Nat.sub_self,Mn]at hq;obtain rfl:=Ii hq;exact⟨l,hl,hn,by simp[<-h2],by simp[<-h1],hse,hv⟩
theorem FZ{m:dl}{Q:List (Nat×Sym)}(hm:MQ f S F D m Q){n l:Nat}(hn:n<D.length)(hl:l<24){s:Sym}(hse:stS D n l=s) :
  (eK (aV (cQ f S F)) (n:Int) (dg F n l) m).1=(BJ n Q s).1/\MQ f S F D (eK (aV (cQ f S F)) (n:Int) (dg F n l) m).2 (BJ n Q s).2:=by
 rw[(j9 h hs hF n hn l hl).1,hse];cases s with
 |no=>exact⟨rfl,hm⟩
 |num k=>exact⟨rfl,hm⟩
 |reg r=>obtain⟨e1,e2⟩:=yW h hs hF hm hn hl hse rfl;unfold qP kw;rw[e1];exact⟨rfl,e2⟩
 |res p=>obtain⟨e1,e2⟩:=yW h hs hF hm hn hl hse rfl;unfold qP kw;rw[e1];exact⟨rfl,e2⟩
theorem FY{m:dl}{Q:List (Nat×Sym)}(hm:MQ f S F D m Q){n l:Nat}(hn:n<D.length)(hl:l<24){s:Sym}(hse:stS D n l=s)(hv:j0 s=Ir) :
  (dL f S F (aV (cQ f S F)) l ((a7 S).getD n []) m).1=[(jM n s Q).1]/\MQ f S F D (dL f S F (aV (cQ f S F)) l ((a7 S).getD n []) m).2 (jM n s Q).2:=by
 have hx:=ph h hs hn hl F (λj hj k hk=>by subst hj;exact j9 h hs hF j (by omega) k hk);rw[hse]at hx;rw[hs.way n hn];unfold dL dL;simp only;generalize c_ F ((n:Int)-1,0) (dq f S ((n:Int)-1,0) l)=x at hx;have far:∀(j k:Nat),n=j+1->k<24->x=⟨4,(k:Int)⟩->stS D j k=s->s≠.res j->[(eK (aV (cQ f S F)) ((n:Int)-1) x m).1]=[(jM n s Q).1]/\MQ f S F D (eK (aV (cQ f S F)) ((n:Int)-1) x m).2 (jM n s Q).2:=by
  rintro j k rfl hk rfl hst hne;obtain⟨e1,e2⟩:=yW h hs hF hm (by omega) hk hst hv;rw[show((j+1:Nat):Int)-1=(j:Int) by omega,e1];have hw:jM (j+1) s Q=(⟨4,((bN Q (j,s)).1:Int)⟩,(bN Q (j,s)).2):=if_neg hne;rw[hw];exact⟨rfl,e2⟩
 cases s with
 |no=>exact Ix hv
 |num k=>exact Ix hv
 |reg r=>
  rcases hx with⟨rfl,_,rfl⟩|⟨j,k,e1,e2,e3,e4⟩
  .exact⟨rfl,hm⟩
  .exact far j k e1 e2 e3 e4 (λe=>by cases e)
 |res p=>
  rcases hx with⟨rfl,rfl⟩|⟨j,k,e1,e0,e2,e3,e4⟩
  .have hw:jM (p+1) (.res p) Q=(⟨3,0⟩,Q):=if_pos rfl
   rw[hw];exact⟨rfl,hm⟩
  .exact far j k e1 e2 e3 e4 (λe=>by cases e;omega)
theorem Au:∀(k i:Nat) (m:dl) (Q:List (Nat×Sym)),MQ f S F D m Q->fx f S F (aV (cQ f S F)) k i m=r5 k i Q/\∃m',MQ f S F D m' (kX k i Q)
 |0,_,m,_,hm=>⟨rfl,m,hm⟩
 |k+1,i,m,Q,hm=>by
  unfold fx r5 kX;cases hq:Q[i]? with
  |none=>
   have:m.ps[i]?=Ih:=I0 (by rw[hm.2.1];exact LR.1 hq);rw[this];exact⟨rfl,m,hm⟩
  |some q=>
   obtain⟨l,e1,e2,e3,e4,e5,e6⟩:=hm.2.2 i q hq;rw[e3];simp only[IC];obtain⟨d1,d2⟩:=FY h hs hF hm e2 e1 e5 e6;obtain⟨f1,f2⟩:=Au k (i+1) _ _ d2;rw[d1,f1];exact⟨rfl,f2⟩
end
theorem ox{f:List In}(h:eh f):bK f=vq (vwT (iF f))/\∃(c:List Bool) (S:bj) (F:List (List Src)) (D:List (Nat×List Sym)) (m:dl),SK f c S D/\rq f S F/\vwT (iF f)=D.map (vwD f)/\MQ f S F D m (kX ((vwT (iF f)).length*24+1) 0 (dA (vwT (iF f)).length (vwT (iF f)) 0 []).2):=by
 have hs:=kj h (aZ f);have hF:=iw f (aJ f (aZ f));have hcut:∀(d:Nat×List Sym) (y:In),d∈ndS (aZ f) f 0 ei 0->f[d.1]?=Ic y->((aZ f).getD d.1 Ik=Ir↔d.2.getD y.a.toNat .no=.no):=by
  intro d y hd hy;obtain⟨i,hi⟩:=Kb hd;exact DX h hi hy
 have hv:(ndS (aZ f) f 0 ei 0).map (vwD f)=vwT (iF f):=sZ h (aZ f) f.length 0 ei 0 (Nat.sub_le ..) (bu h.r).pos hcut;rw[<-hv];generalize hD:ndS (aZ f) f 0 ei 0=D at hs hcut;obtain⟨T,eT,_⟩:=hs.ent;have hnodes:∀(k i:Nat) (m:dl) (Q:List (Nat×Sym)),i+k=D.length->MQ f (aJ f (aZ f)) (bD f (aJ f (aZ f))) D m Q->
   (dp f (aZ f) (aV (cQ f (aJ f (aZ f)) (bD f (aJ f (aZ f))))) (bD f (aJ f (aZ f))) ((aJ f (aZ f)).nodes.drop i) i m).1=(dA D.length ((D.map (vwD f)).drop i) i Q).1/\
   MQ f (aJ f (aZ f)) (bD f (aJ f (aZ f))) D (dp f (aZ f) (aV (cQ f (aJ f (aZ f)) (bD f (aJ f (aZ f))))) (bD f (aJ f (aZ f))) ((aJ f (aZ f)).nodes.drop i) i m).2 (dA D.length ((D.map (vwD f)).drop i) i Q).2:=by
  intro k
  induction k with
  |zero=>
   intro i m Q hi hm;rw[List.drop_eq_nil_of_le (by rw[<-hs.len];omega),List.drop_eq_nil_of_le (by simp;omega)];exact⟨rfl,hm⟩
  |succ k ih=>
   intro i m Q hi hm;obtain⟨d,hd⟩:∃d,D[i]?=Ic d:=⟨_,Ig (by omega)⟩;obtain⟨x,y,n1,n2,n3,n4,n5,n6,n7⟩:=hs.nod i d hd;have hy:=(h.ok n2).a;have hgy:f.getD d.1 In.zero=y:=by rw[Ij,n2];rfl
   have hc:=hcut d y (Iw hd) n2;have hst:=pg hd y.a.toNat;have hx:(aJ f (aZ f)).nodes.drop i=x::(aJ f (aZ f)).nodes.drop (i+1):=by
    obtain⟨q1,q2⟩:=Ip.1 n1;rw[Jc q1,q2]
   have hvd:(D.map (vwD f)).drop i=vwD f d::(D.map (vwD f)).drop (i+1):=by
    have:(D.map (vwD f))[i]?=Ic (vwD f d):=by rw[IK,hd];rfl
    obtain⟨q1,q2⟩:=Ip.1 this;rw[Jc q1,q2]
   rw[hx,hvd];unfold dp dA;simp only;have hnode:(jO f (aZ f) (aV (cQ f (aJ f (aZ f)) (bD f (aJ f (aZ f))))) (bD f (aJ f (aZ f))) i x m).1=(jX D.length i (vwD f d) Q).1/\
     MQ f (aJ f (aZ f)) (bD f (aJ f (aZ f))) D (jO f (aZ f) (aV (cQ f (aJ f (aZ f)) (bD f (aJ f (aZ f))))) (bD f (aJ f (aZ f))) i x m).2 (jX D.length i (vwD f d) Q).2:=by
    unfold jO;simp only;rw[n3,IC,hgy];by_cases hz:d.2.getD y.a.toNat .no=.no
    .have hct:=hc.2 hz
     have hvw:vwD f d=(0,0,.no):=by unfold vwD vwN;rw[hgy,if_pos hz]
     have hlast:D[i+1]?=Ih:=by
      cases e:D[i+1]? with
      |none=>rfl
      |some d'=>have:=(n7 d' e).2.1;rw[hct]at this;exact Ix this
     rw[if_pos hct,hvw];unfold jX;rw[if_pos rfl,(n6 hlast).1];exact⟨rfl,hm⟩
    .have hct:¬(aZ f).getD d.1 Ik=Ir:=λq=>hz (hc.1 q)
     have hvw:vwD f d=(y.op,if y.op=15 then y.n else 0,d.2.getD y.a.toNat .no):=by unfold vwD vwN;rw[hgy,if_neg hz]
     rw[if_neg hct,hvw,uj h n2 n5];obtain⟨a1,a2⟩:=FZ h hs hF hm (n:=i) (l:=y.a.toNat) (by omega) (by omega) hst;unfold jX dH dH;simp only;rw[if_neg hz];refine⟨?_,a2⟩;simp only;rw[a1];congr 1;cases e:D[i+1]? with
     |none=>rw[(n6 e).1,if_neg (by have:=LR.1 e;omega)];rfl
     |some d'=>
      obtain⟨_,_,T',o1,_⟩:=n7 d' e;rw[o1,if_pos (Ip.1 e).1];rfl
   obtain⟨e1,e2⟩:=ih (i+1) _ _ (by omega) hnode.2;rw[hnode.1,e1];exact⟨rfl,e2⟩
 obtain⟨e1,e2⟩:=hnodes D.length 0 ⟨[],[]⟩ [] (by omega) ⟨rfl,rfl,λi q hq=>by simp at hq⟩;rw[List.drop_zero,List.drop_zero]at e1 e2;obtain⟨v1,m',v2⟩:=Au h hs hF (D.length*24+1) 0 _ _ e2;refine⟨?_,_,_,_,D,m',hs,hF,rfl,by rw[Jb];exact v2⟩;unfold bK vq;simp only;rw[eT,Jb,e1,<-hs.len,v1]
end
theorem p_(n:Nat)(s:Sym)(Q:List (Nat×Sym)):(∃l,(jM n s Q).2=Q++l)/\(Q.Nodup->(jM n s Q).2.Nodup):=by
 cases n with
 |zero=>cases s<;>exact⟨⟨[],(JS _).symm⟩,id⟩
 |succ j=>
  by_cases q:s=.res j
  .have hw:jM (j+1) s Q=(⟨3,0⟩,Q):=if_pos q
   rw[hw];exact⟨⟨[],(JS _).symm⟩,id⟩
  .have hw:jM (j+1) s Q=(⟨4,((bN Q (j,s)).1:Int)⟩,(bN Q (j,s)).2):=if_neg q
   rw[hw];obtain⟨l,e,_⟩:=ej Q (j,s);exact⟨⟨l,e⟩,λh=>fd h _⟩
theorem jb:∀(k i:Nat) (Q:List (Nat×Sym)),(∃l,kX k i Q=Q++l)/\(Q.Nodup->(kX k i Q).Nodup)
 |0,_,_=>⟨⟨[],(JS _).symm⟩,id⟩
 |k+1,i,Q=>by
  unfold kX;cases Q[i]? with
  |none=>exact⟨⟨[],(JS _).symm⟩,id⟩
  |some p=>
   obtain⟨⟨l,e⟩,n⟩:=p_ p.1 p.2 Q;obtain⟨⟨l',e'⟩,n'⟩:=jb k (i+1) (jM p.1 p.2 Q).2;exact⟨⟨l++l',by simp only;rw[e',e,Kv]⟩,λh=>n' (n h)⟩
def G0(Q:List (Nat×Sym))(a:Src):Nat->Sym->Prop
 |0,.reg r=>a=⟨1,(r:Int)⟩
 |0,_=>True
 |j+1,s=>(s=.res j/\a=⟨3,0⟩)\/∃i:Nat,a=⟨4,(i:Int)⟩/\Q[i]?=Ic (j,s)
theorem Dc(n:Nat)(s:Sym)(Q:List (Nat×Sym)){Q':List (Nat×Sym)}{l:List (Nat×Sym)}(h:Q'=(jM n s Q).2++l):G0 Q' (jM n s Q).1 n s:=by
 cases n with
 |zero=>cases s<;>first|exact rfl|trivial
 |succ j=>
  by_cases q:s=.res j
  .have hw:jM (j+1) s Q=(⟨3,0⟩,Q):=if_pos q
   rw[hw];exact .inl ⟨q,rfl⟩
  .have hw:jM (j+1) s Q=(⟨4,((bN Q (j,s)).1:Int)⟩,(bN Q (j,s)).2):=if_neg q
   rw[hw]at h ⊢;exact .inr ⟨_,rfl,gG h (gA Q (j,s))⟩
theorem qc:∀(k i:Nat) (Q:List (Nat×Sym)),(kX k i Q).length<i+k->∀(j:Nat) (q:Nat×Sym),(kX k i Q)[i+j]?=Ic q->∃a,(r5 k i Q)[j]?=Ic ⟨(q.1:Int),[a]⟩/\G0 (kX k i Q) a q.1 q.2
 |0,i,Q,hk,j,q,hq=>by have:=(Ip.1 hq).1;omega
 |k+1,i,Q,hk,j,q,hq=>by
  unfold kX at hk hq ⊢;unfold r5;cases hp:Q[i]? with
  |none=>
   rw[hp]at hq;simp only at hq;have h1:=(Ip.1 hq).1;have h2:=LR.1 hp;omega
  |some p=>
   rw[hp]at hq hk;simp only at hq hk ⊢;obtain⟨⟨l,e⟩,_⟩:=jb k (i+1) (jM p.1 p.2 Q).2;cases j with
   |zero=>
    obtain⟨⟨l',e'⟩,_⟩:=p_ p.1 p.2 Q;have:(kX k (i+1) (jM p.1 p.2 Q).2)[i]?=Ic p:=gG e (gG e' hp);obtain rfl:=Ii (this.symm.trans hq);exact⟨_,rfl,Dc _ _ _ e⟩
   |succ j=>
    obtain⟨a,a1,a2⟩:=qc k (i+1) (jM p.1 p.2 Q).2 (by omega) j q (by rw[show i+1+j=i+(j+1) by omega];exact hq);exact⟨a,a1,a2⟩
theorem yR(i:Nat)(Q:List (Nat×Sym))(s:Sym):(∃l,(BJ i Q s).2=Q++l)/\(Q.Nodup->(BJ i Q s).2.Nodup):=by
 have key:∃l,(bN Q (i,s)).2=Q++l:=by obtain⟨l,e,_⟩:=ej Q (i,s);exact⟨l,e⟩
 cases s with
 |no=>exact⟨⟨[],(JS _).symm⟩,id⟩
 |num m=>exact⟨⟨[],(JS _).symm⟩,id⟩
 |reg r=>exact⟨key,λh=>fd h _⟩
 |res p=>exact⟨key,λh=>fd h _⟩
theorem uB(N i:Nat)(v:Int×Int×Sym)(Q:List (Nat×Sym)):(∃l,(jX N i v Q).2=Q++l)/\(Q.Nodup->(jX N i v Q).2.Nodup):=by
 unfold jX;split
 .exact⟨⟨[],(JS _).symm⟩,id⟩
 .exact yR i Q v.2.2
theorem gz(N:Nat):∀(V:List (Int×Int×Sym)) (i:Nat) (Q:List (Nat×Sym)),(∃l,(dA N V i Q).2=Q++l)/\(Q.Nodup->(dA N V i Q).2.Nodup)/\(dA N V i Q).1.length=V.length
 | [],_,_=>⟨⟨[],(JS _).symm⟩,id,rfl⟩
 |v::V,i,Q=>by
  obtain⟨⟨l,e⟩,n⟩:=uB N i v Q;obtain⟨⟨l',e'⟩,n',k⟩:=gz N V (i+1) (jX N i v Q).2;unfold dA;exact⟨⟨l++l',by simp only;rw[e',e,Kv]⟩,λh=>n' (n h),by simp[k]⟩
def Hq(Q:List (Nat×Sym))(i:Nat)(x:fi)(v:Int×Int×Sym):Prop:=(v.2.2=.no/\x.args=[])\/(v.2.2≠.no/\x.op=v.1/\x.n=v.2.1/\((∃m,v.2.2=.num m/\x.args=[⟨2,m⟩])\/∃j:Nat,x.args=[⟨4,(j:Int)⟩]/\Q[j]?=Ic (i,v.2.2)))
theorem nX(N:Nat):∀(V:List (Int×Int×Sym)) (i:Nat) (Q Q' l:List (Nat×Sym)),Q'=(dA N V i Q).2++l->∀(j:Nat) (v:Int×Int×Sym),V[j]?=Ic v->∃x,(dA N V i Q).1[j]?=Ic x/\Hq Q' (i+j) x v
 | [],_,_,_,_,_,j,v,hv=>by simp at hv
 |w::V,i,Q,Q',l,hQ,j,v,hv=>by
  unfold dA at hQ ⊢;cases j with
  |zero=>
   obtain rfl:=Ii hv;refine⟨_,rfl,?_⟩;obtain⟨⟨l',e'⟩,_⟩:=gz N V (i+1) (jX N i w Q).2;simp only at hQ;rw[e',Kv]at hQ;revert hQ;generalize l'++l=l2;intro hQ;unfold jX at hQ ⊢;by_cases q:w.2.2=.no
   .rw[if_pos q]
    exact .inl ⟨q,rfl⟩
   .rw[if_neg q]at hQ ⊢
    refine .inr ⟨q,rfl,rfl,?_⟩;revert hQ q;generalize w.2.2=s;intro hQ q;cases s with
    |no=>exact absurd rfl q
    |num m=>exact .inl ⟨m,rfl,rfl⟩
    |reg r=>exact .inr ⟨_,rfl,gG hQ (gA Q (i,.reg r))⟩
    |res p=>exact .inr ⟨_,rfl,gG hQ (gA Q (i,.res p))⟩
  |succ j=>
   rw[show i+(j+1)=i+1+j by omega];exact nX N V (i+1) _ Q' l hQ j v hv
structure QOk(V:List (Int×Int×Sym)):Prop where
 few:(kX (V.length*24+1) 0 (dA V.length V 0 []).2).length<=V.length*24
 ok:∀q∈kX (V.length*24+1) 0 (dA V.length V 0 []).2,j0 q.2=Ir/\∀p,q.2=.res p->p<q.1
 no:∀v∈V,v.2.2=.no->v=(0,0,.no)
theorem Cd{V V':List (Int×Int×Sym)}(hV:QOk V)(hV':QOk V')(h:vq V=vq V'):V=V':=by
 unfold vq at h;simp only[kV.mk.injEq,true_and]at h;obtain⟨h1,h2⟩:=h;have hlen:V.length=V'.length:=by
  have:=congrArg List.length h1
  rwa[(gz _ _ _ _).2.2,(gz _ _ _ _).2.2]at this
 obtain⟨⟨l1,e1⟩,_⟩:=jb (V.length*24+1) 0 (dA V.length V 0 []).2;obtain⟨⟨l2,e2⟩,_⟩:=jb (V'.length*24+1) 0 (dA V'.length V' 0 []).2;have a1:=nX V.length V 0 [] _ l1 e1;have a2:=nX V'.length V' 0 [] _ l2 e2;have b1:=qc (V.length*24+1) 0 (dA V.length V 0 []).2 (by have:=hV.few;omega);have b2:=qc (V'.length*24+1) 0 (dA V'.length V' 0 []).2 (by have:=hV'.few;omega);have c1:=hV.ok;have c2:=hV'.ok;rw[h1]at a1;rw[h2]at b1;generalize kX (V.length*24+1) 0 (dA V.length V 0 []).2=Q1 at *;generalize kX (V'.length*24+1) 0 (dA V'.length V' 0 []).2=Q2 at *;have key:∀(n i:Nat) (s:Sym) (q:Nat×Sym),Q1[i]?=Ic (n,s)->Q2[i]?=Ic q->(n,s)=q:=by
  intro n
  induction n with
  |zero=>
   intro i s q h1 h2;obtain⟨x,x1,x2⟩:=b1 i (0,s) (by rw[KB];exact h1);obtain⟨y,y1,y2⟩:=b2 i q (by rw[KB];exact h2);rw[x1]at y1;simp only[Ja,kO.mk.injEq,Ke,and_true]at y1;obtain⟨z1,rfl⟩:=y1;obtain⟨n',s'⟩:=q;obtain rfl:n'=0:=by have z1:((0:Nat):Int)=(n':Int):=z1;omega
   have o1:=c1 _ (Iw h1);have o2:=c2 _ (Iw h2);cases s with
   |no=>exact Ix o1.1
   |num m=>exact Ix o1.1
   |res p=>exact absurd (o1.2 p rfl) (LG _)
   |reg r=>
    cases s' with
    |no=>exact Ix o2.1
    |num m=>exact Ix o2.1
    |res p=>exact absurd (o2.2 p rfl) (LG _)
    |reg r'=>
     have x2:x=⟨1,(r:Int)⟩:=x2;have y2:x=⟨1,(r':Int)⟩:=y2;rw[x2]at y2;simp only[Src.mk.injEq,true_and]at y2;rw[show r=r' by omega]
  |succ n ih=>
   intro i s q h1 h2;obtain⟨x,x1,x2⟩:=b1 i (n+1,s) (by rw[KB];exact h1);obtain⟨y,y1,y2⟩:=b2 i q (by rw[KB];exact h2);rw[x1]at y1;simp only[Ja,kO.mk.injEq,Ke,and_true]at y1;obtain⟨z1,rfl⟩:=y1;obtain⟨n',s'⟩:=q;obtain rfl:n'=n+1:=by have z1:((n+1:Nat):Int)=(n':Int):=z1;omega
   rcases x2 with⟨rfl,x3⟩|⟨j,x3,x4⟩<;>rcases y2 with⟨y4,y3⟩|⟨j',y3,y4⟩
   .rw[show s'=.res n from y4]
   .rw[x3]at y3;simp at y3
   .rw[x3]at y3;simp at y3
   .rw[x3]at y3
    simp only[Src.mk.injEq,true_and]at y3;obtain rfl:j=j':=by omega
    have:=ih j s (n,s') x4 y4;simp only[IM,true_and]at this;rw[this]
 apply JN;intro j;by_cases hj:j<V.length
 .obtain⟨v,hv⟩:∃v,V[j]?=Ic v:=⟨_,Ig hj⟩
  obtain⟨v',hv'⟩:∃v,V'[j]?=Ic v:=⟨_,Ig (by omega)⟩;obtain⟨x,x1,x2⟩:=a1 j v hv;obtain⟨y,y1,y2⟩:=a2 j v' hv';rw[x1]at y1;obtain rfl:=Ii y1;rw[hv,hv'];rcases x2 with⟨x3,x4⟩|⟨x3,x4,x5,x6⟩<;>rcases y2 with⟨y3,y4⟩|⟨y3,y4,y5,y6⟩
  .rw[hV.no v (Iw hv) x3,hV'.no v' (Iw hv') y3]
  .exfalso
   rcases y6 with⟨m,_,e⟩|⟨i,e,_⟩<;>rw[x4]at e<;>simp at e
  .exfalso
   rcases x6 with⟨m,_,e⟩|⟨i,e,_⟩<;>rw[y4]at e<;>simp at e
  .congr 1
   refine Prod.ext (x4.symm.trans y4) (Prod.ext (x5.symm.trans y5) ?_);rcases x6 with⟨m,q1,q2⟩|⟨i,q1,q2⟩<;>rcases y6 with⟨m',q1',q2'⟩|⟨i',q1',q2'⟩
   .rw[q2]at q2'
    simp at q2';rw[q1,q1',q2']
   .rw[q2]at q1';simp at q1'
   .rw[q1]at q2';simp at q2'
   .rw[q1]at q1'
    simp at q1';obtain rfl:i=i':=by omega
    have:=key _ _ _ _ q2 q2';simp only[IM,true_and]at this;exact this
 .rw[I0 (by omega),I0 (by omega)]
theorem uz{f:List In}(h:eh f):QOk (vwT (iF f)):=by
 obtain⟨_,c,S,F,D,m,hs,hF,hV,h1,h2,h3⟩:=ox h;have hlen:(vwT (iF f)).length=D.length:=by rw[hV,Jb]
 have hnd:(kX ((vwT (iF f)).length*24+1) 0 (dA (vwT (iF f)).length (vwT (iF f)) 0 []).2).Nodup:=(jb _ _ _).2 ((gz _ _ _ _).2.1 Li);refine⟨?_,λq hq=>?_,λv hv hn=>?_⟩
 .generalize kX ((vwT (iF f)).length*24+1) 0 (dA (vwT (iF f)).length (vwT (iF f)) 0 []).2=Q at *
  have hsub:(m.ps.map λp=>(p.1*24+p.2).toNat) ⊆ Jy (D.length*24):=by
   intro x hx;obtain⟨p,hp,rfl⟩:=JM.1 hx;obtain⟨i,hi⟩:=Kb hp;obtain⟨q,hq⟩:∃q,Q[i]?=Ic q:=⟨_,Ig (by rw[<-h2];exact(Ip.1 hi).1)⟩;obtain⟨l,e1,e2,e3,_⟩:=h3 i q hq;rw[hi]at e3;obtain rfl:=Ii e3;exact Kq.2 (by simp only;omega)
  have hn2:(m.ps.map λp=>(p.1*24+p.2).toNat).Nodup:=by
   unfold List.Nodup;rw[Ma];intro i j hi hj hij e;rw[Jb]at hi hj;rw[List.getElem_map,List.getElem_map]at e;obtain⟨q,hq⟩:∃q,Q[i]?=Ic q:=⟨_,Ig (by rw[<-h2];exact hi)⟩;obtain⟨q',hq'⟩:∃q,Q[j]?=Ic q:=⟨_,Ig (by rw[<-h2];exact hj)⟩;obtain⟨l,e1,e2,e3,e4,e5,e6⟩:=h3 i q hq;obtain⟨l',d1,d2,d3,d4,d5,d6⟩:=h3 j q' hq';rw[Ig hi]at e3;rw[Ig hj]at d3;rw[Ii e3,Ii d3]at e;simp only at e;have a1:q.1=q'.1:=by omega
   have a2:l=l':=by omega
   have:q=q':=Prod.ext a1 (by rw[<-e5,<-d5,a1,a2]);rw[<-this]at hq';have:=m8 hnd hq hq';omega
  have:=hn2.length_le_of_subset hsub;rw[Jb,List.length_range,h2]at this;rw[hlen];exact this
 .obtain⟨i,hi⟩:=Kb hq
  obtain⟨l,e1,e2,_,_,e5,e6⟩:=h3 i q hi;exact⟨e6,λp hp=>(j9 h hs hF q.1 e2 l e1).2 p (by rw[e5,hp])⟩
 .rw[hV]at hv
  obtain⟨d,_,rfl⟩:=JM.1 hv;unfold vwD vwN at hn ⊢;split at hn
  .rename_i q;rw[if_pos q]
  .rename_i q;exact absurd hn q
theorem yG{f g:List In}(hf:eh f)(hg:eh g):bK f=bK g↔iF f=iF g:=by
 rw[(ox hf).1,(ox hg).1];exact⟨λe=>Ep (Cd (uz hf) (uz hg) e),λe=>by rw[e]⟩
theorem th{f g:List In}(hf:eh f)(hg:eh g):da f g (az f g)=((da f g (az f g)).1,0)/\((da f g (az f g)).1=0↔bK f=bK g):=by
 obtain⟨h1,h2⟩:=CL hf hg;exact⟨h1,h2.trans (yG hf hg).symm⟩
theorem s6(f g:List In)(A B:Option Addr)(cf cg:Nat)(bt bf:Int)(w:Im)(hG:Gl w)(hC:Kd.C kIn w A f.length f)(hc:f.length<=cf)(hD:Kd.C kIn w B g.length g)(hd:g.length<=cg)
  (hf63:f.length<=9223372036854775807) (hg63:g.length<=9223372036854775807) (hif:∀x∈f,inI x.d/\inI x.a/\inI x.b/\inI x.n/\inI x.jt) (hig:∀x∈g,inI x.d/\inI x.a/\inI x.b/\inI x.n/\inI x.jt) :
  I9 If 3 #[.slice A f.length cf,.slice B g.length cg,.agg #[.int .i64 bt,.int .i64 bf]] w λe w'=>e=.returned (.bool Ir)/\It w.heap.size w w':=by
 obtain⟨g0,hg0⟩:=MF w.heap.size;obtain⟨w1,hw1⟩:∃w1,w1=w.alloc (.cells #[.int .i64 bt,.int .i64 bf] 24):=⟨_,rfl⟩;have hb1:It w.heap.size w w1:=by rw[hw1];exact ae (Il _ _) _
 have h1:w1.heap[g0]?=Ic (.cells #[.int .i64 bt,.int .i64 bf] 24 (0,0)):=by rw[hw1,<-hg0];exact Iu w _
 have HS1:=MD (mR f A cf w1 (Kd.C_below hC hb1) hc hf63);have HS2:=MD (λW (hb:It w.heap.size w W)=>mR g B cg W (Kd.C_below hD hb) hd hg63);have HWk:=MD (λW (hb:It w.heap.size w W)=>Bl W (hG.below hb));have HIn:=MD (IE hif hig);have HCs:=MD (IE hC hD);have HLe:=MD (IE hc hd);have HGl:=MD hG;have HW1:=MD hw1;have HB1:=MD hb1;have H1:=MD h1;clear hG hC hc hD hd hf63 hg63 hif hig hw1 hb1 h1;go_enter Tryz.func3,Tryz.ntmps3;go_upto_region 1 with fail
 refine ar HW1.1.symm ?_;have HG0:=MD hg0;clear HW1 hg0;go_upto_if 19 with(first
  |(go_at_call 5;(with_reducible refine HS1.1.mono ?_);rintro e w2 ⟨b1,rfl,hr,hb⟩;have HR1:=MD hr;have HB2:=MD (af HB1.1 hb);have H2:=MD (ag H1.1 hb);clear hr hb HS1)
  |(go_at_call 5;(with_reducible refine(HS2.1 _ HB2.1).mono ?_);rintro e w3 ⟨b2,rfl,hr,hb⟩;have HR2:=MD hr;have HB3:=MD (af HB2.1 hb);have H3:=MD (ag H2.1 hb);clear hr hb HS2))
 rotate_left
 .go_wp2_with (go_at_call 6;refine(HWk.1 _ HB2.1).mono ?_;rintro e w3 ⟨rfl,hb⟩;have HB3:=MD (af HB2.1 hb);clear hb)
  go_ret;exact⟨rfl,HB3.1⟩
 have HP1:=MD (show eh f/\f.length<=40/\CC f from HR1.1 (by assumption));clear HR1;cases b2 with
 |false=>
  go_wp2_with (go_at_call 6;refine(HWk.1 _ HB3.1).mono ?_;rintro e w4 ⟨rfl,hb⟩;have HB4:=MD (af HB3.1 hb);clear hb);go_ret;exact⟨rfl,HB4.1⟩
 |true=>
  have HP2:=MD (show eh g/\g.length<=40/\CC g from HR2.1 (by simp));have pr:∀(l:List In),(∀x∈l,inI x.d/\inI x.a/\inI x.b/\inI x.n/\inI x.jt)->CC l->∀x∈l,Prt x:=λl h1 h2 x hx=>⟨(h2 x hx).1,(h1 x hx).1,(h1 x hx).2.1,(h1 x hx).2.2.1,(h1 x hx).2.2.2.1,(h1 x hx).2.2.2.2⟩;have HTx:=MD (λW (hb:It w.heap.size w W)=>Bm f g A B cf cg W (Kd.C_below HCs.1.1 hb) HLe.1.1 HP1.1.2.1 (pr f HIn.1.1 HP1.1.2.2) (Kd.C_below HCs.1.2 hb) HLe.1.2 HP2.1.2.1 (pr g HIn.1.2 HP2.1.2.2));have pF:=rY HP1.1.1 HP1.1.2.2 (λx hx=>(HIn.1.1 x hx).2.2.2.1);have pG:=rY HP2.1.1 HP2.1.2.2 (λx hx=>(HIn.1.2 x hx).2.2.2.1);obtain⟨oF,zF⟩:=Dd f HP1.1.2.1;obtain⟨oG,zG⟩:=Dd g HP2.1.2.1;obtain⟨set1,set2⟩:=th HP1.1.1 HP2.1.1;obtain⟨sF,hsF⟩:=ME (prT f);obtain⟨sG,hsG⟩:=ME (prT g);rw[<-hsF]at HTx pF oF zF;rw[<-hsG]at HTx pG oG zG;obtain⟨k,hk⟩:=ME ((da f g (az f g)).1);rw[<-hk]at set1 set2
  have HDc:=MD (λW (hb:It w.heap.size w W)=>show I9 If 8 #[.string sF,.string sG,.agg #[.int .i64 bt,.int .i64 bf]] W (Fy W f g) by
   have h:=@jS ⟨⟨bt,bf⟩⟩ sF sG oF oG zF zG W (HGl.1.below hb) (by rw[pF,pG];exact⟨rfl,rfl⟩) (by rw[pF,pG];intro h;unfold oI;rw[<-hk];exact λe=>h (set2.1 e));rw[pF,pG]at h;exact h)
  have l1:f.length<=200:=by have:=HP1.1.2.1;omega
  have l2:g.length<=200:=by have:=HP2.1.2.1;omega
  have HFi:=MD (λW (hb:It w.heap.size w W)=>ux f g A B cf cg W l1 l2 (Kd.C_below HCs.1.1 hb) (Kd.C_below HCs.1.2 hb));have sm:=jQ l1 l2;have al:(az f g).ans.length=frN f g:=cI _ _ _;have hal:(az f g).ans.length<=5000:=by rw[al];unfold frN;omega
  have HTl:=MD (λW v (hb:It w.heap.size w W) (hv:CaV W (az f g) v)=>show I9 If 9 #[.slice A f.length cf,.slice B g.length cg,v] W λe w'=>e=.returned (.tuple #[.int .i64 k,.int .i64 0])/\It W.heap.size W w' by
   have h:=ix f g A B cf cg (az f g) v W (HGl.1.below hb) (Kd.C_below HCs.1.1 hb) HLe.1.1 (Kd.C_below HCs.1.2 hb) HLe.1.2 hv (by rw[sm.1];decide) (by omega);rw[set1]at h;exact h)
  have HSm:=MD (λW v u (hv:CaV W (az f g) v) (hu:CaV W (az f g) u)=>yO (az f g) v u W hv hu (by rw[sm.1];decide) hal);have HK:=MD (IE hk set2);clear pr pF pG oF zF oG zG set1 set2 hsF hsG hk l1 l2 sm al hal HR2 HP1 HP2 HIn HCs HLe;have HG3:=MD (show g0<w3.heap.size from aj H3.1);go_upto_region 5 with(first
   |(go_at_call 7;refine(HTx.1 _ HB3.1).mono ?_;rintro e w4 ⟨rfl,hb⟩;have HB4:=MD (af HB3.1 hb);have H4:=MD (ag H3.1 hb);clear hb HTx)
   |((with_reducible refine ai (N:=29) rfl ?_);refine II rfl 24 _ rfl g0 rfl 24 _ (0,0) _ H4.1 Tryz.underlying24 rfl Ax ?_)
   |(go_at_call 8;refine(HDc.1 _ HB4.1).mono ?_;rintro e w5 ⟨row,rfl,hq,hb⟩;have HQ:=MD hq;have HB5:=MD (af HB4.1 hb);clear hq hb HDc)
   |((with_reducible refine ap (t:=39) (p:=9) rfl ?_);refine an rfl 39 _ _ rfl w5.heap.size row.toArray rfl rfl 39 (kW 0 0 0 0).toArray (Iu w5 _) (mB.trans (by rw[I8,HQ.1.len])) (by rw[I8,I8,HQ.1.len];rfl) (by rw[Jh];intro v hv;exact HQ.1.one v (by simpa using hv)) ?_;intro w6 h6 hf6;have H6:=MD h6;have HF6:=MD hf6;clear h6 hf6))
  obtain⟨G,hGe⟩:=MF w5.heap.size;rw[hGe];have HB56:=MD (show It w5.heap.size w5 w6 from cw HF6.1);have HG6:=MD (show w6.heap[G]?=Ic (.cells row.toArray 39 (0,0)) by rw[<-hGe];exact H6.1);have HB6:=MD (show It w.heap.size w w6 from af HB5.1 HB56.1);clear hGe H6 HF6;go_upto_region 6 with(first
   |(go_at_call 10;refine(HFi.1 _ HB6.1).mono ?_;rintro e w7 ⟨v,rfl,hv,hb⟩;have HV7:=MD hv;have HB67:=MD hb;have HB7:=MD (af HB6.1 hb);clear hv hb)
   |(go_at_call 9;refine(HTl.1 _ _ HB7.1 HV7.1).mono ?_;rintro e w8 ⟨rfl,hb⟩;have HB8:=MD (af HB7.1 hb);have HB68:=MD (af HB67.1 hb);clear hb HTl))
  have HG8:=MD (ag HG6.1 HB68.1);have HB58:=MD (af HB56.1 HB68.1);clear HG6 HB67 HB56 HV7;by_cases hk0:k=0
  .have q:(k==0)=Ir:=beq_iff_eq.mpr hk0
   obtain⟨_,s1,_⟩:=HQ.1.st.resolve_right (λh=>h.1 (HK.1.2.1 hk0));have a0:=(show w8.cell? ⟨G,0,Ih⟩=Ic (.int .i64 0) by rw[aq HG8.1,DD s1]);clear hk0 s1;go_wp2_with (go_at_call 6;refine(HWk.1 _ HB8.1).mono ?_;rintro e w9 ⟨rfl,hb⟩;have HB9:=MD (af HB8.1 hb);clear hb);go_ret;exact⟨rfl,HB9.1⟩
  .have q:(k==0)=Ik:=beq_eq_false_iff_ne.mpr hk0
   obtain⟨_,ea,na,va,eb,nb,vb,r1,r2,q1,q2,q3⟩:=HQ.1.st.resolve_left (λh=>hk0 (HK.1.2.2 h.1));clear hk0;have hkt:oI f g=k:=HK.1.1.symm;rw[hkt]at q1;have HGr:=MD (show w8.heap[G]?=Ic (.cells (gy 1 ea na va eb nb vb (.int .i64 k::(r1++r2))).toArray 39 (0,0)) by rw[<-q1];exact HG8.1);have H11:=MD q2.row.1;have HVf:=MD (λW (hb:It w8.heap.size w8 W)=>(q2.below HB58.1).below hb);have HI3:=MD (show ∀W,(isAgg 3).run If W=.ok Ik W from λW=>by kernel_rfl);clear q1 q2 q3 hkt HG8 HQ HK;go_upto_region 10 with fail
   refine bm (σ:=Io) [14,15,18] (λs=>[(50,.pointer (Ic ⟨G,0,Ih⟩)),(51,.int .i64 1),(52,.bool Ir),(53,.bool Ir),(54,.pointer (Ic ⟨G,10,Ih⟩)),(55,.int .i64 k),(56,.int .i64 k),(57,.bool Ir),(58,.bool Ir),(59,.bool Ir),(60,.pointer (Ic ⟨G,11,Ih⟩)),(61,.agg r1.toArray),(62,.slice A f.length cf),(63,.slice B g.length cg),(64,s),(65,.bool Ir),(66,.bool Ir),(67,.bool Ir),(68,.bool Ir),(69,.bool Ir),(6,.bool Ir)])
    (λbs s W=>It w8.heap.size w8 W/\(bs.getD 0 Ik=Ir->CaV W (az f g) s)) (.bool Ik) (by kernel_rfl) (by kernel_rfl) (by kernel_rfl) (λ_=>by kernel_rfl) ?_
   intro aF haF;simp only[bk,KY,IP,IZ,IY]at haF;subst haF;refine⟨?_,?_,⟨aA (Il _ _),λe=>Ix e⟩,?_⟩
   .intro j o ho hct s_1 W bs hlen hok hI
    rcases j with _|_|_|_|_|_|_|_|_|_|_|_|_|_|_|_|_|_|_|_|_|j
    all_goals first|exact absurd hct (by decide)|(obtain rfl:=Ii ho)|exact absurd (IB.1 ho).1 (by simp)
    .exact ab rfl (by go_simp) ⟨rfl,hI⟩
    .exact ab rfl (ao rfl rfl (aH (HI3.1 W) ((aq (ag HGr.1 hI.1) 0).trans rfl))) ⟨rfl,hI⟩
    .exact ab rfl (by go_simp) ⟨rfl,hI⟩
    .exact ab rfl (by go_simp) ⟨rfl,hI⟩
    .exact ab rfl (by go_simp) ⟨rfl,hI⟩
    .exact ab rfl (ao rfl rfl (aH (HI3.1 W) ((aq (ag HGr.1 hI.1) 10).trans rfl))) ⟨rfl,hI⟩
    .exact ab rfl (by go_simp) ⟨rfl,hI⟩
    .exact ab rfl (by go_simp) ⟨rfl,hI⟩
    .exact ab rfl (by go_simp) ⟨rfl,hI⟩
    .exact ab rfl (by go_simp) ⟨rfl,hI⟩
    .exact ab rfl (by go_simp) ⟨rfl,hI⟩
    .exact ab rfl (ao rfl rfl (cr (P:=If) (ag HGr.1 hI.1) 37 11 r1 (by simp[gy]) _ I4 rfl (by rw[H11.1];exact ov))) ⟨rfl,hI⟩
    .exact ab rfl (by go_simp) ⟨rfl,hI⟩
    .exact ab rfl (by go_simp) ⟨rfl,hI⟩
    .exact ab rfl (by go_simp) ⟨rfl,hI⟩
    .exact ab rfl (by go_simp) ⟨rfl,hI⟩
    .exact ab rfl (by go_simp) ⟨rfl,hI⟩
    .exact ab rfl (by go_simp) ⟨rfl,hI⟩
   .intro k_1 j o hk ho s_1 W bs hlen hok hI
    rcases k_1 with _|_|_|k_1
    all_goals first|(obtain rfl:=Ii hk;obtain rfl:=Ii ho)|exact absurd hk (by simp)
    .obtain⟨b0,b1,b2,rfl⟩:=rG hlen
     refine aN rfl Tryz.func10 (by kernel_rfl) rfl #[.slice A f.length cf,.slice B g.length cg] rfl rfl ((HFi.1 W (af HB8.1 hI.1)).mono λe w' h=>?_);obtain⟨v',e1,e2,e3⟩:=h;exact⟨_,e1,v',[(64,v')],rfl,rfl,by kernel_rfl,⟨af hI.1 e3,λ_=>e2⟩⟩
    .obtain⟨b0,b1,b2,rfl⟩:=rG hlen
     obtain rfl:=okT hok 0 rfl rfl rfl (by kernel_rfl);refine aN rfl Tryz.func11 (by kernel_rfl) rfl #[.agg r1.toArray,s_1] rfl rfl ((HSm.1 W _ _ (HVf.1 W hI.1) (hI.2 rfl)).mono λe w' h=>?_);obtain⟨e1,e3⟩:=h;exact⟨_,e1,s_1,[],rfl,rfl,rfl,⟨af hI.1 e3,λ_=>(hI.2 rfl).below e3⟩⟩
    .obtain⟨b0,b1,b2,rfl⟩:=rG hlen
     refine aN rfl Tryz.func6 (by kernel_rfl) rfl #[] rfl rfl ((HWk.1 W (af HB8.1 hI.1)).mono λe w' h=>?_);obtain⟨e1,e3⟩:=h;exact⟨_,e1,s_1,[],rfl,rfl,rfl,⟨af hI.1 e3,λh=>(hI.2 h).below e3⟩⟩
   .intro s_1 W hI
    have HBW:=MD (af HB8.1 hI.1);clear hI;go_wp2;go_ret;exact⟨rfl,HBW.1⟩
section
open Go.ChangeShapes Go.WideShapes Go.ChangeAt Go.WideElems
theorem fB{H:Type}{enc:Je×Io->H}{P:Jn}{W:Im}{base:Nat}{sp:Nat->Bool}{held:Bool}{fs:Array Field}{n:Nat}{cs:List Io}{xs:List (Ls H×List MemPlace)}
  (hx:xs.length=fs.size) (hf:∀(i:Nat) (f:Field),fs[i]?=Ic f->Ls.trod enc P W base sp held n f.type ((cs.drop f.offset).take (P.cellsOf f.type))=xs[i]?) (j:Nat) (f:Field) (hj:fs[j]?=Ic f) (hu:P.underlying f.type=Ic (.int .i64)) (hc:P.cellsOf f.type=1) (ho:f.offset=j) :
  ∃k,cs[j]?=Ic (.int .i64 k)/\inI k/\(xs[j]?).map (·.1)=Ic (.lit (.int .i64 k)):=by
 have h3:=hf j f hj;have hl:j<xs.length:=by rw[hx];exact(IB.1 hj).1
 rw[ho,hc,Ig hl]at h3;obtain⟨k,e1,e2,e3⟩:=Ls.trod_int hu h3;refine⟨k,?_,?_,?_⟩
 .have:=congrArg (λz=>z[0]?) e1
  simpa using this
 .simp[Lit.wf,LP.min,LP.max,LP.signed,LP.bits]at e3
  unfold inI;omega
 .rw[Ig hl,e2]
  rfl
theorem qt{H:Type}{enc:Je×Io->H}{W:Im}{base:Nat}{sp:Nat->Bool}{held:Bool}{a:Option Addr}{len cap:Nat}{d:Ls H}{p:List MemPlace}
  (h:Ls.Trod enc If W base sp held 22 (.slice a len cap) d p) :
  ∃l:List In,len=l.length/\Kd.C kIn W a l.length l/\l.length<=cap/\l.length<=9223372036854775807/\∀x∈l,inI x.d/\inI x.a/\inI x.b/\inI x.n/\inI x.jt:=by
 obtain⟨fuel,hf⟩:=h;rcases Go.Deep.open_slice Me hf with⟨hcs,_⟩|⟨x,l,c,m,n,D,Pl,hcs,_,hl,hm,hmm,_,hel⟩
 .simp[Mz]at hcs
  obtain⟨rfl,rfl,rfl⟩:=hcs;exact⟨[],rfl,Kd.C_nil _ _,Iz _,ID _,λx hx=>absurd hx JE⟩
 .simp[Mz]at hcs
  obtain⟨rfl,rfl,rfl⟩:=hcs;have hc49:If.cellsOf 49=6:=by kernel_rfl
  have hc3:If.cellsOf 3=1:=by kernel_rfl
  have hc2:If.cellsOf 2=1:=by kernel_rfl
  have hlm:len<=m:=by rw[hmm];split<;>omega
  have each:∀i,i<len->∃y:In,(∀j u,([.int .i64 y.op,.int .i64 y.d,.int .i64 y.a,.int .i64 y.b,.int .i64 y.n,.int .i64 y.jt]:List Io)[j]?=Ic u->W.cell? (x.add (i*6+j))=Ic u)/\inI y.d/\inI y.a/\inI y.b/\inI y.n/\inI y.jt:=by
   intro i hi;obtain⟨cs,h1,h2⟩:=hel i (by omega);rw[hc49]at h1;obtain⟨xs,n',_,_,hl6,hx6,hfs⟩:=Ls.trod_struct I6 h2;obtain⟨k0,c0,i0,_⟩:=fB hx6 hfs 0 _ rfl Jr hc3 rfl;obtain⟨k1,c1,i1,_⟩:=fB hx6 hfs 1 _ rfl Jr hc3 rfl;obtain⟨k2,c2,i2,_⟩:=fB hx6 hfs 2 _ rfl Jr hc3 rfl;obtain⟨k3,c3,i3,_⟩:=fB hx6 hfs 3 _ rfl Jr hc3 rfl;obtain⟨k4,c4,i4,_⟩:=fB hx6 hfs 4 _ rfl Mi hc2 rfl;obtain⟨k5,c5,i5,_⟩:=fB hx6 hfs 5 _ rfl Jr hc3 rfl;refine⟨⟨k0,k1,k2,k3,k4,k5⟩,λj u hu=>?_,i1,i2,i3,i4,i5⟩;have hj:j<6:=(Ip.1 hu).1;rw[<-ic,(Im.cells?_some h1).2.2 j hj,<-hu];rcases j with _|_|_|_|_|_|j
   .exact c0
   .exact c1
   .exact c2
   .exact c3
   .exact c4
   .exact c5
   .omega
  refine⟨(Jy len).map (λi=>if h:i<len then(each i h).choose else In.zero),by simp,?_,by simpa using hl,by simp;unfold maxLen at hm;omega,λy hy=>?_⟩
  .refine⟨by simp,by simp;unfold maxLen at hm;omega,λ_=>⟨x,rfl,λj p hp=>?_⟩⟩
   rw[IK]at hp;obtain⟨i,hi,rfl⟩:=Ks.1 hp;obtain⟨hj,rfl⟩:j<len/\j=i:=by
    obtain⟨h1,h2⟩:=Ip.1 hi;simp at h1 h2;exact⟨h1,h2⟩
   rw[dif_pos hj];exact⟨_,rfl,rfl,(each j hj).choose_spec.1⟩
  .obtain⟨i,hi,rfl⟩:=JM.1 hy
   rw[dif_pos (Kq.1 hi)];exact(each i (Kq.1 hi)).choose_spec.2
def uZ:List (String×Ls Unit):=[("joinery/ins.shapes",Rows.laid_joinery_ins_shapes),("joinery/value.open",Rows.laid_joinery_value_open)]
theorem Fa:If.globalNamed "joinery/ins.shapes"=Ic 0:=by kernel_rfl
theorem GV:If.globalNamed "joinery/value.open"=Ic 1:=by kernel_rfl
theorem Ew:(If.globals[0]?).map (·.type)=Ic 170:=by kernel_rfl
theorem GD:(If.globals[1]?).map (·.type)=Ic 135:=by kernel_rfl
theorem zg{W:Im}(h:laidMetH If uZ W):Gl W:=by
 rw[MakeChecks.laidMetH_plain _ _ _ (by kernel_rfl)]at h;obtain⟨ps,⟨g0,t0,cs0,f0,p0,q0,hg0,ht0,hv0,hd0,⟨g1,t1,cs1,f1,p1,q1,hg1,ht1,hv1,hd1,_,_⟩,_⟩,_,_⟩:=h;obtain rfl:=Ii (Fa.symm.trans hg0);obtain rfl:=Ii (GV.symm.trans hg1);obtain rfl:=Ii (Ew.symm.trans ht0);obtain rfl:=Ii (GD.symm.trans ht1);have hc3:If.cellsOf 3=1:=by kernel_rfl
 have hc2:If.cellsOf 2=1:=by kernel_rfl
 have hc9:If.cellsOf 9=1:=by kernel_rfl
 have hc169:If.cellsOf 169=2:=by kernel_rfl
 have h1:W.cell? ⟨1,0,Ih⟩=Ic (.int .i64 (-1))/\W.cell? ⟨1,1,Ih⟩=Ic (.int .i64 0):=by
  obtain⟨xs,n',_,hx,_,hx2,hfs⟩:=Ls.trod_struct IN hd1;obtain⟨k0,c0,_,e0⟩:=fB hx2 hfs 0 _ rfl Jr hc3 rfl;obtain⟨k1,c1,_,e1⟩:=fB hx2 hfs 1 _ rfl Mi hc2 rfl;simp only[IM,Rows.laid_joinery_value_open,Ls.agg.injEq]at hx;rw[<-IK,<-hx.1]at e0 e1;simp at e0 e1;subst e0 e1;exact⟨(Im.var?_cell hg1 hv1 0).trans (by simpa using c0),(Im.var?_cell hg1 hv1 1).trans (by simpa using c1)⟩
 refine⟨λi hi=>?_,h1.1,h1.2,J8 W _ h1.1⟩;obtain⟨xs,m,_,hx,_,hx18,hel⟩:=Ls.trod_array Tryz.underlying170 hd0;have hi2:=hel i hi;rw[hc169,Ig (show i<xs.length by omega)]at hi2;obtain⟨y0,y1,n',hy,_,hy0,hy1⟩:=trod_struct2 Tryz.underlying169 hi2;obtain⟨s0,d0,e0,_⟩:=Ls.trod_string Tryz.underlying9 hy0;obtain⟨s1,d1,e1,_⟩:=Ls.trod_string Tryz.underlying9 hy1;have hL:(Rows.laid_joinery_ins_shapes:Ls Unit)=.agg (aM.map λp=>.agg [.lit (.string p.1.data.toList),.lit (.string p.2.data.toList)]):=rfl;simp only[IM,hL,Ls.agg.injEq]at hx;have hp:aM[i]?=Ic (aM.getD i (mkS [],mkS [])):=by rw[Ij,Ig (show i<aM.length from hi)];rfl
 obtain⟨p,hp2⟩:∃p,p=aM.getD i (mkS [],mkS []):=⟨_,rfl⟩;rw[<-hp2]at hp ⊢;have hxi:(xs.map (·.1))[i]?=Ic (.agg [.lit (.string p.1.data.toList),.lit (.string p.2.data.toList)]):=by rw[<-hx.1,IK,hp];rfl
 rw[IK,Ig (show i<xs.length by omega),hy]at hxi;simp only[Mu,Ja,Ls.agg.injEq,Ke,and_true]at hxi;rw[e0,e1]at hxi;simp only[Ls.lit.injEq,Lit.string.injEq]at hxi;have str:∀a b:ByteArray,a.data.toList=b.data.toList->a=b:=λa b h=>ByteArray.ext (Array.toList_inj.1 h);have z0:=str _ _ hxi.1;have z1:=str _ _ hxi.2;subst z0 z1;have k0:=congrArg (λz=>z[0]?) d0;have k1:=congrArg (λz=>z[0]?) d1;rw[hc9]at k0 k1;simp at k0 k1;exact⟨(Im.var?_cell hg0 hv0 _).trans k0,(Im.var?_cell hg0 hv0 _).trans k1⟩
theorem yT{H:Type}{enc:Je×Io->H}{W:Im}{base:Nat}{sp:Nat->Bool}{held:Bool}{cs:Array Io}{d:Ls H}{p:List MemPlace}(hz:cs.size=2)
  (h:Ls.Trod enc If W base sp held 24 (.agg cs) d p):∃bt bf,cs=#[.int .i64 bt,.int .i64 bf]:=by
 obtain⟨fuel,hf⟩:=h;have hc3:If.cellsOf 3=1:=by kernel_rfl
 obtain⟨xs,n',_,_,hl,hx,hfs⟩:=Ls.trod_struct Tryz.underlying24 hf;obtain⟨k0,c0,_,_⟩:=fB hx hfs 0 _ rfl Jr hc3 rfl;obtain⟨k1,c1,_,_⟩:=fB hx hfs 1 _ rfl Jr hc3 rfl;refine⟨k0,k1,?_⟩;obtain⟨l⟩:=cs;rcases l with _|⟨a,_|⟨b,_|⟨c,l⟩⟩⟩<;>simp at hz
 have e0:Ic a=Ic (Ib .i64 k0):=c0;have e1:Ic b=Ic (Ib .i64 k1):=c1;rw[Ii e0,Ii e1]
end
section
open Go.ChangeShapes Go.WideShapes Go.ChangeAt Go.WideElems
theorem own:ownKnob If.godebug=Ih:=by kernel_rfl
theorem tE:laidOutB If=Ir:=by kernel_rfl
theorem DT(os:Os)(args:Array Io):laidMetH If uZ ((Im.doorLaid If 400 os).forCall (λ_ _=>0) ⟨#[],args,[]⟩).memory:=
 laidMetH_of_parts3 (fuel:=8) (laidMet_of_run' 8 (by kernel_rfl) (by kernel_rfl)) (by kernel_rfl) (by kernel_rfl)
theorem uk(os:Os)(started:os.Started)(H:Type)(enc:Je×Io->H) :
  ReturnsInHanded {} Tryz.checked os 3 .any (λw args=>(Rows.topShufflesSpec.pre enc If Tryz.f3 [] Ik w args/\laidMetH If uZ w)/\sizedMet enc If Tryz.f3 (OpenSpec.ofChange Rows.topShufflesSpec) Ik w args)
   (Rows.topShufflesSpec.post enc If Tryz.f3 Ik Ir Ik Ik):=by
 refine returnsInHanded_of_change_and (C:=Tryz.checked) (X:=λw _=>laidMetH If uZ w) (λ_ _ _ hh h=>h.of_heap hh) own started (by kernel_rfl) Tryz.func3
  (ChangeSpec.witness_shaped (enc:=enc) (C:=Tryz.checked) (os:=os) (X:=λw _=>laidMetH If uZ w) Ik (Im.doorLaid If 400 os) #[.slice Ih 0 0,.slice Ih 0 0,.agg #[.int .i64 0,.int .i64 0]] 8 rfl (Im.shaped_of_RefB (by kernel_rfl) (by kernel_rfl)) (by kernel_rfl) (by kernel_rfl) (by kernel_rfl) (DT os _)) ?_
 intro W base args ds gs before hval0 hW _ _ hL _;have hval:∀(j:Nat) t v,Tryz.f3.params[j]?=Ic t->args[j]?=Ic v->Io.okWide If W .any base t v:=hval0;have hW':=hW;obtain⟨p,q,hA0,hV,rfl,hfz,hnd⟩:=hW;have hA:Ls.TrodAll enc If W 0 (λ_=>Ir) Ir Tryz.f3.params.toList args.toList ds p:=hA0;rw[Tryz.params3]at hA hval;obtain⟨v0,vs0,d0,ds0,p0,q0,hargs,rfl,rfl,h0,r0⟩:=trodAll_cons hA;obtain⟨v1,vs1,d1,ds1,p1,q1,rfl,rfl,rfl,h1,r1⟩:=trodAll_cons r0;obtain⟨v2,vs2,d2,ds2,p2,q2,rfl,rfl,rfl,h2,r2⟩:=trodAll_cons r1;obtain⟨rfl,rfl,rfl⟩:=trodAll_nil r2;obtain rfl:args=#[v0,v1,v2]:=by cases args;simp_all
 obtain⟨rfl,rfl⟩:=trodVars_none hV;obtain⟨a0,len0,cap0,rfl⟩:=okWide_slice Me (hval 0 22 v0 rfl rfl);obtain⟨a1,len1,cap1,rfl⟩:=okWide_slice Me (hval 1 22 v1 rfl rfl);obtain⟨cs2,rfl,hz2⟩:=okWide_struct Tryz.underlying24 (hval 2 24 v2 rfl rfl);have lt0:∀x∈p0,x.block<W.heap.size:=by obtain⟨m,hm⟩:=h0;exact Ls.trod_lt m _ _ _ hm
 have lt1:∀x∈p1,x.block<W.heap.size:=by obtain⟨m,hm⟩:=h1;exact Ls.trod_lt m _ _ _ hm
 have lt2:∀x∈p2,x.block<W.heap.size:=by obtain⟨m,hm⟩:=h2;exact Ls.trod_lt m _ _ _ hm
 obtain⟨l0,rfl,c0,k0,m0,i0⟩:=qt h0;obtain⟨l1,rfl,c1,k1,m1,i1⟩:=qt h1;obtain⟨bt,bf,rfl⟩:=yT (hz2.trans (by kernel_rfl)) h2;have hG:=zg hL;clear hA0 hval0;refine(s6 l0 l1 a0 a1 cap0 cap1 bt bf W hG c0 k0 c1 k1 m0 m1 i0 i1).mono λe W' ⟨he,bel⟩=>?_;subst he;exact⟨_,rfl,_,_,_,[],_,[],hW',trodAll_mk1 (shut_bool Md _),(trodAll_cons_mk (It.trod tE (by kernel_rfl) (of_decide_eq_true (by kernel_rfl)) h0 bel lt0) (trodAll_cons_mk (It.trod tE (by kernel_rfl) (of_decide_eq_true (by kernel_rfl)) h1 bel lt1) (trodAll_cons_mk (It.trod tE (by kernel_rfl) (of_decide_eq_true (by kernel_rfl)) h2 bel lt2) trodAll_mk0))),rfl,bel.frame _,λh=>by cases h⟩
theorem CY:Rows.TopShufflesSaid:=
 OpenClaim.holds_of_wide 3 Tryz.f3 rfl rfl rfl rfl rfl rfl rfl ⟨rfl,rfl,rfl,rfl,rfl⟩ rfl rfl rfl rfl rfl (by kernel_rfl) Tryz.func3 (by kernel_rfl)
  (of_decide_eq_true (by kernel_rfl)) (by unfold Func.isWrapper;first|(rw[if_pos (by decide +kernel)];kernel_rfl)|(rw[if_neg (by decide +kernel)];exact⟨rfl,rfl⟩))
  (λos started H enc _=>uk os started H enc)
end
theorem Bz:Rows.TopShufflesCardSaid:=
 Claim7.holds_tied_plain_at .later [] [.data,.data] Ir (Ir, "b6de1c6f095477d00eaf5f086792a21800130c680ac54b173d0600cabd9a73ba") Ir
  CY (λ_ h=>by cases h) (by kernel_rfl) (λ_ h=>by cases h) topShuffles_row_tie rfl ⟨rfl,rfl⟩ (by kernel_rfl) rfl
  (λf fn hf hfn=>by
   obtain rfl:f=3:=Ii ((show If.funcNamed "joinery/joinerytop.TopShuffles"=Ic 3 by kernel_rfl).symm.trans hf) |>.symm
   obtain rfl:fn=Tryz.f3:=(Ii (Tryz.func3.symm.trans hfn)).symm
   exact⟨by kernel_rfl,λj t ht=>by
    rw[Tryz.params3]at ht;have hm:t∈[22,22,24]:=by simpa using Array.mem_of_getElem? ht
    have hall:([22,22,24].all λu=>!Tryz.prog.wantsStandIn u)=Ir:=by kernel_rfl
    exact(show If.wantsStandIn t=Ik by simpa using Jd.1 hall t hm)⟩)
  (by kernel_rfl)
end Go.Proofs.YtlinbehijfcelaaGreatDoor.Top
namespace Go.Proofs.YtlinbehijfcelaaGreatDoor
theorem topShuffles_holds : Rows.TopShufflesCardSaid := Top.Bz
end Go.Proofs.YtlinbehijfcelaaGreatDoor
#print axioms Go.Proofs.YtlinbehijfcelaaGreatDoor.topShuffles_holds
