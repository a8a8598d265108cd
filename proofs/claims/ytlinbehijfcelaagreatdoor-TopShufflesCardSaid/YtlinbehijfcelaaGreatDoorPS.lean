/- Walks of the program, and what it computes, told plainly. No condition. (ZN ZO ZP ZM VY VZ XA ZA ZB ZC) -/
import Derived.Below
import Derived.Deep.Draws
import Derived.Deep.AppendLies
import Derived.Maps.AppendAt
import Derived.OwnWalk
import Derived.Laws.BytesArg
import Derived.Laws.MakeOwn
import Derived.Laws.OwnMore
import Derived.Deep.OwnRows
import Derived.Tactics
import Derived.Lib.ConvBytes
import Derived.Laws.Slices
import Derived.WalkKit
import Derived.KernelRfl
import Derived.RowKit3
import Derived.Deep.LoopGhost
import Derived.Deep.QuietTactic
import Derived.BigQuiet
import Derived.WideLaws
import Derived.Deep.DeepCutAuto
import Derived.Deep.CutBlock
import Derived.Deep.RegionHeld3
import Derived.Laws.Rows
import Derived.Lib.AppendStr
import Derived.ArgAppend
import Derived.Laws.IdiomCopy
import Derived.RowKit
import Derived.OrdersHeld
import Derived.Laws.BitsLemmas
import Derived.Laws.StructEq
import Derived.Test.YtlinbehijfcelaaGreatDoorProg
import Derived.Deep.WholeRow
import Derived.Laws.CopyOwn
import Derived.Carry
import Derived.ChangeKeysEq
import Derived.Laws.RangeAny
import Derived.Deep.MidRow
import Derived.Laws.Tables
import Derived.StillTailTactics
import Derived.RangeFuncNested
import Derived.RangeFuncBound
import Derived.RangeFuncCalls
import Derived.RangeFuncLeaves
import Derived.Shelf.Abstract
import Derived.Shelf.RegionOpen
import Derived.OwnWalkIn
import Derived.TacticsInMore
import Derived.LoopNIn
import Derived.LoopIn
import Derived.Test.YtlinbehijfcelaaGreatDoorPA
import Derived.Test.YtlinbehijfcelaaGreatDoorPB
import Derived.Test.YtlinbehijfcelaaGreatDoorPC
import Derived.Test.YtlinbehijfcelaaGreatDoorPD
import Derived.Test.YtlinbehijfcelaaGreatDoorPE
import Derived.Test.YtlinbehijfcelaaGreatDoorPF
import Derived.Test.YtlinbehijfcelaaGreatDoorPG
import Derived.Test.YtlinbehijfcelaaGreatDoorPH
import Derived.Test.YtlinbehijfcelaaGreatDoorPI
import Derived.Test.YtlinbehijfcelaaGreatDoorPJ
import Derived.Test.YtlinbehijfcelaaGreatDoorPK
import Derived.Test.YtlinbehijfcelaaGreatDoorPL
import Derived.Test.YtlinbehijfcelaaGreatDoorPM
import Derived.Test.YtlinbehijfcelaaGreatDoorPN
import Derived.Test.YtlinbehijfcelaaGreatDoorPO
import Derived.Test.YtlinbehijfcelaaGreatDoorPP
import Derived.Test.YtlinbehijfcelaaGreatDoorPQ
import Derived.Test.YtlinbehijfcelaaGreatDoorPR
set_option linter.unusedVariables false
set_option linter.unusedSimpArgs false
set_option linter.unusedSectionVars false
set_option maxHeartbeats 8000000
set_option maxRecDepth 100000
open Int renaming tdiv->Lm,tmod->KQ,toNat_natCast->IC
open List renaming all_eq_true->Jd,append_nil->JS,drop_append->Mx,drop_of_length_le->Ju,getD_eq_getElem?_getD->Ij,getElem?_append_left->Jg,getElem?_append_right->IW,getElem?_cons_zero->Mn,getElem?_eq_getElem->Ig,getElem?_eq_none->I0,getElem_mem->K8,length_cons->Jz,length_map->Jb,length_nil->Lj,map_cons->Jt,map_nil->La,mem_append->J0,mem_cons->I7,mem_cons_of_mem->Jm,mem_cons_self->JH,nil_append->Ka,not_mem_nil->JE,setIfInBounds_toArray->IP,set_cons_succ->IZ,set_cons_zero->IY,size_toArray->I8,take_length->Kh
open ByteArray renaming empty->Ji,empty_append->Kn,size_append->I5
open Nat renaming le_refl->Iz,le_trans->IT,lt_irrefl->Mq,lt_or_ge->Lx,zero_add->KB,zero_le->ID
open Bool renaming false->Ik,noConfusion->Ix,true->Ir
open Option renaming getD_some->JL,map_some->Mu,none->Ih,some->Ic
open Go.RowKit renaming Below->It,intOf->Jj,wrap64->JW
open Option.some renaming inj->Ii
open Go.Value renaming agg->IA,bool->Iy,int->Ib,pointer->Iq,slice->Ia,tuple->IR
open Go renaming Calls->I9,Value->Io,World->Im,bodyPost_ret->IG,heap_alloc_last->Iu,wpList->Kg,wpStill_nil->Mc
open Go.Proofs.Tryz renaming prog->If,underlying37->I4
open Go.IntKind renaming i64->Ie
open And renaming intro->IE
open Go.RowKit.Below renaming refl->Il
open Inhabited renaming default->Ly
open Go.Ending renaming returned->Iv
open Go.Obj renaming cells->Is
open Go.World renaming putObj_heap_other->KC
open Array renaming all_eq_true_iff_forall_mem->Jh,getElem?_eq_some_iff->IB
open Go.Act renaming put->KY
namespace Go.Proofs.YtlinbehijfcelaaGreatDoor.Top
open Go.RowKit Go.Proofs.YtlinbehijfcelaaGreatDoorW.PrintWords Go.Proofs.YtlinbehijfcelaaGreatDoorW.PrintLast
theorem Ed(s:ByteArray)(i:Nat):bt s (i:Int)=((s.data.toList[i]?).map (λb:UInt8=>(b.toNat:Int))).getD 0:=by
 unfold bt;simp only[IC];by_cases h:i<s.size
 .have h2:i<s.data.toList.length:=by simpa using h
  rw[dif_pos h,Ig h2];rfl
 .have h2:¬i<s.data.toList.length:=by simpa using h
  rw[dif_neg h,I0 (by omega)];rfl
theorem FP(s:ByteArray):s.data.toList.length=s.size:=by simp
theorem Bh(a b:ByteArray):(a++b).data.toList=a.data.toList++b.data.toList:=by rw[ByteArray.data_append,Array.toList_append]
theorem ri(a b:ByteArray){i:Nat}(h:i<a.size):bt (a++b) (i:Int)=bt a (i:Int):=by
 rw[Ed,Ed,Bh,Jg (by rw[FP];exact h)]
theorem Be(a b:ByteArray)(i:Nat):bt (a++b) ((a.size+i:Nat):Int)=bt b (i:Int):=by
 rw[Ed,Ed,Bh,IW (by rw[FP];omega),FP,Nat.add_sub_cancel_left]
theorem Gq{a b:ByteArray}(h:a.data.toList=b.data.toList):a=b:=ByteArray.ext (Array.toList_inj.1 h)
theorem pp(p w r:ByteArray):(p++w++r).extract p.size (p.size+w.size)=w:=by
 apply Gq;rw[ByteArray.data_extract,Array.toList_extract,Bh,Bh];simp[List.extract]
theorem iA(a b c:ByteArray):a++b++c=a++(b++c):=ByteArray.append_assoc
def NoB(c:Int)(w:ByteArray):Prop:=∀i:Nat,i<w.size->bt w (i:Int)≠c
theorem NoB.app{c:Int}{a b:ByteArray}(ha:NoB c a)(hb:NoB c b):NoB c (a++b):=by
 intro i hi;rw[I5]at hi;by_cases h:i<a.size
 .rw[ri a b h];exact ha i h
 .rw[show i=a.size+(i-a.size) by omega,Be]
  exact hb _ (by omega)
theorem Ec{s p w r:ByteArray}(hs:s=p++w++r){j:Nat}(hj:j<w.size):bt s ((p.size+j:Nat):Int)=bt w (j:Int):=by
 rw[hs,ri _ _ (by rw[I5];omega),Be]
theorem Ea{s p w r:ByteArray}{c:UInt8}(hs:s=p++w++((⟨#[c]⟩:ByteArray)++r)):bt s ((p.size+w.size:Nat):Int)=(c.toNat:Int):=by
 have:=Be (p++w) ((⟨#[c]⟩:ByteArray)++r) 0;rw[I5,Nat.add_zero,<-hs]at this;rw[this,ri _ _ (by show(0:Nat)<1;decide)];rfl
theorem pu{s p w r:ByteArray}(hs:s=p++w++r)(hw:NoB 32 w){L:List ByteArray}(h:wst s p.size=(L,p.size)):∀j,j<=w.size->wst s (p.size+j)=(L,p.size)
 |0,_=>h
 |j+1,hj=>by
  show wst s (p.size+j+1)=_;unfold wst;rw[Ec hs (by omega),if_neg (hw j (by omega))];exact pu hs hw h j (by omega)
theorem gU{s p w r:ByteArray}(hs:s=p++w++((⟨#[32]⟩:ByteArray)++r))(hw:NoB 32 w){L:List ByteArray}(h:wst s p.size=(L,p.size)):wst s (p++w++(⟨#[32]⟩:ByteArray)).size=(L++[w],(p++w++(⟨#[32]⟩:ByteArray)).size):=by
 have h1:=pu hs hw h w.size (Iz _);have hz:(p++w++(⟨#[32]⟩:ByteArray)).size=p.size+w.size+1:=by rw[I5,I5];rfl
 rw[hz];unfold wst;rw[Ea hs,if_pos (by decide),h1];simp only;have he:=pp p w ((⟨#[32]⟩:ByteArray)++r);rw[<-hs]at he;rw[he]
theorem mq{s p w:ByteArray}(hs:s=p++w)(hw:NoB 32 w){L:List ByteArray}(h:wst s p.size=(L,p.size)):fL s=L++[w]:=by
 have hs2:s=p++w++Ji:=by rw[ByteArray.append_empty];exact hs
 have h1:=pu hs2 hw h w.size (Iz _);have hz:s.size=p.size+w.size:=by rw[hs,I5]
 have he:=pp p w Ji;rw[<-hs2]at he;unfold fL;rw[hz,h1];simp only;rw[he]
theorem En{a b:ByteArray}(ha:NoB 32 a)(hb:NoB 32 b):fL ((a++(⟨#[32]⟩:ByteArray))++b)=[a,b]:=by
 have h0:wst ((a++(⟨#[32]⟩:ByteArray))++b) Ji.size=([],Ji.size):=rfl;have h1:=gU (s:=(a++(⟨#[32]⟩:ByteArray))++b) (p:=Ji) (w:=a) (r:=b) (by rw[Kn,iA]) ha h0;rw[Kn]at h1;exact mq rfl hb h1
theorem sW{a b c:ByteArray}(ha:NoB 32 a)(hb:NoB 32 b)(hc:NoB 32 c):fL ((((a++(⟨#[32]⟩:ByteArray))++b)++(⟨#[32]⟩:ByteArray))++c)=[a,b,c]:=by
 have h0:wst ((((a++(⟨#[32]⟩:ByteArray))++b)++(⟨#[32]⟩:ByteArray))++c) Ji.size=([],Ji.size):=rfl;have h1:=gU (p:=Ji) (w:=a) (r:=b++((⟨#[32]⟩:ByteArray)++c)) (by rw[Kn];simp only[iA]) ha h0;rw[Kn]at h1;have h2:=gU (w:=b) (r:=c) (by simp only[iA]) hb h1;exact mq rfl hc h2
theorem Em{a b c d:ByteArray}(ha:NoB 32 a)(hb:NoB 32 b)(hc:NoB 32 c)(hd:NoB 32 d):fL ((((((a++(⟨#[32]⟩:ByteArray))++b)++(⟨#[32]⟩:ByteArray))++c)++(⟨#[32]⟩:ByteArray))++d)=[a,b,c,d]:=by
 have h0:wst ((((((a++(⟨#[32]⟩:ByteArray))++b)++(⟨#[32]⟩:ByteArray))++c)++(⟨#[32]⟩:ByteArray))++d) Ji.size=([],Ji.size):=rfl;have h1:=gU (p:=Ji) (w:=a) (r:=b++((⟨#[32]⟩:ByteArray)++(c++((⟨#[32]⟩:ByteArray)++d)))) (by rw[Kn];simp only[iA]) ha h0;rw[Kn]at h1;have h2:=gU (w:=b) (r:=c++((⟨#[32]⟩:ByteArray)++d)) (by simp only[iA]) hb h1;have h3:=gU (w:=c) (r:=d) (by simp only[iA]) hc h2;exact mq rfl hd h3
theorem uD{s p w r:ByteArray}(hs:s=p++w++r)(hw:NoB 10 w){q:List In×List Int×Nat}(h:plS s p.size=.ok q):∀j,j<=w.size->plS s (p.size+j)=.ok q
 |0,_=>h
 |j+1,hj=>by
  obtain⟨f,bs,fr⟩:=q;show plS s (p.size+j+1)=_;unfold plS;rw[uD hs hw h j (by omega)];simp only;rw[Ec hs (by omega),if_neg (hw j (by omega))]
theorem De{s p w r:ByteArray}(hs:s=p++w++((⟨#[10]⟩:ByteArray)++r))(hw:NoB 10 w){f:List In}{bs:List Int}{x:In}(h:plS s p.size=.ok (f,bs,p.size))(hx:dO w=(x,0)) :
  plS s ((p++w)++(⟨#[10]⟩:ByteArray)).size=.ok (f++[x],bs++[(p.size:Int)],((p++w)++(⟨#[10]⟩:ByteArray)).size):=by
 have h1:=uD hs hw h w.size (Iz _);have hz:(p++w++(⟨#[10]⟩:ByteArray)).size=p.size+w.size+1:=by rw[I5,I5];rfl
 have he:=pp p w ((⟨#[10]⟩:ByteArray)++r);rw[<-hs]at he;rw[hz];unfold plS;rw[h1];simp only;rw[Ea hs,if_pos (by decide),he,hx];simp only;rw[if_pos trivial]
theorem qg:∀(xs:List In) (acc:ByteArray),∃r,fR xs acc=acc++r
 | [],acc=>⟨Ji,by rw[ByteArray.append_empty];rfl⟩
 |x::xs,acc=>by
  obtain⟨r,hr⟩:=qg xs ((acc++fE x)++(⟨#[10]⟩:ByteArray));exact⟨fE x++((⟨#[10]⟩:ByteArray)++r),by unfold fR;rw[hr];simp only[iA]⟩
theorem An:∀(xs:List In) (acc:ByteArray) (f:List In) (bs:List Int),(∀x∈xs,NoB 10 (fE x)/\dO (fE x)=(x,0))->plS (fR xs acc) acc.size=.ok (f,bs,acc.size)->∃bs',plS (fR xs acc) (fR xs acc).size=.ok (f++xs,bs',(fR xs acc).size)
 | [],acc,f,bs,_,h=>⟨bs,by rw[JS];exact h⟩
 |x::xs,acc,f,bs,hx,h=>by
  obtain⟨r,hr⟩:=qg xs ((acc++fE x)++(⟨#[10]⟩:ByteArray));have h1:=hx x JH;have hs:fR (x::xs) acc=acc++fE x++((⟨#[10]⟩:ByteArray)++r):=by unfold fR;rw[hr];simp only[iA]
  have h2:=De hs h1.1 h h1.2;obtain⟨bs',h3⟩:=An xs ((acc++fE x)++(⟨#[10]⟩:ByteArray)) (f++[x]) (bs++[(acc.size:Int)]) (λy hy=>hx y (Jm _ hy)) h2;exact⟨bs',by rw[show f++x::xs=f++[x]++xs by simp];exact h3⟩
theorem uM{f:List In}(hr:bi f=Ir)(h:∀x∈f,NoB 10 (fE x)/\dO (fE x)=(x,0)):aE (prT f)=(f,0,0):=by
 obtain⟨bs,h1⟩:=An f ⟨#[]⟩ [] [] h rfl;unfold aE prT;rw[h1];simp only;have h2:(cz f).2=0:=beq_iff_eq.1 hr;rw[if_neg (Mq _),Ka,if_pos h2]
theorem DR(a b:ByteArray):∀j,j<=a.size->dv (a++b) j=dv a j
 |0,_=>rfl
 |j+1,h=>by
  unfold dv;rw[DR a b j (by omega),ri a b (by omega)]
theorem uY(m:Nat):bt (lastB (-(m:Int))) ((0:Nat):Int)=48+((m%10:Nat):Int):=by
 have e:KQ (-(m:Int)) 10=-((m%10:Nat):Int):=by
  rw[Int.neg_tmod,Int.tmod_eq_emod_of_nonneg (by omega)];omega
 rw[Ed];unfold lastB;rw[strOfNums_data,e];simp only[Jt,La,Mn,Mu,JL];have h:(JW (48 - -((m%10:Nat):Int)))%256=48+((m%10:Nat):Int):=by unfold JW;omega
 rw[h];have h2:(UInt8.ofNat (48+((m%10:Nat):Int)).toNat).toNat=48+m%10:=by
  rw[show(48+((m%10:Nat):Int)).toNat=48+m%10 by omega];simp;omega
 rw[h2];omega
structure DgS(t:ByteArray)(m:Nat):Prop where
 pos:0<t.size
 ok:gJ t t.size
 v:dv t t.size=(m:Int)
 z:bt t 0=48->m=0/\t.size=1
 few:∀j,0<j->m<10 ^ j->t.size<=j
theorem v4{m:Nat}(h:m<10):DgS (lastB (-(m:Int))) m:=by
 have hb:=uY m;have hs:=gZ (-(m:Int));rw[Nat.mod_eq_of_lt h]at hb;refine⟨by omega,λi hi=>?_,?_,λe=>⟨?_,hs⟩,λj hj _=>by omega⟩
 .obtain rfl:i=0:=by omega
  omega
 .rw[hs]
  unfold dv dv;omega
 .have e:bt (lastB (-(m:Int))) ((0:Nat):Int)=48:=e
  omega
theorem v6:∀(k m:Nat),m<10 ^ (k+1)->m<=9223372036854775808->DgS (fh k (-(m:Int))) m
 |0,m,h,_=>by rw[fh];exact v4 (by simpa using h)
 |k+1,m,h,hm=>by
  by_cases h10:m<10
  .rw[fh,if_pos (by omega)]
   exact v4 h10
  .have e:Lm (-(m:Int)) 10=-((m/10:Nat):Int):=by rw[Int.neg_tdiv,Int.tdiv_eq_ediv_of_nonneg (by omega)];omega
   have hw:JW (-((m/10:Nat):Int))=-((m/10:Nat):Int):=by unfold JW;omega
   rw[fh,if_neg (by omega),e,hw];have ih:=v6 k (m/10) (by rw[Nat.pow_succ]at h;omega) (by omega);obtain⟨t,ht⟩:=ME (fh k (-((m/10:Nat):Int)));rw[<-ht]at ih ⊢;have hb:=uY m;have hs:=gZ (-(m:Int));have hz:(t++lastB (-(m:Int))).size=t.size+1:=by rw[I5,hs]
   have hl:bt (t++lastB (-(m:Int))) ((t.size:Nat):Int)=48+((m%10:Nat):Int):=by
    have:=Be t (lastB (-(m:Int))) 0;rw[Nat.add_zero]at this;rw[this];exact hb
   refine⟨by omega,λi hi=>?_,?_,λe=>?_,λj hj hmj=>?_⟩
   .rw[hz]at hi
    by_cases q:i<t.size
    .rw[ri _ _ q];exact ih.ok i q
    .obtain rfl:i=t.size:=by omega
     rw[hl];omega
   .rw[hz]
    unfold dv;rw[DR _ _ _ (Iz _),ih.v,hl];omega
   .exfalso
    have e2:bt (t++lastB (-(m:Int))) ((0:Nat):Int)=48:=e;rw[ri _ _ ih.pos]at e2;have:=(ih.z e2).1;omega
   .rw[hz]
    have hj2:2<=j:=by
     rcases Lx j 2 with q|q
     .obtain rfl:j=1:=by omega
      simp at hmj;omega
     .exact q
    have:=ih.few (j-1) (by omega) (by
     rw[show j=(j-1)+1 by omega,Nat.pow_succ]at hmj;omega)
    omega
theorem DU{m:Nat}(h:m<=9223372036854775808):DgS (fh 19 (-(m:Int))) m:=v6 19 m (by omega) h
theorem A_{t:ByteArray}{m:Nat}(h:DgS t m){c:Int}(hc:c<48):NoB c t:=λi hi e=>by have:=(h.ok i hi).1;omega
theorem ui{t:ByteArray}{m:Nat}(h:DgS t m)(hm:m<=9223372036854775808)(low:Bool)(h0:low=Ir->m≠0)(h1:low=Ik->m<=9223372036854775807):num_Parse.sized t low=Ic (if low=Ir then -(m:Int)else(m:Int)):=by
 have hp:=h.pos;have hf:=h.few 19 (by omega) (by omega);unfold num_Parse.sized;rw[if_neg,if_pos h.ok,h.v]
 .cases low with
  |true=>rw[if_pos rfl,if_pos (show(m:Int)<=gP+1 by unfold gP;omega)];rfl
  |false=>rw[if_neg (show ¬Ik=Ir by decide),if_pos (show(m:Int)<=gP by have:=h1 rfl;unfold gP;omega)];rfl
 .rintro(q|q|⟨q,q2|q2⟩)
  .omega
  .omega
  .have:=(h.z q).2;omega
  .exact h0 q2 (h.z q).1
theorem Dk{n:Int}(hn:inI n):rD (nT n)=(n,0)/\∀c:Int,c<45->NoB c (nT n):=by
 unfold inI at hn;by_cases h:n<0
 .obtain⟨m,rfl⟩:∃m:Nat,n=-(m:Int):=⟨(-n).toNat,by omega⟩
  have hd:=DU (m:=m) (by omega);have he:nT (-(m:Int))=(⟨#[45]⟩:ByteArray)++fh 19 (-(m:Int)):=if_pos h;have hz:((⟨#[45]⟩:ByteArray)++fh 19 (-(m:Int))).size=1+(fh 19 (-(m:Int))).size:=I5;have hb0:bt ((⟨#[45]⟩:ByteArray)++fh 19 (-(m:Int))) 0=45:=ri (⟨#[45]⟩:ByteArray) _ (i:=0) (by show 0<1;decide);rw[he];constructor
  .unfold rD num_Parse.num
   have hl:oR ((⟨#[45]⟩:ByteArray)++fh 19 (-(m:Int)))=Ir:=decide_eq_true ⟨by omega,hb0⟩;have hg:tQ ((⟨#[45]⟩:ByteArray)++fh 19 (-(m:Int)))=fh 19 (-(m:Int)):=by
    unfold tQ;rw[if_pos hl,hz];have:=pp (⟨#[45]⟩:ByteArray) (fh 19 (-(m:Int))) Ji;rw[ByteArray.append_empty]at this;exact this
   rw[hg,hl,ui hd (by omega) Ir (λ_=>by omega) (λe=>by cases e)];rfl
  .intro c hc
   refine NoB.app (λi hi=>?_) (A_ hd (by omega));obtain rfl:i=0:=by have:i<1:=hi;omega
   show(45:Int)≠c;omega
 .obtain⟨m,rfl⟩:∃m:Nat,n=(m:Int):=⟨n.toNat,by omega⟩
  have hd:=DU (m:=m) (by omega);have hw:JW (-(m:Int))=-(m:Int):=by unfold JW;omega
  have he:nT (m:Int)=fh 19 (-(m:Int)):=by unfold nT;rw[if_neg h,hw]
  rw[he];constructor
  .unfold rD num_Parse.num
   have hl:oR (fh 19 (-(m:Int)))=Ik:=by
    refine decide_eq_false (λq=>?_);have:=(hd.ok 0 hd.pos).1;have q2:bt (fh 19 (-(m:Int))) ((0:Nat):Int)=45:=q.2;omega
   have hg:tQ (fh 19 (-(m:Int)))=fh 19 (-(m:Int)):=by unfold tQ;rw[if_neg (by rw[hl];decide)]
   rw[hg,hl,ui hd (by omega) Ik (λe=>by cases e) (λ_=>by omega)];rfl
  .exact λc hc=>A_ hd (by omega)
theorem ir{l:Int}(h:0<=l/\l<24):yY (lT l)=(l,0)/\NoB 32 (lT l)/\NoB 10 (lT l):=by
 have key:∀k:Nat,k<24->loc_Parse.place (lT (k:Int))=Ic (k:Int)/\(∀i:Nat,i<(lT (k:Int)).size->bt (lT (k:Int)) (i:Int)≠32)/\(∀i:Nat,i<(lT (k:Int)).size->bt (lT (k:Int)) (i:Int)≠10):=by decide +kernel
 obtain⟨k,rfl⟩:∃k:Nat,l=(k:Int):=⟨l.toNat,by omega⟩;obtain⟨h1,h2,h3⟩:=key k (by omega);refine⟨?_,h2,h3⟩;unfold yY;rw[h1]
def Fu(op:Int):Prop:=op=1\/op=2\/op=3\/op=15\/op=18
theorem sc{ws:List ByteArray}:∀(tab:List (ByteArray×ByteArray)) (i k:Nat) (p:ByteArray×ByteArray),tab[k]?=Ic p->(∀j q,j<k->tab[j]?=Ic q->q.1≠ws.getD 0 (mkS []))->p.1=ws.getD 0 (mkS [])->p.2.size+1=ws.length->∀x,eQ ws (bl p.2 0) 0 { In.zero with op:=((i+k:Nat):Int)+1 }=Ic x->cy x 200=0->jN ws tab i=(x,0)
 | [],_,_,_,h,_,_,_,_,_,_=>by simp at h
 |q::tab,i,0,p,h,_,h2,h3,x,h4,h5=>by
  obtain rfl:=Ii h;unfold jN;have h4':eQ ws (bl q.2 0) 0 { In.zero with op:=(i:Int)+1 }=Ic x:=h4;rw[if_pos ⟨h2,h3⟩,h4'];simp only;rw[if_pos h5]
 |q::tab,i,k+1,p,h,h1,h2,h3,x,h4,h5=>by
  unfold jN;rw[if_neg (λe=>h1 0 q (by omega) rfl e.1)];exact sc tab (i+1) k p h (λj r hj hr=>h1 (j+1) r (by omega) hr) h2 h3 x (by rw[show i+1+k=i+(k+1) by omega];exact h4) h5
theorem Br:∀k,k<18->∀j,j<k->(aM.getD j (mkS [],mkS [])).1≠(aM.getD k (mkS [],mkS [])).1:=by decide +kernel
theorem Et:∀k,k<18->(∀i:Nat,i<(aM.getD k (mkS [],mkS [])).1.size->bt (aM.getD k (mkS [],mkS [])).1 (i:Int)≠32)/\(∀i:Nat,i<(aM.getD k (mkS [],mkS [])).1.size->bt (aM.getD k (mkS [],mkS [])).1 (i:Int)≠10):=by decide +kernel
theorem yt:∀k:Nat,k<18->wd ((k:Int)+1)=(aM.getD k (mkS [],mkS [])).1:=by decide +kernel
theorem j6{ws:List ByteArray}{k:Nat}(hk:k<18)(h0:ws.getD 0 (mkS [])=wd ((k:Int)+1))(h3:(aM.getD k (mkS [],mkS [])).2.size+1=ws.length){x:In}(h4:eQ ws (bl (aM.getD k (mkS [],mkS [])).2 0) 0 { In.zero with op:=(k:Int)+1 }=Ic x)(h5:cy x 200=0):jN ws aM 0=(x,0):=by
 have hl:aM.length=18:=rfl;have hat:∀j,j<18->aM[j]?=Ic (aM.getD j (mkS [],mkS [])):=λj hj=>by
  rw[Ij,Ig (by omega)];rfl
 refine sc aM 0 k _ (hat k hk) (λj q hj hq=>?_) (by rw[h0,yt k hk]) h3 x (by rw[KB];exact h4) h5;rw[hat j (by omega)]at hq;obtain rfl:=Ii hq;rw[h0,yt k hk];exact Br k hk j hj
theorem pz{k:Nat}(hk:k<18):NoB 32 (wd ((k:Int)+1))/\NoB 10 (wd ((k:Int)+1)):=by
 rw[yt k hk];exact Et k hk
theorem jJ:NoB 10 (⟨#[32]⟩:ByteArray):=by
 intro i hi;obtain rfl:i=0:=by have:i<1:=hi;omega
 show(32:Int)≠10;decide
theorem Dz{x:In}(h:CkP x)(hn:inI x.n)(ho:Fu x.op):NoB 10 (fE x)/\dO (fE x)=(x,0):=by
 have hc:=ye h 200 ho;obtain⟨op,d,a,b,n,jt⟩:=x;obtain⟨_,h1,h2,h3,h4⟩:=h;simp only at ho h1 h2 h3 h4 hn;obtain⟨n1,n2⟩:=Dk hn;unfold dO fE sP;rcases ho with rfl|rfl|rfl|rfl|rfl
 .obtain⟨rfl,rfl,rfl⟩:a=0/\b=0/\jt=0:=by simp[ip]at h1;omega
  obtain⟨w1,w2⟩:=pz (k:=0) (by decide);obtain⟨d1,d2,d3⟩:=ir (l:=d) (by have:=h3 (by decide);omega);dsimp only;rw[if_pos rfl];refine⟨(((w2.app jJ).app d3).app jJ).app (n2 10 (by decide)),?_⟩;rw[show wd 1=wd (((0:Nat):Int)+1)from rfl,sW w1 d2 (n2 32 (by decide))];refine j6 (k:=0) (by decide) rfl rfl ?_ hc;rw[show bl (aM.getD 0 (mkS [],mkS [])).2 0=[100,78] by decide +kernel];simp[eQ,iv,iJ,ez,d1,n1,In.put,In.zero]
 .obtain⟨rfl,rfl,rfl⟩:b=0/\n=0/\jt=0:=by simp[ip]at h1;omega
  obtain⟨w1,w2⟩:=pz (k:=1) (by decide);obtain⟨d1,d2,d3⟩:=ir (l:=d) (by have:=h3 (by decide);omega);obtain⟨a1,a2,a3⟩:=ir (l:=a) (by have:=h3 (by decide);omega);dsimp only;rw[if_neg (by decide),if_pos (by decide)];refine⟨(((w2.app jJ).app d3).app jJ).app a3,?_⟩;rw[show wd 2=wd (((1:Nat):Int)+1)from rfl,sW w1 d2 a2];refine j6 (k:=1) (by decide) rfl rfl ?_ hc;rw[show bl (aM.getD 1 (mkS [],mkS [])).2 0=[100,97] by decide +kernel];simp[eQ,iv,iJ,ez,d1,a1,In.put,In.zero]
 .obtain⟨rfl,rfl,rfl⟩:b=0/\n=0/\jt=0:=by simp[ip]at h1;omega
  obtain⟨w1,w2⟩:=pz (k:=2) (by decide);obtain⟨d1,d2,d3⟩:=ir (l:=d) (by have:=h3 (by decide);omega);obtain⟨a1,a2,a3⟩:=ir (l:=a) (by have:=h3 (by decide);omega);dsimp only;rw[if_neg (by decide),if_pos (by decide)];refine⟨(((w2.app jJ).app d3).app jJ).app a3,?_⟩;rw[show wd 3=wd (((2:Nat):Int)+1)from rfl,sW w1 d2 a2];refine j6 (k:=2) (by decide) rfl rfl ?_ hc;rw[show bl (aM.getD 2 (mkS [],mkS [])).2 0=[100,97] by decide +kernel];simp[eQ,iv,iJ,ez,d1,a1,In.put,In.zero]
 .obtain⟨rfl,rfl⟩:b=0/\jt=0:=by simp[ip]at h1;omega
  obtain⟨w1,w2⟩:=pz (k:=14) (by decide);obtain⟨d1,d2,d3⟩:=ir (l:=d) (by have:=h4 (by decide);omega);obtain⟨a1,a2,a3⟩:=ir (l:=a) (by have:=h4 (by decide);omega);dsimp only;rw[if_neg (by decide),if_neg (by decide),if_neg (by decide),if_pos (by decide)];refine⟨(((((w2.app jJ).app d3).app jJ).app a3).app jJ).app (n2 10 (by decide)),?_⟩;rw[show wd 15=wd (((14:Nat):Int)+1)from rfl,Em w1 d2 a2 (n2 32 (by decide))];refine j6 (k:=14) (by decide) rfl rfl ?_ hc;rw[show bl (aM.getD 14 (mkS [],mkS [])).2 0=[68,65,78] by decide +kernel];simp[eQ,iv,iJ,ez,d1,a1,n1,In.put,In.zero]
 .obtain⟨rfl,rfl,rfl,rfl⟩:d=0/\b=0/\n=0/\jt=0:=by simp[ip]at h1;omega
  obtain⟨w1,w2⟩:=pz (k:=17) (by decide);obtain⟨a1,a2,a3⟩:=ir (l:=a) (by have:=h4 (by decide);omega);dsimp only;rw[if_neg (by decide),if_neg (by decide),if_neg (by decide),if_neg (by decide),if_neg (by decide),if_neg (by decide),if_pos (by decide)];refine⟨(w2.app jJ).app a3,?_⟩;rw[show wd 18=wd (((17:Nat):Int)+1)from rfl,En w1 a2];refine j6 (k:=17) (by decide) rfl rfl ?_ hc;rw[show bl (aM.getD 17 (mkS [],mkS [])).2 0=[65] by decide +kernel];simp[eQ,iv,iJ,ez,a1,In.put,In.zero]
theorem rY{f:List In}(h:eh f)(hc:∀x∈f,CkP x)(hn:∀x∈f,inI x.n):aE (prT f)=(f,0,0):=
 uM h.r (λx hx=>Dz (hc x hx) (hn x hx) (h.op x hx))
theorem GH{op:Int}{b1 b2 b3 b4 b5:Bool}(h:(op != 1)=b1/\(op != 2)=b2/\(op != 3)=b3/\(op != 15)=b4/\(op != 18)=b5)(h2:(b1&&(b2&&(b3&&(b4&&b5))))=Ik):Fu op:=by
 obtain⟨rfl,rfl,rfl,rfl,rfl⟩:=h;simp at h2;unfold Fu;omega
theorem mR(f:List In)(A:Option Addr)(c:Nat)(w:Im)(hC:Kd.C kIn w A f.length f)(hc:f.length<=c)(hl:f.length<=9223372036854775807):I9 If 5 #[Ia A f.length c] w (BQ (eh f/\f.length<=40/\CC f) w):=by
 have HC:=MD hC;have HCc:=MD hc;have hl':(f.length:Int)<=9223372036854775807:=by omega
 clear hC hc hl;go_enter Tryz.func5,Tryz.ntmps5;go_wp2;go_loopw [3] (λj wr=>∃k:Nat,j=Ib Ie k/\w=wr/\aa (k<=f.length/\∀x∈f.take k,Fu x.op)) (λj _=>f.length-(Jj j).toNat)
 case atStart=>exact⟨0,rfl,rfl,⟨⟨ID _,λx hx=>by simp at hx⟩⟩⟩
 case round=>
  obtain⟨k,rfl,rfl,HI⟩:=hrel;obtain⟨hk,ho⟩:=HI.1;have HO:=MD ho;by_cases hkl:k<f.length
  .have hkl':(k:Int)<(f.length:Int):=by omega
   obtain⟨x,hx⟩:∃x,f[k]?=Ic x:=⟨_,Ig hkl⟩;obtain⟨ad,rfl,d0,_⟩:=nK HC.1 k hkl x hx;have HX:=MD hx;have HK:=MD hkl;obtain⟨b1,q1⟩:=MF ((x.op != 1));obtain⟨b2,q2⟩:=MF ((x.op != 2));obtain⟨b3,q3⟩:=MF ((x.op != 3));obtain⟨b4,q4⟩:=MF ((x.op != 15));obtain⟨b5,q5⟩:=MF ((x.op != 18));have HQ:=MD (IE q1 (IE q2 (IE q3 (IE q4 q5))));have key:b1=Ik\/(b1=Ir/\b2=Ik)\/(b1=Ir/\b2=Ir/\b3=Ik)\/(b1=Ir/\b2=Ir/\b3=Ir/\b4=Ik)\/(b1=Ir/\b2=Ir/\b3=Ir/\b4=Ir/\b5=Ik)\/(b1=Ir/\b2=Ir/\b3=Ir/\b4=Ir/\b5=Ir):=by
    cases b1<;>cases b2<;>cases b3<;>cases b4<;>cases b5<;>simp
   clear hk ho hx hkl HI;rcases key with rfl|⟨rfl,rfl⟩|⟨rfl,rfl,rfl⟩|⟨rfl,rfl,rfl,rfl⟩|⟨rfl,rfl,rfl,rfl,rfl⟩|⟨rfl,rfl,rfl,rfl,rfl⟩
   all_goals
    go_wp2
    first
     |(go_roundw
       (case rel=>
        refine⟨k+1,by go_num,by simp,⟨⟨HK.1,λy hy=>?_⟩⟩⟩;rw[List.take_add_one,HX.1]at hy;rcases J0.1 hy with hy|hy
        .exact HO.1 y hy
        .have:y=x:=by simpa using hy
         subst this;exact GH HQ.1 rfl)
       (case measure=>have:=HK.1;simp[Jj];omega))
     |(go_ret;exact⟨Ik,rfl,λh=>(by cases h),Il _ _⟩)
  .obtain rfl:k=f.length:=by omega
   rw[Kh]at ho;have HO:=MD ho;clear hk ho hkl HI;by_cases h40:f.length<=40
   .have q:decide ((f.length:Int)<=40)=Ir:=decide_eq_true (by omega)
    have HR:=MD (yK f A c w HC.1 HCc.1 h40);have H40:=MD h40;clear h40;go_wp2_with (go_at_call 13;refine HR.1.mono ?_;rintro e w1 ⟨b,rfl,hr,hb⟩;have HRr:=MD hr;have HB:=MD hb;clear hr hb HR);go_ret;exact⟨_,rfl,λh=>⟨ED (HRr.1 h) HO.1 H40.1,H40.1,(HRr.1 h).2.1⟩,HB.1⟩
   .have q:decide ((f.length:Int)<=40)=Ik:=decide_eq_false (by omega)
    clear h40;go_wp2;go_ret;exact⟨Ik,rfl,λh=>(by cases h),Il _ _⟩
theorem pB(f:List In)(S:bj)(F:List (List Src))(cl:List Int)(l:Nat):∀(es:List bV) (m:dl),(dL f S F cl l es m).1.length=es.length
 | [],_=>rfl
 |e::es,m=>by simp only[dL,Jz];rw[pB f S F cl l es]
theorem mf(f:List In)(c:List Bool)(cl:List Int)(F:List (List Src)):∀(xs:List aG) (n:Nat) (m:dl),(∀x∈xs,x.outs.length<=2)->(dp f c cl F xs n m).1.length=xs.length/\∀y∈(dp f c cl F xs n m).1,y.args.length<=3/\y.outs.length<=2
 | [],_,_,_=>⟨rfl,λ_ h=>absurd h JE⟩
 |x::xs,n,m,h=>by
  have ih:=mf f c cl F xs (n+1) (jO f c cl F n x m).2 (λy hy=>h y (Jm _ hy));have hx:=h x JH;simp only[dp,Jz];refine⟨by rw[ih.1],λy hy=>?_⟩;rcases I7.1 hy with rfl|hy
  .rw[oc]
   refine⟨?_,by simpa using hx⟩;unfold m9;split
   .exact ID _
   .show (dH cl F n (ce (f.getD x.at_.toNat In.zero)) m).1.length<=3
    rw[rl];exact mP _
  .exact ih.2 y hy
theorem mO(f:List In)(S:bj)(F:List (List Src))(cl:List Int)(B:Nat)(hB:∀xs∈a7 S,xs.length<=B):∀(k i:Nat) (m:dl),(fx f S F cl k i m).length<=k/\∀y∈fx f S F cl k i m,y.from_.length<=B
 |0,_,_=>⟨Iz _,λ_ h=>absurd h JE⟩
 |k+1,i,m=>by
  unfold fx;split
  .exact⟨ID _,λ_ h=>absurd h JE⟩
  .rename_i p _
   simp only;have ih:=mO f S F cl B hB k (i+1) (dL f S F cl p.2.toNat ((a7 S).getD p.1.toNat []) m).2;refine⟨by simpa using ih.1,λy hy=>?_⟩;rcases I7.1 hy with rfl|hy
   .show (dL f S F cl p.2.toNat ((a7 S).getD p.1.toNat []) m).1.length<=B
    rw[pB];by_cases hn:p.1.toNat<(a7 S).length
    .rw[Ij,Ig hn]
     exact hB _ (K8 hn)
    .rw[Ij,I0 (by omega)]
     exact ID _
   .exact ih.2 y hy
theorem qK{f:List In}(hr:bi f=Ir):FSm (bK f):=by
 have hN:NPl f (aZ f) (aJ f (aZ f)) (bD f (aJ f (aZ f))):=⟨hr,rfl,rfl⟩;have h1:=mf f (aZ f) (aV (cQ f (aJ f (aZ f)) (bD f (aJ f (aZ f))))) (bD f (aJ f (aZ f))) (aJ f (aZ f)).nodes 0 ⟨[],[]⟩ hN.way.1.few;have h2:=hN.n200;have h3:=mO f (aJ f (aZ f)) (bD f (aJ f (aZ f))) (aV (cQ f (aJ f (aZ f)) (bD f (aJ f (aZ f))))) 401 (fP hN.way.1.few h2) ((aJ f (aZ f)).nodes.length*24+1) 0 (dp f (aZ f) (aV (cQ f (aJ f (aZ f)) (bD f (aJ f (aZ f))))) (bD f (aJ f (aZ f))) (aJ f (aZ f)).nodes 0 ⟨[],[]⟩).2;refine⟨?_,?_,λx hx=>?_,λx hx=>?_⟩
 .show (dp _ _ _ _ _ _ _).1.length<=5000
  rw[h1.1];omega
 .show (fx _ _ _ _ _ _ _).length<=5000
  have:=h3.1;omega
 .have:=h1.2 x hx
  omega
 .have:=h3.2 x hx
  omega
theorem fb:mL kIn:=λ_ _ _ _ h=>h
def fV:List Io:=cac r8 (Ia Ih 0 0) (Ia Ih 0 0) 0
def tp:List Io:=[Ib Ie 0,Ia Ih 0 0,Ia Ih 0 0,Ib Ie 0,Ia Ih 0 0,Ia Ih 0 0,Ib Ie 0]++fV++fV
def kW(what who at_ er:Int):List Io:=Ib Ie what::Ib Ie who::Ib Ie at_::Ib Ie er::tp
theorem mZ(a b c d:Int):(kW a b c d).length=33:=rfl
theorem Da(a b c d:Int):∀v∈kW a b c d,v.oneCell'=Ir:=by
 intro v hv;rcases I7.1 hv with rfl|hv
 .rfl
 rcases I7.1 hv with rfl|hv
 .rfl
 rcases I7.1 hv with rfl|hv
 .rfl
 rcases I7.1 hv with rfl|hv
 .rfl
 have h:∀v∈tp,v.oneCell'=Ir:=by
  have h2:tp.all (·.oneCell')=Ir:=by kernel_rfl
  exact λv hv=>Jd.1 h2 v hv
 exact h v hv
theorem mB:(If.info? 39).map (·.size)=Ic 33:=by kernel_rfl
theorem Fq(who at_ er:Int):If.built 39 [(0,Ib Ie 3),(1,Ib Ie who),(2,Ib Ie at_),(3,Ib Ie er)]=Ic (kW 3 who at_ er).toArray:=rfl
structure Bud where
 t:Int
 f:Int
def jd[Inhabited Bud](vf vg:Io)(rep:List Io):List Io:=vf::vg::(rep++[Ib Ie (Ly:Bud).t,Ib Ie (Ly:Bud).f])
structure JAt[Inhabited Bud](W:Im)(gj:Nat)(vf vg:Io)(rep:List Io):Prop where
 b:W.heap[gj]?=Ic (.cells (jd vf vg rep).toArray 53 (0,0))
 l:rep.length=33
theorem JAt.below[Inhabited Bud]{W W':Im}{gj:Nat}{vf vg:Io}{rep:List Io}(h:JAt W gj vf vg rep)(hb:It W.heap.size W W'):JAt W' gj vf vg rep:=⟨ag h.b hb,h.l⟩
theorem Ga[Inhabited Bud](vf vg:Io){rep vs:List Io}(h:rep.length=33)(h2:vs.length=33):(jd vf vg rep).take 2++vs++(jd vf vg rep).drop (2+vs.length)=jd vf vg vs:=by
 unfold jd;rw[h2];simp[h]
theorem JAt.cell[Inhabited Bud]{W:Im}{gj:Nat}{vf vg:Io}{rep:List Io}(h:JAt W gj vf vg rep)(i:Nat):W.cell? ⟨gj,i,Ih⟩=(jd vf vg rep)[i]?:=aq h.b i
theorem JAt.set0[Inhabited Bud]{W:Im}{gj:Nat}{vf vg:Io}{rep:List Io}(h:JAt W gj vf vg rep)(v:Io):JAt (W.setCell ⟨gj,0,Ih⟩ v) gj v vg rep:=⟨aR h.b 0 v,h.l⟩
theorem JAt.set1[Inhabited Bud]{W:Im}{gj:Nat}{vf vg:Io}{rep:List Io}(h:JAt W gj vf vg rep)(v:Io):JAt (W.setCell ⟨gj,1,Ih⟩ v) gj vf v rep:=⟨aR h.b 1 v,h.l⟩
theorem RdT.judge{α:Type}{d:Kd α}(hd:mL d){t:Nat}{W W':Im}{v:Io}{xs:List α}(h:RdT d t W v xs){gj:Nat}{cs:Array Io}(hj:W.heap[gj]?=Ic (.cells cs 53 (0,0)))(ht:t≠53)(hf:Fr (λk=>k=gj) W W'):RdT d t W' v xs:=by
 refine RdT.fr hd h hf ?_;rintro k cs' fr rfl e;rw[hj]at e;injection e with e
 injection e with _ e
 exact ht e.symm
structure Gr[Inhabited Bud](w W:Im)(gj:Nat)(a b:ByteArray)(rep:List Io)(k:Nat)(vf vg:Io):Prop where
 k2:k<=2
 fr:Fr (λk=>k=gj) w W
 j:JAt W gj vf vg rep
 one:1<=k->(aE a).2.2=0/\RdT kIn 49 W vf (aE a).1
 two:2<=k->(aE b).2.2=0/\RdT kIn 49 W vg (aE b).1
theorem Gl.fr{w W:Im}(h:Gl w){S:Nat->Prop}(hf:Fr S w W)(hs:¬S 0/\¬S 1):Gl W:=by
 obtain⟨h1,h2,h3,h4⟩:=h;exact⟨λi hi=>⟨hf.cell_at (h1 i hi).1 hs.1,hf.cell_at (h1 i hi).2 hs.1⟩,hf.cell_at h2 hs.2,hf.cell_at h3 hs.2,IT h4 hf.size⟩
def Ej[Inhabited Bud](w:Im)(gj:Nat)(a b:ByteArray)(rep:List Io)(e:Ending)(w':Im):Prop:=∃(r:Bool) (vf vg:Io) (rep':List Io),e=Iv (Iy r)/\JAt w' gj vf vg rep'/\Fr (λk=>k=gj) w w'/\
   (r=Ir->(aE a).2.2=0/\(aE b).2.2=0/\RdT kIn 49 w' vf (aE a).1/\RdT kIn 49 w' vg (aE b).1/\rep'=rep)/\
   (r=Ik->¬((aE a).2.2=0/\(aE b).2.2=0)/\∃x y z,rep'=kW 3 x y z)
theorem v9[Inhabited Bud](a b:ByteArray)(ha:Asc a)(hb:Asc b)(la:a.size<=20000)(lb:b.size<=20000)(w:Im)(hG:Gl w)(gj:Nat)(vf vg:Io)(rep:List Io)(hj:JAt w gj vf vg rep)(hg2:2<=gj) :
  I9 If 16 #[Iq (Ic ⟨gj,0,Ih⟩),IA #[.string a,.string b]] w (Ej w gj a b rep):=by
 have HGj:=MD (show Gl w/\2<=gj from⟨hG,hg2⟩);have HA:=MD (IE (IE ha la) (IE hb lb));have HJ:=MD hj;clear hG hg2 ha hb la lb hj;go_enter Tryz.func16,Tryz.ntmps16;go_wp2;go_loopw [11] (λi wr=>∃(k:Nat) (vf vg:Io),i=Ib Ie k/\aa (Gr w wr gj a b rep k vf vg)) (λi _=>2-(Jj i).toNat)
 case atStart=>exact⟨0,vf,vg,rfl,⟨ID _,Fr.of_below (ae (Il _ _) _),HJ.1.below (ae (Il _ _) _),λh=>by omega,λh=>by omega⟩⟩
 case round=>
  obtain⟨k,vf,vg,rfl,HK⟩:=hrel;have hk:=HK.1.k2;by_cases hk2:k<2
  .have hk2':(k:Int)<2:=by omega
   obtain⟨s,hix,hs,hsl,hsk⟩:∃s:ByteArray,(∀W,(Instr.index 55 (IA #[.string a,.string b]) (Ib Ie (k:Int))).run If W=.ok (.string s) W)/\Asc s/\s.size<=20000/\s=(if k=0 then a else b):=by
    have h01:k=0\/k=1:=by omega
    rcases h01 with rfl|rfl
    .exact⟨a,λW=>by kernel_rfl,HA.1.1.1,HA.1.1.2,rfl⟩
    .exact⟨b,λW=>by kernel_rfl,HA.1.2.1,HA.1.2.2,rfl⟩
   have HS:=MD hsk;have HP:=MD (λW (hG:Gl W)=>Cy s hs hsl W hG);obtain⟨P,hP⟩:=ME (aE s);rw[<-hP]at HP;obtain⟨F,p1,p2⟩:=P;have HPe:=MD hP;have HGw:=MD (Gl.fr HGj.1.1 HK.1.fr ⟨by have:=HGj.1.2;omega,by have:=HGj.1.2;omega⟩);clear hs hsl hsk hP;have HK2:=MD hk2;by_cases he:p2=0
   .subst he
    by_cases hk0:k=0
    .have q0:((k:Int)==0)=Ir:=beq_iff_eq.mpr (by omega)
     have HK0:=MD hk0;clear hk hk2 hk0;go_wp2_with (go_at_call 33;refine(HP.1 wr HGw.1).mono ?_;rintro e w1 ⟨v,rfl,hR,hb1⟩;obtain⟨AF,cF,rfl,zF⟩:=(show RdT kIn 49 w1 v F from hR);have HR:=MD (show RdT kIn 49 w1 (Ia AF F.length cF) F from⟨AF,cF,rfl,zF⟩);have HB1:=MD hb1;have c0:=(show w1.cell? ⟨gj,0,Ih⟩=Ic vf from(HK.1.j.below hb1).cell 0);have z0:=au (HK.1.j.below hb1).b 0;clear hR hb1 zF HP);have hf:Fr (λk=>k=gj) w1 (w1.setCell ⟨gj,0,Ih⟩ (Ia AF F.length cF)):=Fr.cell (S:=λk=>k=gj) (p:=⟨gj,0,Ih⟩) rfl _;have hj:=(HK.1.j.below HB1.1).set0 (Ia AF F.length cF);have HN:=MD (show Gr w (w1.setCell ⟨gj,0,Ih⟩ (Ia AF F.length cF)) gj a b rep 1 (Ia AF F.length cF) vg from⟨by omega,(HK.1.fr.trans (Fr.of_below HB1.1)).trans hf,hj,λ_=>by
      have e1:=HPe.1;rw[HS.1,if_pos HK0.1]at e1;rw[<-e1];exact⟨rfl,HR.1.judge fb (HK.1.j.below HB1.1).b (by decide) hf⟩,λh=>by omega⟩)
     clear hf hj;go_roundw
     case rel=>exact⟨1,_,_,by rw[HK0.1];rfl,HN⟩
     case measure=>rw[HK0.1];simp[Jj]
    .have q0:((k:Int)==0)=Ik:=beq_eq_false_iff_ne.mpr (by omega)
     have HK0:=MD (show k=1 by omega);clear hk hk2 hk0;go_wp2_with (go_at_call 33;refine(HP.1 wr HGw.1).mono ?_;rintro e w1 ⟨v,rfl,hR,hb1⟩;obtain⟨AF,cF,rfl,zF⟩:=(show RdT kIn 49 w1 v F from hR);have HR:=MD (show RdT kIn 49 w1 (Ia AF F.length cF) F from⟨AF,cF,rfl,zF⟩);have HB1:=MD hb1;have c0:=(show w1.cell? ⟨gj,1,Ih⟩=Ic vg from(HK.1.j.below hb1).cell 1);have z0:=au (HK.1.j.below hb1).b 1;clear hR hb1 zF HP);have hf:Fr (λk=>k=gj) w1 (w1.setCell ⟨gj,1,Ih⟩ (Ia AF F.length cF)):=Fr.cell (S:=λk=>k=gj) (p:=⟨gj,1,Ih⟩) rfl _;have hj:=(HK.1.j.below HB1.1).set1 (Ia AF F.length cF);have HN:=MD (show Gr w (w1.setCell ⟨gj,1,Ih⟩ (Ia AF F.length cF)) gj a b rep 2 vf (Ia AF F.length cF)from⟨by omega,(HK.1.fr.trans (Fr.of_below HB1.1)).trans hf,hj,λ_=>⟨(HK.1.one (by have:=HK0.1;omega)).1,((HK.1.one (by have:=HK0.1;omega)).2.below HB1.1).judge fb (HK.1.j.below HB1.1).b (by decide) hf⟩,λ_=>by
      have e1:=HPe.1;rw[HS.1,if_neg (by rw[HK0.1];decide)]at e1;rw[<-e1];exact⟨rfl,HR.1.judge fb (HK.1.j.below HB1.1).b (by decide) hf⟩⟩)
     clear hf hj;go_roundw
     case rel=>exact⟨2,_,_,by rw[HK0.1];rfl,HN⟩
     case measure=>rw[HK0.1];simp[Jj]
   .have qe:(p2 != 0)=Ir:=bne_iff_ne.mpr he
    have HE:=MD he;clear he hk hk2;go_wp2_with (first
     |(go_at_call 33;refine(HP.1 wr HGw.1).mono ?_;rintro e w1 ⟨v,rfl,hR,hb1⟩;obtain⟨AF,cF,rfl,zF⟩:=(show RdT kIn 49 w1 v F from hR);have HB1:=MD hb1;have HJ1:=MD (HK.1.j.below hb1);clear hR hb1 zF HP)
     |((with_reducible refine ai (N:=27) rfl ?_);refine aU rfl 39 _ rfl [(0,Ib Ie 3),(1,Ib Ie (k:Int)),(2,Ib Ie p1),(3,Ib Ie p2)] _ rfl (Fq k p1 p2) ?_)
     |((with_reducible refine ap (t:=39) (p:=29) rfl ?_);refine ew rfl 39 _ _ rfl gj 2 (kW 3 k p1 p2) rfl rfl 53 (jd vf vg rep) (jd vf vg (kW 3 k p1 p2)) HJ1.1.b (by rw[mZ];exact mB) (by unfold jd;simp[HJ1.1.l,mZ]) (Da _ _ _ _) (Ga _ _ HJ1.1.l (mZ _ _ _ _)) ?_;intro w2 h2 hf2;have H2:=MD h2;have HF2:=MD hf2;clear h2 hf2))
    go_ret;refine⟨Ik,vf,vg,kW 3 k p1 p2,rfl,⟨H2.1,mZ _ _ _ _⟩,(HK.1.fr.trans (Fr.of_below HB1.1)).trans HF2.1,λh=>(by cases h),λ_=>⟨λh=>HE.1 ?_,_,_,_,rfl⟩⟩;have e1:=HPe.1;have e2:p2=(aE s).2.2:=by rw[<-e1]
    have hs:=HS.1;rw[e2,hs];split
    .exact h.1
    .exact h.2
  .obtain rfl:k=2:=by omega
   clear hk hk2;go_wp2;go_ret;exact⟨Ir,vf,vg,rep,rfl,HK.1.j,HK.1.fr,λ_=>⟨(HK.1.one (by decide)).1,(HK.1.two (by decide)).1,(HK.1.one (by decide)).2,(HK.1.two (by decide)).2,rfl⟩,λh=>by cases h⟩
def gy(what:Int)(ea:Int)(na va:Io)(eb:Int)(nb vb:Io)(tl:List Io):List Io:=Ib Ie what::Ib Ie 0::Ib Ie 0::Ib Ie 0::Ib Ie ea::na::va::Ib Ie eb::nb::vb::tl
def tl0:List Io:=Ib Ie 0::(fV++fV)
theorem tI:(If.info? 33).map (·.size)=Ic 3:=by kernel_rfl
def kZ(v:Io)(n:Nat):Prop:=∃A c,v=Ia A n c
def El[Inhabited Bud](w:Im)(gj:Nat)(f g:List In)(vf vg:Io)(e:Ending)(w':Im):Prop:=
 ∃na va nb vb,e=Iv (Iy (!decide (bK f=bK g)))/\JAt w' gj vf vg (gy 0 (bK f).entry na va (bK g).entry nb vb tl0)/\kZ na (bK f).nodes.length/\(∃n,kZ va n)/\(∃n,kZ nb n)/\(∃n,kZ vb n)/\Fr (λk=>k=gj) w w'/\RdT kIn 49 w' vf f/\RdT kIn 49 w' vg g
theorem GK{n:Int}{A B:Option Addr}{a b c d:Nat}:∀v∈[Ib .i64 n,Ia A a b,Ia B c d],v.oneCell'=Ir:=by
 intro v hv;simp only[I7,JE,or_false]at hv;rcases hv with rfl|rfl|rfl<;>rfl
theorem tS[Inhabited Bud](f g:List In)(w:Im)(hG:Gl w)(gj:Nat)(vf vg:Io)(hj:JAt w gj vf vg (gy 0 0 (Ia Ih 0 0) (Ia Ih 0 0) 0 (Ia Ih 0 0) (Ia Ih 0 0) tl0))(hg2:2<=gj)(hrf:bi f=Ir)(hrg:bi g=Ir)(hf:RdT kIn 49 w vf f)(hg:RdT kIn 49 w vg g) :
  I9 If 17 #[Iq (Ic ⟨gj,0,Ih⟩)] w (El w gj f g vf vg):=by
 obtain⟨Af,cf,rfl,lf,Cf,tf⟩:=hf;obtain⟨Ag,cg,rfl,lg,Cg,tg⟩:=hg;have hf:RdT kIn 49 w (Ia Af f.length cf) f:=⟨Af,cf,rfl,lf,Cf,tf⟩;have hg:RdT kIn 49 w (Ia Ag g.length cg) g:=⟨Ag,cg,rfl,lg,Cg,tg⟩;have HN1:=MD (As f Af cf w hG Cf lf hrf);have HN2:=MD (λ(W:Im) (hG:Gl W) (h:RdT kIn 49 W (Ia Ag g.length cg) g)=>As g Ag cg W hG (by obtain⟨A,c,e,_,h,_⟩:=h;injection e with e;subst e;exact h) lg hrg);have HS:=MD (yX (bK f) (bK g));have HSm:=MD (IE (qK hrf) (qK hrg));obtain⟨F,hF⟩:=ME (bK f);obtain⟨G,hGe⟩:=ME (bK g);have HQ:El w gj f g (Ia Af f.length cf) (Ia Ag g.length cg)=λe w'=>∃na va nb vb,e=Iv (Iy (!decide (F=G)))/\JAt w' gj (Ia Af f.length cf) (Ia Ag g.length cg) (gy 0 F.entry na va G.entry nb vb tl0)/\kZ na F.nodes.length/\(∃n,kZ va n)/\(∃n,kZ nb n)/\(∃n,kZ vb n)/\Fr (λk=>k=gj) w w'/\RdT kIn 49 w' (Ia Af f.length cf) f/\RdT kIn 49 w' (Ia Ag g.length cg) g:=by
  rw[hF,hGe];rfl
 rw[<-hF]at HN1 HS HSm;rw[<-hGe]at HN2 HS HSm;have HQe:=MD HQ;have HGl:=MD hG;have HJ:=MD hj;have HFr:=MD (IE hf hg);have HG2:=MD hg2;obtain⟨r,hr⟩:=ME (decide (F=G));have HR:=MD hr;rw[<-hr]at HS;have c0:=(show w.cell? ⟨gj,0,Ih⟩=Ic (.slice Af f.length cf)from hj.cell 0);clear hF hGe HQ hG hj hg2 hf hg lf Cf tf lg Cg tg hrf hrg hr;obtain⟨Q,hQ⟩:∃Q,Q=El w gj f g (Ia Af f.length cf) (Ia Ag g.length cg):=⟨_,rfl⟩;rw[<-hQ];have HQ2:=MD hQ;clear hQ;go_enter Tryz.func17,Tryz.ntmps17;go_upto_region 2 with(first
  |(go_at_call 34;refine HN1.1.mono ?_;rintro e w1 ⟨vN,vV,rfl,hN,hV,hb1⟩;obtain⟨AN,cN,rfl⟩:=Kd.R_slice hN;obtain⟨AV,cV,rfl⟩:=Kd.R_slice hV;have HNa:=MD hN;have HVa:=MD hV;have HB1:=MD hb1;have HJ1:=MD (HJ.1.below hb1);clear hN hV hb1 c0 HN1)
  |((with_reducible refine ap (t:=33) (p:=14) rfl ?_);refine ew rfl 33 _ _ rfl gj 6 [Ib Ie F.entry,Ia AN F.nodes.length cN,Ia AV F.vals.length cV] rfl rfl 53 (jd (Ia Af f.length cf) (Ia Ag g.length cg) (gy 0 0 (Ia Ih 0 0) (Ia Ih 0 0) 0 (Ia Ih 0 0) (Ia Ih 0 0) tl0)) (jd (Ia Af f.length cf) (Ia Ag g.length cg) (gy 0 F.entry (Ia AN F.nodes.length cN) (Ia AV F.vals.length cV) 0 (Ia Ih 0 0) (Ia Ih 0 0) tl0)) HJ1.1.b tI (Nat.le_of_ble_eq_true rfl) GK rfl ?_;intro w2 h2 hf2;have H2:=MD h2;have HF2:=MD hf2;clear h2 hf2))
 have HB2:=MD (show Fr (λk=>k=gj) w w2 from(Fr.of_below HB1.1).trans HF2.1);have HNb:=MD (dy HNa.1 HF2.1 (λk q cells hk hc hq=>by have hk2:k=gj:=hk;subst hk2;rw[HJ1.1.b]at hc;injection hc with hc;injection hc with _ hc _;rcases fe hq with e|e|e<;>exact absurd (hc.trans e) (by decide)));have HVb:=MD (dy HVa.1 HF2.1 (λk q cells hk hc hq=>by have hk2:k=gj:=hk;subst hk2;rw[HJ1.1.b]at hc;injection hc with hc;injection hc with _ hc _;rcases ky hq with e|e<;>exact absurd (hc.trans e) (by decide)));have HR2:=MD (IE ((HFr.1.1.below HB1.1).judge fb HJ1.1.b (by decide) HF2.1) ((HFr.1.2.below HB1.1).judge fb HJ1.1.b (by decide) HF2.1));have HGl2:=MD (Gl.fr HGl.1 HB2.1 ⟨by have:=HG2.1;omega,by have:=HG2.1;omega⟩);have HN3:=MD (HN2.1 w2 HGl2.1 HR2.1.2);have HJ2:=MD (show JAt w2 gj (Ia Af f.length cf) (Ia Ag g.length cg) (gy 0 F.entry (Ia AN F.nodes.length cN) (Ia AV F.vals.length cV) 0 (Ia Ih 0 0) (Ia Ih 0 0) tl0)from⟨H2.1,rfl⟩);have c1:=(show w2.cell? ⟨gj,1,Ih⟩=Ic (.slice Ag g.length cg)from HJ2.1.cell 1);clear HN2 HNa HVa HJ1 HF2 HB1 HJ HGl HFr H2;go_upto_region 3 with(first
  |(go_at_call 34;refine HN3.1.mono ?_;rintro e w3 ⟨vN,vV,rfl,hN,hV,hb3⟩;obtain⟨AM,cM,rfl⟩:=Kd.R_slice hN;obtain⟨AU,cU,rfl⟩:=Kd.R_slice hV;have HM:=MD hN;have HU:=MD hV;have HB3:=MD hb3;have HJ3:=MD (HJ2.1.below hb3);clear hN hV hb3 c1 HN3)
  |((with_reducible refine ap (t:=33) (p:=26) rfl ?_);refine ew rfl 33 _ _ rfl gj 9 [Ib Ie G.entry,Ia AM G.nodes.length cM,Ia AU G.vals.length cU] rfl rfl 53 (jd (Ia Af f.length cf) (Ia Ag g.length cg) (gy 0 F.entry (Ia AN F.nodes.length cN) (Ia AV F.vals.length cV) 0 (Ia Ih 0 0) (Ia Ih 0 0) tl0)) (jd (Ia Af f.length cf) (Ia Ag g.length cg) (gy 0 F.entry (Ia AN F.nodes.length cN) (Ia AV F.vals.length cV) G.entry (Ia AM G.nodes.length cM) (Ia AU G.vals.length cU) tl0)) HJ3.1.b tI (Nat.le_of_ble_eq_true rfl) GK rfl ?_;intro w4 h4 hf4;have H4:=MD h4;have HF4:=MD hf4;clear h4 hf4))
 have tagN:=λ(k q:Nat) (cells:Array Io) (hk:k=gj) (hc:w3.heap[k]?=Ic (.cells cells q (0,0))) (hq:q∈145::fg.E)=>(show False by subst hk;rw[HJ3.1.b]at hc;injection hc with hc;injection hc with _ hc _;rcases fe hq with e|e|e<;>exact absurd (hc.trans e) (by decide));have tagV:=λ(k q:Nat) (cells:Array Io) (hk:k=gj) (hc:w3.heap[k]?=Ic (.cells cells q (0,0))) (hq:q∈148::jj.E)=>(show False by subst hk;rw[HJ3.1.b]at hc;injection hc with hc;injection hc with _ hc _;rcases ky hq with e|e<;>exact absurd (hc.trans e) (by decide));have HNc:=MD (dy (Kd.R_below HNb.1 HB3.1) HF4.1 tagN);have HVc:=MD (dy (Kd.R_below HVb.1 HB3.1) HF4.1 tagV);have HMc:=MD (dy HM.1 HF4.1 tagN);have HUc:=MD (dy HU.1 HF4.1 tagV);have HR4:=MD (IE ((HR2.1.1.below HB3.1).judge fb HJ3.1.b (by decide) HF4.1) ((HR2.1.2.below HB3.1).judge fb HJ3.1.b (by decide) HF4.1));have HB4:=MD (show Fr (λk=>k=gj) w w4 from(HB2.1.trans (Fr.of_below HB3.1)).trans HF4.1);have HD:=MD (show It w4.heap.size w4 w4.drew from aA (Il _ _));have HS4:=MD (HS.1 _ _ _ _ w4.drew (Rd.of_R (Kd.R_below HNc.1 HD.1)) (Rd.of_R (Kd.R_below HVc.1 HD.1)) (Rd.of_R (Kd.R_below HMc.1 HD.1)) (Rd.of_R (Kd.R_below HUc.1 HD.1)) HSm.1.1 HSm.1.2);have HL1:=MD (cr (P:=If) (W:=w4.drew) (ag H4.1 HD.1) 33 6 [Ib Ie F.entry,Ia AN F.nodes.length cN,Ia AV F.vals.length cV] rfl _ Tryz.underlying33 rfl tI);have HL2:=MD (cr (P:=If) (W:=w4.drew) (ag H4.1 HD.1) 33 9 [Ib Ie G.entry,Ia AM G.nodes.length cM,Ia AU G.vals.length cU] rfl _ Tryz.underlying33 rfl tI);clear tagN tagV HM HU HNb HVb HB3 HJ2 HJ3 HF4 HB2 HR2;go_still_tail 10,(by kernel_rfl);refine bO rfl (ao rfl rfl HL1.1) ?_
 repeat still_step
 refine bO rfl (ao rfl rfl HL2.1) ?_;refine Mc ?_;change Kg _ _ _ _ _ w4.drew;go_wp2_with (go_at_call 35;refine HS4.1.mono ?_;rintro e w5 ⟨rfl,hb5⟩;have HB5:=MD (af HD.1 hb5);clear hb5);rw[HQ2.1,HQe.1];exact⟨_,_,_,_,by rw[HR.1];rfl,⟨ag H4.1 HB5.1,rfl⟩,⟨_,_,rfl⟩,⟨_,_,_,rfl⟩,⟨_,_,_,rfl⟩,⟨_,_,_,rfl⟩,HB4.1.trans (Fr.of_below HB5.1),HR4.1.1.below HB5.1,HR4.1.2.below HB5.1⟩
section
open Go.Shelf
attribute [local go_sem] Oper.semAt_some
theorem tO(f g:List In)(Af Ag:Option Addr)(cf cg:Nat)(bt bf:Int)(l bB bF bG:Nat)(W:Im)(hf:f.length<=200)(hg:g.length<=200)(hCf:Kd.C kIn W Af f.length f)(hcf:f.length<=cf)(hCg:Kd.C kIn W Ag g.length g)(hcg:g.length<=cg)
  (hB:W.heap[bB]?=Ic (.cells #[Ib Ie bt,Ib Ie bf] 24 (0,0))) (hF:W.heap[bF]?=Ic (.cells #[Ia Af f.length cf] 22 (0,0))) (hG:W.heap[bG]?=Ic (.cells #[Ia Ag g.length cg] 22 (0,0))) (Jx:Im->Prop)
  (hY:∀v W1,CaV W1 (az f g) v->It W.heap.size W W1->YieldAt Fence.wide 2 If l #[Ib Ie 0,v] W1 λe W'=>e=Iv (Iy Ik)/\Jx W') :
  CallsIn Fence.wide 3 If 87 #[.func (.yield l) #[] #[],Iq (Ic ⟨bB,0,Ih⟩),Iq (Ic ⟨bF,0,Ih⟩),Iq (Ic ⟨bG,0,Ih⟩)] W λe W'=>(∃v,e=Iv v)/\Jx W':=by
 have HA:=MD (λ(W1:Im) (hb:It W.heap.size W W1)=>D3 f g Af Ag cf cg bf W1 hf hg (Kd.C_below hCf hb) hcf (Kd.C_below hCg hb) hcg);have HY:=MD hY;have c0:=(show W.cell? ⟨bB,0,Ih⟩=Ic (Ib Ie bt) by rw[ah hB];rfl);have c1:=(show W.cell? ⟨bB,1,Ih⟩=Ic (Ib Ie bf) by rw[ah hB];rfl);have cF:=(show W.cell? ⟨bF,0,Ih⟩=Ic (.slice Af f.length cf) by rw[ah hF];rfl);have cG:=(show W.cell? ⟨bG,0,Ih⟩=Ic (.slice Ag g.length cg) by rw[ah hG];rfl);clear hf hg hCf hcf hCg hcg hY hB hF hG;refine callsIn_of_wp Tryz.func87 rfl trivial ?_ rfl;simp only[Tryz.ntmps87,I8,Jz,Lj,Nat.reduceAdd,Nat.reduceSub,Array.replicate_succ,Array.replicate_zero,List.push_toArray,List.append_toArray,Ka,List.cons_append];gi_wp2;gi_loopw [5] (λi wr=>i=Ib Ie 0/\wr=W) (λi _=>0)
 case atStart=>exact⟨rfl,rfl⟩
 case round=>
  obtain⟨rfl,rfl⟩:=hrel;gi_wp2_with (refine⟨trivial,?_⟩;gi_at_call 88;refine(callsIn_wide.2 (HA.1 _ (Il _ _))).mono ?_;rintro e W2 ⟨v,rfl,hv,hb⟩;obtain⟨fn,tmps,assign,body,hy,hR⟩:=HY.1 v W2 hv hb;clear hv hb)
  all_goals first
   |omega
   |(refine hR.mono ?_;rintro e W3 ⟨rfl,hJ⟩;clear hy hR;gi_wp2;refine IG (results_none rfl _ _ _) rfl ?_;exact⟨⟨_,rfl⟩,hJ⟩)
theorem vD(bt bf:Int)(vf vg:Io)(Af Ag:Option Addr)(nf ng cf cg:Nat)(hvf:vf=Ia Af nf cf)(hvg:vg=Ia Ag ng cg)(w:Im) :
  I9 If 59 #[vf,vg,IA #[Ib Ie bt,Ib Ie bf]] w λe w'=>∃B,e=Iv (.func (.func 87) #[] #[Iq (Ic ⟨B+2,0,Ih⟩),Iq (Ic ⟨B,0,Ih⟩),Iq (Ic ⟨B+1,0,Ih⟩)])/\B=w.heap.size/\
   w'.heap[B]?=Ic (.cells #[vf] 22 (0,0))/\w'.heap[B+1]?=Ic (.cells #[vg] 22 (0,0))/\w'.heap[B+2]?=Ic (.cells #[Ib Ie bt,Ib Ie bf] 24 (0,0))/\It w.heap.size w w':=by
 subst hvf hvg;obtain⟨w1,hw1⟩:∃w1,w1=((w.alloc (Is #[Ia Af nf cf] 22)).alloc (Is #[Ia Ag ng cg] 22)).alloc (Is #[Ib Ie bt,Ib Ie bf] 24):=⟨_,rfl⟩;obtain⟨b1,b2,b3,b4⟩:=dh (w:=w) (w1:=w1) (A:=Is #[Ia Af nf cf] 22) (B:=Is #[Ia Ag ng cg] 22) (C:=Is #[Ib Ie bt,Ib Ie bf] 24) (by rw[hw1];exact Il _ _);have HR:=MD (IE b1 (IE b2 (IE b3 b4)));have HW1:=MD hw1;clear hw1 b1 b2 b3 b4;go_enter Tryz.func59,Tryz.ntmps59;go_upto_region 1 with fail
 refine ar HW1.1.symm ?_;go_wp2;go_ret;exact⟨w.heap.size,rfl,rfl,HR.1⟩
end
section
open Go.Shelf
attribute [local go_sem] Oper.semAt_some
theorem zh(bt bf:Int)(f g:List In)(Af Ag:Option Addr)(cf cg:Nat)(w:Im)(hGl:Gl w)(hrf:bi f=Ir)(hrg:bi g=Ir)(hf:f.length<=200)(hg:g.length<=200)(hCf:Kd.C kIn w Af f.length f)(hcf:f.length<=cf)(hCg:Kd.C kIn w Ag g.length g)(hcg:g.length<=cg)(hne:(da f g (az f g)).1≠0) :
  I9 If 36 #[Ia Af f.length cf,Ia Ag g.length cg,IA #[Ib Ie bt,Ib Ie bf]] w λe w'=>∃row:List Io,e=Iv (IR #[IA (Ib Ie 0::Ib Ie (da f g (az f g)).1::row).toArray,Iy Ir,Ib Ie 0])/\CaV w' (az f g) (IA row.toArray)/\It w.heap.size w w':=by
 have HRf:=MD (λW (hb:It w.heap.size w W)=>eD Af cf f W (hGl.below hb) (Kd.C_below hCf hb) hcf);have HRg:=MD (λW (hb:It w.heap.size w W)=>eD Ag cg g W (hGl.below hb) (Kd.C_below hCg hb) hcg);rw[hrf]at HRf;rw[hrg]at HRg;have HCs:=MD (λW=>vD bt bf (Ia Af f.length cf) (Ia Ag g.length cg) Af Ag f.length g.length cf cg rfl rfl W);have HF:=MD (IE hGl (IE hCf hCg));have HNe:=MD hne;have Hc:=MD (IE (IE hf hg) (IE hcf hcg));clear hGl hrf hrg hf hg hCf hcf hCg hcg hne;refine(callsIn_wide (n:=4)).1 ?_;refine callsIn_of_wp_marks Tryz.func36 rfl trivial ?_ rfl;simp only[Tryz.ntmps36,I8,Jz,Lj,Nat.reduceAdd,Nat.reduceSub,Array.replicate_succ,Array.replicate_zero,List.push_toArray,List.append_toArray,Ka,List.cons_append];obtain⟨w6,hw6⟩:∃w6,w6=(((((w.alloc (Is #[Ia Af f.length cf] 22)).alloc (Is #[Ia Ag g.length cg] 22)).alloc (Is #[Ib Ie bt,Ib Ie bf] 24)).alloc (Is lU 84)).alloc (Is #[Iy Ik] 4)).alloc (Is #[Ib Ie 0] 29):=⟨_,rfl⟩;have HW6:=MD hw6;have HB6:=MD (show It w.heap.size w w6 by rw[hw6];exact ae (ae (ae (ae (ae (ae (Il _ _) _) _) _) _) _) _);obtain⟨g1,g2,g3,g4,hb4⟩:=qJ (w:=w) (w1:=w6) (A:=Is #[Ia Af f.length cf] 22) (B:=Is #[Ia Ag g.length cg] 22) (C:=Is #[Ib Ie bt,Ib Ie bf] 24) (D:=Is lU 84) (by rw[hw6];exact ae (ae (Il _ _) _) _);have HG2:=MD g2;have HG3:=MD (show w6.heap[w.heap.size+1+1]?=Ic (.cells #[Ib Ie bt,Ib Ie bf] 24 (0,0))from g3);have HG4:=MD (show w6.heap[w.heap.size+1+1+1]?=Ic (.cells lU 84 (0,0))from g4);have HG1:=MD g1;have HG5:=MD (show w6.heap[w.heap.size+1+1+1+1]?=Ic (.cells #[Iy Ik] 4 (0,0)) by
  have h:=Iu ((((w.alloc (Is #[Ia Af f.length cf] 22)).alloc (Is #[Ia Ag g.length cg] 22)).alloc (Is #[Ib Ie bt,Ib Ie bf] 24)).alloc (Is lU 84)) (Is #[Iy Ik] 4);rw[hw6];refine ag (w:=((((w.alloc (Is #[Ia Af f.length cf] 22)).alloc (Is #[Ia Ag g.length cg] 22)).alloc (Is #[Ib Ie bt,Ib Ie bf] 24)).alloc (Is lU 84)).alloc (Is #[Iy Ik] 4)) ?_ (ae (Il _ _) _);simpa using h)
 have HG6:=MD (show w6.heap[w.heap.size+1+1+1+1+1]?=Ic (.cells #[Ib Ie 0] 29 (0,0)) by
  have h:=Iu (((((w.alloc (Is #[Ia Af f.length cf] 22)).alloc (Is #[Ia Ag g.length cg] 22)).alloc (Is #[Ib Ie bt,Ib Ie bf] 24)).alloc (Is lU 84)).alloc (Is #[Iy Ik] 4)) (Is #[Ib Ie 0] 29);rw[hw6];simpa using h)
 clear hw6 g1 g2 g3 g4 hb4;gi_wp2_with (first
  |(refine⟨trivial,?_⟩;gi_at_call 47;refine sV HW6.1.symm ?_;clear HW6;refine(callsIn_wide.2 (HRf.1 w6 HB6.1)).mono ?_;rintro e w7 ⟨rfl,hb⟩;have HB7:=MD hb;have d1:=(show w7.cell? ⟨w.heap.size+1,0,Ih⟩=Ic (.slice Ag g.length cg) by rw[ah (ag HG2.1 hb)];rfl);clear hb HRf)
  |(refine⟨trivial,?_⟩;gi_at_call 47;refine(callsIn_wide.2 (HRg.1 w7 (af HB6.1 HB7.1))).mono ?_;rintro e w8 ⟨rfl,hb⟩;have HB8:=MD hb;have d0:=(show w8.cell? ⟨w.heap.size,0,Ih⟩=Ic (.slice Af f.length cf) by rw[ah (ag (ag HG1.1 HB7.1) hb)];rfl);have d1:=ak hb d1;have d2:=(show w8.cell? ⟨w.heap.size+1+1,0,Ih⟩=Ic (Ib Ie bt) by rw[ah (ag (ag HG3.1 HB7.1) hb)];rfl);have d3:=(show w8.cell? ⟨w.heap.size+1+1,1,Ih⟩=Ic (Ib Ie bf) by rw[ah (ag (ag HG3.1 HB7.1) hb)];rfl);clear hb HRg)
  |(refine⟨trivial,?_⟩;gi_at_call 59;refine(callsIn_wide.2 (HCs.1 w8)).mono ?_;rintro e w9 ⟨B,rfl,hBe,k1,k2,k3,hb⟩;have HB9:=MD hb;have HK:=MD (IE hBe (IE k1 (IE k2 k3)));clear d0 d1 d2 d3 hb HCs hBe k1 k2 k3))
 have HLv:=MD (enters_of (f:=87) Tryz.func87 (by kernel_rfl) rfl);obtain⟨N,hN⟩:=ME w9.heap.size;have HN:=MD hN;refine yQ rfl (by decide) (gf:=87) rfl trivial HLv.1 ?_;intro fn hfn rec hrec W1 hb1 hs1 hd1 hl1;obtain⟨hBe,k1,k2,k3⟩:=HK.1;have hb9:It w.heap.size w w9:=af (af (af HB6.1 HB7.1) HB8.1) HB9.1;have hb91:It w.heap.size w W1:=af hb9 hb1;refine(tO f g Af Ag cf cg bt bf (w9.heap.size+1) (B+2) B (B+1) W1 Hc.1.1.1 Hc.1.1.2 (Kd.C_below HF.1.2.1 hb91) Hc.1.2.1 (Kd.C_below HF.1.2.2 hb91) Hc.1.2.2 (ag k3 hb1) (ag k1 hb1) (ag k2 hb1)
  (λW=>W.heap[w9.heap.size]?=Ic (.deferred (Ic []))/\W.heap[w9.heap.size+1]?=Ic (.loop (rec .done (Ic .ret)))/\∃row:List Io,CaV W (az f g) (IA row.toArray)/\row.length=11/\W.heap[w.heap.size+1+1+1]?=Ic (.cells (Ib Ie 0::Ib Ie (da f g (az f g)).1::row).toArray 84 (0,0))/\W.heap[w.heap.size+1+1+1+1]?=Ic (.cells #[Iy Ir] 4 (0,0))/\W.heap[w.heap.size+1+1+1+1+1]?=Ic (.cells #[Ib Ie 0] 29 (0,0))/\(da f g (az f g)).1≠0/\It w.heap.size w W) ?hY).mono ?after
 case after=>
  rintro e W' ⟨hv,hd,hl,row,hC,hr,r6,r7,r8,hne,hb⟩
  .refine⟨hv,.inr ⟨hl,?_⟩⟩
   have hs9:w6.heap.size<=w9.heap.size:=IT HB7.1.size (IT HB8.1.size HB9.1.size);have hlt6:=aj HG6.1;obtain⟨W4,hW4⟩:∃W4,W4=W'.putObj (w9.heap.size+1) (.loop (rec .exhausted (Ic .ret))):=⟨_,rfl⟩;rw[<-hW4];have hf4:Fr (λk=>k=w9.heap.size\/k=w9.heap.size+1) W' W4:=by rw[hW4];exact⟨rfl,rfl,rfl,by simp,λk _ hk=>KC (λe=>hk (.inr e))⟩
   have hK:W4.heap[w9.heap.size]?=Ic (.deferred (Ic [])):=by rw[hW4];exact(KC (by omega)).trans hd
   have hp:Fr (λk=>k=w9.heap.size\/k=w9.heap.size+1) W' (W4.putObj w9.heap.size (.deferred Ih)):=hf4.trans ⟨rfl,rfl,rfl,by simp,λk _ hk=>KC (λe=>hk (.inl e))⟩;have hnt:∀k cs fr,(k=w9.heap.size\/k=w9.heap.size+1)->W'.heap[k]?≠Ic (.cells cs 2 fr):=λk cs fr e=>by
    rcases e with rfl|rfl
    .rw[hd];simp
    .rw[hl];simp
   have hC':=hC.fr hp hnt;have hb':It w.heap.size w (W4.putObj w9.heap.size (.deferred Ih)):=Fr.below hb hp (λk hk e=>by rcases e with e|e<;>omega) hb.size;have q6:=(hp.block _ (aj r6) (λe=>by rcases e with e|e<;>omega)).trans r6;have q7:=(hp.block _ (aj r7) (λe=>by rcases e with e|e<;>omega)).trans r7;have q8:=(hp.block _ (aj r8) (λe=>by rcases e with e|e<;>omega)).trans r8;have HX:=MD (IE hK (IE hC' (IE hb' (IE q6 (IE q7 q8)))));have HN:=MD (IE hne hr);clear hW4 hf4 hK hp hnt hC' hb' q6 q7 q8 hC hr r6 r7 r8 hne hb hd hl hv hd1 hl1 hb1 hb9 hb91 k1 k2 k3 hrec;gi_wp2;refine⟨by simp,.inl ⟨_,_,rfl,run_takeDeferred HX.1.1,?_⟩⟩;refine⟨_,yI (w.heap.size+1+1+1) (w.heap.size+1+1+1+1) (w.heap.size+1+1+1+1+1) (Ib Ie 0::Ib Ie (da f g (az f g)).1::row).toArray (Iy Ir) (Ib Ie 0) rfl rfl rfl HX.1.2.2.2.1 (tF.trans (by simp[HN.1.2])) (by rw[ah HX.1.2.2.2.2.1];rfl) (by rw[ah HX.1.2.2.2.2.2];rfl),?_⟩;exact⟨row,rfl,HX.1.2.1,HX.1.2.2.1⟩
 case hY=>
  intro v W2 hv hb2;have HRec:=MD hrec;clear hrec;refine yr HRec.1 hfn ((hb2.block _ (by omega)).trans hl1) rfl ?_;obtain⟨vH,vA,rfl,h8,⟨AH,cH,rfl,zH⟩,⟨AA,cA,rfl,zA⟩⟩:=hv;have HZ:=MD (IE h8 (IE zH zA));have HB2:=MD hb2;have HL2:=MD (IE ((hb2.block _ (by omega)).trans hd1) ((hb2.block _ (by omega)).trans hl1));have HB1:=MD hb1;clear zH zA hb2 hd1 hl1 k1 k2 k3;gi_wp2_with (first
   |((with_reducible refine nw (t:=37) (p:=10) rfl ?_);refine iV (λ_=>trivial) rfl rfl 37 _ _ rfl W2.heap.size (cac (az f g).r (Ia AH (az f g).h.length cH) (Ia AA (az f g).ans.length cA) (az f g).fuel) rfl rfl 37 dP.toList (Iu W2 _) ((bv HZ.1.1).trans (by rw[I8])) (by rw[kJ HZ.1.1];rfl) (λx hx=>by have h:=fN (r:=(az f g).r) (A:=AH) (B:=AA) (n:=(az f g).h.length) (c:=cH) (m:=(az f g).ans.length) (d:=cA) (fuel:=(az f g).fuel);rw[Array.all_eq_true']at h;exact h x (by simpa using hx)) ?_;intro w11 h11 hf11;have H11:=MD h11;have HB11:=MD (cw hf11);clear h11 hf11))
  refine⟨(HB11.1.block _ (aj HL2.1.2)).trans HL2.1.2,?_⟩;obtain⟨w12,hw12⟩:∃w12,w12=w11.putObj (w9.heap.size+1) (.loop (rec .busy Ih)):=⟨_,rfl⟩;rw[<-hw12];have hf12:Fr (λk=>k=w9.heap.size+1) w11 w12:=by rw[hw12];exact⟨rfl,rfl,rfl,by simp,λk _ hk=>KC hk⟩
  have HSz:=MD (show W1.heap.size<=w12.heap.size from IT HB2.1.size (IT HB11.1.size hf12.size));have hl12:w12.heap[w9.heap.size+1]?=Ic (.loop (rec .busy Ih)):=by rw[hw12];exact Im.putObj_heap_same (by have:=aj HL2.1.2;have:=HB11.1.size;omega)
  have hb91':It w9.heap.size w9 w11:=af (af HB1.1 HB2.1) HB11.1;have hb912:It w9.heap.size w9 w12:=Fr.below hb91' hf12 (λk hk e=>by omega) hb91'.size;have hbw:It w.heap.size w w12:=af hb9 hb912;have hW1s:W1.heap.size<=W2.heap.size:=HB2.1.size;have h11n:W2.heap.size≠w9.heap.size+1:=by omega
  have hH12:=MD ((hf12.block W2.heap.size (aj H11.1) h11n).trans H11.1);have hnt:∀k cs fr,k=w9.heap.size+1->w11.heap[k]?≠Ic (.cells cs 2 fr):=λk cs fr e=>by subst e;rw[(HB11.1.block _ (aj HL2.1.2)).trans HL2.1.2];simp
  have hRH:=RdT.fr (S:=λk=>k=w9.heap.size+1) aC (RdT.below (show RdT (Kd.int .i64) 2 W2 (Ia AH (az f g).h.length cH) (az f g).h from⟨AH,cH,rfl,HZ.1.2.1⟩) HB11.1) hf12 hnt;have hRA:=RdT.fr (S:=λk=>k=w9.heap.size+1) aC (RdT.below (show RdT (Kd.int .i64) 2 W2 (Ia AA (az f g).ans.length cA) (az f g).ans from⟨AA,cA,rfl,HZ.1.2.2⟩) HB11.1) hf12 hnt;have hT:=ix f g Af Ag cf cg (az f g) (IA (cac (az f g).r (Ia AH (az f g).h.length cH) (Ia AA (az f g).ans.length cA) (az f g).fuel).toArray) w12 (HF.1.1.below hbw) (Kd.C_below HF.1.2.1 hbw) Hc.1.2.1 (Kd.C_below HF.1.2.2 hbw) Hc.1.2.2 ⟨_,_,rfl,HZ.1.1,hRH,hRA⟩ (by show([]:List Int).length<=_;decide) (by have h:(az f g).ans.length=frN f g:=cI _ _ _;have:=Hc.1.1;unfold frN at h;omega);obtain⟨t,ht⟩:=ME (da f g (az f g));rw[<-ht]at hT;have HT:=MD hT;have HTe:=MD ht;have HC12:=MD (show CaV w12 (az f g) (IA (cac (az f g).r (Ia AH (az f g).h.length cH) (Ia AA (az f g).ans.length cA) (az f g).fuel).toArray)from⟨_,_,rfl,HZ.1.1,hRH,hRA⟩);have hb69:It w6.heap.size w6 w9:=af (af HB7.1 HB8.1) HB9.1;have b69:It w6.heap.size w6 w12:=af hb69 hb912;have HB69:=MD b69;have c0:=(show w12.cell? ⟨w.heap.size,0,Ih⟩=Ic (.slice Af f.length cf) by rw[ah (ag HG1.1 b69)];rfl);have c1:=(show w12.cell? ⟨w.heap.size+1,0,Ih⟩=Ic (.slice Ag g.length cg) by rw[ah (ag HG2.1 b69)];rfl);have HBW:=MD (IE hb912 hbw);have HL12:=MD hl12;have HD12:=MD (show w12.heap[w9.heap.size]?=Ic (.deferred (Ic []))from(hf12.block _ (by have:=aj HL2.1.1;have:=HB11.1.size;omega) (by omega)).trans ((HB11.1.block _ (aj HL2.1.1)).trans HL2.1.1));clear hT ht hw12 hf12 hl12 hb91' hb912 hbw hnt hRH hRA hb69 b69 hb91;have ht0:t.1≠0:=by rw[HTe.1];exact HNe.1
  .have q:(t.1 != 0)=Ir:=bne_iff_ne.mpr ht0
   have HQ:=MD ht0;have hs9:w6.heap.size<=w9.heap.size:=IT HB7.1.size (IT HB8.1.size HB9.1.size);have hlt6:=aj HG6.1;obtain⟨row,hrow⟩:∃row,row=cac (az f g).r (Ia AH (az f g).h.length cH) (Ia AA (az f g).ans.length cA) (az f g).fuel:=⟨_,rfl⟩;have hrl:row.length=11:=by rw[hrow];exact kJ HZ.1.1
   have hro1:∀x∈row,x.oneCell'=Ir:=λx hx=>by rw[hrow]at hx;have h:=fN (r:=(az f g).r) (A:=AH) (B:=AA) (n:=(az f g).h.length) (c:=cH) (m:=(az f g).ans.length) (d:=cA) (fuel:=(az f g).fuel);rw[Array.all_eq_true']at h;exact h x (by simpa using hx)
   rw[<-hrow]at HT HC12 hH12;have HRi:=MD (show(If.info? 37).map (·.size)=Ic row.toArray.size by rw[hrow];exact bv HZ.1.1);have HRo:=MD (IE hrl hro1);clear ht0 hrow hrl hro1;gi_wp2_with (first
    |((with_reducible refine mD (N:=31) rfl ?_);refine kh (λ_=>trivial) rfl rfl _ (ao rfl rfl (aY (P:=If) hH12.out I4 rfl HRi.1)) ?_)
    |(refine⟨trivial,?_⟩;gi_at_call 9;refine(CallsIn.inRound _ (callsIn_wide.2 HT.1)).mono ?_;rintro e w13 ⟨rfl,hb⟩;have HB13:=MD hb;have H13:=MD (ag hH12.out hb);clear hb)
    |((with_reducible refine mD (N:=39) rfl ?_);refine kh (λ_=>trivial) rfl rfl _ (ao rfl rfl (aY (P:=If) H13.1 I4 rfl HRi.1)) ?_)
    |((with_reducible refine mD (N:=40) rfl ?_);refine kh (λ_=>trivial) rfl rfl _ (kE 84 _ rfl [(0,Ib Ie 0),(1,Ib Ie t.1),(2,IA row.toArray)] _ rfl (Fo 0 t.1 row HRo.1.1)) ?_)
    |((with_reducible refine nw (t:=84) (p:=6) rfl ?_);refine iV (λ_=>trivial) rfl rfl 84 _ _ rfl (w.heap.size+1+1+1) (Ib Ie 0::Ib Ie t.1::row) rfl rfl 84 tN (ag (ag HG4.1 HB69.1) HB13.1) (tF.trans (by simp[HRo.1.1])) (by simp[HRo.1.1,tN]) (λx hx=>by rcases I7.1 hx with rfl|hx;rfl;rcases I7.1 hx with rfl|hx;rfl;exact HRo.1.2 x hx) ?_;intro W5 h5 hf5;have H5:=MD h5;have HF5:=MD hf5;have HG5':=MD (ag (ag HG5.1 HB69.1) HB13.1);have HG6':=MD (ag (ag HG6.1 HB69.1) HB13.1);have e7:=(show W5.cell? ⟨w.heap.size+1+1+1+1,0,Ih⟩=Ic (.bool Ik) by rw[ah ((hf5.block _ (aj HG5'.1) (by omega)).trans HG5'.1)];rfl);have e8:=(show W5.cell? ⟨w.heap.size+1+1+1+1+1,0,Ih⟩=Ic (Ib Ie 0) by rw[ah ((hf5.block _ (aj HG6'.1) (by omega)).trans HG6'.1)];rfl);have f7:=au ((hf5.block _ (aj HG5'.1) (by omega)).trans HG5'.1) 0;have f8:=au ((hf5.block _ (aj HG6'.1) (by omega)).trans HG6'.1) 0;clear h5 hf5))
   obtain⟨W6,hW6⟩:∃W6,W6=(W5.setCell ⟨w.heap.size+1+1+1+1,0,Ih⟩ (Iy Ir)).setCell ⟨w.heap.size+1+1+1+1+1,0,Ih⟩ (Ib Ie 0):=⟨_,rfl⟩;rw[<-hW6];have hff:Fr (λk=>k=w.heap.size+1+1+1\/k=w.heap.size+1+1+1+1\/k=w.heap.size+1+1+1+1+1) w13 W6:=by
    rw[hW6];exact((HF5.1.mono λk _ e=>.inl e).trans (Fr.cell (p:=⟨w.heap.size+1+1+1+1,0,Ih⟩) (.inr (.inl rfl)) _)).trans (Fr.cell (p:=⟨w.heap.size+1+1+1+1+1,0,Ih⟩) (.inr (.inr rfl)) _)
   have r6:W6.heap[w.heap.size+1+1+1]?=Ic (.cells (Ib Ie 0::Ib Ie t.1::row).toArray 84 (0,0)):=by
    rw[hW6];exact bp (bp H5.1 (p:=⟨w.heap.size+1+1+1+1,0,Ih⟩) (by show w.heap.size+1+1+1≠w.heap.size+1+1+1+1;omega) _) (p:=⟨w.heap.size+1+1+1+1+1,0,Ih⟩) (by show w.heap.size+1+1+1≠w.heap.size+1+1+1+1+1;omega) _
   have s7:=(HF5.1.block _ (aj HG5'.1) (by omega)).trans HG5'.1;have s8:=(HF5.1.block _ (aj HG6'.1) (by omega)).trans HG6'.1;have r7:W6.heap[w.heap.size+1+1+1+1]?=Ic (.cells #[Iy Ir] 4 (0,0)):=by
    rw[hW6];exact bp (aR (L:=[Iy Ik]) s7 0 (Iy Ir)) (p:=⟨w.heap.size+1+1+1+1+1,0,Ih⟩) (by show w.heap.size+1+1+1+1≠w.heap.size+1+1+1+1+1;omega) _
   have r8:W6.heap[w.heap.size+1+1+1+1+1]?=Ic (.cells #[Ib Ie 0] 29 (0,0)):=by
    rw[hW6];exact aR (L:=[Ib Ie 0]) (bp s8 (p:=⟨w.heap.size+1+1+1+1,0,Ih⟩) (by show w.heap.size+1+1+1+1+1≠w.heap.size+1+1+1+1;omega) _) 0 (Ib Ie 0)
   have hl13:=(HB13.1.block _ (aj HL12.1)).trans HL12.1;have hd13:=(HB13.1.block _ (aj HD12.1)).trans HD12.1;have hl6:=(hff.block _ (aj hl13) (by omega)).trans hl13;have hd6:=(hff.block _ (aj hd13) (by omega)).trans hd13;have hnt1:∀k cs fr,(k=w.heap.size+1+1+1\/k=w.heap.size+1+1+1+1\/k=w.heap.size+1+1+1+1+1)->w13.heap[k]?≠Ic (.cells cs 2 fr):=λk cs fr e=>by
    rcases e with rfl|rfl|rfl
    .rw[ag (ag HG4.1 HB69.1) HB13.1];simp
    .rw[HG5'.1];simp
    .rw[HG6'.1];simp
   have hp7:Fr (λk=>k=w9.heap.size+1) W6 (W6.putObj (w9.heap.size+1) (.loop (rec .done (Ic .ret)))):=⟨rfl,rfl,rfl,by simp,λk _ hk=>KC hk⟩;have hC7:=((HC12.1.below HB13.1).fr hff hnt1).fr hp7 (λk cs fr e=>by subst e;rw[hl6];simp);have hb13:=af HBW.1.2 HB13.1;have hb7:It w.heap.size w (W6.putObj (w9.heap.size+1) (.loop (rec .done (Ic .ret)))):=Fr.below (Fr.below hb13 hff (λk hk e=>by omega) hb13.size) hp7 (λk hk e=>by omega) (IT hb13.size hff.size);refine⟨hl6,⟨rfl,(hp7.block _ (aj hd6) (by omega)).trans hd6,Im.putObj_heap_same (aj hl6),row,hC7,HRo.1.1,?_,(hp7.block _ (aj r7) (by omega)).trans r7,(hp7.block _ (aj r8) (by omega)).trans r8,?_,hb7⟩⟩
   .rw[<-HTe.1];exact(hp7.block _ (aj r6) (by omega)).trans r6
   .rw[<-HTe.1];exact HQ.1
end
theorem Ax:(If.info? 24).map (·.size)=Ic 2:=by kernel_rfl
def oI(f g:List In):Int:=(da f g (az f g)).1
def AI(f g:List In):Int:=iu (λn=>iZ f g { az f g with fuel:=n }) 0 (az f g).fuel
def FK[Inhabited Bud](w:Im)(gj:Nat)(f g:List In)(vf vg:Io)(ea:Int)(na va:Io)(eb:Int)(nb vb:Io)(e:Ending)(w':Im):Prop:=
 Fr (λk=>k=gj) w w'/\e=Iv (Iy Ir)/\∃row r2:List Io,JAt w' gj vf vg (gy 1 ea na va eb nb vb (Ib Ie (oI f g)::(row++r2)))/\CaV w' (az f g) (IA row.toArray)/\r2.length=11/\(∀v∈r2,v.oneCell'=Ir)/\r2[10]?=Ic (Ib Ie (AI f g))
def yo(f g:List In)(t:Int)(V:List Io)(W:Im):Prop:=t≠0->∃row:List Io,V=Ib Ie 0::Ib Ie t::row/\CaV W (az f g) (IA row.toArray)
theorem yo.below{f g:List In}{t:Int}{V:List Io}{W W':Im}(h:yo f g t V W)(hb:It W.heap.size W W'):yo f g t V W':=λh0=>by
 obtain⟨row,h1,h2⟩:=h h0;exact⟨row,h1,h2.below hb⟩
theorem CaV.row{W:Im}{c:Ca}{row:List Io}(h:CaV W c (IA row.toArray)):row.length=11/\(∀v∈row,v.oneCell'=Ir)/\row[10]?=Ic (Ib Ie c.fuel):=by
 obtain⟨vH,vA,h1,h8,hH,hA⟩:=h;obtain⟨AH,cH,rfl,_⟩:=hH;obtain⟨AA,cA,rfl,_⟩:=hA;injection h1 with h1
 have h2:row=cac c.r (Ia AH c.h.length cH) (Ia AA c.ans.length cA) c.fuel:=by simpa using congrArg Array.toList h1
 subst h2;refine⟨kJ h8,λv hv=>?_,?_⟩
 .have:=fN (r:=c.r) (A:=AH) (n:=c.h.length) (c:=cH) (B:=AA) (m:=c.ans.length) (d:=cA) (fuel:=c.fuel)
  rw[Jh]at this;exact this v (by simpa using hv)
 .unfold cac
  rw[IW (by simp[h8]),Jb,h8];rfl
def jdS[Inhabited Bud](b0 b1 b2:Bool)(vf vg:Io)(ea:Int)(na va:Io)(eb:Int)(nb vb:Io)(t:Int)(row:List Io):List Io:=
 jd vf vg (gy (if b0=Ir then 1 else 0) ea na va eb nb vb (Ib Ie (if b1=Ir then t else 0)::((if b2=Ir then row else fV)++fV)))
theorem ET[Inhabited Bud](b0 b1:Bool)(vf vg:Io)(ea:Int)(na va:Io)(eb:Int)(nb vb:Io)(t:Int){row:List Io}(h:row.length=11) :
  (jdS b0 b1 Ik vf vg ea na va eb nb vb t row).take 13++row++(jdS b0 b1 Ik vf vg ea na va eb nb vb t row).drop (13+row.length)=jdS b0 b1 Ir vf vg ea na va eb nb vb t row:=by
 rw[h];unfold jdS jd gy;simp[fV,cac,r8]
theorem EU[Inhabited Bud](b0 b1 b2:Bool)(vf vg:Io)(ea:Int)(na va:Io)(eb:Int)(nb vb:Io)(t:Int){row:List Io}(h:row.length=11):(jdS b0 b1 b2 vf vg ea na va eb nb vb t row).length=37:=by
 unfold jdS jd gy;cases b2<;>simp[h,fV,cac,r8]
theorem ES[Inhabited Bud](vf vg:Io)(ea:Int)(na va:Io)(eb:Int)(nb vb:Io)(t:Int){row r2:List Io}(h:row.length=11)(h2:r2.length=11) :
  (jd vf vg (gy 1 ea na va eb nb vb (Ib Ie t::(row++fV)))).take 24++r2++(jd vf vg (gy 1 ea na va eb nb vb (Ib Ie t::(row++fV)))).drop (24+r2.length)=jd vf vg (gy 1 ea na va eb nb vb (Ib Ie t::(row++r2))):=by
 rw[h2];unfold jd gy;simp[h,fV,cac,r8];rw[Mx,h];simp[h]
def G6(f g:List In)(row:List Io):Prop:=row.length=11/\(∀v∈row,v.oneCell'=Ir)/\row[10]?=Ic (Ib Ie (AI f g))
theorem v_[Inhabited Bud](f g:List In)(w:Im)(hG:Gl w)(gj:Nat)(vf vg:Io)(ea:Int)(na va:Io)(eb:Int)(nb vb:Io)(hj:JAt w gj vf vg (gy 0 ea na va eb nb vb tl0))(hg2:2<=gj)(hrf:bi f=Ir)(hrg:bi g=Ir)(hf:RdT kIn 49 w vf f)(hg:RdT kIn 49 w vg g)(hT:oI f g≠0) :
  I9 If 18 #[Iq (Ic ⟨gj,0,Ih⟩)] w (FK w gj f g vf vg ea na va eb nb vb):=by
 obtain⟨Af,cf,rfl,lf,Cf,tf⟩:=hf;obtain⟨Ag,cg,rfl,lg,Cg,tg⟩:=hg;have hf:RdT kIn 49 w (Ia Af f.length cf) f:=⟨Af,cf,rfl,lf,Cf,tf⟩;have hg:RdT kIn 49 w (Ia Ag g.length cg) g:=⟨Ag,cg,rfl,lg,Cg,tg⟩;have hlf:=(bu hrf).len;have hlg:=(bu hrg).len;obtain⟨t,ht⟩:=ME (oI f g);have HC:=MD (show ∀W,It w.heap.size w W->I9 If 36 #[Ia Af f.length cf,Ia Ag g.length cg,IA #[Ib Ie (Ly:Bud).t,Ib Ie (Ly:Bud).f]] W λe w'=>∃V:List Io,e=Iv (IR #[IA V.toArray,Iy Ir,Ib Ie 0])/\V.length=13/\(∀v∈V,v.oneCell'=Ir)/\yo f g t V w'/\It W.heap.size W w' from λW hB=>by
  refine(zh _ _ f g Af Ag cf cg W (hG.below hB) hrf hrg hlf hlg (Kd.C_below Cf hB) lf (Kd.C_below Cg hB) lg hT).mono ?_;rintro e w' ⟨row,h4,h5,h3⟩;obtain⟨r1,r2,_⟩:=h5.row;refine⟨Ib Ie 0::Ib Ie t::row,by rw[h4,ht];rfl,by simp[r1],λv hv=>?_,λ_=>⟨row,rfl,h5⟩,h3⟩;rcases I7.1 hv with rfl|hv
  .rfl
  rcases I7.1 hv with rfl|hv
  .rfl
  exact r2 v hv)
 have HTn:=MD (show t≠0 by rw[ht];exact hT);have HGl:=MD hG;have HJ:=MD hj;have HFr:=MD (IE hf hg);have HG2:=MD hg2;have HTe:=MD ht;have HRt:=MD (IE hrf hrg);have HL:=MD (IE lf lg);have HLt:=MD (IE hlf hlg);have HI:=MD (show ∀W,(isAgg 22).run If W=.ok Ik W from λW=>by kernel_rfl);have HI3:=MD (show ∀W,(isAgg 3).run If W=.ok Ik W from λW=>by kernel_rfl);have HS3:=MD (show ∀W,(sizeOf 3).run If W=.ok 1 W from λW=>by kernel_rfl);have HGj:=MD (show gj<w.heap.size from aj hj.b);clear hG hj hg2 hf hg lf Cf tf lg Cg tg hrf hrg ht hlf hlg hT;obtain⟨Q,hQ⟩:∃Q,Q=FK w gj f g (Ia Af f.length cf) (Ia Ag g.length cg) ea na va eb nb vb:=⟨_,rfl⟩;rw[<-hQ];have HQ:=MD hQ;clear hQ;go_enter Tryz.func18,Tryz.ntmps18;go_upto_region 1 with fail
 refine bm (σ:=List Io×Nat) [12,17,18] (λs=>[(7,Iq (Ic ⟨gj,0,Ih⟩)),(8,Iq (Ic ⟨gj,0,Ih⟩)),(9,Iq (Ic ⟨gj,0,Ih⟩)),(10,Ia Af f.length cf),(11,Iq (Ic ⟨gj,0,Ih⟩)),(12,Iq (Ic ⟨gj,0,Ih⟩)),(13,Iq (Ic ⟨gj,1,Ih⟩)),(14,Ia Ag g.length cg),(15,Iq (Ic ⟨gj,0,Ih⟩)),(16,Iq (Ic ⟨gj,0,Ih⟩)),(17,Iq (Ic ⟨gj,35,Ih⟩)),(18,IA #[Ib Ie (Ly:Bud).t,Ib Ie (Ly:Bud).f]),(19,IR #[IA s.1.toArray,Iy Ir,Ib Ie 0]),(6,IR #[IA s.1.toArray,Iy Ir,Ib Ie 0]),(20,IA s.1.toArray),(21,Iy Ir),(22,Ib Ie 0),(3,Iq (Ic ⟨s.2,0,Ih⟩)),(4,Iy Ir),(5,Ib Ie 0)])
  (λbs s W=>It w.heap.size w W/\(bs.getD 0 Ik=Ir->s.1.length=13/\(∀v∈s.1,v.oneCell'=Ir)/\yo f g t s.1 W)/\(bs.getD 1 Ik=Ir->w.heap.size<=s.2/\W.heap[s.2]?=Ic (.cells (if bs.getD 2 Ik=Ir then s.1.toArray else tN.toArray) 84 (0,0)))) ([],0) (by kernel_rfl) (by kernel_rfl) (by kernel_rfl) (λ_=>by kernel_rfl) ?_
 intro aF haF;simp only[bk,KY,IP,IZ,IY]at haF;subst haF;refine⟨?_,?_,⟨aA (Il _ _),λe=>Ix e,λe=>Ix e⟩,?_⟩
 .intro j o ho hct s_1 W bs hlen hok hI
  rcases j with _|_|_|_|_|_|_|_|_|_|_|_|_|_|_|_|_|_|_|_|_|j
  all_goals first|exact absurd hct (by decide)|(obtain rfl:=Ii ho)|exact absurd (IB.1 ho).1 (by simp)
  .exact ab rfl (by go_simp) ⟨rfl,hI⟩
  .exact ab rfl (by go_simp) ⟨rfl,hI⟩
  .exact ab rfl (by go_simp) ⟨rfl,hI⟩
  .exact ab rfl (ao rfl rfl (aH (HI.1 W) ((HJ.1.below hI.1).cell 0))) ⟨rfl,hI⟩
  .exact ab rfl (by go_simp) ⟨rfl,hI⟩
  .exact ab rfl (by go_simp) ⟨rfl,hI⟩
  .exact ab rfl (by go_simp) ⟨rfl,hI⟩
  .exact ab rfl (ao rfl rfl (aH (HI.1 W) ((HJ.1.below hI.1).cell 1))) ⟨rfl,hI⟩
  .exact ab rfl (by go_simp) ⟨rfl,hI⟩
  .exact ab rfl (by go_simp) ⟨rfl,hI⟩
  .exact ab rfl (by go_simp) ⟨rfl,hI⟩
  .exact ab rfl (ao rfl rfl (cr (P:=If) (HJ.1.below hI.1).b 24 35 [Ib Ie (Ly:Bud).t,Ib Ie (Ly:Bud).f] rfl _ Tryz.underlying24 rfl Ax)) ⟨rfl,hI⟩
  .exact ab rfl (by go_simp) ⟨rfl,hI⟩
  .exact ab rfl (by go_simp) ⟨rfl,hI⟩
  .exact ab rfl (by go_simp) ⟨rfl,hI⟩
  .exact ab rfl (by go_simp) ⟨rfl,hI⟩
  .exact ab rfl (by go_simp) ⟨rfl,hI⟩
  .exact ab rfl (by go_simp) ⟨rfl,hI⟩
 .intro k j o hk ho s_1 W bs hlen hok hI
  rcases k with _|_|_|k
  all_goals first|(obtain rfl:=Ii hk;obtain rfl:=Ii ho)|exact absurd hk (by simp)
  .obtain⟨b0,b1,b2,rfl⟩:=rG hlen
   obtain rfl:=okS hok 0 rfl rfl;obtain rfl:=okF hok 2 rfl rfl rfl (by kernel_rfl);refine aN rfl Tryz.func36 (by kernel_rfl) rfl #[Ia Af f.length cf,Ia Ag g.length cg,IA #[Ib Ie (Ly:Bud).t,Ib Ie (Ly:Bud).f]] rfl rfl ((HC.1 W hI.1).mono λe w' h=>?_);obtain⟨V,h1,h2,h3,h4,h5⟩:=h;exact⟨_,h1,(V,s_1.2),[(19,IR #[IA V.toArray,Iy Ir,Ib Ie 0]),(6,IR #[IA V.toArray,Iy Ir,Ib Ie 0]),(20,IA V.toArray)],rfl,rfl,by kernel_rfl,⟨af hI.1 h5,λ_=>⟨h2,h3,h4⟩,λe=>⟨(hI.2.2 e).1,ag (hI.2.2 e).2 h5⟩⟩⟩
  .obtain⟨b0,b1,b2,rfl⟩:=rG hlen
   obtain rfl:=okS hok 1 rfl rfl;obtain rfl:=okF hok 2 rfl rfl rfl (by kernel_rfl);have hbW:It W.heap.size W (W.alloc (Is tN.toArray 84)):=ae (Il _ _) _;exact ab (v:=Iq (Ic ⟨W.heap.size,0,Ih⟩)) (w':=W.alloc (Is tN.toArray 84)) rfl (by go_simp;rfl) ⟨(s_1.1,W.heap.size),[(3,Iq (Ic ⟨W.heap.size,0,Ih⟩))],rfl,rfl,by kernel_rfl,⟨af hI.1 hbW,λe=>⟨(hI.2.1 e).1,(hI.2.1 e).2.1,(hI.2.1 e).2.2.below hbW⟩,λ_=>⟨hI.1.size,Iu W _⟩⟩⟩
  .obtain⟨b0,b1,b2,rfl⟩:=rG hlen
   obtain rfl:=okS hok 2 rfl rfl;obtain rfl:=okT hok 0 rfl rfl rfl (by kernel_rfl);obtain rfl:=okT hok 1 rfl rfl rfl (by kernel_rfl);obtain⟨c1,c2,c3⟩:=hI.2.1 rfl;obtain⟨c4,c5⟩:=hI.2.2 rfl;refine bC rfl 84 _ _ rfl s_1.2 0 s_1.1 rfl rfl 84 tN s_1.1 c5 (tF.trans (by rw[c1])) (by rw[c1];exact Iz _) c2 (by rw[List.take_zero,Ka,Ju (by rw[c1];exact Iz _),JS]) (λW' h3 hf3=>⟨s_1,[],rfl,rfl,rfl,⟨Fr.below hI.1 hf3 (λk hk e=>by omega) hI.1.size,λ_=>⟨c1,c2,λh0=>?_⟩,λ_=>⟨c4,h3⟩⟩⟩);obtain⟨row,e1,e2⟩:=c3 h0;exact⟨row,e1,e2.fr hf3 (λk cs fr e h=>by subst e;rw[c5]at h;injection h with h;injection h with _ h;exact absurd h (by decide))⟩
 .intro s_1 W hI
  obtain⟨⟨V,q⟩,rfl⟩:∃s':List Io×Nat,s'=s_1:=⟨_,rfl⟩;obtain⟨hB2,hc,ha⟩:=hI;obtain⟨v13,v1,vr⟩:=hc rfl;obtain⟨hq,hqb⟩:=ha rfl;have HB2:=MD hB2;have HV:=MD (IE v13 v1);have HVr:=MD vr;have HQb:=MD (show W.heap[q]?=Ic (.cells V.toArray 84 (0,0))from hqb);have HQl:=MD (show w.heap.size<=q from hq);have HJ2:=MD (HJ.1.below hB2);obtain⟨w2,rfl⟩:=ME W;have c2:=(show w2.cell? ⟨gj,2,Ih⟩=Ic (Ib Ie 0)from HJ2.1.cell 2);have z2:=au HJ2.1.b 2;clear hB2 hc ha v13 v1 vr hq hqb HC HJ
  .have h0:t≠0:=HTn.1
   obtain⟨row,hrow,hca⟩:=HVr.1 h0;subst hrow;obtain⟨r11,r1c,_⟩:=hca.row;have HRow:=MD (IE r11 r1c);have HCa:=MD hca;have HT0:=MD h0;clear h0 hca r11 r1c HVr c2 z2;go_upto_region 5 with fail
   refine bm (σ:=Unit) [10,14,18] (λ_=>[(29,Iq (Ic ⟨gj,0,Ih⟩)),(30,Iq (Ic ⟨gj,0,Ih⟩)),(31,Iq (Ic ⟨gj,0,Ih⟩)),(32,Iq (Ic ⟨q,1,Ih⟩)),(33,Ib Ie t),(34,Iq (Ic ⟨q,2,Ih⟩)),(35,IA row.toArray),(36,Iq (Ic ⟨gj,0,Ih⟩)),(37,Iq (Ic ⟨gj,2,Ih⟩)),(38,Iq (Ic ⟨gj,2,Ih⟩)),(39,Iq (Ic ⟨gj,0,Ih⟩)),(40,Iq (Ic ⟨gj,2,Ih⟩)),(41,Iq (Ic ⟨gj,12,Ih⟩)),(42,Iq (Ic ⟨gj,0,Ih⟩)),(43,Iq (Ic ⟨gj,2,Ih⟩)),(44,Iq (Ic ⟨gj,13,Ih⟩))])
    (λbs _ W=>Fr (λk=>k=gj) w2 W/\W.heap[gj]?=Ic (.cells (jdS (bs.getD 0 Ik) (bs.getD 1 Ik) (bs.getD 2 Ik) (Ia Af f.length cf) (Ia Ag g.length cg) ea na va eb nb vb t row).toArray 53 (0,0))) () (by kernel_rfl) (by kernel_rfl) (by kernel_rfl) (λ_=>by kernel_rfl) ?_
   intro aF haF;simp only[bk,KY,IP,IZ,IY]at haF;subst haF;refine⟨?_,?_,⟨Fr.drew,HJ2.1.b⟩,?_⟩
   .intro j o ho hct s_1 W bs hlen hok hI
    rcases j with _|_|_|_|_|_|_|_|_|_|_|_|_|_|_|_|_|_|_|j
    all_goals first|exact absurd hct (by decide)|(obtain rfl:=Ii ho)|exact absurd (IB.1 ho).1 (by simp)
    .exact ab rfl (by go_simp) ⟨rfl,hI⟩
    .exact ab rfl (by go_simp) ⟨rfl,hI⟩
    .exact ab rfl (by go_simp) ⟨rfl,hI⟩
    .exact ab rfl (by go_simp) ⟨rfl,hI⟩
    .exact ab rfl (ao rfl rfl (aH (HI3.1 W) ((aq ((hI.1.block q (aj HQb.1) (by have:=HQl.1;have:=HGj.1;omega)).trans HQb.1) 1).trans rfl))) ⟨rfl,hI⟩
    .exact ab rfl (by go_simp) ⟨rfl,hI⟩
    .exact ab rfl (ao rfl rfl (cr (P:=If) ((hI.1.block q (aj HQb.1) (by have:=HQl.1;have:=HGj.1;omega)).trans HQb.1) 37 2 row Kh _ I4 rfl (by rw[HRow.1.1];exact ov))) ⟨rfl,hI⟩
    .exact ab rfl (by go_simp) ⟨rfl,hI⟩
    .exact ab rfl (by go_simp) ⟨rfl,hI⟩
    .exact ab rfl (by go_simp) ⟨rfl,hI⟩
    .exact ab rfl (by go_simp) ⟨rfl,hI⟩
    .exact ab rfl (by go_simp) ⟨rfl,hI⟩
    .exact ab rfl (by go_simp) ⟨rfl,hI⟩
    .exact ab rfl (by go_simp) ⟨rfl,hI⟩
    .exact ab rfl (by go_simp) ⟨rfl,hI⟩
    .exact ab rfl (by go_simp) ⟨rfl,hI⟩
   .intro k j o hk ho s_1 W bs hlen hok hI
    rcases k with _|_|_|k
    all_goals first|(obtain rfl:=Ii hk;obtain rfl:=Ii ho)|exact absurd hk (by simp)
    .obtain⟨b0,b1,b2,rfl⟩:=rG hlen
     obtain rfl:=okS hok 0 rfl rfl;have h9:W.heap[gj]?=Ic (.cells (jdS Ik b1 b2 (Ia Af f.length cf) (Ia Ag g.length cg) ea na va eb nb vb t row).toArray 53 (0,0)):=hI.2;exact a_ rfl 3 _ _ rfl gj 2 (Ib Ie 1) (Ib Ie 0) rfl rfl rfl rfl (HS3.1 W) ((aq h9 2).trans rfl) (au h9 2) ⟨(),[],rfl,rfl,rfl,⟨hI.1.trans (Fr.cell (S:=λk=>k=gj) (p:=⟨gj,2,Ih⟩) rfl _),aR h9 2 (Ib Ie 1)⟩⟩
    .obtain⟨b0,b1,b2,rfl⟩:=rG hlen
     obtain rfl:=okS hok 1 rfl rfl;have h9:W.heap[gj]?=Ic (.cells (jdS b0 Ik b2 (Ia Af f.length cf) (Ia Ag g.length cg) ea na va eb nb vb t row).toArray 53 (0,0)):=hI.2;exact a_ rfl 3 _ _ rfl gj 12 (Ib Ie t) (Ib Ie 0) rfl rfl rfl rfl (HS3.1 W) ((aq h9 12).trans rfl) (au h9 12) ⟨(),[],rfl,rfl,rfl,⟨hI.1.trans (Fr.cell (S:=λk=>k=gj) (p:=⟨gj,12,Ih⟩) rfl _),aR h9 12 (Ib Ie t)⟩⟩
    .obtain⟨b0,b1,b2,rfl⟩:=rG hlen
     obtain rfl:=okS hok 2 rfl rfl;have h9:W.heap[gj]?=Ic (.cells (jdS b0 b1 Ik (Ia Af f.length cf) (Ia Ag g.length cg) ea na va eb nb vb t row).toArray 53 (0,0)):=hI.2;exact bC rfl 37 _ _ rfl gj 13 row rfl rfl 53 _ _ h9 (by rw[HRow.1.1];exact ov) (by rw[EU _ _ _ _ _ _ _ _ _ _ _ _ HRow.1.1,HRow.1.1];decide) HRow.1.2 (ET _ _ _ _ _ _ _ _ _ _ _ HRow.1.1) (λW' h3 hf3=>⟨(),[],rfl,rfl,rfl,⟨hI.1.trans hf3,h3⟩⟩)
   .intro s_1 W hI
    obtain⟨hf5,h5⟩:=hI;have H5:=MD (show W.heap[gj]?=Ic (.cells (jd (Ia Af f.length cf) (Ia Ag g.length cg) (gy 1 ea na va eb nb vb (Ib Ie t::(row++fV)))).toArray 53 (0,0))from h5);have HF5:=MD hf5;obtain⟨w5,rfl⟩:=ME W;have hq5:=(hf5.block q (aj HQb.1) (by have:=HQl.1;have:=HGj.1;omega)).trans HQb.1;have HQ5:=MD hq5;have hca5:=HCa.1.fr hf5 (λk cs fr e h=>by subst e;rw[HJ2.1.b]at h;injection h with h;injection h with _ h;exact absurd h (by decide));have hf2:=(HFr.1.1.below HB2.1).judge fb HJ2.1.b (by decide) hf5;have hg2:=(HFr.1.2.below HB2.1).judge fb HJ2.1.b (by decide) hf5;have hG5:=Gl.fr (HGl.1.below HB2.1) hf5 ⟨by have:=HG2.1;omega,by have:=HG2.1;omega⟩;have HR5:=MD (IE hf2 hg2);have HCa5:=MD hca5;have HCs:=MD (show ∀W,Fr (λk=>k=gj) w5 W->I9 If 37 #[Ia Af f.length cf,Ia Ag g.length cg,IA row.toArray] W λe w'=>∃(V:List Io) (k':Int),e=Iv (IR #[IA V.toArray,Ib Ie k',Ib Ie 0])/\G6 f g V/\It W.heap.size W w' from λW hW=>by
     obtain⟨A1,c1,e1,_,Cf,_⟩:=hf2.judge fb h5 (by decide) hW;injection e1 with e1 e2 e3
     subst e1 e3;obtain⟨A1,c1,e1,_,Cg,_⟩:=hg2.judge fb h5 (by decide) hW;injection e1 with e1 e2 e3
     subst e1 e3;have hcaW:=hca5.fr hW (λk cs fr e h=>by subst e;rw[h5]at h;injection h with h;injection h with _ h;exact absurd h (by decide));have hs:=jQ HLt.1.1 HLt.1.2;have hn:(da f g (az f g)).1≠0:=by have:=HT0.1;rw[HTe.1]at this;exact this
     refine(ul f g Af Ag cf cg (az f g) _ W (Gl.fr hG5 hW ⟨by have:=HG2.1;omega,by have:=HG2.1;omega⟩) Cf HL.1.1 Cg HL.1.2 hcaW hs.1 _ (Bn hn) hn hs.2.1 hs.2.2).mono ?_;rintro e w' ⟨v,c',k',h1,h2,h3,h4⟩;obtain⟨vH,vA,h6,h8,hH,hA⟩:=h2;subst h6;have h9:=CaV.row (W:=w') (c:=c') (row:=cac c'.r vH vA c'.fuel) ⟨vH,vA,rfl,h8,hH,hA⟩;exact⟨_,k',h1,⟨h9.1,h9.2.1,by rw[h9.2.2,h3];rfl⟩,h4⟩)
    clear hf5 h5 hq5 hca5 hf2 hg2 hG5;go_upto_region 6 with fail
    refine bm (σ:=List Io×Int) [11,19] (λs=>[(46,Iq (Ic ⟨gj,0,Ih⟩)),(47,Iq (Ic ⟨gj,0,Ih⟩)),(48,Iq (Ic ⟨gj,0,Ih⟩)),(49,Iq (Ic ⟨gj,0,Ih⟩)),(50,Ia Af f.length cf),(51,Iq (Ic ⟨gj,0,Ih⟩)),(52,Iq (Ic ⟨gj,0,Ih⟩)),(53,Iq (Ic ⟨gj,1,Ih⟩)),(54,Ia Ag g.length cg),(55,Iq (Ic ⟨q,2,Ih⟩)),(56,IA row.toArray),(57,IR #[IA s.1.toArray,Ib Ie s.2,Ib Ie 0]),(45,IR #[IA s.1.toArray,Ib Ie s.2,Ib Ie 0]),(58,IA s.1.toArray),(59,Ib Ie s.2),(60,Ib Ie 0),(61,Iq (Ic ⟨gj,0,Ih⟩)),(62,Iq (Ic ⟨gj,2,Ih⟩)),(63,Iq (Ic ⟨gj,24,Ih⟩))])
     (λbs s W=>Fr (λk=>k=gj) w5 W/\(bs.getD 0 Ik=Ir->G6 f g s.1)/\W.heap[gj]?=Ic (.cells (jd (Ia Af f.length cf) (Ia Ag g.length cg) (gy 1 ea na va eb nb vb (Ib Ie t::(row++(if bs.getD 1 Ik=Ir then s.1 else fV))))).toArray 53 (0,0))) ([],0) (by kernel_rfl) (by kernel_rfl) (by kernel_rfl) (λ_=>by kernel_rfl) ?_
    intro aF haF;simp only[bk,KY,IP,IZ,IY]at haF;subst haF;refine⟨?_,?_,⟨Fr.drew,λe=>Ix e,H5.1⟩,?_⟩
    .intro j o ho hct s_1 W bs hlen hok hI
     rcases j with _|_|_|_|_|_|_|_|_|_|_|_|_|_|_|_|_|_|_|_|j
     all_goals first|exact absurd hct (by decide)|(obtain rfl:=Ii ho)|exact absurd (IB.1 ho).1 (by simp)
     .exact ab rfl (by go_simp) ⟨rfl,hI⟩
     .exact ab rfl (by go_simp) ⟨rfl,hI⟩
     .exact ab rfl (by go_simp) ⟨rfl,hI⟩
     .exact ab rfl (by go_simp) ⟨rfl,hI⟩
     .exact ab rfl (ao rfl rfl (aH (HI.1 W) ((aq hI.2.2 0).trans rfl))) ⟨rfl,hI⟩
     .exact ab rfl (by go_simp) ⟨rfl,hI⟩
     .exact ab rfl (by go_simp) ⟨rfl,hI⟩
     .exact ab rfl (by go_simp) ⟨rfl,hI⟩
     .exact ab rfl (ao rfl rfl (aH (HI.1 W) ((aq hI.2.2 1).trans rfl))) ⟨rfl,hI⟩
     .exact ab rfl (by go_simp) ⟨rfl,hI⟩
     .exact ab rfl (ao rfl rfl (cr (P:=If) ((hI.1.block q (aj HQ5.1) (by have:=HQl.1;have:=HGj.1;omega)).trans HQ5.1) 37 2 row Kh _ I4 rfl (by rw[HRow.1.1];exact ov))) ⟨rfl,hI⟩
     .exact ab rfl (by go_simp) ⟨rfl,hI⟩
     .exact ab rfl (by go_simp) ⟨rfl,hI⟩
     .exact ab rfl (by go_simp) ⟨rfl,hI⟩
     .exact ab rfl (by go_simp) ⟨rfl,hI⟩
     .exact ab rfl (by go_simp) ⟨rfl,hI⟩
     .exact ab rfl (by go_simp) ⟨rfl,hI⟩
     .exact ab rfl (by go_simp) ⟨rfl,hI⟩
    .intro k j o hk ho s_1 W bs hlen hok hI
     rcases k with _|_|k
     all_goals first|(obtain rfl:=Ii hk;obtain rfl:=Ii ho)|exact absurd hk (by simp)
     .obtain⟨b0,b1,rfl⟩:=it hlen
      obtain rfl:=okS hok 0 rfl rfl;obtain rfl:=okF hok 1 rfl rfl rfl (by kernel_rfl);refine aN rfl Tryz.func37 (by kernel_rfl) rfl #[Ia Af f.length cf,Ia Ag g.length cg,IA row.toArray] rfl rfl ((HCs.1 W hI.1).mono λe w' h=>?_);obtain⟨V,k',h1,h2,h3⟩:=h;exact⟨_,h1,(V,k'),[(57,IR #[IA V.toArray,Ib Ie k',Ib Ie 0]),(45,IR #[IA V.toArray,Ib Ie k',Ib Ie 0]),(58,IA V.toArray),(59,Ib Ie k')],rfl,rfl,by kernel_rfl,⟨hI.1.trans (Fr.of_below h3),λ_=>h2,ag hI.2.2 h3⟩⟩
     .obtain⟨b0,b1,rfl⟩:=it hlen
      obtain rfl:=okS hok 1 rfl rfl;obtain rfl:=okT hok 0 rfl rfl rfl (by kernel_rfl);have hp:=hI.2.1 rfl;exact bC rfl 37 _ _ rfl gj 24 s_1.1 rfl rfl 53 (jd (Ia Af f.length cf) (Ia Ag g.length cg) (gy 1 ea na va eb nb vb (Ib Ie t::(row++fV)))) _ hI.2.2 (by rw[hp.1];exact ov) (by have h11:=HRow.1.1;rw[hp.1];simp[jd,gy,h11,fV,cac,r8]) hp.2.1 (ES _ _ _ _ _ _ _ _ _ HRow.1.1 hp.1) (λW' h3 hf3=>⟨s_1,[],rfl,rfl,rfl,⟨hI.1.trans hf3,λ_=>hp,h3⟩⟩)
    .intro s_1 W hI
     obtain⟨⟨V,k'⟩,rfl⟩:∃s':List Io×Int,s'=s_1:=⟨_,rfl⟩;obtain⟨hf6,hp,h6⟩:=hI;have hp:=hp rfl;go_wp2;rw[HQ.1];refine⟨((Fr.of_below HB2.1).trans HF5.1).trans hf6,rfl,row,V,?_,HCa5.1.fr hf6 (λk cs fr e h=>by subst e;rw[H5.1]at h;injection h with h;injection h with _ h;exact absurd h (by decide)),hp.1,hp.2.1,hp.2.2⟩;rw[<-HTe.1];refine⟨h6,?_⟩;have:=HRow.1.1;have:=hp.1;simp[gy];omega
end Go.Proofs.YtlinbehijfcelaaGreatDoor.Top
