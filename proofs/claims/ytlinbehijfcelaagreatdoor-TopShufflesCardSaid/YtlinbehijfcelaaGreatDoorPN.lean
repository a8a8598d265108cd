/- Walks of the program, and what it computes, told plainly. No condition. (VD VE VF) -/
import Derived.Below
import Derived.Deep.Draws
import Derived.Deep.AppendLies
import Derived.Maps.AppendAt
import Derived.OwnWalk
import Derived.Laws.BytesArg
import Derived.Laws.MakeOwn
import Derived.Laws.OwnMore
import Derived.Deep.OwnRows
import Derived.Tactics
import Derived.Lib.ConvBytes
import Derived.Laws.Slices
import Derived.WalkKit
import Derived.KernelRfl
import Derived.RowKit3
import Derived.Deep.LoopGhost
import Derived.Deep.QuietTactic
import Derived.BigQuiet
import Derived.WideLaws
import Derived.Deep.DeepCutAuto
import Derived.Deep.CutBlock
import Derived.Deep.RegionHeld3
import Derived.Laws.Rows
import Derived.Lib.AppendStr
import Derived.ArgAppend
import Derived.Laws.IdiomCopy
import Derived.RowKit
import Derived.OrdersHeld
import Derived.Laws.BitsLemmas
import Derived.Laws.StructEq
import Derived.Test.YtlinbehijfcelaaGreatDoorProg
import Derived.Deep.WholeRow
import Derived.Laws.CopyOwn
import Derived.Carry
import Derived.ChangeKeysEq
import Derived.Laws.RangeAny
import Derived.Deep.MidRow
import Derived.Laws.Tables
import Derived.StillTailTactics
import Derived.Test.YtlinbehijfcelaaGreatDoorPA
import Derived.Test.YtlinbehijfcelaaGreatDoorPB
import Derived.Test.YtlinbehijfcelaaGreatDoorPC
import Derived.Test.YtlinbehijfcelaaGreatDoorPD
import Derived.Test.YtlinbehijfcelaaGreatDoorPE
import Derived.Test.YtlinbehijfcelaaGreatDoorPF
import Derived.Test.YtlinbehijfcelaaGreatDoorPH
import Derived.Test.YtlinbehijfcelaaGreatDoorPI
import Derived.Test.YtlinbehijfcelaaGreatDoorPM
set_option linter.unusedVariables false
set_option linter.unusedSimpArgs false
set_option linter.unusedSectionVars false
set_option maxHeartbeats 8000000
set_option maxRecDepth 100000
open Go renaming Calls->I9,Operand->Lf,Program->Jn,TypeId->Je,Value->Io,World->Im,bodyPost_ret->IG,heap_alloc_last->Iu,loadVar->Le,results->Lg,results_cell_row->IX,run_underlying->I2,wpList->Kg,wpList_load_row->II,wpStill_nil->Mc,wp_region_still_lit->KF
open Bool renaming and_eq_true->Js,false->Ik,false_ne_true->Mp,noConfusion->Ix,true->Ir
open Go.Value renaming agg->IA,bool->Iy,int->Ib,oneCell'->IH,ownBlock->IQ,pointer->Iq,slice->Ia,tuple->IR
open Go.IntKind renaming i64->Ie
open Option renaming none->Ih,some->Ic
open Go.Proofs.Tryz renaming prog->If,results92->JU,underlying35->Lu,underlying49->I6,underlying59->L8,underlying93->Jo
open List renaming all_eq_true->Jd,append_nil->JS,drop_append->Mx,drop_eq_getElem_cons->Jc,drop_of_length_le->Ju,getD_eq_getElem?_getD->Ij,getElem?_append_left->Jg,getElem?_append_right->IW,getElem?_eq_getElem->Ig,getElem?_eq_some_iff->Ip,getElem?_of_mem->Kb,length_append->IV,length_cons->Jz,length_nil->Lj,mem_append->J0,mem_cons->I7,mem_of_getElem?->Iw,nil_append->Ka,not_mem_nil->JE,replicate->IF,setIfInBounds_toArray->IP,set_cons_succ->IZ,set_cons_zero->IY,size_toArray->I8,take_append_of_le_length->Kx,take_length->Kh
open Go.Ending renaming returned->Iv
open Go.RowKit.Below renaming refl->Il
open Nat renaming le_refl->Iz,le_trans->IT,mul_one->JQ,not_lt_zero->LG,zero_le->ID
open Array renaming all_eq_true_iff_forall_mem->Jh,getElem?_eq_some_iff->IB
open Go.RowKit renaming Below->It,intOf->Jj
open Go.Obj renaming cells->Is
open Go.Result renaming andThen->Jf
open Option.some renaming inj->Ii
open Go.Instr renaming fill->Ll
open Int renaming toNat_natCast->IC
open And renaming intro->IE
open Go.Act renaming put->KY
namespace Go.Proofs.YtlinbehijfcelaaGreatDoor.Top
open Go.RowKit Go.Proofs.YtlinbehijfcelaaGreatDoorW.PrintWords Go.Proofs.YtlinbehijfcelaaGreatDoorW.PrintLast
structure Pw where
 l:List (Bool×Int)
 h:List Int
 at_:Int
 asked:Int
 evs:List Ev
 how:Int
 val:Int
def Pw.wk(p:Pw)(x:In)(vH vA vE:Io):Wk:=⟨p.l,vH,p.at_,p.asked,x,vA,vE,p.how,p.val⟩
def IsP(W:Im)(g:Nat)(x:In)(vA:Io)(p:Pw):Prop:=∃vH vE,cD W g (p.wk x vH vA vE)/\RdT (Kd.int .i64) 2 W vH p.h/\RdT kEv 105 W vE p.evs
def Pw.num(p:Pw)(i:Int):Int:=(p.l.getD i.toNat (Ik,0)).2
def Pw.setP(p:Pw)(d v how:Int):Pw:=if how=0 then { p with how:=how,l:=p.l.set d.toNat (Ir,v) }else { p with how:=how }
def Pw.next(p:Pw)(n:Int):Pw:=if p.how=0 then { p with at_:=n }else p
def Pw.storeP(p:Pw)(a b:Int):Pw:=if(kC p.h a b).2=0 then { p with how:=(kC p.h a b).2,h:=(kC p.h a b).1 }else { p with how:=(kC p.h a b).2 }
def Pw.callP(p:Pw)(x:In)(ask:List Int)(a:Int):Pw:=if(ask.length:Int)<=p.asked then { p with how:=5 }else { p with evs:=[⟨x.n,a,ask.getD p.asked.toNat 0⟩],asked:=p.asked+1,how:=0,l:=p.l.set x.d.toNat (Ir,ask.getD p.asked.toNat 0) }
def Pw.moveP(p:Pw)(x:In):Pw:={ p with l:=if x.op=1 then p.l.set x.d.toNat (Ir,x.n)else if x.op=2 then p.l.set x.d.toNat (p.l.getD x.a.toNat (Ik,0))else if x.op=3 then(p.l.set x.d.toNat (p.l.getD x.a.toNat (Ik,0))).set x.a.toNat (p.l.getD x.d.toNat (Ik,0))else p.l }
def doP(x:In)(ask:List Int)(p:Pw):Pw:=
 if x.op=13 then(p.setP x.d (sl p.h (p.num x.a)).1 (sl p.h (p.num x.a)).2).next (p.at_+1)
 else if x.op=14 then(p.storeP (p.num x.a) (p.num x.b)).next (p.at_+1)
 else if x.op=15 then(p.callP x ask (p.num x.a)).next (p.at_+1)
 else if x.op=18 then { p with how:=1,val:=p.num x.a }
 else if x.op=17 then p.next (if p.num x.a=0 then x.jt else p.at_+1)
 else if x.op=16 then p.next x.jt
 else if x.moves=Ik then(p.setP x.d (num_Do.v x.op (p.num x.a) (p.num x.b)).1 (num_Do.v x.op (p.num x.a) (p.num x.b)).2).next (p.at_+1)
 else(p.moveP x).next (p.at_+1)
theorem cD.cells{W:Im}{g:Nat}{k:Wk}(h:cD W g k):W.cell? ⟨g,48,Ih⟩=Ic k.vH/\W.cell? ⟨g,49,Ih⟩=Ic (Ib Ie k.at_)/\W.cell? ⟨g,51,Ih⟩=Ic (Ib Ie k.x.op)/\W.cell? ⟨g,53,Ih⟩=Ic (Ib Ie k.x.a)/\W.cell? ⟨g,54,Ih⟩=Ic (Ib Ie k.x.b)/\W.cell? ⟨g,56,Ih⟩=Ic (Ib Ie k.x.jt)/\W.cell? ⟨g,59,Ih⟩=Ic (Ib Ie k.how)/\W.cell? ⟨g,60,Ih⟩=Ic (Ib Ie k.val):=
 ⟨by rw[show 48=48+0 from rfl,h.cell];rfl,by rw[show 49=48+1 from rfl,h.cell];rfl,by rw[show 51=48+3 from rfl,h.cell];rfl,by rw[show 53=48+5 from rfl,h.cell];rfl,by rw[show 54=48+6 from rfl,h.cell];rfl,by rw[show 56=48+8 from rfl,h.cell];rfl,by rw[show 59=48+11 from rfl,h.cell];rfl,by rw[show 60=48+12 from rfl,h.cell];rfl⟩
theorem cJ{W:Im}{g:Nat}{k:Wk}(h:cD W g k){t:Nat}(ht:t≠197):∀j cs fr,j=g->W.heap[j]?≠Ic (.cells cs t fr):=λj cs fr e h2=>by
 subst e;rw[h.1]at h2;injection h2 with h2
 injection h2 with _ h2
 exact ht h2.symm
theorem Gy{W:Im}{g:Nat}{k:Wk}(h:cD W g k):(Le 49 ⟨g,51,Ih⟩).run If W=.ok (IA k.x.cells) W:=by
 refine cr h.1 49 51 [Ib Ie k.x.op,Ib Ie k.x.d,Ib Ie k.x.a,Ib Ie k.x.b,Ib Ie k.x.n,Ib Ie k.x.jt] ?_ _ I6 rfl bU;unfold Wk.cells;rw[Mx,ed,h.2,Ju (by rw[ed,h.2];decide)];rfl
theorem Dp(p:Pw)(x:In)(vH vA vE:Io):(p.wk x vH vA vE).moveW=(p.moveP x).wk x vH vA vE:=by
 unfold Wk.moveW Pw.moveP;by_cases h1:x.op=1
 .simp[h1,Pw.wk,Wk.put]
 .by_cases h2:x.op=2
  .simp[h2,Pw.wk,Wk.put,Wk.at]
  .by_cases h3:x.op=3
   .simp[h3,Pw.wk,Wk.put,Wk.at]
   .simp[h1,h2,h3,Pw.wk]
theorem Ey(g:Nat)(x:In)(n:Int)(hx:CD n x)(ask:List Int)(vA:Io)(p:Pw)(w:Im)(hP:IsP w g x vA p)(hA:RdT (Kd.int .i64) 2 w vA ask)(h0:0<=p.asked)(hl:ask.length<=100000)(hat:0<=p.at_/\p.at_<=1000)(hh:p.h.length<=5000)(hh0:p.how=0) :
  I9 If 92 #[Iq (Ic ⟨g,0,Ih⟩)] w λe w'=>e=Iv (IR #[])/\IsP w' g x vA (doP x ask p)/\Fr (λj=>j=g) w w':=by
 obtain⟨vH,vE,hW,hH,hE⟩:=hP;obtain⟨k,hk⟩:=ME (p.wk x vH vA vE);rw[<-hk]at hW;obtain⟨a,ha⟩:∃a:Nat,x.a=a:=⟨x.a.toNat,by have:=hx.a;omega⟩;obtain⟨b,hb⟩:∃b:Nat,x.b=b:=⟨x.b.toNat,by have:=hx.b;omega⟩;have hWd:cD w.drew g k:=hW.below (aA (Il _ _));obtain⟨AH,cH,hvH,_,hCH,_⟩:=hH.below (aA (Il _ _));obtain⟨va,hva⟩:=ME ((k.at a).2);obtain⟨vb,hvb⟩:=ME ((k.at b).2);have HNa:=MD ((oK g k a (by have:=hx.a;omega) w.drew hWd).mono (λe w' h=>(⟨h.1,h.2.symm⟩:e=Iv (Ib Ie (k.at a).2)/\w'=w.drew)));have HNb:=MD ((oK g k b (by have:=hx.b;omega) w.drew hWd).mono (λe w' h=>(⟨h.1,h.2.symm⟩:e=Iv (Ib Ie (k.at b).2)/\w'=w.drew)));rw[<-hva]at HNa;rw[<-hvb]at HNb;obtain⟨d0,d1,d2,d3,d4,d5,d6,d7⟩:=hWd.cells;obtain⟨w1,hw1⟩:=ME w.drew;have hW1:cD w1 g k:=by rw[hw1];exact hWd
 have hF1:Fr (λj=>j=g) w w1:=by rw[hw1];exact Fr.drew
 have hH1:RdT (Kd.int .i64) 2 w1 vH p.h:=by rw[hw1];exact hH.below (aA (Il _ _))
 have hE1:RdT kEv 105 w1 vE p.evs:=by rw[hw1];exact hE.below (aA (Il _ _))
 have hA1:RdT (Kd.int .i64) 2 w1 vA ask:=by rw[hw1];exact hA.below (aA (Il _ _))
 obtain⟨e0,e1,e2,e3,e4,e5,e6,e7⟩:=hW1.cells;have f49:=au hW1.1 49;have f59:=au hW1.1 59;have f60:=au hW1.1 60;have hna:p.num x.a=va:=by rw[hva,hk,ha];rfl
 have hnb:p.num x.b=vb:=by rw[hvb,hk,hb];rfl
 rw[show k.x.a=(a:Int) by rw[hk];exact ha]at d3 e3;rw[show k.x.b=(b:Int) by rw[hk];exact hb]at d4 e4;rw[show k.x.op=x.op by rw[hk];rfl]at d2 e2;rw[show k.x.jt=x.jt by rw[hk];rfl]at e5;rw[show k.at_=p.at_ by rw[hk];rfl]at e1;rw[show k.how=0 by rw[hk];exact hh0]at e6;rw[show k.vH=Ia AH p.h.length cH by rw[hk];exact hvH]at e0;rw[<-hw1]at hCH;have hkx:k.x=x:=by rw[hk];rfl
 have hd:0<=k.x.d/\k.x.d<24:=by rw[hkx];have:=hx.d;omega
 have HLoad:=MD (B7 p.h AH cH va w1 hh hCH);have HStore:=MD (y_ p.h AH cH va vb w1 hh hCH);have HSet:=MD (λv how W (hW:cD W g k)=>uh g k v how W hW hd.1 hd.2);have HCall:=MD (CP g k ask va w1 hW1 (by rw[show k.vA=vA by rw[hk];rfl];exact hA1.rd) (by rw[hk];exact h0) hl hd);have HMove:=MD (λW (hW:cD W g k)=>Bu g k W hW hd (by rw[hkx];have:=hx.a;omega));have HNum:=MD (λW=>num_Do.calls x.op va vb _ _ W (show num_Do.f x.op va vb=Ic ((num_Do.v x.op va vb).1,(num_Do.v x.op va vb).2)from rfl));have HMv:=MD (j7 x w1);have HX6:=MD (Gy hW1);rw[hkx]at HX6;obtain⟨p1,hp1⟩:=ME (doP x ask p);rw[<-hp1];unfold doP at hp1;rw[hna,hnb]at hp1;have HDo:=MD hp1;have hx1:=hx.op;have hat1:=hat.1;have hat2:=hat.2;have HW:=MD hW1;have HF:=MD hF1;have HH:=MD hH1;have HE:=MD hE1;have HA:=MD hA1;have HK:=MD hk;have HX:=MD hx;have H0:=MD h0;have HL:=MD hl;have HHL:=MD hh;have HH0:=MD hh0;have HW1:=MD hw1;clear hp1 hkx hd hCH hvH hW hH hE ha hb hWd hva hvb hW1 hF1 hH1 hE1 hA1 hna hnb hx hA h0 hl hat hh hh0 hk hw1 d0 d1 d5 d6 d7;obtain⟨op,d,xa,xb,nn,jt⟩:=x;simp only at hx1 d2 e2 e5 ⊢;have hop:op=13\/op=14\/op=15\/op=18\/op=17\/op=16\/(4<=op/\op<=12)\/(1<=op/\op<=3):=by omega
 clear hx1;rcases hop with rfl|rfl|rfl|rfl|rfl|rfl|⟨h4,h12⟩|⟨h1,h3⟩
 rotate_left 6
 all_goals
  try have q13:(op==13)=Ik:=beq_eq_false_iff_ne.mpr (by omega)
  try have q14:(op==14)=Ik:=beq_eq_false_iff_ne.mpr (by omega)
  try have q15:(op==15)=Ik:=beq_eq_false_iff_ne.mpr (by omega)
  try have q16:(op==16)=Ik:=beq_eq_false_iff_ne.mpr (by omega)
  try have q17:(op==17)=Ik:=beq_eq_false_iff_ne.mpr (by omega)
  try have q18:(op==18)=Ik:=beq_eq_false_iff_ne.mpr (by omega)
 rotate_left 2
 all_goals
  go_enter Tryz.func92,Tryz.ntmps92;go_upto_region 0 with fail
  refine KF (by kernel_rfl) (by kernel_rfl) ?_
  repeat still_step
  still_call HNa.1
  repeat still_step
  still_call HNb.1
  repeat still_step
  refine Mc ?_;change(Exit.then _ _) _ _ w.drew;rw[<-HW1.1];clear d2 d3 d4 HNa HNb HW1
 .obtain⟨r,hr⟩:=ME (sl p.h va)
  have HDn:=MD (show p1=(p.setP d r.1 r.2).next (p.at_+1) by rw[hr,HDo.1,if_pos rfl]);rw[<-hr]at HLoad;clear hr HDo HStore HCall HMove HNum HMv HX6 e3 e4 e5 e6 e7 f49 f59 f60;go_upto_region 21 with(first
   |(go_at_call 108;refine HLoad.1.mono ?_;rintro e w' ⟨rfl,rfl⟩)
   |(go_at_call 107;refine(HSet.1 _ _ _ HW.1).mono ?_;rintro e w2 ⟨rfl,h2,hf2⟩;have HW2:=MD h2;have HF2:=MD (HF.1.trans hf2);have HH2:=MD (HH.1.fr aC hf2 (cJ HW.1 (by decide)));have HE2:=MD (HE.1.fr cj hf2 (cJ HW.1 (by decide)));clear h2 hf2))
  clear e1 e2;clear e0;by_cases hz:r.2=0
  .have c59:=(show w2.cell? ⟨g,59,Ih⟩=Ic (Ib Ie 0) by rw[show 59=48+11 from rfl,HW2.1.cell];unfold Wk.setW;rw[if_pos hz];exact congrArg (λz=>Ic (Ib .i64 z)) hz)
   have c49:=(show w2.cell? ⟨g,49,Ih⟩=Ic (Ib Ie p.at_) by rw[show 49=48+1 from rfl,HW2.1.cell];unfold Wk.setW;rw[if_pos hz,HK.1];rfl);have f49:=au HW2.1.1 49;have HZ:=MD hz;clear hz;go_wp2;refine bodyPost_end (v:=IR #[]) (by simp[Lg,JU,go_sem]) rfl ⟨rfl,?_,HF2.1.trans (Fr.cell (S:=λj=>j=g) (p:=⟨g,49,Ih⟩) rfl _)⟩;have h1:p1={ p with how:=r.2,l:=p.l.set d.toNat (Ir,r.1),at_:=p.at_+1 }:=by rw[HDn.1];unfold Pw.setP;rw[if_pos HZ.1];unfold Pw.next;rw[if_pos HZ.1]
   rw[h1];refine⟨vH,vE,?_,HH2.1.fr aC (Fr.cell (S:=λj=>j=g) (p:=⟨g,49,Ih⟩) rfl _) (cJ HW2.1 (by decide)),HE2.1.fr cj (Fr.cell (S:=λj=>j=g) (p:=⟨g,49,Ih⟩) rfl _) (cJ HW2.1 (by decide))⟩;have h3:=k8 HW2.1 (p.at_+1);unfold Wk.setW at h3;rw[if_pos HZ.1,HK.1]at h3;exact h3
  .have c59:=(show w2.cell? ⟨g,59,Ih⟩=Ic (Ib Ie r.2) by rw[show 59=48+11 from rfl,HW2.1.cell];unfold Wk.setW;rw[if_neg hz];rfl)
   have q:(r.2==0)=Ik:=beq_eq_false_iff_ne.mpr hz;have HZ:=MD hz;clear hz;go_wp2;refine bodyPost_end (v:=IR #[]) (by simp[Lg,JU,go_sem]) rfl ⟨rfl,?_,HF2.1⟩;have h1:p1={ p with how:=r.2 }:=by rw[HDn.1];unfold Pw.setP;rw[if_neg HZ.1];unfold Pw.next;rw[if_neg HZ.1]
   rw[h1];refine⟨vH,vE,?_,HH2.1,HE2.1⟩;have h3:=HW2.1;unfold Wk.setW at h3;rw[if_neg HZ.1,HK.1]at h3;exact h3
 .obtain⟨r,hr⟩:=ME (kC p.h va vb)
  have HDn:=MD (show p1=(if r.2=0 then { p with how:=r.2,h:=r.1 }else { p with how:=r.2 }:Pw).next (p.at_+1) by rw[hr,HDo.1];rfl);rw[<-hr]at HStore;clear hr HDo HLoad HCall HMove HNum HMv HX6 e3 e4 e5 e7 f60;go_upto_region 11 with(first
   |(go_at_call 109;refine HStore.1.mono ?_;rintro e w2 ⟨vH2,rfl,⟨A2,c2,rfl,h2b,h2c,h2d⟩,hb2⟩;have HH2:=MD (show RdT (Kd.int .i64) 2 w2 (Ia A2 r.1.length c2) r.1 from⟨A2,c2,rfl,h2b,h2c,h2d⟩);have HHo:=MD (HH.1.below hb2);have HW2:=MD (HW.1.below hb2);have HE2:=MD (HE.1.below hb2);have HF2:=MD (HF.1.trans (Fr.of_below hb2));clear h2b h2c h2d hb2))
  obtain⟨_,_,_,_,_,_,c59,_⟩:=HW2.1.cells;have f59':=au HW2.1.1 59;clear e0 e1 e2 e6 f49 f59;go_upto_region 12 with fail
  obtain⟨w3,hw3⟩:∃w3,w3=w2.setCell ⟨g,59,Ih⟩ (Ib Ie r.2):=⟨_,rfl⟩;refine ar hw3.symm ?_;have hf3:Fr (λj=>j=g) w2 w3:=by rw[hw3];exact Fr.cell (S:=λj=>j=g) (p:=⟨g,59,Ih⟩) rfl _
  have HW3:=MD (show cD w3 g { k with how:=r.2 } by rw[hw3];exact py HW2.1 _);have HH3:=MD (HH2.1.fr aC hf3 (cJ HW2.1 (by decide)));have HE3:=MD (HE2.1.fr cj hf3 (cJ HW2.1 (by decide)));have HHo3:=MD (HHo.1.fr aC hf3 (cJ HW2.1 (by decide)));have HF3:=MD (HF2.1.trans hf3);clear hw3 hf3 c59 f59';obtain⟨c48,c49,_,_,_,_,c59,_⟩:=HW3.1.cells;by_cases hz:r.2=0
  .have f48:=au HW3.1.1 48
   have q:(r.2==0)=Ir:=beq_iff_eq.mpr hz;have HZ:=MD hz;clear hz c49 c59;go_upto_region 21 with fail
   obtain⟨w4,hw4⟩:∃w4,w4=w3.setCell ⟨g,48,Ih⟩ (Ia A2 r.1.length c2):=⟨_,rfl⟩;refine ar hw4.symm ?_;have hf4:Fr (λj=>j=g) w3 w4:=by rw[hw4];exact Fr.cell (S:=λj=>j=g) (p:=⟨g,48,Ih⟩) rfl _
   have HW4:=MD (show cD w4 g { k with how:=r.2,vH:=Ia A2 r.1.length c2 } by rw[hw4];exact Gz HW3.1 _);have HH4:=MD (HH3.1.fr aC hf4 (cJ HW3.1 (by decide)));have HE4:=MD (HE3.1.fr cj hf4 (cJ HW3.1 (by decide)));have HF4:=MD (HF3.1.trans hf4);clear hw4 hf4 c48 f48;obtain⟨_,c49,_,_,_,_,c59,_⟩:=HW4.1.cells;simp only[HZ.1]at c59;have f49:=au HW4.1.1 49;have HW5:=MD (show cD w4 g (({ p with how:=r.2,h:=r.1 }:Pw).wk ⟨14,d,xa,xb,nn,jt⟩ (Ia A2 r.1.length c2) vA vE) by have h:=HW4.1;rw[HK.1]at h;exact h);have HK2:=MD HK.1;go_wp2;refine bodyPost_end (v:=IR #[]) (by simp[Lg,JU,go_sem]) rfl ⟨rfl,?_,HF4.1.trans (Fr.cell (S:=λj=>j=g) (p:=⟨g,49,Ih⟩) rfl _)⟩;rw[show p1={ p with how:=r.2,h:=r.1,at_:=p.at_+1 }from by rw[HDn.1,if_pos HZ.1];unfold Pw.next;rw[if_pos HZ.1]];exact⟨_,vE,k8 HW5.1 _,HH4.1.fr aC (Fr.cell (S:=λj=>j=g) (p:=⟨g,49,Ih⟩) rfl _) (cJ HW5.1 (by decide)),HE4.1.fr cj (Fr.cell (S:=λj=>j=g) (p:=⟨g,49,Ih⟩) rfl _) (cJ HW5.1 (by decide))⟩
  .have q:(r.2==0)=Ik:=beq_eq_false_iff_ne.mpr hz
   have HZ:=MD hz;clear hz c48 c49;go_wp2;refine bodyPost_end (v:=IR #[]) (by simp[Lg,JU,go_sem]) rfl ⟨rfl,?_,HF3.1⟩;rw[show p1={ p with how:=r.2 } by rw[HDn.1,if_neg HZ.1];unfold Pw.next;rw[if_neg HZ.1]];refine⟨vH,vE,?_,HHo3.1,HE3.1⟩;have h:=HW3.1;rw[HK.1]at h;exact h
 .have hka:k.asked=p.asked:=by rw[HK.1];rfl
  have hkn:k.x.n=nn:=by rw[HK.1];rfl
  rw[hka,hkn]at HCall;have HDn:=MD (show p1=(p.callP ⟨15,d,xa,xb,nn,jt⟩ ask va).next (p.at_+1) by rw[HDo.1];rfl);have HKa:=MD hka;by_cases hle:(ask.length:Int)<=p.asked
  .have HLe:=MD hle
   have HLk:=MD (show(ask.length:Int)<=k.asked by rw[hka];exact hle);clear hle hka hkn HDo HLoad HStore HMove HNum HMv HX6 e3 e4 e5 e7 f49 f59 f60;go_upto_region 21 with(first
    |(go_at_call 110;refine HCall.1.mono ?_;rintro e w2 ⟨rfl,vE2,h2,hev,hf2⟩;have HW2:=MD (show cD w2 g { k with how:=5 } by unfold Wk.callW at h2;rw[if_pos HLk.1]at h2;exact h2);have HF2:=MD (HF.1.trans hf2);have HH2:=MD (HH.1.fr aC hf2 (cJ HW.1 (by decide)));have HE2:=MD (HE.1.fr cj hf2 (cJ HW.1 (by decide)));clear h2 hev hf2))
   clear e0 e1 e2 e6;have c59:=(show w2.cell? ⟨g,59,Ih⟩=Ic (Ib Ie 5) by rw[show 59=48+11 from rfl,HW2.1.cell];rfl);go_wp2;refine bodyPost_end (v:=IR #[]) (by simp[Lg,JU,go_sem]) rfl ⟨rfl,?_,HF2.1⟩;rw[show p1={ p with how:=5 }from by rw[HDn.1];unfold Pw.callP;rw[if_pos HLe.1];rfl];exact⟨_,vE,(show cD w2 g (({ p with how:=5 }:Pw).wk _ vH vA vE) by have h:=HW2.1;rw[HK.1]at h;exact h),HH2.1,HE2.1⟩
  .have HLe:=MD hle
   have HLk:=MD (show ¬(ask.length:Int)<=k.asked by rw[hka];exact hle);clear hle hka hkn HDo HLoad HStore HMove HNum HMv HX6 e3 e4 e5 e7 f49 f59 f60;go_upto_region 21 with(first
    |(go_at_call 110;refine HCall.1.mono ?_;rintro e w2 ⟨rfl,vE2,h2,hev,hf2⟩;have HW2:=MD (show cD w2 g (({ p with evs:=[⟨nn,va,ask.getD p.asked.toNat 0⟩],asked:=p.asked+1,how:=0,l:=p.l.set d.toNat (Ir,ask.getD p.asked.toNat 0) }:Pw).wk ⟨15,d,xa,xb,nn,jt⟩ vH vA vE2) by unfold Wk.callW at h2;rw[if_neg HLk.1,HK.1]at h2;exact h2);have HF2:=MD (HF.1.trans hf2);have HH2:=MD (HH.1.fr aC hf2 (cJ HW.1 (by decide)));have HE2:=MD (hev (by have:=HLe.1;omega));clear h2 hev hf2))
   clear e0 e1 e2 e6;have c59:=(show w2.cell? ⟨g,59,Ih⟩=Ic (Ib Ie 0) by rw[show 59=48+11 from rfl,HW2.1.cell];rfl);have c49:=(show w2.cell? ⟨g,49,Ih⟩=Ic (Ib Ie p.at_) by rw[show 49=48+1 from rfl,HW2.1.cell];rfl);have f49:=au HW2.1.1 49;go_wp2;refine bodyPost_end (v:=IR #[]) (by simp[Lg,JU,go_sem]) rfl ⟨rfl,?_,HF2.1.trans (Fr.cell (S:=λj=>j=g) (p:=⟨g,49,Ih⟩) rfl _)⟩;rw[show p1={ p with evs:=[⟨nn,va,ask.getD p.asked.toNat 0⟩],asked:=p.asked+1,how:=0,l:=p.l.set d.toNat (Ir,ask.getD p.asked.toNat 0),at_:=p.at_+1 }from by rw[HDn.1];unfold Pw.callP;rw[if_neg (by have:=HLe.1;omega)];rfl];exact⟨_,vE2,k8 HW2.1 _,HH2.1.fr aC (Fr.cell (S:=λj=>j=g) (p:=⟨g,49,Ih⟩) rfl _) (cJ HW2.1 (by decide)),HE2.1.fr cj (Fr.cell (S:=λj=>j=g) (p:=⟨g,49,Ih⟩) rfl _) (cJ HW2.1 (by decide))⟩
 .have HDn:=MD (show p1={ p with how:=1,val:=va } by rw[HDo.1];rfl)
  clear HDo HLoad HStore HCall HMove HNum HMv HX6 e3 e4 e5;go_upto_region 21 with fail
  obtain⟨w2,hw2⟩:∃w2,w2=(w1.setCell ⟨g,59,Ih⟩ (Ib Ie 1)).setCell ⟨g,60,Ih⟩ (Ib Ie va):=⟨_,rfl⟩;refine ar hw2.symm ?_;have hf2:Fr (λj=>j=g) w1 w2:=by rw[hw2];exact(Fr.cell (S:=λj=>j=g) (p:=⟨g,59,Ih⟩) rfl _).trans (Fr.cell (S:=λj=>j=g) (p:=⟨g,60,Ih⟩) rfl _)
  have HW2:=MD (show cD w2 g (({ p with how:=1,val:=va }:Pw).wk ⟨18,d,xa,xb,nn,jt⟩ vH vA vE) by have h:=FL (py HW.1 1) va;rw[HK.1]at h;rw[hw2];exact h);have HH2:=MD (HH.1.fr aC hf2 (cJ HW.1 (by decide)));have HE2:=MD (HE.1.fr cj hf2 (cJ HW.1 (by decide)));have HF2:=MD (HF.1.trans hf2);clear hw2 hf2 e0 e1 e2 e6 e7 f49 f59 f60;have c59:=(show w2.cell? ⟨g,59,Ih⟩=Ic (Ib Ie 1) by rw[show 59=48+11 from rfl,HW2.1.cell];rfl);go_wp2;refine bodyPost_end (v:=IR #[]) (by simp[Lg,JU,go_sem]) rfl ⟨rfl,?_,HF2.1⟩;rw[show p1={ p with how:=1,val:=va }from HDn.1];exact⟨_,vE,HW2.1,HH2.1,HE2.1⟩
 .have HDn:=MD (show p1=p.next (if va=0 then jt else p.at_+1) by rw[HDo.1];rfl)
  by_cases hv:va=0
  .have q:(va != 0)=Ik:=by simp[hv]
   have HV:=MD hv;clear hv HDo HLoad HStore HCall HMove HNum HMv HX6 e0 e3 e4 e7 f59 f60;go_wp2;refine bodyPost_end (v:=IR #[]) (by simp[Lg,JU,go_sem]) rfl ⟨rfl,?_,HF.1.trans (Fr.cell (S:=λj=>j=g) (p:=⟨g,49,Ih⟩) rfl _)⟩;rw[show p1={ p with at_:=jt }from by rw[HDn.1,if_pos HV.1];unfold Pw.next;rw[if_pos HH0.1]];exact⟨_,vE,k8 (show cD w1 g (p.wk _ vH vA vE) by have h:=HW.1;rw[HK.1]at h;exact h) _,HH.1.fr aC (Fr.cell (S:=λj=>j=g) (p:=⟨g,49,Ih⟩) rfl _) (cJ (show cD w1 g (p.wk _ vH vA vE) by have h:=HW.1;rw[HK.1]at h;exact h) (by decide)),HE.1.fr cj (Fr.cell (S:=λj=>j=g) (p:=⟨g,49,Ih⟩) rfl _) (cJ (show cD w1 g (p.wk _ vH vA vE) by have h:=HW.1;rw[HK.1]at h;exact h) (by decide))⟩
  .have q:(va != 0)=Ir:=by simp[hv]
   have HV:=MD hv;clear hv HDo HLoad HStore HCall HMove HNum HMv HX6 e0 e3 e4 e7 f59 f60;go_wp2;refine bodyPost_end (v:=IR #[]) (by simp[Lg,JU,go_sem]) rfl ⟨rfl,?_,HF.1.trans (Fr.cell (S:=λj=>j=g) (p:=⟨g,49,Ih⟩) rfl _)⟩;rw[show p1={ p with at_:=p.at_+1 }from by rw[HDn.1,if_neg HV.1];unfold Pw.next;rw[if_pos HH0.1]];exact⟨_,vE,k8 (show cD w1 g (p.wk _ vH vA vE) by have h:=HW.1;rw[HK.1]at h;exact h) _,HH.1.fr aC (Fr.cell (S:=λj=>j=g) (p:=⟨g,49,Ih⟩) rfl _) (cJ (show cD w1 g (p.wk _ vH vA vE) by have h:=HW.1;rw[HK.1]at h;exact h) (by decide)),HE.1.fr cj (Fr.cell (S:=λj=>j=g) (p:=⟨g,49,Ih⟩) rfl _) (cJ (show cD w1 g (p.wk _ vH vA vE) by have h:=HW.1;rw[HK.1]at h;exact h) (by decide))⟩
 .have HDn:=MD (show p1=p.next jt by rw[HDo.1];rfl)
  clear HDo HLoad HStore HCall HMove HNum HMv HX6 e0 e3 e4 e7 f59 f60;go_wp2;refine bodyPost_end (v:=IR #[]) (by simp[Lg,JU,go_sem]) rfl ⟨rfl,?_,HF.1.trans (Fr.cell (S:=λj=>j=g) (p:=⟨g,49,Ih⟩) rfl _)⟩;rw[show p1={ p with at_:=jt }from by rw[HDn.1];unfold Pw.next;rw[if_pos HH0.1]];exact⟨_,vE,k8 (show cD w1 g (p.wk _ vH vA vE) by have h:=HW.1;rw[HK.1]at h;exact h) _,HH.1.fr aC (Fr.cell (S:=λj=>j=g) (p:=⟨g,49,Ih⟩) rfl _) (cJ (show cD w1 g (p.wk _ vH vA vE) by have h:=HW.1;rw[HK.1]at h;exact h) (by decide)),HE.1.fr cj (Fr.cell (S:=λj=>j=g) (p:=⟨g,49,Ih⟩) rfl _) (cJ (show cD w1 g (p.wk _ vH vA vE) by have h:=HW.1;rw[HK.1]at h;exact h) (by decide))⟩
 .have hmv:In.moves ⟨op,d,xa,xb,nn,jt⟩=Ik:=decide_eq_false (by simp only;omega)
  rw[hmv]at HMv;obtain⟨r,hr⟩:=ME (num_Do.v op va vb);have HDn:=MD (show p1=(p.setP d r.1 r.2).next (p.at_+1) by rw[hr,HDo.1,if_neg (show ¬op=13 by omega),if_neg (show ¬op=14 by omega),if_neg (show ¬op=15 by omega),if_neg (show ¬op=18 by omega),if_neg (show ¬op=17 by omega),if_neg (show ¬op=16 by omega),if_pos hmv]);rw[<-hr]at HNum;clear hmv hr h4 h12 HDo HLoad HStore HCall HMove e0 e3 e4 e5 e7 f49 f59 f60;go_upto_region 21 with(first
   |((with_reducible refine ai (N:=97) rfl ?_);refine av rfl 49 _ rfl ⟨g,51,Ih⟩ rfl _ HX6.1 ?_)
   |(go_at_call 66;refine HMv.1.mono ?_;rintro e w3 ⟨rfl,hb3⟩;have HW3:=MD (HW.1.below hb3);have HF3:=MD (HF.1.trans (Fr.of_below hb3));have HH3:=MD (HH.1.below hb3);have HE3:=MD (HE.1.below hb3);have c51:=(ak hb3 e2);clear hb3)
   |(go_at_call 111;refine(HNum.1 _).mono ?_;rintro e w4 ⟨rfl,hb4⟩;have HW2a:=MD (HW3.1.below hb4);have HF2a:=MD (HF3.1.trans (Fr.of_below hb4));have HH2a:=MD (HH3.1.below hb4);have HE2a:=MD (HE3.1.below hb4);clear hb4)
   |(go_at_call 107;refine(HSet.1 _ _ _ HW2a.1).mono ?_;rintro e w2 ⟨rfl,h2,hf2⟩;have HW2:=MD h2;have HF2:=MD (HF2a.1.trans hf2);have HH2:=MD (HH2a.1.fr aC hf2 (cJ HW2a.1 (by decide)));have HE2:=MD (HE2a.1.fr cj hf2 (cJ HW2a.1 (by decide)));clear h2 hf2))
  clear e1 e2 e6 c51;by_cases hz:r.2=0
  .have c59:=(show w2.cell? ⟨g,59,Ih⟩=Ic (Ib Ie 0) by rw[show 59=48+11 from rfl,HW2.1.cell];unfold Wk.setW;rw[if_pos hz];exact congrArg (λz=>Ic (Ib .i64 z)) hz)
   have c49:=(show w2.cell? ⟨g,49,Ih⟩=Ic (Ib Ie p.at_) by rw[show 49=48+1 from rfl,HW2.1.cell];unfold Wk.setW;rw[if_pos hz,HK.1];rfl);have f49:=au HW2.1.1 49;have HZ:=MD hz;clear hz;go_wp2;refine bodyPost_end (v:=IR #[]) (by simp[Lg,JU,go_sem]) rfl ⟨rfl,?_,HF2.1.trans (Fr.cell (S:=λj=>j=g) (p:=⟨g,49,Ih⟩) rfl _)⟩;have h1:p1={ p with how:=r.2,l:=p.l.set d.toNat (Ir,r.1),at_:=p.at_+1 }:=by rw[HDn.1];unfold Pw.setP;rw[if_pos HZ.1];unfold Pw.next;rw[if_pos HZ.1]
   rw[h1];refine⟨vH,vE,?_,HH2.1.fr aC (Fr.cell (S:=λj=>j=g) (p:=⟨g,49,Ih⟩) rfl _) (cJ HW2.1 (by decide)),HE2.1.fr cj (Fr.cell (S:=λj=>j=g) (p:=⟨g,49,Ih⟩) rfl _) (cJ HW2.1 (by decide))⟩;have h3:=k8 HW2.1 (p.at_+1);unfold Wk.setW at h3;rw[if_pos HZ.1,HK.1]at h3;exact h3
  .have c59:=(show w2.cell? ⟨g,59,Ih⟩=Ic (Ib Ie r.2) by rw[show 59=48+11 from rfl,HW2.1.cell];unfold Wk.setW;rw[if_neg hz];rfl)
   have q:(r.2==0)=Ik:=beq_eq_false_iff_ne.mpr hz;have HZ:=MD hz;clear hz;go_wp2;refine bodyPost_end (v:=IR #[]) (by simp[Lg,JU,go_sem]) rfl ⟨rfl,?_,HF2.1⟩;have h1:p1={ p with how:=r.2 }:=by rw[HDn.1];unfold Pw.setP;rw[if_neg HZ.1];unfold Pw.next;rw[if_neg HZ.1]
   rw[h1];refine⟨vH,vE,?_,HH2.1,HE2.1⟩;have h3:=HW2.1;unfold Wk.setW at h3;rw[if_neg HZ.1,HK.1]at h3;exact h3
 .have hmv:In.moves ⟨op,d,xa,xb,nn,jt⟩=Ir:=decide_eq_true (by simp only;omega)
  rw[hmv]at HMv;have HDn:=MD (show p1=(p.moveP ⟨op,d,xa,xb,nn,jt⟩).next (p.at_+1) by rw[HDo.1,if_neg (show ¬op=13 by omega),if_neg (show ¬op=14 by omega),if_neg (show ¬op=15 by omega),if_neg (show ¬op=18 by omega),if_neg (show ¬op=17 by omega),if_neg (show ¬op=16 by omega),if_neg (by rw[hmv];decide)]);clear hmv h1 h3 HDo HLoad HStore HCall HNum e0 e3 e4 e5 e7 f49 f59 f60;go_upto_region 21 with(first
   |((with_reducible refine ai (N:=97) rfl ?_);refine av rfl 49 _ rfl ⟨g,51,Ih⟩ rfl _ HX6.1 ?_)
   |(go_at_call 66;refine HMv.1.mono ?_;rintro e w3 ⟨rfl,hb3⟩;have HW3:=MD (HW.1.below hb3);have HF3:=MD (HF.1.trans (Fr.of_below hb3));have HH3:=MD (HH.1.below hb3);have HE3:=MD (HE.1.below hb3);clear hb3)
   |(go_at_call 112;refine(HMove.1 _ HW3.1).mono ?_;rintro e w2 ⟨rfl,h2,hf2⟩;have HW2:=MD (show cD w2 g ((p.moveP ⟨op,d,xa,xb,nn,jt⟩).wk ⟨op,d,xa,xb,nn,jt⟩ vH vA vE) by rw[HK.1,Dp]at h2;exact h2);have HF2:=MD (HF3.1.trans hf2);have HH2:=MD (HH3.1.fr aC hf2 (cJ HW3.1 (by decide)));have HE2:=MD (HE3.1.fr cj hf2 (cJ HW3.1 (by decide)));clear h2 hf2))
  clear e1 e2 e6;have c59:=(show w2.cell? ⟨g,59,Ih⟩=Ic (Ib Ie 0) by rw[show 59=48+11 from rfl,HW2.1.cell];exact congrArg (λz=>Ic (Ib .i64 z)) HH0.1);have c49:=(show w2.cell? ⟨g,49,Ih⟩=Ic (Ib Ie p.at_) by rw[show 49=48+1 from rfl,HW2.1.cell];rfl);have f49:=au HW2.1.1 49;go_wp2;refine bodyPost_end (v:=IR #[]) (by simp[Lg,JU,go_sem]) rfl ⟨rfl,?_,HF2.1.trans (Fr.cell (S:=λj=>j=g) (p:=⟨g,49,Ih⟩) rfl _)⟩;rw[show p1={ p.moveP ⟨op,d,xa,xb,nn,jt⟩with at_:=p.at_+1 }from by rw[HDn.1];unfold Pw.next;rw[if_pos (show(p.moveP ⟨op,d,xa,xb,nn,jt⟩).how=0 from HH0.1)]];exact⟨_,vE,k8 HW2.1 _,HH2.1.fr aC (Fr.cell (S:=λj=>j=g) (p:=⟨g,49,Ih⟩) rfl _) (cJ HW2.1 (by decide)),HE2.1.fr cj (Fr.cell (S:=λj=>j=g) (p:=⟨g,49,Ih⟩) rfl _) (cJ HW2.1 (by decide))⟩
theorem RdT.of_own{W:Im}{base:Nat}{v:Io}{xs:List Int}(h:W.ownsRow base 2 1 v xs.length (fZ .i64 xs)):RdT (Kd.int .i64) 2 W v xs:=by
 obtain⟨A,c,rfl,hr⟩:=BL h;rcases h.2 with⟨h4,h5⟩|⟨g,cap,cur,h4,hg,hh,hn,_⟩
 .injection h4 with e1 e2 e3
  subst e1;subst e3;exact⟨Ih,0,rfl,by omega,Kd.C_of_reads (d:=(0:Int)) (h1:=λ_=>rfl) hr,λad e=>by cases e⟩
 .injection h4 with e1 e2 e3
  subst e1;subst e3;exact⟨_,c,rfl,hn,Kd.C_of_reads (d:=(0:Int)) (h1:=λ_=>rfl) hr,λad e=>by injection e with e;subst e;exact⟨_,_,hh⟩⟩
theorem mo{P:Jn}{ops:Array Oper}{rest:List Oper}{o:Oper}{a:Act}{W:Im}{Q:Exit->Act->Im->Prop}(hgd:o.guard=Ih)(t:Je)(s x:Lf)(ho:o.op=.call { callee:=.builtin .append,args:=#[s,x],argTypes:=#[t,t] })
  (ht:P.underlying t=Ic (.slice 2)) (hinfo:(P.info? 2).map (λi=>(i.zero,i.size,i.bytes))=Ic (Ic (Ib Ie 0),1,8)) (g:Nat) (ys:List Int) (A:Option Addr) (m c:Nat) (hs:a.eval s=Ia (Ic ⟨g,0,Ih⟩) 0 0) (hx:a.eval x=Ia A m c)
  (hg:W.heap[g]?=Ic (.cells #[] 2 (0,0))) (HC:Kd.C (Kd.int .i64) W A m ys) (hm:ys.length<=100000)
  (h:∀A1 c1 w1,RdT (Kd.int .i64) 2 w1 (Ia A1 ys.length c1) ys->Fr (λk=>k=g) W w1->Kg P ops Q rest (a.put o.dst (Ia A1 ys.length c1)) w1):Kg P ops Q (o::rest) a W:=by
 have HO:W.ownsRow 0 2 1 (Ia (Ic ⟨g,0,Ih⟩) 0 0) ([]:List Int).length (fZ .i64 []):=⟨by simp[fZ],.inr ⟨g,0,#[],rfl,ID _,hg,Iz _,by simp[maxLen],rfl,rfl⟩⟩;have HR:dY W .i64 A m ys:=Kd.reads_of_C (d:=(0:Int)) (h1:=λ_=>rfl) HC;have hml:ys.length=m:=HR.1;refine nY (w0:=W) 0 hgd s x t 2 .i64 8 ho ht hinfo (by decide) _ [] ys A m c hs hx HO HR ⟨rfl,rfl,rfl,Iz _,λk hk=>absurd hk (LG k)⟩ (ID _) (by simp only[Lj];omega) ?_;intro v1 w1 hown _ hgr _;rw[Ka]at hown;have hr:=RdT.of_own hown;obtain⟨A1,c1,rfl,hh⟩:=hr;exact h A1 c1 w1 ⟨A1,c1,rfl,hh⟩ (Fr.grown hgr (λk hk=>by simpa[IQ]using hk))
def stc(l:List (Bool×Int))(vH:Io)(at_ asked:Int):List Io:=dE l++[vH,Ib Ie at_,Ib Ie asked]
theorem dm{l:List (Bool×Int)}(h:l.length=24){vH:Io}{at_ asked:Int}:(stc l vH at_ asked).length=51:=by unfold stc;rw[IV,ed,h];rfl
theorem lh{l:List (Bool×Int)}(h:l.length=24){vH:Io}{at_ asked:Int}(i:Nat):(stc l vH at_ asked)[48+i]?=[vH,Ib Ie at_,Ib Ie asked][i]?:=by
 unfold stc;rw[IW (by rw[ed,h];omega),ed,h];congr 1;omega
theorem EB{l:List (Bool×Int)}(h:l.length=24){vH:Io}{at_ asked:Int}(i:Nat)(v:Io):(stc l vH at_ asked).set (48+i) v=dE l++[vH,Ib Ie at_,Ib Ie asked].set i v:=by
 unfold stc;rw[List.set_append_right _ _ (by rw[ed,h];omega),ed,h];congr 2;omega
theorem el{l:List (Bool×Int)}{A:Option Addr}{n c:Nat}{at_ asked:Int}:(stc l (Ia A n c) at_ asked).toArray.all (·.oneCell')=Ir:=by
 rw[Jh];intro v hv;simp only[List.mem_toArray,stc,J0,I7,JE,or_false]at hv;rcases hv with hv|rfl|rfl|rfl
 .exact Ds _ v hv
 all_goals rfl
theorem lC:(If.info? 93).map (·.size)=Ic 51:=by kernel_rfl
theorem bZ{l:List (Bool×Int)}(h:l.length=24){vH:Io}{at_ asked:Int}:(If.info? 93).map (·.size)=Ic (stc l vH at_ asked).toArray.size:=by rw[I8,dm h];exact lC
def bY:Array Io:=(stc (IF 24 (Ik,0)) (Ia Ih 0 0) 0 0).toArray
theorem stz{l:List (Bool×Int)}(h:l.length=24){vH:Io}{at_ asked:Int}:bY.size=(stc l vH at_ asked).toArray.size:=(show bY.size=51 from rfl).trans (by rw[I8,dm h])
theorem CQ(l:List (Bool×Int))(h24:l.length=24)(vH:Io)(H:List Int)(at_ asked:Int)(w:Im)(hH:Rd (Kd.int .i64) w vH H)(hm:H.length<=100000) :
  I9 If 91 #[IA (stc l vH at_ asked).toArray] w λe w'=>∃A c,e=Iv (IA (stc l (Ia A H.length c) at_ asked).toArray)/\RdT (Kd.int .i64) 2 w' (Ia A H.length c) H/\It w.heap.size w w':=by
 obtain⟨A,c,rfl,_,hC⟩:=hH;have H24:=MD h24;have HM:=MD hm;have HC:=MD hC;clear h24 hm hC;obtain⟨L,hL⟩:∃L,L=stc l (Ia A H.length c) at_ asked:=⟨_,rfl⟩;have HL:=MD hL;rw[<-hL];clear hL;go_enter Tryz.func91,Tryz.ntmps91;go_upto_region 1 with fail
 obtain⟨g,hg⟩:=MF w.heap.size;rw[hg];obtain⟨w1,hw1⟩:∃w1,w1=(w.alloc (Is L.toArray 93)).alloc (Is bY 93):=⟨_,rfl⟩;refine ar hw1.symm ?_;obtain⟨h2,h1,hb⟩:=dz (w:=w) (A:=Is L.toArray 93) (B:=Is bY 93) (w1:=w1) (by rw[hw1];exact Il _ _);rw[hg]at h1 h2;have c48:=(show w1.cell? ⟨g,48,Ih⟩=Ic (.slice A H.length c) by rw[aq h1,HL.1,show 48=48+0 from rfl,lh H24.1];rfl);have HB:=MD (show It w.heap.size w w1 from hb);have hlt:g<w1.heap.size:=aj h1;have HG:=MD hg;have H1:=MD h1;have H2:=MD h2;have HZ:=MD (show w1.heap.size=g+2 by rw[hw1,<-hg];simp);clear hw1 h1 h2 hb hg;go_upto_region 2 with(first
  |((with_reducible refine a6 (b:=.append) (xs:=#[.tmp 3,.tmp 5]) rfl ?_);refine mo rfl 35 (.tmp 3) (.tmp 5) rfl Lu jP w1.heap.size H A H.length c rfl rfl (Iu w1 _) (Kd.C_below HC.1 (ae HB.1 _)) HM.1 ?_;intro A1 c1 w2 hr hf;have HR:=MD hr;have HF:=MD hf;have H12:=MD ((hf.block g (by simp;have:=HZ.1;omega) (by have:=HZ.1;omega)).trans (aT H1.1 _));have H22:=MD ((hf.block (g+1) (by simp;have:=HZ.1;omega) (by have:=HZ.1;omega)).trans (aT H2.1 _));have d48:=(show w2.cell? ⟨g,48,Ih⟩=Ic (.slice A H.length c) by rw[aq H12.1,HL.1,show 48=48+0 from rfl,lh H24.1];rfl);have f48:=au H12.1 48;clear hr hf))
 obtain⟨w3,hw3⟩:∃w3,w3=w2.setCell ⟨g,48,Ih⟩ (Ia A1 H.length c1):=⟨_,rfl⟩;refine ar hw3.symm ?_;have h13:w3.heap[g]?=Ic (.cells (stc l (Ia A1 H.length c1) at_ asked).toArray 93 (0,0)):=by
  rw[hw3,aR H12.1,HL.1,show 48=48+0 from rfl,EB H24.1];rfl
 have hf3:Fr (λk=>k=g) w2 w3:=by rw[hw3];exact Fr.cell (S:=λj=>j=g) (p:=⟨g,48,Ih⟩) rfl _
 have H13:=MD h13;have H23:=MD ((hf3.block (g+1) (aj H22.1) (by omega)).trans H22.1);have HR3:=MD (HR.1.fr aC hf3 (λk cs fr e=>by subst e;rw[H12.1];simp));have HF3:=MD hf3;clear hw3 h13 hf3 d48 f48;go_upto_region 3 with(first
  |((with_reducible refine ai (N:=8) rfl ?_);refine II rfl 93 _ rfl g rfl 93 (stc l (Ia A1 H.length c1) at_ asked).toArray (0,0) _ H13.1 Jo rfl (bZ H24.1) ?_)
  |((with_reducible refine ap (t:=93) (p:=2) rfl ?_);refine an rfl 93 _ _ rfl (g+1) (stc l (Ia A1 H.length c1) at_ asked).toArray rfl rfl 93 bY H23.1 (bZ H24.1) (stz H24.1) el ?_;intro w4 h4 hf4;have H4:=MD h4;have HF4:=MD hf4;clear h4 hf4))
 have hbz:=(Il w1.heap.size w1);have h14:RdT (Kd.int .i64) 2 w4 (Ia A1 H.length c1) H:=HR3.1.fr aC HF4.1 (λk cs fr e=>by subst e;rw[H23.1];simp);have hbb:It w.heap.size w w4:=by
  refine Fr.below HB.1 (((Fr.of_below (S:=λk=>g<=k) (ae (Il _ _) (Is #[] 2))).trans (HF.1.mono λk _ e=>by subst e;have:=HZ.1;omega)).trans ((HF3.1.mono λk _ e=>by subst e;exact Iz _).trans (HF4.1.mono λk _ e=>by subst e;omega))) (λk hk hg=>by have:=HG.1;omega) HB.1.size
 exact IG (v:=IA (stc l (Ia A1 H.length c1) at_ asked).toArray) (IX rfl _ _ (g+1) 93 _ (0,0) _ rfl H4.1 Jo rfl (bZ H24.1)) rfl ⟨A1,c1,rfl,h14,hbb⟩
theorem EW(W:Im):(isAgg 90).run If W=.ok Ir W:=by kernel_rfl
theorem CX(W:Im):(sizeOf 90).run If W=.ok 2 W:=by kernel_rfl
theorem EP(l:List (Bool×Int))(i:Nat)(p:Bool×Int)(h:l[i]?=Ic p):((dE l).drop (i*2)).take 2=[Iy p.1,Ib Ie p.2]:=by
 obtain⟨q0,e0⟩:=Ip.1 (EQ l i p h);obtain⟨q1,e1⟩:=Ip.1 (F2 l i p h);rw[Jc q0,Jc q1,e0,e1];rfl
theorem pR(l:List (Bool×Int))(i:Nat)(p:Bool×Int)(hp:l[i]?=Ic p)(hl:l.length=24)(W:Im):(Instr.index 91 (IA (dE l).toArray) (Ib Ie (i:Int))).run If W=.ok (IA #[Iy p.1,Ib Ie p.2]) W:=by
 have h0:(0:Int)<=i:=by omega
 have h2:i<24:=by have:=(Ip.1 hp).1;omega
 have h1:(i:Int)<24:=by omega
 have he:=EP l i p hp;simp[Instr.index,asIntOf,I2 Tryz.underlying91,h0,h1,h2,part,EW,CX,Jf];exact he
theorem Gd:(If.info? 91).map (·.size)=Ic 48:=by kernel_rfl
def oL(f:List In)(l:List (Bool×Int))(n:Nat)(at_ asked:Int):Bool:=bi f&&decide (0<=at_)&&decide (at_<(f.length:Int))&&decide ((n:Int)<=16)&&decide (0<=asked)&&l.all (λp=>p.1||p.2==0)
theorem yA(f:List In)(Af:Option Addr)(cf:Nat)(l:List (Bool×Int))(h24:l.length=24)(A:Option Addr)(n c:Nat)(at_ asked:Int)(w:Im)(hG:Gl w)(hC:Kd.C kIn w Af f.length f)(hc:f.length<=cf)(hn:n<=5000) :
  I9 If 90 #[Ia Af f.length cf,IA (stc l (Ia A n c) at_ asked).toArray] w λe w'=>e=Iv (Iy (oL f l n at_ asked))/\It w.heap.size w w':=by
 obtain⟨r,hr⟩:=ME (oL f l n at_ asked);rw[<-hr];unfold oL at hr;have hmax:=Kd.C_max hC;obtain⟨L,hL⟩:∃L,L=stc l (Ia A n c) at_ asked:=⟨_,rfl⟩;obtain⟨w1,hw1⟩:∃w1,w1=w.alloc (Is L.toArray 93):=⟨_,rfl⟩;obtain⟨g,hg⟩:=MF w.heap.size;have h1:w1.heap[g]?=Ic (.cells L.toArray 93 (0,0)):=by rw[hw1,<-hg];exact Iu w _
 have hb1:It w.heap.size w w1:=by rw[hw1];exact ae (Il _ _) _
 have HR:=MD (eD Af cf f w1 (hG.below hb1) (Kd.C_below hC hb1) hc);have HHp:=MD (λW=>mC A n c W hn);rw[<-hL];have c48:=(show w1.cell? ⟨g,48,Ih⟩=Ic (.slice A n c) by rw[aq h1,hL,show 48=48+0 from rfl,lh h24];rfl);have c49:=(show w1.cell? ⟨g,49,Ih⟩=Ic (Ib Ie at_) by rw[aq h1,hL,show 49=48+1 from rfl,lh h24];rfl);have c50:=(show w1.cell? ⟨g,50,Ih⟩=Ic (Ib Ie asked) by rw[aq h1,hL,show 50=48+2 from rfl,lh h24];rfl);have hT:=(show((L.drop 0).take 48)=dE l by rw[hL];unfold stc;rw[List.drop_zero,Kx (by rw[ed,h24];decide),List.take_of_length_le (by rw[ed,h24];decide)]);have HL:=MD hT;have H24:=MD h24;have H1:=MD h1;have HB:=MD hb1;have HW1:=MD hw1;obtain⟨b,hb⟩:=ME (bi f);rw[<-hb]at hr HR;clear hG hC hc hL h24 h1 hb1 hb hT hw1;by_cases hbad:b=Ir/\0<=at_/\at_<(f.length:Int)/\(n:Int)<=16/\0<=asked
 .obtain⟨rfl,h2,h3,h4,h5⟩:=hbad
  rw[decide_eq_true h2,decide_eq_true h3,decide_eq_true h4,decide_eq_true h5]at hr;rw[decide_eq_true h4]at HHp;have HRr:=MD (show r=l.all (λp=>p.1||p.2==0)from hr);clear hr;have n2:¬at_<0:=by omega
  have n3:¬(f.length:Int)<=at_:=by omega
  have n5:¬asked<0:=by omega
  go_enter Tryz.func90,Tryz.ntmps90;go_upto_region 1 with fail
  refine ar HW1.1.symm ?_;have HG:=MD hg;clear hg HW1;go_upto_region 3 with(first
   |(go_at_call 47;refine HR.1.mono ?_;rintro e w2 ⟨rfl,hb⟩;have HB2:=MD (af HB.1 hb);have H2:=MD (ag H1.1 hb);have k48:=ak hb c48;have k49:=ak hb c49;have k50:=ak hb c50;clear hb)
   |(go_at_call 89;refine(HHp.1 _).mono ?_;rintro e w' ⟨rfl,rfl⟩))
  have HLd:=MD (λvs h=>cr (P:=If) H2.1 91 0 vs h _ Tryz.underlying91 rfl);clear n2 n3 n5 h2 h3 h4 h5 k48 k49 k50 c48 c49 c50 HR HHp;go_wp2_with (first
   |((with_reducible refine ai (N:=34) rfl ?_);refine av rfl 91 _ rfl ⟨g,0,Ih⟩ rfl _ (HLd.1 (dE l) (by rw[ed,H24.1];exact HL.1) (by rw[ed,H24.1];exact Gd)) ?_))
  go_loopw [35] (λc wr=>∃i:Nat,c=Ib Ie i/\aa (i<=24/\(∀(j:Nat) (p:Bool×Int),j<i->l[j]?=Ic p->(p.1||p.2==0)=Ir)/\It w.heap.size w wr)) (λc _=>24-(Jj c).toNat)
  case atStart=>exact⟨0,rfl,⟨⟨by omega,λj p h=>by omega,HB2.1⟩⟩⟩
  case round=>
   obtain⟨i,rfl,HS⟩:=hrel;by_cases hi:i<24
   .have hi':(i:Int)<24:=by omega
    obtain⟨p,hp⟩:∃p,l[i]?=Ic p:=⟨_,Ig (by have:=H24.1;omega)⟩;have hix:=pR l i p hp H24.1;have HP:=MD hp;have HI:=MD hi;clear hi hp;obtain⟨pb,pv⟩:=p;simp only at hix;by_cases hok:(pb||pv==0)=Ir
    .have HO:=MD hok
     cases pb with
     |true=>
      clear hok;go_wp2;go_roundw
      case rel=>exact⟨i+1,by go_num,⟨⟨by have:=HI.1;omega,λj q hj hq=>by
       by_cases e:j=i
       .subst e
        obtain rfl:=Ii (HP.1.symm.trans hq);rfl
       .exact HS.1.2.1 j q (by omega) hq,af HS.1.2.2 (ae (Il _ _) _)⟩⟩⟩
      case measure=>have:=HI.1;simp[Jj];omega
     |false=>
      have hv:pv=0:=by simpa using hok
      subst hv;clear hok;go_wp2;go_roundw
      case rel=>exact⟨i+1,by go_num,⟨⟨by have:=HI.1;omega,λj q hj hq=>by
       by_cases e:j=i
       .subst e
        obtain rfl:=Ii (HP.1.symm.trans hq);rfl
       .exact HS.1.2.1 j q (by omega) hq,af HS.1.2.2 (ae (Il _ _) _)⟩⟩⟩
      case measure=>have:=HI.1;simp[Jj];omega
    .obtain⟨rfl,hv⟩:pb=Ik/\pv≠0:=by
      cases pb with
      |true=>exact absurd rfl hok
      |false=>exact⟨rfl,by simpa using hok⟩
     have q:(pv != 0)=Ir:=by simp[hv]
     obtain rfl:r=Ik:=by
      rw[HRr.1,List.all_eq_false];exact⟨_,Iw HP.1,by simpa using hv⟩
     clear hok hv;go_wp2;go_ret;exact⟨rfl,af HS.1.2.2 (ae (Il _ _) _)⟩
   .obtain rfl:r=Ir:=by
     rw[HRr.1,Jd];intro p hp;obtain⟨j,hj⟩:=Kb hp;have hlt:=(Ip.1 hj).1;exact HS.1.2.1 j p (by have:=H24.1;omega) hj
    obtain rfl:i=24:=by have:=HS.1.1;omega
    clear hi;go_wp2;go_ret;exact⟨rfl,HS.1.2.2⟩
 .obtain rfl:r=Ik:=by
   cases r with
   |false=>rfl
   |true=>
    have hr':=hr.symm;simp only[Js,decide_eq_true_eq]at hr';obtain⟨⟨⟨⟨⟨h1,h2⟩,h3⟩,h4⟩,h5⟩,_⟩:=hr';exact absurd ⟨h1,h2,h3,h4,h5⟩ hbad
  clear hr;by_cases h1:b=Ik
  .subst h1
   clear hbad;go_enter Tryz.func90,Tryz.ntmps90;go_upto_region 1 with fail
   refine ar HW1.1.symm ?_;have HG:=MD hg;clear hg HW1;go_wp2_with (first
    |(go_at_call 47;refine HR.1.mono ?_;rintro e w2 ⟨rfl,hb⟩;have HB2:=MD (af HB.1 hb);have k48:=ak hb c48;have k49:=ak hb c49;have k50:=ak hb c50;clear hb)
    |(go_at_call 89;refine(HHp.1 _).mono ?_;rintro e w' ⟨rfl,rfl⟩))
   go_ret;exact⟨rfl,HB2.1⟩
  obtain rfl:b=Ir:=by cases b<;>simp_all
  clear h1;by_cases h2:at_<0
  .clear hbad
   go_enter Tryz.func90,Tryz.ntmps90;go_upto_region 1 with fail
   refine ar HW1.1.symm ?_;have HG:=MD hg;clear hg HW1;go_wp2_with (first
    |(go_at_call 47;refine HR.1.mono ?_;rintro e w2 ⟨rfl,hb⟩;have HB2:=MD (af HB.1 hb);have k48:=ak hb c48;have k49:=ak hb c49;have k50:=ak hb c50;clear hb)
    |(go_at_call 89;refine(HHp.1 _).mono ?_;rintro e w' ⟨rfl,rfl⟩))
   go_ret;exact⟨rfl,HB2.1⟩
  have h2':0<=at_:=by omega
  by_cases h3:(f.length:Int)<=at_
  .clear hbad
   go_enter Tryz.func90,Tryz.ntmps90;go_upto_region 1 with fail
   refine ar HW1.1.symm ?_;have HG:=MD hg;clear hg HW1;go_wp2_with (first
    |(go_at_call 47;refine HR.1.mono ?_;rintro e w2 ⟨rfl,hb⟩;have HB2:=MD (af HB.1 hb);have k48:=ak hb c48;have k49:=ak hb c49;have k50:=ak hb c50;clear hb)
    |(go_at_call 89;refine(HHp.1 _).mono ?_;rintro e w' ⟨rfl,rfl⟩))
   go_ret;exact⟨rfl,HB2.1⟩
  have h3':at_<(f.length:Int):=by omega
  by_cases h4:(n:Int)<=16
  .rw[decide_eq_true h4]at HHp
   have h5:asked<0:=by
    rcases Int.lt_or_le asked 0 with h|h
    .exact h
    .exact absurd ⟨rfl,h2',h3',h4,h⟩ hbad
   clear hbad h4;go_enter Tryz.func90,Tryz.ntmps90;go_upto_region 1 with fail
   refine ar HW1.1.symm ?_;have HG:=MD hg;clear hg HW1;go_wp2_with (first
    |(go_at_call 47;refine HR.1.mono ?_;rintro e w2 ⟨rfl,hb⟩;have HB2:=MD (af HB.1 hb);have k48:=ak hb c48;have k49:=ak hb c49;have k50:=ak hb c50;clear hb)
    |(go_at_call 89;refine(HHp.1 _).mono ?_;rintro e w' ⟨rfl,rfl⟩))
   go_ret;exact⟨rfl,HB2.1⟩
  .rw[decide_eq_false h4]at HHp
   clear hbad h4;go_enter Tryz.func90,Tryz.ntmps90;go_upto_region 1 with fail
   refine ar HW1.1.symm ?_;have HG:=MD hg;clear hg HW1;go_wp2_with (first
    |(go_at_call 47;refine HR.1.mono ?_;rintro e w2 ⟨rfl,hb⟩;have HB2:=MD (af HB.1 hb);have k48:=ak hb c48;have k49:=ak hb c49;have k50:=ak hb c50;clear hb)
    |(go_at_call 89;refine(HHp.1 _).mono ?_;rintro e w' ⟨rfl,rfl⟩))
   go_ret;exact⟨rfl,HB2.1⟩
structure St where
 l:List (Bool×Int)
 h:List Int
 at_:Int
 asked:Int
structure Oc where
 how:Int
 val:Int
 h:List Int
def St.pw(s:St):Pw:=⟨s.l,s.h,s.at_,s.asked,[],0,0⟩
def stZ:St:=⟨IF 24 (Ik,0),[],0,0⟩
def ms(s:St)(x:In):Bool:=(ce x).all (λi=>(s.l.getD i.toNat (Ik,0)).1)
def eG(f:List In)(s:St)(ask:List Int):St×List Ev×Oc×Int:=
 if oL f s.l s.h.length s.at_ s.asked=Ir then
  if ms s (f.getD s.at_.toNat In.zero)=Ir then
   let p:=doP (f.getD s.at_.toNat In.zero) ask s.pw
   (⟨p.l,p.h,p.at_,p.asked⟩,p.evs,⟨p.how,p.val,if p.how=1 then p.h else []⟩,0)
  else(s,[],⟨2,0,[]⟩,0)
 else(stZ,[],⟨0,0,[]⟩,1)
def Gv(r:St×List Ev×Oc×Int)(w:Im)(e:Ending)(w':Im):Prop:=
 ∃vH vE vO,e=Iv (IR #[IA (stc r.1.l vH r.1.at_ r.1.asked).toArray,vE,IA #[Ib Ie r.2.2.1.how,Ib Ie r.2.2.1.val,vO],Ib Ie r.2.2.2])/\
  RdT (Kd.int .i64) 2 w' vH r.1.h/\RdT kEv 105 w' vE r.2.1/\RdT (Kd.int .i64) 2 w' vO r.2.2.1.h/\It w.heap.size w w'
def wkZ:List Io:=Wk.cells ⟨IF 24 (Ik,0),Ia Ih 0 0,0,0,⟨0,0,0,0,0,0⟩,Ia Ih 0 0,Ia Ih 0 0,0,0⟩
theorem Aa:wkZ.length=61:=rfl
theorem D6(l:List (Bool×Int))(h:l.length=24)(A:Option Addr)(n c:Nat)(at_ asked:Int)(x:In)(B:Option Addr)(m d:Nat) :
  If.built 197 [(0,IA (stc l (Ia A n c) at_ asked).toArray),(1,IA x.cells),(2,Ia B m d)]=Ic (Wk.cells ⟨l,Ia A n c,at_,asked,x,Ia B m d,Ia Ih 0 0,0,0⟩).toArray:=by
 have h1:If.built 197 [(0,IA (stc l (Ia A n c) at_ asked).toArray),(1,IA x.cells),(2,Ia B m d)]=Ll (#[(0,51),(51,6),(57,1),(58,1),(59,1),(60,1)][·]?) wkZ.toArray [(0,IA (stc l (Ia A n c) at_ asked).toArray),(1,IA x.cells),(2,Ia B m d)]:=by rfl
 rw[h1,jq _ _ 0 0 51 _ _ rfl (dm h) (by rw[Aa];decide)];have h2:=dm h (vH:=Ia A n c) (at_:=at_) (asked:=asked);obtain⟨L,hL⟩:∃L,L=stc l (Ia A n c) at_ asked:=⟨_,rfl⟩;rw[<-hL]at h2 ⊢;rw[show In.cells x=([Ib Ie x.op,Ib Ie x.d,Ib Ie x.a,Ib Ie x.b,Ib Ie x.n,Ib Ie x.jt]:List Io).toArray from rfl,jq _ _ 1 51 6 _ _ rfl rfl (by simp[h2,Aa])];have h4:wkZ.drop 57=[Ia Ih 0 0,Ia Ih 0 0,Ib Ie 0,Ib Ie 0]:=rfl;have e1:(wkZ.take 0++L++wkZ.drop (0+L.length)).take 51=L:=by simp[h2]
 have e2:(wkZ.take 0++L++wkZ.drop (0+L.length)).drop (51+6)=wkZ.drop 57:=by
  rw[List.take_zero,Ka,Mx,h2,Ju (by rw[h2];decide),Ka,List.drop_drop]
 simp only[Jz,Lj];rw[show(51+(0+1+1+1+1+1+1))=51+6 from rfl,e1,e2,h4];have h3:(stc l (Ia A n c) at_ asked)++[Ib .i64 x.op,Ib Ie x.d,Ib Ie x.a,Ib Ie x.b,Ib Ie x.n,Ib Ie x.jt,Ia B m d,Ia Ih 0 0,Ib Ie 0,Ib Ie 0]=Wk.cells ⟨l,Ia A n c,at_,asked,x,Ia B m d,Ia Ih 0 0,0,0⟩:=by unfold stc Wk.cells Wk.hi;simp
 rw[<-h3,<-hL];simp[Ll,h2,show(Ia B m d).cells=#[Ia B m d]from rfl,List.set_append]
theorem CF{W:Im}{g:Nat}{k:Wk}(h:cD W g k):(Le 93 ⟨g,0,Ih⟩).run If W=.ok (IA (stc k.l k.vH k.at_ k.asked).toArray) W:=by
 refine cr h.1 93 0 (stc k.l k.vH k.at_ k.asked) ?_ _ Jo rfl (by rw[dm h.2];exact lC);have h1:k.cells=stc k.l k.vH k.at_ k.asked++k.hi.drop 3:=by unfold Wk.cells stc Wk.hi;simp
 rw[h1,List.drop_zero,Kx (Iz _),Kh]
theorem GE{l:List (Bool×Int)}(h:l.length=24){vH:Io}{at_ asked:Int}{i:Nat}(hi:i<24):(stc l vH at_ asked)[i*2]?=Ic (.bool (l.getD i (Ik,0)).1):=by
 unfold stc;rw[Jg (by rw[ed,h];omega)];refine EQ _ _ _ ?_;rw[Ij,Ig (by omega)];rfl
theorem IsP.below{W W':Im}{g:Nat}{x:In}{vA:Io}{p:Pw}(h:IsP W g x vA p)(hb:It W.heap.size W W'):IsP W' g x vA p:=by
 obtain⟨vH,vE,h1,h2,h3⟩:=h;exact⟨vH,vE,h1.below hb,h2.below hb,h3.below hb⟩
theorem A7(x:In)(ask:List Int)(p:Pw):(doP x ask p).h.length=p.h.length:=by
 have hs:∀d v how,(p.setP d v how).h=p.h:=λd v how=>by unfold Pw.setP;split<;>rfl
 have hn:∀(q:Pw) n,(q.next n).h=q.h:=λq n=>by unfold Pw.next;split<;>rfl
 have hc:∀a,(p.callP x ask a).h=p.h:=λa=>by unfold Pw.callP;split<;>rfl
 have hst:∀a b,(p.storeP a b).h.length=p.h.length:=λa b=>by
  unfold Pw.storeP kC;by_cases hi:hIn p.h.length a=Ir
  .rw[if_pos hi];simp
  .rw[if_neg hi];simp
 unfold doP;split
 .rw[hn,hs]
 .split
  .rw[hn,hst]
  .split
   .rw[hn,hc]
   .split
    .rfl
    .split
     .rw[hn]
     .split
      .rw[hn]
      .split
       .rw[hn,hs]
       .rw[hn];rfl
theorem Fr.new{W W':Im}{S:Nat->Prop}{o:Obj}(h:Fr (λk=>k=W.heap.size) (W.alloc o) W'):Fr S W W':=
 ⟨h.os,h.tape,h.output,IT (by simp) h.size,λk hk _=>(h.block k (by simp;omega) (by omega)).trans (by have:=Iu W o;exact(ae (Il W.heap.size W) o).block k hk)⟩
theorem jo:(If.info? 59).map (·.size)=Ic 3:=by kernel_rfl
theorem EA(f:List In)(Af:Option Addr)(cf:Nat)(s:St)(h24:s.l.length=24)(vH:Io)(ask:List Int)(vA:Io)(w:Im)(hG:Gl w)(hC:Kd.C kIn w Af f.length f)(hc:f.length<=cf)(hH:Rd (Kd.int .i64) w vH s.h)(hA:RdT (Kd.int .i64) 2 w vA ask)(hn:s.h.length<=5000)(hl:ask.length<=100000) :
  I9 If 67 #[Ia Af f.length cf,IA (stc s.l vH s.at_ s.asked).toArray,vA] w λe w'=>Gv (eG f s ask) w e w':=by
 obtain⟨AH,cH,rfl,hcH,hCH⟩:=hH;obtain⟨AA,cA,rfl,hcA,hCA,htA⟩:=hA;have hHr:Rd (Kd.int .i64) w (Ia AH s.h.length cH) s.h:=⟨AH,cH,rfl,hcH,hCH⟩;have hAr:RdT (Kd.int .i64) 2 w (Ia AA ask.length cA) ask:=⟨AA,cA,rfl,hcA,hCA,htA⟩;obtain⟨r,hr⟩:=ME (eG f s ask);rw[<-hr];unfold eG at hr;obtain⟨L,hL⟩:∃L,L=stc s.l (Ia AH s.h.length cH) s.at_ s.asked:=⟨_,rfl⟩;have hLl:L.length=51:=by rw[hL];exact dm h24
 have hL1:L.toArray.all (·.oneCell')=Ir:=by rw[hL];exact el
 have hL2:L[49]?=Ic (Ib Ie s.at_):=by rw[hL,show 49=48+1 from rfl,lh h24];rfl
 obtain⟨w1,hw1⟩:∃w1,w1=((w.alloc (Is L.toArray 93)).alloc (Is bY 93)).alloc (Is #[Ib Ie 0,Ib Ie 0,Ia Ih 0 0] 59):=⟨_,rfl⟩;obtain⟨B,hB⟩:=MF w.heap.size;obtain⟨h1,h2,h3,hb1⟩:=dh (w:=w) (w1:=w1) (A:=Is L.toArray 93) (B:=Is bY 93) (C:=Is #[Ib Ie 0,Ib Ie 0,Ia Ih 0 0] 59) (by rw[hw1];exact Il _ _);rw[hB]at h1 h2 h3;rw[show B+2=B+1+1 from rfl]at h3;obtain⟨b,hb⟩:=ME (oL f s.l s.h.length s.at_ s.asked);have hR:=yA f Af cf s.l h24 AH s.h.length cH s.at_ s.asked w1 (hG.below hb1) (Kd.C_below hC hb1) hc hn;rw[<-hL,<-hb]at hR;rw[<-hb]at hr;have HG:=MD (hG.below hb1);have HC:=MD (Kd.C_below hC hb1);have HHr:=MD (Rd.below hHr hb1);have HAr:=MD (RdT.below hAr hb1);have HRt:=MD hR;have HRr:=MD hr;have HW1:=MD hw1;have H1:=MD h1;have H2:=MD h2;have H3:=MD h3;have HB1:=MD hb1;have HBe:=MD hB;have HL:=MD hL;have HLl:=MD hLl;have HL1:=MD hL1;have HL2:=MD hL2;have H24:=MD h24;have HHn:=MD hn;have HAl:=MD hl;have HBo:=MD hb;have HBd93:=MD (show If.built 93 []=Ic bY from rfl);rw[<-hL];clear hG hC hc hHr hAr hR hr hw1 h1 h2 h3 hb1 hL hLl hL1 hL2 h24 hn hl hb hcH hCH hcA hCA htA;by_cases hbt:b=Ir
 .subst hbt
  rw[if_pos rfl]at HRr;have hok:=HBo.1.symm;unfold oL at hok;simp only[Js,decide_eq_true_eq]at hok;obtain⟨⟨⟨⟨⟨k1,k2⟩,k3⟩,k4⟩,k5⟩,k6⟩:=hok;obtain⟨n,hn⟩:∃n:Nat,s.at_=n:=⟨s.at_.toNat,by omega⟩;have hnl:n<f.length:=by omega
  obtain⟨x,hx⟩:∃x,f[n]?=Ic x:=⟨_,Ig hnl⟩;have hok:=(bu k1).ok n x hx;have hf200:=(bu k1).len;have hgx:f.getD s.at_.toNat In.zero=x:=by rw[hn,IC,Ij,hx];rfl
  rw[hgx]at HRr;obtain⟨ad,cs,rfl,hK,_⟩:=ba (P:=If) HC.1 (Il _ _) n hnl x hx 49 I6 rfl bU;obtain rfl:cs=[Ib Ie x.op,Ib Ie x.d,Ib Ie x.a,Ib Ie x.b,Ib Ie x.n,Ib Ie x.jt]:=hK;have hnl':(n:Int)<(f.length:Int):=by omega
  have HOk:=MD hok;have HF200:=MD hf200;have HN:=MD hn;have HX:=MD hx;have HNl:=MD hnl;have HK:=MD (IE k4 k5);clear k1 k2 k3 k4 k5 k6 hok hf200 hgx hn hx hnl;go_enter Tryz.func67,Tryz.ntmps67;go_upto_region 1 with fail
  refine ar HW1.1.symm ?_;clear hB HW1;go_upto_region 3 with(first
   |((with_reducible refine ai (N:=15) rfl ?_);refine II rfl 93 _ rfl B rfl 93 L.toArray (0,0) _ H1.1 Jo rfl (by rw[I8,HLl.1];exact lC) ?_)
   |(go_at_call 90;refine HRt.1.mono ?_;rintro e w2 ⟨rfl,hb⟩;have HB2:=MD hb;have H12:=MD (ag H1.1 hb);have H22:=MD (ag H2.1 hb);have H32:=MD (ag H3.1 hb);clear hb))
  have HLd:=MD (λ(W:Im) (hb:It w2.heap.size w2 W)=>aY (P:=If) (ag H12.1 hb) Jo rfl (by rw[I8,HLl.1];exact lC));have HC49:=MD (show w2.cell? ⟨B,49,Ih⟩=Ic (Ib Ie (n:Int)) by rw[aq H12.1,HL2.1,HN.1]);have HA3:=MD (show ∀W,(isAgg 3).run If W=.ok Ik W from λW=>by kernel_rfl);have HLx:=MD (λ(W:Im) (hb:It w2.heap.size w2 W)=>show(Le 49 (ad.add (n*6))).run If W=.ok (IA x.cells) W by
   obtain⟨a3,c3,q1,q2,q3⟩:=ba (P:=If) HC.1 (af HB2.1 hb) n HNl.1 x HX.1 49 I6 rfl bU;injection q1 with q1
   subst q1;obtain rfl:c3=[Ib Ie x.op,Ib Ie x.d,Ib Ie x.a,Ib Ie x.b,Ib Ie x.n,Ib Ie x.jt]:=q2;exact q3)
  have hOwn:=λ(W:Im) (hb:It w2.heap.size w2 W)=>CQ s.l H24.1 (Ia AH s.h.length cH) s.h s.at_ s.asked W (HHr.1.below (af HB2.1 hb)) (by have:=HHn.1;omega);rw[<-HL.1]at hOwn;have HOwn:=MD hOwn;clear hOwn;refine bm (σ:=(Option Addr×Nat)×Nat) [1,9] (λq=>[(20,IA L.toArray),(21,IA (stc s.l (Ia q.1.1 s.h.length q.1.2) s.at_ s.asked).toArray),(22,Ia (Ic ad) f.length cf),(23,Iq (Ic ⟨B,49,Ih⟩)),(24,Ib Ie (n:Int)),(25,Iq (Ic (ad.add (n*6)))),(26,IA x.cells),(27,Ia AA ask.length cA),(28,IA (Wk.cells (s.pw.wk x (Ia q.1.1 s.h.length q.1.2) (Ia AA ask.length cA) (Ia Ih 0 0))).toArray),(29,Iq (Ic ⟨q.2,0,Ih⟩)),(10,Iq (Ic ⟨q.2,0,Ih⟩))])
   (λbs q W=>It w2.heap.size w2 W/\(bs.getD 0 Ik=Ir->RdT (Kd.int .i64) 2 W (Ia q.1.1 s.h.length q.1.2) s.h)/\(bs.getD 1 Ik=Ir->cD W q.2 (s.pw.wk x (Ia q.1.1 s.h.length q.1.2) (Ia AA ask.length cA) (Ia Ih 0 0))/\w2.heap.size<=q.2)) ((Ih,0),0) (by kernel_rfl) (by kernel_rfl) (by kernel_rfl) (λ_=>by kernel_rfl) ?_
  intro aF haF;simp only[bk,KY,IP,IZ,IY]at haF;subst haF;refine⟨?_,?_,⟨aA (Il _ _),λe=>Ix e,λe=>Ix e⟩,?_⟩
  .intro j o ho hct s_1 W bs hlen hok hI
   rcases j with _|_|_|_|_|_|_|_|_|_|_|j
   all_goals first|exact absurd hct (by decide)|(obtain rfl:=Ii ho)|exact absurd (IB.1 ho).1 (by simp)
   .exact ab rfl (ao rfl rfl (HLd.1 W hI.1)) ⟨rfl,hI⟩
   .exact ab rfl (by go_simp) ⟨rfl,hI⟩
   .exact ab rfl (by go_simp) ⟨rfl,hI⟩
   .exact ab rfl (ao rfl rfl (aH (HA3.1 W) (ak hI.1 HC49.1))) ⟨rfl,hI⟩
   .exact ab rfl (by go_simp) ⟨rfl,hI⟩
   .exact ab rfl (ao rfl rfl (HLx.1 W hI.1)) ⟨rfl,hI⟩
   .exact ab rfl (by go_simp) ⟨rfl,hI⟩
   .exact ab rfl (kE 197 _ rfl [(0,IA (stc s.l (Ia s_1.1.1 s.h.length s_1.1.2) s.at_ s.asked).toArray),(1,IA x.cells),(2,Ia AA ask.length cA)] _ rfl (D6 _ H24.1 _ _ _ _ _ _ _ _ _)) ⟨rfl,hI⟩
   .exact ab rfl (by go_simp) ⟨rfl,hI⟩
  .intro k j o hk ho s_1 W bs hlen hok hI
   rcases k with _|_|k
   all_goals first|(obtain rfl:=Ii hk;obtain rfl:=Ii ho)|exact absurd hk (by simp)
   .obtain⟨b0,b1,rfl⟩:=it hlen
    obtain rfl:=okS hok 0 rfl rfl;obtain rfl:=okF hok 1 rfl rfl rfl (by kernel_rfl);refine aN rfl Tryz.func91 (by kernel_rfl) rfl #[IA L.toArray] rfl rfl ((HOwn.1 W hI.1).mono λe w' h=>?_);obtain⟨A1,c1,h1,h2,h3⟩:=h;exact⟨_,h1,((A1,c1),s_1.2),[(21,IA (stc s.l (Ia A1 s.h.length c1) s.at_ s.asked).toArray),(28,IA (Wk.cells (s.pw.wk x (Ia A1 s.h.length c1) (Ia AA ask.length cA) (Ia Ih 0 0))).toArray)],rfl,rfl,by kernel_rfl,⟨af hI.1 h3,λ_=>h2,λe=>Ix e⟩⟩
   .obtain⟨b0,b1,rfl⟩:=it hlen
    obtain rfl:=okS hok 1 rfl rfl;obtain rfl:=okT hok 0 rfl rfl rfl (by kernel_rfl);exact ab (v:=Iq (Ic ⟨W.heap.size,0,Ih⟩)) (w':=W.alloc (Is (Wk.cells (s.pw.wk x (Ia s_1.1.1 s.h.length s_1.1.2) (Ia AA ask.length cA) (Ia Ih 0 0))).toArray 197)) rfl (by go_simp) ⟨(s_1.1,W.heap.size),[(29,Iq (Ic ⟨W.heap.size,0,Ih⟩)),(10,Iq (Ic ⟨W.heap.size,0,Ih⟩))],rfl,rfl,by kernel_rfl,⟨af hI.1 (ae (Il _ _) _),λ_=>(hI.2.1 rfl).below (ae (Il _ _) _),λ_=>⟨⟨Iu W _,H24.1⟩,hI.1.size⟩⟩⟩
  .intro q W hI
   obtain⟨hb3,hr3,hk3⟩:=hI;have hr3:=hr3 rfl;obtain⟨hk3,hg3⟩:=hk3 rfl;obtain⟨⟨A1,c1⟩,g⟩:=q;dsimp only at hr3 hk3 hg3 ⊢;obtain⟨w3,rfl⟩:=ME W;have hgB:B+1+1<g:=by have:=aj H32.1;omega
   have HB3:=MD (af HB1.1 (af HB2.1 hb3));have HUse:=MD (DA x w3 (HG.1.below (af HB2.1 hb3)));have HAr3:=MD (HAr.1.below (af HB2.1 hb3));have HX3:=MD (Gy hk3);have HGn:=MD hgB;have HP3:=MD (show IsP w3 g x (Ia AA ask.length cA) s.pw from⟨_,_,hk3,hr3,RdT.nil _ _ _⟩);have H13:=MD (ag H12.1 hb3);have H23:=MD (ag H22.1 hb3);have H33:=MD (ag H32.1 hb3);have HK3:=MD hk3;have HR3:=MD hr3;clear hb3 hr3 hk3 hg3 hgB HOwn HLx HLd HC49 HRt H1 H2 H3 H12 H22 H32;go_upto_region 5 with(first
    |((with_reducible refine ai (N:=33) rfl ?_);refine av rfl 49 _ rfl ⟨g,51,Ih⟩ rfl _ HX3.1 ?_)
    |(go_at_call 56;refine HUse.1.mono ?_;rintro e w4 ⟨vU,rfl,⟨AU,cU,rfl,hcU,hCU⟩,hb4⟩;have HCU:=MD hCU;have HB4:=MD hb4;clear hCU hb4 hcU))
   have HWs:=MD (CF HK3.1);have hu3:((ce x).length:Int)<=3:=by have:=mP x;omega
   clear hnl' HX3 HUse;go_loopw [36] (λj wr=>∃k:Nat,j=Ib Ie k/\aa (k<=(ce x).length/\It w4.heap.size w4 wr/\∀(i:Nat) (l:Int),i<k->(ce x)[i]?=Ic l->(s.l.getD l.toNat (Ik,0)).1=Ir)) (λj _=>(ce x).length-(Jj j).toNat)
   case atStart=>exact⟨0,rfl,⟨⟨ID _,Il _ _,λi l h=>absurd h (LG i)⟩⟩⟩
   case round=>
    obtain⟨k,rfl,HL5⟩:=hrel;obtain⟨hk,hb5,hall⟩:=HL5.1;by_cases hkl:k<(ce x).length
    .have hkl':(k:Int)<((ce x).length:Int):=by omega
     obtain⟨l,hl⟩:∃l,(ce x)[k]?=Ic l:=⟨_,Ig hkl⟩;obtain⟨l1,l2⟩:=pc HOk.1 l (Iw hl);obtain⟨m,rfl⟩:∃m:Nat,l=m:=⟨l.toNat,by omega⟩;obtain⟨adU,csU,eU,_,hKU,hcU⟩:=b_ (Kd.C_below HCU.1 hb5) k hkl _ hl;subst eU;obtain rfl:csU=[Ib Ie (m:Int)]:=hKU;have vU:=hcU 0 _ rfl;rw[show k*(Kd.int .i64).sz+0=k from JQ k]at vU;obtain⟨bb,hbb⟩:=ME ((s.l.getD m (Ik,0)).1);have vB:=(show wr.cell? ⟨B,m*2,Ih⟩=Ic (.bool bb) by rw[aq (ag (ag H13.1 HB4.1) hb5),HL.1,GE H24.1 (by omega),hbb]);have HB5:=MD hb5;have HAll:=MD hall;have HLx:=MD hl;have HKl:=MD hkl;have HBb:=MD hbb;clear hk hb5 hall HL5 hl hcU hkl hbb;by_cases ht:bb=Ir
     .subst ht
      go_wp2;go_roundw
      case rel=>exact⟨k+1,by go_num,⟨⟨HKl.1,HB5.1,λi l hi hl=>by
       by_cases e:i=k
       .subst e
        obtain rfl:=Ii (HLx.1.symm.trans hl);rw[IC];exact HBb.1.symm
       .exact HAll.1 i l (by omega) hl⟩⟩⟩
      case measure=>have:=HKl.1;simp[Jj];omega
     .obtain rfl:bb=Ik:=by cases bb<;>simp_all
      clear ht;have H26:=MD (ag (ag H23.1 HB4.1) HB5.1);have H36:=MD (ag (ag H33.1 HB4.1) HB5.1);have HWk6:=MD ((HK3.1.below HB4.1).below HB5.1);have HW6:=MD (CF HWk6.1);go_wp2_with (first
       |((with_reducible refine ai (N:=49) rfl ?_);refine av rfl 93 _ rfl ⟨g,0,Ih⟩ rfl _ HW6.1 ?_)
       |((with_reducible refine ap (t:=93) (p:=6) rfl ?_);refine an rfl 93 _ _ rfl (B+1) (stc s.l (Ia A1 s.h.length c1) s.at_ s.asked).toArray rfl rfl 93 bY H26.1 (bZ H24.1) (stz H24.1) el ?_;intro w7 h27 hf7;have H27:=MD h27;have H37:=MD ((hf7.block (B+1+1) (aj H36.1) (by omega)).trans H36.1);have HF7:=MD hf7;clear h27 hf7)
       |((with_reducible refine ap (t:=59) (p:=8) rfl ?_);refine an rfl 59 _ _ rfl (B+1+1) #[Ib Ie 2,Ib Ie 0,Ia Ih 0 0] rfl rfl 59 #[Ib Ie 0,Ib Ie 0,Ia Ih 0 0] H37.1 jo rfl (by simp[IH]) ?_;intro w8 h38 hf8;have H38:=MD h38;have H28:=MD ((hf8.block (B+1) (aj H27.1) (by omega)).trans H27.1);have HF8:=MD hf8;clear h38 hf8))
      have hno:ms s x=Ik:=by
       unfold ms;rw[List.all_eq_false];refine⟨_,Iw HLx.1,?_⟩;rw[IC,<-HBb.1];decide
      rw[hno,if_neg Mp]at HRr;rw[HRr.1];have hf68:Fr (λk=>k=B+1\/k=B+1+1) wr w8:=(HF7.1.mono λk _ e=>.inl e).trans (HF8.1.mono λk _ e=>.inr e);have hh:RdT (Kd.int .i64) 2 w8 (Ia A1 s.h.length c1) s.h:=by
       exact((HR3.1.below HB4.1).below HB5.1).fr aC hf68 (λk cs fr e=>by
        rcases e with rfl|rfl
        .rw[H26.1];simp
        .rw[H36.1];simp)
      exact IG (v:=IR #[IA (stc s.l (Ia A1 s.h.length c1) s.at_ s.asked).toArray,Ia Ih 0 0,IA #[Ib Ie 2,Ib Ie 0,Ia Ih 0 0],Ib Ie 0]) (aD (rs:=[.cell 6 93,.tmp 7,.cell 8 59,.tmp 9]) rfl (by simp) (.cell (B+1) 93 _ (0,0) _ rfl H28.1 Jo rfl (bZ H24.1) (.tmp (.cell (B+1+1) 59 #[Ib Ie 2,Ib Ie 0,Ia Ih 0 0] (0,0) _ rfl H38.1 L8 rfl jo (.tmp .nil))))) rfl ⟨_,_,_,rfl,hh,RdT.nil _ _ _,RdT.nil _ _ _,Fr.below (af (af HB3.1 HB4.1) HB5.1) hf68 (λk hk e=>by have:=HBe.1;omega) (af (af HB3.1 HB4.1) HB5.1).size⟩
    .obtain rfl:k=(ce x).length:=by omega
     have hok:ms s x=Ir:=by
      unfold ms;rw[Jd];intro l hl;obtain⟨i,hi⟩:=Kb hl;exact hall i l (Ip.1 hi).1 hi
     rw[hok,if_pos rfl]at HRr;obtain⟨p1,hp1⟩:=ME (doP x ask s.pw);have HPl:=MD (show p1.h.length<=100000 by rw[hp1];have:=A7 x ask s.pw;have:=HHn.1;show _<=_;have h:s.pw.h.length=s.h.length:=rfl;omega);have HRr2:=MD (show r=(⟨p1.l,p1.h,p1.at_,p1.asked⟩,p1.evs,⟨p1.how,p1.val,if p1.how=1 then p1.h else []⟩,0) by rw[HRr.1,hp1]);have hDo:=Ey g x f.length HOk.1 ask (Ia AA ask.length cA) s.pw wr ((HP3.1.below HB4.1).below hb5) ((HAr3.1.below HB4.1).below hb5) HK.1.2 HAl.1 ⟨by show 0<=s.at_;have:=HN.1;omega,by show s.at_<=1000;have:=HN.1;have:=HNl.1;have:=HF200.1;omega⟩ HHn.1 rfl;rw[<-hp1]at hDo;have HDo:=MD hDo;have HB5:=MD (af (af HB3.1 HB4.1) hb5);have H26:=MD (ag (ag H23.1 HB4.1) hb5);have H36:=MD (ag (ag H33.1 HB4.1) hb5);clear hk hkl hb5 hall HL5 hok hp1 hDo HRr HP3 HK3 HR3 HAr3 H13 H23 H33 HWs HCU HBo HL2 hu3;go_upto_region 11 with(first
      |(go_at_call 92;refine HDo.1.mono ?_;rintro e w5 ⟨rfl,⟨vH2,vE2,hw5,hH5,hE5⟩,hf5⟩;obtain⟨A2,c2,rfl,z1⟩:=hH5;obtain⟨A4,c4,rfl,z2⟩:=hE5;have HWk5:=MD hw5;have HH5:=MD (show RdT (Kd.int .i64) 2 w5 (Ia A2 p1.h.length c2) p1.h from⟨A2,c2,rfl,z1⟩);have HE5:=MD (show RdT kEv 105 w5 (Ia A4 p1.evs.length c4) p1.evs from⟨A4,c4,rfl,z2⟩);have HF5:=MD hf5;clear hw5 hf5 z1 z2))
     have HB6:=MD (show It w.heap.size w w5 from Fr.below HB5.1 HF5.1 (λk hk e=>by subst e;have:=HGn.1;have:=HBe.1;omega) HB5.1.size);have H25:=MD ((HF5.1.block (B+1) (aj H26.1) (by have:=HGn.1;omega)).trans H26.1);have H35:=MD ((HF5.1.block (B+1+1) (aj H36.1) (by have:=HGn.1;omega)).trans H36.1);have C59:=MD (show w5.cell? ⟨g,59,Ih⟩=Ic (Ib Ie p1.how) by rw[show 59=48+11 from rfl,HWk5.1.cell];rfl);have C60:=MD (show w5.cell? ⟨g,60,Ih⟩=Ic (Ib Ie p1.val) by rw[show 60=48+12 from rfl,HWk5.1.cell];rfl);have HA2:=MD (show ∀W,(isAgg 2).run If W=.ok Ik W from λW=>by kernel_rfl);have HBd59:=MD (show ∀a b,If.built 59 [(0,Ib Ie a),(1,Ib Ie b)]=Ic #[Ib Ie a,Ib Ie b,Ia Ih 0 0]from λ_ _=>rfl);clear HDo H26 H36 HF5 HB5;refine bm (σ:=Nat) [9,10] (λq=>[(54,Iq (Ic ⟨g,0,Ih⟩)),(55,Iq (Ic ⟨g,0,Ih⟩)),(56,Iq (Ic ⟨g,59,Ih⟩)),(57,Ib Ie p1.how),(58,Iq (Ic ⟨g,0,Ih⟩)),(59,Iq (Ic ⟨g,0,Ih⟩)),(60,Iq (Ic ⟨g,60,Ih⟩)),(61,Ib Ie p1.val),(62,IA #[Ib Ie p1.how,Ib Ie p1.val,Ia Ih 0 0]),(13,Iq (Ic ⟨q,0,Ih⟩))])
      (λbs q W=>It w5.heap.size w5 W/\(bs.getD 0 Ik=Ir->w5.heap.size<=q/\W.heap[q]?=Ic (.cells (if bs.getD 1 Ik=Ir then #[Ib Ie p1.how,Ib Ie p1.val,Ia Ih 0 0]else #[Ib Ie 0,Ib Ie 0,Ia Ih 0 0]) 59 (0,0)))) 0 (by kernel_rfl) (by kernel_rfl) (by kernel_rfl) (λ_=>by kernel_rfl) ?_
     intro aF haF;simp only[bk,KY,IP,IZ,IY]at haF;subst haF;refine⟨?_,?_,⟨aA (Il _ _),λe=>Ix e⟩,?_⟩
     .intro j o ho hct s_1 W bs hlen hok hI
      rcases j with _|_|_|_|_|_|_|_|_|_|_|j
      all_goals first|exact absurd hct (by decide)|(obtain rfl:=Ii ho)|exact absurd (IB.1 ho).1 (by simp)
      .exact ab rfl (by go_simp) ⟨rfl,hI⟩
      .exact ab rfl (by go_simp) ⟨rfl,hI⟩
      .exact ab rfl (by go_simp) ⟨rfl,hI⟩
      .exact ab rfl (ao rfl rfl (aH (HA3.1 W) (ak hI.1 C59.1))) ⟨rfl,hI⟩
      .exact ab rfl (by go_simp) ⟨rfl,hI⟩
      .exact ab rfl (by go_simp) ⟨rfl,hI⟩
      .exact ab rfl (by go_simp) ⟨rfl,hI⟩
      .exact ab rfl (ao rfl rfl (aH (HA2.1 W) (ak hI.1 C60.1))) ⟨rfl,hI⟩
      .exact ab rfl (kE 59 _ rfl [(0,Ib Ie p1.how),(1,Ib Ie p1.val)] _ rfl (HBd59.1 _ _)) ⟨rfl,hI⟩
     .intro k j o hk ho s_1 W bs hlen hok hI
      rcases k with _|_|k
      all_goals first|(obtain rfl:=Ii hk;obtain rfl:=Ii ho)|exact absurd hk (by simp)
      .obtain⟨b0,b1,rfl⟩:=it hlen
       obtain rfl:=okS hok 0 rfl rfl;obtain rfl:=okF hok 1 rfl rfl rfl (by kernel_rfl);exact ab (v:=Iq (Ic ⟨W.heap.size,0,Ih⟩)) (w':=W.alloc (Is #[Ib Ie 0,Ib Ie 0,Ia Ih 0 0] 59)) rfl (by go_simp) ⟨W.heap.size,[(13,Iq (Ic ⟨W.heap.size,0,Ih⟩))],rfl,rfl,by kernel_rfl,⟨af hI.1 (ae (Il _ _) _),λ_=>⟨hI.1.size,Iu W _⟩⟩⟩
      .obtain⟨b0,b1,rfl⟩:=it hlen
       obtain rfl:=okS hok 1 rfl rfl;obtain rfl:=okT hok 0 rfl rfl rfl (by kernel_rfl);obtain⟨z1,z2⟩:=hI.2 rfl;refine bC rfl 59 _ _ rfl s_1 0 [Ib Ie p1.how,Ib Ie p1.val,Ia Ih 0 0] rfl rfl 59 [Ib Ie 0,Ib Ie 0,Ia Ih 0 0] [Ib Ie p1.how,Ib Ie p1.val,Ia Ih 0 0] z2 jo (by simp) (by simp[IH]) rfl (λW' h3 hf3=>⟨s_1,[],rfl,rfl,rfl,⟨Fr.below hI.1 hf3 (λk hk e=>by subst e;omega) hI.1.size,λ_=>⟨z1,h3⟩⟩⟩)
     .intro q W hI
      obtain⟨hb6,hq6⟩:=hI;obtain⟨hqn,hq6⟩:=hq6 rfl;obtain⟨w6,rfl⟩:=ME W;have H6q:=MD (show w6.heap[q]?=Ic (.cells #[Ib Ie p1.how,Ib Ie p1.val,Ia Ih 0 0] 59 (0,0))from hq6);have HWk6:=MD (HWk5.1.below hb6);have HH6:=MD (HH5.1.below hb6);have HE6:=MD (HE5.1.below hb6);have H26:=MD (ag H25.1 hb6);have H36:=MD (ag H35.1 hb6);have HQn:=MD (show g<q/\B+1+1<q from⟨by have:=aj HWk5.1.1;omega,by have:=aj H35.1;omega⟩);have HB7:=MD (af HB6.1 hb6);have c59:=ak hb6 C59.1;have c48:=(show w6.cell? ⟨g,48,Ih⟩=Ic (.slice A2 p1.h.length c2) by rw[show 48=48+0 from rfl,HWk6.1.cell];rfl);have hgl:=aj HWk6.1.1;have hql:=aj H6q.1;have hq2:=(show w6.cell? ⟨q,2,Ih⟩=Ic (.slice Ih 0 0) by rw[ah H6q.1];rfl);obtain⟨oh,hoh⟩:∃oh,oh=(if p1.how=1 then p1.h else []):=⟨_,rfl⟩;rw[<-hoh]at HRr2;clear hb6 hqn hq6 HWk5 HH5 HE5 H25 H35 C59 C60 HB6 HBd59;go_upto_if 67 with fail
      go_cut []from 67 to 76 (λwx=>∃v3,aa (wx.heap[q]?=Ic (.cells #[Ib Ie p1.how,Ib Ie p1.val,v3] 59 (0,0))/\RdT (Kd.int .i64) 2 wx v3 oh/\Fr (λk=>k=q) w6 wx))
      case first=>
       by_cases hd:p1.how=1
       .have q1:(p1.how==1)=Ir:=beq_iff_eq.mpr hd
        obtain rfl:oh=p1.h:=by rw[hoh,if_pos hd]
        clear hd hoh;have HC2:=MD (show Kd.C (Kd.int .i64) w6 A2 p1.h.length p1.h by obtain⟨Aq,cq,e,_,h,_⟩:=HH6.1;injection e with e;subst e;exact h);have HL5:=MD HPl.1;go_wp2_with (first
         |((with_reducible refine a6 (b:=.append) (xs:=#[.tmp 68,.tmp 73]) rfl ?_);refine mo rfl 35 (.tmp 68) (.tmp 73) rfl Lu jP w6.heap.size p1.h A2 p1.h.length c2 rfl rfl (Iu w6 _) (Kd.C_below HC2.1 (ae (Il _ _) _)) HL5.1 ?_;intro A9 c9 w7 hr hf;have HR:=MD hr;have HF:=MD hf;have H7q:=MD ((hf.block q (by simp;omega) (by omega)).trans (aT H6q.1 _));have hq2':=(show w7.cell? ⟨q,2,Ih⟩=Ic (.slice Ih 0 0) by rw[ah H7q.1];rfl);have fq2:=au H7q.1 2;clear hr hf))
        have hf8:Fr (λk=>k=q) w7 (w7.setCell ⟨q,2,Ih⟩ (Ia A9 p1.h.length c9)):=Fr.cell (S:=λj=>j=q) (p:=⟨q,2,Ih⟩) rfl _;have h8:=aR (L:=[Ib Ie p1.how,Ib Ie p1.val,Ia Ih 0 0]) H7q.1 2 (Ia A9 p1.h.length c9);have h9:=HR.1.fr aC hf8 (λk cs fr e=>by subst e;rw[H7q.1];simp);go_meet
        case rel=>exact⟨_,⟨h8,h9,(Fr.new HF.1).trans hf8⟩⟩
       .have q1:(p1.how==1)=Ik:=beq_eq_false_iff_ne.mpr hd
        obtain rfl:oh=[]:=by rw[hoh,if_neg hd]
        clear hd hoh;go_wp2;go_meet
        case rel=>exact⟨_,⟨H6q.1,RdT.nil _ _ _,Fr.refl _ _⟩⟩
      case rest=>
       obtain⟨v3,hC3⟩:=hcut;obtain⟨h7q,⟨A3,c3,rfl,z3⟩,hf7⟩:=hC3.1;have HOc:=MD h7q;have HOr:=MD (show RdT (Kd.int .i64) 2 wc (Ia A3 oh.length c3) oh from⟨A3,c3,rfl,z3⟩);have HF7:=MD hf7;obtain⟨w7,rfl⟩:=ME wc;have HWk7:=MD (HWk6.1.fr hf7 (by have:=HQn.1;omega));have H27:=MD ((hf7.block (B+1) (aj H26.1) (by have:=HQn.1;omega)).trans H26.1);have H37:=MD ((hf7.block (B+1+1) (aj H36.1) (by have:=HQn.1;omega)).trans H36.1);have HH7:=MD (HH6.1.fr aC hf7 (λk cs fr e=>by subst e;rw[H6q.1];simp));have HE7:=MD (HE6.1.fr cj hf7 (λk cs fr e=>by subst e;rw[H6q.1];simp));have HB8:=MD (Fr.below HB7.1 hf7 (λk hk e=>by have:=HQn.1;have:=HBe.1;omega) HB7.1.size);have C58:=MD (show w7.cell? ⟨g,58,Ih⟩=Ic (.slice A4 p1.evs.length c4) by rw[show 58=48+10 from rfl,HWk7.1.cell];rfl);have HA57:=MD (show ∀W,(isAgg 57).run If W=.ok Ik W from λW=>by kernel_rfl);have HL24:=MD (show p1.l.length=24 from HWk7.1.2);clear hC3 h7q z3 hf7 c59 c48 hgl hql hq2 HWk6 HH6 HE6 H26 H36 HB7 H6q;go_upto_region 14 with fail
       refine bm (σ:=Unit) [9,11] (λ_=>[(76,Iq (Ic ⟨g,0,Ih⟩)),(77,Iq (Ic ⟨g,0,Ih⟩)),(78,Iq (Ic ⟨g,0,Ih⟩)),(79,IA (stc p1.l (Ia A2 p1.h.length c2) p1.at_ p1.asked).toArray),(80,Iq (Ic ⟨g,0,Ih⟩)),(81,Iq (Ic ⟨g,0,Ih⟩)),(82,Iq (Ic ⟨g,58,Ih⟩)),(83,Ia A4 p1.evs.length c4),(84,IA ([Ib Ie p1.how,Ib Ie p1.val,Ia A3 oh.length c3]:List Io).toArray),(7,Ia A4 p1.evs.length c4),(9,Ib Ie 0)])
        (λbs _ W=>W.heap[B+1]?=Ic (.cells (if bs.getD 0 Ik=Ir then(stc p1.l (Ia A2 p1.h.length c2) p1.at_ p1.asked).toArray else bY) 93 (0,0))/\W.heap[B+1+1]?=Ic (.cells (if bs.getD 1 Ik=Ir then([Ib Ie p1.how,Ib Ie p1.val,Ia A3 oh.length c3]:List Io).toArray else #[Ib Ie 0,Ib Ie 0,Ia Ih 0 0]) 59 (0,0))/\Fr (λk=>k=B+1\/k=B+1+1) w7 W) () (by kernel_rfl) (by kernel_rfl) (by kernel_rfl) (λ_=>by kernel_rfl) ?_
       intro aF haF;simp only[bk,KY,IP,IZ,IY]at haF;subst haF;refine⟨?_,?_,⟨H27.1,H37.1,Fr.drew⟩,?_⟩
       .intro j o ho hct s_1 W bs hlen hok hI
        rcases j with _|_|_|_|_|_|_|_|_|_|_|_|_|j
        all_goals first|exact absurd hct (by decide)|(obtain rfl:=Ii ho)|exact absurd (IB.1 ho).1 (by simp)
        .exact ab rfl (by go_simp) ⟨rfl,hI⟩
        .exact ab rfl (by go_simp) ⟨rfl,hI⟩
        .exact ab rfl (by go_simp) ⟨rfl,hI⟩
        .exact ab rfl (ao rfl rfl (CF (k:=p1.wk x (Ia A2 p1.h.length c2) (Ia AA ask.length cA) (Ia A4 p1.evs.length c4)) (HWk7.1.fr hI.2.2 (by have:=HGn.1;omega)))) ⟨rfl,hI⟩
        .exact ab rfl (by go_simp) ⟨rfl,hI⟩
        .exact ab rfl (by go_simp) ⟨rfl,hI⟩
        .exact ab rfl (by go_simp) ⟨rfl,hI⟩
        .exact ab rfl (ao rfl rfl (aH (HA57.1 W) (hI.2.2.cell_at C58.1 (by have:=HGn.1;show ¬(g=_\/g=_);omega)))) ⟨rfl,hI⟩
        .exact ab rfl (ao rfl rfl (aY (P:=If) ((hI.2.2.block q (aj HOc.1) (by have:=HQn.1;omega)).trans HOc.1) L8 rfl jo)) ⟨rfl,hI⟩
        .exact ab rfl (by go_simp) ⟨rfl,hI⟩
        .exact ab rfl (by go_simp) ⟨rfl,hI⟩
       .intro k j o hk ho s_1 W bs hlen hok hI
        rcases k with _|_|k
        all_goals first|(obtain rfl:=Ii hk;obtain rfl:=Ii ho)|exact absurd hk (by simp)
        .obtain⟨b0,b1,rfl⟩:=it hlen
         obtain rfl:=okS hok 0 rfl rfl;refine bC rfl 93 _ _ rfl (B+1) 0 (stc p1.l (Ia A2 p1.h.length c2) p1.at_ p1.asked) rfl rfl 93 (stc (IF 24 (Ik,0)) (Ia Ih 0 0) 0 0) (stc p1.l (Ia A2 p1.h.length c2) p1.at_ p1.asked) hI.1 (by rw[dm HL24.1];exact lC) (by rw[dm HL24.1,dm (by rfl)];decide) (λv hv=>by have:=el (l:=p1.l) (A:=A2) (n:=p1.h.length) (c:=c2) (at_:=p1.at_) (asked:=p1.asked);rw[Jh]at this;exact this v (by simpa using hv)) (by rw[List.take_zero,Ka,Ju (by rw[dm HL24.1,dm (by rfl)];decide),JS]) (λW' h3 hf3=>⟨(),[],rfl,rfl,rfl,⟨h3,(hf3.block (B+1+1) (aj hI.2.1) (by omega)).trans hI.2.1,hI.2.2.trans (hf3.mono λk _ e=>.inl e)⟩⟩)
        .obtain⟨b0,b1,rfl⟩:=it hlen
         obtain rfl:=okS hok 1 rfl rfl;refine bC rfl 59 _ _ rfl (B+1+1) 0 [Ib Ie p1.how,Ib Ie p1.val,Ia A3 oh.length c3] rfl rfl 59 [Ib Ie 0,Ib Ie 0,Ia Ih 0 0] [Ib Ie p1.how,Ib Ie p1.val,Ia A3 oh.length c3] hI.2.1 jo (by simp) (by simp[IH]) rfl (λW' h3 hf3=>⟨(),[],rfl,rfl,rfl,⟨(hf3.block (B+1) (aj hI.1) (by omega)).trans hI.1,h3,hI.2.2.trans (hf3.mono λk _ e=>.inr e)⟩⟩)
       .intro _ W hI
        have hf9:=hI.2.2;have H29:=hI.1;have H39:=hI.2.1;have ht:∀k cs fr t,(k=B+1\/k=B+1+1)->t≠93->t≠59->w7.heap[k]?≠Ic (.cells cs t fr):=λk cs fr t e h1 h2 h3=>by
         rcases e with rfl|rfl
         .rw[H27.1]at h3
          injection h3 with h3
          injection h3 with _ h3
          exact h1 h3.symm
         .rw[H37.1]at h3
          injection h3 with h3
          injection h3 with _ h3
          exact h2 h3.symm
        have r1:=HH7.1.fr aC hf9 (λk cs fr e=>ht k cs fr 2 e (by decide) (by decide));have r2:=HE7.1.fr cj hf9 (λk cs fr e=>ht k cs fr 105 e (by decide) (by decide));have r3:=HOr.1.fr aC hf9 (λk cs fr e=>ht k cs fr 2 e (by decide) (by decide));have r4:=Fr.below HB8.1 hf9 (λk hk e=>by have:=HBe.1;omega) HB8.1.size;go_wp2;rw[HRr2.1];exact IG (v:=IR #[IA (stc p1.l (Ia A2 p1.h.length c2) p1.at_ p1.asked).toArray,Ia A4 p1.evs.length c4,IA #[Ib Ie p1.how,Ib Ie p1.val,Ia A3 oh.length c3],Ib Ie 0]) (aD (rs:=[.cell 6 93,.tmp 7,.cell 8 59,.tmp 9]) rfl (by simp) (.cell (B+1) 93 _ (0,0) _ rfl H29 Jo rfl (bZ HL24.1) (.tmp (.cell (B+1+1) 59 #[Ib Ie p1.how,Ib Ie p1.val,Ia A3 oh.length c3] (0,0) _ rfl H39 L8 rfl jo (.tmp .nil))))) rfl ⟨_,_,_,rfl,r1,r2,r3,r4⟩
 .obtain rfl:b=Ik:=by cases b<;>simp_all
  clear hbt;go_enter Tryz.func67,Tryz.ntmps67;go_upto_region 1 with fail
  refine ar HW1.1.symm ?_;clear hB HW1;go_wp2_with (first
   |((with_reducible refine ai (N:=15) rfl ?_);refine II rfl 93 _ rfl B rfl 93 L.toArray (0,0) _ H1.1 Jo rfl (by rw[I8,HLl.1];exact lC) ?_)
   |(go_at_call 90;refine HRt.1.mono ?_;rintro e w2 ⟨rfl,hb⟩;have HB2:=MD hb;have H22:=MD (ag H2.1 hb);have H32:=MD (ag H3.1 hb);clear hb)
   |((with_reducible refine ai (N:=18) rfl ?_);refine aU rfl 93 _ rfl [] _ rfl HBd93.1 ?_)
   |((with_reducible refine ap (t:=93) (p:=6) rfl ?_);refine an rfl 93 _ _ rfl (B+1) bY rfl rfl 93 bY H22.1 (bZ (l:=IF 24 (Ik,0)) rfl) rfl el ?_;intro w3 h23 hf3;have H23:=MD h23;have H33:=MD ((hf3.block (B+1+1) (aj H32.1) (by omega)).trans H32.1);have HF3:=MD hf3;clear h23 hf3)
   |((with_reducible refine ap (t:=59) (p:=8) rfl ?_);refine an rfl 59 _ _ rfl (B+1+1) #[Ib Ie 0,Ib Ie 0,Ia Ih 0 0] rfl rfl 59 #[Ib Ie 0,Ib Ie 0,Ia Ih 0 0] H33.1 jo rfl (by simp[IH]) ?_;intro w4 h34 hf4;have H34:=MD h34;have H24':=MD ((hf4.block (B+1) (aj H23.1) (by omega)).trans H23.1);have HF4:=MD hf4;clear h34 hf4))
  rw[if_neg Mp]at HRr;rw[HRr.1];have hbb:It w.heap.size w w4:=Fr.below HB1.1 ((Fr.of_below (S:=λk=>B<k) HB2.1).trans ((HF3.1.mono λk _ e=>by subst e;omega).trans (HF4.1.mono λk _ e=>by subst e;omega))) (λk hk e=>by have:=HBe.1;omega) HB1.1.size;exact IG (v:=IR #[IA bY,Ia Ih 0 0,IA #[Ib Ie 0,Ib Ie 0,Ia Ih 0 0],Ib Ie 1]) (aD (rs:=[.cell 6 93,.tmp 7,.cell 8 59,.tmp 9]) rfl (by simp) (.cell (B+1) 93 bY (0,0) _ rfl H24'.1 Jo rfl (bZ (l:=IF 24 (Ik,0)) rfl) (.tmp (.cell (B+1+1) 59 #[Ib Ie 0,Ib Ie 0,Ia Ih 0 0] (0,0) _ rfl H34.1 L8 rfl jo (.tmp .nil))))) rfl ⟨_,_,_,rfl,RdT.nil _ _ _,RdT.nil _ _ _,RdT.nil _ _ _,hbb⟩
end Go.Proofs.YtlinbehijfcelaaGreatDoor.Top
