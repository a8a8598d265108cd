/- Walks of the program, and what it computes, told plainly. No condition. (VT VU VV VX SA ZH ZI ZJ ZK ZL) -/
import Derived.Below
import Derived.Deep.Draws
import Derived.Deep.AppendLies
import Derived.Maps.AppendAt
import Derived.OwnWalk
import Derived.Laws.BytesArg
import Derived.Laws.MakeOwn
import Derived.Laws.OwnMore
import Derived.Deep.OwnRows
import Derived.Tactics
import Derived.Lib.ConvBytes
import Derived.Laws.Slices
import Derived.WalkKit
import Derived.KernelRfl
import Derived.RowKit3
import Derived.Deep.LoopGhost
import Derived.Deep.QuietTactic
import Derived.BigQuiet
import Derived.WideLaws
import Derived.Deep.DeepCutAuto
import Derived.Deep.CutBlock
import Derived.Deep.RegionHeld3
import Derived.Laws.Rows
import Derived.Lib.AppendStr
import Derived.ArgAppend
import Derived.Laws.IdiomCopy
import Derived.RowKit
import Derived.OrdersHeld
import Derived.Laws.BitsLemmas
import Derived.Laws.StructEq
import Derived.Test.YtlinbehijfcelaaGreatDoorProg
import Derived.Deep.WholeRow
import Derived.Laws.CopyOwn
import Derived.Carry
import Derived.ChangeKeysEq
import Derived.Laws.RangeAny
import Derived.Deep.MidRow
import Derived.Laws.Tables
import Derived.StillTailTactics
import Derived.RangeFuncNested
import Derived.RangeFuncBound
import Derived.RangeFuncCalls
import Derived.RangeFuncLeaves
import Derived.Shelf.Abstract
import Derived.Shelf.RegionOpen
import Derived.OwnWalkIn
import Derived.TacticsInMore
import Derived.LoopNIn
import Derived.LoopIn
import Derived.Test.YtlinbehijfcelaaGreatDoorPA
import Derived.Test.YtlinbehijfcelaaGreatDoorPB
import Derived.Test.YtlinbehijfcelaaGreatDoorPC
import Derived.Test.YtlinbehijfcelaaGreatDoorPD
import Derived.Test.YtlinbehijfcelaaGreatDoorPE
import Derived.Test.YtlinbehijfcelaaGreatDoorPF
import Derived.Test.YtlinbehijfcelaaGreatDoorPG
import Derived.Test.YtlinbehijfcelaaGreatDoorPH
import Derived.Test.YtlinbehijfcelaaGreatDoorPM
import Derived.Test.YtlinbehijfcelaaGreatDoorPN
import Derived.Test.YtlinbehijfcelaaGreatDoorPO
import Derived.Test.YtlinbehijfcelaaGreatDoorPP
import Derived.Test.YtlinbehijfcelaaGreatDoorPQ
set_option linter.unusedVariables false
set_option linter.unusedSimpArgs false
set_option linter.unusedSectionVars false
set_option maxHeartbeats 8000000
set_option maxRecDepth 100000
open Go.Value renaming agg->IA,bool->Iy,int->Ib,pointer->Iq,slice->Ia,tuple->IR
open Go renaming Calls->I9,Operand->Lf,Program->Jn,TypeId->Je,Value->Io,World->Im,bodyPost_ret->IG,execOp->JJ,heap_alloc_last->Iu,results->Lg,results_cell_row->IX,run_underlying->I2,undef->KG,wpList_load_row->II,wpStill_nil->Mc,wp_region_still_lit->KF
open Option renaming map_eq_some_iff->Ks,none->Ih,some->Ic
open Array renaming getElem?_eq_some_iff->IB
open Go.IntKind renaming i64->Ie
open Go.Builtin renaming append_->Kj,firstCells->LI
open Nat renaming eq_zero_or_pos->LZ,le_of_lt->Mv,le_refl->Iz,lt_of_lt_of_le->Kw,lt_or_ge->Lx,mul_one->JQ,zero_le->ID
open Prod.mk renaming injEq->IM
open List renaming all_eq_true->Jd,drop_append_of_le_length->MA,drop_of_length_le->Ju,eq_nil_of_length_eq_zero->LV,getD_eq_getElem?_getD->Ij,getElem?_append_left->Jg,getElem?_cons_zero->Mn,getElem?_drop->J9,getElem?_eq_getElem->Ig,getElem?_eq_none->I0,getElem?_eq_some_iff->Ip,getElem?_map->IK,length_append->IV,length_cons->Jz,length_drop->Kk,length_map->Jb,length_nil->Lj,length_set->Jq,length_take->Kt,map_append->LY,mem_append->J0,mem_cons_of_mem->Jm,mem_cons_self->JH,mem_map->JM,mem_of_getElem?->Iw,nil_append->Ka,range->Jy,replicate->IF,setIfInBounds_toArray->IP,set_cons_succ->IZ,set_cons_zero->IY,size_toArray->I8,take_append_of_le_length->Kx,take_length->Kh
open Option.some renaming inj->Ii
open Go.RowKit renaming Below->It,intOf->Jj
open Go.RowKit.Below renaming refl->Il
open Go.Ending renaming returned->Iv
open Go.Proofs.Tryz renaming prog->If,underlying22->Me,underlying35->Lu,underlying37->I4
open Go.Obj renaming cells->Is
open And renaming intro->IE
open Bool renaming false->Ik,noConfusion->Ix,true->Ir
open Go.Act renaming put->KY
open Go.Instr renaming fill->Ll
open Go.Sem renaming run_bind->IJ
open Go.Result renaming andThen->Jf
open Int renaming le_refl->J7,toNat_natCast->IC
open Go.Addr renaming add->Mo
namespace Go.Proofs.YtlinbehijfcelaaGreatDoor.Top
open Go.RowKit Go.Proofs.YtlinbehijfcelaaGreatDoorW.PrintWords Go.Proofs.YtlinbehijfcelaaGreatDoorW.PrintLast
theorem GI{W:Im}{A:Option Addr}{c:Nat}{xs:List Int}(h:RdT (Kd.int .i64) 2 W (Ia A xs.length c) xs):Kd.C (Kd.int .i64) W A xs.length xs:=by
 obtain⟨Aq,cq,e,_,h,_⟩:=h;injection e with e
 subst e;exact h
theorem RdT.keep{α:Type}{d:Kd α}(hd:mL d){t:Nat}{W W':Im}{A:Option Addr}{c:Nat}{xs:List α}{S:Nat->Prop}(h:RdT d t W (Ia A xs.length c) xs)(hf:Fr S W W')(hs:∀ad,A=Ic ad->¬S ad.block):RdT d t W' (Ia A xs.length c) xs:=by
 obtain⟨Aq,cq,e,h2,h3,h4⟩:=h;injection e with e1 e2 e3
 subst e1;subst e3;have key:∀ad,A=Ic ad->W'.heap[ad.block]?=W.heap[ad.block]?:=λad e=>by
  obtain⟨cs,fr,h5⟩:=h4 ad e;exact hf.block _ (IB.1 h5).1 (hs ad e)
 refine⟨A,c,rfl,h2,Bj hd h3 key,λad e=>?_⟩;obtain⟨cs,fr,h5⟩:=h4 ad e;exact⟨cs,fr,(key ad e).trans h5⟩
theorem Bc{P:Jn}{W:Im}(t ty:Je)(ht:P.underlying t=Ic (.slice 2))(hinfo:(P.info? 2).map (λi=>(i.zero,i.size,i.bytes))=Ic (Ic (Ib Ie 0),1,8))(g:Nat)(ys:List Int)(A:Option Addr)(m c:Nat)
  (hg:W.heap[g]?=Ic (.cells #[] 2 (0,0))) (HC:Kd.C (Kd.int .i64) W A m ys) (hm:ys.length<=100000) :
  ∃A1 c1 w1,(Kj #[t,t] ty #[Ia (Ic ⟨g,0,Ih⟩) 0 0,Ia A m c]).run P W=.ok (Ia A1 ys.length c1) w1/\RdT (Kd.int .i64) 2 w1 (Ia A1 ys.length c1) ys/\Fr (λk=>k=g) W w1/\∀ad,A1=Ic ad->ad.block=g\/W.heap.size<=ad.block:=by
 have HO:W.ownsRow 0 2 1 (Ia (Ic ⟨g,0,Ih⟩) 0 0) ([]:List Int).length (fZ .i64 []):=⟨by simp[fZ],.inr ⟨g,0,#[],rfl,ID _,hg,Iz _,by simp[maxLen],rfl,rfl⟩⟩;have HR:dY W .i64 A m ys:=Kd.reads_of_C (d:=(0:Int)) (h1:=λ_=>rfl) HC;have hml:ys.length=m:=HR.1;obtain⟨i0,hi,hzz⟩:=Ks.1 hinfo;simp only[IM]at hzz;obtain⟨hz0,hz1,hz2⟩:=hzz;have key:∃v1 w1,(Kj #[t,t] ty #[Ia (Ic ⟨g,0,Ih⟩) 0 0,Ia A m c]).run P W=.ok v1 w1/\w1.ownsRow 0 2 1 v1 ys.length (fZ .i64 ys)/\W.grownBy w1 (Ic g)/\(v1.ownBlock=Ic g\/v1.ownBlock=Ic W.heap.size):=by
  rcases A with _|ad
  .have h0:m=0:=by
    rcases LZ m with h0|h0
    .exact h0
    .obtain⟨ad,h,_⟩:=HR.2.2 h0
     cases h
   subst h0;obtain rfl:ys=[]:=LV hml;refine⟨_,W,?_,HO,Im.grownBy.refl W _,.inl rfl⟩;simp[Kj,I2 ht,sizeOf,typeInfo,hi,Builtin.lenOf,LI,storeCells]
  .have hcells:∀j u,(fZ .i64 ys)[j]?=Ic u->W.cell? (ad.add j)=Ic u:=by
    intro j u hu;have hj:j<ys.length:=by
     rcases Lx j ys.length with h|h
     .exact h
     .simp[fZ,I0 h]at hu
    obtain⟨ad',h',hc⟩:=HR.2.2 (by omega);injection h' with h'
    subst h';have:=hc j (by omega);simp[fZ,Ig hj]at hu;subst hu;rw[this];simp[Ij,Ig hj]
   obtain⟨v1,w1,hr,h2,h3,_,h5⟩:=run_append_own_at (P:=P) W 0 t ty 2 i0 (Ib Ie 0) 1 8 ht hi hz0 hz1 hz2 rfl (by omega) (Ia (Ic ⟨g,0,Ih⟩) 0 0) 0 [] HO ad m c (fZ .i64 ys) (by simp[fZ,hml]) hcells
    (by intro u hu;simp only[fZ,JM]at hu;obtain⟨q,_,rfl⟩:=hu;rfl) (by simp only[maxLen];omega) (by omega) (ID _)
   exact⟨v1,w1,hr,by simpa[fZ,hml]using h2,h3,h5⟩
 obtain⟨v1,w1,hr,hown,hgr,hat⟩:=key;have h1:=RdT.of_own hown;obtain⟨A1,c1,rfl,hh⟩:=h1;refine⟨A1,c1,w1,hr,⟨A1,c1,rfl,hh⟩,Fr.grown hgr (λk hk=>by simpa using hk),λad e=>?_⟩;subst e;have hob:(Ia (Ic ad) ys.length c1).ownBlock=Ic ad.block:=by
  rcases hown.2 with⟨h4,h5⟩|⟨g',cap,cur,h4,hg',hh',hn',_⟩
  .simp at h4
  .injection h4 with h4
   injection h4 with h4
   subst h4;rfl
 rw[hob]at hat;rcases hat with h|h
 .exact .inl (Ii h)
 .exact .inr (by have:=Ii h;omega)
theorem qJ{w w1:Im}{A B C D:Obj}(hb:It ((((w.alloc A).alloc B).alloc C).alloc D).heap.size ((((w.alloc A).alloc B).alloc C).alloc D) w1) :
  w1.heap[w.heap.size]?=Ic A/\w1.heap[w.heap.size+1]?=Ic B/\w1.heap[w.heap.size+2]?=Ic C/\w1.heap[w.heap.size+3]?=Ic D/\It w.heap.size w w1:=by
 have hs:(((w.alloc A).alloc B).alloc C).heap.size=w.heap.size+3:=by simp
 obtain⟨h1,h2,h3,h4⟩:=dh (w:=w) (w1:=((w.alloc A).alloc B).alloc C) (A:=A) (B:=B) (C:=C) (Il _ _);have hD:((((w.alloc A).alloc B).alloc C).alloc D).heap[w.heap.size+3]?=Ic D:=by have h:=Iu (((w.alloc A).alloc B).alloc C) D;rwa[hs]at h
 have hsz:((((w.alloc A).alloc B).alloc C).alloc D).heap.size=w.heap.size+4:=by simp
 refine⟨(hb.block _ (by omega)).trans (ag h1 (ae (Il _ _) _)),(hb.block _ (by omega)).trans (ag h2 (ae (Il _ _) _)),(hb.block _ (by omega)).trans (ag h3 (ae (Il _ _) _)),(hb.block _ (by omega)).trans hD,af (af h4 (ae (Il _ _) _)) hb⟩
theorem ul(f g:List In)(Af Ag:Option Addr)(cf cg:Nat)(c:Ca)(vC:Io)(w:Im)(hG:Gl w)(hCf:Kd.C kIn w Af f.length f)(hcf:f.length<=cf)(hCg:Kd.C kIn w Ag g.length g)(hcg:g.length<=cg)(hV:CaV w c vC)(hh:c.h=[])(k0:Int)(hk:da f g c=(k0,0))(hk0:k0≠0)(ha:c.ans.length<=5000)(hfu:0<=c.fuel/\c.fuel<=5000) :
  I9 If 37 #[Ia Af f.length cf,Ia Ag g.length cg,vC] w λe w'=>∃v c' k',e=Iv (IR #[v,Ib Ie k',Ib Ie 0])/\CaV w' c' v/\c'.fuel=iu (λn=>iZ f g { c with fuel:=n }) 0 c.fuel/\It w.heap.size w w':=by
 have hV0:=hV;obtain⟨vH,vA,rfl,h8,hHr,hAr⟩:=hV;obtain⟨AH,cH,rfl,zH⟩:=hHr;obtain⟨AA,cA,rfl,zA⟩:=hAr;have hHr:RdT (Kd.int .i64) 2 w (Ia AH c.h.length cH) c.h:=⟨AH,cH,rfl,zH⟩;have hAr:RdT (Kd.int .i64) 2 w (Ia AA c.ans.length cA) c.ans:=⟨AA,cA,rfl,zA⟩;have h0:c.h.length=0:=by rw[hh];rfl
 obtain⟨w1,hw1⟩:∃w1,w1=(((w.alloc (Is #[Ia Af f.length cf] 22)).alloc (Is #[Ia Ag g.length cg] 22)).alloc (Is (cac c.r (Ia AH c.h.length cH) (Ia AA c.ans.length cA) c.fuel).toArray 37)).alloc (Is dP 37):=⟨_,rfl⟩;obtain⟨B,hB⟩:=MF w.heap.size;obtain⟨b1,b2,b3,b4,hb1⟩:=qJ (w:=w) (w1:=w1) (A:=Is #[Ia Af f.length cf] 22) (B:=Is #[Ia Ag g.length cg] 22) (C:=Is (cac c.r (Ia AH c.h.length cH) (Ia AA c.ans.length cA) c.fuel).toArray 37) (D:=Is dP 37) (by rw[hw1];exact Il _ _);rw[hB]at b1 b2 b3 b4;have hTw:yl w1 f g B (B+1) Af Ag cf cg:=⟨b1,b2,Kd.C_below hCf hb1,Kd.C_below hCg hb1,hG.below hb1⟩;have HTell:=MD (λ(W:Im) (hb:It w1.heap.size w1 W) (c':Ca) (v:Io) (hv:CaV W c' v) (hh:c'.h.length<=5000) (ha:c'.ans.length<=100000)=>ix f g Af Ag cf cg c' v W ((hG.below hb1).below hb) (Kd.C_below (Kd.C_below hCf hb1) hb) hcf (Kd.C_below (Kd.C_below hCg hb1) hb) hcg hv hh ha);have hT:=HTell.1 w1 (Il _ _) c _ (hV0.below hb1) (by omega) (by omega);rw[hk]at hT;have c0:=(show w1.cell? ⟨B,0,Ih⟩=Ic (.slice Af f.length cf) by rw[ah b1];rfl);have c1:=(show w1.cell? ⟨B+1,0,Ih⟩=Ic (.slice Ag g.length cg) by rw[ah b2];rfl);have HGw:=MD hG;have HCfw:=MD (IE hCf hCg);have HT:=MD hT;have HTw:=MD hTw;have HW1:=MD hw1;have H3:=MD b3;have H4:=MD b4;have HB1:=MD hb1;have HBe:=MD hB;have H8:=MD h8;have HH1:=MD (hHr.below hb1);have HA1:=MD (hAr.below hb1);have Hcf:=MD (IE hcf hcg);have HH0:=MD hh;have HFu:=MD hfu;have HAn:=MD ha;have q0:(k0==0)=Ik:=beq_eq_false_iff_ne.mpr hk0;clear hV0 hHr hAr zH zA h0 hTw hT hw1 b1 b2 b3 b4 hb1 hG hCf hcf hCg hcg hh hk hk0 ha hfu h8;go_enter Tryz.func37,Tryz.ntmps37;go_upto_region 1 with fail
 refine ar HW1.1.symm ?_;clear hB HW1;go_upto_region 4 with(first
  |((with_reducible refine ai (N:=18) rfl ?_);refine ay rfl _ (ao rfl rfl (aY (P:=If) H3.1 I4 rfl (bv H8.1))) ?_)
  |(go_at_call 9;refine HT.1.mono ?_;rintro e w5 ⟨rfl,hb⟩;have HB5:=MD hb;clear hb))
 obtain⟨gC,hgC⟩:=ME (B+2);have HC5:=MD (show w5.drew.heap[gC]?=Ic (.cells (cac c.r (Ia AH c.h.length cH) (Ia AA c.ans.length cA) c.fuel).toArray 37 (0,0)) by rw[hgC];exact ag H3.1 (af HB5.1 (aA (Il _ _))));have HGl:=MD (show gC<w5.heap.size from aj HC5.1);have HH:=MD (HH1.1.below HB5.1);have HA:=MD (HA1.1.below HB5.1);have HHl:=MD (show c.h.length<=100000 by rw[HH0.1];exact ID _);have HAl:=MD (show c.ans.length<=100000 by have:=HAn.1;omega);have HSep:=MD (show ∀k cs fr,(k=gC\/w5.heap.size<=k)->w5.heap[k]?≠Ic (.cells cs 2 fr)from λk cs fr e h=>by
  rcases e with rfl|e
  .have h2:w5.heap[k]?=_:=HC5.1
   rw[h2]at h;simp at h
  .have:=(IB.1 h).1;omega)
 have HA35:=MD (show ∀W,(isAgg 35).run If W=.ok Ik W from λW=>by kernel_rfl);have HgC:=MD hgC;have hg2:B+1+1=gC:=by omega
 rw[show B+2=gC from hgC.symm];clear hgC c0 c1 HT H3 HH1 HA1;refine bm (σ:=(Nat×Nat)×(Option Addr×Nat)×(Option Addr×Nat)) [0,3,4,7,9,11] (λq=>[(26,Ia (Ic ⟨q.1.1,0,Ih⟩) 0 0),(27,Iq (Ic ⟨gC,8,Ih⟩)),(28,Ia AH c.h.length cH),(29,Ia q.2.1.1 c.h.length q.2.1.2),(30,Ia (Ic ⟨q.1.2,0,Ih⟩) 0 0),(31,Iq (Ic ⟨gC,9,Ih⟩)),(32,Ia AA c.ans.length cA),(33,Ia q.2.2.1 c.ans.length q.2.2.2),(34,Iq (Ic ⟨gC,8,Ih⟩)),(35,Iq (Ic ⟨gC,9,Ih⟩))])
  (λbs q W=>Fr (λk=>k=gC\/w5.heap.size<=k) w5 W/\W.heap[gC]?=Ic (.cells (cac c.r (if bs.getD 4 Ik=Ir then(Ia q.2.1.1 c.h.length q.2.1.2)else Ia AH c.h.length cH) (if bs.getD 5 Ik=Ir then(Ia q.2.2.1 c.ans.length q.2.2.2)else Ia AA c.ans.length cA) c.fuel).toArray 37 (0,0))/\(bs.getD 0 Ik=Ir->bs.getD 1 Ik=Ik->W.heap[q.1.1]?=Ic (.cells #[] 2 (0,0))/\w5.heap.size<=q.1.1)/\(bs.getD 2 Ik=Ir->bs.getD 3 Ik=Ik->W.heap[q.1.2]?=Ic (.cells #[] 2 (0,0))/\w5.heap.size<=q.1.2)/\(bs.getD 0 Ik=Ir->bs.getD 2 Ik=Ir->bs.getD 1 Ik=Ik->q.1.1≠q.1.2)/\(bs.getD 1 Ik=Ir->RdT (Kd.int .i64) 2 W (Ia q.2.1.1 c.h.length q.2.1.2) c.h)/\(bs.getD 1 Ik=Ir->bs.getD 2 Ik=Ir->bs.getD 3 Ik=Ik->∀ad,q.2.1.1=Ic ad->ad.block≠q.1.2)/\(bs.getD 3 Ik=Ir->RdT (Kd.int .i64) 2 W (Ia q.2.2.1 c.ans.length q.2.2.2) c.ans)) ((0,0),(Ih,0),(Ih,0)) (by kernel_rfl) (by kernel_rfl) (by kernel_rfl) (λ_=>by kernel_rfl) ?_
 intro aF haF;simp only[bk,KY,IP,IZ,IY]at haF;subst haF;refine⟨?_,?_,⟨Fr.drew,HC5.1,λe=>Ix e,λe=>Ix e,λe=>Ix e,λe=>Ix e,λe=>Ix e,λe=>Ix e⟩,?_⟩
 .intro j o ho hct s_1 W bs hlen hok hI
  rcases j with _|_|_|_|_|_|_|_|_|_|_|_|j
  all_goals first|exact absurd hct (by decide)|(obtain rfl:=Ii ho)|exact absurd (IB.1 ho).1 (by simp)
  .exact ab rfl (by go_simp) ⟨rfl,hI⟩
  .obtain⟨b0,b1,b2,b3,b4,b5,rfl⟩:=mx hlen
   obtain rfl:=okF hok 4 rfl rfl rfl (by kernel_rfl);obtain⟨i1,i2,i3,i4,i5,i6,i7,i8⟩:=hI;exact ab rfl (ao rfl rfl (aH (HA35.1 W) (show W.cell? ⟨gC,8,Ih⟩=Ic (.slice AH c.h.length cH) by rw[aq i2,show 8=8+0 from rfl,dj H8.1];rfl))) ⟨rfl,i1,i2,i3,i4,i5,i6,i7,i8⟩
  .exact ab rfl (by go_simp) ⟨rfl,hI⟩
  .obtain⟨b0,b1,b2,b3,b4,b5,rfl⟩:=mx hlen
   obtain rfl:=okF hok 5 rfl rfl rfl (by kernel_rfl);obtain⟨i1,i2,i3,i4,i5,i6,i7,i8⟩:=hI;exact ab rfl (ao rfl rfl (aH (HA35.1 W) (show W.cell? ⟨gC,9,Ih⟩=Ic (.slice AA c.ans.length cA) by rw[aq i2,show 9=8+1 from rfl,dj H8.1];rfl))) ⟨rfl,i1,i2,i3,i4,i5,i6,i7,i8⟩
  .exact ab rfl (by go_simp) ⟨rfl,hI⟩
  .exact ab rfl (by go_simp) ⟨rfl,hI⟩
 .intro k_1 j o hk ho s_1 W bs hlen hok hI
  rcases k_1 with _|_|_|_|_|_|k
  all_goals first|(obtain rfl:=Ii hk;obtain rfl:=Ii ho)|exact absurd hk (by simp)
  .obtain⟨b0,b1,b2,b3,b4,b5,rfl⟩:=mx hlen
   obtain rfl:=okS hok 0 rfl rfl;obtain rfl:=okF hok 1 rfl rfl rfl (by kernel_rfl);obtain rfl:=okF hok 3 rfl rfl rfl (by kernel_rfl);obtain rfl:=okF hok 4 rfl rfl rfl (by kernel_rfl);obtain rfl:=okF hok 5 rfl rfl rfl (by kernel_rfl);obtain⟨i1,i2,i3,i4,i5,i6,i7,i8⟩:=hI;exact ab (v:=Ia (Ic ⟨W.heap.size,0,Ih⟩) 0 0) (w':=W.alloc (Is #[] 2)) rfl (by go_simp) ⟨((W.heap.size,s_1.1.2),s_1.2),[(26,Ia (Ic ⟨W.heap.size,0,Ih⟩) 0 0)],rfl,rfl,by kernel_rfl,⟨i1.trans (Fr.of_below (ae (Il _ _) _)),aT i2 _,λ_ _=>⟨Iu W _,i1.size⟩,λh1 h2=>⟨aT (i4 h1 h2).1 _,(i4 h1 h2).2⟩,λ_ h2 _ e=>by have e:W.heap.size=s_1.1.2:=e;have:=aj (i4 h2 rfl).1;omega,λe=>Ix e,λe=>Ix e,λe=>Ix e⟩⟩
  .obtain⟨b0,b1,b2,b3,b4,b5,rfl⟩:=mx hlen
   obtain rfl:=okS hok 1 rfl rfl;obtain rfl:=okT hok 0 rfl rfl rfl (by kernel_rfl);obtain rfl:=okF hok 3 rfl rfl rfl (by kernel_rfl);obtain rfl:=okF hok 4 rfl rfl rfl (by kernel_rfl);obtain rfl:=okF hok 5 rfl rfl rfl (by kernel_rfl);obtain⟨i1,i2,i3,i4,i5,i6,i7,i8⟩:=hI;obtain⟨j1,j2⟩:=i3 rfl rfl;obtain⟨A1,c1,w1,r1,r2,r3,r4⟩:=Bc (P:=If) 35 35 Lu jP s_1.1.1 c.h AH c.h.length cH j1 (GI (HH.1.fr aC i1 HSep.1)) HHl.1;exact ab rfl (j_ rfl rfl rfl r1) ⟨(s_1.1,((A1,c1),s_1.2.2)),[(29,Ia A1 c.h.length c1)],rfl,rfl,by kernel_rfl,⟨i1.trans (r3.mono λk _ e=>.inr (by subst e;exact j2)),(r3.block gC (aj i2) (by have:=HGl.1;omega)).trans i2,λ_ e=>Ix e,λh1 h2=>⟨(r3.block _ (aj (i4 h1 h2).1) (λe=>i5 rfl h1 rfl e.symm)).trans (i4 h1 h2).1,(i4 h1 h2).2⟩,λ_ _ e=>Ix e,λ_=>r2,λ_ h2 h3 ad ea e=>by
    rcases r4 ad ea with h|h
    .exact i5 rfl h2 rfl (h.symm.trans e)
    .have e:ad.block=s_1.1.2:=e;have:=aj (i4 h2 h3).1;omega,λe=>Ix e⟩⟩
  .obtain⟨b0,b1,b2,b3,b4,b5,rfl⟩:=mx hlen
   obtain rfl:=okS hok 2 rfl rfl;obtain rfl:=okF hok 3 rfl rfl rfl (by kernel_rfl);obtain rfl:=okF hok 4 rfl rfl rfl (by kernel_rfl);obtain rfl:=okF hok 5 rfl rfl rfl (by kernel_rfl);obtain⟨i1,i2,i3,i4,i5,i6,i7,i8⟩:=hI;exact ab (v:=Ia (Ic ⟨W.heap.size,0,Ih⟩) 0 0) (w':=W.alloc (Is #[] 2)) rfl (by go_simp) ⟨((s_1.1.1,W.heap.size),s_1.2),[(30,Ia (Ic ⟨W.heap.size,0,Ih⟩) 0 0)],rfl,rfl,by kernel_rfl,⟨i1.trans (Fr.of_below (ae (Il _ _) _)),aT i2 _,λh1 h2=>⟨aT (i3 h1 h2).1 _,(i3 h1 h2).2⟩,λ_ _=>⟨Iu W _,i1.size⟩,λh1 _ h2 e=>by have e:s_1.1.1=W.heap.size:=e;have:=aj (i3 h1 h2).1;omega,λh=>(i6 h).below (ae (Il _ _) _),λh1 _ _ ad ea e=>by
    have e:ad.block=W.heap.size:=e;obtain⟨Aq,cq,eq,_,_,ht⟩:=i6 h1;injection eq with eq
    obtain⟨cs,fr,hb⟩:=ht ad (eq▸ea);have:=(IB.1 hb).1;omega,λe=>Ix e⟩⟩
  .obtain⟨b0,b1,b2,b3,b4,b5,rfl⟩:=mx hlen
   obtain rfl:=okS hok 3 rfl rfl;obtain rfl:=okT hok 1 rfl rfl rfl (by kernel_rfl);obtain rfl:=okT hok 2 rfl rfl rfl (by kernel_rfl);obtain rfl:=okF hok 4 rfl rfl rfl (by kernel_rfl);obtain rfl:=okF hok 5 rfl rfl rfl (by kernel_rfl);obtain⟨i1,i2,i3,i4,i5,i6,i7,i8⟩:=hI;obtain⟨j1,j2⟩:=i4 rfl rfl;obtain⟨A2,c2,w1,r1,r2,r3,r4⟩:=Bc (P:=If) 35 35 Lu jP s_1.1.2 c.ans AA c.ans.length cA j1 (GI (HA.1.fr aC i1 HSep.1)) HAl.1;exact ab rfl (j_ rfl rfl rfl r1) ⟨(s_1.1,(s_1.2.1,(A2,c2))),[(33,Ia A2 c.ans.length c2)],rfl,rfl,by kernel_rfl,⟨i1.trans (r3.mono λk _ e=>.inr (by subst e;exact j2)),(r3.block gC (aj i2) (by have:=HGl.1;omega)).trans i2,λ_ e=>Ix e,λ_ e=>Ix e,λ_ _ e=>Ix e,λ_=>RdT.keep aC (i6 rfl) r3 (λad ea e=>i7 rfl rfl rfl ad ea e),λ_ _ e=>Ix e,λ_=>r2⟩⟩
  .obtain⟨b0,b1,b2,b3,b4,b5,rfl⟩:=mx hlen
   obtain rfl:=okS hok 4 rfl rfl;obtain rfl:=okT hok 1 rfl rfl rfl (by kernel_rfl);obtain rfl:=okT hok 3 rfl rfl rfl (by kernel_rfl);obtain rfl:=okF hok 5 rfl rfl rfl (by kernel_rfl);obtain⟨i1,i2,i3,i4,i5,i6,i7,i8⟩:=hI;exact a_ rfl 35 _ _ rfl gC 8 (Ia s_1.2.1.1 c.h.length s_1.2.1.2) (Ia AH c.h.length cH) rfl rfl rfl rfl (by kernel_rfl) (show W.cell? ⟨gC,8,Ih⟩=Ic (.slice AH c.h.length cH) by rw[aq i2,show 8=8+0 from rfl,dj H8.1];rfl) (au i2 8) ⟨s_1,[],rfl,rfl,rfl,⟨i1.trans (Fr.cell (S:=λk=>k=gC\/w5.heap.size<=k) (p:=⟨gC,8,Ih⟩) (.inl rfl) _),(show(W.setCell ⟨gC,8,Ih⟩ (Ia s_1.2.1.1 c.h.length s_1.2.1.2)).heap[gC]?=Ic (.cells (cac c.r (Ia s_1.2.1.1 c.h.length s_1.2.1.2) (Ia AA c.ans.length cA) c.fuel).toArray 37 (0,0)) by
    have h:=aR (L:=cac c.r (Ia AH c.h.length cH) (Ia AA c.ans.length cA) c.fuel) i2 8 (Ia s_1.2.1.1 c.h.length s_1.2.1.2);rw[show 8=8+0 from rfl,kI H8.1]at h;exact h),λ_ e=>Ix e,λ_ e=>Ix e,λ_ _ e=>Ix e,λ_=>(i6 rfl).fr aC (Fr.cell (S:=λk=>k=gC) (p:=⟨gC,8,Ih⟩) rfl _) (λk cs fr e=>by subst e;rw[i2];simp),λ_ _ e=>Ix e,λ_=>(i8 rfl).fr aC (Fr.cell (S:=λk=>k=gC) (p:=⟨gC,8,Ih⟩) rfl _) (λk cs fr e=>by subst e;rw[i2];simp)⟩⟩
  .obtain⟨b0,b1,b2,b3,b4,b5,rfl⟩:=mx hlen
   obtain rfl:=okS hok 5 rfl rfl;obtain rfl:=okT hok 1 rfl rfl rfl (by kernel_rfl);obtain rfl:=okT hok 3 rfl rfl rfl (by kernel_rfl);obtain rfl:=okT hok 4 rfl rfl rfl (by kernel_rfl);obtain⟨i1,i2,i3,i4,i5,i6,i7,i8⟩:=hI;exact a_ rfl 35 _ _ rfl gC 9 (Ia s_1.2.2.1 c.ans.length s_1.2.2.2) (Ia AA c.ans.length cA) rfl rfl rfl rfl (by kernel_rfl) (show W.cell? ⟨gC,9,Ih⟩=Ic (.slice AA c.ans.length cA) by rw[aq i2,show 9=8+1 from rfl,dj H8.1];rfl) (au i2 9) ⟨s_1,[],rfl,rfl,rfl,⟨i1.trans (Fr.cell (S:=λk=>k=gC\/w5.heap.size<=k) (p:=⟨gC,9,Ih⟩) (.inl rfl) _),(show(W.setCell ⟨gC,9,Ih⟩ (Ia s_1.2.2.1 c.ans.length s_1.2.2.2)).heap[gC]?=Ic (.cells (cac c.r (Ia s_1.2.1.1 c.h.length s_1.2.1.2) (Ia s_1.2.2.1 c.ans.length s_1.2.2.2) c.fuel).toArray 37 (0,0)) by
    have h:=aR (L:=cac c.r (Ia s_1.2.1.1 c.h.length s_1.2.1.2) (Ia AA c.ans.length cA) c.fuel) i2 9 (Ia s_1.2.2.1 c.ans.length s_1.2.2.2);rw[show 9=8+1 from rfl,kI H8.1]at h;exact h),λ_ e=>Ix e,λ_ e=>Ix e,λ_ _ e=>Ix e,λ_=>(i6 rfl).fr aC (Fr.cell (S:=λk=>k=gC) (p:=⟨gC,9,Ih⟩) rfl _) (λk cs fr e=>by subst e;rw[i2];simp),λ_ _ e=>Ix e,λ_=>(i8 rfl).fr aC (Fr.cell (S:=λk=>k=gC) (p:=⟨gC,9,Ih⟩) rfl _) (λk cs fr e=>by subst e;rw[i2];simp)⟩⟩
 .intro q W hI
  obtain⟨⟨qa,qb⟩,⟨A1,c1⟩,A2,c2⟩:=q;obtain⟨i1,i2,_,_,_,i6,_,i8⟩:=hI;have HR6:=MD (i6 rfl);have HR8:=MD (i8 rfl);obtain⟨w6,rfl⟩:=ME W;have HCb:=MD (show CaB w6 gC c from⟨A1,c1,A2,c2,i2,H8.1,HR6.1,HR8.1⟩);have HF6:=MD i1;clear i1 i2 i6 i8 HR6 HR8 HC5 HH HA HSep;obtain⟨gt,hgt⟩:=MF w6.heap.size;have hal:=Iu w6 (Is #[.nilFunc] 156);rw[hgt]at hal;have hst:=ll (P:=If) (w6.alloc (Is #[.nilFunc] 156)) ⟨gt,0,Ih⟩ (.func (.func 60) #[] #[Iq (Ic ⟨B,0,Ih⟩),Iq (Ic ⟨B+1,0,Ih⟩)]) .nilFunc rfl (by rw[ah hal];rfl) (au hal 0);obtain⟨w7,hw7⟩:∃w7,w7=w6.alloc (Is #[.func (.func 60) #[] #[Iq (Ic ⟨B,0,Ih⟩),Iq (Ic ⟨B+1,0,Ih⟩)]] 156):=⟨_,rfl⟩;have hb7:It w6.heap.size w6 w7:=by rw[hw7];exact ae (Il _ _) _
  have HGt7:=MD (show w7.heap[gt]?=Ic (.cells #[qY B (B+1)] 156 (0,0)) by rw[hw7,<-hgt];exact Iu w6 _);have HC7:=MD (HCb.1.below hb7);have HBe2:=MD (show gC<gt from by obtain⟨_,_,_,_,h,_⟩:=HCb.1;have:=aj h;omega);have HF7:=MD (show Fr (λk=>k=gC\/w5.heap.size<=k) w5 w7 from HF6.1.trans (Fr.of_below hb7));have HTw5:=MD (HTw.1.below HB5.1);have hw65:w5.heap.size<=w6.heap.size:=HF6.1.size;have hgt5:=hgt;have HW7:=MD hw7;clear hal hb7 HCb HF6 hw7;go_upto_region 8 with fail
  refine ar HW7.1.symm ?_;clear hst hgt HW7;have htw:∀W,Fr (λk=>k=gC\/w5.heap.size<=k) w5 W->yl W f g B (B+1) Af Ag cf cg:=λW hf=>by
   have hlt:=HGl.1;have hbe:=HBe.1;have hge:=HgC.1;have hb:It w.heap.size w W:=Fr.below (af HB1.1 HB5.1) hf (λk hk e=>by omega) (af HB1.1 HB5.1).size;exact⟨(hf.block B (by omega) (by omega)).trans HTw5.1.bf,(hf.block (B+1) (by omega) (by omega)).trans HTw5.1.bg,Kd.C_below HCfw.1.1 hb,Kd.C_below HCfw.1.2 hb,HGw.1.below hb⟩
  have HTW:=MD htw;have hGt5:w5.heap.size<=gt:=by rw[<-hgt5];exact hw65
  obtain⟨F,hF⟩:∃F,F=iu (λn=>iZ f g { c with fuel:=n }) 0 c.fuel:=⟨_,rfl⟩;have hL:=pK (λn=>iZ f g { c with fuel:=n }) c.fuel HFu.1.1 (by have:=HFu.1.2;omega) gC gt w7 (λW hb m _ _=>C5 f g B (B+1) gC gt Af Ag cf cg Hcf.1.1 Hcf.1.2 c m W (htw W (HF7.1.trans (Fr.of_below hb))) (HC7.1.below hb) (ag HGt7.1 hb) (by rw[HH0.1];exact ID _) (by have:=HAn.1;omega));rw[<-hF]at hL;have HL:=MD hL;have HFe:=MD hF;have HFb:=MD (show 0<=F/\F<=c.fuel by rw[hF];exact lw _ _ _ _ HFu.1.1);have HGt5:=MD hGt5;have hc7:=HC7.1;obtain⟨A3,k3,B3,m3,hc7b,_,hc7h,hc7a⟩:=hc7;have c10:=(show w7.cell? ⟨gC,10,Ih⟩=Ic (Ib Ie c.fuel) by rw[aq hc7b,show 10=8+2 from rfl,dj H8.1];rfl);have HC7b:=MD hc7b;have HC7h:=MD (IE hc7h hc7a);clear htw hL hF hGt5 hgt5 hw65 hc7b hc7h hc7a;go_upto_region 9 with(first
   |(go_at_call 61;refine HL.1.mono ?_;rintro e w8 ⟨rfl,hb⟩;have HB8:=MD hb;have H8b:=MD (ag HC7b.1 hb);have d10:=(show w8.cell? ⟨gC,10,Ih⟩=Ic (Ib Ie c.fuel) by rw[aq H8b.1,show 10=8+2 from rfl,dj H8.1];rfl);have f10:=au H8b.1 10;clear hb))
  obtain⟨w9,hw9⟩:∃w9,w9=w8.setCell ⟨gC,10,Ih⟩ (Ib Ie F):=⟨_,rfl⟩;refine ar hw9.symm ?_;have hf9:Fr (λk=>k=gC) w8 w9:=by rw[hw9];exact Fr.cell (S:=λj=>j=gC) (p:=⟨gC,10,Ih⟩) rfl _
  have h9:w9.heap[gC]?=Ic (.cells (cac c.r (Ia A3 c.h.length k3) (Ia B3 c.ans.length m3) F).toArray 37 (0,0)):=by rw[hw9,aR H8b.1,show 10=8+2 from rfl,kI H8.1];rfl
  have hnt:∀k cs fr,k=gC->w8.heap[k]?≠Ic (.cells cs 2 fr):=λk cs fr e=>by subst e;rw[H8b.1];simp
  have HC9:=MD (show CaB w9 gC { c with fuel:=F }from⟨A3,k3,B3,m3,h9,H8.1,(HC7h.1.1.below HB8.1).fr aC hf9 hnt,(HC7h.1.2.below HB8.1).fr aC hf9 hnt⟩);have HGt9:=MD ((hf9.block gt (aj (ag HGt7.1 HB8.1)) (by have:=HBe2.1;omega)).trans (ag HGt7.1 HB8.1));have HF9:=MD (show Fr (λk=>k=gC\/w5.heap.size<=k) w5 w9 from(HF7.1.trans (Fr.of_below HB8.1)).trans (hf9.mono λk _ e=>.inl e));clear hw9 hf9 h9 hnt c10 d10 f10 HL HC7 HC7b HC7h HB8 H8b HF7 HGt7;have hc9:=HC9.1;obtain⟨A3,k3,B3,m3,hc9b,_,hc9h,hc9a⟩:=hc9;simp only at hc9b hc9h hc9a;have hn3:c.ans.length<=m3:=by obtain⟨_,_,e,h,_⟩:=hc9a;injection e with _ _ e;omega
  have hL2:=λW (hb:It w9.heap.size w9 W)=>pJ (λn=>iZ f g { c with fuel:=F,ans:=c.ans.take n.toNat }) (c.ans.length:Int) (by omega) (by have:=HAn.1;omega) gC gt W (λW' hb' m h0 h1=>by
   have h:=C1 f g B (B+1) gC gt Af Ag cf cg Hcf.1.1 Hcf.1.2 { c with fuel:=F } m.toNat (by show m.toNat<=c.ans.length;omega) W' (HTW.1 W' ((HF9.1.trans (Fr.of_below hb)).trans (Fr.of_below hb'))) ((HC9.1.below hb).below hb') (ag (ag HGt9.1 hb) hb') (by show c.h.length<=_;rw[HH0.1];exact ID _) (by show c.ans.length<=_;have:=HAn.1;omega);rw[Int.toNat_of_nonneg h0]at h;exact h)
  obtain⟨m,hm⟩:∃m:Nat,iu (λn=>iZ f g { c with fuel:=F,ans:=c.ans.take n.toNat }) 0 (c.ans.length:Int)=(m:Int):=⟨(iu _ 0 (c.ans.length:Int)).toNat,by
   have h:=lw (λn=>iZ f g { c with fuel:=F,ans:=c.ans.take n.toNat }) ((c.ans.length:Int)-0).toNat 0 (c.ans.length:Int) (by omega);exact(Int.toNat_of_nonneg h.1).symm⟩
  have hmn:m<=c.ans.length:=by
   have h:=lw (λn=>iZ f g { c with fuel:=F,ans:=c.ans.take n.toNat }) ((c.ans.length:Int)-0).toNat 0 (c.ans.length:Int) (by omega);have h2:(m:Int)<=(c.ans.length:Int):=by rw[<-hm];exact h.2
   omega
  rw[hm]at hL2;have HL2:=MD hL2;have HC9b:=MD hc9b;have HR9:=MD (IE hc9h hc9a);have hm1:(m:Int)<=(c.ans.length:Int):=by omega
  have hm2:(c.ans.length:Int)<=(m3:Int):=by omega
  have hm4:(m:Int)<=(m3:Int):=by omega
  have HMn:=MD hmn;clear hc9b hc9h hc9a hn3 hL2 hm hmn HC9;refine bm (σ:=Unit) [6,9] (λ_=>[(46,Iq (Ic ⟨gC,9,Ih⟩)),(47,Ia B3 c.ans.length m3),(48,Iq (Ic ⟨gC,9,Ih⟩)),(49,Ia B3 c.ans.length m3),(50,Ib Ie (c.ans.length:Int)),(51,.func (.func 63) #[] #[Iq (Ic ⟨gC,0,Ih⟩),Iq (Ic ⟨gt,0,Ih⟩)]),(52,Ib Ie (m:Int)),(53,Ia B3 m m3),(54,Iq (Ic ⟨gC,9,Ih⟩))])
   (λbs _ W=>Fr (λk=>k=gC) w9 W/\(bs.getD 1 Ik=Ik->It w9.heap.size w9 W)/\W.heap[gC]?=Ic (.cells (cac c.r (Ia A3 c.h.length k3) (if bs.getD 1 Ik=Ir then Ia B3 m m3 else Ia B3 c.ans.length m3) F).toArray 37 (0,0))) () (by kernel_rfl) (by kernel_rfl) (by kernel_rfl) (λ_=>by kernel_rfl) ?_
  intro aF haF;simp only[bk,KY,IP,IZ,IY]at haF;subst haF;refine⟨?_,?_,⟨Fr.drew,λ_=>aA (Il _ _),HC9b.1⟩,?_⟩
  .intro j o ho hct s_1 W bs hlen hok hI
   rcases j with _|_|_|_|_|_|_|_|_|_|j
   all_goals first|exact absurd hct (by decide)|(obtain rfl:=Ii ho)|exact absurd (IB.1 ho).1 (by simp)
   .exact ab rfl (by go_simp) ⟨rfl,hI⟩
   .obtain⟨b0,b1,rfl⟩:=it hlen
    obtain rfl:=okF hok 1 rfl rfl rfl (by kernel_rfl);exact ab rfl (ao rfl rfl (aH (HA35.1 W) (show W.cell? ⟨gC,9,Ih⟩=Ic (.slice B3 c.ans.length m3) by rw[aq hI.2.2,show 9=8+1 from rfl,dj H8.1];rfl))) ⟨rfl,hI⟩
   .exact ab rfl (by go_simp) ⟨rfl,hI⟩
   .obtain⟨b0,b1,rfl⟩:=it hlen
    obtain rfl:=okF hok 1 rfl rfl rfl (by kernel_rfl);exact ab rfl (ao rfl rfl (aH (HA35.1 W) (show W.cell? ⟨gC,9,Ih⟩=Ic (.slice B3 c.ans.length m3) by rw[aq hI.2.2,show 9=8+1 from rfl,dj H8.1];rfl))) ⟨rfl,hI⟩
   .exact ab rfl (by go_simp) ⟨rfl,hI⟩
   .exact ab rfl (by go_simp) ⟨rfl,hI⟩
   .exact ab rfl (by go_simp) ⟨rfl,hI⟩
   .exact ab rfl (by go_simp) ⟨rfl,hI⟩
  .intro k_1 j o hk ho s_1 W bs hlen hok hI
   rcases k_1 with _|_|k
   all_goals first|(obtain rfl:=Ii hk;obtain rfl:=Ii ho)|exact absurd hk (by simp)
   .obtain⟨b0,b1,rfl⟩:=it hlen
    obtain rfl:=okS hok 0 rfl rfl;obtain rfl:=okF hok 1 rfl rfl rfl (by kernel_rfl);obtain⟨i1,i2,i3⟩:=hI;refine aN rfl Tryz.func61 (by kernel_rfl) rfl #[Ib Ie 0,Ib Ie (c.ans.length:Int),.func (.func 63) #[] #[Iq (Ic ⟨gC,0,Ih⟩),Iq (Ic ⟨gt,0,Ih⟩)]] rfl rfl ((HL2.1 W (i2 rfl)).mono λe w' h=>⟨_,h.1,(),[],rfl,rfl,rfl,⟨i1.trans (Fr.of_below h.2),λ_=>af (i2 rfl) h.2,ag i3 h.2⟩⟩)
   .obtain⟨b0,b1,rfl⟩:=it hlen
    obtain rfl:=okS hok 1 rfl rfl;obtain rfl:=okT hok 0 rfl rfl rfl (by kernel_rfl);obtain⟨i1,i2,i3⟩:=hI;exact a_ rfl 35 _ _ rfl gC 9 (Ia B3 m m3) (Ia B3 c.ans.length m3) rfl rfl rfl rfl (by kernel_rfl) (show W.cell? ⟨gC,9,Ih⟩=Ic (.slice B3 c.ans.length m3) by rw[aq i3,show 9=8+1 from rfl,dj H8.1];rfl) (au i3 9) ⟨(),[],rfl,rfl,rfl,⟨i1.trans (Fr.cell (S:=λk=>k=gC) (p:=⟨gC,9,Ih⟩) rfl _),λe=>Ix e,(show(W.setCell ⟨gC,9,Ih⟩ (Ia B3 m m3)).heap[gC]?=Ic (.cells (cac c.r (Ia A3 c.h.length k3) (Ia B3 m m3) F).toArray 37 (0,0)) by
     have h:=aR (L:=cac c.r (Ia A3 c.h.length k3) (Ia B3 c.ans.length m3) F) i3 9 (Ia B3 m m3);rw[show 9=8+1 from rfl,kI H8.1]at h;exact h)⟩⟩
  .intro _ W hI
   obtain⟨i1,_,i3⟩:=hI;obtain⟨w10,rfl⟩:=ME W;have hnt:∀k cs fr,k=gC->w9.heap[k]?≠Ic (.cells cs 2 fr):=λk cs fr e=>by subst e;rw[HC9b.1];simp
   have hlt:(c.ans.take m).length=m:=by rw[Kt];have:=HMn.1;omega
   have HCX:=MD (show CaB w10 gC { c with fuel:=F,ans:=c.ans.take m }from⟨A3,k3,B3,m3,by show w10.heap[gC]?=Ic (.cells (cac c.r (Ia A3 c.h.length k3) (Ia B3 (c.ans.take m).length m3) F).toArray 37 (0,0));rw[hlt];exact i3,H8.1,HR9.1.1.fr aC i1 hnt,by show RdT (Kd.int .i64) 2 w10 (Ia B3 (c.ans.take m).length m3) (c.ans.take m);rw[hlt];exact(HR9.1.2.take HMn.1).fr aC i1 hnt⟩);have HGtX:=MD ((i1.block gt (aj HGt9.1) (by have:=HBe2.1;omega)).trans HGt9.1);have HFX:=MD (show Fr (λk=>k=gC\/w5.heap.size<=k) w5 w10 from HF9.1.trans (i1.mono λk _ e=>.inl e));have HLm:=MD (show(c.ans.take m).length<=5000 by rw[hlt];have:=HAn.1;have:=HMn.1;omega);have c8:=(show w10.cell? ⟨gC,8,Ih⟩=Ic (.slice A3 c.h.length k3) by rw[aq i3,show 8=8+0 from rfl,dj H8.1];rfl);have hh0:(c.h.length:Int)=0:=by rw[HH0.1];rfl
   clear hnt hlt i1 i3 HL2 HR9 HC9b HGt9 HF9 hm1 hm2 hm4;go_wp2;go_loopw [] (λwr=>aa (wr=w10)) (λ_=>0)
   case atStart=>exact⟨rfl⟩
   case round=>
    obtain⟨wq,hwq⟩:=ME w10;have hrw:=hrel.out;subst hrw;clear hwq hrel;go_wp2;obtain⟨w10,hw10⟩:=ME wr;rw[<-hw10]at HCX HGtX HFX;clear c8;go_loopw [73,13,14] (λj _ _ wr=>∃(i:Nat) (c':Ca),j=Ib Ie i/\aa (i<=8/\CaB wr gC c'/\c'.fuel=F/\c'.h=[]/\c'.ans.length<=5000/\Fr (λk=>k=gC\/w5.heap.size<=k) w5 wr/\wr.heap[gt]?=Ic (.cells #[qY B (B+1)] 156 (0,0)))) (λj _ _ _=>8-(Jj j).toNat)
    case atStart=>exact⟨0,{ c with fuel:=F,ans:=c.ans.take m },rfl,⟨⟨ID _,by rw[<-hw10];exact HCX.1,rfl,HH0.1,HLm.1,by rw[<-hw10];exact HFX.1,by rw[<-hw10];exact HGtX.1⟩⟩⟩
    case round=>
     obtain⟨i,c',rfl,HI⟩:=hrel;obtain⟨hi,hC,hFu,hH,hAl,hFr,hGt⟩:=HI.1;obtain⟨A4,k4,B4,m4,hcb,h84,hch,hca⟩:=hC;have H84:=MD h84;by_cases hi8:i<8
     .have hi8':(i:Int)<8:=by omega
      have HCb:=MD hcb;have HRd:=MD (IE hch hca);have HGt:=MD hGt;have HFr:=MD hFr;have HTw2:=MD (HTW.1 wr hFr);have HX:=MD (IE hFu (IE hH hAl));have hi0:(0:Int)<=(i:Int):=by omega
      clear hi hFu hH hAl hFr hGt hcb h84 hch hca HI hw10;go_upto_region 19 with(first
       |((with_reducible refine ai (N:=76) rfl ?_);refine ay rfl _ (ao rfl rfl (aY (P:=If) HCb.1 I4 rfl (bv H84.1))) ?_)
       |((with_reducible refine ap (t:=37) (p:=14) rfl ?_);refine an rfl 37 _ _ rfl wr.heap.size (cac c'.r (Ia A4 c'.h.length k4) (Ia B4 c'.ans.length m4) c'.fuel).toArray rfl rfl 37 dP (Iu wr _) (bv H84.1) (caz H84.1) fN ?_;intro w11 h11 hf11;have H11:=MD h11;have HB11:=MD (cw hf11);clear h11 hf11))
      obtain⟨G,hG⟩:=MF wr.heap.size;rw[hG]at H11 ⊢;have HG:=MD hG;clear hG;have dI:=(show w11.cell? ⟨G,i,Ih⟩=Ic (Ib Ie (c'.r.getD i 0)) by rw[aq H11.1,tU H84.1 hi8]);have fI:=au H11.1 i;go_upto_region 20 with fail
      obtain⟨w12,hw12⟩:∃w12,w12=w11.setCell ⟨G,i,Ih⟩ (Ib Ie 0):=⟨_,rfl⟩;refine ar hw12.symm ?_;have h8n:(c'.r.set i 0).length=8:=by rw[Jq];exact H84.1
      have h12:w12.heap[G]?=Ic (.cells (cac (c'.r.set i 0) (Ia A4 c'.h.length k4) (Ia B4 c'.ans.length m4) c'.fuel).toArray 37 (0,0)):=by
       rw[hw12,aR H11.1,tT _ _ (by rw[H84.1];exact hi8)]
      have hb12:It wr.heap.size wr w12:=by rw[hw12];exact Fr.below HB11.1 (Fr.cell (S:=λj=>j=G) (p:=⟨G,i,Ih⟩) rfl _) (λk hk e=>by have:=HG.1;omega) HB11.1.size
      have hgt12:=ag HGt.1 hb12;unfold qY at hgt12;have ct:=(show w12.cell? ⟨gt,0,Ih⟩=Ic (.func (.func 60) #[] #[Iq (Ic ⟨B,0,Ih⟩),Iq (Ic ⟨B+1,0,Ih⟩)]) by rw[ah hgt12];rfl);have hT1:=pL f g B (B+1) Af Ag cf cg Hcf.1.1 Hcf.1.2 { c' with r:=c'.r.set i 0 } (IA (cac (c'.r.set i 0) (Ia A4 c'.h.length k4) (Ia B4 c'.ans.length m4) c'.fuel).toArray) w12 (HTw2.1.below hb12) ⟨_,_,rfl,h8n,HRd.1.1.below hb12,HRd.1.2.below hb12⟩ (by show c'.h.length<=_;rw[HX.1.2.1];exact ID _) (by show c'.ans.length<=_;have:=HX.1.2.2;omega);obtain⟨b,hbb⟩:=ME (iZ f g { c' with r:=c'.r.set i 0 });rw[<-hbb]at hT1;have HT1:=MD hT1;have H12:=MD h12;have HB12:=MD hb12;have H8N:=MD h8n;have HI8:=MD hi8;obtain⟨r',hr'⟩:∃r',r'=c'.r.set i 0:=⟨_,rfl⟩;rw[<-hr']at HT1 H12 H8N;have HCn:=MD (show ∀W,W.heap[gC]?=Ic (.cells (cac r' (Ia A4 c'.h.length k4) (Ia B4 c'.ans.length m4) c'.fuel).toArray 37 (0,0))->RdT (Kd.int .i64) 2 W (Ia A4 c'.h.length k4) c'.h->RdT (Kd.int .i64) 2 W (Ia B4 c'.ans.length m4) c'.ans->CaB W gC { c' with r:=r' }from λW h1 h2 h3=>⟨A4,k4,B4,m4,h1,H8N.1,h2,h3⟩);clear hw12 h8n h12 hb12 hgt12 hT1 hbb hr' dI fI hi8 H11 HB11;cases b
      .go_wp2_with (first
        |((with_reducible refine ai (N:=81) rfl ?_);refine ay rfl _ (ao rfl rfl (aY (P:=If) H12.1 I4 rfl (bv H8N.1))) ?_)
        |(go_at_call 60;refine HT1.1.mono ?_;rintro e w13 ⟨rfl,hb⟩;have HB13:=MD (af HB12.1 hb);clear hb ct))
       go_roundw
       case rel=>exact⟨i+1,c',by go_num,⟨⟨HI8.1,⟨A4,k4,B4,m4,ag HCb.1 HB13.1,H84.1,HRd.1.1.below HB13.1,HRd.1.2.below HB13.1⟩,HX.1.1,HX.1.2.1,HX.1.2.2,HFr.1.trans (Fr.of_below HB13.1),ag HGt.1 HB13.1⟩⟩⟩
       case measure=>have:=HI8.1;simp[Jj];omega
      .go_wp2_with (first
        |((with_reducible refine ai (N:=81) rfl ?_);refine ay rfl _ (ao rfl rfl (aY (P:=If) H12.1 I4 rfl (bv H8N.1))) ?_)
        |(go_at_call 60;refine HT1.1.mono ?_;rintro e w13 ⟨rfl,hb⟩;have HB13:=MD (af HB12.1 hb);have H13:=MD (ag H12.1 hb);clear hb ct)
        |((with_reducible refine ai (N:=83) rfl ?_);refine ay rfl _ (ao rfl rfl (aY (P:=If) H13.1 I4 rfl (bv H8N.1))) ?_)
        |((with_reducible refine ap (t:=37) (p:=5) rfl ?_);refine an rfl 37 _ _ rfl gC (cac r' (Ia A4 c'.h.length k4) (Ia B4 c'.ans.length m4) c'.fuel).toArray rfl rfl 37 _ (ag HCb.1 HB13.1) (bv H8N.1) (by rw[I8,I8,kJ H84.1,kJ H8N.1]) fN ?_;intro w14 h14 hf14;have H14:=MD h14;have HF14:=MD hf14;clear h14 hf14))
       have hnt:∀k cs fr,k=gC->w13.heap[k]?≠Ic (.cells cs 2 fr):=λk cs fr e=>by subst e;rw[ag HCb.1 HB13.1];simp
       go_roundw
       case rel=>exact⟨i+1,{ c' with r:=r' },by go_num,⟨⟨HI8.1,HCn.1 _ H14.1 ((HRd.1.1.below HB13.1).fr aC HF14.1 hnt) ((HRd.1.2.below HB13.1).fr aC HF14.1 hnt),HX.1.1,HX.1.2.1,HX.1.2.2,(HFr.1.trans (Fr.of_below HB13.1)).trans (HF14.1.mono λk _ e=>.inl e),(HF14.1.block gt (aj (ag HGt.1 HB13.1)) (by have:=HBe2.1;omega)).trans (ag HGt.1 HB13.1)⟩⟩⟩
       case measure=>have:=HI8.1;simp[Jj];omega
     .obtain rfl:i=8:=by omega
      have hTw2:=HTW.1 wr hFr;have c0:=(show wr.cell? ⟨B,0,Ih⟩=Ic (.slice Af f.length cf) by rw[ah hTw2.bf];rfl);have c1:=(show wr.cell? ⟨B+1,0,Ih⟩=Ic (.slice Ag g.length cg) by rw[ah hTw2.bg];rfl);have hT:=ix f g Af Ag cf cg c' (IA (cac c'.r (Ia A4 c'.h.length k4) (Ia B4 c'.ans.length m4) c'.fuel).toArray) wr hTw2.gl hTw2.cf Hcf.1.1 hTw2.cg Hcf.1.2 ⟨_,_,rfl,h84,hch,hca⟩ (by rw[hH];exact ID _) (by omega);have HT:=MD hT;have HCb:=MD hcb;have HRd:=MD (IE hch hca);have HFu2:=MD hFu;have hz4:wr.heap[gC+1]?=Ic (.cells dP 37 (0,0)):=(hFr.block (gC+1) (by have:=aj H4.1;have:=HB5.1.size;have:=HgC.1;omega) (by have:=aj H4.1;have:=HB5.1.size;have:=HgC.1;omega)).trans (by have h:=ag H4.1 HB5.1;rw[show B+3=gC+1 from by have:=HgC.1;omega]at h;exact h);have HZ4:=MD hz4;have HBw:=MD (show It w.heap.size w wr from Fr.below (af HB1.1 HB5.1) hFr (λk hk e=>by have:=HGl.1;have:=HgC.1;have:=HBe.1;omega) (af HB1.1 HB5.1).size);clear hi hFu hH hAl hFr hGt hcb h84 hch hca hi8 hTw2 hT hz4 HI hw10;go_wp2_with (first
       |((with_reducible refine ai (N:=88) rfl ?_);refine ay rfl _ (ao rfl rfl (aY (P:=If) HCb.1 I4 rfl (bv H84.1))) ?_)
       |(go_at_call 9;refine HT.1.mono ?_;rintro e w11 ⟨rfl,hb⟩;have HB11:=MD hb;clear hb)
       |((with_reducible refine ai (N:=92) rfl ?_);refine ay rfl _ (ao rfl rfl (aY (P:=If) (ag HCb.1 HB11.1) I4 rfl (bv H84.1))) ?_)
       |((with_reducible refine ap (t:=37) (p:=6) rfl ?_);refine an rfl 37 _ _ rfl (gC+1) (cac c'.r (Ia A4 c'.h.length k4) (Ia B4 c'.ans.length m4) c'.fuel).toArray rfl rfl 37 dP (ag HZ4.1 HB11.1) (bv H84.1) (caz H84.1) fN ?_;intro w12 h12 hf12;have H12:=MD h12;have HF12:=MD hf12;clear h12 hf12))
      have hnt:∀k cs fr,k=gC+1->w11.heap[k]?≠Ic (.cells cs 2 fr):=λk cs fr e=>by subst e;rw[ag HZ4.1 HB11.1];simp
      exact IG (v:=IR #[IA (cac c'.r (Ia A4 c'.h.length k4) (Ia B4 c'.ans.length m4) c'.fuel).toArray,Ib Ie (da f g c').1,Ib Ie 0]) (aD (rs:=[.cell 6 37,.tmp 7,.tmp 8]) rfl (by simp) (.cell (gC+1) 37 _ (0,0) _ rfl H12.1 I4 rfl (bv H84.1) (.tmp (.tmp .nil)))) rfl ⟨_,c',_,rfl,⟨_,_,rfl,H84.1,(HRd.1.1.below HB11.1).fr aC HF12.1 hnt,(HRd.1.2.below HB11.1).fr aC HF12.1 hnt⟩,HFu2.1.trans HFe.1,Fr.below (af HBw.1 HB11.1) HF12.1 (λk hk e=>by have:=HgC.1;have:=HBe.1;omega) (af HBw.1 HB11.1).size⟩
section
open Go.Shelf
attribute [local go_sem] Oper.semAt_some
end
section
open Go.Shelf
attribute [local go_sem] Oper.semAt_some
def lU:Array Io:=#[Ib Ie 0,Ib Ie 0,Ib Ie 0,Ib Ie 0,Ib Ie 0,Ib Ie 0,Ib Ie 0,Ib Ie 0,Ib Ie 0,Ib Ie 0,Ia Ih 0 0,Ia Ih 0 0,Ib Ie 0]
def tN:List Io:=[Ib Ie 0,Ib Ie 0,Ib Ie 0,Ib Ie 0,Ib Ie 0,Ib Ie 0,Ib Ie 0,Ib Ie 0,Ib Ie 0,Ib Ie 0,Ia Ih 0 0,Ia Ih 0 0,Ib Ie 0]
theorem tF:(If.info? 84).map (·.size)=Ic 13:=by kernel_rfl
def Dr(fn:FuncId)(tmps:Array Io)(ps:Array Tmp)(assign body:Code)(d:Nat)(st:LoopState)(pe:Option Code):Loop:={ state:=st,pending:=pe,fn,tmps:=tmps,params:=ps,assign:=assign,body:=body,defers:=d }
theorem yQ{F:Fence}{n:Nat}{P:Jn}{g:Lf}{ps:Array Tmp}{assign body:Code}{Q:Exit->Act->Im->Prop}{a:Act}{w:Im}(hro:F.round=Ih)(h1:1<=n){gf:Nat}{lb:Array Io}(hg:a.eval g=.func (.func gf) #[] lb)(hFg:F.fn gf)(eg:∀args w,(callFunc gf args).run P w=.ok (.enter gf args) w)
  (h:∀fn,F.fn fn->∀rec:LoopState->Option Code->Loop,rec=Dr fn a.tmps ps assign body w.heap.size->∀W1,It w.heap.size w W1->W1.heap.size=w.heap.size+2->W1.heap[w.heap.size]?=Ic (.deferred (Ic []))->W1.heap[w.heap.size+1]?=Ic (.loop (rec .ready Ih))->
   CallsIn F (n-1) P gf (#[.func (.yield (w.heap.size+1)) #[] #[]]++lb) W1 λe W2=>(∃v,e=Iv v)/\
    ((W2.heap[w.heap.size+1]?=Ic (.loop (rec .ready Ih))/\Q .normal { a with defers:={ target:=.collected w.heap.size,args:=#[] }::a.defers } (W2.putObj (w.heap.size+1) (.loop (rec .exhausted Ih))))\/
     (W2.heap[w.heap.size+1]?=Ic (.loop (rec .done (Ic .ret)))/\Code.ret.wpIn F n P Q { a with defers:={ target:=.collected w.heap.size,args:=#[] }::a.defers } (W2.putObj (w.heap.size+1) (.loop (rec .exhausted (Ic .ret))))))) :
  (Code.rangeFunc g ps assign body).wpIn F n P Q a w:=by
 refine wpIn_rangeFunc λfn hfn=>?_;rw[hro];obtain⟨W1,hW1⟩:∃W1,W1=(w.alloc (.deferred (Ic []))).alloc (.loop (Dr fn a.tmps ps assign body w.heap.size .ready Ih)):=⟨_,rfl⟩;have k1:It w.heap.size w W1:=by rw[hW1];exact ae (ae (Il _ _) _) _
 have k2:W1.heap.size=w.heap.size+2:=by rw[hW1];simp
 have k3:W1.heap[w.heap.size]?=Ic (.deferred (Ic [])):=by
  rw[hW1];exact(It.heap_alloc _ _ _ (by simp)).trans (Im.alloc_heap_new w _)
 have k4:W1.heap[w.heap.size+1]?=Ic (.loop (Dr fn a.tmps ps assign body w.heap.size .ready Ih)):=by
  have h:=Im.alloc_heap_new (w.alloc (.deferred (Ic []))) (.loop (Dr fn a.tmps ps assign body w.heap.size .ready Ih));rw[Im.size_alloc]at h;rw[hW1];exact h
 refine⟨w.heap.size+1,[{ target:=.collected w.heap.size,args:=#[] }],W1,{ target:=.fn (.func gf) lb,args:=#[.func (.yield (w.heap.size+1)) #[] #[]] },W1,gf,#[.func (.yield (w.heap.size+1)) #[] #[]]++lb,W1,?_,?_,?_,?_,λ_=>h1,?_⟩
 .rw[hW1];exact run_enterLoop_outer _ _ _ _ _
 .simp only[resolve,hg]
  simp[go_sem]
 .intro f' hf'
  simp[Target.leads]at hf';subst hf';exact hFg
 .simp[invoke,go_sem,eg]
 .refine(h fn hfn _ rfl W1 k1 k2 k3 k4).mono ?_
  rintro e W2 ⟨⟨v,rfl⟩,(⟨hl,hq⟩|⟨hl,hq⟩)⟩
  .exact⟨Ih,_,run_endLoop (P:=P) hl (λe=>nomatch e),hq⟩
  .exact⟨Ic .ret,_,run_endLoop (P:=P) hl (λe=>nomatch e),hq⟩
def Dj(l:Nat)(r:LoopState->Option Code->Loop)(R:Ending->Im->Prop):Exit->Act->Im->Prop
 |.normal,_,w=>w.heap[l]?=Ic (.loop (r .busy Ih))/\R (Iv (Iy Ir)) (w.putObj l (.loop (r .ready Ih)))
 |.ret,_,w=>w.heap[l]?=Ic (.loop (r .busy Ih))/\R (Iv (Iy Ik)) (w.putObj l (.loop (r .done (Ic .ret))))
 |_,_,_=>False
theorem yr{F:Fence}{m:Nat}{P:Jn}{l:Nat}{fn:FuncId}{tmps:Array Io}{ps:Array Tmp}{assign body:Code}{d:Nat}{rec:LoopState->Option Code->Loop}(hrec:rec=Dr fn tmps ps assign body d){args:Array Io}{W:Im}{R:Ending->Im->Prop}(hfn:F.fn fn)(hl:W.heap[l]?=Ic (.loop (rec .ready Ih)))(hps:args.size=ps.size)
  (h:assign.wpIn (F.inRound l) m P (Exit.then (λa1 Wa=>Wa.heap[l]?=Ic (.loop (rec .ready Ih))/\body.wpIn (F.inRound l) m P (Dj l  rec R) a1 (Wa.putObj l (.loop (rec .busy Ih)))) (λ_ _ _=>False)) { tmps:=(ps.zip args).foldl (λt (p,v)=>t.setIfInBounds p v) tmps,defers:=[] } W) :
  YieldAt F m P l args W R:=by
 subst hrec;refine⟨fn,_,assign,body,run_yield (P:=P) (args:=args) hl hps,roundIn_of_wpIn hfn (wpIn_mono h ?_)⟩;intro e a1 Wa hq;cases e with
 |normal=>
  obtain⟨h1,h2⟩:=hq;refine⟨_,run_beginRound (P:=P) h1 rfl,wpIn_mono h2 ?_⟩;intro e a2 W2 hp;cases e with
  |normal=>exact⟨_,_,run_endRound (P:=P) Ih hp.1,hp.2⟩
  |ret=>exact⟨_,_,run_endRound (P:=P) (Ic .ret) hp.1,hp.2⟩
  |exit id=>exact hp.elim
  |goto t=>exact hp.elim
  |panic c=>exact hp.elim
  |outgrown=>exact hp.elim
 |ret=>exact hq.elim
 |exit id=>exact hq.elim
 |goto t=>exact hq.elim
 |panic c=>exact hq.elim
 |outgrown=>exact hq.elim
section
variable{F:Fence}{n:Nat}{P:Jn}{ops:Array Oper}{o:Oper}{rest:List Oper}{a:Act}{W W':Im}{Q:Exit->Act->Im->Prop}
theorem kh(hF:∀f,F.fn f)(hs:o.semAt F.round a.eval=JJ a.eval o)(hgd:o.guard=Ih)(v:Io)(hrun:(JJ a.eval o).run P W=.ok (.value v) W')(h:wpListIn F n P ops Q rest (a.put o.dst v) W'):wpListIn F n P ops Q (o::rest) a W:=by
 refine wpListIn_plain hgd λK hK=>?_;unfold Oper.wpIn;rw[hs,hrun];exact⟨λf _=>hF f,hK _ _ h⟩
theorem sU(hF:∀f,F.fn f)(hs:o.semAt F.round a.eval=JJ a.eval o)(hgd:o.guard=Ih)(hrun:∃W',(JJ a.eval o).run P W=.ok .skip W'/\wpListIn F n P ops Q rest (a.put o.dst KG) W'):wpListIn F n P ops Q (o::rest) a W:=by
 obtain⟨W',hrun,h⟩:=hrun;refine wpListIn_plain hgd λK hK=>?_;unfold Oper.wpIn;rw[hs,hrun];exact⟨λf _=>hF f,hK _ _ h⟩
theorem iV(hF:∀f,F.fn f)(hs:o.semAt F.round a.eval=JJ a.eval o)(hgd:o.guard=Ih)(ty:Je)(x y:Lf)(ho:o.op=.store ty x y)(g:Nat)(vs:List Io)
  (hx:a.eval x=Iq (Ic ⟨g,0,Ih⟩)) (hy:a.eval y=IA vs.toArray) (t:Nat) (L:List Io) (hg:W.heap[g]?=Ic (.cells L.toArray t (0,0))) (hi:(P.info? ty).map (·.size)=Ic vs.length) (hl:vs.length=L.length) (h1:∀v∈vs,v.oneCell'=Ir)
  (h:∀W',W'.heap[g]?=Ic (.cells vs.toArray t (0,0))->Fr (λk=>k=g) W W'->wpListIn F n P ops Q rest (a.put o.dst KG) W'):wpListIn F n P ops Q (o::rest) a W:=by
 obtain⟨W',h2,h3,h4⟩:=kU (P:=P) (a:=a) (o:=o) (W:=W) ty x y ho g 0 vs hx hy t L vs hg hi (by omega) h1 (by simp[hl]);exact sU hF hs hgd ⟨W',h2,h W' h3 h4⟩
theorem mD{N:Nat}(_ho:o.dst=Ic N)(h:wpListIn F n P ops Q (o::rest) a W):wpListIn F n P ops Q (o::rest) a W:=h
theorem nw{t p:Nat}{y:Lf}(_ho:o.op=.store t (.tmp p) y)(h:wpListIn F n P ops Q (o::rest) a W):wpListIn F n P ops Q (o::rest) a W:=h
end
theorem Fo(k t:Int)(row:List Io)(h:row.length=11):If.built 84 [(0,Ib Ie k),(1,Ib Ie t),(2,IA row.toArray)]=Ic (Ib Ie k::Ib Ie t::row).toArray:=by
 have h1:If.built 84 [(0,Ib Ie k),(1,Ib Ie t),(2,IA row.toArray)]=Ll (#[(0,1),(1,1),(2,11)][·]?) (Ib Ie k::Ib Ie t::tN.drop 2).toArray [(2,IA row.toArray)]:=by rfl
 rw[h1,jq _ _ 2 2 11 row [] rfl h (by simp[tN])];simp[Ll,tN,h]
theorem CaV.fr{W W':Im}{c:Ca}{v:Io}{S:Nat->Prop}(h:CaV W c v)(hf:Fr S W W')(hn:∀k cs fr,S k->W.heap[k]?≠Ic (.cells cs 2 fr)):CaV W' c v:=by
 obtain⟨vH,vA,e,h8,hH,hA⟩:=h;exact⟨vH,vA,e,h8,hH.fr aC hf hn,hA.fr aC hf hn⟩
theorem Gb:∀W,(isAgg 4).run If W=.ok Ik W:=λW=>by kernel_rfl
theorem EX:∀W,(isAgg 29).run If W=.ok Ik W:=λW=>by kernel_rfl
theorem yI{tmps:Array Io}{w:Im}(g6 g7 g8:Nat)(cs:Array Io)(v7 v8:Io)(p6:tmps.getD 6 KG=Iq (Ic ⟨g6,0,Ih⟩))(p7:tmps.getD 7 KG=Iq (Ic ⟨g7,0,Ih⟩))(p8:tmps.getD 8 KG=Iq (Ic ⟨g8,0,Ih⟩))(h6:w.heap[g6]?=Ic (.cells cs 84 (0,0)))(hi:(If.info? 84).map (·.size)=Ic cs.size)(h7:w.cell? ⟨g7,0,Ih⟩=Ic v7)(h8:w.cell? ⟨g8,0,Ih⟩=Ic v8) :
  (Lg Tryz.f36 tmps).run If w=.ok (IR #[IA cs,v7,v8]) w:=by
 have e6:=aY (P:=If) h6 Tryz.underlying84 rfl hi;have e7:=aH (P:=If) (Gb w) h7;have e8:=aH (P:=If) (EX w) h8;rw[Array.getD_eq_getD_getElem?]at p6 p7 p8;simp only[Lg,Tryz.f36];simp[List.mapM_cons,p6,p7,p8,asAddr,e6,e7,e8,IJ,Jf]
theorem sV{F:Fence}{n:Nat}{f:FuncId}{args:Array Io}{P:Jn}{w w':Im}{R:Ending->Im->Prop}(h:w=w')(k:CallsIn F n P f args w' R):CallsIn F n P f args w R:=by subst h;exact k
end
theorem oP(s:ByteArray)(h:(aE s).2.2=0):bi (aE s).1=Ir:=by
 unfold aE at h ⊢;split at h
 .simp at h
 .rename_i f bs fr e
  by_cases h1:fr<s.size
  .rw[if_pos h1]at h;simp at h
  .rw[if_neg h1]at h ⊢
   by_cases h2:(cz f).2=0
   .rw[if_pos h2]
    unfold bi;simpa using h2
   .rw[if_neg h2]at h
    exact absurd h h2
theorem jQ{f g:List In}(hf:f.length<=200)(hg:g.length<=200):(az f g).h=[]/\(az f g).ans.length<=5000/\0<=(az f g).fuel/\(az f g).fuel<=5000:=by
 have h:(az f g).ans.length=frN f g:=cI _ _ _;have h2:(az f g).fuel=(frN f g:Int):=rfl;unfold frN at h h2;refine⟨rfl,?_,?_,?_⟩<;>omega
theorem Bn{f g:List In}{c:Ca}(h:(da f g c).1≠0):da f g c=((da f g c).1,0):=by
 unfold da at h ⊢;split
 .rfl
 .rename_i hn
  rw[if_neg hn]at h;exact absurd rfl h
section
inductive Sym where
 |reg (r:Nat)
 |num (n:Int)
 |res (p:Nat)
 |no
 deriving DecidableEq
def ei:List Sym:=(Jy 24).map λi=>if i<8 then .reg i else .no
def jx(L:List Sym)(x:In):List Sym:=
 if x.op=1 then L.set x.d.toNat (.num x.n)else if x.op=2 then L.set x.d.toNat (L.getD x.a.toNat .no)
 else if x.op=3 then(L.set x.d.toNat (L.getD x.a.toNat .no)).set x.a.toNat (L.getD x.d.toNat .no)else L
def trS:List In->List Sym->Nat->List (Int×Sym)×Sym
 | [],_,_=>([],.no)
 |x::xs,L,p=>
  if x.op=15 then
   if L.getD x.a.toNat .no=.no then([],.no)
   else((x.n,L.getD x.a.toNat .no)::(trS xs (L.set x.d.toNat (.res p)) (p+1)).1,(trS xs (L.set x.d.toNat (.res p)) (p+1)).2)
  else if x.op=18 then([],L.getD x.a.toNat .no)
  else trS xs (jx L x) p
def iF(f:List In):List (Int×Sym)×Sym:=trS f ei 0
structure eh(f:List In):Prop where
 r:bi f=Ir
 op:∀x∈f,x.op=1\/x.op=2\/x.op=3\/x.op=15\/x.op=18
theorem eh.ok{f:List In}(h:eh f){k:Nat}{x:In}(hx:f[k]?=Ic x):CD f.length x:=(bu h.r).ok k x hx
theorem eh.next{f:List In}(h:eh f){k:Nat}{x:In}(hx:f[k]?=Ic x)(h18:x.op≠18):k+1<f.length:=by
 have hl:=(bu h.r).last;obtain⟨hk,e⟩:=Ip.1 hx;rcases Lx (k+1) f.length with q|q
 .exact q
 .exfalso
  have hk2:f.length-1=k:=by omega
  have:eI f=x.op:=by unfold eI;rw[Ij,hk2,hx];rfl
  rw[this]at hl;have:=h.op x (Iw hx);omega
def di(c:Ca):Sym->Bool×Int
 |.reg r=>(Ir,c.r.getD r 0)
 |.num n=>(Ir,n)
 |.res p=>(Ir,c.ans.getD p 0)
 |.no=>(Ik,0)
theorem Ai(c:Ca)(s:Sym):(di c s).1=Ir↔s≠.no:=by cases s<;>simp[di]
theorem nh{c:Ca}(L:List Sym)(i:Nat):(L.map (di c)).getD i (Ik,0)=di c (L.getD i .no):=by
 rw[Ij,Ij,IK];cases L[i]?<;>rfl
theorem Ex(c:Ca)(L:List Sym):(L.map (di c)).all (λp=>p.1||p.2==0)=Ir:=by
 rw[Jd];intro p hp;obtain⟨s,_,rfl⟩:=JM.1 hp;cases s<;>rfl
def nC(c:Ca):List (Int×Sym)->Nat->List Ev
 | [],_=>[]
 |e::es,p=>⟨e.1,(di c e.2).2,c.ans.getD p 0⟩::nC c es (p+1)
def qr(c:Ca)(s:Sym):Oc:=if s=.no then⟨2,0,[]⟩else⟨1,(di c s).2,[]⟩
theorem rX{f:List In}(h:eh f){x:In}(hx:x∈f):ce x=if x.op=15\/x.op=18 then [x.a]else []:=by
 obtain⟨op,d,a,b,n,jt⟩:=x;have ho:=h.op _ hx;simp only at ho ⊢;unfold ce;rcases ho with rfl|rfl|rfl|rfl|rfl
 .rfl
 .rfl
 .rfl
 .rfl
 .rfl
section
variable{f:List In}(h:eh f)(c:Ca){k:Nat}{x:In}(hk:f[k]?=Ic x)(L:List Sym)(p:Nat)
include h hk
theorem mW:eG f ⟨L.map (di c),[],(k:Int),(p:Int)⟩ c.ans=if(x.op=15\/x.op=18->(di c (L.getD x.a.toNat .no)).1=Ir)then
   (⟨(doP x c.ans (St.pw ⟨L.map (di c),[],(k:Int),(p:Int)⟩)).l,(doP x c.ans (St.pw ⟨L.map (di c),[],(k:Int),(p:Int)⟩)).h,(doP x c.ans (St.pw ⟨L.map (di c),[],(k:Int),(p:Int)⟩)).at_,(doP x c.ans (St.pw ⟨L.map (di c),[],(k:Int),(p:Int)⟩)).asked⟩,(doP x c.ans (St.pw ⟨L.map (di c),[],(k:Int),(p:Int)⟩)).evs,⟨(doP x c.ans (St.pw ⟨L.map (di c),[],(k:Int),(p:Int)⟩)).how,(doP x c.ans (St.pw ⟨L.map (di c),[],(k:Int),(p:Int)⟩)).val,if(doP x c.ans (St.pw ⟨L.map (di c),[],(k:Int),(p:Int)⟩)).how=1 then(doP x c.ans (St.pw ⟨L.map (di c),[],(k:Int),(p:Int)⟩)).h else []⟩,0)
   else(⟨L.map (di c),[],(k:Int),(p:Int)⟩,[],⟨2,0,[]⟩,0):=by
 have hkl:=(Ip.1 hk).1;have hg:f.getD (k:Int).toNat In.zero=x:=by rw[IC,Ij,hk];rfl
 have hst:oL f (L.map (di c)) ([]:List Int).length (k:Int) (p:Int)=Ir:=by
  unfold oL;rw[h.r,Ex];simp;omega
 have hu:=rX h (Iw hk);have hus:ms ⟨L.map (di c),[],(k:Int),(p:Int)⟩ x=Ir↔(x.op=15\/x.op=18->(di c (L.getD x.a.toNat .no)).1=Ir):=by
  unfold ms;rw[hu];split
  .rename_i q
   simp only[List.all_cons,List.all_nil,Bool.and_true,nh];exact⟨λe _=>e,λe=>e q⟩
  .rename_i q
   exact⟨λ_ e=>absurd e q,λ_=>rfl⟩
 unfold eG;rw[if_pos hst,hg];by_cases hc:(x.op=15\/x.op=18->(di c (L.getD x.a.toNat .no)).1=Ir)
 .rw[if_pos (hus.2 hc),if_pos hc]
 .rw[if_neg (λe=>hc (hus.1 e)),if_neg hc]
theorem yF(ho:x.op=15\/x.op=18)(hs:L.getD x.a.toNat .no=.no):eG f ⟨L.map (di c),[],(k:Int),(p:Int)⟩ c.ans=(⟨L.map (di c),[],(k:Int),(p:Int)⟩,[],⟨2,0,[]⟩,0):=by
 rw[mW h c hk L p,if_neg];intro e;have:=e ho;rw[hs]at this;exact Ix this
theorem CZ(ho:x.op=18)(hs:L.getD x.a.toNat .no≠.no):∃s,eG f ⟨L.map (di c),[],(k:Int),(p:Int)⟩ c.ans=(s,[],⟨1,(di c (L.getD x.a.toNat .no)).2,[]⟩,0):=by
 rw[mW h c hk L p,if_pos (λ_=>(Ai c _).2 hs)];have hd:doP x c.ans (St.pw ⟨L.map (di c),[],(k:Int),(p:Int)⟩)={ St.pw ⟨L.map (di c),[],(k:Int),(p:Int)⟩with how:=1,val:=(di c (L.getD x.a.toNat .no)).2 }:=by
  unfold doP;rw[if_neg (by omega),if_neg (by omega),if_neg (by omega),if_pos ho];unfold Pw.num St.pw;simp only;rw[nh]
 rw[hd];exact⟨_,rfl⟩
theorem BB(ho:x.op=15)(hs:L.getD x.a.toNat .no≠.no)(hp:p<c.ans.length):eG f ⟨L.map (di c),[],(k:Int),(p:Int)⟩ c.ans=(⟨(L.set x.d.toNat (.res p)).map (di c),[],((k+1:Nat):Int),((p+1:Nat):Int)⟩,[⟨x.n,(di c (L.getD x.a.toNat .no)).2,c.ans.getD p 0⟩],⟨0,0,[]⟩,0):=by
 rw[mW h c hk L p,if_pos (λ_=>(Ai c _).2 hs)];have hd:doP x c.ans (St.pw ⟨L.map (di c),[],(k:Int),(p:Int)⟩)=⟨(L.set x.d.toNat (.res p)).map (di c),[],((k+1:Nat):Int),((p+1:Nat):Int),[⟨x.n,(di c (L.getD x.a.toNat .no)).2,c.ans.getD p 0⟩],0,0⟩:=by
  unfold doP;rw[if_neg (by omega),if_neg (by omega),if_pos ho];unfold Pw.callP Pw.num St.pw Pw.next;simp only;have hlt:¬((c.ans.length:Int)<=(p:Int)):=by omega
  rw[nh,IC,List.map_set];simp[hlt,di]
 rw[hd];rfl
theorem By(ho:x.op=1\/x.op=2\/x.op=3):eG f ⟨L.map (di c),[],(k:Int),(p:Int)⟩ c.ans=(⟨(jx L x).map (di c),[],((k+1:Nat):Int),(p:Int)⟩,[],⟨0,0,[]⟩,0):=by
 rw[mW h c hk L p,if_pos (λe=>by omega)];have hd:doP x c.ans (St.pw ⟨L.map (di c),[],(k:Int),(p:Int)⟩)=⟨(jx L x).map (di c),[],((k+1:Nat):Int),(p:Int),[],0,0⟩:=by
  unfold doP;rw[if_neg (by omega),if_neg (by omega),if_neg (by omega),if_neg (by omega),if_neg (by omega),if_neg (by omega),if_neg (by unfold In.moves;simp;omega)];unfold Pw.moveP St.pw Pw.next jx;simp only[nh];rcases ho with e|e|e<;>simp[e,List.map_set,di]
 rw[hd];rfl
end
theorem pN{f:List In}(h:eh f)(c:Ca):∀(xs:List In) (k:Nat) (L:List Sym) (p:Nat) (n:Nat) (t:Tr),xs=f.drop k->xs≠[]->xs.length<=n->p+xs.length<=c.ans.length->
  (jW f c.ans n (t,⟨L.map (di c),[],(k:Int),(p:Int)⟩)).1.evs=t.evs++nC c (trS xs L p).1 p/\(jW f c.ans n (t,⟨L.map (di c),[],(k:Int),(p:Int)⟩)).1.out=qr c (trS xs L p).2
 | [],_,_,_,_,_,_,h0,_,_=>absurd rfl h0
 |x::xs,k,L,p,n,t,hx,_,hn,hp=>by
  have hk:f[k]?=Ic x:=by
   have:=congrArg (λl=>l[0]?) hx;simp only[Mn,J9,Nat.add_zero]at this;exact this.symm
  have hxs:xs=f.drop (k+1):=by
   have:=congrArg List.tail hx;simpa[List.tail_drop]using this
  obtain⟨m,rfl⟩:∃m,n=m+1:=⟨n-1,by simp at hn;omega⟩;simp only[Jz]at hn hp;have hop:=h.op x (Iw hk);unfold jW;by_cases hs:(x.op=15\/x.op=18)/\L.getD x.a.toNat .no=.no
  .have hsv:trS (x::xs) L p=([],.no):=by
    unfold trS;rcases hs.1 with e|e
    .rw[if_pos e,if_pos hs.2]
    .rw[if_neg (by omega),if_pos e,hs.2]
   have hst:=yF h c hk L p hs.1 hs.2;rw[hsv,if_neg (by unfold db;simp only[hst];decide)];unfold db;simp only[hst];exact⟨rfl,rfl⟩
  .by_cases h18:x.op=18
   .have hs2:L.getD x.a.toNat .no≠.no:=λe=>hs ⟨.inr h18,e⟩
    have hsv:trS (x::xs) L p=([],L.getD x.a.toNat .no):=by unfold trS;rw[if_neg (by omega),if_pos h18]
    obtain⟨s,hst⟩:=CZ h c hk L p h18 hs2;rw[hsv,if_neg (by unfold db;simp only[hst];decide)];unfold db;simp only[hst];refine⟨rfl,?_⟩;unfold qr;rw[if_neg hs2]
   .have hnx:=h.next hk h18
    have hxs0:xs≠[]:=by rw[hxs];intro e;have:=congrArg List.length e;simp at this;omega
    by_cases h15:x.op=15
    .have hs2:L.getD x.a.toNat .no≠.no:=λe=>hs ⟨.inl h15,e⟩
     have hsv:trS (x::xs) L p=((x.n,L.getD x.a.toNat .no)::(trS xs (L.set x.d.toNat (.res p)) (p+1)).1,(trS xs (L.set x.d.toNat (.res p)) (p+1)).2):=by
      rw[trS,if_pos h15,if_neg hs2]
     have hst:=BB h c hk L p h15 hs2 (by omega);rw[if_pos (by unfold db;simp only[hst])];have hrs:∃t',db f c.ans (t,⟨L.map (di c),[],(k:Int),(p:Int)⟩)=(t',⟨(L.set x.d.toNat (.res p)).map (di c),[],((k+1:Nat):Int),((p+1:Nat):Int)⟩)/\t'.evs=t.evs++[⟨x.n,(di c (L.getD x.a.toNat .no)).2,c.ans.getD p 0⟩]:=by
      unfold db;simp only[hst];exact⟨_,rfl,rfl⟩
     obtain⟨t',e1,e2⟩:=hrs;rw[e1];have ih:=pN h c xs (k+1) (L.set x.d.toNat (.res p)) (p+1) m t' hxs hxs0 (by omega) (by omega);rw[hsv,ih.1,ih.2,e2];exact⟨by simp[nC],rfl⟩
    .have hsv:trS (x::xs) L p=trS xs (jx L x) p:=by rw[trS,if_neg h15,if_neg h18]
     have hst:=By h c hk L p (by omega);rw[if_pos (by unfold db;simp only[hst])];have hrs:∃t',db f c.ans (t,⟨L.map (di c),[],(k:Int),(p:Int)⟩)=(t',⟨(jx L x).map (di c),[],((k+1:Nat):Int),(p:Int)⟩)/\t'.evs=t.evs:=by
      unfold db;simp only[hst];exact⟨_,rfl,by simp⟩
     obtain⟨t',e1,e2⟩:=hrs;rw[e1];have ih:=pN h c xs (k+1) (jx L x) p m t' hxs hxs0 (by omega) (by omega);rw[hsv,ih.1,ih.2,e2];exact⟨rfl,rfl⟩
end
theorem ye{x:In}(h:CkP x)(n:Int)(ho:x.op=1\/x.op=2\/x.op=3\/x.op=15\/x.op=18):cy x n=0:=by
 obtain⟨op,d,a,b,k,jt⟩:=x;obtain⟨_,h1,h2,h3,h4⟩:=h;simp only at ho h1 h2 h3 h4;unfold cy mz;rcases ho with rfl|rfl|rfl|rfl|rfl
 .obtain⟨rfl,rfl,rfl⟩:a=0/\b=0/\jt=0:=by simp[ip]at h1;omega
  rw[show bl (shF 1) 0=[100,78] by decide +kernel,show ja ⟨1,d,0,0,k,0⟩ (shF 1)=In.zero by kernel_rfl];have:=h3 (by decide);have hd:inR d=Ir:=decide_eq_true (by omega);simp[ib,kY,ez,In.get,hd]
 .obtain⟨rfl,rfl,rfl⟩:b=0/\k=0/\jt=0:=by simp[ip]at h1;omega
  rw[show bl (shF 2) 0=[100,97] by decide +kernel,show ja ⟨2,d,a,0,0,0⟩ (shF 2)=In.zero by kernel_rfl];have:=h3 (by decide);have hd:inR d=Ir:=decide_eq_true (by omega);have ha:inR a=Ir:=decide_eq_true (by omega);simp[ib,kY,ez,In.get,hd,ha]
 .obtain⟨rfl,rfl,rfl⟩:b=0/\k=0/\jt=0:=by simp[ip]at h1;omega
  rw[show bl (shF 3) 0=[100,97] by decide +kernel,show ja ⟨3,d,a,0,0,0⟩ (shF 3)=In.zero by kernel_rfl];have:=h3 (by decide);have hd:inR d=Ir:=decide_eq_true (by omega);have ha:inR a=Ir:=decide_eq_true (by omega);simp[ib,kY,ez,In.get,hd,ha]
 .obtain⟨rfl,rfl⟩:b=0/\jt=0:=by simp[ip]at h1;omega
  rw[show bl (shF 15) 0=[68,65,78] by decide +kernel,show ja ⟨15,d,a,0,k,0⟩ (shF 15)=In.zero by kernel_rfl];have:=h4 (by decide);have:=h2 rfl;have hd:jG d=Ir:=decide_eq_true (by omega);have ha:jG a=Ir:=decide_eq_true (by omega);have h0:¬k<0:=by omega
  have h9:¬99<k:=by omega
  simp[ib,kY,ez,In.get,hd,ha,h0,h9]
 .obtain⟨rfl,rfl,rfl,rfl⟩:d=0/\b=0/\k=0/\jt=0:=by simp[ip]at h1;omega
  rw[show bl (shF 18) 0=[65] by decide +kernel,show ja ⟨18,0,a,0,0,0⟩ (shF 18)=In.zero by kernel_rfl];have:=h4 (by decide);have ha:jG a=Ir:=decide_eq_true (by omega);simp[ib,kY,ez,In.get,ha]
theorem qZ{n:Int}:∀(f:List In) (i:Nat),(∀x∈f,cy x n=0)->eu n f i=Ih
 | [],_,_=>rfl
 |x::f,i,h=>by
  unfold eu;rw[if_pos (h x JH)];exact qZ f (i+1) (λy hy=>h y (Jm _ hy))
theorem ED{f:List In}(h:RgP f)(ho:∀x∈f,x.op=1\/x.op=2\/x.op=3\/x.op=15\/x.op=18)(hl:f.length<=40):eh f:=by
 refine⟨?_,ho⟩;unfold bi cz;rw[if_neg (by omega),if_neg h.1,qZ f 0 (λx hx=>ye (h.2.1 x hx) _ (ho x hx))];simp only;rw[if_neg (by have:=h.2.2;omega)];rfl
theorem kv(A:Option Addr)(n c:Nat)(hn:n<=200)(w:Im):I9 If 27 #[Ia A n c] w λe w'=>e=Iv (Ia A n c)/\w=w':=by
 have q:decide (200<(n:Int))=Ik:=decide_eq_false (by omega);go_enter Tryz.func27,Tryz.ntmps27;go_wp2;go_ret;exact⟨rfl,rfl⟩
theorem BI(xs:List Int)(A:Option Addr)(c:Nat)(n:Int)(w:Im)(hX:Kd.C (Kd.int .i64) w A xs.length xs)(hl:xs.length<=400):I9 If 29 #[Ia A xs.length c,Ib Ie n] w λe w'=>e=Iv (Iy (decide (n∈xs)))/\w=w':=by
 obtain⟨r,hr⟩:=ME (decide (n∈xs));rw[<-hr];have HR:=MD hr;have HX:=MD hX;have hl':(xs.length:Int)<=400:=by omega
 clear hr hX hl;go_enter Tryz.func29,Tryz.ntmps29;go_wp2;go_loopw [5] (λj wr=>∃(k:Nat),j=Ib Ie k/\w=wr/\aa (k<=xs.length/\n ∉ xs.take k)) (λj _=>xs.length-(Jj j).toNat)
 case atStart=>exact⟨0,rfl,rfl,⟨⟨ID _,by simp⟩⟩⟩
 case round=>
  obtain⟨k,rfl,rfl,HK⟩:=hrel;obtain⟨hk,ht⟩:=HK.1;by_cases hkl:k<xs.length
  .have hkl':(k:Int)<(xs.length:Int):=by omega
   obtain⟨x,hxx⟩:∃x,xs[k]?=Ic x:=⟨_,Ig hkl⟩;obtain⟨adX,csX,eX,_,hKX,hcX⟩:=b_ HX.1 k hkl x hxx;subst eX;obtain rfl:csX=[Ib Ie x]:=hKX;have vX:=hcX 0 _ rfl;rw[show k*(Kd.int .i64).sz+0=k from JQ k]at vX;have HT:=MD (IE ht hxx);have HKl:=MD hkl;clear hk ht hkl hxx hcX HK;by_cases hxy:x=n
   .have q:(x==n)=Ir:=beq_iff_eq.mpr hxy
    obtain rfl:r=Ir:=by rw[HR.1,decide_eq_true (by rw[<-hxy];exact Iw HT.1.2)]
    clear hxy;go_wp2;go_ret;exact⟨rfl,rfl⟩
   .have q:(x==n)=Ik:=beq_eq_false_iff_ne.mpr hxy
    have HXY:=MD hxy;clear hxy;go_wp2;go_roundw
    case rel=>
     refine⟨k+1,by go_num,by simp,⟨⟨HKl.1,λh=>?_⟩⟩⟩;rw[List.take_add_one,HT.1.2]at h;rcases J0.1 h with h|h
     .exact HT.1.1 h
     .exact HXY.1 (by simpa[eq_comm]using h)
    case measure=>have:=HKl.1;simp[Jj];omega
  .obtain rfl:k=xs.length:=by omega
   rw[Kh]at ht;obtain rfl:r=Ik:=by rw[HR.1,decide_eq_false ht]
   clear hk ht hkl HK;go_wp2;go_ret;exact⟨rfl,rfl⟩
theorem pY(xs ys:List Int)(AX AY:Option Addr)(cX cY:Nat)(w:Im)(hX:Kd.C (Kd.int .i64) w AX xs.length xs)(hY:Kd.C (Kd.int .i64) w AY ys.length ys)(hx:xs.length<=5000)(hy:ys.length<=5000) :
  I9 If 30 #[Ia AX xs.length cX,Ia AY ys.length cY] w λe w'=>e=Iv (Iy (decide (xs=ys)))/\It w.heap.size w w':=by
 obtain⟨r,hr⟩:=ME (decide (xs=ys));rw[<-hr];have HR:=MD hr;have HX:=MD hX;have HY:=MD hY;have hx':(xs.length:Int)<=5000:=by omega
 have hy':(ys.length:Int)<=5000:=by omega
 clear hr hX hY hx hy;go_enter Tryz.func30,Tryz.ntmps30;go_wp2;go_loopw [5] (λj wr=>∃(k:Nat),j=Ib Ie k/\aa (k<=xs.length/\k<=ys.length/\It w.heap.size w wr/\xs.take k=ys.take k)) (λj _=>xs.length-(Jj j).toNat)
 case atStart=>exact⟨0,rfl,⟨⟨ID _,ID _,Il _ _,rfl⟩⟩⟩
 case round=>
  obtain⟨k,rfl,HK⟩:=hrel;obtain⟨hk,hky,hb,ht⟩:=HK.1;have HB0:=MD hb;by_cases hkl:k<xs.length
  .have hkl':(k:Int)<(xs.length:Int):=by omega
   by_cases hkm:k<ys.length
   .have hky':(k:Int)<(ys.length:Int):=by omega
    obtain⟨x,hxx⟩:∃x,xs[k]?=Ic x:=⟨_,Ig hkl⟩;obtain⟨y,hyy⟩:∃y,ys[k]?=Ic y:=⟨_,Ig hkm⟩;obtain⟨adX,csX,eX,_,hKX,hcX⟩:=b_ (Kd.C_below HX.1 hb) k hkl x hxx;obtain⟨adY,csY,eY,_,hKY,hcY⟩:=b_ (Kd.C_below HY.1 hb) k hkm y hyy;subst eX;subst eY;obtain rfl:csX=[Ib Ie x]:=hKX;obtain rfl:csY=[Ib Ie y]:=hKY;have vX:=hcX 0 _ rfl;have vY:=hcY 0 _ rfl;rw[show k*(Kd.int .i64).sz+0=k from JQ k]at vX vY;have HT:=MD (IE ht (IE hxx hyy));have HKl:=MD (IE hkl hkm);clear hk hky hb ht hkl hkm hxx hyy hcX hcY HK;go_upto_region 4 with fail
    have hd:It w.heap.size w wr.drew:=aA HB0.1;have HD:=MD hd;clear hd;by_cases hxy:x=y
    .have q:(x != y)=Ik:=by simp[hxy]
     have HXY:=MD hxy;clear hxy;refine KF (by kernel_rfl) (by kernel_rfl) ?_
     repeat still_step
     refine Mc ?_;change(Exit.then _ _) _ _ wr.drew;obtain⟨w2,hw2⟩:=ME wr.drew;rw[<-hw2]at HD ⊢;clear hw2 vX vY;go_wp2;go_roundw
     case rel=>exact⟨k+1,by go_num,⟨⟨HKl.1.1,HKl.1.2,HD.1,jV HT.1.1 HT.1.2.1 (by rw[HXY.1];exact HT.1.2.2)⟩⟩⟩
     case measure=>have:=HKl.1;simp[Jj];omega
    .have q:(x != y)=Ir:=by simp[hxy]
     obtain rfl:r=Ik:=by
      rw[HR.1];refine decide_eq_false (λe=>hxy ?_);have h1:=HT.1.2.1;rw[e,HT.1.2.2]at h1;exact(Ii h1).symm
     clear hxy;refine KF (by kernel_rfl) (by kernel_rfl) ?_
     repeat still_step
     refine Mc ?_;change(Exit.then _ _) _ _ wr.drew;obtain⟨w2,hw2⟩:=ME wr.drew;rw[<-hw2]at HD ⊢;clear hw2 vX vY;go_wp2;go_ret;exact⟨rfl,HD.1⟩
   .have hky':¬(k:Int)<(ys.length:Int):=by omega
    have q:((xs.length:Int)==(ys.length:Int))=Ik:=beq_eq_false_iff_ne.mpr (by omega);obtain rfl:r=Ik:=by
     rw[HR.1];exact decide_eq_false (λe=>by rw[e]at hkl;exact hkm hkl)
    clear hk hky hb ht hkl hkm HK;go_wp2;go_ret;exact⟨rfl,HB0.1⟩
  .obtain rfl:k=xs.length:=by omega
   obtain⟨b,hq⟩:=MF (((xs.length:Int)==(ys.length:Int)));obtain rfl:r=b:=by
    rw[HR.1,<-hq];by_cases e:xs.length=ys.length
    .rw[decide_eq_true (k9 ht e),beq_iff_eq.2 (by omega)]
    .rw[decide_eq_false (λh=>e (congrArg List.length h)),beq_eq_false_iff_ne.2 (by omega)]
   clear hk hky hb ht hkl HK;go_wp2;go_ret;exact⟨rfl,HB0.1⟩
theorem yc(f g:List In):fA (f++g)=fA f++fA g:=by unfold fA;rw[List.filter_append,LY]
theorem o7(f g:List In)(Af Ag:Option Addr)(cf cg:Nat)(w:Im)(hf:f.length<=200)(hg:g.length<=200)(hCf:Kd.C kIn w Af f.length f)(hCg:Kd.C kIn w Ag g.length g) :
  I9 If 28 #[Ia Af f.length cf,Ia Ag g.length cg] w λe w'=>∃v,e=Iv v/\Kd.R (Kd.int .i64) 2 w' w.heap.size (λ_=>True) v (fA f++fA g)/\It w.heap.size w w':=by
 have H1:=MD (λW=>kv Af f.length cf hf W);have H2:=MD (λW=>kv Ag g.length cg hg W);have HCf:=MD hCf;have HCg:=MD hCg;have HL:=MD (IE hf hg);have HXs:=MD (yc f g);clear hf hg hCf hCg;go_enter Tryz.func28,Tryz.ntmps28;go_upto_region 2 with(first
  |(go_at_call 27;(with_reducible refine(H1.1 _).mono ?_);rintro e w1 ⟨rfl,rfl⟩;clear H1)
  |(go_at_call 27;(with_reducible refine(H2.1 _).mono ?_);rintro e w1 ⟨rfl,rfl⟩;clear H2)
  |((with_reducible refine a6 (b:=.append) (xs:=#[.tmp 8,.tmp 10]) rfl ?_);at_builtin;refine Kd.R_append_rows kIn (w0:=w) w.heap.size rfl (.tmp 8) (.tmp 10) 22 49 (IA #[Ib Ie 0,Ib Ie 0,Ib Ie 0,Ib Ie 0,Ib Ie 0,Ib Ie 0]) 48 rfl Me tG rfl (by decide) (by decide) (Ia (Ic ⟨w.heap.size,0,Ih⟩) 0 0) [] f Af f.length cf (λ_=>True) (λ_=>False) rfl rfl (show Kd.R kIn 49 (w.alloc (Is #[] 49)) w.heap.size (λ_=>True) (Ia (Ic ⟨w.heap.size,0,Ih⟩) 0 0) []from⟨λ_ _=>trivial,dk.lit (inner:=[]) w w.heap.size (cx.none _ _) (Iz _) (by decide)⟩) (Kd.C_below HCf.1 (ae (Il _ _) _)) (λ_ _ h=>h) (λ_ h=>h.elim) (λ_ _=>trivial) (ae (Il _ _) _) (by simp) (by have:=HL.1.1;simp only[Lj];omega) ?_;intro v1 w1 ho hb _ _;have HO1:=MD ho;have HB1:=MD hb;clear ho hb)
  |((with_reducible refine a6 (b:=.append) (xs:=#[.tmp 11,.tmp 13]) rfl ?_);at_builtin;refine Kd.R_append_rows kIn (w0:=w) w.heap.size rfl (.tmp 11) (.tmp 13) 22 49 (IA #[Ib Ie 0,Ib Ie 0,Ib Ie 0,Ib Ie 0,Ib Ie 0,Ib Ie 0]) 48 rfl Me tG rfl (by decide) (by decide) v1 ([]++f) g Ag g.length cg (λ_=>True) (λ_=>False) rfl rfl HO1.1 (Kd.C_below HCg.1 HB1.1) (λ_ _ h=>h) (λ_ h=>h.elim) (λ_ _=>trivial) HB1.1 HB1.1.size (by have:=HL.1;simp only[Ka];omega) ?_;intro v2 w2 ho hb _ _;have HO2:=MD ho;have HB2:=MD hb;clear ho hb))
 obtain⟨xs,hxs⟩:=ME (f++g);have hO:=HO2.1;rw[Ka,<-hxs]at hO;rw[<-hxs]at HXs;obtain⟨A,c,rfl,_,hC⟩:=Kd.R_reads hO;have HC:=MD hC;have HLx:=MD (show xs.length<=400 by rw[hxs,IV];have:=HL.1;omega);have hl':(xs.length:Int)<=400:=by have:=HLx.1;omega
 clear hO hxs hC HO1 HO2 HB1 HCf HCg;go_wp2;go_loopw [6,7] (λv j wr=>∃i:Nat,j=Ib Ie i/\aa (i<=xs.length/\It w2.heap.size w2 wr/\Kd.R (Kd.int .i64) 2 wr w2.heap.size (λ_=>True) v (fA (xs.take i)))) (λ_ j _=>xs.length-(Jj j).toNat)
 case atStart=>exact⟨0,rfl,⟨⟨ID _,Il _ _,Kd.R_nil _ _ _ _ _⟩⟩⟩
 case round=>
  obtain⟨i,rfl,HI⟩:=hrel;obtain⟨hi,hb,hR⟩:=HI.1;by_cases hil:i<xs.length
  .have hil':(i:Int)<(xs.length:Int):=by omega
   obtain⟨x,hx⟩:∃x,xs[i]?=Ic x:=⟨_,Ig hil⟩;obtain⟨ad,rfl,d0,_,_,_,d4,_⟩:=nK (Kd.C_below HC.1 hb) i hil x hx;have HS:=MD (sN hx);obtain⟨L,hL⟩:=ME (fA (xs.take i));rw[<-hL]at hR;have HLe:=MD hL;have HLl:=MD (show L.length<=400 by rw[hL];have:=HLx.1;have:=js (xs.take i);rw[Kt]at this;omega);have HR:=MD hR;have HB:=MD hb;have HIl:=MD hil;clear hL hi hb hR hil hx HI;by_cases h1:x.op=1
   .have q1:(x.op==1)=Ir:=beq_iff_eq.mpr h1
    have HO1:=MD h1;clear h1;go_wp2_with (first
     |((with_reducible refine a6 (b:=.append) (xs:=#[.tmp 27,.tmp 33]) rfl ?_);at_builtin;refine Kd.R_append (Kd.int .i64) (w0:=w2) w2.heap.size rfl (.tmp 27) (.tmp 33) 35 2 (Ib Ie 0) 8 rfl Lu jP rfl (by decide) (by omega) u6 (L) (x.n) [Ib Ie x.n] (λ_=>True) (λ_=>False) rfl rfl ?aP (λ_ hk=>hk.elim) ?aF ?aO ?aB ?aS ?aL ?_;(case aP=>exact rfl);(case aF=>exact(λb hb=>trivial));(case aO=>exact HR.1);(case aB=>exact HB.1);(case aS=>exact HB.1.size);(case aL=>have:=HLl.1;omega);intro vap wap ho hb hg hat;have HO3:=MD ho;have HB6:=MD hb;clear ho hb hg hat))
    go_roundw
    case rel=>exact⟨i+1,by go_num,⟨⟨HIl.1,HB6.1,by rw[HS.1,if_pos HO1.1,<-HLe.1];exact HO3.1⟩⟩⟩
    case measure=>have:=HIl.1;simp[Jj];omega
   .have q1:(x.op==1)=Ik:=beq_eq_false_iff_ne.mpr h1
    have HO1:=MD h1;clear h1;go_wp2;go_roundw
    case rel=>exact⟨i+1,by go_num,⟨⟨HIl.1,HB.1,by rw[HS.1,if_neg HO1.1,<-HLe.1];exact HR.1⟩⟩⟩
    case measure=>have:=HIl.1;simp[Jj];omega
  .obtain rfl:i=xs.length:=by omega
   rw[Kh,HXs.1]at hR;have HR:=MD hR;have HB:=MD hb;clear hi hb hR HI hil;go_wp2;go_ret;exact⟨_,rfl,Kd.R_lower HR.1 HB2.1.size,af HB2.1 HB.1⟩
theorem sJ(ks:List Int)(a:Int)(n:Nat):∀m,bP ks (n+m) a=((bP ks n a).1++(bP ks m (bP ks n a).2).1,(bP ks m (bP ks n a).2).2)
 |0=>by simp[bP]
 |m+1=>by
  rw[show n+(m+1)=n+m+1 by omega,bP,sJ ks a n m,bP];simp
theorem RdT.drop{t:Nat}{W:Im}{ad:Addr}{c:Nat}{xs:List Int}(h:RdT (Kd.int .i64) t W (Ia (Ic ad) xs.length c) xs){n:Nat}(hn:n<=xs.length):RdT (Kd.int .i64) t W (Ia (Ic (ad.add n)) (xs.drop n).length (c-n)) (xs.drop n):=by
 obtain⟨A,c',e,hl,hC,ht⟩:=h;injection e with e1 e2 e3
 subst e1 e3;obtain⟨h1,h2,h3⟩:=hC;refine⟨_,_,rfl,by rw[Kk];omega,⟨rfl,by rw[Kk];omega,λhp=>⟨_,rfl,λj p hj=>?_⟩⟩,λad' h=>?_⟩
 .rw[Kk]at hp
  obtain⟨ad2,e,hc⟩:=h3 (by omega);obtain rfl:=Ii e;rw[J9]at hj;obtain⟨cs,q1,q2,q3⟩:=hc (n+j) p hj;refine⟨cs,q1,q2,λi u hu=>?_⟩;have:=q3 i u hu;rw[show(n+j)*(Kd.int .i64).sz+i=n+(j*(Kd.int .i64).sz+i) by show(n+j)*1+i=n+(j*1+i);omega]at this;rw[Addr.add_add];exact this
 .obtain rfl:=Ii h
  have hb:(ad.add n).block=ad.block:=by unfold Mo;split<;>rfl
  rw[hb];exact ht ad rfl
def lR(l:List Int)(i:Nat):List Int:=l.take i++IF (8-i) 0
theorem Dt{l:List Int}{i:Nat}(hl:8<=l.length)(hi:i<=8):(lR l i).length=8:=by unfold lR;simp;omega
theorem ER{l:List Int}{i:Nat}{x:Int}(hi:i<8)(hx:l[i]?=Ic x):(lR l i).set i x=lR l (i+1):=by
 have hl:=(Ip.1 hx).1;unfold lR;rw[List.set_append_right _ _ (by simp;omega),show i-(l.take i).length=0 by simp;omega,show 8-i=(8-(i+1))+1 by omega,List.replicate_succ,IY,List.take_add_one,hx];simp
structure z9(ks:List Int)(k:Nat)(at_:Int):Prop where
 d:gK ks (bP ks k 1000003).2=gK ks at_
 lo:1000003<=at_
 up:at_+fD ks at_<=1000003+fD ks 1000003+k
theorem z9.has{ks:List Int}{k:Nat}{at_:Int}(h:z9 ks k at_)(hm:at_∈ks):z9 ks k (at_+1):=by
 have:=fX hm;have:=h.up;have:=h.lo;exact⟨by rw[h.d,sH hm],by omega,by omega⟩
theorem z9.new{ks:List Int}{k:Nat}{at_:Int}(h:z9 ks k at_)(hm:at_ ∉ ks):(bP ks (k+1) 1000003).1=(bP ks k 1000003).1++[at_]/\z9 ks (k+1) (at_+1):=by
 have hd:=h.d;rw[sI hm]at hd;have:=pl ks at_;have:=h.up;have:=h.lo;refine⟨by rw[bP,hd],by rw[bP,hd],by omega,by omega⟩
theorem ux(f g:List In)(Af Ag:Option Addr)(cf cg:Nat)(w:Im)(hf:f.length<=200)(hg:g.length<=200)(hCf:Kd.C kIn w Af f.length f)(hCg:Kd.C kIn w Ag g.length g) :
  I9 If 10 #[Ia Af f.length cf,Ia Ag g.length cg] w λe w'=>∃v,e=Iv v/\CaV w' (az f g) v/\It w.heap.size w w':=by
 obtain⟨ks,hks⟩:=ME (frK f g);have hkl:ks.length<=400:=by rw[hks];unfold frK;rw[IV];have:=js f;have:=js g;omega
 obtain⟨w1,hw1⟩:∃w1,w1=w.alloc (Is dP 37):=⟨_,rfl⟩;obtain⟨B,hB⟩:=MF w.heap.size;have h1:w1.heap[B]?=Ic (.cells dP 37 (0,0)):=by rw[hw1,<-hB];exact Iu w _
 have hb1:It w.heap.size w w1:=by rw[hw1];exact ae (Il _ _) _
 have hCn:=o7 f g Af Ag cf cg w1 hf hg (Kd.C_below hCf hb1) (Kd.C_below hCg hb1);unfold frK at hks;rw[<-hks]at hCn;have HCn:=MD hCn;have HP1:=MD (λW=>kv Af f.length cf hf W);have HP2:=MD (λW=>kv Ag g.length cg hg W);have HW1:=MD hw1;have H1:=MD h1;have HB1:=MD hb1;have HBe:=MD hB;have HKl:=MD hkl;have HKs:=MD hks;have hf':(f.length:Int)<=200:=by omega
 have hg':(g.length:Int)<=200:=by omega
 obtain⟨N,hN⟩:=ME (f.length+g.length+2);have HN:=MD hN;have hNi:(f.length:Int)+(g.length:Int)+2=(N:Int):=by omega
 have hN':(N:Int)<=402:=by omega
 clear hf hg hCf hCg hCn hw1 h1 hb1 hkl hks hN;go_enter Tryz.func10,Tryz.ntmps10;go_upto_region 1 with fail
 refine ar HW1.1.symm ?_;clear hB HW1;go_upto_region 3 with(first
  |(go_at_call 27;(with_reducible refine(HP1.1 _).mono ?_);rintro e w9 ⟨rfl,rfl⟩;clear HP1)
  |(go_at_call 27;(with_reducible refine(HP2.1 _).mono ?_);rintro e w9 ⟨rfl,rfl⟩;clear HP2)
  |(go_at_call 28;refine HCn.1.mono ?_;rintro e w3 ⟨v,rfl,hR,hb⟩;obtain⟨AK,cK,rfl⟩:=Kd.R_slice hR;have HRK:=MD (show Kd.C (Kd.int .i64) w3 AK ks.length ks by obtain⟨A,c,e,_,h⟩:=Kd.R_reads hR;injection e with e;subst e;exact h);have HB3:=MD (af HB1.1 hb);have H13:=MD (ag H1.1 hb);clear hR hb))
 clear hNi HCn H1 HB1;go_wp2;go_loopw [7,8] (λv j wr=>∃(k:Nat) (at_:Int),j=Ib Ie at_/\aa (k<=8+N/\z9 ks k at_/\It w3.heap.size w3 wr/\Kd.R (Kd.int .i64) 2 wr w3.heap.size (λ_=>True) v (bP ks k 1000003).1)) (λ_ j _=>2000000-(Jj j).toNat)
 case atStart=>exact⟨0,1000003,rfl,⟨⟨ID _,⟨rfl,J7 _,by omega⟩,Il _ _,Kd.R_nil _ _ _ _ _⟩⟩⟩
 case round=>
  obtain⟨k,at_,rfl,HI⟩:=hrel;obtain⟨hk,hd,hb,hR⟩:=HI.1;have hlo:=hd.lo;have hup:=hd.up;have hov:=m6 ks 1000003;have hkl2:=HKl.1;have hat:at_<=1001000:=by omega
  have hl:(bP ks k 1000003).1.length=k:=cI _ _ _;obtain⟨L,hL⟩:=ME ((bP ks k 1000003).1);rw[<-hL]at hR hl;have HLe:=MD hL;have HD:=MD hd;have HB:=MD hb;have HR:=MD hR;have HLl:=MD hl;by_cases hk8:k<8+N
  .have hk8':(L.length:Int)<8+(N:Int):=by omega
   have HK:=MD hk8;have HH:=MD (λW (hb:It w3.heap.size w3 W)=>BI ks AK cK at_ W (Kd.C_below HRK.1 hb) HKl.1);obtain⟨AX,cX,rfl⟩:=Kd.R_slice hR;obtain⟨b,hbm⟩:=ME (decide (at_∈ks));rw[<-hbm]at HH;have HBm:=MD hbm;clear hk hd hb hR hup hov hkl2 hl hL hk8 HI hbm;cases b with
   |true=>
    go_wp2_with (go_at_call 29;refine(HH.1 wr HB.1).mono ?_;rintro e w5 ⟨rfl,rfl⟩;clear HH);go_roundw
    case rel=>exact⟨k,at_+1,rfl,⟨⟨Mv HK.1,HD.1.has (of_decide_eq_true HBm.1.symm),HB.1,by rw[<-HLe.1];exact HR.1⟩⟩⟩
    case measure=>simp[Jj];omega
   |false=>
    have hLl:L.length<=410:=by have:=HLl.1;have:=HK.1;omega
    go_wp2_with (first
     |(go_at_call 29;refine(HH.1 wr HB.1).mono ?_;rintro e w5 ⟨rfl,rfl⟩;clear HH)
     |((with_reducible refine a6 (b:=.append) (xs:=#[.tmp 31,.tmp 33]) rfl ?_);at_builtin;refine Kd.R_append (Kd.int .i64) (w0:=w3) w3.heap.size rfl (.tmp 31) (.tmp 33) 35 2 (Ib Ie 0) 8 rfl Lu jP rfl (by decide) (by omega) (Ia AX L.length cX) (L) (at_) [Ib Ie at_] (λ_=>True) (λ_=>False) rfl rfl ?aP (λ_ hk=>hk.elim) ?aF ?aO ?aB ?aS ?aL ?_;(case aP=>exact rfl);(case aF=>exact(λb hb=>trivial));(case aO=>exact HR.1);(case aB=>exact HB.1);(case aS=>exact HB.1.size);(case aL=>omega);intro vap wap ho hb hg hat;have HO3:=MD ho;have HB6:=MD hb;clear ho hb hg hat))
    go_roundw
    case rel=>
     obtain⟨q1,q2⟩:=HD.1.new (of_decide_eq_false HBm.1.symm);exact⟨k+1,at_+1,rfl,⟨⟨HK.1,q2,HB6.1,by rw[q1,<-HLe.1];exact HO3.1⟩⟩⟩
    case measure=>simp[Jj];omega
  .obtain rfl:k=8+N:=by omega
   have hk8':¬(L.length:Int)<8+(N:Int):=by omega
   obtain⟨AX,cX,rfl,hc,hC⟩:=Kd.R_reads hR;obtain⟨ad,rfl⟩:∃ad,AX=Ic ad:=by obtain⟨ad,e,_⟩:=hC.2.2 (by omega);exact⟨ad,e⟩
   have HRX:=MD (show RdT (Kd.int .i64) 2 wr (Ia (Ic ad) L.length cX) L from RdT.of_R hR);have hl8:(8:Int)<=(L.length:Int):=by omega
   have hlc:(L.length:Int)<=(cX:Int):=by omega
   have hc8:¬cX=8:=by have:=HN.1;omega
   have HA:=MD (show(∃a',Ic ad=Ic a')from⟨_,rfl⟩);clear hk hd hb hR hup hov hkl2 hl hL hk8 HI HR hc hC;go_upto_region 10 with fail
   obtain⟨vA,hvA⟩:=ME (Ia (Ic ⟨ad.block,ad.off+8,Ih⟩) (L.length-8) (cX-8));obtain⟨G,hG⟩:=MF wr.heap.size;obtain⟨w6,hw6⟩:∃w6,w6=wr.alloc (Is (cac r8 (Ia Ih 0 0) vA (N:Int)).toArray 37):=⟨_,rfl⟩;refine ar (W':=w6) (by rw[hw6,hvA];rfl) ?_;have HG6:=MD (show w6.heap[G]?=Ic (.cells (cac (lR L 0) (Ia Ih 0 0) vA (N:Int)).toArray 37 (0,0)) by rw[hw6,<-hG];exact Iu wr _);have HRY:=MD (show RdT (Kd.int .i64) 2 w6 vA (L.drop 8) by
    have h:=HRX.1.drop (n:=8) (by omega);rw[hvA];have e:(L.drop 8).length=L.length-8:=by rw[Kk]
    rw[e]at h;have h2:RdT (Kd.int .i64) 2 wr (Ia (Ic ⟨ad.block,ad.off+8,Ih⟩) (L.length-8) (cX-8)) (L.drop 8):=h;rw[hw6];exact h2.below (ae (Il _ _) _))
   have HRX6:=MD (show RdT (Kd.int .i64) 2 w6 (Ia (Ic ad) L.length cX) L by rw[hw6];exact HRX.1.below (ae (Il _ _) _));have HB6:=MD (show It w.heap.size w w6 by rw[hw6];exact ae (af HB3.1 HB.1) _);have HB16:=MD (show w6.heap[B]?=Ic (.cells dP 37 (0,0)) by rw[hw6];exact aT (ag H13.1 HB.1) _);have HBG:=MD (show B<G by rw[<-hG];have:=aj (ag H13.1 HB.1);exact this);have HVA:=MD hvA;have HL10:=MD (show 8<=L.length by omega);rw[hG];clear hw6 hG hvA HRX HB H13;go_wp2;go_loopw [10] (λj wr=>∃k:Nat,j=Ib Ie k/\aa (k<=8/\Fr (λj=>j=G) w6 wr/\wr.heap[G]?=Ic (.cells (cac (lR L k) (Ia Ih 0 0) vA (N:Int)).toArray 37 (0,0)))) (λj _=>8-(Jj j).toNat)
   case atStart=>exact⟨0,rfl,⟨⟨ID _,Fr.refl _ _,HG6.1⟩⟩⟩
   case round=>
    obtain⟨k,rfl,HI⟩:=hrel;obtain⟨hk,hf,hg⟩:=HI.1;have HF:=MD hf;have HGk:=MD hg;have htag:∀k cs fr,k=G->w6.heap[k]?≠Ic (.cells cs 2 fr):=λk cs fr e=>by subst e;rw[HG6.1];simp
    by_cases hk8:k<8
    .have hk8':(k:Int)<8:=by omega
     have hkL:k<L.length:=by have:=HL10.1;omega
     have hkL':(k:Int)<(L.length:Int):=by omega
     obtain⟨x,hx⟩:∃x,L[k]?=Ic x:=⟨_,Ig hkL⟩;obtain⟨Aq,cq,eq,_,hC,_⟩:=HRX6.1.fr aC hf htag;injection eq with eq
     subst eq;obtain⟨ad2,cs,eA,_,hK,hc⟩:=b_ hC k hkL x hx;injection eA with eA
     subst eA;obtain rfl:cs=[Ib Ie x]:=hK;have vx:=hc 0 _ rfl;rw[show k*(Kd.int .i64).sz+0=k from JQ k]at vx;have hlr:=Dt HL10.1 (Mv hk8);obtain⟨z,hz⟩:∃z,(lR L k)[k]?=Ic z:=⟨_,Ig (by omega)⟩;have cG:=(show wr.cell? ⟨G,k,Ih⟩=Ic (Ib Ie z) by rw[aq hg];unfold cac;rw[Jg (by rw[Jb,hlr];exact hk8),IK,hz];rfl);have fG:=au hg k;have HK:=MD hk8;have HS:=MD (ER hk8 hx);have HLr:=MD hlr;clear hk hf hg htag hkL hx hC hc hz hlr hk8 HI;go_wp2;have h9:=aR HGk.1 k (Ib Ie x);rw[tT (lR L k) k (by rw[HLr.1];exact HK.1) x (Ia Ih 0 0) vA (N:Int),HS.1]at h9;have HG9:=MD h9;clear h9;go_roundw
     case rel=>exact⟨k+1,by go_num,⟨⟨HK.1,HF.1.trans (Fr.cell (S:=λj=>j=G) (p:=⟨G,k,Ih⟩) rfl _),HG9.1⟩⟩⟩
     case measure=>have:=HK.1;simp[Jj];omega
    .obtain rfl:k=8:=by omega
     have HB16':=MD ((hf.block B (aj HB16.1) (by have:=HBG.1;omega)).trans HB16.1);have HRYk:=MD (HRY.1.fr aC hf htag);have HR8:=MD (Dt HL10.1 (Iz 8));have HBk:=MD (Fr.below HB6.1 hf (λk hk e=>by have:=HBG.1;have:=HBe.1;omega) HB6.1.size);clear hk hf hg htag hk8 HI;obtain⟨Av,cv,hva,_⟩:=HRYk.1;have HVa2:=MD hva;clear hva;go_wp2_with (first
      |((with_reducible refine ai (N:=52) rfl ?_);refine II rfl 37 _ rfl G rfl 37 _ (0,0) _ HGk.1 I4 rfl (bv HR8.1) ?_)
      |((with_reducible refine ap (t:=37) (p:=4) rfl ?_);refine an rfl 37 _ _ rfl B (cac (lR L 8) (Ia Ih 0 0) vA (N:Int)).toArray rfl rfl 37 dP HB16'.1 (bv HR8.1) (caz HR8.1) (by rw[HVa2.1];exact fN) ?_;intro w8 h8 hf8;have H8:=MD h8;have HF8:=MD hf8;clear h8 hf8))
     refine IG (v:=IA (cac (lR L 8) (Ia Ih 0 0) vA (N:Int)).toArray) (IX rfl _ _ B 37 _ (0,0) _ rfl H8.1 I4 rfl (bv HR8.1)) rfl ⟨_,rfl,?_,Fr.below HBk.1 HF8.1 (λk hk e=>by have:=HBe.1;omega) HBk.1.size⟩;have hadd:=sJ ks 1000003 8 N;have hLe:L=(bP ks 8 1000003).1++(bP ks N (bP ks 8 1000003).2).1:=by rw[HLe.1,hadd]
     have hl8:(bP ks 8 1000003).1.length=8:=cI _ _ _;have hc:az f g=⟨lR L 8,[],L.drop 8,(N:Int)⟩:=by
      unfold az frN;unfold frK;rw[<-HKs.1,<-HN.1];congr 1
      .unfold lR
       rw[hLe,Kx (by omega),List.take_of_length_le (by omega)];simp
      .rw[hLe,MA (by omega),Ju (by omega),Ka]
     rw[hc];exact⟨Ia Ih 0 0,vA,rfl,HR8.1,RdT.nil _ _ _,HRYk.1.fr aC HF8.1 (λk cs fr e=>by subst e;rw[HB16'.1];simp)⟩
theorem yO(c:Ca)(v u:Io)(w:Im)(hv:CaV w c v)(hu:CaV w c u)(hh:c.h.length<=5000)(ha:c.ans.length<=5000):I9 If 11 #[v,u] w λe w'=>e=Iv (Iy Ir)/\It w.heap.size w w':=by
 obtain⟨vH,vA,rfl,h8,⟨H1,m1,rfl,_,HC1,_⟩,⟨A1,n1,rfl,_,AC1,_⟩⟩:=hv;obtain⟨uH,uA,rfl,_,⟨H2,m2,rfl,_,HC2,_⟩,⟨A2,n2,rfl,_,AC2,_⟩⟩:=hu;obtain⟨L,hL⟩:∃L,L=cac c.r (Ia H1 c.h.length m1) (Ia A1 c.ans.length n1) c.fuel:=⟨_,rfl⟩;obtain⟨M,hM⟩:∃M,M=cac c.r (Ia H2 c.h.length m2) (Ia A2 c.ans.length n2) c.fuel:=⟨_,rfl⟩;rw[<-hL,<-hM];obtain⟨r,hr⟩:=ME c.r;obtain⟨fu,hfu⟩:=ME c.fuel;obtain⟨hs,hhs⟩:=ME c.h;obtain⟨ns,has⟩:=ME c.ans;rw[<-hr,<-hfu,<-hhs,<-has]at hL hM;rw[<-hr]at h8;rw[<-hhs]at hh HC1 HC2;rw[<-has]at ha AC1 AC2;have H8:=MD h8;have HLM:=MD (IE hL hM);have HS1:=MD (λW (hb:It w.heap.size w W)=>pY hs hs H1 H2 m1 m2 W (Kd.C_below HC1 hb) (Kd.C_below HC2 hb) hh hh);have HS2:=MD (λW (hb:It w.heap.size w W)=>pY ns ns A1 A2 n1 n2 W (Kd.C_below AC1 hb) (Kd.C_below AC2 hb) ha ha);rw[decide_eq_true rfl]at HS1;rw[decide_eq_true rfl]at HS2;clear h8 hL hM HC1 HC2 AC1 AC2 hh ha hr hfu hhs has;go_enter Tryz.func11,Tryz.ntmps11;go_upto_region 1 with fail
 obtain⟨g,hg⟩:=MF w.heap.size;obtain⟨w1,hw1⟩:∃w1,w1=(w.alloc (Is L.toArray 37)).alloc (Is M.toArray 37):=⟨_,rfl⟩;refine ar hw1.symm ?_;obtain⟨h2,h1,hb⟩:=dz (w:=w) (A:=Is L.toArray 37) (B:=Is M.toArray 37) (w1:=w1) (by rw[hw1];exact Il _ _);rw[hg]at h1 h2;rw[hg];have HB:=MD hb;have HL1:=MD h1;have HM1:=MD h2;clear hw1 h1 h2 hb;go_wp2;go_loopw [5] (λj wr=>∃k:Nat,j=Ib Ie k/\aa (k<=8/\Fr (λ_=>False) w1 wr)) (λj _=>8-(Jj j).toNat)
 case atStart=>exact⟨0,rfl,⟨⟨ID _,Fr.refl _ _⟩⟩⟩
 case round=>
  obtain⟨k,rfl,HI⟩:=hrel;obtain⟨hk,hf⟩:=HI.1;have bL:=(hf.block _ (aj HL1.1) (λh=>h)).trans HL1.1;have bM:=(hf.block _ (aj HM1.1) (λh=>h)).trans HM1.1;have HF:=MD hf;by_cases hk8:k<8
  .have hk8':(k:Int)<8:=by omega
   have a0:=(show wr.cell? ⟨g,k,Ih⟩=Ic (Ib Ie (r.getD k 0)) by rw[aq bL,HLM.1.1,tU H8.1 hk8]);have b0:=(show wr.cell? ⟨g+1,k,Ih⟩=Ic (Ib Ie (r.getD k 0)) by rw[aq bM,HLM.1.2,tU H8.1 hk8]);have HK:=MD hk8;obtain⟨x,hx⟩:=ME (r.getD k 0);rw[<-hx]at a0 b0;have q:(x != x)=Ik:=by simp
   clear hk hf bL bM hk8 HI hx;go_upto_region 4 with fail
   refine KF (by kernel_rfl) (by kernel_rfl) ?_
   repeat still_step
   refine Mc ?_;change(Exit.then _ _) _ _ wr.drew;obtain⟨w2,hw2⟩:=ME wr.drew;have HF2:=MD (show Fr (λ_=>False) w1 w2 by rw[hw2];exact HF.1.trans Fr.drew);rw[<-hw2];clear hw2 a0 b0;go_wp2;go_roundw
   case rel=>exact⟨k+1,by go_num,⟨⟨HK.1,HF2.1⟩⟩⟩
   case measure=>have:=HK.1;simp[Jj];omega
  .obtain rfl:k=8:=by omega
   have a8:=(show wr.cell? ⟨g,8,Ih⟩=Ic (.slice H1 hs.length m1) by rw[aq bL,HLM.1.1,show 8=8+0 from rfl,dj H8.1];rfl);have a9:=(show wr.cell? ⟨g,9,Ih⟩=Ic (.slice A1 ns.length n1) by rw[aq bL,HLM.1.1,show 9=8+1 from rfl,dj H8.1];rfl);have a10:=(show wr.cell? ⟨g,10,Ih⟩=Ic (Ib Ie fu) by rw[aq bL,HLM.1.1,show 10=8+2 from rfl,dj H8.1];rfl);have b8:=(show wr.cell? ⟨g+1,8,Ih⟩=Ic (.slice H2 hs.length m2) by rw[aq bM,HLM.1.2,show 8=8+0 from rfl,dj H8.1];rfl);have b9:=(show wr.cell? ⟨g+1,9,Ih⟩=Ic (.slice A2 ns.length n2) by rw[aq bM,HLM.1.2,show 9=8+1 from rfl,dj H8.1];rfl);have b10:=(show wr.cell? ⟨g+1,10,Ih⟩=Ic (Ib Ie fu) by rw[aq bM,HLM.1.2,show 10=8+2 from rfl,dj H8.1];rfl);have HBw:=MD (Fr.below HB.1 hf (λk hk h=>h) HB.1.size);have hgl:=aj bM;have q:(fu==fu)=Ir:=by simp
   clear hk hf bL bM hk8 HI;go_wp2_with (first
    |(go_at_call 30;((with_reducible refine(HS1.1 wr HBw.1).mono ?_);rintro e w4 ⟨rfl,hb4⟩;have HB4:=MD hb4;have a9:=(hb4.cell (p:=⟨g,9,Ih⟩) (show g<_ by omega)).trans a9;have b9:=(hb4.cell (p:=⟨g+1,9,Ih⟩) (show g+1<_ by omega)).trans b9;have a10:=(hb4.cell (p:=⟨g,10,Ih⟩) (show g<_ by omega)).trans a10;have b10:=(hb4.cell (p:=⟨g+1,10,Ih⟩) (show g+1<_ by omega)).trans b10;have hgl:=Kw hgl hb4.size;clear hb4 HS1))
    |(go_at_call 30;(with_reducible refine(HS2.1 w4 (af HBw.1 HB4.1)).mono ?_);rintro e w5 ⟨rfl,hb5⟩;have HB5:=MD (af (af HBw.1 HB4.1) hb5);have a10:=(hb5.cell (p:=⟨g,10,Ih⟩) (show g<_ by omega)).trans a10;have b10:=(hb5.cell (p:=⟨g+1,10,Ih⟩) (show g+1<_ by omega)).trans b10;clear hb5 HS2))
   go_ret;exact⟨rfl,HB5.1⟩
end Go.Proofs.YtlinbehijfcelaaGreatDoor.Top
