/- Walks of the program, and what it computes, told plainly. No condition. (USR USS UTA UTB VA VB VC TH) -/
import Derived.Below
import Derived.Deep.Draws
import Derived.Deep.AppendLies
import Derived.Maps.AppendAt
import Derived.OwnWalk
import Derived.Laws.BytesArg
import Derived.Laws.MakeOwn
import Derived.Laws.OwnMore
import Derived.Deep.OwnRows
import Derived.Tactics
import Derived.Lib.ConvBytes
import Derived.Laws.Slices
import Derived.WalkKit
import Derived.KernelRfl
import Derived.RowKit3
import Derived.Deep.LoopGhost
import Derived.Deep.QuietTactic
import Derived.BigQuiet
import Derived.WideLaws
import Derived.Deep.DeepCutAuto
import Derived.Deep.CutBlock
import Derived.Deep.RegionHeld3
import Derived.Laws.Rows
import Derived.Lib.AppendStr
import Derived.ArgAppend
import Derived.Laws.IdiomCopy
import Derived.RowKit
import Derived.OrdersHeld
import Derived.Laws.BitsLemmas
import Derived.Laws.StructEq
import Derived.Test.YtlinbehijfcelaaGreatDoorProg
import Derived.Deep.WholeRow
import Derived.Laws.CopyOwn
import Derived.Carry
import Derived.ChangeKeysEq
import Derived.Laws.RangeAny
import Derived.Deep.MidRow
import Derived.Laws.Tables
import Derived.StillTailTactics
import Derived.Test.YtlinbehijfcelaaGreatDoorPA
import Derived.Test.YtlinbehijfcelaaGreatDoorPB
import Derived.Test.YtlinbehijfcelaaGreatDoorPC
import Derived.Test.YtlinbehijfcelaaGreatDoorPD
import Derived.Test.YtlinbehijfcelaaGreatDoorPE
import Derived.Test.YtlinbehijfcelaaGreatDoorPF
import Derived.Test.YtlinbehijfcelaaGreatDoorPG
import Derived.Test.YtlinbehijfcelaaGreatDoorPH
import Derived.Test.YtlinbehijfcelaaGreatDoorPJ
import Derived.Test.YtlinbehijfcelaaGreatDoorPK
set_option linter.unusedVariables false
set_option linter.unusedSimpArgs false
set_option linter.unusedSectionVars false
set_option maxHeartbeats 8000000
set_option maxRecDepth 100000
open Go renaming Calls->I9,Operand->Lf,Program->Jn,TypeId->Je,Value->Io,World->Im,bodyPost_ret->IG,heap_alloc_last->Iu,heap_alloc_new->JZ,loadVar->Le,results->Lg,run_underlying->I2,setRow_heap->JX,undef->KG,wpList->Kg,wpStill_nil->Mc,wp_region_still_lit->KF,zeroValue->Mr
open Go.Value renaming agg->IA,bool->Iy,int->Ib,oneCell'->IH,pointer->Iq,slice->Ia,tuple->IR
open Go.Ending renaming returned->Iv
open Go.Proofs.Tryz renaming func111->Ko,ntmps111->Ki,prog->If,underlying135->IN,underlying3->Jr,underlying35->Lu
open Go.RowKit renaming Below->It,intOf->Jj,wrap64->JW
open Bool renaming false->Ik,false_ne_true->Mp,true->Ir
open Go.IntKind renaming i64->Ie
open Nat renaming le_refl->Iz,mul_one->JQ,zero_add->KB,zero_le->ID
open Go.RowKit.Below renaming refl->Il
open Option renaming getD_some->JL,none->Ih,some->Ic
open List renaming drop_eq_getElem_cons->Jc,getD_eq_getElem?_getD->Ij,getElem?_append_left->Jg,getElem?_append_right->IW,getElem?_cons_succ->Kc,getElem?_eq_getElem->Ig,getElem?_eq_some_iff->Ip,getElem?_map->IK,length_append->IV,length_cons->Jz,length_nil->Lj,length_set->Jq,mem_cons->I7,mem_of_getElem?->Iw,range->Jy,range_succ->Lc,replicate->IF,setIfInBounds_toArray->IP,set_cons_succ->IZ,set_cons_zero->IY,take_length->Kh,take_succ_eq_append_getElem->JC
open And renaming intro->IE
open Go.Obj renaming cells->Is
open Option.some renaming inj->Ii,injEq->Ja
open Go.Act renaming put->KY
open Array renaming getElem?_eq_some_iff->IB,replicate->Lp
open Go.Addr renaming add->Mo
open Go.World renaming cell?->My
open Int renaming le_refl->J7,tdiv->Lm,toNat_natCast->IC
open Go.Instr renaming findNow->Kz,lookup->Kr,mapUpdate->LK
open Go.MapKept renaming run_checkKey->Mf,run_findKey->Mh,run_getObj_map->J6
open Go.Result renaming andThen->Jf
open Prod.mk renaming injEq->IM
namespace Go.Proofs.YtlinbehijfcelaaGreatDoor.Top
open Go.RowKit Go.Proofs.YtlinbehijfcelaaGreatDoorW.PrintWords Go.Proofs.YtlinbehijfcelaaGreatDoorW.PrintLast
theorem mg(xs ys:List Src)(AX AY:Option Addr)(cX cY:Nat)(w:Im)(hX:Kd.C fF w AX xs.length xs)(hY:Kd.C fF w AY ys.length ys)(hx:xs.length<=5000)(hy:ys.length<=5000) :
  I9 If 58 #[Ia AX xs.length cX,Ia AY ys.length cY] w λe w'=>e=Iv (Iy (decide (xs=ys)))/\It w.heap.size w w':=by
 obtain⟨r,hr⟩:=ME (decide (xs=ys));rw[<-hr];have HR:=MD hr;have HX:=MD hX;have HY:=MD hY;have hx':(xs.length:Int)<=5000:=by omega
 have hy':(ys.length:Int)<=5000:=by omega
 clear hr hX hY;by_cases hl:xs.length=ys.length
 .have hlb:((xs.length:Int) != (ys.length:Int))=Ik:=by simp[hl]
  have HL:=MD hl;clear hl;go_enter Tryz.func58,Tryz.ntmps58;go_upto_region 4 with fail
  go_loopw [14] (λj wr=>∃(k:Nat),j=Ib Ie k/\aa (k<=xs.length/\It w.heap.size w wr/\xs.take k=ys.take k)) (λj _=>xs.length-(Jj j).toNat)
  case atStart=>exact⟨0,rfl,⟨⟨ID _,Il _ _,rfl⟩⟩⟩
  case round=>
   obtain⟨k,rfl,HK⟩:=hrel;obtain⟨hk,hb,ht⟩:=HK.1;by_cases hkl:k<xs.length
   .have hkl':(k:Int)<(xs.length:Int):=by omega
    have hky:k<ys.length:=by have:=HL.1;omega
    have hky':(k:Int)<(ys.length:Int):=by omega
    obtain⟨x,hxx⟩:∃x,xs[k]?=Ic x:=⟨_,Ig hkl⟩;obtain⟨y,hyy⟩:∃y,ys[k]?=Ic y:=⟨_,Ig hky⟩;obtain⟨adX,csX,eX,hKX,hldX⟩:=ba (P:=If) HX.1 hb k hkl x hxx 135 IN rfl aK;subst eX;obtain rfl:csX=[Ib Ie x.kind,Ib Ie x.n]:=hKX;have HLX:=MD (show(Le 135 (adX.add (k*2))).run If wr=.ok (IA #[Ib Ie x.kind,Ib Ie x.n]) wr from hldX);have htx:xs.take (k+1)=xs.take k++[x]:=by rw[JC hkl,(Ip.1 hxx).2]
    have hty:ys.take (k+1)=ys.take k++[y]:=by rw[JC hky,(Ip.1 hyy).2]
    have HT:=MD (IE ht (IE htx hty));have HB:=MD hb;have HYY:=MD hyy;have HKl:=MD hkl;have HKy:=MD hky;clear hk hb ht hkl hky hxx hyy hldX htx hty HK;go_upto_region 6 with(first
     |((with_reducible refine ai (N:=18) rfl ?_);refine av rfl 135 _ rfl (adX.add (k*2)) rfl _ HLX.1 ?_))
    obtain⟨w1,hw1⟩:∃w1,w1=wr.alloc (Is #[Ib Ie x.kind,Ib Ie x.n] 135):=⟨_,rfl⟩;have hb1:It w.heap.size w w1:=by rw[hw1];exact ae HB.1 _
    have h6:w1.heap[wr.heap.size]?=Ic (.cells #[Ib Ie x.kind,Ib Ie x.n] 135 (0,0)):=by rw[hw1];exact Iu wr _
    refine ar hw1.symm ?_;obtain⟨g6,hg6⟩:=MF wr.heap.size;rw[hg6]at h6 ⊢;obtain⟨adY,csY,eY,hKY,hldY⟩:=ba (P:=If) HY.1 (aA hb1) k HKy.1 y HYY.1 135 IN rfl aK;subst eY;obtain rfl:csY=[Ib Ie y.kind,Ib Ie y.n]:=hKY;have HLY:=MD (show(Le 135 (adY.add (k*2))).run If w1.drew=.ok (IA #[Ib Ie y.kind,Ib Ie y.n]) w1.drew from hldY);have HB1:=MD hb1;have H6:=MD h6;clear hw1 hb1 h6 hg6 hldY;refine KF (by kernel_rfl) (by kernel_rfl) ?_;refine bO rfl (ao rfl rfl (aY H6.1 IN rfl aK)) ?_;still_step;still_step;still_step;refine bO rfl (ao rfl rfl HLY.1) ?_;refine bO rfl (qR rfl rfl rfl _) ?_;refine Mc ?_;change(Exit.then _ _) _ _ w1.drew;obtain⟨w2,hw2⟩:=ME w1.drew;rw[<-hw2];have HB2:=MD (show It w.heap.size w w2 by rw[hw2];exact aA HB1.1);clear hw2;by_cases hxy:x=y
    .have hd:(!decide (x=y))=Ik:=by simp[hxy]
     have HXY:=MD hxy;clear hxy;rw[hd];go_wp2;go_roundw
     case rel=>exact⟨k+1,by go_num,⟨⟨HKl.1,HB2.1,by rw[HT.1.2.1,HT.1.2.2,HT.1.1,HXY.1]⟩⟩⟩
     case measure=>have:=HKl.1;simp[Jj];omega
    .have hd:(!decide (x=y))=Ir:=by simp[hxy]
     have HXY:=MD hxy;clear hxy;rw[hd];obtain rfl:r=Ik:=by
      rw[HR.1];refine decide_eq_false (λe=>HXY.1 ?_);have h1:=HT.1.2.1;rw[e,HT.1.2.2]at h1;have h2:=List.append_inj_right' h1 rfl;simpa using h2.symm
     go_wp2;go_ret;exact⟨rfl,HB2.1⟩
   .obtain rfl:k=xs.length:=by omega
    obtain rfl:r=Ir:=by
     rw[HR.1];refine decide_eq_true ?_;rw[Kh,HL.1,Kh]at ht;exact ht
    have HB:=MD hb;clear hk hb ht hkl HK;go_wp2;go_ret;exact⟨rfl,HB.1⟩
 .have hlb:((xs.length:Int) != (ys.length:Int))=Ir:=by simp;omega
  obtain rfl:r=Ik:=by
   rw[HR.1];exact decide_eq_false (λe=>hl (congrArg List.length e))
  clear hl;go_enter Tryz.func58,Tryz.ntmps58;go_wp2;go_ret;exact⟨rfl,Il _ _⟩
deriving instance DecidableEq for fi
deriving instance DecidableEq for kO
deriving instance DecidableEq for kV
theorem u_{w:Im}{x:fi}{c:List Io}(h:fg.K w x c):∃vA vO,c=[Ib Ie x.op,Ib Ie x.n,vA,vO]/\Rd fF w vA x.args/\Rd (Kd.int .i64) w vO x.outs:=by
 obtain⟨c0,c1,rfl,h0,c2,c3,rfl,h2,c4,c5,rfl,⟨A1,n1,rfl,h4,h5⟩,A2,n2,rfl,h6,h7⟩:=h;have h0':c0=[Ib Ie x.op]:=h0;have h2':c2=[Ib Ie x.n]:=h2;subst h0';subst h2';exact⟨_,_,rfl,⟨A1,n1,rfl,h4,h5⟩,⟨A2,n2,rfl,h6,h7⟩⟩
theorem Aw{w:Im}{x:kO}{c:List Io}(h:jj.K w x c):∃vF,c=[Ib Ie x.at_,vF]/\Rd fF w vF x.from_:=by
 obtain⟨c0,c1,rfl,h0,A,n,rfl,h2,h3⟩:=h;have h0':c0=[Ib Ie x.at_]:=h0;subst h0';exact⟨_,rfl,A,n,rfl,h2,h3⟩
structure FSm(a:kV):Prop where
 n:a.nodes.length<=5000
 v:a.vals.length<=5000
 na:∀x∈a.nodes,x.args.length<=5000/\x.outs.length<=5000
 vf:∀x∈a.vals,x.from_.length<=5000
structure zX(w W:Im)(a b:kV)(vNa vVa vNb vVb:Io):Prop where
 bw:It w.heap.size w W
 h2:W.heap[w.heap.size]?=Ic (.cells #[Ib Ie a.entry,vNa,vVa] 33 (0,0))
 h3:W.heap[w.heap.size+1]?=Ic (.cells #[Ib Ie b.entry,vNb,vVb] 33 (0,0))
theorem zX.below{w W W1:Im}{a b:kV}{vNa vVa vNb vVb:Io}(h:zX w W a b vNa vVa vNb vVb)(hb:It W.heap.size W W1):zX w W1 a b vNa vVa vNb vVb:=⟨af h.bw hb,ag h.h2 hb,ag h.h3 hb⟩
theorem jV{α:Type}{xs ys:List α}{k:Nat}{x:α}(h:xs.take k=ys.take k)(hx:xs[k]?=Ic x)(hy:ys[k]?=Ic x):xs.take (k+1)=ys.take (k+1):=by
 obtain⟨h1,e1⟩:=Ip.1 hx;obtain⟨h2,e2⟩:=Ip.1 hy;rw[JC h1,JC h2,h,e1,e2]
theorem fi.same{x y:fi}(h1:x.op=y.op)(h2:x.n=y.n)(h3:x.args=y.args)(h4:x.outs=y.outs):x=y:=by
 cases x;cases y;simp only at h1 h2 h3 h4;subst h1 h2 h3 h4;rfl
theorem kO.same{x y:kO}(h1:x.at_=y.at_)(h2:x.from_=y.from_):x=y:=by
 cases x;cases y;simp only at h1 h2;subst h1 h2;rfl
theorem kV.same{x y:kV}(h1:x.entry=y.entry)(h2:x.nodes=y.nodes)(h3:x.vals=y.vals):x=y:=by
 cases x;cases y;simp only at h1 h2 h3;subst h1 h2 h3;rfl
theorem k9{α:Type}{xs ys:List α}(h:xs.take xs.length=ys.take xs.length)(hl:xs.length=ys.length):xs=ys:=by
 rw[Kh,hl,Kh]at h;exact h
theorem yX(a b:kV)(vNa vVa vNb vVb:Io)(w:Im)(hNa:Rd fg w vNa a.nodes)(hVa:Rd jj w vVa a.vals)(hNb:Rd fg w vNb b.nodes)(hVb:Rd jj w vVb b.vals)(ha:FSm a)(hb:FSm b) :
  I9 If 35 #[IA #[Ib Ie a.entry,vNa,vVa],IA #[Ib Ie b.entry,vNb,vVb]] w λe w'=>e=Iv (Iy (decide (a=b)))/\It w.heap.size w w':=by
 obtain⟨r,hr⟩:=ME (decide (a=b));rw[<-hr];obtain⟨ANa,cNa,rfl,lNa,CNa⟩:=hNa;obtain⟨AVa,cVa,rfl,lVa,CVa⟩:=hVa;obtain⟨ANb,cNb,rfl,lNb,CNb⟩:=hNb;obtain⟨AVb,cVb,rfl,lVb,CVb⟩:=hVb;have HR:=MD hr;have HNa:=MD CNa;have HVa:=MD CVa;have HNb:=MD CNb;have HVb:=MD CVb;have HA:=MD ha;have HB:=MD hb;have n1:(a.nodes.length:Int)<=5000:=by have:=ha.n;omega
 have n2:(b.nodes.length:Int)<=5000:=by have:=hb.n;omega
 have v1:(a.vals.length:Int)<=5000:=by have:=ha.v;omega
 have v2:(b.vals.length:Int)<=5000:=by have:=hb.v;omega
 clear hr CNa CVa CNb CVb ha hb lNa lVa lNb lVb;go_enter Tryz.func35,Tryz.ntmps35;go_upto_region 1 with fail
 obtain⟨w1,hw1⟩:∃w1,w1=(w.alloc (Is #[Ib Ie a.entry,Ia ANa a.nodes.length cNa,Ia AVa a.vals.length cVa] 33)).alloc (Is #[Ib Ie b.entry,Ia ANb b.nodes.length cNb,Ia AVb b.vals.length cVb] 33):=⟨_,rfl⟩;have hs1:zX w w1 a b (Ia ANa a.nodes.length cNa) (Ia AVa a.vals.length cVa) (Ia ANb b.nodes.length cNb) (Ia AVb b.vals.length cVb):=by
  have h:=Iu (w.alloc (Is #[Ib Ie a.entry,Ia ANa a.nodes.length cNa,Ia AVa a.vals.length cVa] 33)) (Is #[Ib Ie b.entry,Ia ANb b.nodes.length cNb,Ia AVb b.vals.length cVb] 33 (0,0));rw[hw1];exact⟨ae (ae (Il _ _) _) _,aT (Iu w _) _,by simpa using h⟩
 refine ar hw1.symm ?_;obtain⟨g3,hg3⟩:=MF (w.heap.size+1);have HG3:=MD hg3;have c20:=(show w1.cell? ⟨w.heap.size,0,Ih⟩=Ic (Ib Ie a.entry) by rw[ah hs1.h2];rfl);have c21:=(show w1.cell? ⟨w.heap.size,1,Ih⟩=Ic (.slice ANa a.nodes.length cNa) by rw[ah hs1.h2];rfl);have c22:=(show w1.cell? ⟨w.heap.size,2,Ih⟩=Ic (.slice AVa a.vals.length cVa) by rw[ah hs1.h2];rfl);have c30:=(show w1.cell? ⟨g3,0,Ih⟩=Ic (Ib Ie b.entry) by rw[<-hg3,ah hs1.h3];rfl);have c31:=(show w1.cell? ⟨g3,1,Ih⟩=Ic (.slice ANb b.nodes.length cNb) by rw[<-hg3,ah hs1.h3];rfl);have c32:=(show w1.cell? ⟨g3,2,Ih⟩=Ic (.slice AVb b.vals.length cVb) by rw[<-hg3,ah hs1.h3];rfl);have HS1:=MD hs1;rw[hg3];clear hw1 hs1 hg3;by_cases e1:a.entry=b.entry
 .have q1:(a.entry != b.entry)=Ik:=by simp[e1]
  have E1:=MD e1;clear e1;by_cases e2:a.nodes.length=b.nodes.length
  .have q2:((a.nodes.length:Int) != (b.nodes.length:Int))=Ik:=by simp[e2]
   have E2:=MD e2;clear e2;by_cases e3:a.vals.length=b.vals.length
   .have q3:((a.vals.length:Int) != (b.vals.length:Int))=Ik:=by simp[e3]
    have E3:=MD e3;clear e3;go_upto_region 4 with fail
    go_loopw [38] (λj wr=>∃(k:Nat),j=Ib Ie k/\aa (k<=a.nodes.length/\zX w wr a b (Ia ANa a.nodes.length cNa) (Ia AVa a.vals.length cVa) (Ia ANb b.nodes.length cNb) (Ia AVb b.vals.length cVb)/\a.nodes.take k=b.nodes.take k)) (λj _=>a.nodes.length-(Jj j).toNat)
    case atStart=>exact⟨0,rfl,⟨⟨ID _,HS1.1,rfl⟩⟩⟩
    case round=>
     obtain⟨k,rfl,HK⟩:=hrel;obtain⟨hk,hs,ht⟩:=HK.1;clear c20 c21 c22 c30 c31 c32;by_cases hkl:k<a.nodes.length
     .have hkl':(k:Int)<(a.nodes.length:Int):=by omega
      have hky:k<b.nodes.length:=by have:=E2.1;omega
      have hky':(k:Int)<(b.nodes.length:Int):=by omega
      obtain⟨x,hxx⟩:∃x,a.nodes[k]?=Ic x:=⟨_,Ig hkl⟩;obtain⟨y,hyy⟩:∃y,b.nodes[k]?=Ic y:=⟨_,Ig hky⟩;obtain⟨adX,csX,eX,hKX,hldX⟩:=ba (P:=If) HNa.1 hs.bw k hkl x hxx 145 Tryz.underlying145 rfl qE;subst eX;obtain⟨_,_,rfl,⟨AXa,cXa,rfl,_,hXa⟩,AXo,cXo,rfl,_,hXo⟩:=u_ hKX;have hx1:=HA.1.na x (Iw hxx);have hy1:=HB.1.na y (Iw hyy);have HLX:=MD (show(Le 145 (adX.add (k*4))).run If wr=.ok (IA #[Ib Ie x.op,Ib Ie x.n,Ia AXa x.args.length cXa,Ia AXo x.outs.length cXo]) wr from hldX);have HXa:=MD hXa;have HXo:=MD hXo;have HXY:=MD (IE hxx hyy);have HSz:=MD (IE hx1 hy1);have o1:(x.outs.length:Int)<=5000:=by omega
      have o2:(y.outs.length:Int)<=5000:=by omega
      have HT:=MD ht;have HS:=MD hs;have HKl:=MD hkl;have HKy:=MD hky;clear hk hs ht hkl hky hxx hyy hldX hKX hXa hXo hx1 hy1 HK;go_upto_region 6 with(first
       |((with_reducible refine ai (N:=42) rfl ?_);refine av rfl 145 _ rfl (adX.add (k*4)) rfl _ HLX.1 ?_))
      obtain⟨w2,hw2⟩:∃w2,w2=wr.alloc (Is #[Ib Ie x.op,Ib Ie x.n,Ia AXa x.args.length cXa,Ia AXo x.outs.length cXo] 145):=⟨_,rfl⟩;have hs2:=HS.1.below (ae (Il wr.heap.size wr) (Is #[Ib Ie x.op,Ib Ie x.n,Ia AXa x.args.length cXa,Ia AXo x.outs.length cXo] 145));rw[<-hw2]at hs2;have h6:w2.heap[wr.heap.size]?=Ic (.cells #[Ib Ie x.op,Ib Ie x.n,Ia AXa x.args.length cXa,Ia AXo x.outs.length cXo] 145 (0,0)):=by rw[hw2];exact Iu wr _
      refine ar hw2.symm ?_;obtain⟨g6,hg6⟩:=MF wr.heap.size;rw[hg6]at h6 ⊢;have c31:=(show w2.cell? ⟨g3,1,Ih⟩=Ic (.slice ANb b.nodes.length cNb) by have h:=hs2.h3;rw[HG3.1]at h;rw[ah h];rfl);obtain⟨adY,csY,eY,hKY,hldY⟩:=ba (P:=If) HNb.1 hs2.bw k HKy.1 y HXY.1.2 145 Tryz.underlying145 rfl qE;subst eY;obtain⟨_,_,rfl,⟨AYa,cYa,rfl,_,hYa⟩,AYo,cYo,rfl,_,hYo⟩:=u_ hKY;have HLY:=MD (show(Le 145 (adY.add (k*4))).run If w2=.ok (IA #[Ib Ie y.op,Ib Ie y.n,Ia AYa y.args.length cYa,Ia AYo y.outs.length cYo]) w2 from hldY);have HYa:=MD hYa;have HYo:=MD hYo;have HS2:=MD hs2;have H6:=MD h6;clear hw2 hs2 h6 hg6 hldY hKY hYa hYo;go_upto_region 7 with(first
       |((with_reducible refine ai (N:=47) rfl ?_);refine av rfl 145 _ rfl (adY.add (k*4)) rfl _ HLY.1 ?_))
      obtain⟨w3,hw3⟩:∃w3,w3=w2.alloc (Is #[Ib Ie y.op,Ib Ie y.n,Ia AYa y.args.length cYa,Ia AYo y.outs.length cYo] 145):=⟨_,rfl⟩;have hb3:It w2.heap.size w2 w3:=by rw[hw3];exact ae (Il _ _) _
      have h7:w3.heap[w2.heap.size]?=Ic (.cells #[Ib Ie y.op,Ib Ie y.n,Ia AYa y.args.length cYa,Ia AYo y.outs.length cYo] 145 (0,0)):=by rw[hw3];exact Iu w2 _
      refine ar hw3.symm ?_;obtain⟨g7,hg7⟩:=MF w2.heap.size;rw[hg7]at h7 ⊢;have hs3:=HS2.1.below hb3;have h63:=ag H6.1 hb3;have d60:=(show w3.cell? ⟨g6,0,Ih⟩=Ic (Ib Ie x.op) by rw[ah h63];rfl);have d61:=(show w3.cell? ⟨g6,1,Ih⟩=Ic (Ib Ie x.n) by rw[ah h63];rfl);have d62:=(show w3.cell? ⟨g6,2,Ih⟩=Ic (.slice AXa x.args.length cXa) by rw[ah h63];rfl);have d70:=(show w3.cell? ⟨g7,0,Ih⟩=Ic (Ib Ie y.op) by rw[ah h7];rfl);have d71:=(show w3.cell? ⟨g7,1,Ih⟩=Ic (Ib Ie y.n) by rw[ah h7];rfl);have d72:=(show w3.cell? ⟨g7,2,Ih⟩=Ic (.slice AYa y.args.length cYa) by rw[ah h7];rfl);have hS:=mg x.args y.args AXa AYa cXa cYa w3 (Kd.C_below HXa.1 hs3.bw) (Kd.C_below HYa.1 hs3.bw) HSz.1.1.1 HSz.1.2.1;have HS3:=MD hs3;have H63:=MD h63;have H73:=MD h7;have HNe:=MD (show x≠y->a≠b from λhn e=>hn (by
       have h:=HXY.1.1;rw[e,HXY.1.2]at h;exact(Ii h).symm))
      clear hw3 hb3 h7 hg7 hs3 h63 c31 HS2 H6;by_cases p1:x.op=y.op
      .have q4:(x.op != y.op)=Ik:=by simp[p1]
       have P1:=MD p1;clear p1;by_cases p2:x.n=y.n
       .have q5:(x.n != y.n)=Ik:=by simp[p2]
        have P2:=MD p2;clear p2;by_cases p3:x.args=y.args
        .have P3:=MD p3
         rw[decide_eq_true p3]at hS;have HSr:=MD hS;clear p3 hS;have d63:=(show w3.cell? ⟨g6,3,Ih⟩=Ic (.slice AXo x.outs.length cXo) by rw[ah H63.1];rfl);have d73:=(show w3.cell? ⟨g7,3,Ih⟩=Ic (.slice AYo y.outs.length cYo) by rw[ah H73.1];rfl);by_cases p4:x.outs.length=y.outs.length
         .have q6:((x.outs.length:Int) != (y.outs.length:Int))=Ik:=by simp[p4]
          have P4:=MD p4;clear p4;go_upto_region 10 with(first
           |(go_at_call 58;refine HSr.1.mono ?_;rintro e w4 ⟨rfl,hb⟩;have HS4:=MD (HS3.1.below hb);have H74:=MD (ag H73.1 hb);have d63:=ak hb d63;have d73:=ak hb d73;clear hb))
          go_loopw [80] (λj wr=>∃(i:Nat),j=Ib Ie i/\aa (i<=x.outs.length/\zX w wr a b (Ia (Ic adX) a.nodes.length cNa) (Ia AVa a.vals.length cVa) (Ia (Ic adY) b.nodes.length cNb) (Ia AVb b.vals.length cVb)/\wr.heap[g7]?=Ic (.cells #[Ib Ie y.op,Ib Ie y.n,Ia AYa y.args.length cYa,Ia AYo y.outs.length cYo] 145 (0,0))/\x.outs.take i=y.outs.take i)) (λj _=>x.outs.length-(Jj j).toNat)
          case atStart=>exact⟨0,rfl,⟨⟨ID _,HS4.1,H74.1,rfl⟩⟩⟩
          case round=>
           obtain⟨i,rfl,HI⟩:=hrel;obtain⟨hi,hs,h7,ht⟩:=HI.1;clear d60 d61 d62 d63 d70 d71 d72 d73;by_cases hil:i<x.outs.length
           .have hil':(i:Int)<(x.outs.length:Int):=by omega
            have hiy:i<y.outs.length:=by have:=P4.1;omega
            have hiy':(i:Int)<(y.outs.length:Int):=by omega
            obtain⟨u,hu⟩:∃u,x.outs[i]?=Ic u:=⟨_,Ig hil⟩;obtain⟨v,hv⟩:∃v,y.outs[i]?=Ic v:=⟨_,Ig hiy⟩;obtain⟨adU,csU,eU,_,hKU,hcU⟩:=b_ (Kd.C_below HXo.1 hs.bw) i hil _ hu;obtain⟨adV,csV,eV,_,hKV,hcV⟩:=b_ (Kd.C_below HYo.1 hs.bw) i hiy _ hv;subst eU;subst eV;obtain rfl:csU=[Ib Ie u]:=hKU;obtain rfl:csV=[Ib Ie v]:=hKV;have vU:=hcU 0 _ rfl;have vV:=hcV 0 _ rfl;rw[show i*(Kd.int .i64).sz+0=i from JQ i]at vU vV;have d73:=(show wr.cell? ⟨g7,3,Ih⟩=Ic (.slice (Ic adV) y.outs.length cYo) by rw[ah h7];rfl);have HS5:=MD hs;have H75:=MD h7;have HIl:=MD hil;by_cases huv:u=v
            .have q7:(u != v)=Ik:=by simp[huv]
             have HTn:=MD (jV ht hu (by rw[huv];exact hv));clear hi hs h7 ht hil hiy hu hv hcU hcV huv HI;go_wp2;go_roundw
             case rel=>exact⟨i+1,by go_num,⟨⟨HIl.1,HS5.1,H75.1,HTn.1⟩⟩⟩
             case measure=>have:=HIl.1;simp[Jj];omega
            .have q7:(u != v)=Ir:=by simp[huv]
             obtain rfl:r=Ik:=by
              rw[HR.1];refine decide_eq_false (HNe.1 (λe=>huv ?_));rw[e,hv]at hu;exact(Ii hu).symm
             clear hi hs h7 ht hil hiy hu hv hcU hcV huv HI;go_wp2;go_ret;exact⟨rfl,HS5.1.bw⟩
           .obtain rfl:i=x.outs.length:=by omega
            have hxy:=fi.same P1.1 P2.1 P3.1 (k9 ht P4.1);have HTn:=MD (jV HT.1 HXY.1.1 (by rw[hxy];exact HXY.1.2));have HS5:=MD hs;clear hi hs h7 ht hil hxy HI;go_wp2;go_roundw
            case rel=>exact⟨k+1,by go_num,⟨⟨HKl.1,HS5.1,HTn.1⟩⟩⟩
            case measure=>have:=HKl.1;simp[Jj];omega
         .have q6:((x.outs.length:Int) != (y.outs.length:Int))=Ir:=by simp;omega
          obtain rfl:r=Ik:=by
           rw[HR.1];exact decide_eq_false (HNe.1 (λe=>p4 (by rw[e])))
          clear p4;go_wp2_with (first
           |(go_at_call 58;refine HSr.1.mono ?_;rintro e w4 ⟨rfl,hb⟩;have HS4:=MD (HS3.1.below hb);have d63:=ak hb d63;have d73:=ak hb d73;clear hb))
          go_ret;exact⟨rfl,HS4.1.bw⟩
        .rw[decide_eq_false p3]at hS
         have HSr:=MD hS;obtain rfl:r=Ik:=by
          rw[HR.1];exact decide_eq_false (HNe.1 (λe=>p3 (by rw[e])))
         clear p3 hS;go_wp2_with (first
          |(go_at_call 58;refine HSr.1.mono ?_;rintro e w4 ⟨rfl,hb⟩;have HS4:=MD (HS3.1.below hb);clear hb))
         go_ret;exact⟨rfl,HS4.1.bw⟩
       .have q5:(x.n != y.n)=Ir:=by simp[p2]
        obtain rfl:r=Ik:=by
         rw[HR.1];exact decide_eq_false (HNe.1 (λe=>p2 (by rw[e])))
        clear p2 hS;go_wp2;go_ret;exact⟨rfl,HS3.1.bw⟩
      .have q4:(x.op != y.op)=Ir:=by simp[p1]
       obtain rfl:r=Ik:=by
        rw[HR.1];exact decide_eq_false (HNe.1 (λe=>p1 (by rw[e])))
       clear p1 hS;go_wp2;go_ret;exact⟨rfl,HS3.1.bw⟩
     .obtain rfl:k=a.nodes.length:=by omega
      have HNq:=MD (k9 ht E2.1);have HS:=MD hs;have c22:=(show wr.cell? ⟨w.heap.size,2,Ih⟩=Ic (.slice AVa a.vals.length cVa) by rw[ah hs.h2];rfl);clear hk hs ht hkl HK;go_upto_region 17 with fail
      go_loopw [97] (λj wr=>∃(k:Nat),j=Ib Ie k/\aa (k<=a.vals.length/\zX w wr a b (Ia ANa a.nodes.length cNa) (Ia AVa a.vals.length cVa) (Ia ANb b.nodes.length cNb) (Ia AVb b.vals.length cVb)/\a.vals.take k=b.vals.take k)) (λj _=>a.vals.length-(Jj j).toNat)
      case atStart=>exact⟨0,rfl,⟨⟨ID _,HS.1,rfl⟩⟩⟩
      case round=>
       obtain⟨k,rfl,HK⟩:=hrel;obtain⟨hk,hs,ht⟩:=HK.1;clear c22;by_cases hkl:k<a.vals.length
       .have hkl':(k:Int)<(a.vals.length:Int):=by omega
        have hky:k<b.vals.length:=by have:=E3.1;omega
        have hky':(k:Int)<(b.vals.length:Int):=by omega
        obtain⟨x,hxx⟩:∃x,a.vals[k]?=Ic x:=⟨_,Ig hkl⟩;obtain⟨y,hyy⟩:∃y,b.vals[k]?=Ic y:=⟨_,Ig hky⟩;obtain⟨adX,csX,eX,hKX,hldX⟩:=ba (P:=If) HVa.1 hs.bw k hkl x hxx 148 Tryz.underlying148 rfl vn;subst eX;obtain⟨_,rfl,AXa,cXa,rfl,_,hXa⟩:=Aw hKX;have hx1:=HA.1.vf x (Iw hxx);have hy1:=HB.1.vf y (Iw hyy);have HLX:=MD (show(Le 148 (adX.add (k*2))).run If wr=.ok (IA #[Ib Ie x.at_,Ia AXa x.from_.length cXa]) wr from hldX);have HXa:=MD hXa;have HXY:=MD (IE hxx hyy);have HSz:=MD (IE hx1 hy1);have HT:=MD ht;have HS:=MD hs;have HKl:=MD hkl;have HKy:=MD hky;clear hk hs ht hkl hky hxx hyy hldX hKX hXa hx1 hy1 HK;go_upto_region 19 with(first
         |((with_reducible refine ai (N:=101) rfl ?_);refine av rfl 148 _ rfl (adX.add (k*2)) rfl _ HLX.1 ?_))
        obtain⟨w2,hw2⟩:∃w2,w2=wr.alloc (Is #[Ib Ie x.at_,Ia AXa x.from_.length cXa] 148):=⟨_,rfl⟩;have hs2:=HS.1.below (ae (Il wr.heap.size wr) (Is #[Ib Ie x.at_,Ia AXa x.from_.length cXa] 148));rw[<-hw2]at hs2;have h11:w2.heap[wr.heap.size]?=Ic (.cells #[Ib Ie x.at_,Ia AXa x.from_.length cXa] 148 (0,0)):=by rw[hw2];exact Iu wr _
        refine ar hw2.symm ?_;obtain⟨g11,hg11⟩:=MF wr.heap.size;rw[hg11]at h11 ⊢;have e0:=(show w2.cell? ⟨g11,0,Ih⟩=Ic (Ib Ie x.at_) by rw[ah h11];rfl);have e1:=(show w2.cell? ⟨g11,1,Ih⟩=Ic (.slice AXa x.from_.length cXa) by rw[ah h11];rfl);have c32:=(show w2.cell? ⟨g3,2,Ih⟩=Ic (.slice AVb b.vals.length cVb) by have h:=hs2.h3;rw[HG3.1]at h;rw[ah h];rfl);obtain⟨adY,csY,eY,_,hKY,hcY⟩:=b_ (Kd.C_below HVb.1 hs2.bw) k HKy.1 y HXY.1.2;subst eY;obtain⟨_,rfl,AYa,cYa,rfl,_,hYa⟩:=Aw hKY;have y0:=hcY 0 _ rfl;have y1:=hcY 1 _ rfl;rw[show k*jj.sz+0=k*2 from rfl]at y0;rw[show k*jj.sz+1=k*2+1 from rfl,<-ic,nL _ _ (by decide)]at y1;have hS:=mg x.from_ y.from_ AXa AYa cXa cYa w2.drew (Kd.C_below HXa.1 (aA hs2.bw)) (Kd.C_below hYa (aA (Il _ _))) HSz.1.1 HSz.1.2;obtain⟨W0,hW0⟩:=ME w2.drew;have hb0:It w2.heap.size w2 W0:=by rw[hW0];exact aA (Il _ _)
        rw[<-hW0]at hS;have HW0:=MD hW0;have HS2:=MD (hs2.below hb0);have E0:=MD (ak hb0 e0);have E1':=MD (ak hb0 e1);have C32:=MD (ak hb0 c32);have Y0:=MD (ak hb0 y0);have Y1:=MD (ak hb0 y1);obtain⟨d,hd⟩:=ME (decide (x.from_=y.from_));rw[<-hd]at hS;have HD:=MD hd;have HSr:=MD hS;have HNe:=MD (show x≠y->a≠b from λhn e=>hn (by
         have h:=HXY.1.1;rw[e,HXY.1.2]at h;exact(Ii h).symm))
        clear hw2 hs2 h11 hg11 hcY hYa HS hd hS hW0 hb0 e0 e1 c32 y0 y1;by_cases p1:x.at_=y.at_
        .have q4:(x.at_ != y.at_)=Ik:=by simp[p1]
         have P1:=MD p1;clear p1;refine bm (σ:=Im) [18] (λ_=>[(102,Iq (Ic ⟨g11,0,Ih⟩)),(103,Ib Ie x.at_),(104,Iq (Ic ⟨g3,2,Ih⟩)),(105,Ia (Ic adY) b.vals.length cVb),(106,Ib Ie (k:Int)),(107,Iq (Ic (adY.add (k*2)))),(108,Iq (Ic (adY.add (k*2)))),(109,Ib Ie y.at_),(110,Iy Ik),(111,Iy Ik),(112,Iq (Ic ⟨g11,1,Ih⟩)),(113,Ia AXa x.from_.length cXa),(114,Iq (Ic ⟨g3,2,Ih⟩)),(115,Ia (Ic adY) b.vals.length cVb),(116,Ib Ie (k:Int)),(117,Iq (Ic (adY.add (k*2)))),(118,Iq (Ic ⟨(adY.add (k*2)).block,(adY.add (k*2)).off+1,Ih⟩)),(119,Ia AYa y.from_.length cYa),(120,Iy d),(121,Iy (!d)),(122,Iy (!d))])
          (λbs s W=>(bs=[Ik]/\W=W0)\/(bs=[Ir]/\W=s/\It W0.heap.size W0 s)) W0 (by kernel_rfl) (by kernel_rfl) (by kernel_rfl) (λ_=>by kernel_rfl) ?_
         intro aF haF;simp only[bk,KY,IP,IZ,IY]at haF;subst haF;refine⟨?_,?_,.inl ⟨rfl,HW0.1.symm⟩,?_⟩
         .intro j o ho hct s W bs hlen hok hI
          have hW:It W0.heap.size W0 W:=by
           rcases hI with⟨_,rfl⟩|⟨_,rfl,hp⟩
           .exact Il _ _
           .exact hp
          rcases j with _|_|_|_|_|_|_|_|_|_|_|_|_|_|_|_|_|_|_|_|_|j
          all_goals first|exact absurd hct (by decide)|(obtain rfl:=Ii ho)|exact absurd (IB.1 ho).1 (by simp)
          .exact ab rfl (by go_simp) ⟨rfl,hI⟩
          .exact ax rfl 3 _ rfl ⟨g11,0,Ih⟩ _ rfl (by kernel_rfl) (ak hW E0.1) ⟨rfl,hI⟩
          .exact ab rfl (by go_simp) ⟨rfl,hI⟩
          .exact ax rfl 31 _ rfl ⟨g3,2,Ih⟩ _ rfl (by kernel_rfl) (ak hW C32.1) ⟨rfl,hI⟩
          .exact ab rfl (by go_simp) ⟨rfl,hI⟩
          .exact ab rfl (by go_simp) ⟨rfl,hI⟩
          .exact ab rfl (by go_simp) ⟨rfl,hI⟩
          .exact ax rfl 3 _ rfl (adY.add (k*2)) _ rfl (by kernel_rfl) (ak hW Y0.1) ⟨rfl,hI⟩
          .exact ab rfl (by go_simp) ⟨rfl,hI⟩
          .exact ab rfl (by go_simp) ⟨rfl,hI⟩
          .exact ab rfl (by go_simp) ⟨rfl,hI⟩
          .exact ax rfl 143 _ rfl ⟨g11,1,Ih⟩ _ rfl (by kernel_rfl) (ak hW E1'.1) ⟨rfl,hI⟩
          .exact ab rfl (by go_simp) ⟨rfl,hI⟩
          .exact ax rfl 31 _ rfl ⟨g3,2,Ih⟩ _ rfl (by kernel_rfl) (ak hW C32.1) ⟨rfl,hI⟩
          .exact ab rfl (by go_simp) ⟨rfl,hI⟩
          .exact ab rfl (by go_simp) ⟨rfl,hI⟩
          .exact ab rfl (by go_simp) ⟨rfl,hI⟩
          .exact ax rfl 143 _ rfl ⟨(adY.add (k*2)).block,(adY.add (k*2)).off+1,Ih⟩ _ rfl (by kernel_rfl) (ak hW Y1.1) ⟨rfl,hI⟩
          .exact ab rfl (by go_simp) ⟨rfl,hI⟩
          .exact ab rfl (by go_simp) ⟨rfl,hI⟩
         .intro k1 j o hk ho s W bs hlen hok hI
          rcases k1 with _|k1
          all_goals first|(obtain rfl:=Ii hk;obtain rfl:=Ii ho)|exact absurd hk (by simp)
          rcases hI with⟨rfl,rfl⟩|⟨rfl,rfl,hp⟩
          .refine aN rfl Tryz.func58 (by kernel_rfl) rfl #[Ia AXa x.from_.length cXa,Ia AYa y.from_.length cYa] rfl rfl (HSr.1.mono λe w' h=>?_)
           exact⟨_,h.1,w',[],rfl,rfl,by kernel_rfl,.inr ⟨rfl,rfl,h.2⟩⟩
          .exact bh hok (by kernel_rfl)
         .intro s W hI
          have hW:It W0.heap.size W0 W:=by
           rcases hI with⟨_,rfl⟩|⟨_,rfl,hp⟩
           .exact Il _ _
           .exact hp
          have HS7:=MD (HS2.1.below hW);clear hW hI;dsimp only;cases d with
          |true=>
           have HTn:=MD (jV HT.1 HXY.1.1 (by rw[kO.same P1.1 (of_decide_eq_true HD.1.symm)];exact HXY.1.2));go_wp2;go_roundw
           case rel=>exact⟨k+1,by go_num,⟨⟨HKl.1,HS7.1,HTn.1⟩⟩⟩
           case measure=>have:=HKl.1;simp[Jj];omega
          |false=>
           obtain rfl:r=Ik:=by
            rw[HR.1];exact decide_eq_false (HNe.1 (λe=>of_decide_eq_false HD.1.symm (by rw[e])))
           go_wp2;go_ret;exact⟨rfl,HS7.1.bw⟩
        .have q4:(x.at_ != y.at_)=Ir:=by simp[p1]
         obtain rfl:r=Ik:=by
          rw[HR.1];exact decide_eq_false (HNe.1 (λe=>p1 (by rw[e])))
         clear p1;refine bm (σ:=Im) [18] (λ_=>[(102,Iq (Ic ⟨g11,0,Ih⟩)),(103,Ib Ie x.at_),(104,Iq (Ic ⟨g3,2,Ih⟩)),(105,Ia (Ic adY) b.vals.length cVb),(106,Ib Ie (k:Int)),(107,Iq (Ic (adY.add (k*2)))),(108,Iq (Ic (adY.add (k*2)))),(109,Ib Ie y.at_),(110,Iy Ir),(111,Iy Ir),(112,KG),(113,KG),(114,KG),(115,KG),(116,KG),(117,KG),(118,KG),(119,KG),(120,KG),(121,KG),(122,Iy Ir)])
          (λbs s W=>(bs=[Ik]/\W=W0)\/(bs=[Ir]/\W=s/\It W0.heap.size W0 s)) W0 (by kernel_rfl) (by kernel_rfl) (by kernel_rfl) (λ_=>by kernel_rfl) ?_
         intro aF haF;simp only[bk,KY,IP,IZ,IY]at haF;subst haF;refine⟨?_,?_,.inl ⟨rfl,HW0.1.symm⟩,?_⟩
         .intro j o ho hct s W bs hlen hok hI
          have hW:It W0.heap.size W0 W:=by
           rcases hI with⟨_,rfl⟩|⟨_,rfl,hp⟩
           .exact Il _ _
           .exact hp
          rcases j with _|_|_|_|_|_|_|_|_|_|_|_|_|_|_|_|_|_|_|_|_|j
          all_goals first|exact absurd hct (by decide)|(obtain rfl:=Ii ho)|exact absurd (IB.1 ho).1 (by simp)
          .exact ab rfl (by go_simp) ⟨rfl,hI⟩
          .exact ax rfl 3 _ rfl ⟨g11,0,Ih⟩ _ rfl (by kernel_rfl) (ak hW E0.1) ⟨rfl,hI⟩
          .exact ab rfl (by go_simp) ⟨rfl,hI⟩
          .exact ax rfl 31 _ rfl ⟨g3,2,Ih⟩ _ rfl (by kernel_rfl) (ak hW C32.1) ⟨rfl,hI⟩
          .exact ab rfl (by go_simp) ⟨rfl,hI⟩
          .exact ab rfl (by go_simp) ⟨rfl,hI⟩
          .exact ab rfl (by go_simp) ⟨rfl,hI⟩
          .exact ax rfl 3 _ rfl (adY.add (k*2)) _ rfl (by kernel_rfl) (ak hW Y0.1) ⟨rfl,hI⟩
          .exact ab rfl (by go_simp) ⟨rfl,hI⟩
          .exact ab rfl (by go_simp) ⟨rfl,hI⟩
          .exact .inl ⟨rfl,rfl,hI⟩
          .exact .inl ⟨rfl,rfl,hI⟩
          .exact .inl ⟨rfl,rfl,hI⟩
          .exact .inl ⟨rfl,rfl,hI⟩
          .exact .inl ⟨rfl,rfl,hI⟩
          .exact .inl ⟨rfl,rfl,hI⟩
          .exact .inl ⟨rfl,rfl,hI⟩
          .exact .inl ⟨rfl,rfl,hI⟩
          .exact .inl ⟨rfl,rfl,hI⟩
          .exact ab rfl (by go_simp) ⟨rfl,hI⟩
         .intro k1 j o hk ho s W bs hlen hok hI
          rcases k1 with _|k1
          all_goals first|(obtain rfl:=Ii hk;obtain rfl:=Ii ho)|exact absurd hk (by simp)
          rcases hI with⟨rfl,rfl⟩|⟨rfl,rfl,hp⟩
          .exact .inl ⟨rfl,_,[],rfl,rfl,by kernel_rfl,.inr ⟨rfl,rfl,Il _ _⟩⟩
          .exact bh hok (by kernel_rfl)
         .intro s W hI
          have hW:It W0.heap.size W0 W:=by
           rcases hI with⟨_,rfl⟩|⟨_,rfl,hp⟩
           .exact Il _ _
           .exact hp
          have HS7:=MD (HS2.1.below hW);clear hW hI;dsimp only;go_wp2;go_ret;exact⟨rfl,HS7.1.bw⟩
       .obtain rfl:k=a.vals.length:=by omega
        obtain rfl:r=Ir:=by
         rw[HR.1];exact decide_eq_true (kV.same E1.1 HNq.1 (k9 ht E3.1))
        have HS:=MD hs;clear hk hs ht hkl HK;go_wp2;go_ret;exact⟨rfl,HS.1.bw⟩
   .have q3:((a.vals.length:Int) != (b.vals.length:Int))=Ir:=by simp;omega
    obtain rfl:r=Ik:=by
     rw[HR.1];exact decide_eq_false (λe=>e3 (by rw[e]))
    clear e3;go_wp2;go_ret;exact⟨rfl,HS1.1.bw⟩
  .have q2:((a.nodes.length:Int) != (b.nodes.length:Int))=Ir:=by simp;omega
   obtain rfl:r=Ik:=by
    rw[HR.1];exact decide_eq_false (λe=>e2 (by rw[e]))
   clear e2;go_wp2;go_ret;exact⟨rfl,HS1.1.bw⟩
 .have q1:(a.entry != b.entry)=Ir:=by simp[e1]
  obtain rfl:r=Ik:=by
   rw[HR.1];exact decide_eq_false (λe=>e1 (by rw[e]))
  clear e1;go_wp2;go_ret;exact⟨rfl,HS1.1.bw⟩
def mL{α:Type}(d:Kd α):Prop:=∀(w w1:Im) (x:α) (cs:List Io),d.K w x cs->d.K w1 x cs
theorem aC:mL (Kd.int .i64):=λ_ _ _ _ h=>h
theorem Bj{α:Type}{d:Kd α}(hd:mL d){W W':Im}{A:Option Addr}{n:Nat}{xs:List α}(h:Kd.C d W A n xs)(hb:∀ad,A=Ic ad->W'.heap[ad.block]?=W.heap[ad.block]?):Kd.C d W' A n xs:=by
 obtain⟨h1,h2,h3⟩:=h;refine⟨h1,h2,λh0=>?_⟩;obtain⟨ad,ea,h4⟩:=h3 h0;refine⟨ad,ea,λj p hp=>?_⟩;obtain⟨cs,k1,k2,k3⟩:=h4 j p hp;refine⟨cs,k1,hd _ _ _ _ k2,λi u hu=>?_⟩;rw[<-k3 i u hu];have hbl:(ad.add (j*d.sz+i)).block=ad.block:=by unfold Mo;split<;>rfl
 unfold My;rw[hbl,hb ad ea]
theorem RdT.fr{α:Type}{d:Kd α}(hd:mL d){t:Nat}{W W':Im}{v:Io}{xs:List α}{S:Nat->Prop}(h:RdT d t W v xs)(hf:Fr S W W')(hs:∀k cs fr,S k->W.heap[k]?≠Ic (.cells cs t fr)):RdT d t W' v xs:=by
 obtain⟨A,c,h1,h2,h3,h4⟩:=h;have key:∀ad,A=Ic ad->W'.heap[ad.block]?=W.heap[ad.block]?:=λad e=>by
  obtain⟨cs,fr,h5⟩:=h4 ad e;exact hf.block _ (IB.1 h5).1 (λhk=>hs _ cs fr hk h5)
 refine⟨A,c,h1,h2,Bj hd h3 key,λad e=>?_⟩;obtain⟨cs,fr,h5⟩:=h4 ad e;exact⟨cs,fr,(key ad e).trans h5⟩
theorem mC(A:Option Addr)(n c:Nat)(w:Im)(hn:n<=5000):I9 If 89 #[Ia A n c] w λe w'=>e=Iv (Iy (decide ((n:Int)<=16)))/\w'=w:=by
 go_enter Tryz.func89,Tryz.ntmps89;go_wp2;go_ret;exact⟨rfl,rfl⟩
def hIn(n:Nat)(a:Int):Bool:=decide (n<=16/\0<=a/\a<(n:Int))
theorem AD(A:Option Addr)(n c:Nat)(a:Int)(w:Im)(hn:n<=5000):I9 If 119 #[Ia A n c,Ib Ie a] w λe w'=>e=Iv (Iy (hIn n a))/\w'=w:=by
 have hR:=mC A n c w hn;by_cases h1:n<=16
 .rw[decide_eq_true (by omega:(n:Int)<=16)]at hR
  have HRt:=MD hR;by_cases h2:0<=a
  .have q2:decide (0<=a)=Ir:=decide_eq_true h2
   by_cases h3:a<(n:Int)
   .have q3:decide (a<(n:Int))=Ir:=decide_eq_true h3
    have hh:hIn n a=Ir:=decide_eq_true ⟨h1,h2,h3⟩;rw[hh];clear hR h1;go_enter Tryz.func119,Tryz.ntmps119;go_wp2_with (first|(go_at_call 89;refine HRt.1.mono ?_;rintro e w' ⟨rfl,rfl⟩));go_ret;exact⟨rfl,rfl⟩
   .have hh:hIn n a=Ik:=decide_eq_false (λe=>h3 e.2.2)
    have q3:decide (a<(n:Int))=Ik:=decide_eq_false h3;rw[hh];clear hR h1;go_enter Tryz.func119,Tryz.ntmps119;go_wp2_with (first|(go_at_call 89;refine HRt.1.mono ?_;rintro e w' ⟨rfl,rfl⟩));go_ret;exact⟨rfl,rfl⟩
  .have hh:hIn n a=Ik:=decide_eq_false (λe=>h2 e.2.1)
   rw[hh];clear hR h1;go_enter Tryz.func119,Tryz.ntmps119;go_wp2_with (first|(go_at_call 89;refine HRt.1.mono ?_;rintro e w' ⟨rfl,rfl⟩));go_ret;exact⟨rfl,rfl⟩
 .rw[decide_eq_false (by omega:¬(n:Int)<=16)]at hR
  have HRt:=MD hR;have hh:hIn n a=Ik:=decide_eq_false (λe=>h1 e.1);rw[hh];clear hR h1;go_enter Tryz.func119,Tryz.ntmps119;go_wp2_with (first|(go_at_call 89;refine HRt.1.mono ?_;rintro e w' ⟨rfl,rfl⟩));go_ret;exact⟨rfl,rfl⟩
def sl(H:List Int)(a:Int):Int×Int:=if hIn H.length a=Ir then(H.getD a.toNat 0,0)else(0,4)
theorem B7(H:List Int)(A:Option Addr)(c:Nat)(a:Int)(w:Im)(hn:H.length<=5000)(hC:Kd.C (Kd.int .i64) w A H.length H):I9 If 108 #[Ia A H.length c,Ib Ie a] w λe w'=>e=Iv (IR #[Ib Ie (sl H a).1,Ib Ie (sl H a).2])/\w'=w:=by
 have hI:=AD A H.length c a w hn;have HC:=MD hC;clear hC;unfold sl;cases hh:hIn H.length a with
 |true=>
  rw[hh]at hI;have HIn:=MD hI;obtain⟨h1,h2,h3⟩:=of_decide_eq_true hh;obtain⟨k,rfl⟩:∃k:Nat,a=k:=⟨a.toNat,by omega⟩;have hk:k<H.length:=by omega
  obtain⟨u,hu⟩:∃u,H[k]?=Ic u:=⟨_,Ig hk⟩;obtain⟨adU,csU,eU,_,hKU,hcU⟩:=b_ HC.1 k hk _ hu;subst eU;obtain rfl:csU=[Ib Ie u]:=hKU;have vU:=hcU 0 _ rfl;rw[show k*(Kd.int .i64).sz+0=k from JQ k]at vU;rw[if_pos rfl,Ij,IC,hu,JL];clear hI hh h1 hu hcU hk;go_enter Tryz.func108,Tryz.ntmps108;go_wp2_with (first|(go_at_call 119;refine HIn.1.mono ?_;rintro e w' ⟨rfl,rfl⟩));exact IG (v:=IR #[Ib Ie u,Ib Ie 0]) (aD (rs:=[.tmp 4,.tmp 5]) rfl (by simp) (.tmp (.tmp .nil))) rfl ⟨rfl,rfl⟩
 |false=>
  rw[hh]at hI;have HIn:=MD hI;rw[if_neg Mp];clear hI hh;go_enter Tryz.func108,Tryz.ntmps108;go_wp2_with (first|(go_at_call 119;refine HIn.1.mono ?_;rintro e w' ⟨rfl,rfl⟩));exact IG (v:=IR #[Ib Ie 0,Ib Ie 4]) (aD (rs:=[.tmp 4,.tmp 5]) rfl (by simp) (.tmp (.tmp .nil))) rfl ⟨rfl,rfl⟩
theorem jP:(If.info? 2).map (λi=>(i.zero,i.size,i.bytes))=Ic (Ic (Ib Ie 0),1,8):=by kernel_rfl
theorem Ge:(If.info? 2).map (·.size)=Ic 1:=by kernel_rfl
theorem F1(n:Nat)(hn:n<=5000)(W:Im):(Instr.makeSlice 35 (Ib Ie (n:Int)) (Ib Ie (n:Int))).run If W=.ok (Ia (Ic ⟨W.heap.size,0,Ih⟩) n n) (W.alloc (Is (IF n (Ib Ie 0)).toArray 2)):=by
 obtain⟨i,hi,hz,hs,hb⟩:=info_parts jP;have h:=run_make (P:=If) W 35 2 i (Ib Ie 0) Lu hi hz .i64 .i64 n n (by omega) (J7 _) (by rw[hb];omega) (by omega);rw[h,hs,IC,JQ,<-iq];rfl
theorem Gc{W:Im}{g:Nat}{L:List Int}(h:W.heap[g]?=Ic (.cells (L.map (Ib .i64)).toArray 2 (0,0)))(hl:L.length<=9223372036854775807):Kd.C (Kd.int .i64) W (Ic ⟨g,0,Ih⟩) L.length L:=by
 refine⟨rfl,hl,λ_=>⟨_,rfl,λj p hp=>⟨[Ib Ie p],rfl,rfl,λi u hu=>?_⟩⟩⟩;have hi:i=0:=by
  have:=(Ip.1 hu).1;simp at this;exact this
 subst hi;obtain rfl:=Ii hu;rw[zV,aq h,show j*(Kd.int .i64).sz+0=j from JQ j,IK,hp];rfl
def kC(H:List Int)(a v:Int):List Int×Int:=if hIn H.length a=Ir then(H.set a.toNat v,0)else([],4)
theorem y_(H:List Int)(A:Option Addr)(c:Nat)(a v:Int)(w:Im)(hn:H.length<=5000)(hC:Kd.C (Kd.int .i64) w A H.length H) :
  I9 If 109 #[Ia A H.length c,Ib Ie a,Ib Ie v] w λe w'=>∃vH,e=Iv (IR #[vH,Ib Ie (kC H a v).2])/\RdT (Kd.int .i64) 2 w' vH (kC H a v).1/\It w.heap.size w w':=by
 have hI:=AD A H.length c a w hn;have HC:=MD hC;clear hC;unfold kC;cases hh:hIn H.length a with
 |true=>
  rw[hh]at hI;have HIn:=MD hI;obtain⟨h1,h2,h3⟩:=of_decide_eq_true hh;obtain⟨k,rfl⟩:∃k:Nat,a=k:=⟨a.toNat,by omega⟩;have hk:k<H.length:=by omega
  have hkl':(k:Int)<(H.length:Int):=by omega
  have hn':(H.length:Int)<=5000:=by omega
  rw[if_pos rfl,IC];have HK:=MD hk;have HMk:=MD (λW=>F1 H.length hn W);clear hI hh h1 hk;go_enter Tryz.func109,Tryz.ntmps109;go_upto_region 4 with(first
   |(go_at_call 119;refine HIn.1.mono ?_;rintro e w' ⟨rfl,rfl⟩)
   |((with_reducible refine ai (N:=15) rfl ?_);refine gT rfl 35 _ _ rfl _ _ _ rfl rfl (HMk.1 _) ?_))
  obtain⟨w1,hw1⟩:∃w1,w1=w'.alloc (Is (Lp H.length (Ib Ie 0)) 2):=⟨_,rfl⟩;have hb1:It w'.heap.size w' w1:=by rw[hw1];exact ae (Il _ _) _
  have h1:w1.heap[w'.heap.size]?=Ic (.cells (IF H.length (Ib .i64 0)).toArray 2 (0,0)):=by
   rw[hw1,List.toArray_replicate];exact Iu w' _
  refine ar hw1.symm ?_;obtain⟨g,hg⟩:=MF w'.heap.size;have HG:=MD hg;rw[hg]at h1 ⊢;obtain⟨x0,hx0⟩:∃x0,H[k]?=Ic x0:=⟨_,Ig HK.1⟩;obtain⟨adH,_,eH,_,_,_⟩:=b_ HC.1 k HK.1 x0 hx0;subst eH;have hsrc:∀j v,(H.map (Ib .i64))[j]?=Ic v->w1.cell? (adH.add j)=Ic v:=by
   intro j v hj;rw[IK]at hj;cases hx:H[j]? with
   |none=>rw[hx]at hj;simp at hj
   |some x=>
    rw[hx]at hj;obtain⟨ad,cs,e,_,hK,hc⟩:=b_ HC.1 j (Ip.1 hx).1 x hx;injection e with e
    subst e;obtain rfl:cs=[Ib Ie x]:=hK;have:=hc 0 _ rfl;rw[show j*(Kd.int .i64).sz+0=j from JQ j]at this;simp at hj;subst hj;exact ak hb1 this
  have HB1:=MD hb1;have H1:=MD h1;have HSr:=MD hsrc;have HX0:=MD hx0;clear hw1 hb1 h1 hg hsrc hx0;go_upto_region 5 with(first
   |((with_reducible refine a6 (b:=.copy) (xs:=#[.tmp 16,.tmp 17]) rfl ?_);refine wpList_copy_splice rfl (.tmp 16) (.tmp 17) 35 35 rfl 2 Lu Ge (Ic ⟨g,0,Ih⟩) (Ic adH) H.length H.length H.length c rfl rfl g 0 (IF H.length (Ib .i64 0)) 2 H1.1 (H.map (Ib .i64)) (by simp) (λ_=>⟨rfl,adH,rfl,HSr.1⟩) (by simp) (by simp[IH]) w'.heap.size w' HB1.1 (by have:=HG.1;omega) ?_;intro w2 h2 hb2))
  have h3:w2.heap[g]?=Ic (.cells (H.map (Ib .i64)).toArray 2 (0,0)):=by
   have h:w2.heap[g]?=Ic (.cells (splice (IF H.length (Ib .i64 0)) 0 (H.map (Ib .i64))).toArray 2 (0,0)):=h2
   rwa[show splice (IF H.length (Ib .i64 0)) 0 (H.map (Ib .i64))=H.map (Ib .i64) by simp[splice]]at h
  have z:=(show w2.cell? ⟨g,k,Ih⟩=Ic (Ib Ie x0) by rw[aq h3,IK,HX0.1];rfl);have zf:=au h3 k;have H3:=MD h3;have HB2:=MD hb2;clear h2 hb2 h3;go_wp2;refine IG (v:=IR #[Ia (Ic ⟨g,0,Ih⟩) H.length H.length,Ib Ie 0]) (aD (rs:=[.tmp 6,.tmp 7]) rfl (by simp) (.tmp (.tmp .nil))) rfl ⟨_,rfl,⟨Ic ⟨g,0,Ih⟩,H.length,by rw[Jq],by rw[Jq];exact Iz _,Gc ?_ (by rw[Jq];omega),λad e=>by injection e with e;subst e;exact⟨_,_,aR H3.1 k (Ib Ie v)⟩⟩,?_⟩
  .have h:=aR H3.1 k (Ib Ie v)
   rwa[<-List.map_set]at h
  .exact Fr.below HB2.1 (Fr.cell (S:=λj=>j=g) (p:=⟨g,k,Ih⟩) rfl _) (λj hj q=>by have:=HG.1;omega) HB2.1.size
 |false=>
  rw[hh]at hI;have HIn:=MD hI;rw[if_neg Mp];clear hI hh;go_enter Tryz.func109,Tryz.ntmps109;go_wp2_with (first|(go_at_call 119;refine HIn.1.mono ?_;rintro e w' ⟨rfl,rfl⟩));exact IG (v:=IR #[Ia Ih 0 0,Ib Ie 4]) (aD (rs:=[.tmp 6,.tmp 7]) rfl (by simp) (.tmp (.tmp .nil))) rfl ⟨_,rfl,RdT.nil _ _ _,Il _ _⟩
theorem B5(xs ys:List Int)(AX AY:Option Addr)(cX cY:Nat)(w:Im)(hX:Kd.C (Kd.int .i64) w AX xs.length xs)(hY:Kd.C (Kd.int .i64) w AY ys.length ys)(hx:xs.length<=5000)(hy:ys.length<=5000) :
  I9 If 25 #[Ia AX xs.length cX,Ia AY ys.length cY] w λe w'=>e=Iv (Iy (decide (xs=ys)))/\It w.heap.size w w':=by
 obtain⟨r,hr⟩:=ME (decide (xs=ys));rw[<-hr];have HR:=MD hr;have HX:=MD hX;have HY:=MD hY;have hx':(xs.length:Int)<=5000:=by omega
 have hy':(ys.length:Int)<=5000:=by omega
 clear hr hX hY;by_cases hl:xs.length=ys.length
 .have hlb:((xs.length:Int) != (ys.length:Int))=Ik:=by simp[hl]
  have HL:=MD hl;clear hl;go_enter Tryz.func25,Tryz.ntmps25;go_upto_region 4 with fail
  go_loopw [13] (λj wr=>∃(k:Nat),j=Ib Ie k/\aa (k<=xs.length/\It w.heap.size w wr/\xs.take k=ys.take k)) (λj _=>xs.length-(Jj j).toNat)
  case atStart=>exact⟨0,rfl,⟨⟨ID _,Il _ _,rfl⟩⟩⟩
  case round=>
   obtain⟨k,rfl,HK⟩:=hrel;obtain⟨hk,hb,ht⟩:=HK.1;by_cases hkl:k<xs.length
   .have hkl':(k:Int)<(xs.length:Int):=by omega
    have hky:k<ys.length:=by have:=HL.1;omega
    have hky':(k:Int)<(ys.length:Int):=by omega
    obtain⟨x,hxx⟩:∃x,xs[k]?=Ic x:=⟨_,Ig hkl⟩;obtain⟨y,hyy⟩:∃y,ys[k]?=Ic y:=⟨_,Ig hky⟩;obtain⟨adX,csX,eX,_,hKX,hcX⟩:=b_ (Kd.C_below HX.1 hb) k hkl x hxx;obtain⟨adY,csY,eY,_,hKY,hcY⟩:=b_ (Kd.C_below HY.1 hb) k hky y hyy;subst eX;subst eY;obtain rfl:csX=[Ib Ie x]:=hKX;obtain rfl:csY=[Ib Ie y]:=hKY;have vX:=hcX 0 _ rfl;have vY:=hcY 0 _ rfl;rw[show k*(Kd.int .i64).sz+0=k from JQ k]at vX vY;have HT:=MD (IE ht (IE hxx hyy));have HB:=MD hb;have HKl:=MD hkl;clear hk hb ht hkl hky hxx hyy hcX hcY HK;go_upto_region 6 with fail
    by_cases hxy:x=y
    .have q:(x != y)=Ik:=by simp[hxy]
     have HXY:=MD hxy;clear hxy;refine KF (by kernel_rfl) (by kernel_rfl) ?_
     repeat still_step
     refine Mc ?_;change(Exit.then _ _) _ _ wr.drew;have HB2:=MD (show It w.heap.size w wr.drew from aA HB.1);obtain⟨w2,hw2⟩:=ME wr.drew;rw[<-hw2]at HB2 ⊢;clear hw2 vX vY;go_wp2;go_roundw
     case rel=>exact⟨k+1,by go_num,⟨⟨HKl.1,HB2.1,jV HT.1.1 HT.1.2.1 (by rw[HXY.1];exact HT.1.2.2)⟩⟩⟩
     case measure=>have:=HKl.1;simp[Jj];omega
    .have q:(x != y)=Ir:=by simp[hxy]
     obtain rfl:r=Ik:=by
      rw[HR.1];refine decide_eq_false (λe=>hxy ?_);have h1:=HT.1.2.1;rw[e,HT.1.2.2]at h1;exact(Ii h1).symm
     clear hxy;refine KF (by kernel_rfl) (by kernel_rfl) ?_
     repeat still_step
     refine Mc ?_;change(Exit.then _ _) _ _ wr.drew;have HB2:=MD (show It w.heap.size w wr.drew from aA HB.1);obtain⟨w2,hw2⟩:=ME wr.drew;rw[<-hw2]at HB2 ⊢;clear hw2 vX vY;go_wp2;go_ret;exact⟨rfl,HB2.1⟩
   .obtain rfl:k=xs.length:=by omega
    obtain rfl:r=Ir:=by
     rw[HR.1];exact decide_eq_true (k9 ht HL.1)
    have HB:=MD hb;clear hk hb ht hkl HK;go_wp2;go_ret;exact⟨rfl,HB.1⟩
 .have hlb:((xs.length:Int) != (ys.length:Int))=Ir:=by simp;omega
  obtain rfl:r=Ik:=by
   rw[HR.1];exact decide_eq_false (λe=>hl (congrArg List.length e))
  clear hl;go_enter Tryz.func25,Tryz.ntmps25;go_wp2;go_ret;exact⟨rfl,Il _ _⟩
def dE:List (Bool×Int)->List Io
 | []=>[]
 |p::r=>Iy p.1::Ib Ie p.2::dE r
theorem ed:∀l,(dE l).length=l.length*2
 | []=>rfl
 |p::r=>by rw[dE,Jz,Jz,ed r,Jz];omega
theorem EQ:∀(l:List (Bool×Int)) (i:Nat) (p:Bool×Int),l[i]?=Ic p->(dE l)[i*2]?=Ic (.bool p.1)
 | [],i,p,h=>by simp at h
 |q::r,0,p,h=>by simp at h;subst h;rfl
 |q::r,i+1,p,h=>by
  rw[dE,show(i+1)*2=i*2+1+1 by omega,Kc,Kc];exact EQ r i p (by simpa using h)
theorem F2:∀(l:List (Bool×Int)) (i:Nat) (p:Bool×Int),l[i]?=Ic p->(dE l)[i*2+1]?=Ic (Ib Ie p.2)
 | [],i,p,h=>by simp at h
 |q::r,0,p,h=>by simp at h;subst h;rfl
 |q::r,i+1,p,h=>by
  rw[dE,show(i+1)*2+1=i*2+1+1+1 by omega,Kc,Kc];exact F2 r i p (by simpa using h)
theorem yZ:∀(l:List (Bool×Int)) (i:Nat) (b:Bool) (v:Int) (R:List Io),i<l.length->(dE l++R).take (i*2)++[Iy b,Ib Ie v]++(dE l++R).drop (i*2+2)=dE (l.set i (b,v))++R
 | [],i,b,v,R,h=>by simp at h
 |q::r,0,b,v,R,h=>by simp[dE]
 |q::r,i+1,b,v,R,h=>by
  have:=yZ r i b v R (by simpa using h);rw[dE,show(i+1)*2=i*2+1+1 by omega,show i*2+1+1+2=i*2+2+1+1 by omega,IZ,dE];simp only[List.cons_append,List.take_succ_cons,List.drop_succ_cons];rw[<-this]
theorem Ds:∀(l:List (Bool×Int)),∀v∈dE l,v.oneCell'=Ir
 | [],v,h=>by simp[dE]at h
 |q::r,v,h=>by
  rw[dE,I7,I7]at h;rcases h with rfl|rfl|h
  .rfl
  .rfl
  .exact Ds r v h
structure Wk where
 l:List (Bool×Int)
 vH:Io
 at_:Int
 asked:Int
 x:In
 vA:Io
 vE:Io
 how:Int
 val:Int
def Wk.hi(k:Wk):List Io:=[k.vH,Ib Ie k.at_,Ib Ie k.asked,Ib Ie k.x.op,Ib Ie k.x.d,Ib Ie k.x.a,Ib Ie k.x.b,Ib Ie k.x.n,Ib Ie k.x.jt,k.vA,k.vE,Ib Ie k.how,Ib Ie k.val]
def Wk.cells(k:Wk):List Io:=dE k.l++k.hi
def cD(W:Im)(g:Nat)(k:Wk):Prop:=W.heap[g]?=Ic (.cells k.cells.toArray 197 (0,0))/\k.l.length=24
theorem px{k:Wk}(h:k.l.length=24):k.cells.length=61:=by unfold Wk.cells;rw[IV,ed,h];rfl
theorem GB{k:Wk}(h:k.l.length=24)(i:Nat):k.cells[48+i]?=k.hi[i]?:=by
 unfold Wk.cells;rw[IW (by rw[ed,h];omega),ed,h];congr 1;omega
theorem nS{k:Wk}(h:k.l.length=24)(i:Nat)(v:Io):k.cells.set (48+i) v=dE k.l++k.hi.set i v:=by
 unfold Wk.cells;rw[List.set_append_right _ _ (by rw[ed,h];omega),ed,h];congr 2;omega
def Wk.at(k:Wk)(i:Nat):Bool×Int:=k.l.getD i (Ik,0)
theorem Fz{k:Wk}(h:k.l.length=24){i:Nat}(hi:i<24):k.l[i]?=Ic (k.at i):=by
 unfold Wk.at;rw[Ij,Ig (by omega)];rfl
theorem Hi{k:Wk}(h:k.l.length=24){i:Nat}(hi:i<24):k.cells[i*2]?=Ic (.bool (k.at i).1):=by
 unfold Wk.cells;rw[Jg (by rw[ed,h];omega)];exact EQ _ _ _ (Fz h hi)
theorem GC{k:Wk}(h:k.l.length=24){i:Nat}(hi:i<24):k.cells[i*2+1]?=Ic (Ib Ie (k.at i).2):=by
 unfold Wk.cells;rw[Jg (by rw[ed,h];omega)];exact F2 _ _ _ (Fz h hi)
def Wk.put(k:Wk)(i:Nat)(p:Bool×Int):Wk:={ k with l:=k.l.set i p }
theorem sX{k:Wk}(h:k.l.length=24){i:Nat}(hi:i<24)(b:Bool)(v:Int):k.cells.take (i*2)++[Iy b,Ib Ie v]++k.cells.drop (i*2+2)=(k.put i (b,v)).cells:=by
 unfold Wk.cells;rw[yZ _ _ _ _ _ (by omega)];rfl
theorem Eo{k:Wk}(h:k.l.length=24){i:Nat}(hi:i<24):(k.cells.drop (i*2)).take 2=[Iy (k.at i).1,Ib Ie (k.at i).2]:=by
 have h0:=Hi h hi;have h1:=GC h hi;obtain⟨q0,e0⟩:=Ip.1 h0;obtain⟨q1,e1⟩:=Ip.1 h1;rw[Jc q0,Jc q1,e0,e1];rfl
theorem cD.cell{W:Im}{g:Nat}{k:Wk}(h:cD W g k)(i:Nat):W.cell? ⟨g,48+i,Ih⟩=k.hi[i]?:=by rw[aq h.1,GB h.2]
theorem cD.below{W W':Im}{g:Nat}{k:Wk}(h:cD W g k)(hb:It W.heap.size W W'):cD W' g k:=⟨ag h.1 hb,h.2⟩
theorem cD.fr{W W':Im}{g:Nat}{k:Wk}{S:Nat->Prop}(h:cD W g k)(hf:Fr S W W')(hs:¬S g):cD W' g k:=⟨(hf.block _ (aj h.1) hs).trans h.1,h.2⟩
theorem oK(g:Nat)(k:Wk)(i:Nat)(hi:i<24)(w:Im)(hW:cD w g k):I9 If 106 #[Iq (Ic ⟨g,0,Ih⟩),Ib Ie (i:Int)] w λe w'=>e=Iv (Ib Ie (k.at i).2)/\w=w':=by
 have hi':(i:Int)<24:=by omega
 have c1:=(show w.cell? ⟨g,i*2+1,Ih⟩=Ic (Ib Ie (k.at i).2) by rw[aq hW.1,GC hW.2 hi]);clear hW hi;go_enter Tryz.func106,Tryz.ntmps106;go_wp2;go_ret;exact⟨rfl,rfl⟩
def Wk.setW(k:Wk)(v how:Int):Wk:=if how=0 then { k with how:=how,l:=k.l.set k.x.d.toNat (Ir,v) }else { k with how:=how }
theorem py{W:Im}{g:Nat}{k:Wk}(h:cD W g k)(how:Int):cD (W.setCell ⟨g,59,Ih⟩ (Ib Ie how)) g { k with how:=how }:=by
 refine⟨?_,h.2⟩;rw[aR h.1,show 59=48+11 from rfl,nS h.2];rfl
theorem bodyPost_end{P:Jn}{fn:Func}{R:Ending->Im->Prop}{a:Act}{w:Im}{v:Io}(hr:(Lg fn a.tmps).run P w=.ok v w)(hd:a.defers=[])(hR:R (Iv v) w):bodyPost P fn R .normal a w:=⟨hd,v,hr,hR⟩
theorem fK{P:Jn}{ops:Array Oper}{rest:List Oper}{o:Oper}{a:Act}{W:Im}{Q:Exit->Act->Im->Prop}(hgd:o.guard=Ih)(ty:Je)(x y:Lf)(ho:o.op=.store ty x y)(g i:Nat)(vs:List Io)
  (hx:a.eval x=Iq (Ic ⟨g,i,Ih⟩)) (hy:a.eval y=IA vs.toArray) (t:Nat) (L:List Io) (hg:W.heap[g]?=Ic (.cells L.toArray t (0,0))) (hi:(P.info? ty).map (·.size)=Ic vs.length) (hl:i+vs.length<=L.length) (h1:∀v∈vs,v.oneCell'=Ir)
  (h:∀W',W'.heap[g]?=Ic (.cells (L.take i++vs++L.drop (i+vs.length)).toArray t (0,0))->Fr (λk=>k=g) W W'->Kg P ops Q rest (a.put o.dst KG) W'):Kg P ops Q (o::rest) a W:=
 f6 hgd ty x y ho g i vs hx hy t L hg hi hl h1 (h _ (JX W g _ _ t _ hg) (Fr.row (S:=λk=>k=g) rfl _))
theorem mA:(If.info? 90).map (·.size)=Ic 2:=by kernel_rfl
theorem uh(g:Nat)(k:Wk)(v how:Int)(w:Im)(hW:cD w g k)(hd:0<=k.x.d)(hd':k.x.d<24):I9 If 107 #[Iq (Ic ⟨g,0,Ih⟩),Ib Ie v,Ib Ie how] w λe w'=>e=Iv (IR #[])/\cD w' g (k.setW v how)/\Fr (λj=>j=g) w w':=by
 obtain⟨d,hd2⟩:∃d:Nat,k.x.d=d:=⟨k.x.d.toNat,by omega⟩;have hdl:d<24:=by omega
 have hdl':(d:Int)<24:=by omega
 have c11:=(show w.cell? ⟨g,59,Ih⟩=Ic (Ib Ie k.how) by rw[show 59=48+11 from rfl,hW.cell];rfl);have f11:=au hW.1 59;have HW:=MD hW;have HD:=MD hdl;have HDe:=MD hd2;clear hW hd hd' hd2 hdl;by_cases h0:how=0
 .subst h0
  go_enter Tryz.func107,Tryz.ntmps107;go_upto_region 2 with fail
  have hW2:=py HW.1 0;obtain⟨w2,hw2⟩:∃w2,w2=w.setCell ⟨g,59,Ih⟩ (Ib Ie 0):=⟨_,rfl⟩;rw[<-hw2]at hW2;have HF2:=MD (show Fr (λj=>j=g) w w2 by rw[hw2];exact Fr.cell (S:=λj=>j=g) (p:=⟨g,59,Ih⟩) rfl _);refine ar hw2.symm ?_;have HW2:=MD hW2;have c4:=(show w2.cell? ⟨g,52,Ih⟩=Ic (Ib Ie (d:Int)) by rw[show 52=48+4 from rfl,hW2.cell,<-HDe.1];rfl);clear hw2 hW2 c11 f11;go_upto_region 2 with fail
  go_still_tail 12,(by kernel_rfl);refine fK (W:=w2.drew) rfl 90 _ _ rfl g (d*2) [Iy Ir,Ib Ie v] rfl rfl 197 _ (ag HW2.1.1 (aA (Il _ _))) mA (by have:=px HW2.1.2;have:=HD.1;simp only[Jz,Lj];omega) (by simp[IH]) ?_;intro w3 h3 hf3;have HW3:=MD (show cD w3 g ({ k with how:=0 }.put d (Ir,v))from⟨by rw[<-sX HW2.1.2 HD.1];exact h3,by unfold Wk.put;simp[HW2.1.2]⟩);have HF3:=MD ((HF2.1.trans (Fr.drew (S:=λj=>j=g))).trans hf3);clear h3 hf3 c4;go_wp2;refine bodyPost_end (v:=IR #[]) (by simp[Lg,Tryz.results107,go_sem]) rfl ⟨rfl,?_,HF3.1⟩;unfold Wk.setW;rw[if_pos rfl,HDe.1,IC];exact HW3.1
 .have q:(how==0)=Ik:=beq_eq_false_iff_ne.mpr h0
  have HH:=MD h0;clear h0;go_enter Tryz.func107,Tryz.ntmps107;go_wp2;refine bodyPost_end (v:=IR #[]) (by simp[Lg,Tryz.results107,go_sem]) rfl ⟨rfl,?_,Fr.cell (S:=λj=>j=g) (p:=⟨g,59,Ih⟩) rfl _⟩;unfold Wk.setW;rw[if_neg HH.1];exact py HW.1 how
def Wk.moveW(k:Wk):Wk:=if k.x.op=1 then k.put k.x.d.toNat (Ir,k.x.n)else if k.x.op=2 then k.put k.x.d.toNat (k.at k.x.a.toNat)else if k.x.op=3 then(k.put k.x.d.toNat (k.at k.x.a.toNat)).put k.x.a.toNat (k.at k.x.d.toNat)else k
theorem cD.put'{W:Im}{g:Nat}{k:Wk}(h:k.l.length=24){i:Nat}(hi:i<24){b:Bool}{v:Int}(h3:W.heap[g]?=Ic (.cells (k.cells.take (i*2)++[Iy b,Ib .i64 v]++k.cells.drop (i*2+2)).toArray 197 (0,0))):cD W g (k.put i (b,v)):=
 ⟨by rw[<-sX h hi];exact h3,by unfold Wk.put;simp[h]⟩
theorem sY{W:Im}{g:Nat}{k:Wk}(h:cD W g k){i:Nat}(hi:i<24):(Le 90 ⟨g,i*2,Ih⟩).run If W=.ok (IA #[Iy (k.at i).1,Ib Ie (k.at i).2]) W:=
 cr h.1 90 (i*2) [Iy (k.at i).1,Ib Ie (k.at i).2] (Eo h.2 hi) _ Tryz.underlying90 rfl mA
def uf(k:Wk)(d a:Nat)(bs:List Bool):Wk:=
 let k1:=if bs.getD 0 Ik=Ir then k.put d (k.at a)else k
 if bs.getD 1 Ik=Ir then k1.put a (k.at d)else k1
theorem pf(k:Wk)(d a:Nat)(bs:List Bool):(uf k d a bs).hi=k.hi:=by
 unfold uf;simp only;split<;>split<;>rfl
theorem ue(k:Wk)(d a:Nat)(bs:List Bool):(uf k d a bs).l.length=k.l.length:=by
 unfold uf Wk.put;simp only;split<;>split<;>simp
theorem FQ{k:Wk}(h:k.l.length=24){d a:Nat}(hd:d<24)(ha:a<24){b1:Bool}:uf k d a [Ir,b1]=(uf k d a [Ik,b1]).put d ((k.at a).1,(k.at a).2):=by
 cases b1 with
 |false=>rfl
 |true=>
  show(k.put d (k.at a)).put a (k.at d)=(k.put a (k.at d)).put d (k.at a);unfold Wk.put;by_cases e:d=a
  .subst e
   simp
  .simp only
   rw[List.set_comm _ _ e]
theorem Bu(g:Nat)(k:Wk)(w:Im)(hW:cD w g k)(hd:0<=k.x.d/\k.x.d<24)(ha:0<=k.x.a/\k.x.a<24):I9 If 112 #[Iq (Ic ⟨g,0,Ih⟩)] w λe w'=>e=Iv (IR #[])/\cD w' g k.moveW/\Fr (λj=>j=g) w w':=by
 obtain⟨d,hd2⟩:∃d:Nat,k.x.d=d:=⟨k.x.d.toNat,by omega⟩;obtain⟨a,ha2⟩:∃a:Nat,k.x.a=a:=⟨k.x.a.toNat,by omega⟩;have hdl:d<24:=by omega
 have hal:a<24:=by omega
 have hdl':(d:Int)<24:=by omega
 have hal':(a:Int)<24:=by omega
 have c3:=(show w.cell? ⟨g,51,Ih⟩=Ic (Ib Ie k.x.op) by rw[show 51=48+3 from rfl,hW.cell];rfl);have c4:=(show w.cell? ⟨g,52,Ih⟩=Ic (Ib Ie (d:Int)) by rw[show 52=48+4 from rfl,hW.cell,<-hd2];rfl);have c5:=(show w.cell? ⟨g,53,Ih⟩=Ic (Ib Ie (a:Int)) by rw[show 53=48+5 from rfl,hW.cell,<-ha2];rfl);have c7:=(show w.cell? ⟨g,55,Ih⟩=Ic (Ib Ie k.x.n) by rw[show 55=48+7 from rfl,hW.cell];rfl);unfold Wk.moveW;rw[hd2,ha2,IC,IC];have HW:=MD hW;have HD:=MD hdl;have HA:=MD hal;have HEd:=MD hd2;have HEa:=MD ha2;have HA3:=MD (show ∀W,(isAgg 3).run If W=.ok Ik W from λW=>by kernel_rfl);have HLd:=MD (λi (hi:i<24)=>sY (hW.below (aA (Il _ _))) hi);clear hW hd ha hd2 ha2 hdl hal;by_cases h1:k.x.op=1
 .have q1:(k.x.op==1)=Ir:=beq_iff_eq.mpr h1
  rw[if_pos h1];clear h1;go_enter Tryz.func112,Tryz.ntmps112;go_upto_region 3 with fail
  go_still_tail 14,(by kernel_rfl);refine fK (W:=w.drew) rfl 90 _ _ rfl g (d*2) [Iy Ir,Ib Ie k.x.n] rfl rfl 197 _ (ag HW.1.1 (aA (Il _ _))) mA (by have:=px HW.1.2;have:=HD.1;simp only[Jz,Lj];omega) (by simp[IH]) ?_;intro w3 h3 hf3;have HW3:=MD (cD.put' HW.1.2 HD.1 h3);have HF3:=MD ((Fr.drew (S:=λj=>j=g)).trans hf3);clear h3 hf3 c3 c4 c5 c7;go_wp2;exact bodyPost_end (v:=IR #[]) (by simp[Lg,Tryz.results112,go_sem]) rfl ⟨rfl,HW3.1,HF3.1⟩
 .rw[if_neg h1]
  have q1:(k.x.op==1)=Ik:=beq_eq_false_iff_ne.mpr h1;by_cases h2:k.x.op=2
  .have q2:(k.x.op==2)=Ir:=beq_iff_eq.mpr h2
   rw[if_pos h2];clear h1 h2;go_enter Tryz.func112,Tryz.ntmps112;go_upto_region 5 with fail
   go_still_tail 17,(by kernel_rfl);refine bO rfl (ao rfl rfl (HLd.1 a HA.1)) ?_
   repeat still_step
   refine Mc ?_;refine fK (W:=w.drew) rfl 90 _ _ rfl g (d*2) [Iy (k.at a).1,Ib Ie (k.at a).2] rfl rfl 197 _ (ag HW.1.1 (aA (Il _ _))) mA (by have:=px HW.1.2;have:=HD.1;simp only[Jz,Lj];omega) (by simp[IH]) ?_;intro w3 h3 hf3;have HW3:=MD (cD.put' HW.1.2 HD.1 h3);have HF3:=MD ((Fr.drew (S:=λj=>j=g)).trans hf3);clear h3 hf3 c3 c4 c5 c7;go_wp2;exact bodyPost_end (v:=IR #[]) (by simp[Lg,Tryz.results112,go_sem]) rfl ⟨rfl,HW3.1,HF3.1⟩
  .rw[if_neg h2]
   have q2:(k.x.op==2)=Ik:=beq_eq_false_iff_ne.mpr h2;by_cases h3:k.x.op=3
   .have q3:(k.x.op==3)=Ir:=beq_iff_eq.mpr h3
    rw[if_pos h3];clear h1 h2 h3;go_enter Tryz.func112,Tryz.ntmps112;go_upto_region 7 with fail
    refine bm (σ:=Unit) [32,35] (λs=>[(49,Iq (Ic ⟨g,0,Ih⟩)),(50,Iq (Ic ⟨g,0,Ih⟩)),(51,Iq (Ic ⟨g,0,Ih⟩)),(52,Iq (Ic ⟨g,51,Ih⟩)),(53,Iq (Ic ⟨g,52,Ih⟩)),(54,Ib Ie (d:Int)),(55,Iq (Ic ⟨g,0,Ih⟩)),(56,Iq (Ic ⟨g,0,Ih⟩)),(57,Iq (Ic ⟨g,0,Ih⟩)),(58,Iq (Ic ⟨g,51,Ih⟩)),(59,Iq (Ic ⟨g,53,Ih⟩)),(60,Ib Ie (a:Int)),(61,Iq (Ic ⟨g,0,Ih⟩)),(62,Iq (Ic ⟨g,0,Ih⟩)),(63,Iq (Ic ⟨g,0,Ih⟩)),(64,Iq (Ic ⟨g,51,Ih⟩)),(65,Iq (Ic ⟨g,53,Ih⟩)),(66,Ib Ie (a:Int)),(67,Iq (Ic ⟨g,0,Ih⟩)),(68,Iq (Ic ⟨g,a*2,Ih⟩)),(69,IA #[Iy (k.at a).1,Ib Ie (k.at a).2]),(70,Iq (Ic ⟨g,0,Ih⟩)),(71,Iq (Ic ⟨g,0,Ih⟩)),(72,Iq (Ic ⟨g,0,Ih⟩)),(73,Iq (Ic ⟨g,51,Ih⟩)),(74,Iq (Ic ⟨g,52,Ih⟩)),(75,Ib Ie (d:Int)),(76,Iq (Ic ⟨g,0,Ih⟩)),(77,Iq (Ic ⟨g,d*2,Ih⟩)),(78,IA #[Iy (k.at d).1,Ib Ie (k.at d).2]),(79,Iq (Ic ⟨g,0,Ih⟩)),(80,Iq (Ic ⟨g,d*2,Ih⟩)),(81,Iq (Ic ⟨g,0,Ih⟩)),(82,Iq (Ic ⟨g,a*2,Ih⟩))])
     (λbs _ W=>cD W g (uf k d a bs)/\Fr (λj=>j=g) w W) () (by kernel_rfl) (by kernel_rfl) (by kernel_rfl) (λ_=>by kernel_rfl) ?_
    intro aF haF;simp only[bk,KY,IP,IZ,IY]at haF;subst haF;refine⟨?_,?_,⟨cD.below HW.1 (aA (Il _ _)),Fr.drew⟩,?_⟩
    .intro j o ho hct s W bs hlen hok hI
     rcases j with _|_|_|_|_|_|_|_|_|_|_|_|_|_|_|_|_|_|_|_|_|_|_|_|_|_|_|_|_|_|_|_|_|_|_|_|j
     all_goals first|exact absurd hct (by decide)|(obtain rfl:=Ii ho)|exact absurd (IB.1 ho).1 (by simp)
     .exact ab rfl (by go_simp) ⟨rfl,hI⟩
     .exact ab rfl (by go_simp) ⟨rfl,hI⟩
     .exact ab rfl (by go_simp) ⟨rfl,hI⟩
     .exact ab rfl (by go_simp) ⟨rfl,hI⟩
     .exact ab rfl (by go_simp) ⟨rfl,hI⟩
     .exact ab rfl (ao rfl rfl (aH (HA3.1 W) (by rw[show 52=48+4 from rfl,hI.1.cell,pf];exact congrArg Ic (congrArg (Ib .i64) HEd.1)))) ⟨rfl,hI⟩
     .exact ab rfl (by go_simp) ⟨rfl,hI⟩
     .exact ab rfl (by go_simp) ⟨rfl,hI⟩
     .exact ab rfl (by go_simp) ⟨rfl,hI⟩
     .exact ab rfl (by go_simp) ⟨rfl,hI⟩
     .exact ab rfl (by go_simp) ⟨rfl,hI⟩
     .exact ab rfl (ao rfl rfl (aH (HA3.1 W) (by rw[show 53=48+5 from rfl,hI.1.cell,pf];exact congrArg Ic (congrArg (Ib .i64) HEa.1)))) ⟨rfl,hI⟩
     .exact ab rfl (by go_simp) ⟨rfl,hI⟩
     .exact ab rfl (by go_simp) ⟨rfl,hI⟩
     .exact ab rfl (by go_simp) ⟨rfl,hI⟩
     .exact ab rfl (by go_simp) ⟨rfl,hI⟩
     .exact ab rfl (by go_simp) ⟨rfl,hI⟩
     .exact ab rfl (ao rfl rfl (aH (HA3.1 W) (by rw[show 53=48+5 from rfl,hI.1.cell,pf];exact congrArg Ic (congrArg (Ib .i64) HEa.1)))) ⟨rfl,hI⟩
     .exact ab rfl (by go_simp) ⟨rfl,hI⟩
     .exact ab rfl (by go_simp) ⟨rfl,hI⟩
     .obtain⟨b0,b1,rfl⟩:=it hlen
      obtain rfl:=okF hok 0 rfl rfl rfl (by kernel_rfl);obtain rfl:=okF hok 1 rfl rfl rfl (by kernel_rfl);exact ab rfl (ao rfl rfl (sY (k:=k) hI.1 HA.1)) ⟨rfl,hI⟩
     .exact ab rfl (by go_simp) ⟨rfl,hI⟩
     .exact ab rfl (by go_simp) ⟨rfl,hI⟩
     .exact ab rfl (by go_simp) ⟨rfl,hI⟩
     .exact ab rfl (by go_simp) ⟨rfl,hI⟩
     .exact ab rfl (by go_simp) ⟨rfl,hI⟩
     .exact ab rfl (ao rfl rfl (aH (HA3.1 W) (by rw[show 52=48+4 from rfl,hI.1.cell,pf];exact congrArg Ic (congrArg (Ib .i64) HEd.1)))) ⟨rfl,hI⟩
     .exact ab rfl (by go_simp) ⟨rfl,hI⟩
     .exact ab rfl (by go_simp) ⟨rfl,hI⟩
     .obtain⟨b0,b1,rfl⟩:=it hlen
      obtain rfl:=okF hok 0 rfl rfl rfl (by kernel_rfl);obtain rfl:=okF hok 1 rfl rfl rfl (by kernel_rfl);exact ab rfl (ao rfl rfl (sY (k:=k) hI.1 HD.1)) ⟨rfl,hI⟩
     .exact ab rfl (by go_simp) ⟨rfl,hI⟩
     .exact ab rfl (by go_simp) ⟨rfl,hI⟩
     .exact ab rfl (by go_simp) ⟨rfl,hI⟩
     .exact ab rfl (by go_simp) ⟨rfl,hI⟩
    .intro k j o hk ho s W bs hlen hok hI
     rcases k with _|_|k
     all_goals first|(obtain rfl:=Ii hk;obtain rfl:=Ii ho)|exact absurd hk (by simp)
     .obtain⟨b0,b1,rfl⟩:=it hlen
      obtain rfl:=okS hok 0 rfl rfl;refine bC rfl 90 _ _ rfl g (d*2) [Iy (k.at a).1,Ib Ie (k.at a).2] rfl rfl 197 _ _ hI.1.1 mA (by have:=px hI.1.2;have:=HD.1;simp only[Jz,Lj];omega) (by simp[IH]) (sX hI.1.2 HD.1 _ _) (λW' h3 hf3=>⟨(),[],rfl,rfl,rfl,⟨?_,(ue _ _ _ _).trans HW.1.2⟩,hI.2.trans hf3⟩);exact(show W'.heap[g]?=Ic (.cells (uf k d a [Ir,b1]).cells.toArray 197 (0,0)) by rw[FQ HW.1.2 HD.1 HA.1];exact h3)
     .obtain⟨b0,b1,rfl⟩:=it hlen
      obtain rfl:=okS hok 1 rfl rfl;refine bC rfl 90 _ _ rfl g (a*2) [Iy (k.at d).1,Ib Ie (k.at d).2] rfl rfl 197 _ _ hI.1.1 mA (by have:=px hI.1.2;have:=HA.1;simp only[Jz,Lj];omega) (by simp[IH]) (sX hI.1.2 HA.1 _ _) (λW' h3 hf3=>⟨(),[],rfl,rfl,rfl,⟨?_,(ue _ _ _ _).trans HW.1.2⟩,hI.2.trans hf3⟩);exact h3
    .intro s W hI
     have HW3:=MD hI.1;have HF3:=MD hI.2;clear hI c3 c4 c5 c7;go_wp2;exact bodyPost_end (v:=IR #[]) (by simp[Lg,Tryz.results112,go_sem]) rfl ⟨rfl,HW3.1,HF3.1⟩
   .have q3:(k.x.op==3)=Ik:=beq_eq_false_iff_ne.mpr h3
    rw[if_neg h3];clear h1 h2 h3;go_enter Tryz.func112,Tryz.ntmps112;go_wp2;exact bodyPost_end (v:=IR #[]) (by simp[Lg,Tryz.results112,go_sem]) rfl ⟨rfl,HW.1,Fr.refl _ _⟩
structure Ev where
 n:Int
 arg:Int
 ans:Int
deriving DecidableEq
def kEv:Kd Ev:=Kd.flat 3 (λx=>[Ib Ie x.n,Ib Ie x.arg,Ib Ie x.ans]) (λ_=>rfl) (by simp[IH])
theorem cj:mL kEv:=λ_ _ _ _ h=>h
def Wk.callW(k:Wk)(ask:List Int)(vE:Io):Wk:=if(ask.length:Int)<=k.asked then { k with how:=5 }else Wk.setW { k with vE:=vE,asked:=k.asked+1 } (ask.getD k.asked.toNat 0) 0
theorem GA{W:Im}{g:Nat}{k:Wk}(h:cD W g k)(v:Io):cD (W.setCell ⟨g,58,Ih⟩ v) g { k with vE:=v }:=⟨by rw[aR h.1,show 58=48+10 from rfl,nS h.2];rfl,h.2⟩
theorem Gz{W:Im}{g:Nat}{k:Wk}(h:cD W g k)(v:Io):cD (W.setCell ⟨g,48,Ih⟩ v) g { k with vH:=v }:=⟨by rw[aR h.1,show 48=48+0 from rfl,nS h.2];rfl,h.2⟩
theorem k8{W:Im}{g:Nat}{k:Wk}(h:cD W g k)(v:Int):cD (W.setCell ⟨g,49,Ih⟩ (Ib Ie v)) g { k with at_:=v }:=⟨by rw[aR h.1,show 49=48+1 from rfl,nS h.2];rfl,h.2⟩
theorem CG{W:Im}{g:Nat}{k:Wk}(h:cD W g k)(v:Int):cD (W.setCell ⟨g,50,Ih⟩ (Ib Ie v)) g { k with asked:=v }:=⟨by rw[aR h.1,show 50=48+2 from rfl,nS h.2];rfl,h.2⟩
theorem FL{W:Im}{g:Nat}{k:Wk}(h:cD W g k)(v:Int):cD (W.setCell ⟨g,60,Ih⟩ (Ib Ie v)) g { k with val:=v }:=⟨by rw[aR h.1,show 60=48+12 from rfl,nS h.2];rfl,h.2⟩
theorem Gh{W:Im}{g:Nat}{x:Ev}(h:W.heap[g]?=Ic (.cells #[Ib Ie x.n,Ib Ie x.arg,Ib Ie x.ans] 105 (0,0))):RdT kEv 105 W (Ia (Ic ⟨g,0,Ih⟩) 1 1) [x]:=by
 refine⟨Ic ⟨g,0,Ih⟩,1,rfl,Iz _,⟨rfl,by simp,λ_=>⟨_,rfl,λj p hp=>?_⟩⟩,λad e=>by injection e with e;subst e;exact⟨_,_,h⟩⟩
 match j,hp with
 |0,hp=>
  obtain rfl:=Ii hp;refine⟨[Ib Ie x.n,Ib Ie x.arg,Ib Ie x.ans],rfl,rfl,λi u hu=>?_⟩;rw[Nat.zero_mul,KB,zV,ah h,<-hu];simp
 |j+1,hp=>simp at hp
theorem CP(g:Nat)(k:Wk)(ask:List Int)(arg:Int)(w:Im)(hW:cD w g k)(hA:Rd (Kd.int .i64) w k.vA ask)(h0:0<=k.asked)(hl:ask.length<=100000)(hd:0<=k.x.d/\k.x.d<24) :
  I9 If 110 #[Iq (Ic ⟨g,0,Ih⟩),Ib Ie arg] w λe w'=>e=Iv (IR #[])/\∃vE,cD w' g (k.callW ask vE)/\(k.asked<ask.length->RdT kEv 105 w' vE [⟨k.x.n,arg,ask.getD k.asked.toNat 0⟩])/\Fr (λj=>j=g) w w':=by
 obtain⟨n,hn⟩:∃n:Nat,k.asked=n:=⟨k.asked.toNat,by omega⟩;obtain⟨A,c,hv,_,hC⟩:=hA;have c50:=(show w.cell? ⟨g,50,Ih⟩=Ic (Ib Ie (n:Int)) by rw[show 50=48+2 from rfl,hW.cell,<-hn];rfl);have c57:=(show w.cell? ⟨g,57,Ih⟩=Ic (.slice A ask.length c) by rw[show 57=48+9 from rfl,hW.cell,<-hv];rfl);have hl':(ask.length:Int)<=100000:=by omega
 have HW:=MD hW;have HN:=MD hn;have HD:=MD hd;have HWd:=MD (hW.below (aA (Il _ _)));by_cases hle:ask.length<=n
 .have hle':(ask.length:Int)<=(n:Int):=by omega
  have HLe:=MD (show(ask.length:Int)<=k.asked by omega);have c59:=(show w.drew.cell? ⟨g,59,Ih⟩=Ic (Ib Ie k.how) by rw[show 59=48+11 from rfl,HWd.1.cell];rfl);have f59:=au HWd.1.1 59;clear hW hn hd hv hC h0 hl hle;go_enter Tryz.func110,Tryz.ntmps110;go_upto_region 0 with fail
  refine KF (by kernel_rfl) (by kernel_rfl) ?_
  repeat still_step
  refine Mc ?_;change(Exit.then _ _) _ _ w.drew;clear c50 c57;go_wp2;refine IG (v:=IR #[]) (by simp[Lg,Tryz.results110,go_sem]) rfl ⟨rfl,Iy Ik,?_,λh=>by have:=HLe.1;omega,Fr.trans (Fr.drew (S:=λj=>j=g)) (Fr.cell (S:=λj=>j=g) (p:=⟨g,59,Ih⟩) rfl _)⟩;unfold Wk.callW;rw[if_pos HLe.1];exact py HWd.1 5
 .have hnl:n<ask.length:=by omega
  have hnl':(n:Int)<(ask.length:Int):=by omega
  obtain⟨x,hx⟩:∃x,ask[n]?=Ic x:=⟨_,Ig hnl⟩;obtain⟨ad,cs,e,_,hK,hcs⟩:=b_ hC n hnl x hx;subst e;obtain rfl:cs=[Ib Ie x]:=hK;have vx:=hcs 0 _ rfl;rw[show n*(Kd.int .i64).sz+0=n from JQ n]at vx;have HX:=MD hx;have HLt:=MD hnl;clear hW hn hd hv hC h0 hl hle hnl hx hcs;go_enter Tryz.func110,Tryz.ntmps110;go_upto_region 0 with fail
  refine KF (by kernel_rfl) (by kernel_rfl) ?_
  repeat still_step
  refine Mc ?_;change(Exit.then _ _) _ _ w.drew;obtain⟨w1,hw1⟩:=ME w.drew;rw[<-hw1]at HWd ⊢;have c50':=(show w1.cell? ⟨g,50,Ih⟩=Ic (Ib Ie (n:Int)) by rw[hw1];exact c50);have c57':=(show w1.cell? ⟨g,57,Ih⟩=Ic (.slice (Ic ad) ask.length c) by rw[hw1];exact c57);have vx':=(show w1.cell? (ad.add n)=Ic (Ib Ie x) by rw[hw1];exact vx);have HF1:=MD (show Fr (λj=>j=g) w w1 by rw[hw1];exact Fr.drew);clear hw1 c50 c57 vx;go_upto_region 2 with fail
  refine KF (by kernel_rfl) (by kernel_rfl) ?_
  repeat still_step
  refine Mc ?_;change(Exit.then _ _) _ _ w1.drew;obtain⟨w2,hw2⟩:=ME w1.drew;have HW2:=MD (show cD w2 g k by rw[hw2];exact HWd.1.below (aA (Il _ _)));have HF2:=MD (show Fr (λj=>j=g) w w2 by rw[hw2];exact HF1.1.trans Fr.drew);rw[<-hw2];have c55:=(show w2.cell? ⟨g,55,Ih⟩=Ic (Ib Ie k.x.n) by rw[show 55=48+7 from rfl,HW2.1.cell];rfl);have c58:=(show w2.cell? ⟨g,58,Ih⟩=Ic k.vE by rw[show 58=48+10 from rfl,HW2.1.cell];rfl);have f58:=au HW2.1.1 58;have hlt:=aj HW2.1.1;clear hw2 c50' c57' vx';go_upto_region 4 with fail
  obtain⟨w3,hw3⟩:∃w3,w3=(w2.setCell ⟨g,58,Ih⟩ (Ia (Ic ⟨w2.heap.size,0,Ih⟩) 1 1)).alloc (Is #[Ib Ie k.x.n,Ib Ie arg,Ib Ie x] 105):=⟨_,rfl⟩;refine ar hw3.symm ?_;have hsz:(w2.setCell ⟨g,58,Ih⟩ (Ia (Ic ⟨w2.heap.size,0,Ih⟩) 1 1)).heap.size=w2.heap.size:=by simp
  have HW3:=MD (show cD w3 g { k with vE:=Ia (Ic ⟨w2.heap.size,0,Ih⟩) 1 1 } by rw[hw3];exact(GA HW2.1 _).below (ae (Il _ _) _));have HF3:=MD (show Fr (λj=>j=g) w w3 by rw[hw3];exact(HF2.1.trans (Fr.cell (S:=λj=>j=g) (p:=⟨g,58,Ih⟩) rfl _)).trans (Fr.of_below (ae (Il _ _) _)));have HE3:=MD (show RdT kEv 105 w3 (Ia (Ic ⟨w2.heap.size,0,Ih⟩) 1 1) [⟨k.x.n,arg,x⟩]from Gh (x:=⟨k.x.n,arg,x⟩) (by have h:=JZ (w2.setCell ⟨g,58,Ih⟩ (Ia (Ic ⟨w2.heap.size,0,Ih⟩) 1 1)) (Is #[Ib Ie k.x.n,Ib Ie arg,Ib Ie x] 105);rw[hsz]at h;rw[hw3];exact h));obtain⟨vE,hvE⟩:=ME (Ia (Ic ⟨w2.heap.size,0,Ih⟩) 1 1);rw[<-hvE]at HW3 HE3;have c50:=(show w3.cell? ⟨g,50,Ih⟩=Ic (Ib Ie (n:Int)) by rw[show 50=48+2 from rfl,HW3.1.cell,<-HN.1];rfl);have f50:=au HW3.1.1 50;clear hw3 hsz c55 c58 f58 hlt;go_upto_region 5 with fail
  obtain⟨w4,hw4⟩:∃w4,w4=w3.setCell ⟨g,50,Ih⟩ (Ib Ie ((n:Int)+1)):=⟨_,rfl⟩;refine ar hw4.symm ?_;have HW4:=MD (show cD w4 g { k with vE:=vE,asked:=(n:Int)+1 } by rw[hw4];exact CG HW3.1 _);have hf4:Fr (λj=>j=g) w3 w4:=by rw[hw4];exact Fr.cell (S:=λj=>j=g) (p:=⟨g,50,Ih⟩) rfl _
  have HE4:=MD (RdT.fr cj HE3.1 hf4 (λj cs fr e=>by subst e;rw[HW3.1.1];simp));have HF4:=MD (HF3.1.trans hf4);clear hw4 hf4 c50 f50;have HC:=MD (uh g _ x 0 w4 HW4.1 HD.1.1 HD.1.2);go_upto_region 6 with(first
   |(go_at_call 107;refine HC.1.mono ?_;rintro e w5 ⟨rfl,h5,hf5⟩;have HW5:=MD h5;have HF5:=MD hf5;clear h5 hf5))
  refine bodyPost_end (v:=IR #[]) (by simp[Lg,Tryz.results110,go_sem]) rfl ⟨rfl,vE,?_,λ_=>?_,HF4.1.trans HF5.1⟩
  .unfold Wk.callW
   rw[if_neg (by have:=HLt.1;have:=HN.1;omega),HN.1,IC,Ij,HX.1];exact HW5.1
  .rw[HN.1,IC,Ij,HX.1]
   exact RdT.fr cj HE4.1 HF5.1 (λj cs fr e=>by subst e;rw[HW4.1.1];simp)
section
section
variable{P:Jn}
open Go.ChangeMaps (setBlock)
theorem pQ{t kt et:Je}(hu:P.underlying t=Ic (.map kt et))(hk:P.underlying kt=Ic (.int .i64))(W:Im)(b:Nat)(es:Array MapEntry)(c:Nat)(k:Int)(v:Io)(hh:W.heap[b]?=Ic (.map es c))(hf:Kz (.int .i64) (Ib Ie k) es.toList 0=Ic Ih) :
  (LK t (.map (Ic b)) (Ib Ie k) v).run P W=.ok () (setBlock W b (.map (es.push { key:=Ib Ie k,val:=v,born:=c }) (c+1))):=by
 have h1:=Mf (P:=P) (w:=W) (k:=Ib Ie k) hk (show MapKept.IsKey (.int .i64) (Ib Ie k)from rfl) Ik 9999;have h2:=Mh (P:=P) (w:=W) hk hf;simp[LK,I2 hu,J6 hh,h1,h2,MapKept.run_setObj_map _ hh,Jf,setBlock]
theorem pO{t kt et:Je}(hu:P.underlying t=Ic (.map kt et))(hk:P.underlying kt=Ic (.int .i64))(W:Im)(b:Nat)(es:Array MapEntry)(c:Nat)(k:Int)(z:Io)(hh:W.heap[b]?=Ic (.map es c))(hz:(Mr et).run P W=.ok z W)(hf:Kz (.int .i64) (Ib Ie k) es.toList 0=Ic Ih) :
  (Kr t (.map (Ic b)) (Ib Ie k) Ik).run P W=.ok z W:=by
 have h1:=Mf (P:=P) (w:=W) (k:=Ib Ie k) hk (show MapKept.IsKey (.int .i64) (Ib Ie k)from rfl) es.isEmpty 9999;have h2:=Mh (P:=P) (w:=W) hk hf;simp[Kr,I2 hu,J6 hh,h1,h2,hz,Jf]
theorem pP{t kt et:Je}(hu:P.underlying t=Ic (.map kt et))(hk:P.underlying kt=Ic (.int .i64))(W:Im)(b:Nat)(es:Array MapEntry)(c:Nat)(k:Int)(i:Nat)(v:Io)(hh:W.heap[b]?=Ic (.map es c))(hf:Kz (.int .i64) (Ib Ie k) es.toList 0=Ic (Ic (i,v))) :
  (Kr t (.map (Ic b)) (Ib Ie k) Ik).run P W=.ok v W:=by
 have h1:=Mf (P:=P) (w:=W) (k:=Ib Ie k) hk (show MapKept.IsKey (.int .i64) (Ib Ie k)from rfl) es.isEmpty 9999;have h2:=Mh (P:=P) (w:=W) hk hf;simp[Kr,I2 hu,J6 hh,h1,h2,Jf]
theorem pM(W:Im)(o o':Obj):setBlock (W.alloc o) W.heap.size o'=W.alloc o':=by
 simp only[setBlock,Im.alloc];congr 1;apply Array.ext';simp[Array.setIfInBounds,Array.toList_push]
end
def Fh(i:Nat):MapEntry:={ key:=Ib Ie (4+i),val:=.func (.func (if i=8 then 131 else 122+i)) #[] #[],born:=i }
def eR(n:Nat):Array MapEntry:=((Jy n).map Fh).toArray
theorem tR(n:Nat):(eR n).push (Fh n)=eR (n+1):=by
 unfold eR;simp[Lc]
theorem gv(i:Nat)(k:Int)(f:Nat)(hk:k=4+i)(hfn:f=if i=8 then 131 else 122+i)(hf:Kz (.int .i64) (Ib Ie (4+i)) (eR i).toList 0=Ic Ih)(W:Im) :
  (LK 243 (.map (Ic W.heap.size)) (Ib Ie k) (.func (.func f) #[] #[])).run If (W.alloc (.map (eR i) i))=.ok () (W.alloc (.map (eR (i+1)) (i+1))):=by
 subst hk hfn;rw[pQ Tryz.underlying243 Jr (W.alloc (.map (eR i) i)) W.heap.size (eR i) i _ _ (JZ W _) hf,pM,<-tR];rfl
def fY(W:Im):Im:=W.alloc (.map (eR 9) 9)
theorem ee(w:Im) :
  I9 If 120 #[] w λe w'=>e=Iv (.map (Ic w.heap.size))/\w'=fY w:=by
 have hmm:∀(t:Je) (w:Im),(Instr.makeMap t Ih).run If w=.ok (.map (Ic w.heap.size)) (w.alloc (.map (eR 0) 0)):=@run_makeMap If;have h0:=gv 0 4 122 rfl rfl rfl;have h1:=gv 1 5 123 rfl rfl rfl;have h2:=gv 2 6 124 rfl rfl rfl;have h3:=gv 3 7 125 rfl rfl rfl;have h4:=gv 4 8 126 rfl rfl rfl;have h5:=gv 5 9 127 rfl rfl rfl;have h6:=gv 6 10 128 rfl rfl rfl;have h7:=gv 7 11 129 rfl rfl rfl;have h8:=gv 8 12 131 rfl rfl rfl;go_enter Tryz.func120,Tryz.ntmps120;go_wp2;go_ret;exact⟨rfl,rfl⟩
def num_Do.v(op a b:Int):Int×Int:=
 if op=4 then(JW (a+b),0)else if op=5 then(JW (a-b),0)else if op=6 then(JW (a*b),0)
 else if op=7 then(if b=0 then(0,3)else(JW (Lm a b),0))
 else if op=8 then(Go.bits .and .i64 a b,0)else if op=9 then(Go.bits .or .i64 a b,0)else if op=10 then(Go.bits .xor .i64 a b,0)
 else if op=11 then((if a<b then 1 else 0),0)else if op=12 then((if a=b then 1 else 0),0)else(0,2)
def num_Do.f(op a b:Int):Option (Int×Int):=Ic (num_Do.v op a b)
theorem dG(w:Im)(i:Nat)(op:Int)(f:Nat)(hk:op=4+i)(hfn:f=if i=8 then 131 else 122+i)(hf:Kz (.int .i64) (Ib Ie (4+i)) (eR 9).toList 0=Ic (Ic (i,(Fh i).val))) :
  (Kr 243 (.map (Ic w.heap.size)) (Ib Ie op) Ik).run If (fY w)=.ok (.func (.func f) #[] #[]) (fY w):=by
 subst hk hfn;exact pP Tryz.underlying243 Jr (fY w) w.heap.size (eR 9) 9 _ i _ (JZ w _) hf
theorem nG(w:Im)(op:Int)(h:op<4\/12<op) :
  (Kr 243 (.map (Ic w.heap.size)) (Ib Ie op) Ik).run If (fY w)=.ok .nilFunc (fY w):=by
 refine pO Tryz.underlying243 Jr (fY w) w.heap.size (eR 9) 9 _ _ (JZ w _) ?_ ?_
 .have hz:∀W:Im,(Mr 242).run If W=.ok .nilFunc W:=λW=>by kernel_rfl
  exact hz _
 .have hn:∀j:Int,4<=j->j<=12->(op==j)=Ik:=λj h1 h2=>beq_eq_false_iff_ne.mpr (by omega)
  simp[eR,Fh,Lc,Kz,Instr.sameNow,hn]
theorem DH(W:Im):(binOp .eql 242 Io.nilFunc .nilFunc).run If W=.ok (Iy Ir) W:=by kernel_rfl
theorem tL(f:Nat)(W:Im):(binOp .eql 242 (.func (.func f) #[] #[]) .nilFunc).run If W=.ok (Iy Ik) W:=by kernel_rfl
theorem dx(w:Im):It w.heap.size w (fY w):=ae (Il _ _) _
theorem zE(a b:Int)(w:Im):I9 If 122 #[Ib Ie a,Ib Ie b] w λe w'=>e=Iv (Ib Ie (JW (a+b)))/\w=w':=by
 go_enter Tryz.func122,Tryz.ntmps122;go_wp2;go_ret;exact⟨rfl,rfl⟩
theorem zD(a b:Int)(w:Im):I9 If 123 #[Ib Ie a,Ib Ie b] w λe w'=>e=Iv (Ib Ie (JW (a-b)))/\w=w':=by
 go_enter Tryz.func123,Tryz.ntmps123;go_wp2;go_ret;exact⟨rfl,rfl⟩
theorem zC(a b:Int)(w:Im):I9 If 124 #[Ib Ie a,Ib Ie b] w λe w'=>e=Iv (Ib Ie (JW (a*b)))/\w=w':=by
 go_enter Tryz.func124,Tryz.ntmps124;go_wp2;go_ret;exact⟨rfl,rfl⟩
theorem zz(a b:Int)(w:Im):I9 If 126 #[Ib Ie a,Ib Ie b] w λe w'=>e=Iv (Ib Ie (Go.bits .and .i64 a b))/\w=w':=by
 go_enter Tryz.func126,Tryz.ntmps126;go_wp2;go_ret;exact⟨rfl,rfl⟩
theorem zy(a b:Int)(w:Im):I9 If 127 #[Ib Ie a,Ib Ie b] w λe w'=>e=Iv (Ib Ie (Go.bits .or .i64 a b))/\w=w':=by
 go_enter Tryz.func127,Tryz.ntmps127;go_wp2;go_ret;exact⟨rfl,rfl⟩
theorem zx(a b:Int)(w:Im):I9 If 128 #[Ib Ie a,Ib Ie b] w λe w'=>e=Iv (Ib Ie (Go.bits .xor .i64 a b))/\w=w':=by
 go_enter Tryz.func128,Tryz.ntmps128;go_wp2;go_ret;exact⟨rfl,rfl⟩
theorem zB(a b:Int)(w:Im)(hb:¬b=0):I9 If 125 #[Ib Ie a,Ib Ie b] w λe w'=>e=Iv (Ib Ie (JW (Lm a b)))/\w=w':=by
 go_enter Tryz.func125,Tryz.ntmps125;go_wp2;go_ret;exact⟨rfl,rfl⟩
theorem ss(w:Im):I9 If 130 #[Iy Ir] w λe w'=>e=Iv (Ib Ie 1)/\w=w':=by
 go_enter Tryz.func130,Tryz.ntmps130;go_wp2;go_ret;exact⟨rfl,rfl⟩
theorem qM(w:Im):I9 If 130 #[Iy Ik] w λe w'=>e=Iv (Ib Ie 0)/\w=w':=by
 go_enter Tryz.func130,Tryz.ntmps130;go_wp2;go_ret;exact⟨rfl,rfl⟩
theorem zv(a b:Int)(w:Im):I9 If 129 #[Ib Ie a,Ib Ie b] w λe w'=>e=Iv (Ib Ie (if a<b then 1 else 0))/\w=w':=by
 by_cases h:a<b
 .rw[if_pos h]
  have h2:decide (a<b)=Ir:=decide_eq_true h;clear h;go_enter Tryz.func129,Tryz.ntmps129;go_wp2_with (go_at_call 130;refine(ss _).mono ?_;rintro e w' ⟨rfl,rfl⟩);go_ret;exact⟨rfl,rfl⟩
 .rw[if_neg h]
  have h2:decide (a<b)=Ik:=decide_eq_false h;clear h;go_enter Tryz.func129,Tryz.ntmps129;go_wp2_with (go_at_call 130;refine(qM _).mono ?_;rintro e w' ⟨rfl,rfl⟩);go_ret;exact⟨rfl,rfl⟩
theorem zu(a b:Int)(w:Im):I9 If 131 #[Ib Ie a,Ib Ie b] w λe w'=>e=Iv (Ib Ie (if a=b then 1 else 0))/\w=w':=by
 by_cases h:a=b
 .rw[if_pos h]
  have h2:(a==b)=Ir:=beq_iff_eq.mpr h;clear h;go_enter Tryz.func131,Tryz.ntmps131;go_wp2_with (go_at_call 130;refine(ss _).mono ?_;rintro e w' ⟨rfl,rfl⟩);go_ret;exact⟨rfl,rfl⟩
 .rw[if_neg h]
  have h2:(a==b)=Ik:=beq_eq_false_iff_ne.mpr h;clear h;go_enter Tryz.func131,Tryz.ntmps131;go_wp2_with (go_at_call 130;refine(qM _).mono ?_;rintro e w' ⟨rfl,rfl⟩);go_ret;exact⟨rfl,rfl⟩
theorem num_Do.calls(a0:Int)(a1:Int)(a2:Int)(r1:Int)(r2:Int)(w:Im)(h:num_Do.f a0 a1 a2=Ic (r1,r2)) :
  I9 If 111 #[Ib Ie a0,Ib Ie a1,Ib Ie a2] w λe w'=>e=Iv (IR #[Ib Ie r1,Ib Ie r2])/\It w.heap.size w w':=by
 by_cases hin:a0<4\/12<a0
 .have hl:=nG w a0 hin
  have hv:num_Do.v a0 a1 a2=(0,2):=by
   unfold num_Do.v;rw[if_neg (by omega),if_neg (by omega),if_neg (by omega),if_neg (by omega),if_neg (by omega),if_neg (by omega),if_neg (by omega),if_neg (by omega),if_neg (by omega)]
  unfold num_Do.f at h;rw[hv]at h;simp only[Ja,IM]at h;obtain⟨rfl,rfl⟩:=h;have hn:=DH;clear hv hin;go_enter Ko,Ki;go_wp2_with (go_at_call 120;refine(ee _).mono ?_;rintro e w' ⟨rfl,rfl⟩)
  go_ret2
  exact⟨rfl,dx _⟩
 .have hn:=tL
  have h12:a0=4\/a0=5\/a0=6\/a0=7\/a0=8\/a0=9\/a0=10\/a0=11\/a0=12:=by omega
  rcases h12 with rfl|rfl|rfl|rfl|rfl|rfl|rfl|rfl|rfl
  .have hl:=dG w 0 4 122 rfl rfl rfl
   replace h:Ic ((JW (a1+a2),0):Int×Int)=Ic (r1,r2):=h
   simp only[Ja,IM]at h;obtain⟨rfl,rfl⟩:=h;go_enter Ko,Ki;go_wp2_with (first|(go_at_call 120;refine(ee _).mono ?_;rintro e w' ⟨rfl,rfl⟩)|(go_at_call 122;refine(zE _ _ _).mono ?_;rintro e w' ⟨rfl,rfl⟩))
   go_ret2
   exact⟨rfl,dx _⟩
  .have hl:=dG w 1 5 123 rfl rfl rfl
   replace h:Ic ((JW (a1-a2),0):Int×Int)=Ic (r1,r2):=h
   simp only[Ja,IM]at h;obtain⟨rfl,rfl⟩:=h;go_enter Ko,Ki;go_wp2_with (first|(go_at_call 120;refine(ee _).mono ?_;rintro e w' ⟨rfl,rfl⟩)|(go_at_call 123;refine(zD _ _ _).mono ?_;rintro e w' ⟨rfl,rfl⟩))
   go_ret2
   exact⟨rfl,dx _⟩
  .have hl:=dG w 2 6 124 rfl rfl rfl
   replace h:Ic ((JW (a1*a2),0):Int×Int)=Ic (r1,r2):=h
   simp only[Ja,IM]at h;obtain⟨rfl,rfl⟩:=h;go_enter Ko,Ki;go_wp2_with (first|(go_at_call 120;refine(ee _).mono ?_;rintro e w' ⟨rfl,rfl⟩)|(go_at_call 124;refine(zC _ _ _).mono ?_;rintro e w' ⟨rfl,rfl⟩))
   go_ret2
   exact⟨rfl,dx _⟩
  .have hl:=dG w 3 7 125 rfl rfl rfl
   by_cases hb:a2=0
   .subst hb
    replace h:Ic ((0,3):Int×Int)=Ic (r1,r2):=h
    simp only[Ja,IM]at h;obtain⟨rfl,rfl⟩:=h;go_enter Ko,Ki;go_wp2_with (go_at_call 120;refine(ee _).mono ?_;rintro e w' ⟨rfl,rfl⟩)
    go_ret2
    exact⟨rfl,dx _⟩
   .replace h:Ic (if a2=0 then((0,3):Int×Int)else(JW (Lm a1 a2),0))=Ic (r1,r2):=h
    rw[if_neg hb]at h;simp only[Ja,IM]at h;obtain⟨rfl,rfl⟩:=h;have hb2:(a2==0)=Ik:=beq_eq_false_iff_ne.mpr hb;have HB:=MD hb;clear hb;go_enter Ko,Ki;go_wp2_with (first|(go_at_call 120;refine(ee _).mono ?_;rintro e w' ⟨rfl,rfl⟩)|(go_at_call 125;refine(zB _ _ _ HB.1).mono ?_;rintro e w' ⟨rfl,rfl⟩))
    go_ret2
    exact⟨rfl,dx _⟩
  .have hl:=dG w 4 8 126 rfl rfl rfl
   replace h:Ic ((Go.bits .and .i64 a1 a2,0):Int×Int)=Ic (r1,r2):=h
   simp only[Ja,IM]at h;obtain⟨rfl,rfl⟩:=h;go_enter Ko,Ki;go_wp2_with (first|(go_at_call 120;refine(ee _).mono ?_;rintro e w' ⟨rfl,rfl⟩)|(go_at_call 126;refine(zz _ _ _).mono ?_;rintro e w' ⟨rfl,rfl⟩))
   go_ret2
   exact⟨rfl,dx _⟩
  .have hl:=dG w 5 9 127 rfl rfl rfl
   replace h:Ic ((Go.bits .or .i64 a1 a2,0):Int×Int)=Ic (r1,r2):=h
   simp only[Ja,IM]at h;obtain⟨rfl,rfl⟩:=h;go_enter Ko,Ki;go_wp2_with (first|(go_at_call 120;refine(ee _).mono ?_;rintro e w' ⟨rfl,rfl⟩)|(go_at_call 127;refine(zy _ _ _).mono ?_;rintro e w' ⟨rfl,rfl⟩))
   go_ret2
   exact⟨rfl,dx _⟩
  .have hl:=dG w 6 10 128 rfl rfl rfl
   replace h:Ic ((Go.bits .xor .i64 a1 a2,0):Int×Int)=Ic (r1,r2):=h
   simp only[Ja,IM]at h;obtain⟨rfl,rfl⟩:=h;go_enter Ko,Ki;go_wp2_with (first|(go_at_call 120;refine(ee _).mono ?_;rintro e w' ⟨rfl,rfl⟩)|(go_at_call 128;refine(zx _ _ _).mono ?_;rintro e w' ⟨rfl,rfl⟩))
   go_ret2
   exact⟨rfl,dx _⟩
  .have hl:=dG w 7 11 129 rfl rfl rfl
   replace h:Ic ((if a1<a2 then 1 else 0,0):Int×Int)=Ic (r1,r2):=h
   simp only[Ja,IM]at h;obtain⟨rfl,rfl⟩:=h;go_enter Ko,Ki;go_wp2_with (first|(go_at_call 120;refine(ee _).mono ?_;rintro e w' ⟨rfl,rfl⟩)|(go_at_call 129;refine(zv _ _ _).mono ?_;rintro e w' ⟨rfl,rfl⟩))
   all_goals(go_ret2;exact⟨rfl,dx _⟩)
  .have hl:=dG w 8 12 131 rfl rfl rfl
   replace h:Ic ((if a1=a2 then 1 else 0,0):Int×Int)=Ic (r1,r2):=h
   simp only[Ja,IM]at h;obtain⟨rfl,rfl⟩:=h;go_enter Ko,Ki;go_wp2_with (first|(go_at_call 120;refine(ee _).mono ?_;rintro e w' ⟨rfl,rfl⟩)|(go_at_call 131;refine(zu _ _ _).mono ?_;rintro e w' ⟨rfl,rfl⟩))
   all_goals(go_ret2;exact⟨rfl,dx _⟩)
end
end Go.Proofs.YtlinbehijfcelaaGreatDoor.Top
