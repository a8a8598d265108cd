/- Walks of the program, and what it computes, told plainly. No condition. (VL VM ZF ZG VN) -/
import Derived.Below
import Derived.Deep.Draws
import Derived.Deep.AppendLies
import Derived.Maps.AppendAt
import Derived.OwnWalk
import Derived.Laws.BytesArg
import Derived.Laws.MakeOwn
import Derived.Laws.OwnMore
import Derived.Deep.OwnRows
import Derived.Tactics
import Derived.Lib.ConvBytes
import Derived.Laws.Slices
import Derived.WalkKit
import Derived.KernelRfl
import Derived.RowKit3
import Derived.Deep.LoopGhost
import Derived.Deep.QuietTactic
import Derived.BigQuiet
import Derived.WideLaws
import Derived.Deep.DeepCutAuto
import Derived.Deep.CutBlock
import Derived.Deep.RegionHeld3
import Derived.Laws.Rows
import Derived.Lib.AppendStr
import Derived.ArgAppend
import Derived.Laws.IdiomCopy
import Derived.RowKit
import Derived.OrdersHeld
import Derived.Laws.BitsLemmas
import Derived.Laws.StructEq
import Derived.Test.YtlinbehijfcelaaGreatDoorProg
import Derived.Deep.WholeRow
import Derived.Laws.CopyOwn
import Derived.Carry
import Derived.ChangeKeysEq
import Derived.Laws.RangeAny
import Derived.Deep.MidRow
import Derived.Laws.Tables
import Derived.StillTailTactics
import Derived.Test.YtlinbehijfcelaaGreatDoorPA
import Derived.Test.YtlinbehijfcelaaGreatDoorPB
import Derived.Test.YtlinbehijfcelaaGreatDoorPC
import Derived.Test.YtlinbehijfcelaaGreatDoorPD
import Derived.Test.YtlinbehijfcelaaGreatDoorPE
import Derived.Test.YtlinbehijfcelaaGreatDoorPF
import Derived.Test.YtlinbehijfcelaaGreatDoorPG
import Derived.Test.YtlinbehijfcelaaGreatDoorPH
import Derived.Test.YtlinbehijfcelaaGreatDoorPM
import Derived.Test.YtlinbehijfcelaaGreatDoorPN
import Derived.Test.YtlinbehijfcelaaGreatDoorPO
set_option linter.unusedVariables false
set_option linter.unusedSimpArgs false
set_option linter.unusedSectionVars false
set_option maxHeartbeats 8000000
set_option maxRecDepth 100000
open Go.Value renaming agg->IA,bool->Iy,int->Ib,oneCell'->IH,pointer->Iq,slice->Ia,tuple->IR
open Go renaming Calls->I9,IntKind->LP,Operand->Lf,Program->Jn,TypeId->Je,Value->Io,World->Im,bodyPost_ret->IG,execOp->JJ,heap_alloc_last->Iu,loadVar->Le,undef->KG,yielded->KH
open Go.Ending renaming returned->Iv
open Go.Proofs.Tryz renaming func20->JG,func24->Km,prog->If,underlying35->Lu,underlying37->I4,underlying49->I6,underlying61->JY,underlying63->JT
open Go.RowKit renaming Below->It,intOf->Jj
open Option renaming none->Ih,some->Ic
open Go.Obj renaming cells->Is
open Go.RowKit.Below renaming refl->Il
open List renaming all_eq_true->Jd,append_assoc->Kv,append_nil->JS,drop_eq_getElem_cons->Jc,drop_of_length_le->Ju,eq_nil_of_length_eq_zero->LV,getD_eq_getElem?_getD->Ij,getElem?_eq_getElem->Ig,getElem?_eq_some_iff->Ip,length_append->IV,length_map->Jb,length_take->Kt,map_append->LY,mem_append->J0,range->Jy,setIfInBounds_toArray->IP,set_cons_succ->IZ,set_cons_zero->IY,take_length->Kh,take_succ_eq_append_getElem->JC
open Bool renaming and_eq_true->Js,false->Ik,noConfusion->Ix,or_eq_true->Mb,true->Ir
open Array renaming any_eq_true'->Lt,getElem?_eq_some_iff->IB
open Go.Region renaming wanted->Jk
open Nat renaming le_refl->Iz,zero_le->ID
open Go.IntKind renaming i64->Ie
open Go.Act renaming put->KY
open Option.some renaming inj->Ii
open Go.Sem renaming run_bind->IJ,run_pure->JO
open Go.Result renaming andThen_ok->I1
open And renaming intro->IE
namespace Go.Proofs.YtlinbehijfcelaaGreatDoor.Top
open Go.RowKit Go.Proofs.YtlinbehijfcelaaGreatDoorW.PrintWords Go.Proofs.YtlinbehijfcelaaGreatDoorW.PrintLast
def tl1(x y:Tr×Bool):Bool:=tV x.1.evs y.1.evs
def tl2(x y:Tr×Bool):Bool:=iI x.1.out.how&&!tV y.1.evs x.1.evs
def tl3(x y:Tr×Bool):Bool:=iI x.1.out.how&&y.2
theorem EE{W:Im}{t:Tr}{A:Option Addr}{n:Nat}(h:RdT kEv 105 W (Ia A t.evs.length n) t.evs):Kd.C kEv W A t.evs.length t.evs:=by
 obtain⟨Aq,cq,e,_,h,_⟩:=h;injection e with e
 subst e;exact h
theorem FB{W:Im}{t:Tr}{A:Option Addr}{n:Nat}(h:RdT (Kd.int .i64) 2 W (Ia A t.out.h.length n) t.out.h):Kd.C (Kd.int .i64) W A t.out.h.length t.out.h:=by
 obtain⟨Aq,cq,e,_,h,_⟩:=h;injection e with e
 subst e;exact h
theorem sC(x y:Tr×Bool)(vx vy:Io)(w:Im)(hx:SdV w x vx)(hy:SdV w y vy)(lx:x.1.evs.length<=5000)(ly:y.1.evs.length<=5000) :
  I9 If 21 #[vx,vy] w λe w'=>e=Iv (Iy (tl1 x y))/\It w.heap.size w w':=by
 obtain⟨A,n,B,m,rfl,hA,hB⟩:=hx;obtain⟨C,k,D,l,rfl,hC,hD⟩:=hy;obtain⟨X,hX⟩:∃X,X=sdc x.1 x.2 (Ia A x.1.evs.length n) (Ia B x.1.out.h.length m):=⟨_,rfl⟩;obtain⟨Y,hY⟩:∃Y,Y=sdc y.1 y.2 (Ia C y.1.evs.length k) (Ia D y.1.out.h.length l):=⟨_,rfl⟩;have iX:(If.info? 63).map (·.size)=Ic X.size:=by rw[hX];exact dF
 have iY:(If.info? 63).map (·.size)=Ic Y.size:=by rw[hY];exact dF
 obtain⟨w1,hw1⟩:∃w1,w1=(w.alloc (Is X 63)).alloc (Is Y 63):=⟨_,rfl⟩;obtain⟨g,hg⟩:=MF w.heap.size;obtain⟨h2,h1,hb1⟩:=dz (w:=w) (A:=Is X 63) (B:=Is Y 63) (w1:=w1) (by rw[hw1];exact Il _ _);rw[hg]at h1 h2;have x0:=(show w1.cell? ⟨g,0,Ih⟩=Ic (.slice A x.1.evs.length n) by rw[ah h1,hX];rfl);have y0:=(show w1.cell? ⟨g+1,0,Ih⟩=Ic (.slice C y.1.evs.length k) by rw[ah h2,hY];rfl);have HBg:=MD (ml x.1.evs y.1.evs A C n k w1 (Kd.C_below (EE hA) hb1) (Kd.C_below (EE hC) hb1) lx ly);have HB:=MD hb1;have HW1:=MD hw1;have lx':(x.1.evs.length:Int)<=5000:=by omega
 have ly':(y.1.evs.length:Int)<=5000:=by omega
 rw[<-hX,<-hY];clear hX hY iX iY hw1 h1 h2 hb1 hA hB hC hD lx ly;go_enter Tryz.func21,Tryz.ntmps21;go_upto_region 1 with fail
 refine ar HW1.1.symm ?_;clear hg;go_wp2_with (first|(go_at_call 22;refine HBg.1.mono ?_;rintro e w2 ⟨rfl,hb⟩;have HB2:=MD (af HB.1 hb);clear hb));go_ret;exact⟨rfl,HB2.1⟩
theorem Cp(x y:Tr×Bool)(vx vy:Io)(w:Im)(hx:SdV w x vx)(hy:SdV w y vy)(lx:x.1.evs.length<=5000)(ly:y.1.evs.length<=5000) :
  I9 If 20 #[vx,vy,.func (.func 21) #[] #[]] w λe w'=>e=Iv (Iy (tl1 x y||tl1 y x))/\It w.heap.size w w':=by
 obtain⟨A,n,B,m,rfl,hA,hB⟩:=hx;obtain⟨C,k,D,l,rfl,hC,hD⟩:=hy;obtain⟨X,hX⟩:∃X,X=sdc x.1 x.2 (Ia A x.1.evs.length n) (Ia B x.1.out.h.length m):=⟨_,rfl⟩;obtain⟨Y,hY⟩:∃Y,Y=sdc y.1 y.2 (Ia C y.1.evs.length k) (Ia D y.1.out.h.length l):=⟨_,rfl⟩;have iX:(If.info? 63).map (·.size)=Ic X.size:=by rw[hX];exact dF
 have iY:(If.info? 63).map (·.size)=Ic Y.size:=by rw[hY];exact dF
 obtain⟨w1,hw1⟩:∃w1,w1=(w.alloc (Is X 63)).alloc (Is Y 63):=⟨_,rfl⟩;obtain⟨g,hg⟩:=MF w.heap.size;obtain⟨h2,h1,hb1⟩:=dz (w:=w) (A:=Is X 63) (B:=Is Y 63) (w1:=w1) (by rw[hw1];exact Il _ _);rw[hg]at h1 h2;have HL1:=MD (λW (hb:It w1.heap.size w1 W)=>aY (P:=If) (ag h1 hb) JT rfl iX);have HL2:=MD (λW (hb:It w1.heap.size w1 W)=>aY (P:=If) (ag h2 hb) JT rfl iY);have k1:=λW (hb:It w.heap.size w W)=>sC x y _ _ W (SdV.below ⟨A,n,B,m,rfl,hA,hB⟩ hb) (SdV.below ⟨C,k,D,l,rfl,hC,hD⟩ hb) lx ly;have k2:=λW (hb:It w.heap.size w W)=>sC y x _ _ W (SdV.below ⟨C,k,D,l,rfl,hC,hD⟩ hb) (SdV.below ⟨A,n,B,m,rfl,hA,hB⟩ hb) ly lx;rw[<-hX,<-hY]at k1 k2;obtain⟨b,hb⟩:=ME (tl1 x y);rw[<-hb]at k1;rw[<-hX,<-hY,<-hb];have HK1:=MD (k1 w1 hb1);have HK2:=MD k2;have HB:=MD hb1;have HW1:=MD hw1;clear k1 k2 hb hX hY iX iY hw1 h1 h2 hb1 hA hB hC hD lx ly;cases b with
 |true=>
  go_enter JG,Tryz.ntmps20;go_upto_region 1 with fail
  refine ar HW1.1.symm ?_;clear hg;go_wp2_with (first
   |((with_reducible refine ai (N:=8) rfl ?_);refine ay rfl _ (ao rfl rfl (HL1.1 _ (Il _ _))) ?_)
   |((with_reducible refine ai (N:=9) rfl ?_);refine ay rfl _ (ao rfl rfl (HL2.1 _ (Il _ _))) ?_)
   |(go_at_call 21;refine HK1.1.mono ?_;rintro e w2 ⟨rfl,hb⟩;have HB2:=MD hb;clear hb))
  go_ret;exact⟨rfl,af HB.1 HB2.1⟩
 |false=>
  go_enter JG,Tryz.ntmps20;go_upto_region 1 with fail
  refine ar HW1.1.symm ?_;clear hg;go_wp2_with (first
   |((with_reducible refine ai (N:=8) rfl ?_);refine ay rfl _ (ao rfl rfl (HL1.1 _ (Il _ _))) ?_)
   |((with_reducible refine ai (N:=9) rfl ?_);refine ay rfl _ (ao rfl rfl (HL2.1 _ (Il _ _))) ?_)
   |((with_reducible refine ai (N:=13) rfl ?_);refine ay rfl _ (ao rfl rfl (HL2.1 _ HB2.1)) ?_)
   |((with_reducible refine ai (N:=14) rfl ?_);refine ay rfl _ (ao rfl rfl (HL1.1 _ HB2.1)) ?_)
   |(go_at_call 21;(with_reducible refine HK1.1.mono ?_);rintro e w2 ⟨rfl,hb⟩;have HB2:=MD hb;clear hb HK1)
   |(go_at_call 21;refine(HK2.1 _ (af HB.1 HB2.1)).mono ?_;rintro e w3 ⟨rfl,hb⟩;have HB3:=MD (af HB2.1 hb);clear hb))
  go_ret;exact⟨rfl,af HB.1 HB3.1⟩
theorem sB(x y:Tr×Bool)(vx vy:Io)(w:Im)(hx:SdV w x vx)(hy:SdV w y vy)(lx:x.1.evs.length<=5000)(ly:y.1.evs.length<=5000) :
  I9 If 23 #[vx,vy] w λe w'=>e=Iv (Iy (tl2 x y))/\It w.heap.size w w':=by
 obtain⟨A,n,B,m,rfl,hA,hB⟩:=hx;obtain⟨C,k,D,l,rfl,hC,hD⟩:=hy;obtain⟨X,hX⟩:∃X,X=sdc x.1 x.2 (Ia A x.1.evs.length n) (Ia B x.1.out.h.length m):=⟨_,rfl⟩;obtain⟨Y,hY⟩:∃Y,Y=sdc y.1 y.2 (Ia C y.1.evs.length k) (Ia D y.1.out.h.length l):=⟨_,rfl⟩;have iX:(If.info? 63).map (·.size)=Ic X.size:=by rw[hX];exact dF
 have iY:(If.info? 63).map (·.size)=Ic Y.size:=by rw[hY];exact dF
 obtain⟨w1,hw1⟩:∃w1,w1=(w.alloc (Is X 63)).alloc (Is Y 63):=⟨_,rfl⟩;obtain⟨g,hg⟩:=MF w.heap.size;obtain⟨h2,h1,hb1⟩:=dz (w:=w) (A:=Is X 63) (B:=Is Y 63) (w1:=w1) (by rw[hw1];exact Il _ _);rw[hg]at h1 h2;have x0:=(show w1.cell? ⟨g,0,Ih⟩=Ic (.slice A x.1.evs.length n) by rw[ah h1,hX];rfl);have y0:=(show w1.cell? ⟨g+1,0,Ih⟩=Ic (.slice C y.1.evs.length k) by rw[ah h2,hY];rfl);have HLd:=MD (show(Le 61 ⟨g,0,Ih⟩).run If w1=.ok (IA (trc x.1 (Ia A x.1.evs.length n) (Ia B x.1.out.h.length m)).toArray) w1 from cr (L:=X.toList) (by simpa using h1) 61 0 _ (by rw[hX];rfl) _ JY rfl fy);have HHa:=MD (ik x.1 A B x.1.evs.length n x.1.out.h.length m w1);have H1:=MD h1;have H2:=MD h2;have HBg:=MD (λW (hb:It w1.heap.size w1 W)=>ml y.1.evs x.1.evs C A k n W (Kd.C_below (EE hC) (af hb1 hb)) (Kd.C_below (EE hA) (af hb1 hb)) ly lx);have HB:=MD hb1;have HW1:=MD hw1;have lx':(x.1.evs.length:Int)<=5000:=by omega
 have ly':(y.1.evs.length:Int)<=5000:=by omega
 rw[<-hX,<-hY];unfold tl2;obtain⟨b,hb⟩:=ME (iI x.1.out.how);rw[<-hb]at HHa ⊢;clear hb hX hY iX iY hw1 h1 h2 hb1 hA hB hC hD lx ly;cases b with
 |true=>
  go_enter Tryz.func23,Tryz.ntmps23;go_upto_region 1 with fail
  refine ar HW1.1.symm ?_;clear hg;go_wp2_with (first
   |((with_reducible refine ai (N:=6) rfl ?_);refine av rfl 61 _ rfl ⟨g,0,Ih⟩ rfl _ HLd.1 ?_)
   |(go_at_call 24;refine HHa.1.mono ?_;rintro e w2 ⟨rfl,hb⟩;have HB2:=MD hb;have d0:=ak hb x0;have d1:=ak hb y0;clear hb)
   |(go_at_call 22;refine(HBg.1 _ HB2.1).mono ?_;rintro e w3 ⟨rfl,hb⟩;have HB3:=MD (af HB2.1 hb);clear hb))
  go_ret;exact⟨rfl,af HB.1 HB3.1⟩
 |false=>
  go_enter Tryz.func23,Tryz.ntmps23;go_upto_region 1 with fail
  refine ar HW1.1.symm ?_;clear hg;go_wp2_with (first
   |((with_reducible refine ai (N:=6) rfl ?_);refine av rfl 61 _ rfl ⟨g,0,Ih⟩ rfl _ HLd.1 ?_)
   |(go_at_call 24;refine HHa.1.mono ?_;rintro e w2 ⟨rfl,hb⟩;have HB2:=MD hb;have d0:=ak hb x0;have d1:=ak hb y0;clear hb)
   |(go_at_call 22;refine(HBg.1 _ HB2.1).mono ?_;rintro e w3 ⟨rfl,hb⟩;have HB3:=MD (af HB2.1 hb);clear hb))
  go_ret;exact⟨rfl,af HB.1 HB2.1⟩
theorem Co(x y:Tr×Bool)(vx vy:Io)(w:Im)(hx:SdV w x vx)(hy:SdV w y vy)(lx:x.1.evs.length<=5000)(ly:y.1.evs.length<=5000) :
  I9 If 20 #[vx,vy,.func (.func 23) #[] #[]] w λe w'=>e=Iv (Iy (tl2 x y||tl2 y x))/\It w.heap.size w w':=by
 obtain⟨A,n,B,m,rfl,hA,hB⟩:=hx;obtain⟨C,k,D,l,rfl,hC,hD⟩:=hy;obtain⟨X,hX⟩:∃X,X=sdc x.1 x.2 (Ia A x.1.evs.length n) (Ia B x.1.out.h.length m):=⟨_,rfl⟩;obtain⟨Y,hY⟩:∃Y,Y=sdc y.1 y.2 (Ia C y.1.evs.length k) (Ia D y.1.out.h.length l):=⟨_,rfl⟩;have iX:(If.info? 63).map (·.size)=Ic X.size:=by rw[hX];exact dF
 have iY:(If.info? 63).map (·.size)=Ic Y.size:=by rw[hY];exact dF
 obtain⟨w1,hw1⟩:∃w1,w1=(w.alloc (Is X 63)).alloc (Is Y 63):=⟨_,rfl⟩;obtain⟨g,hg⟩:=MF w.heap.size;obtain⟨h2,h1,hb1⟩:=dz (w:=w) (A:=Is X 63) (B:=Is Y 63) (w1:=w1) (by rw[hw1];exact Il _ _);rw[hg]at h1 h2;have HL1:=MD (λW (hb:It w1.heap.size w1 W)=>aY (P:=If) (ag h1 hb) JT rfl iX);have HL2:=MD (λW (hb:It w1.heap.size w1 W)=>aY (P:=If) (ag h2 hb) JT rfl iY);have k1:=λW (hb:It w.heap.size w W)=>sB x y _ _ W (SdV.below ⟨A,n,B,m,rfl,hA,hB⟩ hb) (SdV.below ⟨C,k,D,l,rfl,hC,hD⟩ hb) lx ly;have k2:=λW (hb:It w.heap.size w W)=>sB y x _ _ W (SdV.below ⟨C,k,D,l,rfl,hC,hD⟩ hb) (SdV.below ⟨A,n,B,m,rfl,hA,hB⟩ hb) ly lx;rw[<-hX,<-hY]at k1 k2;obtain⟨b,hb⟩:=ME (tl2 x y);rw[<-hb]at k1;rw[<-hX,<-hY,<-hb];have HK1:=MD (k1 w1 hb1);have HK2:=MD k2;have HB:=MD hb1;have HW1:=MD hw1;clear k1 k2 hb hX hY iX iY hw1 h1 h2 hb1 hA hB hC hD lx ly;cases b with
 |true=>
  go_enter JG,Tryz.ntmps20;go_upto_region 1 with fail
  refine ar HW1.1.symm ?_;clear hg;go_wp2_with (first
   |((with_reducible refine ai (N:=8) rfl ?_);refine ay rfl _ (ao rfl rfl (HL1.1 _ (Il _ _))) ?_)
   |((with_reducible refine ai (N:=9) rfl ?_);refine ay rfl _ (ao rfl rfl (HL2.1 _ (Il _ _))) ?_)
   |(go_at_call 23;refine HK1.1.mono ?_;rintro e w2 ⟨rfl,hb⟩;have HB2:=MD hb;clear hb))
  go_ret;exact⟨rfl,af HB.1 HB2.1⟩
 |false=>
  go_enter JG,Tryz.ntmps20;go_upto_region 1 with fail
  refine ar HW1.1.symm ?_;clear hg;go_wp2_with (first
   |((with_reducible refine ai (N:=8) rfl ?_);refine ay rfl _ (ao rfl rfl (HL1.1 _ (Il _ _))) ?_)
   |((with_reducible refine ai (N:=9) rfl ?_);refine ay rfl _ (ao rfl rfl (HL2.1 _ (Il _ _))) ?_)
   |((with_reducible refine ai (N:=13) rfl ?_);refine ay rfl _ (ao rfl rfl (HL2.1 _ HB2.1)) ?_)
   |((with_reducible refine ai (N:=14) rfl ?_);refine ay rfl _ (ao rfl rfl (HL1.1 _ HB2.1)) ?_)
   |(go_at_call 23;(with_reducible refine HK1.1.mono ?_);rintro e w2 ⟨rfl,hb⟩;have HB2:=MD hb;clear hb HK1)
   |(go_at_call 23;refine(HK2.1 _ (af HB.1 HB2.1)).mono ?_;rintro e w3 ⟨rfl,hb⟩;have HB3:=MD (af HB2.1 hb);clear hb))
  go_ret;exact⟨rfl,af HB.1 HB3.1⟩
theorem sA(x y:Tr×Bool)(vx vy:Io)(w:Im)(hx:SdV w x vx)(hy:SdV w y vy)(lx:x.1.evs.length<=5000)(ly:y.1.evs.length<=5000) :
  I9 If 26 #[vx,vy] w λe w'=>e=Iv (Iy (tl3 x y))/\It w.heap.size w w':=by
 obtain⟨A,n,B,m,rfl,hA,hB⟩:=hx;obtain⟨C,k,D,l,rfl,hC,hD⟩:=hy;obtain⟨X,hX⟩:∃X,X=sdc x.1 x.2 (Ia A x.1.evs.length n) (Ia B x.1.out.h.length m):=⟨_,rfl⟩;obtain⟨Y,hY⟩:∃Y,Y=sdc y.1 y.2 (Ia C y.1.evs.length k) (Ia D y.1.out.h.length l):=⟨_,rfl⟩;have iX:(If.info? 63).map (·.size)=Ic X.size:=by rw[hX];exact dF
 have iY:(If.info? 63).map (·.size)=Ic Y.size:=by rw[hY];exact dF
 obtain⟨w1,hw1⟩:∃w1,w1=(w.alloc (Is X 63)).alloc (Is Y 63):=⟨_,rfl⟩;obtain⟨g,hg⟩:=MF w.heap.size;obtain⟨h2,h1,hb1⟩:=dz (w:=w) (A:=Is X 63) (B:=Is Y 63) (w1:=w1) (by rw[hw1];exact Il _ _);rw[hg]at h1 h2;have x0:=(show w1.cell? ⟨g,0,Ih⟩=Ic (.slice A x.1.evs.length n) by rw[ah h1,hX];rfl);have y0:=(show w1.cell? ⟨g+1,0,Ih⟩=Ic (.slice C y.1.evs.length k) by rw[ah h2,hY];rfl);have y6:=(show w1.cell? ⟨g+1,6,Ih⟩=Ic (.bool y.2) by rw[ah h2,hY];rfl);have HLd:=MD (show(Le 61 ⟨g,0,Ih⟩).run If w1=.ok (IA (trc x.1 (Ia A x.1.evs.length n) (Ia B x.1.out.h.length m)).toArray) w1 from cr (L:=X.toList) (by simpa using h1) 61 0 _ (by rw[hX];rfl) _ JY rfl fy);have HHa:=MD (ik x.1 A B x.1.evs.length n x.1.out.h.length m w1);have H1:=MD h1;have H2:=MD h2;have HB:=MD hb1;have HW1:=MD hw1;have lx':(x.1.evs.length:Int)<=5000:=by omega
 have ly':(y.1.evs.length:Int)<=5000:=by omega
 rw[<-hX,<-hY];unfold tl3;obtain⟨b,hb⟩:=ME (iI x.1.out.how);rw[<-hb]at HHa ⊢;clear hb hX hY iX iY hw1 h1 h2 hb1 hA hB hC hD lx ly;cases b with
 |true=>
  go_enter Tryz.func26,Tryz.ntmps26;go_upto_region 1 with fail
  refine ar HW1.1.symm ?_;clear hg;go_wp2_with (first
   |((with_reducible refine ai (N:=6) rfl ?_);refine av rfl 61 _ rfl ⟨g,0,Ih⟩ rfl _ HLd.1 ?_)
   |(go_at_call 24;refine HHa.1.mono ?_;rintro e w2 ⟨rfl,hb⟩;have HB2:=MD hb;have d0:=ak hb x0;have d1:=ak hb y0;have d6:=ak hb y6;clear hb))
  go_ret;exact⟨rfl,af HB.1 HB2.1⟩
 |false=>
  go_enter Tryz.func26,Tryz.ntmps26;go_upto_region 1 with fail
  refine ar HW1.1.symm ?_;clear hg;go_wp2_with (first
   |((with_reducible refine ai (N:=6) rfl ?_);refine av rfl 61 _ rfl ⟨g,0,Ih⟩ rfl _ HLd.1 ?_)
   |(go_at_call 24;refine HHa.1.mono ?_;rintro e w2 ⟨rfl,hb⟩;have HB2:=MD hb;have d0:=ak hb x0;have d1:=ak hb y0;have d6:=ak hb y6;clear hb))
  go_ret;exact⟨rfl,af HB.1 HB2.1⟩
theorem Cn(x y:Tr×Bool)(vx vy:Io)(w:Im)(hx:SdV w x vx)(hy:SdV w y vy)(lx:x.1.evs.length<=5000)(ly:y.1.evs.length<=5000) :
  I9 If 20 #[vx,vy,.func (.func 26) #[] #[]] w λe w'=>e=Iv (Iy (tl3 x y||tl3 y x))/\It w.heap.size w w':=by
 obtain⟨A,n,B,m,rfl,hA,hB⟩:=hx;obtain⟨C,k,D,l,rfl,hC,hD⟩:=hy;obtain⟨X,hX⟩:∃X,X=sdc x.1 x.2 (Ia A x.1.evs.length n) (Ia B x.1.out.h.length m):=⟨_,rfl⟩;obtain⟨Y,hY⟩:∃Y,Y=sdc y.1 y.2 (Ia C y.1.evs.length k) (Ia D y.1.out.h.length l):=⟨_,rfl⟩;have iX:(If.info? 63).map (·.size)=Ic X.size:=by rw[hX];exact dF
 have iY:(If.info? 63).map (·.size)=Ic Y.size:=by rw[hY];exact dF
 obtain⟨w1,hw1⟩:∃w1,w1=(w.alloc (Is X 63)).alloc (Is Y 63):=⟨_,rfl⟩;obtain⟨g,hg⟩:=MF w.heap.size;obtain⟨h2,h1,hb1⟩:=dz (w:=w) (A:=Is X 63) (B:=Is Y 63) (w1:=w1) (by rw[hw1];exact Il _ _);rw[hg]at h1 h2;have HL1:=MD (λW (hb:It w1.heap.size w1 W)=>aY (P:=If) (ag h1 hb) JT rfl iX);have HL2:=MD (λW (hb:It w1.heap.size w1 W)=>aY (P:=If) (ag h2 hb) JT rfl iY);have k1:=λW (hb:It w.heap.size w W)=>sA x y _ _ W (SdV.below ⟨A,n,B,m,rfl,hA,hB⟩ hb) (SdV.below ⟨C,k,D,l,rfl,hC,hD⟩ hb) lx ly;have k2:=λW (hb:It w.heap.size w W)=>sA y x _ _ W (SdV.below ⟨C,k,D,l,rfl,hC,hD⟩ hb) (SdV.below ⟨A,n,B,m,rfl,hA,hB⟩ hb) ly lx;rw[<-hX,<-hY]at k1 k2;obtain⟨b,hb⟩:=ME (tl3 x y);rw[<-hb]at k1;rw[<-hX,<-hY,<-hb];have HK1:=MD (k1 w1 hb1);have HK2:=MD k2;have HB:=MD hb1;have HW1:=MD hw1;clear k1 k2 hb hX hY iX iY hw1 h1 h2 hb1 hA hB hC hD lx ly;cases b with
 |true=>
  go_enter JG,Tryz.ntmps20;go_upto_region 1 with fail
  refine ar HW1.1.symm ?_;clear hg;go_wp2_with (first
   |((with_reducible refine ai (N:=8) rfl ?_);refine ay rfl _ (ao rfl rfl (HL1.1 _ (Il _ _))) ?_)
   |((with_reducible refine ai (N:=9) rfl ?_);refine ay rfl _ (ao rfl rfl (HL2.1 _ (Il _ _))) ?_)
   |(go_at_call 26;refine HK1.1.mono ?_;rintro e w2 ⟨rfl,hb⟩;have HB2:=MD hb;clear hb))
  go_ret;exact⟨rfl,af HB.1 HB2.1⟩
 |false=>
  go_enter JG,Tryz.ntmps20;go_upto_region 1 with fail
  refine ar HW1.1.symm ?_;clear hg;go_wp2_with (first
   |((with_reducible refine ai (N:=8) rfl ?_);refine ay rfl _ (ao rfl rfl (HL1.1 _ (Il _ _))) ?_)
   |((with_reducible refine ai (N:=9) rfl ?_);refine ay rfl _ (ao rfl rfl (HL2.1 _ (Il _ _))) ?_)
   |((with_reducible refine ai (N:=13) rfl ?_);refine ay rfl _ (ao rfl rfl (HL2.1 _ HB2.1)) ?_)
   |((with_reducible refine ai (N:=14) rfl ?_);refine ay rfl _ (ao rfl rfl (HL1.1 _ HB2.1)) ?_)
   |(go_at_call 26;(with_reducible refine HK1.1.mono ?_);rintro e w2 ⟨rfl,hb⟩;have HB2:=MD hb;clear hb HK1)
   |(go_at_call 26;refine(HK2.1 _ (af HB.1 HB2.1)).mono ?_;rintro e w3 ⟨rfl,hb⟩;have HB3:=MD (af HB2.1 hb);clear hb))
  go_ret;exact⟨rfl,af HB.1 HB3.1⟩
def GZ(n:Nat)(ops:Array Oper):Bool:=
 Region.noSelect ops&&(Jy ops.size).all λi=>match ops[i]? with
  |some o=>(o.after.all λe=>!(Region.binds .any e)||decide (e.on<i))&&(o.looksAt ops).all λt=>(ops.all λp=>p.dst != Ic t)||(Jy ops.size).any λj=>(((ops[j]?).map (·.dst)).getD Ih==Ic t)&&Region.reachB .any ops j n i
  |none=>Ir
theorem pZ{ops:Array Oper}{i:Nat}:∀(n m d:Nat),n<=m->Region.reachB .any ops i n d=Ir->Region.reachB .any ops i m d=Ir
 |0,_,_,_,h=>by simp[Region.reachB]at h
 |n+1,0,_,hn,_=>by omega
 |n+1,m+1,d,hn,h=>by
  unfold Region.reachB at h ⊢;cases ho:ops[d]? with
  |none=>rw[ho]at h;simp at h
  |some o=>
   rw[ho]at h;obtain⟨e,he,h1⟩:=Lt.1 h;refine Lt.2 ⟨e,he,?_⟩;simp only[Js,Mb,beq_iff_eq]at h1 ⊢;exact⟨h1.1,h1.2.imp id (pZ n m e.on (by omega))⟩
theorem nF{ops:Array Oper}(n:Nat)(h:GZ n ops=Ir)(hn:Nat.ble n ops.size=Ir):mH ops=Ir:=by
 unfold GZ at h;unfold mH;rw[Js]at h ⊢;refine⟨h.1,?_⟩;obtain⟨h0,h⟩:=h;rw[Jd]at h ⊢;intro i hi;have h2:=h i hi;cases ho:ops[i]? with
 |none=>rfl
 |some o=>
  rw[ho]at h2;simp only[Js]at h2 ⊢;refine⟨h2.1,?_⟩;rw[Jd];intro t ht;have h3:=Jd.1 h2.2 t ht;rw[Mb]at h3 ⊢;refine h3.imp id (λh3=>?_);obtain⟨j,hj,h4⟩:=List.any_eq_true.1 h3;rw[Js]at h4;exact List.any_eq_true.2 ⟨j,hj,by rw[Js];exact⟨h4.1,pZ n _ _ (Nat.le_of_ble_eq_true hn) h4.2⟩⟩
theorem iS{P:Jn}{ops:Array Oper}{aF:Act}{o:Oper}{w:Im}{G:Io->Im->Prop}(hgd:Jk o (KH ops aF.tmps)=Ik)(hG:G KG w):gQ P ops aF o w G:=.inl ⟨hgd,hG⟩
def tl4(x y:Tr×Bool):Bool:=iI x.1.out.how&&iI y.1.out.how&&(x.1.out.how != y.1.out.how||x.1.out.val != y.1.out.val||!decide (x.1.out.h=y.1.out.h))
def iG:List Bool->Nat->Int
 | [],_=>0
 |b::r,i=>if b=Ir then i else iG r (i+1)
def Ah(x y:Tr×Bool):List Bool:=[Ik,!(tl1 x y||tl1 y x),tl2 x y||tl2 y x,tl4 x y,tl3 x y||tl3 y x]
def da(f g:List In)(c:Ca):Int×Int:=if(fc f c).2=0/\(fc g c).2=0 then(iG (Ah (fc f c).1 (fc g c).1) 0,0)else(0,1)
theorem vQ{f:List In}(hr:dQ f)(ask:List Int):∀(n:Nat) (q:Tr×St),StI f q.2->q.1.out.h.length<=16->(jW f ask n q).1.evs.length<=q.1.evs.length+n/\(jW f ask n q).1.out.h.length<=16
 |0,q,h,h16=>⟨Iz _,h16⟩
 |n+1,q,h,h16=>by
  obtain⟨k1,k2,k3⟩:=pH hr h ask;have h1:StI f (db f ask q).2:=k1;have h2:(db f ask q).1.evs.length=q.1.evs.length+(eG f q.2 ask).2.1.length:=by unfold db;simp
  have h3:(db f ask q).1.out.h.length<=16:=k3;unfold jW;split
  .have:=vQ hr ask n _ h1 h3
   omega
  .omega
theorem mV(f:List In)(c:Ca)(h8:c.r.length=8):(fc f c).1.1.evs.length<=5000/\(fc f c).1.1.out.h.length<=16:=by
 unfold fc fC;by_cases h:bi f=Ir/\il c.h.length c.ans.length c.fuel=Ir
 .rw[if_pos h,if_pos rfl]
  have hr:=bu h.1;have h2:=h.2;unfold il at h2;simp only[Js,decide_eq_true_eq]at h2;have:=vQ hr c.ans c.fuel.toNat (trZ,nJ c) (zT hr h8 (by omega)) (ID _);have e:(trZ,nJ c).1.evs.length=0:=rfl;simp only;omega
 .rw[if_neg h,if_neg (by decide)]
  exact⟨ID _,ID _⟩
theorem ix(f g:List In)(Af Ag:Option Addr)(cf cg:Nat)(c:Ca)(vC:Io)(w:Im)(hG:Gl w)(hCf:Kd.C kIn w Af f.length f)(hcf:f.length<=cf)(hCg:Kd.C kIn w Ag g.length g)(hcg:g.length<=cg)(hV:CaV w c vC)(hh:c.h.length<=5000)(ha:c.ans.length<=100000) :
  I9 If 9 #[Ia Af f.length cf,Ia Ag g.length cg,vC] w λe w'=>e=Iv (IR #[Ib Ie (da f g c).1,Ib Ie (da f g c).2])/\It w.heap.size w w':=by
 have hV0:=hV;obtain⟨vH,vA,rfl,h8,hHr,hAr⟩:=hV;obtain⟨L,hL⟩:=ME (cac c.r vH vA c.fuel);have hLi:(If.info? 37).map (·.size)=Ic L.toArray.size:=by rw[hL];exact bv h8
 obtain⟨r,hr⟩:=ME (da f g c);rw[<-hr];unfold da at hr;obtain⟨x,hx⟩:=ME ((fc f c).1);obtain⟨y,hy⟩:=ME ((fc g c).1);obtain⟨e1,he1⟩:=ME ((fc f c).2);obtain⟨e2,he2⟩:=ME ((fc g c).2);have hsx:=mV f c h8;have hsy:=mV g c h8;have hF:=λW hb=>sD f Af cf c (IA L.toArray) W (hG.below hb) (Kd.C_below hCf hb) hcf (by rw[hL];exact hV0.below hb) hh ha;have hS:=λW hb=>sD g Ag cg c (IA L.toArray) W (hG.below hb) (Kd.C_below hCg hb) hcg (by rw[hL];exact hV0.below hb) hh ha;rw[<-hx,<-he1]at hF hr;rw[<-hy,<-he2]at hS hr;rw[<-hx]at hsx;rw[<-hy]at hsy;rw[<-hL];obtain⟨w1,hw1⟩:∃w1,w1=w.alloc (Is L.toArray 37):=⟨_,rfl⟩;obtain⟨B,hB⟩:=MF w.heap.size;have h1:w1.heap[B]?=Ic (.cells L.toArray 37 (0,0)):=by rw[hw1,<-hB];exact Iu w _
 have hb1:It w.heap.size w w1:=by rw[hw1];exact ae (Il _ _) _
 have HF:=MD (hF w1 hb1);have HS:=MD hS;have HW1:=MD hw1;have H1:=MD h1;have HB1:=MD hb1;have HLi:=MD hLi;have HRr:=MD hr;have HSx:=MD hsx;have HSy:=MD hsy;clear hV0 hG hCf hcf hCg hcg hL hLi hr hx hy he1 he2 hsx hsy hF hS hw1 h1 hb1 hHr hAr h8 hh ha;go_enter Tryz.func9,Tryz.ntmps9;go_upto_region 1 with fail
 refine ar HW1.1.symm ?_;clear hB HW1;go_upto_region 3 with(first
  |((with_reducible refine ai (N:=17) rfl ?_);refine ay rfl _ (ao rfl rfl (aY (P:=If) H1.1 I4 rfl HLi.1)) ?_)
  |(go_at_call 19;(with_reducible refine HF.1.mono ?_);rintro e w2 ⟨vX,rfl,⟨A,n,D0,m,rfl,hA,hD⟩,hb⟩;clear HF;have HXE:=MD hA;have HXO:=MD hD;have HB2:=MD (af HB1.1 hb);have H12:=MD (ag H1.1 hb);clear hA hD hb)
  |((with_reducible refine ap (t:=63) (p:=8) rfl ?_);refine an rfl 63 _ _ rfl w2.heap.size (sdc x.1 x.2 (Ia A x.1.evs.length n) (Ia D0 x.1.out.h.length m)) rfl rfl 63 gV (Iu w2 _) dF rfl (by simp[sdc,IH]) ?_;intro w3 h3 hf3;have H3:=MD h3;have HB3:=MD (cw hf3);clear h3 hf3)
  |((with_reducible refine ai (N:=23) rfl ?_);refine ay rfl _ (ao rfl rfl (aY (P:=If) (ag H12.1 HB3.1) I4 rfl HLi.1)) ?_)
  |(go_at_call 19;refine(HS.1 w3 (af HB2.1 HB3.1)).mono ?_;rintro e w4 ⟨vY,rfl,⟨C,k,E0,l,rfl,hC,hE⟩,hb⟩;have HYE:=MD hC;have HYO:=MD hE;have HB4:=MD hb;clear hC hE hb)
  |((with_reducible refine ap (t:=63) (p:=10) rfl ?_);refine an rfl 63 _ _ rfl w4.heap.size (sdc y.1 y.2 (Ia C y.1.evs.length k) (Ia E0 y.1.out.h.length l)) rfl rfl 63 gV (Iu w4 _) dF rfl (by simp[sdc,IH]) ?_;intro w5 h5 hf5;have H5:=MD h5;have HB5:=MD (cw hf5);clear h5 hf5))
 obtain⟨X,hX⟩:∃X,X=sdc x.1 x.2 (Ia A x.1.evs.length n) (Ia D0 x.1.out.h.length m):=⟨_,rfl⟩;obtain⟨Y,hY⟩:∃Y,Y=sdc y.1 y.2 (Ia C y.1.evs.length k) (Ia E0 y.1.out.h.length l):=⟨_,rfl⟩;obtain⟨G,hG⟩:=MF w2.heap.size;obtain⟨H,hH⟩:=MF w4.heap.size;rw[<-hX,hG]at H3;rw[<-hY,hH]at H5;rw[hG,hH];by_cases hbad:e1=0/\e2=0
 .obtain⟨rfl,rfl⟩:=hbad
  rw[if_pos ⟨rfl,rfl⟩]at HRr;have hb35:=af HB4.1 HB5.1;have iX:(If.info? 63).map (·.size)=Ic X.size:=by rw[hX];exact dF
  have iY:(If.info? 63).map (·.size)=Ic Y.size:=by rw[hY];exact dF
  have hgx:=ag H3.1 hb35;have hgy:=H5.1;obtain⟨TX,hTX⟩:∃T,T=trc x.1 (Ia A x.1.evs.length n) (Ia D0 x.1.out.h.length m):=⟨_,rfl⟩;obtain⟨TY,hTY⟩:∃T,T=trc y.1 (Ia C y.1.evs.length k) (Ia E0 y.1.out.h.length l):=⟨_,rfl⟩;have HX63:=MD (λ(W:Im) (hb:It w5.heap.size w5 W)=>aY (P:=If) (ag hgx hb) JT rfl iX);have HY63:=MD (λ(W:Im) (hb:It w5.heap.size w5 W)=>aY (P:=If) (ag hgy hb) JT rfl iY);have HX61:=MD (λ(W:Im) (hb:It w5.heap.size w5 W)=>show(Le 61 ⟨G,0,Ih⟩).run If W=.ok (IA TX.toArray) W from cr (L:=X.toList) (by simpa using ag hgx hb) 61 0 TX (by rw[hX,hTX];rfl) _ JY rfl (by rw[hTX];exact fy));have HY61:=MD (λ(W:Im) (hb:It w5.heap.size w5 W)=>show(Le 61 ⟨H,0,Ih⟩).run If W=.ok (IA TY.toArray) W from cr (L:=Y.toList) (by simpa using ag hgy hb) 61 0 TY (by rw[hY,hTY];rfl) _ JY rfl (by rw[hTY];exact fy));have HSX:=MD (show SdV w5 x (IA X)from⟨A,n,D0,m,by rw[hX],HXE.1.below (af HB3.1 hb35),HXO.1.below (af HB3.1 hb35)⟩);have HSY:=MD (show SdV w5 y (IA Y)from⟨C,k,E0,l,by rw[hY],HYE.1.below HB5.1,HYO.1.below HB5.1⟩);obtain⟨t1,ht1⟩:=ME ((tl1 x y||tl1 y x));obtain⟨t2,ht2⟩:=ME ((tl2 x y||tl2 y x));obtain⟨t3,ht3⟩:=ME (tl4 x y);obtain⟨t4,ht4⟩:=ME ((tl3 x y||tl3 y x));have HE1:=MD (λ(W:Im) (hb:It w5.heap.size w5 W)=>show I9 If 20 #[IA X,IA Y,.func (.func 21) #[] #[]] W λe w'=>e=Iv (Iy t1)/\It W.heap.size W w' by rw[ht1];exact Cp x y _ _ W (HSX.1.below hb) (HSY.1.below hb) HSx.1.1 HSy.1.1);have HE2:=MD (λ(W:Im) (hb:It w5.heap.size w5 W)=>show I9 If 20 #[IA X,IA Y,.func (.func 23) #[] #[]] W λe w'=>e=Iv (Iy t2)/\It W.heap.size W w' by rw[ht2];exact Co x y _ _ W (HSX.1.below hb) (HSY.1.below hb) HSx.1.1 HSy.1.1);have HE4:=MD (λ(W:Im) (hb:It w5.heap.size w5 W)=>show I9 If 20 #[IA X,IA Y,.func (.func 26) #[] #[]] W λe w'=>e=Iv (Iy t4)/\It W.heap.size W w' by rw[ht4];exact Cn x y _ _ W (HSX.1.below hb) (HSY.1.below hb) HSx.1.1 HSy.1.1);have hHx:=λW=>ik x.1 A D0 x.1.evs.length n x.1.out.h.length m W;have hHy:=λW=>ik y.1 C E0 y.1.evs.length k y.1.out.h.length l W;rw[<-hTX]at hHx;rw[<-hTY]at hHy;have X1:=MD (show w5.cell? ⟨G,1,Ih⟩=Ic (Ib Ie x.1.out.how) by rw[ah hgx,hX];rfl);have Y1:=MD (show w5.cell? ⟨H,1,Ih⟩=Ic (Ib Ie y.1.out.how) by rw[ah hgy,hY];rfl);have X2:=MD (show w5.cell? ⟨G,2,Ih⟩=Ic (Ib Ie x.1.out.val) by rw[ah hgx,hX];rfl);have Y2:=MD (show w5.cell? ⟨H,2,Ih⟩=Ic (Ib Ie y.1.out.val) by rw[ah hgy,hY];rfl);have X3:=MD (show w5.cell? ⟨G,3,Ih⟩=Ic (.slice D0 x.1.out.h.length m) by rw[ah hgx,hX];rfl);have Y3:=MD (show w5.cell? ⟨H,3,Ih⟩=Ic (.slice E0 y.1.out.h.length l) by rw[ah hgy,hY];rfl);have HA2:=MD (show ∀W,(isAgg 2).run If W=.ok Ik W from λW=>by kernel_rfl);have HA3:=MD (show ∀W,(isAgg 3).run If W=.ok Ik W from λW=>by kernel_rfl);have HA35:=MD (show ∀W,(isAgg 35).run If W=.ok Ik W from λW=>by kernel_rfl);obtain⟨hs,hhs⟩:=ME (decide (x.1.out.h=y.1.out.h));have HHs:=MD (λ(W:Im) (hb:It w5.heap.size w5 W)=>show I9 If 25 #[Ia D0 x.1.out.h.length m,Ia E0 y.1.out.h.length l] W λe w'=>e=Iv (Iy hs)/\It W.heap.size W w' by rw[hhs];exact B5 x.1.out.h y.1.out.h D0 E0 m l W (FB ((HXO.1.below (af HB3.1 hb35)).below hb)) (FB ((HYO.1.below HB5.1).below hb)) (by have:=HSx.1.2;omega) (by have:=HSy.1.2;omega));have HBw:=MD (af HB2.1 (af HB3.1 hb35));have hTel:=HRr.1;unfold Ah at hTel;rw[<-ht1,<-ht2,<-ht3,<-ht4]at hTel;have HTel:=MD hTel;unfold tl4 at ht3;rw[<-hhs]at ht3;clear hb35 iX iY hgx hgy hX hY hTX hTY hG hH hTel hhs ht1 ht2 ht4 HRr HS HLi H1 H12 H3 H5 HB2 HB3 HB4 HB5 HXE HXO HYE HYO;go_upto_region 5 with fail
  go_cut [12]from 33 to 86 (λv12 wx=>∃q,v12=Ia (Ic ⟨q,0,Ih⟩) 5 5/\aa (It w5.heap.size w5 wx/\wx.heap[q]?=Ic (.cells #[Iy Ik,Iy (!t1),Iy t2,Iy t3,Iy t4] 4 (0,0))))
  case first=>
   by_cases k1:iI x.1.out.how=Ir
   .by_cases k2:iI y.1.out.how=Ir
    .by_cases k3:x.1.out.how=y.1.out.how
     .by_cases k4:x.1.out.val=y.1.out.val
      .have q1:(x.1.out.how != y.1.out.how)=Ik:=by simp[k3]
       have q2:(x.1.out.val != y.1.out.val)=Ik:=by simp[k4]
       rw[k1,k2,q1,q2]at ht3;obtain rfl:t3=!hs:=ht3;rw[k1]at hHx;rw[k2]at hHy;have HHx:=MD hHx;have HHy:=MD hHy;clear hHx hHy k1 k2 k3 k4;refine bm (σ:=Nat) [52] (λq=>[(33,IA X),(34,IA Y),(35,Iy t1),(36,Iy (!t1)),(37,IA X),(38,IA Y),(39,Iy t2),(40,Iq (Ic ⟨G,0,Ih⟩)),(41,IA TX.toArray),(42,Iy Ir),(43,Iy Ir),(44,Iq (Ic ⟨H,0,Ih⟩)),(45,IA TY.toArray),(46,Iy Ir),(47,Iy Ir),(48,Iy Ir),(49,Iq (Ic ⟨G,0,Ih⟩)),(50,Iq (Ic ⟨G,1,Ih⟩)),(51,Iq (Ic ⟨G,1,Ih⟩)),(52,Ib Ie x.1.out.how),(53,Iq (Ic ⟨H,0,Ih⟩)),(54,Iq (Ic ⟨H,1,Ih⟩)),(55,Iq (Ic ⟨H,1,Ih⟩)),(56,Ib Ie y.1.out.how),(57,Iy Ik),(58,Iy Ik),(59,Iq (Ic ⟨G,0,Ih⟩)),(60,Iq (Ic ⟨G,1,Ih⟩)),(61,Iq (Ic ⟨G,2,Ih⟩)),(62,Ib Ie x.1.out.val),(63,Iq (Ic ⟨H,0,Ih⟩)),(64,Iq (Ic ⟨H,1,Ih⟩)),(65,Iq (Ic ⟨H,2,Ih⟩)),(66,Ib Ie y.1.out.val),(67,Iy Ik),(68,Iy Ik),(69,Iy Ik),(70,Iq (Ic ⟨G,0,Ih⟩)),(71,Iq (Ic ⟨G,1,Ih⟩)),(72,Iq (Ic ⟨G,3,Ih⟩)),(73,Ia D0 x.1.out.h.length m),(74,Iq (Ic ⟨H,0,Ih⟩)),(75,Iq (Ic ⟨H,1,Ih⟩)),(76,Iq (Ic ⟨H,3,Ih⟩)),(77,Ia E0 y.1.out.h.length l),(78,Iy hs),(79,Iy (!hs)),(80,Iy (!hs)),(81,Iy (!hs)),(82,IA X),(83,IA Y),(84,Iy t4),(85,Ia (Ic ⟨q,0,Ih⟩) 5 5),(12,Ia (Ic ⟨q,0,Ih⟩) 5 5)])
        (λbs q W=>It w5.heap.size w5 W/\(bs.getD 0 Ik=Ir->W.heap[q]?=Ic (.cells #[Iy Ik,Iy (!t1),Iy t2,Iy (!hs),Iy t4] 4 (0,0)))) 0 (by kernel_rfl) (nF 1 (by kernel_rfl) (by kernel_rfl)) (by kernel_rfl) (λ_=>by kernel_rfl) ?_
       intro aF haF;simp only[bk,KY,IP,IZ,IY]at haF;subst haF;refine⟨?_,?_,⟨aA (Il _ _),λe=>Ix e⟩,?_⟩
       .intro j o ho hct q W bs hlen hok hI
        have hJ:∀w',It W.heap.size W w'->It w5.heap.size w5 w'/\(bs.getD 0 Ik=Ir->w'.heap[q]?=Ic (.cells #[Iy Ik,Iy (!t1),Iy t2,Iy (!hs),Iy t4] 4 (0,0))):=λw' hb=>⟨af hI.1 hb,λe=>ag (hI.2 e) hb⟩;rcases j with _|_|_|_|_|_|_|_|_|_|_|_|_|_|_|_|_|_|_|_|_|_|_|_|_|_|_|_|_|_|_|_|_|_|_|_|_|_|_|_|_|_|_|_|_|_|_|_|_|_|_|_|_|_|j
        all_goals first|exact absurd hct (by decide)|(obtain rfl:=Ii ho)|exact absurd (IB.1 ho).1 (by simp)
        .exact ab rfl (ao rfl rfl (HX63.1 W hI.1)) ⟨rfl,hI⟩
        .exact ab rfl (ao rfl rfl (HY63.1 W hI.1)) ⟨rfl,hI⟩
        .exact aN rfl JG (by kernel_rfl) rfl #[IA X,IA Y,.func (.func 21) #[] #[]] rfl rfl ((HE1.1 W hI.1).mono λe w' h=>⟨_,h.1,rfl,hJ w' h.2⟩)
        .exact ab rfl (by go_simp) ⟨rfl,hI⟩
        .exact ab rfl (ao rfl rfl (HX63.1 W hI.1)) ⟨rfl,hI⟩
        .exact ab rfl (ao rfl rfl (HY63.1 W hI.1)) ⟨rfl,hI⟩
        .exact aN rfl JG (by kernel_rfl) rfl #[IA X,IA Y,.func (.func 23) #[] #[]] rfl rfl ((HE2.1 W hI.1).mono λe w' h=>⟨_,h.1,rfl,hJ w' h.2⟩)
        .exact ab rfl (by go_simp) ⟨rfl,hI⟩
        .exact ab rfl (ao rfl rfl (HX61.1 W hI.1)) ⟨rfl,hI⟩
        .exact aN rfl Km (by kernel_rfl) rfl #[IA TX.toArray] rfl rfl ((HHx.1 W).mono λe w' h=>⟨_,h.1,rfl,hJ w' h.2⟩)
        iterate 2 (· exact ab rfl (by go_simp) ⟨rfl,hI⟩)
        .exact ab rfl (ao rfl rfl (HY61.1 W hI.1)) ⟨rfl,hI⟩
        .exact aN rfl Km (by kernel_rfl) rfl #[IA TY.toArray] rfl rfl ((HHy.1 W).mono λe w' h=>⟨_,h.1,rfl,hJ w' h.2⟩)
        iterate 5 (· exact ab rfl (by go_simp) ⟨rfl,hI⟩)
        .exact ab rfl (ao rfl rfl (aH (HA3.1 W) (ak hI.1 X1.1))) ⟨rfl,hI⟩
        iterate 3 (· exact ab rfl (by go_simp) ⟨rfl,hI⟩)
        .exact ab rfl (ao rfl rfl (aH (HA3.1 W) (ak hI.1 Y1.1))) ⟨rfl,hI⟩
        iterate 5 (· exact ab rfl (by go_simp) ⟨rfl,hI⟩)
        .exact ab rfl (ao rfl rfl (aH (HA2.1 W) (ak hI.1 X2.1))) ⟨rfl,hI⟩
        iterate 3 (· exact ab rfl (by go_simp) ⟨rfl,hI⟩)
        .exact ab rfl (ao rfl rfl (aH (HA2.1 W) (ak hI.1 Y2.1))) ⟨rfl,hI⟩
        iterate 6 (· exact ab rfl (by go_simp) ⟨rfl,hI⟩)
        .exact ab rfl (ao rfl rfl (aH (HA35.1 W) (ak hI.1 X3.1))) ⟨rfl,hI⟩
        iterate 3 (· exact ab rfl (by go_simp) ⟨rfl,hI⟩)
        .exact ab rfl (ao rfl rfl (aH (HA35.1 W) (ak hI.1 Y3.1))) ⟨rfl,hI⟩
        .exact aN rfl Tryz.func25 (by kernel_rfl) rfl #[Ia D0 x.1.out.h.length m,Ia E0 y.1.out.h.length l] rfl rfl ((HHs.1 W hI.1).mono λe w' h=>⟨_,h.1,rfl,hJ w' h.2⟩)
        iterate 3 (· exact ab rfl (by go_simp) ⟨rfl,hI⟩)
        .exact ab rfl (ao rfl rfl (HX63.1 W hI.1)) ⟨rfl,hI⟩
        .exact ab rfl (ao rfl rfl (HY63.1 W hI.1)) ⟨rfl,hI⟩
        .exact aN rfl JG (by kernel_rfl) rfl #[IA X,IA Y,.func (.func 26) #[] #[]] rfl rfl ((HE4.1 W hI.1).mono λe w' h=>⟨_,h.1,rfl,hJ w' h.2⟩)
        .exact ab rfl (by go_simp) ⟨rfl,hI⟩
       .intro k_1 j o hk ho q W bs hlen hok hI
        rcases k_1 with _|k_1
        .obtain rfl:=Ii hk
         obtain rfl:=Ii ho;exact ab (v:=Ia (Ic ⟨W.heap.size,0,Ih⟩) 5 5) (w':=W.alloc (Is #[Iy Ik,Iy (!t1),Iy t2,Iy (!hs),Iy t4] 4)) rfl (by go_simp) ⟨W.heap.size,[(85,Ia (Ic ⟨W.heap.size,0,Ih⟩) 5 5),(12,Ia (Ic ⟨W.heap.size,0,Ih⟩) 5 5)],rfl,rfl,by kernel_rfl,⟨af hI.1 (ae (Il _ _) _),λ_=>Iu W _⟩⟩
        .exact absurd hk (by simp)
       .intro q W hI
        obtain⟨hb6,hq6⟩:=hI;have hq6:=hq6 rfl;go_wp2;go_meet
        case rel=>exact⟨q,rfl,⟨hb6,hq6⟩⟩
      .have q1:(x.1.out.how != y.1.out.how)=Ik:=by simp[k3]
       have q2:(x.1.out.val != y.1.out.val)=Ir:=by simp[k4]
       rw[k1,k2,q1,q2]at ht3;obtain rfl:t3=Ir:=ht3;rw[k1]at hHx;rw[k2]at hHy;have HHx:=MD hHx;have HHy:=MD hHy;clear hHx hHy k1 k2 k3 k4;refine bm (σ:=Nat) [52] (λq=>[(33,IA X),(34,IA Y),(35,Iy t1),(36,Iy (!t1)),(37,IA X),(38,IA Y),(39,Iy t2),(40,Iq (Ic ⟨G,0,Ih⟩)),(41,IA TX.toArray),(42,Iy Ir),(43,Iy Ir),(44,Iq (Ic ⟨H,0,Ih⟩)),(45,IA TY.toArray),(46,Iy Ir),(47,Iy Ir),(48,Iy Ir),(49,Iq (Ic ⟨G,0,Ih⟩)),(50,Iq (Ic ⟨G,1,Ih⟩)),(51,Iq (Ic ⟨G,1,Ih⟩)),(52,Ib Ie x.1.out.how),(53,Iq (Ic ⟨H,0,Ih⟩)),(54,Iq (Ic ⟨H,1,Ih⟩)),(55,Iq (Ic ⟨H,1,Ih⟩)),(56,Ib Ie y.1.out.how),(57,Iy Ik),(58,Iy Ik),(59,Iq (Ic ⟨G,0,Ih⟩)),(60,Iq (Ic ⟨G,1,Ih⟩)),(61,Iq (Ic ⟨G,2,Ih⟩)),(62,Ib Ie x.1.out.val),(63,Iq (Ic ⟨H,0,Ih⟩)),(64,Iq (Ic ⟨H,1,Ih⟩)),(65,Iq (Ic ⟨H,2,Ih⟩)),(66,Ib Ie y.1.out.val),(67,Iy Ir),(68,Iy Ir),(69,Iy Ir),(80,Iy Ir),(81,Iy Ir),(82,IA X),(83,IA Y),(84,Iy t4),(85,Ia (Ic ⟨q,0,Ih⟩) 5 5),(12,Ia (Ic ⟨q,0,Ih⟩) 5 5)])
        (λbs q W=>It w5.heap.size w5 W/\(bs.getD 0 Ik=Ir->W.heap[q]?=Ic (.cells #[Iy Ik,Iy (!t1),Iy t2,Iy Ir,Iy t4] 4 (0,0)))) 0 (by kernel_rfl) (nF 1 (by kernel_rfl) (by kernel_rfl)) (by kernel_rfl) (λ_=>by kernel_rfl) ?_
       intro aF haF;simp only[bk,KY,IP,IZ,IY]at haF;subst haF;refine⟨?_,?_,⟨aA (Il _ _),λe=>Ix e⟩,?_⟩
       .intro j o ho hct q W bs hlen hok hI
        have hJ:∀w',It W.heap.size W w'->It w5.heap.size w5 w'/\(bs.getD 0 Ik=Ir->w'.heap[q]?=Ic (.cells #[Iy Ik,Iy (!t1),Iy t2,Iy Ir,Iy t4] 4 (0,0))):=λw' hb=>⟨af hI.1 hb,λe=>ag (hI.2 e) hb⟩;rcases j with _|_|_|_|_|_|_|_|_|_|_|_|_|_|_|_|_|_|_|_|_|_|_|_|_|_|_|_|_|_|_|_|_|_|_|_|_|_|_|_|_|_|_|_|_|_|_|_|_|_|_|_|_|_|j
        all_goals first|exact absurd hct (by decide)|(obtain rfl:=Ii ho)|exact absurd (IB.1 ho).1 (by simp)
        .exact ab rfl (ao rfl rfl (HX63.1 W hI.1)) ⟨rfl,hI⟩
        .exact ab rfl (ao rfl rfl (HY63.1 W hI.1)) ⟨rfl,hI⟩
        .exact aN rfl JG (by kernel_rfl) rfl #[IA X,IA Y,.func (.func 21) #[] #[]] rfl rfl ((HE1.1 W hI.1).mono λe w' h=>⟨_,h.1,rfl,hJ w' h.2⟩)
        .exact ab rfl (by go_simp) ⟨rfl,hI⟩
        .exact ab rfl (ao rfl rfl (HX63.1 W hI.1)) ⟨rfl,hI⟩
        .exact ab rfl (ao rfl rfl (HY63.1 W hI.1)) ⟨rfl,hI⟩
        .exact aN rfl JG (by kernel_rfl) rfl #[IA X,IA Y,.func (.func 23) #[] #[]] rfl rfl ((HE2.1 W hI.1).mono λe w' h=>⟨_,h.1,rfl,hJ w' h.2⟩)
        .exact ab rfl (by go_simp) ⟨rfl,hI⟩
        .exact ab rfl (ao rfl rfl (HX61.1 W hI.1)) ⟨rfl,hI⟩
        .exact aN rfl Km (by kernel_rfl) rfl #[IA TX.toArray] rfl rfl ((HHx.1 W).mono λe w' h=>⟨_,h.1,rfl,hJ w' h.2⟩)
        iterate 2 (· exact ab rfl (by go_simp) ⟨rfl,hI⟩)
        .exact ab rfl (ao rfl rfl (HY61.1 W hI.1)) ⟨rfl,hI⟩
        .exact aN rfl Km (by kernel_rfl) rfl #[IA TY.toArray] rfl rfl ((HHy.1 W).mono λe w' h=>⟨_,h.1,rfl,hJ w' h.2⟩)
        iterate 5 (· exact ab rfl (by go_simp) ⟨rfl,hI⟩)
        .exact ab rfl (ao rfl rfl (aH (HA3.1 W) (ak hI.1 X1.1))) ⟨rfl,hI⟩
        iterate 3 (· exact ab rfl (by go_simp) ⟨rfl,hI⟩)
        .exact ab rfl (ao rfl rfl (aH (HA3.1 W) (ak hI.1 Y1.1))) ⟨rfl,hI⟩
        iterate 5 (· exact ab rfl (by go_simp) ⟨rfl,hI⟩)
        .exact ab rfl (ao rfl rfl (aH (HA2.1 W) (ak hI.1 X2.1))) ⟨rfl,hI⟩
        iterate 3 (· exact ab rfl (by go_simp) ⟨rfl,hI⟩)
        .exact ab rfl (ao rfl rfl (aH (HA2.1 W) (ak hI.1 Y2.1))) ⟨rfl,hI⟩
        iterate 3 (· exact ab rfl (by go_simp) ⟨rfl,hI⟩)
        iterate 10 (· exact iS rfl ⟨rfl,hI⟩)
        iterate 2 (· exact ab rfl (by go_simp) ⟨rfl,hI⟩)
        .exact ab rfl (ao rfl rfl (HX63.1 W hI.1)) ⟨rfl,hI⟩
        .exact ab rfl (ao rfl rfl (HY63.1 W hI.1)) ⟨rfl,hI⟩
        .exact aN rfl JG (by kernel_rfl) rfl #[IA X,IA Y,.func (.func 26) #[] #[]] rfl rfl ((HE4.1 W hI.1).mono λe w' h=>⟨_,h.1,rfl,hJ w' h.2⟩)
        .exact ab rfl (by go_simp) ⟨rfl,hI⟩
       .intro k_1 j o hk ho q W bs hlen hok hI
        rcases k_1 with _|k_1
        .obtain rfl:=Ii hk
         obtain rfl:=Ii ho;exact ab (v:=Ia (Ic ⟨W.heap.size,0,Ih⟩) 5 5) (w':=W.alloc (Is #[Iy Ik,Iy (!t1),Iy t2,Iy Ir,Iy t4] 4)) rfl (by go_simp) ⟨W.heap.size,[(85,Ia (Ic ⟨W.heap.size,0,Ih⟩) 5 5),(12,Ia (Ic ⟨W.heap.size,0,Ih⟩) 5 5)],rfl,rfl,by kernel_rfl,⟨af hI.1 (ae (Il _ _) _),λ_=>Iu W _⟩⟩
        .exact absurd hk (by simp)
       .intro q W hI
        obtain⟨hb6,hq6⟩:=hI;have hq6:=hq6 rfl;go_wp2;go_meet
        case rel=>exact⟨q,rfl,⟨hb6,hq6⟩⟩
     .have q1:(x.1.out.how != y.1.out.how)=Ir:=by simp[k3]
      rw[k1,k2,q1]at ht3;obtain rfl:t3=Ir:=ht3;rw[k1]at hHx;rw[k2]at hHy;have HHx:=MD hHx;have HHy:=MD hHy;clear hHx hHy k1 k2 k3;refine bm (σ:=Nat) [52] (λq=>[(33,IA X),(34,IA Y),(35,Iy t1),(36,Iy (!t1)),(37,IA X),(38,IA Y),(39,Iy t2),(40,Iq (Ic ⟨G,0,Ih⟩)),(41,IA TX.toArray),(42,Iy Ir),(43,Iy Ir),(44,Iq (Ic ⟨H,0,Ih⟩)),(45,IA TY.toArray),(46,Iy Ir),(47,Iy Ir),(48,Iy Ir),(49,Iq (Ic ⟨G,0,Ih⟩)),(50,Iq (Ic ⟨G,1,Ih⟩)),(51,Iq (Ic ⟨G,1,Ih⟩)),(52,Ib Ie x.1.out.how),(53,Iq (Ic ⟨H,0,Ih⟩)),(54,Iq (Ic ⟨H,1,Ih⟩)),(55,Iq (Ic ⟨H,1,Ih⟩)),(56,Ib Ie y.1.out.how),(57,Iy Ir),(58,Iy Ir),(68,Iy Ir),(69,Iy Ir),(80,Iy Ir),(81,Iy Ir),(82,IA X),(83,IA Y),(84,Iy t4),(85,Ia (Ic ⟨q,0,Ih⟩) 5 5),(12,Ia (Ic ⟨q,0,Ih⟩) 5 5)])
       (λbs q W=>It w5.heap.size w5 W/\(bs.getD 0 Ik=Ir->W.heap[q]?=Ic (.cells #[Iy Ik,Iy (!t1),Iy t2,Iy Ir,Iy t4] 4 (0,0)))) 0 (by kernel_rfl) (nF 1 (by kernel_rfl) (by kernel_rfl)) (by kernel_rfl) (λ_=>by kernel_rfl) ?_
      intro aF haF;simp only[bk,KY,IP,IZ,IY]at haF;subst haF;refine⟨?_,?_,⟨aA (Il _ _),λe=>Ix e⟩,?_⟩
      .intro j o ho hct q W bs hlen hok hI
       have hJ:∀w',It W.heap.size W w'->It w5.heap.size w5 w'/\(bs.getD 0 Ik=Ir->w'.heap[q]?=Ic (.cells #[Iy Ik,Iy (!t1),Iy t2,Iy Ir,Iy t4] 4 (0,0))):=λw' hb=>⟨af hI.1 hb,λe=>ag (hI.2 e) hb⟩;rcases j with _|_|_|_|_|_|_|_|_|_|_|_|_|_|_|_|_|_|_|_|_|_|_|_|_|_|_|_|_|_|_|_|_|_|_|_|_|_|_|_|_|_|_|_|_|_|_|_|_|_|_|_|_|_|j
       all_goals first|exact absurd hct (by decide)|(obtain rfl:=Ii ho)|exact absurd (IB.1 ho).1 (by simp)
       .exact ab rfl (ao rfl rfl (HX63.1 W hI.1)) ⟨rfl,hI⟩
       .exact ab rfl (ao rfl rfl (HY63.1 W hI.1)) ⟨rfl,hI⟩
       .exact aN rfl JG (by kernel_rfl) rfl #[IA X,IA Y,.func (.func 21) #[] #[]] rfl rfl ((HE1.1 W hI.1).mono λe w' h=>⟨_,h.1,rfl,hJ w' h.2⟩)
       .exact ab rfl (by go_simp) ⟨rfl,hI⟩
       .exact ab rfl (ao rfl rfl (HX63.1 W hI.1)) ⟨rfl,hI⟩
       .exact ab rfl (ao rfl rfl (HY63.1 W hI.1)) ⟨rfl,hI⟩
       .exact aN rfl JG (by kernel_rfl) rfl #[IA X,IA Y,.func (.func 23) #[] #[]] rfl rfl ((HE2.1 W hI.1).mono λe w' h=>⟨_,h.1,rfl,hJ w' h.2⟩)
       .exact ab rfl (by go_simp) ⟨rfl,hI⟩
       .exact ab rfl (ao rfl rfl (HX61.1 W hI.1)) ⟨rfl,hI⟩
       .exact aN rfl Km (by kernel_rfl) rfl #[IA TX.toArray] rfl rfl ((HHx.1 W).mono λe w' h=>⟨_,h.1,rfl,hJ w' h.2⟩)
       iterate 2 (· exact ab rfl (by go_simp) ⟨rfl,hI⟩)
       .exact ab rfl (ao rfl rfl (HY61.1 W hI.1)) ⟨rfl,hI⟩
       .exact aN rfl Km (by kernel_rfl) rfl #[IA TY.toArray] rfl rfl ((HHy.1 W).mono λe w' h=>⟨_,h.1,rfl,hJ w' h.2⟩)
       iterate 5 (· exact ab rfl (by go_simp) ⟨rfl,hI⟩)
       .exact ab rfl (ao rfl rfl (aH (HA3.1 W) (ak hI.1 X1.1))) ⟨rfl,hI⟩
       iterate 3 (· exact ab rfl (by go_simp) ⟨rfl,hI⟩)
       .exact ab rfl (ao rfl rfl (aH (HA3.1 W) (ak hI.1 Y1.1))) ⟨rfl,hI⟩
       iterate 2 (· exact ab rfl (by go_simp) ⟨rfl,hI⟩)
       iterate 9 (· exact iS rfl ⟨rfl,hI⟩)
       iterate 2 (· exact ab rfl (by go_simp) ⟨rfl,hI⟩)
       iterate 10 (· exact iS rfl ⟨rfl,hI⟩)
       iterate 2 (· exact ab rfl (by go_simp) ⟨rfl,hI⟩)
       .exact ab rfl (ao rfl rfl (HX63.1 W hI.1)) ⟨rfl,hI⟩
       .exact ab rfl (ao rfl rfl (HY63.1 W hI.1)) ⟨rfl,hI⟩
       .exact aN rfl JG (by kernel_rfl) rfl #[IA X,IA Y,.func (.func 26) #[] #[]] rfl rfl ((HE4.1 W hI.1).mono λe w' h=>⟨_,h.1,rfl,hJ w' h.2⟩)
       .exact ab rfl (by go_simp) ⟨rfl,hI⟩
      .intro k_1 j o hk ho q W bs hlen hok hI
       rcases k_1 with _|k_1
       .obtain rfl:=Ii hk
        obtain rfl:=Ii ho;exact ab (v:=Ia (Ic ⟨W.heap.size,0,Ih⟩) 5 5) (w':=W.alloc (Is #[Iy Ik,Iy (!t1),Iy t2,Iy Ir,Iy t4] 4)) rfl (by go_simp) ⟨W.heap.size,[(85,Ia (Ic ⟨W.heap.size,0,Ih⟩) 5 5),(12,Ia (Ic ⟨W.heap.size,0,Ih⟩) 5 5)],rfl,rfl,by kernel_rfl,⟨af hI.1 (ae (Il _ _) _),λ_=>Iu W _⟩⟩
       .exact absurd hk (by simp)
      .intro q W hI
       obtain⟨hb6,hq6⟩:=hI;have hq6:=hq6 rfl;go_wp2;go_meet
       case rel=>exact⟨q,rfl,⟨hb6,hq6⟩⟩
    .have k2':iI y.1.out.how=Ik:=by simpa using k2
     rw[k1,k2']at ht3;obtain rfl:t3=Ik:=ht3;rw[k1]at hHx;rw[k2']at hHy;have HHx:=MD hHx;have HHy:=MD hHy;clear hHx hHy k1 k2 k2';refine bm (σ:=Nat) [52] (λq=>[(33,IA X),(34,IA Y),(35,Iy t1),(36,Iy (!t1)),(37,IA X),(38,IA Y),(39,Iy t2),(40,Iq (Ic ⟨G,0,Ih⟩)),(41,IA TX.toArray),(42,Iy Ir),(43,Iy Ir),(44,Iq (Ic ⟨H,0,Ih⟩)),(45,IA TY.toArray),(46,Iy Ik),(47,Iy Ik),(48,Iy Ik),(81,Iy Ik),(82,IA X),(83,IA Y),(84,Iy t4),(85,Ia (Ic ⟨q,0,Ih⟩) 5 5),(12,Ia (Ic ⟨q,0,Ih⟩) 5 5)])
      (λbs q W=>It w5.heap.size w5 W/\(bs.getD 0 Ik=Ir->W.heap[q]?=Ic (.cells #[Iy Ik,Iy (!t1),Iy t2,Iy Ik,Iy t4] 4 (0,0)))) 0 (by kernel_rfl) (nF 1 (by kernel_rfl) (by kernel_rfl)) (by kernel_rfl) (λ_=>by kernel_rfl) ?_
     intro aF haF;simp only[bk,KY,IP,IZ,IY]at haF;subst haF;refine⟨?_,?_,⟨aA (Il _ _),λe=>Ix e⟩,?_⟩
     .intro j o ho hct q W bs hlen hok hI
      have hJ:∀w',It W.heap.size W w'->It w5.heap.size w5 w'/\(bs.getD 0 Ik=Ir->w'.heap[q]?=Ic (.cells #[Iy Ik,Iy (!t1),Iy t2,Iy Ik,Iy t4] 4 (0,0))):=λw' hb=>⟨af hI.1 hb,λe=>ag (hI.2 e) hb⟩;rcases j with _|_|_|_|_|_|_|_|_|_|_|_|_|_|_|_|_|_|_|_|_|_|_|_|_|_|_|_|_|_|_|_|_|_|_|_|_|_|_|_|_|_|_|_|_|_|_|_|_|_|_|_|_|_|j
      all_goals first|exact absurd hct (by decide)|(obtain rfl:=Ii ho)|exact absurd (IB.1 ho).1 (by simp)
      .exact ab rfl (ao rfl rfl (HX63.1 W hI.1)) ⟨rfl,hI⟩
      .exact ab rfl (ao rfl rfl (HY63.1 W hI.1)) ⟨rfl,hI⟩
      .exact aN rfl JG (by kernel_rfl) rfl #[IA X,IA Y,.func (.func 21) #[] #[]] rfl rfl ((HE1.1 W hI.1).mono λe w' h=>⟨_,h.1,rfl,hJ w' h.2⟩)
      .exact ab rfl (by go_simp) ⟨rfl,hI⟩
      .exact ab rfl (ao rfl rfl (HX63.1 W hI.1)) ⟨rfl,hI⟩
      .exact ab rfl (ao rfl rfl (HY63.1 W hI.1)) ⟨rfl,hI⟩
      .exact aN rfl JG (by kernel_rfl) rfl #[IA X,IA Y,.func (.func 23) #[] #[]] rfl rfl ((HE2.1 W hI.1).mono λe w' h=>⟨_,h.1,rfl,hJ w' h.2⟩)
      .exact ab rfl (by go_simp) ⟨rfl,hI⟩
      .exact ab rfl (ao rfl rfl (HX61.1 W hI.1)) ⟨rfl,hI⟩
      .exact aN rfl Km (by kernel_rfl) rfl #[IA TX.toArray] rfl rfl ((HHx.1 W).mono λe w' h=>⟨_,h.1,rfl,hJ w' h.2⟩)
      iterate 2 (· exact ab rfl (by go_simp) ⟨rfl,hI⟩)
      .exact ab rfl (ao rfl rfl (HY61.1 W hI.1)) ⟨rfl,hI⟩
      .exact aN rfl Km (by kernel_rfl) rfl #[IA TY.toArray] rfl rfl ((HHy.1 W).mono λe w' h=>⟨_,h.1,rfl,hJ w' h.2⟩)
      iterate 2 (· exact ab rfl (by go_simp) ⟨rfl,hI⟩)
      iterate 32 (· exact iS rfl ⟨rfl,hI⟩)
      .exact ab rfl (by go_simp) ⟨rfl,hI⟩
      .exact ab rfl (ao rfl rfl (HX63.1 W hI.1)) ⟨rfl,hI⟩
      .exact ab rfl (ao rfl rfl (HY63.1 W hI.1)) ⟨rfl,hI⟩
      .exact aN rfl JG (by kernel_rfl) rfl #[IA X,IA Y,.func (.func 26) #[] #[]] rfl rfl ((HE4.1 W hI.1).mono λe w' h=>⟨_,h.1,rfl,hJ w' h.2⟩)
      .exact ab rfl (by go_simp) ⟨rfl,hI⟩
     .intro k_1 j o hk ho q W bs hlen hok hI
      rcases k_1 with _|k_1
      .obtain rfl:=Ii hk
       obtain rfl:=Ii ho;exact ab (v:=Ia (Ic ⟨W.heap.size,0,Ih⟩) 5 5) (w':=W.alloc (Is #[Iy Ik,Iy (!t1),Iy t2,Iy Ik,Iy t4] 4)) rfl (by go_simp) ⟨W.heap.size,[(85,Ia (Ic ⟨W.heap.size,0,Ih⟩) 5 5),(12,Ia (Ic ⟨W.heap.size,0,Ih⟩) 5 5)],rfl,rfl,by kernel_rfl,⟨af hI.1 (ae (Il _ _) _),λ_=>Iu W _⟩⟩
      .exact absurd hk (by simp)
     .intro q W hI
      obtain⟨hb6,hq6⟩:=hI;have hq6:=hq6 rfl;go_wp2;go_meet
      case rel=>exact⟨q,rfl,⟨hb6,hq6⟩⟩
   .have k1':iI x.1.out.how=Ik:=by simpa using k1
    rw[k1']at ht3;obtain rfl:t3=Ik:=ht3;rw[k1']at hHx;have HHx:=MD hHx;clear hHx hHy k1 k1';refine bm (σ:=Nat) [52] (λq=>[(33,IA X),(34,IA Y),(35,Iy t1),(36,Iy (!t1)),(37,IA X),(38,IA Y),(39,Iy t2),(40,Iq (Ic ⟨G,0,Ih⟩)),(41,IA TX.toArray),(42,Iy Ik),(43,Iy Ik),(47,Iy Ik),(48,Iy Ik),(81,Iy Ik),(82,IA X),(83,IA Y),(84,Iy t4),(85,Ia (Ic ⟨q,0,Ih⟩) 5 5),(12,Ia (Ic ⟨q,0,Ih⟩) 5 5)])
     (λbs q W=>It w5.heap.size w5 W/\(bs.getD 0 Ik=Ir->W.heap[q]?=Ic (.cells #[Iy Ik,Iy (!t1),Iy t2,Iy Ik,Iy t4] 4 (0,0)))) 0 (by kernel_rfl) (nF 1 (by kernel_rfl) (by kernel_rfl)) (by kernel_rfl) (λ_=>by kernel_rfl) ?_
    intro aF haF;simp only[bk,KY,IP,IZ,IY]at haF;subst haF;refine⟨?_,?_,⟨aA (Il _ _),λe=>Ix e⟩,?_⟩
    .intro j o ho hct q W bs hlen hok hI
     have hJ:∀w',It W.heap.size W w'->It w5.heap.size w5 w'/\(bs.getD 0 Ik=Ir->w'.heap[q]?=Ic (.cells #[Iy Ik,Iy (!t1),Iy t2,Iy Ik,Iy t4] 4 (0,0))):=λw' hb=>⟨af hI.1 hb,λe=>ag (hI.2 e) hb⟩;rcases j with _|_|_|_|_|_|_|_|_|_|_|_|_|_|_|_|_|_|_|_|_|_|_|_|_|_|_|_|_|_|_|_|_|_|_|_|_|_|_|_|_|_|_|_|_|_|_|_|_|_|_|_|_|_|j
     all_goals first|exact absurd hct (by decide)|(obtain rfl:=Ii ho)|exact absurd (IB.1 ho).1 (by simp)
     .exact ab rfl (ao rfl rfl (HX63.1 W hI.1)) ⟨rfl,hI⟩
     .exact ab rfl (ao rfl rfl (HY63.1 W hI.1)) ⟨rfl,hI⟩
     .exact aN rfl JG (by kernel_rfl) rfl #[IA X,IA Y,.func (.func 21) #[] #[]] rfl rfl ((HE1.1 W hI.1).mono λe w' h=>⟨_,h.1,rfl,hJ w' h.2⟩)
     .exact ab rfl (by go_simp) ⟨rfl,hI⟩
     .exact ab rfl (ao rfl rfl (HX63.1 W hI.1)) ⟨rfl,hI⟩
     .exact ab rfl (ao rfl rfl (HY63.1 W hI.1)) ⟨rfl,hI⟩
     .exact aN rfl JG (by kernel_rfl) rfl #[IA X,IA Y,.func (.func 23) #[] #[]] rfl rfl ((HE2.1 W hI.1).mono λe w' h=>⟨_,h.1,rfl,hJ w' h.2⟩)
     .exact ab rfl (by go_simp) ⟨rfl,hI⟩
     .exact ab rfl (ao rfl rfl (HX61.1 W hI.1)) ⟨rfl,hI⟩
     .exact aN rfl Km (by kernel_rfl) rfl #[IA TX.toArray] rfl rfl ((HHx.1 W).mono λe w' h=>⟨_,h.1,rfl,hJ w' h.2⟩)
     .exact ab rfl (by go_simp) ⟨rfl,hI⟩
     iterate 3 (· exact iS rfl ⟨rfl,hI⟩)
     iterate 2 (· exact ab rfl (by go_simp) ⟨rfl,hI⟩)
     iterate 32 (· exact iS rfl ⟨rfl,hI⟩)
     .exact ab rfl (by go_simp) ⟨rfl,hI⟩
     .exact ab rfl (ao rfl rfl (HX63.1 W hI.1)) ⟨rfl,hI⟩
     .exact ab rfl (ao rfl rfl (HY63.1 W hI.1)) ⟨rfl,hI⟩
     .exact aN rfl JG (by kernel_rfl) rfl #[IA X,IA Y,.func (.func 26) #[] #[]] rfl rfl ((HE4.1 W hI.1).mono λe w' h=>⟨_,h.1,rfl,hJ w' h.2⟩)
     .exact ab rfl (by go_simp) ⟨rfl,hI⟩
    .intro k_1 j o hk ho q W bs hlen hok hI
     rcases k_1 with _|k_1
     .obtain rfl:=Ii hk
      obtain rfl:=Ii ho;exact ab (v:=Ia (Ic ⟨W.heap.size,0,Ih⟩) 5 5) (w':=W.alloc (Is #[Iy Ik,Iy (!t1),Iy t2,Iy Ik,Iy t4] 4)) rfl (by go_simp) ⟨W.heap.size,[(85,Ia (Ic ⟨W.heap.size,0,Ih⟩) 5 5),(12,Ia (Ic ⟨W.heap.size,0,Ih⟩) 5 5)],rfl,rfl,by kernel_rfl,⟨af hI.1 (ae (Il _ _) _),λ_=>Iu W _⟩⟩
     .exact absurd hk (by simp)
    .intro q W hI
     obtain⟨hb6,hq6⟩:=hI;have hq6:=hq6 rfl;go_wp2;go_meet
     case rel=>exact⟨q,rfl,⟨hb6,hq6⟩⟩
  case rest=>
   obtain⟨q,rfl,hC3⟩:=hcut;obtain⟨w6,rfl⟩:=ME wc;have HQ:=MD hC3.1.2;have HB6:=MD (af HBw.1 hC3.1.1);obtain⟨T,hT⟩:=ME ([Ik,!t1,t2,t3,t4]);rw[<-hT]at HTel;have HTl:=MD (show T.length=5 by rw[hT];rfl);have HTc:=MD (λ(W:Im) (hb:It w6.heap.size w6 W) (k:Nat) (b:Bool) (h:T[k]?=Ic b)=>show W.cell? ⟨q,k,Ih⟩=Ic (.bool b) by
    rw[ah (ag hC3.1.2 hb)];rw[hT]at h
    match k,h with
    |0,h=>simpa using h
    |1,h=>simpa using h
    |2,h=>simpa using h
    |3,h=>simpa using h
    |4,h=>simpa using h
    |k+5,h=>simp at h)
   clear hC3 hT ht3 hHx hHy;go_wp2;go_loopw [88] (λj wr=>∃k:Nat,j=Ib Ie k/\aa (k<=5/\iG T 0=iG (T.drop k) k/\It w6.heap.size w6 wr)) (λj _=>5-(Jj j).toNat)
   case atStart=>exact⟨0,rfl,⟨⟨ID _,rfl,Il _ _⟩⟩⟩
   case round=>
    obtain⟨k,rfl,HL5⟩:=hrel;obtain⟨hk,hkd,hb⟩:=HL5.1;by_cases hk5:k<5
    .have hk5':(k:Int)<5:=by omega
     obtain⟨b,hbb⟩:∃b,T[k]?=Ic b:=⟨_,Ig (by have:=HTl.1;omega)⟩;have cb:=HTc.1 wr hb k b hbb;have hdr:T.drop k=b::T.drop (k+1):=by
      obtain⟨h1,h2⟩:=Ip.1 hbb;rw[Jc h1,h2]
     rw[hdr,iG]at hkd;have HKd:=MD hkd;have HB7:=MD hb;have HK:=MD hk5;clear hk hkd hb hk5 hbb hdr HL5;by_cases hbt:b=Ir
     .subst hbt
      have HKd2:=MD (show iG T 0=(k:Int) by rw[HKd.1,if_pos rfl]);clear HKd;go_wp2;rw[HTel.1,HKd2.1];exact IG (v:=IR #[Ib Ie (k:Int),Ib Ie 0]) (aD (rs:=[.tmp 6,.tmp 7]) rfl (by simp) (.tmp (.tmp .nil))) rfl ⟨rfl,af HB6.1 HB7.1⟩
     .obtain rfl:b=Ik:=by cases b<;>simp_all
      have HKd2:=MD (show iG T 0=iG (T.drop (k+1)) (k+1) by rw[HKd.1,if_neg (by decide)]);clear hbt HKd;go_wp2;go_roundw
      case rel=>exact⟨k+1,by go_num,⟨⟨HK.1,HKd2.1,HB7.1⟩⟩⟩
      case measure=>have:=HK.1;simp[Jj];omega
    .obtain rfl:k=5:=by omega
     rw[Ju (by rw[HTl.1];exact Iz _),iG]at hkd;have HKd:=MD hkd;have HB7:=MD hb;clear hk hkd hb hk5 HL5;go_wp2;rw[HTel.1,HKd.1];exact IG (v:=IR #[Ib Ie 0,Ib Ie 0]) (aD (rs:=[.tmp 6,.tmp 7]) rfl (by simp) (.tmp (.tmp .nil))) rfl ⟨rfl,af HB6.1 HB7.1⟩
 .rw[if_neg hbad]at HRr
  have HBw:=MD (af HB2.1 (af HB3.1 (af HB4.1 HB5.1)));by_cases h1:e1=0
  .have h2:e2≠0:=λh=>hbad ⟨h1,h⟩
   have q1:(e1 != 0)=Ik:=by simp[h1]
   have q2:(e2 != 0)=Ir:=by simp[h2]
   clear hbad h1 h2 hG hH hX hY;go_wp2;rw[HRr.1];exact IG (v:=IR #[Ib Ie 0,Ib Ie 1]) (aD (rs:=[.tmp 6,.tmp 7]) rfl (by simp) (.tmp (.tmp .nil))) rfl ⟨rfl,HBw.1⟩
  .have q1:(e1 != 0)=Ir:=by simp[h1]
   clear hbad h1 hG hH hX hY;go_wp2;rw[HRr.1];exact IG (v:=IR #[Ib Ie 0,Ib Ie 1]) (aD (rs:=[.tmp 6,.tmp 7]) rfl (by simp) (.tmp (.tmp .nil))) rfl ⟨rfl,HBw.1⟩
theorem Ck{aF:Act}{p:Oper}{x y:Lf}{t:Je}{x0 y0 x1 y1 x2 y2 x3 y3 x4 y4 x5 y5:Int}{b:Bool}(hp:p.op=.binOp .neq 49 x y t)(hx:aF.eval x=IA #[Ib Ie x0,Ib Ie x1,Ib Ie x2,Ib Ie x3,Ib Ie x4,Ib Ie x5])(hy:aF.eval y=IA #[Ib Ie y0,Ib Ie y1,Ib Ie y2,Ib Ie y3,Ib Ie y4,Ib Ie y5])
  (hb:(!(x0==y0&&(x1==y1&&(x2==y2&&(x3==y3&&(x4==y4&&(x5==y5)))))))=b) (w:Im):(JJ aF.eval p).run If w=.ok (.value (Iy b)) w:=by
 have hk:If.eqGuardType If.depth 49=Ik:=by kernel_rfl
 have h1:(eqGuard .neq 49 x y (IA #[Ib Ie x0,Ib Ie x1,Ib Ie x2,Ib Ie x3,Ib Ie x4,Ib Ie x5]) (IA #[Ib Ie y0,Ib Ie y1,Ib Ie y2,Ib Ie y3,Ib Ie y4,Ib Ie y5])).run If w=.ok () w:=by
  simp[eqGuard,run_program,hk]
 have h:(Op.equal 49 (IA #[Ib Ie x0,Ib Ie x1,Ib Ie x2,Ib Ie x3,Ib Ie x4,Ib Ie x5]) (IA #[Ib Ie y0,Ib Ie y1,Ib Ie y2,Ib Ie y3,Ib Ie y4,Ib Ie y5])).run If w=.ok (x0==y0&&(x1==y1&&(x2==y2&&(x3==y3&&(x4==y4&&(x5==y5)))))) w:=FJ 9998 w _ _ _ _ _ _ _ _ _ _ _ _;unfold JJ;simp only[hp,hx,hy,IJ,h1,binOp,h,I1,JO,hb]
theorem pX(l:Int)(w:Im):I9 If 72 #[Ib Ie l] w λe w'=>e=Iv (Iy (decide (0<=l)&&decide (l<24)))/\w'=w:=by
 by_cases h0:0<=l
 .have q0:decide (0<=l)=Ir:=decide_eq_true h0
  clear h0;go_enter Tryz.func72,Tryz.ntmps72;go_wp2;go_ret;exact⟨by rw[q0];rfl,rfl⟩
 .have q0:decide (0<=l)=Ik:=decide_eq_false h0
  clear h0;go_enter Tryz.func72,Tryz.ntmps72;go_wp2;go_ret;exact⟨by rw[q0];rfl,rfl⟩
theorem pW(l:Int)(w:Im):I9 If 73 #[Ib Ie l] w λe w'=>e=Iv (Iy (decide (0<=l)&&decide (l<8)))/\w'=w:=by
 by_cases h0:0<=l
 .have q0:decide (0<=l)=Ir:=decide_eq_true h0
  clear h0;go_enter Tryz.func73,Tryz.ntmps73;go_wp2;go_ret;exact⟨by rw[q0];rfl,rfl⟩
 .have q0:decide (0<=l)=Ik:=decide_eq_false h0
  clear h0;go_enter Tryz.func73,Tryz.ntmps73;go_wp2;go_ret;exact⟨by rw[q0];rfl,rfl⟩
def PlP(op d a b:Int):Prop:=(op<=3->(0<=d/\d<24)/\0<=a/\a<24)/\(3<op->(0<=d/\d<8)/\(0<=a/\a<8)/\0<=b/\b<8)
def CkP(x:In):Prop:=(1<=x.op/\x.op<=18)/\ip x=[x.op,x.d,x.a,x.b,x.n,x.jt]/\(x.op=15->0<=x.n/\x.n<=99)/\PlP x.op x.d x.a x.b
def CkQ(x:In)(w:Im)(e:Ending)(w':Im):Prop:=∃r:Int,e=Iv (Ib Ie r)/\(r=0->CkP x)/\It w.heap.size w w'
theorem yN(x:In)(n:Int)(w:Im):I9 If 40 #[IA x.cells,Ib Ie n] w (CkQ x w):=by
 have HO:=MD (λh W=>BH x h W);obtain⟨l0,l1,l2,l3,l4,l5,hL⟩:∃a b c d e f,ip x=[a,b,c,d,e,f]:=by
  have h:=BN x;rcases hL:ip x with _|⟨a,_|⟨b,_|⟨c,_|⟨d,_|⟨e,_|⟨f,_|⟨z,t⟩⟩⟩⟩⟩⟩⟩<;>rw[hL]at h<;>simp at h
  exact⟨a,b,c,d,e,f,rfl⟩
 rw[hL]at HO;have HLe:=MD hL;clear hL;obtain⟨op,xd,xa,xb,xn,xt⟩:=x;simp only at HO ⊢;rw[kz]at HO ⊢;by_cases h1:op<1
 .have q1:decide (op<1)=Ir:=decide_eq_true h1
  have HX:=MD h1;clear HO h1;go_enter Tryz.func40,Tryz.ntmps40;go_upto_region 1 with fail
  go_quiet (fail)
  go_wp2;go_ret;exact⟨1,rfl,λh=>absurd h (by decide),aQ (ae (Il _ _) _) _⟩
 by_cases h18:18<op
 .have q1:decide (op<1)=Ik:=decide_eq_false h1
  have q2:decide (18<op)=Ir:=decide_eq_true h18;clear HO h1 h18;go_enter Tryz.func40,Tryz.ntmps40;go_upto_region 1 with fail
  go_quiet (fail)
  go_wp2;go_ret;exact⟨1,rfl,λh=>absurd h (by decide),aQ (ae (Il _ _) _) _⟩
 have hop:1<=op/\op<=18:=by omega
 have HOp:=MD hop;have HOn:=MD (HO.1 hop);have q1:decide (op<1)=Ik:=decide_eq_false h1;have q2:decide (18<op)=Ik:=decide_eq_false h18;clear hop h1 h18 HO;obtain⟨g,hg⟩:=MF w.heap.size;obtain⟨w1,hw1⟩:∃w1,w1=w.alloc (Is #[Ib Ie op,Ib Ie xd,Ib Ie xa,Ib Ie xb,Ib Ie xn,Ib Ie xt] 49):=⟨_,rfl⟩;have H1:=MD (show w1.heap[g]?=Ic (.cells #[Ib Ie op,Ib Ie xd,Ib Ie xa,Ib Ie xb,Ib Ie xn,Ib Ie xt] 49 (0,0)) by rw[hw1,<-hg];exact Iu w _);have HB1:=MD (show It w.heap.size w w1 by rw[hw1];exact ae (Il _ _) _);have HW1:=MD hw1;have HI3:=MD (show ∀W,(isAgg 3).run If W=.ok Ik W from λW=>by kernel_rfl);have HI2:=MD (show ∀W,(isAgg 2).run If W=.ok Ik W from λW=>by kernel_rfl);obtain⟨b17,h17⟩:=MF ((!(l0==op&&(l1==xd&&(l2==xa&&(l3==xb&&(l4==xn&&(l5==xt))))))));obtain⟨b22,h22⟩:=MF ((op==15));obtain⟨b26,h26⟩:=MF (decide (xn<0));obtain⟨b30,h30⟩:=MF (decide (99<xn));have HNe:=MD h17;have HQs:=MD (IE h22 (IE h26 h30));clear hw1 h17 h22 h26 h30;go_enter Tryz.func40,Tryz.ntmps40;go_upto_region 1 with fail
 refine ar (show _=w1 from HW1.1.symm) ?_;clear HW1 hg;go_cut [33]from 5 to 33 (λv wx=>∃b:Bool,v=Iy b/\aa (It w.heap.size w wx/\wx.heap[g]?=Ic (.cells #[Ib Ie op,Ib Ie xd,Ib Ie xa,Ib Ie xb,Ib Ie xn,Ib Ie xt] 49 (0,0))/\b=(b17||(b22&&(b26||b30)))))
 case first=>
  obtain⟨h22,h26,h30⟩:=HQs.1;refine im [(5,Iq (Ic ⟨g,0,Ih⟩)),(6,Ib Ie op),(7,Iy Ik),(8,Iy Ik),(9,Iq (Ic ⟨g,0,Ih⟩)),(10,Ib Ie op),(11,Iy Ik),(12,Iy Ik),(13,Iy Ik),(14,IA #[Ib Ie op,Ib Ie xd,Ib Ie xa,Ib Ie xb,Ib Ie xn,Ib Ie xt]),(15,IA #[Ib Ie l0,Ib Ie l1,Ib Ie l2,Ib Ie l3,Ib Ie l4,Ib Ie l5]),(16,IA #[Ib Ie op,Ib Ie xd,Ib Ie xa,Ib Ie xb,Ib Ie xn,Ib Ie xt]),(17,Iy b17),(18,Iy b17),(19,Iy b17),
   (20,if b17=Ir then KG else Iq (Ic ⟨g,0,Ih⟩)),(21,if b17=Ir then KG else Ib Ie op),(22,if b17=Ir then KG else Iy b22),(23,if b17=Ir then KG else Iy b22),
   (24,if(!b17&&b22)=Ir then Iq (Ic ⟨g,4,Ih⟩)else KG),(25,if(!b17&&b22)=Ir then Ib Ie xn else KG),(26,if(!b17&&b22)=Ir then Iy b26 else KG),(27,if(!b17&&b22)=Ir then Iy b26 else KG),
   (28,if(!b17&&b22&&!b26)=Ir then Iq (Ic ⟨g,4,Ih⟩)else KG),(29,if(!b17&&b22&&!b26)=Ir then Ib Ie xn else KG),(30,if(!b17&&b22&&!b26)=Ir then Iy b30 else KG),
   (31,if(!b17&&b22)=Ir then Iy (b26||b30)else KG),(32,if b17=Ir then KG else Iy (b22&&(b26||b30))),(33,Iy (b17||(b22&&(b26||b30))))]
   (λL W=>Fr (λ_=>False) w1 W) (by kernel_rfl) (by kernel_rfl) (by kernel_rfl) ?_
  intro aF haF;simp only[bk,KY,IP,IZ,IY]at haF;subst haF;refine⟨?_,⟨rfl,rfl,rfl,Iz _,λ_ _ _=>rfl⟩,?_⟩
  .intro j o2 ho L W hc hr hst
   have hB:W.heap[g]?=_:=(hst.block _ (aj H1.1) (λh=>h)).trans H1.1;have hc:b17=Ir\/(b17=Ik/\b22=Ik)\/(b17=Ik/\b22=Ir/\b26=Ir)\/(b17=Ik/\b22=Ir/\b26=Ik):=by cases b17<;>cases b22<;>cases b26<;>simp
   rcases hc with rfl|⟨rfl,rfl⟩|⟨rfl,rfl,rfl⟩|⟨rfl,rfl,rfl⟩
   all_goals
    rcases j with _|_|_|_|_|_|_|_|_|_|_|_|_|_|_|_|_|_|_|_|_|_|_|_|_|_|_|_|_|j
    .obtain rfl:=Ii ho
     first
      |exact aI rfl (by go_simp) rfl hst
      |exact bJ rfl rfl hst
    .obtain rfl:=Ii ho
     first
      |exact aI rfl (ao rfl rfl (aH (HI3.1 W) ((ah hB 0).trans rfl))) rfl hst
      |exact bJ rfl rfl hst
    .obtain rfl:=Ii ho
     first
      |exact aI rfl (by go_simp) rfl hst
      |exact bJ rfl rfl hst
    .obtain rfl:=Ii ho
     first
      |exact aI rfl (by go_simp) rfl hst
      |exact bJ rfl rfl hst
    .obtain rfl:=Ii ho
     first
      |exact aI rfl (by go_simp) rfl hst
      |exact bJ rfl rfl hst
    .obtain rfl:=Ii ho
     first
      |exact aI rfl (ao rfl rfl (aH (HI3.1 W) ((ah hB 0).trans rfl))) rfl hst
      |exact bJ rfl rfl hst
    .obtain rfl:=Ii ho
     first
      |exact aI rfl (by go_simp) rfl hst
      |exact bJ rfl rfl hst
    .obtain rfl:=Ii ho
     first
      |exact aI rfl (by go_simp) rfl hst
      |exact bJ rfl rfl hst
    .obtain rfl:=Ii ho
     first
      |exact aI rfl (by go_simp) rfl hst
      |exact bJ rfl rfl hst
    .obtain rfl:=Ii ho
     first
      |exact aI rfl (ao rfl rfl (aY (P:=If) hB I6 rfl bU)) rfl hst
      |exact bJ rfl rfl hst
    .obtain rfl:=Ii ho
     first
      |exact iR rfl Tryz.func71 (by kernel_rfl) rfl #[IA #[Ib Ie op,Ib Ie xd,Ib Ie xa,Ib Ie xb,Ib Ie xn,Ib Ie xt]] rfl rfl ((HOn.1 W).mono (λe w' h=>⟨_,h.1,rfl,hst.trans (Fr.of_below h.2)⟩))
      |exact bJ rfl rfl hst
    .obtain rfl:=Ii ho
     first
      |exact aI rfl (ao rfl rfl (aY (P:=If) hB I6 rfl bU)) rfl hst
      |exact bJ rfl rfl hst
    .obtain rfl:=Ii ho
     first
      |exact aI rfl (Ck rfl rfl rfl HNe.1 W) rfl hst
      |exact bJ rfl rfl hst
    .obtain rfl:=Ii ho
     first
      |exact aI rfl (by go_simp) rfl hst
      |exact bJ rfl rfl hst
    .obtain rfl:=Ii ho
     first
      |exact aI rfl (by go_simp) rfl hst
      |exact bJ rfl rfl hst
    .obtain rfl:=Ii ho
     first
      |exact aI rfl (by go_simp) rfl hst
      |exact bJ rfl rfl hst
    .obtain rfl:=Ii ho
     first
      |exact aI rfl (ao rfl rfl (aH (HI3.1 W) ((ah hB 0).trans rfl))) rfl hst
      |exact bJ rfl rfl hst
    .obtain rfl:=Ii ho
     first
      |exact aI rfl (by go_simp) rfl hst
      |exact bJ rfl rfl hst
    .obtain rfl:=Ii ho
     first
      |exact aI rfl (by go_simp) rfl hst
      |exact bJ rfl rfl hst
    .obtain rfl:=Ii ho
     first
      |exact aI rfl (by go_simp) rfl hst
      |exact bJ rfl rfl hst
    .obtain rfl:=Ii ho
     first
      |exact aI rfl (ao rfl rfl (aH (HI2.1 W) ((ah hB 4).trans rfl))) rfl hst
      |exact bJ rfl rfl hst
    .obtain rfl:=Ii ho
     first
      |exact aI rfl (by go_simp) rfl hst
      |exact bJ rfl rfl hst
    .obtain rfl:=Ii ho
     first
      |exact aI rfl (by go_simp) rfl hst
      |exact bJ rfl rfl hst
    .obtain rfl:=Ii ho
     first
      |exact aI rfl (by go_simp) rfl hst
      |exact bJ rfl rfl hst
    .obtain rfl:=Ii ho
     first
      |exact aI rfl (ao rfl rfl (aH (HI2.1 W) ((ah hB 4).trans rfl))) rfl hst
      |exact bJ rfl rfl hst
    .obtain rfl:=Ii ho
     first
      |exact aI rfl (by go_simp) rfl hst
      |exact bJ rfl rfl hst
    .obtain rfl:=Ii ho
     first
      |exact aI rfl (by go_simp) rfl hst
      |exact bJ rfl rfl hst
    .obtain rfl:=Ii ho
     first
      |exact aI rfl (by go_simp) rfl hst
      |exact bJ rfl rfl hst
    .obtain rfl:=Ii ho
     first
      |exact aI rfl (by go_simp) rfl hst
      |exact bJ rfl rfl hst
    .exact absurd (IB.1 ho).1 (by simp)
  intro L w2 hall hst;have HR:=MD (IE (Fr.below (S:=λ_=>False) HB1.1 hst (λk hk h=>h) HB1.1.size) ((hst.block _ (aj H1.1) (λh=>h)).trans H1.1));clear hst hall;go_wp2
  all_goals
   go_meet
   (case rel=>exact⟨_,rfl,⟨HR.1.1,HR.1.2,by first|rfl|simp[*]⟩⟩)
 case rest=>
  obtain⟨b33,rfl,hbw⟩:=hcut;obtain⟨w2,hw2⟩:=ME wc;rw[<-hw2]at hbw ⊢;have HB2:=MD hbw.1.1;have H2:=MD hbw.1.2.1;have H33:=MD hbw.1.2.2;clear hbw HB1 H1 HOn HI2 HI3 hw2;go_upto_if 33 with fail
  cases b33 with
  |true=>
   clear q1 q2;go_wp2;go_ret;exact⟨1,rfl,λh=>absurd h (by decide),HB2.1⟩
  |false=>
   clear q1 q2;have HX:=MD (show l0=op/\l1=xd/\l2=xa/\l3=xb/\l4=xn/\l5=xt/\(op=15->0<=xn/\xn<=99) by
    have h1:=HNe.1;obtain⟨h2,h3,h4⟩:=HQs.1;have h5:=H33.1;cases b17 with
    |true=>exact Ix h5
    |false=>
     simp only[Bool.not_eq_false',Js,beq_iff_eq]at h1;obtain⟨e0,e1,e2,e3,e4,e5⟩:=h1;refine⟨e0,e1,e2,e3,e4,e5,λho=>?_⟩;rw[beq_iff_eq.2 ho]at h2;subst h2;cases b26 with
     |true=>exact Ix h5
     |false=>cases b30 with
      |true=>exact Ix h5
      |false=>have:=of_decide_eq_false h3;have:=of_decide_eq_false h4;omega)
   clear HNe HQs H33;obtain⟨b3,h3⟩:=MF (decide (op<=3));have H3:=MD h3;have c0:=(show w2.cell? ⟨g,0,Ih⟩=Ic (Ib Ie op) by rw[ah H2.1];rfl);have c1:=(show w2.cell? ⟨g,1,Ih⟩=Ic (Ib Ie xd) by rw[ah H2.1];rfl);have c2:=(show w2.cell? ⟨g,2,Ih⟩=Ic (Ib Ie xa) by rw[ah H2.1];rfl);have c3:=(show w2.cell? ⟨g,3,Ih⟩=Ic (Ib Ie xb) by rw[ah H2.1];rfl);have c5:=(show w2.cell? ⟨g,5,Ih⟩=Ic (Ib Ie xt) by rw[ah H2.1];rfl);go_upto_if 36 with fail
   go_cut []from 37 to 62 (λwx=>wx=w2/\aa (PlP op xd xa xb))
   case first=>
    cases b3 with
    |true=>
     have P1:=MD (pX xd w2);have P2:=MD (pX xa w2);obtain⟨pd,hpd⟩:=MF ((decide (0<=xd)&&decide (xd<24)));obtain⟨pa,hpa⟩:=MF ((decide (0<=xa)&&decide (xa<24)));rw[hpd]at P1;rw[hpa]at P2;have HP:=MD (IE hpd hpa);clear hpd hpa;cases pd<;>cases pa
     all_goals
      go_wp2_with (first
       |(go_at_call 72;(with_reducible refine P1.1.mono ?_);rintro e w3 ⟨rfl,rfl⟩)
       |(go_at_call 72;(with_reducible refine P2.1.mono ?_);rintro e w3 ⟨rfl,rfl⟩))
      first
       |(go_meet;(case rel=>exact⟨rfl,⟨λ_=>by obtain⟨p1,p2⟩:=HP.1;simp only[Js,decide_eq_true_eq]at p1 p2;exact⟨p1,p2⟩,λh=>absurd (of_decide_eq_true H3.1) (by omega)⟩⟩))
       |(go_ret;exact⟨6,rfl,λh=>absurd h (by decide),HB2.1⟩)
    |false=>
     have P1:=MD (pW xd w2);have P2:=MD (pW xa w2);have P3:=MD (pW xb w2);obtain⟨pd,hpd⟩:=MF ((decide (0<=xd)&&decide (xd<8)));obtain⟨pa,hpa⟩:=MF ((decide (0<=xa)&&decide (xa<8)));obtain⟨pb,hpb⟩:=MF ((decide (0<=xb)&&decide (xb<8)));rw[hpd]at P1;rw[hpa]at P2;rw[hpb]at P3;have HP:=MD (IE hpd (IE hpa hpb));clear hpd hpa hpb;cases pd<;>cases pa<;>cases pb
     all_goals
      go_wp2_with (first
       |(go_at_call 73;(with_reducible refine P1.1.mono ?_);rintro e w3 ⟨rfl,rfl⟩)
       |(go_at_call 73;(with_reducible refine P2.1.mono ?_);rintro e w3 ⟨rfl,rfl⟩)
       |(go_at_call 73;(with_reducible refine P3.1.mono ?_);rintro e w3 ⟨rfl,rfl⟩))
      first
       |(go_meet;(case rel=>exact⟨rfl,⟨λh=>absurd h (of_decide_eq_false H3.1),λ_=>by obtain⟨p1,p2,p3⟩:=HP.1;simp only[Js,decide_eq_true_eq]at p1 p2 p3;exact⟨p1,p2,p3⟩⟩⟩))
       |(go_ret;exact⟨6,rfl,λh=>absurd h (by decide),HB2.1⟩)
   case rest=>
    obtain⟨rfl,HPl⟩:=hcut;have HFin:=MD (show CkP ⟨op,xd,xa,xb,xn,xt⟩from⟨HOp.1,by obtain⟨e0,e1,e2,e3,e4,e5,_⟩:=HX.1;rw[HLe.1,e0,e1,e2,e3,e4,e5],HX.1.2.2.2.2.2.2,HPl.1⟩);obtain⟨b16,h16⟩:=MF ((op==16));obtain⟨b17',h17'⟩:=MF ((op==17));obtain⟨b0,h0⟩:=MF (decide (xt<0));obtain⟨bn,hn⟩:=MF (decide (n<=xt));clear c1 c2 c3 h3;cases b16<;>cases b17'<;>cases b0<;>cases bn
    all_goals
     go_wp2;go_ret
     first
      |exact⟨0,rfl,λ_=>HFin.1,HB2.1⟩
      |exact⟨4,rfl,λh=>absurd h (by decide),HB2.1⟩
def CC(f:List In):Prop:=∀x∈f,CkP x
def RgP(f:List In):Prop:=f.length≠0/\CC f/\(eI f=16\/eI f=18)
def Hg(f:List In)(w:Im)(e:Ending)(w':Im):Prop:=∃p r:Int,e=Iv (IR #[Ib Ie p,Ib Ie r])/\(r=0->RgP f)/\It w.heap.size w w'
theorem yL(f:List In)(A:Option Addr)(c:Nat)(w:Im)(hC:Kd.C kIn w A f.length f)(hc:f.length<=c)(hl:f.length<=40):I9 If 31 #[Ia A f.length c] w (Hg f w):=by
 have HC:=MD hC;have hl2:(f.length:Int)<=40:=by omega
 have q1:decide (200<(f.length:Int))=Ik:=decide_eq_false (by omega);have HCl:=MD hc;clear hC hl hc;by_cases h0:f.length=0
 .have q2:((f.length:Int)==0)=Ir:=beq_iff_eq.mpr (by omega)
  have HE:=MD (LV h0);clear h0;go_enter Tryz.func31,Tryz.ntmps31;go_wp2;refine IG (v:=IR #[Ib Ie 0,Ib Ie 5]) (aD (rs:=[.tmp 2,.tmp 3]) rfl (by simp) (.tmp (.tmp .nil))) rfl ⟨0,5,rfl,λh=>absurd h (by decide),Il _ _⟩
 have q2:((f.length:Int)==0)=Ik:=beq_eq_false_iff_ne.mpr (by omega);have HN0:=MD h0;clear h0;go_enter Tryz.func31,Tryz.ntmps31;go_wp2;go_loopw [4] (λi wr=>∃k:Nat,i=Ib Ie k/\aa (k<=f.length/\CC (f.take k)/\It w.heap.size w wr)) (λi _=>f.length-(Jj i).toNat)
 case atStart=>exact⟨0,rfl,⟨ID _,λx hx=>by simp at hx,Il _ _⟩⟩
 case round=>
  obtain⟨k,rfl,HK⟩:=hrel;obtain⟨hk,ho,hb⟩:=HK.1;by_cases hkl:k<f.length
  .have hkl':(k:Int)<(f.length:Int):=by omega
   obtain⟨x,hx⟩:∃x,f[k]?=Ic x:=⟨_,Ig hkl⟩;have HPr:=MD (yN x f.length);obtain⟨ad,cs,rfl,hK,hld⟩:=ba (P:=If) HC.1 hb k hkl x hx 49 I6 rfl bU;obtain rfl:cs=[Ib Ie x.op,Ib Ie x.d,Ib Ie x.a,Ib Ie x.b,Ib Ie x.n,Ib Ie x.jt]:=hK;have HLd:=MD (show(Le 49 (ad.add (k*6))).run If wr=.ok (IA #[Ib Ie x.op,Ib Ie x.d,Ib Ie x.a,Ib Ie x.b,Ib Ie x.n,Ib Ie x.jt]) wr from hld);have HPr2:=MD (show ∀w,I9 If 40 #[IA #[Ib Ie x.op,Ib Ie x.d,Ib Ie x.a,Ib Ie x.b,Ib Ie x.n,Ib Ie x.jt],Ib Ie f.length] w (CkQ x w)from HPr.1);have HO:=MD ho;have HB:=MD hb;have HKl:=MD hkl;have HX:=MD hx;clear hx HPr hld hb ho hk hkl HK;go_upto_if 27 with(first
    |((with_reducible refine ai (N:=22) rfl ?_);refine av rfl 49 _ rfl (ad.add (k*6)) rfl _ HLd.1 ?_)
    |(go_at_call 40;refine(HPr2.1 _).mono ?_;rintro e w4 ⟨r,rfl,hr,hb4⟩;have HB4:=MD (af HB.1 hb4);have HR:=MD hr;clear hb4 hr))
   by_cases h0:r=0
   .have q0:(r != 0)=Ik:=by simp[h0]
    have H0:=MD h0;clear h0;go_wp2;go_roundw
    case rel=>
     refine⟨k+1,by go_num,⟨HKl.1,λy hy=>?_,HB4.1⟩⟩;rw[List.take_add_one,HX.1]at hy;rcases J0.1 hy with hy|hy
     .exact HO.1 y hy
     .have:y=x:=by simpa using hy
      subst this;exact HR.1 H0.1
    case measure=>have:=HKl.1;simp[Jj];omega
   .have q0:(r != 0)=Ir:=bne_iff_ne.mpr h0
    have H0:=MD h0;clear h0;go_wp2;refine IG (v:=IR #[Ib Ie k,Ib Ie r]) (aD (rs:=[.tmp 2,.tmp 3]) rfl (by simp) (.tmp (.tmp .nil))) rfl ⟨k,r,rfl,λh=>absurd h H0.1,HB4.1⟩
  .obtain rfl:k=f.length:=by omega
   rw[Kh]at ho;have HO:=MD ho;have HB:=MD hb;have hp:f.length-1<f.length:=by have:=HN0.1;omega
   obtain⟨x,hx⟩:∃x,f[f.length-1]?=Ic x:=⟨_,Ig hp⟩;have HLo:=MD (show eI f=x.op by unfold eI;rw[Ij,hx];rfl);obtain⟨ad,rfl,d0,d1,d2,d3,d4,d5⟩:=nK (Kd.C_below HC.1 hb) (f.length-1) hp x hx;obtain⟨m,hm⟩:∃m:Nat,f.length=m+1:=⟨f.length-1,by omega⟩;have hm1:m+1-1=m:=rfl;rw[hm,hm1]at d0;rw[hm]at hl2;have hlt:(m:Int)<((m+1:Nat):Int):=by omega
   have hnl:¬((m+1:Nat):Int)<((m+1:Nat):Int):=by omega
   have hsub:LP.i64.wrap (((m+1:Nat):Int)-1)=(m:Int):=by rw[IntWalk.i64_in _ (by omega)];omega
   rw[hm]at q1 q2;clear hk hkl HK hb ho hx hp d1 d2 d3 d4 d5 hm1;have fin:∀(p r:Int),(r=0->x.op=16\/x.op=18)->Hg f w (Iv (IR #[Ib Ie p,Ib Ie r])) wr:=λp r h=>⟨p,r,rfl,λe=>⟨HN0.1,HO.1,by rw[HLo.1];exact h e⟩,HB.1⟩;have HFin:=MD fin;by_cases c16:x.op=16
   .have z1:(x.op==16)=Ir:=beq_iff_eq.mpr c16
    have HC16:=MD c16;rw[hm];clear c16 hm fin;go_wp2;exact IG (v:=IR #[Ib Ie 0,Ib Ie 0]) (aD (rs:=[.tmp 2,.tmp 3]) rfl (by simp) (.tmp (.tmp .nil))) rfl (HFin.1 _ _ (λ_=>.inl HC16.1))
   .have z1:(x.op==16)=Ik:=beq_eq_false_iff_ne.mpr c16
    by_cases c18:x.op=18
    .have z2:(x.op==18)=Ir:=beq_iff_eq.mpr c18
     have HC18:=MD c18;rw[hm];clear c16 c18 hm fin;go_wp2;exact IG (v:=IR #[Ib Ie 0,Ib Ie 0]) (aD (rs:=[.tmp 2,.tmp 3]) rfl (by simp) (.tmp (.tmp .nil))) rfl (HFin.1 _ _ (λ_=>.inr HC18.1))
    .have z2:(x.op==18)=Ik:=beq_eq_false_iff_ne.mpr c18
     rw[hm];clear c16 c18 hm fin;go_wp2;exact IG (v:=IR #[Ib Ie m,Ib Ie 5]) (aD (rs:=[.tmp 2,.tmp 3]) rfl (by simp) (.tmp (.tmp .nil))) rfl (HFin.1 _ _ (λh=>absurd h (by decide)))
def BQ(P:Prop)(w:Im)(e:Ending)(w':Im):Prop:=∃b:Bool,e=Iv (Iy b)/\(b=Ir->P)/\It w.heap.size w w'
theorem yK(f:List In)(A:Option Addr)(c:Nat)(w:Im)(hC:Kd.C kIn w A f.length f)(hc:f.length<=c)(hl:f.length<=40):I9 If 13 #[Ia A f.length c] w (BQ (RgP f) w):=by
 have H:=MD (yL f A c w hC hc hl);clear hC hc hl;go_enter Tryz.func13,Tryz.ntmps13;go_wp2_with (go_at_call 31;refine H.1.mono ?_;rintro e w1 ⟨p,r,rfl,hr,hb⟩;have HR:=MD hr;have HB:=MD hb;clear hr hb);go_ret;exact⟨_,rfl,λh=>HR.1 (by simpa using h),HB.1⟩
theorem lX(A:Option Addr)(n c:Nat)(hn:n<=200)(hc:n<=c)(w:Im):I9 If 118 #[Ia A n c] w λe w'=>e=Iv (Ia A n c)/\w=w':=by
 have hn':(n:Int)<=200:=by omega
 have hc':(n:Int)<=(c:Int):=by omega
 have hm:min (n:Int) 200=n:=by omega
 go_enter Tryz.func118,Tryz.ntmps118;go_wp2;go_ret;exact⟨rfl,rfl⟩
theorem Cu(A B:Option Addr)(n c m d:Nat)(hn:n<=200)(hc:n<=c)(hm:m<=200)(hd:m<=d)(w:Im):I9 If 105 #[Ia A n c,Ia B m d] w λe w'=>e=Iv (Ib Ie ((n:Int)+(m:Int)))/\w=w':=by
 have H1:=MD (lX A n c hn hc w);have H2:=MD (lX B m d hm hd w);have hn':(n:Int)<=200:=by omega
 have hm':(m:Int)<=200:=by omega
 go_enter Tryz.func105,Tryz.ntmps105;go_wp2_with (first
  |(go_at_call 118;(with_reducible refine H1.1.mono ?_);rintro e w1 ⟨rfl,rfl⟩;clear H1)
  |(go_at_call 118;(with_reducible refine H2.1.mono ?_);rintro e w1 ⟨rfl,rfl⟩))
 go_ret;exact⟨rfl,rfl⟩
def fA(l:List In):List Int:=(l.filter (λx=>x.op==1)).map (·.n)
theorem sN{l:List In}{i:Nat}{x:In}(h:l[i]?=Ic x):fA (l.take (i+1))=if x.op=1 then fA (l.take i)++[x.n]else fA (l.take i):=by
 obtain⟨hi,he⟩:=Ip.1 h;unfold fA;rw[JC hi,he,List.filter_append,LY];by_cases h1:x.op=1<;>simp[h1]
theorem js(l:List In):(fA l).length<=l.length:=by
 unfold fA;rw[Jb];exact List.length_filter_le _ _
theorem q9(f g:List In)(Af Ag:Option Addr)(cf cg:Nat)(w:Im)(hf:f.length<=200)(hg:g.length<=200)(hCf:Kd.C kIn w Af f.length f)(hcf:f.length<=cf)(hCg:Kd.C kIn w Ag g.length g)(hcg:g.length<=cg) :
  I9 If 103 #[Ia Af f.length cf,Ia Ag g.length cg] w λe w'=>∃v,e=Iv v/\Kd.R (Kd.int .i64) 2 w' w.heap.size (λ_=>True) v (fA f++fA g)/\It w.heap.size w w':=by
 have H1:=MD (lX Af f.length cf hf hcf w);have H2:=MD (lX Ag g.length cg hg hcg w);have HCf:=MD hCf;have HCg:=MD hCg;have HL:=MD (IE hf hg);clear hf hg hCf hcf hCg hcg;go_enter Tryz.func103,Tryz.ntmps103;go_wp2_with (first
  |(go_at_call 118;(with_reducible refine H1.1.mono ?_);rintro e w1 ⟨rfl,rfl⟩;clear H1)
  |(go_at_call 118;(with_reducible refine H2.1.mono ?_);rintro e w1 ⟨rfl,rfl⟩;clear H2))
 go_loopw [15,5] (λj v wr=>∃k:Nat,j=Ib Ie k/\aa (k<=2/\It w.heap.size w wr/\Kd.R (Kd.int .i64) 2 wr w.heap.size (λ_=>True) v (if k=0 then []else if k=1 then fA f else fA f++fA g))) (λj _ _=>2-(Jj j).toNat)
 case atStart=>exact⟨0,rfl,⟨⟨ID _,Il _ _,Kd.R_nil _ _ _ _ _⟩⟩⟩
 case round=>
  obtain⟨k,rfl,HK⟩:=hrel;obtain⟨hk,hb,hR⟩:=HK.1;by_cases hk2:k<2
  .have hk2':(k:Int)<2:=by omega
   obtain⟨xs,A,c,pre,hix,hC,hl,hpre,hnx⟩:∃(xs:List In) (A:Option Addr) (c:Nat) (pre:List Int),(∀W,(Instr.index 241 (IA #[Ia Af f.length cf,Ia Ag g.length cg]) (Ib Ie (k:Int))).run If W=.ok (Ia A xs.length c) W)/\Kd.C kIn w A xs.length xs/\xs.length<=200/\(if k=0 then []else if k=1 then fA f else fA f++fA g)=pre/\(if k+1=0 then []else if k+1=1 then fA f else fA f++fA g)=pre++fA xs:=by
    have h01:k=0\/k=1:=by omega
    rcases h01 with rfl|rfl
    .exact⟨f,Af,cf,[],λW=>by kernel_rfl,HCf.1,HL.1.1,rfl,rfl⟩
    .exact⟨g,Ag,cg,fA f,λW=>by kernel_rfl,HCg.1,HL.1.2,rfl,rfl⟩
   have HC:=MD hC;have HLx:=MD hl;have HN:=MD hnx;have HPl:=MD (show pre.length<=200 by
    have h01:k=0\/k=1:=by omega
    rcases h01 with rfl|rfl
    .rw[<-hpre];exact ID _
    .have h:=congrArg List.length hpre;have h2:=js f;have:=HL.1.1;simp only[Nat.one_ne_zero,if_false,if_true]at h;omega)
   rw[hpre]at hR;have HR:=MD hR;have HB:=MD hb;have HKk:=MD hk2;have hl':(xs.length:Int)<=200:=by omega
   clear hC hl hnx hpre hR hb hk hk2 HK;go_wp2;obtain⟨wo,hwo⟩:=ME wr;clear hix;go_loopw [20,5] (λj v wr=>∃i:Nat,j=Ib Ie i/\aa (i<=xs.length/\It w.heap.size w wr/\Kd.R (Kd.int .i64) 2 wr w.heap.size (λ_=>True) v (pre++fA (xs.take i)))) (λj _ _=>xs.length-(Jj j).toNat)
   case atStart=>exact⟨0,rfl,⟨⟨ID _,HB.1,by rw[List.take_zero,show fA []=[]from rfl,JS];exact HR.1⟩⟩⟩
   case round=>
    obtain⟨i,rfl,HI⟩:=hrel;obtain⟨hi,hb,hR⟩:=HI.1;by_cases hil:i<xs.length
    .have hil':(i:Int)<(xs.length:Int):=by omega
     obtain⟨x,hx⟩:∃x,xs[i]?=Ic x:=⟨_,Ig hil⟩;obtain⟨ad,cs,rfl,hK,hld⟩:=ba (P:=If) HC.1 hb i hil x hx 49 I6 rfl bU;obtain rfl:cs=[Ib Ie x.op,Ib Ie x.d,Ib Ie x.a,Ib Ie x.b,Ib Ie x.n,Ib Ie x.jt]:=hK;have HLd:=MD (show(Le 49 (ad.add (i*6))).run If wr=.ok (IA #[Ib Ie x.op,Ib Ie x.d,Ib Ie x.a,Ib Ie x.b,Ib Ie x.n,Ib Ie x.jt]) wr from hld);have HS:=MD (sN hx);obtain⟨L,hL⟩:=ME (pre++fA (xs.take i));rw[<-hL]at hR;have HLe:=MD hL;have HLl:=MD (show L.length<=400 by rw[hL,IV];have:=HPl.1;have:=js (xs.take i);rw[Kt]at this;omega);have HR2:=MD hR;have HB2:=MD hb;have HIl:=MD hil;clear hL hi hb hR hil hx hld HI;by_cases h1:x.op=1
     .have q1:(x.op==1)=Ir:=beq_iff_eq.mpr h1
      have HO1:=MD h1;clear h1;go_upto_region 8 with(first
       |((with_reducible refine ai (N:=23) rfl ?_);refine av rfl 49 _ rfl (ad.add (i*6)) rfl _ HLd.1 ?_))
      obtain⟨w3,hw3⟩:∃w3,w3=wr.alloc (Is #[Ib Ie x.op,Ib Ie x.d,Ib Ie x.a,Ib Ie x.b,Ib Ie x.n,Ib Ie x.jt] 49):=⟨_,rfl⟩;have h3:w3.heap[wr.heap.size]?=Ic (.cells #[Ib Ie x.op,Ib Ie x.d,Ib Ie x.a,Ib Ie x.b,Ib Ie x.n,Ib Ie x.jt] 49 (0,0)):=by rw[hw3];exact Iu wr _
      refine ar hw3.symm ?_;obtain⟨g9,hg9⟩:=MF wr.heap.size;rw[hg9]at h3 ⊢;have c0:=(show w3.cell? ⟨g9,0,Ih⟩=Ic (Ib Ie x.op) by rw[ah h3];rfl);have c4:=(show w3.cell? ⟨g9,4,Ih⟩=Ic (Ib Ie x.n) by rw[ah h3];rfl);have HB3:=MD (show It w.heap.size w w3 by rw[hw3];exact ae HB2.1 _);have HR3:=MD (show Kd.R (Kd.int .i64) 2 w3 w.heap.size (λ_=>True) u5 L by rw[hw3];exact Kd.R_below HR2.1 (ae (Il _ _) _));clear hw3 h3 hg9;go_wp2_with (first
       |((with_reducible refine a6 (b:=.append) (xs:=#[.tmp 27,.tmp 30]) rfl ?_);at_builtin;refine Kd.R_append (Kd.int .i64) (w0:=w) w.heap.size rfl (.tmp 27) (.tmp 30) 35 2 (Ib Ie 0) 8 rfl Lu jP rfl (by decide) (by omega) u5 (L) (x.n) [Ib Ie x.n] (λ_=>True) (λ_=>False) rfl rfl ?aP (λ_ hk=>hk.elim) ?aF ?aO ?aB ?aS ?aL ?_;(case aP=>exact rfl);(case aF=>exact(λb hb=>trivial));(case aO=>exact HR3.1);(case aB=>exact HB3.1);(case aS=>exact HB3.1.size);(case aL=>have:=HLl.1;omega);intro vap wap ho hb hg hat;have HO3:=MD ho;have HB6:=MD hb;clear ho hb hg hat))
      go_roundw
      case rel=>exact⟨i+1,by go_num,⟨⟨HIl.1,HB6.1,by rw[HS.1,if_pos HO1.1,<-Kv,<-HLe.1];exact HO3.1⟩⟩⟩
      case measure=>have:=HIl.1;simp[Jj];omega
     .have q1:(x.op==1)=Ik:=beq_eq_false_iff_ne.mpr h1
      have HO1:=MD h1;clear h1;go_wp2_with (first
       |((with_reducible refine ai (N:=23) rfl ?_);refine av rfl 49 _ rfl (ad.add (i*6)) rfl _ HLd.1 ?_))
      go_roundw
      case rel=>exact⟨i+1,by go_num,⟨⟨HIl.1,ae HB2.1 _,by rw[HS.1,if_neg HO1.1,<-HLe.1];exact Kd.R_below HR2.1 (ae (Il _ _) _)⟩⟩⟩
      case measure=>have:=HIl.1;simp[Jj];omega
    .obtain rfl:i=xs.length:=by omega
     rw[Kh]at hR;have HR2:=MD hR;have HB2:=MD hb;clear hi hb hR hil HI hwo;go_wp2;go_roundw
     case rel=>exact⟨k+1,by go_num,⟨⟨HKk.1,HB2.1,by rw[HN.1];exact HR2.1⟩⟩⟩
     case measure=>have:=HKk.1;simp[Jj];omega
  .obtain rfl:k=2:=by omega
   have HR:=MD hR;have HB:=MD hb;clear hk hb hR HK hk2;go_wp2;go_ret;exact⟨_,rfl,HR.1,HB.1⟩
end Go.Proofs.YtlinbehijfcelaaGreatDoor.Top
