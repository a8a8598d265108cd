/- Walks of the program, and what it computes, told plainly. No condition. (VL VM VN VO) -/
import Derived.Test.YtlinbehijfcelaaGreatDoorPN
set_option linter.unusedVariables false
set_option linter.unusedSimpArgs false
set_option linter.unusedSectionVars false
set_option maxHeartbeats 8000000
set_option maxRecDepth 100000
namespace Go.Proofs.YtlinbehijfcelaaGreatDoor.Top
open Go.RowKit Go.Proofs.YtlinbehijfcelaaGreatDoorW.PrintWords Go.Proofs.YtlinbehijfcelaaGreatDoorW.PrintLast
def tl1 (x y:Tr × Bool):Bool:=Cr x.1.evs y.1.evs
def tl2 (x y:Tr × Bool):Bool:=iH x.1.out.how && !Cr y.1.evs x.1.evs
def tl3 (x y:Tr × Bool):Bool:=iH x.1.out.how && y.2
theorem Br {W:World} {t:Tr} {A:Option Addr} {n:Nat} (h:RdT kEv 105 W (.slice A t.evs.length n) t.evs):Kd.C kEv W A t.evs.length t.evs:=by
 obtain⟨Aq,cq,e,_,h,_⟩:=h
 injection e with e
 subst e
 exact h
theorem Cz {W:World} {t:Tr} {A:Option Addr} {n:Nat} (h:RdT (Kd.int .i64) 2 W (.slice A t.out.h.length n) t.out.h):Kd.C (Kd.int .i64) W A t.out.h.length t.out.h:=by
 obtain⟨Aq,cq,e,_,h,_⟩:=h
 injection e with e
 subst e
 exact h
theorem qu (x y:Tr × Bool) (vx vy:Value) (w:World) (hx:SdV w x vx) (hy:SdV w y vy) (lx:x.1.evs.length≤5000) (ly:y.1.evs.length≤5000) :
  Calls Tryz.prog 21 #[vx,vy] w fun e w'=>e=.returned (.bool (tl1 x y))∧Below w.heap.size w w':=by
 obtain⟨A,n,B,m,rfl,hA,hB⟩:=hx
 obtain⟨C,k,D,l,rfl,hC,hD⟩:=hy
 obtain⟨X,hX⟩:∃ X,X=sdc x.1 x.2 (.slice A x.1.evs.length n) (.slice B x.1.out.h.length m):=⟨_,rfl⟩
 obtain⟨Y,hY⟩:∃ Y,Y=sdc y.1 y.2 (.slice C y.1.evs.length k) (.slice D y.1.out.h.length l):=⟨_,rfl⟩
 have iX:(Tryz.prog.info? 63).map (·.size)=some X.size:=by rw[hX];exact dg
 have iY:(Tryz.prog.info? 63).map (·.size)=some Y.size:=by rw[hY];exact dg
 obtain⟨w1,hw1⟩:∃ w1,w1=(w.alloc (.cells X 63)).alloc (.cells Y 63):=⟨_,rfl⟩
 obtain⟨g,hg⟩:=mn_ w.heap.size
 obtain⟨h2,h1,hb1⟩:=dm (w:=w) (A:=.cells X 63) (B:=.cells Y 63) (w1:=w1) (by rw[hw1];exact Below.refl _ _)
 rw[hg] at h1 h2
 have x0:=(show w1.cell? ⟨g,0,none⟩=some (.slice A x.1.evs.length n) by rw[ah h1,hX];rfl)
 have y0:=(show w1.cell? ⟨g+1,0,none⟩=some (.slice C y.1.evs.length k) by rw[ah h2,hY];rfl)
 have HBg:=ak_ (kO x.1.evs y.1.evs A C n k w1 (Kd.C_below (Br hA) hb1) (Kd.C_below (Br hC) hb1) lx ly)
 have HB:=ak_ hb1
 have HW1:=ak_ hw1
 have lx':(x.1.evs.length:Int)≤5000:=by omega
 have ly':(y.1.evs.length:Int)≤5000:=by omega
 rw[←hX,←hY]
 clear hX hY iX iY hw1 h1 h2 hb1 hA hB hC hD lx ly
 go_enter Tryz.func21,Tryz.ntmps21
 go_upto_region 1 with fail
 refine ar HW1.out.symm ?_
 clear hg
 go_wp2_with (first | (go_at_call 22;refine HBg.out.mono ?_;rintro e w2 ⟨rfl,hb⟩;have HB2:=ak_ (af HB.out hb);clear hb))
 go_ret
 exact⟨rfl,HB2.out⟩
theorem yL (x y:Tr × Bool) (vx vy:Value) (w:World) (hx:SdV w x vx) (hy:SdV w y vy) (lx:x.1.evs.length≤5000) (ly:y.1.evs.length≤5000) :
  Calls Tryz.prog 20 #[vx,vy,.func (.func 21) #[] #[]] w fun e w'=>e=.returned (.bool (tl1 x y || tl1 y x))∧Below w.heap.size w w':=by
 obtain⟨A,n,B,m,rfl,hA,hB⟩:=hx
 obtain⟨C,k,D,l,rfl,hC,hD⟩:=hy
 obtain⟨X,hX⟩:∃ X,X=sdc x.1 x.2 (.slice A x.1.evs.length n) (.slice B x.1.out.h.length m):=⟨_,rfl⟩
 obtain⟨Y,hY⟩:∃ Y,Y=sdc y.1 y.2 (.slice C y.1.evs.length k) (.slice D y.1.out.h.length l):=⟨_,rfl⟩
 have iX:(Tryz.prog.info? 63).map (·.size)=some X.size:=by rw[hX];exact dg
 have iY:(Tryz.prog.info? 63).map (·.size)=some Y.size:=by rw[hY];exact dg
 obtain⟨w1,hw1⟩:∃ w1,w1=(w.alloc (.cells X 63)).alloc (.cells Y 63):=⟨_,rfl⟩
 obtain⟨g,hg⟩:=mn_ w.heap.size
 obtain⟨h2,h1,hb1⟩:=dm (w:=w) (A:=.cells X 63) (B:=.cells Y 63) (w1:=w1) (by rw[hw1];exact Below.refl _ _)
 rw[hg] at h1 h2
 have HL1:=ak_ (fun W (hb:Below w1.heap.size w1 W)=>aT (P:=Tryz.prog) (ag h1 hb) Tryz.underlying63 rfl iX)
 have HL2:=ak_ (fun W (hb:Below w1.heap.size w1 W)=>aT (P:=Tryz.prog) (ag h2 hb) Tryz.underlying63 rfl iY)
 have k1:=fun W (hb:Below w.heap.size w W)=>qu x y _ _ W (SdV.below ⟨A,n,B,m,rfl,hA,hB⟩ hb) (SdV.below ⟨C,k,D,l,rfl,hC,hD⟩ hb) lx ly
 have k2:=fun W (hb:Below w.heap.size w W)=>qu y x _ _ W (SdV.below ⟨C,k,D,l,rfl,hC,hD⟩ hb) (SdV.below ⟨A,n,B,m,rfl,hA,hB⟩ hb) ly lx
 rw[←hX,←hY] at k1 k2
 obtain⟨b,hb⟩:=nm_ (tl1 x y)
 rw[←hb] at k1
 rw[←hX,←hY,←hb]
 have HK1:=ak_ (k1 w1 hb1)
 have HK2:=ak_ k2
 have HB:=ak_ hb1
 have HW1:=ak_ hw1
 clear k1 k2 hb hX hY iX iY hw1 h1 h2 hb1 hA hB hC hD lx ly
 cases b with
 | true=>
  go_enter Tryz.func20,Tryz.ntmps20
  go_upto_region 1 with fail
  refine ar HW1.out.symm ?_
  clear hg
  go_wp2_with (first
   | ((with_reducible refine aj (N:=8) rfl ?_);refine ax rfl _ (al rfl rfl (HL1.out _ (Below.refl _ _))) ?_)
   | ((with_reducible refine aj (N:=9) rfl ?_);refine ax rfl _ (al rfl rfl (HL2.out _ (Below.refl _ _))) ?_)
   | (go_at_call 21;refine HK1.out.mono ?_;rintro e w2 ⟨rfl,hb⟩;have HB2:=ak_ hb;clear hb))
  go_ret
  exact⟨rfl,af HB.out HB2.out⟩
 | false=>
  go_enter Tryz.func20,Tryz.ntmps20
  go_upto_region 1 with fail
  refine ar HW1.out.symm ?_
  clear hg
  go_wp2_with (first
   | ((with_reducible refine aj (N:=8) rfl ?_);refine ax rfl _ (al rfl rfl (HL1.out _ (Below.refl _ _))) ?_)
   | ((with_reducible refine aj (N:=9) rfl ?_);refine ax rfl _ (al rfl rfl (HL2.out _ (Below.refl _ _))) ?_)
   | ((with_reducible refine aj (N:=13) rfl ?_);refine ax rfl _ (al rfl rfl (HL2.out _ HB2.out)) ?_)
   | ((with_reducible refine aj (N:=14) rfl ?_);refine ax rfl _ (al rfl rfl (HL1.out _ HB2.out)) ?_)
   | (go_at_call 21;(with_reducible refine HK1.out.mono ?_);rintro e w2 ⟨rfl,hb⟩;have HB2:=ak_ hb;clear hb HK1)
   | (go_at_call 21;refine(HK2.out _ (af HB.out HB2.out)).mono ?_;rintro e w3 ⟨rfl,hb⟩;have HB3:=ak_ (af HB2.out hb);clear hb))
  go_ret
  exact⟨rfl,af HB.out HB3.out⟩
theorem qt (x y:Tr × Bool) (vx vy:Value) (w:World) (hx:SdV w x vx) (hy:SdV w y vy) (lx:x.1.evs.length≤5000) (ly:y.1.evs.length≤5000) :
  Calls Tryz.prog 23 #[vx,vy] w fun e w'=>e=.returned (.bool (tl2 x y))∧Below w.heap.size w w':=by
 obtain⟨A,n,B,m,rfl,hA,hB⟩:=hx
 obtain⟨C,k,D,l,rfl,hC,hD⟩:=hy
 obtain⟨X,hX⟩:∃ X,X=sdc x.1 x.2 (.slice A x.1.evs.length n) (.slice B x.1.out.h.length m):=⟨_,rfl⟩
 obtain⟨Y,hY⟩:∃ Y,Y=sdc y.1 y.2 (.slice C y.1.evs.length k) (.slice D y.1.out.h.length l):=⟨_,rfl⟩
 have iX:(Tryz.prog.info? 63).map (·.size)=some X.size:=by rw[hX];exact dg
 have iY:(Tryz.prog.info? 63).map (·.size)=some Y.size:=by rw[hY];exact dg
 obtain⟨w1,hw1⟩:∃ w1,w1=(w.alloc (.cells X 63)).alloc (.cells Y 63):=⟨_,rfl⟩
 obtain⟨g,hg⟩:=mn_ w.heap.size
 obtain⟨h2,h1,hb1⟩:=dm (w:=w) (A:=.cells X 63) (B:=.cells Y 63) (w1:=w1) (by rw[hw1];exact Below.refl _ _)
 rw[hg] at h1 h2
 have x0:=(show w1.cell? ⟨g,0,none⟩=some (.slice A x.1.evs.length n) by rw[ah h1,hX];rfl)
 have y0:=(show w1.cell? ⟨g+1,0,none⟩=some (.slice C y.1.evs.length k) by rw[ah h2,hY];rfl)
 have HLd:=ak_ (show (loadVar 61 ⟨g,0,none⟩).run Tryz.prog w1=.ok (.agg (trc x.1 (.slice A x.1.evs.length n) (.slice B x.1.out.h.length m)).toArray) w1 from bU (L:=X.toList) (by simpa using h1) 61 0 _ (by rw[hX];rfl) _ Tryz.underlying61 rfl ez)
 have HHa:=ak_ (f2 x.1 A B x.1.evs.length n x.1.out.h.length m w1)
 have H1:=ak_ h1
 have H2:=ak_ h2
 have HBg:=ak_ (fun W (hb:Below w1.heap.size w1 W)=>kO y.1.evs x.1.evs C A k n W (Kd.C_below (Br hC) (af hb1 hb)) (Kd.C_below (Br hA) (af hb1 hb)) ly lx)
 have HB:=ak_ hb1
 have HW1:=ak_ hw1
 have lx':(x.1.evs.length:Int)≤5000:=by omega
 have ly':(y.1.evs.length:Int)≤5000:=by omega
 rw[←hX,←hY]
 unfold tl2
 obtain⟨b,hb⟩:=nm_ (iH x.1.out.how)
 rw[←hb] at HHa ⊢
 clear hb hX hY iX iY hw1 h1 h2 hb1 hA hB hC hD lx ly
 cases b with
 | true=>
  go_enter Tryz.func23,Tryz.ntmps23
  go_upto_region 1 with fail
  refine ar HW1.out.symm ?_
  clear hg
  go_wp2_with (first
   | ((with_reducible refine aj (N:=6) rfl ?_);refine au rfl 61 _ rfl ⟨g,0,none⟩ rfl _ HLd.out ?_)
   | (go_at_call 24;refine HHa.out.mono ?_;rintro e w2 ⟨rfl,hb⟩;have HB2:=ak_ hb;have d0:=ak hb x0;have d1:=ak hb y0;clear hb)
   | (go_at_call 22;refine(HBg.out _ HB2.out).mono ?_;rintro e w3 ⟨rfl,hb⟩;have HB3:=ak_ (af HB2.out hb);clear hb))
  go_ret
  exact⟨rfl,af HB.out HB3.out⟩
 | false=>
  go_enter Tryz.func23,Tryz.ntmps23
  go_upto_region 1 with fail
  refine ar HW1.out.symm ?_
  clear hg
  go_wp2_with (first
   | ((with_reducible refine aj (N:=6) rfl ?_);refine au rfl 61 _ rfl ⟨g,0,none⟩ rfl _ HLd.out ?_)
   | (go_at_call 24;refine HHa.out.mono ?_;rintro e w2 ⟨rfl,hb⟩;have HB2:=ak_ hb;have d0:=ak hb x0;have d1:=ak hb y0;clear hb)
   | (go_at_call 22;refine(HBg.out _ HB2.out).mono ?_;rintro e w3 ⟨rfl,hb⟩;have HB3:=ak_ (af HB2.out hb);clear hb))
  go_ret
  exact⟨rfl,af HB.out HB2.out⟩
theorem yK (x y:Tr × Bool) (vx vy:Value) (w:World) (hx:SdV w x vx) (hy:SdV w y vy) (lx:x.1.evs.length≤5000) (ly:y.1.evs.length≤5000) :
  Calls Tryz.prog 20 #[vx,vy,.func (.func 23) #[] #[]] w fun e w'=>e=.returned (.bool (tl2 x y || tl2 y x))∧Below w.heap.size w w':=by
 obtain⟨A,n,B,m,rfl,hA,hB⟩:=hx
 obtain⟨C,k,D,l,rfl,hC,hD⟩:=hy
 obtain⟨X,hX⟩:∃ X,X=sdc x.1 x.2 (.slice A x.1.evs.length n) (.slice B x.1.out.h.length m):=⟨_,rfl⟩
 obtain⟨Y,hY⟩:∃ Y,Y=sdc y.1 y.2 (.slice C y.1.evs.length k) (.slice D y.1.out.h.length l):=⟨_,rfl⟩
 have iX:(Tryz.prog.info? 63).map (·.size)=some X.size:=by rw[hX];exact dg
 have iY:(Tryz.prog.info? 63).map (·.size)=some Y.size:=by rw[hY];exact dg
 obtain⟨w1,hw1⟩:∃ w1,w1=(w.alloc (.cells X 63)).alloc (.cells Y 63):=⟨_,rfl⟩
 obtain⟨g,hg⟩:=mn_ w.heap.size
 obtain⟨h2,h1,hb1⟩:=dm (w:=w) (A:=.cells X 63) (B:=.cells Y 63) (w1:=w1) (by rw[hw1];exact Below.refl _ _)
 rw[hg] at h1 h2
 have HL1:=ak_ (fun W (hb:Below w1.heap.size w1 W)=>aT (P:=Tryz.prog) (ag h1 hb) Tryz.underlying63 rfl iX)
 have HL2:=ak_ (fun W (hb:Below w1.heap.size w1 W)=>aT (P:=Tryz.prog) (ag h2 hb) Tryz.underlying63 rfl iY)
 have k1:=fun W (hb:Below w.heap.size w W)=>qt x y _ _ W (SdV.below ⟨A,n,B,m,rfl,hA,hB⟩ hb) (SdV.below ⟨C,k,D,l,rfl,hC,hD⟩ hb) lx ly
 have k2:=fun W (hb:Below w.heap.size w W)=>qt y x _ _ W (SdV.below ⟨C,k,D,l,rfl,hC,hD⟩ hb) (SdV.below ⟨A,n,B,m,rfl,hA,hB⟩ hb) ly lx
 rw[←hX,←hY] at k1 k2
 obtain⟨b,hb⟩:=nm_ (tl2 x y)
 rw[←hb] at k1
 rw[←hX,←hY,←hb]
 have HK1:=ak_ (k1 w1 hb1)
 have HK2:=ak_ k2
 have HB:=ak_ hb1
 have HW1:=ak_ hw1
 clear k1 k2 hb hX hY iX iY hw1 h1 h2 hb1 hA hB hC hD lx ly
 cases b with
 | true=>
  go_enter Tryz.func20,Tryz.ntmps20
  go_upto_region 1 with fail
  refine ar HW1.out.symm ?_
  clear hg
  go_wp2_with (first
   | ((with_reducible refine aj (N:=8) rfl ?_);refine ax rfl _ (al rfl rfl (HL1.out _ (Below.refl _ _))) ?_)
   | ((with_reducible refine aj (N:=9) rfl ?_);refine ax rfl _ (al rfl rfl (HL2.out _ (Below.refl _ _))) ?_)
   | (go_at_call 23;refine HK1.out.mono ?_;rintro e w2 ⟨rfl,hb⟩;have HB2:=ak_ hb;clear hb))
  go_ret
  exact⟨rfl,af HB.out HB2.out⟩
 | false=>
  go_enter Tryz.func20,Tryz.ntmps20
  go_upto_region 1 with fail
  refine ar HW1.out.symm ?_
  clear hg
  go_wp2_with (first
   | ((with_reducible refine aj (N:=8) rfl ?_);refine ax rfl _ (al rfl rfl (HL1.out _ (Below.refl _ _))) ?_)
   | ((with_reducible refine aj (N:=9) rfl ?_);refine ax rfl _ (al rfl rfl (HL2.out _ (Below.refl _ _))) ?_)
   | ((with_reducible refine aj (N:=13) rfl ?_);refine ax rfl _ (al rfl rfl (HL2.out _ HB2.out)) ?_)
   | ((with_reducible refine aj (N:=14) rfl ?_);refine ax rfl _ (al rfl rfl (HL1.out _ HB2.out)) ?_)
   | (go_at_call 23;(with_reducible refine HK1.out.mono ?_);rintro e w2 ⟨rfl,hb⟩;have HB2:=ak_ hb;clear hb HK1)
   | (go_at_call 23;refine(HK2.out _ (af HB.out HB2.out)).mono ?_;rintro e w3 ⟨rfl,hb⟩;have HB3:=ak_ (af HB2.out hb);clear hb))
  go_ret
  exact⟨rfl,af HB.out HB3.out⟩
theorem qr (x y:Tr × Bool) (vx vy:Value) (w:World) (hx:SdV w x vx) (hy:SdV w y vy) (lx:x.1.evs.length≤5000) (ly:y.1.evs.length≤5000) :
  Calls Tryz.prog 26 #[vx,vy] w fun e w'=>e=.returned (.bool (tl3 x y))∧Below w.heap.size w w':=by
 obtain⟨A,n,B,m,rfl,hA,hB⟩:=hx
 obtain⟨C,k,D,l,rfl,hC,hD⟩:=hy
 obtain⟨X,hX⟩:∃ X,X=sdc x.1 x.2 (.slice A x.1.evs.length n) (.slice B x.1.out.h.length m):=⟨_,rfl⟩
 obtain⟨Y,hY⟩:∃ Y,Y=sdc y.1 y.2 (.slice C y.1.evs.length k) (.slice D y.1.out.h.length l):=⟨_,rfl⟩
 have iX:(Tryz.prog.info? 63).map (·.size)=some X.size:=by rw[hX];exact dg
 have iY:(Tryz.prog.info? 63).map (·.size)=some Y.size:=by rw[hY];exact dg
 obtain⟨w1,hw1⟩:∃ w1,w1=(w.alloc (.cells X 63)).alloc (.cells Y 63):=⟨_,rfl⟩
 obtain⟨g,hg⟩:=mn_ w.heap.size
 obtain⟨h2,h1,hb1⟩:=dm (w:=w) (A:=.cells X 63) (B:=.cells Y 63) (w1:=w1) (by rw[hw1];exact Below.refl _ _)
 rw[hg] at h1 h2
 have x0:=(show w1.cell? ⟨g,0,none⟩=some (.slice A x.1.evs.length n) by rw[ah h1,hX];rfl)
 have y0:=(show w1.cell? ⟨g+1,0,none⟩=some (.slice C y.1.evs.length k) by rw[ah h2,hY];rfl)
 have y6:=(show w1.cell? ⟨g+1,6,none⟩=some (.bool y.2) by rw[ah h2,hY];rfl)
 have HLd:=ak_ (show (loadVar 61 ⟨g,0,none⟩).run Tryz.prog w1=.ok (.agg (trc x.1 (.slice A x.1.evs.length n) (.slice B x.1.out.h.length m)).toArray) w1 from bU (L:=X.toList) (by simpa using h1) 61 0 _ (by rw[hX];rfl) _ Tryz.underlying61 rfl ez)
 have HHa:=ak_ (f2 x.1 A B x.1.evs.length n x.1.out.h.length m w1)
 have H1:=ak_ h1
 have H2:=ak_ h2
 have HB:=ak_ hb1
 have HW1:=ak_ hw1
 have lx':(x.1.evs.length:Int)≤5000:=by omega
 have ly':(y.1.evs.length:Int)≤5000:=by omega
 rw[←hX,←hY]
 unfold tl3
 obtain⟨b,hb⟩:=nm_ (iH x.1.out.how)
 rw[←hb] at HHa ⊢
 clear hb hX hY iX iY hw1 h1 h2 hb1 hA hB hC hD lx ly
 cases b with
 | true=>
  go_enter Tryz.func26,Tryz.ntmps26
  go_upto_region 1 with fail
  refine ar HW1.out.symm ?_
  clear hg
  go_wp2_with (first
   | ((with_reducible refine aj (N:=6) rfl ?_);refine au rfl 61 _ rfl ⟨g,0,none⟩ rfl _ HLd.out ?_)
   | (go_at_call 24;refine HHa.out.mono ?_;rintro e w2 ⟨rfl,hb⟩;have HB2:=ak_ hb;have d0:=ak hb x0;have d1:=ak hb y0;have d6:=ak hb y6;clear hb))
  go_ret
  exact⟨rfl,af HB.out HB2.out⟩
 | false=>
  go_enter Tryz.func26,Tryz.ntmps26
  go_upto_region 1 with fail
  refine ar HW1.out.symm ?_
  clear hg
  go_wp2_with (first
   | ((with_reducible refine aj (N:=6) rfl ?_);refine au rfl 61 _ rfl ⟨g,0,none⟩ rfl _ HLd.out ?_)
   | (go_at_call 24;refine HHa.out.mono ?_;rintro e w2 ⟨rfl,hb⟩;have HB2:=ak_ hb;have d0:=ak hb x0;have d1:=ak hb y0;have d6:=ak hb y6;clear hb))
  go_ret
  exact⟨rfl,af HB.out HB2.out⟩
theorem yJ (x y:Tr × Bool) (vx vy:Value) (w:World) (hx:SdV w x vx) (hy:SdV w y vy) (lx:x.1.evs.length≤5000) (ly:y.1.evs.length≤5000) :
  Calls Tryz.prog 20 #[vx,vy,.func (.func 26) #[] #[]] w fun e w'=>e=.returned (.bool (tl3 x y || tl3 y x))∧Below w.heap.size w w':=by
 obtain⟨A,n,B,m,rfl,hA,hB⟩:=hx
 obtain⟨C,k,D,l,rfl,hC,hD⟩:=hy
 obtain⟨X,hX⟩:∃ X,X=sdc x.1 x.2 (.slice A x.1.evs.length n) (.slice B x.1.out.h.length m):=⟨_,rfl⟩
 obtain⟨Y,hY⟩:∃ Y,Y=sdc y.1 y.2 (.slice C y.1.evs.length k) (.slice D y.1.out.h.length l):=⟨_,rfl⟩
 have iX:(Tryz.prog.info? 63).map (·.size)=some X.size:=by rw[hX];exact dg
 have iY:(Tryz.prog.info? 63).map (·.size)=some Y.size:=by rw[hY];exact dg
 obtain⟨w1,hw1⟩:∃ w1,w1=(w.alloc (.cells X 63)).alloc (.cells Y 63):=⟨_,rfl⟩
 obtain⟨g,hg⟩:=mn_ w.heap.size
 obtain⟨h2,h1,hb1⟩:=dm (w:=w) (A:=.cells X 63) (B:=.cells Y 63) (w1:=w1) (by rw[hw1];exact Below.refl _ _)
 rw[hg] at h1 h2
 have HL1:=ak_ (fun W (hb:Below w1.heap.size w1 W)=>aT (P:=Tryz.prog) (ag h1 hb) Tryz.underlying63 rfl iX)
 have HL2:=ak_ (fun W (hb:Below w1.heap.size w1 W)=>aT (P:=Tryz.prog) (ag h2 hb) Tryz.underlying63 rfl iY)
 have k1:=fun W (hb:Below w.heap.size w W)=>qr x y _ _ W (SdV.below ⟨A,n,B,m,rfl,hA,hB⟩ hb) (SdV.below ⟨C,k,D,l,rfl,hC,hD⟩ hb) lx ly
 have k2:=fun W (hb:Below w.heap.size w W)=>qr y x _ _ W (SdV.below ⟨C,k,D,l,rfl,hC,hD⟩ hb) (SdV.below ⟨A,n,B,m,rfl,hA,hB⟩ hb) ly lx
 rw[←hX,←hY] at k1 k2
 obtain⟨b,hb⟩:=nm_ (tl3 x y)
 rw[←hb] at k1
 rw[←hX,←hY,←hb]
 have HK1:=ak_ (k1 w1 hb1)
 have HK2:=ak_ k2
 have HB:=ak_ hb1
 have HW1:=ak_ hw1
 clear k1 k2 hb hX hY iX iY hw1 h1 h2 hb1 hA hB hC hD lx ly
 cases b with
 | true=>
  go_enter Tryz.func20,Tryz.ntmps20
  go_upto_region 1 with fail
  refine ar HW1.out.symm ?_
  clear hg
  go_wp2_with (first
   | ((with_reducible refine aj (N:=8) rfl ?_);refine ax rfl _ (al rfl rfl (HL1.out _ (Below.refl _ _))) ?_)
   | ((with_reducible refine aj (N:=9) rfl ?_);refine ax rfl _ (al rfl rfl (HL2.out _ (Below.refl _ _))) ?_)
   | (go_at_call 26;refine HK1.out.mono ?_;rintro e w2 ⟨rfl,hb⟩;have HB2:=ak_ hb;clear hb))
  go_ret
  exact⟨rfl,af HB.out HB2.out⟩
 | false=>
  go_enter Tryz.func20,Tryz.ntmps20
  go_upto_region 1 with fail
  refine ar HW1.out.symm ?_
  clear hg
  go_wp2_with (first
   | ((with_reducible refine aj (N:=8) rfl ?_);refine ax rfl _ (al rfl rfl (HL1.out _ (Below.refl _ _))) ?_)
   | ((with_reducible refine aj (N:=9) rfl ?_);refine ax rfl _ (al rfl rfl (HL2.out _ (Below.refl _ _))) ?_)
   | ((with_reducible refine aj (N:=13) rfl ?_);refine ax rfl _ (al rfl rfl (HL2.out _ HB2.out)) ?_)
   | ((with_reducible refine aj (N:=14) rfl ?_);refine ax rfl _ (al rfl rfl (HL1.out _ HB2.out)) ?_)
   | (go_at_call 26;(with_reducible refine HK1.out.mono ?_);rintro e w2 ⟨rfl,hb⟩;have HB2:=ak_ hb;clear hb HK1)
   | (go_at_call 26;refine(HK2.out _ (af HB.out HB2.out)).mono ?_;rintro e w3 ⟨rfl,hb⟩;have HB3:=ak_ (af HB2.out hb);clear hb))
  go_ret
  exact⟨rfl,af HB.out HB3.out⟩
def DN (n:Nat) (ops:Array Oper):Bool:=
 Region.noSelect ops && (List.range ops.size).all fun i=>match ops[i]? with
  | some o=>(o.after.all fun e=>!(Region.binds .any e) || decide (e.on < i)) && (o.looksAt ops).all fun t=>(ops.all fun p=>p.dst != some t) || (List.range ops.size).any fun j=>(((ops[j]?).map (·.dst)).getD none == some t) && Region.reachB .any ops j n i
  | none=>true
theorem ow {ops:Array Oper} {i:Nat}:∀ (n m d:Nat),n≤m→Region.reachB .any ops i n d=true→Region.reachB .any ops i m d=true
 | 0,_,_,_,h=>by simp[Region.reachB] at h
 | n+1,0,_,hn,_=>by omega
 | n+1,m+1,d,hn,h=>by
  unfold Region.reachB at h ⊢
  cases ho:ops[d]? with
  | none=>rw[ho] at h;simp at h
  | some o=>
   rw[ho] at h
   obtain⟨e,he,h1⟩:=Array.any_eq_true'.1 h
   refine Array.any_eq_true'.2 ⟨e,he,?_⟩
   simp only[Bool.and_eq_true,Bool.or_eq_true,beq_iff_eq] at h1 ⊢
   exact⟨h1.1,h1.2.imp id (ow n m e.on (by omega))⟩
theorem me {ops:Array Oper} (n:Nat) (h:DN n ops=true) (hn:Nat.ble n ops.size=true):ll ops=true:=by
 unfold DN at h
 unfold ll
 rw[Bool.and_eq_true] at h ⊢
 refine⟨h.1,?_⟩
 obtain⟨h0,h⟩:=h
 rw[List.all_eq_true] at h ⊢
 intro i hi
 have h2:=h i hi
 cases ho:ops[i]? with
 | none=>rfl
 | some o=>
  rw[ho] at h2
  simp only[Bool.and_eq_true] at h2 ⊢
  refine⟨h2.1,?_⟩
  rw[List.all_eq_true]
  intro t ht
  have h3:=List.all_eq_true.1 h2.2 t ht
  rw[Bool.or_eq_true] at h3 ⊢
  refine h3.imp id (fun h3=>?_)
  obtain⟨j,hj,h4⟩:=List.any_eq_true.1 h3
  rw[Bool.and_eq_true] at h4
  exact List.any_eq_true.2 ⟨j,hj,by rw[Bool.and_eq_true];exact⟨h4.1,ow n _ _ (Nat.le_of_ble_eq_true hn) h4.2⟩⟩
theorem gS {P:Program} {ops:Array Oper} {aF:Act} {o:Oper} {w:World} {G:Value→World→Prop} (hgd:Region.wanted o (yielded ops aF.tmps)=false) (hG:G undef w):fK P ops aF o w G:=.inl ⟨hgd,hG⟩
def tl4 (x y:Tr × Bool):Bool:=iH x.1.out.how && iH y.1.out.how && (x.1.out.how != y.1.out.how || x.1.out.val != y.1.out.val || !decide (x.1.out.h=y.1.out.h))
def jn:List Bool→Nat→Int
 | [],_=>0
 | b :: r,i=>if b=true then i else jn r (i+1)
def Cx (x y:Tr × Bool):List Bool:=[false,!(tl1 x y || tl1 y x),tl2 x y || tl2 y x,tl4 x y,tl3 x y || tl3 y x]
def dt (f g:List In) (c:Ca):Int × Int:=if (eR f c).2=0∧(eR g c).2=0 then (jn (Cx (eR f c).1 (eR g c).1) 0,0) else (0,1)
theorem sQ {f:List In} (hr:dy f) (ask:List Int):∀ (n:Nat) (q:Tr × St),StI f q.2→q.1.out.h.length≤16→(mw f ask n q).1.evs.length≤q.1.evs.length+n∧(mw f ask n q).1.out.h.length≤16
 | 0,q,h,h16=>⟨Nat.le_refl _,h16⟩
 | n+1,q,h,h16=>by
  obtain⟨k1,k2,k3⟩:=nQ hr h ask
  have h1:StI f (eo f ask q).2:=k1
  have h2:(eo f ask q).1.evs.length=q.1.evs.length+(gz f q.2 ask).2.1.length:=by unfold eo;simp
  have h3:(eo f ask q).1.out.h.length≤16:=k3
  unfold mw
  split
  ·have:=sQ hr ask n _ h1 h3
   omega
  ·omega
theorem lB (f:List In) (c:Ca) (h8:c.r.length=8):(eR f c).1.1.evs.length≤5000∧(eR f c).1.1.out.h.length≤16:=by
 unfold eR fu
 by_cases h:bi f=true∧gO c.h.length c.ans.length c.fuel=true
 ·rw[if_pos h,if_pos rfl]
  have hr:=bN h.1
  have h2:=h.2
  unfold gO at h2
  simp only[Bool.and_eq_true,decide_eq_true_eq] at h2
  have:=sQ hr c.ans c.fuel.toNat (trZ,sZ c) (ux hr h8 (by omega)) (Nat.zero_le _)
  have e:(trZ,sZ c).1.evs.length=0:=rfl
  simp only
  omega
 ·rw[if_neg h,if_neg (by decide)]
  exact⟨Nat.zero_le _,Nat.zero_le _⟩
theorem iI (f g:List In) (Af Ag:Option Addr) (cf cg:Nat) (c:Ca) (vC:Value) (w:World) (hG:Gl w) (hCf:Kd.C kIn w Af f.length f) (hcf:f.length≤cf) (hCg:Kd.C kIn w Ag g.length g) (hcg:g.length≤cg) (hV:CaV w c vC) (hh:c.h.length≤5000) (ha:c.ans.length≤100000) :
  Calls Tryz.prog 9 #[.slice Af f.length cf,.slice Ag g.length cg,vC] w fun e w'=>e=.returned (.tuple #[.int .i64 (dt f g c).1,.int .i64 (dt f g c).2])∧Below w.heap.size w w':=by
 have hV0:=hV
 obtain⟨vH,vA,rfl,h8,hHr,hAr⟩:=hV
 obtain⟨L,hL⟩:=nm_ (cac c.r vH vA c.fuel)
 have hLi:(Tryz.prog.info? 37).map (·.size)=some L.toArray.size:=by rw[hL];exact bq h8
 obtain⟨r,hr⟩:=nm_ (dt f g c)
 rw[←hr]
 unfold dt at hr
 obtain⟨x,hx⟩:=nm_ ((eR f c).1)
 obtain⟨y,hy⟩:=nm_ ((eR g c).1)
 obtain⟨e1,he1⟩:=nm_ ((eR f c).2)
 obtain⟨e2,he2⟩:=nm_ ((eR g c).2)
 have hsx:=lB f c h8
 have hsy:=lB g c h8
 have hF:=fun W hb=>qv f Af cf c (.agg L.toArray) W (hG.below hb) (Kd.C_below hCf hb) hcf (by rw[hL];exact hV0.below hb) hh ha
 have hS:=fun W hb=>qv g Ag cg c (.agg L.toArray) W (hG.below hb) (Kd.C_below hCg hb) hcg (by rw[hL];exact hV0.below hb) hh ha
 rw[←hx,←he1] at hF hr
 rw[←hy,←he2] at hS hr
 rw[←hx] at hsx
 rw[←hy] at hsy
 rw[←hL]
 obtain⟨w1,hw1⟩:∃ w1,w1=w.alloc (.cells L.toArray 37):=⟨_,rfl⟩
 obtain⟨B,hB⟩:=mn_ w.heap.size
 have h1:w1.heap[B]?=some (.cells L.toArray 37 (0,0)):=by rw[hw1,←hB];exact heap_alloc_last w _
 have hb1:Below w.heap.size w w1:=by rw[hw1];exact ae (Below.refl _ _) _
 have HF:=ak_ (hF w1 hb1)
 have HS:=ak_ hS
 have HW1:=ak_ hw1
 have H1:=ak_ h1
 have HB1:=ak_ hb1
 have HLi:=ak_ hLi
 have HRr:=ak_ hr
 have HSx:=ak_ hsx
 have HSy:=ak_ hsy
 clear hV0 hG hCf hcf hCg hcg hL hLi hr hx hy he1 he2 hsx hsy hF hS hw1 h1 hb1 hHr hAr h8 hh ha
 go_enter Tryz.func9,Tryz.ntmps9
 go_upto_region 1 with fail
 refine ar HW1.out.symm ?_
 clear hB HW1
 go_upto_region 3 with (first
  | ((with_reducible refine aj (N:=17) rfl ?_);refine ax rfl _ (al rfl rfl (aT (P:=Tryz.prog) H1.out Tryz.underlying37 rfl HLi.out)) ?_)
  | (go_at_call 19;(with_reducible refine HF.out.mono ?_);rintro e w2 ⟨vX,rfl,⟨A,n,D0,m,rfl,hA,hD⟩,hb⟩;clear HF;have HXE:=ak_ hA;have HXO:=ak_ hD;have HB2:=ak_ (af HB1.out hb);have H12:=ak_ (ag H1.out hb);clear hA hD hb)
  | ((with_reducible refine ao (t:=63) (p:=8) rfl ?_);refine an rfl 63 _ _ rfl w2.heap.size (sdc x.1 x.2 (.slice A x.1.evs.length n) (.slice D0 x.1.out.h.length m)) rfl rfl 63 fO (heap_alloc_last w2 _) dg rfl (by simp[sdc,Value.oneCell']) ?_;intro w3 h3 hf3;have H3:=ak_ h3;have HB3:=ak_ (bV hf3);clear h3 hf3)
  | ((with_reducible refine aj (N:=23) rfl ?_);refine ax rfl _ (al rfl rfl (aT (P:=Tryz.prog) (ag H12.out HB3.out) Tryz.underlying37 rfl HLi.out)) ?_)
  | (go_at_call 19;refine(HS.out w3 (af HB2.out HB3.out)).mono ?_;rintro e w4 ⟨vY,rfl,⟨C,k,E0,l,rfl,hC,hE⟩,hb⟩;have HYE:=ak_ hC;have HYO:=ak_ hE;have HB4:=ak_ hb;clear hC hE hb)
  | ((with_reducible refine ao (t:=63) (p:=10) rfl ?_);refine an rfl 63 _ _ rfl w4.heap.size (sdc y.1 y.2 (.slice C y.1.evs.length k) (.slice E0 y.1.out.h.length l)) rfl rfl 63 fO (heap_alloc_last w4 _) dg rfl (by simp[sdc,Value.oneCell']) ?_;intro w5 h5 hf5;have H5:=ak_ h5;have HB5:=ak_ (bV hf5);clear h5 hf5))
 obtain⟨X,hX⟩:∃ X,X=sdc x.1 x.2 (.slice A x.1.evs.length n) (.slice D0 x.1.out.h.length m):=⟨_,rfl⟩
 obtain⟨Y,hY⟩:∃ Y,Y=sdc y.1 y.2 (.slice C y.1.evs.length k) (.slice E0 y.1.out.h.length l):=⟨_,rfl⟩
 obtain⟨G,hG⟩:=mn_ w2.heap.size
 obtain⟨H,hH⟩:=mn_ w4.heap.size
 rw[←hX,hG] at H3
 rw[←hY,hH] at H5
 rw[hG,hH]
 by_cases hbad:e1=0∧e2=0
 ·obtain⟨rfl,rfl⟩:=hbad
  rw[if_pos ⟨rfl,rfl⟩] at HRr
  have hb35:=af HB4.out HB5.out
  have iX:(Tryz.prog.info? 63).map (·.size)=some X.size:=by rw[hX];exact dg
  have iY:(Tryz.prog.info? 63).map (·.size)=some Y.size:=by rw[hY];exact dg
  have hgx:=ag H3.out hb35
  have hgy:=H5.out
  obtain⟨TX,hTX⟩:∃ T,T=trc x.1 (.slice A x.1.evs.length n) (.slice D0 x.1.out.h.length m):=⟨_,rfl⟩
  obtain⟨TY,hTY⟩:∃ T,T=trc y.1 (.slice C y.1.evs.length k) (.slice E0 y.1.out.h.length l):=⟨_,rfl⟩
  have HX63:=ak_ (fun (W:World) (hb:Below w5.heap.size w5 W)=>aT (P:=Tryz.prog) (ag hgx hb) Tryz.underlying63 rfl iX)
  have HY63:=ak_ (fun (W:World) (hb:Below w5.heap.size w5 W)=>aT (P:=Tryz.prog) (ag hgy hb) Tryz.underlying63 rfl iY)
  have HX61:=ak_ (fun (W:World) (hb:Below w5.heap.size w5 W)=>show (loadVar 61 ⟨G,0,none⟩).run Tryz.prog W=.ok (.agg TX.toArray) W from bU (L:=X.toList) (by simpa using ag hgx hb) 61 0 TX (by rw[hX,hTX];rfl) _ Tryz.underlying61 rfl (by rw[hTX];exact ez))
  have HY61:=ak_ (fun (W:World) (hb:Below w5.heap.size w5 W)=>show (loadVar 61 ⟨H,0,none⟩).run Tryz.prog W=.ok (.agg TY.toArray) W from bU (L:=Y.toList) (by simpa using ag hgy hb) 61 0 TY (by rw[hY,hTY];rfl) _ Tryz.underlying61 rfl (by rw[hTY];exact ez))
  have HSX:=ak_ (show SdV w5 x (.agg X) from ⟨A,n,D0,m,by rw[hX],HXE.out.below (af HB3.out hb35),HXO.out.below (af HB3.out hb35)⟩)
  have HSY:=ak_ (show SdV w5 y (.agg Y) from ⟨C,k,E0,l,by rw[hY],HYE.out.below HB5.out,HYO.out.below HB5.out⟩)
  obtain⟨t1,ht1⟩:=nm_ ((tl1 x y || tl1 y x))
  obtain⟨t2,ht2⟩:=nm_ ((tl2 x y || tl2 y x))
  obtain⟨t3,ht3⟩:=nm_ (tl4 x y)
  obtain⟨t4,ht4⟩:=nm_ ((tl3 x y || tl3 y x))
  have HE1:=ak_ (fun (W:World) (hb:Below w5.heap.size w5 W)=>show Calls Tryz.prog 20 #[.agg X,.agg Y,.func (.func 21) #[] #[]] W fun e w'=>e=.returned (.bool t1)∧Below W.heap.size W w' by rw[ht1];exact yL x y _ _ W (HSX.out.below hb) (HSY.out.below hb) HSx.out.1 HSy.out.1)
  have HE2:=ak_ (fun (W:World) (hb:Below w5.heap.size w5 W)=>show Calls Tryz.prog 20 #[.agg X,.agg Y,.func (.func 23) #[] #[]] W fun e w'=>e=.returned (.bool t2)∧Below W.heap.size W w' by rw[ht2];exact yK x y _ _ W (HSX.out.below hb) (HSY.out.below hb) HSx.out.1 HSy.out.1)
  have HE4:=ak_ (fun (W:World) (hb:Below w5.heap.size w5 W)=>show Calls Tryz.prog 20 #[.agg X,.agg Y,.func (.func 26) #[] #[]] W fun e w'=>e=.returned (.bool t4)∧Below W.heap.size W w' by rw[ht4];exact yJ x y _ _ W (HSX.out.below hb) (HSY.out.below hb) HSx.out.1 HSy.out.1)
  have hHx:=fun W=>f2 x.1 A D0 x.1.evs.length n x.1.out.h.length m W
  have hHy:=fun W=>f2 y.1 C E0 y.1.evs.length k y.1.out.h.length l W
  rw[←hTX] at hHx
  rw[←hTY] at hHy
  have X1:=ak_ (show w5.cell? ⟨G,1,none⟩=some (.int .i64 x.1.out.how) by rw[ah hgx,hX];rfl)
  have Y1:=ak_ (show w5.cell? ⟨H,1,none⟩=some (.int .i64 y.1.out.how) by rw[ah hgy,hY];rfl)
  have X2:=ak_ (show w5.cell? ⟨G,2,none⟩=some (.int .i64 x.1.out.val) by rw[ah hgx,hX];rfl)
  have Y2:=ak_ (show w5.cell? ⟨H,2,none⟩=some (.int .i64 y.1.out.val) by rw[ah hgy,hY];rfl)
  have X3:=ak_ (show w5.cell? ⟨G,3,none⟩=some (.slice D0 x.1.out.h.length m) by rw[ah hgx,hX];rfl)
  have Y3:=ak_ (show w5.cell? ⟨H,3,none⟩=some (.slice E0 y.1.out.h.length l) by rw[ah hgy,hY];rfl)
  have HA2:=ak_ (show ∀ W,(isAgg 2).run Tryz.prog W=.ok false W from fun W=>by kernel_rfl)
  have HA3:=ak_ (show ∀ W,(isAgg 3).run Tryz.prog W=.ok false W from fun W=>by kernel_rfl)
  have HA35:=ak_ (show ∀ W,(isAgg 35).run Tryz.prog W=.ok false W from fun W=>by kernel_rfl)
  obtain⟨hs,hhs⟩:=nm_ (decide (x.1.out.h=y.1.out.h))
  have HHs:=ak_ (fun (W:World) (hb:Below w5.heap.size w5 W)=>show Calls Tryz.prog 25 #[.slice D0 x.1.out.h.length m,.slice E0 y.1.out.h.length l] W fun e w'=>e=.returned (.bool hs)∧Below W.heap.size W w' by rw[hhs];exact yu x.1.out.h y.1.out.h D0 E0 m l W (Cz ((HXO.out.below (af HB3.out hb35)).below hb)) (Cz ((HYO.out.below HB5.out).below hb)) (by have:=HSx.out.2;omega) (by have:=HSy.out.2;omega))
  have HBw:=ak_ (af HB2.out (af HB3.out hb35))
  have hTel:=HRr.out
  unfold Cx at hTel
  rw[←ht1,←ht2,←ht3,←ht4] at hTel
  have HTel:=ak_ hTel
  unfold tl4 at ht3
  rw[←hhs] at ht3
  clear hb35 iX iY hgx hgy hX hY hTX hTY hG hH hTel hhs ht1 ht2 ht4 HRr HS HLi H1 H12 H3 H5 HB2 HB3 HB4 HB5 HXE HXO HYE HYO
  go_upto_region 5 with fail
  go_cut [12] from 33 to 86 (fun v12 wx=>∃ q,v12=.slice (some ⟨q,0,none⟩) 5 5∧aa (Below w5.heap.size w5 wx∧wx.heap[q]?=some (.cells #[.bool false,.bool (!t1),.bool t2,.bool t3,.bool t4] 4 (0,0))))
  case first=>
   by_cases k1:iH x.1.out.how=true
   ·by_cases k2:iH y.1.out.how=true
    ·by_cases k3:x.1.out.how=y.1.out.how
     ·by_cases k4:x.1.out.val=y.1.out.val
      ·have q1:(x.1.out.how != y.1.out.how)=false:=by simp[k3]
       have q2:(x.1.out.val != y.1.out.val)=false:=by simp[k4]
       rw[k1,k2,q1,q2] at ht3
       obtain rfl:t3=!hs:=ht3
       rw[k1] at hHx
       rw[k2] at hHy
       have HHx:=ak_ hHx
       have HHy:=ak_ hHy
       clear hHx hHy k1 k2 k3 k4
       refine bh (σ:=Nat) [52] (fun q=>[(33,.agg X),(34,.agg Y),(35,.bool t1),(36,.bool (!t1)),(37,.agg X),(38,.agg Y),(39,.bool t2),(40,.pointer (some ⟨G,0,none⟩)),(41,.agg TX.toArray),(42,.bool true),(43,.bool true),(44,.pointer (some ⟨H,0,none⟩)),(45,.agg TY.toArray),(46,.bool true),(47,.bool true),(48,.bool true),(49,.pointer (some ⟨G,0,none⟩)),(50,.pointer (some ⟨G,1,none⟩)),(51,.pointer (some ⟨G,1,none⟩)),(52,.int .i64 x.1.out.how),(53,.pointer (some ⟨H,0,none⟩)),(54,.pointer (some ⟨H,1,none⟩)),(55,.pointer (some ⟨H,1,none⟩)),(56,.int .i64 y.1.out.how),(57,.bool false),(58,.bool false),(59,.pointer (some ⟨G,0,none⟩)),(60,.pointer (some ⟨G,1,none⟩)),(61,.pointer (some ⟨G,2,none⟩)),(62,.int .i64 x.1.out.val),(63,.pointer (some ⟨H,0,none⟩)),(64,.pointer (some ⟨H,1,none⟩)),(65,.pointer (some ⟨H,2,none⟩)),(66,.int .i64 y.1.out.val),(67,.bool false),(68,.bool false),(69,.bool false),(70,.pointer (some ⟨G,0,none⟩)),(71,.pointer (some ⟨G,1,none⟩)),(72,.pointer (some ⟨G,3,none⟩)),(73,.slice D0 x.1.out.h.length m),(74,.pointer (some ⟨H,0,none⟩)),(75,.pointer (some ⟨H,1,none⟩)),(76,.pointer (some ⟨H,3,none⟩)),(77,.slice E0 y.1.out.h.length l),(78,.bool hs),(79,.bool (!hs)),(80,.bool (!hs)),(81,.bool (!hs)),(82,.agg X),(83,.agg Y),(84,.bool t4),(85,.slice (some ⟨q,0,none⟩) 5 5),(12,.slice (some ⟨q,0,none⟩) 5 5)])
        (fun bs q W=>Below w5.heap.size w5 W∧(bs.getD 0 false=true→W.heap[q]?=some (.cells #[.bool false,.bool (!t1),.bool t2,.bool (!hs),.bool t4] 4 (0,0)))) 0 (by kernel_rfl) (me 1 (by kernel_rfl) (by kernel_rfl)) (by kernel_rfl) (fun _=>by kernel_rfl) ?_
       intro aF haF
       simp only[bd,Act.put,List.setIfInBounds_toArray,List.set_cons_succ,List.set_cons_zero] at haF
       subst haF
       refine⟨?_,?_,⟨az (Below.refl _ _),fun e=>Bool.noConfusion e⟩,?_⟩
       ·intro j o ho hct q W bs hlen hok hI
        have hJ:∀ w',Below W.heap.size W w'→Below w5.heap.size w5 w'∧(bs.getD 0 false=true→w'.heap[q]?=some (.cells #[.bool false,.bool (!t1),.bool t2,.bool (!hs),.bool t4] 4 (0,0))):=fun w' hb=>⟨af hI.1 hb,fun e=>ag (hI.2 e) hb⟩
        rcases j with _ | _ | _ | _ | _ | _ | _ | _ | _ | _ | _ | _ | _ | _ | _ | _ | _ | _ | _ | _ | _ | _ | _ | _ | _ | _ | _ | _ | _ | _ | _ | _ | _ | _ | _ | _ | _ | _ | _ | _ | _ | _ | _ | _ | _ | _ | _ | _ | _ | _ | _ | _ | _ | _ | j
        all_goals first | exact absurd hct (by decide) | (obtain rfl:=Option.some.inj ho) | exact absurd (Array.getElem?_eq_some_iff.1 ho).1 (by simp)
        ·exact ab rfl (al rfl rfl (HX63.out W hI.1)) ⟨rfl,hI⟩
        ·exact ab rfl (al rfl rfl (HY63.out W hI.1)) ⟨rfl,hI⟩
        ·exact aN rfl Tryz.func20 (by kernel_rfl) rfl #[.agg X,.agg Y,.func (.func 21) #[] #[]] rfl rfl ((HE1.out W hI.1).mono fun e w' h=>⟨_,h.1,rfl,hJ w' h.2⟩)
        ·exact ab rfl (by go_simp) ⟨rfl,hI⟩
        ·exact ab rfl (al rfl rfl (HX63.out W hI.1)) ⟨rfl,hI⟩
        ·exact ab rfl (al rfl rfl (HY63.out W hI.1)) ⟨rfl,hI⟩
        ·exact aN rfl Tryz.func20 (by kernel_rfl) rfl #[.agg X,.agg Y,.func (.func 23) #[] #[]] rfl rfl ((HE2.out W hI.1).mono fun e w' h=>⟨_,h.1,rfl,hJ w' h.2⟩)
        ·exact ab rfl (by go_simp) ⟨rfl,hI⟩
        ·exact ab rfl (al rfl rfl (HX61.out W hI.1)) ⟨rfl,hI⟩
        ·exact aN rfl Tryz.func24 (by kernel_rfl) rfl #[.agg TX.toArray] rfl rfl ((HHx.out W).mono fun e w' h=>⟨_,h.1,rfl,hJ w' h.2⟩)
        iterate 2 (· exact ab rfl (by go_simp) ⟨rfl,hI⟩)
        ·exact ab rfl (al rfl rfl (HY61.out W hI.1)) ⟨rfl,hI⟩
        ·exact aN rfl Tryz.func24 (by kernel_rfl) rfl #[.agg TY.toArray] rfl rfl ((HHy.out W).mono fun e w' h=>⟨_,h.1,rfl,hJ w' h.2⟩)
        iterate 5 (· exact ab rfl (by go_simp) ⟨rfl,hI⟩)
        ·exact ab rfl (al rfl rfl (aE (HA3.out W) (ak hI.1 X1.out))) ⟨rfl,hI⟩
        iterate 3 (· exact ab rfl (by go_simp) ⟨rfl,hI⟩)
        ·exact ab rfl (al rfl rfl (aE (HA3.out W) (ak hI.1 Y1.out))) ⟨rfl,hI⟩
        iterate 5 (· exact ab rfl (by go_simp) ⟨rfl,hI⟩)
        ·exact ab rfl (al rfl rfl (aE (HA2.out W) (ak hI.1 X2.out))) ⟨rfl,hI⟩
        iterate 3 (· exact ab rfl (by go_simp) ⟨rfl,hI⟩)
        ·exact ab rfl (al rfl rfl (aE (HA2.out W) (ak hI.1 Y2.out))) ⟨rfl,hI⟩
        iterate 6 (· exact ab rfl (by go_simp) ⟨rfl,hI⟩)
        ·exact ab rfl (al rfl rfl (aE (HA35.out W) (ak hI.1 X3.out))) ⟨rfl,hI⟩
        iterate 3 (· exact ab rfl (by go_simp) ⟨rfl,hI⟩)
        ·exact ab rfl (al rfl rfl (aE (HA35.out W) (ak hI.1 Y3.out))) ⟨rfl,hI⟩
        ·exact aN rfl Tryz.func25 (by kernel_rfl) rfl #[.slice D0 x.1.out.h.length m,.slice E0 y.1.out.h.length l] rfl rfl ((HHs.out W hI.1).mono fun e w' h=>⟨_,h.1,rfl,hJ w' h.2⟩)
        iterate 3 (· exact ab rfl (by go_simp) ⟨rfl,hI⟩)
        ·exact ab rfl (al rfl rfl (HX63.out W hI.1)) ⟨rfl,hI⟩
        ·exact ab rfl (al rfl rfl (HY63.out W hI.1)) ⟨rfl,hI⟩
        ·exact aN rfl Tryz.func20 (by kernel_rfl) rfl #[.agg X,.agg Y,.func (.func 26) #[] #[]] rfl rfl ((HE4.out W hI.1).mono fun e w' h=>⟨_,h.1,rfl,hJ w' h.2⟩)
        ·exact ab rfl (by go_simp) ⟨rfl,hI⟩
       ·intro k_1 j o hk ho q W bs hlen hok hI
        rcases k_1 with _ | k_1
        ·obtain rfl:=Option.some.inj hk
         obtain rfl:=Option.some.inj ho
         exact ab (v:=.slice (some ⟨W.heap.size,0,none⟩) 5 5) (w':=W.alloc (.cells #[.bool false,.bool (!t1),.bool t2,.bool (!hs),.bool t4] 4)) rfl (by go_simp) ⟨W.heap.size,[(85,.slice (some ⟨W.heap.size,0,none⟩) 5 5),(12,.slice (some ⟨W.heap.size,0,none⟩) 5 5)],rfl,rfl,by kernel_rfl,⟨af hI.1 (ae (Below.refl _ _) _),fun _=>heap_alloc_last W _⟩⟩
        ·exact absurd hk (by simp)
       ·intro q W hI
        obtain⟨hb6,hq6⟩:=hI
        have hq6:=hq6 rfl
        go_wp2
        go_meet
        case rel=>exact⟨q,rfl,⟨hb6,hq6⟩⟩
      ·have q1:(x.1.out.how != y.1.out.how)=false:=by simp[k3]
       have q2:(x.1.out.val != y.1.out.val)=true:=by simp[k4]
       rw[k1,k2,q1,q2] at ht3
       obtain rfl:t3=true:=ht3
       rw[k1] at hHx
       rw[k2] at hHy
       have HHx:=ak_ hHx
       have HHy:=ak_ hHy
       clear hHx hHy k1 k2 k3 k4
       refine bh (σ:=Nat) [52] (fun q=>[(33,.agg X),(34,.agg Y),(35,.bool t1),(36,.bool (!t1)),(37,.agg X),(38,.agg Y),(39,.bool t2),(40,.pointer (some ⟨G,0,none⟩)),(41,.agg TX.toArray),(42,.bool true),(43,.bool true),(44,.pointer (some ⟨H,0,none⟩)),(45,.agg TY.toArray),(46,.bool true),(47,.bool true),(48,.bool true),(49,.pointer (some ⟨G,0,none⟩)),(50,.pointer (some ⟨G,1,none⟩)),(51,.pointer (some ⟨G,1,none⟩)),(52,.int .i64 x.1.out.how),(53,.pointer (some ⟨H,0,none⟩)),(54,.pointer (some ⟨H,1,none⟩)),(55,.pointer (some ⟨H,1,none⟩)),(56,.int .i64 y.1.out.how),(57,.bool false),(58,.bool false),(59,.pointer (some ⟨G,0,none⟩)),(60,.pointer (some ⟨G,1,none⟩)),(61,.pointer (some ⟨G,2,none⟩)),(62,.int .i64 x.1.out.val),(63,.pointer (some ⟨H,0,none⟩)),(64,.pointer (some ⟨H,1,none⟩)),(65,.pointer (some ⟨H,2,none⟩)),(66,.int .i64 y.1.out.val),(67,.bool true),(68,.bool true),(69,.bool true),(80,.bool true),(81,.bool true),(82,.agg X),(83,.agg Y),(84,.bool t4),(85,.slice (some ⟨q,0,none⟩) 5 5),(12,.slice (some ⟨q,0,none⟩) 5 5)])
        (fun bs q W=>Below w5.heap.size w5 W∧(bs.getD 0 false=true→W.heap[q]?=some (.cells #[.bool false,.bool (!t1),.bool t2,.bool true,.bool t4] 4 (0,0)))) 0 (by kernel_rfl) (me 1 (by kernel_rfl) (by kernel_rfl)) (by kernel_rfl) (fun _=>by kernel_rfl) ?_
       intro aF haF
       simp only[bd,Act.put,List.setIfInBounds_toArray,List.set_cons_succ,List.set_cons_zero] at haF
       subst haF
       refine⟨?_,?_,⟨az (Below.refl _ _),fun e=>Bool.noConfusion e⟩,?_⟩
       ·intro j o ho hct q W bs hlen hok hI
        have hJ:∀ w',Below W.heap.size W w'→Below w5.heap.size w5 w'∧(bs.getD 0 false=true→w'.heap[q]?=some (.cells #[.bool false,.bool (!t1),.bool t2,.bool true,.bool t4] 4 (0,0))):=fun w' hb=>⟨af hI.1 hb,fun e=>ag (hI.2 e) hb⟩
        rcases j with _ | _ | _ | _ | _ | _ | _ | _ | _ | _ | _ | _ | _ | _ | _ | _ | _ | _ | _ | _ | _ | _ | _ | _ | _ | _ | _ | _ | _ | _ | _ | _ | _ | _ | _ | _ | _ | _ | _ | _ | _ | _ | _ | _ | _ | _ | _ | _ | _ | _ | _ | _ | _ | _ | j
        all_goals first | exact absurd hct (by decide) | (obtain rfl:=Option.some.inj ho) | exact absurd (Array.getElem?_eq_some_iff.1 ho).1 (by simp)
        ·exact ab rfl (al rfl rfl (HX63.out W hI.1)) ⟨rfl,hI⟩
        ·exact ab rfl (al rfl rfl (HY63.out W hI.1)) ⟨rfl,hI⟩
        ·exact aN rfl Tryz.func20 (by kernel_rfl) rfl #[.agg X,.agg Y,.func (.func 21) #[] #[]] rfl rfl ((HE1.out W hI.1).mono fun e w' h=>⟨_,h.1,rfl,hJ w' h.2⟩)
        ·exact ab rfl (by go_simp) ⟨rfl,hI⟩
        ·exact ab rfl (al rfl rfl (HX63.out W hI.1)) ⟨rfl,hI⟩
        ·exact ab rfl (al rfl rfl (HY63.out W hI.1)) ⟨rfl,hI⟩
        ·exact aN rfl Tryz.func20 (by kernel_rfl) rfl #[.agg X,.agg Y,.func (.func 23) #[] #[]] rfl rfl ((HE2.out W hI.1).mono fun e w' h=>⟨_,h.1,rfl,hJ w' h.2⟩)
        ·exact ab rfl (by go_simp) ⟨rfl,hI⟩
        ·exact ab rfl (al rfl rfl (HX61.out W hI.1)) ⟨rfl,hI⟩
        ·exact aN rfl Tryz.func24 (by kernel_rfl) rfl #[.agg TX.toArray] rfl rfl ((HHx.out W).mono fun e w' h=>⟨_,h.1,rfl,hJ w' h.2⟩)
        iterate 2 (· exact ab rfl (by go_simp) ⟨rfl,hI⟩)
        ·exact ab rfl (al rfl rfl (HY61.out W hI.1)) ⟨rfl,hI⟩
        ·exact aN rfl Tryz.func24 (by kernel_rfl) rfl #[.agg TY.toArray] rfl rfl ((HHy.out W).mono fun e w' h=>⟨_,h.1,rfl,hJ w' h.2⟩)
        iterate 5 (· exact ab rfl (by go_simp) ⟨rfl,hI⟩)
        ·exact ab rfl (al rfl rfl (aE (HA3.out W) (ak hI.1 X1.out))) ⟨rfl,hI⟩
        iterate 3 (· exact ab rfl (by go_simp) ⟨rfl,hI⟩)
        ·exact ab rfl (al rfl rfl (aE (HA3.out W) (ak hI.1 Y1.out))) ⟨rfl,hI⟩
        iterate 5 (· exact ab rfl (by go_simp) ⟨rfl,hI⟩)
        ·exact ab rfl (al rfl rfl (aE (HA2.out W) (ak hI.1 X2.out))) ⟨rfl,hI⟩
        iterate 3 (· exact ab rfl (by go_simp) ⟨rfl,hI⟩)
        ·exact ab rfl (al rfl rfl (aE (HA2.out W) (ak hI.1 Y2.out))) ⟨rfl,hI⟩
        iterate 3 (· exact ab rfl (by go_simp) ⟨rfl,hI⟩)
        iterate 10 (· exact gS rfl ⟨rfl,hI⟩)
        iterate 2 (· exact ab rfl (by go_simp) ⟨rfl,hI⟩)
        ·exact ab rfl (al rfl rfl (HX63.out W hI.1)) ⟨rfl,hI⟩
        ·exact ab rfl (al rfl rfl (HY63.out W hI.1)) ⟨rfl,hI⟩
        ·exact aN rfl Tryz.func20 (by kernel_rfl) rfl #[.agg X,.agg Y,.func (.func 26) #[] #[]] rfl rfl ((HE4.out W hI.1).mono fun e w' h=>⟨_,h.1,rfl,hJ w' h.2⟩)
        ·exact ab rfl (by go_simp) ⟨rfl,hI⟩
       ·intro k_1 j o hk ho q W bs hlen hok hI
        rcases k_1 with _ | k_1
        ·obtain rfl:=Option.some.inj hk
         obtain rfl:=Option.some.inj ho
         exact ab (v:=.slice (some ⟨W.heap.size,0,none⟩) 5 5) (w':=W.alloc (.cells #[.bool false,.bool (!t1),.bool t2,.bool true,.bool t4] 4)) rfl (by go_simp) ⟨W.heap.size,[(85,.slice (some ⟨W.heap.size,0,none⟩) 5 5),(12,.slice (some ⟨W.heap.size,0,none⟩) 5 5)],rfl,rfl,by kernel_rfl,⟨af hI.1 (ae (Below.refl _ _) _),fun _=>heap_alloc_last W _⟩⟩
        ·exact absurd hk (by simp)
       ·intro q W hI
        obtain⟨hb6,hq6⟩:=hI
        have hq6:=hq6 rfl
        go_wp2
        go_meet
        case rel=>exact⟨q,rfl,⟨hb6,hq6⟩⟩
     ·have q1:(x.1.out.how != y.1.out.how)=true:=by simp[k3]
      rw[k1,k2,q1] at ht3
      obtain rfl:t3=true:=ht3
      rw[k1] at hHx
      rw[k2] at hHy
      have HHx:=ak_ hHx
      have HHy:=ak_ hHy
      clear hHx hHy k1 k2 k3
      refine bh (σ:=Nat) [52] (fun q=>[(33,.agg X),(34,.agg Y),(35,.bool t1),(36,.bool (!t1)),(37,.agg X),(38,.agg Y),(39,.bool t2),(40,.pointer (some ⟨G,0,none⟩)),(41,.agg TX.toArray),(42,.bool true),(43,.bool true),(44,.pointer (some ⟨H,0,none⟩)),(45,.agg TY.toArray),(46,.bool true),(47,.bool true),(48,.bool true),(49,.pointer (some ⟨G,0,none⟩)),(50,.pointer (some ⟨G,1,none⟩)),(51,.pointer (some ⟨G,1,none⟩)),(52,.int .i64 x.1.out.how),(53,.pointer (some ⟨H,0,none⟩)),(54,.pointer (some ⟨H,1,none⟩)),(55,.pointer (some ⟨H,1,none⟩)),(56,.int .i64 y.1.out.how),(57,.bool true),(58,.bool true),(68,.bool true),(69,.bool true),(80,.bool true),(81,.bool true),(82,.agg X),(83,.agg Y),(84,.bool t4),(85,.slice (some ⟨q,0,none⟩) 5 5),(12,.slice (some ⟨q,0,none⟩) 5 5)])
       (fun bs q W=>Below w5.heap.size w5 W∧(bs.getD 0 false=true→W.heap[q]?=some (.cells #[.bool false,.bool (!t1),.bool t2,.bool true,.bool t4] 4 (0,0)))) 0 (by kernel_rfl) (me 1 (by kernel_rfl) (by kernel_rfl)) (by kernel_rfl) (fun _=>by kernel_rfl) ?_
      intro aF haF
      simp only[bd,Act.put,List.setIfInBounds_toArray,List.set_cons_succ,List.set_cons_zero] at haF
      subst haF
      refine⟨?_,?_,⟨az (Below.refl _ _),fun e=>Bool.noConfusion e⟩,?_⟩
      ·intro j o ho hct q W bs hlen hok hI
       have hJ:∀ w',Below W.heap.size W w'→Below w5.heap.size w5 w'∧(bs.getD 0 false=true→w'.heap[q]?=some (.cells #[.bool false,.bool (!t1),.bool t2,.bool true,.bool t4] 4 (0,0))):=fun w' hb=>⟨af hI.1 hb,fun e=>ag (hI.2 e) hb⟩
       rcases j with _ | _ | _ | _ | _ | _ | _ | _ | _ | _ | _ | _ | _ | _ | _ | _ | _ | _ | _ | _ | _ | _ | _ | _ | _ | _ | _ | _ | _ | _ | _ | _ | _ | _ | _ | _ | _ | _ | _ | _ | _ | _ | _ | _ | _ | _ | _ | _ | _ | _ | _ | _ | _ | _ | j
       all_goals first | exact absurd hct (by decide) | (obtain rfl:=Option.some.inj ho) | exact absurd (Array.getElem?_eq_some_iff.1 ho).1 (by simp)
       ·exact ab rfl (al rfl rfl (HX63.out W hI.1)) ⟨rfl,hI⟩
       ·exact ab rfl (al rfl rfl (HY63.out W hI.1)) ⟨rfl,hI⟩
       ·exact aN rfl Tryz.func20 (by kernel_rfl) rfl #[.agg X,.agg Y,.func (.func 21) #[] #[]] rfl rfl ((HE1.out W hI.1).mono fun e w' h=>⟨_,h.1,rfl,hJ w' h.2⟩)
       ·exact ab rfl (by go_simp) ⟨rfl,hI⟩
       ·exact ab rfl (al rfl rfl (HX63.out W hI.1)) ⟨rfl,hI⟩
       ·exact ab rfl (al rfl rfl (HY63.out W hI.1)) ⟨rfl,hI⟩
       ·exact aN rfl Tryz.func20 (by kernel_rfl) rfl #[.agg X,.agg Y,.func (.func 23) #[] #[]] rfl rfl ((HE2.out W hI.1).mono fun e w' h=>⟨_,h.1,rfl,hJ w' h.2⟩)
       ·exact ab rfl (by go_simp) ⟨rfl,hI⟩
       ·exact ab rfl (al rfl rfl (HX61.out W hI.1)) ⟨rfl,hI⟩
       ·exact aN rfl Tryz.func24 (by kernel_rfl) rfl #[.agg TX.toArray] rfl rfl ((HHx.out W).mono fun e w' h=>⟨_,h.1,rfl,hJ w' h.2⟩)
       iterate 2 (· exact ab rfl (by go_simp) ⟨rfl,hI⟩)
       ·exact ab rfl (al rfl rfl (HY61.out W hI.1)) ⟨rfl,hI⟩
       ·exact aN rfl Tryz.func24 (by kernel_rfl) rfl #[.agg TY.toArray] rfl rfl ((HHy.out W).mono fun e w' h=>⟨_,h.1,rfl,hJ w' h.2⟩)
       iterate 5 (· exact ab rfl (by go_simp) ⟨rfl,hI⟩)
       ·exact ab rfl (al rfl rfl (aE (HA3.out W) (ak hI.1 X1.out))) ⟨rfl,hI⟩
       iterate 3 (· exact ab rfl (by go_simp) ⟨rfl,hI⟩)
       ·exact ab rfl (al rfl rfl (aE (HA3.out W) (ak hI.1 Y1.out))) ⟨rfl,hI⟩
       iterate 2 (· exact ab rfl (by go_simp) ⟨rfl,hI⟩)
       iterate 9 (· exact gS rfl ⟨rfl,hI⟩)
       iterate 2 (· exact ab rfl (by go_simp) ⟨rfl,hI⟩)
       iterate 10 (· exact gS rfl ⟨rfl,hI⟩)
       iterate 2 (· exact ab rfl (by go_simp) ⟨rfl,hI⟩)
       ·exact ab rfl (al rfl rfl (HX63.out W hI.1)) ⟨rfl,hI⟩
       ·exact ab rfl (al rfl rfl (HY63.out W hI.1)) ⟨rfl,hI⟩
       ·exact aN rfl Tryz.func20 (by kernel_rfl) rfl #[.agg X,.agg Y,.func (.func 26) #[] #[]] rfl rfl ((HE4.out W hI.1).mono fun e w' h=>⟨_,h.1,rfl,hJ w' h.2⟩)
       ·exact ab rfl (by go_simp) ⟨rfl,hI⟩
      ·intro k_1 j o hk ho q W bs hlen hok hI
       rcases k_1 with _ | k_1
       ·obtain rfl:=Option.some.inj hk
        obtain rfl:=Option.some.inj ho
        exact ab (v:=.slice (some ⟨W.heap.size,0,none⟩) 5 5) (w':=W.alloc (.cells #[.bool false,.bool (!t1),.bool t2,.bool true,.bool t4] 4)) rfl (by go_simp) ⟨W.heap.size,[(85,.slice (some ⟨W.heap.size,0,none⟩) 5 5),(12,.slice (some ⟨W.heap.size,0,none⟩) 5 5)],rfl,rfl,by kernel_rfl,⟨af hI.1 (ae (Below.refl _ _) _),fun _=>heap_alloc_last W _⟩⟩
       ·exact absurd hk (by simp)
      ·intro q W hI
       obtain⟨hb6,hq6⟩:=hI
       have hq6:=hq6 rfl
       go_wp2
       go_meet
       case rel=>exact⟨q,rfl,⟨hb6,hq6⟩⟩
    ·have k2':iH y.1.out.how=false:=by simpa using k2
     rw[k1,k2'] at ht3
     obtain rfl:t3=false:=ht3
     rw[k1] at hHx
     rw[k2'] at hHy
     have HHx:=ak_ hHx
     have HHy:=ak_ hHy
     clear hHx hHy k1 k2 k2'
     refine bh (σ:=Nat) [52] (fun q=>[(33,.agg X),(34,.agg Y),(35,.bool t1),(36,.bool (!t1)),(37,.agg X),(38,.agg Y),(39,.bool t2),(40,.pointer (some ⟨G,0,none⟩)),(41,.agg TX.toArray),(42,.bool true),(43,.bool true),(44,.pointer (some ⟨H,0,none⟩)),(45,.agg TY.toArray),(46,.bool false),(47,.bool false),(48,.bool false),(81,.bool false),(82,.agg X),(83,.agg Y),(84,.bool t4),(85,.slice (some ⟨q,0,none⟩) 5 5),(12,.slice (some ⟨q,0,none⟩) 5 5)])
      (fun bs q W=>Below w5.heap.size w5 W∧(bs.getD 0 false=true→W.heap[q]?=some (.cells #[.bool false,.bool (!t1),.bool t2,.bool false,.bool t4] 4 (0,0)))) 0 (by kernel_rfl) (me 1 (by kernel_rfl) (by kernel_rfl)) (by kernel_rfl) (fun _=>by kernel_rfl) ?_
     intro aF haF
     simp only[bd,Act.put,List.setIfInBounds_toArray,List.set_cons_succ,List.set_cons_zero] at haF
     subst haF
     refine⟨?_,?_,⟨az (Below.refl _ _),fun e=>Bool.noConfusion e⟩,?_⟩
     ·intro j o ho hct q W bs hlen hok hI
      have hJ:∀ w',Below W.heap.size W w'→Below w5.heap.size w5 w'∧(bs.getD 0 false=true→w'.heap[q]?=some (.cells #[.bool false,.bool (!t1),.bool t2,.bool false,.bool t4] 4 (0,0))):=fun w' hb=>⟨af hI.1 hb,fun e=>ag (hI.2 e) hb⟩
      rcases j with _ | _ | _ | _ | _ | _ | _ | _ | _ | _ | _ | _ | _ | _ | _ | _ | _ | _ | _ | _ | _ | _ | _ | _ | _ | _ | _ | _ | _ | _ | _ | _ | _ | _ | _ | _ | _ | _ | _ | _ | _ | _ | _ | _ | _ | _ | _ | _ | _ | _ | _ | _ | _ | _ | j
      all_goals first | exact absurd hct (by decide) | (obtain rfl:=Option.some.inj ho) | exact absurd (Array.getElem?_eq_some_iff.1 ho).1 (by simp)
      ·exact ab rfl (al rfl rfl (HX63.out W hI.1)) ⟨rfl,hI⟩
      ·exact ab rfl (al rfl rfl (HY63.out W hI.1)) ⟨rfl,hI⟩
      ·exact aN rfl Tryz.func20 (by kernel_rfl) rfl #[.agg X,.agg Y,.func (.func 21) #[] #[]] rfl rfl ((HE1.out W hI.1).mono fun e w' h=>⟨_,h.1,rfl,hJ w' h.2⟩)
      ·exact ab rfl (by go_simp) ⟨rfl,hI⟩
      ·exact ab rfl (al rfl rfl (HX63.out W hI.1)) ⟨rfl,hI⟩
      ·exact ab rfl (al rfl rfl (HY63.out W hI.1)) ⟨rfl,hI⟩
      ·exact aN rfl Tryz.func20 (by kernel_rfl) rfl #[.agg X,.agg Y,.func (.func 23) #[] #[]] rfl rfl ((HE2.out W hI.1).mono fun e w' h=>⟨_,h.1,rfl,hJ w' h.2⟩)
      ·exact ab rfl (by go_simp) ⟨rfl,hI⟩
      ·exact ab rfl (al rfl rfl (HX61.out W hI.1)) ⟨rfl,hI⟩
      ·exact aN rfl Tryz.func24 (by kernel_rfl) rfl #[.agg TX.toArray] rfl rfl ((HHx.out W).mono fun e w' h=>⟨_,h.1,rfl,hJ w' h.2⟩)
      iterate 2 (· exact ab rfl (by go_simp) ⟨rfl,hI⟩)
      ·exact ab rfl (al rfl rfl (HY61.out W hI.1)) ⟨rfl,hI⟩
      ·exact aN rfl Tryz.func24 (by kernel_rfl) rfl #[.agg TY.toArray] rfl rfl ((HHy.out W).mono fun e w' h=>⟨_,h.1,rfl,hJ w' h.2⟩)
      iterate 2 (· exact ab rfl (by go_simp) ⟨rfl,hI⟩)
      iterate 32 (· exact gS rfl ⟨rfl,hI⟩)
      ·exact ab rfl (by go_simp) ⟨rfl,hI⟩
      ·exact ab rfl (al rfl rfl (HX63.out W hI.1)) ⟨rfl,hI⟩
      ·exact ab rfl (al rfl rfl (HY63.out W hI.1)) ⟨rfl,hI⟩
      ·exact aN rfl Tryz.func20 (by kernel_rfl) rfl #[.agg X,.agg Y,.func (.func 26) #[] #[]] rfl rfl ((HE4.out W hI.1).mono fun e w' h=>⟨_,h.1,rfl,hJ w' h.2⟩)
      ·exact ab rfl (by go_simp) ⟨rfl,hI⟩
     ·intro k_1 j o hk ho q W bs hlen hok hI
      rcases k_1 with _ | k_1
      ·obtain rfl:=Option.some.inj hk
       obtain rfl:=Option.some.inj ho
       exact ab (v:=.slice (some ⟨W.heap.size,0,none⟩) 5 5) (w':=W.alloc (.cells #[.bool false,.bool (!t1),.bool t2,.bool false,.bool t4] 4)) rfl (by go_simp) ⟨W.heap.size,[(85,.slice (some ⟨W.heap.size,0,none⟩) 5 5),(12,.slice (some ⟨W.heap.size,0,none⟩) 5 5)],rfl,rfl,by kernel_rfl,⟨af hI.1 (ae (Below.refl _ _) _),fun _=>heap_alloc_last W _⟩⟩
      ·exact absurd hk (by simp)
     ·intro q W hI
      obtain⟨hb6,hq6⟩:=hI
      have hq6:=hq6 rfl
      go_wp2
      go_meet
      case rel=>exact⟨q,rfl,⟨hb6,hq6⟩⟩
   ·have k1':iH x.1.out.how=false:=by simpa using k1
    rw[k1'] at ht3
    obtain rfl:t3=false:=ht3
    rw[k1'] at hHx
    have HHx:=ak_ hHx
    clear hHx hHy k1 k1'
    refine bh (σ:=Nat) [52] (fun q=>[(33,.agg X),(34,.agg Y),(35,.bool t1),(36,.bool (!t1)),(37,.agg X),(38,.agg Y),(39,.bool t2),(40,.pointer (some ⟨G,0,none⟩)),(41,.agg TX.toArray),(42,.bool false),(43,.bool false),(47,.bool false),(48,.bool false),(81,.bool false),(82,.agg X),(83,.agg Y),(84,.bool t4),(85,.slice (some ⟨q,0,none⟩) 5 5),(12,.slice (some ⟨q,0,none⟩) 5 5)])
     (fun bs q W=>Below w5.heap.size w5 W∧(bs.getD 0 false=true→W.heap[q]?=some (.cells #[.bool false,.bool (!t1),.bool t2,.bool false,.bool t4] 4 (0,0)))) 0 (by kernel_rfl) (me 1 (by kernel_rfl) (by kernel_rfl)) (by kernel_rfl) (fun _=>by kernel_rfl) ?_
    intro aF haF
    simp only[bd,Act.put,List.setIfInBounds_toArray,List.set_cons_succ,List.set_cons_zero] at haF
    subst haF
    refine⟨?_,?_,⟨az (Below.refl _ _),fun e=>Bool.noConfusion e⟩,?_⟩
    ·intro j o ho hct q W bs hlen hok hI
     have hJ:∀ w',Below W.heap.size W w'→Below w5.heap.size w5 w'∧(bs.getD 0 false=true→w'.heap[q]?=some (.cells #[.bool false,.bool (!t1),.bool t2,.bool false,.bool t4] 4 (0,0))):=fun w' hb=>⟨af hI.1 hb,fun e=>ag (hI.2 e) hb⟩
     rcases j with _ | _ | _ | _ | _ | _ | _ | _ | _ | _ | _ | _ | _ | _ | _ | _ | _ | _ | _ | _ | _ | _ | _ | _ | _ | _ | _ | _ | _ | _ | _ | _ | _ | _ | _ | _ | _ | _ | _ | _ | _ | _ | _ | _ | _ | _ | _ | _ | _ | _ | _ | _ | _ | _ | j
     all_goals first | exact absurd hct (by decide) | (obtain rfl:=Option.some.inj ho) | exact absurd (Array.getElem?_eq_some_iff.1 ho).1 (by simp)
     ·exact ab rfl (al rfl rfl (HX63.out W hI.1)) ⟨rfl,hI⟩
     ·exact ab rfl (al rfl rfl (HY63.out W hI.1)) ⟨rfl,hI⟩
     ·exact aN rfl Tryz.func20 (by kernel_rfl) rfl #[.agg X,.agg Y,.func (.func 21) #[] #[]] rfl rfl ((HE1.out W hI.1).mono fun e w' h=>⟨_,h.1,rfl,hJ w' h.2⟩)
     ·exact ab rfl (by go_simp) ⟨rfl,hI⟩
     ·exact ab rfl (al rfl rfl (HX63.out W hI.1)) ⟨rfl,hI⟩
     ·exact ab rfl (al rfl rfl (HY63.out W hI.1)) ⟨rfl,hI⟩
     ·exact aN rfl Tryz.func20 (by kernel_rfl) rfl #[.agg X,.agg Y,.func (.func 23) #[] #[]] rfl rfl ((HE2.out W hI.1).mono fun e w' h=>⟨_,h.1,rfl,hJ w' h.2⟩)
     ·exact ab rfl (by go_simp) ⟨rfl,hI⟩
     ·exact ab rfl (al rfl rfl (HX61.out W hI.1)) ⟨rfl,hI⟩
     ·exact aN rfl Tryz.func24 (by kernel_rfl) rfl #[.agg TX.toArray] rfl rfl ((HHx.out W).mono fun e w' h=>⟨_,h.1,rfl,hJ w' h.2⟩)
     ·exact ab rfl (by go_simp) ⟨rfl,hI⟩
     iterate 3 (· exact gS rfl ⟨rfl,hI⟩)
     iterate 2 (· exact ab rfl (by go_simp) ⟨rfl,hI⟩)
     iterate 32 (· exact gS rfl ⟨rfl,hI⟩)
     ·exact ab rfl (by go_simp) ⟨rfl,hI⟩
     ·exact ab rfl (al rfl rfl (HX63.out W hI.1)) ⟨rfl,hI⟩
     ·exact ab rfl (al rfl rfl (HY63.out W hI.1)) ⟨rfl,hI⟩
     ·exact aN rfl Tryz.func20 (by kernel_rfl) rfl #[.agg X,.agg Y,.func (.func 26) #[] #[]] rfl rfl ((HE4.out W hI.1).mono fun e w' h=>⟨_,h.1,rfl,hJ w' h.2⟩)
     ·exact ab rfl (by go_simp) ⟨rfl,hI⟩
    ·intro k_1 j o hk ho q W bs hlen hok hI
     rcases k_1 with _ | k_1
     ·obtain rfl:=Option.some.inj hk
      obtain rfl:=Option.some.inj ho
      exact ab (v:=.slice (some ⟨W.heap.size,0,none⟩) 5 5) (w':=W.alloc (.cells #[.bool false,.bool (!t1),.bool t2,.bool false,.bool t4] 4)) rfl (by go_simp) ⟨W.heap.size,[(85,.slice (some ⟨W.heap.size,0,none⟩) 5 5),(12,.slice (some ⟨W.heap.size,0,none⟩) 5 5)],rfl,rfl,by kernel_rfl,⟨af hI.1 (ae (Below.refl _ _) _),fun _=>heap_alloc_last W _⟩⟩
     ·exact absurd hk (by simp)
    ·intro q W hI
     obtain⟨hb6,hq6⟩:=hI
     have hq6:=hq6 rfl
     go_wp2
     go_meet
     case rel=>exact⟨q,rfl,⟨hb6,hq6⟩⟩
  case rest=>
   obtain⟨q,rfl,hC3⟩:=hcut
   obtain⟨w6,rfl⟩:=nm_ wc
   have HQ:=ak_ hC3.out.2
   have HB6:=ak_ (af HBw.out hC3.out.1)
   obtain⟨T,hT⟩:=nm_ ([false,!t1,t2,t3,t4])
   rw[←hT] at HTel
   have HTl:=ak_ (show T.length=5 by rw[hT];rfl)
   have HTc:=ak_ (fun (W:World) (hb:Below w6.heap.size w6 W) (k:Nat) (b:Bool) (h:T[k]?=some b)=>show W.cell? ⟨q,k,none⟩=some (.bool b) by
    rw[ah (ag hC3.out.2 hb)]
    rw[hT] at h
    match k,h with
    | 0,h=>simpa using h
    | 1,h=>simpa using h
    | 2,h=>simpa using h
    | 3,h=>simpa using h
    | 4,h=>simpa using h
    | k+5,h=>simp at h)
   clear hC3 hT ht3 hHx hHy
   go_wp2
   go_loopw [88] (fun j wr=>∃ k:Nat,j=.int .i64 k∧aa (k≤5∧jn T 0=jn (T.drop k) k∧Below w6.heap.size w6 wr)) (fun j _=>5 - (intOf j).toNat)
   case atStart=>exact⟨0,rfl,⟨⟨Nat.zero_le _,rfl,Below.refl _ _⟩⟩⟩
   case round=>
    obtain⟨k,rfl,HL5⟩:=hrel
    obtain⟨hk,hkd,hb⟩:=HL5.out
    by_cases hk5:k < 5
    ·have hk5':(k:Int) < 5:=by omega
     obtain⟨b,hbb⟩:∃ b,T[k]?=some b:=⟨_,List.getElem?_eq_getElem (by have:=HTl.out;omega)⟩
     have cb:=HTc.out wr hb k b hbb
     have hdr:T.drop k=b :: T.drop (k+1):=by
      obtain⟨h1,h2⟩:=List.getElem?_eq_some_iff.1 hbb
      rw[List.drop_eq_getElem_cons h1,h2]
     rw[hdr,jn] at hkd
     have HKd:=ak_ hkd
     have HB7:=ak_ hb
     have HK:=ak_ hk5
     clear hk hkd hb hk5 hbb hdr HL5
     by_cases hbt:b=true
     ·subst hbt
      have HKd2:=ak_ (show jn T 0=(k:Int) by rw[HKd.out,if_pos rfl])
      clear HKd
      go_wp2
      rw[HTel.out,HKd2.out]
      exact bodyPost_ret (v:=.tuple #[.int .i64 (k:Int),.int .i64 0]) (aA (rs:=[.tmp 6,.tmp 7]) rfl (by simp) (.tmp (.tmp .nil))) rfl ⟨rfl,af HB6.out HB7.out⟩
     ·obtain rfl:b=false:=by cases b <;> simp_all
      have HKd2:=ak_ (show jn T 0=jn (T.drop (k+1)) (k+1) by rw[HKd.out,if_neg (by decide)])
      clear hbt HKd
      go_wp2
      go_roundw
      case rel=>exact⟨k+1,by go_num,⟨⟨HK.out,HKd2.out,HB7.out⟩⟩⟩
      case measure=>have:=HK.out;simp[intOf];omega
    ·obtain rfl:k=5:=by omega
     rw[List.drop_of_length_le (by rw[HTl.out];exact Nat.le_refl _),jn] at hkd
     have HKd:=ak_ hkd
     have HB7:=ak_ hb
     clear hk hkd hb hk5 HL5
     go_wp2
     rw[HTel.out,HKd.out]
     exact bodyPost_ret (v:=.tuple #[.int .i64 0,.int .i64 0]) (aA (rs:=[.tmp 6,.tmp 7]) rfl (by simp) (.tmp (.tmp .nil))) rfl ⟨rfl,af HB6.out HB7.out⟩
 ·rw[if_neg hbad] at HRr
  have HBw:=ak_ (af HB2.out (af HB3.out (af HB4.out HB5.out)))
  by_cases h1:e1=0
  ·have h2:e2≠0:=fun h=>hbad ⟨h1,h⟩
   have q1:(e1 != 0)=false:=by simp[h1]
   have q2:(e2 != 0)=true:=by simp[h2]
   clear hbad h1 h2 hG hH hX hY
   go_wp2
   rw[HRr.out]
   exact bodyPost_ret (v:=.tuple #[.int .i64 0,.int .i64 1]) (aA (rs:=[.tmp 6,.tmp 7]) rfl (by simp) (.tmp (.tmp .nil))) rfl ⟨rfl,HBw.out⟩
  ·have q1:(e1 != 0)=true:=by simp[h1]
   clear hbad h1 hG hH hX hY
   go_wp2
   rw[HRr.out]
   exact bodyPost_ret (v:=.tuple #[.int .i64 0,.int .i64 1]) (aA (rs:=[.tmp 6,.tmp 7]) rfl (by simp) (.tmp (.tmp .nil))) rfl ⟨rfl,HBw.out⟩
theorem kv (A:Option Addr) (n c:Nat) (hn:n≤200) (hc:n≤c) (w:World):Calls Tryz.prog 118 #[.slice A n c] w fun e w'=>e=.returned (.slice A n c)∧w=w':=by
 have hn':(n:Int)≤200:=by omega
 have hc':(n:Int)≤(c:Int):=by omega
 have hm:min (n:Int) 200=n:=by omega
 go_enter Tryz.func118,Tryz.ntmps118
 go_wp2
 go_ret
 exact⟨rfl,rfl⟩
theorem yU (A B:Option Addr) (n c m d:Nat) (hn:n≤200) (hc:n≤c) (hm:m≤200) (hd:m≤d) (w:World):Calls Tryz.prog 105 #[.slice A n c,.slice B m d] w fun e w'=>e=.returned (.int .i64 ((n:Int)+(m:Int)))∧w=w':=by
 have H1:=ak_ (kv A n c hn hc w)
 have H2:=ak_ (kv B m d hm hd w)
 have hn':(n:Int)≤200:=by omega
 have hm':(m:Int)≤200:=by omega
 go_enter Tryz.func105,Tryz.ntmps105
 go_wp2_with (first
  | (go_at_call 118;(with_reducible refine H1.out.mono ?_);rintro e w1 ⟨rfl,rfl⟩;clear H1)
  | (go_at_call 118;(with_reducible refine H2.out.mono ?_);rintro e w1 ⟨rfl,rfl⟩))
 go_ret
 exact⟨rfl,rfl⟩
def gK (l:List In):List Int:=(l.filter (fun x=>x.op == 1)).map (·.n)
theorem yQ {l:List In} {i:Nat} {x:In} (h:l[i]?=some x):gK (l.take (i+1))=if x.op=1 then gK (l.take i)++[x.n] else gK (l.take i):=by
 obtain⟨hi,he⟩:=List.getElem?_eq_some_iff.1 h
 unfold gK
 rw[List.take_succ_eq_append_getElem hi,he,List.filter_append,List.map_append]
 by_cases h1:x.op=1 <;> simp[h1]
theorem mg (l:List In):(gK l).length≤l.length:=by
 unfold gK
 rw[List.length_map]
 exact List.length_filter_le _ _
theorem pk (f g:List In) (Af Ag:Option Addr) (cf cg:Nat) (w:World) (hf:f.length≤200) (hg:g.length≤200) (hCf:Kd.C kIn w Af f.length f) (hcf:f.length≤cf) (hCg:Kd.C kIn w Ag g.length g) (hcg:g.length≤cg) :
  Calls Tryz.prog 103 #[.slice Af f.length cf,.slice Ag g.length cg] w fun e w'=>∃ v,e=.returned v∧Kd.R (Kd.int .i64) 2 w' w.heap.size (fun _=>True) v (gK f++gK g)∧Below w.heap.size w w':=by
 have H1:=ak_ (kv Af f.length cf hf hcf w)
 have H2:=ak_ (kv Ag g.length cg hg hcg w)
 have HCf:=ak_ hCf
 have HCg:=ak_ hCg
 have HL:=ak_ (And.intro hf hg)
 clear hf hg hCf hcf hCg hcg
 go_enter Tryz.func103,Tryz.ntmps103
 go_wp2_with (first
  | (go_at_call 118;(with_reducible refine H1.out.mono ?_);rintro e w1 ⟨rfl,rfl⟩;clear H1)
  | (go_at_call 118;(with_reducible refine H2.out.mono ?_);rintro e w1 ⟨rfl,rfl⟩;clear H2))
 go_loopw [15,5] (fun j v wr=>∃ k:Nat,j=.int .i64 k∧aa (k≤2∧Below w.heap.size w wr∧Kd.R (Kd.int .i64) 2 wr w.heap.size (fun _=>True) v (if k=0 then [] else if k=1 then gK f else gK f++gK g))) (fun j _ _=>2 - (intOf j).toNat)
 case atStart=>exact⟨0,rfl,⟨⟨Nat.zero_le _,Below.refl _ _,Kd.R_nil _ _ _ _ _⟩⟩⟩
 case round=>
  obtain⟨k,rfl,HK⟩:=hrel
  obtain⟨hk,hb,hR⟩:=HK.out
  by_cases hk2:k < 2
  ·have hk2':(k:Int) < 2:=by omega
   obtain⟨xs,A,c,pre,hix,hC,hl,hpre,hnx⟩:∃ (xs:List In) (A:Option Addr) (c:Nat) (pre:List Int),(∀ W,(Instr.index 241 (.agg #[.slice Af f.length cf,.slice Ag g.length cg]) (.int .i64 (k:Int))).run Tryz.prog W=.ok (.slice A xs.length c) W)∧Kd.C kIn w A xs.length xs∧xs.length≤200∧(if k=0 then [] else if k=1 then gK f else gK f++gK g)=pre∧(if k+1=0 then [] else if k+1=1 then gK f else gK f++gK g)=pre++gK xs:=by
    have h01:k=0∨k=1:=by omega
    rcases h01 with rfl | rfl
    ·exact⟨f,Af,cf,[],fun W=>by kernel_rfl,HCf.out,HL.out.1,rfl,rfl⟩
    ·exact⟨g,Ag,cg,gK f,fun W=>by kernel_rfl,HCg.out,HL.out.2,rfl,rfl⟩
   have HC:=ak_ hC
   have HLx:=ak_ hl
   have HN:=ak_ hnx
   have HPl:=ak_ (show pre.length≤200 by
    have h01:k=0∨k=1:=by omega
    rcases h01 with rfl | rfl
    ·rw[←hpre];exact Nat.zero_le _
    ·have h:=congrArg List.length hpre;have h2:=mg f;have:=HL.out.1;simp only[Nat.one_ne_zero,if_false,if_true] at h;omega)
   rw[hpre] at hR
   have HR:=ak_ hR
   have HB:=ak_ hb
   have HKk:=ak_ hk2
   have hl':(xs.length:Int)≤200:=by omega
   clear hC hl hnx hpre hR hb hk hk2 HK
   go_wp2
   obtain⟨wo,hwo⟩:=nm_ wr
   clear hix
   go_loopw [20,5] (fun j v wr=>∃ i:Nat,j=.int .i64 i∧aa (i≤xs.length∧Below w.heap.size w wr∧Kd.R (Kd.int .i64) 2 wr w.heap.size (fun _=>True) v (pre++gK (xs.take i)))) (fun j _ _=>xs.length - (intOf j).toNat)
   case atStart=>exact⟨0,rfl,⟨⟨Nat.zero_le _,HB.out,by rw[List.take_zero,show gK []=[] from rfl,List.append_nil];exact HR.out⟩⟩⟩
   case round=>
    obtain⟨i,rfl,HI⟩:=hrel
    obtain⟨hi,hb,hR⟩:=HI.out
    by_cases hil:i < xs.length
    ·have hil':(i:Int) < (xs.length:Int):=by omega
     obtain⟨x,hx⟩:∃ x,xs[i]?=some x:=⟨_,List.getElem?_eq_getElem hil⟩
     obtain⟨ad,cs,rfl,hK,hld⟩:=aW (P:=Tryz.prog) HC.out hb i hil x hx 49 Tryz.underlying49 rfl bE
     obtain rfl:cs=[.int .i64 x.op,.int .i64 x.d,.int .i64 x.a,.int .i64 x.b,.int .i64 x.n,.int .i64 x.jt]:=hK
     have HLd:=ak_ (show (loadVar 49 (ad.add (i * 6))).run Tryz.prog wr=.ok (.agg #[.int .i64 x.op,.int .i64 x.d,.int .i64 x.a,.int .i64 x.b,.int .i64 x.n,.int .i64 x.jt]) wr from hld)
     have HS:=ak_ (yQ hx)
     obtain⟨L,hL⟩:=nm_ (pre++gK (xs.take i))
     rw[←hL] at hR
     have HLe:=ak_ hL
     have HLl:=ak_ (show L.length≤400 by rw[hL,List.length_append];have:=HPl.out;have:=mg (xs.take i);rw[List.length_take] at this;omega)
     have HR2:=ak_ hR
     have HB2:=ak_ hb
     have HIl:=ak_ hil
     clear hL hi hb hR hil hx hld HI
     by_cases h1:x.op=1
     ·have q1:(x.op == 1)=true:=beq_iff_eq.mpr h1
      have HO1:=ak_ h1
      clear h1
      go_upto_region 8 with (first
       | ((with_reducible refine aj (N:=23) rfl ?_);refine au rfl 49 _ rfl (ad.add (i * 6)) rfl _ HLd.out ?_))
      obtain⟨w3,hw3⟩:∃ w3,w3=wr.alloc (.cells #[.int .i64 x.op,.int .i64 x.d,.int .i64 x.a,.int .i64 x.b,.int .i64 x.n,.int .i64 x.jt] 49):=⟨_,rfl⟩
      have h3:w3.heap[wr.heap.size]?=some (.cells #[.int .i64 x.op,.int .i64 x.d,.int .i64 x.a,.int .i64 x.b,.int .i64 x.n,.int .i64 x.jt] 49 (0,0)):=by rw[hw3];exact heap_alloc_last wr _
      refine ar hw3.symm ?_
      obtain⟨g9,hg9⟩:=mn_ wr.heap.size
      rw[hg9] at h3 ⊢
      have c0:=(show w3.cell? ⟨g9,0,none⟩=some (.int .i64 x.op) by rw[ah h3];rfl)
      have c4:=(show w3.cell? ⟨g9,4,none⟩=some (.int .i64 x.n) by rw[ah h3];rfl)
      have HB3:=ak_ (show Below w.heap.size w w3 by rw[hw3];exact ae HB2.out _)
      have HR3:=ak_ (show Kd.R (Kd.int .i64) 2 w3 w.heap.size (fun _=>True) u5 L by rw[hw3];exact Kd.R_below HR2.out (ae (Below.refl _ _) _))
      clear hw3 h3 hg9
      go_wp2_with (first
       | ((with_reducible refine a7 (b:=.append) (xs:=#[.tmp 27,.tmp 30]) rfl ?_);at_builtin;refine Kd.R_append (Kd.int .i64) (w0:=w) w.heap.size rfl (.tmp 27) (.tmp 30) 35 2 (.int .i64 0) 8 rfl Tryz.underlying35 j9 rfl (by decide) (by omega) u5 (L) (x.n) [.int .i64 x.n] (fun _=>True) (fun _=>False) rfl rfl ?aP (fun _ hk=>hk.elim) ?aF ?aO ?aB ?aS ?aL ?_;(case aP=>exact rfl);(case aF=>exact(fun b hb=>trivial));(case aO=>exact HR3.out);(case aB=>exact HB3.out);(case aS=>exact HB3.out.size);(case aL=>have:=HLl.out;omega);intro vap wap ho hb hg hat;have HO3:=ak_ ho;have HB6:=ak_ hb;clear ho hb hg hat))
      go_roundw
      case rel=>exact⟨i+1,by go_num,⟨⟨HIl.out,HB6.out,by rw[HS.out,if_pos HO1.out,←List.append_assoc,←HLe.out];exact HO3.out⟩⟩⟩
      case measure=>have:=HIl.out;simp[intOf];omega
     ·have q1:(x.op == 1)=false:=beq_eq_false_iff_ne.mpr h1
      have HO1:=ak_ h1
      clear h1
      go_wp2_with (first
       | ((with_reducible refine aj (N:=23) rfl ?_);refine au rfl 49 _ rfl (ad.add (i * 6)) rfl _ HLd.out ?_))
      go_roundw
      case rel=>exact⟨i+1,by go_num,⟨⟨HIl.out,ae HB2.out _,by rw[HS.out,if_neg HO1.out,←HLe.out];exact Kd.R_below HR2.out (ae (Below.refl _ _) _)⟩⟩⟩
      case measure=>have:=HIl.out;simp[intOf];omega
    ·obtain rfl:i=xs.length:=by omega
     rw[List.take_length] at hR
     have HR2:=ak_ hR
     have HB2:=ak_ hb
     clear hi hb hR hil HI hwo
     go_wp2
     go_roundw
     case rel=>exact⟨k+1,by go_num,⟨⟨HKk.out,HB2.out,by rw[HN.out];exact HR2.out⟩⟩⟩
     case measure=>have:=HKk.out;simp[intOf];omega
  ·obtain rfl:k=2:=by omega
   have HR:=ak_ hR
   have HB:=ak_ hb
   clear hk hb hR HK hk2
   go_wp2
   go_ret
   exact⟨_,rfl,HR.out,HB.out⟩
section
open Go.ChangeMaps (setBlock)
theorem lY {α:Type} [DecidableEq α] {x:α}:∀ {L:List (α × Value)} {i j:Nat} {v:Value},bO x L i=some (j,v)→∃ k,j=i+k∧L[k]?=some (x,v)
 | [],i,j,v,h=>by simp[bO] at h
 | p :: L,i,j,v,h=>by
  unfold bO at h
  split at h
  ·rename_i e
   simp only[Option.some.injEq,Prod.mk.injEq] at h
   obtain⟨rfl,rfl⟩:=h
   exact⟨0,rfl,by obtain⟨a,b⟩:=p;simp at e;subst e;rfl⟩
  ·obtain⟨k,h1,h2⟩:=lY h
   exact⟨k+1,by omega,by simpa using h2⟩
theorem qL {P:Program} {α:Type} [DecidableEq α] {t kt et:TypeId} {enc:α→Value} (K:iq P kt enc) (hu:P.underlying t=some (.map kt et)) {W:World} {b:Nat} {L:List (α × Value)} (h:bI enc W b L) (x:α) (v:Value) (i:Nat) (hf:bO x L 0=some (i,v)) :
  ∃ W',(Instr.mapUpdate t (.map (some b)) (enc x) v).run P W=.ok () W'∧bI enc W' b L∧Fr (fun k=>k=b) W W':=by
 obtain⟨es,c,h1,h2⟩:=h
 have h3:=K.check false W x
 have h4:=K.find W x es.toList L h2
 rw[hf] at h4
 obtain⟨k,hk,hL⟩:=lY hf
 obtain rfl:i=k:=by omega
 have hm:=congrArg (fun l=>l[i]?) h2
 simp only[List.getElem?_map,hL,Option.map_some,Array.getElem?_toList] at hm
 obtain⟨e,he,hek⟩:=Option.map_eq_some_iff.1 hm
 simp only[Prod.mk.injEq] at hek
 have h5:(Instr.keyThatStays (enc x) (enc x)).run P W=.ok (enc x) W:=by
  simp[Instr.keyThatStays,K.same x]
 refine⟨setBlock W b (.map (es.modify i fun e=>{ e with key:=enc x,val:=v }) c),?_,⟨_,_,(MapKept.heap_set h1).1,?_⟩,⟨rfl,rfl,rfl,?_,fun k hk hn=>(MapKept.heap_set h1).2 k hn⟩⟩
 ·simp[Instr.mapUpdate,run_underlying hu,MapKept.run_getObj_map h1,h3,h4,he,hek.1,h5,MapKept.run_setObj_map _ h1,Result.andThen,setBlock]
 ·rw[←h2]
  apply List.ext_getElem?
  intro j
  simp only[List.getElem?_map,Array.getElem?_toList,Array.getElem?_modify]
  by_cases hj:i=j
  ·subst hj
   simp[he,hek.1,hek.2]
  ·simp[hj]
 ·show W.heap.size≤(W.heap.setIfInBounds b _).size
  simp
theorem np {P:Program} {ops:Array Oper} {rest:List Oper} {o:Oper} {a:Act} {W:World} {Q:Exit→Act→World→Prop} {α:Type} [DecidableEq α] {t kt et:TypeId} {enc:α→Value} (K:iq P kt enc) (hgd:o.guard=none) (x y u:Operand) (ho:o.op=.mapUpdate t x y u) (hu:P.underlying t=some (.map kt et)) {b:Nat} {L:List (α × Value)} (hm:bI enc W b L) (k:α) (v:Value) (i:Nat)
  (hx:a.eval x=.map (some b)) (hy:a.eval y=enc k) (hv:a.eval u=v) (hf:bO k L 0=some (i,v)) (h:∀ W',bI enc W' b L→Fr (fun k=>k=b) W W'→wpList P ops Q rest (a.put o.dst undef) W'):wpList P ops Q (o :: rest) a W:=by
 obtain⟨W',h1,h2,h3⟩:=qL K hu hm k v i hf
 refine mW hgd ?_ (h W' h2 h3)
 unfold execOp
 simp only[ho,hx,hy,hv,Sem.run_bind,h1,Result.andThen_ok,Sem.run_pure]
theorem rB {P:Program} {ops:Array Oper} {rest:List Oper} {o:Oper} {a:Act} {W:World} {Q:Exit→Act→World→Prop} {t kt et:TypeId} (K:iq P kt (Value.int .i64)) (hgd:o.guard=none) (x y u:Operand) (ho:o.op=.mapUpdate t x y u) (hu:P.underlying t=some (.map kt et)) {b:Nat} {ks:List Int}
  (hm:∃ L,bI (Value.int .i64) W b L∧(∀ p∈L,p.2=Value.bool true)∧∀ a,a∈ks↔∃ p∈L,p.1=a) (k:Int) (hx:a.eval x=.map (some b)) (hy:a.eval y=.int .i64 k) (hv:a.eval u=.bool true)
  (h:∀ W',(∃ L,bI (Value.int .i64) W' b L∧(∀ p∈L,p.2=Value.bool true)∧∀ a,a∈ks++[k]↔∃ p∈L,p.1=a)→Fr (fun k=>k=b) W W'→wpList P ops Q rest (a.put o.dst undef) W'):wpList P ops Q (o :: rest) a W:=by
 obtain⟨L,h1,h2,h3⟩:=hm
 cases hf:bO k L 0 with
 | none=>
  refine dF K hgd x y u ho hu h1 k (.bool true) hx hy hv hf (fun W' q1 q2=>h W' ⟨_,q1,fun p hp=>?_,fun a=>?_⟩ q2)
  ·rcases List.mem_append.1 hp with hp | hp
   ·exact h2 p hp
   ·obtain rfl:=List.mem_singleton.1 hp
    rfl
  ·rw[List.mem_append,h3 a,List.mem_singleton]
   constructor
   ·rintro(⟨p,hp,e⟩ | rfl)
    ·exact⟨p,List.mem_append_left _ hp,e⟩
    ·exact⟨_,List.mem_append_right _ (List.mem_singleton.2 rfl),rfl⟩
   ·rintro⟨p,hp,e⟩
    rcases List.mem_append.1 hp with hp | hp
    ·exact .inl ⟨p,hp,e⟩
    ·obtain rfl:=List.mem_singleton.1 hp
     exact .inr e.symm
 | some q=>
  obtain⟨i,v⟩:=q
  obtain⟨j,_,hj⟩:=lY hf
  have hm:=List.mem_of_getElem? hj
  have hv2:=h2 _ hm
  simp only at hv2
  subst hv2
  refine np K hgd x y u ho hu h1 k (.bool true) i hx hy hv hf (fun W' q1 q2=>h W' ⟨_,q1,h2,fun a=>?_⟩ q2)
  rw[List.mem_append,h3 a,List.mem_singleton]
  constructor
  ·rintro(h | rfl)
   ·exact h
   ·exact⟨_,hm,rfl⟩
  ·exact fun h=>.inl h
theorem C6:iq Tryz.prog 2 (Value.int .i64):=iq.of_now (d:=.int .i64) (by kernel_rfl) (fun _=>rfl) (fun x y=>by show some (x == y)=some (decide (x=y));congr 1)
def jE (W:World) (b:Nat) (ks:List Int):Prop:=∃ L,bI (Value.int .i64) W b L∧(∀ p∈L,p.2=Value.bool true)∧∀ a,a∈ks↔∃ p∈L,p.1=a
theorem jE.fr {W W':World} {b:Nat} {ks:List Int} {S:Nat→Prop} (h:jE W b ks) (hf:Fr S W W') (hs:¬ S b):jE W' b ks:=by
 obtain⟨L,h1,h2,h3⟩:=h
 exact⟨L,h1.fr hf hs,h2,h3⟩
theorem jE.lt {W:World} {b:Nat} {ks:List Int} (h:jE W b ks):b < W.heap.size:=by
 obtain⟨L,h1,_⟩:=h
 exact h1.lt
theorem qh {L:List (Int × Value)} {ks:List Int} (h2:∀ p∈L,p.2=Value.bool true) (h3:∀ a,a∈ks↔∃ p∈L,p.1=a) (a:Int):oV (.bool false) (bO a L 0)=.bool (decide (a∈ks)):=by
 cases hf:bO a L 0 with
 | none=>
  have:a ∉ ks:=fun h=>by
   obtain⟨p,hp,e⟩:=(h3 a).1 h
   have hn:∀ (L:List (Int × Value)) (i:Nat),bO a L i=none→∀ p∈L,p.1≠a:=by
    intro L
    induction L with
    | nil=>intro i _ p hp;cases hp
    | cons q L ih=>
     intro i h p hp
     unfold bO at h
     split at h
     ·simp at h
     ·rename_i hne
      rcases List.mem_cons.1 hp with rfl | hp
      ·exact fun e=>hne e.symm
      ·exact ih _ h p hp
   exact hn L 0 hf p hp e
  simp[oV,jM,this]
 | some q=>
  obtain⟨i,v⟩:=q
  obtain⟨k,_,hk⟩:=lY hf
  have hm:=List.mem_of_getElem? hk
  have hv:=h2 _ hm
  simp only at hv
  subst hv
  have:a∈ks:=(h3 a).2 ⟨_,hm,rfl⟩
  simp[oV,jM,this]
def ip (ks:List Int):Nat→Int→Int
 | 0,a=>a
 | n+1,a=>if a∈ks then ip ks n (a+1) else a
def fE (ks:List Int) (a:Int):Nat:=(ks.filter (fun k=>decide (a≤k))).length
def gE (ks:List Int) (a:Int):Int:=ip ks (fE ks a) a
theorem qS:∀ (ks:List Int) (a:Int),fE ks (a+1)≤fE ks a
 | [],_=>Nat.le_refl _
 | k :: ks,a=>by
  have:=qS ks a
  unfold fE at this ⊢
  simp only[List.filter_cons]
  by_cases h1:a+1≤k
  ·have h2:a≤k:=by omega
   simp[h1,h2];omega
  ·by_cases h2:a≤k
   ·simp[h1,h2];omega
   ·simp[h1,h2];omega
theorem gT:∀ {ks:List Int} {a:Int},a∈ks→fE ks (a+1) < fE ks a
 | [],_,h=>by cases h
 | k :: ks,a,h=>by
  have hl:=qS ks a
  by_cases e:k=a
  ·subst e
   unfold fE at hl ⊢
   simp only[List.filter_cons]
   have h1:¬ k+1≤k:=by omega
   simp[h1];omega
  ·have hm:a∈ks:=by
    rcases List.mem_cons.1 h with h | h
    ·exact absurd h.symm e
    ·exact h
   have:=gT hm
   unfold fE at this ⊢
   simp only[List.filter_cons]
   by_cases h1:a+1≤k
   ·have h2:a≤k:=by omega
    simp[h1,h2];omega
   ·have h2:¬ a≤k:=by omega
    simp[h1,h2];omega
theorem um (ks:List Int):∀ (n:Nat) (a:Int),fE ks a≤n→ip ks n a=gE ks a:=by
 have key:∀ (n m:Nat) (a:Int),fE ks a≤n→fE ks a≤m→ip ks n a=ip ks m a:=by
  intro n
  induction n with
  | zero=>
   intro m a h1 h2
   have hn:a ∉ ks:=fun h=>by have:=gT h;omega
   cases m with
   | zero=>rfl
   | succ m=>simp[ip,hn]
  | succ n ih=>
   intro m a h1 h2
   by_cases ha:a∈ks
   ·have hs:=gT ha
    cases m with
    | zero=>omega
    | succ m=>
     simp only[ip,if_pos ha]
     exact ih m (a+1) (by omega) (by omega)
   ·cases m with
    | zero=>simp[ip,ha]
    | succ m=>simp[ip,ha]
 exact fun n a h=>key n _ a h (Nat.le_refl _)
theorem yM {ks:List Int} {a:Int} (h:a∈ks):gE ks a=gE ks (a+1):=by
 have hs:=gT h
 unfold gE
 obtain⟨n,hn⟩:∃ n,fE ks a=n+1:=⟨fE ks a - 1,by omega⟩
 rw[hn,ip,if_pos h,um ks n (a+1) (by omega)]
 rfl
theorem yN {ks:List Int} {a:Int} (h:a ∉ ks):gE ks a=a:=by
 unfold gE
 cases fE ks a with
 | zero=>rfl
 | succ n=>rw[ip,if_neg h]
theorem oD (ks:List Int) (a:Int):fE ks a≤ks.length:=List.length_filter_le _ _
def sC (w:World) (g:Nat):Int:=match w.cell? ⟨g,0,none⟩ with
 | some (.int _ n)=>n
 | _=>0
theorem oZ (ks:List Int) (a:Int) (gt ga b:Nat) (w:World) (ht:w.heap[gt]?=some (.cells #[.map (some b)] 239 (0,0))) (ha:w.heap[ga]?=some (.cells #[.int .i64 a] 2 (0,0))) (hm:jE w b ks) (hne:gt≠ga) (hnb:b≠ga) (h0:0≤a) (h1:a≤2000000) (hk:ks.length≤1000) :
  Calls Tryz.prog 117 #[.pointer (some ⟨gt,0,none⟩),.pointer (some ⟨ga,0,none⟩)] w fun e w'=>e=.returned (.int .i64 (gE ks a))∧w'.heap[ga]?=some (.cells #[.int .i64 (gE ks a+1)] 2 (0,0))∧Fr (fun k=>k=ga) w w':=by
 have HT:=ak_ ht
 have HA:=ak_ ha
 have HM:=ak_ hm
 have HN:=ak_ (And.intro hne hnb)
 have HK:=ak_ hk
 have HBd:=ak_ (And.intro h0 h1)
 have HZ:=ak_ (show ∀ W,(zeroValue 4).run Tryz.prog W=.ok (.bool false) W from fun W=>by kernel_rfl)
 clear ht ha hm hne hnb hk h0 h1
 go_enter Tryz.func117,Tryz.ntmps117
 go_wp2
 go_loopw [] (fun wr=>∃ c:Int,aa (wr.heap[ga]?=some (.cells #[.int .i64 c] 2 (0,0))∧Fr (fun k=>k=ga) w wr∧gE ks c=gE ks a∧0≤c∧c+fE ks c≤a+fE ks a)) (fun wr=>fE ks (sC wr ga))
 case atStart=>exact⟨a,⟨HA.out,Fr.refl _ _,rfl,HBd.out.1,Int.le_refl _⟩⟩
 case round=>
  obtain⟨c,HC⟩:=hrel
  obtain⟨hc,hf,hd,hc0,hcb⟩:=HC.out
  have hol:=oD ks a
  have hc2:c≤3000000:=by have:=HBd.out;have:=HK.out;omega
  have hT:=(hf.block gt (ai HT.out) HN.out.1).trans HT.out
  obtain⟨L,hL1,hL2,hL3⟩:=HM.out.fr hf HN.out.2
  have ct:=(show wr.cell? ⟨gt,0,none⟩=some (.map (some b)) by rw[ah hT];rfl)
  have ca:=(show wr.cell? ⟨ga,0,none⟩=some (.int .i64 c) by rw[ah hc];rfl)
  have fa:=aq hc 0
  have HL1:=ak_ hL1
  have HF:=ak_ hf
  have HD:=ak_ hd
  have HCb:=ak_ hcb
  have HC1:=ak_ hc
  have HI:=ak_ (show sC wr ga=c by unfold sC;rw[ca])
  by_cases hin:c∈ks
  ·have HG:=ak_ (show oV (.bool false) (bO c L 0)=.bool true by rw[qh hL2 hL3 c,decide_eq_true hin])
   have HO:=ak_ (gT hin)
   have HDn:=ak_ (yM hin)
   clear hc hf hd hcb hT hL1 hL2 hL3 hin HC hol
   go_wp2_with (first
    | ((with_reducible refine aj (N:=5) rfl ?_);refine lq C6 rfl _ _ rfl Tryz.underlying239 HL1.out (.bool false) (HZ.out _) c rfl rfl _ HG.out ?_))
   go_roundw
   case rel=>exact⟨c+1,⟨ey HC1.out 0 _,HF.out.trans (Fr.cell (S:=fun j=>j=ga) (p:=⟨ga,0,none⟩) rfl _),by rw[←HDn.out];exact HD.out,by omega,by have:=HCb.out;have:=HO.out;omega⟩⟩
   case measure=>
    rw[HI.out]
    have:sC (wr.setCell ⟨ga,0,none⟩ (.int .i64 (c+1))) ga=c+1:=by
     unfold sC
     rw[ah (ey HC1.out 0 _)]
     rfl
    rw[this]
    exact HO.out
  ·have HG:=ak_ (show oV (.bool false) (bO c L 0)=.bool false by rw[qh hL2 hL3 c,decide_eq_false hin])
   have HDh:=ak_ (show gE ks a=c by rw[←hd,yN hin])
   clear hc hf hd hcb hT hL1 hL2 hL3 hin HC hol
   go_wp2_with (first
    | ((with_reducible refine aj (N:=5) rfl ?_);refine lq C6 rfl _ _ rfl Tryz.underlying239 HL1.out (.bool false) (HZ.out _) c rfl rfl _ HG.out ?_))
   go_ret
   exact⟨by rw[HDh.out];rfl,by rw[HDh.out];exact ey HC1.out 0 _,HF.out.trans (Fr.cell (S:=fun j=>j=ga) (p:=⟨ga,0,none⟩) rfl _)⟩
end
end Go.Proofs.YtlinbehijfcelaaGreatDoor.Top
