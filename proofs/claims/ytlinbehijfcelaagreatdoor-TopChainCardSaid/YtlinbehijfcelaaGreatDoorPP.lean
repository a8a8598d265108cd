/- Walks of the program, and what it computes, told plainly. No condition. (VP VQ VR VS VT VU) -/
import Derived.Test.YtlinbehijfcelaaGreatDoorPO
import Derived.RangeFuncNested
import Derived.RangeFuncBound
import Derived.RangeFuncCalls
import Derived.RangeFuncLeaves
import Derived.Shelf.Abstract
import Derived.Shelf.RegionOpen
import Derived.OwnWalkIn
import Derived.TacticsInMore
import Derived.LoopNIn
import Derived.LoopIn
set_option linter.unusedVariables false
set_option linter.unusedSimpArgs false
set_option linter.unusedSectionVars false
set_option maxHeartbeats 8000000
set_option maxRecDepth 100000
namespace Go.Proofs.YtlinbehijfcelaaGreatDoor.Top
open Go.RowKit Go.Proofs.YtlinbehijfcelaaGreatDoorW.PrintWords Go.Proofs.YtlinbehijfcelaaGreatDoorW.PrintLast
def dD (ks:List Int):Nat→Int→List Int × Int
 | 0,a=>([],a)
 | n+1,a=>((dD ks n a).1++[gE ks (dD ks n a).2],gE ks (dD ks n a).2+1)
theorem fT (ks:List Int) (a:Int):∀ n,(dD ks n a).1.length=n
 | 0=>rfl
 | n+1=>by rw[dD,List.length_append,fT ks a n];rfl
theorem Ch (ks:List Int) (a:Int):a≤gE ks a∧gE ks a+fE ks (gE ks a)≤a+fE ks a:=by
 have key:∀ (n:Nat) (a:Int),a≤ip ks n a∧ip ks n a+fE ks (ip ks n a)≤a+fE ks a:=by
  intro n
  induction n with
  | zero=>intro a;exact⟨Int.le_refl _,Int.le_refl _⟩
  | succ n ih=>
   intro a
   unfold ip
   by_cases h:a∈ks
   ·rw[if_pos h]
    have:=ih (a+1)
    have:=gT h
    omega
   ·rw[if_neg h]
    exact⟨Int.le_refl _,Int.le_refl _⟩
 exact key _ a
theorem pg (ks:List Int) (a:Int):∀ n,a≤(dD ks n a).2∧(dD ks n a).2+fE ks (dD ks n a).2≤a+fE ks a+n
 | 0=>⟨Int.le_refl _,by show a+fE ks a≤_;omega⟩
 | n+1=>by
  have h1:=pg ks a n
  have h2:=Ch ks (dD ks n a).2
  have h3:=qS ks (gE ks (dD ks n a).2)
  show a≤gE ks (dD ks n a).2+1∧gE ks (dD ks n a).2+1+fE ks (gE ks (dD ks n a).2+1)≤_
  omega
def frK (f g:List In):List Int:=gK f++gK g
def frN (f g:List In):Nat:=f.length+g.length+2
def aQ (f g:List In):Ca:=⟨(dD (frK f g) 8 1000003).1,[],(dD (frK f g) (frN f g) (dD (frK f g) 8 1000003).2).1,frN f g⟩
def r8:List Int:=List.replicate 8 0
theorem Cp (n:Int):Tryz.prog.built 37 [(3,.int .i64 n)]=some (cac r8 (.slice none 0 0) (.slice none 0 0) n).toArray:=rfl
theorem vp (r:List Int) (i:Nat) (hi:i < r.length) (x:Int) (vH vA:Value) (fuel:Int):(cac r vH vA fuel).set i (.int .i64 x)=cac (r.set i x) vH vA fuel:=by
 unfold cac
 rw[List.set_append_left _ _ (by simpa using hi),List.map_set]
def kP (ks:List Int) (k:Nat):List Int:=(dD ks k 1000003).1++List.replicate (8 - k) 0
theorem ul (ks:List Int) {k:Nat} (hk:k < 8):(kP ks k).set k (gE ks (dD ks k 1000003).2)=kP ks (k+1):=by
 unfold kP
 rw[List.set_append_right _ _ (by rw[fT];exact Nat.le_refl _),fT,Nat.sub_self,show 8 - k=(8 - (k+1))+1 by omega,List.replicate_succ,List.set_cons_zero,dD,List.append_assoc]
 rfl
theorem mR (ks:List Int) {k:Nat} (hk:k≤8):(kP ks k).length=8:=by unfold kP;rw[List.length_append,fT,List.length_replicate];omega
structure tc (w W:World) (B M ga G:Nat) (ks:List Int) (a:Int) (r:List Int) (N:Nat) (vA:Value) (ans:List Int):Prop where
 b:Below w.heap.size w W
 z:W.heap[B]?=some (.cells dR 37 (0,0))
 t:W.heap[M+1]?=some (.cells #[.map (some M)] 239 (0,0))
 m:jE W M ks
 a:W.heap[ga]?=some (.cells #[.int .i64 a] 2 (0,0))
 c:W.heap[G]?=some (.cells (cac r (.slice none 0 0) vA N).toArray 37 (0,0))
 rA:Kd.R (Kd.int .i64) 2 W G (fun k=>G < k) vA ans
theorem tc.move {w W W':World} {B M ga G:Nat} {ks:List Int} {a a':Int} {r r':List Int} {N:Nat} {vA vA':Value} {ans ans':List Int} (h:tc w W B M ga G ks a r N vA ans) {S:Nat→Prop} (hf:Fr S W W') (hS:∀ k,S k→M+1 < k) (hB:B < M) (hw:w.heap.size=B)
  (ha:W'.heap[ga]?=some (.cells #[.int .i64 a'] 2 (0,0))) (hc:W'.heap[G]?=some (.cells (cac r' (.slice none 0 0) vA' N).toArray 37 (0,0))) (hr:Kd.R (Kd.int .i64) 2 W' G (fun k=>G < k) vA' ans'):tc w W' B M ga G ks a' r' N vA' ans':=
 ⟨Fr.below h.b hf (fun k hk e=>by have:=hS k e;omega) h.b.size,(hf.block B (ai h.z) (fun e=>by have:=hS B e;omega)).trans h.z,(hf.block (M+1) (ai h.t) (fun e=>by have:=hS _ e;omega)).trans h.t,h.m.fr hf (fun e=>by have:=hS _ e;omega),ha,hc,hr⟩
theorem uq (f g:List In) (Af Ag:Option Addr) (cf cg:Nat) (w:World) (hf:f.length≤200) (hg:g.length≤200) (hCf:Kd.C kIn w Af f.length f) (hcf:f.length≤cf) (hCg:Kd.C kIn w Ag g.length g) (hcg:g.length≤cg) :
  Calls Tryz.prog 102 #[.slice Af f.length cf,.slice Ag g.length cg] w fun e w'=>∃ v,e=.returned v∧CaV w' (aQ f g) v∧Below w.heap.size w w':=by
 obtain⟨ks,hks⟩:=nm_ (frK f g)
 have hkl:ks.length≤400:=by rw[hks];unfold frK;rw[List.length_append];have:=mg f;have:=mg g;omega
 obtain⟨w1,hw1⟩:∃ w1,w1=w.alloc (.cells dR 37):=⟨_,rfl⟩
 obtain⟨B,hB⟩:=mn_ w.heap.size
 have h1:w1.heap[B]?=some (.cells dR 37 (0,0)):=by rw[hw1,←hB];exact heap_alloc_last w _
 have hb1:Below w.heap.size w w1:=by rw[hw1];exact ae (Below.refl _ _) _
 have hCn:=fun W hb=>pk f g Af Ag cf cg W hf hg (Kd.C_below hCf hb) hcf (Kd.C_below hCg hb) hcg
 have hMn:=fun W=>yU Af Ag f.length cf g.length cg hf hcf hg hcg W
 unfold frK at hks
 rw[←hks] at hCn
 have HCn:=ak_ hCn
 have HMn:=ak_ hMn
 have HW1:=ak_ hw1
 have H1:=ak_ h1
 have HB1:=ak_ hb1
 have HBe:=ak_ hB
 have HKl:=ak_ hkl
 have HKs:=ak_ hks
 have hf':(f.length:Int)≤200:=by omega
 have hg':(g.length:Int)≤200:=by omega
 clear hf hg hCf hcf hCg hcg hCn hMn hw1 h1 hb1 hkl hks
 go_enter Tryz.func102,Tryz.ntmps102
 go_upto_region 1 with fail
 refine ar HW1.out.symm ?_
 clear hB HW1
 go_upto_region 2 with (first
  | ((with_reducible refine aj (N:=12) rfl ?_);refine dG rfl 239 rfl ?_))
 obtain⟨M,hM⟩:=mn_ w1.heap.size
 have hBM:B < M:=by rw[←hM];exact ai H1.out
 obtain⟨w2,hw2⟩:∃ w2,w2=(w1.alloc (.map #[] 0)).alloc (.cells #[.map (some M)] 239):=⟨_,rfl⟩
 rw[hM]
 refine ar hw2.symm ?_
 have HT:=ak_ (show w2.heap[M+1]?=some (.cells #[.map (some M)] 239 (0,0)) by rw[hw2,←hM];exact heap_alloc2_new w1 _ _)
 have HM2:=ak_ (show jE w2 M [] from ⟨[],by rw[hw2,←hM];exact(bI.new _ w1 0).moved (by exact(heap_alloc2_old w1 _ _).trans (by have:=heap_alloc_last w1 (.map #[] 0);exact this.symm)),fun p hp=>(by cases hp),fun a=>⟨fun h=>(by cases h),fun ⟨p,hp,_⟩=>(by cases hp)⟩⟩)
 have HB2:=ak_ (show Below w.heap.size w w2 by rw[hw2];exact ae (ae HB1.out _) _)
 have H12:=ak_ (show w2.heap[B]?=some (.cells dR 37 (0,0)) by rw[hw2];exact aK (aK H1.out _) _)
 have HBM:=ak_ hBM
 clear hw2 hM hBM H1 HB1
 go_upto_region 3 with (first
  | (go_at_call 103;refine(HCn.out w2 HB2.out).mono ?_;rintro e w3 ⟨v,rfl,hR,hb⟩;obtain⟨AK,cK,rfl⟩:=Kd.R_slice hR;have HRK:=ak_ (show RdT (Kd.int .i64) 2 w3 (.slice AK ks.length cK) ks from RdT.of_R hR);have HB3:=ak_ (af HB2.out hb);have HT3:=ak_ (ag HT.out hb);have H13:=ak_ (ag H12.out hb);have HM3:=ak_ (HM2.out.fr (Fr.of_below (S:=fun _=>False) hb) (fun h=>h));clear hR hb))
 have hkl':(ks.length:Int)≤400:=by have:=HKl.out;omega
 clear HM2 HT H12 HB2 HCn
 go_wp2
 go_loopw [17] (fun j wr=>∃ i:Nat,j=.int .i64 i∧aa (i≤ks.length∧jE wr M (ks.take i)∧Fr (fun k=>k=M) w3 wr)) (fun j _=>ks.length - (intOf j).toNat)
 case atStart=>exact⟨0,rfl,⟨⟨Nat.zero_le _,HM3.out,Fr.refl _ _⟩⟩⟩
 case round=>
  obtain⟨i,rfl,HI⟩:=hrel
  obtain⟨hi,hm,hf⟩:=HI.out
  have hMm:∀ cs fr,w3.heap[M]?≠some (.cells cs 2 fr):=fun cs fr h=>by
   obtain⟨L,⟨es,c,h1,_⟩,_⟩:=HM3.out
   rw[h1] at h
   simp at h
  have hT:=(hf.block (M+1) (ai HT3.out) (by omega)).trans HT3.out
  by_cases hil:i < ks.length
  ·have hil':(i:Int) < (ks.length:Int):=by omega
   obtain⟨x,hx⟩:∃ x,ks[i]?=some x:=⟨_,List.getElem?_eq_getElem hil⟩
   obtain⟨Aq,cq,eq,_,hC,_⟩:=HRK.out.fr aC hf (fun k cs fr e=>by subst e;exact hMm cs fr)
   injection eq with eq
   subst eq
   obtain⟨ad,cs,eA,_,hK,hc⟩:=bX hC i hil x hx
   subst eA
   obtain rfl:cs=[.int .i64 x]:=hK
   have vx:=hc 0 _ rfl
   rw[show i * (Kd.int .i64).sz+0=i from Nat.mul_one i] at vx
   have ct:=(show wr.cell? ⟨M+1,0,none⟩=some (.map (some M)) by rw[ah hT];rfl)
   have HM:=ak_ hm
   have HF:=ak_ hf
   have HIl:=ak_ hil
   have HTk:=ak_ (show ks.take (i+1)=ks.take i++[x] by rw[List.take_succ_eq_append_getElem hil,(List.getElem?_eq_some_iff.1 hx).2])
   clear hi hm hf hMm hT hil hx hC hc HI
   go_wp2_with (first
    | ((with_reducible refine iW rfl ?_);refine rB C6 rfl _ _ _ rfl Tryz.underlying239 HM.out x rfl rfl rfl ?_;intro w4 hm4 hf4;have HM4:=ak_ hm4;have HF4:=ak_ (HF.out.trans hf4);clear hm4 hf4))
   go_roundw
   case rel=>exact⟨i+1,by go_num,⟨⟨HIl.out,by rw[HTk.out];exact HM4.out,HF4.out⟩⟩⟩
   case measure=>have:=HIl.out;simp[intOf];omega
  ·obtain rfl:i=ks.length:=by omega
   rw[List.take_length] at hm
   have HM:=ak_ hm
   have HT4:=ak_ hT
   have HB4:=ak_ (Fr.below HB3.out hf (fun k hk e=>by have:=HBM.out;have:=HBe.out;omega) HB3.out.size)
   have H14:=ak_ ((hf.block B (ai H13.out) (by have:=HBM.out;omega)).trans H13.out)
   obtain⟨w4,rfl⟩:=nm_ wr
   clear hi hm hf hMm hT hil HI HRK HT3 HM3 HB3 H13
   go_upto_region 9 with fail
   obtain⟨ga,hga⟩:=mn_ w4.heap.size
   obtain⟨w5,hw5⟩:∃ w5,w5=w4.alloc (.cells #[.int .i64 1000003] 2):=⟨_,rfl⟩
   have hMga:M+1 < ga:=by rw[←hga];exact ai HT4.out
   have h5a:w5.heap[ga]?=some (.cells #[.int .i64 1000003] 2 (0,0)):=by rw[hw5,←hga];exact heap_alloc_last w4 _
   have hb45:Below w4.heap.size w4 w5:=by rw[hw5];exact ae (Below.refl _ _) _
   rw[hga]
   refine ar hw5.symm ?_
   have H5a:=ak_ h5a
   have HB45:=ak_ hb45
   have HMga:=ak_ hMga
   clear hw5 h5a hb45 hMga hga
   obtain⟨N,hN⟩:∃ N:Nat,N=f.length+g.length+2:=⟨_,rfl⟩
   have hNi:(f.length:Int)+(g.length:Int)+2=(N:Int):=by omega
   have HN:=ak_ hN
   have HNl:=ak_ (show N≤402 by omega)
   have hNl':(N:Int)≤402:=by omega
   clear hN
   go_upto_region 10 with (first
    | (go_at_call 105;refine(HMn.out _).mono ?_;rintro e w9 ⟨rfl,rfl⟩)
    | ((with_reducible refine aj (N:=29) rfl ?_);refine aM rfl 37 _ rfl [(3,.int .i64 (N:Int))] _ rfl (Cp _) ?_)
    | ((with_reducible refine ao (t:=37) (p:=10) rfl ?_);refine an rfl 37 _ _ rfl w5.heap.size (cac r8 (.slice none 0 0) (.slice none 0 0) (N:Int)).toArray rfl rfl 37 dR (heap_alloc_last w5 _) (bq rfl) rfl fC ?_;intro w6 h6 hf6;have H6:=ak_ h6;have HB6:=ak_ (bV hf6);clear h6 hf6))
   obtain⟨G,hG⟩:=mn_ w5.heap.size
   have hgaG:ga < G:=by rw[←hG];exact ai H5a.out
   rw[hG] at H6 ⊢
   have HOr:=ak_ (show B < M∧M+1 < ga∧ga < G from ⟨HBM.out,HMga.out,hgaG⟩)
   have HS6:=ak_ (show tc w w6 B M ga G ks 1000003 r8 N (.slice none 0 0) [] from ⟨af (af HB4.out HB45.out) HB6.out,ag (ag H14.out HB45.out) HB6.out,ag (ag HT4.out HB45.out) HB6.out,(HM.out.fr (Fr.of_below (S:=fun _=>False) HB45.out) (fun h=>h)).fr (Fr.of_below (S:=fun _=>False) HB6.out) (fun h=>h),ag H5a.out HB6.out,H6.out,Kd.R_nil _ _ _ _ _⟩)
   have HDl:=ak_ (fun (W:World) (a:Int) (r:List Int) (vA:Value) (ans:List Int) (h:tc w W B M ga G ks a r N vA ans) (k:Nat) (hk:k≤1000) (h0:1000003≤a) (h1:a+fE ks a≤1000003+400+k)=>oZ ks a (M+1) ga M W h.t h.a h.m (by have:=HOr.out;omega) (by have:=HOr.out;omega) (by omega) (by omega) (by have:=HKl.out;omega))
   clear hG hgaG HM HT4 HB4 H14 H5a HB45 H6 HB6 HMga HMn hNi
   go_wp2
   go_loopw [30,11] (fun j _ wr=>∃ k:Nat,j=.int .i64 k∧aa (k≤8∧tc w wr B M ga G ks (dD ks k 1000003).2 (kP ks k) N (.slice none 0 0) [])) (fun j _ _=>8 - (intOf j).toNat)
   case atStart=>exact⟨0,rfl,⟨⟨Nat.zero_le _,HS6.out⟩⟩⟩
   case round=>
    obtain⟨k,rfl,HI⟩:=hrel
    obtain⟨hk,hS⟩:=HI.out
    have hbd:=pg ks 1000003 k
    have hov:=oD ks 1000003
    obtain⟨a,ha⟩:=nm_ ((dD ks k 1000003).2)
    rw[←ha] at hS hbd
    by_cases hk8:k < 8
    ·have hk8':(k:Int) < 8:=by omega
     have HCl:=ak_ (HDl.out _ _ _ _ _ hS k (by omega) hbd.1 (by have:=HKl.out;omega))
     have HRs:=ak_ (ul ks hk8)
     have HAa:=ak_ ha
     have HS:=ak_ hS
     have HK:=ak_ hk8
     obtain⟨d,hd⟩:=nm_ (gE ks a)
     rw[←hd] at HCl
     have HD:=ak_ hd
     have HRl:=ak_ (mR ks hk)
     have hrk:∃ z,(kP ks k)[k]?=some z:=⟨_,List.getElem?_eq_getElem (by rw[mR ks hk];exact hk8)⟩
     have HRk:=ak_ hrk
     clear hk hS hbd hov ha hk8 HI hd hrk
     go_wp2_with (first
      | (go_at_call 117;refine HCl.out.mono ?_;rintro e w8 ⟨rfl,h8,hf8⟩;have H8:=ak_ h8;have HF8:=ak_ hf8;have HcG:=ak_ ((hf8.block G (ai HS.out.c) (by have:=HOr.out;omega)).trans HS.out.c);obtain⟨z,hz⟩:=HRk.out;have cG:=(show w8.cell? ⟨G,k,none⟩=some (.int .i64 z) by rw[ap HcG.out];unfold cac;rw[List.getElem?_append_left (by rw[List.length_map,HRl.out];exact HK.out),List.getElem?_map,hz];rfl);have fG:=aq HcG.out k;clear h8 hf8 hz))
     have hset:=vp (kP ks k) k (by rw[HRl.out];exact HK.out) d (.slice none 0 0) (.slice none 0 0) (N:Int)
     have h9:=aJ HcG.out k (.int .i64 d)
     rw[hset] at h9
     have hf9:Fr (fun j=>j=ga∨j=G) wr (w8.setCell ⟨G,k,none⟩ (.int .i64 d)):=(HF8.out.mono fun k _ e=>.inl e).trans (Fr.cell (S:=fun j=>j=ga∨j=G) (p:=⟨G,k,none⟩) (.inr rfl) _)
     have hSn:=HS.out.move hf9 (fun k e=>by have:=HOr.out;omega) HOr.out.1 HBe.out (a8 H8.out (p:=⟨G,k,none⟩) (by have:=HOr.out;show ga≠G;omega) _) h9 (Kd.R_nil _ _ _ _ _)
     rw[HD.out,HAa.out,HRs.out] at hSn
     rw[HD.out,HAa.out]
     go_roundw
     case rel=>exact⟨k+1,by go_num,⟨⟨HK.out,hSn⟩⟩⟩
     case measure=>have:=HK.out;simp[intOf];omega
    ·obtain rfl:k=8:=by omega
     obtain⟨R0,hR0⟩:=nm_ (kP ks 8)
     rw[←hR0] at hS
     have HR0:=ak_ hR0
     have HR8:=ak_ (show R0.length=8 by rw[hR0];exact mR ks (Nat.le_refl _))
     have HAa:=ak_ ha
     have HBd:=ak_ (show 1000003≤a∧a+fE ks a≤1000003+400+8 from ⟨hbd.1,by have:=HKl.out;omega⟩)
     have c10:=(show wr.cell? ⟨G,10,none⟩=some (.int .i64 (N:Int)) by rw[ap hS.c,show 10=8+2 from rfl,dw HR8.out];rfl)
     have HS:=ak_ hS
     have HA35:=ak_ (show ∀ W,(isAgg 35).run Tryz.prog W=.ok false W from fun W=>by kernel_rfl)
     clear hk hS hbd hov ha hk8 HI hR0
     go_wp2
     obtain⟨wo,hwo⟩:=nm_ wr
     clear c10
     go_loopw [41] (fun j wr=>∃ (k:Nat) (vA:Value),j=.int .i64 k∧aa (k≤N∧tc w wr B M ga G ks (dD ks k a).2 R0 N vA (dD ks k a).1)) (fun j _=>N - (intOf j).toNat)
     case atStart=>exact⟨0,_,rfl,⟨⟨Nat.zero_le _,HS.out⟩⟩⟩
     case round=>
      obtain⟨k,vA,rfl,HI⟩:=hrel
      obtain⟨hk,hS⟩:=HI.out
      by_cases hkN:k < N
      ·have hkN':(k:Int) < (N:Int):=by omega
       have hbd:=pg ks a k
       have hov:=oD ks a
       have hal:=fT ks a k
       obtain⟨b,hb⟩:=nm_ ((dD ks k a).2)
       obtain⟨ans,hans⟩:=nm_ ((dD ks k a).1)
       rw[←hb] at hS hbd
       rw[←hans] at hS hal
       have HNb:=ak_ (show dD ks (k+1) a=(ans++[gE ks b],gE ks b+1) by rw[dD,←hb,←hans])
       obtain⟨AX,cX,rfl⟩:=Kd.R_slice hS.rA
       obtain⟨d,hd⟩:=nm_ (gE ks b)
       obtain⟨w7,hw7⟩:=nm_ wr
       rw[←hw7] at hS ⊢
       have HDl2:=ak_ (fun (W:World) (hf:Fr (fun k=>k=ga∨k=G∨some k=(Value.slice AX ans.length cX).ownBlock) w7 W) (h2:W.heap[ga]?=some (.cells #[.int .i64 b] 2 (0,0)))=>show Calls Tryz.prog 117 #[.pointer (some ⟨M+1,0,none⟩),.pointer (some ⟨ga,0,none⟩)] W fun e w'=>e=.returned (.int .i64 d)∧w'.heap[ga]?=some (.cells #[.int .i64 (d+1)] 2 (0,0))∧Fr (fun k=>k=ga) W w' by
        have hS':∀ k,(k=ga∨k=G∨some k=(Value.slice AX ans.length cX).ownBlock)→M+1 < k:=fun k e=>by
         have:=HOr.out
         rcases e with e | e | e
         ·omega
         ·omega
         ·have:=hS.rA.1 k e.symm;omega
        have:=HBd.out
        have:=HNl.out
        rw[hd]
        exact oZ ks b (M+1) ga M W ((hf.block (M+1) (ai hS.t) (fun e=>by have:=hS' _ e;omega)).trans hS.t) h2 (hS.m.fr hf (fun e=>by have:=hS' _ e;omega)) (by have:=HOr.out;omega) (by have:=HOr.out;omega) (by omega) (by omega) (by have:=HKl.out;omega))
       have HS7:=ak_ hS
       have HD:=ak_ hd
       have HK:=ak_ hkN
       have HLn:=ak_ (show ans.length≤1000 by have:=HNl.out;omega)
       clear hk hS hkN hbd hov hal hb hans HI hd hw7 hwo HDl HS HS6
       go_upto_region 17 with fail
       refine bh (σ:=Nat × Value) [3,4,5,7] (fun q=>[(43,.pointer (some ⟨G,9,none⟩)),(44,.slice AX ans.length cX),(45,.func (.func 117) #[] #[.pointer (some ⟨M+1,0,none⟩),.pointer (some ⟨ga,0,none⟩)]),(46,.int .i64 d),(47,.slice (some ⟨q.1,0,none⟩) 1 1),(48,q.2),(49,.pointer (some ⟨G,9,none⟩))])
        (fun bs q W=>Fr (fun k=>k=ga∨k=G∨some k=(Value.slice AX ans.length cX).ownBlock) w7 W∧W.heap[ga]?=some (.cells #[.int .i64 (if bs.getD 0 false=true then d+1 else b)] 2 (0,0))∧W.heap[G]?=some (.cells (cac R0 (.slice none 0 0) (if bs.getD 3 false=true then q.2 else (.slice AX ans.length cX)) N).toArray 37 (0,0))∧(if bs.getD 2 false=true then Kd.R (Kd.int .i64) 2 W G (fun k=>G < k) q.2 (ans++[d]) else Kd.R (Kd.int .i64) 2 W G (fun k=>G < k) (.slice AX ans.length cX) ans)∧(bs.getD 1 false=true→bs.getD 2 false=false→W.heap[q.1]?=some (.cells #[.int .i64 d] 2 (0,0))∧w7.heap.size≤q.1)) (0,undef) (by kernel_rfl) (by kernel_rfl) (by kernel_rfl) (fun _=>by kernel_rfl) ?_
       intro aF haF
       simp only[bd,Act.put,List.setIfInBounds_toArray,List.set_cons_succ,List.set_cons_zero] at haF
       subst haF
       refine⟨?_,?_,⟨Fr.drew,HS7.out.a,HS7.out.c,Kd.R_below HS7.out.rA (az (Below.refl _ _)),fun e=>Bool.noConfusion e⟩,?_⟩
       ·intro j o ho hct s_1 W bs hlen hok hI
        rcases j with _ | _ | _ | _ | _ | _ | _ | _ | j
        all_goals first | exact absurd hct (by decide) | (obtain rfl:=Option.some.inj ho) | exact absurd (Array.getElem?_eq_some_iff.1 ho).1 (by simp)
        ·exact ab rfl (by go_simp) ⟨rfl,hI⟩
        ·obtain⟨b0,b1,b2,b3,rfl⟩:=yq hlen
         obtain rfl:=okF hok 3 rfl rfl rfl (by kernel_rfl)
         exact ab rfl (al rfl rfl (aE (HA35.out W) (show W.cell? ⟨G,9,none⟩=some (.slice AX ans.length cX) by rw[ap hI.2.2.1,show 9=8+1 from rfl,dw HR8.out];rfl))) ⟨rfl,hI⟩
        ·exact ab rfl (by go_simp) ⟨rfl,hI⟩
        ·exact ab rfl (by go_simp) ⟨rfl,hI⟩
       ·intro k_1 j o hk ho s_1 W bs hlen hok hI
        rcases k_1 with _ | _ | _ | _ | k
        all_goals first | (obtain rfl:=Option.some.inj hk;obtain rfl:=Option.some.inj ho) | exact absurd hk (by simp)
        ·obtain⟨b0,b1,b2,b3,rfl⟩:=yq hlen
         obtain rfl:=okS hok 0 rfl rfl
         obtain rfl:=okF hok 1 rfl rfl rfl (by kernel_rfl)
         obtain rfl:=okF hok 2 rfl rfl rfl (by kernel_rfl)
         obtain rfl:=okF hok 3 rfl rfl rfl (by kernel_rfl)
         obtain⟨i1,i2,i3,i4,i5⟩:=hI
         refine jO (caps:=#[.pointer (some ⟨M+1,0,none⟩),.pointer (some ⟨ga,0,none⟩)]) rfl Tryz.func117 (by kernel_rfl) rfl rfl #[.pointer (some ⟨M+1,0,none⟩),.pointer (some ⟨ga,0,none⟩)] rfl rfl ((HDl2.out W i1 i2).mono fun e w' h=>?_)
         obtain⟨h1,h2,h3⟩:=h
         exact⟨_,h1,s_1,[],rfl,rfl,rfl,⟨i1.trans (h3.mono fun k _ e=>.inl e),h2,(h3.block G (ai i3) (by have:=HOr.out;omega)).trans i3,Kd.R_step i4 (fun k hk hl=>h3.block k hl (by have:=HOr.out;omega)),fun e=>Bool.noConfusion e⟩⟩
        ·obtain⟨b0,b1,b2,b3,rfl⟩:=yq hlen
         obtain rfl:=okS hok 1 rfl rfl
         obtain rfl:=okT hok 0 rfl rfl rfl (by kernel_rfl)
         obtain rfl:=okF hok 2 rfl rfl rfl (by kernel_rfl)
         obtain rfl:=okF hok 3 rfl rfl rfl (by kernel_rfl)
         obtain⟨i1,i2,i3,i4,i5⟩:=hI
         exact ab (v:=.slice (some ⟨W.heap.size,0,none⟩) 1 1) (w':=W.alloc (.cells #[.int .i64 d] 2)) rfl (by go_simp) ⟨(W.heap.size,s_1.2),[(47,.slice (some ⟨W.heap.size,0,none⟩) 1 1)],rfl,rfl,by kernel_rfl,⟨i1.trans (Fr.of_below (ae (Below.refl _ _) _)),aK i2 _,aK i3 _,Kd.R_below i4 (ae (Below.refl _ _) _),fun _ _=>⟨heap_alloc_last W _,i1.size⟩⟩⟩
        ·obtain⟨b0,b1,b2,b3,rfl⟩:=yq hlen
         obtain rfl:=okS hok 2 rfl rfl
         obtain rfl:=okT hok 0 rfl rfl rfl (by kernel_rfl)
         obtain rfl:=okT hok 1 rfl rfl rfl (by kernel_rfl)
         obtain rfl:=okF hok 3 rfl rfl rfl (by kernel_rfl)
         obtain⟨i1,i2,i3,i4,i5⟩:=hI
         obtain⟨j1,j2⟩:=i5 rfl rfl
         obtain⟨v1,w1,r1,r2,r3,r4⟩:=jD (P:=Tryz.prog) (Kd.int .i64) G 35 35 2 (.int .i64 0) 8 Tryz.underlying35 j9 rfl (by decide) (by decide) (.slice AX ans.length cX) ans d [.int .i64 d] (fun k=>G < k) (fun _=>False) ⟨s_1.1,0,none⟩ (kw (cs:=[.int .i64 d]) j1) rfl (fun k hk=>hk.elim) (fun k hk=>by have:=ai i3;omega) i4 (by have:=ai i3;omega) (by have:=HLn.out;omega)
         refine ab rfl (iZ rfl rfl rfl r1) ⟨(s_1.1,v1),[(48,v1)],rfl,rfl,by kernel_rfl,⟨i1.trans (Fr.grown r3 (fun k hk=>.inr (.inr hk))),(r3.block ga (ai i2) (fun e=>by have:=i4.1 ga e.symm;have:=HOr.out;omega)).trans i2,(r3.block G (ai i3) (fun e=>by have:=i4.1 G e.symm;omega)).trans i3,r2,fun _ e=>Bool.noConfusion e⟩⟩
        ·obtain⟨b0,b1,b2,b3,rfl⟩:=yq hlen
         obtain rfl:=okS hok 3 rfl rfl
         obtain rfl:=okT hok 0 rfl rfl rfl (by kernel_rfl)
         obtain rfl:=okT hok 2 rfl rfl rfl (by kernel_rfl)
         obtain⟨i1,i2,i3,i4,i5⟩:=hI
         have i4':Kd.R (Kd.int .i64) 2 W G (fun k=>G < k) s_1.2 (ans++[d]):=i4
         obtain⟨A1,c1,he⟩:=Kd.R_slice i4'
         obtain⟨hv1,hv2⟩:=dz _ _ _ _ he
         have hset:(cac R0 (.slice none 0 0) (.slice AX ans.length cX) (N:Int)).set 9 s_1.2=cac R0 (.slice none 0 0) s_1.2 N:=by rw[show 9=8+1 from rfl,jB HR8.out];rfl
         have h9:(W.setCell ⟨G,9,none⟩ s_1.2).heap[G]?=some (.cells (cac R0 (.slice none 0 0) s_1.2 (N:Int)).toArray 37 (0,0)):=by
          have h:=aJ (L:=cac R0 (.slice none 0 0) (.slice AX ans.length cX) (N:Int)) i3 9 s_1.2
          rw[hset] at h
          exact h
         have hne:∀ k,G < k→k≠G:=fun k h=>by omega
         exact aV rfl 35 _ _ rfl G 9 s_1.2 (.slice AX ans.length cX) rfl rfl hv1 hv2 (by kernel_rfl) (show W.cell? ⟨G,9,none⟩=some (.slice AX ans.length cX) by rw[ap i3,show 9=8+1 from rfl,dw HR8.out];rfl) (aq i3 9) ⟨s_1,[],rfl,rfl,rfl,⟨i1.trans (Fr.cell (S:=fun k=>k=ga∨k=G∨some k=(Value.slice AX ans.length cX).ownBlock) (p:=⟨G,9,none⟩) (.inr (.inl rfl)) _),a8 i2 (p:=⟨G,9,none⟩) (by have:=HOr.out;show ga≠G;omega) _,h9,Kd.R_far i4' (p:=⟨G,9,none⟩) hne _,fun _ e=>Bool.noConfusion e⟩⟩
       ·intro q W hI
        obtain⟨i1,i2,i3,i4,i5⟩:=hI
        have hSn:tc w W B M ga G ks (d+1) R0 N q.2 (ans++[d]):=HS7.out.move i1 (fun k e=>by
         have:=HOr.out
         rcases e with e | e | e
         ·omega
         ·omega
         ·have:=HS7.out.rA.1 k e.symm;omega) HOr.out.1 HBe.out i2 i3 i4
        have HSn:=ak_ hSn
        clear hSn i1 i2 i3 i4 i5
        go_wp2
        go_roundw
        case rel=>exact⟨k+1,q.2,by go_num,⟨⟨HK.out,by rw[HNb.out,←HD.out];exact HSn.out⟩⟩⟩
        case measure=>have:=HK.out;simp[intOf];omega
      ·have hkN':¬ (k:Int) < (N:Int):=by omega
       obtain rfl:N=k:=by omega
       obtain⟨ans,hans⟩:=nm_ ((dD ks N a).1)
       rw[←hans] at hS
       obtain⟨AX,cX,rfl⟩:=Kd.R_slice hS.rA
       have HS7:=ak_ hS
       have HAn:=ak_ hans
       clear hk hS hkN HI hans HS HS6
       go_wp2_with (first
        | ((with_reducible refine aj (N:=51) rfl ?_);refine wpList_load_row rfl 37 _ rfl G rfl 37 _ (0,0) _ HS7.out.c Tryz.underlying37 rfl (bq HR8.out) ?_)
        | ((with_reducible refine ao (t:=37) (p:=4) rfl ?_);refine an rfl 37 _ _ rfl B (cac R0 (.slice none 0 0) (.slice AX ans.length cX) (N:Int)).toArray rfl rfl 37 dR HS7.out.z (bq HR8.out) (caz HR8.out) fC ?_;intro w8 h8 hf8;have H8:=ak_ h8;have HF8:=ak_ hf8;clear h8 hf8))
       refine bodyPost_ret (v:=.agg (cac R0 (.slice none 0 0) (.slice AX ans.length cX) (N:Int)).toArray) (results_cell_row rfl _ _ B 37 _ (0,0) _ rfl H8.out Tryz.underlying37 rfl (bq HR8.out)) rfl ⟨_,rfl,?_,Fr.below HS7.out.b HF8.out (fun k hk e=>by have:=HBe.out;omega) HS7.out.b.size⟩
       have hc:aQ f g=⟨R0,[],ans,(N:Int)⟩:=by
        unfold aQ frN
        unfold frK
        rw[←HKs.out,←HAa.out,←HN.out,←HAn.out,HR0.out]
        unfold kP
        simp
       rw[hc]
       exact⟨.slice none 0 0,.slice AX ans.length cX,rfl,HR8.out,RdT.nil _ _ _,(RdT.of_R HS7.out.rA).fr aC HF8.out (fun k cs fr e=>by subst e;rw[HS7.out.z];simp)⟩
theorem Az (f g:List In) (Af Ag:Option Addr) (cf cg:Nat) (fuel:Int) (w:World) (hf:f.length≤200) (hg:g.length≤200) (hCf:Kd.C kIn w Af f.length f) (hcf:f.length≤cf) (hCg:Kd.C kIn w Ag g.length g) (hcg:g.length≤cg) :
  Calls Tryz.prog 88 #[.slice Af f.length cf,.slice Ag g.length cg,.int .i64 0,.int .i64 fuel] w fun e w'=>∃ v,e=.returned v∧CaV w' (aQ f g) v∧Below w.heap.size w w':=by
 have HF:=ak_ (fun W hb=>uq f g Af Ag cf cg W hf hg (Kd.C_below hCf hb) hcf (Kd.C_below hCg hb) hcg)
 obtain⟨c,hc⟩:=nm_ (aQ f g)
 rw[←hc] at HF ⊢
 clear hf hg hCf hcf hCg hcg hc
 obtain⟨w1,hw1⟩:∃ w1,w1=w.alloc (.cells dR 37):=⟨_,rfl⟩
 obtain⟨B,hB⟩:=mn_ w.heap.size
 have H1:=ak_ (show w1.heap[B]?=some (.cells dR 37 (0,0)) by rw[hw1,←hB];exact heap_alloc_last w _)
 have HB1:=ak_ (show Below w.heap.size w w1 by rw[hw1];exact ae (Below.refl _ _) _)
 have HW1:=ak_ hw1
 have HBe:=ak_ hB
 clear hw1
 go_enter Tryz.func88,Tryz.ntmps88
 go_upto_region 1 with fail
 refine ar HW1.out.symm ?_
 clear hB HW1
 go_wp2_with (first
  | (go_at_call 102;refine(HF.out w1 HB1.out).mono ?_;rintro e w2 ⟨v,rfl,⟨vH,vA,rfl,h8,hH,hA⟩,hb⟩;obtain⟨AH,cH,rfl,zH⟩:=hH;obtain⟨AA,cA,rfl,zA⟩:=hA;have H8:=ak_ h8;have HH:=ak_ (show RdT (Kd.int .i64) 2 w2 (.slice AH c.h.length cH) c.h from ⟨AH,cH,rfl,zH⟩);have HA:=ak_ (show RdT (Kd.int .i64) 2 w2 (.slice AA c.ans.length cA) c.ans from ⟨AA,cA,rfl,zA⟩);have H2:=ak_ (ag H1.out hb);have HB2:=ak_ (af HB1.out hb);clear h8 zH zA hb)
  | ((with_reducible refine ao (t:=37) (p:=8) rfl ?_);refine an rfl 37 _ _ rfl B (cac c.r (.slice AH c.h.length cH) (.slice AA c.ans.length cA) c.fuel).toArray rfl rfl 37 dR H2.out (bq H8.out) (caz H8.out) fC ?_;intro w3 h3 hf3;have H3:=ak_ h3;have HF3:=ak_ hf3;clear h3 hf3))
 exact bodyPost_ret (v:=.agg (cac c.r (.slice AH c.h.length cH) (.slice AA c.ans.length cA) c.fuel).toArray) (results_cell_row rfl _ _ B 37 _ (0,0) _ rfl H3.out Tryz.underlying37 rfl (bq H8.out)) rfl ⟨_,rfl,⟨_,_,rfl,H8.out,HH.out.fr aC HF3.out (fun k cs fr e=>by subst e;rw[H2.out];simp),HA.out.fr aC HF3.out (fun k cs fr e=>by subst e;rw[H2.out];simp)⟩,Fr.below HB2.out HF3.out (fun k hk e=>by have:=HBe.out;omega) HB2.out.size⟩
def gX (f g:List In) (c:Ca):Bool:=(dt f g c).1 != 0
structure s9 (w:World) (f g:List In) (gf gg:Nat) (Af Ag:Option Addr) (cf cg:Nat):Prop where
 bf:w.heap[gf]?=some (.cells #[.slice Af f.length cf] 22 (0,0))
 bg:w.heap[gg]?=some (.cells #[.slice Ag g.length cg] 22 (0,0))
 cf:Kd.C kIn w Af f.length f
 cg:Kd.C kIn w Ag g.length g
 gl:Gl w
theorem s9.below {w W:World} {f g:List In} {gf gg:Nat} {Af Ag:Option Addr} {cf cg:Nat} (h:s9 w f g gf gg Af Ag cf cg) (hb:Below w.heap.size w W):s9 W f g gf gg Af Ag cf cg:=⟨ag h.bf hb,ag h.bg hb,Kd.C_below h.cf hb,Kd.C_below h.cg hb,h.gl.below hb⟩
theorem nV (f g:List In) (gf gg:Nat) (Af Ag:Option Addr) (cf cg:Nat) (hcf:f.length≤cf) (hcg:g.length≤cg) (c:Ca) (vC:Value) (w:World) (h:s9 w f g gf gg Af Ag cf cg) (hV:CaV w c vC) (hh:c.h.length≤5000) (ha:c.ans.length≤100000) :
  Calls Tryz.prog 60 #[vC,.pointer (some ⟨gf,0,none⟩),.pointer (some ⟨gg,0,none⟩)] w fun e w'=>e=.returned (.bool (gX f g c))∧Below w.heap.size w w':=by
 have hV0:=hV
 obtain⟨vH,vA,rfl,h8,_,_⟩:=hV
 obtain⟨L,hL⟩:=nm_ (cac c.r vH vA c.fuel)
 have hLi:(Tryz.prog.info? 37).map (·.size)=some L.toArray.size:=by rw[hL];exact bq h8
 obtain⟨w1,hw1⟩:∃ w1,w1=w.alloc (.cells L.toArray 37):=⟨_,rfl⟩
 obtain⟨B,hB⟩:=mn_ w.heap.size
 have h1:w1.heap[B]?=some (.cells L.toArray 37 (0,0)):=by rw[hw1,←hB];exact heap_alloc_last w _
 have hb1:Below w.heap.size w w1:=by rw[hw1];exact ae (Below.refl _ _) _
 have h':=h.below hb1
 have hT:=iI f g Af Ag cf cg c _ w1 h'.gl h'.cf hcf h'.cg hcg (hV0.below hb1) hh ha
 rw[←hL] at hT ⊢
 have c1:=(show w1.cell? ⟨gf,0,none⟩=some (.slice Af f.length cf) by rw[ah h'.bf];rfl)
 have c2:=(show w1.cell? ⟨gg,0,none⟩=some (.slice Ag g.length cg) by rw[ah h'.bg];rfl)
 obtain⟨t,ht⟩:=nm_ (dt f g c)
 have hb:gX f g c=(t.1 != 0):=by rw[ht];rfl
 rw[hb]
 rw[←ht] at hT
 obtain⟨b,hb⟩:=nm_ ((t.1 != 0))
 have q:(t.1 != 0)=b:=hb.symm
 rw[←hb]
 have HT:=ak_ hT
 have HW1:=ak_ hw1
 have H1:=ak_ h1
 have HLi:=ak_ hLi
 have HB1:=ak_ hb1
 clear hV0 hL hLi hw1 h1 hb1 h' hT ht hb h h8 hh ha
 go_enter Tryz.func60,Tryz.ntmps60
 go_upto_region 1 with fail
 refine ar HW1.out.symm ?_
 clear hB HW1
 go_wp2_with (first
  | ((with_reducible refine aj (N:=10) rfl ?_);refine ax rfl _ (al rfl rfl (aT (P:=Tryz.prog) H1.out Tryz.underlying37 rfl HLi.out)) ?_)
  | (go_at_call 9;refine HT.out.mono ?_;rintro e w2 ⟨rfl,hb⟩;have HB2:=ak_ (af HB1.out hb);clear hb))
 go_ret
 exact⟨rfl,HB2.out⟩
theorem RdT.take {α:Type} {d:Kd α} {t:Nat} {W:World} {A:Option Addr} {c:Nat} {xs:List α} (h:RdT d t W (.slice A xs.length c) xs) {n:Nat} (hn:n≤xs.length):RdT d t W (.slice A n c) (xs.take n):=by
 obtain⟨Aq,cq,e,h2,⟨h3,h4,h5⟩,h6⟩:=h
 injection e with e1 e2 e3
 subst e1
 subst e3
 have hl:(xs.take n).length=n:=by simp;omega
 refine⟨A,c,by rw[hl],by omega,⟨rfl,by omega,fun h0=>?_⟩,h6⟩
 obtain⟨ad,ea,h7⟩:=h5 (by omega)
 refine⟨ad,ea,fun j p hp=>h7 j p ?_⟩
 rw[List.getElem?_take_of_lt (by have:=(List.getElem?_eq_some_iff.1 hp).1;omega)] at hp
 exact hp
def CaB (W:World) (g:Nat) (c:Ca):Prop:=∃ A n B m,W.heap[g]?=some (.cells (cac c.r (.slice A c.h.length n) (.slice B c.ans.length m) c.fuel).toArray 37 (0,0))∧c.r.length=8∧RdT (Kd.int .i64) 2 W (.slice A c.h.length n) c.h∧RdT (Kd.int .i64) 2 W (.slice B c.ans.length m) c.ans
theorem CaB.below {W W':World} {g:Nat} {c:Ca} (h:CaB W g c) (hb:Below W.heap.size W W'):CaB W' g c:=by
 obtain⟨A,n,B,m,h1,h2,h3,h4⟩:=h
 exact⟨A,n,B,m,ag h1 hb,h2,h3.below hb,h4.below hb⟩
def pj (gf gg:Nat):Value:=.func (.func 60) #[] #[.pointer (some ⟨gf,0,none⟩),.pointer (some ⟨gg,0,none⟩)]
theorem zy (f g:List In) (gf gg gc gt:Nat) (Af Ag:Option Addr) (cf cg:Nat) (hcf:f.length≤cf) (hcg:g.length≤cg) (c:Ca) (n:Int) (w:World) (h:s9 w f g gf gg Af Ag cf cg) (hc:CaB w gc c) (ht:w.heap[gt]?=some (.cells #[pj gf gg] 156 (0,0))) (hh:c.h.length≤5000) (ha:c.ans.length≤100000) :
  Calls Tryz.prog 62 #[.int .i64 n,.pointer (some ⟨gc,0,none⟩),.pointer (some ⟨gt,0,none⟩)] w fun e w'=>e=.returned (.bool (gX f g { c with fuel:=n }))∧Below w.heap.size w w':=by
 obtain⟨A,k,B,m,hgc,h8,hH,hA⟩:=hc
 obtain⟨b,hb⟩:=nm_ (gX f g { c with fuel:=n })
 have HC:=ak_ (fun (W:World) (hb:Below w.heap.size w W)=>nV f g gf gg Af Ag cf cg hcf hcg { c with fuel:=n } (.agg (cac c.r (.slice A c.h.length k) (.slice B c.ans.length m) n).toArray) W (h.below hb) ⟨_,_,rfl,h8,hH.below hb,hA.below hb⟩ hh ha)
 rw[←hb] at HC ⊢
 unfold pj at ht
 have ct:=(show w.cell? ⟨gt,0,none⟩=some (.func (.func 60) #[] #[.pointer (some ⟨gf,0,none⟩),.pointer (some ⟨gg,0,none⟩)]) by rw[ah ht];rfl)
 have HGc:=ak_ hgc
 have H8:=ak_ h8
 clear hb h ht hgc h8 hH hA hh ha
 go_enter Tryz.func62,Tryz.ntmps62
 go_upto_region 2 with (first
  | ((with_reducible refine aj (N:=6) rfl ?_);refine ax rfl _ (al rfl rfl (aT (P:=Tryz.prog) HGc.out Tryz.underlying37 rfl (bq H8.out))) ?_)
  | ((with_reducible refine ao (t:=37) (p:=5) rfl ?_);refine an rfl 37 _ _ rfl w.heap.size (cac c.r (.slice A c.h.length k) (.slice B c.ans.length m) c.fuel).toArray rfl rfl 37 dR (heap_alloc_last w _) (bq H8.out) (caz H8.out) fC ?_;intro w2 h2 hf2;have H2:=ak_ h2;have HB2:=ak_ (bV hf2);clear h2 hf2))
 obtain⟨G,hG⟩:=mn_ w.heap.size
 rw[hG] at H2 ⊢
 have HG:=ak_ hG
 have c10:=(show w2.cell? ⟨G,10,none⟩=some (.int .i64 c.fuel) by rw[ap H2.out,show 10=8+2 from rfl,dw H8.out];rfl)
 have f10:=aq H2.out 10
 have ct2:=ak HB2.out ct
 clear hG ct
 go_upto_region 3 with fail
 obtain⟨w3,hw3⟩:∃ w3,w3=w2.setCell ⟨G,10,none⟩ (.int .i64 n):=⟨_,rfl⟩
 refine ar hw3.symm ?_
 have h3:w3.heap[G]?=some (.cells (cac c.r (.slice A c.h.length k) (.slice B c.ans.length m) n).toArray 37 (0,0)):=by rw[hw3,aJ H2.out,show 10=8+2 from rfl,jB H8.out];rfl
 have hb3:Below w.heap.size w w3:=by rw[hw3];exact Fr.below HB2.out (Fr.cell (S:=fun j=>j=G) (p:=⟨G,10,none⟩) rfl _) (fun k hk e=>by have:=HG.out;omega) HB2.out.size
 have ct3:=(show w3.cell? ⟨gt,0,none⟩=some (.func (.func 60) #[] #[.pointer (some ⟨gf,0,none⟩),.pointer (some ⟨gg,0,none⟩)]) from by
  have hlt:=World.block_lt_of_cell? w2 ⟨gt,0,none⟩ ct2
  rw[hw3]
  exact(Fr.cell (S:=fun j=>j=G) (a:=w2) (p:=⟨G,10,none⟩) rfl (.int .i64 n)).cell_at ct2 (fun e=>by
   have e:gt=G:=e
   subst e
   rw[ap H2.out] at ct2
   unfold cac at ct2
   rw[List.getElem?_append_left (by rw[List.length_map,H8.out];decide),List.getElem?_map] at ct2
   cases hr:c.r[0]? with
   | none=>rw[hr] at ct2;simp at ct2
   | some z=>rw[hr] at ct2;simp at ct2))
 have H3:=ak_ h3
 have HB3:=ak_ hb3
 clear hw3 h3 hb3 c10 f10 ct2
 go_wp2_with (first
  | ((with_reducible refine aj (N:=10) rfl ?_);refine ax rfl _ (al rfl rfl (aT (P:=Tryz.prog) H3.out Tryz.underlying37 rfl (bq H8.out))) ?_)
  | (go_at_call 60;refine(HC.out w3 HB3.out).mono ?_;rintro e w4 ⟨rfl,hb⟩;have HB4:=ak_ (af HB3.out hb);clear hb))
 go_ret
 exact⟨rfl,HB4.out⟩
theorem zx (f g:List In) (gf gg gc gt:Nat) (Af Ag:Option Addr) (cf cg:Nat) (hcf:f.length≤cf) (hcg:g.length≤cg) (c:Ca) (n:Nat) (hn:n≤c.ans.length) (w:World) (h:s9 w f g gf gg Af Ag cf cg) (hc:CaB w gc c) (ht:w.heap[gt]?=some (.cells #[pj gf gg] 156 (0,0))) (hh:c.h.length≤5000) (ha:c.ans.length≤100000) :
  Calls Tryz.prog 63 #[.int .i64 (n:Int),.pointer (some ⟨gc,0,none⟩),.pointer (some ⟨gt,0,none⟩)] w fun e w'=>e=.returned (.bool (gX f g { c with ans:=c.ans.take n }))∧Below w.heap.size w w':=by
 obtain⟨A,k,B,m,hgc,h8,hH,hA⟩:=hc
 have hcm:c.ans.length≤m:=by obtain⟨_,_,e,h,_⟩:=hA;injection e with _ _ e;omega
 obtain⟨b,hb⟩:=nm_ (gX f g { c with ans:=c.ans.take n })
 have hlt:(c.ans.take n).length=n:=by simp;omega
 have HC:=ak_ (fun (W:World) (hb:Below w.heap.size w W)=>nV f g gf gg Af Ag cf cg hcf hcg { c with ans:=c.ans.take n } (.agg (cac c.r (.slice A c.h.length k) (.slice B n m) c.fuel).toArray) W (h.below hb) ⟨_,_,rfl,h8,hH.below hb,(hA.take hn).below hb⟩ hh (by show (c.ans.take n).length≤_;omega))
 rw[←hb] at HC ⊢
 unfold pj at ht
 have ct:=(show w.cell? ⟨gt,0,none⟩=some (.func (.func 60) #[] #[.pointer (some ⟨gf,0,none⟩),.pointer (some ⟨gg,0,none⟩)]) by rw[ah ht];rfl)
 have c9:=(show w.cell? ⟨gc,9,none⟩=some (.slice B c.ans.length m) by rw[ap hgc,show 9=8+1 from rfl,dw h8];rfl)
 have HGc:=ak_ hgc
 have H8:=ak_ h8
 have hn':(n:Int)≤(c.ans.length:Int):=by omega
 have hm':(c.ans.length:Int)≤(m:Int):=by omega
 have hnm':(n:Int)≤(m:Int):=by omega
 clear hb h ht hgc h8 hH hA hh ha hlt
 go_enter Tryz.func63,Tryz.ntmps63
 go_upto_region 2 with (first
  | ((with_reducible refine aj (N:=6) rfl ?_);refine ax rfl _ (al rfl rfl (aT (P:=Tryz.prog) HGc.out Tryz.underlying37 rfl (bq H8.out))) ?_)
  | ((with_reducible refine ao (t:=37) (p:=5) rfl ?_);refine an rfl 37 _ _ rfl w.heap.size (cac c.r (.slice A c.h.length k) (.slice B c.ans.length m) c.fuel).toArray rfl rfl 37 dR (heap_alloc_last w _) (bq H8.out) (caz H8.out) fC ?_;intro w2 h2 hf2;have H2:=ak_ h2;have HB2:=ak_ (bV hf2);clear h2 hf2))
 obtain⟨G,hG⟩:=mn_ w.heap.size
 rw[hG] at H2 ⊢
 have HG:=ak_ hG
 have d9:=(show w2.cell? ⟨G,9,none⟩=some (.slice B c.ans.length m) by rw[ap H2.out,show 9=8+1 from rfl,dw H8.out];rfl)
 have f9:=aq H2.out 9
 have ct2:=ak HB2.out ct
 have c92:=ak HB2.out c9
 clear hG ct c9
 go_upto_region 3 with fail
 obtain⟨w3,hw3⟩:∃ w3,w3=w2.setCell ⟨G,9,none⟩ (.slice B n m):=⟨_,rfl⟩
 refine ar hw3.symm ?_
 have h3:w3.heap[G]?=some (.cells (cac c.r (.slice A c.h.length k) (.slice B n m) c.fuel).toArray 37 (0,0)):=by rw[hw3,aJ H2.out,show 9=8+1 from rfl,jB H8.out];rfl
 have hb3:Below w.heap.size w w3:=by rw[hw3];exact Fr.below HB2.out (Fr.cell (S:=fun j=>j=G) (p:=⟨G,9,none⟩) rfl _) (fun k hk e=>by have:=HG.out;omega) HB2.out.size
 have ct3:=(show w3.cell? ⟨gt,0,none⟩=some (.func (.func 60) #[] #[.pointer (some ⟨gf,0,none⟩),.pointer (some ⟨gg,0,none⟩)]) from by
  rw[hw3]
  exact(Fr.cell (S:=fun j=>j=G) (a:=w2) (p:=⟨G,9,none⟩) rfl (.slice B n m)).cell_at ct2 (fun e=>by
   have e:gt=G:=e
   subst e
   rw[ap H2.out] at ct2
   unfold cac at ct2
   rw[List.getElem?_append_left (by rw[List.length_map,H8.out];decide),List.getElem?_map] at ct2
   cases hr:c.r[0]? with
   | none=>rw[hr] at ct2;simp at ct2
   | some z=>rw[hr] at ct2;simp at ct2))
 have H3:=ak_ h3
 have HB3:=ak_ hb3
 clear hw3 h3 hb3 d9 f9 ct2 c92
 go_wp2_with (first
  | ((with_reducible refine aj (N:=13) rfl ?_);refine ax rfl _ (al rfl rfl (aT (P:=Tryz.prog) H3.out Tryz.underlying37 rfl (bq H8.out))) ?_)
  | (go_at_call 60;refine(HC.out w3 HB3.out).mono ?_;rintro e w4 ⟨rfl,hb⟩;have HB4:=ak_ (af HB3.out hb);clear hb))
 go_ret
 exact⟨rfl,HB4.out⟩
def eZ (p:Int→Bool):Nat→Int→Int→Int
 | 0,a,_=>a
 | n+1,a,b=>if a < b then (if p (a+(b - a) / 2)=true then eZ p n a (a+(b - a) / 2) else eZ p n (a+(b - a) / 2+1) b) else a
theorem jl (p:Int→Bool):∀ (n m:Nat) (a b:Int),(b - a).toNat≤n→(b - a).toNat≤m→eZ p n a b=eZ p m a b
 | 0,0,_,_,_,_=>rfl
 | 0,m+1,a,b,h,_=>by rw[eZ,eZ,if_neg (by omega)]
 | n+1,0,a,b,_,h=>by rw[eZ,eZ,if_neg (by omega)]
 | n+1,m+1,a,b,h1,h2=>by
  rw[eZ,eZ]
  by_cases h:a < b
  ·rw[if_pos h,if_pos h]
   by_cases hp:p (a+(b - a) / 2)=true
   ·rw[if_pos hp,if_pos hp]
    exact jl p n m _ _ (by omega) (by omega)
   ·rw[if_neg hp,if_neg hp]
    exact jl p n m _ _ (by omega) (by omega)
  ·rw[if_neg h,if_neg h]
def gq (p:Int→Bool) (a b:Int):Int:=eZ p (b - a).toNat a b
theorem sw {p:Int→Bool} {a b:Int} (h:a < b):gq p a b=if p (a+(b - a) / 2)=true then gq p a (a+(b - a) / 2) else gq p (a+(b - a) / 2+1) b:=by
 unfold gq
 obtain⟨n,hn⟩:∃ n,(b - a).toNat=n+1:=⟨(b - a).toNat - 1,by omega⟩
 rw[hn,eZ,if_pos h]
 by_cases hp:p (a+(b - a) / 2)=true
 ·rw[if_pos hp,if_pos hp]
  exact jl p _ _ _ _ (by omega) (by omega)
 ·rw[if_neg hp,if_neg hp]
  exact jl p _ _ _ _ (by omega) (by omega)
theorem sx {p:Int→Bool} {a:Int}:gq p a a=a:=by
 unfold gq
 rw[Int.sub_self]
 rfl
theorem j5 (p:Int→Bool):∀ (n:Nat) (a b:Int),a≤b→a≤eZ p n a b∧eZ p n a b≤b
 | 0,a,b,h=>⟨Int.le_refl _,h⟩
 | n+1,a,b,h=>by
  rw[eZ]
  by_cases h1:a < b
  ·rw[if_pos h1]
   by_cases hp:p (a+(b - a) / 2)=true
   ·rw[if_pos hp]
    have:=j5 p n a (a+(b - a) / 2) (by omega)
    omega
   ·rw[if_neg hp]
    have:=j5 p n (a+(b - a) / 2+1) b (by omega)
    omega
  ·rw[if_neg h1]
   omega
theorem nU (p:Int→Bool) (hi:Int) (h0:0≤hi) (h1:hi≤100000) (gc gt:Nat) (w:World) (hIs:∀ W,Below w.heap.size w W→∀ m,0≤m→m < hi→Calls Tryz.prog 62 #[.int .i64 m,.pointer (some ⟨gc,0,none⟩),.pointer (some ⟨gt,0,none⟩)] W fun e w'=>e=.returned (.bool (p m))∧Below W.heap.size W w') :
  Calls Tryz.prog 61 #[.int .i64 0,.int .i64 hi,.func (.func 62) #[] #[.pointer (some ⟨gc,0,none⟩),.pointer (some ⟨gt,0,none⟩)]] w fun e w'=>e=.returned (.int .i64 (gq p 0 hi))∧Below w.heap.size w w':=by
 have HIs:=ak_ hIs
 have HT:=ak_ (And.intro h0 h1)
 clear hIs h0 h1
 go_enter Tryz.func61,Tryz.ntmps61
 go_wp2
 go_loopw [0,1] (fun u v wr=>∃ a b:Int,u=.int .i64 a∧v=.int .i64 b∧aa (0≤a∧a≤b∧b≤hi∧gq p a b=gq p 0 hi∧Below w.heap.size w wr)) (fun u v _=>(intOf v - intOf u).toNat)
 case atStart=>exact⟨0,hi,rfl,rfl,⟨⟨Int.le_refl _,HT.out.1,Int.le_refl _,rfl,Below.refl _ _⟩⟩⟩
 case round=>
  obtain⟨a,b,rfl,rfl,HI⟩:=hrel
  obtain⟨ha,hab,hb,hl,hB⟩:=HI.out
  by_cases hlt:a < b
  ·have hto:=HT.out
   have hm1:a+(b - a) / 2 < b:=by omega
   have hm0:0≤a+(b - a) / 2:=by omega
   have hba:0≤b - a:=by omega
   have hbb:b≤100000:=by omega
   obtain⟨m,hm⟩:=nm_ (a+(b - a) / 2)
   have hC:=HIs.out wr hB m (by omega) (by omega)
   have hL:=sw (p:=p) hlt
   rw[hl,←hm] at hL
   have HM:=ak_ (show a≤m∧m < b by omega)
   have HL:=ak_ hL
   have HB:=ak_ hB
   have HBb:=ak_ hb
   obtain⟨y,hy⟩:=nm_ (p m)
   rw[←hy] at hC HL
   have HC:=ak_ hC
   have hm':a+(b - a) / 2=m:=hm.symm
   have hmb:m≤100000:=by omega
   have hm00:0≤m:=by omega
   clear hl hB hb hC hL hy hto HI hm hm1 hm0
   cases y with
   | true=>
    go_wp2_with (first | (go_at_call 62;refine HC.out.mono ?_;rintro e w2 ⟨rfl,hb2⟩;have HB2:=ak_ (af HB.out hb2);clear hb2))
    go_roundw
    case rel=>exact⟨a,m,rfl,rfl,⟨⟨ha,HM.out.1,by have:=HM.out;have:=HBb.out;omega,by rw[HL.out];simp,HB2.out⟩⟩⟩
    case measure=>have:=HM.out;simp[intOf];omega
   | false=>
    go_wp2_with (first | (go_at_call 62;refine HC.out.mono ?_;rintro e w2 ⟨rfl,hb2⟩;have HB2:=ak_ (af HB.out hb2);clear hb2))
    go_roundw
    case rel=>exact⟨m+1,b,rfl,rfl,⟨⟨by have:=HM.out;omega,by have:=HM.out;omega,HBb.out,by rw[HL.out];simp,HB2.out⟩⟩⟩
    case measure=>have:=HM.out;simp[intOf];omega
  ·obtain rfl:a=b:=by omega
   rw[sx] at hl
   have HL:=ak_ hl
   have HB:=ak_ hB
   clear hl hB hb HI
   go_wp2
   go_ret
   exact⟨by rw[←HL.out];rfl,HB.out⟩
theorem nS (p:Int→Bool) (hi:Int) (h0:0≤hi) (h1:hi≤100000) (gc gt:Nat) (w:World) (hIs:∀ W,Below w.heap.size w W→∀ m,0≤m→m < hi→Calls Tryz.prog 63 #[.int .i64 m,.pointer (some ⟨gc,0,none⟩),.pointer (some ⟨gt,0,none⟩)] W fun e w'=>e=.returned (.bool (p m))∧Below W.heap.size W w') :
  Calls Tryz.prog 61 #[.int .i64 0,.int .i64 hi,.func (.func 63) #[] #[.pointer (some ⟨gc,0,none⟩),.pointer (some ⟨gt,0,none⟩)]] w fun e w'=>e=.returned (.int .i64 (gq p 0 hi))∧Below w.heap.size w w':=by
 have HIs:=ak_ hIs
 have HT:=ak_ (And.intro h0 h1)
 clear hIs h0 h1
 go_enter Tryz.func61,Tryz.ntmps61
 go_wp2
 go_loopw [0,1] (fun u v wr=>∃ a b:Int,u=.int .i64 a∧v=.int .i64 b∧aa (0≤a∧a≤b∧b≤hi∧gq p a b=gq p 0 hi∧Below w.heap.size w wr)) (fun u v _=>(intOf v - intOf u).toNat)
 case atStart=>exact⟨0,hi,rfl,rfl,⟨⟨Int.le_refl _,HT.out.1,Int.le_refl _,rfl,Below.refl _ _⟩⟩⟩
 case round=>
  obtain⟨a,b,rfl,rfl,HI⟩:=hrel
  obtain⟨ha,hab,hb,hl,hB⟩:=HI.out
  by_cases hlt:a < b
  ·have hto:=HT.out
   have hm1:a+(b - a) / 2 < b:=by omega
   have hm0:0≤a+(b - a) / 2:=by omega
   have hba:0≤b - a:=by omega
   have hbb:b≤100000:=by omega
   obtain⟨m,hm⟩:=nm_ (a+(b - a) / 2)
   have hC:=HIs.out wr hB m (by omega) (by omega)
   have hL:=sw (p:=p) hlt
   rw[hl,←hm] at hL
   have HM:=ak_ (show a≤m∧m < b by omega)
   have HL:=ak_ hL
   have HB:=ak_ hB
   have HBb:=ak_ hb
   obtain⟨y,hy⟩:=nm_ (p m)
   rw[←hy] at hC HL
   have HC:=ak_ hC
   have hm':a+(b - a) / 2=m:=hm.symm
   have hmb:m≤100000:=by omega
   have hm00:0≤m:=by omega
   clear hl hB hb hC hL hy hto HI hm hm1 hm0
   cases y with
   | true=>
    go_wp2_with (first | (go_at_call 63;refine HC.out.mono ?_;rintro e w2 ⟨rfl,hb2⟩;have HB2:=ak_ (af HB.out hb2);clear hb2))
    go_roundw
    case rel=>exact⟨a,m,rfl,rfl,⟨⟨ha,HM.out.1,by have:=HM.out;have:=HBb.out;omega,by rw[HL.out];simp,HB2.out⟩⟩⟩
    case measure=>have:=HM.out;simp[intOf];omega
   | false=>
    go_wp2_with (first | (go_at_call 63;refine HC.out.mono ?_;rintro e w2 ⟨rfl,hb2⟩;have HB2:=ak_ (af HB.out hb2);clear hb2))
    go_roundw
    case rel=>exact⟨m+1,b,rfl,rfl,⟨⟨by have:=HM.out;omega,by have:=HM.out;omega,HBb.out,by rw[HL.out];simp,HB2.out⟩⟩⟩
    case measure=>have:=HM.out;simp[intOf];omega
  ·obtain rfl:a=b:=by omega
   rw[sx] at hl
   have HL:=ak_ hl
   have HB:=ak_ hB
   clear hl hB hb HI
   go_wp2
   go_ret
   exact⟨by rw[←HL.out];rfl,HB.out⟩
theorem Dy {W:World} {A:Option Addr} {c:Nat} {xs:List Int} (h:RdT (Kd.int .i64) 2 W (.slice A xs.length c) xs):Kd.C (Kd.int .i64) W A xs.length xs:=by
 obtain⟨Aq,cq,e,_,h,_⟩:=h
 injection e with e
 subst e
 exact h
theorem RdT.keep {α:Type} {d:Kd α} (hd:lp d) {t:Nat} {W W':World} {A:Option Addr} {c:Nat} {xs:List α} {S:Nat→Prop} (h:RdT d t W (.slice A xs.length c) xs) (hf:Fr S W W') (hs:∀ ad,A=some ad→¬ S ad.block):RdT d t W' (.slice A xs.length c) xs:=by
 obtain⟨Aq,cq,e,h2,h3,h4⟩:=h
 injection e with e1 e2 e3
 subst e1
 subst e3
 have key:∀ ad,A=some ad→W'.heap[ad.block]?=W.heap[ad.block]?:=fun ad e=>by
  obtain⟨cs,fr,h5⟩:=h4 ad e
  exact hf.block _ (Array.getElem?_eq_some_iff.1 h5).1 (hs ad e)
 refine⟨A,c,rfl,h2,vw hd h3 key,fun ad e=>?_⟩
 obtain⟨cs,fr,h5⟩:=h4 ad e
 exact⟨cs,fr,(key ad e).trans h5⟩
theorem vo {P:Program} {W:World} (t ty:TypeId) (ht:P.underlying t=some (.slice 2)) (hinfo:(P.info? 2).map (fun i=>(i.zero,i.size,i.bytes))=some (some (.int .i64 0),1,8)) (g:Nat) (ys:List Int) (A:Option Addr) (m c:Nat)
  (hg:W.heap[g]?=some (.cells #[] 2 (0,0))) (HC:Kd.C (Kd.int .i64) W A m ys) (hm:ys.length≤100000) :
  ∃ A1 c1 w1,(Builtin.append_ #[t,t] ty #[.slice (some ⟨g,0,none⟩) 0 0,.slice A m c]).run P W=.ok (.slice A1 ys.length c1) w1∧RdT (Kd.int .i64) 2 w1 (.slice A1 ys.length c1) ys∧Fr (fun k=>k=g) W w1∧∀ ad,A1=some ad→ad.block=g∨W.heap.size≤ad.block:=by
 have HO:W.ownsRow 0 2 1 (.slice (some ⟨g,0,none⟩) 0 0) ([]:List Int).length (fh .i64 []):=⟨by simp[fh],.inr ⟨g,0,#[],rfl,Nat.zero_le _,hg,Nat.le_refl _,by simp[maxLen],rfl,rfl⟩⟩
 have HR:dC W .i64 A m ys:=Kd.reads_of_C (d:=(0:Int)) (h1:=fun _=>rfl) HC
 have hml:ys.length=m:=HR.1
 obtain⟨i0,hi,hzz⟩:=Option.map_eq_some_iff.1 hinfo
 simp only[Prod.mk.injEq] at hzz
 obtain⟨hz0,hz1,hz2⟩:=hzz
 have key:∃ v1 w1,(Builtin.append_ #[t,t] ty #[.slice (some ⟨g,0,none⟩) 0 0,.slice A m c]).run P W=.ok v1 w1∧w1.ownsRow 0 2 1 v1 ys.length (fh .i64 ys)∧W.grownBy w1 (some g)∧(v1.ownBlock=some g∨v1.ownBlock=some W.heap.size):=by
  rcases A with _ | ad
  ·have h0:m=0:=by
    rcases Nat.eq_zero_or_pos m with h0 | h0
    ·exact h0
    ·obtain⟨ad,h,_⟩:=HR.2.2 h0
     cases h
   subst h0
   obtain rfl:ys=[]:=List.eq_nil_of_length_eq_zero hml
   refine⟨_,W,?_,HO,World.grownBy.refl W _,.inl rfl⟩
   simp[Builtin.append_,run_underlying ht,sizeOf,typeInfo,hi,Builtin.lenOf,Builtin.firstCells,storeCells]
  ·have hcells:∀ j u,(fh .i64 ys)[j]?=some u→W.cell? (ad.add j)=some u:=by
    intro j u hu
    have hj:j < ys.length:=by
     rcases Nat.lt_or_ge j ys.length with h | h
     ·exact h
     ·simp[fh,List.getElem?_eq_none h] at hu
    obtain⟨ad',h',hc⟩:=HR.2.2 (by omega)
    injection h' with h'
    subst h'
    have:=hc j (by omega)
    simp[fh,List.getElem?_eq_getElem hj] at hu
    subst hu
    rw[this]
    simp[List.getD_eq_getElem?_getD,List.getElem?_eq_getElem hj]
   obtain⟨v1,w1,hr,h2,h3,_,h5⟩:=run_append_own_at (P:=P) W 0 t ty 2 i0 (.int .i64 0) 1 8 ht hi hz0 hz1 hz2 rfl (by omega) (.slice (some ⟨g,0,none⟩) 0 0) 0 [] HO ad m c (fh .i64 ys) (by simp[fh,hml]) hcells
    (by intro u hu;simp only[fh,List.mem_map] at hu;obtain⟨q,_,rfl⟩:=hu;rfl) (by simp only[maxLen];omega) (by omega) (Nat.zero_le _)
   exact⟨v1,w1,hr,by simpa [fh,hml] using h2,h3,h5⟩
 obtain⟨v1,w1,hr,hown,hgr,hat⟩:=key
 have h1:=RdT.of_own hown
 obtain⟨A1,c1,rfl,hh⟩:=h1
 refine⟨A1,c1,w1,hr,⟨A1,c1,rfl,hh⟩,Fr.grown hgr (fun k hk=>by simpa using hk),fun ad e=>?_⟩
 subst e
 have hob:(Value.slice (some ad) ys.length c1).ownBlock=some ad.block:=by
  rcases hown.2 with ⟨h4,h5⟩ | ⟨g',cap,cur,h4,hg',hh',hn',_⟩
  ·simp at h4
  ·injection h4 with h4
   injection h4 with h4
   subst h4
   rfl
 rw[hob] at hat
 rcases hat with h | h
 ·exact .inl (Option.some.inj h)
 ·exact .inr (by have:=Option.some.inj h;omega)
theorem oW {w w1:World} {A B C D:Obj} (hb:Below ((((w.alloc A).alloc B).alloc C).alloc D).heap.size ((((w.alloc A).alloc B).alloc C).alloc D) w1) :
  w1.heap[w.heap.size]?=some A∧w1.heap[w.heap.size+1]?=some B∧w1.heap[w.heap.size+2]?=some C∧w1.heap[w.heap.size+3]?=some D∧Below w.heap.size w w1:=by
 have hs:(((w.alloc A).alloc B).alloc C).heap.size=w.heap.size+3:=by simp
 obtain⟨h1,h2,h3,h4⟩:=cw (w:=w) (w1:=((w.alloc A).alloc B).alloc C) (A:=A) (B:=B) (C:=C) (Below.refl _ _)
 have hD:((((w.alloc A).alloc B).alloc C).alloc D).heap[w.heap.size+3]?=some D:=by have h:=heap_alloc_last (((w.alloc A).alloc B).alloc C) D;rwa [hs] at h
 have hsz:((((w.alloc A).alloc B).alloc C).alloc D).heap.size=w.heap.size+4:=by simp
 refine⟨(hb.block _ (by omega)).trans (ag h1 (ae (Below.refl _ _) _)),(hb.block _ (by omega)).trans (ag h2 (ae (Below.refl _ _) _)),(hb.block _ (by omega)).trans (ag h3 (ae (Below.refl _ _) _)),(hb.block _ (by omega)).trans hD,af (af h4 (ae (Below.refl _ _) _)) hb⟩
theorem rQ (f g:List In) (Af Ag:Option Addr) (cf cg:Nat) (c:Ca) (vC:Value) (w:World) (hG:Gl w) (hCf:Kd.C kIn w Af f.length f) (hcf:f.length≤cf) (hCg:Kd.C kIn w Ag g.length g) (hcg:g.length≤cg) (hV:CaV w c vC) (hh:c.h=[]) (k0:Int) (hk:dt f g c=(k0,0)) (hk0:k0≠0) (ha:c.ans.length≤5000) (hfu:0≤c.fuel∧c.fuel≤5000) :
  Calls Tryz.prog 37 #[.slice Af f.length cf,.slice Ag g.length cg,vC] w fun e w'=>∃ v c' k',e=.returned (.tuple #[v,.int .i64 k',.int .i64 0])∧CaV w' c' v∧c'.fuel=gq (fun n=>gX f g { c with fuel:=n }) 0 c.fuel∧Below w.heap.size w w':=by
 have hV0:=hV
 obtain⟨vH,vA,rfl,h8,hHr,hAr⟩:=hV
 obtain⟨AH,cH,rfl,zH⟩:=hHr
 obtain⟨AA,cA,rfl,zA⟩:=hAr
 have hHr:RdT (Kd.int .i64) 2 w (.slice AH c.h.length cH) c.h:=⟨AH,cH,rfl,zH⟩
 have hAr:RdT (Kd.int .i64) 2 w (.slice AA c.ans.length cA) c.ans:=⟨AA,cA,rfl,zA⟩
 have h0:c.h.length=0:=by rw[hh];rfl
 obtain⟨w1,hw1⟩:∃ w1,w1=(((w.alloc (.cells #[.slice Af f.length cf] 22)).alloc (.cells #[.slice Ag g.length cg] 22)).alloc (.cells (cac c.r (.slice AH c.h.length cH) (.slice AA c.ans.length cA) c.fuel).toArray 37)).alloc (.cells dR 37):=⟨_,rfl⟩
 obtain⟨B,hB⟩:=mn_ w.heap.size
 obtain⟨b1,b2,b3,b4,hb1⟩:=oW (w:=w) (w1:=w1) (A:=.cells #[.slice Af f.length cf] 22) (B:=.cells #[.slice Ag g.length cg] 22) (C:=.cells (cac c.r (.slice AH c.h.length cH) (.slice AA c.ans.length cA) c.fuel).toArray 37) (D:=.cells dR 37) (by rw[hw1];exact Below.refl _ _)
 rw[hB] at b1 b2 b3 b4
 have hTw:s9 w1 f g B (B+1) Af Ag cf cg:=⟨b1,b2,Kd.C_below hCf hb1,Kd.C_below hCg hb1,hG.below hb1⟩
 have HTell:=ak_ (fun (W:World) (hb:Below w1.heap.size w1 W) (c':Ca) (v:Value) (hv:CaV W c' v) (hh:c'.h.length≤5000) (ha:c'.ans.length≤100000)=>iI f g Af Ag cf cg c' v W ((hG.below hb1).below hb) (Kd.C_below (Kd.C_below hCf hb1) hb) hcf (Kd.C_below (Kd.C_below hCg hb1) hb) hcg hv hh ha)
 have hT:=HTell.out w1 (Below.refl _ _) c _ (hV0.below hb1) (by omega) (by omega)
 rw[hk] at hT
 have c0:=(show w1.cell? ⟨B,0,none⟩=some (.slice Af f.length cf) by rw[ah b1];rfl)
 have c1:=(show w1.cell? ⟨B+1,0,none⟩=some (.slice Ag g.length cg) by rw[ah b2];rfl)
 have HGw:=ak_ hG
 have HCfw:=ak_ (And.intro hCf hCg)
 have HT:=ak_ hT
 have HTw:=ak_ hTw
 have HW1:=ak_ hw1
 have H3:=ak_ b3
 have H4:=ak_ b4
 have HB1:=ak_ hb1
 have HBe:=ak_ hB
 have H8:=ak_ h8
 have HH1:=ak_ (hHr.below hb1)
 have HA1:=ak_ (hAr.below hb1)
 have Hcf:=ak_ (And.intro hcf hcg)
 have HH0:=ak_ hh
 have HFu:=ak_ hfu
 have HAn:=ak_ ha
 have q0:(k0 == 0)=false:=beq_eq_false_iff_ne.mpr hk0
 clear hV0 hHr hAr zH zA h0 hTw hT hw1 b1 b2 b3 b4 hb1 hG hCf hcf hCg hcg hh hk hk0 ha hfu h8
 go_enter Tryz.func37,Tryz.ntmps37
 go_upto_region 1 with fail
 refine ar HW1.out.symm ?_
 clear hB HW1
 go_upto_region 4 with (first
  | ((with_reducible refine aj (N:=18) rfl ?_);refine ax rfl _ (al rfl rfl (aT (P:=Tryz.prog) H3.out Tryz.underlying37 rfl (bq H8.out))) ?_)
  | (go_at_call 9;refine HT.out.mono ?_;rintro e w5 ⟨rfl,hb⟩;have HB5:=ak_ hb;clear hb))
 obtain⟨gC,hgC⟩:=nm_ (B+2)
 have HC5:=ak_ (show w5.drew.heap[gC]?=some (.cells (cac c.r (.slice AH c.h.length cH) (.slice AA c.ans.length cA) c.fuel).toArray 37 (0,0)) by rw[hgC];exact ag H3.out (af HB5.out (az (Below.refl _ _))))
 have HGl:=ak_ (show gC < w5.heap.size from ai HC5.out)
 have HH:=ak_ (HH1.out.below HB5.out)
 have HA:=ak_ (HA1.out.below HB5.out)
 have HHl:=ak_ (show c.h.length≤100000 by rw[HH0.out];exact Nat.zero_le _)
 have HAl:=ak_ (show c.ans.length≤100000 by have:=HAn.out;omega)
 have HSep:=ak_ (show ∀ k cs fr,(k=gC∨w5.heap.size≤k)→w5.heap[k]?≠some (.cells cs 2 fr) from fun k cs fr e h=>by
  rcases e with rfl | e
  ·have h2:w5.heap[k]?=_:=HC5.out
   rw[h2] at h
   simp at h
  ·have:=(Array.getElem?_eq_some_iff.1 h).1;omega)
 have HA35:=ak_ (show ∀ W,(isAgg 35).run Tryz.prog W=.ok false W from fun W=>by kernel_rfl)
 have HgC:=ak_ hgC
 have hg2:B+1+1=gC:=by omega
 rw[show B+2=gC from hgC.symm]
 clear hgC c0 c1 HT H3 HH1 HA1
 refine bh (σ:=(Nat × Nat) × (Option Addr × Nat) × (Option Addr × Nat)) [0,3,4,7,9,11] (fun q=>[(26,.slice (some ⟨q.1.1,0,none⟩) 0 0),(27,.pointer (some ⟨gC,8,none⟩)),(28,.slice AH c.h.length cH),(29,.slice q.2.1.1 c.h.length q.2.1.2),(30,.slice (some ⟨q.1.2,0,none⟩) 0 0),(31,.pointer (some ⟨gC,9,none⟩)),(32,.slice AA c.ans.length cA),(33,.slice q.2.2.1 c.ans.length q.2.2.2),(34,.pointer (some ⟨gC,8,none⟩)),(35,.pointer (some ⟨gC,9,none⟩))])
  (fun bs q W=>Fr (fun k=>k=gC∨w5.heap.size≤k) w5 W∧W.heap[gC]?=some (.cells (cac c.r (if bs.getD 4 false=true then (.slice q.2.1.1 c.h.length q.2.1.2) else .slice AH c.h.length cH) (if bs.getD 5 false=true then (.slice q.2.2.1 c.ans.length q.2.2.2) else .slice AA c.ans.length cA) c.fuel).toArray 37 (0,0))∧(bs.getD 0 false=true→bs.getD 1 false=false→W.heap[q.1.1]?=some (.cells #[] 2 (0,0))∧w5.heap.size≤q.1.1)∧(bs.getD 2 false=true→bs.getD 3 false=false→W.heap[q.1.2]?=some (.cells #[] 2 (0,0))∧w5.heap.size≤q.1.2)∧(bs.getD 0 false=true→bs.getD 2 false=true→bs.getD 1 false=false→q.1.1≠q.1.2)∧(bs.getD 1 false=true→RdT (Kd.int .i64) 2 W (.slice q.2.1.1 c.h.length q.2.1.2) c.h)∧(bs.getD 1 false=true→bs.getD 2 false=true→bs.getD 3 false=false→∀ ad,q.2.1.1=some ad→ad.block≠q.1.2)∧(bs.getD 3 false=true→RdT (Kd.int .i64) 2 W (.slice q.2.2.1 c.ans.length q.2.2.2) c.ans)) ((0,0),(none,0),(none,0)) (by kernel_rfl) (by kernel_rfl) (by kernel_rfl) (fun _=>by kernel_rfl) ?_
 intro aF haF
 simp only[bd,Act.put,List.setIfInBounds_toArray,List.set_cons_succ,List.set_cons_zero] at haF
 subst haF
 refine⟨?_,?_,⟨Fr.drew,HC5.out,fun e=>Bool.noConfusion e,fun e=>Bool.noConfusion e,fun e=>Bool.noConfusion e,fun e=>Bool.noConfusion e,fun e=>Bool.noConfusion e,fun e=>Bool.noConfusion e⟩,?_⟩
 ·intro j o ho hct s_1 W bs hlen hok hI
  rcases j with _ | _ | _ | _ | _ | _ | _ | _ | _ | _ | _ | _ | j
  all_goals first | exact absurd hct (by decide) | (obtain rfl:=Option.some.inj ho) | exact absurd (Array.getElem?_eq_some_iff.1 ho).1 (by simp)
  ·exact ab rfl (by go_simp) ⟨rfl,hI⟩
  ·obtain⟨b0,b1,b2,b3,b4,b5,rfl⟩:=k7 hlen
   obtain rfl:=okF hok 4 rfl rfl rfl (by kernel_rfl)
   obtain⟨i1,i2,i3,i4,i5,i6,i7,i8⟩:=hI
   exact ab rfl (al rfl rfl (aE (HA35.out W) (show W.cell? ⟨gC,8,none⟩=some (.slice AH c.h.length cH) by rw[ap i2,show 8=8+0 from rfl,dw H8.out];rfl))) ⟨rfl,i1,i2,i3,i4,i5,i6,i7,i8⟩
  ·exact ab rfl (by go_simp) ⟨rfl,hI⟩
  ·obtain⟨b0,b1,b2,b3,b4,b5,rfl⟩:=k7 hlen
   obtain rfl:=okF hok 5 rfl rfl rfl (by kernel_rfl)
   obtain⟨i1,i2,i3,i4,i5,i6,i7,i8⟩:=hI
   exact ab rfl (al rfl rfl (aE (HA35.out W) (show W.cell? ⟨gC,9,none⟩=some (.slice AA c.ans.length cA) by rw[ap i2,show 9=8+1 from rfl,dw H8.out];rfl))) ⟨rfl,i1,i2,i3,i4,i5,i6,i7,i8⟩
  ·exact ab rfl (by go_simp) ⟨rfl,hI⟩
  ·exact ab rfl (by go_simp) ⟨rfl,hI⟩
 ·intro k_1 j o hk ho s_1 W bs hlen hok hI
  rcases k_1 with _ | _ | _ | _ | _ | _ | k
  all_goals first | (obtain rfl:=Option.some.inj hk;obtain rfl:=Option.some.inj ho) | exact absurd hk (by simp)
  ·obtain⟨b0,b1,b2,b3,b4,b5,rfl⟩:=k7 hlen
   obtain rfl:=okS hok 0 rfl rfl
   obtain rfl:=okF hok 1 rfl rfl rfl (by kernel_rfl)
   obtain rfl:=okF hok 3 rfl rfl rfl (by kernel_rfl)
   obtain rfl:=okF hok 4 rfl rfl rfl (by kernel_rfl)
   obtain rfl:=okF hok 5 rfl rfl rfl (by kernel_rfl)
   obtain⟨i1,i2,i3,i4,i5,i6,i7,i8⟩:=hI
   exact ab (v:=.slice (some ⟨W.heap.size,0,none⟩) 0 0) (w':=W.alloc (.cells #[] 2)) rfl (by go_simp) ⟨((W.heap.size,s_1.1.2),s_1.2),[(26,.slice (some ⟨W.heap.size,0,none⟩) 0 0)],rfl,rfl,by kernel_rfl,⟨i1.trans (Fr.of_below (ae (Below.refl _ _) _)),aK i2 _,fun _ _=>⟨heap_alloc_last W _,i1.size⟩,fun h1 h2=>⟨aK (i4 h1 h2).1 _,(i4 h1 h2).2⟩,fun _ h2 _ e=>by have e:W.heap.size=s_1.1.2:=e;have:=ai (i4 h2 rfl).1;omega,fun e=>Bool.noConfusion e,fun e=>Bool.noConfusion e,fun e=>Bool.noConfusion e⟩⟩
  ·obtain⟨b0,b1,b2,b3,b4,b5,rfl⟩:=k7 hlen
   obtain rfl:=okS hok 1 rfl rfl
   obtain rfl:=okT hok 0 rfl rfl rfl (by kernel_rfl)
   obtain rfl:=okF hok 3 rfl rfl rfl (by kernel_rfl)
   obtain rfl:=okF hok 4 rfl rfl rfl (by kernel_rfl)
   obtain rfl:=okF hok 5 rfl rfl rfl (by kernel_rfl)
   obtain⟨i1,i2,i3,i4,i5,i6,i7,i8⟩:=hI
   obtain⟨j1,j2⟩:=i3 rfl rfl
   obtain⟨A1,c1,w1,r1,r2,r3,r4⟩:=vo (P:=Tryz.prog) 35 35 Tryz.underlying35 j9 s_1.1.1 c.h AH c.h.length cH j1 (Dy (HH.out.fr aC i1 HSep.out)) HHl.out
   exact ab rfl (iZ rfl rfl rfl r1) ⟨(s_1.1,((A1,c1),s_1.2.2)),[(29,.slice A1 c.h.length c1)],rfl,rfl,by kernel_rfl,⟨i1.trans (r3.mono fun k _ e=>.inr (by subst e;exact j2)),(r3.block gC (ai i2) (by have:=HGl.out;omega)).trans i2,fun _ e=>Bool.noConfusion e,fun h1 h2=>⟨(r3.block _ (ai (i4 h1 h2).1) (fun e=>i5 rfl h1 rfl e.symm)).trans (i4 h1 h2).1,(i4 h1 h2).2⟩,fun _ _ e=>Bool.noConfusion e,fun _=>r2,fun _ h2 h3 ad ea e=>by
    rcases r4 ad ea with h | h
    ·exact i5 rfl h2 rfl (h.symm.trans e)
    ·have e:ad.block=s_1.1.2:=e;have:=ai (i4 h2 h3).1;omega,fun e=>Bool.noConfusion e⟩⟩
  ·obtain⟨b0,b1,b2,b3,b4,b5,rfl⟩:=k7 hlen
   obtain rfl:=okS hok 2 rfl rfl
   obtain rfl:=okF hok 3 rfl rfl rfl (by kernel_rfl)
   obtain rfl:=okF hok 4 rfl rfl rfl (by kernel_rfl)
   obtain rfl:=okF hok 5 rfl rfl rfl (by kernel_rfl)
   obtain⟨i1,i2,i3,i4,i5,i6,i7,i8⟩:=hI
   exact ab (v:=.slice (some ⟨W.heap.size,0,none⟩) 0 0) (w':=W.alloc (.cells #[] 2)) rfl (by go_simp) ⟨((s_1.1.1,W.heap.size),s_1.2),[(30,.slice (some ⟨W.heap.size,0,none⟩) 0 0)],rfl,rfl,by kernel_rfl,⟨i1.trans (Fr.of_below (ae (Below.refl _ _) _)),aK i2 _,fun h1 h2=>⟨aK (i3 h1 h2).1 _,(i3 h1 h2).2⟩,fun _ _=>⟨heap_alloc_last W _,i1.size⟩,fun h1 _ h2 e=>by have e:s_1.1.1=W.heap.size:=e;have:=ai (i3 h1 h2).1;omega,fun h=>(i6 h).below (ae (Below.refl _ _) _),fun h1 _ _ ad ea e=>by
    have e:ad.block=W.heap.size:=e
    obtain⟨Aq,cq,eq,_,_,ht⟩:=i6 h1
    injection eq with eq
    obtain⟨cs,fr,hb⟩:=ht ad (eq ▸ ea)
    have:=(Array.getElem?_eq_some_iff.1 hb).1
    omega,fun e=>Bool.noConfusion e⟩⟩
  ·obtain⟨b0,b1,b2,b3,b4,b5,rfl⟩:=k7 hlen
   obtain rfl:=okS hok 3 rfl rfl
   obtain rfl:=okT hok 1 rfl rfl rfl (by kernel_rfl)
   obtain rfl:=okT hok 2 rfl rfl rfl (by kernel_rfl)
   obtain rfl:=okF hok 4 rfl rfl rfl (by kernel_rfl)
   obtain rfl:=okF hok 5 rfl rfl rfl (by kernel_rfl)
   obtain⟨i1,i2,i3,i4,i5,i6,i7,i8⟩:=hI
   obtain⟨j1,j2⟩:=i4 rfl rfl
   obtain⟨A2,c2,w1,r1,r2,r3,r4⟩:=vo (P:=Tryz.prog) 35 35 Tryz.underlying35 j9 s_1.1.2 c.ans AA c.ans.length cA j1 (Dy (HA.out.fr aC i1 HSep.out)) HAl.out
   exact ab rfl (iZ rfl rfl rfl r1) ⟨(s_1.1,(s_1.2.1,(A2,c2))),[(33,.slice A2 c.ans.length c2)],rfl,rfl,by kernel_rfl,⟨i1.trans (r3.mono fun k _ e=>.inr (by subst e;exact j2)),(r3.block gC (ai i2) (by have:=HGl.out;omega)).trans i2,fun _ e=>Bool.noConfusion e,fun _ e=>Bool.noConfusion e,fun _ _ e=>Bool.noConfusion e,fun _=>RdT.keep aC (i6 rfl) r3 (fun ad ea e=>i7 rfl rfl rfl ad ea e),fun _ _ e=>Bool.noConfusion e,fun _=>r2⟩⟩
  ·obtain⟨b0,b1,b2,b3,b4,b5,rfl⟩:=k7 hlen
   obtain rfl:=okS hok 4 rfl rfl
   obtain rfl:=okT hok 1 rfl rfl rfl (by kernel_rfl)
   obtain rfl:=okT hok 3 rfl rfl rfl (by kernel_rfl)
   obtain rfl:=okF hok 5 rfl rfl rfl (by kernel_rfl)
   obtain⟨i1,i2,i3,i4,i5,i6,i7,i8⟩:=hI
   exact aV rfl 35 _ _ rfl gC 8 (.slice s_1.2.1.1 c.h.length s_1.2.1.2) (.slice AH c.h.length cH) rfl rfl rfl rfl (by kernel_rfl) (show W.cell? ⟨gC,8,none⟩=some (.slice AH c.h.length cH) by rw[ap i2,show 8=8+0 from rfl,dw H8.out];rfl) (aq i2 8) ⟨s_1,[],rfl,rfl,rfl,⟨i1.trans (Fr.cell (S:=fun k=>k=gC∨w5.heap.size≤k) (p:=⟨gC,8,none⟩) (.inl rfl) _),(show (W.setCell ⟨gC,8,none⟩ (.slice s_1.2.1.1 c.h.length s_1.2.1.2)).heap[gC]?=some (.cells (cac c.r (.slice s_1.2.1.1 c.h.length s_1.2.1.2) (.slice AA c.ans.length cA) c.fuel).toArray 37 (0,0)) by
    have h:=aJ (L:=cac c.r (.slice AH c.h.length cH) (.slice AA c.ans.length cA) c.fuel) i2 8 (.slice s_1.2.1.1 c.h.length s_1.2.1.2)
    rw[show 8=8+0 from rfl,jB H8.out] at h
    exact h),fun _ e=>Bool.noConfusion e,fun _ e=>Bool.noConfusion e,fun _ _ e=>Bool.noConfusion e,fun _=>(i6 rfl).fr aC (Fr.cell (S:=fun k=>k=gC) (p:=⟨gC,8,none⟩) rfl _) (fun k cs fr e=>by subst e;rw[i2];simp),fun _ _ e=>Bool.noConfusion e,fun _=>(i8 rfl).fr aC (Fr.cell (S:=fun k=>k=gC) (p:=⟨gC,8,none⟩) rfl _) (fun k cs fr e=>by subst e;rw[i2];simp)⟩⟩
  ·obtain⟨b0,b1,b2,b3,b4,b5,rfl⟩:=k7 hlen
   obtain rfl:=okS hok 5 rfl rfl
   obtain rfl:=okT hok 1 rfl rfl rfl (by kernel_rfl)
   obtain rfl:=okT hok 3 rfl rfl rfl (by kernel_rfl)
   obtain rfl:=okT hok 4 rfl rfl rfl (by kernel_rfl)
   obtain⟨i1,i2,i3,i4,i5,i6,i7,i8⟩:=hI
   exact aV rfl 35 _ _ rfl gC 9 (.slice s_1.2.2.1 c.ans.length s_1.2.2.2) (.slice AA c.ans.length cA) rfl rfl rfl rfl (by kernel_rfl) (show W.cell? ⟨gC,9,none⟩=some (.slice AA c.ans.length cA) by rw[ap i2,show 9=8+1 from rfl,dw H8.out];rfl) (aq i2 9) ⟨s_1,[],rfl,rfl,rfl,⟨i1.trans (Fr.cell (S:=fun k=>k=gC∨w5.heap.size≤k) (p:=⟨gC,9,none⟩) (.inl rfl) _),(show (W.setCell ⟨gC,9,none⟩ (.slice s_1.2.2.1 c.ans.length s_1.2.2.2)).heap[gC]?=some (.cells (cac c.r (.slice s_1.2.1.1 c.h.length s_1.2.1.2) (.slice s_1.2.2.1 c.ans.length s_1.2.2.2) c.fuel).toArray 37 (0,0)) by
    have h:=aJ (L:=cac c.r (.slice s_1.2.1.1 c.h.length s_1.2.1.2) (.slice AA c.ans.length cA) c.fuel) i2 9 (.slice s_1.2.2.1 c.ans.length s_1.2.2.2)
    rw[show 9=8+1 from rfl,jB H8.out] at h
    exact h),fun _ e=>Bool.noConfusion e,fun _ e=>Bool.noConfusion e,fun _ _ e=>Bool.noConfusion e,fun _=>(i6 rfl).fr aC (Fr.cell (S:=fun k=>k=gC) (p:=⟨gC,9,none⟩) rfl _) (fun k cs fr e=>by subst e;rw[i2];simp),fun _ _ e=>Bool.noConfusion e,fun _=>(i8 rfl).fr aC (Fr.cell (S:=fun k=>k=gC) (p:=⟨gC,9,none⟩) rfl _) (fun k cs fr e=>by subst e;rw[i2];simp)⟩⟩
 ·intro q W hI
  obtain⟨⟨qa,qb⟩,⟨A1,c1⟩,A2,c2⟩:=q
  obtain⟨i1,i2,_,_,_,i6,_,i8⟩:=hI
  have HR6:=ak_ (i6 rfl)
  have HR8:=ak_ (i8 rfl)
  obtain⟨w6,rfl⟩:=nm_ W
  have HCb:=ak_ (show CaB w6 gC c from ⟨A1,c1,A2,c2,i2,H8.out,HR6.out,HR8.out⟩)
  have HF6:=ak_ i1
  clear i1 i2 i6 i8 HR6 HR8 HC5 HH HA HSep
  obtain⟨gt,hgt⟩:=mn_ w6.heap.size
  have hal:=heap_alloc_last w6 (.cells #[.nilFunc] 156)
  rw[hgt] at hal
  have hst:=jR (P:=Tryz.prog) (w6.alloc (.cells #[.nilFunc] 156)) ⟨gt,0,none⟩ (.func (.func 60) #[] #[.pointer (some ⟨B,0,none⟩),.pointer (some ⟨B+1,0,none⟩)]) .nilFunc rfl (by rw[ah hal];rfl) (aq hal 0)
  obtain⟨w7,hw7⟩:∃ w7,w7=w6.alloc (.cells #[.func (.func 60) #[] #[.pointer (some ⟨B,0,none⟩),.pointer (some ⟨B+1,0,none⟩)]] 156):=⟨_,rfl⟩
  have hb7:Below w6.heap.size w6 w7:=by rw[hw7];exact ae (Below.refl _ _) _
  have HGt7:=ak_ (show w7.heap[gt]?=some (.cells #[pj B (B+1)] 156 (0,0)) by rw[hw7,←hgt];exact heap_alloc_last w6 _)
  have HC7:=ak_ (HCb.out.below hb7)
  have HBe2:=ak_ (show gC < gt from by obtain⟨_,_,_,_,h,_⟩:=HCb.out;have:=ai h;omega)
  have HF7:=ak_ (show Fr (fun k=>k=gC∨w5.heap.size≤k) w5 w7 from HF6.out.trans (Fr.of_below hb7))
  have HTw5:=ak_ (HTw.out.below HB5.out)
  have hw65:w5.heap.size≤w6.heap.size:=HF6.out.size
  have hgt5:=hgt
  have HW7:=ak_ hw7
  clear hal hb7 HCb HF6 hw7
  go_upto_region 8 with fail
  refine ar HW7.out.symm ?_
  clear hst hgt HW7
  have htw:∀ W,Fr (fun k=>k=gC∨w5.heap.size≤k) w5 W→s9 W f g B (B+1) Af Ag cf cg:=fun W hf=>by
   have hlt:=HGl.out
   have hbe:=HBe.out
   have hge:=HgC.out
   have hb:Below w.heap.size w W:=Fr.below (af HB1.out HB5.out) hf (fun k hk e=>by omega) (af HB1.out HB5.out).size
   exact⟨(hf.block B (by omega) (by omega)).trans HTw5.out.bf,(hf.block (B+1) (by omega) (by omega)).trans HTw5.out.bg,Kd.C_below HCfw.out.1 hb,Kd.C_below HCfw.out.2 hb,HGw.out.below hb⟩
  have HTW:=ak_ htw
  have hGt5:w5.heap.size≤gt:=by rw[←hgt5];exact hw65
  obtain⟨F,hF⟩:∃ F,F=gq (fun n=>gX f g { c with fuel:=n }) 0 c.fuel:=⟨_,rfl⟩
  have hL:=nU (fun n=>gX f g { c with fuel:=n }) c.fuel HFu.out.1 (by have:=HFu.out.2;omega) gC gt w7 (fun W hb m _ _=>zy f g B (B+1) gC gt Af Ag cf cg Hcf.out.1 Hcf.out.2 c m W (htw W (HF7.out.trans (Fr.of_below hb))) (HC7.out.below hb) (ag HGt7.out hb) (by rw[HH0.out];exact Nat.zero_le _) (by have:=HAn.out;omega))
  rw[←hF] at hL
  have HL:=ak_ hL
  have HFe:=ak_ hF
  have HFb:=ak_ (show 0≤F∧F≤c.fuel by rw[hF];exact j5 _ _ _ _ HFu.out.1)
  have HGt5:=ak_ hGt5
  have hc7:=HC7.out
  obtain⟨A3,k3,B3,m3,hc7b,_,hc7h,hc7a⟩:=hc7
  have c10:=(show w7.cell? ⟨gC,10,none⟩=some (.int .i64 c.fuel) by rw[ap hc7b,show 10=8+2 from rfl,dw H8.out];rfl)
  have HC7b:=ak_ hc7b
  have HC7h:=ak_ (And.intro hc7h hc7a)
  clear htw hL hF hGt5 hgt5 hw65 hc7b hc7h hc7a
  go_upto_region 9 with (first
   | (go_at_call 61;refine HL.out.mono ?_;rintro e w8 ⟨rfl,hb⟩;have HB8:=ak_ hb;have H8b:=ak_ (ag HC7b.out hb);have d10:=(show w8.cell? ⟨gC,10,none⟩=some (.int .i64 c.fuel) by rw[ap H8b.out,show 10=8+2 from rfl,dw H8.out];rfl);have f10:=aq H8b.out 10;clear hb))
  obtain⟨w9,hw9⟩:∃ w9,w9=w8.setCell ⟨gC,10,none⟩ (.int .i64 F):=⟨_,rfl⟩
  refine ar hw9.symm ?_
  have hf9:Fr (fun k=>k=gC) w8 w9:=by rw[hw9];exact Fr.cell (S:=fun j=>j=gC) (p:=⟨gC,10,none⟩) rfl _
  have h9:w9.heap[gC]?=some (.cells (cac c.r (.slice A3 c.h.length k3) (.slice B3 c.ans.length m3) F).toArray 37 (0,0)):=by rw[hw9,aJ H8b.out,show 10=8+2 from rfl,jB H8.out];rfl
  have hnt:∀ k cs fr,k=gC→w8.heap[k]?≠some (.cells cs 2 fr):=fun k cs fr e=>by subst e;rw[H8b.out];simp
  have HC9:=ak_ (show CaB w9 gC { c with fuel:=F } from ⟨A3,k3,B3,m3,h9,H8.out,(HC7h.out.1.below HB8.out).fr aC hf9 hnt,(HC7h.out.2.below HB8.out).fr aC hf9 hnt⟩)
  have HGt9:=ak_ ((hf9.block gt (ai (ag HGt7.out HB8.out)) (by have:=HBe2.out;omega)).trans (ag HGt7.out HB8.out))
  have HF9:=ak_ (show Fr (fun k=>k=gC∨w5.heap.size≤k) w5 w9 from (HF7.out.trans (Fr.of_below HB8.out)).trans (hf9.mono fun k _ e=>.inl e))
  clear hw9 hf9 h9 hnt c10 d10 f10 HL HC7 HC7b HC7h HB8 H8b HF7 HGt7
  have hc9:=HC9.out
  obtain⟨A3,k3,B3,m3,hc9b,_,hc9h,hc9a⟩:=hc9
  simp only at hc9b hc9h hc9a
  have hn3:c.ans.length≤m3:=by obtain⟨_,_,e,h,_⟩:=hc9a;injection e with _ _ e;omega
  have hL2:=fun W (hb:Below w9.heap.size w9 W)=>nS (fun n=>gX f g { c with fuel:=F,ans:=c.ans.take n.toNat }) (c.ans.length:Int) (by omega) (by have:=HAn.out;omega) gC gt W (fun W' hb' m h0 h1=>by
   have h:=zx f g B (B+1) gC gt Af Ag cf cg Hcf.out.1 Hcf.out.2 { c with fuel:=F } m.toNat (by show m.toNat≤c.ans.length;omega) W' (HTW.out W' ((HF9.out.trans (Fr.of_below hb)).trans (Fr.of_below hb'))) ((HC9.out.below hb).below hb') (ag (ag HGt9.out hb) hb') (by show c.h.length≤_;rw[HH0.out];exact Nat.zero_le _) (by show c.ans.length≤_;have:=HAn.out;omega)
   rw[Int.toNat_of_nonneg h0] at h
   exact h)
  obtain⟨m,hm⟩:∃ m:Nat,gq (fun n=>gX f g { c with fuel:=F,ans:=c.ans.take n.toNat }) 0 (c.ans.length:Int)=(m:Int):=⟨(gq _ 0 (c.ans.length:Int)).toNat,by
   have h:=j5 (fun n=>gX f g { c with fuel:=F,ans:=c.ans.take n.toNat }) ((c.ans.length:Int) - 0).toNat 0 (c.ans.length:Int) (by omega)
   exact(Int.toNat_of_nonneg h.1).symm⟩
  have hmn:m≤c.ans.length:=by
   have h:=j5 (fun n=>gX f g { c with fuel:=F,ans:=c.ans.take n.toNat }) ((c.ans.length:Int) - 0).toNat 0 (c.ans.length:Int) (by omega)
   have h2:(m:Int)≤(c.ans.length:Int):=by rw[←hm];exact h.2
   omega
  rw[hm] at hL2
  have HL2:=ak_ hL2
  have HC9b:=ak_ hc9b
  have HR9:=ak_ (And.intro hc9h hc9a)
  have hm1:(m:Int)≤(c.ans.length:Int):=by omega
  have hm2:(c.ans.length:Int)≤(m3:Int):=by omega
  have hm4:(m:Int)≤(m3:Int):=by omega
  have HMn:=ak_ hmn
  clear hc9b hc9h hc9a hn3 hL2 hm hmn HC9
  refine bh (σ:=Unit) [6,9] (fun _=>[(46,.pointer (some ⟨gC,9,none⟩)),(47,.slice B3 c.ans.length m3),(48,.pointer (some ⟨gC,9,none⟩)),(49,.slice B3 c.ans.length m3),(50,.int .i64 (c.ans.length:Int)),(51,.func (.func 63) #[] #[.pointer (some ⟨gC,0,none⟩),.pointer (some ⟨gt,0,none⟩)]),(52,.int .i64 (m:Int)),(53,.slice B3 m m3),(54,.pointer (some ⟨gC,9,none⟩))])
   (fun bs _ W=>Fr (fun k=>k=gC) w9 W∧(bs.getD 1 false=false→Below w9.heap.size w9 W)∧W.heap[gC]?=some (.cells (cac c.r (.slice A3 c.h.length k3) (if bs.getD 1 false=true then .slice B3 m m3 else .slice B3 c.ans.length m3) F).toArray 37 (0,0))) () (by kernel_rfl) (by kernel_rfl) (by kernel_rfl) (fun _=>by kernel_rfl) ?_
  intro aF haF
  simp only[bd,Act.put,List.setIfInBounds_toArray,List.set_cons_succ,List.set_cons_zero] at haF
  subst haF
  refine⟨?_,?_,⟨Fr.drew,fun _=>az (Below.refl _ _),HC9b.out⟩,?_⟩
  ·intro j o ho hct s_1 W bs hlen hok hI
   rcases j with _ | _ | _ | _ | _ | _ | _ | _ | _ | _ | j
   all_goals first | exact absurd hct (by decide) | (obtain rfl:=Option.some.inj ho) | exact absurd (Array.getElem?_eq_some_iff.1 ho).1 (by simp)
   ·exact ab rfl (by go_simp) ⟨rfl,hI⟩
   ·obtain⟨b0,b1,rfl⟩:=fR hlen
    obtain rfl:=okF hok 1 rfl rfl rfl (by kernel_rfl)
    exact ab rfl (al rfl rfl (aE (HA35.out W) (show W.cell? ⟨gC,9,none⟩=some (.slice B3 c.ans.length m3) by rw[ap hI.2.2,show 9=8+1 from rfl,dw H8.out];rfl))) ⟨rfl,hI⟩
   ·exact ab rfl (by go_simp) ⟨rfl,hI⟩
   ·obtain⟨b0,b1,rfl⟩:=fR hlen
    obtain rfl:=okF hok 1 rfl rfl rfl (by kernel_rfl)
    exact ab rfl (al rfl rfl (aE (HA35.out W) (show W.cell? ⟨gC,9,none⟩=some (.slice B3 c.ans.length m3) by rw[ap hI.2.2,show 9=8+1 from rfl,dw H8.out];rfl))) ⟨rfl,hI⟩
   ·exact ab rfl (by go_simp) ⟨rfl,hI⟩
   ·exact ab rfl (by go_simp) ⟨rfl,hI⟩
   ·exact ab rfl (by go_simp) ⟨rfl,hI⟩
   ·exact ab rfl (by go_simp) ⟨rfl,hI⟩
  ·intro k_1 j o hk ho s_1 W bs hlen hok hI
   rcases k_1 with _ | _ | k
   all_goals first | (obtain rfl:=Option.some.inj hk;obtain rfl:=Option.some.inj ho) | exact absurd hk (by simp)
   ·obtain⟨b0,b1,rfl⟩:=fR hlen
    obtain rfl:=okS hok 0 rfl rfl
    obtain rfl:=okF hok 1 rfl rfl rfl (by kernel_rfl)
    obtain⟨i1,i2,i3⟩:=hI
    refine aN rfl Tryz.func61 (by kernel_rfl) rfl #[.int .i64 0,.int .i64 (c.ans.length:Int),.func (.func 63) #[] #[.pointer (some ⟨gC,0,none⟩),.pointer (some ⟨gt,0,none⟩)]] rfl rfl ((HL2.out W (i2 rfl)).mono fun e w' h=>⟨_,h.1,(),[],rfl,rfl,rfl,⟨i1.trans (Fr.of_below h.2),fun _=>af (i2 rfl) h.2,ag i3 h.2⟩⟩)
   ·obtain⟨b0,b1,rfl⟩:=fR hlen
    obtain rfl:=okS hok 1 rfl rfl
    obtain rfl:=okT hok 0 rfl rfl rfl (by kernel_rfl)
    obtain⟨i1,i2,i3⟩:=hI
    exact aV rfl 35 _ _ rfl gC 9 (.slice B3 m m3) (.slice B3 c.ans.length m3) rfl rfl rfl rfl (by kernel_rfl) (show W.cell? ⟨gC,9,none⟩=some (.slice B3 c.ans.length m3) by rw[ap i3,show 9=8+1 from rfl,dw H8.out];rfl) (aq i3 9) ⟨(),[],rfl,rfl,rfl,⟨i1.trans (Fr.cell (S:=fun k=>k=gC) (p:=⟨gC,9,none⟩) rfl _),fun e=>Bool.noConfusion e,(show (W.setCell ⟨gC,9,none⟩ (.slice B3 m m3)).heap[gC]?=some (.cells (cac c.r (.slice A3 c.h.length k3) (.slice B3 m m3) F).toArray 37 (0,0)) by
     have h:=aJ (L:=cac c.r (.slice A3 c.h.length k3) (.slice B3 c.ans.length m3) F) i3 9 (.slice B3 m m3)
     rw[show 9=8+1 from rfl,jB H8.out] at h
     exact h)⟩⟩
  ·intro _ W hI
   obtain⟨i1,_,i3⟩:=hI
   obtain⟨w10,rfl⟩:=nm_ W
   have hnt:∀ k cs fr,k=gC→w9.heap[k]?≠some (.cells cs 2 fr):=fun k cs fr e=>by subst e;rw[HC9b.out];simp
   have hlt:(c.ans.take m).length=m:=by rw[List.length_take];have:=HMn.out;omega
   have HCX:=ak_ (show CaB w10 gC { c with fuel:=F,ans:=c.ans.take m } from ⟨A3,k3,B3,m3,by show w10.heap[gC]?=some (.cells (cac c.r (.slice A3 c.h.length k3) (.slice B3 (c.ans.take m).length m3) F).toArray 37 (0,0));rw[hlt];exact i3,H8.out,HR9.out.1.fr aC i1 hnt,by show RdT (Kd.int .i64) 2 w10 (.slice B3 (c.ans.take m).length m3) (c.ans.take m);rw[hlt];exact(HR9.out.2.take HMn.out).fr aC i1 hnt⟩)
   have HGtX:=ak_ ((i1.block gt (ai HGt9.out) (by have:=HBe2.out;omega)).trans HGt9.out)
   have HFX:=ak_ (show Fr (fun k=>k=gC∨w5.heap.size≤k) w5 w10 from HF9.out.trans (i1.mono fun k _ e=>.inl e))
   have HLm:=ak_ (show (c.ans.take m).length≤5000 by rw[hlt];have:=HAn.out;have:=HMn.out;omega)
   have c8:=(show w10.cell? ⟨gC,8,none⟩=some (.slice A3 c.h.length k3) by rw[ap i3,show 8=8+0 from rfl,dw H8.out];rfl)
   have hh0:(c.h.length:Int)=0:=by rw[HH0.out];rfl
   clear hnt hlt i1 i3 HL2 HR9 HC9b HGt9 HF9 hm1 hm2 hm4
   go_wp2
   go_loopw [] (fun wr=>aa (wr=w10)) (fun _=>0)
   case atStart=>exact⟨rfl⟩
   case round=>
    obtain⟨wq,hwq⟩:=nm_ w10
    have hrw:=hrel.out
    subst hrw
    clear hwq hrel
    go_wp2
    obtain⟨w10,hw10⟩:=nm_ wr
    rw[←hw10] at HCX HGtX HFX
    clear c8
    go_loopw [73,13,14] (fun j _ _ wr=>∃ (i:Nat) (c':Ca),j=.int .i64 i∧aa (i≤8∧CaB wr gC c'∧c'.fuel=F∧c'.h=[]∧c'.ans.length≤5000∧Fr (fun k=>k=gC∨w5.heap.size≤k) w5 wr∧wr.heap[gt]?=some (.cells #[pj B (B+1)] 156 (0,0)))) (fun j _ _ _=>8 - (intOf j).toNat)
    case atStart=>exact⟨0,{ c with fuel:=F,ans:=c.ans.take m },rfl,⟨⟨Nat.zero_le _,by rw[←hw10];exact HCX.out,rfl,HH0.out,HLm.out,by rw[←hw10];exact HFX.out,by rw[←hw10];exact HGtX.out⟩⟩⟩
    case round=>
     obtain⟨i,c',rfl,HI⟩:=hrel
     obtain⟨hi,hC,hFu,hH,hAl,hFr,hGt⟩:=HI.out
     obtain⟨A4,k4,B4,m4,hcb,h84,hch,hca⟩:=hC
     have H84:=ak_ h84
     by_cases hi8:i < 8
     ·have hi8':(i:Int) < 8:=by omega
      have HCb:=ak_ hcb
      have HRd:=ak_ (And.intro hch hca)
      have HGt:=ak_ hGt
      have HFr:=ak_ hFr
      have HTw2:=ak_ (HTW.out wr hFr)
      have HX:=ak_ (And.intro hFu (And.intro hH hAl))
      have hi0:(0:Int)≤(i:Int):=by omega
      clear hi hFu hH hAl hFr hGt hcb h84 hch hca HI hw10
      go_upto_region 19 with (first
       | ((with_reducible refine aj (N:=76) rfl ?_);refine ax rfl _ (al rfl rfl (aT (P:=Tryz.prog) HCb.out Tryz.underlying37 rfl (bq H84.out))) ?_)
       | ((with_reducible refine ao (t:=37) (p:=14) rfl ?_);refine an rfl 37 _ _ rfl wr.heap.size (cac c'.r (.slice A4 c'.h.length k4) (.slice B4 c'.ans.length m4) c'.fuel).toArray rfl rfl 37 dR (heap_alloc_last wr _) (bq H84.out) (caz H84.out) fC ?_;intro w11 h11 hf11;have H11:=ak_ h11;have HB11:=ak_ (bV hf11);clear h11 hf11))
      obtain⟨G,hG⟩:=mn_ wr.heap.size
      rw[hG] at H11 ⊢
      have HG:=ak_ hG
      clear hG
      have dI:=(show w11.cell? ⟨G,i,none⟩=some (.int .i64 (c'.r.getD i 0)) by rw[ap H11.out,AC H84.out hi8])
      have fI:=aq H11.out i
      go_upto_region 20 with fail
      obtain⟨w12,hw12⟩:∃ w12,w12=w11.setCell ⟨G,i,none⟩ (.int .i64 0):=⟨_,rfl⟩
      refine ar hw12.symm ?_
      have h8n:(c'.r.set i 0).length=8:=by rw[List.length_set];exact H84.out
      have h12:w12.heap[G]?=some (.cells (cac (c'.r.set i 0) (.slice A4 c'.h.length k4) (.slice B4 c'.ans.length m4) c'.fuel).toArray 37 (0,0)):=by
       rw[hw12,aJ H11.out,vp _ _ (by rw[H84.out];exact hi8)]
      have hb12:Below wr.heap.size wr w12:=by rw[hw12];exact Fr.below HB11.out (Fr.cell (S:=fun j=>j=G) (p:=⟨G,i,none⟩) rfl _) (fun k hk e=>by have:=HG.out;omega) HB11.out.size
      have hgt12:=ag HGt.out hb12
      unfold pj at hgt12
      have ct:=(show w12.cell? ⟨gt,0,none⟩=some (.func (.func 60) #[] #[.pointer (some ⟨B,0,none⟩),.pointer (some ⟨B+1,0,none⟩)]) by rw[ah hgt12];rfl)
      have hT1:=nV f g B (B+1) Af Ag cf cg Hcf.out.1 Hcf.out.2 { c' with r:=c'.r.set i 0 } (.agg (cac (c'.r.set i 0) (.slice A4 c'.h.length k4) (.slice B4 c'.ans.length m4) c'.fuel).toArray) w12 (HTw2.out.below hb12) ⟨_,_,rfl,h8n,HRd.out.1.below hb12,HRd.out.2.below hb12⟩ (by show c'.h.length≤_;rw[HX.out.2.1];exact Nat.zero_le _) (by show c'.ans.length≤_;have:=HX.out.2.2;omega)
      obtain⟨b,hbb⟩:=nm_ (gX f g { c' with r:=c'.r.set i 0 })
      rw[←hbb] at hT1
      have HT1:=ak_ hT1
      have H12:=ak_ h12
      have HB12:=ak_ hb12
      have H8N:=ak_ h8n
      have HI8:=ak_ hi8
      obtain⟨r',hr'⟩:∃ r',r'=c'.r.set i 0:=⟨_,rfl⟩
      rw[←hr'] at HT1 H12 H8N
      have HCn:=ak_ (show ∀ W,W.heap[gC]?=some (.cells (cac r' (.slice A4 c'.h.length k4) (.slice B4 c'.ans.length m4) c'.fuel).toArray 37 (0,0))→RdT (Kd.int .i64) 2 W (.slice A4 c'.h.length k4) c'.h→RdT (Kd.int .i64) 2 W (.slice B4 c'.ans.length m4) c'.ans→CaB W gC { c' with r:=r' } from fun W h1 h2 h3=>⟨A4,k4,B4,m4,h1,H8N.out,h2,h3⟩)
      clear hw12 h8n h12 hb12 hgt12 hT1 hbb hr' dI fI hi8 H11 HB11
      cases b
      ·go_wp2_with (first
        | ((with_reducible refine aj (N:=81) rfl ?_);refine ax rfl _ (al rfl rfl (aT (P:=Tryz.prog) H12.out Tryz.underlying37 rfl (bq H8N.out))) ?_)
        | (go_at_call 60;refine HT1.out.mono ?_;rintro e w13 ⟨rfl,hb⟩;have HB13:=ak_ (af HB12.out hb);clear hb ct))
       go_roundw
       case rel=>exact⟨i+1,c',by go_num,⟨⟨HI8.out,⟨A4,k4,B4,m4,ag HCb.out HB13.out,H84.out,HRd.out.1.below HB13.out,HRd.out.2.below HB13.out⟩,HX.out.1,HX.out.2.1,HX.out.2.2,HFr.out.trans (Fr.of_below HB13.out),ag HGt.out HB13.out⟩⟩⟩
       case measure=>have:=HI8.out;simp[intOf];omega
      ·go_wp2_with (first
        | ((with_reducible refine aj (N:=81) rfl ?_);refine ax rfl _ (al rfl rfl (aT (P:=Tryz.prog) H12.out Tryz.underlying37 rfl (bq H8N.out))) ?_)
        | (go_at_call 60;refine HT1.out.mono ?_;rintro e w13 ⟨rfl,hb⟩;have HB13:=ak_ (af HB12.out hb);have H13:=ak_ (ag H12.out hb);clear hb ct)
        | ((with_reducible refine aj (N:=83) rfl ?_);refine ax rfl _ (al rfl rfl (aT (P:=Tryz.prog) H13.out Tryz.underlying37 rfl (bq H8N.out))) ?_)
        | ((with_reducible refine ao (t:=37) (p:=5) rfl ?_);refine an rfl 37 _ _ rfl gC (cac r' (.slice A4 c'.h.length k4) (.slice B4 c'.ans.length m4) c'.fuel).toArray rfl rfl 37 _ (ag HCb.out HB13.out) (bq H8N.out) (by rw[List.size_toArray,List.size_toArray,jC H84.out,jC H8N.out]) fC ?_;intro w14 h14 hf14;have H14:=ak_ h14;have HF14:=ak_ hf14;clear h14 hf14))
       have hnt:∀ k cs fr,k=gC→w13.heap[k]?≠some (.cells cs 2 fr):=fun k cs fr e=>by subst e;rw[ag HCb.out HB13.out];simp
       go_roundw
       case rel=>exact⟨i+1,{ c' with r:=r' },by go_num,⟨⟨HI8.out,HCn.out _ H14.out ((HRd.out.1.below HB13.out).fr aC HF14.out hnt) ((HRd.out.2.below HB13.out).fr aC HF14.out hnt),HX.out.1,HX.out.2.1,HX.out.2.2,(HFr.out.trans (Fr.of_below HB13.out)).trans (HF14.out.mono fun k _ e=>.inl e),(HF14.out.block gt (ai (ag HGt.out HB13.out)) (by have:=HBe2.out;omega)).trans (ag HGt.out HB13.out)⟩⟩⟩
       case measure=>have:=HI8.out;simp[intOf];omega
     ·obtain rfl:i=8:=by omega
      have hTw2:=HTW.out wr hFr
      have c0:=(show wr.cell? ⟨B,0,none⟩=some (.slice Af f.length cf) by rw[ah hTw2.bf];rfl)
      have c1:=(show wr.cell? ⟨B+1,0,none⟩=some (.slice Ag g.length cg) by rw[ah hTw2.bg];rfl)
      have hT:=iI f g Af Ag cf cg c' (.agg (cac c'.r (.slice A4 c'.h.length k4) (.slice B4 c'.ans.length m4) c'.fuel).toArray) wr hTw2.gl hTw2.cf Hcf.out.1 hTw2.cg Hcf.out.2 ⟨_,_,rfl,h84,hch,hca⟩ (by rw[hH];exact Nat.zero_le _) (by omega)
      have HT:=ak_ hT
      have HCb:=ak_ hcb
      have HRd:=ak_ (And.intro hch hca)
      have HFu2:=ak_ hFu
      have hz4:wr.heap[gC+1]?=some (.cells dR 37 (0,0)):=(hFr.block (gC+1) (by have:=ai H4.out;have:=HB5.out.size;have:=HgC.out;omega) (by have:=ai H4.out;have:=HB5.out.size;have:=HgC.out;omega)).trans (by have h:=ag H4.out HB5.out;rw[show B+3=gC+1 from by have:=HgC.out;omega] at h;exact h)
      have HZ4:=ak_ hz4
      have HBw:=ak_ (show Below w.heap.size w wr from Fr.below (af HB1.out HB5.out) hFr (fun k hk e=>by have:=HGl.out;have:=HgC.out;have:=HBe.out;omega) (af HB1.out HB5.out).size)
      clear hi hFu hH hAl hFr hGt hcb h84 hch hca hi8 hTw2 hT hz4 HI hw10
      go_wp2_with (first
       | ((with_reducible refine aj (N:=88) rfl ?_);refine ax rfl _ (al rfl rfl (aT (P:=Tryz.prog) HCb.out Tryz.underlying37 rfl (bq H84.out))) ?_)
       | (go_at_call 9;refine HT.out.mono ?_;rintro e w11 ⟨rfl,hb⟩;have HB11:=ak_ hb;clear hb)
       | ((with_reducible refine aj (N:=92) rfl ?_);refine ax rfl _ (al rfl rfl (aT (P:=Tryz.prog) (ag HCb.out HB11.out) Tryz.underlying37 rfl (bq H84.out))) ?_)
       | ((with_reducible refine ao (t:=37) (p:=6) rfl ?_);refine an rfl 37 _ _ rfl (gC+1) (cac c'.r (.slice A4 c'.h.length k4) (.slice B4 c'.ans.length m4) c'.fuel).toArray rfl rfl 37 dR (ag HZ4.out HB11.out) (bq H84.out) (caz H84.out) fC ?_;intro w12 h12 hf12;have H12:=ak_ h12;have HF12:=ak_ hf12;clear h12 hf12))
      have hnt:∀ k cs fr,k=gC+1→w11.heap[k]?≠some (.cells cs 2 fr):=fun k cs fr e=>by subst e;rw[ag HZ4.out HB11.out];simp
      exact bodyPost_ret (v:=.tuple #[.agg (cac c'.r (.slice A4 c'.h.length k4) (.slice B4 c'.ans.length m4) c'.fuel).toArray,.int .i64 (dt f g c').1,.int .i64 0]) (aA (rs:=[.cell 6 37,.tmp 7,.tmp 8]) rfl (by simp) (.cell (gC+1) 37 _ (0,0) _ rfl H12.out Tryz.underlying37 rfl (bq H84.out) (.tmp (.tmp .nil)))) rfl ⟨_,c',_,rfl,⟨_,_,rfl,H84.out,(HRd.out.1.below HB11.out).fr aC HF12.out hnt,(HRd.out.2.below HB11.out).fr aC HF12.out hnt⟩,HFu2.out.trans HFe.out,Fr.below (af HBw.out HB11.out) HF12.out (fun k hk e=>by have:=HgC.out;have:=HBe.out;omega) (af HBw.out HB11.out).size⟩
section
open Go.Shelf
attribute [local go_sem] Oper.semAt_some
theorem sM (f g:List In) (Af Ag:Option Addr) (cf cg:Nat) (l bB bF bG:Nat) (W:World) (hf:f.length≤200) (hg:g.length≤200) (hCf:Kd.C kIn W Af f.length f) (hcf:f.length≤cf) (hCg:Kd.C kIn W Ag g.length g) (hcg:g.length≤cg)
  (hB:W.heap[bB]?=some (.cells #[.int .i64 0,.int .i64 0] 24 (0,0))) (hF:W.heap[bF]?=some (.cells #[.slice Af f.length cf] 22 (0,0))) (hG:W.heap[bG]?=some (.cells #[.slice Ag g.length cg] 22 (0,0))) (J Jx:World→Prop) (n₀:Nat) (hn₀:bB < n₀)
  (hY:∀ v W1,CaV W1 (aQ f g) v→Below W.heap.size W W1→YieldAt Fence.wide 2 Tryz.prog l #[.int .i64 0,v] W1 fun e W'=>(e=.returned (.bool true)∧J W'∧Below n₀ W W')∨(e=.returned (.bool false)∧Jx W')) :
  CallsIn Fence.wide 3 Tryz.prog 87 #[.func (.yield l) #[] #[],.pointer (some ⟨bB,0,none⟩),.pointer (some ⟨bF,0,none⟩),.pointer (some ⟨bG,0,none⟩)] W fun e W'=>(∃ v,e=.returned v)∧(J W'∨Jx W'):=by
 have HA:=ak_ (fun (W1:World) (hb:Below W.heap.size W W1)=>Az f g Af Ag cf cg 0 W1 hf hg (Kd.C_below hCf hb) hcf (Kd.C_below hCg hb) hcg)
 have HY:=ak_ hY
 have HB:=ak_ hB
 have c0:=(show W.cell? ⟨bB,0,none⟩=some (.int .i64 0) by rw[ah hB];rfl)
 have c1:=(show W.cell? ⟨bB,1,none⟩=some (.int .i64 0) by rw[ah hB];rfl)
 have cF:=(show W.cell? ⟨bF,0,none⟩=some (.slice Af f.length cf) by rw[ah hF];rfl)
 have cG:=(show W.cell? ⟨bG,0,none⟩=some (.slice Ag g.length cg) by rw[ah hG];rfl)
 clear hf hg hCf hcf hCg hcg hY hB hF hG
 refine callsIn_of_wp Tryz.func87 rfl trivial ?_ rfl
 simp only[Tryz.ntmps87,List.size_toArray,List.length_cons,List.length_nil,Nat.reduceAdd,Nat.reduceSub,Array.replicate_succ,Array.replicate_zero,List.push_toArray,List.append_toArray,List.nil_append,List.cons_append]
 gi_wp2
 gi_loopw [5] (fun i wr=>∃ k:Nat,k≤1∧i=.int .i64 k∧(k=0→wr=W)∧(k=1→J wr∧Below n₀ W wr))
  (fun i _=>1 - (intOf i).toNat)
 case atStart=>exact⟨0,by omega,rfl,fun _=>rfl,fun h=>by omega⟩
 case round=>
  obtain⟨k,hk,rfl,hk0,hk1⟩:=hrel
  by_cases hlt:k=0
  ·subst hlt
   obtain rfl:=hk0 rfl
   gi_wp2_with (refine⟨trivial,?_⟩;gi_at_call 88;refine(callsIn_wide.2 (HA.out _ (Below.refl _ _))).mono ?_;rintro e W2 ⟨v,rfl,hv,hb⟩;obtain⟨fn,tmps,assign,body,hy,hR⟩:=HY.out v W2 hv hb;have c0:=ak hb c0;have HV:=ak_ hb;clear hv hb)
   refine hR.mono ?_
   rintro e W3 (⟨rfl,hJ3,hk3⟩ | ⟨rfl,hJx3⟩)
   ·clear hy hR
    gi_wp2
    go_roundw
    case rel=>exact⟨1,Nat.le_refl _,by go_num,fun h=>absurd h (by decide),fun _=>⟨hJ3,hk3⟩⟩
    case measure=>simp[intOf]
   ·clear hy hR
    gi_wp2
    refine bodyPost_ret (results_none rfl _ _ _) rfl ?_
    exact⟨⟨_,rfl⟩,.inr hJx3⟩
  ·obtain rfl:k=1:=by omega
   obtain⟨hJ,hb⟩:=hk1 rfl
   have c0:=(hb.cell (p:=⟨bB,0,none⟩) hn₀).trans c0
   gi_wp2
   go_end0
   exact⟨⟨_,rfl⟩,.inl hJ⟩
theorem tX (vf vg:Value) (Af Ag:Option Addr) (nf ng cf cg:Nat) (hvf:vf=.slice Af nf cf) (hvg:vg=.slice Ag ng cg) (w:World) :
  Calls Tryz.prog 59 #[vf,vg,.agg #[.int .i64 0,.int .i64 0]] w fun e w'=>∃ B,e=.returned (.func (.func 87) #[] #[.pointer (some ⟨B+2,0,none⟩),.pointer (some ⟨B,0,none⟩),.pointer (some ⟨B+1,0,none⟩)])∧B=w.heap.size∧
   w'.heap[B]?=some (.cells #[vf] 22 (0,0))∧w'.heap[B+1]?=some (.cells #[vg] 22 (0,0))∧w'.heap[B+2]?=some (.cells #[.int .i64 0,.int .i64 0] 24 (0,0))∧Below w.heap.size w w':=by
 subst hvf hvg
 obtain⟨w1,hw1⟩:∃ w1,w1=((w.alloc (.cells #[.slice Af nf cf] 22)).alloc (.cells #[.slice Ag ng cg] 22)).alloc (.cells #[.int .i64 0,.int .i64 0] 24):=⟨_,rfl⟩
 obtain⟨b1,b2,b3,b4⟩:=cw (w:=w) (w1:=w1) (A:=.cells #[.slice Af nf cf] 22) (B:=.cells #[.slice Ag ng cg] 22) (C:=.cells #[.int .i64 0,.int .i64 0] 24) (by rw[hw1];exact Below.refl _ _)
 have HR:=ak_ (And.intro b1 (And.intro b2 (And.intro b3 b4)))
 have HW1:=ak_ hw1
 clear hw1 b1 b2 b3 b4
 go_enter Tryz.func59,Tryz.ntmps59
 go_upto_region 1 with fail
 refine ar HW1.out.symm ?_
 go_wp2
 go_ret
 exact⟨w.heap.size,rfl,rfl,HR.out⟩
end
end Go.Proofs.YtlinbehijfcelaaGreatDoor.Top
