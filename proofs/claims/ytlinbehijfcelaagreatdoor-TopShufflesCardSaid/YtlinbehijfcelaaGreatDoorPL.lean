/- Walks of the program, and what it computes, told plainly. No condition. (USQ) -/
import Derived.Below
import Derived.Deep.Draws
import Derived.Deep.AppendLies
import Derived.Maps.AppendAt
import Derived.OwnWalk
import Derived.Laws.BytesArg
import Derived.Laws.MakeOwn
import Derived.Laws.OwnMore
import Derived.Deep.OwnRows
import Derived.Tactics
import Derived.Lib.ConvBytes
import Derived.Laws.Slices
import Derived.WalkKit
import Derived.KernelRfl
import Derived.RowKit3
import Derived.Deep.LoopGhost
import Derived.Deep.QuietTactic
import Derived.BigQuiet
import Derived.WideLaws
import Derived.Deep.DeepCutAuto
import Derived.Deep.CutBlock
import Derived.Deep.RegionHeld3
import Derived.Laws.Rows
import Derived.Lib.AppendStr
import Derived.ArgAppend
import Derived.Laws.IdiomCopy
import Derived.RowKit
import Derived.OrdersHeld
import Derived.Laws.BitsLemmas
import Derived.Laws.StructEq
import Derived.Test.YtlinbehijfcelaaGreatDoorProg
import Derived.Deep.WholeRow
import Derived.Laws.CopyOwn
import Derived.Carry
import Derived.ChangeKeysEq
import Derived.Laws.RangeAny
import Derived.Deep.MidRow
import Derived.Laws.Tables
import Derived.StillTailTactics
import Derived.Test.YtlinbehijfcelaaGreatDoorPA
import Derived.Test.YtlinbehijfcelaaGreatDoorPB
import Derived.Test.YtlinbehijfcelaaGreatDoorPC
import Derived.Test.YtlinbehijfcelaaGreatDoorPD
import Derived.Test.YtlinbehijfcelaaGreatDoorPE
import Derived.Test.YtlinbehijfcelaaGreatDoorPF
import Derived.Test.YtlinbehijfcelaaGreatDoorPG
import Derived.Test.YtlinbehijfcelaaGreatDoorPH
import Derived.Test.YtlinbehijfcelaaGreatDoorPI
import Derived.Test.YtlinbehijfcelaaGreatDoorPJ
import Derived.Test.YtlinbehijfcelaaGreatDoorPK
set_option linter.unusedVariables false
set_option linter.unusedSimpArgs false
set_option linter.unusedSectionVars false
set_option maxHeartbeats 8000000
set_option maxRecDepth 100000
open Go.Value renaming agg->IA,bool->Iy,int->Ib,oneCell'->IH,ownBlock->IQ,pointer->Iq,slice->Ia,tuple->IR
open Go.Proofs.Tryz renaming prog->If,underlying109->Ms,underlying116->JD,underlying119->KE,underlying135->IN,underlying151->MB,underlying49->I6
open Option renaming getD_some->JL,none->Ih,some->Ic
open Go renaming Calls->I9,Value->Io,World->Im,bodyPost_ret->IG,heap_alloc_last->Iu,loadVar->Le,undef->KG,wpList_load_row->II,wpStill_nil->Mc,wp_region_still_lit->KF
open Go.RowKit renaming Below->It,intOf->Jj
open Go.IntKind renaming i64->Ie
open List renaming append_nil->JS,drop_eq_getElem_cons->Jc,drop_of_length_le->Ju,getD_eq_getElem?_getD->Ij,getElem?_eq_getElem->Ig,getElem?_eq_none->I0,getElem?_eq_some_iff->Ip,getElem?_map->IK,length_append->IV,length_map->Jb,length_take->Kt,map_append->LY,mem_append->J0,mem_of_getElem?->Iw,mem_singleton->IS,nodup_nil->Li,not_mem_nil->JE,setIfInBounds_toArray->IP,set_cons_succ->IZ,set_cons_zero->IY,take_append_of_le_length->Kx,take_length->Kh,take_succ_eq_append_getElem->JC
open Bool renaming false->Ik,noConfusion->Ix,true->Ir
open Go.Ending renaming returned->Iv
open Go.Obj renaming cells->Is
open Go.RowKit.Below renaming refl->Il
open Go.Act renaming put->KY
open Option.some renaming inj->Ii
open Array renaming getElem?_eq_some_iff->IB
open Nat renaming le_of_lt->Mv,le_refl->Iz,le_trans->IT,mul_one->JQ,zero_le->ID
open And renaming intro->IE
open Int renaming toNat_natCast->IC
namespace Go.Proofs.YtlinbehijfcelaaGreatDoor.Top
open Go.RowKit Go.Proofs.YtlinbehijfcelaaGreatDoorW.PrintWords Go.Proofs.YtlinbehijfcelaaGreatDoorW.PrintLast
section
theorem D9(A:Option Addr)(n c:Nat):If.built 124 [(0,Ia A n c)]=Ic (fk (Ia A n c) (Ia Ih 0 0) ⟨0,bE⟩ (Ia Ih 0 0) (Ia Ih 0 0) (Ia Ih 0 0) (Ia Ih 0 0) (Ia Ih 0 0)).toArray:=by kernel_rfl
structure Of4(w W:Im)(g2 gm p4:Nat)(L:List Io):Prop where
 b:It w.heap.size w W
 h2:W.heap[g2]?=Ic (.cells #[Ib Ie 0,Ia Ih 0 0,Ia Ih 0 0] 33 (0,0))
 blk:W.heap[gm]?=Ic (.cells L.toArray 124 (0,0))
 h4:W.heap[p4]?=Ic (.cells #[Iq (Ic ⟨gm,0,Ih⟩)] 114 (0,0))
 lo:w.heap.size<=gm
section
variable{w W W1:Im}{g2 gm p4:Nat}{L:List Io}
theorem Of4.below(h:Of4 w W g2 gm p4 L)(hb:It W.heap.size W W1):Of4 w W1 g2 gm p4 L:=⟨af h.b hb,ag h.h2 hb,ag h.blk hb,ag h.h4 hb,h.lo⟩
theorem Of4.wr(h:Of4 w W g2 gm p4 L){L1:List Io}(hf:Fr (λk=>k=gm) W W1)(hb:W1.heap[gm]?=Ic (.cells L1.toArray 124 (0,0))):Of4 w W1 g2 gm p4 L1:=
 have hlo:=h.lo;have n2:g2≠gm:=λe=>by have h1:=h.h2;rw[e,h.blk]at h1;simp at h1
 have n4:p4≠gm:=λe=>by have h1:=h.h4;rw[e,h.blk]at h1;simp at h1
 ⟨Fr.below h.b hf (λk hk q=>by omega) h.b.size,(hf.block _ (aj h.h2) n2).trans h.h2,hb,(hf.block _ (aj h.h4) n4).trans h.h4,h.lo⟩
theorem Of4.set(h:Of4 w W g2 gm p4 L)(i:Nat)(v:Io):Of4 w (W.setCell ⟨gm,i,Ih⟩ v) g2 gm p4 (L.set i v):=h.wr (Fr.cell (S:=λk=>k=gm) (p:=⟨gm,i,Ih⟩) rfl _) (aR h.blk i v)
theorem Of4.frS(i:Nat)(v:Io):Fr (λk=>k=gm) W (W.setCell ⟨gm,i,Ih⟩ v):=Fr.cell (S:=λk=>k=gm) (p:=⟨gm,i,Ih⟩) rfl _
theorem Of4.c4(h:Of4 w W g2 gm p4 L):W.cell? ⟨p4,0,Ih⟩=Ic (.pointer (Ic ⟨gm,0,Ih⟩)):=by rw[ah h.h4];rfl
theorem Of4.keep(h:Of4 w W g2 gm p4 L){α:Type}{d:Kd α}{e b:Nat}{ok:Nat->Prop}{v:Io}{xs:List α}(hr:Kd.R d e W b ok v xs)(hd:∀q∈e::d.E,q≠124)(hf:Fr (λk=>k=gm) W W1):Kd.R d e W1 b ok v xs:=
 dy hr hf (λk q cells hk hc hq=>by
  have hk2:k=gm:=hk;rw[hk2,h.blk]at hc;simp at hc;exact hd q hq hc.2.symm)
end
def mk0(vf vc:Io):List Io:=fk vf vc ⟨0,bE⟩ (Ia Ih 0 0) (Ia Ih 0 0) (Ia Ih 0 0) (Ia Ih 0 0) (Ia Ih 0 0)
def mk1(vf vc:Io)(e:aX)(vN vF vA vW:Io):List Io:=fk vf vc e vN vF vA vW (Ia Ih 0 0)
theorem EN(vf vc vN:Io)(e:aX):(mk0 vf vc).take 2++(e.cells++[vN])++(mk0 vf vc).drop (2+(e.cells++[vN]).length)=mk1 vf vc e vN (Ia Ih 0 0) (Ia Ih 0 0) (Ia Ih 0 0):=by
 have hl:(e.cells++[vN]).length=26:=by rw[IV,aX.len];rfl
 rw[hl];have h1:(mk0 vf vc).take 2=[vf,vc]:=rfl;have h2:(mk0 vf vc).drop (2+26)=[Ia Ih 0 0,Ia Ih 0 0,Ia Ih 0 0,Ia Ih 0 0]:=rfl;rw[h1,h2];unfold mk1 fk;simp
theorem EM(vf vc vN vF vA vW:Io)(e:aX):((mk1 vf vc e vN vF vA vW).drop 2).take (e.cells++[vN]).length=e.cells++[vN]:=by
 have hl:(e.cells++[vN]).length=26:=by rw[IV,aX.len];rfl
 rw[hl];have h1:(mk1 vf vc e vN vF vA vW).drop 2=(e.cells++[vN])++[vF,vA,vW,Ia Ih 0 0]:=by unfold mk1 fk;simp
 rw[h1,Kx (by omega),List.take_of_length_le (by omega)]
structure Of5(w W:Im)(g2 gm p4 gc:Nat)(c:List Bool)(S:bj)(vN:Io)(L:List Io):Prop where
 o:Of4 w W g2 gm p4 L
 hc:W.heap[gc]?=Ic (.cells (c.map Iy).toArray 4 (0,0))
 r:Kd.R dK 142 W w.heap.size (λk=>w.heap.size<=k) vN S.nodes
section
variable{w W W1:Im}{g2 gm p4 gc:Nat}{c:List Bool}{S:bj}{vN:Io}{L:List Io}
theorem Of5.below(h:Of5 w W g2 gm p4 gc c S vN L)(hb:It W.heap.size W W1):Of5 w W1 g2 gm p4 gc c S vN L:=⟨h.o.below hb,ag h.hc hb,Kd.R_below h.r hb⟩
theorem Of5.set(h:Of5 w W g2 gm p4 gc c S vN L)(i:Nat)(v:Io):Of5 w (W.setCell ⟨gm,i,Ih⟩ v) g2 gm p4 gc c S vN (L.set i v):=
 ⟨h.o.set i v,bp h.hc (p:=⟨gm,i,Ih⟩) (λe=>by have h1:=h.o.blk;have e2:gc=gm:=e;rw[<-e2,h.hc]at h1;simp at h1) _,h.o.keep h.r (λq hq=>by have:=ji hq;omega) (Of4.frS i v)⟩
theorem Of5.load{vf vc vF vA vW:Io}(h:Of5 w W g2 gm p4 gc c S vN (mk1 vf vc S.entry vN vF vA vW)):(Le 119 ⟨gm,2,Ih⟩).run If W=.ok (IA (S.entry.cells++[vN]).toArray) W:=
 cr h.o.blk 119 2 (S.entry.cells++[vN]) (EM _ _ _ _ _ _ _) _ KE rfl (by rw[IV,aX.len];exact tJ)
end
structure Of6(w W:Im)(g2 gm p4 gc:Nat)(f:List In)(c:List Bool)(S:bj)(F:List (List Src))(vf vc vN:Io)(s:Io×Io×Io)(b0 b1 b2 b3 b4 b5:Bool):Prop where
 o:Of5 w W g2 gm p4 gc c S vN (mk1 vf vc S.entry vN (if b3=Ir then s.1 else Ia Ih 0 0) (if b4=Ir then s.2.1 else Ia Ih 0 0) (if b5=Ir then s.2.2 else Ia Ih 0 0))
 hf:b0=Ir->Kd.R my 143 W w.heap.size (λk=>w.heap.size<=k) s.1 F
 ha:b1=Ir->Kd.R np 120 W w.heap.size (λk=>w.heap.size<=k) s.2.1 (fJ f S)
 hw:b2=Ir->Kd.R (Kd.slice 151 dw) 149 W w.heap.size (λk=>w.heap.size<=k) s.2.2 (a7 S)
section
variable{w W W1:Im}{g2 gm p4 gc:Nat}{f:List In}{c:List Bool}{S:bj}{F:List (List Src)}{vf vc vN:Io}{s:Io×Io×Io}{b0 b1 b2 b3 b4 b5:Bool}
theorem Of6.below(h:Of6 w W g2 gm p4 gc f c S F vf vc vN s b0 b1 b2 b3 b4 b5)(hb:It W.heap.size W W1):Of6 w W1 g2 gm p4 gc f c S F vf vc vN s b0 b1 b2 b3 b4 b5:=⟨h.o.below hb,λe=>Kd.R_below (h.hf e) hb,λe=>Kd.R_below (h.ha e) hb,λe=>Kd.R_below (h.hw e) hb⟩
theorem Of6.wr(h:Of6 w W g2 gm p4 gc f c S F vf vc vN s b0 b1 b2 b3 b4 b5){b3' b4' b5':Bool}(i:Nat)(v:Io)(hL:(mk1 vf vc S.entry vN (if b3=Ir then s.1 else Ia Ih 0 0) (if b4=Ir then s.2.1 else Ia Ih 0 0) (if b5=Ir then s.2.2 else Ia Ih 0 0)).set i v=mk1 vf vc S.entry vN (if b3'=Ir then s.1 else Ia Ih 0 0) (if b4'=Ir then s.2.1 else Ia Ih 0 0) (if b5'=Ir then s.2.2 else Ia Ih 0 0)):Of6 w (W.setCell ⟨gm,i,Ih⟩ v) g2 gm p4 gc f c S F vf vc vN s b0 b1 b2 b3' b4' b5':=
 ⟨by rw[<-hL];exact h.o.set i v,λe=>h.o.o.keep (h.hf e) (λq hq=>by have:=lO hq;omega) (Of4.frS i v),λe=>h.o.o.keep (h.ha e) (λq hq=>by have:=oq hq;omega) (Of4.frS i v),λe=>h.o.o.keep (h.hw e) (λq hq=>by have:=oo hq;omega) (Of4.frS i v)⟩
end
theorem As(f:List In)(A:Option Addr)(cf:Nat)(w:Im)(hG:Gl w)(hF:Kd.C kIn w A f.length f)(hcf:f.length<=cf)(hr:bi f=Ir) :
  I9 If 34 #[Ia A f.length cf] w λe w'=>∃vN vV,e=Iv (IR #[IA #[Ib Ie (bK f).entry,vN,vV],Ib Ie 0])/\Kd.R fg 145 w' w.heap.size (λk=>w.heap.size<=k) vN (bK f).nodes/\Kd.R jj 148 w' w.heap.size (λk=>w.heap.size<=k) vV (bK f).vals/\It w.heap.size w w':=by
 have hR:=bu hr;have hl200:=hR.len;have hl200':(f.length:Int)<=200:=by omega
 have HRt:=MD (eD A cf f w hG hF hcf);have HCut:=MD (λ(W:Im) (hb:It w.heap.size w W)=>Er f A cf W (hG.below hb) (Kd.C_below hF hb) hcf hr);have HG:=MD hG;have HF:=MD hF;have HR:=MD hR;have HRr:=MD hr;have HCf:=MD hcf;clear hG hF hR hcf;go_enter Tryz.func34,Tryz.ntmps34;go_upto_region 1 with fail
 obtain⟨w1,hw1⟩:∃w1,w1=w.alloc (Is #[Ib Ie 0,Ia Ih 0 0,Ia Ih 0 0] 33):=⟨_,rfl⟩;have hb1:It w.heap.size w w1:=by rw[hw1];exact ae (Il _ _) _
 have h2:w1.heap[w.heap.size]?=Ic (.cells #[Ib Ie 0,Ia Ih 0 0,Ia Ih 0 0] 33 (0,0)):=by rw[hw1];exact Iu w _
 refine ar hw1.symm ?_;have HRt1:=MD (eD A cf f w1 (HG.1.below hb1) (Kd.C_below HF.1 hb1) HCf.1);have HB1:=MD hb1;have H2:=MD h2;clear hw1 hb1 h2 HRt;go_upto_region 3 with(first
  |(go_at_call 47;refine HRt1.1.mono ?_;rintro e wa ⟨he,hb⟩;rw[hr]at he;subst he;have HBa:=MD (af HB1.1 hb);have H2a:=MD (ag H2.1 hb);clear hb))
 clear hr;go_upto_region 4 with(first
  |((with_reducible refine ai (N:=27) rfl ?_);refine aU rfl 124 _ rfl [(0,Ia A f.length cf)] _ rfl (D9 _ _ _) ?_))
 obtain⟨vf,hvf⟩:=ME (Ia A f.length cf);obtain⟨w3,hw3⟩:∃w3,w3=(wa.alloc (Is (mk0 vf (Ia Ih 0 0)).toArray 124)).alloc (Is #[Iq (Ic ⟨wa.heap.size,0,Ih⟩)] 114):=⟨_,rfl⟩;have h3:Of4 w w3 w.heap.size wa.heap.size (wa.heap.size+1) (mk0 vf (Ia Ih 0 0)):=by
  have h:=Iu (wa.alloc (Is (mk0 vf (Ia Ih 0 0)).toArray 124)) (Is #[Iq (Ic ⟨wa.heap.size,0,Ih⟩)] 114 (0,0));rw[hw3];exact⟨ae (ae HBa.1 _) _,aT (aT H2a.1 _) _,aT (Iu wa _) _,by simpa using h,HBa.1.size⟩
 have hw3':=hw3;rw[hvf]at hw3';refine ar hw3'.symm ?_;obtain⟨gm,hg⟩:=MF wa.heap.size;obtain⟨p4,hp⟩:=MF (gm+1);rw[hg]at h3 ⊢;rw[hp]at h3 ⊢;have H3:=MD h3;have HVf:=MD hvf;clear hw3 hw3' h3 hg hp hvf HBa H2a;refine bm (σ:=Nat) [2,8] (λs=>[(30,Iq (Ic ⟨gm,0,Ih⟩)),(31,Ia A f.length cf),(32,IR #[Ia (Ic ⟨s,0,Ih⟩) f.length f.length,Ib Ie 0]),(29,IR #[Ia (Ic ⟨s,0,Ih⟩) f.length f.length,Ib Ie 0]),(33,Ia (Ic ⟨s,0,Ih⟩) f.length f.length),(34,Ib Ie 0),(35,Iq (Ic ⟨gm,0,Ih⟩)),(36,Iq (Ic ⟨gm,1,Ih⟩))])
  (λbs s W=>Of4 w W w.heap.size gm p4 (mk0 vf (if bs.getD 1 Ik=Ir then Ia (Ic ⟨s,0,Ih⟩) f.length f.length else Ia Ih 0 0))/\(bs.getD 0 Ik=Ir->W.heap[s]?=Ic (.cells ((aZ f).map Iy).toArray 4 (0,0))/\w.heap.size<=s)) 0 (by kernel_rfl) (by kernel_rfl) (by kernel_rfl) (λ_=>by kernel_rfl) ?_
 intro aF haF;simp only[bk,KY,IP,IZ,IY]at haF;subst haF;refine⟨?_,?_,⟨H3.1.below (aA (Il _ _)),λe=>Ix e⟩,?_⟩
 .intro j o ho hct s W bs hlen hok hI
  rcases j with _|_|_|_|_|_|_|_|_|j
  all_goals first|exact absurd hct (by decide)|(obtain rfl:=Ii ho)|exact absurd (IB.1 ho).1 (by simp)
  .exact ax rfl 114 _ rfl ⟨p4,0,Ih⟩ _ rfl (by kernel_rfl) hI.1.c4 ⟨rfl,hI⟩
  .exact ab rfl (by go_simp) ⟨rfl,hI⟩
  .exact ab rfl (by go_simp) ⟨rfl,hI⟩
  .exact ab rfl (by go_simp) ⟨rfl,hI⟩
  .exact ab rfl (by go_simp) ⟨rfl,hI⟩
  .exact ab rfl (by go_simp) ⟨rfl,hI⟩
  .exact ab rfl (by go_simp) ⟨rfl,hI⟩
 .intro k j o hk ho s W bs hlen hok hI
  rcases k with _|_|k
  all_goals first|(obtain rfl:=Ii hk;obtain rfl:=Ii ho)|exact absurd hk (by simp)
  .obtain⟨b0,b1,rfl⟩:=it hlen
   obtain rfl:=okS hok 0 rfl rfl;obtain rfl:=okF hok 1 rfl rfl rfl (by kernel_rfl);refine aN rfl Tryz.func48 (by kernel_rfl) rfl #[Ia A f.length cf] rfl rfl ((HCut.1 W hI.1.b).mono λe w' h=>?_);obtain⟨gc,h1,h2,h3,h4⟩:=h;exact⟨_,h1,gc,[(32,IR #[Ia (Ic ⟨gc,0,Ih⟩) f.length f.length,Ib Ie 0]),(29,IR #[Ia (Ic ⟨gc,0,Ih⟩) f.length f.length,Ib Ie 0]),(33,Ia (Ic ⟨gc,0,Ih⟩) f.length f.length)],rfl,rfl,by kernel_rfl,hI.1.below h4,λ_=>⟨h3,IT hI.1.b.size h2⟩⟩
  .obtain⟨b0,b1,rfl⟩:=it hlen
   obtain rfl:=okS hok 1 rfl rfl;obtain rfl:=okT hok 0 rfl rfl rfl (by kernel_rfl);have h8:=hI.1.set 1 (Ia (Ic ⟨s,0,Ih⟩) f.length f.length);obtain⟨hc,hlo⟩:=hI.2 rfl;have hne:s≠gm:=λe=>by have h1:=hI.1.blk;rw[<-e,hc]at h1;simp at h1
   exact a_ rfl 71 _ _ rfl gm 1 _ (Ia Ih 0 0) rfl rfl rfl rfl (by kernel_rfl) (by rw[aq hI.1.blk];rfl) (au hI.1.blk 1) ⟨s,[],rfl,rfl,rfl,h8,λ_=>⟨bp hc (p:=⟨gm,1,Ih⟩) hne _,hlo⟩⟩
 .intro s W hI
  obtain⟨gc,hgc⟩:=ME s;subst hgc;have H4:=MD (show Of4 w W w.heap.size gm p4 (mk0 vf (Ia (Ic ⟨gc,0,Ih⟩) f.length f.length))from hI.1);have HC4:=MD (hI.2 rfl);clear hI H3;dsimp only;go_upto_region 5 with fail
  obtain⟨c,hcd⟩:=ME (aZ f);obtain⟨S,hSd⟩:=ME (aJ f c);have hcl:c.length=f.length:=by rw[hcd];exact Bb HR.1
  have hok:=gq HR.1 c;rw[<-hSd]at hok;have hn200:S.nodes.length<=200:=by have:=hok.len;omega
  have hn200':(S.nodes.length:Int)<=200:=by omega
  have HC5:=HC4.1;rw[<-hcd]at HC5;have hBd:=λ(W:Im) (hb:It w.heap.size w W) (hc:W.heap[gc]?=Ic (.cells (c.map Iy).toArray 4 (0,0)))=>i9 f c A (Ic ⟨gc,0,Ih⟩) cf f.length W (HG.1.below hb) (Kd.C_below HF.1 hb) HCf.1 (zQ hc (by rw[hcl];omega)) HRr.1;rw[<-hSd,hcl]at hBd;have HBd:=MD hBd;have HCd:=MD hcd;have HSd:=MD hSd;have HOk:=MD hok;have HC6:=MD HC5;clear hcl hok hBd hcd hSd HC4 HC5 HCut;refine bm (σ:=Io) [6,12] (λs=>[(38,Iq (Ic ⟨gm,0,Ih⟩)),(39,Ia A f.length cf),(40,Iq (Ic ⟨gm,0,Ih⟩)),(41,Iq (Ic ⟨gm,0,Ih⟩)),(42,Iq (Ic ⟨gm,1,Ih⟩)),(43,Ia (Ic ⟨gc,0,Ih⟩) f.length f.length),(44,IR #[IA (S.entry.cells++[s]).toArray,Ib Ie 0]),(37,IR #[IA (S.entry.cells++[s]).toArray,Ib Ie 0]),(45,IA (S.entry.cells++[s]).toArray),(46,Ib Ie 0),(47,Iq (Ic ⟨gm,0,Ih⟩)),(48,Iq (Ic ⟨gm,2,Ih⟩))])
   (λbs s W=>Of4 w W w.heap.size gm p4 (if bs.getD 1 Ik=Ir then mk1 vf (Ia (Ic ⟨gc,0,Ih⟩) f.length f.length) S.entry s (Ia Ih 0 0) (Ia Ih 0 0) (Ia Ih 0 0)else mk0 vf (Ia (Ic ⟨gc,0,Ih⟩) f.length f.length))/\W.heap[gc]?=Ic (.cells (c.map Iy).toArray 4 (0,0))/\(bs.getD 0 Ik=Ir->Kd.R dK 142 W w.heap.size (λk=>w.heap.size<=k) s S.nodes)) KG (by kernel_rfl) (by kernel_rfl) (by kernel_rfl) (λ_=>by kernel_rfl) ?_
  intro aF haF;simp only[bk,KY,IP,IZ,IY]at haF;subst haF;refine⟨?_,?_,⟨H4.1.below (aA (Il _ _)),ag HC6.1.1 (aA (Il _ _)),λe=>Ix e⟩,?_⟩
  .intro j o ho hct s W bs hlen hok hI
   rcases j with _|_|_|_|_|_|_|_|_|_|_|_|_|j
   all_goals first|exact absurd hct (by decide)|(obtain rfl:=Ii ho)|exact absurd (IB.1 ho).1 (by simp)
   .exact ax rfl 114 _ rfl ⟨p4,0,Ih⟩ _ rfl (by kernel_rfl) hI.1.c4 ⟨rfl,hI⟩
   .exact ab rfl (by go_simp) ⟨rfl,hI⟩
   .exact ax rfl 114 _ rfl ⟨p4,0,Ih⟩ _ rfl (by kernel_rfl) hI.1.c4 ⟨rfl,hI⟩
   .exact ab rfl (by go_simp) ⟨rfl,hI⟩
   .exact ab rfl (by go_simp) ⟨rfl,hI⟩
   .obtain⟨b0,b1,rfl⟩:=it hlen
    exact ax rfl 71 _ rfl ⟨gm,1,Ih⟩ _ rfl (by kernel_rfl) (by rw[aq hI.1.blk];show(if b1=Ir then mk1 vf (Ia (Ic ⟨gc,0,Ih⟩) f.length f.length) S.entry s (Ia Ih 0 0) (Ia Ih 0 0) (Ia Ih 0 0)else mk0 vf (Ia (Ic ⟨gc,0,Ih⟩) f.length f.length))[1]?=_;cases b1<;>rfl) ⟨rfl,hI⟩
   .exact ab rfl (by go_simp) ⟨rfl,hI⟩
   .exact ab rfl (by go_simp) ⟨rfl,hI⟩
   .exact ab rfl (by go_simp) ⟨rfl,hI⟩
   .exact ab rfl (by go_simp) ⟨rfl,hI⟩
   .exact ab rfl (by go_simp) ⟨rfl,hI⟩
  .intro k j o hk ho s W bs hlen hok hI
   rcases k with _|_|k
   all_goals first|(obtain rfl:=Ii hk;obtain rfl:=Ii ho)|exact absurd hk (by simp)
   .obtain⟨b0,b1,rfl⟩:=it hlen
    obtain rfl:=okS hok 0 rfl rfl;obtain rfl:=okF hok 1 rfl rfl rfl (by kernel_rfl);refine aN rfl Tryz.func49 (by kernel_rfl) rfl #[Ia A f.length cf,Ia (Ic ⟨gc,0,Ih⟩) f.length f.length] rfl rfl ((HBd.1 W hI.1.b hI.2.1).mono λe w' h=>?_);obtain⟨vN,h1,h3,h4⟩:=h;exact⟨_,h1,vN,[(44,IR #[IA (S.entry.cells++[vN]).toArray,Ib Ie 0]),(37,IR #[IA (S.entry.cells++[vN]).toArray,Ib Ie 0]),(45,IA (S.entry.cells++[vN]).toArray)],rfl,rfl,by kernel_rfl,hI.1.below h4,ag hI.2.1 h4,λ_=>Kd.R_lower (Kd.R_mono h3 (λk hk=>IT hI.1.b.size hk)) hI.1.b.size⟩
   .obtain⟨b0,b1,rfl⟩:=it hlen
    obtain rfl:=okS hok 1 rfl rfl;obtain rfl:=okT hok 0 rfl rfl rfl (by kernel_rfl);have hRs:=hI.2.2 rfl;obtain⟨AN,cN,rfl⟩:=Kd.R_slice hRs;have hne:gc≠gm:=λe=>by have h1:=hI.1.blk;rw[<-e,hI.2.1]at h1;simp at h1
    refine bC rfl 119 _ _ rfl gm 2 (S.entry.cells++[Ia AN S.nodes.length cN]) rfl rfl 124 _ _ hI.1.blk (by rw[IV,aX.len];exact tJ) (by rw[IV,aX.len];exact Nat.le_of_ble_eq_true rfl) (λu hu=>by rcases J0.1 hu with hu|hu;exact aX.one _ u hu;rw[IS.1 hu];rfl) (EN vf (Ia (Ic ⟨gc,0,Ih⟩) f.length f.length) _ S.entry) (λW' q2 q3=>?_);exact⟨_,[],rfl,rfl,rfl,hI.1.wr q3 q2,(q3.block gc (aj hI.2.1) hne).trans hI.2.1,λ_=>hI.1.keep hRs (λq hq=>by have:=ji hq;omega) q3⟩
  .intro s W hI
   obtain⟨AN,cN,hsv⟩:=Kd.R_slice (hI.2.2 rfl);subst hsv;have H5:=MD (show Of5 w W w.heap.size gm p4 gc c S (Ia AN S.nodes.length cN) (mk1 vf (Ia (Ic ⟨gc,0,Ih⟩) f.length f.length) S.entry (Ia AN S.nodes.length cN) (Ia Ih 0 0) (Ia Ih 0 0) (Ia Ih 0 0))from⟨hI.1,hI.2.1,hI.2.2 rfl⟩);have HLo:=MD HC6.1.2;clear hI H4 HC6 HBd;dsimp only;go_upto_region 6 with fail
   obtain⟨F,hFd⟩:=ME (bD f S);have HWy:=MD (show iD S.nodes/\OOk S.nodes.length S.entry by rw[HSd.1];exact gh f c);have hFc:=λ(W:Im) (hb:It w.heap.size w W) (h:Kd.R dK 142 W w.heap.size (λk=>w.heap.size<=k) (Ia AN S.nodes.length cN) S.nodes)=>rQ f c S HSd.1 AN A cN cf W (HG.1.below hb) (Kd.R_reads' h).2.2 (Kd.R_reads' h).2.1 (Kd.C_below HF.1 hb) HCf.1 HRr.1;have hAl:=λ(W:Im) (hb:It w.heap.size w W) (h:Kd.R dK 142 W w.heap.size (λk=>w.heap.size<=k) (Ia AN S.nodes.length cN) S.nodes)=>oE f c S HSd.1 AN A cN cf W (HG.1.below hb) (Kd.R_reads' h).2.2 (Kd.R_reads' h).2.1 (Kd.C_below HF.1 hb) HCf.1 HRr.1;have hWy:=λ(W:Im) (h:Kd.R dK 142 W w.heap.size (λk=>w.heap.size<=k) (Ia AN S.nodes.length cN) S.nodes)=>jK S (Ia AN S.nodes.length cN) W (Rd.of_R h) hn200 HWy.1.1.few;rw[<-hFd]at hFc;unfold o6 at hFc hAl;have HFc:=MD hFc;have HAl:=MD hAl;have HWs:=MD hWy;have HFd:=MD hFd;clear hFc hAl hWy hFd;refine bm (σ:=Io×Io×Io) [8,14,19,22,25,28] (λs=>[(49,Iq (Ic ⟨gm,0,Ih⟩)),(50,Iq (Ic ⟨gm,0,Ih⟩)),(51,Iq (Ic ⟨gm,0,Ih⟩)),(52,Ia A f.length cf),(53,Iq (Ic ⟨gm,0,Ih⟩)),(54,Iq (Ic ⟨gm,0,Ih⟩)),(55,Iq (Ic ⟨gm,2,Ih⟩)),(56,IA (S.entry.cells++[Ia AN S.nodes.length cN]).toArray),(57,s.1),(58,Ia A f.length cf),(59,Iq (Ic ⟨gm,0,Ih⟩)),(60,Iq (Ic ⟨gm,0,Ih⟩)),(61,Iq (Ic ⟨gm,2,Ih⟩)),(62,IA (S.entry.cells++[Ia AN S.nodes.length cN]).toArray),(63,s.2.1),(64,Iq (Ic ⟨gm,0,Ih⟩)),(65,Iq (Ic ⟨gm,0,Ih⟩)),(66,Iq (Ic ⟨gm,2,Ih⟩)),(67,IA (S.entry.cells++[Ia AN S.nodes.length cN]).toArray),(68,s.2.2),(69,Iq (Ic ⟨gm,0,Ih⟩)),(70,Iq (Ic ⟨gm,28,Ih⟩)),(71,Iq (Ic ⟨gm,0,Ih⟩)),(72,Iq (Ic ⟨gm,29,Ih⟩)),(73,Iq (Ic ⟨gm,0,Ih⟩)),(74,Iq (Ic ⟨gm,30,Ih⟩))])
    (λbs s W=>Of6 w W w.heap.size gm p4 gc f c S F vf (Ia (Ic ⟨gc,0,Ih⟩) f.length f.length) (Ia AN S.nodes.length cN) s (bs.getD 0 Ik) (bs.getD 1 Ik) (bs.getD 2 Ik) (bs.getD 3 Ik) (bs.getD 4 Ik) (bs.getD 5 Ik)) (KG,KG,KG) (by kernel_rfl) (by kernel_rfl) (by kernel_rfl) (λ_=>by kernel_rfl) ?_
   intro aF haF;simp only[bk,KY,IP,IZ,IY]at haF;subst haF;refine⟨?_,?_,⟨H5.1.below (aA (Il _ _)),λe=>Ix e,λe=>Ix e,λe=>Ix e⟩,?_⟩
   .intro j o ho hct s W bs hlen hok hI
    rcases j with _|_|_|_|_|_|_|_|_|_|_|_|_|_|_|_|_|_|_|_|_|_|_|_|_|_|_|_|_|j
    all_goals first|exact absurd hct (by decide)|(obtain rfl:=Ii ho)|exact absurd (IB.1 ho).1 (by simp)
    .exact ax rfl 114 _ rfl ⟨p4,0,Ih⟩ _ rfl (by kernel_rfl) hI.o.o.c4 ⟨rfl,hI⟩
    .exact ax rfl 114 _ rfl ⟨p4,0,Ih⟩ _ rfl (by kernel_rfl) hI.o.o.c4 ⟨rfl,hI⟩
    .exact ax rfl 114 _ rfl ⟨p4,0,Ih⟩ _ rfl (by kernel_rfl) hI.o.o.c4 ⟨rfl,hI⟩
    .exact ab rfl (by go_simp) ⟨rfl,hI⟩
    .exact ax rfl 114 _ rfl ⟨p4,0,Ih⟩ _ rfl (by kernel_rfl) hI.o.o.c4 ⟨rfl,hI⟩
    .exact ab rfl (by go_simp) ⟨rfl,hI⟩
    .exact ab rfl (by go_simp) ⟨rfl,hI⟩
    .exact ab rfl (ao rfl rfl hI.o.load) ⟨rfl,hI⟩
    .exact ab rfl (by go_simp) ⟨rfl,hI⟩
    .exact ax rfl 114 _ rfl ⟨p4,0,Ih⟩ _ rfl (by kernel_rfl) hI.o.o.c4 ⟨rfl,hI⟩
    .exact ab rfl (by go_simp) ⟨rfl,hI⟩
    .exact ab rfl (by go_simp) ⟨rfl,hI⟩
    .exact ab rfl (ao rfl rfl hI.o.load) ⟨rfl,hI⟩
    .exact ax rfl 114 _ rfl ⟨p4,0,Ih⟩ _ rfl (by kernel_rfl) hI.o.o.c4 ⟨rfl,hI⟩
    .exact ab rfl (by go_simp) ⟨rfl,hI⟩
    .exact ab rfl (by go_simp) ⟨rfl,hI⟩
    .exact ab rfl (ao rfl rfl hI.o.load) ⟨rfl,hI⟩
    .exact ab rfl (by go_simp) ⟨rfl,hI⟩
    .exact ab rfl (by go_simp) ⟨rfl,hI⟩
    .exact ab rfl (by go_simp) ⟨rfl,hI⟩
    .exact ab rfl (by go_simp) ⟨rfl,hI⟩
    .exact ab rfl (by go_simp) ⟨rfl,hI⟩
    .exact ab rfl (by go_simp) ⟨rfl,hI⟩
   .intro k j o hk ho s W bs hlen hok hI
    rcases k with _|_|_|_|_|_|k
    all_goals first|(obtain rfl:=Ii hk;obtain rfl:=Ii ho)|exact absurd hk (by simp)
    .obtain⟨b0,b1,b2,b3,b4,b5,rfl⟩:=mx hlen
     obtain rfl:=okS hok 0 rfl rfl;obtain rfl:=okF hok 3 rfl rfl rfl (by kernel_rfl);refine aN rfl Tryz.func50 (by kernel_rfl) rfl #[Ia A f.length cf,IA (S.entry.cells++[Ia AN S.nodes.length cN]).toArray] rfl rfl ((HFc.1 W hI.o.o.b hI.o.r).mono λe w' h=>?_);obtain⟨v,h1,h3,h4⟩:=h;have hz:=hI.o.o.b.size;have hb:=hI.below h4;have h5:=Kd.R_lower (Kd.R_mono h3 (λk hk=>IT hz hk)) hz;exact⟨v,h1,(v,s.2.1,s.2.2),[(57,v)],rfl,rfl,by kernel_rfl,hb.o,λ_=>h5,hb.ha,hb.hw⟩
    .obtain⟨b0,b1,b2,b3,b4,b5,rfl⟩:=mx hlen
     obtain rfl:=okS hok 1 rfl rfl;obtain rfl:=okF hok 4 rfl rfl rfl (by kernel_rfl);refine aN rfl Tryz.func51 (by kernel_rfl) rfl #[Ia A f.length cf,IA (S.entry.cells++[Ia AN S.nodes.length cN]).toArray] rfl rfl ((HAl.1 W hI.o.o.b hI.o.r).mono λe w' h=>?_);obtain⟨v,h1,h3,h4⟩:=h;have hz:=hI.o.o.b.size;have hb:=hI.below h4;have h5:=Kd.R_lower (Kd.R_mono h3 (λk hk=>IT hz hk)) hz;exact⟨v,h1,(s.1,v,s.2.2),[(63,v)],rfl,rfl,by kernel_rfl,hb.o,hb.hf,λ_=>h5,hb.hw⟩
    .obtain⟨b0,b1,b2,b3,b4,b5,rfl⟩:=mx hlen
     obtain rfl:=okS hok 2 rfl rfl;obtain rfl:=okF hok 5 rfl rfl rfl (by kernel_rfl);refine aN rfl Tryz.func52 (by kernel_rfl) rfl #[IA (S.entry.cells++[Ia AN S.nodes.length cN]).toArray] rfl rfl ((HWs.1 W hI.o.r).mono λe w' h=>?_);obtain⟨v,h1,h3,h4⟩:=h;have hz:=hI.o.o.b.size;have hb:=hI.below h4;have h5:=Kd.R_lower (Kd.R_mono h3 (λk hk=>IT hz hk)) hz;exact⟨v,h1,(s.1,s.2.1,v),[(68,v)],rfl,rfl,by kernel_rfl,hb.o,hb.hf,hb.ha,λ_=>h5⟩
    .obtain⟨b0,b1,b2,b3,b4,b5,rfl⟩:=mx hlen
     obtain rfl:=okS hok 3 rfl rfl;obtain rfl:=okT hok 0 rfl rfl rfl (by kernel_rfl);obtain rfl:=okF hok 4 rfl rfl rfl (by kernel_rfl);obtain rfl:=okF hok 5 rfl rfl rfl (by kernel_rfl);have hRs:=hI.hf rfl;obtain⟨A1,c1,he⟩:=Kd.R_slice hRs;obtain⟨hv1,hv2⟩:=dT _ _ _ _ he;exact a_ rfl 120 _ _ rfl gm 28 s.1 (Ia Ih 0 0) rfl rfl hv1 hv2 (by kernel_rfl) (by rw[aq hI.o.o.blk];exact jE 1) (au hI.o.o.blk 28) ⟨s,[],rfl,rfl,rfl,hI.wr (b3':=Ir) (b4':=Ik) (b5':=Ik) 28 _ (tD 1 _)⟩
    .obtain⟨b0,b1,b2,b3,b4,b5,rfl⟩:=mx hlen
     obtain rfl:=okS hok 4 rfl rfl;obtain rfl:=okT hok 1 rfl rfl rfl (by kernel_rfl);obtain rfl:=okT hok 3 rfl rfl rfl (by kernel_rfl);obtain rfl:=okF hok 5 rfl rfl rfl (by kernel_rfl);have hRs:=hI.ha rfl;obtain⟨A1,c1,he⟩:=Kd.R_slice hRs;obtain⟨hv1,hv2⟩:=dT _ _ _ _ he;exact a_ rfl 121 _ _ rfl gm 29 s.2.1 (Ia Ih 0 0) rfl rfl hv1 hv2 (by kernel_rfl) (by rw[aq hI.o.o.blk];exact jE 2) (au hI.o.o.blk 29) ⟨s,[],rfl,rfl,rfl,hI.wr (b3':=Ir) (b4':=Ir) (b5':=Ik) 29 _ (tD 2 _)⟩
    .obtain⟨b0,b1,b2,b3,b4,b5,rfl⟩:=mx hlen
     obtain rfl:=okS hok 5 rfl rfl;obtain rfl:=okT hok 2 rfl rfl rfl (by kernel_rfl);obtain rfl:=okT hok 3 rfl rfl rfl (by kernel_rfl);obtain rfl:=okT hok 4 rfl rfl rfl (by kernel_rfl);have hRs:=hI.hw rfl;obtain⟨A1,c1,he⟩:=Kd.R_slice hRs;obtain⟨hv1,hv2⟩:=dT _ _ _ _ he;exact a_ rfl 122 _ _ rfl gm 30 s.2.2 (Ia Ih 0 0) rfl rfl hv1 hv2 (by kernel_rfl) (by rw[aq hI.o.o.blk];exact jE 3) (au hI.o.o.blk 30) ⟨s,[],rfl,rfl,rfl,hI.wr (b3':=Ir) (b4':=Ir) (b5':=Ir) 30 _ (tD 3 _)⟩
   .intro s W hI
    obtain⟨vF,vA,vW⟩:=s;have hI:Of6 w W w.heap.size gm p4 gc f c S F vf (Ia (Ic ⟨gc,0,Ih⟩) f.length f.length) (Ia AN S.nodes.length cN) (vF,vA,vW) Ir Ir Ir Ir Ir Ir:=hI;obtain⟨AF,cF,hv⟩:=Kd.R_slice (hI.hf rfl);subst hv;obtain⟨AA,cA,hv⟩:=Kd.R_slice (hI.ha rfl);subst hv;obtain⟨AW,cW,hv⟩:=Kd.R_slice (hI.hw rfl);subst hv;have H6:=MD hI;clear hI H5 HFc HAl HWs;dsimp only;go_upto_region 7 with fail
    have HP:=MD (show NPl f c S F from⟨HRr.1,HSd.1,HFd.1⟩);have h6:=H6.1;have e1:F.length=S.nodes.length:=HP.1.sh.len;have e2:(fJ f S).length=S.nodes.length:=by unfold fJ;rw[Jb,iW]
    have e3:=iW S;rw[e1,e2,e3]at h6;have H7:=MD h6;have HSo:=MD (BP f c S F HP.1 gm vf (Ia (Ic ⟨gc,0,Ih⟩) f.length f.length) AN AF AA AW cN cF cA cW W ⟨h6.o.o.blk,e1▸(Kd.R_reads' (h6.hf rfl)).2.2,e2▸(Kd.R_reads' (h6.ha rfl)).2.2,e3▸(Kd.R_reads' (h6.hw rfl)).2.2⟩);have c4:=h6.o.o.c4;clear h6 e1 e2 e3 H6;go_upto_region 8 with(first
     |(go_at_call 53;refine HSo.1.mono ?_;rintro e w7 ⟨rfl,go,hk,hgo,hlo,hf⟩;have HK7:=MD hk;have HGo:=MD hgo;have HLg:=MD hlo;have HF7:=MD hf;clear hk hgo hlo hf))
    have h5:Of5 w w7 w.heap.size gm p4 gc c S (Ia AN S.nodes.length cN) (fk vf (Ia (Ic ⟨gc,0,Ih⟩) f.length f.length) S.entry (Ia AN S.nodes.length cN) (Ia AF S.nodes.length cF) (Ia AA S.nodes.length cA) (Ia AW S.nodes.length cW) (Ia (Ic ⟨go,0,Ih⟩) (S.nodes.length*24) (S.nodes.length*24))):=
     ⟨H7.1.o.o.wr HF7.1 HK7.1,(HF7.1.block gc (aj H7.1.o.hc) (λe=>by have h1:=H7.1.o.o.blk;rw[<-e,H7.1.o.hc]at h1;simp at h1)).trans H7.1.o.hc,H7.1.o.o.keep H7.1.o.r (λq hq=>by have:=ji hq;omega) HF7.1⟩
    have r1:=H7.1.o.o.keep (H7.1.hf rfl) (λq hq=>by have:=lO hq;omega) HF7.1;have r2:=H7.1.o.o.keep (H7.1.ha rfl) (λq hq=>by have:=oq hq;omega) HF7.1;have r3:=H7.1.o.o.keep (H7.1.hw rfl) (λq hq=>by have:=oo hq;omega) HF7.1;obtain⟨cl,hcl⟩:=ME (aV (cQ f S F));have hcl5:=zL (cQ f S F);rw[<-hcl]at hcl5;have hgo:=HGo.1;rw[<-hcl]at hgo;have c4:=h5.o.c4;have e2:=(show w7.cell? ⟨gm,2,Ih⟩=Ic (Ib Ie S.entry.jt) by rw[aq h5.o.blk];rfl);have H5:=MD h5;have R1:=MD r1;have R2:=MD r2;have R3:=MD r3;have HCl:=MD hcl;have HCl5:=MD (show cl.length=S.nodes.length*24/\∀v∈cl,0<=v/\v<((S.nodes.length*24:Nat):Int)from by
     have h1:=hcl5.1;have h2:(cQ f S F).length=S.nodes.length*24:=by unfold cQ;rw[jy];omega
     rw[h2]at h1 hcl5;exact⟨h1,hcl5.2⟩)
    have HGo2:=MD hgo;clear h5 r1 r2 r3 hcl hcl5 hgo HGo HK7 HSo H7;go_upto_region 11 with(first
     |((with_reducible refine ai (N:=77) rfl ?_);refine d8 rfl 132 rfl ?_))
    obtain⟨wk,hwk⟩:∃wk,wk=((w7.alloc (.map #[] 0)).alloc (Is #[.map (Ic w7.heap.size)] 132)).alloc (Is #[Ia Ih 0 0] 133):=⟨_,rfl⟩;have hbk:It w7.heap.size w7 wk:=by rw[hwk];exact ae (ae (ae (Il _ _) _) _) _
    have s1:(w7.alloc (.map #[] 0)).heap.size=w7.heap.size+1:=by simp
    have s2:((w7.alloc (.map #[] 0)).alloc (Is #[.map (Ic w7.heap.size)] 132)).heap.size=w7.heap.size+1+1:=by simp
    have hmk:bX (Ib .i64) wk w7.heap.size (em ([]:List Int)):=by
     have f:∀(W:Im) (o:Obj),Fr (λ_=>False) W (W.alloc o):=λW o=>Fr.of_below (ae (Il _ _) o);rw[hwk];exact((bX.new (Ib .i64) w7 0).fr (f _ _) id).fr (f _ _) id
    have h5k:wk.heap[w7.heap.size+1]?=Ic (.cells #[.map (Ic w7.heap.size)] 132 (0,0)):=by
     have:=Iu (w7.alloc (.map #[] 0)) (Is #[.map (Ic w7.heap.size)] 132 (0,0));rw[s1]at this;rw[hwk];exact aT this _
    have h6k:wk.heap[w7.heap.size+1+1]?=Ic (.cells #[Ia Ih 0 0] 133 (0,0)):=by
     have:=Iu ((w7.alloc (.map #[] 0)).alloc (Is #[.map (Ic w7.heap.size)] 132)) (Is #[Ia Ih 0 0] 133 (0,0));rw[s2]at this;rw[hwk];exact this
    refine ar hwk.symm ?_;have lg7:=aj HGo2.1;have hlog:w.heap.size<=w7.heap.size:=H5.1.o.b.size;obtain⟨gmap,hg⟩:=MF w7.heap.size;have hbw:=hbk;rw[hg]at hmk h5k h6k lg7 hlog ⊢;obtain⟨p5,hp5⟩:=MF (gmap+1);rw[hp5]at h5k h6k ⊢;obtain⟨p6,hp6⟩:=MF (p5+1);rw[hp6]at h6k ⊢;have c4k:=ak hbk c4;have e2k:=ak hbk e2;have HBk:=MD hbk;have HMk:=MD hmk;have H5k:=MD h5k;have H6k:=MD h6k;have HLg7:=MD (IE lg7 hlog);have HPs:=MD (show gmap<=p5/\gmap<=p6 by omega);clear hwk hbk s1 s2 hmk h5k h6k lg7 hlog hg hp5 hp6 hbw c4 e2;go_upto_region 12 with fail
    obtain⟨Wm,hWm⟩:∃Wm,Wm=wk.alloc (Is #[Ib Ie S.entry.jt,Ia Ih 0 0,Ia Ih 0 0] 33):=⟨_,rfl⟩;have hbm:It wk.heap.size wk Wm:=by rw[hWm];exact ae (Il _ _) _
    have hbm7:=af HBk.1 hbm;have h8m:Wm.heap[wk.heap.size]?=Ic (.cells #[Ib Ie S.entry.jt,Ia Ih 0 0,Ia Ih 0 0] 33 (0,0)):=by rw[hWm];exact Iu wk _
    have h5m:=H5.1.below hbm7;have hOm:OfR w Wm f c S F cl gm p4 p5 gc go vf AN AF AA AW cN cF cA cW:=
     ⟨h5m.o.b,h5m.o.blk,h5m.o.h4,h5m.hc,ag HGo2.1 hbm7,h5m.r,Kd.R_below R1.1 hbm7,Kd.R_below R2.1 hbm7,Kd.R_below R3.1 hbm7⟩
    have hsm:Wm.heap.size=wk.heap.size+1:=by rw[hWm];simp
    have hlog:=HLg7.1;have hlgm:go<Wm.heap.size:=aj (ag HGo2.1 hbm7);have hSm:ig Wm Wm.heap.size p4 p5 p6 gm gmap go cl (Ia Ih 0 0) ⟨[],[]⟩:=
     ⟨hOm.h4,by rw[aq hOm.blk,HCl5.1.1];exact jE 4,hOm.ho,ag H5k.1 hbm,HMk.1.fr (Fr.of_below (S:=λ_=>False) hbm) id,ag H6k.1 hbm,Kd.R_nil _ _ _ _ _,rfl,Li,⟨_,hOm.blk⟩,λv hv=>absurd hv (JE)⟩
    obtain⟨g8,hg8⟩:=MF wk.heap.size;refine ar hWm.symm ?_;rw[hg8]at h8m hsm ⊢;have hlo8:w.heap.size<=g8:=by rw[<-hg8];exact IT hlog.2 (IT (by have:=HMk.1.lt;omega) (Iz _))
    have hZm:ZSt Wm Wm p4 p5 p6 gm gmap go g8 cl S.entry.jt (Ia Ih 0 0) (Ia Ih 0 0) ⟨[],[]⟩ []:=⟨Fr.refl _ _,hSm,h8m,Kd.R_nil _ _ _ _ _,by omega,hlgm⟩;have HTs:=MD (show ∀k,OfS gmap p6 g8 k->k<Wm.heap.size->w.heap.size<=k/\∀(q:Nat) (cells:Array Io),Wm.heap[k]?=Ic (.cells cells q (0,0))->q=133\/q=33 from λk hk _=>by
     have hps:=HPs.1;rcases hk with e|e|e
     .subst e
      refine⟨hlog.2,λq cells hc=>?_⟩;obtain⟨es,cc,hb,_⟩:=hSm.hm;rw[hb]at hc;simp at hc
     .subst e
      refine⟨by omega,λq cells hc=>?_⟩;rw[hSm.h6]at hc;simp at hc;exact .inl hc.2.symm
     .subst e
      refine⟨hlo8,λq cells hc=>?_⟩;rw[h8m]at hc;simp at hc;exact .inr hc.2.symm)
    have HH2:=MD (IE h5m.o.h2 (show ¬OfS gmap p6 g8 w.heap.size from λe=>by
     rcases e with e|e|e
     .obtain⟨es,cc,hb,_⟩:=hSm.hm
      rw[<-e,h5m.o.h2]at hb;simp at hb
     .have h:=hSm.h6
      rw[<-e,h5m.o.h2]at h;simp at h
     .have h:=aj (H5.1.below HBk.1).o.h2
      omega))
    have HOm:=MD hOm;have HZm:=MD hZm;have m4:=hOm.h4;have c4:=(show Wm.cell? ⟨p4,0,Ih⟩=Ic (.pointer (Ic ⟨gm,0,Ih⟩)) by rw[ah hOm.h4];rfl);have c27:=(show Wm.cell? ⟨gm,27,Ih⟩=Ic (.slice AN S.nodes.length cN) by rw[aq hOm.blk];exact jE 0);obtain⟨res,hres⟩:∃res,res=dp f c cl F S.nodes 0 ⟨[],[]⟩:=⟨_,rfl⟩;have HRes:=MD hres;clear hWm hbm hbm7 h8m h5m hOm hsm hlog hlgm hSm hg8 hlo8 hZm m4 H5 HGo2 R1 R2 R3 HBk HMk H5k H6k HPs HLg7 c4k e2k hres HF7 HLg;go_wp2;go_loopw [92] (λj wr=>∃(n:Nat) (vM vN:Io) (m:dl) (nodes:List fi),j=Ib Ie n/\aa (n<=S.nodes.length/\ZSt Wm wr p4 p5 p6 gm gmap go g8 cl S.entry.jt vM vN m nodes/\nodes.length<=n/\res=(nodes++(dp f c cl F (S.nodes.drop n) n m).1,(dp f c cl F (S.nodes.drop n) n m).2))) (λj _=>S.nodes.length-(Jj j).toNat)
    case atStart=>exact⟨0,_,_,⟨[],[]⟩,[],rfl,⟨⟨ID _,HZm.1,Iz _,HRes.1⟩⟩⟩
    case round=>
     obtain⟨n,vM,vNs,m,nodes,rfl,HL⟩:=hrel;obtain⟨hn,hZ,hnl,hfin⟩:=HL.1;by_cases hlt:n<S.nodes.length
     .have hlt':(n:Int)<(S.nodes.length:Int):=by omega
      obtain⟨x,hx⟩:∃x,S.nodes[n]?=Ic x:=⟨_,Ig hlt⟩;obtain⟨gN,AO,cO,eN,hNd⟩:=HOm.1.node HTs.1 hx;subst eN;have hld:=(hNd wr hZ.fr).1;have hat:=HP.1.nok.at_ x (Iw hx);rw[Jc hlt,(Ip.1 hx).2,tz,oc]at hfin;obtain⟨xa,xo⟩:=x;simp only at hat;obtain⟨a,rfl⟩:∃a:Nat,xa=a:=⟨xa.toNat,by omega⟩;have haf:a<f.length:=by omega
      obtain⟨y,hy⟩:∃y,f[a]?=Ic y:=⟨_,Ig haf⟩;have hyd:f.getD a In.zero=y:=by rw[Ij,hy];rfl
      obtain⟨q,hq⟩:=ME (m9 f c cl F n ⟨(a:Int),xo⟩ m);rw[<-hq]at hfin;have hqv:q=if c.getD a Ik=Ir then((0,0,[]),m)else((y.op,if y.op=15 then y.n else 0,(dH cl F n (ce y) m).1),(dH cl F n (ce y) m).2):=by
       rw[hq];unfold m9;simp only[IC];rw[hyd]
      have HQv:=MD hqv;have HFi:=MD hfin;have HZ:=MD hZ;have HX:=MD hx;have HNd:=MD hNd;have HLd:=MD (show(Le 142 ⟨gN,n*2,Ih⟩).run If wr=.ok (IA #[Ib Ie (a:Int),Ia AO xo.length cO]) wr from hld);have HLt:=MD hlt;have HNl:=MD hnl;have HHy:=MD hy;have haf':(a:Int)<(f.length:Int):=by omega
      have hxo2:xo.length<=2:=HWy.1.1.few _ (Iw hx);have hxo2':(xo.length:Int)<=2:=by omega
      clear hNd hld hx hat hfin hq hqv hyd hy hZ hnl hn HL hlt hxo2;go_upto_region 15 with(first
       |((with_reducible refine ai (N:=96) rfl ?_);refine av rfl 142 _ rfl ⟨gN,n*2,Ih⟩ rfl _ HLd.1 ?_))
      obtain⟨w8,hw8⟩:∃w8,w8=wr.alloc (Is #[Ib Ie (a:Int),Ia AO xo.length cO] 142):=⟨_,rfl⟩;have h10:w8.heap[wr.heap.size]?=Ic (.cells #[Ib Ie (a:Int),Ia AO xo.length cO] 142 (0,0)):=by rw[hw8];exact Iu wr _
      have hZ8:ZSt Wm w8 p4 p5 p6 gm gmap go g8 cl S.entry.jt vM vNs m nodes:=by rw[hw8];exact HZ.1.below (ae (Il _ _) _)
      refine ar hw8.symm ?_;obtain⟨g10,hg10⟩:=MF wr.heap.size;rw[hg10]at h10 ⊢;clear hw8 hg10;go_upto_region 16 with fail
      obtain⟨w9,hw9⟩:∃w9,w9=w8.alloc (Is #[Ib Ie 0,Ib Ie 0,Ia Ih 0 0,Ia Ih 0 0] 145):=⟨_,rfl⟩;have hY:=hZ8.open_;rw[<-hw9]at hY;have h109:w9.heap[g10]?=Ic (.cells #[Ib Ie (a:Int),Ia AO xo.length cO] 142 (0,0)):=by rw[hw9];exact aT h10 _
      refine ar hw9.symm ?_;have hg1110:g10<w8.heap.size:=aj h10;obtain⟨g11,hg11⟩:=MF w8.heap.size;rw[hg11]at hY hg1110 ⊢;have hO9:=HOm.1.move HTs.1 hY.fr;have c4:=(show w9.cell? ⟨p4,0,Ih⟩=Ic (.pointer (Ic ⟨gm,0,Ih⟩)) by rw[ah hO9.h4];rfl);have c1:=(show w9.cell? ⟨gm,1,Ih⟩=Ic (.slice (Ic ⟨gc,0,Ih⟩) f.length f.length) by rw[aq hO9.blk];rfl);have a10:=(show w9.cell? ⟨g10,0,Ih⟩=Ic (Ib Ie (a:Int)) by rw[ah h109];rfl);obtain⟨b,hb⟩:=ME (c.getD a Ik);have hcl:c.length=f.length:=by rw[HCd.1];exact Bb HR.1
      have cC:=(show w9.cell? ⟨gc,a,Ih⟩=Ic (.bool b) by
       rw[aq hO9.hc,IK,Ig (show a<c.length by omega),hb,Ij,Ig (show a<c.length by omega)];rfl)
      have hq2:=HQv.1;rw[<-hb]at hq2;have HQ2:=MD hq2;have HY:=MD hY;have H10:=MD h109;have HG11:=MD hg1110;clear hw9 hY h109 hg1110 hg11 hO9 hb hcl hq2 h10 hZ8 HQv;refine KF (by kernel_rfl) (by kernel_rfl) ?_
      repeat still_step
      refine Mc ?_;change(Exit.then _ _) _ _ w9.drew;obtain⟨w10,hw10⟩:=ME w9.drew;rw[<-hw10];have hb10:It w9.heap.size w9 w10:=by rw[hw10];exact aA (Il _ _)
      have HYa:=MD (HY.1.below hb10);have H10a:=MD (ag H10.1 hb10);clear hw10 hb10 c4 c1 a10 cC HY H10;go_upto_if 105 with fail
      go_cut []from 106 to 153 (λwx=>aa (∃vM' vA',YSt Wm wx p4 p5 p6 gm gmap go g8 g11 cl S.entry.jt q.1.1 q.1.2.1 vM' vA' (Ia Ih 0 0) vNs q.2 q.1.2.2 [] nodes/\wx.heap[g10]?=Ic (.cells #[Ib Ie (a:Int),Ia AO xo.length cO] 142 (0,0))))
      case first=>
       cases b with
       |true=>
        have HQ3:=MD (show q=((0,0,[]),m)from HQ2.1);go_wp2;go_meet
        case rel=>
         rw[HQ3.1];exact⟨⟨vM,Ia Ih 0 0,HYa.1,H10a.1⟩⟩
       |false=>
        have HQ3:=MD (show q=((y.op,if y.op=15 then y.n else 0,(dH cl F n (ce y) m).1),(dH cl F n (ce y) m).2)from HQ2.1);have haf2:a<f.length:=by omega
        obtain⟨adF2,csF2,eF2,_,hKF2,hcF2⟩:=b_ HF.1 a haf2 y HHy.1;subst eF2;obtain rfl:csF2=y.cells.toList:=hKF2;have y0w:=hcF2 0 _ rfl;have y4w:=hcF2 4 _ rfl;have hb10w:It w.heap.size w w10:=(HOm.1.move HTs.1 HYa.1.fr).b;have y0:=ak hb10w y0w;have y4:=ak hb10w y4w;rw[show a*kIn.sz+0=a*6 from rfl]at y0;rw[show a*kIn.sz+4=a*6+4 from rfl]at y4;have a10:=(show w10.cell? ⟨g10,0,Ih⟩=Ic (Ib Ie (a:Int)) by rw[ah H10a.1];rfl);have g110:=(show w10.cell? ⟨g11,0,Ih⟩=Ic (Ib Ie 0) by rw[ah HYa.1.hy];rfl);have g111:=(show w10.cell? ⟨g11,1,Ih⟩=Ic (Ib Ie 0) by rw[ah HYa.1.hy];rfl);have zf0:=au HYa.1.hy 0;have zf1:=au HYa.1.hy 1;rw[<-ic,nL _ _ (by decide)]at y4;go_upto_region 18 with fail
        have hY2:=(HYa.1.set 0 (Ib Ie y.op) y.op 0 rfl).set 1 (Ib Ie 0) y.op 0 rfl;have hne10:g10≠g11:=by have:=HG11.1;omega
        have h102:=bp (bp H10a.1 (p:=⟨g11,0,Ih⟩) hne10 (Ib Ie y.op)) (p:=⟨g11,1,Ih⟩) hne10 (Ib Ie 0);obtain⟨w11,hw11⟩:∃w11,w11=(w10.setCell ⟨g11,0,Ih⟩ (Ib Ie y.op)).setCell ⟨g11,1,Ih⟩ (Ib Ie 0):=⟨_,rfl⟩;rw[<-hw11]at hY2 h102;refine ar hw11.symm ?_;have hb11:=(HOm.1.move HTs.1 hY2.fr).b;have y4:=ak hb11 y4w;rw[show a*kIn.sz+4=a*6+4 from rfl,<-ic,nL _ _ (by decide)]at y4;have a10:=(show w11.cell? ⟨g10,0,Ih⟩=Ic (Ib Ie (a:Int)) by rw[ah h102];rfl);have g110:=(show w11.cell? ⟨g11,0,Ih⟩=Ic (Ib Ie y.op) by rw[ah hY2.hy];rfl);have g111:=(show w11.cell? ⟨g11,1,Ih⟩=Ic (Ib Ie 0) by rw[ah hY2.hy];rfl);have zf1:=au hY2.hy 1;have HY2:=MD hY2;have H102:=MD h102;have HNe:=MD hne10;clear hw11 hY2 h102 hb11 y0 y4w y0w hcF2 zf0 hne10;obtain⟨nv,hnv⟩:=ME (if y.op=15 then y.n else 0);have HNv:=MD hnv;have hq3:=HQ3.1;rw[<-hnv]at hq3;have HQ4:=MD hq3;clear hnv hq3 HQ3;go_upto_if 116 with fail
        go_cut []from 116 to 123 (λwx=>aa (YSt Wm wx p4 p5 p6 gm gmap go g8 g11 cl S.entry.jt y.op nv vM (Ia Ih 0 0) (Ia Ih 0 0) vNs m [] [] nodes/\wx.heap[g10]?=Ic (.cells #[Ib Ie (a:Int),Ia AO xo.length cO] 142 (0,0))))
        case first=>
         by_cases h15:y.op=15
         .have q15:(y.op==15)=Ir:=beq_iff_eq.mpr h15
          have hn2:=HNv.1;rw[if_pos h15]at hn2;have HN2:=MD hn2;clear h15 hn2;go_wp2;go_meet
          case rel=>
           rw[HN2.1];exact⟨⟨HY2.1.set 1 (Ib Ie y.n) y.op y.n rfl,bp H102.1 (p:=⟨g11,1,Ih⟩) HNe.1 (Ib Ie y.n)⟩⟩
         .have q15:(y.op==15)=Ik:=beq_eq_false_iff_ne.mpr h15
          have hn2:=HNv.1;rw[if_neg h15]at hn2;have HN2:=MD hn2;clear h15 hn2;go_wp2;go_meet
          case rel=>
           rw[HN2.1];exact⟨⟨HY2.1,H102.1⟩⟩
        case rest=>
         obtain⟨hY3,h103⟩:=hcut.1;have hb3:=(HOm.1.move HTs.1 hY3.fr).b;have HLdF:=MD (show(Le 49 (adF2.add (a*6))).run If wc=.ok (IA y.cells) wc by
          obtain⟨ad2,cs2,q1,q2,q3⟩:=ba (P:=If) HF.1 hb3 a haf2 y HHy.1 49 I6 rfl bU;injection q1 with q1
          subst q1;obtain rfl:cs2=y.cells.toList:=q2;exact q3)
         have HUs:=MD (kB y wc (HG.1.below hb3));obtain⟨us,hus⟩:=ME (ce y);have HUin:=MD (pc (HR.1.ok a y HHy.1));have HUl:=MD (mP y);rw[<-hus]at HUs HUin HUl HQ4;have a10:=(show wc.cell? ⟨g10,0,Ih⟩=Ic (Ib Ie (a:Int)) by rw[ah h103];rfl);have HY3:=MD hY3;have H103:=MD h103;have HB3:=MD hb3.size;clear hcut hY3 h103 hb3 hus;go_upto_region 21 with(first
          |((with_reducible refine ai (N:=128) rfl ?_);refine av rfl 49 _ rfl (adF2.add (a*6)) rfl _ HLdF.1 ?_)
          |(go_at_call 56;refine HUs.1.mono ?_;rintro e w12 ⟨vU,rfl,hru,hb⟩;obtain⟨AU,cU,rfl⟩:=Kd.R_slice hru;have HY4:=MD (HY3.1.below hb);have HRu:=MD (Kd.R_lower (Kd.R_mono hru (λk hk=>IT HB3.1 hk)) HB3.1);have H104:=MD (ag H103.1 hb);clear hru hb))
         have hul':(us.length:Int)<=3:=by have:=HUl.1;omega
         go_loopw [131] (λj wr=>∃(k:Nat) (vM' vA':Io) (m':dl) (args:List Src),j=Ib Ie k/\aa (k<=us.length/\args.length<=k/\(dH cl F n us m)=(args++(dH cl F n (us.drop k) m').1,(dH cl F n (us.drop k) m').2)/\YSt Wm wr p4 p5 p6 gm gmap go g8 g11 cl S.entry.jt y.op nv vM' vA' (Ia Ih 0 0) vNs m' args [] nodes/\wr.heap[g10]?=Ic (.cells #[Ib Ie (a:Int),Ia AO xo.length cO] 142 (0,0))/\Kd.R (Kd.int .i64) 3 wr w.heap.size (λk=>w.heap.size<=k) (Ia AU us.length cU) us)) (λj _=>us.length-(Jj j).toNat)
         case atStart=>exact⟨0,vM,Ia Ih 0 0,m,[],rfl,⟨⟨ID _,ID _,rfl,HY4.1,H104.1,HRu.1⟩⟩⟩
         case round=>
          obtain⟨k,vM',vA',m',args,rfl,HL⟩:=hrel;obtain⟨hk,hal,hfin,hY,h10,hRu⟩:=HL.1;by_cases hkl:k<us.length
          .have hkl':(k:Int)<(us.length:Int):=by omega
           obtain⟨u,hu⟩:∃u,us[k]?=Ic u:=⟨_,Ig hkl⟩;obtain⟨hu0,hu24⟩:=HUin.1 u (Iw hu);obtain⟨l,rfl⟩:∃l:Nat,u=l:=⟨u.toNat,by omega⟩;obtain⟨adU,csU,eU,_,hKU,hcU⟩:=b_ (Kd.R_reads' hRu).2.2 k hkl _ hu;subst eU;obtain rfl:csU=[Ib Ie (l:Int)]:=hKU;have vU:=hcU 0 _ rfl;rw[show k*(Kd.int .i64).sz+0=k from JQ k]at vU;rw[Jc hkl,(Ip.1 hu).2,yj,IC]at hfin;obtain⟨s0,hs0⟩:=ME (dg F n l);rw[<-hs0]at hfin;obtain⟨r,hr⟩:=ME (eK cl (n:Int) s0 m');rw[<-hr]at hfin;have hxk:s0.kind=4->0<=(n:Int)/\(n:Int)<=199/\0<=s0.n/\s0.n<24/\(n:Int)*24+s0.n<(cl.length:Int):=by
            intro hk4;have hcl:=HCl5.1.1;rcases HP.1.fact HLt.1 (show l<24 by omega)with q|q|q|q
            .rw[<-hs0]at q
             rw[q];have:=HLt.1;exact⟨by omega,by omega,by show(0:Int)<=(l:Int);omega,by show(l:Int)<24;omega,by show(n:Int)*24+(l:Int)<_;omega⟩
            .rw[<-hs0]at q;rw[q]at hk4;exact absurd hk4 (by decide)
            .rw[<-hs0]at q;omega
            .rw[<-hs0]at q;omega
           have HXk:=MD hxk;have HHr:=MD hr;have HFi2:=MD hfin;have HY5:=MD hY;have H105:=MD h10;have HRu5:=MD hRu;have HKl:=MD hkl;have HAl:=MD hal;have HS0:=MD hs0;have hl24:l<24:=by omega
           clear hk hal hfin hY h10 hRu hu hcU hs0 hr hxk hkl HL;go_upto_region 23 with fail
           obtain⟨W0,hW0⟩:=ME wr.drew;have hb0:It wr.heap.size wr W0:=by rw[hW0];exact aA (Il _ _)
           have HW0:=MD hW0;have HY0:=MD (HY5.1.below hb0);have H100:=MD (ag H105.1 hb0);have HRU0:=MD (Kd.R_below HRu5.1 hb0);have hO0:=HOm.1.move HTs.1 HY0.1.fr;have C4:=MD (show W0.cell? ⟨p4,0,Ih⟩=Ic (.pointer (Ic ⟨gm,0,Ih⟩)) by rw[ah hO0.h4];rfl);have C28:=MD (show W0.cell? ⟨gm,28,Ih⟩=Ic (.slice AF S.nodes.length cF) by rw[aq hO0.blk];exact jE 1);obtain⟨row,hrow⟩:∃row,F[n]?=Ic row:=⟨_,Ig (by rw[HP.1.sh.len];exact HLt.1)⟩;have hr24:row.length=24:=HP.1.sh.row row (Iw hrow);obtain⟨adF3,AR2,cR2,eF3,f0,_,hCF⟩:=rt hO0.mkr.rF n HLt.1 _ hrow;subst eF3;rw[hr24]at f0 hCF;have hs1:row[l]?=Ic s0:=by
            rw[HS0.1];unfold dg;rw[Ij (l:=F),hrow];simp only[JL];rw[Ij,Ig (by omega)];rfl
           obtain⟨adS,csS,eS,hKS,hldS⟩:=fl (P:=If) hCF l hl24 s0 hs1 135 IN rfl aK;subst eS;obtain rfl:csS=[Ib Ie s0.kind,Ib Ie s0.n]:=hKS;have HLdS:=MD (show(Le 135 (adS.add (l*2))).run If W0=.ok (IA #[Ib Ie s0.kind,Ib Ie s0.n]) W0 from hldS);have F0:=MD f0;have hSrc:=uP Wm.heap.size p4 p5 p6 gm gmap go cl vM' m' (n:Int) s0 W0 HY0.1.sr HY0.1.fr.size (by have:=HCl5.1.1;omega) HXk.1;rw[<-HHr.1]at hSrc;have HSrc:=MD hSrc;have HArl:=MD (show args.length<=3 by have:=HAl.1;have:=HUl.1;have:=HKl.1;omega);have hlr':(l:Int)<24:=by omega
           clear hW0 hb0 hO0 hrow hr24 hCF hs1 hldS f0 hSrc hl24;refine bm (σ:=Im×Io×Im×Io) [14,15,16,18] (λs=>[(135,Iq (Ic ⟨g11,2,Ih⟩)),(136,vA'),(137,.func (.func 54) #[] #[Iq (Ic ⟨p4,0,Ih⟩),Iq (Ic ⟨p5,0,Ih⟩),Iq (Ic ⟨p6,0,Ih⟩)]),(138,Ib Ie (n:Int)),(139,Iq (Ic ⟨gm,0,Ih⟩)),(140,Iq (Ic ⟨gm,0,Ih⟩)),(141,Iq (Ic ⟨gm,28,Ih⟩)),(142,Ia (Ic adF3) S.nodes.length cF),(143,Ib Ie (n:Int)),(144,Iq (Ic (adF3.add n))),(145,Ia (Ic adS) 24 cR2),(146,Ib Ie (l:Int)),(147,Iq (Ic (adS.add (l*2)))),(148,IA #[Ib Ie s0.kind,Ib Ie s0.n]),(149,IA #[Ib Ie r.1.kind,Ib Ie r.1.n]),(150,Ia (Ic ⟨s.1.heap.size,0,Ih⟩) 1 1),(151,s.2.2.2),(152,Iq (Ic ⟨g11,2,Ih⟩))])
            (λbs s W=>(bs=[Ik,Ik,Ik,Ik]/\W=W0)\/(bs=[Ir,Ik,Ik,Ik]/\W=s.1/\(YSt Wm s.1 p4 p5 p6 gm gmap go g8 g11 cl S.entry.jt y.op nv s.2.1 vA' (Ia Ih 0 0) vNs r.2 args [] nodes/\s.1.heap[g10]?=Ic (.cells #[Ib Ie (a:Int),Ia AO xo.length cO] 142 (0,0))/\Kd.R (Kd.int .i64) 3 s.1 w.heap.size (λk=>w.heap.size<=k) (Ia (Ic adU) us.length cU) us))\/(bs=[Ir,Ir,Ik,Ik]/\W=s.1.alloc (Is #[Ib Ie r.1.kind,Ib Ie r.1.n] 135)/\(YSt Wm s.1 p4 p5 p6 gm gmap go g8 g11 cl S.entry.jt y.op nv s.2.1 vA' (Ia Ih 0 0) vNs r.2 args [] nodes/\s.1.heap[g10]?=Ic (.cells #[Ib Ie (a:Int),Ia AO xo.length cO] 142 (0,0))/\Kd.R (Kd.int .i64) 3 s.1 w.heap.size (λk=>w.heap.size<=k) (Ia (Ic adU) us.length cU) us))\/(bs=[Ir,Ir,Ir,Ik]/\W=s.2.2.1/\(YSt Wm s.1 p4 p5 p6 gm gmap go g8 g11 cl S.entry.jt y.op nv s.2.1 vA' (Ia Ih 0 0) vNs r.2 args [] nodes/\s.1.heap[g10]?=Ic (.cells #[Ib Ie (a:Int),Ia AO xo.length cO] 142 (0,0))/\Kd.R (Kd.int .i64) 3 s.1 w.heap.size (λk=>w.heap.size<=k) (Ia (Ic adU) us.length cU) us)/\(Kd.R fF 135 s.2.2.1 Wm.heap.size (λj=>Wm.heap.size<=j) s.2.2.2 (args++[r.1])/\(s.1.alloc (Is #[Ib Ie r.1.kind,Ib Ie r.1.n] 135)).grownBy s.2.2.1 (IQ vA')/\(s.2.2.2.ownBlock=IQ vA'\/∃b,s.2.2.2.ownBlock=Ic b/\(s.1.alloc (Is #[Ib Ie r.1.kind,Ib Ie r.1.n] 135)).heap.size<=b)))\/(bs=[Ir,Ir,Ir,Ir]/\W=s.2.2.1.setCell ⟨g11,2,Ih⟩ s.2.2.2/\(YSt Wm s.1 p4 p5 p6 gm gmap go g8 g11 cl S.entry.jt y.op nv s.2.1 vA' (Ia Ih 0 0) vNs r.2 args [] nodes/\s.1.heap[g10]?=Ic (.cells #[Ib Ie (a:Int),Ia AO xo.length cO] 142 (0,0))/\Kd.R (Kd.int .i64) 3 s.1 w.heap.size (λk=>w.heap.size<=k) (Ia (Ic adU) us.length cU) us)/\(Kd.R fF 135 s.2.2.1 Wm.heap.size (λj=>Wm.heap.size<=j) s.2.2.2 (args++[r.1])/\(s.1.alloc (Is #[Ib Ie r.1.kind,Ib Ie r.1.n] 135)).grownBy s.2.2.1 (IQ vA')/\(s.2.2.2.ownBlock=IQ vA'\/∃b,s.2.2.2.ownBlock=Ic b/\(s.1.alloc (Is #[Ib Ie r.1.kind,Ib Ie r.1.n] 135)).heap.size<=b)))) (W0,KG,W0,KG) (by kernel_rfl) (by kernel_rfl) (by kernel_rfl) (λ_=>by kernel_rfl) ?_
           intro aF haF;simp only[bk,KY,IP,IZ,IY]at haF;subst haF;refine⟨?_,?_,.inl ⟨rfl,HW0.1.symm⟩,?_⟩
           .intro j o ho hct s W bs hlen hok hI
            rcases j with _|_|_|_|_|_|_|_|_|_|_|_|_|_|_|_|_|_|_|j
            all_goals first|exact absurd hct (by decide)|(obtain rfl:=Ii ho)|exact absurd (IB.1 ho).1 (by simp)
            .have hI2:=hI
             rcases hI with⟨rfl,rfl⟩|⟨rfl,rfl,hp⟩|⟨rfl,rfl,hp⟩|⟨rfl,rfl,hp⟩|⟨rfl,rfl,hp⟩
             all_goals first
              |(refine ab rfl ?_ ⟨rfl,hI2⟩;go_simp;done)
              |exact bh hok (by kernel_rfl)
            .have hI2:=hI
             rcases hI with⟨rfl,rfl⟩|⟨rfl,rfl,hp⟩|⟨rfl,rfl,hp⟩|⟨rfl,rfl,hp⟩|⟨rfl,rfl,hp⟩
             .exact ax rfl 143 _ rfl ⟨g11,2,Ih⟩ _ rfl (by kernel_rfl) (by rw[ah HY0.1.hy];rfl) ⟨rfl,hI2⟩
             .exact ax rfl 143 _ rfl ⟨g11,2,Ih⟩ _ rfl (by kernel_rfl) (by rw[ah hp.1.hy];rfl) ⟨rfl,hI2⟩
             .exact ax rfl 143 _ rfl ⟨g11,2,Ih⟩ _ rfl (by kernel_rfl) (by rw[ah (aT hp.1.hy _)];rfl) ⟨rfl,hI2⟩
             .exact bh hok (by kernel_rfl)
             .exact bh hok (by kernel_rfl)
            .have hI2:=hI
             rcases hI with⟨rfl,rfl⟩|⟨rfl,rfl,hp⟩|⟨rfl,rfl,hp⟩|⟨rfl,rfl,hp⟩|⟨rfl,rfl,hp⟩
             all_goals first
              |(refine ab rfl ?_ ⟨rfl,hI2⟩;go_simp;done)
              |exact bh hok (by kernel_rfl)
            .have hI2:=hI
             rcases hI with⟨rfl,rfl⟩|⟨rfl,rfl,hp⟩|⟨rfl,rfl,hp⟩|⟨rfl,rfl,hp⟩|⟨rfl,rfl,hp⟩
             all_goals first
              |(refine ab rfl ?_ ⟨rfl,hI2⟩;go_simp;done)
              |exact bh hok (by kernel_rfl)
            .have hI2:=hI
             rcases hI with⟨rfl,rfl⟩|⟨rfl,rfl,hp⟩|⟨rfl,rfl,hp⟩|⟨rfl,rfl,hp⟩|⟨rfl,rfl,hp⟩
             .exact ax rfl 114 _ rfl ⟨p4,0,Ih⟩ _ rfl (by kernel_rfl) C4.1 ⟨rfl,hI2⟩
             all_goals exact bh hok (by kernel_rfl)
            .have hI2:=hI
             rcases hI with⟨rfl,rfl⟩|⟨rfl,rfl,hp⟩|⟨rfl,rfl,hp⟩|⟨rfl,rfl,hp⟩|⟨rfl,rfl,hp⟩
             all_goals first
              |(refine ab rfl ?_ ⟨rfl,hI2⟩;go_simp;done)
              |exact bh hok (by kernel_rfl)
            .have hI2:=hI
             rcases hI with⟨rfl,rfl⟩|⟨rfl,rfl,hp⟩|⟨rfl,rfl,hp⟩|⟨rfl,rfl,hp⟩|⟨rfl,rfl,hp⟩
             all_goals first
              |(refine ab rfl ?_ ⟨rfl,hI2⟩;go_simp;done)
              |exact bh hok (by kernel_rfl)
            .have hI2:=hI
             rcases hI with⟨rfl,rfl⟩|⟨rfl,rfl,hp⟩|⟨rfl,rfl,hp⟩|⟨rfl,rfl,hp⟩|⟨rfl,rfl,hp⟩
             .exact ax rfl 120 _ rfl ⟨gm,28,Ih⟩ _ rfl (by kernel_rfl) C28.1 ⟨rfl,hI2⟩
             all_goals exact bh hok (by kernel_rfl)
            .have hI2:=hI
             rcases hI with⟨rfl,rfl⟩|⟨rfl,rfl,hp⟩|⟨rfl,rfl,hp⟩|⟨rfl,rfl,hp⟩|⟨rfl,rfl,hp⟩
             all_goals first
              |(refine ab rfl ?_ ⟨rfl,hI2⟩;go_simp;done)
              |exact bh hok (by kernel_rfl)
            .have hI2:=hI
             rcases hI with⟨rfl,rfl⟩|⟨rfl,rfl,hp⟩|⟨rfl,rfl,hp⟩|⟨rfl,rfl,hp⟩|⟨rfl,rfl,hp⟩
             all_goals first
              |(refine ab rfl ?_ ⟨rfl,hI2⟩;go_simp;done)
              |exact bh hok (by kernel_rfl)
            .have hI2:=hI
             rcases hI with⟨rfl,rfl⟩|⟨rfl,rfl,hp⟩|⟨rfl,rfl,hp⟩|⟨rfl,rfl,hp⟩|⟨rfl,rfl,hp⟩
             .exact ax rfl 143 _ rfl (adF3.add n) _ rfl (by kernel_rfl) F0.1 ⟨rfl,hI2⟩
             all_goals exact bh hok (by kernel_rfl)
            .have hI2:=hI
             rcases hI with⟨rfl,rfl⟩|⟨rfl,rfl,hp⟩|⟨rfl,rfl,hp⟩|⟨rfl,rfl,hp⟩|⟨rfl,rfl,hp⟩
             all_goals first
              |(refine ab rfl ?_ ⟨rfl,hI2⟩;go_simp;done)
              |exact bh hok (by kernel_rfl)
            .have hI2:=hI
             rcases hI with⟨rfl,rfl⟩|⟨rfl,rfl,hp⟩|⟨rfl,rfl,hp⟩|⟨rfl,rfl,hp⟩|⟨rfl,rfl,hp⟩
             all_goals first
              |(refine ab rfl ?_ ⟨rfl,hI2⟩;go_simp;done)
              |exact bh hok (by kernel_rfl)
            .have hI2:=hI
             rcases hI with⟨rfl,rfl⟩|⟨rfl,rfl,hp⟩|⟨rfl,rfl,hp⟩|⟨rfl,rfl,hp⟩|⟨rfl,rfl,hp⟩
             .exact ab rfl (ao rfl rfl HLdS.1) ⟨rfl,hI2⟩
             all_goals exact bh hok (by kernel_rfl)
            .have hI2:=hI
             rcases hI with⟨rfl,rfl⟩|⟨rfl,rfl,hp⟩|⟨rfl,rfl,hp⟩|⟨rfl,rfl,hp⟩|⟨rfl,rfl,hp⟩
             all_goals first
              |(refine ab rfl ?_ ⟨rfl,hI2⟩;go_simp;done)
              |exact bh hok (by kernel_rfl)
           .intro k j o hk ho s W bs hlen hok hI
            rcases k with _|_|_|_|k
            all_goals first|(obtain rfl:=Ii hk;obtain rfl:=Ii ho)|exact absurd hk (by simp)
            .rcases hI with⟨rfl,rfl⟩|⟨rfl,rfl,hp⟩|⟨rfl,rfl,hp⟩|⟨rfl,rfl,hp⟩|⟨rfl,rfl,hp⟩
             .refine ld rfl Tryz.func54 (by kernel_rfl) rfl rfl #[Ib Ie (n:Int),IA #[Ib Ie s0.kind,Ib Ie s0.n],Iq (Ic ⟨p4,0,Ih⟩),Iq (Ic ⟨p5,0,Ih⟩),Iq (Ic ⟨p6,0,Ih⟩)] rfl rfl (HSrc.1.mono λe w' h=>?_)
              obtain⟨h1,v1,h2,h3,h4⟩:=h;exact⟨_,h1,(w',v1,w',KG),[(150,Ia (Ic ⟨w'.heap.size,0,Ih⟩) 1 1),(151,KG)],rfl,rfl,by kernel_rfl,.inr (.inl ⟨rfl,rfl,HY0.1.src h2 h3,HY0.1.sr.keep h3 H100.1 (by decide) (by decide),HY0.1.sr.keepR h3 HRU0.1 (λq hq=>by have:=fp hq;omega)⟩)⟩
             all_goals exact bh hok (by kernel_rfl)
            .rcases hI with⟨rfl,rfl⟩|⟨rfl,rfl,hp⟩|⟨rfl,rfl,hp⟩|⟨rfl,rfl,hp⟩|⟨rfl,rfl,hp⟩
             .exact bh hok (by kernel_rfl)
             .exact ab rfl (mI _ _ _ rfl rfl) ⟨s,[],rfl,rfl,rfl,.inr (.inr (.inl ⟨rfl,rfl,hp⟩))⟩
             all_goals exact bh hok (by kernel_rfl)
            .rcases hI with⟨rfl,rfl⟩|⟨rfl,rfl,hp⟩|⟨rfl,rfl,hp⟩|⟨rfl,rfl,hp⟩|⟨rfl,rfl,hp⟩
             .exact bh hok (by kernel_rfl)
             .exact bh hok (by kernel_rfl)
             .have hal:=ae (Il s.1.heap.size s.1) (Is #[Ib Ie r.1.kind,Ib Ie r.1.n] 135)
              have hYb:=hp.1.below hal;obtain⟨v1,W2,hrun,hR,hg2,hat⟩:=kK (P:=If) fF Wm.heap.size 143 143 135 _ 16 Tryz.underlying143 nu rfl (by decide) (by omega) vA' args r.1 [Ib Ie r.1.kind,Ib Ie r.1.n] (λj=>Wm.heap.size<=j) (λ_=>False) ⟨s.1.heap.size,0,Ih⟩ (lY (Iu s.1 _)) rfl (λ_ h=>h.elim) (λk hk=>IT hYb.fr.size hk) hYb.ra hYb.fr.size (by have:=HArl.1;omega);exact ab rfl (j_ rfl rfl rfl hrun) ⟨(s.1,s.2.1,W2,v1),[(151,v1)],rfl,rfl,by kernel_rfl,.inr (.inr (.inr (.inl ⟨rfl,rfl,hp,hR,hg2,hat⟩)))⟩
             all_goals exact bh hok (by kernel_rfl)
            .rcases hI with⟨rfl,rfl⟩|⟨rfl,rfl,hp⟩|⟨rfl,rfl,hp⟩|⟨rfl,rfl,hp⟩|⟨rfl,rfl,hp⟩
             .exact bh hok (by kernel_rfl)
             .exact bh hok (by kernel_rfl)
             .exact bh hok (by kernel_rfl)
             .obtain⟨hq1,hq2,hq3,hq4⟩:=hp
              have hal:=ae (Il s.1.heap.size s.1) (Is #[Ib Ie r.1.kind,Ib Ie r.1.n] 135);have hYb:=hq1.1.below hal;have hy2:=(hq3.block g11 (aj hYb.hy) (Kd.R_ne hYb.ra hYb.hy (by decide))).trans hYb.hy;obtain⟨A1,c1,he⟩:=Kd.R_slice hq2;obtain⟨hv1,hv2⟩:=dT _ _ _ _ he;exact a_ rfl 143 _ _ rfl g11 2 s.2.2.2 vA' rfl rfl hv1 hv2 (by kernel_rfl) (by rw[ah hy2];rfl) (au hy2 2) ⟨s,[],rfl,rfl,rfl,.inr (.inr (.inr (.inr ⟨rfl,rfl,hq1,hq2,hq3,hq4⟩)))⟩
             .exact bh hok (by kernel_rfl)
           .intro s W hI
            rcases hI with⟨h,_⟩|⟨h,_⟩|⟨h,_⟩|⟨h,_⟩|⟨_,hW,hq1,hq2,hq3,hq4⟩
            .exact absurd h (by decide)
            .exact absurd h (by decide)
            .exact absurd h (by decide)
            .exact absurd h (by decide)
            obtain⟨W1,vM1,W2,vA1⟩:=s;simp only at hW hq1 hq2 hq3 hq4;subst hW;have hal:=ae (Il W1.heap.size W1) (Is #[Ib Ie r.1.kind,Ib Ie r.1.n] 135);have hYb:=hq1.1.below hal;have hY6:=hYb.arg hq2 hq3 hq4;have hne10:g10≠g11:=HNe.1;have h10b:=ag hq1.2.1 hal;have h106:=bp ((hq3.block g10 (aj h10b) (Kd.R_ne hYb.ra h10b (by decide))).trans h10b) (p:=⟨g11,2,Ih⟩) hne10 vA1;have hRb:=Kd.R_over' (Kd.R_below hq1.2.2 hal) (λk hk=>Kd.R_typed hYb.ra k hk) (λq hq=>by have:=fp hq;omega) hq3;have hR6:=Kd.R_set hRb ((hq3.block g11 (aj hYb.hy) (Kd.R_ne hYb.ra hYb.hy (by decide))).trans hYb.hy) (λq hq=>by have:=fp hq;omega) 2 vA1;have HY6:=MD hY6;have H106:=MD h106;have HR6:=MD hR6;clear hq1 hq2 hq3 hq4 hal hYb hY6 h10b h106 hRb hR6 hne10;dsimp only;go_wp2;go_roundw
            case rel=>exact⟨k+1,vM1,vA1,r.2,args++[r.1],by go_num,⟨⟨HKl.1,by rw[IV];have:=HAl.1;simp;omega,HFi2.1,HY6.1,H106.1,HR6.1⟩⟩⟩
            case measure=>have:=HKl.1;simp[Jj];omega
          .obtain rfl:k=us.length:=by omega
           rw[Ju (Iz _)]at hfin;have hf2:dH cl F n us m=(args,m'):=by rw[hfin];simp[dH]
           have hq5:=HQ4.1;rw[hf2]at hq5;have HQ5:=MD hq5;have HY6:=MD hY;have H106:=MD h10;clear hk hal hfin hY h10 hRu hf2 hq5 hkl HL;go_wp2;go_meet
           case rel=>
            rw[HQ5.1];exact⟨⟨vM',vA',HY6.1,H106.1⟩⟩
      case rest=>
       obtain⟨vM2,vA2,hY,h10⟩:=hcut.1;have a11:=(show wc.cell? ⟨g10,1,Ih⟩=Ic (.slice AO xo.length cO) by rw[ah h10];rfl);have HYb:=MD hY;clear hcut hY h10;go_upto_region 26 with fail
       go_loopw [157] (λj wr=>∃(k:Nat) (vO2:Io) (outs:List Int),j=Ib Ie k/\aa (k<=xo.length/\outs=(xo.take k).map (·.jt)/\YSt Wm wr p4 p5 p6 gm gmap go g8 g11 cl S.entry.jt q.1.1 q.1.2.1 vM2 vA2 vO2 vNs q.2 q.1.2.2 outs nodes)) (λj _=>xo.length-(Jj j).toNat)
       case atStart=>exact⟨0,_,[],rfl,⟨⟨ID _,rfl,HYb.1⟩⟩⟩
       case round=>
        obtain⟨k,vO2,outs,rfl,HL⟩:=hrel;obtain⟨hk,houts,hY⟩:=HL.1;by_cases hkl:k<xo.length
        .have hkl':(k:Int)<(xo.length:Int):=by omega
         obtain⟨o,ho⟩:∃o,xo[k]?=Ic o:=⟨_,Ig hkl⟩;obtain⟨adO,csO,eO,hKO,hldO⟩:=fl (P:=If) (HNd.1 wr hY.fr).2 k hkl o ho 116 JD rfl ij;subst eO;obtain rfl:csO=o.cells:=hKO;have houts2:outs++[o.jt]=(xo.take (k+1)).map (·.jt):=by
          rw[JC hkl,(Ip.1 ho).2,LY,houts];rfl
         have HOu:=MD houts2;have HOl:=MD (show outs.length<=2 by rw[houts,Jb,Kt];omega);have HLdO:=MD (show(Le 116 (adO.add (k*25))).run If wr=.ok (IA o.cells.toArray) wr from hldO);have HY5:=MD hY;have HKl:=MD hkl;clear hk houts hY ho hldO houts2 hkl HL;go_upto_region 28 with(first
          |((with_reducible refine ai (N:=160) rfl ?_);refine av rfl 116 _ rfl (adO.add (k*25)) rfl _ HLdO.1 ?_)
          |((with_reducible refine ap (t:=116) (p:=15) rfl ?_);refine an rfl 116 _ _ rfl wr.heap.size o.cells.toArray rfl rfl 116 (aX.cells ⟨0,bE⟩).toArray (Iu wr _) (dN o) (by simp[aX.len]) (iO o) ?_;intro w6 h6 hf6;have HY6:=MD (HY5.1.below (cw hf6));have o15:=(show w6.cell? ⟨wr.heap.size,0,Ih⟩=Ic (Ib Ie o.jt) by rw[aq h6];rfl);clear h6 hf6))
         have y3:=(show w6.cell? ⟨g11,3,Ih⟩=Ic vO2 by rw[ah HY6.1.hy];rfl);go_wp2_with (first
          |((with_reducible refine a6 (b:=.append) (xs:=#[.tmp 162,.tmp 165]) rfl ?_);at_builtin;refine Kd.R_append (Kd.int .i64) (w0:=w6) Wm.heap.size rfl (.tmp 162) (.tmp 165) 109 3 (Ib Ie 0) 8 rfl Ms y8 rfl (by decide) (by omega) vO2 (outs) (o.jt) [Ib Ie o.jt] (λj=>Wm.heap.size<=j) (λ_=>False) rfl rfl ?aP (λ_ hk=>hk.elim) ?aF ?aO ?aB ?aS ?aL ?_;(case aP=>exact rfl);(case aF=>exact(λb hb=>IT HY6.1.fr.size hb));(case aO=>exact HY6.1.ro);(case aB=>exact It.mono (Il _ _) HY6.1.fr.size);(case aS=>exact HY6.1.fr.size);(case aL=>have:=HOl.1;omega);intro vap wap ho hb hg hat;obtain⟨A1,c1,rfl⟩:=Kd.R_slice ho;have hy1:=(hg.block g11 (aj HY6.1.hy) (Kd.R_ne HY6.1.ro HY6.1.hy (by decide))).trans HY6.1.hy;have z3:=(show wap.cell? ⟨g11,3,Ih⟩=Ic vO2 by rw[ah hy1];rfl);have zf3:=au hy1 3;have HY7:=MD (HY6.1.out ho hg hat);clear ho hb hg hat hy1))
         go_roundw
         case rel=>exact⟨k+1,Ia A1 (outs.length+1) c1,outs++[o.jt],by go_num,⟨⟨HKl.1,HOu.1,by have h:=HY7.1;rw[show(outs++[o.jt]).length=outs.length+1 by simp]at h;exact h⟩⟩⟩
         case measure=>have:=HKl.1;simp[Jj];omega
        .obtain rfl:k=xo.length:=by omega
         rw[Kh]at houts;have HOu:=MD houts;have HY5:=MD hY;have n8:=(show wr.cell? ⟨g8,1,Ih⟩=Ic vNs by rw[ah hY.h8];rfl);have HNl2:=MD (show nodes.length<=200 by have:=HNl.1;have:=HLt.1;omega);clear hk houts hY hkl HL;go_wp2_with (first
          |((with_reducible refine ai (N:=171) rfl ?_);refine II rfl 145 _ rfl g11 rfl 145 #[Ib Ie q.1.1,Ib Ie q.1.2.1,vA2,vO2] (0,0) _ HY5.1.hy Tryz.underlying145 rfl qE ?_)
          |((with_reducible refine a6 (b:=.append) (xs:=#[.tmp 170,.tmp 172]) rfl ?_);at_builtin;refine Kd.R_append fg (w0:=wr) Wm.heap.size rfl (.tmp 170) (.tmp 172) 30 145 (IA #[Ib Ie 0,Ib Ie 0,Ia Ih 0 0,Ia Ih 0 0]) 64 rfl Tryz.underlying30 E6 rfl (by decide) (by omega) vNs (nodes) ((⟨q.1.1,q.1.2.1,q.1.2.2,outs⟩:fi)) [Ib Ie q.1.1,Ib Ie q.1.2.1,vA2,vO2] (λj=>Wm.heap.size<=j) (λj=>Wm.heap.size<=j/\Ic j≠vNs.ownBlock) rfl rfl ?aP (λk hk=>hk) ?aF ?aO ?aB ?aS ?aL ?_;(case aP=>exact HY5.1.rowM);(case aF=>exact(λb hb=>IT HY5.1.fr.size hb));(case aO=>exact HY5.1.rows);(case aB=>exact It.mono (Il _ _) HY5.1.fr.size);(case aS=>exact HY5.1.fr.size);(case aL=>have:=HNl2.1;omega);intro vap wap ho hb hg hat;obtain⟨A1,c1,rfl⟩:=Kd.R_slice ho;have h81:=(hg.block g8 (aj HY5.1.h8) (λe=>by have:=Kd.R_base HY5.1.rows g8 e.symm;have:=HY5.1.l8;omega)).trans HY5.1.h8;have z8:=(show wap.cell? ⟨g8,1,Ih⟩=Ic vNs by rw[ah h81];rfl);have zf8:=au h81 1;have HZ7:=MD (HY5.1.close ho hg);clear ho hb hg hat h81))
         go_roundw
         case rel=>exact⟨n+1,vM2,Ia A1 (nodes.length+1) c1,q.2,nodes++[⟨q.1.1,q.1.2.1,q.1.2.2,outs⟩],by go_num,⟨⟨HLt.1,by have h:=HZ7.1;rw[show(nodes++[(⟨q.1.1,q.1.2.1,q.1.2.2,outs⟩:fi)]).length=nodes.length+1 by simp]at h;exact h,by have:=HNl.1;simp;omega,by rw[HFi.1,HOu.1]⟩⟩⟩
         case measure=>have:=HLt.1;simp[Jj];omega
     .obtain rfl:n=S.nodes.length:=by omega
      rw[Ju (Iz _)]at hfin;have hfin2:res=(nodes,m):=by rw[hfin];simp[dp]
      have HPm:=MD (show PIn S.nodes.length m by
       have h:=uQ HP.1 cl S.nodes 0 ⟨[],[]⟩ rfl (λp hp=>absurd hp JE);rw[<-HRes.1,hfin2]at h;exact h)
      have HFi:=MD hfin2;obtain⟨rv,hrv⟩:=ME (fx f S F cl (S.nodes.length*24+1) 0 m);have HRv:=MD hrv;have HX0:=MD hZ.toX;clear hn hZ hnl hfin hfin2 hrv hlt HL;go_upto_region 33 with fail
      go_loopw [16] (λj wr=>∃(i:Nat) (vM vV:Io) (m:dl) (vals:List kO),j=Ib Ie i/\aa (i<=S.nodes.length*24/\XSt Wm wr p4 p5 p6 gm gmap go g8 cl S.entry.jt vM vNs vV m nodes vals/\vals.length=i/\PIn S.nodes.length m/\rv=vals++fx f S F cl (S.nodes.length*24+1-i) i m)) (λj _=>S.nodes.length*24-(Jj j).toNat)
      case atStart=>exact⟨0,_,_,m,[],rfl,⟨⟨ID _,HX0.1,rfl,HPm.1,HRv.1⟩⟩⟩
      case round=>
       obtain⟨i,vM2,vV,m2,vals,rfl,HL⟩:=hrel;obtain⟨hi,hX,hvl,hps,hrv⟩:=HL.1;obtain⟨AM,cM,rfl⟩:=Kd.R_slice hX.sr.r;have p6c:=(show wr.cell? ⟨p6,0,Ih⟩=Ic (.slice AM m2.ps.length cM) by rw[ah hX.sr.h6];rfl);have hms:m2.ps.length<=S.nodes.length*24:=by
        rw[hX.sr.len];have:=hX.sr.nd.length_le_of_subset (λv hv=>hX.sr.sm v hv);have:=HCl5.1.1;omega
       have HMs:=MD hms;have hN200:=HP.1.n200;have hml:(m2.ps.length:Int)<=5000:=by omega
       by_cases hlt:i<m2.ps.length
       .have hlt':(i:Int)<(m2.ps.length:Int):=by omega
        obtain⟨p,hp⟩:∃p,m2.ps[i]?=Ic p:=⟨_,Ig hlt⟩;obtain⟨pa,pb⟩:=p;obtain⟨h1,h2,h3,h4⟩:=hps _ (Iw hp);simp only at h1 h2 h3 h4;obtain⟨n',rfl⟩:∃a:Nat,pa=a:=⟨pa.toNat,by omega⟩;obtain⟨l',rfl⟩:∃a:Nat,pb=a:=⟨pb.toNat,by omega⟩;obtain⟨gM,cap,he,_⟩:=Kd.R_form hX.sr.r (by omega);injection he with he1 he2 he3
        subst he1;obtain⟨cs,_,hcs,hc⟩:=l_ hX.sr.r i _ hp;obtain rfl:cs=[Ib Ie (n':Int),Ib Ie (l':Int)]:=hcs;have cM0:=hc 0 _ rfl;have cM1:=hc 1 _ rfl;rw[show i*dw.sz+0=i*2 from rfl]at cM0;rw[show i*dw.sz+1=i*2+1 from rfl]at cM1;rw[show S.nodes.length*24+1-i=(S.nodes.length*24-i)+1 by omega,t_ hp,IC,IC]at hrv;obtain⟨ws,hws⟩:∃ws,(a7 S)[n']?=Ic ws:=⟨_,Ig (by rw[iW];omega)⟩;rw[Ij,hws,JL]at hrv;have hws4:=fP HP.1.way.1.few HP.1.n200 ws (Iw hws);obtain⟨gW,AE,cE,eW,hWy⟩:=HOm.1.way HTs.1 hws;subst eW;have HHp:=MD hp;have HHws:=MD hws;have HWs:=MD hWy;have HRv2:=MD hrv;have HX:=MD hX;have HHi:=MD (IE hlt hvl);have HPi:=MD hps;have hnl':(n':Int)<(S.nodes.length:Int):=by omega
        have hll':(l':Int)<24:=by omega
        clear hi hX hvl hps hrv hms hlt hp he2 he3 hc hws hWy HL h1 h2 h3 h4;go_upto_region 35 with fail
        refine KF (by kernel_rfl) (by kernel_rfl) ?_
        repeat still_step
        refine Mc ?_;change(Exit.then _ _) _ _ wr.drew;obtain⟨wq,hwq⟩:=ME wr.drew;rw[<-hwq];have hbq:It wr.heap.size wr wq:=by rw[hwq];exact aA (Il _ _)
        have HXq:=MD (HX.1.below hbq);clear hwq hbq p6c cM0 cM1;go_upto_region 37 with fail
        obtain⟨wv,hwv⟩:∃wv,wv=wq.alloc (Is #[Ib Ie (n':Int),Ia Ih 0 0] 148):=⟨_,rfl⟩;have hV:=HXq.1.open_ (n':Int);rw[<-hwv]at hV;refine ar hwv.symm ?_;obtain⟨g19,hg19⟩:=MF wq.heap.size;rw[hg19]at hV ⊢;have hOv:=HOm.1.move HTs.1 hV.fr;have c4:=(show wv.cell? ⟨p4,0,Ih⟩=Ic (.pointer (Ic ⟨gm,0,Ih⟩)) by rw[ah hOv.h4];rfl);have c30:=(show wv.cell? ⟨gm,30,Ih⟩=Ic (.slice (Ic ⟨gW,0,Ih⟩) S.nodes.length cW) by rw[aq hOv.blk];exact jE 3);have cWy:=(HWs.1 wv hV.fr).1;have HV:=MD hV;have HW4:=MD hws4;have hw4':(ws.length:Int)<=5000:=by omega
        clear hwv hg19 hOv hV hws4;go_upto_region 38 with fail
        go_loopw [202] (λj wr=>∃(k:Nat) (vM' vF':Io) (m':dl) (fs:List Src),j=Ib Ie k/\aa (k<=ws.length/\fs.length<=k/\(dL f S F cl l' ws m2)=(fs++(dL f S F cl l' (ws.drop k) m').1,(dL f S F cl l' (ws.drop k) m').2)/\VSt Wm wr p4 p5 p6 gm gmap go g8 g19 cl S.entry.jt (n':Int) vM' vF' vNs vV m' fs nodes vals)) (λj _=>ws.length-(Jj j).toNat)
        case atStart=>exact⟨0,_,_,m2,[],rfl,⟨⟨ID _,ID _,rfl,HV.1⟩⟩⟩
        case round=>
         obtain⟨k,vM',vF',m',fs,rfl,HL⟩:=hrel;obtain⟨hk,hfl,hfin,hV⟩:=HL.1;by_cases hkl:k<ws.length
         .have hkl':(k:Int)<(ws.length:Int):=by omega
          obtain⟨e,he⟩:∃e,ws[k]?=Ic e:=⟨_,Ig hkl⟩;have hem:=Iw he;obtain⟨adE,csE,eE,hKE,hldE⟩:=fl (P:=If) (HWs.1 wr hV.fr).2 k hkl e he 151 MB rfl jp;subst eE;obtain rfl:csE=[Ib Ie e.1,Ib Ie e.2]:=hKE;rw[Jc hkl,(Ip.1 he).2,t8]at hfin;obtain⟨x,hx⟩:=ME (c_ F e (dq f S e l'));rw[<-hx]at hfin;obtain⟨r,hr⟩:=ME (eK cl e.1 x m');rw[<-hr]at hfin;have hxk:x.kind=4->0<=e.1/\e.1<=199/\0<=x.n/\x.n<24/\e.1*24+x.n<(cl.length:Int):=by
           intro hk4;have hcl:=HCl5.1.1;have:=(HP.1.src HHws.1 hem (by omega) hx).2.2 hk4;exact⟨this.1,by omega,this.2.2.1,this.2.2.2,by omega⟩
          have HLdE:=MD (show(Le 151 (adE.add (k*2))).run If wr=.ok (IA #[Ib Ie e.1,Ib Ie e.2]) wr from hldE);have HXk:=MD hxk;have HHx:=MD hx;have HHe:=MD he;have HHr:=MD hr;have HFi2:=MD hfin;have HV5:=MD hV;have HKl:=MD hkl;have HFl:=MD hfl;clear hk hfl hfin hV hkl he hem hldE hxk hx hr HL;go_upto_region 40 with(first
           |((with_reducible refine ai (N:=206) rfl ?_);refine av rfl 151 _ rfl (adE.add (k*2)) rfl _ HLdE.1 ?_))
          obtain⟨wz,hwz⟩:∃wz,wz=wr.alloc (Is #[Ib Ie e.1,Ib Ie e.2] 151):=⟨_,rfl⟩;have hz21:wz.heap[wr.heap.size]?=Ic (.cells #[Ib Ie e.1,Ib Ie e.2] 151 (0,0)):=by rw[hwz];exact Iu wr _
          have hVz:=HV5.1.below (ae (Il wr.heap.size wr) (Is #[Ib Ie e.1,Ib Ie e.2] 151));rw[<-hwz]at hVz;refine ar hwz.symm ?_;obtain⟨g21,hg21⟩:=MF wr.heap.size;rw[hg21]at hz21 ⊢;obtain⟨W0,hW0⟩:=ME wz.drew;have hb0:It wz.heap.size wz W0:=by rw[hW0];exact aA (Il _ _)
          have HW0:=MD hW0;have HV0:=MD (hVz.below hb0);have G21:=MD (show W0.cell? ⟨g21,0,Ih⟩=Ic (Ib Ie e.1) by rw[ah (ag hz21 hb0)];rfl);have hO0:=HOm.1.move HTs.1 HV0.1.fr;have C4:=MD (show W0.cell? ⟨p4,0,Ih⟩=Ic (.pointer (Ic ⟨gm,0,Ih⟩)) by rw[ah hO0.h4];rfl);obtain⟨kk,hkk⟩:=ME k;subst hkk;have hFrom:=sd f c S F HP.1 gm vf _ _ _ _ _ _ cF cA cW n' kk l' ws HHws.1 e HHe.1 (by omega) W0 hO0.mkr;rw[<-HHx.1]at hFrom;have HFrom:=MD hFrom;have hl5:cl.length<=5000:=by have:=HCl5.1.1;have:=HP.1.n200;omega
          have hSrc:=λ(W:Im) (hb:It W0.heap.size W0 W)=>uP Wm.heap.size p4 p5 p6 gm gmap go cl vM' m' e.1 x W (HV0.1.sr.below hb) (IT HV0.1.fr.size hb.size) hl5 HXk.1;rw[<-HHr.1]at hSrc;have HSrc:=MD hSrc;have HFs5:=MD (show fs.length<=5000 by have:=HFl.1;have:=HKl.1;have:=HW4.1;omega);clear hwz hz21 hVz hg21 hW0 hb0 hO0 hFrom hl5 hSrc;refine bm (σ:=Im×Im×Io×Im×Io) [9,10,11,12,14] (λs=>[(207,Iq (Ic ⟨g19,1,Ih⟩)),(208,vF'),(209,.func (.func 54) #[] #[Iq (Ic ⟨p4,0,Ih⟩),Iq (Ic ⟨p5,0,Ih⟩),Iq (Ic ⟨p6,0,Ih⟩)]),(210,Iq (Ic ⟨g21,0,Ih⟩)),(211,Ib Ie e.1),(212,Iq (Ic ⟨gm,0,Ih⟩)),(213,Ib Ie (n':Int)),(214,Ib Ie (kk:Int)),(215,Ib Ie (l':Int)),(216,IA #[Ib Ie x.kind,Ib Ie x.n]),(217,IA #[Ib Ie r.1.kind,Ib Ie r.1.n]),(218,Ia (Ic ⟨s.2.1.heap.size,0,Ih⟩) 1 1),(219,s.2.2.2.2),(220,Iq (Ic ⟨g19,1,Ih⟩))])
           (λbs s W=>(bs=[Ik,Ik,Ik,Ik,Ik]/\W=W0)\/(bs=[Ir,Ik,Ik,Ik,Ik]/\W=s.1/\It W0.heap.size W0 s.1)\/(bs=[Ir,Ir,Ik,Ik,Ik]/\W=s.2.1/\VSt Wm s.2.1 p4 p5 p6 gm gmap go g8 g19 cl S.entry.jt (n':Int) s.2.2.1 vF' vNs vV r.2 fs nodes vals)\/(bs=[Ir,Ir,Ir,Ik,Ik]/\W=s.2.1.alloc (Is #[Ib Ie r.1.kind,Ib Ie r.1.n] 135)/\VSt Wm s.2.1 p4 p5 p6 gm gmap go g8 g19 cl S.entry.jt (n':Int) s.2.2.1 vF' vNs vV r.2 fs nodes vals)\/(bs=[Ir,Ir,Ir,Ir,Ik]/\W=s.2.2.2.1/\VSt Wm s.2.1 p4 p5 p6 gm gmap go g8 g19 cl S.entry.jt (n':Int) s.2.2.1 vF' vNs vV r.2 fs nodes vals/\(Kd.R fF 135 s.2.2.2.1 Wm.heap.size (λj=>Wm.heap.size<=j) s.2.2.2.2 (fs++[r.1])/\(s.2.1.alloc (Is #[Ib Ie r.1.kind,Ib Ie r.1.n] 135)).grownBy s.2.2.2.1 (IQ vF')/\(s.2.2.2.2.ownBlock=IQ vF'\/∃b,s.2.2.2.2.ownBlock=Ic b/\(s.2.1.alloc (Is #[Ib Ie r.1.kind,Ib Ie r.1.n] 135)).heap.size<=b)))\/(bs=[Ir,Ir,Ir,Ir,Ir]/\W=s.2.2.2.1.setCell ⟨g19,1,Ih⟩ s.2.2.2.2/\VSt Wm s.2.1 p4 p5 p6 gm gmap go g8 g19 cl S.entry.jt (n':Int) s.2.2.1 vF' vNs vV r.2 fs nodes vals/\(Kd.R fF 135 s.2.2.2.1 Wm.heap.size (λj=>Wm.heap.size<=j) s.2.2.2.2 (fs++[r.1])/\(s.2.1.alloc (Is #[Ib Ie r.1.kind,Ib Ie r.1.n] 135)).grownBy s.2.2.2.1 (IQ vF')/\(s.2.2.2.2.ownBlock=IQ vF'\/∃b,s.2.2.2.2.ownBlock=Ic b/\(s.2.1.alloc (Is #[Ib Ie r.1.kind,Ib Ie r.1.n] 135)).heap.size<=b)))) (W0,W0,KG,W0,KG) (by kernel_rfl) (by kernel_rfl) (by kernel_rfl) (λ_=>by kernel_rfl) ?_
          intro aF haF;simp only[bk,KY,IP,IZ,IY]at haF;subst haF;refine⟨?_,?_,.inl ⟨rfl,HW0.1.symm⟩,?_⟩
          .intro j o ho hct s W bs hlen hok hI
           rcases j with _|_|_|_|_|_|_|_|_|_|_|_|_|_|_|j
           all_goals first|exact absurd hct (by decide)|(obtain rfl:=Ii ho)|exact absurd (IB.1 ho).1 (by simp)
           .have hI2:=hI
            rcases hI with⟨rfl,rfl⟩|⟨rfl,rfl,hp⟩|⟨rfl,rfl,hp⟩|⟨rfl,rfl,hp⟩|⟨rfl,rfl,hp⟩|⟨rfl,rfl,hp⟩
            all_goals first
             |(refine ab rfl ?_ ⟨rfl,hI2⟩;go_simp;done)
             |exact bh hok (by kernel_rfl)
           .have hI2:=hI
            rcases hI with⟨rfl,rfl⟩|⟨rfl,rfl,hp⟩|⟨rfl,rfl,hp⟩|⟨rfl,rfl,hp⟩|⟨rfl,rfl,hp⟩|⟨rfl,rfl,hp⟩
            .exact ax rfl 143 _ rfl ⟨g19,1,Ih⟩ _ rfl (by kernel_rfl) (by rw[ah HV0.1.hv];rfl) ⟨rfl,hI2⟩
            .exact ax rfl 143 _ rfl ⟨g19,1,Ih⟩ _ rfl (by kernel_rfl) (by rw[ah (ag HV0.1.hv hp)];rfl) ⟨rfl,hI2⟩
            .exact ax rfl 143 _ rfl ⟨g19,1,Ih⟩ _ rfl (by kernel_rfl) (by rw[ah hp.hv];rfl) ⟨rfl,hI2⟩
            .exact ax rfl 143 _ rfl ⟨g19,1,Ih⟩ _ rfl (by kernel_rfl) (by rw[ah (aT hp.hv _)];rfl) ⟨rfl,hI2⟩
            all_goals exact bh hok (by kernel_rfl)
           .have hI2:=hI
            rcases hI with⟨rfl,rfl⟩|⟨rfl,rfl,hp⟩|⟨rfl,rfl,hp⟩|⟨rfl,rfl,hp⟩|⟨rfl,rfl,hp⟩|⟨rfl,rfl,hp⟩
            all_goals first
             |(refine ab rfl ?_ ⟨rfl,hI2⟩;go_simp;done)
             |exact bh hok (by kernel_rfl)
           .have hI2:=hI
            rcases hI with⟨rfl,rfl⟩|⟨rfl,rfl,hp⟩|⟨rfl,rfl,hp⟩|⟨rfl,rfl,hp⟩|⟨rfl,rfl,hp⟩|⟨rfl,rfl,hp⟩
            all_goals first
             |(refine ab rfl ?_ ⟨rfl,hI2⟩;go_simp;done)
             |exact bh hok (by kernel_rfl)
           .have hI2:=hI
            rcases hI with⟨rfl,rfl⟩|⟨rfl,rfl,hp⟩|⟨rfl,rfl,hp⟩|⟨rfl,rfl,hp⟩|⟨rfl,rfl,hp⟩|⟨rfl,rfl,hp⟩
            .exact ax rfl 3 _ rfl ⟨g21,0,Ih⟩ _ rfl (by kernel_rfl) (G21.1) ⟨rfl,hI2⟩
            .exact ax rfl 3 _ rfl ⟨g21,0,Ih⟩ _ rfl (by kernel_rfl) (ak hp G21.1) ⟨rfl,hI2⟩
            all_goals exact bh hok (by kernel_rfl)
           .have hI2:=hI
            rcases hI with⟨rfl,rfl⟩|⟨rfl,rfl,hp⟩|⟨rfl,rfl,hp⟩|⟨rfl,rfl,hp⟩|⟨rfl,rfl,hp⟩|⟨rfl,rfl,hp⟩
            .exact ax rfl 114 _ rfl ⟨p4,0,Ih⟩ _ rfl (by kernel_rfl) (C4.1) ⟨rfl,hI2⟩
            all_goals exact bh hok (by kernel_rfl)
           .have hI2:=hI
            rcases hI with⟨rfl,rfl⟩|⟨rfl,rfl,hp⟩|⟨rfl,rfl,hp⟩|⟨rfl,rfl,hp⟩|⟨rfl,rfl,hp⟩|⟨rfl,rfl,hp⟩
            all_goals first
             |(refine ab rfl ?_ ⟨rfl,hI2⟩;go_simp;done)
             |exact bh hok (by kernel_rfl)
           .have hI2:=hI
            rcases hI with⟨rfl,rfl⟩|⟨rfl,rfl,hp⟩|⟨rfl,rfl,hp⟩|⟨rfl,rfl,hp⟩|⟨rfl,rfl,hp⟩|⟨rfl,rfl,hp⟩
            all_goals first
             |(refine ab rfl ?_ ⟨rfl,hI2⟩;go_simp;done)
             |exact bh hok (by kernel_rfl)
           .have hI2:=hI
            rcases hI with⟨rfl,rfl⟩|⟨rfl,rfl,hp⟩|⟨rfl,rfl,hp⟩|⟨rfl,rfl,hp⟩|⟨rfl,rfl,hp⟩|⟨rfl,rfl,hp⟩
            all_goals first
             |(refine ab rfl ?_ ⟨rfl,hI2⟩;go_simp;done)
             |exact bh hok (by kernel_rfl)
           .have hI2:=hI
            rcases hI with⟨rfl,rfl⟩|⟨rfl,rfl,hp⟩|⟨rfl,rfl,hp⟩|⟨rfl,rfl,hp⟩|⟨rfl,rfl,hp⟩|⟨rfl,rfl,hp⟩
            all_goals first
             |(refine ab rfl ?_ ⟨rfl,hI2⟩;go_simp;done)
             |exact bh hok (by kernel_rfl)
          .intro k j o hk ho s W bs hlen hok hI
           rcases k with _|_|_|_|_|k
           all_goals first|(obtain rfl:=Ii hk;obtain rfl:=Ii ho)|exact absurd hk (by simp)
           .rcases hI with⟨rfl,rfl⟩|⟨rfl,rfl,hp⟩|⟨rfl,rfl,hp⟩|⟨rfl,rfl,hp⟩|⟨rfl,rfl,hp⟩|⟨rfl,rfl,hp⟩
            .refine aN rfl Tryz.func57 (by kernel_rfl) rfl #[Iq (Ic ⟨gm,0,Ih⟩),Ib Ie (n':Int),Ib Ie (kk:Int),Ib Ie (l':Int)] rfl rfl (HFrom.1.mono λe w' h=>?_)
             exact⟨_,h.1,(w',s.2),[],rfl,rfl,by kernel_rfl,.inr (.inl ⟨rfl,rfl,h.2⟩)⟩
            all_goals exact bh hok (by kernel_rfl)
           .rcases hI with⟨rfl,rfl⟩|⟨rfl,rfl,hp⟩|⟨rfl,rfl,hp⟩|⟨rfl,rfl,hp⟩|⟨rfl,rfl,hp⟩|⟨rfl,rfl,hp⟩
            .exact bh hok (by kernel_rfl)
            .refine ld rfl Tryz.func54 (by kernel_rfl) rfl rfl #[Ib Ie e.1,IA #[Ib Ie x.kind,Ib Ie x.n],Iq (Ic ⟨p4,0,Ih⟩),Iq (Ic ⟨p5,0,Ih⟩),Iq (Ic ⟨p6,0,Ih⟩)] rfl rfl ((HSrc.1 s.1 hp).mono λe w' h=>?_)
             obtain⟨h1,v1,h2,h3,h4⟩:=h;exact⟨_,h1,(s.1,w',v1,w',KG),[(218,Ia (Ic ⟨w'.heap.size,0,Ih⟩) 1 1),(219,KG)],rfl,rfl,by kernel_rfl,.inr (.inr (.inl ⟨rfl,rfl,(HV0.1.below hp).src h2 h3⟩))⟩
            all_goals exact bh hok (by kernel_rfl)
           .rcases hI with⟨rfl,rfl⟩|⟨rfl,rfl,hp⟩|⟨rfl,rfl,hp⟩|⟨rfl,rfl,hp⟩|⟨rfl,rfl,hp⟩|⟨rfl,rfl,hp⟩
            .exact bh hok (by kernel_rfl)
            .exact bh hok (by kernel_rfl)
            .exact ab rfl (mI _ _ _ rfl rfl) ⟨s,[],rfl,rfl,rfl,.inr (.inr (.inr (.inl ⟨rfl,rfl,hp⟩)))⟩
            all_goals exact bh hok (by kernel_rfl)
           .rcases hI with⟨rfl,rfl⟩|⟨rfl,rfl,hp⟩|⟨rfl,rfl,hp⟩|⟨rfl,rfl,hp⟩|⟨rfl,rfl,hp⟩|⟨rfl,rfl,hp⟩
            .exact bh hok (by kernel_rfl)
            .exact bh hok (by kernel_rfl)
            .exact bh hok (by kernel_rfl)
            .have hal:=ae (Il s.2.1.heap.size s.2.1) (Is #[Ib Ie r.1.kind,Ib Ie r.1.n] 135)
             have hYb:=hp.below hal;obtain⟨v1,W2,hrun,hR,hg2,hat⟩:=kK (P:=If) fF Wm.heap.size 143 143 135 _ 16 Tryz.underlying143 nu rfl (by decide) (by omega) vF' fs r.1 [Ib Ie r.1.kind,Ib Ie r.1.n] (λj=>Wm.heap.size<=j) (λ_=>False) ⟨s.2.1.heap.size,0,Ih⟩ (lY (Iu s.2.1 _)) rfl (λ_ h=>h.elim) (λk hk=>IT hYb.fr.size hk) hYb.ra hYb.fr.size (by have:=HFs5.1;omega);exact ab rfl (j_ rfl rfl rfl hrun) ⟨(s.1,s.2.1,s.2.2.1,W2,v1),[(219,v1)],rfl,rfl,by kernel_rfl,.inr (.inr (.inr (.inr (.inl ⟨rfl,rfl,hp,hR,hg2,hat⟩))))⟩
            all_goals exact bh hok (by kernel_rfl)
           .rcases hI with⟨rfl,rfl⟩|⟨rfl,rfl,hp⟩|⟨rfl,rfl,hp⟩|⟨rfl,rfl,hp⟩|⟨rfl,rfl,hp⟩|⟨rfl,rfl,hp⟩
            .exact bh hok (by kernel_rfl)
            .exact bh hok (by kernel_rfl)
            .exact bh hok (by kernel_rfl)
            .exact bh hok (by kernel_rfl)
            .obtain⟨hq1,hq2,hq3,hq4⟩:=hp
             have hal:=ae (Il s.2.1.heap.size s.2.1) (Is #[Ib Ie r.1.kind,Ib Ie r.1.n] 135);have hYb:=hq1.below hal;have hy2:=(hq3.block g19 (aj hYb.hv) (Kd.R_ne hYb.ra hYb.hv (by decide))).trans hYb.hv;obtain⟨A1,c1,he⟩:=Kd.R_slice hq2;obtain⟨hv1,hv2⟩:=dT _ _ _ _ he;exact a_ rfl 143 _ _ rfl g19 1 s.2.2.2.2 vF' rfl rfl hv1 hv2 (by kernel_rfl) (by rw[ah hy2];rfl) (au hy2 1) ⟨s,[],rfl,rfl,rfl,.inr (.inr (.inr (.inr (.inr ⟨rfl,rfl,hq1,hq2,hq3,hq4⟩))))⟩
            .exact bh hok (by kernel_rfl)
          .intro s W hI
           rcases hI with⟨h,_⟩|⟨h,_⟩|⟨h,_⟩|⟨h,_⟩|⟨h,_⟩|⟨_,hW,hq1,hq2,hq3,hq4⟩
           .exact absurd h (by decide)
           .exact absurd h (by decide)
           .exact absurd h (by decide)
           .exact absurd h (by decide)
           .exact absurd h (by decide)
           obtain⟨Wf,W1,vM1,W2,vA1⟩:=s;simp only at hW hq1 hq2 hq3 hq4;subst hW;have hal:=ae (Il W1.heap.size W1) (Is #[Ib Ie r.1.kind,Ib Ie r.1.n] 135);have hV6:=(hq1.below hal).arg hq2 hq3 hq4;have HV6:=MD hV6;clear hq1 hq2 hq3 hq4 hal hV6;dsimp only;go_wp2;go_roundw
           case rel=>exact⟨kk+1,vM1,vA1,r.2,fs++[r.1],by go_num,⟨⟨HKl.1,by rw[IV];have:=HFl.1;simp;omega,HFi2.1,HV6.1⟩⟩⟩
           case measure=>have:=HKl.1;simp[Jj];omega
         .obtain rfl:k=ws.length:=by omega
          rw[Ju (Iz _)]at hfin;have hf2:dL f S F cl l' ws m2=(fs,m'):=by rw[hfin];simp[dL]
          have hrv2:=HRv2.1;have hpi:=Ae HP.1 cl (show l' < 24 by omega) HHws.1 ws m2 (λ_ h=>h) HPi.1;rw[hf2]at hrv2 hpi;have HRv3:=MD hrv2;have HPi3:=MD hpi;have HV5:=MD hV;have n8:=(show wr.cell? ⟨g8,2,Ih⟩=Ic vV by rw[ah hV.h8];rfl);have HVl:=MD (show vals.length<=5000 by have:=HHi.1.1;have:=HHi.1.2;have:=HMs.1;have:=HP.1.n200;omega);clear hk hfl hfin hV hkl HL hf2 hrv2 hpi;go_wp2_with (first
           |((with_reducible refine ai (N:=224) rfl ?_);refine II rfl 148 _ rfl g19 rfl 148 #[Ib Ie (n':Int),vF'] (0,0) _ HV5.1.hv Tryz.underlying148 rfl vn ?_)
           |((with_reducible refine a6 (b:=.append) (xs:=#[.tmp 223,.tmp 225]) rfl ?_);at_builtin;refine Kd.R_append jj (w0:=wr) Wm.heap.size rfl (.tmp 223) (.tmp 225) 31 148 (IA #[Ib Ie 0,Ia Ih 0 0]) 32 rfl Tryz.underlying31 E5 rfl (by decide) (by omega) vV (vals) ((⟨(n':Int),fs⟩:kO)) [Ib Ie (n':Int),vF'] (λj=>Wm.heap.size<=j) (λj=>Wm.heap.size<=j/\Ic j≠vV.ownBlock) rfl rfl ?aP (λk hk=>hk) ?aF ?aO ?aB ?aS ?aL ?_;(case aP=>exact HV5.1.rowM);(case aF=>exact(λb hb=>IT HV5.1.fr.size hb));(case aO=>exact HV5.1.rows);(case aB=>exact It.mono (Il _ _) HV5.1.fr.size);(case aS=>exact HV5.1.fr.size);(case aL=>have:=HVl.1;omega);intro vap wap ho hb hg hat;obtain⟨A1,c1,rfl⟩:=Kd.R_slice ho;have h81:=(hg.block g8 (aj HV5.1.h8) (λe=>by have:=Kd.R_base HV5.1.rows g8 e.symm;have:=HV5.1.l8;omega)).trans HV5.1.h8;have z8:=(show wap.cell? ⟨g8,2,Ih⟩=Ic vV by rw[ah h81];rfl);have zf8:=au h81 2;have HX7:=MD (HV5.1.close ho hg);clear ho hb hg hat h81))
          go_roundw
          case rel=>exact⟨i+1,vM',Ia A1 (vals.length+1) c1,m',vals++[⟨(n':Int),fs⟩],by go_num,⟨⟨by have:=HHi.1.1;have:=HMs.1;omega,by have h:=HX7.1;rw[show(vals++[(⟨(n':Int),fs⟩:kO)]).length=vals.length+1 by simp]at h;exact h,by have:=HHi.1.2;simp;omega,HPi3.1,by rw[show S.nodes.length*24+1-(i+1)=S.nodes.length*24-i by omega];exact HRv3.1⟩⟩⟩
          case measure=>have:=HHi.1.1;have:=HMs.1;simp[Jj];omega
       .have hnn:m2.ps[i]?=Ih:=I0 (by omega)
        rw[show S.nodes.length*24+1-i=(S.nodes.length*24-i)+1 by omega,ua hnn,JS]at hrv;obtain⟨AN2,cN2,rfl⟩:=Kd.R_slice hX.rn;obtain⟨AV2,cV2,rfl⟩:=Kd.R_slice hX.rv;have hge:¬((i:Int)<(m2.ps.length:Int)):=by omega
        have HX:=MD hX;have HRv3:=MD hrv;have HH3:=MD ((hX.fr.block w.heap.size (aj HH2.1.1) HH2.1.2).trans HH2.1.1);clear hi hX hvl hps hrv hnn HL hms hlt;go_wp2_with (first
         |((with_reducible refine ai (N:=228) rfl ?_);refine II rfl 33 _ rfl g8 rfl 33 #[Ib Ie S.entry.jt,Ia AN2 nodes.length cN2,Ia AV2 vals.length cV2] (0,0) _ HX.1.h8 Tryz.underlying33 rfl tH ?_)
         |((with_reducible refine ap (t:=33) (p:=2) rfl ?_);refine an rfl 33 _ _ rfl w.heap.size #[Ib Ie S.entry.jt,Ia AN2 nodes.length cN2,Ia AV2 vals.length cV2] rfl rfl 33 #[Ib Ie 0,Ia Ih 0 0,Ia Ih 0 0] HH3.1 tH rfl (by simp[IH]) ?_;intro w6 h6 hf6;have H6:=MD h6;have F6:=MD hf6;clear h6 hf6))
        have B6:It w.heap.size w w6:=Fr.below (HOm.1.move HTs.1 HX.1.fr).b F6.1 (λk hk h=>by omega) (HOm.1.move HTs.1 HX.1.fr).b.size;have hlo:w.heap.size<Wm.heap.size:=aj HH2.1.1;have hform:bK f=⟨S.entry.jt,nodes,vals⟩:=by
         show kV.mk (aJ f (aZ f)).entry.jt (dp f (aZ f) (aV (cQ f (aJ f (aZ f)) (bD f (aJ f (aZ f))))) (bD f (aJ f (aZ f))) (aJ f (aZ f)).nodes 0 ⟨[],[]⟩).1 (fx f (aJ f (aZ f)) (bD f (aJ f (aZ f))) (aV (cQ f (aJ f (aZ f)) (bD f (aJ f (aZ f))))) ((aJ f (aZ f)).nodes.length*24+1) 0 (dp f (aZ f) (aV (cQ f (aJ f (aZ f)) (bD f (aJ f (aZ f))))) (bD f (aJ f (aZ f))) (aJ f (aZ f)).nodes 0 ⟨[],[]⟩).2)=_;rw[<-HCd.1,<-HSd.1,<-HP.1.f,<-HCl.1,<-HRes.1,HFi.1,<-HRv.1,HRv3.1]
        have r1:=Kd.R_step HX.1.rn (λk hk hl=>F6.1.block k hl (by omega));have r2:=Kd.R_step HX.1.rv (λk hk hl=>F6.1.block k hl (by omega));refine IG (v:=IR #[IA #[Ib Ie S.entry.jt,Ia AN2 nodes.length cN2,Ia AV2 vals.length cV2],Ib Ie 0]) (aD (rs:=[.cell 2 33,.tmp 3]) rfl (by simp) (.cell w.heap.size 33 #[Ib Ie S.entry.jt,Ia AN2 nodes.length cN2,Ia AV2 vals.length cV2] (0,0) _ rfl H6.1 Tryz.underlying33 rfl tH (.tmp .nil))) rfl ⟨Ia AN2 nodes.length cN2,Ia AV2 vals.length cV2,by rw[hform],?_,?_,B6⟩
        .rw[hform]
         exact Kd.R_lower (Kd.R_mono r1 (λk hk=>IT (Mv hlo) hk)) (Mv hlo)
        .rw[hform]
         exact Kd.R_lower (Kd.R_mono r2 (λk hk=>IT (Mv hlo) hk)) (Mv hlo)
end
end Go.Proofs.YtlinbehijfcelaaGreatDoor.Top
