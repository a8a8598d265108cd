/- Walks of the program, and what it computes, told plainly. No condition. (USA USB USC USD USE USF USG USH) -/
import Derived.Below
import Derived.Deep.Draws
import Derived.Deep.AppendLies
import Derived.Maps.AppendAt
import Derived.OwnWalk
import Derived.Laws.BytesArg
import Derived.Laws.MakeOwn
import Derived.Laws.OwnMore
import Derived.Deep.OwnRows
import Derived.Tactics
import Derived.Lib.ConvBytes
import Derived.Laws.Slices
import Derived.WalkKit
import Derived.KernelRfl
import Derived.RowKit3
import Derived.Deep.LoopGhost
import Derived.Deep.QuietTactic
import Derived.BigQuiet
import Derived.WideLaws
import Derived.Deep.DeepCutAuto
import Derived.Deep.CutBlock
import Derived.Deep.RegionHeld3
import Derived.Laws.Rows
import Derived.Lib.AppendStr
import Derived.ArgAppend
import Derived.Laws.IdiomCopy
import Derived.RowKit
import Derived.OrdersHeld
import Derived.Laws.BitsLemmas
import Derived.Laws.StructEq
import Derived.Test.YtlinbehijfcelaaGreatDoorProg
import Derived.Deep.WholeRow
import Derived.Laws.CopyOwn
import Derived.Carry
import Derived.ChangeKeysEq
import Derived.Laws.RangeAny
import Derived.Deep.MidRow
import Derived.Laws.Tables
import Derived.StillTailTactics
import Derived.Test.YtlinbehijfcelaaGreatDoorPA
import Derived.Test.YtlinbehijfcelaaGreatDoorPB
import Derived.Test.YtlinbehijfcelaaGreatDoorPC
import Derived.Test.YtlinbehijfcelaaGreatDoorPD
import Derived.Test.YtlinbehijfcelaaGreatDoorPE
import Derived.Test.YtlinbehijfcelaaGreatDoorPF
import Derived.Test.YtlinbehijfcelaaGreatDoorPG
import Derived.Test.YtlinbehijfcelaaGreatDoorPH
set_option linter.unusedVariables false
set_option linter.unusedSimpArgs false
set_option linter.unusedSectionVars false
set_option maxHeartbeats 8000000
set_option maxRecDepth 100000
open Go renaming Calls->I9,Operand->Lf,Program->Jn,TypeId->Je,Value->Io,World->Im,bodyPost_ret->IG,execOp->JJ,heap_alloc_last->Iu,heap_alloc_new->JZ,loadVar->Le,madeCells->Lo,results->Lg,run_underlying->I2,undef->KG,wpList_load_row->II,wpStill_nil->Mc,wp_region_still_lit->KF,zeroValue->Mr
open Bool renaming eq_iff_iff->L6,false->Ik,noConfusion->Ix,true->Ir
open Go.Value renaming agg->IA,bool->Iy,int->Ib,oneCell'->IH,pointer->Iq,slice->Ia,tuple->IR
open Go.Ending renaming returned->Iv
open Go.Proofs.Tryz renaming prog->If,underlying119->KE,underlying135->IN,underlying138->KK,underlying184->LX,underlying2->Mi,underlying227->LM,underlying229->LL,underlying231->LW,underlying234->KJ,underlying236->KO,underlying3->Jr,underlying4->Md,underlying49->I6
open Go.RowKit renaming Below->It,intOf->Jj
open Option renaming getD_some->JL,map_some->Mu,none->Ih,some->Ic
open Go.Obj renaming cells->Is
open Go.RowKit.Below renaming refl->Il
open List renaming drop_eq_getElem_cons->Jc,drop_of_length_le->Ju,eq_of_mem_replicate->J5,foldl_cons->Ml,getD_eq_getElem?_getD->Ij,getElem?_append_left->Jg,getElem?_append_right->IW,getElem?_eq_getElem->Ig,getElem?_eq_some_iff->Ip,getElem?_map->IK,getElem?_of_mem->Kb,getElem_mem->K8,length_append->IV,length_map->Jb,length_replicate->JP,length_set->Jq,map_append->LY,map_cons->Jt,map_nil->La,map_toArray->Mt,mem_append->J0,mem_cons->I7,mem_cons_of_mem->Jm,mem_cons_self->JH,mem_map->JM,mem_of_getElem?->Iw,mem_range->Kq,mem_singleton->IS,not_mem_nil->JE,range->Jy,replicate->IF,setIfInBounds_toArray->IP,set_cons_succ->IZ,set_cons_zero->IY
open Nat renaming le_refl->Iz,le_trans->IT,lt_irrefl->Mq,mul_one->JQ,not_lt_zero->LG,zero_add->KB,zero_le->ID
open Go.IntKind renaming i64->Ie
open Go.Act renaming put->KY
open Option.some renaming inj->Ii
open Array renaming getElem?_eq_some_iff->IB
open Go.Addr renaming add->Mo
open Int renaming toNat_natCast->IC
open Go.Instr renaming checkKey->JK
open Go.Sem renaming run_bind->IJ,run_pure->JO
open Go.Result renaming andThen->Jf,andThen_ok->I1
open Go.Op renaming equalIn->Jp
namespace Go.Proofs.YtlinbehijfcelaaGreatDoor.Top
open Go.RowKit Go.Proofs.YtlinbehijfcelaaGreatDoorW.PrintWords Go.Proofs.YtlinbehijfcelaaGreatDoorW.PrintLast
theorem rQ(f:List In)(cut:List Bool)(S:bj)(hSk:S=aJ f cut)(A Af:Option Addr)(c cf:Nat)(w:Im)(hG:Gl w)(hC:Kd.C dK w A S.nodes.length S.nodes)(hcN:S.nodes.length<=c)(hF:Kd.C kIn w Af f.length f)(hcf:f.length<=cf)(hr:bi f=Ir) :
  I9 If 50 #[Ia Af f.length cf,o6 S A c] w λe w'=>∃v,e=Iv v/\Kd.R my 143 w' w.heap.size (λk=>w.heap.size<=k) v (bD f S)/\It w.heap.size w w':=by
 have hok:=gq (bu hr) cut;have hwy:=gh f cut;rw[<-hSk]at hok hwy;have hl200:=(bu hr).len;have hn200:S.nodes.length<=200:=by have:=hok.len;omega
 have HBt:=MD (λ(W:Im) (hb:It w.heap.size w W)=>rP f cut S hSk A Af c cf W (hG.below hb) (Kd.C_below hC hb) (Kd.C_below hF hb) hcf hr);have HWs:=MD (λ(W:Im) (hb:It w.heap.size w W)=>jK S (Ia A S.nodes.length c) W ⟨A,c,rfl,hcN,Kd.C_below hC hb⟩ hn200 hwy.1.few);have HAl:=MD (λ(W:Im) (hb:It w.heap.size w W)=>oE f cut S hSk A Af c cf W (hG.below hb) (Kd.C_below hC hb) hcN (Kd.C_below hF hb) hcf hr);have HSml:=MD (fP hwy.1.few hn200);have HMk:=MD (run_make_row' (P:=If) 120 143 (Ia Ih 0 0) 24 Tryz.underlying120 Az rfl .i64 .i64 S.nodes.length (by omega) (by omega));have HWy:=MD hwy;have HG:=MD hG;have hn200':(S.nodes.length:Int)<=200:=by omega
 unfold o6 at HBt HAl ⊢;clear hok hwy hG hC hcN hF hcf hr hSk;go_enter Tryz.func50,Tryz.ntmps50;go_upto_region 1 with fail
 obtain⟨w1,hw1⟩:∃w1,w1=w.alloc (Is (S.entry.cells++[Ia A S.nodes.length c]).toArray 119):=⟨_,rfl⟩;have h1:w1.heap[w.heap.size]?=Ic (.cells (S.entry.cells++[Ia A S.nodes.length c]).toArray 119 (0,0)):=by rw[hw1];exact JZ w _
 have hb1:It w.heap.size w w1:=by rw[hw1];exact ae (Il _ _) _
 refine ar hw1.symm ?_;have H1:=MD h1;have HB1:=MD hb1;clear hw1 h1 hb1;go_upto_region 3 with(first
  |((with_reducible refine ai (N:=15) rfl ?_);refine II rfl 119 _ rfl w.heap.size rfl 119 (S.entry.cells++[Ia A S.nodes.length c]).toArray (0,0) _ H1.1 KE rfl (d_ _ _) ?_)
  |(go_at_call 80;refine(HBt.1 _ HB1.1).mono ?_;rintro e wa ⟨rfl,hb⟩;have Ha:=MD (ag H1.1 hb);have HBa:=MD (af HB1.1 hb);clear hb))
 have c25:=(show wa.cell? ⟨w.heap.size,25,Ih⟩=Ic (.slice A S.nodes.length c) by rw[aq Ha.1,IW (by rw[aX.len];exact Iz _),aX.len];rfl);have lwa:=aj Ha.1;go_upto_region 4 with(first
  |((with_reducible refine ai (N:=21) rfl ?_);refine gT rfl 120 _ _ rfl _ _ _ rfl rfl (HMk.1 _) ?_))
 obtain⟨wb,hwb⟩:∃wb,wb=(wa.alloc (Is (Lo #[Ia Ih 0 0] S.nodes.length) 143)).alloc (Is #[Ia (Ic ⟨wa.heap.size,0,Ih⟩) S.nodes.length S.nodes.length] 120):=⟨_,rfl⟩;have hst:o_ w wb S A c wa.heap.size (IF S.nodes.length (Ia Ih 0 0)) (iK S.nodes.length 0 0):=by
  refine⟨by rw[hwb];exact ae (ae HBa.1 _) _,by rw[hwb];exact aT (aT Ha.1 _) _,?_,?_,by rw[fq],by omega⟩
  .have:=JZ (wa.alloc (Is (Lo #[Ia Ih 0 0] S.nodes.length) 143)) (Is #[Ia (Ic ⟨wa.heap.size,0,Ih⟩) S.nodes.length S.nodes.length] 120)
   rw[hwb];simpa using this
  .rw[vG]
   refine Mat.new fF ?_;have:=aT (JZ wa (Is (Lo #[Ia Ih 0 0] S.nodes.length) 143)) (Is #[Ia (Ic ⟨wa.heap.size,0,Ih⟩) S.nodes.length S.nodes.length] 120);rw[<-iq,hwb];exact this
 have hgb:wa.heap.size+2<=wb.heap.size:=by rw[hwb];simp
 refine ar hwb.symm ?_;obtain⟨g,hg⟩:=MF wa.heap.size;rw[hg]at hst hgb ⊢;have c5:=(show wb.cell? ⟨g+1,0,Ih⟩=Ic (.slice (Ic ⟨g,0,Ih⟩) S.nodes.length S.nodes.length) by rw[ah hst.gt];rfl);have HSt:=MD hst;have HGb:=MD hgb;clear hwb hst hg c25 lwa HBt Ha HBa hgb;go_upto_region 5 with fail
 go_loopw [24] (λi wr=>∃(n:Nat) (vs:List Io),i=Ib Ie n/\aa (n<=S.nodes.length/\g+2<=wr.heap.size/\o_ w wr S A c g vs (iK S.nodes.length n 0))) (λi _=>S.nodes.length-(Jj i).toNat)
 case atStart=>exact⟨0,_,rfl,⟨⟨ID _,HGb.1,HSt.1⟩⟩⟩
 case round=>
  obtain⟨n,vs,rfl,HL⟩:=hrel;obtain⟨hn,hgr,hA⟩:=HL.1;by_cases hlt:n<S.nodes.length
  .have hlt':(n:Int)<(S.nodes.length:Int):=by omega
   have HLt:=MD hlt;have HA:=MD hA;have HGr:=MD hgr;clear hA hlt hn HL hgr;go_upto_region 8 with fail
   go_loopw [27] (λj wr=>∃(l:Nat) (vs:List Io),j=Ib Ie l/\aa (l<=24/\g+2<=wr.heap.size/\o_ w wr S A c g vs (iK S.nodes.length n l))) (λj _=>24-(Jj j).toNat)
   case atStart=>exact⟨0,vs,rfl,⟨⟨ID _,HGr.1,HA.1⟩⟩⟩
   case round=>
    obtain⟨l,vs2,rfl,HL⟩:=hrel;obtain⟨hl,hgr,hA⟩:=HL.1;by_cases hll:l<24
    .have hll':(l:Int)<24:=by omega
     go_upto_region 9 with fail
     obtain⟨vE,hv⟩:∃vE,vs2[n]?=Ic vE:=⟨_,Ig (by rw[hA.m.len,fq];exact HLt.1)⟩;have hx:=vI (l:=l) HLt.1;obtain⟨W0,hW0⟩:=ME wr.drew;have hA0:o_ w W0 S A c g vs2 (iK S.nodes.length n l):=by rw[hW0];exact hA.below (aA (Il _ _))
     have hs0:W0.heap.size=wr.heap.size:=by rw[hW0];rfl
     obtain⟨W1,hW1⟩:∃W1,W1=W0.alloc (Is #[Ib Ie (-1),Ib Ie 0] 135):=⟨_,rfl⟩;have hA1:o_ w W1 S A c g vs2 (iK S.nodes.length n l):=by rw[hW1];exact hA0.below (ae (Il _ _) _)
     have hs1:W0.heap.size<W1.heap.size:=by rw[hW1];simp
     have hbx1:W1.heap[W0.heap.size]?=Ic (.cells #[Ib Ie (-1),Ib Ie 0] 135 (0,0)):=by rw[hW1];exact Iu W0 _
     obtain⟨v1,W2,hrun,hR,hg2,hat⟩:=kK (P:=If) fF w.heap.size 143 143 135 _ 16 Tryz.underlying143 nu rfl (by decide) (by omega) vE (IF l opn) opn [Ib Ie (-1),Ib Ie 0] (λk=>g+2<=k/\k≠g) (λ_=>False) ⟨W0.heap.size,0,Ih⟩ (lY hbx1) rfl (λ_ h=>h.elim) (λk hk=>⟨by omega,by omega⟩) (hA1.m.row n vE _ hv hx) hA1.b.size (by rw[JP];omega);have hA3:=hA1.app hv hx hR hg2 hat;rw[Ci HLt.1]at hA3;have hne:Ic g≠vE.ownBlock:=Kd.R_away (hA1.m.row n vE _ hv hx) (λk hk=>hk.2);have hng:Ic (g+1)≠vE.ownBlock:=Kd.R_away (hA1.m.row n vE _ hv hx) (λk hk=>by omega);have hM2:W2.heap[g]?=Ic (.cells vs2.toArray 143 (0,0)):=(hg2.block g (aj hA1.m.blk) hne).trans hA1.m.blk;have a0:=(show W0.cell? ⟨g+1,0,Ih⟩=Ic (.slice (Ic ⟨g,0,Ih⟩) S.nodes.length S.nodes.length) by rw[ah hA0.gt];rfl);have a1:=(show W1.cell? ⟨g+1,0,Ih⟩=Ic (.slice (Ic ⟨g,0,Ih⟩) S.nodes.length S.nodes.length) by rw[ah hA1.gt];rfl);have a2:=(show W2.cell? ⟨g+1,0,Ih⟩=Ic (.slice (Ic ⟨g,0,Ih⟩) S.nodes.length S.nodes.length) by rw[ah ((hg2.block _ (aj hA1.gt) hng).trans hA1.gt)];rfl);have b0:=(show W0.cell? ⟨g,n,Ih⟩=Ic vE by rw[aq hA0.m.blk];exact hv);have b1:=(show W1.cell? ⟨g,n,Ih⟩=Ic vE by rw[aq hA1.m.blk];exact hv);have b2:=(show W2.cell? ⟨g,n,Ih⟩=Ic vE by rw[aq hM2];exact hv);have g0:=(HG.1.below hA0.b).2.1;have g1:=(HG.1.below hA0.b).2.2.1;obtain⟨hv1,hv2⟩:v1.cells=#[v1]/\v1.oneCell'=Ir:=by
      obtain⟨A1,c1,he⟩:=Kd.R_slice hR;exact dT _ _ _ _ he
     have hgr3:g+2<=(W2.setCell ⟨g,n,Ih⟩ v1).heap.size:=by
      have:=hg2.size;have:=(Fr.cell (S:=λ_=>True) (a:=W2) (p:=⟨g,n,Ih⟩) trivial v1).size;omega
     have hfz:=au hM2 n;have hsz143:(sizeOf 143).run If W2=.ok 1 W2:=by kernel_rfl
     have HA3:=MD hA3;have HGr3:=MD hgr3;have hnN:(n:Int)<(S.nodes.length:Int):=hlt';have HW0:=MD hW0;have HW1:=MD hW1;have HRun:=MD hrun;clear hW0 hW1 hrun hA hA0 hA1 hA3 hR hg2 hat hM2 hne hng hbx1 hs1 hs0 hx hv hgr hgr3 HL;refine bm (σ:=Unit) [7,8,10] (λ_=>[(29,Ia (Ic ⟨g,0,Ih⟩) S.nodes.length S.nodes.length),(30,Ib Ie (n:Int)),(31,Ia (Ic ⟨g,0,Ih⟩) S.nodes.length S.nodes.length),(32,Ib Ie (n:Int)),(33,Iq (Ic ⟨g,n,Ih⟩)),(34,vE),(35,IA #[Ib Ie (-1),Ib Ie 0]),(36,Ia (Ic ⟨W0.heap.size,0,Ih⟩) 1 1),(37,v1),(38,Iq (Ic ⟨g,n,Ih⟩))])
      (λbs _ W=>(bs=[Ik,Ik,Ik]/\W=W0)\/(bs=[Ir,Ik,Ik]/\W=W1)\/(bs=[Ir,Ir,Ik]/\W=W2)\/(bs=[Ir,Ir,Ir]/\W=W2.setCell ⟨g,n,Ih⟩ v1)) () (by kernel_rfl) (by kernel_rfl) (by kernel_rfl) (λ_=>by kernel_rfl) ?_
     intro aF haF;simp only[bk,KY,IP,IZ,IY]at haF;subst haF;refine⟨?_,?_,.inl ⟨rfl,HW0.1.symm⟩,?_⟩
     .intro j o ho hct s W bs hlen hok hI
      have hI2:=hI;rcases j with _|_|_|_|_|_|_|_|_|_|_|j
      all_goals first|exact absurd hct (by decide)|(obtain rfl:=Ii ho)|exact absurd (IB.1 ho).1 (by simp)
      all_goals rcases hI with⟨rfl,rfl⟩|⟨rfl,rfl⟩|⟨rfl,rfl⟩|⟨rfl,rfl⟩
      all_goals first
       |(refine ab rfl ?_ ⟨rfl,hI2⟩;go_simp;done)
       |exact bh hok (by kernel_rfl)
     .intro k j o hk ho s W bs hlen hok hI
      rcases k with _|_|_|k
      .obtain rfl:=Ii hk
       obtain rfl:=Ii ho;rcases hI with⟨rfl,rfl⟩|⟨rfl,rfl⟩|⟨rfl,rfl⟩|⟨rfl,rfl⟩
       .exact ab rfl (mI _ _ _ rfl rfl) ⟨(),[],rfl,rfl,rfl,.inr (.inl ⟨rfl,HW1.1.symm⟩)⟩
       all_goals exact bh hok (by kernel_rfl)
      .obtain rfl:=Ii hk
       obtain rfl:=Ii ho;rcases hI with⟨rfl,rfl⟩|⟨rfl,rfl⟩|⟨rfl,rfl⟩|⟨rfl,rfl⟩
       .exact bh hok (by kernel_rfl)
       .exact ab rfl (j_ rfl rfl rfl HRun.1) ⟨(),[],rfl,rfl,rfl,.inr (.inr (.inl ⟨rfl,rfl⟩))⟩
       all_goals exact bh hok (by kernel_rfl)
      .obtain rfl:=Ii hk
       obtain rfl:=Ii ho;rcases hI with⟨rfl,rfl⟩|⟨rfl,rfl⟩|⟨rfl,rfl⟩|⟨rfl,rfl⟩
       .exact bh hok (by kernel_rfl)
       .exact bh hok (by kernel_rfl)
       .exact a_ rfl 143 _ _ rfl g n v1 _ rfl rfl hv1 hv2 hsz143 b2 hfz ⟨(),[],rfl,rfl,rfl,.inr (.inr (.inr ⟨rfl,rfl⟩))⟩
       .exact bh hok (by kernel_rfl)
      .exact absurd hk (by simp)
     .intro s W hI
      rcases hI with⟨h,_⟩|⟨h,_⟩|⟨h,_⟩|⟨_,rfl⟩
      .exact absurd h (by decide)
      .exact absurd h (by decide)
      .exact absurd h (by decide)
      clear HW0 HW1 HRun a0 a1 a2 b0 b1 b2 g0 g1 hfz hsz143;dsimp only;go_wp2;go_roundw
      case rel=>exact⟨l+1,_,by go_num,⟨⟨by omega,HGr3.1,HA3.1⟩⟩⟩
      case measure=>simp[Jj];omega
    .obtain rfl:l=24:=by omega
     rw[zk]at hA;have HA2:=MD hA;have HGr2:=MD hgr;clear hA hgr hl HL;go_wp2;go_roundw
     case rel=>exact⟨n+1,vs2,by go_num,⟨⟨HLt.1,HGr2.1,HA2.1⟩⟩⟩
     case measure=>have:=HLt.1;simp[Jj];omega
  .obtain rfl:n=S.nodes.length:=by omega
   rw[Cj]at hA;have c5:=(show wr.cell? ⟨g+1,0,Ih⟩=Ic (.slice (Ic ⟨g,0,Ih⟩) S.nodes.length S.nodes.length) by rw[ah hA.gt];rfl);have HA:=MD hA;have HGr:=MD hgr;clear hA hn HL hgr;go_upto_region 12 with fail
   have HBx:=MD (λ(W:Im) (hb:It wr.heap.size wr W)=>ag HA.1.bx hb);have HBl:=MD (λ(W:Im) (hb:It wr.heap.size wr W)=>af HA.1.b hb);refine bm (σ:=Io×Io×Nat×Nat) [1,4,5,6,7,8] (λs=>[(41,IA (S.entry.cells++[Ia A S.nodes.length c]).toArray),(42,s.1),(43,Ia Af f.length cf),(44,IA (S.entry.cells++[Ia A S.nodes.length c]).toArray),(45,s.2.1),(7,Iq (Ic ⟨s.2.2.1,0,Ih⟩)),(8,Iq (Ic ⟨s.2.2.2,0,Ih⟩))])
    (λbs s W=>iB wr W f S s (bs.getD 0 Ik) (bs.getD 1 Ik) (bs.getD 2 Ik) (bs.getD 3 Ik) (bs.getD 4 Ik) (bs.getD 5 Ik)) (KG,KG,0,0) (by kernel_rfl) (by kernel_rfl) (by kernel_rfl) (λ_=>by kernel_rfl) ?_
   intro aF haF;simp only[bk,KY,IP,IZ,IY]at haF;subst haF;refine⟨?_,?_,⟨aA (Il _ _),λe=>Ix e,λe=>Ix e,λe=>Ix e,λe=>Ix e⟩,?_⟩
   .intro j o ho hct s W bs hlen hok hI
    rcases j with _|_|_|_|_|_|_|_|_|j
    all_goals first|exact absurd hct (by decide)|(obtain rfl:=Ii ho)|exact absurd (IB.1 ho).1 (by simp)
    .exact gd rfl 119 _ rfl w.heap.size rfl 119 _ (0,0) _ (HBx.1 W hI.b) KE rfl (d_ _ _) ⟨rfl,hI⟩
    .exact ab rfl (by go_simp) ⟨rfl,hI⟩
    .exact gd rfl 119 _ rfl w.heap.size rfl 119 _ (0,0) _ (HBx.1 W hI.b) KE rfl (d_ _ _) ⟨rfl,hI⟩
   .intro k j o hk ho s W bs hlen hok hI
    obtain⟨b1,b4,b5,b6,b7,b8,rfl⟩:=mx hlen;rcases k with _|_|_|_|_|_|k
    all_goals first|(obtain rfl:=Ii hk;obtain rfl:=Ii ho)|exact absurd hk (by simp)
    .obtain rfl:=okS hok 0 rfl rfl
     obtain rfl:=okF hok 4 rfl rfl rfl (by kernel_rfl);refine aN rfl Tryz.func52 (by kernel_rfl) rfl #[IA (S.entry.cells++[Ia A S.nodes.length c]).toArray] rfl rfl ((HWs.1 W (HBl.1 W hI.b)).mono λe w' h=>?_);obtain⟨v,h1,h2,h3⟩:=h;exact⟨v,h1,(v,s.2.1,s.2.2.1,s.2.2.2),[(42,v)],rfl,rfl,by kernel_rfl,iB.call1 hI h2 h3⟩
    .obtain rfl:=okS hok 1 rfl rfl
     obtain rfl:=okF hok 5 rfl rfl rfl (by kernel_rfl);refine aN rfl Tryz.func51 (by kernel_rfl) rfl #[Ia Af f.length cf,IA (S.entry.cells++[Ia A S.nodes.length c]).toArray] rfl rfl ((HAl.1 W (HBl.1 W hI.b)).mono λe w' h=>?_);obtain⟨v,h1,h2,h3⟩:=h;exact⟨v,h1,(s.1,v,s.2.2.1,s.2.2.2),[(45,v)],rfl,rfl,by kernel_rfl,iB.call4 hI h2 h3⟩
    .obtain rfl:=okS hok 2 rfl rfl
     obtain rfl:=okF hok 4 rfl rfl rfl (by kernel_rfl);exact ab (v:=Iq (Ic ⟨W.heap.size,0,Ih⟩)) (w':=W.alloc (Is #[Ia Ih 0 0] 122)) rfl (by go_simp) ⟨(s.1,s.2.1,W.heap.size,s.2.2.2),[(7,Iq (Ic ⟨W.heap.size,0,Ih⟩))],rfl,rfl,by kernel_rfl,iB.new5 hI⟩
    .obtain rfl:=okS hok 3 rfl rfl
     obtain rfl:=okF hok 5 rfl rfl rfl (by kernel_rfl);exact ab (v:=Iq (Ic ⟨W.heap.size,0,Ih⟩)) (w':=W.alloc (Is #[Ia Ih 0 0] 121)) rfl (by go_simp) ⟨(s.1,s.2.1,s.2.2.1,W.heap.size),[(8,Iq (Ic ⟨W.heap.size,0,Ih⟩))],rfl,rfl,by kernel_rfl,iB.new6 hI⟩
    .obtain rfl:=okS hok 4 rfl rfl
     obtain rfl:=okT hok 0 rfl rfl rfl (by kernel_rfl);obtain rfl:=okT hok 1 rfl rfl rfl (by kernel_rfl);obtain rfl:=okT hok 2 rfl rfl rfl (by kernel_rfl);obtain rfl:=okT hok 3 rfl rfl rfl (by kernel_rfl);obtain⟨A1,c1,he⟩:=Kd.R_slice (hI.r1 rfl);obtain⟨hv1,hv2⟩:=dT _ _ _ _ he;have h5:=(hI.h5 rfl).1;exact a_ rfl 122 _ _ rfl s.2.2.1 0 s.1 (Ia Ih 0 0) rfl rfl hv1 hv2 (by kernel_rfl) (by rw[ah h5];rfl) (au h5 0) ⟨s,[],rfl,rfl,rfl,iB.put7 hI⟩
    .obtain rfl:=okS hok 5 rfl rfl
     obtain rfl:=okT hok 0 rfl rfl rfl (by kernel_rfl);obtain rfl:=okT hok 1 rfl rfl rfl (by kernel_rfl);obtain rfl:=okT hok 2 rfl rfl rfl (by kernel_rfl);obtain rfl:=okT hok 3 rfl rfl rfl (by kernel_rfl);obtain rfl:=okT hok 4 rfl rfl rfl (by kernel_rfl);obtain⟨A1,c1,he⟩:=Kd.R_slice (hI.r4 rfl);obtain⟨hv1,hv2⟩:=dT _ _ _ _ he;have h6:=(hI.h6 rfl).1;exact a_ rfl 121 _ _ rfl s.2.2.2 0 s.2.1 (Ia Ih 0 0) rfl rfl hv1 hv2 (by kernel_rfl) (by rw[ah h6];rfl) (au h6 0) ⟨s,[],rfl,rfl,rfl,iB.put8 hI⟩
   .intro s W hI
    obtain⟨vW,vA,g7,g8⟩:=s;have hI:iB wr W f S (vW,vA,g7,g8) Ir Ir Ir Ir Ir Ir:=hI;have hc:rr w W f S A c g wr.heap.size g7 g8 vW vA vs (jr S.nodes.length):=by
     obtain⟨h1,h2⟩:=hI.h5 rfl;obtain⟨h3,h4⟩:=hI.h6 rfl;refine⟨HA.1.below hI.b,h1,h3,hI.r1 rfl,hI.r4 rfl,λv hv k hk=>?_,HA.1.b.size,HGr.1,h2,h4⟩;obtain⟨i,hi⟩:=Kb hv;obtain⟨xs,hx⟩:∃xs,(jr S.nodes.length)[i]?=Ic xs:=⟨_,Ig (by rw[<-HA.1.m.len];exact(Ip.1 hi).1)⟩;exact Kd.R_lt (HA.1.m.row i v xs hi hx) k hk
    obtain⟨AW,cW,rfl,hlW,_⟩:=Kd.R_reads hc.r7;obtain⟨AA,cA,rfl,hlA,_⟩:=Kd.R_reads hc.r8;have HC:=MD hc;obtain⟨B,hB⟩:=MF wr.heap.size;rw[hB]at HC;clear hB;clear hI hc hlW hlA HA HGr HBx HBl HWs HAl c5 HMk;dsimp only;go_wp2
    go_loopg [10] (48*S.nodes.length+1) (λk m wr=>∃(mb:Bool) (F:List (List Src)),m=Iy mb/\aa (oC f S k mb F/\rr w wr f S A c g B g7 g8 (Ia AW (a7 S).length cW) (Ia AA (fJ f S).length cA) vs F))
    case atStart=>exact⟨Ir,_,rfl,⟨⟨oC.start f S,HC.1⟩⟩⟩
    case round=>
     obtain⟨mb,F,rfl,HL⟩:=hrel;obtain⟨hF,hA⟩:=HL.1;cases mb with
     |false=>
      have c5:=(show wr.cell? ⟨g+1,0,Ih⟩=Ic (.slice (Ic ⟨g,0,Ih⟩) S.nodes.length S.nodes.length) by rw[ah hA.fa.gt];rfl);have HA:=MD hA;have HEnd:=MD hF.end_;clear hA hF HL;go_wp2;go_ret;have hm:=HA.1.fa.m.own (by rw[HA.1.fa.len];omega) (by have:=HA.1.fa.lo;omega) (by have:=HA.1.fa.lo;omega);rw[HA.1.fa.len,HEnd.1]at hm;exact⟨_,rfl,hm,HA.1.fa.b⟩
     |true=>
      obtain⟨k0,rfl⟩:∃k0,gk=k0+1:=⟨gk-1,by have:=hF.pos;omega⟩;have c5:=(show wr.cell? ⟨g+1,0,Ih⟩=Ic (.slice (Ic ⟨g,0,Ih⟩) S.nodes.length S.nodes.length) by rw[ah hA.fa.gt];rfl);have HA:=MD hA;have HF:=MD hF;clear hA hF HL;go_upto_region 18 with fail
      go_loopw [50,10] (λi m wr=>∃(n:Nat) (r:List (List Src)×Bool),i=Ib Ie n/\m=Iy r.2/\aa (n<=S.nodes.length/\r=gX f S n (F,Ik)/\rr w wr f S A c g B g7 g8 (Ia AW (a7 S).length cW) (Ia AA (fJ f S).length cA) vs r.1)) (λi _ _=>S.nodes.length-(Jj i).toNat)
      case atStart=>exact⟨0,(F,Ik),rfl,rfl,⟨⟨ID _,rfl,HA.1⟩⟩⟩
      case round=>
       obtain⟨n,r,rfl,rfl,HL⟩:=hrel;obtain⟨hn,hr,hA⟩:=HL.1;by_cases hlt:n<S.nodes.length
       .have hlt':(n:Int)<(S.nodes.length:Int):=by omega
        have HLt:=MD hlt;have HA2:=MD hA;have HR:=MD hr;clear hA hlt hn HL hr;go_upto_region 21 with fail
        go_loopw [53,10] (λj m wr=>∃(l:Nat) (q:List (List Src)×Bool),j=Ib Ie l/\m=Iy q.2/\aa (l<=24/\q=gx f S n l r/\rr w wr f S A c g B g7 g8 (Ia AW (a7 S).length cW) (Ia AA (fJ f S).length cA) vs q.1)) (λj _ _=>24-(Jj j).toNat)
        case atStart=>exact⟨0,r,rfl,rfl,⟨⟨ID _,rfl,HA2.1⟩⟩⟩
        case round=>
         obtain⟨l,q,rfl,rfl,HL⟩:=hrel;obtain⟨hl,hq,hA⟩:=HL.1;by_cases hll:l<24
         .have hll':(l:Int)<24:=by omega
          have hinv:nP f S F q:=by
           rw[hq,HR.1];exact(HF.1.inv.pass n (by have:=HLt.1;omega)).row HLt.1 l (by omega)
          have hshp:=hinv.sh;have hgb:=HG.1.below hA.fa.b;have h8:=hA.h8;have hal:(fJ f S).length=(a7 S).length:=by unfold fJ;rw[Jb]
          have hCA:=(Kd.R_reads' hA.r8).2.2;rw[hal]at h8 hCA;have HMt:=MD (CK f S q.1 vs n l g7 g8 (g+1) g w.heap.size (g+2) AW AA cW cA wr hgb hA.h7 (Kd.R_reads' hA.r7).2.2 h8 hCA (by rw[hshp.len];exact hA.fa.gt) hA.fa.m hshp HLt.1 hll HSml.1 HWy.1.1 HWy.1.2);obtain⟨x,hx⟩:=ME (dc f S q.1 n l);rw[<-hx]at HMt;have HX:=MD hx;have HA3:=MD hA;have HQ:=MD hq;have HSh:=MD hshp;clear hx hA hq hl HL hinv hshp hgb h8 hCA hal hll;go_upto_region 24 with(first
           |(go_at_call 81;refine HMt.1.mono ?_;rintro e w5 ⟨rfl,hb⟩;have HA5:=MD (HA3.1.below hb);clear hb))
          obtain⟨w6,hw6⟩:∃w6,w6=w5.alloc (Is #[Ib Ie x.kind,Ib Ie x.n] 135):=⟨_,rfl⟩;have hA6:rr w w6 f S A c g B g7 g8 (Ia AW (a7 S).length cW) (Ia AA (fJ f S).length cA) vs q.1:=by rw[hw6];exact HA5.1.below (ae (Il _ _) _)
          have h13:w6.heap[w5.heap.size]?=Ic (.cells #[Ib Ie x.kind,Ib Ie x.n] 135 (0,0)):=by rw[hw6];exact Iu w5 _
          refine ar hw6.symm ?_;obtain⟨vR,hvR⟩:∃vR,vs[n]?=Ic vR:=⟨_,Ig (by rw[hA6.fa.m.len,HSh.1.len];exact HLt.1)⟩;obtain⟨row,hrow⟩:∃row,q.1[n]?=Ic row:=⟨_,Ig (by rw[HSh.1.len];exact HLt.1)⟩;have hr24:row.length=24:=HSh.1.row row (Iw hrow);have hRr:=hA6.fa.m.row n vR row hvR hrow;obtain⟨gr,cap,rfl,_⟩:=Kd.R_form hRr (by omega);obtain⟨s,hs⟩:∃s,row[l]?=Ic s:=⟨_,Ig (by omega)⟩;have hadd:(⟨gr,0,Ih⟩:Addr).add (l*fF.sz)=⟨gr,l*2,Ih⟩:=by
           rw[show fF.sz=2 from rfl];unfold Mo;by_cases h0:l*2=0<;>simp[h0]
          have HLdS:∀W:Im,It w6.heap.size w6 W->(Le 135 ⟨gr,l*2,Ih⟩).run If W=.ok (IA #[Ib Ie s.kind,Ib Ie s.n]) W:=λW hb=>by
           obtain⟨adS,csS,had,hKS,hldS⟩:=fl (P:=If) (Kd.R_reads' (Kd.R_below hRr hb)).2.2 l (by omega) s hs 135 IN rfl aK;injection had with had
           subst had;obtain rfl:csS=[Ib Ie s.kind,Ib Ie s.n]:=hKS;rw[hadd]at hldS;exact hldS
          have hgf:dg q.1 n l=s:=by
           unfold dg;rw[Ij (l:=q.1),hrow];simp only[JL];rw[Ij,hs];rfl
          have c5:=(show w6.cell? ⟨g+1,0,Ih⟩=Ic (.slice (Ic ⟨g,0,Ih⟩) S.nodes.length S.nodes.length) by rw[ah hA6.fa.gt];rfl);have cR:=(show w6.cell? ⟨g,n,Ih⟩=Ic (.slice (Ic ⟨gr,0,Ih⟩) row.length cap) by rw[aq hA6.fa.m.blk];exact hvR);have hlr:(l:Int)<(row.length:Int):=by omega
          have HR24:=MD hr24;have HGf:=MD hgf;have H13:=MD h13;have HLd:=MD HLdS;have HA6:=MD hA6;have HRr:=MD hRr;have HRow:=MD hrow;have HVr:=MD hvR;have HS:=MD hs;clear hw6 hA6 h13 hr24 hgf hs HLdS hRr hrow hvR hadd HA5 HA3 HMt;refine KF (by kernel_rfl) (by kernel_rfl) ?_;refine bO rfl (ao rfl rfl (aY (W:=w6.drew) H13.1 IN rfl aK)) ?_
          repeat still_step
          refine bO rfl (ao rfl rfl (HLd.1 w6.drew (aA (Il _ _)))) ?_;refine bO rfl (qR (s:=x) (u:=s) rfl rfl rfl _) ?_;refine Mc ?_;simp only[KY,IP,IZ,IY];by_cases hxs:x=s
          .have hd:decide (x=s)=Ir:=decide_eq_true hxs
           have HQ2:=MD (show q=gx f S n (l+1) r by rw[iM,<-HQ.1];unfold fH;rw[if_pos (by rw[<-HX.1,HGf.1];exact hxs)]);have HA7:=MD (HA6.1.below (aA (Il _ _)));clear hxs;simp only[hd,Bool.not_true];go_wp2;go_roundw
           case rel=>exact⟨l+1,q,by go_num,rfl,⟨⟨by omega,HQ2.1,HA7.1⟩⟩⟩
           case measure=>simp[Jj];omega
          .have hd:decide (x=s)=Ik:=decide_eq_false hxs
           simp only[hd,Bool.not_false];have hxm:¬dc f S q.1 n l=dg q.1 n l:=by rw[<-HX.1,HGf.1];exact hxs
           have HQ2:=MD (show(lp q.1 n l x,Ir)=gx f S n (l+1) r by rw[iM,<-HQ.1,HX.1];unfold fH;rw[if_neg hxm]);have HA7:=MD (HA6.1.below (aA (Il _ _)));clear hxs hxm;go_upto_region 25 with fail
           refine ar (W':=w6.drew) rfl ?_;obtain⟨w7,hw7⟩:=ME w6.drew;rw[<-hw7]at HA7 ⊢;have HB7:=MD (show It w6.heap.size w6 w7 by rw[hw7];exact aA (Il _ _));have c5:=(show w7.cell? ⟨g+1,0,Ih⟩=Ic (.slice (Ic ⟨g,0,Ih⟩) S.nodes.length S.nodes.length) by rw[ah HA7.1.fa.gt];rfl);have cR:=(show w7.cell? ⟨g,n,Ih⟩=Ic (.slice (Ic ⟨gr,0,Ih⟩) row.length cap) by rw[aq HA7.1.fa.m.blk];exact HVr.1);clear hw7;go_still_tail 7,(by kernel_rfl);refine bO rfl (ao rfl rfl (aY (W:=w7.drew) (ag H13.1 (aA HB7.1)) IN rfl aK)) ?_
           repeat still_step
           refine Mc ?_;have hR7:=Kd.R_drew (HA7.1.fa.m.row n _ row HVr.1 HRow.1);obtain⟨adS,csS,had,_,hKS,hcS⟩:=b_ (Kd.R_reads' hR7).2.2 l (by have:=HR24.1;omega) s HS.1;injection had with had
           subst had;obtain rfl:csS=[Ib Ie s.kind,Ib Ie s.n]:=hKS;have hcc:∀(j:Nat) (u:Io),([Ib .i64 s.kind,Ib Ie s.n]:List Io)[j]?=Ic u->w7.drew.cell? ⟨gr,(l:Int).toNat*fF.sz+j,Ih⟩=Ic u:=λj u hu=>by
            have:=hcS j u hu;rw[zV]at this;rw[IC];exact this
           refine Kd.R_store (W:=w7.drew) fF (w0:=w) (o':=l*2) w.heap.size rfl rfl 135 _ _ rfl 135 (l:Int) 0 row x (IA #[Ib Ie x.kind,Ib Ie x.n]) [Ib Ie x.kind,Ib Ie x.n] [Ib Ie s.kind,Ib Ie s.n] (λk=>g+2<=k/\k≠g) (λ_=>False) rfl (by rw[IC];rfl) rfl rfl aK (by simp[IH]) hR7 (by omega) hlr rfl hcc (Iz _) rfl (λ_ h=>h.elim) (aA HA7.1.fa.b) ?_;intro w8 hR8 hB8 hg8;rw[IC]at hR8;have hA8:=(HA7.1.below (aA (Il _ _))).put HVr.1 HRow.1 hR8 hg8;have hput:q.1.set n (row.set l x)=lp q.1 n l x:=by
            unfold lp;rw[Ij,HRow.1];rfl
           rw[hput]at hA8;have HA8:=MD hA8;clear hA8 hput hR7 hcc hcS hR8 hB8 hg8 c5 cR;go_wp2;go_roundw
           case rel=>exact⟨l+1,(lp q.1 n l x,Ir),by go_num,rfl,⟨⟨by omega,HQ2.1,HA8.1⟩⟩⟩
           case measure=>simp[Jj];omega
         .obtain rfl:l=24:=by omega
          have HA3:=MD hA;have HQ:=MD (show q=gX f S (n+1) (F,Ik) by rw[lv,<-HR.1];exact hq);clear hA hq hl HL hll;go_wp2;go_roundw
          case rel=>exact⟨n+1,q,by go_num,rfl,⟨⟨HLt.1,HQ.1,HA3.1⟩⟩⟩
          case measure=>have:=HLt.1;simp[Jj];omega
       .obtain rfl:n=S.nodes.length:=by omega
        have HA3:=MD hA;have HR:=MD (HF.1.round hr);clear hA hr hn HL hlt;go_wp2
        go_roundg k0
        case measure=>omega
        case rel=>exact⟨r.2,r.1,rfl,⟨⟨HR.1,HA3.1⟩⟩⟩
def ia(F:List (List Src))(n a:Nat)(st:List Bool×Bool)(l:Int):List Bool×Bool:=
 if st.1.getD a Ik=Ik/\(dg F n l.toNat).kind=0 then(st.1.set a Ir,Ir)else st
def lW(f:List In)(F:List (List Src))(n:Nat)(x:aG)(st:List Bool×Bool):List Bool×Bool:=
 (ce (f.getD x.at_.toNat In.zero)).foldl (ia F n x.at_.toNat) st
def lG(f:List In)(F:List (List Src)):List aG->Nat->List Bool×Bool->List Bool×Bool
 | [],_,st=>st
 |x::xs,n,st=>lG f F xs (n+1) (lW f F n x st)
def ft(f:List In)(c:List Bool):List Bool×Bool:=lG f (bD f (aJ f c)) (aJ f c).nodes 0 (c,Ik)
def pq(f:List In):Nat->List Bool->List Bool
 |0,c=>c
 |k+1,c=>if(ft f c).2=Ir then pq f k (ft f c).1 else(ft f c).1
def aZ(f:List In):List Bool:=pq f (f.length+1) (IF f.length Ik)
structure lH(L:Nat)(c0:List Bool)(st:List Bool×Bool):Prop where
 len:st.1.length=L
 le:st.1.count Ik<=c0.count Ik
 lt:st.2=Ir->st.1.count Ik<c0.count Ik
 same:st.2=Ik->st.1=c0
theorem count_set:∀(c:List Bool) (a:Nat),a<c.length->c.getD a Ik=Ik->(c.set a Ir).count Ik+1=c.count Ik
 | [],_,h,_=>absurd h (by simp)
 |b::c,0,_,h=>by
  have:b=Ik:=h;subst this;simp[List.count_cons]
 |b::c,a+1,h,hg=>by
  have:=count_set c a (by simpa using h) (by simpa using hg);simp only[IZ,List.count_cons];omega
theorem lH.use{L:Nat}{c0:List Bool}{st:List Bool×Bool}(h:lH L c0 st)(F:List (List Src))(n:Nat){a:Nat}(ha:a<L)(l:Int):lH L c0 (ia F n a st l):=by
 by_cases hc:st.1.getD a Ik=Ik/\(dg F n l.toNat).kind=0
 .have h1:=count_set st.1 a (by rw[h.len];exact ha) hc.1
  have h2:=h.le;have h3:=h.len;unfold ia;rw[if_pos hc];exact⟨by rw[Jq];exact h3,by show(st.1.set a Ir).count Ik<=_;omega,λ_=>by show(st.1.set a Ir).count Ik<_;omega,λe=>Ix e⟩
 .unfold ia
  rw[if_neg hc];exact h
theorem lH.uses{L:Nat}{c0:List Bool}(F:List (List Src))(n:Nat){a:Nat}(ha:a<L):∀(us:List Int) (st:List Bool×Bool),lH L c0 st->lH L c0 (us.foldl (ia F n a) st)
 | [],_,h=>h
 |l::us,st,h=>lH.uses F n ha us _ (h.use F n ha l)
theorem lH.to{f:List In}{c0:List Bool}(F:List (List Src)):∀(xs:List aG) (n:Nat) (st:List Bool×Bool),(∀x∈xs,0<=x.at_/\x.at_<f.length)->lH f.length c0 st->lH f.length c0 (lG f F xs n st)
 | [],_,_,_,h=>h
 |x::xs,n,st,hx,h=>by
  have:=hx x (JH ..);exact lH.to F xs (n+1) _ (λy hy=>hx y (Jm _ hy)) (lH.uses F n (by omega) _ _ h)
structure mM(f:List In)(k:Nat)(m:Bool)(c:List Bool):Prop where
 len:c.length=f.length
 more:m=Ir->pq f k c=aZ f/\c.count Ik<k
 done:m=Ik->c=aZ f
theorem mM.start(f:List In):mM f (f.length+1) Ir (IF f.length Ik):=⟨by rw[JP],λ_=>⟨rfl,by rw[List.count_replicate_self];omega⟩,λe=>Ix e⟩
theorem mM.inv{f:List In}{k:Nat}{m:Bool}{c:List Bool}(h:mM f k m c):lH f.length c (c,Ik):=⟨h.len,Iz _,λe=>Ix e,λ_=>rfl⟩
theorem mM.pos{f:List In}{k:Nat}{c:List Bool}(h:mM f k Ir c):0<k:=by
 have:=(h.more rfl).2;omega
theorem mM.round{f:List In}{k:Nat}{c:List Bool}(h:mM f (k+1) Ir c)(hn:∀x∈(aJ f c).nodes,0<=x.at_/\x.at_<f.length){r:List Bool×Bool}(hr:r=ft f c):mM f k r.2 r.1:=by
 have hi:=lH.to (f:=f) (bD f (aJ f c)) (aJ f c).nodes 0 (c,Ik) hn h.inv;have hr2:r=lG f (bD f (aJ f c)) (aJ f c).nodes 0 (c,Ik):=hr;rw[<-hr2]at hi;have hm:=h.more rfl;unfold pq at hm;rw[<-hr]at hm;refine⟨hi.len,λe=>?_,λe=>?_⟩
 .rw[if_pos e]at hm
  have:=hi.lt e;exact⟨hm.1,by omega⟩
 .rw[if_neg (by rw[e];simp)]at hm
  exact hm.1
theorem pc{n:Int}{x:In}(h:CD n x):∀l∈ce x,0<=l/\l<24:=by
 have hu:∀(g:ByteArray) (k:Nat),∀l∈fQ x g k,0<=l/\l<24:=by
  intro g k
  induction k with
  |zero=>intro l hl;exact absurd hl (JE)
  |succ k ih=>
   intro l hl;unfold fQ at hl;split at hl
   .rename_i hc
    rcases J0.1 hl with hl|hl
    .exact ih l hl
    .rw[IS.1 hl]
     rcases hc with e|e
     .rw[e];have:=h.a;exact⟨this.1,by show x.a<24;omega⟩
     .rw[e];have:=h.b;exact⟨this.1,by show x.b<24;omega⟩
   .exact ih l hl
 intro l hl;unfold ce at hl;split at hl
 .exact absurd hl (JE)
 .exact hu _ _ l hl
theorem mP(x:In):(ce x).length<=3:=by
 unfold ce;split
 .exact ID _
 .exact IT (mr _ _ _) (rZ _)
theorem Bb{f:List In}(hr:dQ f):(aZ f).length=f.length:=by
 have h:∀(k:Nat) (m:Bool) (c:List Bool),mM f k m c->(aZ f).length=f.length:=by
  intro k
  induction k with
  |zero=>
   intro m c h;cases m with
   |true=>exact absurd h.pos (Mq _)
   |false=>rw[<-h.done rfl];exact h.len
  |succ k ih=>
   intro m c h;cases m with
   |true=>exact ih _ _ (h.round (gq hr c).at_ rfl)
   |false=>rw[<-h.done rfl];exact h.len
 exact h _ _ _ (mM.start f)
section
theorem l_{α:Type}{d:Kd α}{e base:Nat}{W:Im}{ok:Nat->Prop}{g n cap:Nat}{xs:List α}(h:Kd.R d e W base ok (Ia (Ic ⟨g,0,Ih⟩) n cap) xs)(i:Nat)(x:α)(hx:xs[i]?=Ic x) :
  ∃cs,cs.length=d.sz/\d.K W x cs/\∀j u,cs[j]?=Ic u->W.cell? ⟨g,i*d.sz+j,Ih⟩=Ic u:=by
 obtain⟨hn,_,hC⟩:=Kd.R_reads' h;obtain⟨ad,c,e1,hl,hK,hc⟩:=b_ hC i (Ip.1 hx).1 x hx;injection e1 with e1
 subst e1;exact⟨c,hl,hK,λj u hu=>by have:=hc j u hu;rwa[zV]at this⟩
theorem zl{W:Im}{base:Nat}{ok:Nat->Prop}{gF N cap:Nat}{F:List (List Src)}(h:Kd.R my 143 W base ok (Ia (Ic ⟨gF,0,Ih⟩) N cap) F)(hS:gS N F){n l:Nat}(hn:n<N)(hl:l<24) :
  ∃gR cR,W.cell? ⟨gF,n,Ih⟩=Ic (.slice (Ic ⟨gR,0,Ih⟩) 24 cR)/\W.cell? ⟨gR,l*2,Ih⟩=Ic (Ib Ie (dg F n l).kind)/\W.cell? ⟨gR,l*2+1,Ih⟩=Ic (Ib Ie (dg F n l).n):=by
 have hnF:n<F.length:=by rw[hS.len];exact hn
 obtain⟨c,hcl,hM,hc,_⟩:=Kd.R_elem h [] (n:Int) (by omega) (by omega);rw[IC]at hM hc;obtain⟨v,rfl,hR⟩:=hM;have hrow:F.getD n []=F[n]:=by rw[Ij,Ig hnF];rfl
 rw[hrow]at hR;have hr24:(F[n]).length=24:=hS.row _ (K8 hnF);obtain⟨gR,cR,rfl,_⟩:=Kd.R_form hR (by omega);have hs:(F[n])[l]?=Ic (dg F n l):=by
  unfold dg;rw[hrow,Ij,Ig (by omega)];rfl
 obtain⟨cs,_,hK,hcs⟩:=l_ hR l _ hs;obtain rfl:cs=[Ib Ie (dg F n l).kind,Ib Ie (dg F n l).n]:=hK;refine⟨gR,cR,?_,hcs 0 _ rfl,hcs 1 _ rfl⟩;have:=hc 0 _ rfl;rw[hr24,show n*my.sz+0=n from JQ n]at this;exact this
structure CE(w W:Im)(gc:Nat)(c:List Bool):Prop where
 b:It w.heap.size w W
 c:W.heap[gc]?=Ic (.cells (c.map Iy).toArray 4 (0,0))
 lo:w.heap.size<=gc
theorem CE.below{w W W1:Im}{gc:Nat}{c:List Bool}(h:CE w W gc c)(hb:It W.heap.size W W1):CE w W1 gc c:=⟨af h.b hb,ag h.c hb,h.lo⟩
structure rL(w W:Im)(gc g6:Nat)(S:bj)(vN vF:Io)(F:List (List Src))(c:List Bool):Prop where
 ct:CE w W gc c
 h6:W.heap[g6]?=Ic (.cells (S.entry.cells++[vN]).toArray 119 (0,0))
 rn:Kd.R dK 142 W w.heap.size (λk=>w.heap.size<=k) vN S.nodes
 rf:Kd.R my 143 W w.heap.size (λk=>w.heap.size<=k) vF F
section
variable{w W W1:Im}{gc g6:Nat}{S:bj}{vN vF:Io}{F:List (List Src)}{c:List Bool}
theorem rL.below(h:rL w W gc g6 S vN vF F c)(hb:It W.heap.size W W1):rL w W1 gc g6 S vN vF F c:=⟨h.ct.below hb,ag h.h6 hb,Kd.R_below h.rn hb,Kd.R_below h.rf hb⟩
theorem ji{q:Nat}(h:q∈142::dK.E):q=142\/q=116:=by
 have:142::dK.E=[142,116]:=rfl;rw[this]at h;rcases I7.1 h with e|e
 .exact .inl e
 .exact .inr (IS.1 e)
theorem lO{q:Nat}(h:q∈143::my.E):q=143\/q=135:=by
 rcases I7.1 h with e|e
 .exact .inl e
 .exact .inr (IS.1 e)
theorem rL.set(h:rL w W gc g6 S vN vF F c)(a:Nat)(b:Bool):rL w (W.setCell ⟨gc,a,Ih⟩ (Iy b)) gc g6 S vN vF F (c.set a b):=by
 have hne:g6≠gc:=λe=>by have h1:=h.h6;rw[e,h.ct.c]at h1;simp at h1
 refine⟨⟨Fr.below h.ct.b (Fr.cell (S:=λk=>k=gc) rfl _) (λk hk q=>by have:=h.ct.lo;omega) h.ct.b.size,?_,h.ct.lo⟩,bp h.h6 hne _,Kd.R_set h.rn h.ct.c (λq hq=>?_) a _,Kd.R_set h.rf h.ct.c (λq hq=>?_) a _⟩
 .have:=aR h.ct.c a (Iy b)
  rwa[<-List.map_set]at this
 .have:=ji hq;omega
 .have:=lO hq;omega
end
theorem vJ{W:Im}{base:Nat}{ok:Nat->Prop}{AF:Option Addr}{N cap:Nat}{F:List (List Src)}(h:Kd.R my 143 W base ok (Ia AF N cap) F)(hS:gS N F){n l:Nat}(hn:n<N)(hl:l<24) :
  ∃gF gR cR,AF=Ic ⟨gF,0,Ih⟩/\W.cell? ⟨gF,n,Ih⟩=Ic (.slice (Ic ⟨gR,0,Ih⟩) 24 cR)/\W.cell? ⟨gR,l*2,Ih⟩=Ic (Ib Ie (dg F n l).kind)/\W.cell? ⟨gR,l*2+1,Ih⟩=Ic (Ib Ie (dg F n l).n):=by
 obtain⟨gF,cF,he,_⟩:=Kd.R_form h (by rw[hS.len];omega);injection he with h1 h2 h3
 subst h1;obtain⟨gR,cR,q⟩:=zl h hS hn hl;exact⟨gF,gR,cR,rfl,q⟩
end
theorem Er(f:List In)(A:Option Addr)(cf:Nat)(w:Im)(hG:Gl w)(hF:Kd.C kIn w A f.length f)(hcf:f.length<=cf)(hr:bi f=Ir) :
  I9 If 48 #[Ia A f.length cf] w λe w'=>∃gc:Nat,e=Iv (IR #[Ia (Ic ⟨gc,0,Ih⟩) f.length f.length,Ib Ie 0])/\w.heap.size<=gc/\w'.heap[gc]?=Ic (.cells ((aZ f).map Iy).toArray 4 (0,0))/\It w.heap.size w w':=by
 have hR:=bu hr;have hl200:=hR.len;have hl200':(f.length:Int)<=200:=by omega
 have HRt:=MD (λ(W:Im) (hb:It w.heap.size w W)=>eD A cf f W (hG.below hb) (Kd.C_below hF hb) hcf);have HMk:=MD (run_make_row' (P:=If) 71 4 (Iy Ik) 1 Tryz.underlying71 FE rfl .i64 .i64 f.length (by omega) (by omega));have HG:=MD hG;have HF:=MD hF;have HR:=MD hR;have HRr:=MD hr;have HCf:=MD hcf;clear hG hF hR hcf;go_enter Tryz.func48,Tryz.ntmps48;go_upto_region 3 with(first
  |(go_at_call 47;refine(HRt.1 _ (Il _ _)).mono ?_;rintro e wa ⟨he,hb⟩;rw[hr]at he;subst he;have HBa:=MD hb;clear hb))
 clear hr;go_upto_region 4 with(first
  |((with_reducible refine ai (N:=18) rfl ?_);refine gT rfl 71 _ _ rfl _ _ _ rfl rfl (HMk.1 _) ?_))
 obtain⟨wb,hwb⟩:∃wb,wb=wa.alloc (Is (Lo #[Iy Ik] f.length) 4):=⟨_,rfl⟩;have hst:CE w wb wa.heap.size (IF f.length Ik):=by
  refine⟨by rw[hwb];exact ae HBa.1 _,?_,HBa.1.size⟩;have:=JZ wa (Is (Lo #[Iy Ik] f.length) 4);rw[<-hwb,iq]at this;rw[List.map_replicate];exact this
 refine ar hwb.symm ?_;obtain⟨gc,hg⟩:=MF wa.heap.size;rw[hg]at hst ⊢;have HSt:=MD hst;clear hwb hst hg;go_wp2
 go_loopg [5] (f.length+1) (λk m wr=>∃(mb:Bool) (c:List Bool),m=Iy mb/\aa (mM f k mb c/\CE w wr gc c))
 case atStart=>exact⟨Ir,_,rfl,⟨⟨mM.start f,HSt.1⟩⟩⟩
 case round=>
  obtain⟨mb,c,rfl,HL⟩:=hrel;obtain⟨hC,hT⟩:=HL.1;cases mb with
  |false=>
   have HT:=MD hT;have HEnd:=MD (hC.done rfl);clear hC hT HL;go_wp2;refine IG (v:=IR #[Ia (Ic ⟨gc,0,Ih⟩) f.length f.length,Ib Ie 0]) (by simp[Lg,Tryz.results48,go_sem]) rfl ⟨gc,rfl,HT.1.lo,?_,HT.1.b⟩;rw[<-HEnd.1];exact HT.1.c
  |true=>
   obtain⟨k0,rfl⟩:∃k0,gk=k0+1:=⟨gk-1,by have:=hC.pos;omega⟩;obtain⟨S,hS⟩:=ME (aJ f c);obtain⟨F,hFa⟩:=ME (bD f S);have hok:=gq HR.1 c;rw[<-hS]at hok;have hn200:S.nodes.length<=200:=by have:=hok.len;omega
   have hn200':(S.nodes.length:Int)<=200:=by omega
   have hBd:=i9 f c A (Ic ⟨gc,0,Ih⟩) cf f.length wr (HG.1.below hT.b) (Kd.C_below HF.1 hT.b) HCf.1 (by have:=zQ hT.c (by rw[hC.len];omega);exact this) HRr.1;rw[hC.len,<-hS]at hBd;have HBd:=MD hBd;have HFc:=MD (λ(W:Im) (hb:It w.heap.size w W) (AN:Option Addr) (cN:Nat) (h1:Kd.C dK W AN S.nodes.length S.nodes) (h2:S.nodes.length<=cN)=>rQ f c S hS AN A cN cf W (HG.1.below hb) h1 h2 (Kd.C_below HF.1 hb) HCf.1 HRr.1);have HShp:=MD (iw f S).sh;rw[<-hFa]at HFc HShp;have HS:=MD hS;have HFa:=MD hFa;have HOk:=MD hok;have HC:=MD hC;have HT:=MD hT;unfold o6 at HFc;clear hS hFa hok hBd hC hT HL;go_upto_region 8 with(first
    |(go_at_call 49;refine HBd.1.mono ?_;rintro e w5 ⟨vN,rfl,hrn,hb⟩;obtain⟨AN,cN,rfl,hlN,hCN⟩:=Kd.R_reads hrn;have HRn:=MD hrn;have HCN:=MD hCN;have HB5:=MD hb;have HlN:=MD hlN;clear hrn hb hCN hlN)
    |((with_reducible refine ap (t:=119) (p:=6) rfl ?_);refine an rfl 119 _ _ rfl w5.heap.size (S.entry.cells++[Ia AN S.nodes.length cN]).toArray rfl rfl 119 gu.toArray (Iu w5 _) (d_ _ _) (skz.trans (li _ _).symm) (te _) ?_;intro w6 h6 hf6;have H6:=MD h6;have HB6:=MD (cw hf6);clear h6 hf6))
   have hb6:=HB6.1;have hT6:=(HT.1.below HB5.1).below hb6;have hr6:=Kd.R_lower (Kd.R_mono (Kd.R_below HRn.1 hb6) (λk hk=>IT HT.1.b.size hk)) HT.1.b.size;have hF6:=HFc.1 w6 hT6.b AN cN (Kd.C_below HCN.1 hb6) HlN.1;have HT6:=MD hT6;have HR6:=MD hr6;have HF6:=MD hF6;clear hb6 hT6 hr6 hF6 HFc HBd HB5 HT HCN HRn HlN;go_upto_region 9 with(first
    |((with_reducible refine ai (N:=27) rfl ?_);refine II rfl 119 _ rfl w5.heap.size rfl 119 (S.entry.cells++[Ia AN S.nodes.length cN]).toArray (0,0) _ H6.1 KE rfl (d_ _ _) ?_)
    |(go_at_call 50;refine HF6.1.mono ?_;rintro e w7 ⟨vF,rfl,hrf,hb⟩;obtain⟨AF,cF,rfl⟩:=Kd.R_slice hrf;have HU:=MD (show rL w w7 gc w5.heap.size S (Ia AN S.nodes.length cN) (Ia AF F.length cF) F c from⟨HT6.1.below hb,ag H6.1 hb,Kd.R_below HR6.1 hb,Kd.R_lower (Kd.R_mono hrf (λk hk=>IT HT6.1.b.size hk)) HT6.1.b.size⟩);clear hrf hb))
   have c25:=(show w7.cell? ⟨w5.heap.size,25,Ih⟩=Ic (.slice AN S.nodes.length cN) by rw[aq HU.1.h6,IW (by rw[aX.len];exact Iz _),aX.len];rfl);go_wp2;go_loopw [32,5] (λi m wr=>∃(n:Nat) (st:List Bool×Bool),i=Ib Ie n/\m=Iy st.2/\aa (n<=S.nodes.length/\ft f c=lG f F (S.nodes.drop n) n st/\lH f.length c st/\rL w wr gc w5.heap.size S (Ia AN S.nodes.length cN) (Ia AF F.length cF) F st.1)) (λi _ _=>S.nodes.length-(Jj i).toNat)
   case atStart=>exact⟨0,(c,Ik),rfl,rfl,⟨⟨ID _,by unfold ft;rw[<-HS.1,<-HFa.1];rfl,HC.1.inv,HU.1⟩⟩⟩
   case round=>
    obtain⟨n,st,rfl,rfl,HL⟩:=hrel;obtain⟨hn,hfin,hI,hU⟩:=HL.1;by_cases hlt:n<S.nodes.length
    .have hlt':(n:Int)<(S.nodes.length:Int):=by omega
     obtain⟨x,hx⟩:∃x,S.nodes[n]?=Ic x:=⟨_,Ig hlt⟩;obtain⟨ad,cs,rfl,hK,hld⟩:=fl (P:=If) (Kd.R_reads' hU.rn).2.2 n hlt x hx 142 Tryz.underlying142 rfl lE;obtain⟨vO,rfl,AO,cO,rfl,hlO,hCO⟩:=gD hK;have hat:=HOk.1.at_ x (Iw hx);rw[Jc hlt,(Ip.1 hx).2]at hfin;simp only[lG]at hfin;obtain⟨xa,xo⟩:=x;simp only at hat;obtain⟨a,rfl⟩:∃a:Nat,xa=a:=⟨xa.toNat,by omega⟩;have haf:a<f.length:=by omega
     have haf':(a:Int)<(f.length:Int):=by omega
     obtain⟨y,hy⟩:∃y,f[a]?=Ic y:=⟨_,Ig haf⟩;have hyo:=HR.1.ok a y hy;have hyd:f.getD a In.zero=y:=by rw[Ij,hy];rfl
     obtain⟨adF,csF,hadF,_,_⟩:=ba (P:=If) HF.1 hU.ct.b a haf y hy 49 I6 rfl bU;subst hadF;have HLdF:=MD (λ(W:Im) (hb:It w.heap.size w W)=>show(Le 49 (adF.add (a*6))).run If W=.ok (IA y.cells) W by
      obtain⟨ad2,cs2,q1,q2,q3⟩:=ba (P:=If) HF.1 hb a haf y hy 49 I6 rfl bU;injection q1 with q1
      subst q1;obtain rfl:cs2=y.cells.toList:=q2;exact q3)
     obtain⟨us,hus⟩:=ME (ce y);have HUin:=MD (pc hyo);have HUl:=MD (mP y);have HUs:=MD (λ(W:Im) (hb:It w.heap.size w W)=>kB y W (HG.1.below hb));rw[<-hus]at HUin HUl HUs;have hcn:lW f F n ⟨(a:Int),xo⟩ st=us.foldl (ia F n a) st:=by unfold lW;simp only[IC];rw[hyd,hus]
     have HCn:=MD hcn;have hfl:(0:Int)<=a:=by omega
     have HFi:=MD hfin;have HI:=MD hI;have HU2:=MD hU;have HLd:=MD hld;have HLt:=MD hlt;clear hfin hI hU hld hCO hK hx HL hlt hn hat;clear hy hyd hus hcn hyo haf;go_upto_region 12 with(first
      |((with_reducible refine ai (N:=36) rfl ?_);refine av rfl 142 _ rfl (ad.add (n*2)) rfl _ HLd.1 ?_))
     obtain⟨w8,hw8⟩:∃w8,w8=wr.alloc (Is #[Ib Ie (a:Int),Ia AO xo.length cO] 142):=⟨_,rfl⟩;have h10:w8.heap[wr.heap.size]?=Ic (.cells #[Ib Ie (a:Int),Ia AO xo.length cO] 142 (0,0)):=by rw[hw8];exact Iu wr _
     have hU8:rL w w8 gc w5.heap.size S (Ia (Ic ad) S.nodes.length cN) (Ia AF F.length cF) F st.1:=by rw[hw8];exact HU2.1.below (ae (Il _ _) _)
     refine ar hw8.symm ?_;have a10:=(show w8.cell? ⟨wr.heap.size,0,Ih⟩=Ic (Ib Ie (a:Int)) by rw[ah h10];rfl);have H10:=MD h10;have HU8:=MD hU8;obtain⟨g10,hg10⟩:=MF wr.heap.size;rw[hg10]at H10 a10 ⊢;clear hw8 h10 hU8 hg10;go_upto_region 13 with(first
      |((with_reducible refine ai (N:=41) rfl ?_);refine av rfl 49 _ rfl (adF.add (a*6)) rfl _ (HLdF.1 _ HU8.1.ct.b) ?_)
      |(go_at_call 56;refine(HUs.1 _ HU8.1.ct.b).mono ?_;rintro e w9 ⟨vU,rfl,hru,hb⟩;obtain⟨AU,cU,rfl⟩:=Kd.R_slice hru;have HU9:=MD (HU8.1.below hb);have HRu:=MD (Kd.R_lower (Kd.R_mono hru (λk hk=>IT HU8.1.ct.b.size hk)) HU8.1.ct.b.size);have H10b:=MD (ag H10.1 hb);clear hru hb))
     have hul:(us.length:Int)<=3:=by have:=HUl.1;omega
     go_loopw [44,5] (λj m wr=>∃(k:Nat) (st2:List Bool×Bool),j=Ib Ie k/\m=Iy st2.2/\aa (k<=us.length/\lW f F n ⟨(a:Int),xo⟩ st=(us.drop k).foldl (ia F n a) st2/\lH f.length c st2/\rL w wr gc w5.heap.size S (Ia (Ic ad) S.nodes.length cN) (Ia AF F.length cF) F st2.1/\wr.heap[g10]?=Ic (.cells #[Ib Ie (a:Int),Ia AO xo.length cO] 142 (0,0))/\Kd.R (Kd.int .i64) 3 wr w.heap.size (λk=>w.heap.size<=k) (Ia AU us.length cU) us)) (λj _ _=>us.length-(Jj j).toNat)
     case atStart=>exact⟨0,st,rfl,rfl,⟨⟨ID _,HCn.1,HI.1,HU9.1,H10b.1,HRu.1⟩⟩⟩
     case round=>
      obtain⟨k,st2,rfl,rfl,HL⟩:=hrel;obtain⟨hk,hfin,hI,hU,h10,hRu⟩:=HL.1;by_cases hkl:k<us.length
      .have hkl':(k:Int)<(us.length:Int):=by omega
       obtain⟨u,hu⟩:∃u,us[k]?=Ic u:=⟨_,Ig hkl⟩;obtain⟨hu0,hu24⟩:=HUin.1 u (Iw hu);obtain⟨l,rfl⟩:∃l:Nat,u=l:=⟨u.toNat,by omega⟩;obtain⟨adU,csU,rfl,_,hKU,hcU⟩:=b_ (Kd.R_reads' hRu).2.2 k hkl _ hu;obtain rfl:csU=[Ib Ie (l:Int)]:=hKU;have vU:=hcU 0 _ rfl;rw[show k*(Kd.int .i64).sz+0=k from JQ k]at vU;rw[Jc hkl,(Ip.1 hu).2,Ml]at hfin;obtain⟨gF,gR,cR,rfl,f0,f1,_⟩:=vJ hU.rf (by have:=HShp.1;exact this.len▸HShp.1) (by rw[HShp.1.len];exact HLt.1) (show l<24 by omega);obtain⟨b,hb⟩:=ME (st2.1.getD a Ik);have cC:=(show wr.cell? ⟨gc,a,Ih⟩=Ic (.bool b) by
        rw[aq hU.ct.c,IK,Ig (show a<st2.1.length by rw[hI.len];omega),hb,Ij,Ig (show a<st2.1.length by rw[hI.len];omega)];rfl)
       have a10:=(show wr.cell? ⟨g10,0,Ih⟩=Ic (Ib Ie (a:Int)) by rw[ah h10];rfl);have hFl':(n:Int)<(F.length:Int):=by rw[HShp.1.len];exact hlt'
       have hl':(l:Int)<24:=by omega
       have hfr:=au hU.ct.c a;obtain⟨kd,hkd⟩:=ME ((dg F n l).kind);rw[<-hkd]at f1;have hcu:ia F n a st2 (l:Int)=if b=Ik/\kd=0 then(st2.1.set a Ir,Ir)else st2:=by unfold ia;rw[<-hb,IC,<-hkd]
       have hI3:=hI.use F n (a:=a) (by omega) (l:Int);have HI3:=MD hI3;have HFi3:=MD hfin;have HCu:=MD hcu;have HU3:=MD hU;have H103:=MD h10;have HRu3:=MD hRu;have HKl:=MD hkl;clear hfin hI hU h10 hRu hu hcU hkl hk hb hkd hcu hI3 HL;cases b with
       |true=>
        have hc3:=HCu.1;rw[if_neg (by simp)]at hc3;rw[hc3]at HFi3 HI3;clear hc3;go_wp2;go_roundw
        case rel=>exact⟨k+1,st2,by go_num,rfl,⟨⟨HKl.1,HFi3.1,HI3.1,HU3.1,H103.1,HRu3.1⟩⟩⟩
        case measure=>have:=HKl.1;simp[Jj];omega
       |false=>
        by_cases hk0:kd=0
        .have hc3:=HCu.1
         rw[if_pos ⟨rfl,hk0⟩]at hc3;rw[hc3]at HFi3 HI3;subst hk0;clear hc3;have HU4:=MD (HU3.1.set a Ir);have H104:=MD (bp H103.1 (p:=⟨gc,a,Ih⟩) (λe=>by have h1:=H103.1;rw[show g10=gc from e,HU3.1.ct.c]at h1;simp at h1) (Iy Ir));have HRu4:=MD (Kd.R_set HRu3.1 HU3.1.ct.c (λq hq=>by have:q=3:=IS.1 hq;omega) a (Iy Ir));go_wp2;go_roundw
         case rel=>exact⟨k+1,(st2.1.set a Ir,Ir),by go_num,rfl,⟨⟨HKl.1,HFi3.1,HI3.1,HU4.1,H104.1,HRu4.1⟩⟩⟩
         case measure=>have:=HKl.1;simp[Jj];omega
        .have hc3:=HCu.1
         rw[if_neg (λq=>hk0 q.2)]at hc3;rw[hc3]at HFi3 HI3;have q0:(kd==0)=Ik:=beq_eq_false_iff_ne.mpr hk0;clear hc3 hk0;go_wp2;go_roundw
         case rel=>exact⟨k+1,st2,by go_num,rfl,⟨⟨HKl.1,HFi3.1,HI3.1,HU3.1,H103.1,HRu3.1⟩⟩⟩
         case measure=>have:=HKl.1;simp[Jj];omega
      .obtain rfl:k=us.length:=by omega
       rw[Ju (Iz _)]at hfin;have hfi:=HFi.1;rw[hfin]at hfi;have HFi4:=MD hfi;have HI4:=MD hI;have HU4:=MD hU;clear hfin hfi hI hU h10 hRu hk HL hkl;go_wp2;go_roundw
       case rel=>exact⟨n+1,st2,by go_num,rfl,⟨⟨HLt.1,HFi4.1,HI4.1,HU4.1⟩⟩⟩
       case measure=>have:=HLt.1;simp[Jj];omega
    .obtain rfl:n=S.nodes.length:=by omega
     rw[Ju (Iz _)]at hfin;have HRd:=MD (HC.1.round (by rw[<-HS.1];exact HOk.1.at_) (r:=st) hfin.symm);have HU2:=MD hU;clear hfin hI hU hn HL hlt;go_wp2
     go_roundg k0
     case measure=>omega
     case rel=>exact⟨st.2,st.1,rfl,⟨⟨HRd.1,HU2.1.ct⟩⟩⟩
theorem nI(e:Bool)(n:Nat)(v:Int)(W:Im):(JK e (n+1) 3 (Ib Ie v)).run If W=.ok () W:=by
 simp[JK,IJ,I2 Jr,Jf]
theorem DZ(e:Bool)(n:Nat)(v:Int)(W:Im):(JK e (n+1) 2 (Ib Ie v)).run If W=.ok () W:=by
 simp[JK,IJ,I2 Mi,Jf]
theorem yf(e:Bool)(n:Nat)(v:Bool)(W:Im):(JK e (n+1) 4 (Iy v)).run If W=.ok () W:=by
 simp[JK,IJ,I2 Md,Jf]
theorem Cs(e:Bool)(n:Nat)(a b c:Int)(W:Im):(JK e (n+2) 234 (IA #[Ib Ie a,Ib Ie b,Ib Ie c])).run If W=.ok () W:=by
 rw[JK];simp[IJ,I2 KJ,I2 Jr,part,isAgg,nI,Jf]
theorem Fl(e:Bool)(n:Nat)(a b:Int)(W:Im):(JK e (n+2) 184 (IA #[Ib Ie a,Ib Ie b])).run If W=.ok () W:=by
 rw[JK];simp[IJ,I2 LX,I2 Jr,I2 Mi,part,isAgg,nI,DZ,Jf]
theorem qj(a k n:Int)(t:Bool)(W:Im):(part 184 #[Ib Ie a,Ib Ie k,Ib Ie n,Iy t] 1).run If W=.ok (IA #[Ib Ie k,Ib Ie n]) W:=by go_simp
theorem DY(e:Bool)(n:Nat)(a k m:Int)(t:Bool)(W:Im):(JK e (n+3) 236 (IA #[Ib Ie a,Ib Ie k,Ib Ie m,Iy t])).run If W=.ok () W:=by
 rw[JK];simp[IJ,I2 KO,I2 Jr,I2 Md,nI,yf,Fl,qj,Jf];simp[IJ,I2 Jr,I2 Md,part,isAgg,nI,yf,Jf]
theorem GG(W:Im):(sizeOf 3).run If W=.ok 1 W:=by kernel_rfl
theorem lI(a b:Int)(W:Im):(part 3 #[Ib Ie a,Ib Ie b] 0).run If W=.ok (Ib Ie a) W:=by go_simp
theorem nZ(a b:Int)(W:Im):(part 3 #[Ib Ie a,Ib Ie b] 1).run If W=.ok (Ib Ie b) W:=by go_simp
theorem Fk(e:Bool)(n:Nat)(a b:Int)(W:Im):(JK e (n+2) 138 (IA #[Ib Ie a,Ib Ie b])).run If W=.ok () W:=by
 rw[JK];simp[IJ,I2 KK,GG,nI,lI,nZ,Jf,List.range']
theorem uI(a b c:Int)(W:Im):(part 3 #[Ib Ie a,Ib Ie b,Ib Ie c] 0).run If W=.ok (Ib Ie a) W:=by go_simp
theorem uG(a b c:Int)(W:Im):(part 3 #[Ib Ie a,Ib Ie b,Ib Ie c] 1).run If W=.ok (Ib Ie b) W:=by go_simp
theorem uF(a b c:Int)(W:Im):(part 3 #[Ib Ie a,Ib Ie b,Ib Ie c] 2).run If W=.ok (Ib Ie c) W:=by go_simp
theorem zq(d:Nat)(a b:Int)(W:Im):(Jp (d+1) 3 (Ib Ie a) (Ib Ie b)).run If W=.ok (a==b) W:=by
 simp[Jp,IJ,I2 Jr,Jf]
theorem Hp(d:Nat)(a b:Int)(W:Im):(Jp (d+1) 2 (Ib Ie a) (Ib Ie b)).run If W=.ok (a==b) W:=by
 simp[Jp,IJ,I2 Mi,Jf]
theorem Ho(d:Nat)(a b:Bool)(W:Im):(Jp (d+1) 4 (Iy a) (Iy b)).run If W=.ok (a==b) W:=by
 simp[Jp,IJ,I2 Md,Jf]
theorem DK(d:Nat)(a b c a' b' c':Int)(W:Im):(Jp (d+2) 234 (IA #[Ib Ie a,Ib Ie b,Ib Ie c]) (IA #[Ib Ie a',Ib Ie b',Ib Ie c'])).run If W=.ok (a==a'&&(b==b'&&(c==c'))) W:=by
 refine kF KJ (by kernel_rfl) ?_;refine dW (by rfl) (uI _ _ _ _) (uI _ _ _ _) (zq _ _ _ _) ?_;refine dW (by rfl) (uG _ _ _ _) (uG _ _ _ _) (zq _ _ _ _) ?_;exact gH (by rfl) (uF _ _ _ _) (uF _ _ _ _) (zq _ _ _ _)
theorem uJ(a b:Int)(W:Im):(part 2 #[Ib Ie a,Ib Ie b] 1).run If W=.ok (Ib Ie b) W:=by go_simp
theorem Gj(d:Nat)(a b a' b':Int)(W:Im):(Jp (d+2) 184 (IA #[Ib Ie a,Ib Ie b]) (IA #[Ib Ie a',Ib Ie b'])).run If W=.ok (a==a'&&(b==b')) W:=by
 refine kF LX (by kernel_rfl) ?_;refine dW (by rfl) (lI _ _ _) (lI _ _ _) (zq _ _ _ _) ?_;exact gH (by rfl) (uJ _ _ _) (uJ _ _ _) (Hp _ _ _ _)
theorem uL(a k n:Int)(t:Bool)(W:Im):(part 3 #[Ib Ie a,Ib Ie k,Ib Ie n,Iy t] 0).run If W=.ok (Ib Ie a) W:=by go_simp
theorem uK(a k n:Int)(t:Bool)(W:Im):(part 4 #[Ib Ie a,Ib Ie k,Ib Ie n,Iy t] 3).run If W=.ok (Iy t) W:=by go_simp
theorem Fc(d:Nat)(a k n:Int)(t:Bool)(a' k' n':Int)(t':Bool)(W:Im):(Jp (d+3) 236 (IA #[Ib Ie a,Ib Ie k,Ib Ie n,Iy t]) (IA #[Ib Ie a',Ib Ie k',Ib Ie n',Iy t'])).run If W=.ok (a==a'&&((k==k'&&(n==n'))&&(t==t'))) W:=by
 refine kF KO (by kernel_rfl) ?_;refine dW (by rfl) (uL _ _ _ _ _) (uL _ _ _ _ _) (zq _ _ _ _) ?_;refine dW (by rfl) (qj _ _ _ _ _) (qj _ _ _ _ _) (Gj _ _ _ _ _ _) ?_;exact gH (by rfl) (uK _ _ _ _ _) (uK _ _ _ _ _) (Ho _ _ _ _)
theorem Gi(d:Nat)(a b a' b':Int)(W:Im):(Jp (d+2) 138 (IA #[Ib Ie a,Ib Ie b]) (IA #[Ib Ie a',Ib Ie b'])).run If W=.ok (a==a'&&(b==b')) W:=by
 obtain⟨i3,h3,_⟩:=nr 3 (by kernel_rfl);rw[run_equalIn_array W (d+1) _ _ KK h3];have hc:If.cellsOf 3=1:=by kernel_rfl
 rw[hc];simp only[show Jy 2=[0,1]from rfl,Op.eqItems,IJ,Nat.zero_mul,Nat.one_mul,JQ,lI,nZ,zq,I1,JO];cases ha:a==a'<;>cases hb:b==b'<;>simp[Op.eqItems,IJ,nZ,zq,hb,Jf]
structure Lk where
 b:Int
 k:Int
 n:Int
 t:Bool
deriving DecidableEq
def eS(x:Int×Int×Int):Io:=IA #[Ib Ie x.1,Ib Ie x.2.1,Ib Ie x.2.2]
def eL(x:Lk):Io:=IA #[Ib Ie x.b,Ib Ie x.k,Ib Ie x.n,Iy x.t]
def eP(x:Int×Int):Io:=IA #[Ib Ie x.1,Ib Ie x.2]
theorem F4:ju If 234 eS:=ju.of_ask KJ (λe W x=>Cs e 9998 _ _ _ W) (λ_ _=>rfl) (λW x y=>by
 have h:=DK 9998 x.1 x.2.1 x.2.2 y.1 y.2.1 y.2.2 W;have e:(x.1==y.1&&(x.2.1==y.2.1&&(x.2.2==y.2.2)))=decide (x=y):=by
  obtain⟨a,b,c⟩:=x;obtain⟨a',b',c'⟩:=y;rw[L6];simp
 rw[e]at h;exact h) (λx=>by simp[eS,Instr.sameBits])
theorem F7:ju If 236 eL:=ju.of_ask KO (λe W x=>DY e 9997 _ _ _ _ W) (λ_ _=>rfl) (λW x y=>by
 have h:=Fc 9997 x.b x.k x.n x.t y.b y.k y.n y.t W;have e:(x.b==y.b&&((x.k==y.k&&(x.n==y.n))&&(x.t==y.t)))=decide (x=y):=by
  obtain⟨a,b,c,d⟩:=x;obtain⟨a',b',c',d'⟩:=y;rw[L6];simp[and_assoc]
 rw[e]at h;exact h) (λx=>by simp[eL,Instr.sameBits])
theorem F5:ju If 138 eP:=ju.of_ask KK (λe W x=>Fk e 9998 _ _ W) (λ_ _=>rfl) (λW x y=>by
 have h:=Gi 9998 x.1 x.2 y.1 y.2 W;have e:(x.1==y.1&&(x.2==y.2))=decide (x=y):=by
  obtain⟨a,b⟩:=x;obtain⟨a',b'⟩:=y;rw[L6];simp
 rw[e]at h;exact h) (λx=>by simp[eP,Instr.sameBits])
section
section
variable{α:Type}[DecidableEq α]
def jl(L:List α)(x:α):Option Nat:=L.findIdx? λy=>decide (y=x)
def bN(L:List α)(x:α):Nat×List α:=match jl L x with|some i=>(i,L)|none=>(L.length,L++[x])
def em(L:List α):List (α×Io):=L.zipIdx.map λp=>(p.1,Ib Ie (p.2:Int))
theorem m7(L:List α)(x:α):em (L++[x])=em L++[(x,Ib Ie (L.length:Int))]:=by
 unfold em;rw[List.zipIdx_append,LY];simp
theorem tx{L:List α}{i:Nat}:(em L)[i]?=(L[i]?).map λx=>(x,Ib .i64 (i:Int)):=by
 unfold em;rw[IK,List.getElem?_zipIdx,Option.map_map,KB];rfl
theorem si{L:List α}{x:α}{i:Nat}(h:jl L x=Ic i):L[i]?=Ic x/\∀j,j<i->L[j]?≠Ic x:=by
 unfold jl at h;rw[List.findIdx?_eq_some_iff_getElem]at h;obtain⟨hi,h1,h2⟩:=h;refine⟨by rw[Ig hi];exact congrArg Ic (of_decide_eq_true h1),λj hj he=>?_⟩;have:=h2 j hj;obtain⟨hl,e⟩:=Ip.1 he;simp[e]at this
theorem ot{L:List α}{x:α}(h:jl L x=Ih):x ∉ L:=by
 unfold jl at h;rw[List.findIdx?_eq_none_iff]at h;intro hx;have:=h x hx;simp at this
theorem kD(x:α)(L:List α):cd x (em L) 0=(jl L x).map λi:Nat=>(i,Ib .i64 (i:Int)):=by
 cases h:jl L x with
 |some i=>
  obtain⟨h1,h2⟩:=si h;have:=mE (x:=x) (L:=em L) (i:=0) (j:=i) (v:=Ib Ie (i:Int)) (by rw[tx,h1];rfl) (λk hk p hp=>by
   rw[tx]at hp;cases hq:L[k]? with
   |none=>rw[hq]at hp;simp at hp
   |some y=>
    rw[hq]at hp;simp at hp;rw[<-hp];intro e;exact h2 k hk (by rw[hq,<-e]))
  rw[this,KB];rfl
 |none=>
  have h1:=ot h;refine mF (λp hp=>?_);obtain⟨i,hi⟩:=Kb hp;rw[tx]at hi;cases hq:L[i]? with
  |none=>rw[hq]at hi;simp at hi
  |some y=>
   rw[hq]at hi;simp at hi;intro e;rw[<-hi]at e;exact h1 (e▸Iw hq)
theorem gA(L:List α)(x:α):(bN L x).2[(bN L x).1]?=Ic x:=by
 unfold bN;cases h:jl L x with
 |some i=>exact(si h).1
 |none=>simp
theorem uO(L:List α)(x:α):(bN L x).1<(bN L x).2.length:=(Ip.1 (gA L x)).1
theorem ej(L:List α)(x:α):∃l,(bN L x).2=L++l/\l.length<=1:=by
 unfold bN;cases h:jl L x with
 |some i=>exact⟨[],by simp⟩
 |none=>exact⟨[x],rfl,Iz _⟩
theorem fd{L:List α}(h:L.Nodup)(x:α):(bN L x).2.Nodup:=by
 unfold bN;cases hx:jl L x with
 |some i=>exact h
 |none=>
  simp only;rw[List.nodup_append];exact⟨h,by simp,λy hy z hz e=>by simp at hz;subst hz;subst e;exact ot hx hy⟩
theorem BO{L:List α}{x:α}{i:Nat}(h:i<(bN L x).2.length):i<L.length\/i=(bN L x).1:=by
 unfold bN at h ⊢;cases hx:jl L x with
 |some j=>rw[hx]at h;exact .inl h
 |none=>
  rw[hx]at h;simp at h ⊢;omega
end
structure ef where
 color:Int
 links:List (Int×Int)
def dD(N:Nat)(old:List Int)(at_:Int)(x:Int×Int):Lk:=
 if x.1=0/\0<=x.2/\x.2<(N:Int)then⟨at_,0,old.getD x.2.toNat 0,Ir⟩else⟨at_,x.1,x.2,Ik⟩
def iP(N:Nat)(old:List Int):List (Int×Int)->Int×List Lk->Int×List Lk
 | [],s=>s
 |x::r,s=>iP N old r (((bN s.2 (dD N old s.1 x)).1:Int),(bN s.2 (dD N old s.1 x)).2)
structure RSt where
 starts:List (Int×Int×Int)
 links:List Lk
 classes:List (Int×Int)
 out:List Int
def dn(old:List Int)(i:Nat)(r:ef):Int×Int×Int:=(old.getD i 0,r.color,(r.links.length:Int))
def oN(N:Nat)(old:List Int)(i:Nat)(r:ef)(s:RSt):RSt:=
 let a:=bN s.starts (dn old i r)
 let b:=iP N old r.links (-1-(a.1:Int),s.links)
 let c:=bN s.classes ((a.1:Int),b.1)
 ⟨a.2,b.2,c.2,s.out++[(c.1:Int)]⟩
def nW(N:Nat)(old:List Int):List ef->Nat->RSt->RSt
 | [],_,s=>s
 |r::rs,i,s=>nW N old rs (i+1) (oN N old i r s)
def bo(rows:List ef)(old:List Int):RSt:=nW rows.length old rows 0 ⟨[],[],[],[]⟩
def iz(rows:List ef):Nat->List Int->Nat->List Int
 |0,old,_=>old
 |k+1,old,many=>if(bo rows old).classes.length=many then(bo rows old).out else iz rows k (bo rows old).out (bo rows old).classes.length
def aV(rows:List ef):List Int:=iz rows (rows.length+1) (IF rows.length 0) 0
structure nO(old:List Int)(n:Nat)(s:RSt):Prop where
 len:s.out.length=n
 few:s.classes.length<=n
 fewS:s.starts.length<=n
 nodup:s.classes.Nodup
 cover:∀v,v<s.classes.length->(v:Int)∈s.out
 lt:∀v∈s.out,0<=v/\v<(s.classes.length:Int)
 onto:∀j,j<n->∃c∈s.classes,∃q,s.starts[c.1.toNat]?=Ic q/\q.1=old.getD j 0
theorem nO.row{N:Nat}{old:List Int}{n:Nat}{s:RSt}(h:nO old n s)(r:ef):nO old (n+1) (oN N old n r s):=by
 unfold oN;obtain⟨a,ha⟩:=ME (bN s.starts (dn old n r));obtain⟨b,hb⟩:=ME (iP N old r.links (-1-(a.1:Int),s.links));obtain⟨c,hc⟩:=ME (bN s.classes ((a.1:Int),b.1));simp only;rw[<-ha,<-hb,<-hc];obtain⟨la,hla,hla1⟩:=ej s.starts (dn old n r);obtain⟨lc,hlc,hlc1⟩:=ej s.classes ((a.1:Int),b.1);have hat:=gA s.starts (dn old n r);have hct:=gA s.classes ((a.1:Int),b.1);have hclt:=uO s.classes ((a.1:Int),b.1);rw[<-ha]at hla hat;rw[<-hc]at hlc hct hclt;refine⟨by simp[h.len],?_,?_,by rw[hc];exact fd h.nodup _,λv hv=>?_,λv hv=>?_,λj hj=>?_⟩
 .rw[hlc,IV];have:=h.few;omega
 .rw[hla,IV];have:=h.fewS;omega
 .rw[hc]at hv
  rcases BO hv with q|q
  .exact List.mem_append_left _ (h.cover v q)
  .rw[<-hc]at q
   rw[q];exact List.mem_append_right _ (IS.2 rfl)
 .rcases J0.1 hv with hv|hv
  .have:=h.lt v hv
   rw[hlc,IV];omega
  .rw[IS.1 hv]
   exact⟨by omega,by show((c.1:Nat):Int)<(c.2.length:Int);omega⟩
 .by_cases e:j=n
  .subst e
   refine⟨((a.1:Int),b.1),Iw hct,dn old j r,?_,rfl⟩;rw[IC];exact hat
  .obtain⟨c0,hc0,q,hq,hq2⟩:=h.onto j (by omega)
   refine⟨c0,by rw[hlc];exact List.mem_append_left _ hc0,q,?_,hq2⟩;rw[hla,Jg (Ip.1 hq).1];exact hq
theorem nO.rows{N:Nat}{old:List Int}:∀(rs:List ef) (n:Nat) (s:RSt),nO old n s->nO old (n+rs.length) (nW N old rs n s)
 | [],_,_,h=>h
 |r::rs,n,s,h=>by
  have:=nO.rows (N:=N) rs (n+1) _ (h.row (N:=N) r);rw[show n+(r::rs).length=n+1+rs.length by simp;omega];exact this
theorem nO.zero(old:List Int):nO old 0 ⟨[],[],[],[]⟩:=⟨rfl,Iz _,Iz _,by simp,λv hv=>absurd hv (by simp),λv hv=>absurd hv (by simp),λj hj=>absurd hj (LG _)⟩
theorem iT(rows:List ef)(old:List Int):nO old rows.length (bo rows old):=by
 have:=nO.rows (N:=rows.length) rows 0 _ (nO.zero old);rw[KB]at this;exact this
theorem pT{rows:List ef}{old:List Int}{many:Nat}(hl:old.length=rows.length)(hc:∀v,v<many->(v:Int)∈old):many<=(bo rows old).classes.length:=by
 have h:=iT rows old;have hs:(Jy many).map (λv:Nat=>(v:Int)) ⊆ (bo rows old).classes.map λc=>(((bo rows old).starts[c.1.toNat]?).map (·.1)).getD 0:=by
  intro x hx;obtain⟨v,hv,rfl⟩:=JM.1 hx;obtain⟨j,hj⟩:=Kb (hc v (Kq.1 hv));obtain⟨hjl,_⟩:=Ip.1 hj;obtain⟨c,hcm,q,hq,hq2⟩:=h.onto j (by omega);refine JM.2 ⟨c,hcm,?_⟩;rw[hq];simp only[Mu,JL];rw[hq2,Ij,hj];rfl
 have hn:((Jy many).map (λv:Nat=>(v:Int))).Nodup:=by
  unfold List.Nodup;rw[List.pairwise_map];exact(List.nodup_range).imp (λhne e=>hne (by omega))
 have:=hn.length_le_of_subset hs;simpa using this
structure iE(rows:List ef)(k:Nat)(old:List Int)(many:Nat):Prop where
 len:old.length=rows.length
 cover:∀v,v<many->(v:Int)∈old
 lt:∀v∈old,0<=v/\v<=(rows.length:Int)
 run:iz rows k old many=aV rows
 meas:rows.length+1<=many+k
theorem iE.start(rows:List ef):iE rows (rows.length+1) (IF rows.length 0) 0:=⟨by rw[JP],λv hv=>absurd hv (LG _),λv hv=>by rw[J5 hv];omega,rfl,by omega⟩
theorem iE.few{rows:List ef}{k:Nat}{old:List Int}{many:Nat}(h:iE rows k old many):many<=rows.length:=IT (pT h.len h.cover) (iT rows old).few
theorem iE.pos{rows:List ef}{k:Nat}{old:List Int}{many:Nat}(h:iE rows k old many):0<k:=by have:=h.few;have:=h.meas;omega
theorem iE.done{rows:List ef}{k:Nat}{old:List Int}{many:Nat}(h:iE rows (k+1) old many)(he:(bo rows old).classes.length=many):(bo rows old).out=aV rows:=by
 have:=h.run;unfold iz at this
 rwa[if_pos he]at this
theorem iE.round{rows:List ef}{k:Nat}{old:List Int}{many:Nat}(h:iE rows (k+1) old many)(he:¬(bo rows old).classes.length=many):iE rows k (bo rows old).out (bo rows old).classes.length:=by
 have hi:=iT rows old;have hm:=pT h.len h.cover;have hr:=h.run;unfold iz at hr;rw[if_neg he]at hr;exact⟨hi.len,hi.cover,λv hv=>by have:=hi.lt v hv;have:=hi.few;omega,hr,by have:=h.meas;omega⟩
theorem zL(rows:List ef):(aV rows).length=rows.length/\∀v∈aV rows,0<=v/\v<(rows.length:Int):=by
 have h:∀(k:Nat) (old:List Int) (many:Nat),iE rows k old many->(aV rows).length=rows.length/\∀v∈aV rows,0<=v/\v<(rows.length:Int):=by
  intro k
  induction k with
  |zero=>intro old many h;exact absurd h.pos (Mq _)
  |succ k ih=>
   intro old many h;by_cases he:(bo rows old).classes.length=many
   .have hi:=iT rows old
    rw[<-h.done he];exact⟨hi.len,λv hv=>by have:=hi.lt v hv;have:=hi.few;omega⟩
   .exact ih _ _ (h.round he)
 exact h _ _ _ (iE.start rows)
end
theorem lV{P:Jn}{α:Type}{a:Act}{o:Oper}{W:Im}{x:Lf}{t kt et:Je}{b n:Nat}{enc:α->Io}{L:List (α×Io)}(ho:o.op=.call { callee:=.builtin .len,args:=#[x],argTypes:=#[t] })(hx:a.eval x=.map (Ic b))(hn:L.length=n)(hm:bX enc W b L)(hu:P.underlying t=Ic (.map kt et)):(JJ a.eval o).run P W=.ok (.value (Ib Ie (n:Int))) W:=by
 obtain⟨es,c,hb,he⟩:=hm;have hl:es.size=n:=by
  have:=congrArg List.length he;simpa[hn]using this
 have h2:P.underlying t=Ic (.map (P.mapKeyOf t) (P.mapElemOf t)):=by simp[Jn.mapKeyOf,Jn.mapElemOf,hu]
 have hrun:=run_len_map (P:=P) (w:=W) t o.type b es c h2 hb;rw[hl]at hrun;unfold JJ;simp only[ho,resolve,invoke,builtin,IJ,JO,I1,Mt,Jt,La,hx,hrun];rfl
theorem jB{α:Type}[DecidableEq α](L:List α):(em L).length=L.length:=by unfold em;rw[Jb,List.length_zipIdx]
theorem tw(L:List (Int×Int×Int))(x:Int×Int×Int)(m:Nat)(w:Im)(hm:bX eS w m (em L)) :
  I9 If 114 #[.map (Ic m),eS x] w λe w'=>e=Iv (Ib Ie ((bN L x).1:Int))/\bX eS w' m (em (bN L x).2)/\Fr (λk=>k=m) w w':=by
 have hml:=hm.lt;have hm1:=hm.fr (Fr.of_below (S:=λk=>k=m+w.heap.size+1) (ae (Il w.heap.size w) (Is #[Ib Ie x.1,Ib Ie x.2.1,Ib Ie x.2.2] 234))) (by omega);have hB:=Iu w (Is #[Ib Ie x.1,Ib Ie x.2.1,Ib Ie x.2.2] 234 (0,0));have hX:=kD x L;have hbl:=ae (Il w.heap.size w) (Is #[Ib Ie x.1,Ib Ie x.2.1,Ib Ie x.2.2] 234 (0,0));obtain⟨w1,hw1⟩:∃w1,w1=w.alloc (Is #[Ib Ie x.1,Ib Ie x.2.1,Ib Ie x.2.2] 234):=⟨_,rfl⟩;rw[<-hw1]at hm1 hB hbl;have HM:=MD hm1;have HB:=MD hB;have HW:=MD hw1;have HBl:=MD hbl;have HZ:=MD (show ∀W,(Mr 3).run If W=.ok (Ib Ie 0) W from λW=>by kernel_rfl);clear hm hm1 hB hw1 hbl;unfold bN;cases hi:jl L x with
 |some i=>
  rw[hi]at hX;have HX:=MD (show k7 (Ib Ie 0) (cd x (em L) 0)=IR #[Ib Ie (i:Int),Iy Ir] by rw[hX];rfl);clear hX hi;unfold eS;go_enter Tryz.func114,Tryz.ntmps114;go_upto_region 1 with fail
  refine ar HW.1.symm ?_;go_wp2_with (first
   |((with_reducible refine ai (N:=9) rfl ?_);refine II rfl 234 _ rfl w.heap.size rfl 234 #[Ib Ie x.1,Ib Ie x.2.1,Ib Ie x.2.2] (0,0) _ HB.1 KJ rfl (by kernel_rfl) ?_)
   |((with_reducible refine ai (N:=10) rfl ?_);refine dt F4 rfl _ _ rfl LM HM.1 (Ib Ie 0) (HZ.1 _) x rfl rfl _ HX.1 ?_))
  go_ret;exact⟨rfl,HM.1,Fr.of_below HBl.1⟩
 |none=>
  rw[hi]at hX;have HX:=MD (show k7 (Ib Ie 0) (cd x (em L) 0)=IR #[Ib Ie 0,Iy Ik] by rw[hX];rfl);have HX2:=MD (show cd x (em L) 0=Ih from hX);clear hX hi;unfold eS;go_enter Tryz.func114,Tryz.ntmps114;go_upto_region 1 with fail
  refine ar HW.1.symm ?_;go_wp2_with (first
   |((with_reducible refine ai (N:=9) rfl ?_);refine II rfl 234 _ rfl w.heap.size rfl 234 #[Ib Ie x.1,Ib Ie x.2.1,Ib Ie x.2.2] (0,0) _ HB.1 KJ rfl (by kernel_rfl) ?_)
   |((with_reducible refine ai (N:=10) rfl ?_);refine dt F4 rfl _ _ rfl LM HM.1 (Ib Ie 0) (HZ.1 _) x rfl rfl _ HX.1 ?_)
   |((with_reducible refine ai (N:=16) rfl ?_);refine dJ rfl (Ib Ie (L.length:Int)) (lV (t:=227) rfl rfl (jB L) HM.1 LM) ?_)
   |((with_reducible refine ai (N:=18) rfl ?_);refine II rfl 234 _ rfl w.heap.size rfl 234 #[Ib Ie x.1,Ib Ie x.2.1,Ib Ie x.2.2] (0,0) _ HB.1 KJ rfl (by kernel_rfl) ?_)
   |((with_reducible refine j8 rfl ?_);refine dZ F4 rfl _ _ _ rfl LM HM.1 x (Ib Ie (L.length:Int)) rfl rfl rfl HX2.1 ?_;intro w3 hm3 hfr3;have M3:=MD hm3;have F3:=MD hfr3;clear hm3 hfr3))
  go_ret;refine⟨rfl,?_,(Fr.of_below HBl.1).trans F3.1⟩;have h3:=M3.1;rw[<-m7]at h3;exact h3
theorem uN(L:List (Lk))(x:Lk)(m:Nat)(w:Im)(hm:bX eL w m (em L)) :
  I9 If 115 #[.map (Ic m),eL x] w λe w'=>e=Iv (Ib Ie ((bN L x).1:Int))/\bX eL w' m (em (bN L x).2)/\Fr (λk=>k=m) w w':=by
 have hml:=hm.lt;have hm1:=hm.fr (Fr.of_below (S:=λk=>k=m+w.heap.size+1) (ae (Il w.heap.size w) (Is #[Ib Ie x.b,Ib Ie x.k,Ib Ie x.n,Iy x.t] 236))) (by omega);have hB:=Iu w (Is #[Ib Ie x.b,Ib Ie x.k,Ib Ie x.n,Iy x.t] 236 (0,0));have hX:=kD x L;have hbl:=ae (Il w.heap.size w) (Is #[Ib Ie x.b,Ib Ie x.k,Ib Ie x.n,Iy x.t] 236 (0,0));obtain⟨w1,hw1⟩:∃w1,w1=w.alloc (Is #[Ib Ie x.b,Ib Ie x.k,Ib Ie x.n,Iy x.t] 236):=⟨_,rfl⟩;rw[<-hw1]at hm1 hB hbl;have HM:=MD hm1;have HB:=MD hB;have HW:=MD hw1;have HBl:=MD hbl;have HZ:=MD (show ∀W,(Mr 3).run If W=.ok (Ib Ie 0) W from λW=>by kernel_rfl);clear hm hm1 hB hw1 hbl;unfold bN;cases hi:jl L x with
 |some i=>
  rw[hi]at hX;have HX:=MD (show k7 (Ib Ie 0) (cd x (em L) 0)=IR #[Ib Ie (i:Int),Iy Ir] by rw[hX];rfl);clear hX hi;unfold eL;go_enter Tryz.func115,Tryz.ntmps115;go_upto_region 1 with fail
  refine ar HW.1.symm ?_;go_wp2_with (first
   |((with_reducible refine ai (N:=9) rfl ?_);refine II rfl 236 _ rfl w.heap.size rfl 236 #[Ib Ie x.b,Ib Ie x.k,Ib Ie x.n,Iy x.t] (0,0) _ HB.1 KO rfl (by kernel_rfl) ?_)
   |((with_reducible refine ai (N:=10) rfl ?_);refine dt F7 rfl _ _ rfl LL HM.1 (Ib Ie 0) (HZ.1 _) x rfl rfl _ HX.1 ?_))
  go_ret;exact⟨rfl,HM.1,Fr.of_below HBl.1⟩
 |none=>
  rw[hi]at hX;have HX:=MD (show k7 (Ib Ie 0) (cd x (em L) 0)=IR #[Ib Ie 0,Iy Ik] by rw[hX];rfl);have HX2:=MD (show cd x (em L) 0=Ih from hX);clear hX hi;unfold eL;go_enter Tryz.func115,Tryz.ntmps115;go_upto_region 1 with fail
  refine ar HW.1.symm ?_;go_wp2_with (first
   |((with_reducible refine ai (N:=9) rfl ?_);refine II rfl 236 _ rfl w.heap.size rfl 236 #[Ib Ie x.b,Ib Ie x.k,Ib Ie x.n,Iy x.t] (0,0) _ HB.1 KO rfl (by kernel_rfl) ?_)
   |((with_reducible refine ai (N:=10) rfl ?_);refine dt F7 rfl _ _ rfl LL HM.1 (Ib Ie 0) (HZ.1 _) x rfl rfl _ HX.1 ?_)
   |((with_reducible refine ai (N:=16) rfl ?_);refine dJ rfl (Ib Ie (L.length:Int)) (lV (t:=229) rfl rfl (jB L) HM.1 LL) ?_)
   |((with_reducible refine ai (N:=18) rfl ?_);refine II rfl 236 _ rfl w.heap.size rfl 236 #[Ib Ie x.b,Ib Ie x.k,Ib Ie x.n,Iy x.t] (0,0) _ HB.1 KO rfl (by kernel_rfl) ?_)
   |((with_reducible refine j8 rfl ?_);refine dZ F7 rfl _ _ _ rfl LL HM.1 x (Ib Ie (L.length:Int)) rfl rfl rfl HX2.1 ?_;intro w3 hm3 hfr3;have M3:=MD hm3;have F3:=MD hfr3;clear hm3 hfr3))
  go_ret;refine⟨rfl,?_,(Fr.of_below HBl.1).trans F3.1⟩;have h3:=M3.1;rw[<-m7]at h3;exact h3
theorem yV(L:List (Int×Int))(x:Int×Int)(m:Nat)(w:Im)(hm:bX eP w m (em L)) :
  I9 If 116 #[.map (Ic m),eP x] w λe w'=>e=Iv (Ib Ie ((bN L x).1:Int))/\bX eP w' m (em (bN L x).2)/\Fr (λk=>k=m) w w':=by
 have hml:=hm.lt;have hm1:=hm.fr (Fr.of_below (S:=λk=>k=m+w.heap.size+1) (ae (Il w.heap.size w) (Is #[Ib Ie x.1,Ib Ie x.2] 138))) (by omega);have hB:=Iu w (Is #[Ib Ie x.1,Ib Ie x.2] 138 (0,0));have hX:=kD x L;have hbl:=ae (Il w.heap.size w) (Is #[Ib Ie x.1,Ib Ie x.2] 138 (0,0));obtain⟨w1,hw1⟩:∃w1,w1=w.alloc (Is #[Ib Ie x.1,Ib Ie x.2] 138):=⟨_,rfl⟩;rw[<-hw1]at hm1 hB hbl;have HM:=MD hm1;have HB:=MD hB;have HW:=MD hw1;have HBl:=MD hbl;have HZ:=MD (show ∀W,(Mr 3).run If W=.ok (Ib Ie 0) W from λW=>by kernel_rfl);clear hm hm1 hB hw1 hbl;unfold bN;cases hi:jl L x with
 |some i=>
  rw[hi]at hX;have HX:=MD (show k7 (Ib Ie 0) (cd x (em L) 0)=IR #[Ib Ie (i:Int),Iy Ir] by rw[hX];rfl);clear hX hi;unfold eP;go_enter Tryz.func116,Tryz.ntmps116;go_upto_region 1 with fail
  refine ar HW.1.symm ?_;go_wp2_with (first
   |((with_reducible refine ai (N:=9) rfl ?_);refine II rfl 138 _ rfl w.heap.size rfl 138 #[Ib Ie x.1,Ib Ie x.2] (0,0) _ HB.1 KK rfl (by kernel_rfl) ?_)
   |((with_reducible refine ai (N:=10) rfl ?_);refine dt F5 rfl _ _ rfl LW HM.1 (Ib Ie 0) (HZ.1 _) x rfl rfl _ HX.1 ?_))
  go_ret;exact⟨rfl,HM.1,Fr.of_below HBl.1⟩
 |none=>
  rw[hi]at hX;have HX:=MD (show k7 (Ib Ie 0) (cd x (em L) 0)=IR #[Ib Ie 0,Iy Ik] by rw[hX];rfl);have HX2:=MD (show cd x (em L) 0=Ih from hX);clear hX hi;unfold eP;go_enter Tryz.func116,Tryz.ntmps116;go_upto_region 1 with fail
  refine ar HW.1.symm ?_;go_wp2_with (first
   |((with_reducible refine ai (N:=9) rfl ?_);refine II rfl 138 _ rfl w.heap.size rfl 138 #[Ib Ie x.1,Ib Ie x.2] (0,0) _ HB.1 KK rfl (by kernel_rfl) ?_)
   |((with_reducible refine ai (N:=10) rfl ?_);refine dt F5 rfl _ _ rfl LW HM.1 (Ib Ie 0) (HZ.1 _) x rfl rfl _ HX.1 ?_)
   |((with_reducible refine ai (N:=16) rfl ?_);refine dJ rfl (Ib Ie (L.length:Int)) (lV (t:=231) rfl rfl (jB L) HM.1 LW) ?_)
   |((with_reducible refine ai (N:=18) rfl ?_);refine II rfl 138 _ rfl w.heap.size rfl 138 #[Ib Ie x.1,Ib Ie x.2] (0,0) _ HB.1 KK rfl (by kernel_rfl) ?_)
   |((with_reducible refine j8 rfl ?_);refine dZ F5 rfl _ _ _ rfl LW HM.1 x (Ib Ie (L.length:Int)) rfl rfl rfl HX2.1 ?_;intro w3 hm3 hfr3;have M3:=MD hm3;have F3:=MD hfr3;clear hm3 hfr3))
  go_ret;refine⟨rfl,?_,(Fr.of_below HBl.1).trans F3.1⟩;have h3:=M3.1;rw[<-m7]at h3;exact h3
section
def kRR:Kd ef:=Kd.iso (Kd.pair (Kd.int .i64) (Kd.slice 184 dw)) (λr=>(r.color,r.links))
theorem GQ{w:Im}{x:ef}{c:List Io}(h:kRR.K w x c):∃vT,c=[Ib Ie x.color,vT]/\Rd dw w vT x.links:=by
 obtain⟨c0,c1,rfl,h0,A,n,rfl,h2,h3⟩:=h;have h0':c0=[Ib Ie x.color]:=h0;subst h0';exact⟨_,rfl,A,n,rfl,h2,h3⟩
theorem qD:(If.info? 183).map (·.size)=Ic 2:=by kernel_rfl
theorem lD:(If.info? 184).map (·.size)=Ic 2:=by kernel_rfl
theorem DB:(If.info? 236).map (·.size)=Ic 4:=by kernel_rfl
theorem y8:(If.info? 3).map (λi=>(i.zero,i.size,i.bytes))=Ic (Ic (Ib Ie 0),1,8):=by kernel_rfl
theorem D4(b k n:Int):If.built 236 [(0,Ib Ie b),(1,IA #[Ib Ie k,Ib Ie n])]=Ic #[Ib Ie b,Ib Ie k,Ib Ie n,Iy Ik]:=by kernel_rfl
theorem D7(n:Int):If.built 184 [(1,Ib Ie n)]=Ic #[Ib Ie 0,Ib Ie n]:=by kernel_rfl
theorem D5(a b c:Int):If.built 234 [(0,Ib Ie a),(1,Ib Ie b),(2,Ib Ie c)]=Ic #[Ib Ie a,Ib Ie b,Ib Ie c]:=by kernel_rfl
theorem yg(a b:Int):If.built 138 [(0,Ib Ie a),(1,Ib Ie b)]=Ic #[Ib Ie a,Ib Ie b]:=by kernel_rfl
structure jT(w W:Im)(B N:Nat)(s:RSt):Prop where
 b:It w.heap.size w W
 lo:w.heap.size<=B
 a1:bX eS W B (em s.starts)
 a2:bX eL W (B+1) (em s.links)
 a3:bX eP W (B+1+1) (em s.classes)
 out:W.heap[B+1+1+1]?=Ic (.cells ((s.out++IF (N-s.out.length) 0).map (Ib .i64)).toArray 3 (0,0))
section
variable{w W W1:Im}{B N:Nat}{s:RSt}
theorem jT.below(h:jT w W B N s)(hb:It W.heap.size W W1):jT w W1 B N s:=⟨af h.b hb,h.lo,h.a1.fr (Fr.of_below (S:=λ_=>False) hb) id,h.a2.fr (Fr.of_below (S:=λ_=>False) hb) id,h.a3.fr (Fr.of_below (S:=λ_=>False) hb) id,ag h.out hb⟩
theorem jT.put1(h:jT w W B N s){L:List (Int×Int×Int)}(hm:bX eS W1 B (em L))(hf:Fr (λk=>k=B) W W1):jT w W1 B N ⟨L,s.links,s.classes,s.out⟩:=
 have hlo:=h.lo
 ⟨Fr.below h.b hf (λk hk q=>by omega) h.b.size,h.lo,hm,h.a2.fr hf (by omega),h.a3.fr hf (by omega),(hf.block _ (aj h.out) (by omega)).trans h.out⟩
theorem jT.put2(h:jT w W B N s){L:List Lk}(hm:bX eL W1 (B+1) (em L))(hf:Fr (λk=>k=B+1) W W1):jT w W1 B N ⟨s.starts,L,s.classes,s.out⟩:=
 have hlo:=h.lo
 ⟨Fr.below h.b hf (λk hk q=>by omega) h.b.size,h.lo,h.a1.fr hf (by omega),hm,h.a3.fr hf (by omega),(hf.block _ (aj h.out) (by omega)).trans h.out⟩
theorem jT.put3(h:jT w W B N s){L:List (Int×Int)}(hm:bX eP W1 (B+1+1) (em L))(hf:Fr (λk=>k=B+1+1) W W1):jT w W1 B N ⟨s.starts,s.links,L,s.out⟩:=
 have hlo:=h.lo
 ⟨Fr.below h.b hf (λk hk q=>by omega) h.b.size,h.lo,h.a1.fr hf (by omega),h.a2.fr hf (by omega),hm,(hf.block _ (aj h.out) (by omega)).trans h.out⟩
theorem jT.putO(h:jT w W B N s){i:Nat}(hi:i<N)(hl:s.out.length=i)(v:Int):jT w (W.setCell ⟨B+1+1+1,i,Ih⟩ (Ib Ie v)) B N ⟨s.starts,s.links,s.classes,s.out++[v]⟩:=by
 have hlo:=h.lo;have hf:Fr (λk=>k=B+1+1+1) W (W.setCell ⟨B+1+1+1,i,Ih⟩ (Ib Ie v)):=Fr.cell (S:=λk=>k=B+1+1+1) (p:=⟨B+1+1+1,i,Ih⟩) rfl _;refine⟨Fr.below h.b hf (λk hk q=>by omega) h.b.size,h.lo,h.a1.fr hf (by omega),h.a2.fr hf (by omega),h.a3.fr hf (by omega),?_⟩;have:=aR h.out i (Ib Ie v);rw[this];congr 3;subst hl;rw[<-List.map_set];congr 1;show(s.out++IF (N-s.out.length) 0).set s.out.length v=(s.out++[v])++IF (N-(s.out++[v]).length) 0;rw[List.set_append_right _ _ (Iz _),Nat.sub_self,show N-s.out.length=(N-(s.out++[v]).length)+1 by simp;omega,List.replicate_succ,IY];simp
end
end
end Go.Proofs.YtlinbehijfcelaaGreatDoor.Top
