/- Walks of the program, and what it computes, told plainly. No condition. (USI USJ USK USL USM USN USO) -/
import Derived.Below
import Derived.Deep.Draws
import Derived.Deep.AppendLies
import Derived.Maps.AppendAt
import Derived.OwnWalk
import Derived.Laws.BytesArg
import Derived.Laws.MakeOwn
import Derived.Laws.OwnMore
import Derived.Deep.OwnRows
import Derived.Tactics
import Derived.Lib.ConvBytes
import Derived.Laws.Slices
import Derived.WalkKit
import Derived.KernelRfl
import Derived.RowKit3
import Derived.Deep.LoopGhost
import Derived.Deep.QuietTactic
import Derived.BigQuiet
import Derived.WideLaws
import Derived.Deep.DeepCutAuto
import Derived.Deep.CutBlock
import Derived.Deep.RegionHeld3
import Derived.Laws.Rows
import Derived.Lib.AppendStr
import Derived.ArgAppend
import Derived.Laws.IdiomCopy
import Derived.RowKit
import Derived.OrdersHeld
import Derived.Laws.BitsLemmas
import Derived.Laws.StructEq
import Derived.Test.YtlinbehijfcelaaGreatDoorProg
import Derived.Deep.WholeRow
import Derived.Laws.CopyOwn
import Derived.Carry
import Derived.ChangeKeysEq
import Derived.Laws.RangeAny
import Derived.Deep.MidRow
import Derived.Laws.Tables
import Derived.StillTailTactics
import Derived.Test.YtlinbehijfcelaaGreatDoorPA
import Derived.Test.YtlinbehijfcelaaGreatDoorPB
import Derived.Test.YtlinbehijfcelaaGreatDoorPC
import Derived.Test.YtlinbehijfcelaaGreatDoorPD
import Derived.Test.YtlinbehijfcelaaGreatDoorPE
import Derived.Test.YtlinbehijfcelaaGreatDoorPF
import Derived.Test.YtlinbehijfcelaaGreatDoorPG
import Derived.Test.YtlinbehijfcelaaGreatDoorPH
import Derived.Test.YtlinbehijfcelaaGreatDoorPI
set_option linter.unusedVariables false
set_option linter.unusedSimpArgs false
set_option linter.unusedSectionVars false
set_option maxHeartbeats 8000000
set_option maxRecDepth 100000
open Go renaming Calls->I9,Value->Io,World->Im,bodyPost_ret->IG,heap_alloc_last->Iu,heap_alloc_new->JZ,loadVar->Le,madeCells->Lo,results->Lg,results_cell_row->IX,wpList->Kg,wpList_load_row->II,wpStill_nil->Mc,wp_region_still_lit->KF,zeroValue->Mr
open Go.Value renaming agg->IA,bool->Iy,int->Ib,oneCell'->IH,ownBlock->IQ,pointer->Iq,slice->Ia,tuple->IR
open Go.IntKind renaming i64->Ie
open Go.Ending renaming returned->Iv
open Go.Proofs.Tryz renaming prog->If,underlying109->Ms,underlying132->Lq,underlying135->IN,underlying151->MB,underlying184->LX,underlying231->LW,underlying236->KO
open Option renaming getD_some->JL,none->Ih,some->Ic
open Go.RowKit renaming Below->It,intOf->Jj
open Go.Obj renaming cells->Is
open Go.RowKit.Below renaming heap_setCell->Ld,refl->Il
open Nat renaming le_refl->Iz,le_trans->IT,mul_one->JQ,zero_le->ID
open List renaming append_assoc->Kv,append_nil->JS,drop_eq_getElem_cons->Jc,drop_of_length_le->Ju,flatMap_append->Mm,getD_eq_getElem?_getD->Ij,getElem?_append_right->IW,getElem?_eq_getElem->Ig,getElem?_eq_none->I0,getElem?_eq_some_iff->Ip,getElem?_map->IK,getElem?_range->KW,getElem?_replicate->Ku,getElem_mem->K8,length_append->IV,length_cons->Jz,length_map->Jb,length_take->Kt,map_append->LY,map_nil->La,mem_append->J0,mem_cons_of_mem->Jm,mem_cons_self->JH,mem_map->JM,mem_of_getElem?->Iw,mem_singleton->IS,range->Jy,range_succ->Lc,replicate->IF,singleton_append->Mj,take_length->Kh,take_succ_eq_append_getElem->JC
open Bool renaming false->Ik,true->Ir
open Int renaming toNat_natCast->IC
open Option.some renaming inj->Ii
open Go.World renaming block_lt_of_cell?->J8
namespace Go.Proofs.YtlinbehijfcelaaGreatDoor.Top
open Go.RowKit Go.Proofs.YtlinbehijfcelaaGreatDoorW.PrintWords Go.Proofs.YtlinbehijfcelaaGreatDoorW.PrintLast
theorem tq(rows:List ef)(old:List Int)(AR AO:Option Addr)(cR cO:Nat)(w:Im)(hR:Kd.C kRR w AR rows.length rows)(hO:Kd.C (Kd.int .i64) w AO rows.length old)(hlen:old.length=rows.length)(hN:rows.length<=5000)(hT:∀r∈rows,r.links.length<=500) :
  I9 If 101 #[Ia AR rows.length cR,Ia AO rows.length cO] w λe w'=>∃go:Nat,e=Iv (IR #[Ia (Ic ⟨go,0,Ih⟩) rows.length rows.length,Ib Ie ((bo rows old).classes.length:Int)])/\w'.heap[go]?=Ic (.cells ((bo rows old).out.map (Ib .i64)).toArray 3 (0,0))/\w.heap.size<=go/\It w.heap.size w w':=by
 have hN':(rows.length:Int)<=5000:=by omega
 have HMk:=MD (run_make_row' (P:=If) 109 3 (Ib Ie 0) 8 Ms y8 rfl .i64 .i64 rows.length (by omega) (by omega));have HR:=MD hR;have HO:=MD hO;have HLen:=MD hlen;have HT:=MD hT;obtain⟨N,hNd⟩:=ME rows.length;have HInv:=MD (iT rows old);clear hR hO hlen hT hN;go_enter Tryz.func101,Tryz.ntmps101;go_upto_region 4 with(first
  |((with_reducible refine ai (N:=17) rfl ?_);refine d8 rfl 227 rfl ?_)
  |((with_reducible refine ai (N:=18) rfl ?_);refine d8 rfl 229 rfl ?_)
  |((with_reducible refine ai (N:=19) rfl ?_);refine d8 rfl 231 rfl ?_)
  |((with_reducible refine ai (N:=22) rfl ?_);refine gT rfl 109 _ _ rfl _ _ _ rfl rfl (HMk.1 _) ?_))
 obtain⟨wb,hwb⟩:∃wb,wb=(((w.alloc (.map #[] 0)).alloc (.map #[] 0)).alloc (.map #[] 0)).alloc (Is (Lo #[Ib Ie 0] rows.length) 3):=⟨_,rfl⟩;have hst:jT w wb w.heap.size rows.length ⟨[],[],[],[]⟩:=by
  have h1:=bX.new eS w 0;have h2:=bX.new eL (w.alloc (.map #[] 0)) 0;have h3:=bX.new eP ((w.alloc (.map #[] 0)).alloc (.map #[] 0)) 0;have h4:=JZ (((w.alloc (.map #[] 0)).alloc (.map #[] 0)).alloc (.map #[] 0)) (Is (Lo #[Ib Ie 0] rows.length) 3);have s1:(w.alloc (.map #[] 0)).heap.size=w.heap.size+1:=by simp
  have s2:((w.alloc (.map #[] 0)).alloc (.map #[] 0)).heap.size=w.heap.size+1+1:=by simp
  have s3:(((w.alloc (.map #[] 0)).alloc (.map #[] 0)).alloc (.map #[] 0)).heap.size=w.heap.size+1+1+1:=by simp
  rw[s1]at h2;rw[s2]at h3;rw[s3]at h4;have f:∀(W:Im) (o:Obj),Fr (λ_=>False) W (W.alloc o):=λW o=>Fr.of_below (ae (Il _ _) o);rw[hwb];refine⟨ae (ae (ae (ae (Il _ _) _) _) _) _,Iz _,((h1.fr (f _ _) id).fr (f _ _) id).fr (f _ _) id,(h2.fr (f _ _) id).fr (f _ _) id,h3.fr (f _ _) id,?_⟩;rw[h4,iq];simp
 refine ar hwb.symm ?_;obtain⟨B,hB⟩:=MF w.heap.size;have hlo:w.heap.size<=B:=by omega
 have hst2:jT w wb B rows.length ⟨[],[],[],[]⟩:=by rw[<-hB];exact hst
 have HG:(λ(k:Nat)=>w.heap.size<=k)=(λ(k:Nat)=>w.heap.size<=k):=rfl;clear HG;have HSt:=MD hst2;have HBw:=MD hB;rw[hB];clear hwb hst hst2 hB hlo hNd;go_loopw [25] (λj wr=>∃(i:Nat) (s:RSt),j=Ib Ie i/\aa (i<=rows.length/\bo rows old=nW rows.length old (rows.drop i) i s/\nO old i s/\jT w wr B rows.length s)) (λj _=>rows.length-(Jj j).toNat)
 case atStart=>exact⟨0,_,rfl,⟨⟨ID _,rfl,nO.zero old,HSt.1⟩⟩⟩
 case round=>
  obtain⟨i,s,rfl,HL⟩:=hrel;obtain⟨hi,hfin,hI,hS⟩:=HL.1;by_cases hlt:i<rows.length
  .have hlt':(i:Int)<(rows.length:Int):=by omega
   obtain⟨r,hr⟩:∃r,rows[i]?=Ic r:=⟨_,Ig hlt⟩;obtain⟨ad,cs,had,hK,hld⟩:=ba (P:=If) HR.1 hS.b i hlt r hr 183 Tryz.underlying183 rfl qD;subst had;obtain⟨vT,rfl,AT,cT,rfl,hlT,hCT⟩:=GQ hK;have hTl:=HT.1 r (Iw hr);obtain⟨o,ho⟩:∃o,old[i]?=Ic o:=⟨_,Ig (by rw[HLen.1];exact hlt)⟩;obtain⟨adO,csO,hadO,_,hKO,hcO⟩:=b_ HO.1 i hlt o ho;subst hadO;obtain rfl:csO=[Ib Ie o]:=hKO;have vO:=ak hS.b (hcO 0 _ rfl);rw[show i*(Kd.int .i64).sz+0=i from JQ i]at vO;rw[Jc hlt,(Ip.1 hr).2]at hfin;simp only[nW]at hfin;have hst:dn old i r=(o,r.color,(r.links.length:Int)):=by unfold dn;rw[Ij,ho];rfl
   obtain⟨a,ha⟩:=ME (bN s.starts (dn old i r));have hal:=uO s.starts (dn old i r);have hag:=ej s.starts (dn old i r);rw[<-ha]at hal hag;have ha5:a.1<=5000:=by
    obtain⟨la,h1,h2⟩:=hag;rw[h1,IV]at hal;have:=hI.fewS;omega
   have HFi:=MD hfin;have HI:=MD hI;have HS:=MD hS;have HLd:=MD (show(Le 183 (ad.add (i*2))).run If wr=.ok (IA #[Ib Ie r.color,Ia AT r.links.length cT]) wr from hld);have HCT:=MD hCT;have HLt:=MD hlt;have HA:=MD ha;have HStq:=MD hst;have hTl':(r.links.length:Int)<=500:=by omega
   have ha5':(a.1:Int)<=5000:=by omega
   clear hi hfin hI hS hK hld hlT hCT hTl hcO hst ha hal hag ha5 hlt HL hr ho;go_upto_region 6 with(first
    |((with_reducible refine ai (N:=29) rfl ?_);refine av rfl 183 _ rfl (ad.add (i*2)) rfl _ HLd.1 ?_))
   obtain⟨w5,hw5⟩:∃w5,w5=wr.alloc (Is #[Ib Ie r.color,Ia AT r.links.length cT] 183):=⟨_,rfl⟩;have h11:w5.heap[wr.heap.size]?=Ic (.cells #[Ib Ie r.color,Ia AT r.links.length cT] 183 (0,0)):=by rw[hw5];exact Iu wr _
   have hb5:It wr.heap.size wr w5:=by rw[hw5];exact ae (Il _ _) _
   refine ar hw5.symm ?_;have HS5:=MD (HS.1.below hb5);have vO5:=ak hb5 vO;have c0:=(show w5.cell? ⟨wr.heap.size,0,Ih⟩=Ic (Ib Ie r.color) by rw[ah h11];rfl);have c1:=(show w5.cell? ⟨wr.heap.size,1,Ih⟩=Ic (.slice AT r.links.length cT) by rw[ah h11];rfl);have H11:=MD h11;have hg11:B+1+1+1<wr.heap.size:=aj HS.1.out;obtain⟨g11,hg⟩:=MF wr.heap.size;rw[hg]at H11 c0 c1 hg11 ⊢;have HG11:=MD hg11;clear hw5 hb5 h11 vO hg hg11;go_still_tail 11,(by kernel_rfl);refine bO rfl (kE 234 _ rfl [(0,Ib Ie o),(1,Ib Ie r.color),(2,Ib Ie (r.links.length:Int))] _ rfl (D5 _ _ _)) ?_;refine Mc ?_;obtain⟨w6,hw6⟩:=ME w5.drew;change Kg _ _ _ _ _ w5.drew;rw[<-hw6];have hb6:It w5.heap.size w5 w6:=by rw[hw6];exact aA (Il _ _)
   have HS6:=MD (HS5.1.below hb6);have H116:=MD (ag H11.1 hb6);have vO6:=ak hb6 vO5;have HN:=tw s.starts (dn old i r) B w6 HS6.1.a1;rw[<-HA.1,HStq.1]at HN;have HN:=MD (show I9 If 114 #[.map (Ic B),IA #[Ib Ie o,Ib Ie r.color,Ib Ie (r.links.length:Int)]] w6 λe w'=>e=Iv (Ib Ie (a.1:Int))/\bX eS w' B (em a.2)/\Fr (λk=>k=B) w6 w' from HN);clear hw6 hb6 vO5 c0 c1 HS5 H11;go_upto_region 8 with(first
    |(go_at_call 114;refine HN.1.mono ?_;rintro e w7 ⟨rfl,hm,hf⟩;have HS7:=MD (HS6.1.put1 hm hf);have H117:=MD ((hf.block g11 (aj H116.1) (by have:=HG11.1;omega)).trans H116.1);have HF7:=MD hf;clear hm hf))
   have c1:=(show w7.cell? ⟨g11,1,Ih⟩=Ic (.slice AT r.links.length cT) by rw[ah H117.1];rfl);go_wp2;go_loopw [47,13] (λj at_ wr=>∃(k:Nat) (q:Int×List Lk),j=Ib Ie k/\at_=Ib Ie q.1/\aa (k<=r.links.length/\iP rows.length old r.links (-1-(a.1:Int),s.links)=iP rows.length old (r.links.drop k) q/\jT w wr B rows.length ⟨a.2,q.2,s.classes,s.out⟩)) (λj _ _=>r.links.length-(Jj j).toNat)
   case atStart=>exact⟨0,(-1-(a.1:Int),s.links),rfl,rfl,⟨⟨ID _,rfl,HS7.1⟩⟩⟩
   case round=>
    obtain⟨k,q,rfl,rfl,HL⟩:=hrel;obtain⟨hk,hfin,hS⟩:=HL.1;by_cases hkl:k<r.links.length
    .have hkl':(k:Int)<(r.links.length:Int):=by omega
     obtain⟨x,hx⟩:∃x,r.links[k]?=Ic x:=⟨_,Ig hkl⟩;obtain⟨adT,csT,hadT,hKT,hldT⟩:=ba (P:=If) HCT.1 hS.b k hkl x hx 184 LX rfl lD;subst hadT;obtain rfl:csT=[Ib Ie x.1,Ib Ie x.2]:=hKT;rw[Jc hkl,(Ip.1 hx).2]at hfin;simp only[iP]at hfin;obtain⟨lk,hlk⟩:=ME (dD rows.length old q.1 x);rw[<-hlk]at hfin;have HLk:=MD hlk;have HFi2:=MD hfin;have HS8:=MD hS;have HLdT:=MD (show(Le 184 (adT.add (k*2))).run If wr=.ok (IA #[Ib Ie x.1,Ib Ie x.2]) wr from hldT);have HKl:=MD hkl;clear hk hfin hS hldT hx hlk hkl HL;go_upto_region 11 with(first
      |((with_reducible refine ai (N:=50) rfl ?_);refine av rfl 184 _ rfl (adT.add (k*2)) rfl _ HLdT.1 ?_))
     obtain⟨w8,hw8⟩:∃w8,w8=wr.alloc (Is #[Ib Ie x.1,Ib Ie x.2] 184):=⟨_,rfl⟩;have h15:w8.heap[wr.heap.size]?=Ic (.cells #[Ib Ie x.1,Ib Ie x.2] 184 (0,0)):=by rw[hw8];exact Iu wr _
     have hS9:jT w w8 B rows.length ⟨a.2,q.2,s.classes,s.out⟩:=by rw[hw8];exact HS8.1.below (ae (Il _ _) _)
     have hg15:B+1+1+1<wr.heap.size:=aj HS8.1.out;refine ar hw8.symm ?_;have H15:=MD h15;have HS9:=MD hS9;obtain⟨g15,hg⟩:=MF wr.heap.size;rw[hg]at H15 hg15 ⊢;have HG15:=MD hg15;clear hw8 h15 hS9 hg hg15;go_upto_region 12 with(first
      |((with_reducible refine ai (N:=52) rfl ?_);refine II rfl 184 _ rfl g15 rfl 184 #[Ib Ie x.1,Ib Ie x.2] (0,0) _ H15.1 LX rfl lD ?_)
      |((with_reducible refine ai (N:=53) rfl ?_);refine aU rfl 236 _ rfl [(0,Ib Ie q.1),(1,IA #[Ib Ie x.1,Ib Ie x.2])] _ rfl (D4 _ _ _) ?_))
     obtain⟨w9,hw9⟩:∃w9,w9=w8.alloc (Is #[Ib Ie q.1,Ib Ie x.1,Ib Ie x.2,Iy Ik] 236):=⟨_,rfl⟩;have h16:w9.heap[w8.heap.size]?=Ic (.cells #[Ib Ie q.1,Ib Ie x.1,Ib Ie x.2,Iy Ik] 236 (0,0)):=by rw[hw9];exact Iu w8 _
     have hb9:It w8.heap.size w8 w9:=by rw[hw9];exact ae (Il _ _) _
     have hg16:B+1+1+1<w8.heap.size:=aj HS9.1.out;refine ar hw9.symm ?_;have H16:=MD h16;have HS10:=MD (HS9.1.below hb9);have H159:=ag H15.1 hb9;have x0:=(show w9.cell? ⟨g15,0,Ih⟩=Ic (Ib Ie x.1) by rw[ah H159];rfl);have x1:=(show w9.cell? ⟨g15,1,Ih⟩=Ic (Ib Ie x.2) by rw[ah H159];rfl);obtain⟨g16,hg⟩:=MF w8.heap.size;rw[hg]at H16 hg16 ⊢;have HG16:=MD hg16;clear hw9 h16 hb9 hg hg16 H159;obtain⟨c,hc⟩:∃c:Bool,c=decide (x.1=0/\0<=x.2/\x.2<(rows.length:Int)):=⟨_,rfl⟩;have HC:=MD hc;clear hc;go_cut [68]from 54 to 68 (λv wx=>v=Iy c/\w9=wx)
     case first=>
      by_cases h0:x.1=0
      .have q0:(x.1==0)=Ir:=beq_iff_eq.mpr h0
       by_cases h1:0<=x.2
       .by_cases h2:x.2<(rows.length:Int)
        .obtain rfl:c=Ir:=by rw[HC.1];exact decide_eq_true ⟨h0,h1,h2⟩
         have q1:=decide_eq_true h1;have q2:=decide_eq_true h2;clear h0;go_wp2;go_meet
         case rel=>exact⟨rfl,rfl⟩
        .obtain rfl:c=Ik:=by rw[HC.1];exact decide_eq_false (λh=>h2 h.2.2)
         have q1:=decide_eq_true h1;have q2:=decide_eq_false h2;clear h0;go_wp2;go_meet
         case rel=>exact⟨rfl,rfl⟩
       .obtain rfl:c=Ik:=by rw[HC.1];exact decide_eq_false (λh=>h1 h.2.1)
        have q1:=decide_eq_false h1;clear h0;go_wp2;go_meet
        case rel=>exact⟨rfl,rfl⟩
      .have q0:(x.1==0)=Ik:=beq_eq_false_iff_ne.mpr h0
       obtain rfl:c=Ik:=by rw[HC.1];exact decide_eq_false (λh=>h0 h.1)
       clear h0;go_wp2;go_meet
       case rel=>exact⟨rfl,rfl⟩
     case rest=>
      obtain⟨rfl,rfl⟩:=hcut;go_upto_if 68 with fail
      go_cut []from 69 to 76 (λwx=>aa (jT w wx B rows.length ⟨a.2,q.2,s.classes,s.out⟩/\wx.heap[g16]?=Ic (.cells #[Ib Ie lk.b,Ib Ie lk.k,Ib Ie lk.n,Iy lk.t] 236 (0,0))))
      case first=>
       cases c with
       |false=>
        have hlk2:=HLk.1;unfold dD at hlk2;rw[if_neg (of_decide_eq_false HC.1.symm)]at hlk2;have HL2:=MD hlk2;clear hlk2;go_wp2;go_meet
        case rel=>exact⟨⟨HS10.1,by rw[HL2.1];exact H16.1⟩⟩
       |true=>
        have hcc:=of_decide_eq_true HC.1.symm;have hlk2:=HLk.1;unfold dD at hlk2;rw[if_pos hcc]at hlk2;obtain⟨xk,xn⟩:=x;simp only at hcc hlk2 x0 x1;obtain⟨p,rfl⟩:∃p:Nat,xn=p:=⟨xn.toNat,by omega⟩;obtain rfl:xk=0:=hcc.1;have hpl:p<rows.length:=by omega
        have hpl':(p:Int)<(rows.length:Int):=by omega
        obtain⟨v,hv⟩:∃v,old[p]?=Ic v:=⟨_,Ig (by rw[HLen.1];exact hpl)⟩;rw[IC,Ij,hv,JL]at hlk2;obtain⟨ad2,cs2,e2,_,hK2,hc2⟩:=b_ HO.1 p hpl v hv;injection e2 with e2
        subst e2;obtain rfl:cs2=[Ib Ie v]:=hK2;have vP:=ak HS10.1.b (hc2 0 _ rfl);rw[show p*(Kd.int .i64).sz+0=p from JQ p]at vP;have HL2:=MD hlk2;clear hlk2 hcc hv hc2 hpl;go_wp2_with (first
         |((with_reducible refine ai (N:=74) rfl ?_);refine aU rfl 184 _ rfl [(1,Ib Ie v)] _ rfl (D7 _) ?_)
         |((with_reducible refine ap (t:=184) (p:=75) rfl ?_);refine ew rfl 184 _ _ rfl g16 1 [Ib Ie 0,Ib Ie v] rfl rfl 236 [Ib Ie q.1,Ib Ie 0,Ib Ie (p:Int),Iy Ik] [Ib Ie q.1,Ib Ie 0,Ib Ie v,Iy Ik] H16.1 lD (Nat.le_of_ble_eq_true rfl) (by simp[IH]) rfl ?_;intro wp hp hfp;have z3:=(show wp.cell? ⟨g16,3,Ih⟩=Ic (.bool Ik) by rw[aq hp];rfl);have zf:=au hp 3;have HP:=MD hp;have HFp:=MD hfp;clear hp hfp))
        go_meet
        case rel=>
         refine⟨⟨?_,by rw[HL2.1];exact aR HP.1 3 (Iy Ir)⟩⟩;have hf:=HFp.1.trans (Fr.cell (S:=λk=>k=g16) (p:=⟨g16,3,Ih⟩) rfl (Iy Ir));have hg:=HG16.1;have h:=HS10.1;have hlo:=h.lo;exact⟨Fr.below h.b hf (λk hk q=>by omega) h.b.size,h.lo,h.a1.fr hf (by omega),h.a2.fr hf (by omega),h.a3.fr hf (by omega),(hf.block _ (aj h.out) (by omega)).trans h.out⟩
      case rest=>
       obtain⟨hS11,h16⟩:=hcut.1;have HN2:=uN q.2 lk (B+1) wc hS11.a2;have HN2:=MD (show I9 If 115 #[.map (Ic (B+1)),IA #[Ib Ie lk.b,Ib Ie lk.k,Ib Ie lk.n,Iy lk.t]] wc λe w'=>e=Iv (Ib Ie ((bN q.2 lk).1:Int))/\bX eL w' (B+1) (em (bN q.2 lk).2)/\Fr (λk=>k=B+1) wc w' from HN2);obtain⟨nq,hnq⟩:=ME (bN q.2 lk);rw[<-hnq]at HN2 HFi2;have HS11:=MD hS11;have H16b:=MD h16;clear hcut hS11 h16 hnq HC;go_wp2_with (first
        |((with_reducible refine ai (N:=78) rfl ?_);refine II rfl 236 _ rfl g16 rfl 236 #[Ib Ie lk.b,Ib Ie lk.k,Ib Ie lk.n,Iy lk.t] (0,0) _ H16b.1 KO rfl DB ?_)
        |(go_at_call 115;refine HN2.1.mono ?_;rintro e w12 ⟨rfl,hm,hf⟩;have HS12:=MD (HS11.1.put2 hm hf);clear hm hf))
       go_roundw
       case rel=>exact⟨k+1,((nq.1:Int),nq.2),by go_num,rfl,⟨⟨HKl.1,HFi2.1,HS12.1⟩⟩⟩
       case measure=>have:=HKl.1;simp[Jj];omega
    .obtain rfl:k=r.links.length:=by omega
     rw[Ju (Iz _)]at hfin;have hq:iP rows.length old r.links (-1-(a.1:Int),s.links)=q:=hfin;have HN3:=yV s.classes ((a.1:Int),q.1) (B+1+1) wr hS.a3;have HN3:=MD (show I9 If 116 #[.map (Ic (B+1+1)),IA #[Ib Ie (a.1:Int),Ib Ie q.1]] wr λe w'=>e=Iv (Ib Ie ((bN s.classes ((a.1:Int),q.1)).1:Int))/\bX eP w' (B+1+1) (em (bN s.classes ((a.1:Int),q.1)).2)/\Fr (λk=>k=B+1+1) wr w' from HN3);obtain⟨nc,hnc⟩:=ME (bN s.classes ((a.1:Int),q.1));rw[<-hnc]at HN3;have hrow:oN rows.length old i r s=⟨a.2,q.2,nc.2,s.out++[(nc.1:Int)]⟩:=by
      unfold oN;simp only;rw[<-HA.1,hq,<-hnc]
     have hI2:=HI.1.row (N:=rows.length) r;have hfi:=HFi.1;rw[hrow]at hI2 hfi;have HI2:=MD hI2;have HFi3:=MD hfi;have HS8:=MD hS;have HOl:=MD HI.1.len;clear hfin hq hnc hrow hI2 hfi hS hk HL hkl;go_wp2_with (first
      |((with_reducible refine ai (N:=86) rfl ?_);refine aU rfl 138 _ rfl [(0,Ib Ie (a.1:Int)),(1,Ib Ie q.1)] _ rfl (yg _ _) ?_)
      |(go_at_call 116;refine HN3.1.mono ?_;rintro e w12 ⟨rfl,hm,hf⟩;have hS12:=HS8.1.put3 hm hf;have HS13:=MD (hS12.putO HLt.1 HOl.1 (nc.1:Int));have zf:=au hS12.out i;have zc:=(show w12.cell? ⟨B+1+1+1,i,Ih⟩=Ic (Ib Ie 0) by rw[aq hS12.out,IK,IW (by rw[HOl.1];exact Iz _),HOl.1,Nat.sub_self,Ku,if_pos (by have:=HLt.1;omega)];rfl);clear hm hf hS12))
     go_roundw
     case rel=>exact⟨i+1,_,by go_num,⟨⟨HLt.1,HFi3.1,HI2.1,HS13.1⟩⟩⟩
     case measure=>have:=HLt.1;simp[Jj];omega
  .obtain rfl:i=rows.length:=by omega
   rw[Ju (Iz _)]at hfin;have hR:bo rows old=s:=hfin;have HRd:=MD hR;have HS8:=MD hS;have HOl:=MD hI.len;clear hfin hR hS hi HL hI hlt;go_wp2_with (first
    |((with_reducible refine ai (N:=92) rfl ?_);refine dJ rfl (Ib Ie (s.classes.length:Int)) (lV (t:=231) rfl rfl (jB s.classes) HS8.1.a3 LW) ?_))
   refine IG (v:=IR #[Ia (Ic ⟨B+1+1+1,0,Ih⟩) rows.length rows.length,Ib Ie (s.classes.length:Int)]) (by simp[Lg,Tryz.results101,go_sem]) rfl ⟨B+1+1+1,by rw[HRd.1],?_,by have:=HS8.1.lo;omega,HS8.1.b⟩;have ho:=HS8.1.out;rw[HOl.1,Nat.sub_self,List.replicate_zero,JS]at ho;rw[HRd.1];exact ho
theorem GR{W:Im}{g:Nat}{L:List Int}(h:W.heap[g]?=Ic (.cells (L.map (Ib .i64)).toArray 3 (0,0)))(hl:L.length<=9223372036854775807):Kd.C (Kd.int .i64) W (Ic ⟨g,0,Ih⟩) L.length L:=by
 refine⟨rfl,hl,λ_=>⟨_,rfl,λj p hp=>⟨[Ib Ie p],rfl,rfl,λi u hu=>?_⟩⟩⟩;have hi:i=0:=by
  have:=(Ip.1 hu).1;simp at this;exact this
 subst hi;obtain rfl:=Ii hu;rw[zV,aq h,show j*(Kd.int .i64).sz+0=j from JQ j,IK,hp];rfl
theorem pU(rows:List ef)(AR:Option Addr)(cR:Nat)(w:Im)(hR:Kd.C kRR w AR rows.length rows)(hN:rows.length<=5000)(hT:∀r∈rows,r.links.length<=500) :
  I9 If 84 #[Ia AR rows.length cR] w λe w'=>∃go:Nat,e=Iv (Ia (Ic ⟨go,0,Ih⟩) rows.length rows.length)/\w'.heap[go]?=Ic (.cells ((aV rows).map (Ib .i64)).toArray 3 (0,0))/\w.heap.size<=go/\It w.heap.size w w':=by
 have hN':(rows.length:Int)<=5000:=by omega
 have HMk:=MD (run_make_row' (P:=If) 109 3 (Ib Ie 0) 8 Ms y8 rfl .i64 .i64 rows.length (by omega) (by omega));have HRd:=MD (λ(W:Im) (hb:It w.heap.size w W) (old:List Int) (AO:Option Addr) (cO:Nat) (hO:Kd.C (Kd.int .i64) W AO rows.length old) (hl:old.length=rows.length)=>tq rows old AR AO cR cO W (Kd.C_below hR hb) hO hl hN hT);clear hR hN hT;go_enter Tryz.func84,Tryz.ntmps84;go_upto_region 2 with(first
  |((with_reducible refine ai (N:=9) rfl ?_);refine gT rfl 109 _ _ rfl _ _ _ rfl rfl (HMk.1 _) ?_))
 obtain⟨wb,hwb⟩:∃wb,wb=w.alloc (Is (Lo #[Ib Ie 0] rows.length) 3):=⟨_,rfl⟩;have hbl:It w.heap.size w wb:=by rw[hwb];exact ae (Il _ _) _
 have hbk:wb.heap[w.heap.size]?=Ic (.cells ((IF rows.length 0).map (Ib .i64)).toArray 3 (0,0)):=by
  have:=JZ w (Is (Lo #[Ib Ie 0] rows.length) 3);rw[<-hwb,iq]at this;rw[List.map_replicate];exact this
 refine ar hwb.symm ?_;have HBl:=MD hbl;have HBk:=MD hbk;clear hwb hbl hbk;go_wp2
 go_loopg [3,4] (rows.length+1) (λk o m wr=>∃(go:Nat) (old:List Int) (many:Nat),o=Ia (Ic ⟨go,0,Ih⟩) rows.length rows.length/\m=Ib Ie many/\aa (iE rows k old many/\It w.heap.size w wr/\w.heap.size<=go/\wr.heap[go]?=Ic (.cells (old.map (Ib .i64)).toArray 3 (0,0))))
 case atStart=>exact⟨w.heap.size,_,0,rfl,rfl,⟨⟨iE.start rows,HBl.1,Iz _,HBk.1⟩⟩⟩
 case round=>
  obtain⟨go,old,many,rfl,rfl,HL⟩:=hrel;obtain⟨hC,hb,hgo,hbk⟩:=HL.1;obtain⟨k0,rfl⟩:∃k0,gk=k0+1:=⟨gk-1,by have:=hC.pos;omega⟩;have hO:=GR hbk (by rw[hC.len];omega);rw[hC.len]at hO;have HCl:=MD (HRd.1 wr hb old _ rows.length hO hC.len);have HC:=MD hC;have HB:=MD hb;obtain⟨n,hn⟩:=ME ((bo rows old).classes.length);rw[<-hn]at HCl;have HNn:=MD hn;by_cases he:n=many
  .subst he
   have HD:=MD (HC.1.done HNn.1.symm);clear hC hb hgo hbk hO hn HL;go_wp2_with (first
    |(go_at_call 101;refine HCl.1.mono ?_;rintro e w5 ⟨go2,rfl,hk2,hg2,hb2⟩;have HK2:=MD hk2;have HB2:=MD (af HB.1 hb2);have HG2:=MD (IT HB.1.size hg2);clear hk2 hg2 hb2))
   go_ret;exact⟨go2,rfl,by rw[<-HD.1];exact HK2.1,HG2.1,HB2.1⟩
  .have HD:=MD (HC.1.round (by rw[<-HNn.1];exact he))
   have qn:((n:Int)==(many:Int))=Ik:=beq_eq_false_iff_ne.mpr (by omega);clear hC hb hgo hbk hO hn he HL;go_wp2_with (first
    |(go_at_call 101;refine HCl.1.mono ?_;rintro e w5 ⟨go2,rfl,hk2,hg2,hb2⟩;have HK2:=MD hk2;have HB2:=MD (af HB.1 hb2);have HG2:=MD (IT HB.1.size hg2);clear hk2 hg2 hb2))
   go_roundg k0
   case measure=>omega
   case rel=>exact⟨go2,_,n,rfl,rfl,⟨⟨by rw[HNn.1];exact HD.1,HB2.1,HG2.1,HK2.1⟩⟩⟩
section
theorem oe(own:Src):∀(vs:List Src) (now:Src),br own vs now=own\/br own vs now=now\/∃v∈vs,br own vs now=v/\(v.kind=2\/v.kind=0)
 | [],now=>.inr (.inl rfl)
 |v::vs,now=>by
  unfold br;by_cases h1:v=opn
  .rw[if_pos h1]
   rcases oe own vs now with h|h|⟨u,hu,h⟩
   .exact .inl h
   .exact .inr (.inl h)
   .exact .inr (.inr ⟨u,Jm _ hu,h⟩)
  .rw[if_neg h1]
   by_cases h2:(v.kind≠2/\v.kind≠0)\/(now≠opn/\now≠v)
   .rw[if_pos h2]
    exact .inl rfl
   .rw[if_neg h2]
    have hk:v.kind=2\/v.kind=0:=by
     by_cases q:v.kind=2
     .exact .inl q
     .by_cases q2:v.kind=0
      .exact .inr q2
      .exact absurd (.inl ⟨q,q2⟩) h2
    rcases oe own vs v with h|h|⟨u,hu,h⟩
    .exact .inl h
    .exact .inr (.inr ⟨v,JH ..,h,hk⟩)
    .exact .inr (.inr ⟨u,Jm _ hu,h⟩)
structure NPl(f:List In)(c:List Bool)(S:bj)(F:List (List Src)):Prop where
 r:bi f=Ir
 s:S=aJ f c
 f:F=bD f S
section
variable{f:List In}{c:List Bool}{S:bj}{F:List (List Src)}
theorem NPl.sh(h:NPl f c S F):gS S.nodes.length F:=by rw[h.f];exact(iw f S).sh
theorem NPl.way(h:NPl f c S F):iD S.nodes/\OOk S.nodes.length S.entry:=by rw[h.s];exact gh f c
theorem NPl.nok(h:NPl f c S F):NOk f S.nodes:=by rw[h.s];exact gq (bu h.r) c
theorem NPl.n200(h:NPl f c S F):S.nodes.length<=200:=by have:=h.nok.len;have:=(bu h.r).len;omega
theorem NPl.fact(h:NPl f c S F){n l:Nat}(hn:n<S.nodes.length)(hl:l<24):dg F n l=kw l\/dg F n l=opn\/(dg F n l).kind=2\/(dg F n l).kind=0:=by
 have hf:=(iw f S).fix n l hn hl;rw[<-h.f]at hf;rw[<-hf];unfold dc;rcases oe ⟨4,(l:Int)⟩ (q_ f S F n l) opn with q|q|⟨v,_,q,k⟩
 .exact .inl q
 .exact .inr (.inl q)
 .rw[q];exact .inr (.inr k)
theorem NPl.edge(h:NPl f c S F){n:Nat}{ws:List bV}(hw:(a7 S)[n]?=Ic ws){e:bV}(he:e∈ws):∃o,dR S e=Ic o/\o.jt=(n:Int)/\OOk S.nodes.length o:=by
 obtain⟨o,h1,h2⟩:=pA S n ws hw e he;exact⟨o,h1,h2,A6 h.way.1 h.way.2 h1⟩
theorem Fm(e:bV)(l:Nat):0<=(dq f S e l).kind/\(dq f S e l).kind<=4:=by
 unfold dq dB;split
 .exact⟨by show(0:Int)<=2;decide,by show(2:Int)<=4;decide⟩
 .split
  .split
   .exact⟨by show(0:Int)<=1;decide,by show(1:Int)<=4;decide⟩
   .exact⟨by show(0:Int)<=0;decide,by show(0:Int)<=4;decide⟩
  .split
   .exact⟨by show(0:Int)<=3;decide,by show(3:Int)<=4;decide⟩
   .exact⟨by show(0:Int)<=4;decide,by show(4:Int)<=4;decide⟩
theorem NPl.src(h:NPl f c S F){n:Nat}{ws:List bV}(hw:(a7 S)[n]?=Ic ws){e:bV}(he:e∈ws){l:Nat}(hl:l<24){x:Src}(hx:x=c_ F e (dq f S e l)) :
  -1<=x.kind/\x.kind<=4/\(x.kind=4->0<=e.1/\e.1<(S.nodes.length:Int)/\0<=x.n/\x.n<24):=by
 obtain⟨o,ho,hj,hok⟩:=h.edge hw he;have hbk:=Fm (f:=f) (S:=S) e l;by_cases hk:(dq f S e l).kind=4
 .obtain⟨b1,b2,b3,b4⟩:=zN hok ho hl hk
  unfold c_ at hx;rw[if_pos hk]at hx;have hx2:x=dg F e.1.toNat (dq f S e l).n.toNat:=hx;rcases h.fact (n:=e.1.toNat) (l:=(dq f S e l).n.toNat) (by omega) (by omega)with q|q|q|q
  .rw[q]at hx2
   subst hx2;exact⟨by show(-1:Int)<=4;decide,by show(4:Int)<=4;decide,λ_=>⟨b1,b2,by show(0:Int)<=((dq f S e l).n.toNat:Int);omega,by show((dq f S e l).n.toNat:Int)<24;omega⟩⟩
  .rw[q]at hx2
   subst hx2;exact⟨by show(-1:Int)<=-1;decide,by show(-1:Int)<=4;decide,λq=>absurd q (by show ¬(-1:Int)=4;decide)⟩
  .rw[<-hx2]at q
   exact⟨by omega,by omega,λq2=>by omega⟩
  .rw[<-hx2]at q
   exact⟨by omega,by omega,λq2=>by omega⟩
 .unfold c_ at hx
  rw[if_neg hk]at hx;rw[hx];exact⟨by omega,by omega,λq=>absurd q hk⟩
end
def me(f:List In)(S:bj)(F:List (List Src))(l:Nat)(e:bV):Int×Int:=
 let x:=c_ F e (dq f S e l)
 if x.kind=4 then(0,e.1*24+x.n)else(1+x.kind,x.n)
def ko(f:List In)(S:bj)(F:List (List Src))(n l:Nat):ef:=if(dg F n l).kind=4 then⟨n,((a7 S).getD n []).map (me f S F l)⟩else⟨-1,[]⟩
def dU(f:List In)(S:bj)(F:List (List Src))(n l:Nat):List ef:=(Jy n).flatMap (λn=>(Jy 24).map (ko f S F n))++(Jy l).map (ko f S F n)
def cQ(f:List In)(S:bj)(F:List (List Src)):List ef:=dU f S F S.nodes.length 0
theorem tk(f:List In)(S:bj)(F:List (List Src))(n l:Nat):dU f S F n (l+1)=dU f S F n l++[ko f S F n l]:=by
 unfold dU;rw[Lc (n:=l),LY,Kv];rfl
theorem tm(f:List In)(S:bj)(F:List (List Src))(n:Nat):dU f S F n 24=dU f S F (n+1) 0:=by
 unfold dU;rw[Lc (n:=n),Mm,List.range_zero,La,JS];simp
theorem jy(f:List In)(S:bj)(F:List (List Src))(n l:Nat):(dU f S F n l).length=n*24+l:=by
 unfold dU;rw[IV,Jb,List.length_range];congr 1
 induction n with
 |zero=>rfl
 |succ n ih=>
  rw[Lc (n:=n),Mm,IV,ih];simp;omega
theorem pS{f:List In}{c:List Bool}{S:bj}{F:List (List Src)}(h:NPl f c S F)(n l:Nat):(ko f S F n l).links.length<=500:=by
 unfold ko;split
 .show (((a7 S).getD n []).map (me f S F l)).length<=500
  rw[Jb];by_cases hn:n<(a7 S).length
  .have:=fP h.way.1.few h.n200 _ (K8 hn)
   rw[Ij,Ig hn];simp only[JL];omega
  .rw[Ij,I0 (by omega)]
   exact ID _
 .exact ID _
theorem uq{f:List In}{c:List Bool}{S:bj}{F:List (List Src)}(h:NPl f c S F):∀r∈cQ f S F,r.links.length<=500:=by
 intro r hr;unfold cQ dU at hr;rcases J0.1 hr with hr|hr
 .obtain⟨n,_,hr⟩:=List.mem_flatMap.1 hr
  obtain⟨l,_,rfl⟩:=JM.1 hr;exact pS h n l
 .obtain⟨l,_,rfl⟩:=JM.1 hr
  exact pS h _ l
structure fi where
 op:Int
 n:Int
 args:List Src
 outs:List Int
structure kO where
 at_:Int
 from_:List Src
structure kV where
 entry:Int
 nodes:List fi
 vals:List kO
structure dl where
 cs:List Int
 ps:List (Int×Int)
def dl.add(m:dl)(c n l:Int):dl:=match jl m.cs c with
 |some _=>m
 |none=>⟨m.cs++[c],m.ps++[(n,l)]⟩
def eK(cl:List Int)(n:Int)(x:Src)(m:dl):Src×dl:=
 if x.kind=4 then(⟨4,((bN m.cs (cl.getD (n*24+x.n).toNat 0)).1:Int)⟩,m.add (cl.getD (n*24+x.n).toNat 0) n x.n)else(x,m)
def dH(cl:List Int)(F:List (List Src))(n:Nat):List Int->dl->List Src×dl
 | [],m=>([],m)
 |l::ls,m=>
  let a:=eK cl (n:Int) (dg F n l.toNat) m
  let b:=dH cl F n ls a.2
  (a.1::b.1,b.2)
def jO(f:List In)(c:List Bool)(cl:List Int)(F:List (List Src))(n:Nat)(x:aG)(m:dl):fi×dl:=
 let y:=f.getD x.at_.toNat In.zero
 if c.getD x.at_.toNat Ik=Ir then(⟨0,0,[],x.outs.map (·.jt)⟩,m)
 else
  let a:=dH cl F n (ce y) m
  (⟨y.op,if y.op=15 then y.n else 0,a.1,x.outs.map (·.jt)⟩,a.2)
def dp(f:List In)(c:List Bool)(cl:List Int)(F:List (List Src)):List aG->Nat->dl->List fi×dl
 | [],_,m=>([],m)
 |x::xs,n,m=>
  let a:=jO f c cl F n x m
  let b:=dp f c cl F xs (n+1) a.2
  (a.1::b.1,b.2)
def dL(f:List In)(S:bj)(F:List (List Src))(cl:List Int)(l:Nat):List bV->dl->List Src×dl
 | [],m=>([],m)
 |e::es,m=>
  let a:=eK cl e.1 (c_ F e (dq f S e l)) m
  let b:=dL f S F cl l es a.2
  (a.1::b.1,b.2)
def fx(f:List In)(S:bj)(F:List (List Src))(cl:List Int):Nat->Nat->dl->List kO
 |0,_,_=>[]
 |k+1,i,m=>match m.ps[i]? with
  |none=>[]
  |some p=>
   let a:=dL f S F cl p.2.toNat ((a7 S).getD p.1.toNat []) m
   ⟨p.1,a.1⟩::fx f S F cl k (i+1) a.2
def bK(f:List In):kV:=
 let c:=aZ f
 let S:=aJ f c
 let F:=bD f S
 let cl:=aV (cQ f S F)
 let a:=dp f c cl F S.nodes 0 ⟨[],[]⟩
 ⟨S.entry.jt,a.1,fx f S F cl (S.nodes.length*24+1) 0 a.2⟩
def m9(f:List In)(c:List Bool)(cl:List Int)(F:List (List Src))(n:Nat)(x:aG)(m:dl):(Int×Int×List Src)×dl:=
 if c.getD x.at_.toNat Ik=Ir then((0,0,[]),m)
 else(((f.getD x.at_.toNat In.zero).op,if(f.getD x.at_.toNat In.zero).op=15 then(f.getD x.at_.toNat In.zero).n else 0,(dH cl F n (ce (f.getD x.at_.toNat In.zero)) m).1),(dH cl F n (ce (f.getD x.at_.toNat In.zero)) m).2)
theorem oc(f:List In)(c:List Bool)(cl:List Int)(F:List (List Src))(n:Nat)(x:aG)(m:dl):jO f c cl F n x m=(⟨(m9 f c cl F n x m).1.1,(m9 f c cl F n x m).1.2.1,(m9 f c cl F n x m).1.2.2,x.outs.map (·.jt)⟩,(m9 f c cl F n x m).2):=by
 unfold jO m9;simp only;split<;>rfl
theorem yj(cl:List Int)(F:List (List Src))(n:Nat)(l:Int)(ls:List Int)(m:dl)(zs:List Src):(zs++(dH cl F n (l::ls) m).1,(dH cl F n (l::ls) m).2)=((zs++[(eK cl (n:Int) (dg F n l.toNat) m).1])++(dH cl F n ls (eK cl (n:Int) (dg F n l.toNat) m).2).1,(dH cl F n ls (eK cl (n:Int) (dg F n l.toNat) m).2).2):=by
 simp only[dH,Kv,Mj]
theorem rl(cl:List Int)(F:List (List Src))(n:Nat):∀(ls:List Int) (m:dl),(dH cl F n ls m).1.length=ls.length
 | [],_=>rfl
 |l::ls,m=>by simp only[dH,Jz];rw[rl cl F n ls]
theorem t8(f:List In)(S:bj)(F:List (List Src))(cl:List Int)(l:Nat)(e:bV)(es:List bV)(m:dl)(zs:List Src):(zs++(dL f S F cl l (e::es) m).1,(dL f S F cl l (e::es) m).2)=((zs++[(eK cl e.1 (c_ F e (dq f S e l)) m).1])++(dL f S F cl l es (eK cl e.1 (c_ F e (dq f S e l)) m).2).1,(dL f S F cl l es (eK cl e.1 (c_ F e (dq f S e l)) m).2).2):=by
 simp only[dL,Kv,Mj]
theorem tz(f:List In)(c:List Bool)(cl:List Int)(F:List (List Src))(x:aG)(xs:List aG)(n:Nat)(m:dl)(zs:List fi):(zs++(dp f c cl F (x::xs) n m).1,(dp f c cl F (x::xs) n m).2)=((zs++[(jO f c cl F n x m).1])++(dp f c cl F xs (n+1) (jO f c cl F n x m).2).1,(dp f c cl F xs (n+1) (jO f c cl F n x m).2).2):=by
 simp only[dp,Kv,Mj]
end
section
theorem qv(n l:Int)(h0:0<=n)(h1:n<=1000)(h2:0<=l)(h3:l<=1000)(w:Im):I9 If 55 #[Ib Ie n,Ib Ie l] w λe w'=>e=Iv (Ib Ie (n*24+l))/\w=w':=by
 go_enter Tryz.func55,Tryz.ntmps55;go_wp2;go_ret;exact⟨rfl,rfl⟩
def fk(vf vc:Io)(e:aX)(vN vF vA vW vC:Io):List Io:=[vf,vc]++e.cells++[vN,vF,vA,vW,vC]
section
variable{vf vc:Io}{e:aX}{vN vF vA vW vC:Io}
theorem jE(i:Nat):(fk vf vc e vN vF vA vW vC)[27+i]?=[vN,vF,vA,vW,vC][i]?:=by
 unfold fk;rw[IW (by simp[aX.len])];congr 1;simp[aX.len]
theorem tD(i:Nat)(v:Io):(fk vf vc e vN vF vA vW vC).set (27+i) v=[vf,vc]++e.cells++[vN,vF,vA,vW,vC].set i v:=by
 unfold fk;rw[List.set_append_right _ _ (by simp[aX.len])];congr 2;simp[aX.len]
end
theorem rt{α:Type}{k:Kd α}{t:Nat}{w:Im}{A:Option Addr}{n:Nat}{rows:List (List α)}(h:Kd.C (Kd.slice t k) w A n rows)(i:Nat)(h1:i<n)(row:List α)(hx:rows[i]?=Ic row) :
  ∃ad AR cR,A=Ic ad/\w.cell? (ad.add i)=Ic (.slice AR row.length cR)/\row.length<=cR/\Kd.C k w AR row.length row:=by
 obtain⟨ad,c,e1,_,hK,hc⟩:=b_ h i h1 row hx;obtain⟨AR,cR,rfl,hl,hC⟩:=hK;have:=hc 0 _ rfl;rw[show i*(Kd.slice t k).sz+0=i from JQ i]at this;exact⟨ad,AR,cR,e1,this,hl,hC⟩
structure MkR(W:Im)(gm:Nat)(f:List In)(S:bj)(F:List (List Src))(vf vc vN vC:Io)(AF AA AW:Option Addr)(cF cA cW:Nat):Prop where
 blk:W.heap[gm]?=Ic (.cells (fk vf vc S.entry vN (Ia AF S.nodes.length cF) (Ia AA S.nodes.length cA) (Ia AW S.nodes.length cW) vC).toArray 124 (0,0))
 rF:Kd.C my W AF S.nodes.length F
 rA:Kd.C np W AA S.nodes.length (fJ f S)
 rW:Kd.C (Kd.slice 151 dw) W AW S.nodes.length (a7 S)
theorem MkR.below{W W1:Im}{gm:Nat}{f:List In}{S:bj}{F:List (List Src)}{vf vc vN vC:Io}{AF AA AW:Option Addr}{cF cA cW:Nat}(h:MkR W gm f S F vf vc vN vC AF AA AW cF cA cW)(hb:It W.heap.size W W1):MkR W1 gm f S F vf vc vN vC AF AA AW cF cA cW:=⟨ag h.blk hb,Kd.C_below h.rF hb,Kd.C_below h.rA hb,Kd.C_below h.rW hb⟩
theorem sd(f:List In)(c:List Bool)(S:bj)(F:List (List Src))(hP:NPl f c S F)(gm:Nat)(vf vc vN vC:Io)(AF AA AW:Option Addr)(cF cA cW:Nat)(n k l:Nat)(ws:List bV)(hws:(a7 S)[n]?=Ic ws)(e:bV)(he:ws[k]?=Ic e)(hl:l<24)(w:Im)(hM:MkR w gm f S F vf vc vN vC AF AA AW cF cA cW) :
  I9 If 57 #[Iq (Ic ⟨gm,0,Ih⟩),Ib Ie (n:Int),Ib Ie (k:Int),Ib Ie (l:Int)] w λr w'=>r=Iv (IA #[Ib Ie (c_ F e (dq f S e l)).kind,Ib Ie (c_ F e (dq f S e l)).n])/\It w.heap.size w w':=by
 have hnw:n<S.nodes.length:=by have:=(Ip.1 hws).1;rwa[iW]at this
 have hkw:=(Ip.1 he).1;have hws4:=fP hP.way.1.few hP.n200 ws (Iw hws);have hal:(fJ f S)[n]?=Ic (ws.map (ex f S)):=by unfold fJ;rw[IK,hws];rfl
 obtain⟨adA,AB,cB,rfl,a0,_,hCB⟩:=rt hM.rA n hnw _ hal;rw[Jb]at a0 hCB;have hre:(ws.map (ex f S))[k]?=Ic (ex f S e):=by rw[IK,he];rfl
 obtain⟨adB,AR,cR,rfl,b0,_,hCR⟩:=rt hCB k hkw _ hre;have hrl:(ex f S e).length=24:=by simp[ex]
 rw[hrl]at b0 hCR;obtain⟨x,hx⟩:=ME (dq f S e l);have hxe:(ex f S e)[l]?=Ic x:=by unfold ex;rw[IK,KW hl,hx];rfl
 obtain⟨adR,csR,rfl,hKR,_⟩:=fl (P:=If) hCR l hl x hxe 135 IN rfl aK;have HLdR:=MD (λ(W:Im) (hb:It w.heap.size w W)=>show(Le 135 (adR.add (l*2))).run If W=.ok (IA #[Ib Ie x.kind,Ib Ie x.n]) W by
  obtain⟨a3,c3,q1,q2,q3⟩:=fl (P:=If) (Kd.C_below hCR hb) l hl x hxe 135 IN rfl aK;injection q1 with q1
  subst q1;obtain rfl:c3=[Ib Ie x.kind,Ib Ie x.n]:=q2;exact q3)
 have m29:=(show w.cell? ⟨gm,29,Ih⟩=Ic (.slice (Ic adA) S.nodes.length cA) by rw[aq hM.blk];exact jE 2);have hgm:=aj hM.blk;have hn':(n:Int)<(S.nodes.length:Int):=by omega
 have hk':(k:Int)<(ws.length:Int):=by omega
 have hl':(l:Int)<24:=by omega
 have hws':(ws.length:Int)<=401:=by omega
 have hn200':(S.nodes.length:Int)<=200:=by have:=hP.n200;omega
 have HP:=MD hP;have HX:=MD hx;have HM:=MD hM;have HWs:=MD hws;have HE:=MD he;have HKR:=MD hrl;rw[<-hx];obtain⟨v,hv⟩:=ME (c_ F e x);rw[<-hv];have HV:=MD hv;have bA:=J8 w _ a0;have bB:=J8 w _ b0;clear hP hnw hkw hws4 hal hCB hre hCR hrl hxe hx hM hws he hv hKR;go_enter Tryz.func57,Tryz.ntmps57;go_upto_region 1 with fail
 obtain⟨wa,hwa⟩:∃wa,wa=w.alloc (Is #[Ib Ie 0,Ib Ie 0] 135):=⟨_,rfl⟩;have hba:It w.heap.size w wa:=by rw[hwa];exact ae (Il _ _) _
 have h8:wa.heap[w.heap.size]?=Ic (.cells #[Ib Ie 0,Ib Ie 0] 135 (0,0)):=by rw[hwa];exact Iu w _
 refine ar hwa.symm ?_;have m29a:=ak hba m29;have a0a:=ak hba a0;have b0a:=ak hba b0;have HBa:=MD hba;have H8:=MD h8;clear hwa hba h8 m29 a0 b0 bA bB;go_upto_region 2 with(first
  |((with_reducible refine ai (N:=22) rfl ?_);refine av rfl 135 _ rfl (adR.add (l*2)) rfl _ (HLdR.1 wa HBa.1) ?_))
 obtain⟨w6,hw6⟩:∃w6,w6=wa.alloc (Is #[Ib Ie x.kind,Ib Ie x.n] 135):=⟨_,rfl⟩;have hb6:It wa.heap.size wa w6:=by rw[hw6];exact ae (Il _ _) _
 have h9:w6.heap[wa.heap.size]?=Ic (.cells #[Ib Ie x.kind,Ib Ie x.n] 135 (0,0)):=by rw[hw6];exact Iu wa _
 have hg9:w.heap.size<wa.heap.size:=aj H8.1;refine ar hw6.symm ?_;have HB6:=MD (af HBa.1 hb6);have H86:=MD (ag H8.1 hb6);have H9:=MD h9;obtain⟨g9,hg⟩:=MF wa.heap.size;rw[hg]at H9 hg9 ⊢;have x0:=(show w6.cell? ⟨g9,0,Ih⟩=Ic (Ib Ie x.kind) by rw[ah H9.1];rfl);have x1:=(show w6.cell? ⟨g9,1,Ih⟩=Ic (Ib Ie x.n) by rw[ah H9.1];rfl);have HG9:=MD hg9;clear hw6 hb6 h9 hg m29a a0a b0a hg9 HBa H8;go_upto_if 25 with fail
 go_cut []from 26 to 46 (λwx=>aa (It w.heap.size w wx/\wx.heap[w.heap.size]?=Ic (.cells #[Ib Ie 0,Ib Ie 0] 135 (0,0))/\wx.heap[g9]?=Ic (.cells #[Ib Ie v.kind,Ib Ie v.n] 135 (0,0))))
 case first=>
  by_cases h4:x.kind=4
  .obtain⟨o,ho,hoj,hok⟩:=HP.1.edge HWs.1 (Iw HE.1)
   obtain⟨b1,b2,b3,b4⟩:=zN hok ho hl (by rw[<-HX.1];exact h4);rw[<-HX.1]at b3 b4;obtain⟨e1,e2⟩:=e;simp only at b1 b2;obtain⟨m,rfl⟩:∃m:Nat,e1=m:=⟨e1.toNat,by omega⟩;obtain⟨xk,xn⟩:=x;simp only at b3 b4 h4 x0 x1;obtain rfl:xk=4:=h4;obtain⟨q,rfl⟩:∃q:Nat,xn=q:=⟨xn.toNat,by omega⟩;have hmN:m<S.nodes.length:=by omega
   have hm':(m:Int)<(S.nodes.length:Int):=by omega
   have hq':(q:Int)<24:=by omega
   have hM6:=HM.1.below HB6.1;obtain⟨row,hrow⟩:∃row,F[m]?=Ic row:=⟨_,Ig (by rw[HP.1.sh.len];exact hmN)⟩;have hr24:row.length=24:=HP.1.sh.row row (Iw hrow);obtain⟨adF,AR2,cR2,rfl,f0,_,hCF⟩:=rt hM6.rF m hmN _ hrow;rw[hr24]at f0 hCF;obtain⟨adW,AE,cE,rfl,w0,_,hCE⟩:=rt hM6.rW n (by omega) _ HWs.1;obtain⟨s,hs⟩:∃s,row[q]?=Ic s:=⟨_,Ig (by omega)⟩;obtain⟨adS,csS,rfl,hKS,hldS⟩:=fl (P:=If) (Kd.C_below hCF (aA (Il _ _))) q (by omega) s hs 135 IN rfl aK;obtain rfl:csS=[Ib Ie s.kind,Ib Ie s.n]:=hKS;obtain⟨adE,csE,eE,_,hKE,hcE⟩:=b_ hCE k (Ip.1 HE.1).1 _ HE.1;subst eE;obtain rfl:csE=[Ib Ie (m:Int),Ib Ie e2]:=hKE;have e0:=hcE 0 _ rfl;rw[show k*dw.sz+0=k*2 from rfl]at e0;have m28:=(show w6.cell? ⟨gm,28,Ih⟩=Ic (.slice (Ic adF) S.nodes.length cF) by rw[aq hM6.blk];exact jE 1);have m30:=(show w6.cell? ⟨gm,30,Ih⟩=Ic (.slice (Ic adW) S.nodes.length cW) by rw[aq hM6.blk];exact jE 3);have hvs:v=s:=by
    rw[HV.1];unfold c_;rw[if_pos rfl];simp only[IC];rw[Ij (l:=F),hrow];simp only[JL];rw[Ij,hs];rfl
   have HVs:=MD hvs;have HLdS:=MD hldS;clear hr24 hCF hCE hs hldS hcE hM6 hrow hvs ho hoj hok hmN b1 b2 b3 b4;go_upto_region 3 with fail
   go_still_tail 21,(by kernel_rfl);refine bO rfl (ao rfl rfl HLdS.1) ?_;refine Mc ?_;refine an (W:=w6.drew) rfl 135 _ _ rfl g9 #[Ib Ie s.kind,Ib Ie s.n] rfl rfl 135 #[Ib Ie 4,Ib Ie (q:Int)] H9.1 aK rfl (by simp[IH]) ?_;intro w8 h8 hf8;rw[<-HVs.1]at h8;have hf:=(Fr.drew (S:=λk=>k=g9) (a:=w6)).trans hf8;have HB8:=MD (Fr.below HB6.1 hf (λk hk h=>by have:=HG9.1;omega) HB6.1.size);have H88:=MD ((hf.block w.heap.size (aj H86.1) (by have:=HG9.1;omega)).trans H86.1);have H98:=MD h8;clear h8 hf8 hf;go_wp2;go_meet
   case rel=>exact⟨⟨HB8.1,H88.1,H98.1⟩⟩
  .have q4:(x.kind==4)=Ik:=beq_eq_false_iff_ne.mpr h4
   have HV2:=MD (show v=x by rw[HV.1,c_,if_neg h4]);clear h4;go_wp2;go_meet
   case rel=>exact⟨⟨HB6.1,H86.1,by rw[HV2.1];exact H9.1⟩⟩
 case rest=>
  obtain⟨hB7,h87,h97⟩:=hcut.1;have HB7:=MD hB7;have H87:=MD h87;have H97:=MD h97;clear hcut hB7 h87 h97;go_wp2_with (first
   |((with_reducible refine ai (N:=47) rfl ?_);refine II rfl 135 _ rfl g9 rfl 135 #[Ib Ie v.kind,Ib Ie v.n] (0,0) _ H97.1 IN rfl aK ?_)
   |((with_reducible refine ap (t:=135) (p:=8) rfl ?_);refine an rfl 135 _ _ rfl w.heap.size #[Ib Ie v.kind,Ib Ie v.n] rfl rfl 135 #[Ib Ie 0,Ib Ie 0] H87.1 aK rfl (by simp[IH]) ?_;intro w9 h9 hf9;have H99:=MD h9;have F9:=MD hf9;clear h9 hf9))
  exact IG (v:=IA #[Ib Ie v.kind,Ib Ie v.n]) (IX rfl _ _ w.heap.size 135 #[Ib Ie v.kind,Ib Ie v.n] (0,0) _ rfl H99.1 IN rfl aK) rfl ⟨rfl,Fr.below HB7.1 F9.1 (λk hk h=>by omega) HB7.1.size⟩
end
section
theorem Ay:(If.info? 183).map (λi=>(i.zero,i.size,i.bytes))=Ic (Ic (.agg #[Ib Ie 0,Ia Ih 0 0]),2,32):=by kernel_rfl
theorem EY:(If.info? 184).map (λi=>(i.zero,i.size,i.bytes))=Ic (Ic (.agg #[Ib Ie 0,Ib Ie 0]),2,16):=by kernel_rfl
theorem jk{t q:Nat}(h:q∈t::dw.E):q=t:=IS.1 h
structure tX(w W:Im)(vR:Io)(L:List ef):Prop where
 b:It w.heap.size w W
 r:Kd.R kRR 183 W w.heap.size (λj=>w.heap.size<=j) vR L
structure ma(w W:Im)(g5:Nat)(c:Int)(vT:Io)(ls:List (Int×Int))(vR:Io)(L:List ef):Prop where
 b:It w.heap.size w W
 lo:w.heap.size<=g5
 g:W.heap[g5]?=Ic (.cells #[Ib Ie c,vT] 183 (0,0))
 t:Kd.R dw 184 W w.heap.size (λj=>w.heap.size<=j) vT ls
 r:Kd.R kRR 183 W w.heap.size (λj=>(w.heap.size<=j/\j≠g5)/\Ic j≠vT.ownBlock) vR L
section
variable{w W W1:Im}{g5:Nat}{c:Int}{vT vR:Io}{ls:List (Int×Int)}{L:List ef}
theorem tX.below(h:tX w W vR L)(hb:It W.heap.size W W1):tX w W1 vR L:=⟨af h.b hb,Kd.R_below h.r hb⟩
theorem ma.below(h:ma w W g5 c vT ls vR L)(hb:It W.heap.size W W1):ma w W1 g5 c vT ls vR L:=⟨af h.b hb,h.lo,ag h.g hb,Kd.R_below h.t hb,Kd.R_below h.r hb⟩
theorem tX.open_(h:tX w W vR L)(c:Int):ma w (W.alloc (Is #[Ib Ie c,Ia Ih 0 0] 183)) W.heap.size c (Ia Ih 0 0) [] vR L:=
 have hb:=ae (Il W.heap.size W) (Is #[Ib Ie c,Ia Ih 0 0] 183)
 ⟨af h.b hb,h.b.size,Iu W _,Kd.R_nil _ _ _ _ _,Kd.R_mono (Kd.R_below (Kd.R_elderB h.r W.heap.size (Iz _)) hb) (λk hk=>⟨hk,by simp[IQ]⟩)⟩
theorem ma.color(h:ma w W g5 c vT ls vR L)(d:Int):ma w (W.setCell ⟨g5,0,Ih⟩ (Ib Ie d)) g5 d vT ls vR L:=
 have hlo:=h.lo
 ⟨Fr.below h.b (Fr.cell (S:=λk=>k=g5) rfl _) (λk hk q=>by omega) h.b.size,h.lo,aR (L:=[_,_]) h.g 0 _,Kd.R_set h.t h.g (λq hq=>by have:=jk hq;omega) 0 _,Kd.R_far h.r (p:=⟨g5,0,Ih⟩) (λk hk=>hk.1.2) _⟩
theorem ma.app(h:ma w W g5 c vT ls vR L){v1:Io}{x:Int×Int}(hR:Kd.R dw 184 W1 w.heap.size (λj=>w.heap.size<=j) v1 (ls++[x]))(hb:It w.heap.size w W1)(hg:W.grownBy W1 vT.ownBlock)(hat:v1.ownBlock=vT.ownBlock\/∃b,v1.ownBlock=Ic b/\W.heap.size<=b):ma w (W1.setCell ⟨g5,1,Ih⟩ v1) g5 c v1 (ls++[x]) vR L:=by
 have hlo:=h.lo;have hne:=Kd.R_ne h.t h.g (by decide);have hg1:=(hg.block g5 (aj h.g) hne).trans h.g;exact⟨Fr.below hb (Fr.cell (S:=λk=>k=g5) rfl _) (λk hk q=>by omega) hb.size,h.lo,aR (L:=[_,_]) hg1 1 _,Kd.R_set hR hg1 (λq hq=>by have:=jk hq;omega) 1 _,Kd.R_far (Kd.R_after h.r hg hat) (p:=⟨g5,1,Ih⟩) (λk hk=>hk.1.2) _⟩
theorem ma.rowM(h:ma w W g5 c vT ls vR L):kRR.M W w.heap.size (λj=>w.heap.size<=j/\Ic j≠vR.ownBlock) ⟨c,ls⟩ [Ib Ie c,vT]:=
 ⟨[Ib Ie c],[vT],rfl,rfl,vT,rfl,Kd.R_apartR h.t h.r (λq hq=>by have:=jk hq;omega)⟩
theorem ma.rows(h:ma w W g5 c vT ls vR L):Kd.R kRR 183 W w.heap.size (λj=>w.heap.size<=j) vR L:=Kd.R_mono h.r (λk hk=>hk.1.1)
end
end
theorem D8(n:Int):If.built 183 [(0,Ib Ie n)]=Ic #[Ib Ie n,Ia Ih 0 0]:=by kernel_rfl
theorem BP(f:List In)(c:List Bool)(S:bj)(F:List (List Src))(hP:NPl f c S F)(gm:Nat)(vf vc:Io)(AN AF AA AW:Option Addr)(cN cF cA cW:Nat)(w:Im)(hM:MkR w gm f S F vf vc (Ia AN S.nodes.length cN) (Ia Ih 0 0) AF AA AW cF cA cW) :
  I9 If 53 #[Iq (Ic ⟨gm,0,Ih⟩)] w λr w'=>r=Iv (IR #[])/\∃go:Nat,w'.heap[gm]?=Ic (.cells (fk vf vc S.entry (Ia AN S.nodes.length cN) (Ia AF S.nodes.length cF) (Ia AA S.nodes.length cA) (Ia AW S.nodes.length cW) (Ia (Ic ⟨go,0,Ih⟩) (S.nodes.length*24) (S.nodes.length*24))).toArray 124 (0,0))/\w'.heap[go]?=Ic (.cells ((aV (cQ f S F)).map (Ib .i64)).toArray 3 (0,0))/\w.heap.size<=go/\Fr (λk=>k=gm) w w':=by
 have hn200:=hP.n200;have hn200':(S.nodes.length:Int)<=200:=by omega
 have hgm:=aj hM.blk;have m27:=(show w.cell? ⟨gm,27,Ih⟩=Ic (.slice AN S.nodes.length cN) by rw[aq hM.blk];exact jE 0);have HP:=MD hP;have HM:=MD hM;have HGm:=MD hgm;clear hP hM;go_enter Tryz.func53,Tryz.ntmps53;go_wp2;go_loopw [16,2] (λj v2 wr=>∃n:Nat,j=Ib Ie n/\aa (n<=S.nodes.length/\tX w wr v2 (dU f S F n 0))) (λj _ _=>S.nodes.length-(Jj j).toNat)
 case atStart=>exact⟨0,rfl,⟨⟨ID _,⟨Il _ _,Kd.R_nil _ _ _ _ _⟩⟩⟩⟩
 case round=>
  obtain⟨n,rfl,HL⟩:=hrel;obtain⟨hn,hS⟩:=HL.1;by_cases hlt:n<S.nodes.length
  .have hlt':(n:Int)<(S.nodes.length:Int):=by omega
   have HS:=MD hS;have HLt:=MD hlt;clear hn hS hlt HL;go_upto_region 5 with fail
   go_loopw [19,2] (λj v2 wr=>∃l:Nat,j=Ib Ie l/\aa (l<=24/\tX w wr v2 (dU f S F n l))) (λj _ _=>24-(Jj j).toNat)
   case atStart=>exact⟨0,rfl,⟨⟨ID _,HS.1⟩⟩⟩
   case round=>
    obtain⟨l,rfl,HL⟩:=hrel;obtain⟨hl,hS⟩:=HL.1;obtain⟨L,hLd⟩:=ME (dU f S F n l);rw[<-hLd]at hS;obtain⟨AR,cR,rfl⟩:=Kd.R_slice hS.r;by_cases hll:l<24
    .have hll':(l:Int)<24:=by omega
     have hLl:L.length<=5000:=by rw[hLd,jy];omega
     have hnx:dU f S F n (l+1)=L++[ko f S F n l]:=by rw[tk,<-hLd]
     have HNx:=MD hnx;have HLl:=MD hLl;have hT:=hS.open_ (n:Int);have HS2:=MD hS;clear hS hl HL hLd hnx hLl;go_upto_region 8 with(first
      |((with_reducible refine ai (N:=23) rfl ?_);refine aU rfl 183 _ rfl [(0,Ib Ie (n:Int))] _ rfl (D8 _) ?_))
     obtain⟨w5,hw5⟩:∃w5,w5=wr.alloc (Is #[Ib Ie (n:Int),Ia Ih 0 0] 183):=⟨_,rfl⟩;rw[<-hw5]at hT;refine ar hw5.symm ?_;have HT:=MD hT;have hg5:wr.heap.size<w5.heap.size:=aj hT.g;obtain⟨g5,hg⟩:=MF wr.heap.size;rw[hg]at HT hg5 ⊢;clear hw5 hT hg;have hM5:=HM.1.below HT.1.b;obtain⟨row,hrow⟩:∃row,F[n]?=Ic row:=⟨_,Ig (by rw[HP.1.sh.len];exact HLt.1)⟩;have hr24:row.length=24:=HP.1.sh.row row (Iw hrow);obtain⟨adF,AR2,cR2,rfl,f0,_,hCF⟩:=rt hM5.rF n HLt.1 _ hrow;rw[hr24]at f0 hCF;obtain⟨s,hs⟩:∃s,row[l]?=Ic s:=⟨_,Ig (by omega)⟩;obtain⟨adS,csS,eS,_,hKS,hcS⟩:=b_ hCF l hll _ hs;subst eS;obtain rfl:csS=[Ib Ie s.kind,Ib Ie s.n]:=hKS;have s0:=hcS 0 _ rfl;rw[show l*fF.sz+0=l*2 from rfl]at s0;have hgs:dg F n l=s:=by
      unfold dg;rw[Ij (l:=F),hrow];simp only[JL];rw[Ij,hs];rfl
     have m28:=(show w5.cell? ⟨gm,28,Ih⟩=Ic (.slice (Ic adF) S.nodes.length cF) by rw[aq hM5.blk];exact jE 1);have t0:=(show w5.cell? ⟨g5,0,Ih⟩=Ic (Ib Ie (n:Int)) by rw[ah HT.1.g];rfl);have HGs:=MD hgs;have HM5:=MD hM5;clear hM5 hrow hr24 hCF hs hcS hgs;by_cases h4:s.kind=4
     .have q4:(s.kind != 4)=Ik:=by rw[h4];rfl
      obtain⟨ws,hws⟩:∃ws,(a7 S)[n]?=Ic ws:=⟨_,Ig (by rw[iW];exact HLt.1)⟩;have hw4:=fP HP.1.way.1.few HP.1.n200 ws (Iw hws);have hw4':(ws.length:Int)<=401:=by omega
      obtain⟨adW,AE,cE,rfl,w0w,_,hCE⟩:=rt HM.1.rW n HLt.1 _ hws;have w0:=ak HT.1.b w0w;clear w0w;have m30:=(show w5.cell? ⟨gm,30,Ih⟩=Ic (.slice (Ic adW) S.nodes.length cW) by rw[aq HM5.1.blk];exact jE 3);have hrr:ko f S F n l=⟨(n:Int),ws.map (me f S F l)⟩:=by
       unfold ko;rw[HGs.1,if_pos h4,Ij,hws];rfl
      have HRr:=MD hrr;have HCE:=MD hCE;have HWs:=MD hws;clear h4 hrr hCE hws hw4;go_upto_region 12 with fail
      go_loopw [49] (λj wr=>∃(k:Nat) (vT:Io) (ls:List (Int×Int)),j=Ib Ie k/\aa (k<=ws.length/\ls=(ws.take k).map (me f S F l)/\ma w wr g5 (n:Int) vT ls (Ia AR L.length cR) L)) (λj _=>ws.length-(Jj j).toNat)
      case atStart=>exact⟨0,_,[],rfl,⟨⟨ID _,rfl,HT.1⟩⟩⟩
      case round=>
       obtain⟨k,vT,ls,rfl,HL⟩:=hrel;obtain⟨hk,hls,hT⟩:=HL.1;obtain⟨AT,cT,rfl⟩:=Kd.R_slice hT.t;by_cases hkl:k<ws.length
       .have hkl':(k:Int)<(ws.length:Int):=by omega
        obtain⟨e,he⟩:∃e,ws[k]?=Ic e:=⟨_,Ig hkl⟩;obtain⟨adE,csE,eE,hKE,hldE⟩:=ba (P:=If) HCE.1 hT.b k hkl e he 151 MB rfl jp;subst eE;obtain rfl:csE=e.cells:=hKE;have hFr:=λ(W:Im) (hb:It w.heap.size w W)=>sd f c S F HP.1 gm vf vc (Ia AN S.nodes.length cN) (Ia Ih 0 0) (Ic adF) AA (Ic adW) cF cA cW n k l ws HWs.1 e he hll W (HM.1.below hb);obtain⟨x,hx⟩:=ME (c_ F e (dq f S e l));obtain⟨hk1,hk2,hk4⟩:=HP.1.src HWs.1 (Iw he) hll hx;rw[<-hx]at hFr;have hls2:ls++[me f S F l e]=(ws.take (k+1)).map (me f S F l):=by
         rw[JC hkl,(Ip.1 he).2,LY,hls];rfl
        obtain⟨q,hq⟩:=ME (me f S F l e);rw[<-hq]at hls2;have hqv:q=if x.kind=4 then(0,e.1*24+x.n)else(1+x.kind,x.n):=by rw[hq,hx];rfl
        have hlsl:ls.length<=401:=by rw[hls,Jb,Kt];omega
        have HFr:=MD hFr;have HLs2:=MD hls2;have HQ:=MD hqv;have HK4:=MD hk4;have HT7:=MD hT;have HKl:=MD hkl;have HLsl:=MD hlsl;have HLdE:=MD (show(Le 151 (adE.add (k*2))).run If wr=.ok (IA #[Ib Ie e.1,Ib Ie e.2]) wr from hldE);clear hk hls hT hFr hx hls2 hq hqv hk4 hkl hldE he hlsl HL;go_upto_region 14 with(first
         |((with_reducible refine ai (N:=53) rfl ?_);refine av rfl 151 _ rfl (adE.add (k*2)) rfl _ HLdE.1 ?_))
        obtain⟨w13,hw13⟩:∃w13,w13=wr.alloc (Is #[Ib Ie e.1,Ib Ie e.2] 151):=⟨_,rfl⟩;have hT13:ma w w13 g5 (n:Int) (Ia AT ls.length cT) ls (Ia AR L.length cR) L:=by rw[hw13];exact HT7.1.below (ae (Il _ _) _)
        have h7:w13.heap[wr.heap.size]?=Ic (.cells #[Ib Ie e.1,Ib Ie e.2] 151 (0,0)):=by rw[hw13];exact Iu wr _
        refine ar hw13.symm ?_;have HT13:=MD hT13;have H7:=MD h7;obtain⟨g7,hg⟩:=MF wr.heap.size;rw[hg]at H7 ⊢;clear hw13 hT13 h7 hg;go_upto_region 15 with(first
         |(go_at_call 57;refine(HFr.1 _ HT13.1.b).mono ?_;rintro r w14 ⟨rfl,hb⟩;have HT14:=MD (HT13.1.below hb);have H714:=MD (ag H7.1 hb);clear hb))
        obtain⟨w15,hw15⟩:∃w15,w15=w14.alloc (Is #[Ib Ie x.kind,Ib Ie x.n] 135):=⟨_,rfl⟩;have hb15:It w14.heap.size w14 w15:=by rw[hw15];exact ae (Il _ _) _
        have h8:w15.heap[w14.heap.size]?=Ic (.cells #[Ib Ie x.kind,Ib Ie x.n] 135 (0,0)):=by rw[hw15];exact Iu w14 _
        refine ar hw15.symm ?_;have HT15:=MD (HT14.1.below hb15);have H715:=MD (ag H714.1 hb15);have H8:=MD h8;obtain⟨g8,hg⟩:=MF w14.heap.size;rw[hg]at H8 ⊢;have x0:=(show w15.cell? ⟨g8,0,Ih⟩=Ic (Ib Ie x.kind) by rw[ah H8.1];rfl);have x1:=(show w15.cell? ⟨g8,1,Ih⟩=Ic (Ib Ie x.n) by rw[ah H8.1];rfl);clear hw15 hb15 h8 hg;go_upto_region 16 with fail
        obtain⟨w16,hw16⟩:∃w16,w16=w15.alloc (Is #[Ib Ie (1+x.kind),Ib Ie x.n] 184):=⟨_,rfl⟩;have hb16:It w15.heap.size w15 w16:=by rw[hw16];exact ae (Il _ _) _
        have h9:w16.heap[w15.heap.size]?=Ic (.cells #[Ib Ie (1+x.kind),Ib Ie x.n] 184 (0,0)):=by rw[hw16];exact Iu w15 _
        refine ar hw16.symm ?_;have HB16:=MD hb16;have H9:=MD h9;have h8b:=ag H8.1 hb16;have h7b:=ag H715.1 hb16;have y0:=(show w16.cell? ⟨g8,0,Ih⟩=Ic (Ib Ie x.kind) by rw[ah h8b];rfl);have y1:=(show w16.cell? ⟨g8,1,Ih⟩=Ic (Ib Ie x.n) by rw[ah h8b];rfl);have z0:=(show w16.cell? ⟨g7,0,Ih⟩=Ic (Ib Ie e.1) by rw[ah h7b];rfl);clear hw16 hb16 h9 h8b h7b x0 x1;go_upto_if 67 with fail
        go_cut []from 67 to 73 (λwx=>aa (It w15.heap.size w15 wx/\wx.heap[w15.heap.size]?=Ic (.cells #[Ib Ie q.1,Ib Ie q.2] 184 (0,0))))
        case first=>
         by_cases hk4:x.kind=4
         .have q44:(x.kind==4)=Ir:=beq_iff_eq.mpr hk4
          obtain⟨b1,b2,b3,b4⟩:=HK4.1 hk4;have hq2:=HQ.1;rw[if_pos hk4]at hq2;have HQ2:=MD hq2;have b2':e.1<=1000:=by omega
          have b4':x.n<=1000:=by omega
          clear hk4 hq2 b2 b4;go_wp2_with (first
           |(go_at_call 55;refine(qv e.1 x.n b1 b2' b3 b4' _).mono ?_;rintro r w' ⟨rfl,rfl⟩)
           |((with_reducible refine ap (t:=184) (p:=9) rfl ?_);refine an rfl 184 _ _ rfl w15.heap.size #[Ib Ie 0,Ib Ie (e.1*24+x.n)] rfl rfl 184 #[Ib Ie (1+x.kind),Ib Ie x.n] H9.1 lD rfl (by simp[IH]) ?_;intro w17 h17 hf17;have H17:=MD h17;have F17:=MD hf17;clear h17 hf17))
          go_meet
          case rel=>exact⟨⟨Fr.below HB16.1 F17.1 (λj hj h=>by omega) HB16.1.size,by rw[HQ2.1];exact H17.1⟩⟩
         .have q44:(x.kind==4)=Ik:=beq_eq_false_iff_ne.mpr hk4
          have hq2:=HQ.1;rw[if_neg hk4]at hq2;have HQ2:=MD hq2;clear hk4 hq2;go_wp2;go_meet
          case rel=>exact⟨⟨HB16.1,by rw[HQ2.1];exact H9.1⟩⟩
        case rest=>
         obtain⟨hb17,h9⟩:=hcut.1;have HT17:=MD (HT15.1.below hb17);have H97:=MD h9;have t1:=(show wc.cell? ⟨g5,1,Ih⟩=Ic (.slice AT ls.length cT) by rw[ah HT17.1.g];rfl);clear hcut hb17 h9;go_wp2_with (first
          |((with_reducible refine ai (N:=76) rfl ?_);refine II rfl 184 _ rfl w15.heap.size rfl 184 #[Ib Ie q.1,Ib Ie q.2] (0,0) _ H97.1 LX rfl lD ?_)
          |((with_reducible refine a6 (b:=.append) (xs:=#[.tmp 75,.tmp 77]) rfl ?_);at_builtin;refine Kd.R_append dw (w0:=w) w.heap.size rfl (.tmp 75) (.tmp 77) 181 184 (IA #[Ib Ie 0,Ib Ie 0]) 16 rfl Tryz.underlying181 EY rfl (by decide) (by omega) (Ia AT ls.length cT) (ls) (q) [Ib Ie q.1,Ib Ie q.2] (λj=>w.heap.size<=j) (λ_=>False) rfl rfl ?aP (λ_ hk=>hk.elim) ?aF ?aO ?aB ?aS ?aL ?_;(case aP=>exact rfl);(case aF=>exact(λb hb=>by have:=HT17.1.b.size;omega));(case aO=>exact HT17.1.t);(case aB=>exact HT17.1.b);(case aS=>exact HT17.1.b.size);(case aL=>have:=HLsl.1;omega);intro vap wap ho hb hg hat;obtain⟨A1,c1,rfl⟩:=Kd.R_slice ho;have HT18:=MD (HT17.1.app ho hb hg hat);have hgk:=(hg.block g5 (aj HT17.1.g) (Kd.R_ne HT17.1.t HT17.1.g (by decide))).trans HT17.1.g;have zc:=(show wap.cell? ⟨g5,1,Ih⟩=Ic (.slice AT ls.length cT) by rw[ah hgk];rfl);have zf:=au hgk 1;clear ho hb hg hat hgk))
         go_roundw
         case rel=>exact⟨k+1,Ia A1 (ls.length+1) c1,ls++[q],by go_num,⟨⟨HKl.1,HLs2.1,by have h:=HT18.1;rw[IV]at h;exact h⟩⟩⟩
         case measure=>have:=HKl.1;simp[Jj];omega
       .obtain rfl:k=ws.length:=by omega
        rw[Kh]at hls;have HT7:=MD hT;have HRr2:=MD (show ko f S F n l=⟨(n:Int),ls⟩ by rw[HRr.1,hls]);clear hk hls hT HL hkl;go_wp2_with (first
         |((with_reducible refine ai (N:=82) rfl ?_);refine II rfl 183 _ rfl g5 rfl 183 #[Ib Ie (n:Int),Ia AT ls.length cT] (0,0) _ HT7.1.g Tryz.underlying183 rfl qD ?_)
         |((with_reducible refine a6 (b:=.append) (xs:=#[.tmp 81,.tmp 83]) rfl ?_);at_builtin;refine Kd.R_append kRR (w0:=w) w.heap.size rfl (.tmp 81) (.tmp 83) 180 183 (IA #[Ib Ie 0,Ia Ih 0 0]) 32 rfl Tryz.underlying180 Ay rfl (by decide) (by omega) (Ia AR L.length cR) (L) ((⟨(n:Int),ls⟩:ef)) [Ib Ie (n:Int),Ia AT ls.length cT] (λj=>w.heap.size<=j) (λj=>w.heap.size<=j/\Ic j≠(Ia AR L.length cR).ownBlock) rfl rfl ?aP (λk hk=>hk) ?aF ?aO ?aB ?aS ?aL ?_;(case aP=>exact HT7.1.rowM);(case aF=>exact(λb hb=>by have:=HT7.1.b.size;omega));(case aO=>exact HT7.1.rows);(case aB=>exact HT7.1.b);(case aS=>exact HT7.1.b.size);(case aL=>have:=HLl.1;omega);intro vap wap ho hb hg hat;have HS7:=MD (show tX w wap vap (L++[(⟨(n:Int),ls⟩:ef)])from⟨hb,ho⟩);clear ho hb hg hat))
        go_roundw
        case rel=>exact⟨l+1,by go_num,⟨⟨by omega,by rw[HNx.1,HRr2.1];exact HS7.1⟩⟩⟩
        case measure=>simp[Jj];omega
     .have q4:(s.kind != 4)=Ir:=bne_iff_ne.mpr h4
      have hrr:ko f S F n l=⟨-1,[]⟩:=by unfold ko;rw[HGs.1,if_neg h4]
      have HRr:=MD hrr;have HT6:=MD (HT.1.color (-1));have zf:=au HT.1.g 0;clear h4 hrr;go_upto_region 10 with fail
      obtain⟨w6,hw6⟩:∃w6,w6=w5.setCell ⟨g5,0,Ih⟩ (Ib Ie (-1)):=⟨_,rfl⟩;rw[<-hw6]at HT6;refine ar hw6.symm ?_;clear hw6;go_wp2_with (first
       |((with_reducible refine ai (N:=38) rfl ?_);refine II rfl 183 _ rfl g5 rfl 183 #[Ib Ie (-1),Ia Ih 0 0] (0,0) _ HT6.1.g Tryz.underlying183 rfl qD ?_)
       |((with_reducible refine a6 (b:=.append) (xs:=#[.tmp 37,.tmp 39]) rfl ?_);at_builtin;refine Kd.R_append kRR (w0:=w) w.heap.size rfl (.tmp 37) (.tmp 39) 180 183 (IA #[Ib Ie 0,Ia Ih 0 0]) 32 rfl Tryz.underlying180 Ay rfl (by decide) (by omega) (Ia AR L.length cR) (L) ((⟨-1,[]⟩:ef)) [Ib Ie (-1),Ia Ih 0 0] (λj=>w.heap.size<=j) (λj=>w.heap.size<=j/\Ic j≠(Ia AR L.length cR).ownBlock) rfl rfl ?aP (λk hk=>hk) ?aF ?aO ?aB ?aS ?aL ?_;(case aP=>exact HT6.1.rowM);(case aF=>exact(λb hb=>by have:=HT6.1.b.size;omega));(case aO=>exact HT6.1.rows);(case aB=>exact HT6.1.b);(case aS=>exact HT6.1.b.size);(case aL=>have:=HLl.1;omega);intro vap wap ho hb hg hat;have HS7:=MD (show tX w wap vap (L++[(⟨-1,[]⟩:ef)])from⟨hb,ho⟩);clear ho hb hg hat))
      go_roundw
      case rel=>exact⟨l+1,by go_num,⟨⟨by omega,by rw[HNx.1,HRr.1];exact HS7.1⟩⟩⟩
      case measure=>simp[Jj];omega
    .obtain rfl:l=24:=by omega
     rw[tm]at hLd;have HS2:=MD hS;have HLd:=MD hLd;clear hS hl HL hLd;go_wp2;go_roundw
     case rel=>exact⟨n+1,by go_num,⟨⟨HLt.1,by rw[<-HLd.1];exact HS2.1⟩⟩⟩
     case measure=>have:=HLt.1;simp[Jj];omega
  .obtain rfl:n=S.nodes.length:=by omega
   obtain⟨L,hLd⟩:=ME (dU f S F S.nodes.length 0);rw[<-hLd]at hS;have hLr:cQ f S F=L:=hLd.symm;have hLl:L.length=S.nodes.length*24:=by rw[hLd,jy];omega
   obtain⟨AR,cR,hv,_,hCR⟩:=Kd.R_reads hS.r;subst hv;have hCl:=pU L AR cR wr hCR (by omega) (λr hr=>by
    rw[<-hLr]at hr;exact uq HP.1 r hr)
   have HCl:=MD hCl;have HS2:=MD hS;have HLr:=MD hLr;have HLl:=MD hLl;clear hLd hLr hLl hCR hCl hS hn HL;go_upto_region 23 with fail
   have hMr:=HM.1.below HS2.1.b;have HMr:=MD hMr;clear hMr;go_wp2_with (first
    |(go_at_call 84;refine HCl.1.mono ?_;rintro e w5 ⟨go,rfl,hk,hg,hb⟩;have hM5:=HMr.1.below hb;have zc:=(show w5.cell? ⟨gm,31,Ih⟩=Ic (.slice Ih 0 0) by rw[aq hM5.blk];exact jE 4);have zf:=au hM5.blk 31;have HM5:=MD hM5;have HK:=MD hk;have HG:=MD hg;have HB:=MD (af HS2.1.b hb);clear hk hg hb hM5))
   refine bodyPost_end (v:=IR #[]) (results_none rfl _ _ _) rfl ⟨rfl,go,?_,?_,IT HS2.1.b.size HG.1,?_⟩
   .have:=aR HM5.1.blk (27+4) (Ia (Ic ⟨go,0,Ih⟩) L.length L.length)
    rw[tD,HLl.1]at this;rw[HLl.1];exact this
   .have hne:go≠gm:=by have:=HG.1;have:=HS2.1.b.size;have:=HGm.1;omega
    rw[HLr.1];exact bp HK.1 (p:=⟨gm,31,Ih⟩) hne _
   .exact(Fr.of_below HB.1).trans (Fr.cell (S:=λk=>k=gm) (p:=⟨gm,31,Ih⟩) rfl _)
section
theorem dy{α:Type}{d:Kd α}{e base:Nat}{W W1:Im}{ok:Nat->Prop}{v:Io}{xs:List α}(h:Kd.R d e W base ok v xs){S:Nat->Prop}(hf:Fr S W W1)(hs:∀k q cells,S k->W.heap[k]?=Ic (.cells cells q (0,0))->q ∉ e::d.E):Kd.R d e W1 base ok v xs:=
 Kd.R_mono (Kd.R_step (Kd.R_bound h) (λk hk hl=>hf.block k hl (λhsk=>by obtain⟨_,_,_,q,hq,cells,hc⟩:=hk;exact hs k q cells hsk hc hq))) (λk hk=>hk.1)
theorem DC:(If.info? 138).map (λi=>(i.zero,i.size,i.bytes))=Ic (Ic (.agg #[Ib Ie 0,Ib Ie 0]),2,16):=by kernel_rfl
structure ig(W:Im)(base p4 p5 p6 gm gmap go:Nat)(cl:List Int)(vMet:Io)(m:dl):Prop where
 h4:W.heap[p4]?=Ic (.cells #[Iq (Ic ⟨gm,0,Ih⟩)] 114 (0,0))
 hc:W.cell? ⟨gm,31,Ih⟩=Ic (.slice (Ic ⟨go,0,Ih⟩) cl.length cl.length)
 ho:W.heap[go]?=Ic (.cells (cl.map (Ib .i64)).toArray 3 (0,0))
 h5:W.heap[p5]?=Ic (.cells #[.map (Ic gmap)] 132 (0,0))
 hm:bX (Ib .i64) W gmap (em m.cs)
 h6:W.heap[p6]?=Ic (.cells #[vMet] 133 (0,0))
 r:Kd.R dw 138 W base (λj=>base<=j) vMet m.ps
 len:m.ps.length=m.cs.length
 nd:m.cs.Nodup
 ty:∃cells,W.heap[gm]?=Ic (.cells cells 124 (0,0))
 sm:∀v∈m.cs,v∈cl
def SrS(gmap p6:Nat)(vMet:Io)(k:Nat):Prop:=k=gmap\/k=p6\/Ic k=vMet.ownBlock
section
variable{W W1:Im}{base p4 p5 p6 gm gmap go:Nat}{cl:List Int}{vMet:Io}{m:dl}
theorem ig.below(h:ig W base p4 p5 p6 gm gmap go cl vMet m)(hb:It W.heap.size W W1):ig W1 base p4 p5 p6 gm gmap go cl vMet m:=
 ⟨ag h.h4 hb,ak hb h.hc,ag h.ho hb,ag h.h5 hb,h.hm.fr (Fr.of_below (S:=λ_=>False) hb) id,ag h.h6 hb,Kd.R_below h.r hb,h.len,h.nd,by obtain⟨c,hc⟩:=h.ty;exact⟨c,ag hc hb⟩,h.sm⟩
theorem ig.tags(h:ig W base p4 p5 p6 gm gmap go cl vMet m):∀k q cells,SrS gmap p6 vMet k->W.heap[k]?=Ic (.cells cells q (0,0))->q=133\/q=138:=by
 intro k q cells hk hc;rcases hk with rfl|rfl|hk
 .obtain⟨es,c,hb,_⟩:=h.hm
  rw[hb]at hc;simp at hc
 .rw[h.h6]at hc
  simp at hc;exact .inl hc.2.symm
 .obtain⟨cs,hcs⟩:=Kd.R_typed h.r k hk.symm
  rw[hcs]at hc;simp at hc;exact .inr hc.2.symm
theorem ig.keep(h:ig W base p4 p5 p6 gm gmap go cl vMet m)(hf:Fr (SrS gmap p6 vMet) W W1){g t:Nat}{cells:Array Io}(hg:W.heap[g]?=Ic (.cells cells t (0,0)))(h1:t≠133)(h2:t≠138):W1.heap[g]?=Ic (.cells cells t (0,0)):=
 (hf.block g (aj hg) (λhs=>by rcases h.tags g t cells hs hg with e|e;exact h1 e;exact h2 e)).trans hg
theorem ig.keepR(h:ig W base p4 p5 p6 gm gmap go cl vMet m)(hf:Fr (SrS gmap p6 vMet) W W1){α:Type}{d:Kd α}{e b:Nat}{ok:Nat->Prop}{v:Io}{xs:List α}(hr:Kd.R d e W b ok v xs)(hd:∀q∈e::d.E,q≠133/\q≠138):Kd.R d e W1 b ok v xs:=
 dy hr hf (λk q cells hs hc hq=>by rcases h.tags k q cells hs hc with e|e;exact(hd q hq).1 e;exact(hd q hq).2 e)
theorem ig.farS(h:ig W base p4 p5 p6 gm gmap go cl vMet m){S:Nat->Prop}(hS:∀k,S k->k<W.heap.size->k≠go/\∃(cells:Array Io) (t:Nat),W.heap[k]?=Ic (.cells cells t (0,0))/\t≠114/\t≠124/\t≠132/\t≠133/\t≠138)(hf:Fr S W W1):ig W1 base p4 p5 p6 gm gmap go cl vMet m:=by
 have apart:∀(k u:Nat) (cs:Array Io),W.heap[k]?=Ic (.cells cs u (0,0))->(u=114\/u=124\/u=132\/u=133\/u=138\/k=go)->W1.heap[k]?=Ic (.cells cs u (0,0)):=λk u cs hk hu=>(hf.block k (aj hk) (λe=>by
  obtain⟨h0,c2,t,h1,t1,t2,t4,t5,t6⟩:=hS k e (aj hk);rw[hk]at h1;simp at h1;obtain⟨_,h2⟩:=h1;rw[<-h2]at t1 t2 t4 t5 t6;rcases hu with q|q|q|q|q|q
  .exact t1 q
  .exact t2 q
  .exact t4 q
  .exact t5 q
  .exact t6 q
  .exact h0 q)).trans hk
 obtain⟨ct,hct⟩:=h.ty;have hct1:=apart gm 124 ct hct (.inr (.inl rfl));refine⟨apart _ _ _ h.h4 (.inl rfl),?_,apart _ _ _ h.ho (.inr (.inr (.inr (.inr (.inr rfl))))),apart _ _ _ h.h5 (.inr (.inr (.inl rfl))),h.hm.fr hf (λe=>?_),apart _ _ _ h.h6 (.inr (.inr (.inr (.inl rfl)))),dy h.r hf (λk q cs hs hc hq=>?_),h.len,h.nd,⟨ct,hct1⟩,h.sm⟩
 .have hc1:=h.hc
  rw[ah hct]at hc1;rw[ah hct1];exact hc1
 .obtain⟨es,c,hb,_⟩:=h.hm
  obtain⟨_,c2,t,h1,_⟩:=hS gmap e h.hm.lt;rw[hb]at h1;simp at h1
 .have hq2:=jk hq
  obtain⟨_,c2,t,h1,_,_,_,_,t6⟩:=hS k hs (aj hc);rw[hc]at h1;simp at h1;exact t6 (h1.2.symm.trans hq2)
theorem ig.far(h:ig W base p4 p5 p6 gm gmap go cl vMet m){g t:Nat}{cells:Array Io}(hg:W.heap[g]?=Ic (.cells cells t (0,0)))(ht:t≠114/\t≠124/\t≠3/\t≠132/\t≠133/\t≠138)(hf:Fr (λk=>k=g) W W1):ig W1 base p4 p5 p6 gm gmap go cl vMet m:=
 h.farS (λk hk _=>by
  have hk2:k=g:=hk;subst hk2;exact⟨λe=>by rw[e,h.ho]at hg;simp at hg;exact ht.2.2.1 hg.2.symm,cells,t,hg,ht.1,ht.2.1,ht.2.2.2.1,ht.2.2.2.2.1,ht.2.2.2.2.2⟩) hf
theorem ig.new(h:ig W base p4 p5 p6 gm gmap go cl vMet m){W2:Im}{v1:Io}{c n l:Int}(hm:bX (Ib .i64) W1 gmap (em (m.cs++[c])))(hf:Fr (λk=>k=gmap) W W1)(hR:Kd.R dw 138 W2 base (λj=>base<=j) v1 (m.ps++[(n,l)]))(hg:W1.grownBy W2 vMet.ownBlock)(hc:c∈cl)(hnc:c ∉ m.cs) :
  ig (W2.setCell ⟨p6,0,Ih⟩ v1) base p4 p5 p6 gm gmap go cl v1 ⟨m.cs++[c],m.ps++[(n,l)]⟩/\Fr (SrS gmap p6 vMet) W (W2.setCell ⟨p6,0,Ih⟩ v1):=by
 have hfr:Fr (SrS gmap p6 vMet) W (W2.setCell ⟨p6,0,Ih⟩ v1):=((hf.mono (λk _ e=>.inl e)).trans (Fr.grown hg (λk e=>.inr (.inr e)))).trans (Fr.cell (p:=⟨p6,0,Ih⟩) (.inr (.inl rfl)) _);have hng:gmap≠p6:=λe=>by
  obtain⟨es,c,hb,_⟩:=h.hm;rw[e,h.h6]at hb;simp at hb
 have hngv:Ic gmap≠vMet.ownBlock:=λe=>by
  obtain⟨cs,hcs⟩:=Kd.R_typed h.r gmap e.symm;obtain⟨es,c,hb,_⟩:=h.hm;rw[hcs]at hb;simp at hb
 have hn6v:Ic p6≠vMet.ownBlock:=Kd.R_ne h.r h.h6 (by decide);have h61:=(hf.block p6 (aj h.h6) (λe=>hng e.symm)).trans h.h6;have h62:=(hg.block p6 (aj h61) hn6v).trans h61;obtain⟨ct,hct⟩:=h.ty;have hgm1:=h.keep hfr hct (by decide) (by decide);refine⟨⟨h.keep hfr h.h4 (by decide) (by decide),?_,h.keep hfr h.ho (by decide) (by decide),h.keep hfr h.h5 (by decide) (by decide),?_,aR (L:=[vMet]) h62 0 _,?_,by simp[h.len],?_,⟨ct,hgm1⟩,?_⟩,hfr⟩
 .have hc1:=h.hc
  rw[ah hct]at hc1;rw[ah hgm1];exact hc1
 .have h1:=hm.moved (W':=W2) (hg.block gmap hm.lt hngv)
  exact h1.moved (Ld W2 ⟨p6,0,Ih⟩ _ gmap hng)
 .exact Kd.R_set hR h62 (λq hq=>by have:=jk hq;omega) 0 _
 .rw[List.nodup_append]
  exact⟨h.nd,by simp,λy hy z hz e=>by simp at hz;subst hz;subst e;exact hnc hy⟩
 .intro v hv
  rcases J0.1 hv with hv|hv
  .exact h.sm v hv
  .rw[IS.1 hv];exact hc
end
theorem uP(base p4 p5 p6 gm gmap go:Nat)(cl:List Int)(vMet:Io)(m:dl)(n:Int)(x:Src)(w:Im)(hS:ig w base p4 p5 p6 gm gmap go cl vMet m)(hb:base<=w.heap.size)(hl5:cl.length<=5000)(hx:x.kind=4->0<=n/\n<=199/\0<=x.n/\x.n<24/\n*24+x.n<(cl.length:Int)) :
  I9 If 54 #[Ib Ie n,IA #[Ib Ie x.kind,Ib Ie x.n],Iq (Ic ⟨p4,0,Ih⟩),Iq (Ic ⟨p5,0,Ih⟩),Iq (Ic ⟨p6,0,Ih⟩)] w λe w'=>e=Iv (IA #[Ib Ie (eK cl n x m).1.kind,Ib Ie (eK cl n x m).1.n])/\∃v1,ig w' base p4 p5 p6 gm gmap go cl v1 (eK cl n x m).2/\Fr (SrS gmap p6 vMet) w w'/\(v1.ownBlock=vMet.ownBlock\/∃b,v1.ownBlock=Ic b/\w.heap.size<=b):=by
 obtain⟨r,hr⟩:=ME (eK cl n x m);rw[<-hr];have HS:=MD hS;have HX:=MD hx;have HR:=MD hr;have HB:=MD hb;have HL5:=MD hl5;clear hS hx hr hb hl5;go_enter Tryz.func54,Tryz.ntmps54;go_upto_region 1 with fail
 obtain⟨wa,hwa⟩:∃wa,wa=(w.alloc (Is #[Ib Ie x.kind,Ib Ie x.n] 135)).alloc (Is #[Ib Ie 0,Ib Ie 0] 135):=⟨_,rfl⟩;have hba:It w.heap.size w wa:=by rw[hwa];exact ae (ae (Il _ _) _) _
 have h6:wa.heap[w.heap.size]?=Ic (.cells #[Ib Ie x.kind,Ib Ie x.n] 135 (0,0)):=by rw[hwa];exact aT (Iu w _) _
 have h7:wa.heap[w.heap.size+1]?=Ic (.cells #[Ib Ie 0,Ib Ie 0] 135 (0,0)):=by
  have:=Iu (w.alloc (Is #[Ib Ie x.kind,Ib Ie x.n] 135)) (Is #[Ib Ie 0,Ib Ie 0] 135 (0,0));rw[hwa];simpa using this
 refine ar hwa.symm ?_;have x0:=(show wa.cell? ⟨w.heap.size,0,Ih⟩=Ic (Ib Ie x.kind) by rw[ah h6];rfl);have x1:=(show wa.cell? ⟨w.heap.size,1,Ih⟩=Ic (Ib Ie x.n) by rw[ah h6];rfl);have HBa:=MD hba;have H6:=MD h6;have H7:=MD h7;have HSa:=MD (HS.1.below hba);clear hwa hba h6 h7;by_cases h4:x.kind=4
 .obtain⟨b1,b2,b3,b4,b5⟩:=HX.1 h4
  have q4:(x.kind != 4)=Ik:=by rw[h4];rfl
  obtain⟨c,hc⟩:=ME (cl.getD (n*24+x.n).toNat 0);have hcm:cl[(n*24+x.n).toNat]?=Ic c:=by rw[hc,Ij,Ig (by omega)];rfl
  have hr1:r=(⟨4,((bN m.cs c).1:Int)⟩,m.add c n x.n):=by
   rw[HR.1];unfold eK;rw[if_pos h4,<-hc]
  obtain⟨i,hi⟩:∃i:Nat,(i:Int)=n*24+x.n:=⟨(n*24+x.n).toNat,by omega⟩;rw[<-hi,IC]at hcm;have hil:i<cl.length:=by omega
  have HR1:=MD hr1;have HCm:=MD hcm;have HTh:=MD (λ(W:Im)=>(qv n x.n b1 (by omega) b3 (by omega) W).mono (λe w' (h:e=Iv (Ib Ie (n*24+x.n))/\W=w')=>(⟨h.1,h.2.symm⟩:e=Iv (Ib Ie (n*24+x.n))/\w'=W)));rw[<-hi]at HTh;have HIl:=MD hil;have hil':(i:Int)<(cl.length:Int):=by omega
  have HXm:=MD (show c∈cl from Iw hcm);clear h4 hc hcm hr1 hi hil b5;go_upto_region 3 with fail
  have c4:=(show wa.cell? ⟨p4,0,Ih⟩=Ic (.pointer (Ic ⟨gm,0,Ih⟩)) by rw[ah HSa.1.h4];rfl);have cC:=HSa.1.hc;have cO:=(show wa.cell? ⟨go,i,Ih⟩=Ic (Ib Ie c) by rw[aq HSa.1.ho,IK,HCm.1];rfl);refine KF (by kernel_rfl) (by kernel_rfl) ?_
  repeat still_step
  still_call (HTh.1 _)
  repeat still_step
  refine Mc ?_;obtain⟨wb,hwb⟩:=ME wa.drew;have hbb:It wa.heap.size wa wb:=by rw[hwb];exact aA (Il _ _)
  change(Exit.then _ _) _ _ wa.drew;rw[<-hwb];have HSb:=MD (HSa.1.below hbb);have H7b:=MD (ag H7.1 hbb);have HBb:=MD (af HBa.1 hbb);have H6b2:=ag H6.1 hbb;have x1:=(show wb.cell? ⟨w.heap.size,1,Ih⟩=Ic (Ib Ie x.n) by rw[ah H6b2];rfl);have c5:=(show wb.cell? ⟨p5,0,Ih⟩=Ic (.map (Ic gmap)) by rw[ah HSb.1.h5];rfl);have c6:=(show wb.cell? ⟨p6,0,Ih⟩=Ic vMet by rw[ah HSb.1.h6];rfl);have HZ:=MD (show ∀W,(Mr 3).run If W=.ok (Ib Ie 0) W from λW=>by kernel_rfl);have hX:=kD c m.cs;clear hwb hbb x0 c4 cC cO H6b2;cases hix:jl m.cs c with
  |some i0=>
   rw[hix]at hX;have HX2:=MD (show k7 (Ib Ie 0) (cd c (em m.cs) 0)=IR #[Ib Ie (i0:Int),Iy Ir] by rw[hX];rfl);have hr2:=HR1.1;unfold bN dl.add at hr2;rw[hix]at hr2;have HR2:=MD (show r=(⟨4,(i0:Int)⟩,m)from hr2);clear hr2 hX hix;go_wp2_with (first
    |((with_reducible refine ai (N:=28) rfl ?_);refine dt om rfl _ _ rfl Lq HSb.1.hm (Ib Ie 0) (HZ.1 _) c rfl rfl _ HX2.1 ?_)
    |((with_reducible refine ap (t:=135) (p:=7) rfl ?_);refine an rfl 135 _ _ rfl (w.heap.size+1) #[Ib Ie 4,Ib Ie (i0:Int)] rfl rfl 135 #[Ib Ie 0,Ib Ie 0] H7b.1 aK rfl (by simp[IH]) ?_;intro w9 h9 hf9;have H9:=MD h9;have F9:=MD hf9;clear h9 hf9))
   rw[HR2.1];refine IG (v:=IA #[Ib Ie 4,Ib Ie (i0:Int)]) (IX rfl _ _ (w.heap.size+1) 135 #[Ib Ie 4,Ib Ie (i0:Int)] (0,0) _ rfl H9.1 IN rfl aK) rfl ⟨rfl,vMet,?_,?_,.inl rfl⟩
   .exact HS.1.below (Fr.below HBb.1 F9.1 (λk hk h=>by omega) HBb.1.size)
   .exact Fr.of_below (Fr.below HBb.1 F9.1 (λk hk h=>by omega) HBb.1.size)
  |none=>
   rw[hix]at hX;have HX2:=MD (show k7 (Ib Ie 0) (cd c (em m.cs) 0)=IR #[Ib Ie 0,Iy Ik] by rw[hX];rfl);have HX3:=MD (show cd c (em m.cs) 0=Ih from hX);have hr2:=HR1.1;unfold bN dl.add at hr2;rw[hix]at hr2;have HR2:=MD (show r=(⟨4,(m.ps.length:Int)⟩,⟨m.cs++[c],m.ps++[(n,x.n)]⟩) by rw[HSb.1.len];exact hr2);have HNc:=MD (ot hix);have hml:m.ps.length<=5000:=by
    have:=HSb.1.nd.length_le_of_subset (λv hv=>HSb.1.sm v hv);have:=HSb.1.len;have:=HL5.1;omega
   have hml':(m.ps.length:Int)<=5000:=by omega
   have HMl:=MD hml;obtain⟨AM,cM,rfl⟩:=Kd.R_slice HSb.1.r;have HBs:=MD (show base<=wb.heap.size from IT HB.1 HBb.1.size);clear hr2 hX hix hml;go_wp2_with (first
    |((with_reducible refine ai (N:=28) rfl ?_);refine dt om rfl _ _ rfl Lq HSb.1.hm (Ib Ie 0) (HZ.1 _) c rfl rfl _ HX2.1 ?_)
    |((with_reducible refine j8 rfl ?_);refine dZ om rfl _ _ _ rfl Lq HSb.1.hm c (Ib Ie (m.ps.length:Int)) rfl rfl rfl HX3.1 ?_;intro w3 hm3 hfr3;have hgm3:∀(k t:Nat) (cs:Array Io),wb.heap[k]?=Ic (.cells cs t (0,0))->w3.heap[k]?=Ic (.cells cs t (0,0)):=(λk t cs hk=>(hfr3.block k (aj hk) (λe=>by obtain⟨es,c,hb,_⟩:=HSb.1.hm;rw[e,hb]at hk;simp at hk)).trans hk);have c63:=(show w3.cell? ⟨p6,0,Ih⟩=Ic (.slice AM m.ps.length cM) by rw[ah (hgm3 _ _ _ HSb.1.h6)];rfl);have x13:=(show w3.cell? ⟨w.heap.size,1,Ih⟩=Ic (Ib Ie x.n)from hfr3.cell_at x1 (λe=>by have h1:=HSb.1.hm;have h0:=aj (ag H6.1 (show It wa.heap.size wa wa from Il _ _));have h2:=HS.1.hm.lt;have e2:w.heap.size=gmap:=e;omega));have H73:=MD (hgm3 _ _ _ H7b.1);have R3:=MD (dy HSb.1.r hfr3 (λk q cs hs hc hq=>by obtain⟨es,c,hb,_⟩:=HSb.1.hm;have hs2:k=gmap:=hs;rw[hs2,hb]at hc;simp at hc));have M3:=MD hm3;have F3:=MD hfr3;have h63:=hgm3 _ _ _ HSb.1.h6;have H63:=MD h63;have S3:=MD (show base<=w3.heap.size from IT HBs.1 hfr3.size);clear hm3 hfr3 hgm3 h63)
    |((with_reducible refine ai (N:=42) rfl ?_);refine aU rfl 138 _ rfl [(0,Ib Ie n),(1,Ib Ie x.n)] _ rfl (yg _ _) ?_)
    |((with_reducible refine a6 (b:=.append) (xs:=#[.tmp 38,.tmp 43]) rfl ?_);at_builtin;refine Kd.R_append dw (w0:=w3) base rfl (.tmp 38) (.tmp 43) 133 138 (IA #[Ib Ie 0,Ib Ie 0]) 16 rfl Tryz.underlying133 DC rfl (by decide) (by omega) (Ia AM m.ps.length cM) (m.ps) (((n,x.n):Int×Int)) [Ib Ie n,Ib Ie x.n] (λj=>base<=j) (λ_=>False) rfl rfl ?aP (λ_ hk=>hk.elim) ?aF ?aO ?aB ?aS ?aL ?_;(case aP=>exact rfl);(case aF=>exact(λb hb=>by have:=S3.1;omega));(case aO=>exact R3.1);(case aB=>exact Il _ _);(case aS=>exact S3.1);(case aL=>have:=HMl.1;omega);intro vap wap ho hb hg hat;obtain⟨A1,c1,rfl⟩:=Kd.R_slice ho;rw[show(m.ps++[((n,x.n):Int×Int)]).length=m.ps.length+1 by simp]at ho hat;have h6k:=(hg.block p6 (aj H63.1) (Kd.R_ne R3.1 H63.1 (by decide))).trans H63.1;have z6:=(show wap.cell? ⟨p6,0,Ih⟩=Ic (.slice AM m.ps.length cM) by rw[ah h6k];rfl);have zf6:=au h6k 0;have H7k:=MD (bp ((hg.block _ (aj H73.1) (Kd.R_ne R3.1 H73.1 (by decide))).trans H73.1) (p:=⟨p6,0,Ih⟩) (λe=>by have e2:w.heap.size+1=p6:=e;have h1:=H63.1;rw[<-e2,H73.1]at h1;simp at h1) (Ia A1 (m.ps.length+1) c1));have HN:=MD (HSb.1.new (W1:=w3) (W2:=wap) (c:=c) (n:=n) (l:=x.n) (by rw[m7,<-HSb.1.len];exact M3.1) F3.1 ho hg HXm.1 HNc.1);have HAt:=MD hat;clear ho hb hg hat h6k)
    |((with_reducible refine ap (t:=135) (p:=7) rfl ?_);refine an rfl 135 _ _ rfl (w.heap.size+1) #[Ib Ie 4,Ib Ie (m.ps.length:Int)] rfl rfl 135 #[Ib Ie 0,Ib Ie 0] H7k.1 aK rfl (by simp[IH]) ?_;intro w9 h9 hf9;have H9:=MD h9;have F9:=MD hf9;clear h9 hf9))
   rw[HR2.1];refine IG (v:=IA #[Ib Ie 4,Ib Ie (m.ps.length:Int)]) (IX rfl _ _ (w.heap.size+1) 135 #[Ib Ie 4,Ib Ie (m.ps.length:Int)] (0,0) _ rfl H9.1 IN rfl aK) rfl ⟨rfl,_,HN.1.1.far H7k.1 (by decide) F9.1,?_,?_⟩
   .refine⟨F9.1.os.trans (HN.1.2.os.trans HBb.1.os),F9.1.tape.trans (HN.1.2.tape.trans HBb.1.tape),F9.1.output.trans (HN.1.2.output.trans HBb.1.output),IT HBb.1.size (IT HN.1.2.size F9.1.size),λk hk hn=>?_⟩
    have h1:=HBb.1.size;have h2:=HN.1.2.size;exact(F9.1.block k (by omega) (by omega)).trans ((HN.1.2.block k (by omega) hn).trans (HBb.1.block k hk))
   .rcases HAt.1 with q|⟨b,q,hl⟩
    .exact .inl q
    .exact .inr ⟨b,q,IT HBb.1.size (IT F3.1.size hl)⟩
 .have q4:(x.kind != 4)=Ir:=bne_iff_ne.mpr h4
  have HR2:=MD (show r=(x,m) by rw[HR.1];unfold eK;rw[if_neg h4]);clear h4;go_wp2_with (first
   |((with_reducible refine ai (N:=14) rfl ?_);refine II rfl 135 _ rfl w.heap.size rfl 135 #[Ib Ie x.kind,Ib Ie x.n] (0,0) _ H6.1 IN rfl aK ?_)
   |((with_reducible refine ap (t:=135) (p:=7) rfl ?_);refine an rfl 135 _ _ rfl (w.heap.size+1) #[Ib Ie x.kind,Ib Ie x.n] rfl rfl 135 #[Ib Ie 0,Ib Ie 0] H7.1 aK rfl (by simp[IH]) ?_;intro w9 h9 hf9;have H9:=MD h9;have F9:=MD hf9;clear h9 hf9))
  rw[HR2.1];have hb9:=Fr.below HBa.1 F9.1 (λk hk h=>by omega) HBa.1.size;exact IG (v:=IA #[Ib Ie x.kind,Ib Ie x.n]) (IX rfl _ _ (w.heap.size+1) 135 #[Ib Ie x.kind,Ib Ie x.n] (0,0) _ rfl H9.1 IN rfl aK) rfl ⟨rfl,vMet,HS.1.below hb9,Fr.of_below hb9,.inl rfl⟩
end
end Go.Proofs.YtlinbehijfcelaaGreatDoor.Top
