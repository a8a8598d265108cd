/- Walks of the program, and what it computes, told plainly. No condition. (ZD ZE SB SC SD SE SF SG SH) -/
import Derived.Below
import Derived.Deep.Draws
import Derived.Deep.AppendLies
import Derived.Maps.AppendAt
import Derived.OwnWalk
import Derived.Laws.BytesArg
import Derived.Laws.MakeOwn
import Derived.Laws.OwnMore
import Derived.Deep.OwnRows
import Derived.Tactics
import Derived.Lib.ConvBytes
import Derived.Laws.Slices
import Derived.WalkKit
import Derived.KernelRfl
import Derived.RowKit3
import Derived.Deep.LoopGhost
import Derived.Deep.QuietTactic
import Derived.BigQuiet
import Derived.WideLaws
import Derived.Deep.DeepCutAuto
import Derived.Deep.CutBlock
import Derived.Deep.RegionHeld3
import Derived.Laws.Rows
import Derived.Lib.AppendStr
import Derived.ArgAppend
import Derived.Laws.IdiomCopy
import Derived.RowKit
import Derived.OrdersHeld
import Derived.Laws.BitsLemmas
import Derived.Laws.StructEq
import Derived.Test.YtlinbehijfcelaaGreatDoorProg
import Derived.Deep.WholeRow
import Derived.Laws.CopyOwn
import Derived.Carry
import Derived.ChangeKeysEq
import Derived.Laws.RangeAny
import Derived.Deep.MidRow
import Derived.Laws.Tables
import Derived.StillTailTactics
import Derived.RangeFuncNested
import Derived.RangeFuncBound
import Derived.RangeFuncCalls
import Derived.RangeFuncLeaves
import Derived.Shelf.Abstract
import Derived.Shelf.RegionOpen
import Derived.OwnWalkIn
import Derived.TacticsInMore
import Derived.LoopNIn
import Derived.LoopIn
import Derived.Test.YtlinbehijfcelaaGreatDoorPA
import Derived.Test.YtlinbehijfcelaaGreatDoorPB
import Derived.Test.YtlinbehijfcelaaGreatDoorPC
import Derived.Test.YtlinbehijfcelaaGreatDoorPD
import Derived.Test.YtlinbehijfcelaaGreatDoorPE
import Derived.Test.YtlinbehijfcelaaGreatDoorPF
import Derived.Test.YtlinbehijfcelaaGreatDoorPG
import Derived.Test.YtlinbehijfcelaaGreatDoorPI
import Derived.Test.YtlinbehijfcelaaGreatDoorPJ
import Derived.Test.YtlinbehijfcelaaGreatDoorPM
import Derived.Test.YtlinbehijfcelaaGreatDoorPN
import Derived.Test.YtlinbehijfcelaaGreatDoorPO
import Derived.Test.YtlinbehijfcelaaGreatDoorPP
import Derived.Test.YtlinbehijfcelaaGreatDoorPQ
import Derived.Test.YtlinbehijfcelaaGreatDoorPR
import Derived.Test.YtlinbehijfcelaaGreatDoorPS
set_option linter.unusedVariables false
set_option linter.unusedSimpArgs false
set_option linter.unusedSectionVars false
set_option maxHeartbeats 8000000
set_option maxRecDepth 100000
open Go.Value renaming agg->IA,bool->Iy,int->Ib,pointer->Iq,slice->Ia
open Go renaming Calls->I9,Value->Io,World->Im,bodyPost_ret->IG,heap_alloc_last->Iu,results_cell_row->IX
open Option renaming getD_some->JL,none->Ih,some->Ic
open Go.Proofs.Tryz renaming prog->If
open Bool renaming false->Ik,noConfusion->Ix,true->Ir
open List renaming all_eq_true->Jd,append_nil->JS,drop_eq_getElem_cons->Jc,eq_nil_of_length_eq_zero->LV,ext_getElem?->JN,flatMap_append->Mm,getD_eq_getElem?_getD->Ij,getElem?_append_left->Jg,getElem?_append_right->IW,getElem?_cons_succ->Kc,getElem?_cons_zero->Mn,getElem?_drop->J9,getElem?_eq_getElem->Ig,getElem?_eq_none->I0,getElem?_eq_some_iff->Ip,getElem?_map->IK,getElem?_of_mem->Kb,getElem?_range->KW,getElem?_replicate->Ku,getElem?_set->KD,getElem?_set_ne->JR,getElem_mem->K8,length_append->IV,length_cons->Jz,length_map->Jb,length_set->Jq,length_singleton->LU,map_cons->Jt,map_nil->La,mem_append->J0,mem_cons->I7,mem_cons_of_mem->Jm,mem_cons_self->JH,mem_map->JM,mem_of_getElem?->Iw,mem_or_eq_of_mem_set->KA,mem_range->Kq,mem_singleton->IS,nodup_nil->Li,not_mem_nil->JE,pairwise_iff_getElem->Ma,range->Jy,range_succ->Lc,replicate->IF,size_toArray->I8
open Go.IntKind renaming i64->Ie
open Go.Ending renaming returned->Iv
open Go.RowKit renaming Below->It,intOf->Jj
open Inhabited renaming default->Ly
open And renaming intro->IE
open Go.Obj renaming cells->Is
open Nat renaming le_refl->Iz,le_trans->IT,lt_irrefl->Mq,lt_of_lt_of_le->Kw,not_lt_zero->LG,zero_add->KB,zero_le->ID
open Array renaming all_eq_true_iff_forall_mem->Jh
open List.cons renaming injEq->Ke
open Int renaming toNat_natCast->IC
open Option.some renaming inj->Ii,injEq->Ja
open Prod.mk renaming injEq->IM
namespace Go.Proofs.YtlinbehijfcelaaGreatDoor.Top
open Go.RowKit Go.Proofs.YtlinbehijfcelaaGreatDoorW.PrintWords Go.Proofs.YtlinbehijfcelaaGreatDoorW.PrintLast
theorem DV[Inhabited Bud](a b:ByteArray)(ha:Asc a)(hb:Asc b)(la:a.size<=20000)(lb:b.size<=20000)(w:Im)(hG:Gl w)(gj ga gb gp:Nat)(vf vg:Io)(rep:List Io)(hj:JAt w gj vf vg rep)(hg2:2<=gj)(h1:w.heap[ga]?=Ic (.cells #[.string a] 9 (0,0)))(h2:w.heap[gb]?=Ic (.cells #[.string b] 9 (0,0)))(h3:w.heap[gp]?=Ic (.cells #[Iq (Ic ⟨gj,0,Ih⟩)] 51 (0,0))) :
  I9 If 15 #[Iq (Ic ⟨gp,0,Ih⟩),Iq (Ic ⟨ga,0,Ih⟩),Iq (Ic ⟨gb,0,Ih⟩)] w (Ej w gj a b rep):=by
 have HT:=MD (v9 a b ha hb la lb w hG gj vf vg rep hj hg2);have c1:=(show w.cell? ⟨ga,0,Ih⟩=Ic (.string a) by rw[ah h1];rfl);have c2:=(show w.cell? ⟨gb,0,Ih⟩=Ic (.string b) by rw[ah h2];rfl);have c3:=(show w.cell? ⟨gp,0,Ih⟩=Ic (.pointer (Ic ⟨gj,0,Ih⟩)) by rw[ah h3];rfl);clear ha hb la lb hG hj hg2 h1 h2 h3;obtain⟨Q,hQ⟩:=ME (Ej w gj a b rep);have HQ:=MD hQ;rw[<-hQ]at HT ⊢;clear hQ;go_enter Tryz.func15,Tryz.ntmps15;go_wp2_with (go_at_call 16;refine HT.1.mono ?_;intro e w1 hq;have HQ1:=MD hq;have hq2:=hq;rw[HQ.1]at hq2;obtain⟨r,_,_,_,rfl,_⟩:=hq2;clear hq HT c1 c2 c3);exact HQ1.1
theorem tc{v:Io}{n:Nat}(h:kZ v n):v.oneCell'=Ir:=by
 obtain⟨A,c,rfl⟩:=h;rfl
theorem uv{what ea:Int}{na va:Io}{eb:Int}{nb vb:Io}{tl:List Io}(h1:∃n,kZ na n)(h2:∃n,kZ va n)(h3:∃n,kZ nb n)(h4:∃n,kZ vb n)(h5:∀v∈tl,v.oneCell'=Ir):∀v∈gy what ea na va eb nb vb tl,v.oneCell'=Ir:=by
 obtain⟨_,h1⟩:=h1;obtain⟨_,h2⟩:=h2;obtain⟨_,h3⟩:=h3;obtain⟨_,h4⟩:=h4;intro v hv;unfold gy at hv;simp only[I7]at hv;rcases hv with rfl|rfl|rfl|rfl|rfl|rfl|rfl|rfl|rfl|rfl|hv
 .rfl
 .rfl
 .rfl
 .rfl
 .rfl
 .exact tc h1
 .exact tc h2
 .rfl
 .exact tc h3
 .exact tc h4
 .exact h5 v hv
theorem Es:∀v∈tl0,v.oneCell'=Ir:=λv hv=>Jd.1 (show tl0.all (·.oneCell')=Ir by kernel_rfl) v hv
structure Gs(f g:List In)(W:Im)(rep:List Io):Prop where
 len:rep.length=33
 one:∀v∈rep,v.oneCell'=Ir
 st:(bK f=bK g/\rep.head?=Ic (Ib Ie 0)/\∃v,rep[5]?=Ic v/\kZ v (bK f).nodes.length)\/
  (bK f≠bK g/\∃ea na va eb nb vb row r2,rep=gy 1 ea na va eb nb vb (Ib Ie (oI f g)::(row++r2))/\CaV W (az f g) (IA row.toArray)/\r2[10]?=Ic (Ib Ie (AI f g)))
def Fy(w:Im)(f g:List In)(e:Ending)(w':Im):Prop:=∃row,e=Iv (IA row.toArray)/\Gs f g w' row/\It w.heap.size w w'
def DSt[Inhabited Bud](w1 W:Im)(gj:Nat)(a b:ByteArray)(k:Nat):Prop:=k<=3/\Fr (λk=>k=gj) w1 W/\∃vf vg rep,JAt W gj vf vg rep/\
 ((k=0/\rep=kW 0 0 0 0)\/
  (1<=k/\k<3/\(aE a).2.2=0/\(aE b).2.2=0/\RdT kIn 49 W vf (aE a).1/\RdT kIn 49 W vg (aE b).1/\
   ((k=1/\rep=kW 0 0 0 0)\/(k=2/\bK (aE a).1≠bK (aE b).1/\∃na va nb vb,rep=gy 0 (bK (aE a).1).entry na va (bK (aE b).1).entry nb vb tl0/\kZ na (bK (aE a).1).nodes.length/\(∃n,kZ va n)/\(∃n,kZ nb n)/\(∃n,kZ vb n))))\/
  (k=3/\Gs (aE a).1 (aE b).1 W rep))
def Gw[Inhabited Bud](w1 W:Im)(gj:Nat)(a b:ByteArray):Prop:=Fr (λk=>k=gj) w1 W/\∃vf vg rep,JAt W gj vf vg rep/\Gs (aE a).1 (aE b).1 W rep
theorem jS[Inhabited Bud](a b:ByteArray)(ha:Asc a)(hb:Asc b)(la:a.size<=20000)(lb:b.size<=20000)(w:Im)(hG:Gl w)(hP:(aE a).2.2=0/\(aE b).2.2=0)(hT:bK (aE a).1≠bK (aE b).1->oI (aE a).1 (aE b).1≠0) :
  I9 If 8 #[.string a,.string b,IA #[Ib Ie (Ly:Bud).t,Ib Ie (Ly:Bud).f]] w (Fy w (aE a).1 (aE b).1):=by
 have HPT:=MD (IE hP hT)
 obtain⟨w1,hw1⟩:∃w1,w1=zU w [Is #[.string a] 9,Is #[.string b] 9,Is #[Ib Ie (Ly:Bud).t,Ib Ie (Ly:Bud).f] 24,Is (kW 0 0 0 0).toArray 39,Is (jd (Ia Ih 0 0) (Ia Ih 0 0) (kW 0 0 0 0)).toArray 53,Is #[Iq (Ic ⟨w.heap.size+1+1+1+1,0,Ih⟩)] 51,
  Is #[.func (.func 15) #[] #[Iq (Ic ⟨w.heap.size+1+1+1+1+1,0,Ih⟩),Iq (Ic ⟨w.heap.size,0,Ih⟩),Iq (Ic ⟨w.heap.size+1,0,Ih⟩)],.func (.func 17) #[Iq (Ic ⟨w.heap.size+1+1+1+1,0,Ih⟩)] #[],.func (.func 18) #[Iq (Ic ⟨w.heap.size+1+1+1+1,0,Ih⟩)] #[]] 26]:=⟨_,rfl⟩
 have hat:=eF w [Is #[.string a] 9,Is #[.string b] 9,Is #[Ib Ie (Ly:Bud).t,Ib Ie (Ly:Bud).f] 24,Is (kW 0 0 0 0).toArray 39,Is (jd (Ia Ih 0 0) (Ia Ih 0 0) (kW 0 0 0 0)).toArray 53,Is #[Iq (Ic ⟨w.heap.size+1+1+1+1,0,Ih⟩)] 51,
  Is #[.func (.func 15) #[] #[Iq (Ic ⟨w.heap.size+1+1+1+1+1,0,Ih⟩),Iq (Ic ⟨w.heap.size,0,Ih⟩),Iq (Ic ⟨w.heap.size+1,0,Ih⟩)],.func (.func 17) #[Iq (Ic ⟨w.heap.size+1+1+1+1,0,Ih⟩)] #[],.func (.func 18) #[Iq (Ic ⟨w.heap.size+1+1+1+1,0,Ih⟩)] #[]] 26]
 rw[<-hw1]at hat;have hb1:It w.heap.size w w1:=by rw[hw1];exact ev _ _
 have HW1:=MD hw1;have HAt:=MD hat;have HB1:=MD hb1;have HGl:=MD (hG.below hb1);have HG2:=MD hG.2.2.2;have HA:=MD (IE (IE ha la) (IE hb lb));clear hat hb1 hG ha hb la lb hw1 hP hT;go_enter Tryz.func8,Tryz.ntmps8;go_upto_block 0 with fail
 refine ar (show _=w1 from HW1.1.symm) ?_;clear HW1;have hat:=HAt.1;clear HAt;obtain⟨B,hB⟩:=MF w.heap.size;obtain⟨g6,hg6⟩:=MF (B+1+1+1);obtain⟨gj,hgj⟩:=MF (g6+1);obtain⟨gp,hgp⟩:=MF (gj+1);obtain⟨gs,hgs⟩:=MF (gp+1);have HGs:=MD (IE hB (IE hg6 (IE hgj (IE hgp hgs))));rw[hB,hg6,hgj,hgp]at hat;have k0:=hat 0 _ rfl;have k1:=hat 1 _ rfl;have k3:=hat 3 _ rfl;have k4:=hat 4 _ rfl;have k5:=hat 5 _ rfl;have k6:=hat 6 _ rfl;rw[show B+0=B by omega]at k0;rw[show B+3=g6 by omega]at k3;rw[show B+4=gj by omega]at k4;rw[show B+5=gp by omega]at k5;rw[show B+6=gs by omega]at k6;have K0:=MD k0;have K1:=MD k1;have K3:=MD k3;have K4:=MD (show JAt w1 gj (Ia Ih 0 0) (Ia Ih 0 0) (kW 0 0 0 0)from⟨k4,rfl⟩);have K5:=MD k5;have K6:=MD k6;rw[hB,hg6,hgj,hgp,hgs];clear hat k0 k1 k3 k4 k5 k6 hB hg6 hgj hgp hgs;go_cut []from 9 to 29 (λwx=>aa (Gw w1 wx gj a b))
 case first=>
  go_wp2;go_loopw [22] (λi wr=>∃k:Nat,i=Ib Ie k/\aa (DSt w1 wr gj a b k)) (λi _=>3-(Jj i).toNat)
  case atStart=>exact⟨0,rfl,⟨ID _,Fr.refl _ _,_,_,_,K4.1,.inl ⟨rfl,rfl⟩⟩⟩
  case round=>
   obtain⟨k,rfl,HK⟩:=hrel;obtain⟨hk,hf,vf,vg,rep,hj,hs⟩:=HK.1;have HF:=MD hf;have HJ:=MD hj;have ne:∀g,g≠gj->w1.heap[g]?=wr.heap[g]?\/¬g<w1.heap.size:=λg hg=>by
    by_cases h:g<w1.heap.size
    .exact .inl (hf.block g h hg).symm
    .exact .inr h
   have hGw:=Gl.fr HGl.1 hf ⟨by have:=HG2.1;obtain⟨e1,e2,e3,e4,e5⟩:=HGs.1;omega,by have:=HG2.1;obtain⟨e1,e2,e3,e4,e5⟩:=HGs.1;omega⟩;have h2j:2<=gj:=by have:=HG2.1;obtain⟨e1,e2,e3,e4,e5⟩:=HGs.1;omega
   have p6:=(hf.block gs (aj K6.1) (by obtain⟨e1,e2,e3,e4,e5⟩:=HGs.1;omega)).trans K6.1;rcases hs with⟨rfl,rfl⟩|⟨h1,h3,ok1,ok2,hvf,hvg,hs⟩|⟨rfl,hq⟩
   .have HC:=MD (DV a b HA.1.1.1 HA.1.2.1 HA.1.1.2 HA.1.2.2 wr hGw gj B (B+1) gp vf vg _ hj h2j ((hf.block B (aj K0.1) (by obtain⟨e1,e2,e3,e4,e5⟩:=HGs.1;omega)).trans K0.1) ((hf.block (B+1) (aj K1.1) (by obtain⟨e1,e2,e3,e4,e5⟩:=HGs.1;omega)).trans K1.1) ((hf.block gp (aj K5.1) (by obtain⟨e1,e2,e3,e4,e5⟩:=HGs.1;omega)).trans K5.1))
    have c0:=(show wr.cell? ⟨gs,0,Ih⟩=Ic (.func (.func 15) #[] #[Iq (Ic ⟨gp,0,Ih⟩),Iq (Ic ⟨B,0,Ih⟩),Iq (Ic ⟨B+1,0,Ih⟩)]) by rw[ah p6];rfl);clear hk hf hj ne hGw h2j p6 HK;go_upto_if 28 with(go_at_call 15;refine HC.1.mono ?_;rintro e w2 ⟨r,vf',vg',rep',rfl,hj',hf',ht,hn⟩;have HJ2:=MD hj';have HF2:=MD (HF.1.trans hf');have HT:=MD ht;have HN:=MD hn;clear hj' hf' ht hn c0)
    cases r with
    |false=>
     go_wp2;go_meet
     case rel=>
      obtain⟨n1,x,y,z,rfl⟩:=HN.1 (by simp);exact absurd HPT.1.1 n1
    |true=>
     go_wp2;go_roundw
     case rel=>
      obtain⟨n1,n2,n3,n4,rfl⟩:=HT.1 (by simp);exact⟨1,rfl,⟨by omega,HF2.1,_,_,_,HJ2.1,.inr (.inl ⟨by omega,by omega,n1,n2,n3,n4,.inl ⟨rfl,rfl⟩⟩)⟩⟩
     case measure=>simp[Jj]
   .have r1:=oP a ok1
    have r2:=oP b ok2;have HOk:=MD (IE ok1 ok2);have HVf:=MD (IE hvf hvg);rcases hs with⟨rfl,rfl⟩|⟨rfl,hne,na,va,nb,vb,rfl,s1,s2,s3,s4⟩
    .have HC:=MD (tS (aE a).1 (aE b).1 wr hGw gj vf vg hj h2j r1 r2 hvf hvg)
     have c0:=(show wr.cell? ⟨gs,1,Ih⟩=Ic (.func (.func 17) #[Iq (Ic ⟨gj,0,Ih⟩)] #[]) by rw[ah p6];rfl);obtain⟨r,hr⟩:∃r:Bool,r=!decide (bK (aE a).1=bK (aE b).1):=⟨_,rfl⟩;have HR:=MD hr;clear hr;clear hk hf hj ne hGw h2j p6 HK h1 h3 ok1 ok2 hvf hvg r1 r2;go_upto_if 28 with(go_at_call 17;refine HC.1.mono ?_;rintro e w2 ⟨na,va,nb,vb,he,hj',i1,i2,i3,i4,hf',hv1,hv2⟩;rw[<-HR.1]at he;subst he;have HJ2:=MD hj';have HF2:=MD (HF.1.trans hf');have HI:=MD (IE i1 (IE i2 (IE i3 i4)));have HV2:=MD (IE hv1 hv2);clear hj' hf' i1 i2 i3 i4 hv1 hv2 c0)
     cases r with
     |false=>
      have he:bK (aE a).1=bK (aE b).1:=of_decide_eq_true (by have:=HR.1;simpa using this);have HE:=MD he;clear he;go_wp2;go_meet
      case rel=>exact⟨HF2.1,_,_,_,HJ2.1,rfl,uv ⟨_,HI.1.1⟩ HI.1.2.1 HI.1.2.2.1 HI.1.2.2.2 Es,.inl ⟨HE.1,rfl,na,rfl,HI.1.1⟩⟩
     |true=>
      have he:bK (aE a).1≠bK (aE b).1:=of_decide_eq_false (by have:=HR.1;simpa using this);have HE:=MD he;clear he;go_wp2;go_roundw
      case rel=>exact⟨2,rfl,⟨by omega,HF2.1,_,_,_,HJ2.1,.inr (.inl ⟨by omega,by omega,HOk.1.1,HOk.1.2,HV2.1.1,HV2.1.2,.inr ⟨rfl,HE.1,_,_,_,_,rfl,HI.1.1,HI.1.2.1,HI.1.2.2.1,HI.1.2.2.2⟩⟩)⟩⟩
      case measure=>simp[Jj]
    .have HC:=MD (v_ (aE a).1 (aE b).1 wr hGw gj vf vg _ na va _ nb vb hj h2j r1 r2 hvf hvg (HPT.1.2 hne))
     have c0:=(show wr.cell? ⟨gs,2,Ih⟩=Ic (.func (.func 18) #[Iq (Ic ⟨gj,0,Ih⟩)] #[]) by rw[ah p6];rfl);have HE:=MD hne;have HI:=MD (IE s1 (IE s2 (IE s3 s4)));clear hk hf hj ne hGw h2j p6 HK h1 h3 ok1 ok2 hvf hvg r1 r2 hne s1 s2 s3 s4
     go_upto_if 28 with(go_at_call 18;refine HC.1.mono ?_;intro e w2 hq;obtain⟨r,rfl,hq2⟩:∃r:Bool,e=Iv (Iy r)/\Gw w1 w2 gj a b:=(by
      obtain⟨h1,e1,row,r2,j1,j2,j3,j4,j5⟩:=hq
      exact⟨_,e1,HF.1.trans h1,_,_,_,j1,j1.l,uv ⟨_,HI.1.1⟩ HI.1.2.1 HI.1.2.2.1 HI.1.2.2.2 (λv hv=>by
       rcases I7.1 hv with rfl|hv
       .rfl
       rcases J0.1 hv with hv|hv
       .exact j2.row.2.1 v hv
       .exact j4 v hv),.inr ⟨HE.1,_,_,_,_,_,_,row,r2,rfl,j2,j5⟩⟩);have HD:=MD hq2;clear hq hq2 c0)
     cases r with
     |false=>
      go_wp2;go_meet
      case rel=>exact HD
     |true=>
      go_wp2;go_roundw
      case rel=>exact⟨3,rfl,⟨by obtain⟨d1,vf,vg,rep,d2,d3⟩:=HD.1;exact⟨Iz _,d1,vf,vg,rep,d2,.inr (.inr ⟨rfl,d3⟩)⟩⟩⟩
      case measure=>simp[Jj]
   .have HD:=MD (show Gw w1 wr gj a b from⟨hf,vf,vg,rep,hj,hq⟩)
    clear hk hf hj ne hGw h2j p6 HK hq;go_wp2;go_meet
    case rel=>exact HD
 case rest=>
  obtain⟨hf,vf,vg,rep,hj,hq⟩:=hcut.1;obtain⟨w2,hw2⟩:=ME wc;rw[<-hw2]at hf hj hq hcut ⊢;have p3:=(hf.block g6 (aj K3.1) (by obtain⟨e1,e2,e3,e4,e5⟩:=HGs.1;omega)).trans K3.1;have p5:=(hf.block gp (aj K5.1) (by obtain⟨e1,e2,e3,e4,e5⟩:=HGs.1;omega)).trans K5.1;have c0:=(show w2.cell? ⟨gp,0,Ih⟩=Ic (.pointer (Ic ⟨gj,0,Ih⟩)) by rw[ah p5];rfl);have HLd:=MD (cr (P:=If) (W:=w2) hj.b 39 2 rep (by rw[hj.l];unfold jd;simp[hj.l]) _ Tryz.underlying39 rfl (by rw[hj.l];exact mB));have H3:=MD p3;have H3':=MD p3;have HQ:=MD hq;have HB2:=MD (Fr.below HB1.1 hf (λk hk e=>by obtain⟨e1,e2,e3,e4,e5⟩:=HGs.1;omega) HB1.1.size);clear hf hj hq p3 p5 hcut hw2;go_wp2_with (first
   |((with_reducible refine ai (N:=33) rfl ?_);refine ay rfl _ (ao rfl rfl HLd.1) ?_)
   |((with_reducible refine ap (t:=39) (p:=6) rfl ?_);refine an rfl 39 _ _ rfl g6 rep.toArray rfl rfl 39 (kW 0 0 0 0).toArray H3.1 (mB.trans (by rw[I8,HQ.1.len])) (by rw[I8,I8,HQ.1.len];rfl) (by rw[Jh];intro v hv;exact HQ.1.one v (by simpa using hv)) ?_;intro w3 h3 hf3;have H3:=MD h3;have HF3:=MD hf3;clear h3 hf3))
  exact IG (v:=IA rep.toArray) (IX rfl _ _ g6 39 _ (0,0) _ rfl H3.1 Tryz.underlying39 rfl (mB.trans (by rw[I8,HQ.1.len]))) rfl ⟨rep,rfl,⟨HQ.1.len,HQ.1.one,HQ.1.st.imp id (by rintro⟨q1,ea,na,va,eb,nb,vb,row,r2,q2,q3,q4⟩;exact⟨q1,ea,na,va,eb,nb,vb,row,r2,q2,q3.fr HF3.1 (λk cs fr e h=>by subst e;rw[H3'.1]at h;injection h with h;injection h with _ h;exact absurd h (by decide)),q4⟩)⟩,Fr.below HB2.1 HF3.1 (λk hk e=>by obtain⟨e1,e2,e3,e4,e5⟩:=HGs.1;omega) HB2.1.size⟩
def tx1:ByteArray:=⟨#[109,111,118,32,115,48,32,114,48,10,114,101,116,32,114,48,10]⟩
def tx2:ByteArray:=⟨#[114,101,116,32,114,48,10]⟩
def tx3:ByteArray:=⟨#[114,101,116,32,114,49,10]⟩
theorem oH:(Asc tx1/\tx1.size<=20000)/\(Asc tx2/\tx2.size<=20000)/\(Asc tx3/\tx3.size<=20000):=by
 have h:∀s:ByteArray,(Jy s.size).all (λi=>decide (bt s (i:Int)<128))=Ir->Asc s:=λs h i hi=>of_decide_eq_true (Jd.1 h i (Kq.2 hi));exact⟨⟨h _ (by decide +kernel),by decide +kernel⟩,⟨h _ (by decide +kernel),by decide +kernel⟩,⟨h _ (by decide +kernel),by decide +kernel⟩⟩
theorem w12:((aE tx1).2.2=0/\(aE tx2).2.2=0)/\bK (aE tx1).1=bK (aE tx2).1:=by decide +kernel
theorem n12:(bK (aE tx1).1).nodes.length=1:=by decide +kernel
theorem w23:((aE tx2).2.2=0/\(aE tx3).2.2=0)/\bK (aE tx2).1≠bK (aE tx3).1:=by decide +kernel
theorem t23:oI (aE tx2).1 (aE tx3).1≠0:=by decide +kernel
theorem f23:AI (aE tx2).1 (aE tx3).1=1:=by decide +kernel
theorem DD{row:List Io}{v:Io}(h:row.head?=Ic v):row[0]?=Ic v:=by rw[<-List.head?_eq_getElem?];exact h
theorem Bl(w:Im)(hG:Gl w):I9 If 6 #[] w λe w'=>e=Iv (Iy Ir)/\It w.heap.size w w':=by
 have HD1:=MD (show I9 If 8 #[.string ⟨#[109,111,118,32,115,48,32,114,48,10,114,101,116,32,114,48,10]⟩,.string ⟨#[114,101,116,32,114,48,10]⟩,IA #[Ib Ie 0,Ib Ie 0]] w (Fy w (aE tx1).1 (aE tx2).1)from @jS ⟨⟨0,0⟩⟩ tx1 tx2 oH.1.1 oH.2.1.1 oH.1.2 oH.2.1.2 w hG w12.1 (λh=>absurd w12.2 h));have HD2:=MD (λW (hG:Gl W)=>(show I9 If 8 #[.string ⟨#[114,101,116,32,114,48,10]⟩,.string ⟨#[114,101,116,32,114,49,10]⟩,IA #[Ib Ie 0,Ib Ie 0]] W (Fy W (aE tx2).1 (aE tx3).1)from @jS ⟨⟨0,0⟩⟩ tx2 tx3 oH.2.1.1 oH.2.2.1 oH.2.1.2 oH.2.2.2 W hG w23.1 (λ_=>t23)));have HG:=MD hG;clear hG;go_enter Tryz.func6,Tryz.ntmps6;go_upto_region 2 with(first
  |(go_at_call 8;refine HD1.1.mono ?_;rintro e w1 ⟨row,rfl,hq,hb⟩;have HQ1:=MD hq;have HB1:=MD hb;clear hq hb HD1)
  |((with_reducible refine ap (t:=39) (p:=1) rfl ?_);refine an rfl 39 _ _ rfl w1.heap.size row.toArray rfl rfl 39 (kW 0 0 0 0).toArray (Iu w1 _) (mB.trans (by rw[I8,HQ1.1.len])) (by rw[I8,I8,HQ1.1.len];rfl) (by rw[Jh];intro v hv;exact HQ1.1.one v (by simpa using hv)) ?_;intro w2 h2 hf2;have H2:=MD h2;have HF2:=MD (af HB1.1 (cw hf2));clear h2 hf2))
 obtain⟨g1,hg1⟩:=MF w1.heap.size;rw[hg1];have H2b:=MD (show w2.heap[g1]?=Ic (.cells row.toArray 39 (0,0)) by rw[<-hg1];exact H2.1);have HD3:=MD (HD2.1 w2 (HG.1.below HF2.1));clear hg1 H2 HD2;go_upto_region 3 with(first
  |(go_at_call 8;refine HD3.1.mono ?_;rintro e w3 ⟨row2,rfl,hq,hb⟩;have HQ2:=MD hq;have HB3:=MD hb;clear hq hb HD3)
  |((with_reducible refine ap (t:=39) (p:=2) rfl ?_);refine an rfl 39 _ _ rfl w3.heap.size row2.toArray rfl rfl 39 (kW 0 0 0 0).toArray (Iu w3 _) (mB.trans (by rw[I8,HQ2.1.len])) (by rw[I8,I8,HQ2.1.len];rfl) (by rw[Jh];intro v hv;exact HQ2.1.one v (by simpa using hv)) ?_;intro w4 h4 hf4;have H4:=MD h4;have HF4:=MD (af HB3.1 (cw hf4));clear h4 hf4))
 obtain⟨g2,hg2⟩:=MF w3.heap.size;rw[hg2];have h4:=(show w4.heap[g2]?=Ic (.cells row2.toArray 39 (0,0)) by rw[<-hg2];exact H4.1);have h2:=ag H2b.1 HF4.1;obtain⟨_,s1,v5,e5,A5,c5,rfl⟩:=HQ1.1.st.resolve_right (λh=>h.1 w12.2);obtain⟨_,ea,na,va,eb,nb,vb,r1,r2,q1,q2,q3⟩:=HQ2.1.st.resolve_left (λh=>w23.2 h.1);have a0:=(show w4.cell? ⟨g1,0,Ih⟩=Ic (Ib Ie 0) by rw[aq h2,DD s1]);rw[n12]at e5;have a5:=(show w4.cell? ⟨g1,5,Ih⟩=Ic (.slice A5 1 c5) by rw[aq h2,e5]);have b0:=(show w4.cell? ⟨g2,0,Ih⟩=Ic (Ib Ie 1) by rw[aq h4,q1];rfl)
 have b32:=(show w4.cell? ⟨g2,32,Ih⟩=Ic (Ib Ie 1) by
  rw[aq h4,q1];unfold gy;rw[f23]at q3;have:=q2.row.1;simp only[Kc];rw[IW (by omega),this];exact q3)
 have HBe:=MD (af HF2.1 HF4.1);clear h4 h2 hg2 e5 H4 H2b s1 q1 q2 q3;go_wp2;go_ret;exact⟨rfl,HBe.1⟩
def oJ(ks:List Int)(n:Nat):Sym->Prop
 |.reg r=>r<8
 |.num k=>k∈ks
 |.res p=>p<n
 |.no=>False
def kQ(ks:List Int)(n:Nat)(s:Sym):Prop:=s=.no\/oJ ks n s
theorem oJ.mono{ks:List Int}{n m:Nat}(hnm:n<=m){s:Sym}(h:oJ ks n s):oJ ks m s:=by
 cases s with
 |res p=>exact Kw h hnm
 |reg r=>exact h
 |num k=>exact h
 |no=>exact h
theorem kQ.mono{ks:List Int}{n m:Nat}(hnm:n<=m){s:Sym}(h:kQ ks n s):kQ ks m s:=h.imp id (·.mono hnm)
theorem k_{ks:List Int}{n:Nat}{L:List Sym}(h:∀s∈L,kQ ks n s)(i:Nat):kQ ks n (L.getD i .no):=by
 rw[Ij];cases e:L[i]? with
 |none=>exact .inl rfl
 |some s=>exact h s (Iw e)
theorem mT{ks:List Int}{n:Nat}{L:List Sym}(h:∀s∈L,kQ ks n s)(i:Nat){x:Sym}(hx:kQ ks n x):∀s∈L.set i x,kQ ks n s:=by
 intro s hs;rcases KA hs with hs|rfl
 .exact h s hs
 .exact hx
theorem s5(ks:List Int):∀(xs:List In) (L:List Sym) (p:Nat),(∀x∈xs,x.op=1->x.n∈ks)->(∀s∈L,kQ ks p s)->
  (∀e∈(trS xs L p).1,oJ ks (p+xs.length) e.2)/\kQ ks (p+xs.length) (trS xs L p).2/\(trS xs L p).1.length<=xs.length
 | [],L,p,_,_=>⟨λe he=>absurd he JE,.inl rfl,Iz _⟩
 |x::xs,L,p,hk,hL=>by
  have hk':∀y∈xs,y.op=1->y.n∈ks:=λy hy=>hk y (Jm _ hy);unfold trS;split
  .split
   .exact⟨λe he=>absurd he JE,.inl rfl,ID _⟩
   .rename_i hs
    have ih:=s5 ks xs (L.set x.d.toNat (.res p)) (p+1) hk' (mT (λs hs=>(hL s hs).mono (Nat.le_succ _)) _ (.inr (Nat.lt_succ_self p)));rw[show p+(x::xs).length=p+1+xs.length by simp;omega];refine⟨λe he=>?_,ih.2.1,by simpa using ih.2.2⟩;rcases I7.1 he with rfl|he
    .rcases k_ hL x.a.toNat with q|q
     .exact absurd q hs
     .exact q.mono (by omega)
    .exact ih.1 e he
  .split
   .exact⟨λe he=>absurd he JE,(k_ hL _).mono (by omega),ID _⟩
   .have hm:∀s∈jx L x,kQ ks p s:=by
     unfold jx;split
     .rename_i h1
      exact mT hL _ (.inr (hk x JH h1))
     split
     .exact mT hL _ (k_ hL _)
     split
     .exact mT (mT hL _ (k_ hL _)) _ (k_ hL _)
     .exact hL
    have ih:=s5 ks xs (jx L x) p hk' hm;refine⟨λe he=>(ih.1 e he).mono (by simp),ih.2.1.mono (by simp),Nat.le_succ_of_le ih.2.2⟩
theorem ud(ks:List Int):∀s∈ei,kQ ks 0 s:=by
 intro s hs;obtain⟨i,_,rfl⟩:=JM.1 hs;split
 .rename_i h;exact .inr h
 .exact .inl rfl
theorem sK(ks:List Int):∀(n:Nat) (a:Int),fD ks a<=n->iy ks n a ∉ ks
 |0,a,h=>by
  intro ha;have:a∈ks.filter (λk=>decide (a<=k)):=List.mem_filter.2 ⟨ha,by simp⟩;have h2:=List.length_pos_of_mem this;unfold fD at h;omega
 |n+1,a,h=>by
  unfold iy;split
  .rename_i ha
   have:=fX ha;exact sK ks n (a+1) (by omega)
  .rename_i ha
   exact ha
theorem DW(ks:List Int)(a:Int):gK ks a ∉ ks:=sK ks _ a (Iz _)
theorem oz(ks:List Int):∀(n:Nat) (a:Int),(∀d∈(bP ks n a).1,a<=d/\d<(bP ks n a).2/\d ∉ ks)/\(bP ks n a).1.Nodup
 |0,a=>⟨λd hd=>absurd hd JE,Li⟩
 |n+1,a=>by
  have ih:=oz ks n a;have hb:=(nH ks a n).1;have hd:=(Ba ks (bP ks n a).2).1;simp only[bP];refine⟨λd hd2=>?_,?_⟩
  .rcases J0.1 hd2 with q|q
   .have:=ih.1 d q
    exact⟨this.1,by omega,this.2.2⟩
   .rw[IS.1 q]
    exact⟨by omega,by omega,DW ks _⟩
  .rw[List.nodup_append]
   refine⟨ih.2,by simp,λd hd2 e he=>?_⟩;rw[IS.1 he];have:=ih.1 d hd2;omega
theorem AG{xs:List Int}(h:xs.Nodup){i j:Nat}(hi:i<xs.length)(hj:j<xs.length)(e:xs.getD i 0=xs.getD j 0):i=j:=by
 rw[Ij,Ij,Ig hi,Ig hj]at e;have hp:=Ma.1 h;simp only[JL]at e;rcases Nat.lt_trichotomy i j with q|q|q
 .exact absurd e (hp i j hi hj q)
 .exact q
 .exact absurd e.symm (hp j i hj hi q)
theorem pn{xs:List Int}{i:Nat}(hi:i<xs.length):xs.getD i 0∈xs:=by
 rw[Ij,Ig hi];exact K8 _
theorem ug{f g:List In}{s s':Sym}(hs:oJ (frK f g) (frN f g) s)(hs':oJ (frK f g) (frN f g) s')(e:(di (az f g) s).2=(di (az f g) s').2):s=s':=by
 have h1:=oz (frK f g) 8 1000003;have h2:=oz (frK f g) (frN f g) (bP (frK f g) 8 1000003).2;have l1:(az f g).r.length=8:=cI _ _ _;have l2:(az f g).ans.length=frN f g:=cI _ _ _;have key:∀r p,r<8->p<frN f g->(az f g).r.getD r 0≠(az f g).ans.getD p 0:=λr p hr hp e=>by
  have m1:=h1.1 _ (pn (xs:=(az f g).r) (by rw[l1];exact hr));have m2:=h2.1 _ (pn (xs:=(az f g).ans) (by rw[l2];exact hp));omega
 have kr:∀r k,r<8->k∈frK f g->(az f g).r.getD r 0≠k:=λr k hr hk e=>(h1.1 _ (pn (xs:=(az f g).r) (by rw[l1];exact hr))).2.2 (by rw[e];exact hk);have ka:∀p k,p<frN f g->k∈frK f g->(az f g).ans.getD p 0≠k:=λp k hp hk e=>(h2.1 _ (pn (xs:=(az f g).ans) (by rw[l2];exact hp))).2.2 (by rw[e];exact hk);cases s with
 |no=>exact absurd hs (λh=>h)
 |reg r=>cases s' with
  |no=>exact absurd hs' (λh=>h)
  |reg r'=>rw[AG h1.2 (by rw[cI];exact hs) (by rw[cI];exact hs') e]
  |num k=>exact absurd e (kr r k hs hs')
  |res p=>exact absurd e (key r p hs hs')
 |num k=>cases s' with
  |no=>exact absurd hs' (λh=>h)
  |reg r=>exact absurd e.symm (kr r k hs' hs)
  |num k'=>rw[show k=k' from e]
  |res p=>exact absurd e.symm (ka p k hs' hs)
 |res p=>cases s' with
  |no=>exact absurd hs' (λh=>h)
  |reg r=>exact absurd e.symm (key r p hs' hs)
  |num k=>exact absurd e (ka p k hs hs')
  |res p'=>rw[AG h2.2 (by rw[cI];exact hs) (by rw[cI];exact hs') e]
theorem Eg{c:Ca}(h:c.r.length=8):rj c.r=ei.map (di c):=by
 apply JN;intro i;unfold rj ei;rw[IK,IK];by_cases hi:i<8
 .rw[Jg (by simpa[h]using hi),IK,Ig (by omega),KW (by omega)]
  simp[hi,di,Ij,Ig (show i<c.r.length by omega)]
 .rw[IW (by simp[h];omega),Ku]
  by_cases h2:i<24
  .rw[if_pos (by simp[h];omega),KW h2]
   simp[hi,di]
  .rw[if_neg (by simp[h];omega),I0 (by simp;omega)]
   rfl
theorem Gg{f g:List In}:f.length<=frN f g/\g.length<=frN f g:=by unfold frN;omega
theorem rV{f:List In}(h:eh f){c:Ca}(h8:c.r.length=8)(hh:c.h=[])(ha:c.ans.length<=5000)(hf:0<=c.fuel/\c.fuel<=5000)(hn:(f.length:Int)<=c.fuel)(hm:f.length<=c.ans.length) :
  ∃t:Tr,fc f c=((t,Ik),0)/\t.evs=nC c (iF f).1 0/\t.out=qr c (iF f).2:=by
 have hr:=bu h.r;have hrun:=pN h c f 0 ei 0 c.fuel.toNat trZ (by simp) (by intro e;have:=hr.pos;rw[e]at this;exact absurd this (by decide)) (by omega) (by omega);have hb:nJ c=⟨ei.map (di c),[],((0:Nat):Int),((0:Nat):Int)⟩:=by unfold nJ;rw[Eg h8,hh];rfl
 have hro:fC f c=((jW f c.ans c.fuel.toNat (trZ,nJ c)).1,(jW f c.ans c.fuel.toNat (trZ,nJ c)).2,0):=by
  unfold fC;rw[if_pos];refine⟨h.r,?_⟩;unfold il;rw[hh];simp;omega
 rw[<-hb]at hrun;have hhow:(jW f c.ans c.fuel.toNat (trZ,nJ c)).1.out.how≠0:=by
  rw[hrun.2];unfold qr;split
  .show (2:Int)≠0;decide
  .show (1:Int)≠0;decide
 refine⟨(jW f c.ans c.fuel.toNat (trZ,nJ c)).1,?_,by rw[hrun.1];rfl,hrun.2⟩;unfold fc;rw[hro];simp[hhow]
theorem sw{c:Ca}{P:Sym->Prop}(hi:∀s s',P s->P s'->(di c s).2=(di c s').2->s=s'):∀(es fs:List (Int×Sym)) (p:Nat),(∀e∈es,P e.2)->(∀e∈fs,P e.2)->nC c es p=nC c fs p->es=fs
 | [],[],_,_,_,_=>rfl
 | [],_::_,_,_,_,h=>by simp[nC]at h
 |_::_,[],_,_,_,h=>by simp[nC]at h
 |e::es,d::ds,p,h1,h2,h=>by
  simp only[nC,Ke,Ev.mk.injEq]at h;have h3:=hi e.2 d.2 (h1 e JH) (h2 d JH) h.1.2.1;have h4:=sw hi es ds (p+1) (λx hx=>h1 x (Jm _ hx)) (λx hx=>h2 x (Jm _ hx)) h.2;rw[h4,show e=d from Prod.ext h.1.1 h3]
theorem BX(b1 b2 b3 b4:Bool):iG [Ik,b1,b2,b3,b4] 0=0↔b1=Ik/\b2=Ik/\b3=Ik/\b4=Ik:=by
 cases b1<;>cases b2<;>cases b3<;>cases b4<;>simp[iG]
theorem Cx{a b:List Ev}(h1:tV a b=Ir)(h2:tV b a=Ir):a=b:=by
 unfold tV at h1 h2;have h1:=of_decide_eq_true h1;have h2:=of_decide_eq_true h2;exact h1.eq_of_length (Nat.le_antisymm h1.length_le h2.length_le)
theorem Cw(a:List Ev):tV a a=Ir:=by unfold tV;exact decide_eq_true (List.prefix_refl a)
theorem CL{f g:List In}(hf:eh f)(hg:eh g):da f g (az f g)=((da f g (az f g)).1,0)/\((da f g (az f g)).1=0↔iF f=iF g):=by
 obtain⟨s1,s2,s3,s4⟩:=jQ (bu hf.r).len (bu hg.r).len;have l1:(az f g).r.length=8:=cI _ _ _;have l2:(az f g).ans.length=frN f g:=cI _ _ _;have l3:(az f g).fuel=(frN f g:Int):=rfl;obtain⟨hf2,hg2⟩:=Gg (f:=f) (g:=g);obtain⟨t,e1,e2,e3⟩:=rV hf l1 s1 s2 ⟨s3,s4⟩ (by omega) (by omega);obtain⟨u,d1,d2,d3⟩:=rV hg l1 s1 s2 ⟨s3,s4⟩ (by omega) (by omega);have ht:da f g (az f g)=(iG (Ah (t,Ik) (u,Ik)) 0,0):=by
  unfold da;rw[e1,d1,if_pos ⟨rfl,rfl⟩]
 refine⟨by rw[ht],?_⟩;rw[ht];have hh1:iI t.out.how=Ir:=by rw[e3];unfold qr;split<;>rfl
 have hh2:iI u.out.how=Ir:=by rw[d3];unfold qr;split<;>rfl
 have hk:∀l:List In,(l=f\/l=g)->∀x∈l,x.op=1->x.n∈frK f g:=by
  intro l hl x hx h1;have:x.n∈fA l:=JM.2 ⟨x,List.mem_filter.2 ⟨hx,by simp[h1]⟩,rfl⟩;unfold frK;rcases hl with rfl|rfl
  .exact List.mem_append_left _ this
  .exact List.mem_append_right _ this
 have i1:=s5 (frK f g) f ei 0 (hk f (.inl rfl)) (ud _);have i2:=s5 (frK f g) g ei 0 (hk g (.inr rfl)) (ud _);unfold Ah tl1 tl2 tl3 tl4;simp only;rw[BX,hh1,hh2];constructor
 .rintro⟨q1,q2,q3,_⟩
  simp only[Bool.true_and,Bool.or_eq_false_iff,Bool.not_eq_false']at q2 q3;have hev:=Cx q2.2 q2.1;rw[e2,d2]at hev;have he:=sw (P:=oJ (frK f g) (frN f g)) (λs s' h1 h2 h3=>ug h1 h2 h3) _ _ 0 (λe he=>(i1.1 e he).mono (by omega)) (λe he=>(i2.1 e he).mono (by omega)) hev;have ho:(iF f).2=(iF g).2:=by
   rw[e3,d3]at q3;unfold qr at q3;have j1:=i1.2.1;have j2:=i2.2.1;by_cases n1:(iF f).2=.no
   .by_cases n2:(iF g).2=.no
    .rw[n1,n2]
    .rw[if_pos n1,if_neg n2]at q3
     simp at q3
   .by_cases n2:(iF g).2=.no
    .rw[if_neg n1,if_pos n2]at q3
     simp at q3
    .rw[if_neg n1,if_neg n2]at q3
     simp at q3;rcases j1 with j1|j1
     .exact absurd j1 n1
     rcases j2 with j2|j2
     .exact absurd j2 n2
     exact ug (j1.mono (by omega)) (j2.mono (by omega)) q3
  exact Prod.ext he ho
 .intro e
  have h1:t.evs=u.evs:=by rw[e2,d2,e]
  have h2:t.out=u.out:=by rw[e3,d3,e]
  rw[h1,h2,Cw];simp
def yw(L:List Sym):Sr->Sym
 |.was k=>L.getD k.toNat .no
 |.is n=>.num n
 |.no=>.no
def fw(L:List Sym)(T:List Sr):List Sym:=T.map (yw L)
theorem mS(L:List Sym)(T:List Sr)(l:Nat):(fw L T).getD l .no=yw L (T.getD l .no):=by
 unfold fw;rw[Ij,Ij,IK];cases T[l]?<;>rfl
theorem Bq{L:List Sym}(h:L.length=24):fw L first=L:=by
 apply JN;intro i;unfold fw first;rw[List.map_map,IK];by_cases hi:i<24
 .rw[KW hi]
  simp[yw,Ig (show i<L.length by omega)]
 .rw[I0 (by simp;omega),I0 (by omega)]
  rfl
theorem lS{T:List Sr}(h:ey T=Ir){i:Nat}(hi:i<T.length):(T.getD i .no).ok=Ir:=by
 unfold ey at h;rw[Ij,Ig hi];exact Jd.1 h _ (K8 hi)
theorem lQ{T:List Sr}(h:ey T=Ir)(i:Nat){s:Sr}(hs:s.ok=Ir):ey (T.set i s)=Ir:=by
 unfold ey at *;rw[Jd]at *;intro x hx;rcases KA hx with q|rfl
 .exact h x q
 .exact hs
theorem vp:ey first=Ir:=by decide
theorem sR{T:List Sr}{x:In}{n:Int}(hT:T.length=24)(hg:ey T=Ir)(hx:CD n x)(hm:x.op=1\/x.op=2\/x.op=3)(L:List Sym) :
  fw L (dS T x)=jx (fw L T) x/\ey (dS T x)=Ir/\(dS T x).length=24:=by
 have hmv:x.moves=Ir:=by unfold In.moves;exact decide_eq_true (by omega)
 have hd:=hx.d;have ha:=hx.a;have hrd:inR x.d=Ir:=decide_eq_true (by omega);have hra:inR x.a=Ir:=decide_eq_true (by omega);have he:dS T x=kR T x:=by unfold dS jH;rw[if_pos ⟨hmv,hrd,hra⟩,if_pos hg]
 refine⟨?_,?_,mK x hT⟩
 .rw[he]
  unfold kR jx iL;rw[mS,mS];rcases hm with e|e|e<;>simp[e,fw,List.map_set,yw]
 .rw[he]
  unfold kR iL;have g1:=lS hg (i:=x.a.toNat) (by omega);have g2:=lS hg (i:=x.d.toNat) (by omega);rcases hm with e|e|e
  .rw[if_pos e];exact lQ hg _ rfl
  .rw[if_neg (by omega),if_pos e];exact lQ hg _ g1
  .rw[if_neg (by omega),if_neg (by omega),if_pos e];exact lQ (lQ hg _ g1) _ g2
def ndS(c:List Bool):List In->Nat->List Sym->Nat->List (Nat×List Sym)
 | [],_,_,_=>[]
 |x::xs,k,L,p=>if x.op=15 then(k,L)::(if c.getD k Ik=Ir then []else ndS c xs (k+1) (L.set x.d.toNat (.res p)) (p+1))
  else if x.op=18 then [(k,L)]else ndS c xs (k+1) (jx L x) p
theorem eh.cons{f:List In}{k:Nat}{x:In}(hk:f[k]?=Ic x):f.drop k=x::f.drop (k+1):=by
 obtain⟨h,e⟩:=Ip.1 hk;rw[Jc h,e]
theorem AJ{f:List In}(h:eh f):∀(m:Nat) (s:PSt) (fuel:Nat),f.length-s.at_<=m->s.at_<f.length->m<fuel->s.t.length=24->ey s.t=Ir->(∀j,s.at_<=j->j<f.length->s.met.getD j Ir=Ik)->
  ∃b T,(eo fuel f s).at_=b/\(eo fuel f s).t=T/\(eo fuel f s).met.getD b Ir=Ik/\T.length=24/\ey T=Ir/\s.at_<=b/\b<f.length/\(∃y,f[b]?=Ic y/\(y.op=15\/y.op=18))/\
   ∀L p,trS (f.drop s.at_) (fw L s.t) p=trS (f.drop b) (fw L T) p/\∀c,ndS c (f.drop s.at_) s.at_ (fw L s.t) p=ndS c (f.drop b) b (fw L T) p
 |0,s,fuel,h0,h1,_,_,_,_=>by omega
 |m+1,s,fuel,h0,h1,h2,hT,hg,hmet=>by
  obtain⟨x,hx⟩:∃x,f[s.at_]?=Ic x:=⟨_,Ig h1⟩;obtain⟨fu,rfl⟩:∃k,fuel=k+1:=⟨fuel-1,by omega⟩;have hop:=h.op x (Iw hx);have hmt:=hmet s.at_ (Iz _) h1;by_cases hm:x.op=15\/x.op=18
  .have hf:fol f s=Ih:=by
    unfold fol;rw[hx];simp only;rw[if_pos (.inl (by unfold In.moves;simp;omega))]
   have hr:eo (fu+1) f s=s:=by unfold eo;rw[hf]
   rw[hr];exact⟨s.at_,s.t,rfl,rfl,hmt,hT,hg,Iz _,h1,⟨x,hx,hm⟩,λL p=>⟨rfl,λc=>rfl⟩⟩
  .have hmv:x.moves=Ir:=by unfold In.moves;exact decide_eq_true (by omega)
   have hf:fol f s=Ic ⟨s.at_+1,dS s.t x,s.steps+1,s.met.set s.at_ Ir⟩:=by
    unfold fol;rw[hx];simp only;rw[if_neg (by rw[hmv,hmt];simp),if_neg (by omega)]
   have hr:eo (fu+1) f s=eo fu f ⟨s.at_+1,dS s.t x,s.steps+1,s.met.set s.at_ Ir⟩:=by rw[eo,hf]
   obtain⟨a1,a2,a3⟩:=sR hT hg (h.ok hx) (by omega) [];have hnx:=h.next hx (by omega)
   obtain⟨b,T,e1,e2,e3,e4,e5,e6,e7,e8,e9⟩:=AJ h m ⟨s.at_+1,dS s.t x,s.steps+1,s.met.set s.at_ Ir⟩ fu (by show f.length-(s.at_+1)<=m;omega) hnx (by omega) a3 a2 (λj hj hjl=>by
    have hj2:s.at_+1<=j:=hj;have:=hmet j (by omega) hjl;rw[Ij,JR (by omega),<-Ij];exact this)
   rw[hr];refine⟨b,T,e1,e2,e3,e4,e5,by have e6':s.at_+1<=b:=e6;omega,e7,e8,λL p=>?_⟩;obtain⟨q1,q2⟩:=e9 L p;have hs:=(sR hT hg (h.ok hx) (by omega) L).1;refine⟨?_,λc=>?_⟩
   .rw[<-q1,eh.cons hx,trS,if_neg (by omega),if_neg (by omega),hs]
   .rw[<-q2 c,eh.cons hx,ndS,if_neg (by omega),if_neg (by omega),hs]
theorem sa{f:List In}(h:eh f)(a:Nat)(ha:a<f.length):∃(b:Nat) (T:List Sr),(bT f a).jt=(b:Int)/\(bT f a).t=T/\T.length=24/\ey T=Ir/\a<=b/\b<f.length/\(∃y,f[b]?=Ic y/\(y.op=15\/y.op=18))/\
  ∀L p,L.length=24->trS (f.drop a) L p=trS (f.drop b) (fw L T) p/\∀c,ndS c (f.drop a) a L p=ndS c (f.drop b) b (fw L T) p:=by
 have hl:=(bu h.r).len
 obtain⟨b,T,e1,e2,e3,e4,e5,e6,e7,e8,e9⟩:=AJ h 200 (jg a) 201 (by show f.length-a<=200;omega) ha (by decide) su vp (λj _ hj=>by
  show(IF 200 Ik).getD j Ir=Ik;rw[Ij,Ku,if_pos (by omega)];rfl)
 have hm:¬(iN f a).met.getD (iN f a).at_ Ir=Ir:=by
  unfold iN;rw[e1,e3];decide
 refine⟨b,T,?_,?_,e4,e5,e6,e7,e8,λL p hL=>?_⟩
 .unfold bT
  simp only;rw[if_neg hm];exact congrArg _ e1
 .unfold bT
  simp only;rw[if_neg hm];exact e2
 .have:=e9 L p
  rw[show(jg a).at_=a from rfl,show(jg a).t=first from rfl,Bq hL]at this;exact this
def ChX(f:List In)(c:List Bool):Nat->List (Nat×List Sym)->List aG->Prop
 |_,[],[]=>True
 |k,d::D,x::X=>x.at_=(d.1:Int)/\d.2.length=24/\(∃y,f[d.1]?=Ic y/\(y.op=15\/y.op=18)/\(D[0]?=Ih->x.outs=[]/\(c.getD d.1 Ik=Ir\/y.op=18))/\
   (∀d',D[0]?=Ic d'->y.op=15/\c.getD d.1 Ik=Ik/\∃T,x.outs=[⟨(k:Int)+1,T⟩]/\T.length=24/\ey T=Ir/\d'.2=fw (d.2.set y.d.toNat (.res k)) T))/\ChX f c (k+1) D X
 |_,[],_::_=>False
 |_,_::_,[]=>False
theorem lJ{f:List In}(c:List Bool){b:Nat}{y:In}(hy:f[b]?=Ic y)(ho:y.op=15\/y.op=18)(L:List Sym)(k:Nat) :
  ndS c (f.drop b) b L k=(b,L)::(if y.op=15/\c.getD b Ik=Ik then ndS c (f.drop (b+1)) (b+1) (L.set y.d.toNat (.res k)) (k+1)else []):=by
 rw[eh.cons hy,ndS];by_cases h:y.op=15
 .rw[if_pos h]
  cases hc:c.getD b Ik with
  |true=>simp
  |false=>simp[h]
 .rw[if_neg h,if_pos (by omega),if_neg (by omega)]
theorem ou(c:List Bool)(b:Nat):jn c (b:Int)=c.getD b Ik:=by
 unfold jn;by_cases h:b<c.length
 .simp[h]
 .rw[Ij,I0 (by omega)]
  simp[h]
theorem Du{nodes:List aG}{b:Nat}(h:∀x∈nodes,x.at_<(b:Int)):jh (b:Int) nodes=Ih:=by
 unfold jh;rw[List.findIdx?_eq_none_iff];intro x hx;have:=h x hx;simp;omega
theorem t9{f:List In}{nodes:List aG}{a b:Nat}{T:List Sr}(h1:(bT f a).jt=(b:Int))(h2:(bT f a).t=T)(h:∀x∈nodes,x.at_<(b:Int)):du f nodes a=(⟨(nodes.length:Int),T⟩,nodes++[⟨(b:Int),[]⟩]):=by
 unfold du;simp only[h1,h2];rw[if_neg (by omega),Du h]
theorem zO(f:List In)(c:List Bool)(fuel:Nat)(nodes:List aG):bI f c fuel nodes.length nodes=nodes:=by
 cases fuel with
 |zero=>rfl
 |succ n=>unfold bI;rw[I0 (Iz _)]
theorem oW{f:List In}(h:eh f)(c:List Bool):∀(m:Nat) (pre:List aG) (b fuel:Nat) (y:In) (L:List Sym),f.length-b<=m->f[b]?=Ic y->(y.op=15\/y.op=18)->m<fuel->L.length=24->(∀x∈pre,x.at_<(b:Int))->
  ∃X,bI f c fuel pre.length (pre++[⟨(b:Int),[]⟩])=pre++X/\ChX f c pre.length (ndS c (f.drop b) b L pre.length) X
 |0,pre,b,fuel,y,L,hm,hy,_,_,_,_=>by have:=(Ip.1 hy).1;omega
 |m+1,pre,b,fuel,y,L,hm,hy,ho,hf,hL,hpre=>by
  obtain⟨fu,rfl⟩:∃k,fuel=k+1:=⟨fuel-1,by omega⟩;have hat:(pre++[(⟨(b:Int),[]⟩:aG)])[pre.length]?=Ic ⟨(b:Int),[]⟩:=by simp
  have hgy:f.getD (b:Int).toNat In.zero=y:=by rw[IC,Ij,hy];rfl
  have hb:=(Ip.1 hy).1;have hlen:(pre++[(⟨(b:Int),[]⟩:aG)]).length=pre.length+1:=by simp
  rw[lJ c hy ho];have last:(y.op=15/\c.getD b Ik=Ik->False)->stepN f c pre.length ⟨(b:Int),[]⟩ (pre++[⟨(b:Int),[]⟩])=pre++[⟨(b:Int),[]⟩]->
    ∃X,bI f c (fu+1) pre.length (pre++[⟨(b:Int),[]⟩])=pre++X/\ChX f c pre.length ((b,L)::(if y.op=15/\c.getD b Ik=Ik then ndS c (f.drop (b+1)) (b+1) (L.set y.d.toNat (.res pre.length)) (pre.length+1)else [])) X:=by
   intro h1 h2;refine⟨[⟨(b:Int),[]⟩],?_,?_⟩
   .unfold bI
    rw[hat];simp only;rw[h2,<-hlen,zO]
   .rw[if_neg h1]
    refine⟨rfl,hL,⟨y,hy,ho,λ_=>⟨rfl,?_⟩,λd' hd=>by simp at hd⟩,trivial⟩;cases hc:c.getD b Ik with
    |true=>exact .inl rfl
    |false=>exact .inr (by rcases ho with q|q;exact absurd ⟨q,hc⟩ h1;exact q)
  by_cases hc:c.getD b Ik=Ir
  .refine last (λq=>by rw[hc]at q;exact Ix q.2) ?_
   unfold stepN;rw[ou,if_pos hc]
  .have hc':c.getD b Ik=Ik:=Bool.eq_false_iff.2 hc
   by_cases h18:y.op=18
   .refine last (λq=>by omega) ?_
    unfold stepN;rw[ou,if_neg hc];simp only;rw[hgy];unfold cL;rw[if_pos h18];unfold bS;simp
   .have h15:y.op=15:=by omega
    obtain⟨b',T,p1,p2,p3,p4,p5,p6,⟨y',hy',ho'⟩,p8⟩:=sa h (b+1) (h.next hy h18);have hfr:∀x∈pre++[(⟨(b:Int),[]⟩:aG)],x.at_<(b':Int):=by
     intro x hx;rcases J0.1 hx with q|q
     .have:=hpre x q;omega
     .rw[IS.1 q];show(b:Int)<b';omega
    have hst:stepN f c pre.length ⟨(b:Int),[]⟩ (pre++[⟨(b:Int),[]⟩])=(pre++[⟨(b:Int),[⟨(pre.length:Int)+1,T⟩]⟩])++[⟨(b':Int),[]⟩]:=by
     unfold stepN;rw[ou,if_neg hc];simp only;rw[hgy];unfold cL;rw[if_neg h18,if_neg (by omega)];unfold bS;rw[show((b:Int)+1).toNat=b+1 by omega,t9 p1 p2 hfr];unfold bS;simp
    have hL':(L.set y.d.toNat (.res pre.length)).length=24:=by simpa using hL
    obtain⟨X,e1,e2⟩:=oW h c m (pre++[⟨(b:Int),[⟨(pre.length:Int)+1,T⟩]⟩]) b' fu y' (fw (L.set y.d.toNat (.res pre.length)) T) (by omega) hy' ho' (by omega) (by unfold fw;simpa using p3) (by
     intro x hx;rcases J0.1 hx with q|q
     .have:=hpre x q;omega
     .rw[IS.1 q];show(b:Int)<b';omega)
    have hl2:(pre++[(⟨(b:Int),[⟨(pre.length:Int)+1,T⟩]⟩:aG)]).length=pre.length+1:=by simp
    rw[hl2]at e1 e2;refine⟨⟨(b:Int),[⟨(pre.length:Int)+1,T⟩]⟩::X,?_,?_⟩
    .unfold bI
     rw[hat];simp only;rw[hst,e1];simp
    .rw[if_pos ⟨h15,hc'⟩,(p8 _ _ hL').2 c]
     refine⟨rfl,hL,⟨y,hy,ho,λq=>?_,λd' hd=>?_⟩,e2⟩
     .rw[lJ c hy' ho']at q
      simp at q
     .rw[lJ c hy' ho']at hd
      simp at hd;exact⟨h15,hc',T,rfl,p3,p4,by rw[<-hd]⟩
theorem ChX.at{f:List In}{c:List Bool}:∀{D:List (Nat×List Sym)} {X:List aG} {k:Nat},ChX f c k D X->D.length=X.length/\∀i d,D[i]?=Ic d->∃(x:aG) (y:In),X[i]?=Ic x/\f[d.1]?=Ic y/\x.at_=(d.1:Int)/\d.2.length=24/\(y.op=15\/y.op=18)/\
   (D[i+1]?=Ih->x.outs=[]/\(c.getD d.1 Ik=Ir\/y.op=18))/\
   (∀d',D[i+1]?=Ic d'->y.op=15/\c.getD d.1 Ik=Ik/\∃T,x.outs=[⟨((k+i:Nat):Int)+1,T⟩]/\T.length=24/\ey T=Ir/\d'.2=fw (d.2.set y.d.toNat (.res (k+i))) T)
 | [],[],k,_=>⟨rfl,λi d hd=>by simp at hd⟩
 |d::D,x::X,k,⟨h1,h2,⟨y,h3,h4,h5,h6⟩,h7⟩=>by
  have ih:=ChX.at h7;refine⟨by simp[ih.1],λi d0 hd=>?_⟩;cases i with
  |zero=>
   rw[Mn]at hd;cases hd;exact⟨x,y,rfl,h3,h1,h2,h4,h5,h6⟩
  |succ i=>
   have:=ih.2 i d0 hd;rw[show k+1+i=k+(i+1) by omega]at this;exact this
 | [],_::_,_,h=>absurd h (λh=>h)
 |_::_,[],_,h=>absurd h (λh=>h)
theorem qB{f:List In}{c:List Bool}:∀{D:List (Nat×List Sym)} {X:List aG} {k:Nat} (rows:List (List bV)),ChX f c k D X->k+X.length<=rows.length->
  ∀i,(dr X k rows).getD i []=if k<i/\i<k+X.length then rows.getD i []++[((i:Int)-1,0)]else rows.getD i []
 | [],[],k,rows,_,_,i=>by rw[if_neg (by simp;omega)];rfl
 | [d],[x],k,rows,⟨_,_,⟨y,_,_,h5,_⟩,_⟩,hl,i=>by
  unfold dr dr;rw[(h5 rfl).1,if_neg (by simp;omega)];rfl
 |d::d'::D,x::X,k,rows,⟨_,_,⟨y,_,_,_,h6⟩,h7⟩,hl,i=>by
  obtain⟨_,_,T,ho,_,_,_⟩:=h6 d' rfl;have hX:0<X.length:=by rw[<-(ChX.at h7).1];simp
  simp only[Jz]at hl;unfold dr;rw[ho];have hr:dV k [⟨(k:Int)+1,T⟩] 0 rows=rows.set (k+1) (rows.getD (k+1) []++[((k:Int),0)]):=by
   unfold dV dV eM;rw[if_pos (by simp only;omega),show((k:Int)+1).toNat=k+1 by omega];rfl
  rw[hr,qB _ h7 (by rw[Jq];omega) i,Ij (l:=rows.set _ _),KD];by_cases q:k+1=i
  .subst q
   rw[if_neg (by omega),if_pos rfl,if_pos (by omega),if_pos (by simp;omega)];simp
  .rw[if_neg q,<-Ij]
   by_cases q2:k+1<i/\i<k+1+X.length
   .rw[if_pos q2,if_pos (by simp;omega)]
   .rw[if_neg q2,if_neg (by simp;omega)]
 |d::d'::D,[],_,_,h,_,_=>absurd h (λh=>h)
 | [d],_::_::_,_,_,⟨_,_,_,h⟩,_,_=>absurd h (λh=>h)
 | [],_::_,_,_,h,_,_=>absurd h (λh=>h)
 | [d],[],_,_,h,_,_=>absurd h (λh=>h)
structure SK(f:List In)(c:List Bool)(S:bj)(D:List (Nat×List Sym)):Prop where
 pos:0<D.length
 few:D.length<=200
 ent:∃T,S.entry=⟨0,T⟩/\T.length=24/\ey T=Ir/\∀d,D[0]?=Ic d->d.2=fw ei T
 len:D.length=S.nodes.length
 nod:∀(i:Nat) (d:Nat×List Sym),D[i]?=Ic d->∃(x:aG) (y:In),S.nodes[i]?=Ic x/\f[d.1]?=Ic y/\x.at_=(d.1:Int)/\d.2.length=24/\(y.op=15\/y.op=18)/\
   (D[i+1]?=Ih->x.outs=[]/\(c.getD d.1 Ik=Ir\/y.op=18))/\
   (∀d',D[i+1]?=Ic d'->y.op=15/\c.getD d.1 Ik=Ik/\∃T,x.outs=[⟨(i:Int)+1,T⟩]/\T.length=24/\ey T=Ir/\d'.2=fw (d.2.set y.d.toNat (.res i)) T)
 way:∀i,i<D.length->(a7 S).getD i []=[((i:Int)-1,0)]
theorem kj{f:List In}(h:eh f)(c:List Bool):SK f c (aJ f c) (ndS c f 0 ei 0):=by
 have hr:=bu h.r;obtain⟨b,T,p1,p2,p3,p4,p5,p6,⟨y,hy,ho⟩,p8⟩:=sa h 0 hr.pos;have hw:=t9 (nodes:=[]) p1 p2 (λx hx=>absurd hx JE);obtain⟨X,e1,e2⟩:=oW h c f.length [] b 201 y (fw ei T) (by omega) hy ho (by have:=hr.len;omega) (by unfold fw;simpa using p3) (λx hx=>absurd hx JE);have hD:ndS c f 0 ei 0=ndS c (f.drop b) b (fw ei T) 0:=(p8 ei 0 rfl).2 c;have hS:aJ f c=⟨⟨0,T⟩,X⟩:=by
  unfold aJ;rw[hw];exact congrArg (bj.mk _) e1
 rw[show([]:List aG).length=0 from rfl,<-hD]at e2;obtain⟨a1,a2⟩:=ChX.at e2;have hpos:0<(ndS c f 0 ei 0).length:=by rw[hD,lJ c hy ho];simp
 rw[hS];refine⟨hpos,?_,⟨T,rfl,p3,p4,λd hd=>?_⟩,a1,λi d hd=>?_,λi hi=>?_⟩
 .rw[a1]
  have:=(gq hr c).len;rw[hS]at this;exact IT this hr.len
 .rw[hD,lJ c hy ho]at hd
  simp at hd;rw[<-hd]
 .have:=a2 i d hd
  simpa only[KB]using this
 .unfold a7
  have hl:(eM (IF X.length []) 0 (-1,0)).length=X.length:=by rw[lL];simp
  show(dr X 0 (eM (IF X.length []) 0 (-1,0))).getD i []=_;rw[qB _ e2 (by rw[hl];simp) i];have hg:∀j,j<X.length->(eM (IF X.length ([]:List bV)) 0 (-1,0)).getD j []=if j=0 then [(-1,0)]else []:=by
   intro j hj;unfold eM;rw[if_pos (by simp;omega)];rw[Ij,KD];by_cases q:j=0
   .subst q
    simp[hj]
   .rw[if_neg (by show ¬0=j;omega),if_neg q]
    simp[hj]
  rw[hg i (by omega)];by_cases q:i=0
  .subst q;rw[if_neg (by simp),if_pos rfl];rfl
  .rw[if_neg q,if_pos (by simp;omega)]
   rfl
section
def stS(D:List (Nat×List Sym))(i l:Nat):Sym:=(D.getD i (0,[])).2.getD l .no
theorem pg{D:List (Nat×List Sym)}{i:Nat}{d:Nat×List Sym}(h:D[i]?=Ic d)(l:Nat):stS D i l=d.2.getD l .no:=by
 unfold stS;rw[Ij (l:=D),h];rfl
def qP(l:Nat):Sym->Src
 |.no=>⟨0,0⟩
 |.num m=>⟨2,m⟩
 |.reg _=>kw l
 |.res _=>kw l
def FH(D:List (Nat×List Sym))(i:Nat)(x:Src):Sym->Prop
 |.no=>x=⟨0,0⟩
 |.num m=>x=⟨2,m⟩
 |.reg r=>(i=0/\r<8/\x=⟨1,(r:Int)⟩)\/∃(j k:Nat),i=j+1/\k<24/\x=⟨4,(k:Int)⟩/\stS D j k=.reg r
 |.res p=>(i=p+1/\x=⟨3,0⟩)\/∃(j k:Nat),i=j+1/\p<j/\k<24/\x=⟨4,(k:Int)⟩/\stS D j k=.res p
theorem vK{f:List In}{c:List Bool}{S:bj}{D:List (Nat×List Sym)}(hs:SK f c S D){F:List (List Src)}(hF:rq f S F){i l:Nat}(hi:i<D.length)(hl:l<24)(hx:FH D i (c_ F ((i:Int)-1,0) (dq f S ((i:Int)-1,0) l)) (stS D i l)) :
  dg F i l=qP l (stS D i l)/\∀p,stS D i l=.res p->p<i:=by
 have hf:=hF.fix i l (by rw[<-hs.len];exact hi) hl;unfold dc q_ at hf;rw[hs.way i hi,Jt,La]at hf;generalize c_ F ((i:Int)-1,0) (dq f S ((i:Int)-1,0) l)=x at hf hx;rw[<-hf];have key:∀k m:Int,0<=k->br ⟨4,(l:Int)⟩ [⟨k,m⟩] opn=if k=2\/k=0 then⟨k,m⟩else kw l:=by
  intro k m hk;unfold br;rw[if_neg (by unfold opn;simp;omega)];by_cases q:k=2\/k=0
  .rw[if_neg (by simp;omega),if_pos q];rfl
  .rw[if_pos (by simp;omega),if_neg q];rfl
 generalize stS D i l=s at hx;cases s with
 |no=>obtain rfl:=hx;exact⟨key _ _ (by omega),λp e=>by cases e⟩
 |num m=>obtain rfl:=hx;exact⟨key _ _ (by omega),λp e=>by cases e⟩
 |reg r=>
  refine⟨?_,λp e=>by cases e⟩;rcases hx with⟨_,_,rfl⟩|⟨j,k,_,_,rfl,_⟩<;>exact key _ _ (by omega)
 |res p=>
  rcases hx with⟨e,rfl⟩|⟨j,k,e,hp,_,rfl,_⟩
  .exact⟨key _ _ (by omega),λp' e'=>by cases e';omega⟩
  .exact⟨key _ _ (by omega),λp' e'=>by cases e';omega⟩
section
variable{f:List In}(h:eh f){c:List Bool}{S:bj}{D:List (Nat×List Sym)}(hs:SK f c S D)
include h hs
theorem ph{i l:Nat}(hi:i<D.length)(hl:l<24)(F:List (List Src))(hp:∀j,i=j+1->∀k,k<24->dg F j k=qP k (stS D j k)/\∀p,stS D j k=.res p->p<j) :
  FH D i (c_ F ((i:Int)-1,0) (dq f S ((i:Int)-1,0) l)) (stS D i l):=by
 obtain⟨d,hd⟩:∃d,D[i]?=Ic d:=⟨_,Ig hi⟩;rw[pg hd];cases i with
 |zero=>
  obtain⟨T,e1,e2,e3,e4⟩:=hs.ent;rw[e4 d hd,mS];have hb:dq f S (((0:Nat):Int)-1,0) l=dB f S (((0:Nat):Int)-1,0) (T.getD l .no):=by
   unfold dq dR;rw[if_pos ⟨rfl,rfl⟩,e1];rfl
  rw[hb];have hok:=lS e3 (i:=l) (by omega);generalize T.getD l .no=t at hok ⊢;cases t with
  |is n=>exact rfl
  |no=>exact Ix hok
  |was k=>
   have hk:0<=k/\k<=23:=by have:=of_decide_eq_true hok;omega
   obtain⟨k',rfl⟩:∃k':Nat,k=(k':Int):=⟨k.toNat,by omega⟩;have hsym:yw ei (.was (k':Int))=if k' < 8 then .reg k' else .no:=by
    unfold yw ei;simp only[IC];rw[Ij,IK,KW (by omega)];rfl
   rw[hsym];by_cases h8:k' < 8
   .have hv:c_ F (((0:Nat):Int)-1,0) (dB f S (((0:Nat):Int)-1,0) (.was (k':Int)))=⟨1,(k':Int)⟩:=by
     have:dB f S (((0:Nat):Int)-1,0) (.was (k':Int))=⟨1,(k':Int)⟩:=by
      unfold dB Sr.loc jG;simp;omega
     rw[this];rfl
    rw[if_pos h8,hv];exact .inl ⟨rfl,h8,rfl⟩
   .have hv:c_ F (((0:Nat):Int)-1,0) (dB f S (((0:Nat):Int)-1,0) (.was (k':Int)))=⟨0,0⟩:=by
     have:dB f S (((0:Nat):Int)-1,0) (.was (k':Int))=⟨0,0⟩:=by
      unfold dB Sr.loc jG;simp;omega
     rw[this];rfl
    rw[if_neg h8,hv];exact rfl
 |succ j=>
  obtain⟨d0,hd0⟩:∃d0,D[j]?=Ic d0:=⟨_,Ig (by omega)⟩;obtain⟨x,y,n1,n2,n3,n4,n5,n6,n7⟩:=hs.nod j d0 hd0;obtain⟨h15,hc,T,o1,o2,o3,o4⟩:=n7 d hd;have hy:=h.ok n2;rw[o4,mS];have hb:dq f S (((j+1:Nat):Int)-1,0) l=dB f S ((j:Int),0) (T.getD l .no):=by
   rw[show((j+1:Nat):Int)-1=(j:Int) by omega];unfold dq dR;rw[if_neg (by show ¬((j:Int)=-1/\_);omega),if_neg (by show ¬((j:Int)<0\/(0:Int)<0);omega)];simp only[IC];rw[n1];simp[o1]
  rw[hb,show((j+1:Nat):Int)-1=(j:Int) by omega];have hok:=lS o3 (i:=l) (by omega);generalize T.getD l .no=t at hok ⊢;cases t with
  |is n=>exact rfl
  |no=>exact Ix hok
  |was k=>
   have hk:0<=k/\k<=23:=by have:=of_decide_eq_true hok;omega
   obtain⟨k',rfl⟩:∃k':Nat,k=(k':Int):=⟨k.toNat,by omega⟩;have hset:i_ (f.getD ((S.nodes.getD (j:Int).toNat ⟨0,[]⟩).at_).toNat In.zero)=(y.d,Ir):=by
    rw[IC,Ij (l:=S.nodes),n1];simp only[JL];rw[n3,IC,Ij,n2];unfold i_;exact if_pos (by simp only[JL];omega)
   have hsr:dB f S ((j:Int),0) (.was (k':Int))=if y.d=(k':Int)then⟨3,0⟩else⟨4,(k':Int)⟩:=by
    unfold dB;simp only;rw[if_neg (by omega),hset];simp[Sr.loc]
   have hd24:0<=y.d/\y.d<=23:=hy.d;rw[hsr];unfold yw;simp only[IC];rw[Ij,KD];by_cases q:y.d=(k':Int)
   .rw[if_pos q,if_pos (by omega),if_pos (by omega)]
    exact .inl ⟨rfl,rfl⟩
   .rw[if_neg q,if_neg (by omega),<-Ij]
    obtain⟨p1,p2⟩:=hp j rfl k' (by omega);have hv:c_ F ((j:Int),0) ⟨4,(k':Int)⟩=dg F j k':=by
     unfold c_ dg;simp
    rw[hv,p1,<-pg hd0];have hst:stS D j k'=stS D j k':=rfl;revert hst;generalize hg:stS D j k'=s;rw[hg]at p2;intro _;cases s with
    |no=>exact rfl
    |num m=>exact rfl
    |reg r=>exact .inr ⟨j,k',rfl,by omega,rfl,hg⟩
    |res p=>exact .inr ⟨j,k',rfl,p2 p rfl,by omega,rfl,hg⟩
theorem j9{F:List (List Src)}(hF:rq f S F):∀(i:Nat),i<D.length->∀l,l<24->dg F i l=qP l (stS D i l)/\∀p,stS D i l=.res p->p<i:=by
 intro i
 induction i with
 |zero=>
  intro hi l hl;have hx:=ph h hs hi hl F (λj hj=>by omega);exact vK hs hF hi hl hx
 |succ j ih=>
  intro hi l hl
  have hx:=ph h hs hi hl F (λj' hj=>by
   obtain rfl:j=j':=(by omega);exact ih (by omega))
  exact vK hs hF hi hl hx
end
end
theorem Fi{f:List In}(hr:dQ f){P:List Bool->Prop}(h0:P (IF f.length Ik))(h1:∀c,P c->P (ft f c).1):P (aZ f)/\(ft f (aZ f)).2=Ik:=by
 have h:∀(k:Nat) (c:List Bool),mM f k Ir c->P c->P (aZ f)/\(ft f (aZ f)).2=Ik:=by
  intro k
  induction k with
  |zero=>intro c h _;exact absurd h.pos (Mq _)
  |succ k ih=>
   intro c h hp;have hn:=(gq hr c).at_;have hq:=h.round hn rfl;cases e:(ft f c).2 with
   |true=>rw[e]at hq;exact ih _ hq (h1 c hp)
   |false=>
    have hc:=(lH.to (f:=f) (bD f (aJ f c)) (aJ f c).nodes 0 (c,Ik) hn h.inv).same e;rw[<-show(ft f c).1=aZ f from hq.done e,show(ft f c).1=c from hc];exact⟨hp,e⟩
 exact h _ _ (mM.start f) h0
def Bk(f:List In)(x:aG):Nat:=((f.getD x.at_.toNat In.zero).a).toNat
theorem sM{f:List In}{F:List (List Src)}{x:aG}{l:Int}(hu:ce (f.getD x.at_.toNat In.zero)=[l])(xs:List aG)(n:Nat)(st:List Bool×Bool):lG f F (x::xs) n st=lG f F xs (n+1) (ia F n x.at_.toNat st l):=by
 show lG f F xs (n+1) (lW f F n x st)=_;unfold lW;rw[hu];rfl
theorem yb{f:List In}{F:List (List Src)}{P:List Bool->Prop}:∀(xs:List aG) (n:Nat) (st:List Bool×Bool),(∀x∈xs,ce (f.getD x.at_.toNat In.zero)=[(f.getD x.at_.toNat In.zero).a])->
  (∀(i:Nat) (x:aG),xs[i]?=Ic x->∀c,P c->(dg F (n+i) (Bk f x)).kind=0->P (c.set x.at_.toNat Ir))->P st.1->P (lG f F xs n st).1
 | [],_,_,_,_,h=>h
 |x::xs,n,st,hu,hx,h=>by
  rw[sM (hu x JH)];refine yb xs (n+1) _ (λy hy=>hu y (Jm _ hy)) (λi y hy c hc hk=>hx (i+1) y hy c hc (by rw[show n+(i+1)=n+1+i by omega];exact hk)) ?_;unfold ia;split
  .rename_i q
   exact hx 0 x rfl _ h q.2
  .exact h
theorem ya{f:List In}{F:List (List Src)}:∀(xs:List aG) (n:Nat) (st:List Bool×Bool),(∀x∈xs,ce (f.getD x.at_.toNat In.zero)=[(f.getD x.at_.toNat In.zero).a])->(lG f F xs n st).2=Ik->
  st.2=Ik/\∀(i:Nat) (x:aG),xs[i]?=Ic x->st.1.getD x.at_.toNat Ik=Ik->(dg F (n+i) (Bk f x)).kind≠0
 | [],_,_,_,h=>⟨h,λi x hx=>by simp at hx⟩
 |x::xs,n,st,hu,h=>by
  rw[sM (hu x JH)]at h;obtain⟨h1,h2⟩:=ya xs (n+1) _ (λy hy=>hu y (Jm _ hy)) h;have hq:¬(st.1.getD x.at_.toNat Ik=Ik/\(dg F n ((f.getD x.at_.toNat In.zero).a).toNat).kind=0):=by
   intro q;unfold ia at h1;rw[if_pos q]at h1;exact Ix h1
  have hs:ia F n x.at_.toNat st (f.getD x.at_.toNat In.zero).a=st:=if_neg hq;rw[hs]at h1 h2;refine⟨h1,λi y hy hc=>?_⟩;cases i with
  |zero=>
   cases hy;exact λe=>hq ⟨hc,e⟩
  |succ i=>
   rw[show n+(i+1)=n+1+i by omega];exact h2 i y hy hc
theorem tB(c:List Bool):∀(xs:List In) (k:Nat) (L:List Sym) (p i:Nat) (d:Nat×List Sym),(ndS c xs k L p)[i]?=Ic d->(ndS [] xs k L p)[i]?=Ic d
 | [],_,_,_,_,_,h=>h
 |x::xs,k,L,p,i,d,h=>by
  unfold ndS at h ⊢;split at h
  .rename_i h15
   rw[if_pos h15];cases i with
   |zero=>exact h
   |succ i=>
    rw[Kc]at h ⊢;split at h
    .simp at h
    .rw[if_neg (by simp)]
     exact tB c xs _ _ _ i d h
  .rename_i h15
   rw[if_neg h15];split at h
   .rename_i h18
    rw[if_pos h18];exact h
   .rename_i h18
    rw[if_neg h18];exact tB c xs _ _ _ i d h
def He(f:List In)(c:List Bool):Prop:=∀a,c.getD a Ik=Ir->∃(i:Nat) (d:Nat×List Sym) (y:In),(ndS [] f 0 ei 0)[i]?=Ic d/\d.1=a/\f[a]?=Ic y/\d.2.getD y.a.toNat .no=.no
theorem zm{l:Nat}{s:Sym}:(qP l s).kind=0↔s=.no:=by
 cases s<;>simp[qP,kw]
theorem uj{f:List In}(h:eh f){y:In}{a:Nat}(hy:f[a]?=Ic y)(ho:y.op=15\/y.op=18):ce y=[y.a]:=by rw[rX h (Iw hy),if_pos ho]
theorem sL{f:List In}(h:eh f)(c:List Bool):(∀x∈(aJ f c).nodes,ce (f.getD x.at_.toNat In.zero)=[(f.getD x.at_.toNat In.zero).a])/\
  ∀(i:Nat) (x:aG),(aJ f c).nodes[i]?=Ic x->∃(d:Nat×List Sym) (y:In),(ndS c f 0 ei 0)[i]?=Ic d/\x.at_=(d.1:Int)/\f[d.1]?=Ic y/\Bk f x=y.a.toNat/\((dg (bD f (aJ f c)) i (Bk f x)).kind=0↔d.2.getD y.a.toNat .no=.no):=by
 have hs:=kj h c;have key:∀(i:Nat) (x:aG),(aJ f c).nodes[i]?=Ic x->∃(d:Nat×List Sym) (y:In),(ndS c f 0 ei 0)[i]?=Ic d/\x.at_=(d.1:Int)/\f[d.1]?=Ic y/\(y.op=15\/y.op=18)/\f.getD x.at_.toNat In.zero=y:=by
  intro i x hx;have hi:=(Ip.1 hx).1;obtain⟨d,hd⟩:∃d,(ndS c f 0 ei 0)[i]?=Ic d:=⟨_,Ig (by rw[hs.len];exact hi)⟩;obtain⟨x',y,n1,n2,n3,n4,n5,n6,n7⟩:=hs.nod i d hd;rw[hx]at n1;cases n1;exact⟨d,y,hd,n3,n2,n5,by rw[n3,IC,Ij,n2];rfl⟩
 refine⟨λx hx=>?_,λi x hx=>?_⟩
 .obtain⟨i,hi⟩:=Kb hx
  obtain⟨d,y,k1,k2,k3,k4,k5⟩:=key i x hi;rw[k5,uj h k3 k4]
 .obtain⟨d,y,k1,k2,k3,k4,k5⟩:=key i x hx
  have ha:=(h.ok k3).a;have hu:Bk f x=y.a.toNat:=by unfold Bk;rw[k5]
  refine⟨d,y,k1,k2,k3,hu,?_⟩;rw[hu,(j9 h hs (iw f _) i (Ip.1 k1).1 y.a.toNat (by omega)).1,zm,pg k1]
theorem Cb{f:List In}(h:eh f):He f (aZ f)/\(ft f (aZ f)).2=Ik:=by
 refine Fi (bu h.r) (λa ha=>?_) (λc hc=>?_)
 .rw[Ij,Ku]at ha
  split at ha<;>exact Ix ha
 .obtain⟨hu,hk⟩:=sL h c
  refine yb _ 0 (c,Ik) hu (λi x hx c' hc' hz a ha=>?_) hc;obtain⟨d,y,k1,k2,k3,k4,k5⟩:=hk i x hx;rw[KB]at hz;rw[Ij,KD]at ha;rw[k2,IC]at ha;by_cases q:d.1=a
  .exact⟨i,d,y,tB c _ _ _ _ _ _ k1,q,by rw[<-q];exact k3,k5.1 hz⟩
  .rw[if_neg q,<-Ij]at ha
   exact hc' a ha
theorem DX{f:List In}(h:eh f){i:Nat}{d:Nat×List Sym}{y:In}(hd:(ndS (aZ f) f 0 ei 0)[i]?=Ic d)(hy:f[d.1]?=Ic y):(aZ f).getD d.1 Ik=Ir↔d.2.getD y.a.toNat .no=.no:=by
 obtain⟨hg,hp⟩:=Cb h;have hs:=kj h (aZ f);obtain⟨hu,hk⟩:=sL h (aZ f);constructor
 .intro hc
  obtain⟨i',d',y',e1,e2,e3,e4⟩:=hg d.1 hc;rw[hy]at e3;cases e3;have hd0:=tB _ _ _ _ _ _ _ hd;have hs0:=kj h [];have hn:=(gq (bu h.r) []).nodup;obtain⟨x1,y1,n1,_,n3,_⟩:=hs0.nod i d hd0;obtain⟨x2,y2,m1,_,m3,_⟩:=hs0.nod i' d' e1;have hii:i=i':=by
   have h1:((aJ f []).nodes.map aG.at_)[i]?=Ic (d.1:Int):=by rw[IK,n1];exact congrArg Ic n3
   have h2:((aJ f []).nodes.map aG.at_)[i']?=Ic (d.1:Int):=by rw[IK,m1];exact congrArg Ic (by rw[m3,e2])
   obtain⟨l1,g1⟩:=Ip.1 h1;obtain⟨l2,g2⟩:=Ip.1 h2;have hp:=Ma.1 hn;rcases Nat.lt_trichotomy i i' with q|q|q
   .exact absurd (g1.trans g2.symm) (hp i i' l1 l2 q)
   .exact q
   .exact absurd (g2.trans g1.symm) (hp i' i l2 l1 q)
  subst hii;rw[hd0]at e1;cases e1;exact e4
 .intro hz
  cases hc:(aZ f).getD d.1 Ik with
  |true=>rfl
  |false=>
   exfalso;obtain⟨x,y1,n1,n2,n3,_⟩:=hs.nod i d hd;obtain⟨_,h2⟩:=ya (aJ f (aZ f)).nodes 0 (aZ f,Ik) hu hp;obtain⟨d',y',k1,k2,k3,k4,k5⟩:=hk i x n1;rw[hd]at k1;cases k1;rw[hy]at k3;cases k3;have:=h2 i x n1 (by rw[n3,IC];exact hc);rw[KB]at this;exact this (k5.2 hz)
theorem m8{α:Type}{L:List α}(h:L.Nodup){a b:Nat}{x:α}(ha:L[a]?=Ic x)(hb:L[b]?=Ic x):a=b:=by
 obtain⟨l1,g1⟩:=Ip.1 ha;obtain⟨l2,g2⟩:=Ip.1 hb;have hp:=Ma.1 h;rcases Nat.lt_trichotomy a b with q|q|q
 .exact absurd (g1.trans g2.symm) (hp a b l1 l2 q)
 .exact q
 .exact absurd (g2.trans g1.symm) (hp b a l2 l1 q)
theorem uU{N:Nat}{old:List Int}{a a':Int}{x x':Int×Int}:dD N old a x=dD N old a' x'↔a=a'/\dD N old 0 x=dD N old 0 x':=by
 unfold dD;split<;>split<;>simp
def ol(N:Nat)(old:List Int)(i:Nat)(r:ef):(Int×Int×Int)×List Lk:=(dn old i r,r.links.map (dD N old 0))
def Hy(N:Nat)(old:List Int)(s:RSt)(i:Nat)(r:ef):Prop:=∃(a c:Nat) (b:Int),s.starts[a]?=Ic (dn old i r)/\s.out[i]?=Ic (c:Int)/\s.classes[c]?=Ic ((a:Int),b)/\
 ((r.links=[]/\b=-1-(a:Int))\/∃(x:Int×Int) (e:Nat),r.links=[x]/\b=(e:Int)/\s.links[e]?=Ic (dD N old (-1-(a:Int)) x))
theorem gG{α:Type}{L l M:List α}(h:M=L++l){i:Nat}{x:α}(hx:L[i]?=Ic x):M[i]?=Ic x:=by
 rw[h,Jg (Ip.1 hx).1,hx]
structure rK(N:Nat)(old:List Int)(rows:List ef)(n:Nat)(s:RSt):Prop where
 ns:s.starts.Nodup
 nl:s.links.Nodup
 nc:s.classes.Nodup
 len:s.out.length=n
 has:∀i r,i<n->rows[i]?=Ic r->Hy N old s i r
theorem rK.row{N:Nat}{old:List Int}{rows:List ef}{n:Nat}{s:RSt}(h:rK N old rows n s){r:ef}(hr:rows[n]?=Ic r)(h1:r.links.length<=1):rK N old rows (n+1) (oN N old n r s):=by
 obtain⟨a,ha⟩:=ME (bN s.starts (dn old n r));obtain⟨b,hb⟩:=ME (iP N old r.links (-1-(a.1:Int),s.links));obtain⟨c,hc⟩:=ME (bN s.classes ((a.1:Int),b.1));have hrow:oN N old n r s=⟨a.2,b.2,c.2,s.out++[(c.1:Int)]⟩:=by unfold oN;rw[hc,hb,ha]
 obtain⟨la,hla,_⟩:=ej s.starts (dn old n r);obtain⟨lc,hlc,_⟩:=ej s.classes ((a.1:Int),b.1);have hat:=gA s.starts (dn old n r);have hct:=gA s.classes ((a.1:Int),b.1);have na:=fd h.ns (dn old n r);have nc:=fd h.nc ((a.1:Int),b.1);rw[<-ha]at hla hat na;rw[<-hc]at hlc hct nc;have hlb:b.2.Nodup/\(∃lb,b.2=s.links++lb)/\((r.links=[]/\b.1=-1-(a.1:Int))\/∃(x:Int×Int) (e:Nat),r.links=[x]/\b.1=(e:Int)/\b.2[e]?=Ic (dD N old (-1-(a.1:Int)) x)):=by
  obtain⟨col,lk⟩:=r;cases lk with
  |nil=>exact⟨by rw[hb];exact h.nl,⟨[],by rw[hb];simp[iP]⟩,.inl ⟨rfl,by rw[hb];rfl⟩⟩
  |cons x xs=>
   have:xs=[]:=LV (by simp at h1;exact congrArg _ h1);subst this;have hb2:b=(((bN s.links (dD N old (-1-(a.1:Int)) x)).1:Int),(bN s.links (dD N old (-1-(a.1:Int)) x)).2):=hb;obtain⟨lb,hlb,_⟩:=ej s.links (dD N old (-1-(a.1:Int)) x);exact⟨by rw[hb2];exact fd h.nl _,⟨lb,by rw[hb2];exact hlb⟩,.inr ⟨x,_,rfl,by rw[hb2],by rw[hb2];exact gA _ _⟩⟩
 obtain⟨nb,⟨lb,hlb⟩,hbb⟩:=hlb;rw[hrow];refine⟨na,nb,nc,by simp[h.len],λi r' hi hr'=>?_⟩;by_cases q:i=n
 .subst q
  rw[hr]at hr';cases hr';exact⟨a.1,c.1,b.1,hat,by simp[<-h.len],hct,hbb⟩
 .obtain⟨a0,c0,b0,e1,e2,e3,e4⟩:=h.has i r' (by omega) hr'
  refine⟨a0,c0,b0,gG hla e1,gG rfl e2,gG hlc e3,e4.imp id ?_⟩;rintro⟨x,e,f1,f2,f3⟩;exact⟨x,e,f1,f2,gG hlb f3⟩
theorem rK.rows{N:Nat}{old:List Int}{rows:List ef}(h1:∀r∈rows,r.links.length<=1):∀(rs:List ef) (n:Nat) (s:RSt),rs=rows.drop n->rK N old rows n s->rK N old rows (n+rs.length) (nW N old rs n s)
 | [],_,_,_,h=>h
 |r::rs,n,s,hd,h=>by
  have hr:rows[n]?=Ic r:=by
   have:=congrArg (λl=>l[0]?) hd;simp only[Mn,J9,Nat.add_zero]at this;exact this.symm
  have hd2:rs=rows.drop (n+1):=by
   have:=congrArg List.tail hd;simpa[List.tail_drop]using this
  have:=rK.rows h1 rs (n+1) _ hd2 (h.row hr (h1 r (Iw hr)));rw[show n+(r::rs).length=n+1+rs.length by simp;omega];exact this
theorem kq{rows:List ef}(h1:∀r∈rows,r.links.length<=1)(old:List Int){i j:Nat}{r r':ef}(hi:rows[i]?=Ic r)(hj:rows[j]?=Ic r') :
  (bo rows old).out.getD i 0=(bo rows old).out.getD j 0↔ol rows.length old i r=ol rows.length old j r':=by
 have h:=rK.rows (N:=rows.length) (old:=old) h1 rows 0 ⟨[],[],[],[]⟩ rfl ⟨Li,Li,Li,rfl,λi r hi=>absurd hi (LG _)⟩;rw[KB]at h;have h:rK rows.length old rows rows.length (bo rows old):=h;obtain⟨a,c,b,e1,e2,e3,e4⟩:=h.has i r (Ip.1 hi).1 hi;obtain⟨a',c',b',d1,d2,d3,d4⟩:=h.has j r' (Ip.1 hj).1 hj;rw[Ij,Ij,e2,d2];simp only[JL];unfold ol;constructor
 .intro e
  obtain rfl:c=c':=by omega
  rw[e3]at d3;simp only[Ja,IM]at d3;obtain⟨q1,q2⟩:=d3;obtain rfl:a=a':=by omega
  rw[e1]at d1;rw[Ii d1];rcases e4 with⟨f1,f2⟩|⟨x,e,f1,f2,f3⟩
  .rcases d4 with⟨g1,g2⟩|⟨x',e',g1,g2,g3⟩
   .rw[f1,g1]
   .omega
  .rcases d4 with⟨g1,g2⟩|⟨x',e',g1,g2,g3⟩
   .omega
   .obtain rfl:e=e':=by omega
    rw[f3]at g3;rw[f1,g1,Jt,Jt,(uU.1 (Ii g3)).2]
 .intro e
  simp only[IM]at e;obtain⟨q1,q2⟩:=e;rw[<-q1]at d1;obtain rfl:=m8 h.ns e1 d1;have hb:b=b':=by
   rcases e4 with⟨f1,f2⟩|⟨x,e,f1,f2,f3⟩
   .rcases d4 with⟨g1,g2⟩|⟨x',e',g1,g2,g3⟩
    .omega
    .rw[f1,g1]at q2;simp at q2
   .rcases d4 with⟨g1,g2⟩|⟨x',e',g1,g2,g3⟩
    .rw[f1,g1]at q2;simp at q2
    .rw[f1,g1]at q2
     simp only[Jt,La,Ke,and_true]at q2;rw[<-uU.2 ⟨rfl,q2⟩]at g3;obtain rfl:=m8 h.nl f3 g3;omega
  subst hb;obtain rfl:=m8 h.nc e3 d3;rfl
theorem yd{rows:List ef}(h1:∀r∈rows,r.links.length<=1){E:Nat->Nat->Prop}
  (hE:∀i j,E i j->∃r r',rows[i]?=Ic r/\rows[j]?=Ic r'/\∀old:List Int,(∀i j,E i j->old.getD i 0=old.getD j 0)->ol rows.length old i r=ol rows.length old j r') :
  (∀i j,E i j->(aV rows).getD i 0=(aV rows).getD j 0)/\
  ∃old:List Int,(∀i j,i<rows.length->j<rows.length->(old.getD i 0=old.getD j 0↔(aV rows).getD i 0=(aV rows).getD j 0))/\
   ∀i j r r',rows[i]?=Ic r->rows[j]?=Ic r'->((aV rows).getD i 0=(aV rows).getD j 0↔ol rows.length old i r=ol rows.length old j r'):=by
 have h:∀(k:Nat) (old:List Int) (many:Nat),iE rows k old many->(∀i j,E i j->old.getD i 0=old.getD j 0)->(∀i j,E i j->(aV rows).getD i 0=(aV rows).getD j 0)/\
  ∃old:List Int,(∀i j,i<rows.length->j<rows.length->(old.getD i 0=old.getD j 0↔(aV rows).getD i 0=(aV rows).getD j 0))/\
   ∀i j r r',rows[i]?=Ic r->rows[j]?=Ic r'->((aV rows).getD i 0=(aV rows).getD j 0↔ol rows.length old i r=ol rows.length old j r'):=by
  intro k
  induction k with
  |zero=>intro old many h;exact absurd h.pos (Mq _)
  |succ k ih=>
   intro old many h ho;have hn:∀i j,E i j->(bo rows old).out.getD i 0=(bo rows old).out.getD j 0:=by
    intro i j e;obtain⟨r,r',q1,q2,q3⟩:=hE i j e;exact(kq h1 old q1 q2).2 (q3 old ho)
   by_cases he:(bo rows old).classes.length=many
   .have hi:=iT rows old
    rw[<-h.done he];refine⟨hn,old,λi j hil hjl=>⟨λe=>?_,λe=>?_⟩,λi j r r' q1 q2=>kq h1 old q1 q2⟩
    .by_cases hne:(bo rows old).out.getD i 0=(bo rows old).out.getD j 0
     .exact hne
     .exfalso
      have hlt:∀m,m<rows.length->0<=(bo rows old).out.getD m 0/\(bo rows old).out.getD m 0<((bo rows old).classes.length:Int):=by
       intro m hm;rw[Ij,Ig (by rw[hi.len];exact hm)];exact hi.lt _ (K8 _)
      have href:∀m m',m<rows.length->m' < rows.length->(bo rows old).out.getD m 0=(bo rows old).out.getD m' 0->old.getD m 0=old.getD m' 0:=by
       intro m m' hm hm' e;have:=(kq h1 old (Ig hm) (Ig hm')).1 e;exact congrArg (λx=>x.1.1) this
      have key:∀(v:Nat),v<many->∃m,m<rows.length/\old.getD m 0=(v:Int)/\((bo rows old).out.getD m 0).toNat≠((bo rows old).out.getD j 0).toNat:=by
       intro v hv;obtain⟨m,hm⟩:=Kb (h.cover v hv);have hml:=(Ip.1 hm).1;rw[h.len]at hml;have hmv:old.getD m 0=(v:Int):=by rw[Ij,hm];rfl
       have hj0:=hlt j hjl;by_cases q:(bo rows old).out.getD m 0=(bo rows old).out.getD j 0
       .exact⟨i,hil,by rw[e,<-href m j hml hjl q,hmv],by have:=hlt i hil;omega⟩
       .exact⟨m,hml,hmv,by have:=hlt m hml;omega⟩
      have hs:(Jy many).map (λv:Nat=>(v:Int)) ⊆ (((Jy many).erase ((bo rows old).out.getD j 0).toNat).map λc=>(((bo rows old).classes[c]?.bind λc=>(bo rows old).starts[c.1.toNat]?).map (·.1)).getD 0):=by
       intro x hx;obtain⟨v,hv,rfl⟩:=JM.1 hx;obtain⟨m,hm,hmv,hne⟩:=key v (Kq.1 hv);refine JM.2 ⟨((bo rows old).out.getD m 0).toNat,(List.mem_erase_of_ne hne).2 (Kq.2 (by have:=hlt m hm;omega)),?_⟩;have hk:=rK.rows (N:=rows.length) (old:=old) h1 rows 0 ⟨[],[],[],[]⟩ rfl ⟨Li,Li,Li,rfl,λi r hi=>absurd hi (LG _)⟩;rw[KB]at hk;obtain⟨a,c,b,e1,e2,e3,_⟩:=hk.has m _ hm (Ig hm);have e2':(bo rows old).out.getD m 0=(c:Int):=by rw[Ij];exact congrArg (λo=>Option.getD o 0) e2
       have e3':(bo rows old).classes[c]?=Ic ((a:Int),b):=e3;have e1':(bo rows old).starts[a]?=Ic (dn old m rows[m]):=e1;rw[e2',IC,e3'];simp only[Option.bind_some,IC];rw[e1'];exact hmv
      have hnd:((Jy many).map (λv:Nat=>(v:Int))).Nodup:=by
       unfold List.Nodup;rw[List.pairwise_map];exact(List.nodup_range).imp (λhne e=>hne (by omega))
      have hle:=hnd.length_le_of_subset hs;have hj0:=hlt j hjl;rw[Jb,Jb,List.length_range,List.length_erase_of_mem (Kq.2 (by omega)),List.length_range]at hle;omega
    .have:=(kq h1 old (Ig hil) (Ig hjl)).1 e
     exact congrArg (λx=>x.1.1) this
   .exact ih _ _ (h.round he) hn
 refine h _ _ _ (iE.start rows) (λi j _=>?_);have:∀i,(IF rows.length (0:Int)).getD i 0=0:=by
  intro i;rw[Ij,Ku];split<;>rfl
 rw[this,this]
section
def j0:Sym->Bool
 |.reg _=>Ir
 |.res _=>Ir
 |_=>Ik
def GJ(D:List (Nat×List Sym))(n:Nat)(q:Int×Int):Sym->Prop
 |.reg r=>(n=0/\q=(2,(r:Int)))\/∃(j k:Nat),n=j+1/\k<24/\q=(0,((j*24+k:Nat):Int))/\stS D j k=.reg r
 |.res p=>(n=p+1/\q=(4,0))\/∃(j k:Nat),n=j+1/\p<j/\k<24/\q=(0,((j*24+k:Nat):Int))/\stS D j k=.res p
 |_=>False
theorem qL{α:Type}(g:Nat->Nat->α)(N:Nat):((Jy N).flatMap (λn=>(Jy 24).map (g n))).length=N*24:=by
 induction N with
 |zero=>rfl
 |succ n ih=>
  rw[Lc (n:=n),Mm,IV,ih];simp;omega
theorem vw{α:Type}(g:Nat->Nat->α):∀(N n l:Nat),n<N->l<24->((Jy N).flatMap (λn=>(Jy 24).map (g n)))[n*24+l]?=Ic (g n l)
 |0,_,_,h,_=>absurd h (LG _)
 |N+1,n,l,h,hl=>by
  rw[Lc (n:=N),Mm];by_cases q:n<N
  .rw[Jg (by rw[qL];omega),vw g N n l q hl]
  .obtain rfl:n=N:=by omega
   rw[IW (by rw[qL];omega),qL,List.flatMap_cons,List.flatMap_nil,JS,show n*24+l-n*24=l by omega,IK,KW hl];rfl
theorem C8{f:List In}{S:bj}{F:List (List Src)}{n l:Nat}(hn:n<S.nodes.length)(hl:l<24):(cQ f S F)[n*24+l]?=Ic (ko f S F n l):=by
 unfold cQ dU;rw[List.range_zero,La,JS];exact vw (ko f S F) _ _ _ hn hl
section
variable{f:List In}(h:eh f){c:List Bool}{S:bj}{D:List (Nat×List Sym)}(hs:SK f c S D){F:List (List Src)}(hF:rq f S F)
include h hs hF
theorem kp{n l:Nat}(hn:n<D.length)(hl:l<24):(j0 (stS D n l)=Ir->∃q,ko f S F n l=⟨(n:Int),[q]⟩/\GJ D n q (stS D n l))/\(j0 (stS D n l)=Ik->ko f S F n l=⟨-1,[]⟩):=by
 have hf:=j9 h hs hF n hn l hl;have hx:=ph h hs hn hl F (λj hj k hk=>by subst hj;exact j9 h hs hF j (by omega) k hk);have hr:∀s,stS D n l=s->dg F n l=kw l->ko f S F n l=⟨(n:Int),[me f S F l ((n:Int)-1,0)]⟩:=by
  intro s _ e;unfold ko;rw[e,hs.way n hn];rfl
 have hz:(dg F n l).kind≠4->ko f S F n l=⟨-1,[]⟩:=λe=>if_neg e;have hq:∀k m:Int,c_ F ((n:Int)-1,0) (dq f S ((n:Int)-1,0) l)=⟨k,m⟩->me f S F l ((n:Int)-1,0)=if k=4 then(0,((n:Int)-1)*24+m)else(1+k,m):=by
  intro k m e;unfold me;rw[e]
 obtain⟨s,hse⟩:=MF (stS D n l);have hr:=hr s hse;rw[hse]at hf hx ⊢;cases s with
 |no=>exact⟨λe=>Ix e,λ_=>hz (by rw[hf.1];show ¬(0:Int)=4;omega)⟩
 |num m=>exact⟨λe=>Ix e,λ_=>hz (by rw[hf.1];show ¬(2:Int)=4;omega)⟩
 |reg r=>
  refine⟨λ_=>⟨_,hr hf.1,?_⟩,λe=>Ix e⟩;rcases hx with⟨e,_,hv⟩|⟨j,k,e,hk,hv,hst⟩
  .rw[hq _ _ hv]
   exact .inl ⟨e,rfl⟩
  .rw[hq _ _ hv]
   refine .inr ⟨j,k,e,hk,?_,hst⟩;rw[if_pos rfl,e];congr 1;omega
 |res p=>
  refine⟨λ_=>⟨_,hr hf.1,?_⟩,λe=>Ix e⟩;rcases hx with⟨e,hv⟩|⟨j,k,e,hp,hk,hv,hst⟩
  .rw[hq _ _ hv]
   exact .inl ⟨e,rfl⟩
  .rw[hq _ _ hv]
   refine .inr ⟨j,k,e,hp,hk,?_,hst⟩;rw[if_pos rfl,e];congr 1;omega
theorem C9:∀r∈cQ f S F,r.links.length<=1:=by
 intro r hr;unfold cQ dU at hr;rw[List.range_zero,La,JS]at hr;obtain⟨n,hn,hr⟩:=List.mem_flatMap.1 hr;obtain⟨l,hl,rfl⟩:=JM.1 hr;have hn:=Kq.1 hn;rw[<-hs.len]at hn;obtain⟨h1,h2⟩:=kp h hs hF hn (Kq.1 hl);cases e:j0 (stS D n l)with
 |true=>obtain⟨q,e1,_⟩:=h1 e;rw[e1];exact Iz _
 |false=>rw[h2 e];exact ID _
def rJ(f:List In)(S:bj)(F:List (List Src))(n l:Nat):Int:=(aV (cQ f S F)).getD (n*24+l) 0
theorem Fj{n n' l l':Nat}(hn:n<D.length)(hl:l<24)(hn':n' < D.length)(hl':l' < 24)(hv:j0 (stS D n l)=Ir)(hv':j0 (stS D n' l')=Ir) :
  rJ f S F n l=rJ f S F n' l'↔n=n'/\stS D n l=stS D n' l':=by
 have hlen:(cQ f S F).length=D.length*24:=by
  have:=jy f S F S.nodes.length 0;rw[hs.len];exact this
 have hat:∀n l,n<D.length->l<24->(cQ f S F)[n*24+l]?=Ic (ko f S F n l):=λn l hn hl=>C8 (by rw[<-hs.len];exact hn) hl;have hlk:∀(old:List Int) (j k:Nat),j<D.length->k<24->dD (cQ f S F).length old 0 (0,((j*24+k:Nat):Int))=⟨0,0,old.getD (j*24+k) 0,Ir⟩:=by
  intro old j k hj hk;unfold dD;rw[if_pos ⟨rfl,by show(0:Int)<=((j*24+k:Nat):Int);omega,by show((j*24+k:Nat):Int)<_;rw[hlen];omega⟩];simp only[IC]
 have hlo:∀(old:List Int) (a b:Int),a≠0->dD (cQ f S F).length old 0 (a,b)=⟨0,a,b,Ik⟩:=by
  intro old a b ha;unfold dD;rw[if_neg (λq=>ha q.1)]
 obtain⟨hE,old,ho,hk⟩:=yd (C9 h hs hF) (E:=λi j=>∃n l l',n<D.length/\l<24/\l' < 24/\i=n*24+l/\j=n*24+l'/\stS D n l=stS D n l') (by
  rintro i j ⟨n,l,l',hn,hl,hl',rfl,rfl,e⟩;refine⟨_,_,hat n l hn hl,hat n l' hn hl',λold ho=>?_⟩;have hoo:=ho (n*24+l) (n*24+l') ⟨n,l,l',hn,hl,hl',rfl,rfl,e⟩;obtain⟨a1,a2⟩:=kp h hs hF hn hl;obtain⟨b1,b2⟩:=kp h hs hF hn hl';rw[<-e]at b1 b2;cases hv:j0 (stS D n l)with
  |false=>
   rw[a2 hv,b2 hv];unfold ol dn;rw[hoo]
  |true=>
   obtain⟨q,q1,q2⟩:=a1 hv;obtain⟨q',q1',q2'⟩:=b1 hv;rw[q1,q1'];unfold ol dn;rw[hoo];simp only[Jt,La,LU];have:dD (cQ f S F).length old 0 q=dD (cQ f S F).length old 0 q':=by
    have hs2:∀(j k k':Nat),n=j+1->k<24->k' < 24->stS D j k=stS D j k'->dD (cQ f S F).length old 0 (0,((j*24+k:Nat):Int))=dD (cQ f S F).length old 0 (0,((j*24+k':Nat):Int)):=by
     intro j k k' hj hk hk' e;rw[hlk old j k (by omega) hk,hlk old j k' (by omega) hk',ho _ _ ⟨j,k,k',by omega,hk,hk',rfl,rfl,e⟩]
    revert q2 q2';generalize stS D n l=s at hv;intro q2 q2';cases s with
    |no=>exact Ix hv
    |num m=>exact Ix hv
    |reg r=>
     rcases q2 with⟨e1,e2⟩|⟨j,k,e1,e2,e3,e4⟩<;>rcases q2' with⟨d1,d2⟩|⟨j',k',d1,d2,d3,d4⟩
     .rw[e2,d2]
     .omega
     .omega
     .obtain rfl:j=j':=by omega
      rw[e3,d3];exact hs2 j k k' e1 e2 d2 (e4.trans d4.symm)
    |res p=>
     rcases q2 with⟨e1,e2⟩|⟨j,k,e1,e0,e2,e3,e4⟩<;>rcases q2' with⟨d1,d2⟩|⟨j',k',d1,d0,d2,d3,d4⟩
     .rw[e2,d2]
     .omega
     .omega
     .obtain rfl:j=j':=by omega
      rw[e3,d3];exact hs2 j k k' e1 e2 d2 (e4.trans d4.symm)
   rw[this])
 have main:∀(m n n' l l':Nat),n<=m->n<D.length->l<24->n' < D.length->l' < 24->j0 (stS D n l)=Ir->j0 (stS D n' l')=Ir->rJ f S F n l=rJ f S F n' l'->n=n'/\stS D n l=stS D n' l':=by
  intro m
  induction m with
  |zero=>
   intro n n' l l' hm hn hl hn' hl' hv hv' e;obtain⟨q,q1,q2⟩:=(kp h hs hF hn hl).1 hv;obtain⟨q',q1',q2'⟩:=(kp h hs hF hn' hl').1 hv';have hkk:=(hk _ _ _ _ (hat n l hn hl) (hat n' l' hn' hl')).1 e;rw[q1,q1']at hkk;unfold ol dn at hkk;simp only[IM,Jt,La,Ke,and_true]at hkk;obtain⟨⟨_,k1,_⟩,k2⟩:=hkk;have k1:(n:Int)=(n':Int):=k1;obtain rfl:n=n':=by omega
   obtain rfl:n=0:=by omega
   refine⟨rfl,?_⟩;generalize stS D 0 l=s at q2 hv ⊢;generalize stS D 0 l'=s' at q2' hv' ⊢;cases s with
   |no=>exact Ix hv
   |num m=>exact Ix hv
   |res p=>rcases q2 with⟨e1,_⟩|⟨j,k,e1,_⟩<;>omega
   |reg r=>
    cases s' with
    |no=>exact Ix hv'
    |num m=>exact Ix hv'
    |res p=>rcases q2' with⟨e1,_⟩|⟨j,k,e1,_⟩<;>omega
    |reg r'=>
     rcases q2 with⟨e1,e2⟩|⟨j,k,e1,_⟩
     .rcases q2' with⟨d1,d2⟩|⟨j,k,d1,_⟩
      .rw[e2,d2,hlo _ _ _ (by omega),hlo _ _ _ (by omega)]at k2
       simp only[Lk.mk.injEq]at k2;rw[show r=r' by omega]
      .omega
     .omega
  |succ m ih=>
   intro n n' l l' hm hn hl hn' hl' hv hv' e;by_cases hnm:n<=m
   .exact ih n n' l l' hnm hn hl hn' hl' hv hv' e
   obtain⟨q,q1,q2⟩:=(kp h hs hF hn hl).1 hv;obtain⟨q',q1',q2'⟩:=(kp h hs hF hn' hl').1 hv';have hkk:=(hk _ _ _ _ (hat n l hn hl) (hat n' l' hn' hl')).1 e;rw[q1,q1']at hkk;unfold ol dn at hkk;simp only[IM,Jt,La,Ke,and_true]at hkk;obtain⟨⟨_,k1,_⟩,k2⟩:=hkk;have k1:(n:Int)=(n':Int):=k1;obtain rfl:n=n':=by omega
   obtain rfl:n=m+1:=by omega
   refine⟨rfl,?_⟩;have shape:∀s q,j0 s=Ir->GJ D (m+1) q s->(s=.res m/\q=(4,0))\/∃k,k<24/\q=(0,((m*24+k:Nat):Int))/\stS D m k=s:=by
    intro s q hv q2;cases s with
    |no=>exact Ix hv
    |num m=>exact Ix hv
    |reg r=>
     rcases q2 with⟨e1,_⟩|⟨j,k,e1,e2,e3,e4⟩
     .omega
     .obtain rfl:m=j:=by omega
      exact .inr ⟨k,e2,e3,e4⟩
    |res p=>
     rcases q2 with⟨e1,e2⟩|⟨j,k,e1,_,e2,e3,e4⟩
     .exact .inl ⟨by rw[show p=m by omega],e2⟩
     .obtain rfl:m=j:=by omega
      exact .inr ⟨k,e2,e3,e4⟩
   have hm':m<D.length:=by omega
   rcases shape _ _ hv q2 with⟨s1,e2⟩|⟨k,hk24,e2,s1⟩<;>rcases shape _ _ hv' q2' with⟨s2,d2⟩|⟨k',hk24',d2,s2⟩
   .rw[s1,s2]
   .rw[e2,d2,hlo _ _ _ (by omega),hlk _ _ _ hm' hk24']at k2
    simp at k2
   .rw[e2,d2,hlk _ _ _ hm' hk24,hlo _ _ _ (by omega)]at k2
    simp at k2
   .rw[e2,d2,hlk _ _ _ hm' hk24,hlk _ _ _ hm' hk24']at k2
    simp only[Lk.mk.injEq]at k2;have:=(ho (m*24+k) (m*24+k') (by rw[hlen];omega) (by rw[hlen];omega)).1 k2.2.2.1;rw[<-s1,<-s2];exact(ih m m k k' (Iz _) hm' hk24 hm' hk24' (by rw[s1];exact hv) (by rw[s2];exact hv') this).2
 constructor
 .exact main n n n' l l' (Iz _) hn hl hn' hl' hv hv'
 .rintro⟨rfl,e⟩
  exact hE _ _ ⟨n,l,l',hn,hl,hl',rfl,rfl,e⟩
end
end
end Go.Proofs.YtlinbehijfcelaaGreatDoor.Top
