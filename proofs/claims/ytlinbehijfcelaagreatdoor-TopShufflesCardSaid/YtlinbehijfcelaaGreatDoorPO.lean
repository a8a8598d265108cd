/- Walks of the program, and what it computes, told plainly. No condition. (VG VH VI VJ VK) -/
import Derived.Below
import Derived.Deep.Draws
import Derived.Deep.AppendLies
import Derived.Maps.AppendAt
import Derived.OwnWalk
import Derived.Laws.BytesArg
import Derived.Laws.MakeOwn
import Derived.Laws.OwnMore
import Derived.Deep.OwnRows
import Derived.Tactics
import Derived.Lib.ConvBytes
import Derived.Laws.Slices
import Derived.WalkKit
import Derived.KernelRfl
import Derived.RowKit3
import Derived.Deep.LoopGhost
import Derived.Deep.QuietTactic
import Derived.BigQuiet
import Derived.WideLaws
import Derived.Deep.DeepCutAuto
import Derived.Deep.CutBlock
import Derived.Deep.RegionHeld3
import Derived.Laws.Rows
import Derived.Lib.AppendStr
import Derived.ArgAppend
import Derived.Laws.IdiomCopy
import Derived.RowKit
import Derived.OrdersHeld
import Derived.Laws.BitsLemmas
import Derived.Laws.StructEq
import Derived.Test.YtlinbehijfcelaaGreatDoorProg
import Derived.Deep.WholeRow
import Derived.Laws.CopyOwn
import Derived.Carry
import Derived.ChangeKeysEq
import Derived.Laws.RangeAny
import Derived.Deep.MidRow
import Derived.Laws.Tables
import Derived.StillTailTactics
import Derived.Test.YtlinbehijfcelaaGreatDoorPA
import Derived.Test.YtlinbehijfcelaaGreatDoorPB
import Derived.Test.YtlinbehijfcelaaGreatDoorPC
import Derived.Test.YtlinbehijfcelaaGreatDoorPD
import Derived.Test.YtlinbehijfcelaaGreatDoorPE
import Derived.Test.YtlinbehijfcelaaGreatDoorPF
import Derived.Test.YtlinbehijfcelaaGreatDoorPG
import Derived.Test.YtlinbehijfcelaaGreatDoorPH
import Derived.Test.YtlinbehijfcelaaGreatDoorPJ
import Derived.Test.YtlinbehijfcelaaGreatDoorPM
import Derived.Test.YtlinbehijfcelaaGreatDoorPN
set_option linter.unusedVariables false
set_option linter.unusedSimpArgs false
set_option linter.unusedSectionVars false
set_option maxHeartbeats 8000000
set_option maxRecDepth 100000
open Go.Value renaming agg->IA,bool->Iy,int->Ib,oneCell'->IH,pointer->Iq,slice->Ia,tuple->IR
open Go.IntKind renaming i64->Ie
open Go renaming Calls->I9,Operand->Lf,TypeId->Je,Value->Io,World->Im,bodyPost_ret->IG,execOp->JJ,heap_alloc2_new->L9,heap_alloc2_old->Lz,heap_alloc_last->Iu,loadVar->Le,results_cell_row->IX,wpList_load_row->II,wpStill_nil->Mc,wp_region_still_lit->KF
open List renaming append_assoc->Kv,append_nil->JS,drop_of_length_le->Ju,getD_eq_getElem?_getD->Ij,getElem?_append_left->Jg,getElem?_append_right->IW,getElem?_eq_getElem->Ig,getElem?_eq_some_iff->Ip,getElem?_map->IK,length_append->IV,length_cons->Jz,length_map->Jb,length_nil->Lj,map_append->LY,mem_append->J0,mem_cons->I7,mem_map->JM,nil_append->Ka,not_mem_nil->JE,replicate->IF,setIfInBounds_toArray->IP,set_cons_succ->IZ,set_cons_zero->IY,size_toArray->I8,take_append_of_le_length->Kx,take_length->Kh,take_succ_eq_append_getElem->JC
open Option renaming none->Ih,some->Ic
open Bool renaming and_eq_true->Js,and_false->Lw,eq_iff_iff->L6,false->Ik,true->Ir
open Array renaming all_eq_true_iff_forall_mem->Jh,getElem?_eq_some_iff->IB
open Go.Proofs.Tryz renaming func24->Km,prog->If,underlying105->LN,underlying35->Lu,underlying37->I4,underlying49->I6,underlying59->L8,underlying61->JY,underlying63->JT,underlying93->Jo
open Go.RowKit renaming Below->It,intOf->Jj
open Go.Ending renaming returned->Iv
open Go.Obj renaming cells->Is
open Go.RowKit.Below renaming refl->Il
open Nat renaming le_of_lt->Mv,le_refl->Iz,lt_or_ge->Lx,zero_le->ID
open Int renaming le_refl->J7,toNat_natCast->IC
open And renaming intro->IE
open Go.Act renaming put->KY
open Option.some renaming inj->Ii
open Go.Op renaming equalIn->Jp
open Go.Sem renaming run_bind->IJ,run_pure->JO
open Go.Result renaming andThen_ok->I1
open Go.Instr renaming fill->Ll
namespace Go.Proofs.YtlinbehijfcelaaGreatDoor.Top
open Go.RowKit Go.Proofs.YtlinbehijfcelaaGreatDoorW.PrintWords Go.Proofs.YtlinbehijfcelaaGreatDoorW.PrintLast
structure Ca where
 r:List Int
 h:List Int
 ans:List Int
 fuel:Int
def cac(r:List Int)(vH vA:Io)(fuel:Int):List Io:=r.map (Ib .i64)++[vH,vA,Ib Ie fuel]
theorem kJ{r:List Int}(h:r.length=8){vH vA:Io}{fuel:Int}:(cac r vH vA fuel).length=11:=by simp[cac,h]
theorem dj{r:List Int}(h:r.length=8){vH vA:Io}{fuel:Int}(i:Nat):(cac r vH vA fuel)[8+i]?=[vH,vA,Ib Ie fuel][i]?:=by
 unfold cac;rw[IW (by simp[h]),Jb,h];congr 1;omega
theorem tU{r:List Int}(h:r.length=8){vH vA:Io}{fuel:Int}{i:Nat}(hi:i<8):(cac r vH vA fuel)[i]?=Ic (Ib Ie (r.getD i 0)):=by
 unfold cac;rw[Jg (by simp[h];exact hi),IK,Ij,Ig (by omega)];rfl
theorem kI{r:List Int}(h:r.length=8){vH vA:Io}{fuel:Int}(i:Nat)(v:Io):(cac r vH vA fuel).set (8+i) v=r.map (Ib .i64)++[vH,vA,Ib Ie fuel].set i v:=by
 unfold cac;rw[List.set_append_right _ _ (by simp[h]),Jb,h];congr 2;omega
theorem fN{r:List Int}{A B:Option Addr}{n c m d:Nat}{fuel:Int}:(cac r (Ia A n c) (Ia B m d) fuel).toArray.all (·.oneCell')=Ir:=by
 rw[Jh];intro v hv;simp only[List.mem_toArray,cac,J0,JM,I7,JE,or_false]at hv;rcases hv with⟨i,_,rfl⟩|rfl|rfl|rfl<;>rfl
theorem ov:(If.info? 37).map (·.size)=Ic 11:=by kernel_rfl
theorem bv{r:List Int}(h:r.length=8){vH vA:Io}{fuel:Int}:(If.info? 37).map (·.size)=Ic (cac r vH vA fuel).toArray.size:=by rw[I8,kJ h];exact ov
def dP:Array Io:=(cac (IF 8 0) (Ia Ih 0 0) (Ia Ih 0 0) 0).toArray
theorem caz{r:List Int}(h:r.length=8){vH vA:Io}{fuel:Int}:dP.size=(cac r vH vA fuel).toArray.size:=(show dP.size=11 from rfl).trans (by rw[I8,kJ h])
def CaV(W:Im)(c:Ca)(v:Io):Prop:=∃vH vA,v=IA (cac c.r vH vA c.fuel).toArray/\c.r.length=8/\RdT (Kd.int .i64) 2 W vH c.h/\RdT (Kd.int .i64) 2 W vA c.ans
theorem CaV.below{W W':Im}{c:Ca}{v:Io}(h:CaV W c v)(hb:It W.heap.size W W'):CaV W' c v:=by
 obtain⟨vH,vA,h1,h2,h3,h4⟩:=h;exact⟨vH,vA,h1,h2,h3.below hb,h4.below hb⟩
def il(n m:Nat)(fuel:Int):Bool:=decide ((n:Int)<=16)&&(decide ((m:Int)<=5000)&&(decide (0<=fuel)&&decide (fuel<=5000)))
theorem BD(r:List Int)(h8:r.length=8)(A B:Option Addr)(n c m d:Nat)(fuel:Int)(hn:n<=5000)(hm:m<=100000)(w:Im) :
  I9 If 64 #[IA (cac r (Ia A n c) (Ia B m d) fuel).toArray] w λe w'=>e=Iv (Iy (il n m fuel))/\It w.heap.size w w':=by
 obtain⟨L,hL⟩:∃L,L=cac r (Ia A n c) (Ia B m d) fuel:=⟨_,rfl⟩;obtain⟨w1,hw1⟩:∃w1,w1=w.alloc (Is L.toArray 37):=⟨_,rfl⟩;obtain⟨g,hg⟩:=MF w.heap.size;have h1:w1.heap[g]?=Ic (.cells L.toArray 37 (0,0)):=by rw[hw1,<-hg];exact Iu w _
 have HB:=MD (show It w.heap.size w w1 by rw[hw1];exact ae (Il _ _) _);have c8:=(show w1.cell? ⟨g,8,Ih⟩=Ic (.slice A n c) by rw[aq h1,hL,show 8=8+0 from rfl,dj h8];rfl);have c9:=(show w1.cell? ⟨g,9,Ih⟩=Ic (.slice B m d) by rw[aq h1,hL,show 9=8+1 from rfl,dj h8];rfl);have c10:=(show w1.cell? ⟨g,10,Ih⟩=Ic (Ib Ie fuel) by rw[aq h1,hL,show 10=8+2 from rfl,dj h8];rfl);have HHp:=MD (mC A n c w1 hn);have HW1:=MD hw1;have HG:=MD hg;obtain⟨b,hb⟩:=ME (il n m fuel);rw[<-hL,<-hb];unfold il at hb;have hm':(m:Int)<=100000:=by omega
 clear hL h8 h1 hw1 hn;by_cases k1:(n:Int)<=16
 .by_cases k2:(m:Int)<=5000
  .by_cases k3:0<=fuel
   .by_cases k4:fuel<=5000
    .obtain rfl:b=Ir:=by rw[hb,decide_eq_true k1,decide_eq_true k2,decide_eq_true k3,decide_eq_true k4];rfl
     rw[decide_eq_true k1]at HHp;clear hb k1;go_enter Tryz.func64,Tryz.ntmps64;go_upto_region 1 with fail
     refine ar HW1.1.symm ?_;clear hg;go_wp2_with (first|(go_at_call 89;refine HHp.1.mono ?_;rintro e w' ⟨rfl,rfl⟩));go_ret;exact⟨rfl,HB.1⟩
    .obtain rfl:b=Ik:=by rw[hb,decide_eq_false k4,Lw,Lw,Lw]
     have q4:=decide_eq_false k4;rw[decide_eq_true k1]at HHp;clear hb k1;go_enter Tryz.func64,Tryz.ntmps64;go_upto_region 1 with fail
     refine ar HW1.1.symm ?_;clear hg;go_wp2_with (first|(go_at_call 89;refine HHp.1.mono ?_;rintro e w' ⟨rfl,rfl⟩));go_ret;exact⟨rfl,HB.1⟩
   .obtain rfl:b=Ik:=by rw[hb,decide_eq_false k3,Bool.false_and,Lw,Lw]
    rw[decide_eq_true k1]at HHp;clear hb k1;go_enter Tryz.func64,Tryz.ntmps64;go_upto_region 1 with fail
    refine ar HW1.1.symm ?_;clear hg;go_wp2_with (first|(go_at_call 89;refine HHp.1.mono ?_;rintro e w' ⟨rfl,rfl⟩));go_ret;exact⟨rfl,HB.1⟩
  .obtain rfl:b=Ik:=by rw[hb,decide_eq_false k2,Bool.false_and,Lw]
   rw[decide_eq_true k1]at HHp;clear hb k1;go_enter Tryz.func64,Tryz.ntmps64;go_upto_region 1 with fail
   refine ar HW1.1.symm ?_;clear hg;go_wp2_with (first|(go_at_call 89;refine HHp.1.mono ?_;rintro e w' ⟨rfl,rfl⟩));go_ret;exact⟨rfl,HB.1⟩
 .obtain rfl:b=Ik:=by rw[hb,decide_eq_false k1,Bool.false_and]
  rw[decide_eq_false k1]at HHp;clear hb k1;go_enter Tryz.func64,Tryz.ntmps64;go_upto_region 1 with fail
  refine ar HW1.1.symm ?_;clear hg;go_wp2_with (first|(go_at_call 89;refine HHp.1.mono ?_;rintro e w' ⟨rfl,rfl⟩));go_ret;exact⟨rfl,HB.1⟩
def rj(r:List Int):List (Bool×Int):=r.map (λv=>(Ir,v))++IF 16 (Ik,0)
def oY(r:List Int)(k:Nat):List (Bool×Int):=(r.take k).map (λv=>(Ir,v))++IF (24-k) (Ik,0)
theorem oA{r:List Int}(h:r.length=8){k:Nat}(hk:k<=8):(oY r k).length=24:=by simp[oY,h];omega
theorem zS{r:List Int}(h:r.length=8){k:Nat}(hk:k<8):(oY r k).set k (Ir,r.getD k 0)=oY r (k+1):=by
 have hl:((r.take k).map (λv=>((Ir,v):Bool×Int))).length=k:=by simp[h];omega
 unfold oY;rw[List.set_append_right _ _ (by omega),hl,Nat.sub_self,show 24-k=(24-(k+1))+1 by omega,List.replicate_succ,IY,List.take_add_one,Ig (by omega),LY,Kv];simp[Ij,Ig (show k<r.length by omega)]
theorem oB{r:List Int}(h:r.length=8):oY r 8=rj r:=by unfold oY rj;rw[List.take_of_length_le (by omega)]
theorem Fn(A:Option Addr)(n c:Nat):If.built 93 [(1,Ia A n c)]=Ic (stc (IF 24 (Ik,0)) (Ia A n c) 0 0).toArray:=rfl
theorem EC{l:List (Bool×Int)}(h:l.length=24){i:Nat}(hi:i<24)(b:Bool)(v:Int)(vH:Io)(a k:Int):(stc l vH a k).take (i*2)++[Iy b,Ib Ie v]++(stc l vH a k).drop (i*2+2)=stc (l.set i (b,v)) vH a k:=by
 unfold stc;exact yZ l i b v _ (by omega)
theorem BE(r:List Int)(h8:r.length=8)(vH vA:Io)(H:List Int)(fuel:Int)(w:Im)(hH:Rd (Kd.int .i64) w vH H)(hA:∃B m d,vA=Ia B m d)(hn:H.length<=100000) :
  I9 If 65 #[IA (cac r vH vA fuel).toArray] w λe w'=>∃A c,e=Iv (IA (stc (rj r) (Ia A H.length c) 0 0).toArray)/\RdT (Kd.int .i64) 2 w' (Ia A H.length c) H/\It w.heap.size w w':=by
 obtain⟨A,c,rfl,_,hC⟩:=hH;obtain⟨B,m,d,rfl⟩:=hA;obtain⟨L,hL⟩:∃L,L=cac r (Ia A H.length c) (Ia B m d) fuel:=⟨_,rfl⟩;obtain⟨g,hg⟩:=MF w.heap.size;obtain⟨w1,hw1⟩:∃w1,w1=(w.alloc (Is L.toArray 37)).alloc (Is bY 93):=⟨_,rfl⟩;obtain⟨h2,h1,hb⟩:=dz (w:=w) (A:=Is L.toArray 37) (B:=Is bY 93) (w1:=w1) (by rw[hw1];exact Il _ _);rw[hg]at h1 h2;have c8:=(show w1.cell? ⟨g,8,Ih⟩=Ic (.slice A H.length c) by rw[aq h1,hL,show 8=8+0 from rfl,dj h8];rfl);have hlt:=aj h1;have HLo:=MD (λi (hi:i<8)=>show L[i]?=Ic (Ib Ie (r.getD i 0)) by rw[hL];exact tU h8 hi);have HC:=MD (Kd.C_below hC hb);have HB:=MD hb;have HW1:=MD hw1;have H1:=MD h1;have H2:=MD h2;have HZ:=MD (show w1.heap.size=g+2 by rw[hw1,<-hg];simp);have HN:=MD hn;have H8:=MD h8;have HG:=MD hg;rw[<-hL];clear hL hC hb hw1 h1 h2 hn h8;go_enter Tryz.func65,Tryz.ntmps65;go_upto_region 1 with fail
 refine ar HW1.1.symm ?_;clear hg;go_upto_region 2 with(first
  |((with_reducible refine a6 (b:=.append) (xs:=#[.tmp 5,.tmp 7]) rfl ?_);refine mo rfl 35 (.tmp 5) (.tmp 7) rfl Lu jP w1.heap.size H A H.length c rfl rfl (Iu w1 _) (Kd.C_below HC.1 (ae (Il _ _) _)) HN.1 ?_;intro A1 c1 w2 hr hf;have HR:=MD hr;have HF:=MD (show Fr (λk=>g+1<k) w1 w2 from Fr.new hf);have H12:=MD ((hf.block g (by simp;have:=HZ.1;omega) (by have:=HZ.1;omega)).trans (aT H1.1 _));clear hr hf)
  |((with_reducible refine ai (N:=9) rfl ?_);refine aU rfl 93 _ rfl [(1,Ia A1 H.length c1)] _ rfl (Fn A1 H.length c1) ?_)
  |((with_reducible refine ap (t:=93) (p:=3) rfl ?_);refine an rfl 93 _ _ rfl w2.heap.size (stc (IF 24 (Ik,0)) (Ia A1 H.length c1) 0 0).toArray rfl rfl 93 bY (Iu w2 _) (bZ (by rfl)) rfl el ?_;intro w3 h3 hf3;have H33:=MD h3;have HF3:=MD hf3;clear h3 hf3))
 obtain⟨G,hG⟩:=MF w2.heap.size;have hgG:g+1<G:=by rw[<-hG];have:=HF.1.size;have:=HZ.1;omega
 rw[hG]at H33 ⊢;have HGg:=MD hgG;have H13:=MD ((HF3.1.block g (by simp;have:=aj H12.1;omega) (by omega)).trans (aT H12.1 _));have HR3:=MD ((HR.1.below (ae (Il _ _) (Is bY 93))).fr aC HF3.1 (λk cs fr e=>by subst e;rw[Iu];simp));have HFF:=MD (show Fr (λk=>g+1<k) w1 w3 from(HF.1.trans (Fr.of_below (ae (Il _ _) (Is bY 93)))).trans (HF3.1.mono λk _ e=>by omega));have HX:=MD (show w1.heap.size<=w3.heap.size from HFF.1.size);have H23:=MD ((HFF.1.block (g+1) (aj H2.1) (by omega)).trans H2.1);clear hG hgG c8 hlt H1 H2 HF HF3 H12 HR HC HW1;go_wp2;go_loopw [10] (λj wr=>∃k:Nat,j=Ib Ie k/\aa (k<=8/\wr.heap[G]?=Ic (.cells (stc (oY r k) (Ia A1 H.length c1) 0 0).toArray 93 (0,0))/\Fr (λj=>j=G) w3 wr)) (λj _=>8-(Jj j).toNat)
 case atStart=>exact⟨0,rfl,⟨⟨ID _,H33.1,Fr.refl _ _⟩⟩⟩
 case round=>
  obtain⟨k,rfl,HL⟩:=hrel;obtain⟨hk,hG,hF⟩:=HL.1;have h13:=(hF.block g (aj H13.1) (by have:=HGg.1;omega)).trans H13.1;by_cases hk8:k<8
  .have hk8':(k:Int)<8:=by omega
   have hk24':(k:Int)<24:=by omega
   have ck:=(show wr.cell? ⟨g,k,Ih⟩=Ic (Ib Ie (r.getD k 0)) by rw[aq h13,HLo.1 k hk8]);have HF:=MD hF;have HK:=MD hk8;have HGb:=MD hG;have HL24:=MD (oA H8.1 hk);obtain⟨rk,hrk⟩:=ME (r.getD k 0);rw[<-hrk]at ck;have HRk:=MD hrk;clear hk hG hF HL h13 hk8 hrk;go_wp2_with (first
    |((with_reducible refine ap (t:=90) (p:=20) rfl ?_);refine fK rfl 90 _ _ rfl G (k*2) [Iy Ir,Ib Ie rk] rfl rfl 93 _ HGb.1 mA (by rw[dm HL24.1];have:=HK.1;simp only[Jz,Lj];omega) (by simp[IH]) ?_;intro w5 h5 hf5;have H5:=MD h5;have HF5:=MD hf5;clear h5 hf5))
   go_roundw
   case rel=>exact⟨k+1,by go_num,⟨⟨by have:=HK.1;omega,by rw[<-zS H8.1 HK.1,<-EC HL24.1 (by have:=HK.1;omega),<-HRk.1];exact H5.1,HF.1.trans HF5.1⟩⟩⟩
   case measure=>have:=HK.1;simp[Jj];omega
  .obtain rfl:k=8:=by omega
   rw[oB H8.1]at hG;have H24:=MD (show(rj r).length=24 by rw[<-oB H8.1];exact oA H8.1 (by omega));have HF:=MD hF;have HGb:=MD hG;have H23':=MD ((hF.block (g+1) (aj H23.1) (by have:=HGg.1;omega)).trans H23.1);clear hk hG hF HL h13 hk8;go_wp2_with (first
    |((with_reducible refine ai (N:=22) rfl ?_);refine II rfl 93 _ rfl G rfl 93 (stc (rj r) (Ia A1 H.length c1) 0 0).toArray (0,0) _ HGb.1 Jo rfl (bZ H24.1) ?_)
    |((with_reducible refine ap (t:=93) (p:=2) rfl ?_);refine an rfl 93 _ _ rfl (g+1) (stc (rj r) (Ia A1 H.length c1) 0 0).toArray rfl rfl 93 bY H23'.1 (bZ H24.1) (stz H24.1) el ?_;intro w5 h5 hf5;have H5:=MD h5;have HF5:=MD hf5;clear h5 hf5))
   have hfin:Fr (λk=>g+1<=k) w1 w5:=(HFF.1.mono λk _ e=>by omega).trans ((HF.1.mono λk _ e=>by have:=HGg.1;omega).trans (HF5.1.mono λk _ e=>by omega));have hr:=(HR3.1.fr aC HF.1 (λk cs fr e=>by subst e;rw[H33.1];simp)).fr aC HF5.1 (λk cs fr e=>by subst e;rw[H23'.1];simp);exact IG (v:=IA (stc (rj r) (Ia A1 H.length c1) 0 0).toArray) (IX rfl _ _ (g+1) 93 _ (0,0) _ rfl H5.1 Jo rfl (bZ H24.1)) rfl ⟨A1,c1,rfl,hr,Fr.below HB.1 hfin (λk hk e=>by have:=HG.1;omega) HB.1.size⟩
structure Tr where
 evs:List Ev
 out:Oc
 steps:Int
 work:Int
def trZ:Tr:=⟨[],⟨0,0,[]⟩,0,0⟩
def db(f:List In)(ask:List Int)(q:Tr×St):Tr×St:=
 (⟨q.1.evs++(eG f q.2 ask).2.1,(eG f q.2 ask).2.2.1,q.1.steps+1,if(f.getD q.2.at_.toNat In.zero).moves=Ir then q.1.work else q.1.work+1⟩,(eG f q.2 ask).1)
def jW(f:List In)(ask:List Int):Nat->Tr×St->Tr×St
 |0,q=>q
 |n+1,q=>if(db f ask q).1.out.how=0 then jW f ask n (db f ask q)else db f ask q
def nJ(c:Ca):St:=⟨rj c.r,c.h,0,0⟩
def fC(f:List In)(c:Ca):Tr×St×Int:=
 if bi f=Ir/\il c.h.length c.ans.length c.fuel=Ir then((jW f c.ans c.fuel.toNat (trZ,nJ c)).1,(jW f c.ans c.fuel.toNat (trZ,nJ c)).2,0)else(trZ,stZ,1)
structure StI(f:List In)(s:St):Prop where
 l:s.l.length=24
 lo:0<=s.at_
 hi:s.at_<(f.length:Int)
 h:s.h.length<=16
theorem GY(x:In)(ask:List Int)(p:Pw):(doP x ask p).l.length=p.l.length:=by
 have hs:∀d v how,(p.setP d v how).l.length=p.l.length:=λd v how=>by unfold Pw.setP;split<;>simp
 have hn:∀(q:Pw) n,(q.next n).l=q.l:=λq n=>by unfold Pw.next;split<;>rfl
 have hc:∀a,(p.callP x ask a).l.length=p.l.length:=λa=>by unfold Pw.callP;split<;>simp
 have hst:∀a b,(p.storeP a b).l=p.l:=λa b=>by unfold Pw.storeP;split<;>rfl
 have hm:(p.moveP x).l.length=p.l.length:=by unfold Pw.moveP;simp only;(repeat' split)<;>simp
 unfold doP
 repeat' split
 all_goals first|rw[hn,hs]|rw[hn,hst]|rw[hn,hc]|rfl|rw[hn,hm]|rw[hn]
theorem Ff(x:In)(ask:List Int)(p:Pw)(h:p.evs=[]):(doP x ask p).evs.length<=1:=by
 have hs:∀d v how,(p.setP d v how).evs=p.evs:=λd v how=>by unfold Pw.setP;split<;>rfl
 have hn:∀(q:Pw) n,(q.next n).evs=q.evs:=λq n=>by unfold Pw.next;split<;>rfl
 have hc:∀a,(p.callP x ask a).evs.length<=1:=λa=>by unfold Pw.callP;split<;>simp[h]
 have hst:∀a b,(p.storeP a b).evs=p.evs:=λa b=>by unfold Pw.storeP;split<;>rfl
 unfold doP
 repeat' split
 all_goals first
  |(rw[hn,hs,h];exact ID _)
  |(rw[hn,hst,h];exact ID _)
  |(rw[hn];exact hc _)
  |(rw[hn,show(p.moveP x).evs=p.evs from rfl,h];exact ID _)
  |(rw[hn,h];exact ID _)
  |(show p.evs.length<=1;rw[h];exact ID _)
theorem Gp(f:List In)(hr:dQ f)(n:Nat)(x:In)(hx:f[n]?=Ic x)(ask:List Int)(p:Pw)(hp:p.at_=n):0<=(doP x ask p).at_/\(doP x ask p).at_<(f.length:Int):=by
 have hnl:=(Ip.1 hx).1;have hok:=hr.ok n x hx;have hn:∀(q:Pw) (m:Int),q.at_=n->0<=m->m<(f.length:Int)->0<=(q.next m).at_/\(q.next m).at_<(f.length:Int):=λq m h1 h2 h3=>by
  unfold Pw.next;split
  .exact⟨h2,h3⟩
  .rw[h1];omega
 have hs:∀d v how,(p.setP d v how).at_=n:=λd v how=>by rw[<-hp];unfold Pw.setP;split<;>rfl
 have hc:∀a,(p.callP x ask a).at_=n:=λa=>by rw[<-hp];unfold Pw.callP;split<;>rfl
 have hst:∀a b,(p.storeP a b).at_=n:=λa b=>by rw[<-hp];unfold Pw.storeP;split<;>rfl
 have hlast:x.op≠16->x.op≠18->n+1<f.length:=λh1 h2=>by
  rcases Lx (n+1) f.length with h|h
  .exact h
  .exfalso
   have e:f.length-1=n:=by omega
   have hl:=hr.last;unfold eI at hl;rw[e,Ij,hx]at hl;rcases hl with hl|hl
   .exact h1 hl
   .exact h2 hl
 unfold doP;by_cases h1:x.op=13
 .rw[if_pos h1];have:=hlast (by omega) (by omega);exact hn _ _ (hs _ _ _) (by omega) (by omega)
 rw[if_neg h1];by_cases h2:x.op=14
 .rw[if_pos h2];have:=hlast (by omega) (by omega);exact hn _ _ (hst _ _) (by omega) (by omega)
 rw[if_neg h2];by_cases h3:x.op=15
 .rw[if_pos h3];have:=hlast (by omega) (by omega);exact hn _ _ (hc _) (by omega) (by omega)
 rw[if_neg h3];by_cases h4:x.op=18
 .rw[if_pos h4];show 0<=p.at_/\p.at_<_;omega
 rw[if_neg h4];by_cases h5:x.op=17
 .rw[if_pos h5]
  have:=hlast (by omega) (by omega);have:=hok.jt (.inr h5);split
  .exact hn _ _ hp this.1 this.2
  .exact hn _ _ hp (by omega) (by omega)
 rw[if_neg h5];by_cases h6:x.op=16
 .rw[if_pos h6]
  have:=hok.jt (.inl h6);exact hn _ _ hp this.1 this.2
 rw[if_neg h6];have:=hlast h6 h4;split
 .exact hn _ _ (hs _ _ _) (by omega) (by omega)
 .exact hn _ _ hp (by omega) (by omega)
theorem GF{f:List In}(hr:dQ f):StI f stZ:=⟨rfl,J7 _,by have:=hr.pos;show(0:Int)<_;omega,ID _⟩
theorem zT{f:List In}(hr:dQ f){c:Ca}(h8:c.r.length=8)(hh:c.h.length<=16):StI f (nJ c):=⟨by unfold nJ;rw[<-oB h8];exact oA h8 (by omega),J7 _,by have:=hr.pos;show(0:Int)<_;omega,hh⟩
theorem pH{f:List In}(hr:dQ f){s:St}(h:StI f s)(ask:List Int):StI f (eG f s ask).1/\(eG f s ask).2.1.length<=1/\(eG f s ask).2.2.1.h.length<=16:=by
 unfold eG;split
 .obtain⟨n,hn⟩:∃n:Nat,s.at_=n:=⟨s.at_.toNat,by have:=h.lo;omega⟩
  obtain⟨x,hx⟩:∃x,f[n]?=Ic x:=⟨_,Ig (by have:=h.hi;omega)⟩;have hg:f.getD s.at_.toNat In.zero=x:=by rw[hn,IC,Ij,hx];rfl
  rw[hg];split
  .have h1:=Gp f hr n x hx ask s.pw hn
   have h2:=GY x ask s.pw;have h3:=A7 x ask s.pw;have h4:s.pw.h.length=s.h.length:=rfl;have h5:s.pw.l.length=s.l.length:=rfl;refine⟨⟨?_,h1.1,h1.2,?_⟩,Ff x ask s.pw rfl,?_⟩
   .show (doP x ask s.pw).l.length=24
    rw[h2,h5];exact h.l
   .show (doP x ask s.pw).h.length<=16
    rw[h3,h4];exact h.h
   .show (if _ then(doP x ask s.pw).h else []).length<=16
    split
    .rw[h3,h4];exact h.h
    .exact ID _
  .exact⟨h,ID _,ID _⟩
 .exact⟨GF hr,ID _,ID _⟩
theorem C7{f:List In}(hr:dQ f)(ask:List Int):∀(n:Nat) (q:Tr×St),StI f q.2->StI f (jW f ask n q).2
 |0,q,h=>h
 |n+1,q,h=>by
  have h1:StI f (db f ask q).2:=(pH hr h ask).1;unfold jW;split
  .exact C7 hr ask n _ h1
  .exact h1
def trc(t:Tr)(vE vO:Io):List Io:=[vE,Ib Ie t.out.how,Ib Ie t.out.val,vO,Ib Ie t.steps,Ib Ie t.work]
def ek:Array Io:=#[Ia Ih 0 0,Ib Ie 0,Ib Ie 0,Ia Ih 0 0,Ib Ie 0,Ib Ie 0]
theorem fy:(If.info? 61).map (·.size)=Ic 6:=by kernel_rfl
structure nN(w W:Im)(B G7 G8:Nat)(L:List Io)(t:Tr)(s:St)(vE vO vH:Io):Prop where
 b:It w.heap.size w W
 c:W.heap[B]?=Ic (.cells L.toArray 37 (0,0))
 z1:W.heap[B+1]?=Ic (.cells ek 61 (0,0))
 z2:W.heap[B+1+1]?=Ic (.cells bY 93 (0,0))
 h7:W.heap[G7]?=Ic (.cells (trc t vE vO).toArray 61 (0,0))
 h8:W.heap[G8]?=Ic (.cells (stc s.l vH s.at_ s.asked).toArray 93 (0,0))
 rE:Kd.R kEv 105 W B (λk=>B<=k) vE t.evs
 rO:RdT (Kd.int .i64) 2 W vO t.out.h
 rH:RdT (Kd.int .i64) 2 W vH s.h
theorem nN.below{w W W':Im}{B G7 G8:Nat}{L:List Io}{t:Tr}{s:St}{vE vO vH:Io}(h:nN w W B G7 G8 L t s vE vO vH)(hb:It W.heap.size W W'):nN w W' B G7 G8 L t s vE vO vH:=
 ⟨af h.b hb,ag h.c hb,ag h.z1 hb,ag h.z2 hb,ag h.h7 hb,ag h.h8 hb,Kd.R_below h.rE hb,h.rO.below hb,h.rH.below hb⟩
theorem nN.put7{w W W':Im}{B G7 G8:Nat}{L:List Io}{t t':Tr}{s:St}{vE vO vH:Io}(h:nN w W B G7 G8 L t s vE vO vH)(hf:Fr (λk=>k=G7) W W')(h7:W'.heap[G7]?=Ic (.cells (trc t' vE vO).toArray 61 (0,0)))(he:t'.evs=t.evs)(ho:t'.out=t.out)(hB:B+1+1<G7)(h78:G7≠G8)(hw:w.heap.size=B):nN w W' B G7 G8 L t' s vE vO vH:=
 ⟨Fr.below h.b hf (λk hk e=>by omega) h.b.size,(hf.block _ (aj h.c) (by omega)).trans h.c,(hf.block _ (aj h.z1) (by omega)).trans h.z1,(hf.block _ (aj h.z2) (by omega)).trans h.z2,h7,(hf.block _ (aj h.h8) (by omega)).trans h.h8,
  by rw[he];exact dy h.rE hf (λk q cs e hc hq=>by subst e;rw[h.h7]at hc;injection hc with hc;injection hc with _ hc;subst hc;exact absurd hq (by decide)),
  by rw[ho];exact h.rO.fr aC hf (λk cs fr e=>by subst e;rw[h.h7];simp),h.rH.fr aC hf (λk cs fr e=>by subst e;rw[h.h7];simp)⟩
def Fv(r:Tr×St×Int)(w:Im)(e:Ending)(w':Im):Prop:=
 ∃vE vO vH,e=Iv (IR #[IA (trc r.1 vE vO).toArray,IA (stc r.2.1.l vH r.2.1.at_ r.2.1.asked).toArray,Ib Ie r.2.2])/\RdT kEv 105 w' vE r.1.evs/\RdT (Kd.int .i64) 2 w' vO r.1.out.h/\RdT (Kd.int .i64) 2 w' vH r.2.1.h/\It w.heap.size w w'
theorem E9:(If.info? 105).map (λi=>(i.zero,i.size,i.bytes))=Ic (Ic (.agg #[Ib Ie 0,Ib Ie 0,Ib Ie 0]),3,24):=by kernel_rfl
theorem EF(f:List In)(Af:Option Addr)(cf:Nat)(c:Ca)(vC:Io)(w:Im)(hG:Gl w)(hC:Kd.C kIn w Af f.length f)(hc:f.length<=cf)(hV:CaV w c vC)(hh:c.h.length<=5000)(ha:c.ans.length<=100000) :
  I9 If 38 #[Ia Af f.length cf,vC] w λe w'=>Fv (fC f c) w e w':=by
 obtain⟨vH,vA,rfl,h8,hHr,hAr⟩:=hV;obtain⟨AH,cH,rfl,zH⟩:=hHr;obtain⟨AA,cA,rfl,zA⟩:=hAr;have hHr:RdT (Kd.int .i64) 2 w (Ia AH c.h.length cH) c.h:=⟨AH,cH,rfl,zH⟩;have hAr:RdT (Kd.int .i64) 2 w (Ia AA c.ans.length cA) c.ans:=⟨AA,cA,rfl,zA⟩;obtain⟨r,hr⟩:=ME (fC f c);rw[<-hr];unfold fC at hr;obtain⟨L,hL⟩:∃L,L=cac c.r (Ia AH c.h.length cH) (Ia AA c.ans.length cA) c.fuel:=⟨_,rfl⟩;have hLi:(If.info? 37).map (·.size)=Ic L.toArray.size:=by rw[hL];exact bv h8
 have hL9:L[9]?=Ic (.slice AA c.ans.length cA):=by rw[hL,show 9=8+1 from rfl,dj h8];rfl
 have hL10:L[10]?=Ic (Ib Ie c.fuel):=by rw[hL,show 10=8+2 from rfl,dj h8];rfl
 obtain⟨w1,hw1⟩:∃w1,w1=((w.alloc (Is L.toArray 37)).alloc (Is ek 61)).alloc (Is bY 93):=⟨_,rfl⟩;obtain⟨B,hB⟩:=MF w.heap.size;obtain⟨h1,h2,h3,hb1⟩:=dh (w:=w) (w1:=w1) (A:=Is L.toArray 37) (B:=Is ek 61) (C:=Is bY 93) (by rw[hw1];exact Il _ _);rw[hB]at h1 h2 h3;rw[show B+2=B+1+1 from rfl]at h3;obtain⟨b,hb⟩:=ME (bi f);obtain⟨b2,hb2⟩:=ME (il c.h.length c.ans.length c.fuel);have hR:=eD Af cf f w1 (hG.below hb1) (Kd.C_below hC hb1) hc;have hR2:=λW=>BD c.r h8 AH AA c.h.length cH c.ans.length cA c.fuel hh ha W;have hBg:=λW hH=>BE c.r h8 (Ia AH c.h.length cH) (Ia AA c.ans.length cA) c.h c.fuel W hH ⟨_,_,_,rfl⟩ (by omega);rw[<-hL]at hR2 hBg;rw[<-hb]at hR hr;rw[<-hb2]at hR2 hr;rw[<-hL];have HGw:=MD hG;have HCw:=MD hC;have HArw:=MD hAr;have HG:=MD (hG.below hb1);have HC:=MD (Kd.C_below hC hb1);have HHr:=MD (hHr.below hb1);have HAr:=MD (hAr.below hb1);have HRt:=MD hR;have HRt2:=MD hR2;have HBg:=MD hBg;have HRr:=MD hr;have HW1:=MD hw1;have H1:=MD h1;have H2:=MD h2;have H3:=MD h3;have HB1:=MD hb1;have HBe:=MD hB;have HLi:=MD hLi;have HL9:=MD hL9;have HL10:=MD hL10;have H8:=MD h8;have HHl:=MD hh;have HAl:=MD ha;have HBo:=MD hb;have HBo2:=MD hb2;have Hcf:=MD hc;have HBd93:=MD (show If.built 93 []=Ic bY from rfl);have HBd61:=MD (show If.built 61 []=Ic ek from rfl);clear hG hC hc hHr hAr hR hR2 hBg hr hw1 h1 h2 h3 hb1 hL hLi hL9 hL10 h8 hh ha hb hb2 zH zA;by_cases hbt:b=Ir
 .subst hbt
  by_cases hbt2:b2=Ir
  .subst hbt2
   rw[if_pos ⟨rfl,rfl⟩]at HRr;go_enter Tryz.func38,Tryz.ntmps38;go_upto_region 1 with fail
   refine ar HW1.1.symm ?_;clear hB HW1;go_upto_region 3 with(first
    |(go_at_call 47;refine HRt.1.mono ?_;rintro e w2 ⟨rfl,hb⟩;have HB2:=MD hb;have H12:=MD (ag H1.1 hb);clear hb)
    |((with_reducible refine ai (N:=17) rfl ?_);refine ay rfl _ (ao rfl rfl (aY (P:=If) H12.1 I4 rfl HLi.1)) ?_)
    |(go_at_call 64;refine(HRt2.1 _).mono ?_;rintro e w3 ⟨rfl,hb⟩;have HB3:=MD (af HB2.1 hb);clear hb))
   have hrt:=bu HBo.1.symm;have hca:=HBo2.1.symm;unfold il at hca;simp only[Js,decide_eq_true_eq]at hca;obtain⟨k1,k2,k3,k4⟩:=hca;obtain⟨N,hN⟩:∃N:Nat,c.fuel=N:=⟨c.fuel.toNat,by omega⟩;rw[hN,IC]at HRr;have HRi:=MD hrt;have HI0:=MD (zT hrt H8.1 (by omega:c.h.length<=16));have HNe:=MD hN;have HA5:=MD (show c.ans.length<=5000 by omega);have hN5:(N:Int)<=5000:=by omega
   obtain⟨G7,hG7⟩:=MF w3.heap.size;have hBG:B+1+1<G7:=by rw[<-hG7];exact aj (ag H3.1 HB3.1)
   have h1':=ag H1.1 HB3.1;have HG7:=MD hG7;have HBG:=MD hBG;obtain⟨w4,hw4⟩:∃w4,w4=w3.alloc (Is ek 61):=⟨_,rfl⟩;have h47:w4.heap[G7]?=Ic (.cells ek 61 (0,0)):=by rw[hw4,<-hG7];exact Iu w3 _
   have hb4:It w1.heap.size w1 w4:=by rw[hw4];exact ae HB3.1 _
   have HB4:=MD hb4;have H14:=MD (ag H1.1 hb4);have H47:=MD h47;have HW4:=MD hw4;have HS4:=MD (show w4.heap.size=G7+1 by rw[hw4,<-hG7];simp);clear hrt k1 k2 k3 k4 hN hBG h1' hw4 h47 hb4;go_upto_region 4 with fail
   refine ar HW4.1.symm ?_;clear hG7 HW4;go_upto_region 5 with(first
    |((with_reducible refine ai (N:=23) rfl ?_);refine ay rfl _ (ao rfl rfl (aY (P:=If) H14.1 I4 rfl HLi.1)) ?_)
    |(go_at_call 65;refine(HBg.1 _ (HHr.1.rd.below HB4.1)).mono ?_;rintro e w5 ⟨AB,cB,rfl,hr,hb⟩;have HB5:=MD (af HB4.1 hb);have H57:=MD (ag H47.1 hb);have HR5:=MD hr;clear hr hb)
    |((with_reducible refine ap (t:=93) (p:=8) rfl ?_);refine an rfl 93 _ _ rfl w5.heap.size (stc (rj c.r) (Ia AB c.h.length cB) 0 0).toArray rfl rfl 93 bY (Iu w5 _) (bZ HI0.1.l) (stz HI0.1.l) el ?_;intro w6 h6 hf6;have H68:=MD h6;have HB56:=MD (cw hf6);clear h6 hf6))
   obtain⟨G8,hG8⟩:=MF w5.heap.size;rw[hG8]at H68 ⊢;have H78:=MD (show G7<G8 by rw[<-hG8];exact aj H57.1);have HS0:=MD (show nN w w6 B G7 G8 L trZ (nJ c) (Ia Ih 0 0) (Ia Ih 0 0) (Ia AB c.h.length cB)from
    ⟨af HB1.1 (af HB5.1 HB56.1),ag (ag H1.1 HB5.1) HB56.1,ag (ag H2.1 HB5.1) HB56.1,ag (ag H3.1 HB5.1) HB56.1,ag H57.1 HB56.1,H68.1,Kd.R_nil _ _ _ _ _,RdT.nil _ _ _,HR5.1.below HB56.1⟩)
   have c10:=(show w6.cell? ⟨B,10,Ih⟩=Ic (Ib Ie (N:Int)) by rw[aq HS0.1.c,HL10.1,HNe.1]);clear hG8 HBg HRt HRt2 H1 H2 H3 HB3 H14 H47 HB4 H57 HB5 HR5 H68 HB56 HBo2;go_upto_block 0 with fail
   obtain⟨qf,hqf⟩:=ME (jW f c.ans N (trZ,nJ c));rw[<-hqf]at HRr;have HQf:=MD hqf;clear hqf c10;go_cut [9,10,11,12]from 27 to 66 (λ_ _ _ _ wx=>∃vE vO vH,aa (nN w wx B G7 G8 L qf.1 qf.2 vE vO vH/\StI f qf.2))
   case first=>
    go_wp2;go_loopw [27,9,10,11,12] (λj _ _ _ _ wr=>∃(k:Nat) (q:Tr×St) (vE vO vH:Io),j=Ib Ie k/\aa (k<=N/\qf=jW f c.ans (N-k) q/\StI f q.2/\nN w wr B G7 G8 L q.1 q.2 vE vO vH/\q.1.evs.length<=k/\q.1.steps=k/\0<=q.1.work/\q.1.work<=k)) (λj _ _ _ _ _=>N-(Jj j).toNat)
    case atStart=>exact⟨0,_,_,_,_,rfl,⟨⟨ID _,HQf.1,HI0.1,HS0.1,Iz _,rfl,J7 _,J7 _⟩⟩⟩
    case round=>
     obtain⟨k,q,vE,vO,vH,rfl,HL⟩:=hrel;obtain⟨hk,hq,hI,hS,he,hst,hw0,hw1⟩:=HL.1;by_cases hkN:k<N
     .have hkN':(k:Int)<(N:Int):=by omega
      obtain⟨n,hn⟩:∃n:Nat,q.2.at_=n:=⟨q.2.at_.toNat,by have:=hI.lo;omega⟩;have hnl:n<f.length:=by have:=hI.hi;omega
      obtain⟨x,hx⟩:∃x,f[n]?=Ic x:=⟨_,Ig hnl⟩;have hgx:f.getD q.2.at_.toNat In.zero=x:=by rw[hn,IC,Ij,hx];rfl
      obtain⟨ad,cs,rfl,hK,hld⟩:=ba (P:=If) HCw.1 hS.b n hnl x hx 49 I6 rfl bU;obtain rfl:cs=[Ib Ie x.op,Ib Ie x.d,Ib Ie x.a,Ib Ie x.b,Ib Ie x.n,Ib Ie x.jt]:=hK;have hnl':(n:Int)<(f.length:Int):=by omega
      have c49:=(show wr.cell? ⟨G8,49,Ih⟩=Ic (Ib Ie (n:Int)) by rw[aq hS.h8,show 49=48+1 from rfl,lh hI.l,<-hn];rfl);have HMv:=MD (j7 x wr);have HLd:=MD (show(Le 49 (ad.add (n*6))).run If wr=.ok (IA x.cells) wr from hld);have HGx:=MD hgx;have HS:=MD hS;have HI:=MD hI;have HQ:=MD hq;have HKn:=MD hkN;have HEv:=MD (IE he (IE hst (IE hw0 hw1)));obtain⟨mv,hmv⟩:=ME x.moves;rw[<-hmv]at HMv;have HMe:=MD hmv;obtain⟨wk,hwk⟩:=ME (if mv=Ir then q.1.work else q.1.work+1);have HWk:=MD hwk;clear hk hq hI hS he hst hw0 hw1 HL hkN hn hnl hx hgx hld hmv hwk;go_upto_if 35 with(first
       |((with_reducible refine ai (N:=33) rfl ?_);refine av rfl 49 _ rfl (ad.add (n*6)) rfl _ HLd.1 ?_)
       |(go_at_call 66;refine HMv.1.mono ?_;rintro e w7 ⟨rfl,hb⟩;have HS7:=MD (HS.1.below hb);clear hb))
      clear c49;go_cut []from 35 to 41 (λwx=>aa (nN w wx B G7 G8 L { q.1 with work:=wk } q.2 vE vO vH))
      case first=>
       have c5:=(show w7.cell? ⟨G7,5,Ih⟩=Ic (Ib Ie q.1.work) by rw[aq HS7.1.h7];rfl);have f5:=au HS7.1.h7 5;have hv:=HEv.1;have hv1:0<=q.1.work:=hv.2.2.1;have hv2:q.1.work<=5000:=by omega
       clear hv;cases mv with
       |true=>
        have h1:wk=q.1.work:=by rw[HWk.1,if_pos rfl]
        have HS8:=MD (show nN w w7 B G7 G8 L { q.1 with work:=wk } q.2 vE vO vH by rw[h1];exact HS7.1);clear h1;go_wp2;go_meet
        case rel=>exact HS8
       |false=>
        have h1:wk=q.1.work+1:=by rw[HWk.1,if_neg (by decide)]
        have HS8:=MD (show nN w (w7.setCell ⟨G7,5,Ih⟩ (Ib Ie (q.1.work+1))) B G7 G8 L { q.1 with work:=wk } q.2 vE vO vH from HS7.1.put7 (Fr.cell (S:=λj=>j=G7) (p:=⟨G7,5,Ih⟩) rfl _) (by rw[h1];exact aR HS7.1.h7 5 _) rfl rfl HBG.1 (by have:=H78.1;omega) HBe.1);clear h1;go_wp2;go_meet
        case rel=>exact HS8
      case rest=>
       have HS8:=MD hcut.1;obtain⟨w8,rfl⟩:=ME wc;have hv:=HEv.1;have hv1:q.1.steps<=5000:=by omega
       have hv2:0<=q.1.steps:=by omega
       have c4:=(show w8.cell? ⟨G7,4,Ih⟩=Ic (Ib Ie q.1.steps) by rw[aq HS8.1.h7];rfl);have f4:=au HS8.1.h7 4;clear hcut hv;go_upto_region 10 with fail
       obtain⟨w9,hw9⟩:∃w9,w9=w8.setCell ⟨G7,4,Ih⟩ (Ib Ie (q.1.steps+1)):=⟨_,rfl⟩;refine ar hw9.symm ?_;have HS9:=MD (show nN w w9 B G7 G8 L ⟨q.1.evs,q.1.out,q.1.steps+1,wk⟩ q.2 vE vO vH by rw[hw9];exact HS8.1.put7 (Fr.cell (S:=λj=>j=G7) (p:=⟨G7,4,Ih⟩) rfl _) (aR HS8.1.h7 4 _) rfl rfl HBG.1 (by have:=H78.1;omega) HBe.1);have c9:=(show w9.cell? ⟨B,9,Ih⟩=Ic (.slice AA c.ans.length cA) by rw[aq HS9.1.c,HL9.1]);obtain⟨d,hd⟩:=ME (eG f q.2 c.ans);have hDo:=EA f (Ic ad) cf q.2 HI.1.l vH c.ans (Ia AA c.ans.length cA) w9 (HGw.1.below HS9.1.b) (Kd.C_below HCw.1 HS9.1.b) Hcf.1 HS9.1.rH.rd (HArw.1.below HS9.1.b) (by have:=HI.1.h;omega) HAl.1;have hDI:=pH HRi.1 HI.1 c.ans;rw[<-hd]at hDo hDI;have HDo:=MD hDo;have HDI:=MD hDI;have HD:=MD hd;clear hw9 c4 f4 hDo hDI hd;go_upto_region 11 with(first
        |((with_reducible refine ai (N:=46) rfl ?_);refine II rfl 93 _ rfl G8 rfl 93 _ (0,0) _ HS9.1.h8 Jo rfl (bZ HI.1.l) ?_)
        |(go_at_call 67;refine HDo.1.mono ?_;rintro e wB ⟨vH2,vE2,vO2,rfl,hH2,hE2,hO2,hb⟩;obtain⟨A1,c1,rfl,z1⟩:=hH2;obtain⟨A2,c2,rfl,z2⟩:=hE2;obtain⟨A3,c3,rfl,z3⟩:=hO2;have HSB:=MD (HS9.1.below hb);have HHB:=MD (show RdT (Kd.int .i64) 2 wB (Ia A1 d.1.h.length c1) d.1.h from⟨A1,c1,rfl,z1⟩);have HEB:=MD (show RdT kEv 105 wB (Ia A2 d.2.1.length c2) d.2.1 from⟨A2,c2,rfl,z2⟩);have HOB:=MD (show RdT (Kd.int .i64) 2 wB (Ia A3 d.2.2.1.h.length c3) d.2.2.1.h from⟨A3,c3,rfl,z3⟩);clear z1 z2 z3 hb)
        |((with_reducible refine ap (t:=93) (p:=9) rfl ?_);refine an rfl 93 _ _ rfl wB.heap.size (stc d.1.l (Ia A1 d.1.h.length c1) d.1.at_ d.1.asked).toArray rfl rfl 93 bY (Lz wB _ _) (bZ HDI.1.1.l) (stz HDI.1.1.l) el ?_;intro wC h9 hf9;have H9a:=MD h9;have H11a:=MD ((hf9.block (wB.heap.size+1) (by simp) (by omega)).trans (L9 wB _ _));have HBC:=MD (show It wB.heap.size wB wC from Fr.below (ae (ae (Il _ _) _) _) hf9 (λk hk e=>by omega) (by simp;omega));clear h9 hf9)
        |((with_reducible refine ap (t:=59) (p:=11) rfl ?_);refine an rfl 59 _ _ rfl (wB.heap.size+1) #[Ib Ie d.2.2.1.how,Ib Ie d.2.2.1.val,Ia A3 d.2.2.1.h.length c3] rfl rfl 59 #[Ib Ie 0,Ib Ie 0,Ia Ih 0 0] H11a.1 jo rfl (by simp[IH]) ?_;intro wD h11 hf11;have H11b:=MD h11;have H9b:=MD ((hf11.block wB.heap.size (aj H9a.1) (by omega)).trans H9a.1);have HBD:=MD (show It wB.heap.size wB wD from Fr.below HBC.1 hf11 (λk hk e=>by omega) HBC.1.size);clear h11 hf11))
       obtain⟨G9,hG9⟩:=MF wB.heap.size;rw[hG9]at H9b H11b ⊢;obtain⟨AE,cE,hvE⟩:=Kd.R_slice HSB.1.rE;simp only at hvE;subst hvE;have HSD:=MD (HSB.1.below HBD.1);have hgG:=(show G8<G9 by rw[<-hG9];exact aj HSB.1.h8);have HGs:=MD (show G7<G8/\G8<G9/\B+1+1<G7 from⟨H78.1,hgG,HBG.1⟩);have HHD:=MD (HHB.1.below HBD.1);have HOD:=MD (HOB.1.below HBD.1);have HED:=MD (show Kd.C kEv wD A2 d.2.1.length d.2.1 by obtain⟨Aq,cq,e,_,h,_⟩:=HEB.1.below HBD.1;injection e with e;subst e;exact h);have c0:=(show wD.cell? ⟨G7,0,Ih⟩=Ic (.slice AE q.1.evs.length cE) by rw[aq HSD.1.h7];rfl);have HBw:=MD (show It B w wD by rw[<-HBe.1];exact HSD.1.b);have HBs:=MD (show B<=wD.heap.size by have:=aj HSD.1.c;omega);have HLen:=MD (show(q.1.evs.length+d.2.1.length)*24<=140737488355328 by have:=HEv.1.1;have:=HDI.1.2.1;have:=HKn.1;omega);clear hG9 hgG HS8 HS9 HSB HBC HBD H9a H11a HHB HOB HEB HDo HMv HLd c9;go_upto_region 12 with(first
        |((with_reducible refine a6 (b:=.append) (xs:=#[.tmp 55,.tmp 56]) rfl ?_);refine Kd.R_append_rows kEv (w0:=w) B rfl (.tmp 55) (.tmp 56) 57 105 (IA #[Ib Ie 0,Ib Ie 0,Ib Ie 0]) 24 rfl Tryz.underlying57 E9 rfl (by decide) (by decide) (Ia AE q.1.evs.length cE) q.1.evs d.2.1 A2 d.2.1.length c2 (λk=>B<=k) (λ_=>False) rfl rfl HSD.1.rE HED.1 (λx cs h=>h) (λk hk=>hk.elim) (λk hk=>by have:=HBs.1;omega) HBw.1 HBs.1 HLen.1 ?_;intro v1 wE hR _ hgr _;obtain⟨A5,c5,rfl⟩:=Kd.R_slice hR;have HRE:=MD (show Kd.R kEv 105 wE B (λk=>B<=k) (Ia A5 (q.1.evs.length+d.2.1.length) c5) (q.1.evs++d.2.1) by rw[IV]at hR;exact hR);have HGr:=MD (show Fr (λk=>Ic k=(Ia AE q.1.evs.length cE).ownBlock) wD wE from Fr.grown hgr (λk hk=>hk));have H7E:=MD ((HGr.1.block G7 (aj HSD.1.h7) (Kd.R_ne HSD.1.rE HSD.1.h7 (by decide))).trans HSD.1.h7);have e0:=(show wE.cell? ⟨G7,0,Ih⟩=Ic (.slice AE q.1.evs.length cE) by rw[aq H7E.1];rfl);have ef0:=au H7E.1 0;clear hR hgr))
       obtain⟨wA,hwA⟩:∃wA,wA=wE.setCell ⟨G7,0,Ih⟩ (Ia A5 (q.1.evs.length+d.2.1.length) c5):=⟨_,rfl⟩;refine ar hwA.symm ?_;have hfA:Fr (λk=>k=G7) wE wA:=by rw[hwA];exact Fr.cell (S:=λj=>j=G7) (p:=⟨G7,0,Ih⟩) rfl _
       have h7A:wA.heap[G7]?=Ic (.cells (trc ⟨q.1.evs++d.2.1,q.1.out,q.1.steps+1,wk⟩ (Ia A5 (q.1.evs.length+d.2.1.length) c5) vO).toArray 61 (0,0)):=by rw[hwA];exact aR H7E.1 0 _
       have hfD:Fr (λk=>Ic k=(Ia AE q.1.evs.length cE).ownBlock\/k=G7) wD wA:=(HGr.1.mono λk _ e=>.inl e).trans (hfA.mono λk _ e=>.inr e);have key:∀g t (cs:Array Io),wD.heap[g]?=Ic (.cells cs t (0,0))->(105:Nat)≠t->g≠G7->wA.heap[g]?=Ic (.cells cs t (0,0)):=λg t cs h1 h2 h3=>(hfD.block g (aj h1) (λe=>by rcases e with e|e;exact Kd.R_ne HSD.1.rE h1 h2 e;exact h3 e)).trans h1;have tag:∀k cs fr t,(Ic k=(Ia AE q.1.evs.length cE).ownBlock\/k=G7)->t≠105->t≠61->wD.heap[k]?≠Ic (.cells cs t fr):=λk cs fr t e h1 h2 h3=>by
        rcases e with e|rfl
        .obtain⟨inner,hin⟩:=Kd.R_own HSD.1.rE
         obtain⟨cells,hcs⟩:=gY hin k e.symm;rw[hcs]at h3;injection h3 with h3
         injection h3 with _ h3
         exact h1 h3.symm
        .rw[HSD.1.h7]at h3
         injection h3 with h3
         injection h3 with _ h3
         exact h2 h3.symm
       have H7A:=MD h7A;have H8A:=MD (key G8 93 _ HSD.1.h8 (by decide) (by have:=HGs.1;omega));have H9:=MD (key G9 93 _ H9b.1 (by decide) (by have:=HGs.1;omega));have H11:=MD (key (G9+1) 59 _ H11b.1 (by decide) (by have:=HGs.1;omega));have HcA:=MD (IE (key B 37 _ HSD.1.c (by decide) (by have:=HGs.1;omega)) (IE (key (B+1) 61 _ HSD.1.z1 (by decide) (by have:=HGs.1;omega)) (key (B+1+1) 93 _ HSD.1.z2 (by decide) (by have:=HGs.1;omega))));have HHA:=MD (HHD.1.fr aC hfD (λk cs fr e=>tag k cs fr 2 e (by decide) (by decide)));have HOA:=MD (HOD.1.fr aC hfD (λk cs fr e=>tag k cs fr 2 e (by decide) (by decide)));have HEA:=MD (dy HRE.1 hfA (λk q cs e hc hq=>by subst e;rw[H7E.1]at hc;injection hc with hc;injection hc with _ hc;subst hc;exact absurd hq (by decide)));have HBA:=MD (Fr.below HSD.1.b hfD (λk hk e=>by
        rcases e with e|e
        .obtain⟨inner,hin⟩:=Kd.R_own HSD.1.rE
         have:=jY hin k e.symm;have:=HBe.1;omega
        .have:=HGs.1
         have:=HBe.1;omega) HSD.1.b.size)
       clear hwA hfA h7A hfD key tag c0 e0 ef0 HSD H9b H11b HHD HOD HRE HGr H7E HED;refine bm (σ:=Unit) [2,4] (λ_=>[(59,IA (stc d.1.l (Ia A1 d.1.h.length c1) d.1.at_ d.1.asked).toArray),(60,IA ([Ib Ie d.2.2.1.how,Ib Ie d.2.2.1.val,Ia A3 d.2.2.1.h.length c3]:List Io).toArray),(61,Iq (Ic ⟨G7,1,Ih⟩))])
        (λbs _ W=>W.heap[G8]?=Ic (.cells (if bs.getD 0 Ik=Ir then(stc d.1.l (Ia A1 d.1.h.length c1) d.1.at_ d.1.asked)else(stc q.2.l vH q.2.at_ q.2.asked)).toArray 93 (0,0))/\W.heap[G7]?=Ic (.cells (if bs.getD 1 Ik=Ir then(trc ⟨q.1.evs++d.2.1,d.2.2.1,q.1.steps+1,wk⟩ (Ia A5 (q.1.evs.length+d.2.1.length) c5) (Ia A3 d.2.2.1.h.length c3))else(trc ⟨q.1.evs++d.2.1,q.1.out,q.1.steps+1,wk⟩ (Ia A5 (q.1.evs.length+d.2.1.length) c5) vO)).toArray 61 (0,0))/\Fr (λk=>k=G7\/k=G8) wA W) () (by kernel_rfl) (by kernel_rfl) (by kernel_rfl) (λ_=>by kernel_rfl) ?_
       intro aF haF;simp only[bk,KY,IP,IZ,IY]at haF;subst haF;refine⟨?_,?_,⟨H8A.1,H7A.1,Fr.drew⟩,?_⟩
       .intro j o ho hct s_1 W bs hlen hok hI
        rcases j with _|_|_|_|_|j
        all_goals first|exact absurd hct (by decide)|(obtain rfl:=Ii ho)|exact absurd (IB.1 ho).1 (by simp)
        .exact ab rfl (ao rfl rfl (aY (P:=If) ((hI.2.2.block G9 (aj H9.1) (by have:=HGs.1;omega)).trans H9.1) Jo rfl (bZ HDI.1.1.l))) ⟨rfl,hI⟩
        .exact ab rfl (ao rfl rfl (aY (P:=If) ((hI.2.2.block (G9+1) (aj H11.1) (by have:=HGs.1;omega)).trans H11.1) L8 rfl jo)) ⟨rfl,hI⟩
        .exact ab rfl (by go_simp) ⟨rfl,hI⟩
       .intro k_1 j o hk ho s_1 W bs hlen hok hI
        rcases k_1 with _|_|k
        all_goals first|(obtain rfl:=Ii hk;obtain rfl:=Ii ho)|exact absurd hk (by simp)
        .obtain⟨b0,b1,rfl⟩:=it hlen
         obtain rfl:=okS hok 0 rfl rfl;refine bC rfl 93 _ _ rfl G8 0 (stc d.1.l (Ia A1 d.1.h.length c1) d.1.at_ d.1.asked) rfl rfl 93 (stc q.2.l vH q.2.at_ q.2.asked) (stc d.1.l (Ia A1 d.1.h.length c1) d.1.at_ d.1.asked) hI.1 (by rw[dm HDI.1.1.l];exact lC) (by rw[dm HDI.1.1.l,dm HI.1.l];decide) (λv hv=>by have:=el (l:=d.1.l) (A:=A1) (n:=d.1.h.length) (c:=c1) (at_:=d.1.at_) (asked:=d.1.asked);rw[Jh]at this;exact this v (by simpa using hv)) (by rw[List.take_zero,Ka,Ju (by rw[dm HDI.1.1.l,dm HI.1.l];decide),JS]) (λW' h3 hf3=>⟨(),[],rfl,rfl,rfl,⟨h3,(hf3.block G7 (aj hI.2.1) (by have:=HGs.1;omega)).trans hI.2.1,hI.2.2.trans (hf3.mono λk _ e=>.inr e)⟩⟩)
        .obtain⟨b0,b1,rfl⟩:=it hlen
         obtain rfl:=okS hok 1 rfl rfl;refine bC rfl 59 _ _ rfl G7 1 [Ib Ie d.2.2.1.how,Ib Ie d.2.2.1.val,Ia A3 d.2.2.1.h.length c3] rfl rfl 61 (trc ⟨q.1.evs++d.2.1,q.1.out,q.1.steps+1,wk⟩ (Ia A5 (q.1.evs.length+d.2.1.length) c5) vO) (trc ⟨q.1.evs++d.2.1,d.2.2.1,q.1.steps+1,wk⟩ (Ia A5 (q.1.evs.length+d.2.1.length) c5) (Ia A3 d.2.2.1.h.length c3)) hI.2.1 jo (by simp[trc]) (by simp[IH]) rfl (λW' h3 hf3=>⟨(),[],rfl,rfl,rfl,⟨(hf3.block G8 (aj hI.1) (by have:=HGs.1;omega)).trans hI.1,h3,hI.2.2.trans (hf3.mono λk _ e=>.inl e)⟩⟩)
       .intro _ W hI2
        have HS':=MD (show nN w W B G7 G8 L ⟨q.1.evs++d.2.1,d.2.2.1,q.1.steps+1,wk⟩ d.1 (Ia A5 (q.1.evs.length+d.2.1.length) c5) (Ia A3 d.2.2.1.h.length c3) (Ia A1 d.1.h.length c1) by
         obtain⟨i1,i2,i3⟩:=hI2;have tg:∀k cs fr t,(k=G7\/k=G8)->t≠61->t≠93->wA.heap[k]?≠Ic (.cells cs t fr):=λk cs fr t e h1 h2 h3=>by
          rcases e with rfl|rfl
          .rw[H7A.1]at h3
           injection h3 with h3
           injection h3 with _ h3
           exact h1 h3.symm
          .rw[H8A.1]at h3
           injection h3 with h3
           injection h3 with _ h3
           exact h2 h3.symm
         refine⟨Fr.below HBA.1 i3 (λk hk e=>by have:=HGs.1;have:=HBe.1;omega) HBA.1.size,(i3.block B (aj HcA.1.1) (by have:=HGs.1;omega)).trans HcA.1.1,(i3.block (B+1) (aj HcA.1.2.1) (by have:=HGs.1;omega)).trans HcA.1.2.1,(i3.block (B+1+1) (aj HcA.1.2.2) (by have:=HGs.1;omega)).trans HcA.1.2.2,i2,i1,?_,HOA.1.fr aC i3 (λk cs fr e=>tg k cs fr 2 e (by decide) (by decide)),HHA.1.fr aC i3 (λk cs fr e=>tg k cs fr 2 e (by decide) (by decide))⟩;exact dy HEA.1 i3 (λk q cs e hc hq=>by
          rcases e with rfl|rfl
          .rw[H7A.1]at hc;injection hc with hc;injection hc with _ hc;subst hc;exact absurd hq (by decide)
          .rw[H8A.1]at hc;injection hc with hc;injection hc with _ hc;subst hc;exact absurd hq (by decide)))
        have h11:=(hI2.2.2.block (G9+1) (aj H11.1) (by have:=HGs.1;omega)).trans H11.1;obtain⟨w10,rfl⟩:=ME W;have c11:=(show w10.cell? ⟨G9+1,0,Ih⟩=Ic (Ib Ie d.2.2.1.how) by rw[ah h11];rfl);have HQ':=MD (show db f c.ans q=(⟨q.1.evs++d.2.1,d.2.2.1,q.1.steps+1,wk⟩,d.1) by unfold db;rw[HGx.1,<-HMe.1,HWk.1,HD.1]);have HRn:=MD (show qf=if d.2.2.1.how=0 then jW f c.ans (N-(k+1)) (db f c.ans q)else db f c.ans q by
         have hkN:=HKn.1;rw[HQ.1,show N-k=(N-(k+1))+1 by omega,jW,HQ'.1])
        clear hI2 h11 H7A H8A H9 H11 HcA HHA HOA HEA HBA HQ;by_cases hz:d.2.2.1.how=0
        .have q0:(d.2.2.1.how != 0)=Ik:=by simp[hz]
         have HRn2:=MD (show qf=jW f c.ans (N-(k+1)) (db f c.ans q) by rw[HRn.1,if_pos hz]);clear hz;go_wp2;go_roundw
         case rel=>
          have hv:=HEv.1;have hv2:=HDI.1.2.1;refine⟨k+1,(⟨q.1.evs++d.2.1,d.2.2.1,q.1.steps+1,wk⟩,d.1),_,_,_,by go_num,⟨⟨HKn.1,by rw[<-HQ'.1];exact HRn2.1,HDI.1.1,HS'.1,by show(q.1.evs++d.2.1).length<=_;rw[IV];omega,by show q.1.steps+1=_;omega,?_,?_⟩⟩⟩
          .show 0<=wk
           rw[HWk.1];split<;>omega
          .show wk<=_
           rw[HWk.1];split<;>omega
         case measure=>have:=HKn.1;simp[Jj];omega
        .have q0:(d.2.2.1.how != 0)=Ir:=by simp[hz]
         have HRn2:=MD (show qf=(⟨q.1.evs++d.2.1,d.2.2.1,q.1.steps+1,wk⟩,d.1) by rw[HRn.1,if_neg hz,HQ'.1]);clear hz;go_wp2;go_meet
         case rel=>exact⟨_,_,_,⟨by rw[HRn2.1];exact HS'.1,by rw[HRn2.1];exact HDI.1.1⟩⟩
     .have hkN':¬(k:Int)<(N:Int):=by omega
      obtain rfl:k=N:=by omega
      rw[Nat.sub_self]at hq;have HQ:=MD hq;have HS:=MD hS;have HI:=MD hI;clear hk hq hI hS he hst hw0 hw1 HL hkN;go_wp2;go_meet
      case rel=>exact⟨vE,vO,vH,⟨by rw[HQ.1];exact HS.1,by rw[HQ.1];exact HI.1⟩⟩
   case rest=>
    obtain⟨vE,vO,vH,HC3⟩:=hcut;obtain⟨hS,hI⟩:=HC3.1;obtain⟨wC,rfl⟩:=ME wc;obtain⟨AX,cX,rfl⟩:=Kd.R_slice hS.rE;have hO:=hS.rO;have hH:=hS.rH;obtain⟨AY,cY,rfl,_⟩:=hO;obtain⟨AZ,cZ,rfl,_⟩:=hH;have HSC:=MD hS;have HIf:=MD hI;clear HC3 hS hI;go_upto_region 15 with fail
    refine bm (σ:=Unit) [2,3] (λ_=>[(66,IA (trc qf.1 (Ia AX qf.1.evs.length cX) (Ia AY qf.1.out.h.length cY)).toArray),(67,IA (stc qf.2.l (Ia AZ qf.2.h.length cZ) qf.2.at_ qf.2.asked).toArray),(6,Ib Ie 0)])
     (λbs _ W=>W.heap[B+1]?=Ic (.cells (if bs.getD 0 Ik=Ir then(trc qf.1 (Ia AX qf.1.evs.length cX) (Ia AY qf.1.out.h.length cY)).toArray else ek) 61 (0,0))/\W.heap[B+1+1]?=Ic (.cells (if bs.getD 1 Ik=Ir then(stc qf.2.l (Ia AZ qf.2.h.length cZ) qf.2.at_ qf.2.asked).toArray else bY) 93 (0,0))/\Fr (λk=>k=B+1\/k=B+1+1) wC W) () (by kernel_rfl) (by kernel_rfl) (by kernel_rfl) (λ_=>by kernel_rfl) ?_
    intro aF haF;simp only[bk,KY,IP,IZ,IY]at haF;subst haF;refine⟨?_,?_,⟨HSC.1.z1,HSC.1.z2,Fr.drew⟩,?_⟩
    .intro j o ho hct s_1 W bs hlen hok hI
     rcases j with _|_|_|_|_|j
     all_goals first|exact absurd hct (by decide)|(obtain rfl:=Ii ho)|exact absurd (IB.1 ho).1 (by simp)
     .exact ab rfl (ao rfl rfl (aY (P:=If) ((hI.2.2.block G7 (aj HSC.1.h7) (by have:=HBG.1;omega)).trans HSC.1.h7) JY rfl fy)) ⟨rfl,hI⟩
     .exact ab rfl (ao rfl rfl (aY (P:=If) ((hI.2.2.block G8 (aj HSC.1.h8) (by have:=HBG.1;have:=H78.1;omega)).trans HSC.1.h8) Jo rfl (bZ HIf.1.l))) ⟨rfl,hI⟩
     .exact ab rfl (by go_simp) ⟨rfl,hI⟩
    .intro k j o hk ho s_1 W bs hlen hok hI
     rcases k with _|_|k
     all_goals first|(obtain rfl:=Ii hk;obtain rfl:=Ii ho)|exact absurd hk (by simp)
     .obtain⟨b0,b1,rfl⟩:=it hlen
      obtain rfl:=okS hok 0 rfl rfl;refine bC rfl 61 _ _ rfl (B+1) 0 (trc qf.1 (Ia AX qf.1.evs.length cX) (Ia AY qf.1.out.h.length cY)) rfl rfl 61 [Ia Ih 0 0,Ib Ie 0,Ib Ie 0,Ia Ih 0 0,Ib Ie 0,Ib Ie 0] (trc qf.1 (Ia AX qf.1.evs.length cX) (Ia AY qf.1.out.h.length cY)) hI.1 fy (by simp[trc]) (by simp[trc,IH]) rfl (λW' h3 hf3=>⟨(),[],rfl,rfl,rfl,⟨h3,(hf3.block (B+1+1) (aj hI.2.1) (by omega)).trans hI.2.1,hI.2.2.trans (hf3.mono λk _ e=>.inl e)⟩⟩)
     .obtain⟨b0,b1,rfl⟩:=it hlen
      obtain rfl:=okS hok 1 rfl rfl;refine bC rfl 93 _ _ rfl (B+1+1) 0 (stc qf.2.l (Ia AZ qf.2.h.length cZ) qf.2.at_ qf.2.asked) rfl rfl 93 (stc (IF 24 (Ik,0)) (Ia Ih 0 0) 0 0) (stc qf.2.l (Ia AZ qf.2.h.length cZ) qf.2.at_ qf.2.asked) hI.2.1 (by rw[dm HIf.1.l];exact lC) (by rw[dm HIf.1.l,dm (by rfl)];decide) (λv hv=>by have:=el (l:=qf.2.l) (A:=AZ) (n:=qf.2.h.length) (c:=cZ) (at_:=qf.2.at_) (asked:=qf.2.asked);rw[Jh]at this;exact this v (by simpa using hv)) (by rw[List.take_zero,Ka,Ju (by rw[dm HIf.1.l,dm (by rfl)];decide),JS]) (λW' h3 hf3=>⟨(),[],rfl,rfl,rfl,⟨(hf3.block (B+1) (aj hI.1) (by omega)).trans hI.1,h3,hI.2.2.trans (hf3.mono λk _ e=>.inr e)⟩⟩)
    .intro _ W hI2
     obtain⟨i1,i2,i3⟩:=hI2;have tg:∀k cs fr t,(k=B+1\/k=B+1+1)->t≠61->t≠93->wC.heap[k]?≠Ic (.cells cs t fr):=λk cs fr t e h1 h2 h3=>by
      rcases e with rfl|rfl
      .rw[HSC.1.z1]at h3
       injection h3 with h3
       injection h3 with _ h3
       exact h1 h3.symm
      .rw[HSC.1.z2]at h3
       injection h3 with h3
       injection h3 with _ h3
       exact h2 h3.symm
     have j1:RdT kEv 105 W (Ia AX qf.1.evs.length cX) qf.1.evs:=(RdT.of_R HSC.1.rE).fr cj i3 (λk cs fr e=>tg k cs fr 105 e (by decide) (by decide));have j2:=HSC.1.rO.fr aC i3 (λk cs fr e=>tg k cs fr 2 e (by decide) (by decide));have j3:=HSC.1.rH.fr aC i3 (λk cs fr e=>tg k cs fr 2 e (by decide) (by decide));have j4:=Fr.below HSC.1.b i3 (λk hk e=>by have:=HBe.1;omega) HSC.1.b.size;have HI1:=MD i1;have HI2:=MD i2;have HJ:=MD (IE j1 (IE j2 (IE j3 j4)));clear i1 i2 i3 tg j1 j2 j3 j4;go_wp2;rw[HRr.1];exact IG (v:=IR #[IA (trc qf.1 (Ia AX qf.1.evs.length cX) (Ia AY qf.1.out.h.length cY)).toArray,IA (stc qf.2.l (Ia AZ qf.2.h.length cZ) qf.2.at_ qf.2.asked).toArray,Ib Ie 0]) (aD (rs:=[.cell 4 61,.cell 5 93,.tmp 6]) rfl (by simp) (.cell (B+1) 61 _ (0,0) _ rfl HI1.1 JY rfl fy (.cell (B+1+1) 93 _ (0,0) _ rfl HI2.1 Jo rfl (bZ HIf.1.l) (.tmp .nil)))) rfl ⟨_,_,_,rfl,HJ.1.1,HJ.1.2.1,HJ.1.2.2.1,HJ.1.2.2.2⟩
  .obtain rfl:b2=Ik:=by cases b2<;>simp_all
   clear hbt2;go_enter Tryz.func38,Tryz.ntmps38;go_upto_region 1 with fail
   refine ar HW1.1.symm ?_;clear hB HW1;go_wp2_with (first
    |(go_at_call 47;refine HRt.1.mono ?_;rintro e w2 ⟨rfl,hb⟩;have HB2:=MD hb;have H12:=MD (ag H1.1 hb);clear hb)
    |((with_reducible refine ai (N:=17) rfl ?_);refine ay rfl _ (ao rfl rfl (aY (P:=If) H12.1 I4 rfl HLi.1)) ?_)
    |(go_at_call 64;refine(HRt2.1 _).mono ?_;rintro e w3 ⟨rfl,hb⟩;have HB3:=MD (af HB2.1 hb);clear hb)
    |((with_reducible refine ai (N:=21) rfl ?_);refine aU rfl 61 _ rfl [] _ rfl HBd61.1 ?_)
    |((with_reducible refine ai (N:=22) rfl ?_);refine aU rfl 93 _ rfl [] _ rfl HBd93.1 ?_)
    |((with_reducible refine ap (t:=61) (p:=4) rfl ?_);refine an rfl 61 _ _ rfl (B+1) ek rfl rfl 61 ek (ag H2.1 HB3.1) fy rfl (by simp[ek,IH]) ?_;intro w4 h4 hf4;have H4:=MD h4;have HF4:=MD hf4;clear h4 hf4)
    |((with_reducible refine ap (t:=93) (p:=5) rfl ?_);refine an rfl 93 _ _ rfl (B+1+1) bY rfl rfl 93 bY ((HF4.1.block (B+1+1) (aj (ag H3.1 HB3.1)) (by omega)).trans (ag H3.1 HB3.1)) (bZ (l:=IF 24 (Ik,0)) rfl) rfl el ?_;intro w5 h5 hf5;have H5:=MD h5;have HF5:=MD hf5;clear h5 hf5))
   rw[if_neg (λh=>by simp at h)]at HRr;rw[HRr.1];have h4:=(HF5.1.block (B+1) (aj H4.1) (by omega)).trans H4.1;have hbb:It w.heap.size w w5:=Fr.below (af HB1.1 HB3.1) ((HF4.1.mono λk _ e=>by subst e;omega).trans (HF5.1.mono λk _ e=>by subst e;omega):Fr (λk=>B<k) _ _) (λk hk e=>by have:=HBe.1;omega) (af HB1.1 HB3.1).size;exact IG (v:=IR #[IA ek,IA bY,Ib Ie 1]) (aD (rs:=[.cell 4 61,.cell 5 93,.tmp 6]) rfl (by simp) (.cell (B+1) 61 ek (0,0) _ rfl h4 JY rfl fy (.cell (B+1+1) 93 bY (0,0) _ rfl H5.1 Jo rfl (bZ (l:=IF 24 (Ik,0)) rfl) (.tmp .nil)))) rfl ⟨Ia Ih 0 0,Ia Ih 0 0,Ia Ih 0 0,rfl,RdT.nil _ _ _,RdT.nil _ _ _,RdT.nil _ _ _,hbb⟩
 .obtain rfl:b=Ik:=by cases b<;>simp_all
  clear hbt;go_enter Tryz.func38,Tryz.ntmps38;go_upto_region 1 with fail
  refine ar HW1.1.symm ?_;clear hB HW1;go_wp2_with (first
   |(go_at_call 47;refine HRt.1.mono ?_;rintro e w2 ⟨rfl,hb⟩;have HB2:=MD hb;have H12:=MD (ag H1.1 hb);have HB3:=MD hb;clear hb)
   |((with_reducible refine ai (N:=21) rfl ?_);refine aU rfl 61 _ rfl [] _ rfl HBd61.1 ?_)
   |((with_reducible refine ai (N:=22) rfl ?_);refine aU rfl 93 _ rfl [] _ rfl HBd93.1 ?_)
   |((with_reducible refine ap (t:=61) (p:=4) rfl ?_);refine an rfl 61 _ _ rfl (B+1) ek rfl rfl 61 ek (ag H2.1 HB3.1) fy rfl (by simp[ek,IH]) ?_;intro w4 h4 hf4;have H4:=MD h4;have HF4:=MD hf4;clear h4 hf4)
   |((with_reducible refine ap (t:=93) (p:=5) rfl ?_);refine an rfl 93 _ _ rfl (B+1+1) bY rfl rfl 93 bY ((HF4.1.block (B+1+1) (aj (ag H3.1 HB3.1)) (by omega)).trans (ag H3.1 HB3.1)) (bZ (l:=IF 24 (Ik,0)) rfl) rfl el ?_;intro w5 h5 hf5;have H5:=MD h5;have HF5:=MD hf5;clear h5 hf5))
  rw[if_neg (λh=>by simp at h)]at HRr;rw[HRr.1];have h4:=(HF5.1.block (B+1) (aj H4.1) (by omega)).trans H4.1;have hbb:It w.heap.size w w5:=Fr.below (af HB1.1 HB3.1) ((HF4.1.mono λk _ e=>by subst e;omega).trans (HF5.1.mono λk _ e=>by subst e;omega):Fr (λk=>B<k) _ _) (λk hk e=>by have:=HBe.1;omega) (af HB1.1 HB3.1).size;exact IG (v:=IR #[IA ek,IA bY,Ib Ie 1]) (aD (rs:=[.cell 4 61,.cell 5 93,.tmp 6]) rfl (by simp) (.cell (B+1) 61 ek (0,0) _ rfl h4 JY rfl fy (.cell (B+1+1) 93 bY (0,0) _ rfl H5.1 Jo rfl (bZ (l:=IF 24 (Ik,0)) rfl) (.tmp .nil)))) rfl ⟨Ia Ih 0 0,Ia Ih 0 0,Ia Ih 0 0,rfl,RdT.nil _ _ _,RdT.nil _ _ _,RdT.nil _ _ _,hbb⟩
theorem Gm(d:Nat)(w:Im)(a0 a1 a2 b0 b1 b2:Int):(Jp (d+2) 105 (IA #[Ib Ie a0,Ib Ie a1,Ib Ie a2]) (IA #[Ib Ie b0,Ib Ie b1,Ib Ie b2])).run If w=.ok (a0==b0&&(a1==b1&&(a2==b2))) w:=by
 refine kF LN (by kernel_rfl) ?_;refine dW (by rfl) (by go_simp;rfl) (by go_simp;rfl) (by go_simp) ?_;refine dW (by rfl) (by go_simp;rfl) (by go_simp;rfl) (by go_simp) ?_;exact gH (by rfl) (by go_simp;rfl) (by go_simp;rfl) (by go_simp)
theorem GW(x y:Ev):(x.n==y.n&&(x.arg==y.arg&&(x.ans==y.ans)))=decide (x=y):=by
 obtain⟨a,b,e⟩:=x;obtain⟨c,d,g⟩:=y;rw[L6];simp[Ev.mk.injEq]
theorem GO(x y:Ev)(w:Im):(binOp .neq 105 (IA #[Ib Ie x.n,Ib Ie x.arg,Ib Ie x.ans]) (IA #[Ib Ie y.n,Ib Ie y.arg,Ib Ie y.ans])).run If w=.ok (Iy (!decide (x=y))) w:=by
 have h:(Op.equal 105 (IA #[Ib Ie x.n,Ib Ie x.arg,Ib Ie x.ans]) (IA #[Ib Ie y.n,Ib Ie y.arg,Ib Ie y.ans])).run If w=.ok (decide (x=y)) w:=by
  rw[<-GW];exact Gm 9998 w _ _ _ _ _ _
 simp only[binOp,IJ,h,I1,JO]
theorem zp{aF:Act}{p:Oper}{x y:Lf}{t:Je}{s u:Ev}(hp:p.op=.binOp .neq 105 x y t)(hx:aF.eval x=IA #[Ib Ie s.n,Ib Ie s.arg,Ib Ie s.ans])(hy:aF.eval y=IA #[Ib Ie u.n,Ib Ie u.arg,Ib Ie u.ans])(w:Im):(JJ aF.eval p).run If w=.ok (.value (Iy (!decide (s=u)))) w:=by
 have hk:If.eqGuardType If.depth 105=Ik:=by kernel_rfl
 have h1:(eqGuard .neq 105 x y (IA #[Ib Ie s.n,Ib Ie s.arg,Ib Ie s.ans]) (IA #[Ib Ie u.n,Ib Ie u.arg,Ib Ie u.ans])).run If w=.ok () w:=by
  simp[eqGuard,run_program,hk]
 unfold JJ;simp only[hp,hx,hy,IJ,h1,GO,I1,JO]
theorem qG:(If.info? 105).map (·.size)=Ic 3:=by kernel_rfl
def tV(a b:List Ev):Bool:=decide (a <+: b)
theorem ml(xs ys:List Ev)(AX AY:Option Addr)(cX cY:Nat)(w:Im)(hX:Kd.C kEv w AX xs.length xs)(hY:Kd.C kEv w AY ys.length ys)(hx:xs.length<=5000)(hy:ys.length<=5000) :
  I9 If 22 #[Ia AX xs.length cX,Ia AY ys.length cY] w λe w'=>e=Iv (Iy (tV xs ys))/\It w.heap.size w w':=by
 obtain⟨r,hr⟩:=ME (tV xs ys);rw[<-hr];have HR:=MD hr;have HX:=MD hX;have HY:=MD hY;have hx':(xs.length:Int)<=5000:=by omega
 have hy':(ys.length:Int)<=5000:=by omega
 clear hr hX hY;by_cases hl:xs.length<=ys.length
 .have hlb:¬(ys.length:Int)<(xs.length:Int):=by omega
  have HL:=MD hl;clear hl;go_enter Tryz.func22,Tryz.ntmps22;go_upto_region 4 with fail
  go_loopw [14] (λj wr=>∃(k:Nat),j=Ib Ie k/\aa (k<=xs.length/\It w.heap.size w wr/\xs.take k=ys.take k)) (λj _=>xs.length-(Jj j).toNat)
  case atStart=>exact⟨0,rfl,⟨⟨ID _,Il _ _,rfl⟩⟩⟩
  case round=>
   obtain⟨k,rfl,HK⟩:=hrel;obtain⟨hk,hb,ht⟩:=HK.1;by_cases hkl:k<xs.length
   .have hkl':(k:Int)<(xs.length:Int):=by omega
    have hky:k<ys.length:=by have:=HL.1;omega
    have hky':(k:Int)<(ys.length:Int):=by omega
    obtain⟨x,hxx⟩:∃x,xs[k]?=Ic x:=⟨_,Ig hkl⟩;obtain⟨y,hyy⟩:∃y,ys[k]?=Ic y:=⟨_,Ig hky⟩;obtain⟨adX,csX,eX,hKX,hldX⟩:=ba (P:=If) HX.1 hb k hkl x hxx 105 LN rfl qG;subst eX;obtain rfl:csX=[Ib Ie x.n,Ib Ie x.arg,Ib Ie x.ans]:=hKX;have HLX:=MD (show(Le 105 (adX.add (k*3))).run If wr=.ok (IA #[Ib Ie x.n,Ib Ie x.arg,Ib Ie x.ans]) wr from hldX);have htx:xs.take (k+1)=xs.take k++[x]:=by rw[JC hkl,(Ip.1 hxx).2]
    have hty:ys.take (k+1)=ys.take k++[y]:=by rw[JC hky,(Ip.1 hyy).2]
    have HT:=MD (IE ht (IE htx hty));have HB:=MD hb;have HYY:=MD hyy;have HKl:=MD hkl;have HKy:=MD hky;clear hk hb ht hkl hky hxx hyy hldX htx hty HK;go_upto_region 6 with(first
     |((with_reducible refine ai (N:=18) rfl ?_);refine av rfl 105 _ rfl (adX.add (k*3)) rfl _ HLX.1 ?_))
    obtain⟨w1,hw1⟩:∃w1,w1=wr.alloc (Is #[Ib Ie x.n,Ib Ie x.arg,Ib Ie x.ans] 105):=⟨_,rfl⟩;have hb1:It w.heap.size w w1:=by rw[hw1];exact ae HB.1 _
    have h6:w1.heap[wr.heap.size]?=Ic (.cells #[Ib Ie x.n,Ib Ie x.arg,Ib Ie x.ans] 105 (0,0)):=by rw[hw1];exact Iu wr _
    refine ar hw1.symm ?_;obtain⟨g6,hg6⟩:=MF wr.heap.size;rw[hg6]at h6 ⊢;obtain⟨adY,csY,eY,hKY,hldY⟩:=ba (P:=If) HY.1 (aA hb1) k HKy.1 y HYY.1 105 LN rfl qG;subst eY;obtain rfl:csY=[Ib Ie y.n,Ib Ie y.arg,Ib Ie y.ans]:=hKY;have HLY:=MD (show(Le 105 (adY.add (k*3))).run If w1.drew=.ok (IA #[Ib Ie y.n,Ib Ie y.arg,Ib Ie y.ans]) w1.drew from hldY);have HB1:=MD hb1;have H6:=MD h6;clear hw1 hb1 h6 hg6 hldY;refine KF (by kernel_rfl) (by kernel_rfl) ?_;refine bO rfl (ao rfl rfl (aY H6.1 LN rfl qG)) ?_;still_step;still_step;still_step;refine bO rfl (ao rfl rfl HLY.1) ?_;refine bO rfl (zp rfl rfl rfl _) ?_;refine Mc ?_;change(Exit.then _ _) _ _ w1.drew;obtain⟨w2,hw2⟩:=ME w1.drew;rw[<-hw2];have HB2:=MD (show It w.heap.size w w2 by rw[hw2];exact aA HB1.1);clear hw2;by_cases hxy:x=y
    .have hd:(!decide (x=y))=Ik:=by simp[hxy]
     have HXY:=MD hxy;clear hxy;rw[hd];go_wp2;go_roundw
     case rel=>exact⟨k+1,by go_num,⟨⟨HKl.1,HB2.1,by rw[HT.1.2.1,HT.1.2.2,HT.1.1,HXY.1]⟩⟩⟩
     case measure=>have:=HKl.1;simp[Jj];omega
    .have hd:(!decide (x=y))=Ir:=by simp[hxy]
     have HXY:=MD hxy;clear hxy;rw[hd];obtain rfl:r=Ik:=by
      rw[HR.1];refine decide_eq_false (λe=>HXY.1 ?_);obtain⟨z,hz⟩:=e;have h1:=HT.1.2.2;rw[<-hz,Kx (show k+1<=xs.length from HKl.1),HT.1.2.1,Kx (show k<=xs.length from Mv HKl.1)]at h1;have h2:=List.append_inj_right' h1 rfl;simpa using h2
     go_wp2;go_ret;exact⟨rfl,HB2.1⟩
   .obtain rfl:k=xs.length:=by omega
    obtain rfl:r=Ir:=by
     rw[HR.1];refine decide_eq_true ?_;rw[Kh]at ht;rw[ht];exact List.take_prefix _ _
    have HB:=MD hb;clear hk hb ht hkl HK;go_wp2;go_ret;exact⟨rfl,HB.1⟩
 .have hlb:(ys.length:Int)<(xs.length:Int):=by omega
  obtain rfl:r=Ik:=by
   rw[HR.1];exact decide_eq_false (λe=>hl e.length_le)
  clear hl;go_enter Tryz.func22,Tryz.ntmps22;go_wp2;go_ret;exact⟨rfl,Il _ _⟩
def iI(h:Int):Bool:=decide (1<=h/\h<=4)
theorem ik(t:Tr)(A B:Option Addr)(n c m d:Nat)(w:Im):I9 If 24 #[IA (trc t (Ia A n c) (Ia B m d)).toArray] w λe w'=>e=Iv (Iy (iI t.out.how))/\It w.heap.size w w':=by
 obtain⟨es,⟨how,val,oh⟩,st,wk⟩:=t;show I9 If 24 #[IA #[Ia A n c,Ib Ie how,Ib Ie val,Ia B m d,Ib Ie st,Ib Ie wk]] w λe w'=>e=Iv (Iy (iI how))/\It w.heap.size w w';obtain⟨r,hr⟩:=ME (iI how);rw[<-hr];unfold iI at hr;by_cases h1:how=1
 .subst h1
  obtain rfl:r=Ir:=hr;go_enter Km,Tryz.ntmps24;go_wp2;go_ret;exact⟨rfl,ae (Il _ _) _⟩
 by_cases h2:how=2
 .subst h2
  obtain rfl:r=Ir:=hr;go_enter Km,Tryz.ntmps24;go_wp2;go_ret;exact⟨rfl,ae (Il _ _) _⟩
 by_cases h3:how=3
 .subst h3
  obtain rfl:r=Ir:=hr;go_enter Km,Tryz.ntmps24;go_wp2;go_ret;exact⟨rfl,ae (Il _ _) _⟩
 by_cases h4:how=4
 .subst h4
  obtain rfl:r=Ir:=hr;go_enter Km,Tryz.ntmps24;go_wp2;go_ret;exact⟨rfl,ae (Il _ _) _⟩
 .obtain rfl:r=Ik:=by rw[hr];exact decide_eq_false (by omega)
  have q1:(how==1)=Ik:=beq_eq_false_iff_ne.mpr h1;have q2:(how==2)=Ik:=beq_eq_false_iff_ne.mpr h2;have q3:(how==3)=Ik:=beq_eq_false_iff_ne.mpr h3;have q4:(how==4)=Ik:=beq_eq_false_iff_ne.mpr h4;clear hr h1 h2 h3 h4;go_enter Km,Tryz.ntmps24;go_wp2;go_ret;exact⟨rfl,ae (Il _ _) _⟩
def sdc(t:Tr)(b:Bool)(vE vO:Io):Array Io:=#[vE,Ib Ie t.out.how,Ib Ie t.out.val,vO,Ib Ie t.steps,Ib Ie t.work,Iy b]
def SdV(W:Im)(x:Tr×Bool)(v:Io):Prop:=∃A n B m,v=IA (sdc x.1 x.2 (Ia A x.1.evs.length n) (Ia B x.1.out.h.length m))/\RdT kEv 105 W (Ia A x.1.evs.length n) x.1.evs/\RdT (Kd.int .i64) 2 W (Ia B x.1.out.h.length m) x.1.out.h
theorem SdV.below{W W':Im}{x:Tr×Bool}{v:Io}(h:SdV W x v)(hb:It W.heap.size W W'):SdV W' x v:=by
 obtain⟨A,n,B,m,h1,h2,h3⟩:=h;exact⟨A,n,B,m,h1,h2.below hb,h3.below hb⟩
def fc(f:List In)(c:Ca):(Tr×Bool)×Int:=
 if(fC f c).2.2=0 then(((fC f c).1,decide ((fC f c).1.out.how=0)&&decide ((bT f (fC f c).2.1.at_.toNat).jt<0)),0)else((trZ,Ik),(fC f c).2.2)
theorem dF:(If.info? 63).map (·.size)=Ic 7:=by kernel_rfl
def gV:Array Io:=sdc trZ Ik (Ia Ih 0 0) (Ia Ih 0 0)
theorem Fp(vs:List Io)(h:vs.length=6)(b:Bool):If.built 63 [(0,IA vs.toArray),(1,Iy b)]=Ic (vs++[Iy b]).toArray:=by
 have h1:If.built 63 [(0,IA vs.toArray),(1,Iy b)]=Ll (#[(0,6),(6,1)][·]?) ([Ia Ih 0 0,Ib Ie 0,Ib Ie 0,Ia Ih 0 0,Ib Ie 0,Ib Ie 0,Iy Ik]:List Io).toArray [(0,IA vs.toArray),(1,Iy b)]:=by rfl
 rw[h1,jq _ _ 0 0 6 vs _ rfl h (by simp)];simp[Ll,h,List.set_append,show(Iy b).cells=#[Iy b]from rfl]
theorem Al{f:List In}{c:Ca}(h8:c.r.length=8)(h:(fC f c).2.2=0):bi f=Ir/\StI f (fC f c).2.1:=by
 unfold fC at h ⊢;split at h
 .rename_i hc
  rw[if_pos hc];have hr:=bu hc.1;have h16:c.h.length<=16:=by
   have:=hc.2;unfold il at this;simp only[Js,decide_eq_true_eq]at this;omega
  exact⟨hc.1,C7 hr c.ans _ _ (zT hr h8 h16)⟩
 .exact absurd h (by decide)
theorem EG(f:List In)(c:Ca)(h8:c.r.length=8):(fC f c).2.1.l.length=24:=by
 by_cases h:(fC f c).2.2=0
 .exact(Al h8 h).2.l
 .unfold fC at h ⊢
  split
  .rename_i hc
   rw[if_pos hc]at h;exact absurd rfl h
  .rfl
theorem BF(f:List In)(c:Ca):(fC f c).2.2=0\/(fC f c).2.2=1:=by
 unfold fC;split
 .exact .inl rfl
 .exact .inr rfl
theorem sD(f:List In)(Af:Option Addr)(cf:Nat)(c:Ca)(vC:Io)(w:Im)(hG:Gl w)(hC:Kd.C kIn w Af f.length f)(hc:f.length<=cf)(hV:CaV w c vC)(hh:c.h.length<=5000)(ha:c.ans.length<=100000) :
  I9 If 19 #[Ia Af f.length cf,vC] w λe w'=>∃v,e=Iv (IR #[v,Ib Ie (fc f c).2])/\SdV w' (fc f c).1 v/\It w.heap.size w w':=by
 have hV0:=hV;obtain⟨vH,vA,rfl,h8,hHr,hAr⟩:=hV;obtain⟨L,hL⟩:=ME (cac c.r vH vA c.fuel);have hLi:(If.info? 37).map (·.size)=Ic L.toArray.size:=by rw[hL];exact bv h8
 obtain⟨r,hr⟩:=ME (fc f c);rw[<-hr];unfold fc at hr;obtain⟨q,hq⟩:=ME (fC f c);have hI:=λh=>Al (f:=f) (c:=c) h8 h;have hE:=BF f c;have hl:=EG f c h8;rw[<-hq]at hr hI hE hl;obtain⟨w1,hw1⟩:∃w1,w1=(w.alloc (Is L.toArray 37)).alloc (Is gV 63):=⟨_,rfl⟩;obtain⟨B,hB⟩:=MF w.heap.size;obtain⟨h2,h1,hb1⟩:=dz (w:=w) (A:=Is L.toArray 37) (B:=Is gV 63) (w1:=w1) (by rw[hw1];exact Il _ _);rw[hB]at h1 h2;have hRun:=EF f Af cf c _ w1 (hG.below hb1) (Kd.C_below hC hb1) hc (hV0.below hb1) hh ha;rw[<-hL,<-hq]at hRun;rw[<-hL];have HG:=MD (hG.below hb1);have HC:=MD (Kd.C_below hC hb1);have HRun:=MD hRun;have HW1:=MD hw1;have H1:=MD h1;have H2:=MD h2;have HB1:=MD hb1;have HBe:=MD hB;have HLi:=MD hLi;have HRr:=MD hr;have HI:=MD hI;have HSl:=MD hl;have Hcf:=MD hc;have HBd63:=MD (show If.built 63 []=Ic gV from rfl);clear hV0 hG hC hc hL hLi hr hq hI hl hRun hw1 h1 h2 hb1 hHr hAr h8 hh ha;obtain⟨t,s,er⟩:=q;simp only at hE;have HIs:=MD (show er=0->bi f=Ir/\StI f s from HI.1);have HRs:=MD (show r=if er=0 then((t,decide (t.out.how=0)&&decide ((bT f s.at_.toNat).jt<0)),0)else((trZ,Ik),er)from HRr.1);clear HI HRr;rcases hE with rfl|rfl
 .obtain⟨hr,hs⟩:=HIs.1 rfl
  obtain⟨n,hn⟩:∃n:Nat,s.at_=n:=⟨s.at_.toNat,by have:=hs.lo;omega⟩;have hFr:=λW hG hC=>(BK f s.at_ Af cf W hG hC Hcf.1).mono (λe w' h=>(show e=Iv (IR #[IA (bT f s.at_.toNat).cells.toArray,Ib Ie 0])/\It W.heap.size W w' from⟨by have h1:=h.1;unfold ke at h1;rw[if_pos ⟨hr,hs.lo,hs.hi⟩]at h1;exact h1,h.2⟩));obtain⟨pt,hpt⟩:=ME (bT f s.at_.toNat);rw[if_pos rfl,<-hpt]at HRs;rw[<-hpt]at hFr;have HFr:=MD hFr;have HS:=MD hs;have HPl:=MD (show pt.t.length=24 by rw[hpt];exact(lu (bu hr) (by have:=hs.hi;omega)).1);clear hFr hr hs hpt hn;go_enter Tryz.func19,Tryz.ntmps19;go_upto_region 1 with fail
  refine ar HW1.1.symm ?_;clear hB HW1;go_upto_region 2 with(first
   |((with_reducible refine ai (N:=13) rfl ?_);refine ay rfl _ (ao rfl rfl (aY (P:=If) H1.1 I4 rfl HLi.1)) ?_)
   |(go_at_call 38;refine HRun.1.mono ?_;rintro e w2 ⟨vE,vO,vS,rfl,hE,hO,hS,hb⟩;obtain⟨AE,cE,rfl,z1⟩:=hE;obtain⟨AO,cO,rfl,z2⟩:=hO;obtain⟨AS,cS,rfl,z3⟩:=hS;have HEr:=MD (show RdT kEv 105 w2 (Ia AE t.evs.length cE) t.evs from⟨AE,cE,rfl,z1⟩);have HOr:=MD (show RdT (Kd.int .i64) 2 w2 (Ia AO t.out.h.length cO) t.out.h from⟨AO,cO,rfl,z2⟩);have HB2:=MD hb;clear z1 z2 z3 hb)
   |((with_reducible refine ap (t:=61) (p:=6) rfl ?_);refine an rfl 61 _ _ rfl w2.heap.size (trc t (Ia AE t.evs.length cE) (Ia AO t.out.h.length cO)).toArray rfl rfl 61 ek (Lz w2 _ _) fy rfl (by simp[trc,IH]) ?_;intro w3 h3 hf3;have H3:=MD h3;have H3b:=MD ((hf3.block (w2.heap.size+1) (by simp) (by omega)).trans (L9 w2 _ _));have HB3:=MD (show It w2.heap.size w2 w3 from Fr.below (ae (ae (Il _ _) _) _) hf3 (λk hk e=>by omega) (by simp;omega));clear h3 hf3)
   |((with_reducible refine ap (t:=93) (p:=7) rfl ?_);refine an rfl 93 _ _ rfl (w2.heap.size+1) (stc s.l (Ia AS s.h.length cS) s.at_ s.asked).toArray rfl rfl 93 bY H3b.1 (bZ HS.1.l) (stz HS.1.l) el ?_;intro w4 h4 hf4;have H4:=MD h4;have H4a:=MD ((hf4.block w2.heap.size (aj H3.1) (by omega)).trans H3.1);have HB4:=MD (show It w2.heap.size w2 w4 from Fr.below HB3.1 hf4 (λk hk e=>by omega) HB3.1.size);clear h4 hf4))
  obtain⟨G,hG⟩:=MF w2.heap.size;rw[hG]at H4 H4a ⊢;have HBG:=MD (show B+1<G by rw[<-hG];exact aj (ag H2.1 HB2.1));have HB5:=MD (af HB2.1 HB4.1);have HE4:=MD (HEr.1.below HB4.1);have HO4:=MD (HOr.1.below HB4.1);have c49:=(show w4.cell? ⟨G+1,49,Ih⟩=Ic (Ib Ie s.at_) by rw[aq H4.1,show 49=48+1 from rfl,lh HS.1.l];rfl);have HFc:=MD (HFr.1 w4 (HG.1.below HB5.1) (Kd.C_below HC.1 HB5.1));clear hG HRun H1 H3 H3b HB3 HB2 HB4 HEr HOr HFr;go_upto_region 5 with(first
   |(go_at_call 39;refine HFc.1.mono ?_;rintro e w5 ⟨rfl,hb⟩;have HB6:=MD hb;clear hb)
   |((with_reducible refine ap (t:=101) (p:=9) rfl ?_);refine an rfl 101 _ _ rfl w5.heap.size pt.cells.toArray rfl rfl 101 (Pth.cells ⟨0,bE,0⟩).toArray (Iu w5 _) (dC HPl.1) (by simp[jA,HPl.1,bE]) (ii _) ?_;intro w6 h6 hf6;have H6:=MD h6;have HB7:=MD (af HB6.1 (cw hf6));clear h6 hf6))
  have HE6:=MD (HE4.1.below HB7.1);have HO6:=MD (HO4.1.below HB7.1);have H66:=MD (ag H4a.1 HB7.1);have H26:=MD (ag (ag H2.1 HB5.1) HB7.1);have c1:=(show w6.cell? ⟨G,1,Ih⟩=Ic (Ib Ie t.out.how) by rw[aq H66.1];rfl);have cp:=(show w6.cell? ⟨w5.heap.size,0,Ih⟩=Ic (Ib Ie pt.jt) by rw[aq H6.1];rfl);have HB8:=MD (af HB5.1 HB7.1);obtain⟨b,hb⟩:=ME ((decide (t.out.how=0)&&decide (pt.jt<0)));rw[<-hb]at HRs;have HBd:=MD (show ∀z,If.built 63 [(0,IA (trc t (Ia AE t.evs.length cE) (Ia AO t.out.h.length cO)).toArray),(1,Iy z)]=Ic (sdc t z (Ia AE t.evs.length cE) (Ia AO t.out.h.length cO))from λz=>Fp _ rfl z);clear c49 HFc HE4 HO4 H4 H4a H2 HB5 HB6 HB7;by_cases h0:t.out.how=0
  .by_cases hj:pt.jt<0
   .have q1:(t.out.how==0)=Ir:=beq_iff_eq.mpr h0
    obtain rfl:b=Ir:=by rw[hb,decide_eq_true h0,decide_eq_true hj];rfl
    clear h0 hb;go_wp2_with (first
     |((with_reducible refine ai (N:=29) rfl ?_);refine ay rfl _ (ao rfl rfl (aY (P:=If) H66.1 JY rfl fy)) ?_)
     |((with_reducible refine ai (N:=39) rfl ?_);refine aU rfl 63 _ rfl [(0,IA (trc t (Ia AE t.evs.length cE) (Ia AO t.out.h.length cO)).toArray),(1,Iy Ir)] _ rfl (HBd.1 _) ?_)
     |((with_reducible refine ap (t:=63) (p:=4) rfl ?_);refine an rfl 63 _ _ rfl (B+1) (sdc t Ir (Ia AE t.evs.length cE) (Ia AO t.out.h.length cO)) rfl rfl 63 gV H26.1 dF rfl (by simp[sdc,IH]) ?_;intro w7 h7 hf7;have H7:=MD h7;have HF7:=MD hf7;clear h7 hf7))
    rw[HRs.1];exact IG (v:=IR #[IA (sdc t Ir (Ia AE t.evs.length cE) (Ia AO t.out.h.length cO)),Ib Ie 0]) (aD (rs:=[.cell 4 63,.tmp 5]) rfl (by simp) (.cell (B+1) 63 _ (0,0) _ rfl H7.1 JT rfl dF (.tmp .nil))) rfl ⟨_,rfl,⟨AE,cE,AO,cO,rfl,HE6.1.fr cj HF7.1 (λk cs fr e=>by subst e;rw[H26.1];simp),HO6.1.fr aC HF7.1 (λk cs fr e=>by subst e;rw[H26.1];simp)⟩,Fr.below (af HB1.1 HB8.1) HF7.1 (λk hk e=>by have:=HBe.1;omega) (af HB1.1 HB8.1).size⟩
   .have q1:(t.out.how==0)=Ir:=beq_iff_eq.mpr h0
    have q2:decide (pt.jt<0)=Ik:=decide_eq_false hj;obtain rfl:b=Ik:=by rw[hb,decide_eq_true h0,decide_eq_false hj];rfl
    clear h0 hb;go_wp2_with (first
     |((with_reducible refine ai (N:=29) rfl ?_);refine ay rfl _ (ao rfl rfl (aY (P:=If) H66.1 JY rfl fy)) ?_)
     |((with_reducible refine ai (N:=39) rfl ?_);refine aU rfl 63 _ rfl [(0,IA (trc t (Ia AE t.evs.length cE) (Ia AO t.out.h.length cO)).toArray),(1,Iy Ik)] _ rfl (HBd.1 _) ?_)
     |((with_reducible refine ap (t:=63) (p:=4) rfl ?_);refine an rfl 63 _ _ rfl (B+1) (sdc t Ik (Ia AE t.evs.length cE) (Ia AO t.out.h.length cO)) rfl rfl 63 gV H26.1 dF rfl (by simp[sdc,IH]) ?_;intro w7 h7 hf7;have H7:=MD h7;have HF7:=MD hf7;clear h7 hf7))
    rw[HRs.1];exact IG (v:=IR #[IA (sdc t Ik (Ia AE t.evs.length cE) (Ia AO t.out.h.length cO)),Ib Ie 0]) (aD (rs:=[.cell 4 63,.tmp 5]) rfl (by simp) (.cell (B+1) 63 _ (0,0) _ rfl H7.1 JT rfl dF (.tmp .nil))) rfl ⟨_,rfl,⟨AE,cE,AO,cO,rfl,HE6.1.fr cj HF7.1 (λk cs fr e=>by subst e;rw[H26.1];simp),HO6.1.fr aC HF7.1 (λk cs fr e=>by subst e;rw[H26.1];simp)⟩,Fr.below (af HB1.1 HB8.1) HF7.1 (λk hk e=>by have:=HBe.1;omega) (af HB1.1 HB8.1).size⟩
  .have q1:(t.out.how==0)=Ik:=beq_eq_false_iff_ne.mpr h0
   obtain rfl:b=Ik:=by rw[hb,decide_eq_false h0];rfl
   clear h0 hb;go_wp2_with (first
    |((with_reducible refine ai (N:=29) rfl ?_);refine ay rfl _ (ao rfl rfl (aY (P:=If) H66.1 JY rfl fy)) ?_)
    |((with_reducible refine ai (N:=39) rfl ?_);refine aU rfl 63 _ rfl [(0,IA (trc t (Ia AE t.evs.length cE) (Ia AO t.out.h.length cO)).toArray),(1,Iy Ik)] _ rfl (HBd.1 _) ?_)
    |((with_reducible refine ap (t:=63) (p:=4) rfl ?_);refine an rfl 63 _ _ rfl (B+1) (sdc t Ik (Ia AE t.evs.length cE) (Ia AO t.out.h.length cO)) rfl rfl 63 gV H26.1 dF rfl (by simp[sdc,IH]) ?_;intro w7 h7 hf7;have H7:=MD h7;have HF7:=MD hf7;clear h7 hf7))
   rw[HRs.1];exact IG (v:=IR #[IA (sdc t Ik (Ia AE t.evs.length cE) (Ia AO t.out.h.length cO)),Ib Ie 0]) (aD (rs:=[.cell 4 63,.tmp 5]) rfl (by simp) (.cell (B+1) 63 _ (0,0) _ rfl H7.1 JT rfl dF (.tmp .nil))) rfl ⟨_,rfl,⟨AE,cE,AO,cO,rfl,HE6.1.fr cj HF7.1 (λk cs fr e=>by subst e;rw[H26.1];simp),HO6.1.fr aC HF7.1 (λk cs fr e=>by subst e;rw[H26.1];simp)⟩,Fr.below (af HB1.1 HB8.1) HF7.1 (λk hk e=>by have:=HBe.1;omega) (af HB1.1 HB8.1).size⟩
 .rw[if_neg (by decide)]at HRs
  go_enter Tryz.func19,Tryz.ntmps19;go_upto_region 1 with fail
  refine ar HW1.1.symm ?_;clear hB HW1;go_wp2_with (first
   |((with_reducible refine ai (N:=13) rfl ?_);refine ay rfl _ (ao rfl rfl (aY (P:=If) H1.1 I4 rfl HLi.1)) ?_)
   |(go_at_call 38;refine HRun.1.mono ?_;rintro e w2 ⟨vE,vO,vS,rfl,hE,hO,hS,hb⟩;obtain⟨AE,cE,rfl,z1⟩:=hE;obtain⟨AO,cO,rfl,z2⟩:=hO;obtain⟨AS,cS,rfl,z3⟩:=hS;have HB2:=MD hb;clear z1 z2 z3 hb)
   |((with_reducible refine ap (t:=61) (p:=6) rfl ?_);refine an rfl 61 _ _ rfl w2.heap.size (trc t (Ia AE t.evs.length cE) (Ia AO t.out.h.length cO)).toArray rfl rfl 61 ek (Lz w2 _ _) fy rfl (by simp[trc,IH]) ?_;intro w3 h3 hf3;have H3b:=MD ((hf3.block (w2.heap.size+1) (by simp) (by omega)).trans (L9 w2 _ _));have HB3:=MD (show It w2.heap.size w2 w3 from Fr.below (ae (ae (Il _ _) _) _) hf3 (λk hk e=>by omega) (by simp;omega));clear h3 hf3)
   |((with_reducible refine ap (t:=93) (p:=7) rfl ?_);refine an rfl 93 _ _ rfl (w2.heap.size+1) (stc s.l (Ia AS s.h.length cS) s.at_ s.asked).toArray rfl rfl 93 bY H3b.1 (bZ HSl.1) (stz HSl.1) el ?_;intro w4 h4 hf4;have HB4:=MD (show It w2.heap.size w2 w4 from Fr.below HB3.1 hf4 (λk hk e=>by omega) HB3.1.size);have H24:=MD (ag (ag H2.1 HB2.1) HB4.1);clear h4 hf4)
   |((with_reducible refine ai (N:=20) rfl ?_);refine aU rfl 63 _ rfl [] _ rfl HBd63.1 ?_)
   |((with_reducible refine ap (t:=63) (p:=4) rfl ?_);refine an rfl 63 _ _ rfl (B+1) gV rfl rfl 63 gV H24.1 dF rfl (by simp[gV,sdc,IH]) ?_;intro w5 h5 hf5;have H5:=MD h5;have HB6:=MD (Fr.below (af HB1.1 (af HB2.1 HB4.1)) hf5 (λk hk e=>by have:=HBe.1;omega) (af HB1.1 (af HB2.1 HB4.1)).size);clear h5 hf5))
  rw[HRs.1];exact IG (v:=IR #[IA gV,Ib Ie 1]) (aD (rs:=[.cell 4 63,.tmp 5]) rfl (by simp) (.cell (B+1) 63 gV (0,0) _ rfl H5.1 JT rfl dF (.tmp .nil))) rfl ⟨_,rfl,⟨Ih,0,Ih,0,rfl,RdT.nil _ _ _,RdT.nil _ _ _⟩,HB6.1⟩
end Go.Proofs.YtlinbehijfcelaaGreatDoor.Top
