/- Walks of the program, and what it computes, told plainly. No condition. (TT TU TV TW TX TY TZ UA) -/
import Derived.Below
import Derived.Deep.Draws
import Derived.Deep.AppendLies
import Derived.Maps.AppendAt
import Derived.OwnWalk
import Derived.Laws.BytesArg
import Derived.Laws.MakeOwn
import Derived.Laws.OwnMore
import Derived.Deep.OwnRows
import Derived.Tactics
import Derived.Lib.ConvBytes
import Derived.Laws.Slices
import Derived.WalkKit
import Derived.KernelRfl
import Derived.RowKit3
import Derived.Deep.LoopGhost
import Derived.Deep.QuietTactic
import Derived.BigQuiet
import Derived.WideLaws
import Derived.Deep.DeepCutAuto
import Derived.Deep.CutBlock
import Derived.Deep.RegionHeld3
import Derived.Laws.Rows
import Derived.Lib.AppendStr
import Derived.ArgAppend
import Derived.Laws.IdiomCopy
import Derived.RowKit
import Derived.OrdersHeld
import Derived.Laws.BitsLemmas
import Derived.Laws.StructEq
import Derived.Test.YtlinbehijfcelaaGreatDoorProg
import Derived.Deep.WholeRow
import Derived.Laws.CopyOwn
import Derived.Carry
import Derived.ChangeKeysEq
import Derived.Laws.RangeAny
import Derived.Deep.MidRow
import Derived.Laws.Tables
import Derived.Test.YtlinbehijfcelaaGreatDoorPA
import Derived.Test.YtlinbehijfcelaaGreatDoorPB
import Derived.Test.YtlinbehijfcelaaGreatDoorPC
import Derived.Test.YtlinbehijfcelaaGreatDoorPD
set_option linter.unusedVariables false
set_option linter.unusedSimpArgs false
set_option linter.unusedSectionVars false
set_option maxHeartbeats 8000000
set_option maxRecDepth 100000
open Go.Value renaming agg->IA,bool->Iy,int->Ib,oneCell'->IH,ownBlock->IQ,pointer->Iq,slice->Ia,tuple->IR
open Go.IntKind renaming i64->Ie
open Go.Ending renaming returned->Iv
open Bool renaming false->Ik,true->Ir
open Go.Proofs.Tryz renaming prog->If,underlying101->KL,underlying116->JD,underlying119->KE,underlying132->Lq,underlying99->IU
open Option renaming getD_some->JL,map_some->Mu,none->Ih,some->Ic
open List renaming append_assoc->Kv,append_nil->JS,drop_eq_getElem_cons->Jc,drop_of_length_le->Ju,ext_getElem?->JN,getD_eq_getElem?_getD->Ij,getElem?_append_left->Jg,getElem?_append_right->IW,getElem?_eq_getElem->Ig,getElem?_eq_none->I0,getElem?_eq_some_iff->Ip,getElem?_map->IK,getElem?_range->KW,getElem?_set->KD,length_append->IV,length_map->Jb,length_set->Jq,map_append->LY,map_cons->Jt,map_nil->La,map_toArray->Mt,mem_append->J0,mem_cons->I7,mem_cons_of_mem->Jm,mem_cons_self->JH,mem_map->JM,mem_of_getElem?->Iw,mem_range->Kq,mem_singleton->IS,nil_append->Ka,not_mem_nil->JE,range->Jy,replicate->IF,size_toArray->I8,take_append_of_le_length->Kx
open Array renaming all_eq_true_iff_forall_mem->Jh,getElem?_eq_some_iff->IB
open Go renaming Calls->I9,Operand->Lf,Program->Jn,TypeId->Je,Value->Io,World->Im,below_setRow->Jl,bodyPost_ret->IG,execOp->JJ,heap_alloc2_new->L9,heap_alloc_last->Iu,heap_alloc_new->JZ,loadVar->Le,results_cell_row->IX,run_underlying->I2,setRow_heap->JX,undef->KG,wpList->Kg,wpList_load_row->II,wpList_store_row->I3,zeroValue->Mr
open Go.RowKit renaming Below->It,intOf->Jj
open Go.Obj renaming cells->Is
open Go.RowKit.Below renaming heap_setCell->Ld,refl->Il
open Nat renaming le_refl->Iz,zero_add->KB,zero_le->ID
open Go.Instr renaming checkKey->JK,fill->Ll,findNow->Kz,lookup->Kr,mapUpdate->LK
open List.cons renaming injEq->Ke
open Prod.mk renaming injEq->IM
open Go.Sem renaming run_bind->IJ,run_pure->JO
open Go.Result renaming andThen->Jf,andThen_ok->I1
open Go.MapKept renaming run_checkKey->Mf,run_findKey->Mh,run_getObj_map->J6
open Int renaming toNat_natCast->IC
open Go.Addr renaming add->Mo
open Option.some renaming inj->Ii,injEq->Ja
namespace Go.Proofs.YtlinbehijfcelaaGreatDoor.Top
open Go.RowKit Go.Proofs.YtlinbehijfcelaaGreatDoorW.PrintWords Go.Proofs.YtlinbehijfcelaaGreatDoorW.PrintLast
def ke(f:List In)(a:Int)(e:Ending):Prop:=
 if bi f=Ir/\0<=a/\a<f.length then e=Iv (IR #[IA (bT f a.toNat).cells.toArray,Ib Ie 0])
 else e=Iv (IR #[IA (Pth.cells ⟨0,bE,0⟩).toArray,Ib Ie 1])
theorem E_:(If.info? 101).map (·.size)=Ic 26:=by kernel_rfl
theorem jA{p:Pth}(h:p.t.length=24):p.cells.length=26:=by simp[Pth.cells,h]
theorem dC{p:Pth}(h:p.t.length=24):(If.info? 101).map (·.size)=Ic p.cells.toArray.size:=by
 rw[I8,jA h];exact E_
theorem ii(p:Pth):p.cells.toArray.all (·.oneCell')=Ir:=by
 rw[Jh];intro v hv;simp only[List.mem_toArray,Pth.cells,I7,J0,JM,JE,or_false]at hv;rcases hv with rfl|⟨s,_,rfl⟩|rfl
 .rfl
 .exact s.one
 .rfl
def ru(w:Im)(v:Io)(w1:Im):Prop:=It w.heap.size w w1/\w1.heap[w.heap.size+1]?=Ic (.cells (Pth.cells ⟨0,bE,0⟩).toArray 101 (0,0))/\w1.heap[w.heap.size]?=Ic (.cells #[v] 22 (0,0))
theorem asked(w:Im)(v:Io){w1:Im}(hb:It ((w.alloc (Is #[v] 22)).alloc (Is (Pth.cells ⟨0,bE,0⟩).toArray 101)).heap.size ((w.alloc (Is #[v] 22)).alloc (Is (Pth.cells ⟨0,bE,0⟩).toArray 101)) w1):ru w v w1:=by
 obtain⟨h1,h2,h3⟩:=dz hb;exact⟨h3,h1,h2⟩
theorem rB(f:List In)(a:Int)(A:Option Addr)(c:Nat)(w:Im)(hG:Gl w)(hC:Kd.C kIn w A f.length f)(hc:f.length<=c)(hbad:¬(bi f=Ir/\0<=a/\a<f.length)) :
  I9 If 39 #[Ia A f.length c,Ib Ie a] w λe w'=>ke f a e/\It w.heap.size w w':=by
 have hmax:=Kd.C_max hC;have HR:=MD (eD A c f);have HC:=MD hC;have HG:=MD hG;have Hc:=MD hc;have HP:aa (∀e,e=Iv (IR #[IA (Pth.cells ⟨0,bE,0⟩).toArray,Ib Ie 1])->ke f a e):=⟨λe he=>by unfold ke;rw[if_neg hbad];exact he⟩;obtain⟨b,hb⟩:=ME (bi f);rw[<-hb]at HR hbad;clear hG hC hc hb;by_cases hb0:b=Ik
 .subst hb0
  clear hbad;go_enter Tryz.func39,Tryz.ntmps39;go_wp2_with (first
   |(go_at_call 47;have hbA:=(ae (ae (Il w.heap.size w) (Is #[Ia A f.length c] 22)) (Is (Pth.cells ⟨0,bE,0⟩).toArray 101));refine(HR.1 _ (HG.1.below hbA) (Kd.C_below HC.1 hbA) Hc.1).mono ?_;rintro e w1 ⟨rfl,hb⟩;have B1:=MD (asked w _ hb);clear hbA hb)
   |((with_reducible refine ap (t:=101) (p:=4) rfl ?_);refine I3 rfl 101 _ _ rfl (w.heap.size+1) (Pth.cells ⟨0,bE,0⟩).toArray rfl rfl 101 (Pth.cells ⟨0,bE,0⟩).toArray B1.1.2.1 (dC rfl) rfl (ii _) ?_))
  exact IG (v:=IR #[IA (Pth.cells ⟨0,bE,0⟩).toArray,Ib Ie 1]) (aD (rs:=[.cell 4 101,.tmp 5]) rfl (by simp) (.cell (w.heap.size+1) 101 (Pth.cells ⟨0,bE,0⟩).toArray (0,0) _ rfl (JX _ (w.heap.size+1) _ _ 101 _ B1.1.2.1) KL rfl (dC rfl) (.tmp .nil))) rfl ⟨HP.1 _ rfl,Jl B1.1.1 (by omega) _⟩
 .obtain rfl:b=Ir:=by cases b<;>simp_all
  by_cases h0:a<0
  .clear hbad hb0
   go_enter Tryz.func39,Tryz.ntmps39;go_wp2_with (first
    |(go_at_call 47;have hbA:=(ae (ae (Il w.heap.size w) (Is #[Ia A f.length c] 22)) (Is (Pth.cells ⟨0,bE,0⟩).toArray 101));refine(HR.1 _ (HG.1.below hbA) (Kd.C_below HC.1 hbA) Hc.1).mono ?_;rintro e w1 ⟨rfl,hb⟩;have B1:=MD (asked w _ hb);have e0:=(show w1.cell? ⟨w.heap.size,0,Ih⟩=Ic (.slice A f.length c) by rw[ah B1.1.2.2];rfl);clear hbA hb)
    |((with_reducible refine ap (t:=101) (p:=4) rfl ?_);refine I3 rfl 101 _ _ rfl (w.heap.size+1) (Pth.cells ⟨0,bE,0⟩).toArray rfl rfl 101 (Pth.cells ⟨0,bE,0⟩).toArray B1.1.2.1 (dC rfl) rfl (ii _) ?_))
   exact IG (v:=IR #[IA (Pth.cells ⟨0,bE,0⟩).toArray,Ib Ie 1]) (aD (rs:=[.cell 4 101,.tmp 5]) rfl (by simp) (.cell (w.heap.size+1) 101 (Pth.cells ⟨0,bE,0⟩).toArray (0,0) _ rfl (JX _ (w.heap.size+1) _ _ 101 _ B1.1.2.1) KL rfl (dC rfl) (.tmp .nil))) rfl ⟨HP.1 _ rfl,Jl B1.1.1 (by omega) _⟩
  .have h1:¬a<(f.length:Int):=λh=>hbad ⟨rfl,by omega,h⟩
   have h2:0<=a:=by omega
   clear hbad hb0;go_enter Tryz.func39,Tryz.ntmps39;go_wp2_with (first
    |(go_at_call 47;have hbA:=(ae (ae (Il w.heap.size w) (Is #[Ia A f.length c] 22)) (Is (Pth.cells ⟨0,bE,0⟩).toArray 101));refine(HR.1 _ (HG.1.below hbA) (Kd.C_below HC.1 hbA) Hc.1).mono ?_;rintro e w1 ⟨rfl,hb⟩;have B1:=MD (asked w _ hb);have e0:=(show w1.cell? ⟨w.heap.size,0,Ih⟩=Ic (.slice A f.length c) by rw[ah B1.1.2.2];rfl);clear hbA hb)
    |((with_reducible refine ap (t:=101) (p:=4) rfl ?_);refine I3 rfl 101 _ _ rfl (w.heap.size+1) (Pth.cells ⟨0,bE,0⟩).toArray rfl rfl 101 (Pth.cells ⟨0,bE,0⟩).toArray B1.1.2.1 (dC rfl) rfl (ii _) ?_))
   exact IG (v:=IR #[IA (Pth.cells ⟨0,bE,0⟩).toArray,Ib Ie 1]) (aD (rs:=[.cell 4 101,.tmp 5]) rfl (by simp) (.cell (w.heap.size+1) 101 (Pth.cells ⟨0,bE,0⟩).toArray (0,0) _ rfl (JX _ (w.heap.size+1) _ _ 101 _ B1.1.2.1) KL rfl (dC rfl) (.tmp .nil))) rfl ⟨HP.1 _ rfl,Jl B1.1.1 (by omega) _⟩
def s9(w:Im)(g:Nat):Nat:=match w.cell? ⟨g,25,Ih⟩with
 |some (.int _ n)=>n.toNat
 |_=>0
theorem mU{w:Im}{g:Nat}{s:PSt}(h:dd w g s):s9 w g=s.steps:=by
 unfold s9;rw[aq h.1,qh h.2];rfl
def LSt(w:Im)(f:List In)(n gp gm:Nat)(v:Io)(wr:Im)(s:PSt):Prop:=iC f n s/\ru w v wr/\dd wr gp s/\e_ wr gm s.met
theorem ru.step{w:Im}{v:Io}{a b:Im}(h:ru w v a){S:Nat->Prop}(hf:Fr S a b)(hs:∀k,k<=w.heap.size+1->¬S k):ru w v b:=
 ⟨Fr.below h.1 hf (λk hk=>hs k (by omega)) h.1.size,(hf.block _ (aj h.2.1) (hs _ (Iz _))).trans h.2.1,(hf.block _ (aj h.2.2) (hs _ (by omega))).trans h.2.2⟩
theorem Dq{w:Im}{g:Nat}{m:List Bool}(h:e_ w g m){i:Nat}(hi:i<200):w.cell? ⟨g,i,Ih⟩=Ic (.bool (m.getD i Ir)):=by
 rw[aq h.1,IK,Ij,Ig (by rw[h.2];exact hi)];rfl
theorem nx{f:List In}{s:PSt}(h:fol f s=Ih){gp gm:Nat}{w w':Im}{e:Ending}(k:iQ f s gp gm w e w'):e=Iv (Iy Ik)/\It w.heap.size w w':=by
 unfold iQ at k;rw[h]at k;exact k
theorem tM{f:List In}{s s':PSt}(h:fol f s=Ic s'){gp gm:Nat}{w w':Im}{e:Ending}(k:iQ f s gp gm w e w'):e=Iv (Iy Ir)/\Fr (λk=>k=gp\/k=gm) w w'/\dd w' gp s'/\e_ w' gm s'.met:=by
 unfold iQ at k;rw[h]at k;exact k
theorem LSt.below{w:Im}{f:List In}{n gp gm:Nat}{v:Io}{a b:Im}{s:PSt}(h:LSt w f n gp gm v a s)(hb:It a.heap.size a b):LSt w f n gp gm v b s:=
 ⟨h.1,⟨af h.2.1.1 hb,ag h.2.1.2.1 hb,ag h.2.1.2.2 hb⟩,h.2.2.1.below hb (aj h.2.2.1.1),h.2.2.2.below hb (aj h.2.2.2.1)⟩
theorem lr(f:List In)(n:Nat)(A:Option Addr)(c:Nat)(w:Im)(hG:Gl w)(hC:Kd.C kIn w A f.length f)(hc:f.length<=c)(hr:bi f=Ir)(hn:n<f.length) :
  I9 If 39 #[Ia A f.length c,Ib Ie (n:Int)] w λe w'=>e=Iv (IR #[IA (bT f n).cells.toArray,Ib Ie 0])/\It w.heap.size w w':=by
 have hmax:=Kd.C_max hC;have HR:=MD (eD A c f);rw[hr]at HR;have HF:=MD (bu hr);have HC:=MD hC;have HG:=MD hG;have Hc:=MD hc;have HN:=MD hn;have hn1:¬(n:Int)<0:=by omega
 have hn3:¬f.length<=n:=by omega
 have hn2:(n:Int)<(f.length:Int):=by omega
 clear hG hC hc hr hn;go_enter Tryz.func39,Tryz.ntmps39;go_upto_region 4 with(first
  |(go_at_call 47;have hbA:=(ae (ae (Il w.heap.size w) (Is #[Ia A f.length c] 22)) (Is (Pth.cells ⟨0,bE,0⟩).toArray 101));refine(HR.1 _ (HG.1.below hbA) (Kd.C_below HC.1 hbA) Hc.1).mono ?_;rintro e w1 ⟨rfl,hb⟩;have B1:=MD (asked w _ hb);have e0:=(show w1.cell? ⟨w.heap.size,0,Ih⟩=Ic (.slice A f.length c) by rw[ah B1.1.2.2];rfl);clear hbA hb))
 obtain⟨gm,hgm⟩:=ME w1.heap.size;have hM:e_ (w1.alloc (Is Tryz.zeroCells162 162)) w1.heap.size (IF 200 Ik):=⟨JZ _ _,rfl⟩;have hA:ru w (Ia A f.length c) (w1.alloc (Is Tryz.zeroCells162 162)):=⟨ae B1.1.1 _,aT B1.1.2.1 _,aT B1.1.2.2 _⟩;have hlt:w.heap.size+1<w1.heap.size:=aj B1.1.2.1;rw[<-hgm]at hM hlt ⊢;have hsz:gm<(w1.alloc (Is Tryz.zeroCells162 162)).heap.size:=aj hM.1;obtain⟨wa,hwa⟩:=ME (w1.alloc (Is Tryz.zeroCells162 162));rw[<-hwa]at hM hA hsz ⊢;have HM:=MD hM;have HA:=MD hA;have HLt:=MD hlt;have HSz:=MD hsz;clear hwa hgm hM hA hlt hsz B1 e0;have HNew:=MD AQ;have HT0:=MD (show first.length=24 from rfl);obtain⟨T,hT⟩:=ME first;rw[<-hT]at HNew HT0;have HT:=MD hT;clear hT;go_upto_region 6 with(first
  |(go_at_call 68;refine(HNew.1 _).mono ?_;rintro e w2 ⟨rfl,hb⟩;have B2:=MD hb;clear hb)
  |((with_reducible refine ai (N:=25) rfl ?_);refine aU rfl 101 _ rfl [(0,Ib Ie (n:Int)),(1,IA (aw T))] _ rfl (yh n T HT0.1) ?_)
  |((with_reducible refine ap (t:=101) (p:=7) rfl ?_);refine I3 rfl 101 _ _ rfl w2.heap.size (Pth.cells ⟨n,T,0⟩).toArray rfl rfl 101 (Pth.cells ⟨0,bE,0⟩).toArray (JZ _ _) (dC HT0.1) (by simp[jA,HT0.1,bE]) (ii _) ?_))
 have hpath:dd ((w2.alloc (Is (Pth.cells ⟨0,bE,0⟩).toArray 101)).setRow w2.heap.size (Pth.cells ⟨n,T,0⟩).toArray) w2.heap.size ⟨n,T,0,IF 200 Ik⟩:=⟨JX _ w2.heap.size _ _ 101 _ (JZ _ _),HT0.1⟩;have hlt2:gm<w2.heap.size:=by have:=B2.1.size;have:=HSz.1;omega
 have hmet:e_ ((w2.alloc (Is (Pth.cells ⟨0,bE,0⟩).toArray 101)).setRow w2.heap.size (Pth.cells ⟨n,T,0⟩).toArray) gm (IF 200 Ik):=((HM.1.below B2.1 HSz.1).below (ae (Il _ _) _) hlt2).row (Nat.ne_of_lt hlt2) _;have hask:ru w (Ia A f.length c) ((w2.alloc (Is (Pth.cells ⟨0,bE,0⟩).toArray 101)).setRow w2.heap.size (Pth.cells ⟨n,T,0⟩).toArray):=((HA.1.step (Fr.of_below B2.1) (S:=λk=>k=gm\/k=w2.heap.size) (λk hk h=>by have:=HLt.1;omega)).step (Fr.of_below (ae (Il _ _) _)) (S:=λk=>k=gm\/k=w2.heap.size) (λk hk h=>by have:=HLt.1;omega)).step (Fr.row (S:=λk=>k=gm\/k=w2.heap.size) (.inr rfl) _) (λk hk h=>by have:=HLt.1;omega);obtain⟨gp,hgp⟩:=ME w2.heap.size;rw[<-hgp]at hpath hmet hask hlt2 ⊢;obtain⟨wb,hwb⟩:=ME (((w2.alloc (Is (Pth.cells ⟨0,bE,0⟩).toArray 101)).setRow gp (Pth.cells ⟨n,T,0⟩).toArray));rw[<-hwb]at hpath hmet hask;have hst:LSt w f n gp gm (Ia A f.length c) wb (jg n):=⟨iC.init HN.1,hask,by rw[HT.1]at hpath;exact hpath,hmet⟩;have HS:=MD hst;have HL2:=MD hlt2;refine ar hwb.symm ?_;clear hwb hgp hpath hmet hask hst hlt2 B2 HM HA;go_loopw [] (λwr=>∃s,aa (LSt w f n gp gm (Ia A f.length c) wr s)) (λwr=>201-s9 wr gp)
 case atStart=>exact⟨_,HS⟩
 case round=>
  obtain⟨s,HS2⟩:=hrel;obtain⟨hI,hK,hP,hM⟩:=HS2.1;obtain⟨x,hx⟩:∃x,f[s.at_]?=Ic x:=⟨_,Ig hI.at_⟩;have HCall:=MD (uE f s w.heap.size gp gm A c wr HF.1.len hI.at_ (by have:=hI.bound;omega) x hx (λh=>(HF.1.ok _ x hx).jt (.inl h) |>.1) hK.2.2 (Kd.C_below HC.1 hK.1) hP hM);clear hI hK hP hM hx;cases hfol:fol f s with
  |some s'=>
   have HFol:=MD hfol;clear hfol;go_wp2_with (first|(go_at_call 69;refine HCall.1.mono ?_;intro e w3 hp;have hq:=tM HFol.1 hp;obtain⟨rfl,hfr,hp3,hm3⟩:=hq;have HFr:=MD hfr;have HP3:=MD hp3;have HM3:=MD hm3;clear hp hfr hp3 hm3));go_roundw
   case rel=>exact⟨s',⟨⟨HS2.1.1.step HF.1 HFol.1,HS2.1.2.1.step HFr.1 (λk hk h=>by have:=HLt.1;have:=HL2.1;omega),HP3.1,HM3.1⟩⟩⟩
   case measure=>
    have h1:=HS2.1.1.bound;obtain⟨x',_,_,_,he⟩:=po HFol.1;rw[mU HP3.1,mU HS2.1.2.2.1,he];simp only;omega
  |none=>
   have HFol:=MD hfol;clear hfol;have he:=HS2.1.1.done HFol.1;have hlt:=(show(s.at_:Int)<200 by have:=HS2.1.1.at_;have:=HF.1.len;omega);obtain⟨mb,hmb⟩:=MF (s.met.getD s.at_ Ir);have HB:=MD hmb;have hres:bT f n=if mb=Ir then⟨-1,T,0⟩else⟨s.at_,s.t,s.steps⟩:=by
    unfold bT;rw[<-he,<-hmb,HT.1]
   have HRes:=MD hres;clear he hmb hres;cases mb with
   |true=>
    rw[if_pos rfl]at HRes;go_wp2_with (first
     |(go_at_call 69;refine HCall.1.mono ?_;intro e w3 hp;have hq:=nx HFol.1 hp;obtain⟨rfl,hb⟩:=hq;have HS3:=MD (HS2.1.below hb);have p0:=(show w3.cell? ⟨gp,0,Ih⟩=Ic (Ib Ie (s.at_:Int)) by rw[aq HS3.1.2.2.1.1];rfl);have m0:=Dq HS3.1.2.2.2 (i:=s.at_) (by have:=HS3.1.1.at_;have:=HF.1.len;omega);rw[HB.1]at m0;clear hp hb)
     |(go_at_call 68;refine(HNew.1 _).mono ?_;rintro e w4 ⟨rfl,hb⟩;have HS4:=MD (HS3.1.below hb);clear hb)
     |((with_reducible refine ai (N:=34) rfl ?_);refine aU rfl 101 _ rfl [(0,Ib Ie (-1)),(1,IA (aw T))] _ rfl (yh (-1) T HT0.1) ?_)
     |((with_reducible refine ap (t:=101) (p:=4) rfl ?_);refine I3 rfl 101 _ _ rfl (w.heap.size+1) (Pth.cells ⟨-1,T,0⟩).toArray rfl rfl 101 (Pth.cells ⟨0,bE,0⟩).toArray HS4.1.2.1.2.1 (dC HT0.1) (by simp[jA,HT0.1,bE]) (ii _) ?_))
    rw[HRes.1];exact IG (v:=IR #[IA (Pth.cells ⟨-1,T,0⟩).toArray,Ib Ie 0]) (aD (rs:=[.cell 4 101,.tmp 5]) rfl (by simp) (.cell (w.heap.size+1) 101 (Pth.cells ⟨-1,T,0⟩).toArray (0,0) _ rfl (JX _ (w.heap.size+1) _ _ 101 _ HS4.1.2.1.2.1) KL rfl (dC HT0.1) (.tmp .nil))) rfl ⟨rfl,Jl HS4.1.2.1.1 (by omega) _⟩
   |false=>
    rw[if_neg (by decide)]at HRes;have HL24:=MD HS2.1.2.2.1.2;go_wp2_with (first
     |(go_at_call 69;refine HCall.1.mono ?_;intro e w3 hp;have hq:=nx HFol.1 hp;obtain⟨rfl,hb⟩:=hq;have HS3:=MD (HS2.1.below hb);have p0:=(show w3.cell? ⟨gp,0,Ih⟩=Ic (Ib Ie (s.at_:Int)) by rw[aq HS3.1.2.2.1.1];rfl);have m0:=Dq HS3.1.2.2.2 (i:=s.at_) (by have:=HS3.1.1.at_;have:=HF.1.len;omega);rw[HB.1]at m0;clear hp hb)
     |((with_reducible refine ai (N:=35) rfl ?_);refine II rfl 101 _ rfl gp rfl 101 (Pth.cells ⟨s.at_,s.t,s.steps⟩).toArray (0,0) _ HS3.1.2.2.1.1 KL rfl (dC HL24.1) ?_)
     |((with_reducible refine ap (t:=101) (p:=4) rfl ?_);refine I3 rfl 101 _ _ rfl (w.heap.size+1) (Pth.cells ⟨s.at_,s.t,s.steps⟩).toArray rfl rfl 101 (Pth.cells ⟨0,bE,0⟩).toArray HS3.1.2.1.2.1 (dC HL24.1) (by simp[jA,HL24.1,bE]) (ii _) ?_))
    rw[HRes.1];exact IG (v:=IR #[IA (Pth.cells ⟨s.at_,s.t,s.steps⟩).toArray,Ib Ie 0]) (aD (rs:=[.cell 4 101,.tmp 5]) rfl (by simp) (.cell (w.heap.size+1) 101 (Pth.cells ⟨s.at_,s.t,s.steps⟩).toArray (0,0) _ rfl (JX _ (w.heap.size+1) _ _ 101 _ HS3.1.2.1.2.1) KL rfl (dC HL24.1) (.tmp .nil))) rfl ⟨rfl,Jl HS3.1.2.1.1 (by omega) _⟩
theorem BK(f:List In)(a:Int)(A:Option Addr)(c:Nat)(w:Im)(hG:Gl w)(hC:Kd.C kIn w A f.length f)(hc:f.length<=c) :
  I9 If 39 #[Ia A f.length c,Ib Ie a] w λe w'=>ke f a e/\It w.heap.size w w':=by
 by_cases h:bi f=Ir/\0<=a/\a<f.length
 .obtain⟨n,rfl⟩:∃n:Nat,a=n:=⟨a.toNat,by omega⟩
  refine(lr f n A c w hG hC hc h.1 (by omega)).mono ?_;rintro e w' ⟨rfl,hb⟩;refine⟨?_,hb⟩;unfold ke;rw[if_pos h];rfl
 .exact rB f a A c w hG hC hc h
section
open Go.ChangeMaps (setBlock)
section
variable{P:Jn}{α:Type}[DecidableEq α]
def cd(x:α):List (α×Io)->Nat->Option (Nat×Io)
 | [],_=>Ih
 |p::L,i=>if x=p.1 then Ic (i,p.2)else cd x L (i+1)
theorem mF{x:α}:∀{L:List (α×Io)} {i:Nat},(∀p∈L,p.1≠x)->cd x L i=Ih
 | [],_,_=>rfl
 |p::L,i,h=>by
  unfold cd;rw[if_neg (λe=>h p (JH ..) e.symm)];exact mF (λq hq=>h q (Jm _ hq))
theorem mE{x:α}:∀{L:List (α×Io)} {i j:Nat} {v:Io},L[j]?=Ic (x,v)->(∀k,k<j->∀p,L[k]?=Ic p->p.1≠x)->cd x L i=Ic (i+j,v)
 | [],_,_,_,h,_=>by simp at h
 |p::L,i,0,v,h,_=>by
  have:p=(x,v):=by simpa using h
  subst this;unfold cd;rw[if_pos rfl];rfl
 |p::L,i,j+1,v,h,hk=>by
  unfold cd;rw[if_neg (λe=>hk 0 (by omega) p rfl e.symm),mE (by simpa using h) (λk hlt q hq=>hk (k+1) (by omega) q (by simpa using hq)),show i+1+j=i+(j+1) by omega]
structure ju(P:Jn)(kt:Je)(enc:α->Io):Prop where
 check:∀(e:Bool) (W:Im) (x:α),(JK e 10000 kt (enc x)).run P W=.ok () W
 find:∀(W:Im) (x:α) (es:List MapEntry) (L:List (α×Io)),es.map (λe=>(e.key,e.val))=L.map (λp=>(enc p.1,p.2))->(Instr.findKey kt (enc x) es).run P W=.ok (cd x L 0) W
 same:∀x,Instr.sameBits 10000 (enc x) (enc x)=Ir
theorem ny{d:TypeDesc}{enc:α->Io}(hn:∀x y,Instr.sameNow d (enc x) (enc y)=Ic (decide (x=y)))(x:α):∀(es:List MapEntry) (L:List (α×Io)) (i:Nat),es.map (λe=>(e.key,e.val))=L.map (λp=>(enc p.1,p.2))->Kz d (enc x) es i=Ic (cd x L i)
 | [],[],_,_=>rfl
 | [],_::_,_,h=>by simp at h
 |_::_,[],_,h=>by simp at h
 |e::es,p::L,i,h=>by
  simp only[Jt,Ke,IM]at h;obtain⟨⟨h1,h2⟩,h3⟩:=h;unfold Kz cd;rw[h1,hn,h2];by_cases hx:x=p.1
  .rw[decide_eq_true hx,if_pos hx]
  .rw[decide_eq_false hx,if_neg hx]
   exact ny hn x es L (i+1) h3
theorem nA{kt:Je}{enc:α->Io}(W:Im)(he:∀x y,(Op.equal kt (enc x) (enc y)).run P W=.ok (decide (x=y)) W)(x:α):∀(es:List MapEntry) (L:List (α×Io)) (i:Nat),es.map (λe=>(e.key,e.val))=L.map (λp=>(enc p.1,p.2))->(Instr.findAsking kt (enc x) es i).run P W=.ok (cd x L i) W
 | [],[],_,_=>rfl
 | [],_::_,_,h=>by simp at h
 |_::_,[],_,h=>by simp at h
 |e::es,p::L,i,h=>by
  simp only[Jt,Ke,IM]at h;obtain⟨⟨h1,h2⟩,h3⟩:=h;unfold Instr.findAsking cd;rw[h1,h2];by_cases hx:x=p.1
  .simp[IJ,he,Jf,hx]
  .simp only[IJ,he,Jf,decide_eq_false hx,if_neg hx]
   exact nA W he x es L (i+1) h3
theorem ju.of_now{kt:Je}{d:TypeDesc}{enc:α->Io}(hd:P.underlying kt=Ic d)(hk:∀x,MapKept.IsKey d (enc x))(hn:∀x y,Instr.sameNow d (enc x) (enc y)=Ic (decide (x=y))):ju P kt enc:=
 ⟨λe W x=>Mf hd (hk x) e 9999,λW x es L h=>Mh hd (ny hn x es L 0 h),λx=>MapKept.sameBits_self (hk x) _⟩
theorem ju.of_ask{kt:Je}{d:TypeDesc}{enc:α->Io}(hd:P.underlying kt=Ic d)(hc:∀(e:Bool) (W:Im) (x:α),(JK e 10000 kt (enc x)).run P W=.ok () W)(hn:∀x y,Instr.sameNow d (enc x) (enc y)=Ih)(he:∀W x y,(Op.equal kt (enc x) (enc y)).run P W=.ok (decide (x=y)) W)(hs:∀x,Instr.sameBits 10000 (enc x) (enc x)=Ir):ju P kt enc:=by
 refine⟨hc,λW x es L h=>?_,hs⟩;unfold Instr.findKey;simp only[IJ,I2 hd,Jf]
 match es,L,h with
 | [],[],_=>rfl
 | [],_::_,h=>simp at h
 |_::_,[],h=>simp at h
 |e::es,p::L,h=>
  have h1:e.key=enc p.1:=by simp only[Jt,Ke,IM]at h;exact h.1.1
  have h2:Kz d (enc x) (e::es) 0=Ih:=by
   unfold Kz;rw[h1,hn]
  rw[h2];exact nA W (he W) x _ _ 0 h
def bX(enc:α->Io)(W:Im)(b:Nat)(L:List (α×Io)):Prop:=∃es c,W.heap[b]?=Ic (.map es c)/\es.toList.map (λe=>(e.key,e.val))=L.map (λp=>(enc p.1,p.2))
theorem bX.lt{enc:α->Io}{W:Im}{b:Nat}{L:List (α×Io)}(h:bX enc W b L):b<W.heap.size:=by
 obtain⟨es,c,h1,_⟩:=h;exact(IB.1 h1).1
theorem bX.moved{enc:α->Io}{W W':Im}{b:Nat}{L:List (α×Io)}(h:bX enc W b L)(he:W'.heap[b]?=W.heap[b]?):bX enc W' b L:=by
 obtain⟨es,c,h1,h2⟩:=h;exact⟨es,c,he.trans h1,h2⟩
theorem bX.fr{enc:α->Io}{W W':Im}{b:Nat}{L:List (α×Io)}(h:bX enc W b L){S:Nat->Prop}(hf:Fr S W W')(hs:¬S b):bX enc W' b L:=h.moved (hf.block b h.lt hs)
theorem bX.new(enc:α->Io)(W:Im)(c:Nat):bX enc (W.alloc (.map #[] c)) W.heap.size []:=⟨#[],c,(MapKept.heap_alloc W _).1,rfl⟩
def k7(z:Io):Option (Nat×Io)->Io
 |some (_,v)=>IR #[v,Iy Ir]
 |none=>IR #[z,Iy Ik]
def qI(z:Io):Option (Nat×Io)->Io
 |some (_,v)=>v
 |none=>z
theorem un{t kt et:Je}{enc:α->Io}(K:ju P kt enc)(hu:P.underlying t=Ic (.map kt et)){W:Im}{b:Nat}{L:List (α×Io)}(h:bX enc W b L)(z:Io)(hz:(Mr et).run P W=.ok z W)(x:α) :
  (Kr t (.map (Ic b)) (enc x) Ir).run P W=.ok (k7 z (cd x L 0)) W:=by
 obtain⟨es,c,h1,h2⟩:=h;have h3:=K.check es.isEmpty W x;have h4:=K.find W x es.toList L h2;cases hf:cd x L 0 with
 |none=>rw[hf]at h4;simp[qI,k7,Kr,I2 hu,J6 h1,h3,h4,hz,Jf]
 |some q=>obtain⟨i,v⟩:=q;rw[hf]at h4;simp[qI,k7,Kr,I2 hu,J6 h1,h3,h4,Jf]
theorem uo{t kt et:Je}{enc:α->Io}(K:ju P kt enc)(hu:P.underlying t=Ic (.map kt et)){W:Im}{b:Nat}{L:List (α×Io)}(h:bX enc W b L)(z:Io)(hz:(Mr et).run P W=.ok z W)(x:α) :
  (Kr t (.map (Ic b)) (enc x) Ik).run P W=.ok (qI z (cd x L 0)) W:=by
 obtain⟨es,c,h1,h2⟩:=h;have h3:=K.check es.isEmpty W x;have h4:=K.find W x es.toList L h2;cases hf:cd x L 0 with
 |none=>rw[hf]at h4;simp[qI,k7,Kr,I2 hu,J6 h1,h3,h4,hz,Jf]
 |some q=>obtain⟨i,v⟩:=q;rw[hf]at h4;simp[qI,k7,Kr,I2 hu,J6 h1,h3,h4,Jf]
theorem um{t kt et:Je}{enc:α->Io}(K:ju P kt enc)(hu:P.underlying t=Ic (.map kt et)){W:Im}{b:Nat}{L:List (α×Io)}(h:bX enc W b L)(x:α)(v:Io)(hf:cd x L 0=Ih) :
  ∃W',(LK t (.map (Ic b)) (enc x) v).run P W=.ok () W'/\bX enc W' b (L++[(x,v)])/\Fr (λk=>k=b) W W':=by
 obtain⟨es,c,h1,h2⟩:=h;have h3:=K.check Ik W x;have h4:=K.find W x es.toList L h2;rw[hf]at h4;refine⟨setBlock W b (.map (es.push { key:=enc x,val:=v,born:=c }) (c+1)),?_,⟨_,_,(MapKept.heap_set h1).1,?_⟩,⟨rfl,rfl,rfl,?_,λk hk hn=>(MapKept.heap_set h1).2 k hn⟩⟩
 .simp[LK,I2 hu,J6 h1,h3,h4,MapKept.run_setObj_map _ h1,Jf,setBlock]
 .rw[Array.toList_push,LY,h2,LY]
  rfl
 .show W.heap.size<=(W.heap.setIfInBounds b _).size
  simp
end
end
section
theorem dJ{P:Jn}{ops:Array Oper}{rest:List Oper}{o:Oper}{a:Act}{W W':Im}{Q:Exit->Act->Im->Prop}(hgd:o.guard=Ih)(v:Io)(hrun:(JJ a.eval o).run P W=.ok (.value v) W')(h:Kg P ops Q rest (a.put o.dst v) W'):Kg P ops Q (o::rest) a W:=
 Kd.event_run hgd hrun h
theorem oD{P:Jn}{ops:Array Oper}{rest:List Oper}{o:Oper}{a:Act}{W W':Im}{Q:Exit->Act->Im->Prop}(hgd:o.guard=Ih)(hrun:(JJ a.eval o).run P W=.ok .skip W')(h:Kg P ops Q rest (a.put o.dst KG) W'):Kg P ops Q (o::rest) a W:=by
 refine wpList_plain hgd λK hK=>?_;unfold Oper.wp;rw[hrun];exact hK _ _ h
section
variable{P:Jn}{ops:Array Oper}{o:Oper}{rest:List Oper}{a:Act}{W:Im}{Q:Exit->Act->Im->Prop}
theorem an(hgd:o.guard=Ih)(ty:Je)(x y:Lf)(ho:o.op=.store ty x y)
  (g:Nat) (cells:Array Io) (hx:a.eval x=Iq (Ic ⟨g,0,Ih⟩)) (hy:a.eval y=IA cells)
  (t:Je) (old:Array Io) (hg:W.heap[g]?=Ic (.cells old t (0,0))) (hi:(P.info? ty).map (·.size)=Ic cells.size)
  (hold:old.size=cells.size) (h1:cells.all (·.oneCell')=Ir)
  (h:∀W',W'.heap[g]?=Ic (.cells cells t (0,0))->Fr (λk=>k=g) W W'->Kg P ops Q rest (a.put o.dst KG) W'):Kg P ops Q (o::rest) a W:=
 I3 hgd ty x y ho g cells hx hy t old hg hi hold h1 (h _ (JX W g old cells t _ hg) (Fr.row (S:=λk=>k=g) rfl _))
theorem j8{t:Je}{x y z:Lf}(_ho:o.op=.mapUpdate t x y z)(h:Kg P ops Q (o::rest) a W):Kg P ops Q (o::rest) a W:=h
theorem dt{α:Type}[DecidableEq α]{t kt et:Je}{enc:α->Io}(K:ju P kt enc)(hgd:o.guard=Ih)(x y:Lf)(ho:o.op=.lookup t x y Ir)(hu:P.underlying t=Ic (.map kt et)){b:Nat}{L:List (α×Io)}(hm:bX enc W b L)(z:Io)(hz:(Mr et).run P W=.ok z W)(k:α)
  (hx:a.eval x=.map (Ic b)) (hy:a.eval y=enc k) (v:Io) (hv:k7 z (cd k L 0)=v) (h:Kg P ops Q rest (a.put o.dst v) W):Kg P ops Q (o::rest) a W:=by
 subst hv;refine dJ hgd _ ?_ h;unfold JJ;simp only[ho,hx,hy,IJ,un K hu hm z hz k,I1,JO]
theorem mN{α:Type}[DecidableEq α]{t kt et:Je}{enc:α->Io}(K:ju P kt enc)(hgd:o.guard=Ih)(x y:Lf)(ho:o.op=.lookup t x y Ik)(hu:P.underlying t=Ic (.map kt et)){b:Nat}{L:List (α×Io)}(hm:bX enc W b L)(z:Io)(hz:(Mr et).run P W=.ok z W)(k:α)
  (hx:a.eval x=.map (Ic b)) (hy:a.eval y=enc k) (v:Io) (hv:qI z (cd k L 0)=v) (h:Kg P ops Q rest (a.put o.dst v) W):Kg P ops Q (o::rest) a W:=by
 subst hv;refine dJ hgd _ ?_ h;unfold JJ;simp only[ho,hx,hy,IJ,uo K hu hm z hz k,I1,JO]
theorem dZ{α:Type}[DecidableEq α]{t kt et:Je}{enc:α->Io}(K:ju P kt enc)(hgd:o.guard=Ih)(x y u:Lf)(ho:o.op=.mapUpdate t x y u)(hu:P.underlying t=Ic (.map kt et)){b:Nat}{L:List (α×Io)}(hm:bX enc W b L)(k:α)(v:Io)
  (hx:a.eval x=.map (Ic b)) (hy:a.eval y=enc k) (hv:a.eval u=v) (hf:cd k L 0=Ih) (h:∀W',bX enc W' b (L++[(k,v)])->Fr (λk=>k=b) W W'->Kg P ops Q rest (a.put o.dst KG) W'):Kg P ops Q (o::rest) a W:=by
 obtain⟨W',h1,h2,h3⟩:=um K hu hm k v hf;refine oD hgd ?_ (h W' h2 h3);unfold JJ;simp only[ho,hx,hy,hv,IJ,h1,I1,JO]
end
theorem om:ju If 3 (Ib .i64):=ju.of_now (d:=.int .i64) (by kernel_rfl) (λ_=>rfl) (λx y=>by show Ic (x==y)=Ic (decide (x=y));congr 1)
structure aX where
 jt:Int
 t:List Sr
structure aG where
 at_:Int
 outs:List aX
def rR(T:List Sr):List Io:=(Jy 24).map λi=>(T.getD i .no).v
theorem ub{T:List Sr}(h:T.length=24):rR T=T.map Sr.v:=by
 apply JN;intro i;simp only[rR,IK,KW];by_cases hi:i<24
 .simp[hi,Ij,Ig (show i<T.length by omega)]
 .simp[I0 (show T.length<=i by omega),I0 (show(Jy 24).length<=i by simp;omega)]
def aX.cells(o:aX):List Io:=Ib Ie o.jt::rR o.t
theorem aX.len(o:aX):o.cells.length=25:=by simp[aX.cells,rR]
theorem aX.one(o:aX):∀u∈o.cells,u.oneCell'=Ir:=by
 intro u hu;simp only[aX.cells,rR,I7,JM]at hu;rcases hu with rfl|⟨s,_,rfl⟩
 .rfl
 .exact Sr.one _
def rI:Kd aX:=Kd.flat 25 aX.cells aX.len aX.one
def dK:Kd aG:=Kd.iso (Kd.pair (Kd.int .i64) (Kd.slice 116 rI)) (λn=>(n.at_,n.outs))
theorem rc(n:Int)(T:List Sr)(h:T.length=24):If.built 116 [(0,Ib Ie n),(1,IA (aw T))]=Ic (aX.cells ⟨n,T⟩).toArray:=by
 have h1:If.built 116 [(0,Ib Ie n),(1,IA (aw T))]=Ll (#[(0,1),(1,24)][·]?) (Ib Ie n::bE.map Sr.v).toArray [(1,IA (T.map Sr.v).toArray)]:=by rfl
 rw[h1,jq _ _ 1 1 24 (T.map Sr.v) [] rfl (by simp[h]) (by simp[bE])];simp[Ll,aX.cells,h,bE,ub h]
theorem ij:(If.info? 116).map (·.size)=Ic 25:=by kernel_rfl
theorem dN(o:aX):(If.info? 116).map (·.size)=Ic o.cells.toArray.size:=by rw[I8,o.len];exact ij
theorem iO(o:aX):o.cells.toArray.all (·.oneCell')=Ir:=by
 rw[Jh];intro v hv;exact o.one v (by simpa using hv)
def jh(at_:Int)(nodes:List aG):Option Nat:=nodes.findIdx? (λn=>decide (n.at_=at_))
def ob(nodes:List aG):List (Int×Io):=nodes.zipIdx.map λp=>(p.1.at_,Ib Ie (p.2:Int))
theorem Dm(nodes:List aG)(x:aG):ob (nodes++[x])=ob nodes++[(x.at_,Ib Ie (nodes.length:Int))]:=by
 simp[ob,List.zipIdx_append]
theorem pm{nodes:List aG}{i:Nat}:(ob nodes)[i]?=(nodes[i]?).map λx=>(x.at_,Ib .i64 (i:Int)):=by
 simp only[ob,IK,List.getElem?_zipIdx,Option.map_map,KB];rfl
theorem sv(at_:Int)(nodes:List aG):cd at_ (ob nodes) 0=(jh at_ nodes).map λi:Nat=>(i,Ib .i64 (i:Int)):=by
 cases h:jh at_ nodes with
 |none=>
  refine mF λp hp=>?_;unfold jh at h;rw[List.findIdx?_eq_none_iff]at h;obtain⟨q,hq,rfl⟩:=JM.1 hp;have:=h q.1 (List.fst_mem_of_mem_zipIdx hq);simpa using this
 |some i=>
  unfold jh at h;rw[List.findIdx?_eq_some_iff_getElem]at h;obtain⟨hi,h1,h2⟩:=h;have h3:(ob nodes)[i]?=Ic (at_,Ib Ie (i:Int)):=by
   rw[pm,Ig hi];simp at h1;simp[h1]
  rw[mE h3 (λk hk p hp=>?_)]
  .simp
  .rw[pm,Ig (by omega)]at hp
   have:=h2 k hk;simp at hp this;rw[<-hp];exact this
def du(f:List In)(nodes:List aG)(a:Nat):aX×List aG:=
 let p:=bT f a
 if p.jt<0 then(⟨-1,p.t⟩,nodes)else match jh p.jt nodes with
  |some n=>(⟨n,p.t⟩,nodes)
  |none=>(⟨nodes.length,p.t⟩,nodes++[⟨p.jt,[]⟩])
end
section
theorem iC.all{f:List In}(hr:dQ f){a:Nat}:∀(n:Nat) (s:PSt),iC f a s->iC f a (eo n f s)
 |0,_,h=>h
 |n+1,s,h=>by
  unfold eo;cases hf:fol f s with
  |none=>exact h
  |some s'=>exact iC.all hr n s' (h.step hr hf)
theorem lu{f:List In}(hr:dQ f){a:Nat}(ha:a<f.length):(bT f a).t.length=24/\((bT f a).jt=-1\/(0<=(bT f a).jt/\(bT f a).jt<f.length)):=by
 have h:iC f a (iN f a):=iC.all hr 201 _ (iC.init ha);unfold bT;simp only;split
 .exact⟨rfl,.inl rfl⟩
 .have:=h.at_
  exact⟨h.t,.inr ⟨by simp only;omega,by simp only;omega⟩⟩
structure nM(gs gn gb base:Nat)(ok:Nat->Prop)(ec:List Io)(W:Im)(vN:Io)(nodes:List aG):Prop where
 es:ec.length=25
 cs:W.heap[gs]?=Ic (.cells (ec++[vN]).toArray 119 (0,0))
 cn:W.heap[gn]?=Ic (.cells #[.map (Ic gb)] 132 (0,0))
 cm:bX (Ib .i64) W gb (ob nodes)
 row:Kd.R dK 142 W base ok vN nodes
def SkS(gs gb:Nat)(vN:Io)(k:Nat):Prop:=k=gs\/k=gb\/Ic k=vN.ownBlock
section
variable{gs gn gb base:Nat}{ok:Nat->Prop}{ec:List Io}{W W':Im}{vN:Io}{nodes:List aG}
theorem nM.below(h:nM gs gn gb base ok ec W vN nodes)(hb:It W.heap.size W W'):nM gs gn gb base ok ec W' vN nodes:=
 ⟨h.es,ag h.cs hb,ag h.cn hb,h.cm.moved (hb.block _ h.cm.lt),Kd.R_below h.row hb⟩
theorem nM.cell(h:nM gs gn gb base ok ec W vN nodes):W.cell? ⟨gs,25,Ih⟩=Ic vN:=by
 rw[aq h.cs,IW (by rw[h.es];exact Iz _),h.es];rfl
theorem nM.num(h:nM gs gn gb base ok ec W vN nodes):W.cell? ⟨gn,0,Ih⟩=Ic (.map (Ic gb)):=by
 rw[ah h.cn];rfl
theorem nM.ne(h:nM gs gn gb base ok ec W vN nodes):gs≠gb/\gn≠gb/\gs≠gn:=by
 obtain⟨es,c,h1,_⟩:=h.cm;refine⟨λe=>?_,λe=>?_,λe=>?_⟩
 .have:=h.cs;rw[e,h1]at this;exact absurd this (by simp)
 .have:=h.cn;rw[e,h1]at this;exact absurd this (by simp)
 .have:=h.cs;rw[e,h.cn]at this;injection this with this;injection this with _ this;exact absurd this (by decide)
end
theorem lq{W:Im}{g:Nat}{p:Pth}(h:W.heap[g]?=Ic (.cells p.cells.toArray 101 (0,0)))(hl:p.t.length=24):(Le 99 ⟨g,1,Ih⟩).run If W=.ok (IA (aw p.t)) W:=
 cr h 99 1 (p.t.map Sr.v) (by rw[Jb,hl];show((p.t.map Sr.v++[Ib Ie p.steps]):List Io).take 24=_;rw[Kx (by simp[hl]),List.take_of_length_le (by simp[hl])]) _ IU rfl (y9 hl)
theorem E7:(If.info? 142).map (λi=>(i.zero,i.size,i.bytes))=Ic (Ic (.agg #[Ib Ie 0,Ia Ih 0 0]),2,32):=by kernel_rfl
theorem CU(f:List In)(a:Nat)(gf gs gn gb base:Nat)(ok:Nat->Prop)(ec:List Io)(vN:Io)(nodes:List aG)(A:Option Addr)(c:Nat)(w:Im)(hG:Gl w)(hf:w.heap[gf]?=Ic (.cells #[Ia A f.length c] 22 (0,0)))(hC:Kd.C kIn w A f.length f)(hc:f.length<=c)
  (hr:bi f=Ir) (ha:a<f.length) (hS:nM gs gn gb base ok ec w vN nodes) (hN:nodes.length<=200) (hok:∀k,ok k->k≠gs/\k≠gn/\k≠gb) (hfresh:∀k,w.heap.size<=k->ok k) (hbase:base<=w.heap.size) :
  I9 If 78 #[Ib Ie (a:Int),Iq (Ic ⟨gf,0,Ih⟩),Iq (Ic ⟨gn,0,Ih⟩),Iq (Ic ⟨gs,0,Ih⟩)] w λe w'=>e=Iv (IA (du f nodes a).1.cells.toArray)/\∃vN',nM gs gn gb base ok ec w' vN' (du f nodes a).2/\Fr (SkS gs gb vN) w w':=by
 obtain⟨p,hp⟩:=ME (bT f a);obtain⟨hp24,hpj⟩:=lu (bu hr) ha;have HF:=MD (λw hG hC=>lr f a A c w hG hC hc hr ha);rw[<-hp]at hp24 hpj HF;obtain⟨r1,r2,hw⟩:∃r1 r2,du f nodes a=(r1,r2):=⟨_,_,rfl⟩;rw[hw];unfold du at hw;simp only[<-hp]at hw;have c0:=(show w.cell? ⟨gf,0,Ih⟩=Ic (.slice A f.length c) by rw[ah hf];rfl);have l0:=aj hf;have HP24:=MD hp24;have HC:=MD hC;have HG:=MD hG;have HS:=MD hS;have HOk:=MD hok;have HFr:=MD hfresh;have HW:=MD hw;have HPj:=MD hpj;clear hC hG hS hok hfresh hp24 hf hp hr ha hc hw hpj;by_cases hneg:p.jt<0
 .have hj:p.jt=-1:=by rcases HPj.1 with h|h<;>omega
  have hw:=HW.1;rw[if_pos hneg]at hw;obtain⟨rfl,rfl⟩:=IM ..▸hw;clear hw hneg;have hneg:(p.jt<0):=by omega
  go_enter Tryz.func78,Tryz.ntmps78;go_wp2_with (first
   |(go_at_call 39;have hbA:=(ae (Il w.heap.size w) (Is (aX.cells ⟨0,bE⟩).toArray 116));refine(HF.1 _ (HG.1.below hbA) (Kd.C_below HC.1 hbA)).mono ?_;rintro e w1 ⟨rfl,hb⟩;have B1:=MD (af hbA hb);have T0:=MD ((hb.block _ (show w.heap.size<_ by simp)).trans (Iu w _));clear hbA hb)
   |((with_reducible refine ap (t:=101) (p:=6) rfl ?_);refine an rfl 101 _ _ rfl w1.heap.size p.cells.toArray rfl rfl 101 (Pth.cells ⟨0,bE,0⟩).toArray (Iu w1 _) (dC HP24.1) (by simp[jA,HP24.1,bE]) (ii _) ?_;intro w2 h2 hf2;have Z:=aj T0.1;have Z2:=B1.1.size;have hb2:=(Fr.below (B:=w.heap.size) (ae B1.1 _) hf2 (λk hk h=>by omega) (by simp;omega));have P1:=MD h2;have p0:=(show w2.cell? ⟨w1.heap.size,0,Ih⟩=Ic (Ib Ie p.jt) by rw[aq h2];rfl);have B2:=MD hb2;have T1:=MD ((hf2.block w.heap.size (by simp;omega) (by omega)).trans (aT T0.1 _));have S2:=MD (HS.1.below B2.1);have n0:=S2.1.num;have s25:=S2.1.cell;clear Z Z2 hb2 h2 hf2)
   |((with_reducible refine ai (N:=20) rfl ?_);refine av rfl 99 _ rfl ⟨w1.heap.size,1,Ih⟩ rfl _ (lq P1.1 HP24.1) ?_)
   |((with_reducible refine ai (N:=21) rfl ?_);refine aU rfl 116 _ rfl [(0,Ib Ie (-1)),(1,IA (aw p.t))] _ rfl (rc (-1) p.t HP24.1) ?_)
   |((with_reducible refine ap (t:=116) (p:=5) rfl ?_);refine I3 rfl 116 _ _ rfl w.heap.size (aX.cells ⟨-1,p.t⟩).toArray rfl rfl 116 (aX.cells ⟨0,bE⟩).toArray T1.1 (dN _) (by simp[aX.len]) (iO _) ?_))
  have B3:=Jl B2.1 (Iz _) (aX.cells ⟨-1,p.t⟩).toArray;exact IG (v:=IA (aX.cells ⟨-1,p.t⟩).toArray) (IX rfl _ _ w.heap.size 116 (aX.cells ⟨-1,p.t⟩).toArray (0,0) _ rfl (JX _ w.heap.size _ _ 116 _ T1.1) JD rfl (dN _)) rfl ⟨rfl,vN,HS.1.below B3,Fr.of_below B3⟩
 .have hw:=HW.1
  rw[if_neg hneg]at hw;have hzero:∀W:Im,(Mr 3).run If W=.ok (Ib Ie 0) W:=λW=>by kernel_rfl
  have HZ:=MD hzero;clear hzero;cases hix:jh p.jt nodes with
  |some n=>
   rw[hix]at hw;obtain⟨rfl,rfl⟩:=IM ..▸hw;have HX:aa (k7 (Ib Ie 0) (cd p.jt (ob nodes) 0)=IR #[Ib Ie (n:Int),Iy Ir]):=⟨by rw[sv,hix];rfl⟩;clear hw hix;go_enter Tryz.func78,Tryz.ntmps78;go_wp2_with (first
    |(go_at_call 39;have hbA:=(ae (Il w.heap.size w) (Is (aX.cells ⟨0,bE⟩).toArray 116));refine(HF.1 _ (HG.1.below hbA) (Kd.C_below HC.1 hbA)).mono ?_;rintro e w1 ⟨rfl,hb⟩;have B1:=MD (af hbA hb);have T0:=MD ((hb.block _ (show w.heap.size<_ by simp)).trans (Iu w _));clear hbA hb)
    |((with_reducible refine ap (t:=101) (p:=6) rfl ?_);refine an rfl 101 _ _ rfl w1.heap.size p.cells.toArray rfl rfl 101 (Pth.cells ⟨0,bE,0⟩).toArray (Iu w1 _) (dC HP24.1) (by simp[jA,HP24.1,bE]) (ii _) ?_;intro w2 h2 hf2;have Z:=aj T0.1;have Z2:=B1.1.size;have hb2:=(Fr.below (B:=w.heap.size) (ae B1.1 _) hf2 (λk hk h=>by omega) (by simp;omega));have P1:=MD h2;have p0:=(show w2.cell? ⟨w1.heap.size,0,Ih⟩=Ic (Ib Ie p.jt) by rw[aq h2];rfl);have B2:=MD hb2;have T1:=MD ((hf2.block w.heap.size (by simp;omega) (by omega)).trans (aT T0.1 _));have S2:=MD (HS.1.below B2.1);have n0:=S2.1.num;have s25:=S2.1.cell;clear Z Z2 hb2 h2 hf2)
    |((with_reducible refine ai (N:=20) rfl ?_);refine av rfl 99 _ rfl ⟨w1.heap.size,1,Ih⟩ rfl _ (lq P1.1 HP24.1) ?_)
    |((with_reducible refine ai (N:=26) rfl ?_);refine dt om rfl _ _ rfl Lq S2.1.cm (Ib Ie 0) (HZ.1 _) p.jt rfl rfl _ HX.1 ?_)
    |((with_reducible refine ai (N:=48) rfl ?_);refine av rfl 99 _ rfl ⟨w1.heap.size,1,Ih⟩ rfl _ (lq P1.1 HP24.1) ?_)
    |((with_reducible refine ai (N:=49) rfl ?_);refine aU rfl 116 _ rfl [(0,Ib Ie (n:Int)),(1,IA (aw p.t))] _ rfl (rc n p.t HP24.1) ?_)
    |((with_reducible refine ap (t:=116) (p:=5) rfl ?_);refine I3 rfl 116 _ _ rfl w.heap.size (aX.cells ⟨n,p.t⟩).toArray rfl rfl 116 (aX.cells ⟨0,bE⟩).toArray T1.1 (dN _) (by simp[aX.len]) (iO _) ?_))
   have B3:=Jl B2.1 (Iz _) (aX.cells ⟨n,p.t⟩).toArray;exact IG (v:=IA (aX.cells ⟨n,p.t⟩).toArray) (IX rfl _ _ w.heap.size 116 (aX.cells ⟨n,p.t⟩).toArray (0,0) _ rfl (JX _ w.heap.size _ _ 116 _ T1.1) JD rfl (dN _)) rfl ⟨rfl,vN,HS.1.below B3,Fr.of_below B3⟩
  |none=>
   rw[hix]at hw;obtain⟨rfl,rfl⟩:=IM ..▸hw;have hfl:cd p.jt (ob nodes) 0=Ih:=by rw[sv,hix];rfl
   have HFl:=MD hfl;have HX:aa (k7 (Ib Ie 0) (cd p.jt (ob nodes) 0)=IR #[Ib Ie 0,Iy Ik]):=⟨by rw[hfl];rfl⟩;obtain⟨AN,cN,rfl⟩:=Kd.R_slice HS.1.row;clear hw hix hfl;go_enter Tryz.func78,Tryz.ntmps78;go_upto_region 8 with(first
    |(go_at_call 39;have hbA:=(ae (Il w.heap.size w) (Is (aX.cells ⟨0,bE⟩).toArray 116));refine(HF.1 _ (HG.1.below hbA) (Kd.C_below HC.1 hbA)).mono ?_;rintro e w1 ⟨rfl,hb⟩;have B1:=MD (af hbA hb);have T0:=MD ((hb.block _ (show w.heap.size<_ by simp)).trans (Iu w _));clear hbA hb)
    |((with_reducible refine ap (t:=101) (p:=6) rfl ?_);refine an rfl 101 _ _ rfl w1.heap.size p.cells.toArray rfl rfl 101 (Pth.cells ⟨0,bE,0⟩).toArray (Iu w1 _) (dC HP24.1) (by simp[jA,HP24.1,bE]) (ii _) ?_;intro w2 h2 hf2;have Z:=aj T0.1;have Z2:=B1.1.size;have hb2:=(Fr.below (B:=w.heap.size) (ae B1.1 _) hf2 (λk hk h=>by omega) (by simp;omega));have P1:=MD h2;have p0:=(show w2.cell? ⟨w1.heap.size,0,Ih⟩=Ic (Ib Ie p.jt) by rw[aq h2];rfl);have B2:=MD hb2;have T1:=MD ((hf2.block w.heap.size (by simp;omega) (by omega)).trans (aT T0.1 _));have S2:=MD (HS.1.below B2.1);have n0:=S2.1.num;have s25:=S2.1.cell;clear Z Z2 hb2 h2 hf2)
    |((with_reducible refine ai (N:=20) rfl ?_);refine av rfl 99 _ rfl ⟨w1.heap.size,1,Ih⟩ rfl _ (lq P1.1 HP24.1) ?_)
    |((with_reducible refine ai (N:=26) rfl ?_);refine dt om rfl _ _ rfl Lq S2.1.cm (Ib Ie 0) (HZ.1 _) p.jt rfl rfl _ HX.1 ?_)
    |((with_reducible refine j8 rfl ?_);refine dZ om rfl _ _ _ rfl Lq S2.1.cm p.jt (Ib Ie (nodes.length:Int)) rfl rfl rfl HFl.1 ?_;intro w3 hm3 hfr3;have M3:=MD hm3;have F3:=MD hfr3;clear hm3 hfr3))
   have hne:=S2.1.ne;have hcs:=(F3.1.block gs (aj S2.1.cs) hne.1).trans S2.1.cs;have hcn:=(F3.1.block gn (aj S2.1.cn) hne.2.1).trans S2.1.cn;have hrow:=Kd.R_step (Kd.R_below (Kd.R_mono (ok':=λk=>ok k/\k≠w.heap.size) (Kd.R_bound HS.1.row) (λk hk=>⟨hk.1,by have:=hk.2.2.1;omega⟩)) B2.1) (w1:=w3) (λk hk hlt=>F3.1.block k hlt (HOk.1 k hk.1).2.2);have hgb:gb<w.heap.size:=HS.1.cm.lt;have hgs:gs<w.heap.size:=aj HS.1.cs;have hz1:w.heap.size<=w1.heap.size:=B1.1.size;have hzT:w.heap.size<w1.heap.size:=aj T0.1;have hP3:=(F3.1.block w1.heap.size (aj P1.1) (by omega)).trans P1.1;have hT3:=(F3.1.block w.heap.size (aj T1.1) (by omega)).trans T1.1;have hown:∀k,(Ia AN nodes.length cN).ownBlock=Ic k->k<w.heap.size:=Kd.R_lt HS.1.row;have s25':=(show w3.cell? ⟨gs,25,Ih⟩=Ic (.slice AN nodes.length cN) by rw[aq hcs,IW (by rw[HS.1.es];exact Iz _),HS.1.es];rfl);have p0':=(show w3.cell? ⟨w1.heap.size,0,Ih⟩=Ic (Ib Ie p.jt) by rw[aq hP3];rfl);have CS:=MD hcs;have CN:=MD hcn;have RW:=MD hrow;have NE:=MD hne;have P3:=MD hP3;have T3:=MD hT3;have OW:=MD hown;have Z1:=MD hgb;have Z2:=MD hgs;have Z3:=MD hzT;have HB0:=MD hbase;have BZ:aa (w.heap.size<=w3.heap.size):=⟨by have:=F3.1.size;have:=B2.1.size;omega⟩;clear hne hcs hcn hrow hP3 hT3 hown hgb hgs hz1 hzT hbase s25 p0 n0;go_wp2_with (first
    |((with_reducible refine a6 (b:=.append) (xs:=#[.tmp 39,.tmp 43]) rfl ?_);at_builtin;refine Kd.R_append dK (w0:=w3) base rfl (.tmp 39) (.tmp 43) 117 142 (IA #[Ib Ie 0,Ia Ih 0 0]) 32 rfl Tryz.underlying117 E7 rfl (by decide) (by omega) (Ia AN nodes.length cN) (nodes) (⟨p.jt,[]⟩) [Ib Ie p.jt,Ia Ih 0 0] (λb=>ok b/\b≠w.heap.size) (λ_=>False) rfl rfl ?aP (λ_ hk=>hk.elim) ?aF ?aO ?aB ?aS ?aL ?_;(case aP=>exact⟨[Ib Ie p.jt],[Ia Ih 0 0],rfl,rfl,⟨_,rfl,Kd.R_nil _ _ _ _ _⟩⟩);(case aF=>exact(λb hb=>⟨HFr.1 b (by have:=BZ.1;omega),by have:=aj T3.1;omega⟩));(case aO=>exact RW.1);(case aB=>exact Il _ _);(case aS=>have:=BZ.1;have:=HB0.1;omega);(case aL=>omega);intro vap wap ho hb hg hat;have ZA:=(λk (hk:k<w3.heap.size) (hn:Ic k≠(Ia AN nodes.length cN).ownBlock)=>hg.block k hk hn);have CS4:=MD ((ZA gs (aj CS.1) (Kd.R_away RW.1 (λk hk=>(HOk.1 k hk.1).1))).trans CS.1);have CN4:=MD ((ZA gn (aj CN.1) (Kd.R_away RW.1 (λk hk=>(HOk.1 k hk.1).2.1))).trans CN.1);have M4:=MD (M3.1.moved (ZA gb M3.1.lt (Kd.R_away RW.1 (λk hk=>(HOk.1 k hk.1).2.2))));have P4:=MD ((ZA _ (aj P3.1) (λe=>by have:=OW.1 _ e.symm;have:=Z3.1;omega)).trans P3.1);have T4:=MD ((ZA _ (aj T3.1) (λe=>by have:=OW.1 _ e.symm;omega)).trans T3.1);have f25:=au CS4.1 25;have g25:=(show wap.cell? ⟨gs,25,Ih⟩=Ic (.slice AN nodes.length cN) by rw[aq CS4.1,IW (by rw[HS.1.es];exact Iz _),HS.1.es];rfl);have RO:=MD ho;obtain⟨AV,cV,rfl⟩:=Kd.R_slice RO.1;have HG4:=MD hg;clear ZA ho hb hg hat)
    |((with_reducible refine ai (N:=48) rfl ?_);refine av rfl 99 _ rfl ⟨w1.heap.size,1,Ih⟩ rfl _ (lq (bp P4.1 (p:=⟨gs,25,Ih⟩) (by have:=Z2.1;have:=Z3.1;show _≠gs;omega) _) HP24.1) ?_)
    |((with_reducible refine ai (N:=49) rfl ?_);refine aU rfl 116 _ rfl [(0,Ib Ie (nodes.length:Int)),(1,IA (aw p.t))] _ rfl (rc nodes.length p.t HP24.1) ?_)
    |((with_reducible refine ap (t:=116) (p:=5) rfl ?_);refine an rfl 116 _ _ rfl w.heap.size (aX.cells ⟨nodes.length,p.t⟩).toArray rfl rfl 116 (aX.cells ⟨0,bE⟩).toArray (bp T4.1 (p:=⟨gs,25,Ih⟩) (by have:=Z2.1;show _≠gs;omega) _) (dN _) (by simp[aX.len]) (iO _) ?_;intro w6 h6 hf6;have H6:=MD h6;have F6:=MD hf6;clear h6 hf6))
   have hgs6:gs≠w.heap.size:=by have:=Z2.1;omega
   have hgn:gn<w.heap.size:=aj HS.1.cn;have hgb:gb≠w.heap.size:=by have:=Z1.1;omega
   have q:(ec++[Ia AN nodes.length cN]).set 25 (Ia AV (nodes.length+1) cV)=ec++[Ia AV (nodes.length+1) cV]:=by
    rw[List.set_append_right _ _ (by rw[HS.1.es];exact Iz _),HS.1.es];rfl
   have hcs:=aR CS4.1 25 (Ia AV (nodes.length+1) cV);rw[q]at hcs;have hcs6:=(F6.1.block gs (aj hcs) hgs6).trans hcs;have hcn5:=bp CN4.1 (p:=⟨gs,25,Ih⟩) (λe=>NE.1.2.2 e.symm) (Ia AV (nodes.length+1) cV);have hcn6:=(F6.1.block gn (aj hcn5) (by omega)).trans hcn5;have hcm5:=M4.1.moved (Ld wap ⟨gs,25,Ih⟩ (Ia AV (nodes.length+1) cV) gb (λe=>NE.1.1 e.symm));have hcm6:=hcm5.moved (F6.1.block gb hcm5.lt hgb);have hro:=RO.1;rw[show(nodes++[aG.mk p.jt []]).length=nodes.length+1 by simp]at hro;have hr5:=Kd.R_far hro (p:=⟨gs,25,Ih⟩) (λk hk=>(HOk.1 k hk.1).1) (Ia AV (nodes.length+1) cV);have hr6:=Kd.R_mono (Kd.R_step hr5 (w1:=w6) (λk hk hlt=>F6.1.block k hlt hk.2)) (ok':=ok) (λk hk=>hk.1);have hfr:Fr (SkS gs gb (Ia AN nodes.length cN)) w w6:=Fr.mono (S:=λk=>SkS gs gb (Ia AN nodes.length cN) k\/k=w.heap.size) (((((Fr.of_below B2.1).trans (F3.1.mono (λk _ e=>.inl (.inr (.inl e))))).trans (Fr.grown HG4.1 (λk e=>.inl (.inr (.inr e))))).trans (Fr.cell (p:=⟨gs,25,Ih⟩) (.inl (.inl rfl)) (Ia AV (nodes.length+1) cV))).trans (F6.1.mono (λk _ e=>.inr e))) (λk hk h=>h.resolve_right (by omega));exact IG (v:=IA (aX.cells ⟨nodes.length,p.t⟩).toArray) (IX rfl _ _ w.heap.size 116 (aX.cells ⟨nodes.length,p.t⟩).toArray (0,0) _ rfl H6.1 JD rfl (dN _)) rfl ⟨rfl,_,⟨HS.1.es,hcs6,hcn6,by rw[Dm];exact hcm6,hr6⟩,hfr⟩
end
theorem iC.none{f:List In}(hr:dQ f){a:Nat}:∀(n:Nat) (s:PSt),iC f a s->201-s.steps<=n->fol f (eo n f s)=Ih
 |0,s,h,hn=>by have:=h.bound;omega
 |n+1,s,h,hn=>by
  unfold eo;cases hf:fol f s with
  |none=>exact hf
  |some s'=>
   have h':=h.step hr hf;refine iC.none hr n s' h' ?_;obtain⟨x,_,_,_,rfl⟩:=po hf;simp only;omega
theorem qi{f:List In}(hr:dQ f){a:Nat}(ha:a<f.length)(hj:(bT f a).jt≠-1):(f.getD (bT f a).jt.toNat In.zero).moves=Ik:=by
 have h:iC f a (iN f a):=iC.all hr 201 _ (iC.init ha);have hn:fol f (iN f a)=Ih:=iC.none hr 201 _ (iC.init ha) (by omega);unfold bT at hj ⊢;simp only at hj ⊢;split at hj
 .exact absurd rfl hj
 .rename_i hm
  rw[if_neg hm];simp only[IC];unfold fol at hn;rw[Ig h.at_]at hn;simp only at hn;split at hn
  .rename_i hor
   rw[Ij,Ig h.at_];rcases hor with q|q
   .exact q
   .exact absurd q hm
  .exact absurd hn (by simp)
def bS(f:List In):List Int->List aG->List aX×List aG
 | [],nodes=>([],nodes)
 |a::l0,nodes=>((du f nodes a.toNat).1::(bS f l0 (du f nodes a.toNat).2).1,(bS f l0 (du f nodes a.toNat).2).2)
def jn(cut:List Bool)(a:Int):Bool:=decide (a<cut.length)&&cut.getD a.toNat Ik
def stepN(f:List In)(cut:List Bool)(n:Nat)(x:aG)(nodes:List aG):List aG:=
 if jn cut x.at_=Ir then nodes else(bS f (cL (f.getD x.at_.toNat In.zero) x.at_) nodes).2.set n ⟨x.at_,(bS f (cL (f.getD x.at_.toNat In.zero) x.at_) nodes).1⟩
def bI(f:List In)(cut:List Bool):Nat->Nat->List aG->List aG
 |0,_,nodes=>nodes
 |fuel+1,n,nodes=>match nodes[n]? with
  |none=>nodes
  |some x=>bI f cut fuel (n+1) (stepN f cut n x nodes)
structure bj where
 entry:aX
 nodes:List aG
def aJ(f:List In)(cut:List Bool):bj:=⟨(du f [] 0).1,bI f cut 201 0 (du f [] 0).2⟩
structure NOk(f:List In)(nodes:List aG):Prop where
 at_:∀x∈nodes,0<=x.at_/\x.at_<f.length
 stops:∀x∈nodes,(f.getD x.at_.toNat In.zero).moves=Ik
 nodup:(nodes.map aG.at_).Nodup
theorem NOk.len{f:List In}{nodes:List aG}(h:NOk f nodes):nodes.length<=f.length:=by
 have h1:(nodes.map λx=>x.at_.toNat).Nodup:=by
  have:(nodes.map λx=>x.at_.toNat)=(nodes.map aG.at_).map Int.toNat:=by simp
  rw[this];unfold List.Nodup at *;rw[List.pairwise_map];refine h.nodup.imp_of_mem (λha hb hne e=>hne ?_);obtain⟨x,hx,rfl⟩:=JM.1 ha;obtain⟨y,hy,rfl⟩:=JM.1 hb;have:=h.at_ x hx;have:=h.at_ y hy;omega
 have h2:(nodes.map λx=>x.at_.toNat) ⊆ Jy f.length:=by
  intro k hk;obtain⟨x,hx,rfl⟩:=JM.1 hk;have:=h.at_ x hx;rw[Kq];omega
 have:=h1.length_le_of_subset h2;simpa using this
theorem uR{a:Int}{nodes:List aG}(h:jh a nodes=Ih):a ∉ nodes.map aG.at_:=by
 unfold jh at h;rw[List.findIdx?_eq_none_iff]at h;intro hm;obtain⟨x,hx,rfl⟩:=JM.1 hm;have:=h x hx;simp at this
theorem NOk.way{f:List In}(hr:dQ f){nodes:List aG}(h:NOk f nodes){a:Nat}(ha:a<f.length):NOk f (du f nodes a).2:=by
 have hp:=lu hr ha;unfold du;simp only;split
 .exact h
 .split
  .exact h
  .rename_i hn hi
   have hx:=uR hi;refine⟨λx hx=>?_,?_,?_⟩
   .rcases J0.1 hx with hx|hx
    .exact h.at_ x hx
    .rw[IS.1 hx]
     rcases hp.2 with q|q
     .exact absurd q (by omega)
     .exact q
   .intro x hx
    rcases J0.1 hx with hx|hx
    .exact h.stops x hx
    .rw[IS.1 hx]
     exact qi hr ha (by omega)
   .rw[LY,List.nodup_append]
    refine⟨h.nodup,by simp,?_⟩;intro y hy z hz e;simp at hz;subst hz;subst e;exact hx hy
theorem nU(f:List In)(nodes:List aG)(a:Nat):∃l,(du f nodes a).2=nodes++l:=by
 unfold du;simp only;split
 .exact⟨[],by simp⟩
 .split
  .exact⟨[],by simp⟩
  .exact⟨_,rfl⟩
theorem fS(f:List In):∀(l0:List Int) (nodes:List aG),∃l,(bS f l0 nodes).2=nodes++l
 | [],nodes=>⟨[],by simp[bS]⟩
 |a::l0,nodes=>by
  obtain⟨l,hl⟩:=nU f nodes a.toNat;obtain⟨k,hk⟩:=fS f l0 (du f nodes a.toNat).2;exact⟨l++k,by simp only[bS];rw[hk,hl,Kv]⟩
theorem NOk.outs{f:List In}(hr:dQ f):∀(l0:List Int) (nodes:List aG),NOk f nodes->(∀a∈l0,0<=a/\a<f.length)->NOk f (bS f l0 nodes).2
 | [],_,h,_=>h
 |a::l0,nodes,h,ha=>by
  simp only[bS];have:=ha a (JH ..);exact NOk.outs hr l0 _ (h.way hr (by omega)) (λb hb=>ha b (Jm _ hb))
theorem NOk.put{f:List In}{nodes:List aG}(h:NOk f nodes){n:Nat}{x:aG}(hx:(nodes[n]?).map aG.at_=Ic x.at_):NOk f (nodes.set n x):=by
 have hm:(nodes.set n x).map aG.at_=nodes.map aG.at_:=by
  rw[List.map_set];apply JN;intro i;rw[KD];split
  .rename_i e
   rw[<-e,IK,hx];split
   .rfl
   .rename_i hlt
    cases hq:nodes[n]? with
    |none=>rw[hq]at hx;exact absurd hx (by simp)
    |some z=>exact absurd (by simpa using(Ip.1 hq).1) hlt
  .rfl
 have hy2:∀y∈nodes.set n x,∃z∈nodes,z.at_=y.at_:=λy hy=>by
  have:y.at_∈nodes.map aG.at_:=by rw[<-hm];exact List.mem_map_of_mem hy
  exact JM.1 this
 refine⟨λy hy=>?_,λy hy=>?_,by rw[hm];exact h.nodup⟩
 .obtain⟨z,hz,e⟩:=hy2 y hy
  rw[<-e];exact h.at_ z hz
 .obtain⟨z,hz,e⟩:=hy2 y hy
  rw[<-e];exact h.stops z hz
theorem qx{f:List In}(hr:dQ f){i:Nat}{x:In}(hx:f[i]?=Ic x):∀a∈cL x (i:Int),x.moves=Ir\/(0<=a/\a<f.length):=by
 intro a ha;unfold cL at ha;split at ha
 .simp at ha
 .rename_i h18
  by_cases h16:x.op=16
  .exact .inl (by unfold In.moves;simp[h16])
  .have hn:=hr.next hx h16 h18
   split at ha
   .rename_i h17
    have hj:=(hr.ok i x hx).jt (.inr h17);simp only[I7,JE,or_false]at ha;rcases ha with rfl|rfl
    .exact .inr hj
    .exact .inr ⟨by omega,by omega⟩
   .simp only[I7,JE,or_false]at ha
    subst ha;exact .inr ⟨by omega,by omega⟩
theorem C6{P:Jn}{t e:Je}{i:TypeInfo}{z:Io}(hu:P.underlying t=Ic (.slice e))(hi:P.info? e=Ic i)(hz:i.zero=Ic z)(cs:List Io)(hl:cs.length=i.size)(h0:0<i.size)(hm:i.size<=2 ^ 24)(W:Im) :
  (Instr.buildSlice t 1 #[(0,IA cs.toArray)]).run P W=.ok (Ia (Ic ⟨W.heap.size,0,Ih⟩) 1 1) (W.alloc (Is cs.toArray e)):=by
 have hs:(sizeOf e).run P W=.ok i.size W:=by simp[sizeOf,typeInfo,hi]
 have hzv:(Mr e).run P W=.ok z W:=by simp[Mr,typeInfo,hi,hz]
 unfold Instr.buildSlice;simp only[IJ,I2 hu,I1,hs,Nat.one_mul];rw[if_neg (by omega)];have hf:=jq (λk=>Ic (k*i.size,i.size)) ((Array.range i.size).map (λk=>z.cells[k%z.cells.size]!)).toList 0 0 i.size cs [] (by simp) hl (by simp);simp only[Array.toArray_toList,List.take_zero,Ka,KB,hl]at hf;rw[Ju (by simp),JS]at hf;simp only[IJ,JO,I1,if_neg (Nat.pos_iff_ne_zero.1 h0),hzv,hf];rfl
theorem Ft{P:Jn}{aF:Act}{o:Oper}{t e:Je}{i:TypeInfo}{z:Io}(hu:P.underlying t=Ic (.slice e))(hi:P.info? e=Ic i)(hz:i.zero=Ic z)(cs:List Io)(hl:cs.length=i.size)(h0:0<i.size)(hm:i.size<=2 ^ 24)(W:Im)
  {u:Lf} (ho:o.op=.buildSlice t 1 #[(0,u)]) (hv:aF.eval u=IA cs.toArray):(JJ aF.eval o).run P W=.ok (.value (Ia (Ic ⟨W.heap.size,0,Ih⟩) 1 1)) (W.alloc (Is cs.toArray e)):=by
 unfold JJ;simp only[ho,Mt,Jt,La,hv,IJ,C6 hu hi hz cs hl h0 hm W,I1,JO]
def Frz(W:Im)(v:Io)(L:List Int):Prop:=(v=Ia Ih 0 0/\L=[])\/∃g,v=Ia (Ic ⟨g,0,Ih⟩) L.length L.length/\W.heap[g]?=Ic (.cells (L.map (Ib .i64)).toArray 3 (0,0))
theorem oM(x:In)(n:Nat)(hn:n<=1000)(w:Im):I9 If 79 #[IA x.cells,Ib Ie (n:Int)] w λe w'=>∃v,e=Iv v/\Frz w' v (cL x n)/\It w.heap.size w w':=by
 rw[kz];have hn':(n:Int)<=1000:=by omega
 unfold cL;by_cases h1:x.op=18
 .have q1:(x.op==18)=Ir:=beq_iff_eq.mpr h1
  rw[if_pos h1];clear h1;go_enter Tryz.func79,Tryz.ntmps79;go_wp2;go_ret;exact⟨_,rfl,.inl ⟨rfl,rfl⟩,ae (Il _ _) _⟩
 .have q1:(x.op==18)=Ik:=beq_eq_false_iff_ne.mpr h1
  rw[if_neg h1];by_cases h2:x.op=17
  .have q2:(x.op==17)=Ir:=beq_iff_eq.mpr h2
   rw[if_pos h2];clear h1 h2;go_enter Tryz.func79,Tryz.ntmps79;go_wp2;go_ret;exact⟨_,rfl,.inr ⟨_,rfl,L9 w _ _⟩,ae (ae (Il _ _) _) _⟩
  .have q2:(x.op==17)=Ik:=beq_eq_false_iff_ne.mpr h2
   rw[if_neg h2];clear h1 h2;go_enter Tryz.func79,Tryz.ntmps79;go_wp2;go_ret;exact⟨_,rfl,.inr ⟨_,rfl,L9 w _ _⟩,ae (ae (Il _ _) _) _⟩
theorem b_{α:Type}{d:Kd α}{w:Im}{A:Option Addr}{n:Nat}{xs:List α}(h:Kd.C d w A n xs)(i:Nat)(h1:i<n)(x:α)(hx:xs[i]?=Ic x) :
  ∃ad c,A=Ic ad/\c.length=d.sz/\d.K w x c/\∀j u,c[j]?=Ic u->w.cell? (ad.add (i*d.sz+j))=Ic u:=by
 obtain⟨ad,c,e,h2,hK,hc⟩:=Kd.C_get h x (i:Int) (by omega) (by omega);have hg:xs.getD (i:Int).toNat x=x:=by simp[Ij,hx]
 rw[hg]at hK;exact⟨ad,c,e,h2,hK,hc⟩
theorem gD{w:Im}{x:aG}{c:List Io}(h:dK.K w x c):∃vO,c=[Ib Ie x.at_,vO]/\Rd rI w vO x.outs:=by
 obtain⟨c0,c1,rfl,h0,A,n,rfl,h2,h3⟩:=h;have h0':c0=[Ib Ie x.at_]:=h0;subst h0';exact⟨_,rfl,A,n,rfl,h2,h3⟩
theorem qo{w:Im}{base:Nat}{ok:Nat->Prop}{v:Io}{xs:List aG}(h:Kd.R dK 142 w base ok v xs)(i:Nat)(x:aG)(hx:xs[i]?=Ic x) :
  ∃g cap vO,v=Ia (Ic ⟨g,0,Ih⟩) xs.length cap/\w.cell? ⟨g,i*2,Ih⟩=Ic (Ib Ie x.at_)/\w.cell? ⟨g,i*2+1,Ih⟩=Ic vO/\Rd rI w vO x.outs/\g<w.heap.size:=by
 obtain⟨hi,_⟩:=Ip.1 hx;obtain⟨g,cap,rfl,_,hg,_⟩:=Kd.R_form h (by omega);obtain⟨_,_,hC⟩:=Kd.R_reads' h;obtain⟨ad,c,e,_,hK,hc⟩:=b_ hC i hi x hx;injection e with e
 subst e;obtain⟨vO,rfl,hO⟩:=gD hK;have hadd:∀k,(⟨g,0,Ih⟩:Addr).add k=⟨g,k,Ih⟩:=λk=>by unfold Mo;by_cases h0:k=0<;>simp[h0]
 refine⟨g,cap,vO,rfl,?_,?_,hO,hg⟩
 .have:=hc 0 _ rfl
  rw[hadd]at this;exact this
 .have:=hc 1 _ rfl
  rw[hadd]at this;exact this
section
def gu:List Io:=aX.cells ⟨0,bE⟩++[Ia Ih 0 0]
theorem d8{P:Jn}{ops:Array Oper}{o:Oper}{rest:List Oper}{a:Act}{W:Im}{Q:Exit->Act->Im->Prop}(hgd:o.guard=Ih)(t:Je)(ho:o.op=.makeMap t Ih)(h:Kg P ops Q rest (a.put o.dst (.map (Ic W.heap.size))) (W.alloc (.map #[] 0))):Kg P ops Q (o::rest) a W:=by
 refine dJ hgd _ ?_ h;unfold JJ;simp only[ho,Option.map_none,IJ,run_makeMap,I1,JO]
theorem ew{P:Jn}{ops:Array Oper}{rest:List Oper}{o:Oper}{a:Act}{W:Im}{Q:Exit->Act->Im->Prop}(hgd:o.guard=Ih)(ty:Je)(x y:Lf)(ho:o.op=.store ty x y)(g i:Nat)(vs:List Io)
  (hx:a.eval x=Iq (Ic ⟨g,i,Ih⟩)) (hy:a.eval y=IA vs.toArray) (t:Nat) (L L':List Io) (hg:W.heap[g]?=Ic (.cells L.toArray t (0,0))) (hi:(P.info? ty).map (·.size)=Ic vs.length) (hl:i+vs.length<=L.length) (h1:∀v∈vs,v.oneCell'=Ir)
  (hL:L.take i++vs++L.drop (i+vs.length)=L') (h:∀W',W'.heap[g]?=Ic (.cells L'.toArray t (0,0))->Fr (λk=>k=g) W W'->Kg P ops Q rest (a.put o.dst KG) W'):Kg P ops Q (o::rest) a W:=by
 subst hL;exact f6 hgd ty x y ho g i vs hx hy t L hg hi hl h1 (h _ (JX W g _ _ t _ hg) (Fr.row (S:=λk=>k=g) rfl _))
theorem tJ:(If.info? 119).map (·.size)=Ic 26:=by kernel_rfl
theorem li(o:aX)(v:Io):(o.cells++[v]).toArray.size=26:=by simp[aX.len]
theorem skz:gu.toArray.size=26:=li _ _
theorem qF:(If.info? 116).map (λi=>(i.zero,i.size,i.bytes))=Ic (Ic (.agg (aX.cells ⟨0,bE⟩).toArray),25,392):=by kernel_rfl
theorem d_(o:aX)(v:Io):(If.info? 119).map (·.size)=Ic (o.cells++[v]).toArray.size:=by rw[li];exact tJ
theorem te(o:aX){A:Option Addr}{n c:Nat}:(o.cells++[Ia A n c]).toArray.all (·.oneCell')=Ir:=by
 rw[Jh];intro q hq;simp only[List.mem_toArray,J0,IS]at hq;rcases hq with hq|rfl
 .exact aX.one _ _ hq
 .rfl
structure BSt(w:Im)(v:Io)(gs gb gn:Nat)(ok:Nat->Prop)(ec:List Io)(W:Im)(vN:Io)(nodes:List aG):Prop where
 b:It w.heap.size w W
 box:W.heap[w.heap.size]?=Ic (.cells #[v] 22 (0,0))
 res:W.heap[w.heap.size+1]?=Ic (.cells gu.toArray 119 (0,0))
 sk:nM gs gn gb w.heap.size ok ec W vN nodes
section
variable{w W W':Im}{v vN:Io}{gs gb gn:Nat}{ok:Nat->Prop}{ec:List Io}{nodes:List aG}
theorem BSt.below(h:BSt w v gs gb gn ok ec W vN nodes)(hb:It W.heap.size W W'):BSt w v gs gb gn ok ec W' vN nodes:=
 ⟨af h.b hb,ag h.box hb,ag h.res hb,h.sk.below hb⟩
theorem BSt.step(h:BSt w v gs gb gn ok ec W vN nodes){S:Nat->Prop}(hf:Fr S W W')(hs:∀k,k<=w.heap.size+1->¬S k){vN':Io}{nodes':List aG}{ok':Nat->Prop}{ec':List Io}(hsk:nM gs gn gb w.heap.size ok' ec' W' vN' nodes'):BSt w v gs gb gn ok' ec' W' vN' nodes':=
 ⟨Fr.below h.b hf (λk hk=>hs k (by omega)) h.b.size,(hf.block _ (aj h.box) (hs _ (by omega))).trans h.box,(hf.block _ (aj h.res) (hs _ (Iz _))).trans h.res,hsk⟩
theorem BSt.cell(h:BSt w v gs gb gn ok ec W vN nodes):W.cell? ⟨w.heap.size,0,Ih⟩=Ic v:=by rw[ah h.box];rfl
end
theorem CV(w:Im)(v:Io){w1:Im}(hb:It ((w.alloc (Is #[v] 22)).alloc (Is gu.toArray 119)).heap.size ((w.alloc (Is #[v] 22)).alloc (Is gu.toArray 119)) w1) :
  It w.heap.size w w1/\w1.heap[w.heap.size]?=Ic (.cells #[v] 22 (0,0))/\w1.heap[w.heap.size+1]?=Ic (.cells gu.toArray 119 (0,0)):=by
 obtain⟨h1,h2,h3⟩:=dz hb;exact⟨h3,h2,h1⟩
theorem sT{W:Im}{v:Io}{L:List Int}(h:Frz W v L):∃A,v=Ia A L.length L.length:=by
 rcases h with⟨rfl,rfl⟩|⟨g,rfl,_⟩
 .exact⟨Ih,rfl⟩
 .exact⟨_,rfl⟩
theorem Ar(x:aX)(W:Im){aF:Act}{o:Oper}{u:Lf}(ho:o.op=.buildSlice 140 1 #[(0,u)])(hv:aF.eval u=IA x.cells.toArray):(JJ aF.eval o).run If W=.ok (.value (Ia (Ic ⟨W.heap.size,0,Ih⟩) 1 1)) (W.alloc (Is x.cells.toArray 116)):=by
 have hi:=qF;cases hq:If.info? 116 with
 |none=>rw[hq]at hi;exact absurd hi (by simp)
 |some i=>
  rw[hq]at hi;simp only[Mu,Ja,IM]at hi;exact Ft Tryz.underlying140 hq hi.1 x.cells (by rw[x.len,hi.2.1]) (by rw[hi.2.1];decide) (by rw[hi.2.1];decide) W ho hv
theorem Ek{W W':Im}{v:Io}{L:List Int}(h:Frz W v L){S:Nat->Prop}(hf:Fr S W W')(hs:∀g cs,W.heap[g]?=Ic (.cells cs 3 (0,0))->¬S g):Frz W' v L:=by
 rcases h with h|⟨g,h1,h2⟩
 .exact .inl h
 .exact .inr ⟨g,h1,(hf.block g (aj h2) (hs g _ h2)).trans h2⟩
theorem BSt.ok_mono{w W:Im}{v vN:Io}{gs gb gn:Nat}{ok ok':Nat->Prop}{ec:List Io}{nodes:List aG}(h:BSt w v gs gb gn ok ec W vN nodes)(hok:∀k,ok k->ok' k):BSt w v gs gb gn ok' ec W vN nodes:=
 ⟨h.b,h.box,h.res,⟨h.sk.es,h.sk.cs,h.sk.cn,h.sk.cm,Kd.R_mono h.sk.row hok⟩⟩
structure zZ(w:Im)(f:List In)(vf:Io)(gs:Nat)(ec:List Io)(vL:Io)(L:List Int)(nodes:List aG)(W:Im)(k:Nat)(outs:List aX)(nodes2:List aG)(vO v2:Io):Prop where
 le:k<=L.length
 fz:Frz W vL L
 b:BSt w vf gs (gs+1) (gs+1+1) (λj=>gs+1+1<j/\Ic j≠vO.ownBlock) ec W v2 nodes2
 ro:Kd.R rI 116 W w.heap.size (λj=>gs+1+1<j) vO outs
 ok:NOk f nodes2
 grows:∃l,nodes2=nodes++l
 len:outs.length=k
 run:bS f L nodes=(outs++(bS f (L.drop k) nodes2).1,(bS f (L.drop k) nodes2).2)
theorem AC:(If.info? 140).map (·.size)=Ic 1:=by kernel_rfl
theorem Dl{nodes:List aG}{n:Nat}{x:aG}(h:(nodes[n]?).map aG.at_=Ic x.at_):ob (nodes.set n x)=ob nodes:=by
 apply JN;intro i;rw[pm,pm,KD];split
 .rename_i e
  subst e;cases hq:nodes[n]? with
  |none=>rw[hq]at h;exact absurd h (by simp)
  |some z=>
   rw[hq]at h;rw[if_pos (Ip.1 hq).1];simp only[Mu,Ja]at h ⊢;rw[h]
 .rfl
theorem BSt.put{w W W6:Im}{v:Io}{gs g2 n:Nat}{ok:Nat->Prop}{ec:List Io}{nodes:List aG}{vN:Io}(h:BSt w v gs (gs+1) (gs+1+1) ok ec W vN nodes){p:Int}{xo outs:List aX}
  (hr:Kd.R dK 142 W6 w.heap.size (λj=>gs+1+1<j) vN (nodes.set (n:Int).toNat ⟨p,outs⟩)) (hg:W.grownBy W6 (Ic g2)) (hg2:gs+1+1<g2) (hx:nodes[n]?=Ic ⟨p,xo⟩) (hlt:w.heap.size+1<gs):BSt w v gs (gs+1) (gs+1+1) (λj=>gs+1+1<j) ec W6 vN (nodes.set (n:Int).toNat ⟨p,outs⟩):=by
 have ne:∀j,j<=gs+1+1->Ic j≠Ic g2:=λj hj e=>by injection e with e;omega
 refine h.step (Fr.grown hg (S:=λj=>Ic j=Ic g2) (λj e=>e)) (λj hj hs=>ne j (by omega) hs) ⟨h.sk.es,(hg.block _ (aj h.sk.cs) (ne _ (by omega))).trans h.sk.cs,(hg.block _ (aj h.sk.cn) (ne _ (by omega))).trans h.sk.cn,?_,hr⟩;rw[Dl (by rw[IC,hx];rfl)];exact h.sk.cm.moved (hg.block _ h.sk.cm.lt (ne _ (by omega)))
theorem qw{w:Im}{g n:Nat}{a b:Io}(h0:w.cell? ⟨g,n*2,Ih⟩=Ic a)(h1:w.cell? ⟨g,n*2+1,Ih⟩=Ic b):∀j u,[a,b][j]?=Ic u->w.cell? ⟨g,(n:Int).toNat*dK.sz+j,Ih⟩=Ic u:=by
 intro j u hj;rw[IC]
 match j,hj with
 |0,hj=>obtain rfl:=Ii hj;exact h0
 |1,hj=>obtain rfl:=Ii hj;exact h1
theorem Dn{w:Im}{base gs g2 n cap:Nat}{ok:Nat->Prop}{vO:Io}{p:Int}{outs:List aX}{xs:List aG}(ro:Kd.R rI 116 w base (λj=>gs+1+1<j) vO outs)(hr:Kd.R dK 142 w base ok (Ia (Ic ⟨g2,0,Ih⟩) n cap) xs) :
  dK.M w base (λj=>gs+1+1<j/\j≠g2) ⟨p,outs⟩ [Ib Ie p,vO]:=
 ⟨[Ib Ie p],[vO],rfl,rfl,vO,rfl,Kd.R_mono (Kd.R_apartR ro hr (λq hq=>by
  rcases I7.1 hq with rfl|hq
  .decide
  .exact absurd hq (JE))) (λj hj=>⟨hj.1,λe=>hj.2 (by rw[e];rfl)⟩)⟩
section
variable{w W W':Im}{f:List In}{vf:Io}{gs:Nat}{ec:List Io}{vL:Io}{L:List Int}{nodes:List aG}{k:Nat}{outs:List aX}{nodes2:List aG}{vO v2:Io}
def yq(w:Im)(vf:Io)(gs:Nat)(ec:List Io)(vL:Io)(L:List Int)(outs:List aX)(vO v3:Io)(nodes3:List aG)(W W':Im):Prop:=
 Frz W' vL L/\BSt w vf gs (gs+1) (gs+1+1) (λj=>gs+1+1<j/\Ic j≠vO.ownBlock) ec W' v3 nodes3/\Kd.R rI 116 W' w.heap.size (λj=>gs+1+1<j) vO outs/\W.heap.size<=W'.heap.size
theorem zZ.way_step(h:zZ w f vf gs ec vL L nodes W k outs nodes2 vO v2)(hfr:Fr (SkS gs (gs+1) v2) W W'){v3:Io}{nodes3:List aG}(hsk:nM gs (gs+1+1) (gs+1) w.heap.size (λj=>gs+1+1<j/\Ic j≠vO.ownBlock) ec W' v3 nodes3)(hlt:w.heap.size+1<gs):yq w vf gs ec vL L outs vO v3 nodes3 W W':=by
 refine⟨Ek h.fz hfr (λg cs hg hs=>?_),h.b.step hfr (λj hj hs=>?_) hsk,?_,hfr.size⟩
 .rcases hs with hs|hs|hs
  .have:=h.b.sk.cs;rw[hs,this]at hg;injection hg with hg;injection hg with _ hg;exact absurd hg (by decide)
  .obtain⟨es,c,hm,_⟩:=h.b.sk.cm;rw[hs,hm]at hg;exact absurd hg (by simp)
  .obtain⟨cells,hc⟩:=Kd.R_typed h.b.sk.row g hs.symm;rw[hc]at hg;injection hg with hg;injection hg with _ hg;exact absurd hg (by decide)
 .rcases hs with hs|hs|hs
  .omega
  .omega
  .have:=(h.b.sk.row.1 j hs.symm).1;omega
 .refine Kd.R_mono (Kd.R_step (Kd.R_apartR h.ro h.b.sk.row (λq hq=>?_)) (λj hj hlt2=>hfr.block j hlt2 (λhs=>?_))) (λj hj=>hj.1)
  .rcases I7.1 hq with rfl|hq
   .decide
   .exact absurd hq (JE)
  .rcases hs with hs|hs|hs
   .omega
   .omega
   .exact hj.2 hs
theorem zZ.app_step(h:zZ w f vf gs ec vL L nodes W k outs nodes2 vO v2){W5:Im}{v3:Io}{nodes3:List aG}(h5:yq w vf gs ec vL L outs vO v3 nodes3 W W5){r1:aX}{v1:Io}(ho:Kd.R rI 116 W' w.heap.size (λj=>gs+1+1<j) v1 (outs++[r1]))(hg:W5.grownBy W' vO.ownBlock)(hat:v1.ownBlock=vO.ownBlock\/∃b,v1.ownBlock=Ic b/\W5.heap.size<=b)
  (hrun:bS f L nodes=(outs++r1::(bS f (L.drop (k+1)) nodes3).1,(bS f (L.drop (k+1)) nodes3).2)) (hok:NOk f nodes3) {l2:List aG} (hl2:nodes3=nodes2++l2) (hk:k<L.length) (hlt:w.heap.size+1<gs):zZ w f vf gs ec vL L nodes W' (k+1) (outs++[r1]) nodes3 v1 v3:=by
 obtain⟨hfz,hb,hro,hsz⟩:=h5;have away:∀j,j<=gs+1+1->Ic j≠vO.ownBlock:=λj hj e=>by have:=hro.1 j e.symm;omega
 refine⟨hk,Ek hfz (Fr.grown hg (S:=λj=>Ic j=vO.ownBlock) (λj e=>e)) (λg cs hc hs=>?_),hb.step (Fr.grown hg (S:=λj=>Ic j=vO.ownBlock) (λj e=>e)) (λj hj hs=>away j (by omega) hs) ⟨hb.sk.es,?_,?_,?_,Kd.R_after hb.sk.row hg hat⟩,ho,hok,?_,by rw[IV,h.len];rfl,?_⟩
 .obtain⟨cells,hc2⟩:=Kd.R_typed hro g hs.symm;rw[hc2]at hc;injection hc with hc;injection hc with _ hc;exact absurd hc (by decide)
 .exact(hg.block _ (aj hb.sk.cs) (away _ (by omega))).trans hb.sk.cs
 .exact(hg.block _ (aj hb.sk.cn) (away _ (by omega))).trans hb.sk.cn
 .exact hb.sk.cm.moved (hg.block _ hb.sk.cm.lt (away _ (by omega)))
 .obtain⟨l,hl⟩:=h.grows
  exact⟨l++l2,by rw[hl2,hl,Kv]⟩
 .rw[hrun,Kv];rfl
end
end
theorem i9(f:List In)(cut:List Bool)(A Ac:Option Addr)(c cc:Nat)(w:Im)(hG:Gl w)(hC:Kd.C kIn w A f.length f)(hc:f.length<=c)(hK:Kd.C Kd.bool w Ac cut.length cut)(hr:bi f=Ir) :
  I9 If 49 #[Ia A f.length c,Ia Ac cut.length cc] w λe w'=>∃vN,e=Iv (IR #[IA ((aJ f cut).entry.cells++[vN]).toArray,Ib Ie 0])/\Kd.R dK 142 w' w.heap.size (λk=>w.heap.size<=k) vN (aJ f cut).nodes/\It w.heap.size w w':=by
 have hmax:=Kd.C_max hC;have hRt:=eD A c f;rw[hr]at hRt;have HR:=MD hRt;have HF:=MD (bu hr);have HWay:=MD (λ(a:Nat) (ha:a<f.length) (gf gs gn gb base:Nat) (ok:Nat->Prop) (ec:List Io) (vN:Io) (nodes:List aG) (W:Im) hG hf hC hS hN hok hfresh hbase=>CU f a gf gs gn gb base ok ec vN nodes A c W hG hf hC hc hr ha hS hN hok hfresh hbase);have HC:=MD hC;have HG:=MD hG;have Hc:=MD hc;have HK:=MD hK;obtain⟨S,hS⟩:=ME (aJ f cut);rw[<-hS];have HS:=MD hS;clear hG hC hc hK hr hRt hS;go_enter Tryz.func49,Tryz.ntmps49;go_upto_region 5 with(first
  |(go_at_call 47;have hbA:=(ae (ae (Il w.heap.size w) (Is #[Ia A f.length c] 22)) (Is gu.toArray 119));refine(HR.1 _ (HG.1.below hbA) (Kd.C_below HC.1 hbA) Hc.1).mono ?_;rintro e w1 ⟨rfl,hb⟩;have hT:=CV w (Ia A f.length c) hb;have HT:=MD hT;have e0:=(show w1.cell? ⟨w.heap.size,0,Ih⟩=Ic (.slice A f.length c) by rw[ah hT.2.1];rfl);clear hbA hb hT)
  |((with_reducible refine ai (N:=18) rfl ?_);refine d8 rfl 132 rfl ?_))
 obtain⟨gs,hgs⟩:=ME w1.heap.size;have hst:BSt w (Ia A f.length c) w1.heap.size (w1.heap.size+1) (w1.heap.size+1+1) (λk=>w1.heap.size+1+1<k) (aX.cells ⟨0,bE⟩) (((w1.alloc (Is gu.toArray 119)).alloc (.map #[] 0)).alloc (Is #[.map (Ic (w1.heap.size+1))] 132)) (Ia Ih 0 0) []:=
  ⟨ae (ae (ae HT.1.1 _) _) _,aT (aT (aT HT.1.2.1 _) _) _,aT (aT (aT HT.1.2.2 _) _) _,
   ⟨aX.len _,aT (aT (JZ w1 _) _) _,by have:=JZ ((w1.alloc (Is gu.toArray 119)).alloc (.map #[] 0)) (Is #[.map (Ic (w1.heap.size+1))] 132);simpa using this,⟨#[],0,by have:=JZ (w1.alloc (Is gu.toArray 119)) (.map #[] 0);exact aT (by simpa using this) _,rfl⟩,Kd.R_nil _ _ _ _ _⟩⟩
 have hlt:w.heap.size+1<w1.heap.size:=aj HT.1.2.2;have hsz:(((w1.alloc (Is gu.toArray 119)).alloc (.map #[] 0)).alloc (Is #[.map (Ic (w1.heap.size+1))] 132)).heap.size=w1.heap.size+1+1+1:=by simp
 rw[<-hgs]at hst hlt hsz ⊢;obtain⟨wa,hwa⟩:∃x,x=(((w1.alloc (Is gu.toArray 119)).alloc (.map #[] 0)).alloc (Is #[.map (Ic (gs+1))] 132)):=⟨_,rfl⟩;rw[<-hwa]at hst hsz;refine ar hwa.symm ?_;have HB:=MD hst;have HLt:=MD hlt;have HSz:=MD hsz;clear hwa hgs hst hlt hsz HT e0;go_upto_region 7 with(first
  |(go_at_call 78;refine(HWay.1 0 HF.1.pos w.heap.size gs (gs+1+1) (gs+1) w.heap.size _ _ _ _ wa (HG.1.below HB.1.b) HB.1.box (Kd.C_below HC.1 HB.1.b) HB.1.sk (by simp) (λk hk=>by omega) (λk hk=>by have:=HSz.1;omega) HB.1.b.size).mono ?_;rintro e w2 ⟨rfl,vN,hsk,hfr⟩;have HB2:=MD (HB.1.step hfr (λk hk h=>by have:=HLt.1;rcases h with h|h|h;omega;omega;exact absurd h (by simp[IQ])) hsk);clear hsk hfr)
  |((with_reducible refine ap (t:=116) (p:=22) rfl ?_);refine ew rfl 116 _ _ rfl gs 0 (du f [] 0).1.cells rfl rfl 119 _ ((du f [] 0).1.cells++[vN]) HB2.1.sk.cs (by rw[aX.len];exact ij) (by simp[aX.len]) (aX.one _) (by simp[aX.len]) ?_;intro w3 h3 hf3;have H3:=MD h3;have F3:=MD hf3;clear h3 hf3))
 have hcn:=HB2.1.sk.cn;have hcm:=HB2.1.sk.cm;have hb3:BSt w (Ia A f.length c) gs (gs+1) (gs+1+1) (λk=>gs+1+1<k) (du f [] 0).1.cells w3 vN (du f [] 0).2:=HB2.1.step F3.1 (λk hk h=>by have:=HLt.1;omega)
  ⟨aX.len _,H3.1,(F3.1.block _ (aj hcn) (by omega)).trans hcn,hcm.moved (F3.1.block _ hcm.lt (by omega)),Kd.R_step HB2.1.sk.row (λk hk hl=>F3.1.block k hl (by omega))⟩
 have hok1:NOk f (du f [] 0).2:=NOk.way HF.1 ⟨by simp,by simp,by simp⟩ HF.1.pos;have hE:S.entry=(du f [] 0).1:=by rw[HS.1];rfl
 have hNs:S.nodes=bI f cut 201 0 (du f [] 0).2:=by rw[HS.1];rfl
 rw[<-hE]at hb3;obtain⟨N1,hN1⟩:∃N1,N1=(du f [] 0).2:=⟨_,rfl⟩;rw[<-hN1]at hb3 hok1 hNs;have HB3:=MD hb3;have HO1:=MD hok1;have HNs:=MD hNs;clear hcn hcm hb3 hok1 hE hNs hN1 HB HB2 H3 F3 HS HR;go_wp2;go_loopw [9] (λi wr=>∃(n:Nat) (nodes:List aG) (v:Io),i=Ib Ie n/\aa (BSt w (Ia A f.length c) gs (gs+1) (gs+1+1) (λk=>gs+1+1<k) S.entry.cells wr v nodes/\NOk f nodes/\n<=nodes.length/\S.nodes=bI f cut (201-n) n nodes)) (λi _=>201-(Jj i).toNat)
 case atStart=>exact⟨0,N1,vN,rfl,⟨⟨HB3.1,HO1.1,ID _,HNs.1⟩⟩⟩
 case round=>
  obtain⟨n,nodes,v,rfl,HL⟩:=hrel;obtain⟨hB,hN,hn,hfin⟩:=HL.1;obtain⟨AN,cN,rfl⟩:=Kd.R_slice hB.sk.row;have s25:=hB.sk.cell;have e0:=hB.cell;have hlen:=hN.len;have hl200:=HF.1.len;by_cases hlt:n<nodes.length
  .have hlt':(n:Int)<(nodes.length:Int):=by omega
   obtain⟨x,hx⟩:∃x,nodes[n]?=Ic x:=⟨_,Ig hlt⟩;obtain⟨g,cap,vO,hsl,n0,n1,hrd,hgl⟩:=qo hB.sk.row n x hx;obtain⟨rfl,hcap⟩:AN=Ic ⟨g,0,Ih⟩/\cN=cap:=by injection hsl with h1 h2 h3;exact⟨h1,h3⟩
   obtain⟨xa,xo⟩:=x;have hxa:=hN.at_ _ (Iw hx);have hst:=hN.stops _ (Iw hx);simp only at hxa hst n0;obtain⟨p,rfl⟩:∃p:Nat,xa=p:=⟨xa.toNat,by omega⟩;simp only[IC]at hst;have hp:p<f.length:=by omega
   have hstep:S.nodes=bI f cut (201-(n+1)) (n+1) (stepN f cut n ⟨p,xo⟩ nodes):=by
    rw[hfin,show 201-n=(201-(n+1))+1 by omega]
    conv=>lhs;unfold bI
    rw[hx]
   have HB4:=MD hB;have HN4:=MD hN;have HSt:=MD hstep;have HX:=MD hx;have HStop:=MD hst;have HHp:=MD hp;have HLn:=MD hlt;have HL2:=MD hl200;have HLen:=MD hlen;obtain⟨y,hy⟩:∃y,f[p]?=Ic y:=⟨_,Ig hp⟩;have hpf:(p:Int)<(f.length:Int):=by omega
   have hp1:(p:Int)<=200:=by omega
   have hn2:n<=200:=by omega
   have HY:=MD hy;obtain⟨ad,rfl,d0,d1,d2,d3,d4,d5⟩:=nK (Kd.C_below HC.1 hB.b) p hp y hy;clear hB hN hfin hstep hx hst hp hlt hl200 hlen hy hxa hn HL hsl hrd;by_cases hc1:p<cut.length
   .have hc1':(p:Int)<(cut.length:Int):=by omega
    obtain⟨bc,hbc⟩:∃bc,cut[p]?=Ic bc:=⟨_,Ig hc1⟩;obtain⟨ac,rfl,hcell⟩:=(Kd.reads_of_C (d:=Ik) (Kd.C_below HK.1 HB4.1.b)).2.2 (by omega);have hcc:=hcell p hc1;rw[Ij,hbc]at hcc;simp only[JL]at hcc;have HBc:=MD hbc;have HC1:=MD hc1;clear hcell hbc;cases bc with
    |true=>
     have HSt2:aa (stepN f cut n ⟨p,xo⟩ nodes=nodes):=⟨by unfold stepN;rw[if_pos (show jn cut (p:Int)=Ir by unfold jn;rw[IC,Ij,HBc.1,decide_eq_true hc1'];rfl)]⟩;go_wp2;go_roundw
     case rel=>exact⟨n+1,nodes,_,by go_num,⟨⟨HB4.1,HN4.1,HLn.1,by rw[HSt2.1]at HSt;exact HSt.1⟩⟩⟩
     case measure=>have:=HLn.1;have:=HLen.1;have:=HL2.1;simp[Jj];omega
    |false=>
     have HCut:aa (jn cut (p:Int)=Ik):=⟨by unfold jn;simp[Ij,HBc.1]⟩;have HNx:=MD (λW=>oM y p (by have:=HHp.1;have:=HL2.1;omega) W);obtain⟨L,hL⟩:=ME (cL y (p:Int));have HLin:aa (∀a∈L,0<=a/\a<f.length):=⟨λa ha=>by
      rw[hL]at ha;rcases qx HF.1 HY.1 a ha with q|q
      .have h2:=HStop.1;rw[Ij,HY.1]at h2;simp only[JL]at h2;rw[h2]at q;exact absurd q (by decide)
      .exact q⟩
     have HL3:aa (L.length<=2):=⟨by rw[hL];unfold cL;split<;>(try split)<;>simp⟩;rw[<-hL]at HNx;have HStp:aa (stepN f cut n ⟨p,xo⟩ nodes=(bS f L nodes).2.set n ⟨p,(bS f L nodes).1⟩):=⟨by unfold stepN;rw[if_neg (by rw[HCut.1];decide),hL,IC,Ij,HY.1];rfl⟩;clear hL;go_upto_block 6 with(first
      |(go_at_call 79;refine(HNx.1 _).mono ?_;rintro e w4 ⟨vL,rfl,hfz,hb⟩;obtain⟨AL,rfl⟩:=sT hfz;have HFz:=MD hfz;have HB5:=MD (HB4.1.below hb);clear hfz hb))
     go_loopw [11,53] (λvO j wr=>∃(k:Nat) (outs:List aX) (nodes2:List aG) (v2:Io),j=Ib Ie k/\aa (zZ w f (Ia (Ic ad) f.length c) gs S.entry.cells (Ia AL L.length L.length) L nodes wr k outs nodes2 vO v2)) (λ_ j _=>L.length-(Jj j).toNat)
     case atStart=>exact⟨0,[],nodes,_,rfl,⟨⟨ID _,HFz.1,HB5.1.ok_mono (λk hk=>⟨hk,by simp[IQ]⟩),Kd.R_nil _ _ _ _ _,HN4.1,⟨[],by simp⟩,by simp,rfl⟩⟩⟩
     case round=>
      obtain⟨k,outs,nodes2,v2,rfl,HI⟩:=hrel;have hk:=HI.1.le;have hL2:=HL3.1;by_cases hkl:k<L.length
      .have hkl':(k:Int)<(L.length:Int):=by omega
       have hfz2:=HI.1.fz;obtain⟨gL,rfl,hgL⟩:∃gL,AL=Ic ⟨gL,0,Ih⟩/\wr.heap[gL]?=Ic (.cells (L.map (Ib .i64)).toArray 3 (0,0)):=by
        rcases hfz2 with⟨_,h⟩|⟨gL,h1,h2⟩
        .rw[h]at hkl;exact absurd hkl (by simp)
        .injection h1 with h1 _ _;exact⟨gL,h1,h2⟩
       obtain⟨am,ham⟩:∃am,L[k]?=Ic am:=⟨_,Ig hkl⟩;have hamr:=HLin.1 am (Iw ham);obtain⟨m,rfl⟩:∃m:Nat,am=m:=⟨am.toNat,by omega⟩;have eL:wr.cell? ⟨gL,k,Ih⟩=Ic (Ib Ie (m:Int)):=by rw[aq hgL,IK,ham];rfl
       obtain⟨AO,cO,rfl⟩:=Kd.R_slice HI.1.ro;have HCall:=MD (HWay.1 m (by omega) w.heap.size gs (gs+1+1) (gs+1) w.heap.size _ _ _ _ wr (HG.1.below HI.1.b.b) HI.1.b.box (Kd.C_below HC.1 HI.1.b.b) HI.1.b.sk (by have:=HI.1.ok.len;have:=HF.1.len;omega) (λk hk=>by omega) (λj hj=>⟨by have:=aj HI.1.b.sk.cn;omega,λe=>by have:=Kd.R_lt HI.1.ro j e.symm;omega⟩) HI.1.b.b.size);have hrun:=HI.1.run;rw[Jc hkl,(Ip.1 ham).2]at hrun;simp only[bS,IC]at hrun;have hokw:=HI.1.ok.way HF.1 (a:=m) (by omega);obtain⟨l2,hl2⟩:=nU f nodes2 m;obtain⟨r1,r2,hr12⟩:∃r1 r2,du f nodes2 m=(r1,r2):=⟨_,_,rfl⟩;rw[hr12]at HCall hrun hokw hl2;simp only at HCall hrun hokw hl2;have HRun:=MD hrun;have HOkw:=MD hokw;have HGr:=MD hl2;have HFresh:=MD (aj HI.1.b.sk.cn);have hk2:k<=2:=by omega
       clear hgL ham hamr hrun hokw hl2 hr12 hfz2;go_wp2_with (first
        |(go_at_call 78;refine HCall.1.mono ?_;rintro e w5 ⟨rfl,v3,hsk,hfr⟩;have K5:=MD (HI.1.way_step hfr hsk (by have:=HLt.1;omega));clear hsk hfr)
        |((with_reducible refine ai (N:=61) rfl ?_);refine dJ rfl _ (Ar r1 _ rfl rfl) ?_)
        |((with_reducible refine a6 (b:=.append) (xs:=#[.tmp 57,.tmp 61]) rfl ?_);at_builtin;refine Kd.R_append rI (w0:=w5) w.heap.size rfl (.tmp 57) (.tmp 61) 140 116 (IA (aX.cells ⟨0,bE⟩).toArray) 392 rfl Tryz.underlying140 qF rfl (by decide) (by omega) (Ia AO outs.length cO) (outs) (r1) r1.cells (λj=>gs+1+1<j) (λ_=>False) rfl rfl ?aP (λ_ hk=>hk.elim) ?aF ?aO ?aB ?aS ?aL ?_;(case aP=>exact rfl);(case aF=>exact(λb hb=>by have:=K5.1.2.2.2;have:=HFresh.1;omega));(case aO=>exact K5.1.2.2.1);(case aB=>exact Il _ _);(case aS=>exact K5.1.2.1.b.size);(case aL=>have:=HI.1.len;omega);intro vap wap ho hb hg hat;have K7:=MD (HI.1.app_step K5.1 ho hg hat HRun.1 HOkw.1 HGr.1 hkl (by have:=HLt.1;omega));clear ho hb hg hat))
       go_roundw
       case rel=>exact⟨k+1,outs++[r1],r2,v3,by go_num,K7⟩
       case measure=>simp[Jj];omega
      .obtain rfl:k=L.length:=by omega
       have hrun:=HI.1.run;rw[Ju (Iz _)]at hrun;simp only[bS,JS]at hrun;obtain⟨l,hl⟩:=HI.1.grows;have hx2:nodes2[n]?=Ic ⟨p,xo⟩:=by rw[hl,Jg HLn.1];exact HX.1
       obtain⟨AO,cO,rfl⟩:=Kd.R_slice HI.1.ro;obtain⟨g2,cap2,vO2,rfl,m0,m1,_,_⟩:=qo HI.1.b.sk.row n _ hx2;have hg2:=HI.1.b.sk.row.1 g2 (by simp[IQ]);have s25':=HI.1.b.sk.cell;have hn2l:n<nodes2.length:=(Ip.1 hx2).1;have hn2l':(n:Int)<(nodes2.length:Int):=by omega
       have hput:aa (∀(W6:Im),Kd.R dK 142 W6 w.heap.size (λj=>gs+1+1<j) (Ia (Ic ⟨g2,0,Ih⟩) nodes2.length cap2) (nodes2.set (n:Int).toNat ⟨p,outs⟩)->wr.grownBy W6 (Ic g2)->∃(nn:Nat) (nodes:List aG) (v:Io),Ib .i64 ((n:Int)+1)=Ib Ie nn/\aa (BSt w (Ia (Ic ad) f.length c) gs (gs+1) (gs+1+1) (λk=>gs+1+1<k) S.entry.cells W6 v nodes/\NOk f nodes/\nn<=nodes.length/\S.nodes=bI f cut (201-nn) nn nodes)):=
        ⟨λW6 hr6 hg6=>⟨n+1,_,_,by go_num,⟨⟨HI.1.b.put hr6 hg6 hg2.1 hx2 (by have:=HLt.1;omega),HI.1.ok.put (x:=⟨p,outs⟩) (by rw[IC,hx2];rfl),by rw[Jq];omega,by rw[HSt.1,HStp.1,hrun,IC]⟩⟩⟩⟩
       have HM0:=MD m0;have HM1:=MD m1;have HG2:=MD hg2;clear hrun hl hx2 m0 m1 hg2 hn2l;go_wp2_with (first
        |((with_reducible refine ap (t:=140) (p:=69) rfl ?_);refine Kd.R_store dK (w0:=wr) (o':=n*2+1) w.heap.size rfl rfl 140 _ _ rfl 142 (n:Int) 1 nodes2 ⟨p,outs⟩ (Ia AO outs.length cO) [Ia AO outs.length cO] [Ib Ie (p:Int),vO2] (λj=>gs+1+1<j) (λj=>gs+1+1<j/\j≠g2) rfl rfl rfl rfl AC (by simp[IH]) (Kd.R_mono HI.1.b.sk.row (λj hj=>hj.1)) (by omega) hn2l' rfl (qw HM0.1 HM1.1) (Iz 2) (Dn HI.1.ro HI.1.b.sk.row) (λk hk=>hk) (Il _ _) ?_;intro w6 hr6 hb6 hg6;have Z:=MD (hput.1 w6 hr6 hg6);clear hr6 hb6 hg6))
       go_roundw
       case rel=>exact Z.1
       case measure=>simp[Jj];omega
   .have hc1':¬(p:Int)<(cut.length:Int):=by omega
    have HCut:aa (jn cut (p:Int)=Ik):=⟨by unfold jn;simp[hc1]⟩;clear hc1;have HNx:=MD (λW=>oM y p (by have:=HHp.1;have:=HL2.1;omega) W);obtain⟨L,hL⟩:=ME (cL y (p:Int));have HLin:aa (∀a∈L,0<=a/\a<f.length):=⟨λa ha=>by
     rw[hL]at ha;rcases qx HF.1 HY.1 a ha with q|q
     .have h2:=HStop.1;rw[Ij,HY.1]at h2;simp only[JL]at h2;rw[h2]at q;exact absurd q (by decide)
     .exact q⟩
    have HL3:aa (L.length<=2):=⟨by rw[hL];unfold cL;split<;>(try split)<;>simp⟩;rw[<-hL]at HNx;have HStp:aa (stepN f cut n ⟨p,xo⟩ nodes=(bS f L nodes).2.set n ⟨p,(bS f L nodes).1⟩):=⟨by unfold stepN;rw[if_neg (by rw[HCut.1];decide),hL,IC,Ij,HY.1];rfl⟩;clear hL;go_upto_block 6 with(first
     |(go_at_call 79;refine(HNx.1 _).mono ?_;rintro e w4 ⟨vL,rfl,hfz,hb⟩;obtain⟨AL,rfl⟩:=sT hfz;have HFz:=MD hfz;have HB5:=MD (HB4.1.below hb);clear hfz hb))
    go_loopw [11,53] (λvO j wr=>∃(k:Nat) (outs:List aX) (nodes2:List aG) (v2:Io),j=Ib Ie k/\aa (zZ w f (Ia (Ic ad) f.length c) gs S.entry.cells (Ia AL L.length L.length) L nodes wr k outs nodes2 vO v2)) (λ_ j _=>L.length-(Jj j).toNat)
    case atStart=>exact⟨0,[],nodes,_,rfl,⟨⟨ID _,HFz.1,HB5.1.ok_mono (λk hk=>⟨hk,by simp[IQ]⟩),Kd.R_nil _ _ _ _ _,HN4.1,⟨[],by simp⟩,by simp,rfl⟩⟩⟩
    case round=>
     obtain⟨k,outs,nodes2,v2,rfl,HI⟩:=hrel;have hk:=HI.1.le;have hL2:=HL3.1;by_cases hkl:k<L.length
     .have hkl':(k:Int)<(L.length:Int):=by omega
      have hfz2:=HI.1.fz;obtain⟨gL,rfl,hgL⟩:∃gL,AL=Ic ⟨gL,0,Ih⟩/\wr.heap[gL]?=Ic (.cells (L.map (Ib .i64)).toArray 3 (0,0)):=by
       rcases hfz2 with⟨_,h⟩|⟨gL,h1,h2⟩
       .rw[h]at hkl;exact absurd hkl (by simp)
       .injection h1 with h1 _ _;exact⟨gL,h1,h2⟩
      obtain⟨am,ham⟩:∃am,L[k]?=Ic am:=⟨_,Ig hkl⟩;have hamr:=HLin.1 am (Iw ham);obtain⟨m,rfl⟩:∃m:Nat,am=m:=⟨am.toNat,by omega⟩;have eL:wr.cell? ⟨gL,k,Ih⟩=Ic (Ib Ie (m:Int)):=by rw[aq hgL,IK,ham];rfl
      obtain⟨AO,cO,rfl⟩:=Kd.R_slice HI.1.ro;have HCall:=MD (HWay.1 m (by omega) w.heap.size gs (gs+1+1) (gs+1) w.heap.size _ _ _ _ wr (HG.1.below HI.1.b.b) HI.1.b.box (Kd.C_below HC.1 HI.1.b.b) HI.1.b.sk (by have:=HI.1.ok.len;have:=HF.1.len;omega) (λk hk=>by omega) (λj hj=>⟨by have:=aj HI.1.b.sk.cn;omega,λe=>by have:=Kd.R_lt HI.1.ro j e.symm;omega⟩) HI.1.b.b.size);have hrun:=HI.1.run;rw[Jc hkl,(Ip.1 ham).2]at hrun;simp only[bS,IC]at hrun;have hokw:=HI.1.ok.way HF.1 (a:=m) (by omega);obtain⟨l2,hl2⟩:=nU f nodes2 m;obtain⟨r1,r2,hr12⟩:∃r1 r2,du f nodes2 m=(r1,r2):=⟨_,_,rfl⟩;rw[hr12]at HCall hrun hokw hl2;simp only at HCall hrun hokw hl2;have HRun:=MD hrun;have HOkw:=MD hokw;have HGr:=MD hl2;have HFresh:=MD (aj HI.1.b.sk.cn);have hk2:k<=2:=by omega
      clear hgL ham hamr hrun hokw hl2 hr12 hfz2;go_wp2_with (first
       |(go_at_call 78;refine HCall.1.mono ?_;rintro e w5 ⟨rfl,v3,hsk,hfr⟩;have K5:=MD (HI.1.way_step hfr hsk (by have:=HLt.1;omega));clear hsk hfr)
       |((with_reducible refine ai (N:=61) rfl ?_);refine dJ rfl _ (Ar r1 _ rfl rfl) ?_)
       |((with_reducible refine a6 (b:=.append) (xs:=#[.tmp 57,.tmp 61]) rfl ?_);at_builtin;refine Kd.R_append rI (w0:=w5) w.heap.size rfl (.tmp 57) (.tmp 61) 140 116 (IA (aX.cells ⟨0,bE⟩).toArray) 392 rfl Tryz.underlying140 qF rfl (by decide) (by omega) (Ia AO outs.length cO) (outs) (r1) r1.cells (λj=>gs+1+1<j) (λ_=>False) rfl rfl ?aP (λ_ hk=>hk.elim) ?aF ?aO ?aB ?aS ?aL ?_;(case aP=>exact rfl);(case aF=>exact(λb hb=>by have:=K5.1.2.2.2;have:=HFresh.1;omega));(case aO=>exact K5.1.2.2.1);(case aB=>exact Il _ _);(case aS=>exact K5.1.2.1.b.size);(case aL=>have:=HI.1.len;omega);intro vap wap ho hb hg hat;have K7:=MD (HI.1.app_step K5.1 ho hg hat HRun.1 HOkw.1 HGr.1 hkl (by have:=HLt.1;omega));clear ho hb hg hat))
      go_roundw
      case rel=>exact⟨k+1,outs++[r1],r2,v3,by go_num,K7⟩
      case measure=>simp[Jj];omega
     .obtain rfl:k=L.length:=by omega
      have hrun:=HI.1.run;rw[Ju (Iz _)]at hrun;simp only[bS,JS]at hrun;obtain⟨l,hl⟩:=HI.1.grows;have hx2:nodes2[n]?=Ic ⟨p,xo⟩:=by rw[hl,Jg HLn.1];exact HX.1
      obtain⟨AO,cO,rfl⟩:=Kd.R_slice HI.1.ro;obtain⟨g2,cap2,vO2,rfl,m0,m1,_,_⟩:=qo HI.1.b.sk.row n _ hx2;have hg2:=HI.1.b.sk.row.1 g2 (by simp[IQ]);have s25':=HI.1.b.sk.cell;have hn2l:n<nodes2.length:=(Ip.1 hx2).1;have hn2l':(n:Int)<(nodes2.length:Int):=by omega
      have hput:aa (∀(W6:Im),Kd.R dK 142 W6 w.heap.size (λj=>gs+1+1<j) (Ia (Ic ⟨g2,0,Ih⟩) nodes2.length cap2) (nodes2.set (n:Int).toNat ⟨p,outs⟩)->wr.grownBy W6 (Ic g2)->∃(nn:Nat) (nodes:List aG) (v:Io),Ib .i64 ((n:Int)+1)=Ib Ie nn/\aa (BSt w (Ia (Ic ad) f.length c) gs (gs+1) (gs+1+1) (λk=>gs+1+1<k) S.entry.cells W6 v nodes/\NOk f nodes/\nn<=nodes.length/\S.nodes=bI f cut (201-nn) nn nodes)):=
       ⟨λW6 hr6 hg6=>⟨n+1,_,_,by go_num,⟨⟨HI.1.b.put hr6 hg6 hg2.1 hx2 (by have:=HLt.1;omega),HI.1.ok.put (x:=⟨p,outs⟩) (by rw[IC,hx2];rfl),by rw[Jq];omega,by rw[HSt.1,HStp.1,hrun,IC]⟩⟩⟩⟩
      have HM0:=MD m0;have HM1:=MD m1;have HG2:=MD hg2;clear hrun hl hx2 m0 m1 hg2 hn2l;go_wp2_with (first
       |((with_reducible refine ap (t:=140) (p:=69) rfl ?_);refine Kd.R_store dK (w0:=wr) (o':=n*2+1) w.heap.size rfl rfl 140 _ _ rfl 142 (n:Int) 1 nodes2 ⟨p,outs⟩ (Ia AO outs.length cO) [Ia AO outs.length cO] [Ib Ie (p:Int),vO2] (λj=>gs+1+1<j) (λj=>gs+1+1<j/\j≠g2) rfl rfl rfl rfl AC (by simp[IH]) (Kd.R_mono HI.1.b.sk.row (λj hj=>hj.1)) (by omega) hn2l' rfl (qw HM0.1 HM1.1) (Iz 2) (Dn HI.1.ro HI.1.b.sk.row) (λk hk=>hk) (Il _ _) ?_;intro w6 hr6 hb6 hg6;have Z:=MD (hput.1 w6 hr6 hg6);clear hr6 hb6 hg6))
      go_roundw
      case rel=>exact Z.1
      case measure=>simp[Jj];omega
  .obtain rfl:n=nodes.length:=by omega
   have hfin2:S.nodes=nodes:=by
    rw[hfin,show 201-nodes.length=(200-nodes.length)+1 by omega];unfold bI;rw[I0 (by omega)]
   have HB4:=MD hB;have HFin:=MD hfin2;clear hB hN hn hfin hfin2;go_wp2_with (first
    |((with_reducible refine ai (N:=70) rfl ?_);refine II rfl 119 _ rfl gs rfl 119 (S.entry.cells++[Ia AN nodes.length cN]).toArray (0,0) _ HB4.1.sk.cs KE rfl (d_ _ _) ?_)
    |((with_reducible refine ap (t:=119) (p:=4) rfl ?_);refine an rfl 119 _ _ rfl (w.heap.size+1) (S.entry.cells++[Ia AN nodes.length cN]).toArray rfl rfl 119 gu.toArray HB4.1.res (d_ _ _) (skz.trans (li _ _).symm) (te _) ?_;intro w6 h6 hf6;have H6:=MD h6;have F6:=MD hf6;clear h6 hf6))
   have B6:It w.heap.size w w6:=Fr.below HB4.1.b F6.1 (λk hk h=>by omega) HB4.1.b.size;refine IG (v:=IR #[IA (S.entry.cells++[Ia AN nodes.length cN]).toArray,Ib Ie 0]) (aD (rs:=[.cell 4 119,.tmp 5]) rfl (by simp) (.cell (w.heap.size+1) 119 (S.entry.cells++[Ia AN nodes.length cN]).toArray (0,0) _ rfl H6.1 KE rfl (d_ _ _) (.tmp .nil))) rfl ⟨_,rfl,?_,B6⟩;rw[HFin.1];exact Kd.R_mono (Kd.R_step HB4.1.sk.row (λk hk hl=>F6.1.block k hl (by have:=HLt.1;omega))) (λk hk=>by have:=HLt.1;omega)
theorem yE(f:List In)(cut:List Bool)(A Ac:Option Addr)(c cc:Nat)(w:Im)(hG:Gl w)(hC:Kd.C kIn w A f.length f)(hc:f.length<=c)(hK:Kd.C Kd.bool w Ac cut.length cut)(hr:bi f=Ir) :
  I9 If 49 #[Ia A f.length c,Ia Ac cut.length cc] w λe w'=>∃vN,e=Iv (IR #[IA ((aJ f cut).entry.cells++[vN]).toArray,Ib Ie 0])/\Rd dK w' vN (aJ f cut).nodes/\It w.heap.size w w':=
 (i9 f cut A Ac c cc w hG hC hc hK hr).mono λe w' ⟨v,h1,h3,h4⟩=>⟨v,h1,Rd.of_R h3,h4⟩
end Go.Proofs.YtlinbehijfcelaaGreatDoor.Top
