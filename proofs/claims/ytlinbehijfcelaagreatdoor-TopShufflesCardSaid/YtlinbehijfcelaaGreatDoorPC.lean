/- Walks of the program, and what it computes, told plainly. No condition. (TF TG TI TJ TK TL TM) -/
import Derived.Below
import Derived.Deep.Draws
import Derived.Deep.AppendLies
import Derived.Maps.AppendAt
import Derived.OwnWalk
import Derived.Laws.BytesArg
import Derived.Laws.MakeOwn
import Derived.Laws.OwnMore
import Derived.Deep.OwnRows
import Derived.Tactics
import Derived.Lib.ConvBytes
import Derived.Laws.Slices
import Derived.WalkKit
import Derived.KernelRfl
import Derived.RowKit3
import Derived.Deep.LoopGhost
import Derived.Deep.QuietTactic
import Derived.BigQuiet
import Derived.WideLaws
import Derived.Deep.DeepCutAuto
import Derived.Deep.CutBlock
import Derived.Deep.RegionHeld3
import Derived.Laws.Rows
import Derived.Lib.AppendStr
import Derived.ArgAppend
import Derived.Laws.IdiomCopy
import Derived.RowKit
import Derived.OrdersHeld
import Derived.Laws.BitsLemmas
import Derived.Laws.StructEq
import Derived.Test.YtlinbehijfcelaaGreatDoorProg
import Derived.Deep.WholeRow
import Derived.Laws.CopyOwn
import Derived.Carry
import Derived.ChangeKeysEq
import Derived.Laws.RangeAny
import Derived.Test.YtlinbehijfcelaaGreatDoorPA
import Derived.Test.YtlinbehijfcelaaGreatDoorPB
set_option linter.unusedVariables false
set_option linter.unusedSimpArgs false
set_option linter.unusedSectionVars false
set_option maxHeartbeats 8000000
set_option maxRecDepth 100000
open List renaming all_eq_true->Jd,append_nil->JS,drop_eq_getElem_cons->Jc,drop_of_length_le->Ju,getD_eq_getElem?_getD->Ij,getElem?_eq_getElem->Ig,getElem?_eq_none->I0,getElem?_eq_some_iff->Ip,getElem_mem->K8,map_cons->Jt,map_nil->La,map_toArray->Mt,mem_range->Kq,range->Jy
open Bool renaming false->Ik,true->Ir
open Go renaming Calls->I9,IntKind->LP,Operand->Lf,Program->Jn,TypeId->Je,Value->Io,World->Im,below_setRow->Jl,bodyPost_ret->IG,bytes->KU,execOp->JJ,heap_alloc_last->Iu,loadVar->Le,run_underlying->I2,setRow_heap->JX,undef->KG,wpList->Kg,wpList_load_row->II,wpList_store_row->I3,yielded->KH
open Go.RowKit renaming Below->It,intOf->Jj,wrap64->JW
open Go.RowKit.Below renaming heap_setCell->Ld,refl->Il
open Option renaming map_eq_some_iff->Ks,none->Ih,some->Ic
open Go.Value renaming agg->IA,bool->Iy,int->Ib,oneCell'->IH,pointer->Iq,slice->Ia,tuple->IR
open Go.IntKind renaming i64->Ie,u64->LA
open Go.Ending renaming returned->Iv
open Go.Proofs.Tryz renaming func95->Ln,ntmps95->Lb,prog->If,underlying49->I6
open Go.Obj renaming cells->Is
open Nat renaming le_mul_of_pos_right->Mk,le_refl->Iz,le_trans->IT,lt_of_lt_of_le->Kw,zero_le->ID
open Prod.mk renaming injEq->IM
open Option.some renaming inj->Ii,injEq->Ja
open Go.Instr renaming next->LD,sureAddr->Mg
open Int renaming toNat_natCast->IC
open ByteArray renaming empty->Ji
open Array renaming getElem?_setIfInBounds_ne->Kf,length_toList->LJ
open Go.Addr renaming add->Mo
open Go.Sem renaming run_bind->IJ,run_pure->JO
open Go.Result renaming andThen->Jf,andThen_ok->I1
open Go.Region renaming wanted->Jk
namespace Go.Proofs.YtlinbehijfcelaaGreatDoor.Top
open Go.RowKit Go.Proofs.YtlinbehijfcelaaGreatDoorW.PrintWords Go.Proofs.YtlinbehijfcelaaGreatDoorW.PrintLast
section
def bl(f:ByteArray)(k:Nat):List Int:=((Jy f.size).map λi:Nat=>bt f (i:Int)).drop k
theorem Bf{f:ByteArray}{k:Nat}(h:k<f.size):bl f k=bt f (k:Int)::bl f (k+1):=by
 unfold bl;rw[Jc (by simpa using h)];simp
theorem Ef(f:ByteArray):bl f f.size=[]:=by
 unfold bl;rw[Ju (by simp)]
def ib(x:In)(n:Int):List Int->Bool->Int
 | [],far=>if far=Ir then 4 else 0
 |c::cs,far=>if c=78 then ib x n cs far else if c=84 then ib x n cs (decide (x.jt<0\/n<=x.jt))
  else if 97<=c then(if inR (x.get (ez c))=Ir then ib x n cs far else 6)else(if jG (x.get (ez c))=Ir then ib x n cs far else 6)
def mz(x:In):Bool:=!kY x.op||(!decide (ja x (shF x.op)=In.zero)||(x.op==15&&(decide (x.n<0)||decide (99<x.n))))
def cy(x:In)(n:Int):Int:=if mz x=Ir then 1 else ib x n (bl (shF x.op) 0) Ik
theorem pj(op:Int):Asc (shF op):=by
 unfold shF;split
 .have h:∀p∈aM,Asc p.2:=by
   have h2:(aM.all λp=>(Jy p.2.size).all λi=>decide (bt p.2 i<128))=Ir:=by decide +kernel
   intro p hp i hi;have h3:=Jd.1 h2 p hp;exact of_decide_eq_true (Jd.1 h3 i (Kq.2 hi))
  by_cases hi:(op-1).toNat<aM.length
  .rw[Ij,Ig hi]
   exact h _ (K8 hi)
  .rw[Ij,I0 (by omega)]
   intro i hi;exact absurd hi (by decide +revert)
 .intro i hi
  exact absurd hi (by decide +revert)
section
variable{x:In}{n c:Int}{cs:List Int}{b:Bool}
theorem G2(h:c=78):ib x n (c::cs) b=ib x n cs b:=by simp only[ib,if_pos h]
theorem G1(h:c=84):ib x n (c::cs) b=ib x n cs (decide (x.jt<0\/n<=x.jt)):=by subst h;simp only[ib];rfl
theorem G3(h1:c≠78)(h2:c≠84)(h3:97<=c):ib x n (c::cs) b=if inR (x.get (ez c))=Ir then ib x n cs b else 6:=by simp only[ib,if_neg h1,if_neg h2,if_pos h3]
theorem G4(h1:c≠78)(h2:c≠84)(h3:¬97<=c):ib x n (c::cs) b=if jG (x.get (ez c))=Ir then ib x n cs b else 6:=by simp only[ib,if_neg h1,if_neg h2,if_neg h3]
end
theorem bW{w w':Im}(h:jv w w'):It w.heap.size w w':=by
 obtain⟨nd,rfl⟩:=h;exact aQ (Il _ _) _
def Hh(w:Im)(x:In)(f:ByteArray)(g gi:Nat)(k:Nat)(W:Im):Prop:=k<=f.size/\w.heap.size<=gi/\g<gi/\It w.heap.size w W/\bq W g x/\W.heap[gi]?=Ic (.stringIter f k)
theorem BG(x:In)(s f:ByteArray)(hf:Asc f)(r:In)(hr:ja x f=r)(w:Im):I9 If 97 #[IA #[Ib Ie x.op,Ib Ie x.d,Ib Ie x.a,Ib Ie x.b,Ib Ie x.n,Ib Ie x.jt],IA #[.string s,.string f]] w λe w'=>e=Iv (IA #[Ib Ie r.op,Ib Ie r.d,Ib Ie r.a,Ib Ie r.b,Ib Ie r.n,Ib Ie r.jt])/\It w.heap.size w w':=by
 subst hr;exact Dw x s f hf w
theorem GM(x:In)(b:Bool)(hb:decide (x=In.zero)=b)(w:Im):(binOp .neq 49 (IA #[Ib Ie x.op,Ib Ie x.d,Ib Ie x.a,Ib Ie x.b,Ib Ie x.n,Ib Ie x.jt]) (IA #[Ib Ie 0,Ib Ie 0,Ib Ie 0,Ib Ie 0,Ib Ie 0,Ib Ie 0])).run If w=.ok (Iy (!b)) w:=by
 rw[<-hb];exact Hk x In.zero w
theorem bq.cells6{w:Im}{g:Nat}{x:In}(h:bq w g x):w.cell? ⟨g,0,Ih⟩=Ic (Ib Ie x.op)/\w.cell? ⟨g,1,Ih⟩=Ic (Ib Ie x.d)/\w.cell? ⟨g,2,Ih⟩=Ic (Ib Ie x.a)/\w.cell? ⟨g,3,Ih⟩=Ic (Ib Ie x.b)/\w.cell? ⟨g,4,Ih⟩=Ic (Ib Ie x.n)/\w.cell? ⟨g,5,Ih⟩=Ic (Ib Ie x.jt):=
 ⟨h.get 0 (by omega),h.get 1 (by omega),h.get 2 (by omega),h.get 3 (by omega),h.get 4 (by omega),h.get 5 (by omega)⟩
theorem nV{w:Im}{g:Nat}{a b:Io}{t:Nat}(h:w.heap[g]?=Ic (.cells #[a,b] t (0,0))):w.cell? ⟨g,0,Ih⟩=Ic a/\w.cell? ⟨g,1,Ih⟩=Ic b:=⟨by rw[ah h];rfl,by rw[ah h];rfl⟩
theorem sj(x:In)(n:Int)(w:Im)(hG:Gl w):I9 If 77 #[IA x.cells,Ib Ie n] w λe w'=>e=Iv (Ib Ie (cy x n))/\It w.heap.size w w':=by
 have HG:=MD hG;clear hG;rw[kz];obtain⟨o,ho⟩:=ME (kY x.op);obtain⟨s,hs⟩:=ME (shW x.op);obtain⟨f,hf⟩:=ME (shF x.op);obtain⟨r,hr⟩:=ME (ja x f);obtain⟨z,hz⟩:=ME (decide (r=In.zero));have hof:=Dx x.op;rw[<-ho,<-hs,<-hf]at hof;have HOf:=MD hof;have HRest:=MD (BG x s f (by rw[hf];exact pj _) r hr.symm);have hne:=GM r z hz.symm;have hbad:mz x=(!o||(!z||(x.op==15&&(decide (x.n<0)||decide (99<x.n))))):=by unfold mz;rw[<-ho,<-hf,<-hr,hz]
 have hval:cy x n=if(!o||(!z||(x.op==15&&(decide (x.n<0)||decide (99<x.n)))))=Ir then 1 else ib x n (bl f 0) Ik:=by unfold cy;rw[hbad,<-hf]
 rw[hval];have HF:aa (Asc f):=⟨by rw[hf];exact pj _⟩;clear hval hbad ho hs hf hr hz hof;obtain⟨b,hb⟩:∃b:Bool,b=(!o||(!z||(x.op==15&&(decide (x.n<0)||decide (99<x.n))))):=⟨_,rfl⟩;rw[<-hb];have HB:=MD hb;clear hb;obtain⟨R,hR⟩:=ME (ib x n (bl f 0) Ik);rw[<-hR];have HR:=MD hR;clear hR;go_enter Tryz.func77,Tryz.ntmps77;go_upto_region 2 with(first
   |(go_at_call 85;refine(HOf.1 _ (HG.1.below (ae (Il _ _) _))).mono ?_;rintro e w1 ⟨rfl,hb⟩;have HB1:=MD (af (ae (Il _ _) _) hb);have KI:=MD (show bq w1 w.heap.size x from bq.below (show bq (w.alloc (Is x.cells 49 (0,0))) w.heap.size x from Iu w _) hb);clear hb))
 have KI2:=MD (KI.1.below (ae (Il _ _) (Is #[.string s,.string f] 169 (0,0))));have KS:aa ((w1.alloc (Is #[.string s,.string f] 169 (0,0))).heap[w1.heap.size]?=Ic (.cells #[.string s,.string f] 169 (0,0))):=⟨Iu w1 _⟩;have HB2:=MD (ae HB1.1 (Is #[.string s,.string f] 169 (0,0)));go_cut [39]from 16 to 38 (λc wx=>c=Iy b/\aa (It w.heap.size w wx/\bq wx w.heap.size x/\wx.heap[w1.heap.size]?=Ic (.cells #[.string s,.string f] 169 (0,0))))
 case first=>
  obtain⟨q0,q1,q2,q3,q4,q5⟩:=KI2.1.cells6;obtain⟨r0,r1⟩:=nV KS.1;cases o with
  |false=>
   obtain rfl:b=Ir:=HB.1;go_wp2_with fail;go_meet
   case rel=>exact⟨rfl,⟨⟨HB2.1,KI2.1,KS.1⟩⟩⟩
  |true=>
   cases z with
   |false=>
    obtain rfl:b=Ir:=HB.1;go_wp2_with (first
    |(go_at_call 97;refine(HRest.1 _).mono ?_;rintro e w2 ⟨rfl,hb⟩;have KI3:=MD (KI2.1.below hb);have KS3:=MD ((hb.block _ (aj KS.1)).trans KS.1);have HB3:=MD (af HB2.1 hb);clear hb;obtain⟨g0,g1,g2,g4⟩:=KI3.1.cells))
    go_meet
    case rel=>exact⟨rfl,⟨⟨HB3.1,KI3.1,KS3.1⟩⟩⟩
   |true=>
    cases h15:(x.op==15)with
    |false=>
     obtain rfl:b=Ik:=by rw[HB.1,h15];rfl
     go_wp2_with (first
    |(go_at_call 97;refine(HRest.1 _).mono ?_;rintro e w2 ⟨rfl,hb⟩;have KI3:=MD (KI2.1.below hb);have KS3:=MD ((hb.block _ (aj KS.1)).trans KS.1);have HB3:=MD (af HB2.1 hb);clear hb;obtain⟨g0,g1,g2,g4⟩:=KI3.1.cells))
     go_meet
     case rel=>exact⟨rfl,⟨⟨HB3.1,KI3.1,KS3.1⟩⟩⟩
    |true=>
     have HB':aa (b=(decide (x.n<0)||decide (99<x.n))):=⟨by rw[HB.1,h15];simp⟩;by_cases hn0:x.n<0
     .obtain rfl:b=Ir:=by rw[HB'.1,decide_eq_true hn0];rfl
      go_wp2_with (first
    |(go_at_call 97;refine(HRest.1 _).mono ?_;rintro e w2 ⟨rfl,hb⟩;have KI3:=MD (KI2.1.below hb);have KS3:=MD ((hb.block _ (aj KS.1)).trans KS.1);have HB3:=MD (af HB2.1 hb);clear hb;obtain⟨g0,g1,g2,g4⟩:=KI3.1.cells))
      go_meet
      case rel=>exact⟨rfl,⟨⟨HB3.1,KI3.1,KS3.1⟩⟩⟩
     .have hbd:b=decide (99<x.n):=by rw[HB'.1,decide_eq_false hn0];rfl
      have HBd:=MD hbd;clear hbd;by_cases hn9:99<x.n
      .obtain rfl:b=Ir:=by rw[HBd.1,decide_eq_true hn9]
       go_wp2_with (first
    |(go_at_call 97;refine(HRest.1 _).mono ?_;rintro e w2 ⟨rfl,hb⟩;have KI3:=MD (KI2.1.below hb);have KS3:=MD ((hb.block _ (aj KS.1)).trans KS.1);have HB3:=MD (af HB2.1 hb);clear hb;obtain⟨g0,g1,g2,g4⟩:=KI3.1.cells))
       go_meet
       case rel=>exact⟨rfl,⟨⟨HB3.1,KI3.1,KS3.1⟩⟩⟩
      .obtain rfl:b=Ik:=by rw[HBd.1,decide_eq_false hn9]
       have hn0':=decide_eq_false hn0;have hn9':=decide_eq_false hn9;go_wp2_with (first
    |(go_at_call 97;refine(HRest.1 _).mono ?_;rintro e w2 ⟨rfl,hb⟩;have KI3:=MD (KI2.1.below hb);have KS3:=MD ((hb.block _ (aj KS.1)).trans KS.1);have HB3:=MD (af HB2.1 hb);clear hb;obtain⟨g0,g1,g2,g4⟩:=KI3.1.cells))
       go_meet
       case rel=>exact⟨by simp only[hn0',hn9',Bool.or_self],⟨⟨HB3.1,KI3.1,KS3.1⟩⟩⟩
 case rest=>
  obtain⟨rfl,HS⟩:=hcut;obtain⟨hB,hI,hS⟩:=HS.1;have HB4:=MD hB;have KI4:=MD hI;have KS4:=MD hS;obtain⟨r0,r1⟩:=nV hS;clear hB hI hS HS;cases b with
  |true=>
   clear r0 r1;go_wp2_with fail;go_ret;exact⟨rfl,HB4.1⟩
  |false=>
   go_wp2_with fail;go_loopw [7,9] (λfar _ wr=>∃(k:Nat) (b:Bool),far=Iy b/\aa (Hh w x f w.heap.size wc.heap.size k wr/\ib x n (bl f k) b=R)) (λ_ _ wr=>f.size-wr.iterPos wc.heap.size)
   case atStart=>exact⟨0,Ik,rfl,⟨⟨⟨ID _,HB4.1.size,aj KI4.1,af HB4.1 (ae (Il _ _) _),KI4.1.below (ae (Il _ _) _),Iu wc _⟩,HR.1.symm⟩⟩⟩
   case round=>
    obtain⟨k,b,rfl,HS⟩:=hrel;obtain⟨⟨hk,hgi,hlt2,hb,hx,hi⟩,hch⟩:=HS.1;have HGi:=MD hgi;have HLt:=MD hlt2;by_cases hlt:k<f.size
    .have ha:=HF.1 k hlt
     have hnx:=λty=>fW (P:=If) wr wc.heap.size f k ty hi hlt ha;obtain⟨w2,hw2⟩:=ME (World.setIter wr wc.heap.size f (k+1));have HI:aa (w2.heap[wc.heap.size]?=Ic (.stringIter f (k+1))):=⟨by rw[hw2];exact fj hi _⟩;have HX:aa (bq w2 w.heap.size x):=⟨by rw[hw2];exact jm hx (by omega) _ _⟩;have HB5:aa (It w.heap.size w w2):=⟨by rw[hw2];exact eB hb (by omega) _ _⟩;rw[<-hw2]at hnx;obtain⟨c,hc⟩:∃c:Int,c=bt f k:=⟨_,rfl⟩;rw[Bf hlt,<-hc]at hch;rw[<-hc]at hnx;have HCh:=MD hch;have HI0:=MD hi;have HLk:=MD hlt;clear hc hw2 hi hx hb ha HS hch hgi hlt2 hk hlt;by_cases c78:c=78
     .rw[G2 c78]at HCh
      subst c78;go_wp2;go_roundw
      case rel=>exact⟨k+1,b,rfl,⟨⟨⟨HLk.1,HGi.1,HLt.1,HB5.1,HX.1,HI.1⟩,HCh.1⟩⟩⟩
      case measure=>rw[bd HI.1,bd HI0.1];have:=HLk.1;omega
     .by_cases c84:c=84
      .rw[G1 c84]at HCh
       subst c84;obtain⟨q0,q1,q2,q3,q4,q5⟩:=HX.1.cells6;by_cases t1:x.jt<0
       .have e:decide (x.jt<0\/n<=x.jt)=Ir:=decide_eq_true (.inl t1)
        rw[e]at HCh;clear e;go_wp2;go_roundw
        case rel=>exact⟨k+1,Ir,rfl,⟨⟨⟨HLk.1,HGi.1,HLt.1,HB5.1,HX.1,HI.1⟩,HCh.1⟩⟩⟩
        case measure=>rw[bd HI.1,bd HI0.1];have:=HLk.1;omega
       .have e:decide (x.jt<0\/n<=x.jt)=decide (x.jt>=n):=by rw[decide_eq_decide];omega
        rw[e]at HCh;clear e;go_wp2;go_roundw
        case rel=>exact⟨k+1,_,rfl,⟨⟨⟨HLk.1,HGi.1,HLt.1,HB5.1,HX.1,HI.1⟩,HCh.1⟩⟩⟩
        case measure=>rw[bd HI.1,bd HI0.1];have:=HLk.1;omega
      .have e1:(c==78)=Ik:=beq_eq_false_iff_ne.mpr c78
       have e2:(c==84)=Ik:=beq_eq_false_iff_ne.mpr c84;have gf:=HX.1.get (ez c) (nB c);by_cases c97:97<=c
       .rw[G3 c78 c84 c97]at HCh
        have e3:decide (c>=97)=Ir:=decide_eq_true c97;have e4:decide (c<97)=Ik:=decide_eq_false (by omega);obtain⟨v,hv⟩:=ME (x.get (ez c));rw[<-hv]at gf HCh;have hri:=sf v;obtain⟨q,hq⟩:=ME (inR v);rw[<-hq]at hri HCh;have HRi:=MD hri;clear hri hq hv c78 c84 c97;cases q with
        |true=>
         go_wp2_with (first
      |(go_at_call 86;refine(g_ _ _ _).mono ?_;rintro e w' ⟨rfl,rfl⟩)
      |(go_at_call 94;refine(HRi.1 _).mono ?_;rintro e w3 ⟨rfl,hd⟩;have HD:=MD (bW hd);clear hd)
      |(go_at_call 98;refine(HRg.1 _).mono ?_;rintro e w3 ⟨rfl,hd⟩;have HD:=MD (bW hd);clear hd))
         go_roundw
         case rel=>exact⟨k+1,b,rfl,⟨⟨⟨HLk.1,HGi.1,HLt.1,af HB5.1 HD.1,HX.1.below HD.1,(HD.1.block _ (aj HI.1)).trans HI.1⟩,HCh.1⟩⟩⟩
         case measure=>rw[bd ((HD.1.block _ (aj HI.1)).trans HI.1),bd HI0.1];have:=HLk.1;omega
        |false=>
         have hR6:R=6:=HCh.1.symm;subst hR6;go_wp2_with (first
      |(go_at_call 86;refine(g_ _ _ _).mono ?_;rintro e w' ⟨rfl,rfl⟩)
      |(go_at_call 94;refine(HRi.1 _).mono ?_;rintro e w3 ⟨rfl,hd⟩;have HD:=MD (bW hd);clear hd)
      |(go_at_call 98;refine(HRg.1 _).mono ?_;rintro e w3 ⟨rfl,hd⟩;have HD:=MD (bW hd);clear hd))
         go_ret;exact⟨rfl,af HB5.1 HD.1⟩
       .rw[G4 c78 c84 c97]at HCh
        have e3:decide (c>=97)=Ik:=decide_eq_false c97;have e4:decide (c<97)=Ir:=decide_eq_true (by omega);obtain⟨v,hv⟩:=ME (x.get (ez c));rw[<-hv]at gf HCh;have hri:=nj v;obtain⟨q,hq⟩:=ME (jG v);rw[<-hq]at hri HCh;have HRg:=MD hri;clear hri hq hv c78 c84 c97;cases q with
        |true=>
         go_wp2_with (first
      |(go_at_call 86;refine(g_ _ _ _).mono ?_;rintro e w' ⟨rfl,rfl⟩)
      |(go_at_call 94;refine(HRi.1 _).mono ?_;rintro e w3 ⟨rfl,hd⟩;have HD:=MD (bW hd);clear hd)
      |(go_at_call 98;refine(HRg.1 _).mono ?_;rintro e w3 ⟨rfl,hd⟩;have HD:=MD (bW hd);clear hd))
         go_roundw
         case rel=>exact⟨k+1,b,rfl,⟨⟨⟨HLk.1,HGi.1,HLt.1,af HB5.1 HD.1,HX.1.below HD.1,(HD.1.block _ (aj HI.1)).trans HI.1⟩,HCh.1⟩⟩⟩
         case measure=>rw[bd ((HD.1.block _ (aj HI.1)).trans HI.1),bd HI0.1];have:=HLk.1;omega
        |false=>
         have hR6:R=6:=HCh.1.symm;subst hR6;go_wp2_with (first
      |(go_at_call 86;refine(g_ _ _ _).mono ?_;rintro e w' ⟨rfl,rfl⟩)
      |(go_at_call 94;refine(HRi.1 _).mono ?_;rintro e w3 ⟨rfl,hd⟩;have HD:=MD (bW hd);clear hd)
      |(go_at_call 98;refine(HRg.1 _).mono ?_;rintro e w3 ⟨rfl,hd⟩;have HD:=MD (bW hd);clear hd))
         go_ret;exact⟨rfl,af HB5.1 HD.1⟩
    .have hnx:=λty=>eC (P:=If) wr wc.heap.size f k ty hi hlt
     obtain rfl:k=f.size:=by omega
     rw[Ef]at hch;have HBz:=MD hb;clear hi hx hb HS hk hgi hlt2 hlt;cases b with
     |true=>
      obtain rfl:R=4:=hch.symm;clear hch;go_wp2;go_ret;exact⟨rfl,HBz.1⟩
     |false=>
      obtain rfl:R=0:=hch.symm;clear hch;go_wp2;go_ret;exact⟨rfl,HBz.1⟩
end
def Kd.flat{α:Type}(n:Nat)(enc:α->List Io)(hl:∀x,(enc x).length=n)(h1:∀x,∀u∈enc x,u.oneCell'=Ir):Kd α where
 sz:=n
 E:=[]
 K:=λ_ x cs=>cs=enc x
 M:=λ_ _ _ x cs=>cs=enc x
 K_len:=λh=>by rw[h];exact hl _
 K_one:=λh u hu=>by rw[h]at hu;exact h1 _ u hu
 K_below:=λ_ h=>h
 K_of_M:=λh=>h
 M_mono:=λ_ h=>h
 M_bound:=λh=>h
 M_move:=λ_ h=>h
 M_lower:=λ_ h=>h
def kIn:Kd In:=Kd.flat 6 (λx=>[Ib Ie x.op,Ib Ie x.d,Ib Ie x.a,Ib Ie x.b,Ib Ie x.n,Ib Ie x.jt]) (λ_=>rfl) (by simp[IH])
theorem nK{w:Im}{A:Option Addr}{n:Nat}{xs:List In}(h:Kd.C kIn w A n xs)(i:Nat)(h1:i<n)(x:In)(hx:xs[i]?=Ic x):∃ad,A=Ic ad/\w.cell? (ad.add (i*6))=Ic (Ib Ie x.op)/\w.cell? ⟨(ad.add (i*6)).block,(ad.add (i*6)).off+1,Ih⟩=Ic (Ib Ie x.d)/\w.cell? ⟨(ad.add (i*6)).block,(ad.add (i*6)).off+2,Ih⟩=Ic (Ib Ie x.a)/\
  w.cell? ⟨(ad.add (i*6)).block,(ad.add (i*6)).off+3,Ih⟩=Ic (Ib Ie x.b)/\w.cell? ⟨(ad.add (i*6)).block,(ad.add (i*6)).off+4,Ih⟩=Ic (Ib Ie x.n)/\w.cell? ⟨(ad.add (i*6)).block,(ad.add (i*6)).off+5,Ih⟩=Ic (Ib Ie x.jt):=by
 obtain⟨ad,c,e,_,hK,hc0⟩:=Kd.C_get h In.zero (i:Int) (by omega) (by omega);have hg:xs.getD (i:Int).toNat In.zero=x:=by simp[Ij,hx]
 rw[hg]at hK;have hc:∀j u,c[j]?=Ic u->w.cell? (ad.add (i*6+j))=Ic u:=hc0;have hK':c=[Ib Ie x.op,Ib Ie x.d,Ib Ie x.a,Ib Ie x.b,Ib Ie x.n,Ib Ie x.jt]:=hK;subst hK';exact⟨ad,e,hc 0 _ rfl,by rw[<-ie _ _ 1 (by omega)];exact hc 1 _ rfl,by rw[<-ie _ _ 2 (by omega)];exact hc 2 _ rfl,by rw[<-ie _ _ 3 (by omega)];exact hc 3 _ rfl,by rw[<-ie _ _ 4 (by omega)];exact hc 4 _ rfl,by rw[<-ie _ _ 5 (by omega)];exact hc 5 _ rfl⟩
def eu(n:Int):List In->Nat->Option (Int×Int)
 | [],_=>Ih
 |x::xs,i=>if cy x n=0 then eu n xs (i+1)else Ic ((i:Int),cy x n)
def eI(f:List In):Int:=(f.getD (f.length-1) In.zero).op
def cz(f:List In):Int×Int:=
 if 200<f.length then(0,3)else if f.length=0 then(0,5)else
  match eu f.length f 0 with
  |some r=>r
  |none=>if eI f≠16/\eI f≠18 then((f.length:Int)-1,5)else(0,0)
theorem D1{n:Int}{f:List In}{i:Nat}{x:In}(hx:f[i]?=Ic x):eu n (f.drop i) i=if cy x n=0 then eu n (f.drop (i+1)) (i+1)else Ic ((i:Int),cy x n):=by
 obtain⟨hi,e⟩:=Ip.1 hx;rw[Jc hi,e];rfl
theorem sQ(A:Option Addr)(c:Nat)(f:List In)(w:Im)(hG:Gl w)(hC:Kd.C kIn w A f.length f)(hc:f.length<=c):I9 If 46 #[Ia A f.length c] w λe w'=>e=Iv (IR #[Ib Ie (cz f).1,Ib Ie (cz f).2])/\It w.heap.size w w':=by
 obtain⟨r,hr⟩:=ME (cz f);rw[<-hr];obtain⟨r1,r2⟩:=r;have hmax:=Kd.C_max hC;have HC:=MD hC;have HG:=MD hG;clear hC hG;by_cases h200:200<f.length
 .have e:(r1,r2)=(0,3):=by rw[hr];unfold cz;rw[if_pos h200]
  obtain⟨rfl,rfl⟩:=IM ..▸e;have h':(f.length:Int)>200:=by omega
  clear hr e;go_enter Tryz.func46,Tryz.ntmps46;go_wp2
  go_ret2
  exact⟨rfl,Il _ _⟩
 .by_cases h0:f.length=0
  .have e:(r1,r2)=(0,5):=by rw[hr];unfold cz;rw[if_neg h200,if_pos h0]
   obtain⟨rfl,rfl⟩:=IM ..▸e;clear hr e HC h200;obtain rfl:=List.length_eq_zero_iff.1 h0;clear h0;go_enter Tryz.func46,Tryz.ntmps46;go_wp2
   go_ret2
   exact⟨rfl,Il _ _⟩
  .have e:(r1,r2)=match eu f.length (f.drop 0) 0 with
    |some r=>r
    |none=>if eI f≠16/\eI f≠18 then((f.length:Int)-1,5)else(0,0):=by rw[hr];unfold cz;rw[if_neg h200,if_neg h0];rfl
   have HE:=MD e;have H0:=MD h0;have hl1:¬(f.length:Int)>200:=by omega
   have hl2:((f.length:Int)==0)=Ik:=beq_eq_false_iff_ne.mpr (by omega);clear hr e h0 h200;go_enter Tryz.func46,Tryz.ntmps46;go_wp2;go_loopw [18] (λi wr=>∃k:Nat,i=Ib Ie k/\aa (k<=f.length/\It w.heap.size w wr/\eu f.length (f.drop 0) 0=eu f.length (f.drop k) k)) (λi _=>f.length-(Jj i).toNat)
   case atStart=>exact⟨0,rfl,⟨⟨ID _,Il _ _,rfl⟩⟩⟩
   case round=>
    obtain⟨k,rfl,HS⟩:=hrel;obtain⟨hk,hb,hch⟩:=HS.1;have HB:=MD hb;by_cases hlt:k<f.length
    .have hlt':(k:Int)<(f.length:Int):=by omega
     obtain⟨x,hx⟩:∃x,f[k]?=Ic x:=⟨_,Ig hlt⟩;rw[D1 hx]at hch;obtain⟨ad,rfl,d0,d1,d2,d3,d4,d5⟩:=nK (Kd.C_below HC.1 hb) k hlt x hx;have HK:=MD (sj x f.length);have HCh:=MD hch;clear hb hch HS hx;by_cases hz:cy x f.length=0
     .have HZ:=MD hz
      rw[hz]at HK;clear hz;go_wp2_with (go_at_call 77;refine(HK.1 _ (HG.1.below (af HB.1 (ae (Il _ _) _)))).mono ?_;rintro e w2 ⟨rfl,hb⟩;have HB2:=MD (af (af HB.1 (ae (Il _ _) _)) hb);clear hb);go_roundw
      case rel=>exact⟨k+1,by go_num,⟨⟨hlt,HB2.1,by rw[HCh.1,if_pos HZ.1]⟩⟩⟩
      case measure=>simp[Jj];omega
     .obtain⟨q,hq⟩:=ME (cy x f.length)
      rw[<-hq]at HK HCh hz;have e2:=HE.1;rw[HCh.1,if_neg hz]at e2;obtain⟨rfl,rfl⟩:=IM ..▸e2;have hz':(r2==0)=Ik:=beq_eq_false_iff_ne.mpr hz;clear hq hz e2;go_wp2_with (go_at_call 77;refine(HK.1 _ (HG.1.below (af HB.1 (ae (Il _ _) _)))).mono ?_;rintro e w2 ⟨rfl,hb⟩;have HB2:=MD (af (af HB.1 (ae (Il _ _) _)) hb);clear hb)
      go_ret2
      exact⟨rfl,HB2.1⟩
    .obtain rfl:k=f.length:=by omega
     rw[List.drop_length]at hch;have e2:=HE.1;rw[hch]at e2;have hp:f.length-1<f.length:=by have:=H0.1;omega
     obtain⟨x,hx⟩:∃x,f[f.length-1]?=Ic x:=⟨_,Ig hp⟩;have hlast:eI f=x.op:=by unfold eI;rw[Ij,hx];rfl
     obtain⟨ad,rfl,d0,d1,d2,d3,d4,d5⟩:=nK (Kd.C_below HC.1 hb) (f.length-1) hp x hx;obtain⟨m,hm⟩:∃m:Nat,f.length=m+1:=⟨f.length-1,by omega⟩;rw[hlast,hm]at e2;have hm1:m+1-1=m:=rfl;rw[hm,hm1]at d0;rw[hm]at hmax;have HMm:=MD hm;have he3:(((m+1:Nat):Int)-1)=(m:Int):=by omega
     rw[he3]at e2;have hlt:(m:Int)<((m+1:Nat):Int):=by omega
     have hnl:¬((m+1:Nat):Int)<((m+1:Nat):Int):=by omega
     have hsub:LP.i64.wrap (((m+1:Nat):Int)-1)=(m:Int):=by rw[IntWalk.i64_in _ (by omega)];omega
     clear hch HS hx hlast hp hb d1 d2 d3 d4 d5 hk hl1 hl2 he3;by_cases c16:x.op=16
     .rw[if_neg (by omega)]at e2
      obtain⟨rfl,rfl⟩:=IM ..▸e2;have z1:(x.op != 16)=Ik:=bne_eq_false_iff_eq.mpr c16;rw[hm];clear e2 c16 hm;go_wp2
      go_ret2
      exact⟨rfl,HB.1⟩
     .have z1:(x.op != 16)=Ir:=bne_iff_ne.mpr c16
      by_cases c18:x.op=18
      .rw[if_neg (by omega)]at e2
       obtain⟨rfl,rfl⟩:=IM ..▸e2;have z2:(x.op != 18)=Ik:=bne_eq_false_iff_eq.mpr c18;rw[hm];clear e2 c16 c18 hm;go_wp2
       go_ret2
       exact⟨rfl,HB.1⟩
      .rw[if_pos ⟨c16,c18⟩]at e2
       obtain⟨rfl,rfl⟩:=IM ..▸e2;have z2:(x.op != 18)=Ir:=bne_iff_ne.mpr c18;rw[hm];clear e2 c16 c18 hm;go_wp2
       go_ret2
       exact⟨rfl,HB.1⟩
def bi(f:List In):Bool:=(cz f).2==0
theorem eD(A:Option Addr)(c:Nat)(f:List In)(w:Im)(hG:Gl w)(hC:Kd.C kIn w A f.length f)(hc:f.length<=c):I9 If 47 #[Ia A f.length c] w λe w'=>e=Iv (Iy (bi f))/\It w.heap.size w w':=by
 have H:=MD (sQ A c f w hG hC hc);clear hG hC hc;obtain⟨r,hr⟩:=ME (bi f);rw[<-hr];unfold bi at hr;obtain⟨a,ha⟩:=ME ((cz f).1);obtain⟨b,hb⟩:=ME ((cz f).2);rw[<-ha,<-hb]at H;rw[<-hb]at hr;have HR:=MD hr;clear ha hb hr;go_enter Tryz.func47,Tryz.ntmps47;go_wp2_with (go_at_call 46;refine H.1.mono ?_;rintro e w2 ⟨rfl,hb⟩;have HB2:=MD hb;clear hb);go_ret;exact⟨ut HR.1.symm,HB2.1⟩
def loc_Parse.place(s:ByteArray):Option Int:=
 if s.size=2/\bt s 0=114/\48<=bt s 1/\bt s 1<=55 then Ic (bt s 1-48)
 else if s.size=2/\bt s 0=115/\48<=bt s 1/\bt s 1<=57 then Ic (8+(bt s 1-48))
 else if s.size=3/\bt s 0=115/\bt s 1=49/\48<=bt s 2/\bt s 2<=53 then Ic (8+(10+(bt s 2-48)))
 else Ih
def loc_Parse.f(s:ByteArray):Option (Int×Int):=Ic (match loc_Parse.place s with|some l=>(l,0)|none=>(0,2))
def loc_Parse.St(s:ByteArray)(pos:Nat)(first n many:Int):Prop:=
 pos<=s.size/\((pos=0/\first=0/\n=0/\many=0)\/
 ((bt s 0=114/\first=0/\many=8\/bt s 0=115/\first=8/\many=16)/\
  (pos=1/\n=0\/
   (48<=bt s 1/\bt s 1<=57)/\(pos=2/\n=bt s 1-48\/
    pos=3/\48<=bt s 2/\bt s 2<=57/\bt s 1≠48/\n=(bt s 1-48)*10+(bt s 2-48)))))
theorem loc_Parse.bounds{s:ByteArray}{pos:Nat}{x y z:Int}(h:loc_Parse.St s pos x y z):pos<=3/\0<=x/\x<=8/\0<=y/\y<=99/\0<=z/\z<=16:=by
 unfold loc_Parse.St at h;omega
theorem loc_Parse.exit_err{s:ByteArray}{pos:Nat}{x y z:Int}(h:loc_Parse.St s pos x y z)(hp:¬pos<s.size)(hw:(s.size:Int)<2\/z<=y):loc_Parse.place s=Ih:=by
 unfold loc_Parse.St at h;unfold loc_Parse.place;rw[if_neg (by omega),if_neg (by omega),if_neg (by omega)]
theorem loc_Parse.exit_ok{s:ByteArray}{pos:Nat}{x y z:Int}(h:loc_Parse.St s pos x y z)(hp:¬pos<s.size)(h2:2<=(s.size:Int))(hw:y<z):loc_Parse.place s=Ic (x+y):=by
 unfold loc_Parse.St at h;unfold loc_Parse.place;by_cases c1:s.size=2/\bt s 0=114/\48<=bt s 1/\bt s 1<=55
 .rw[if_pos c1]
  congr 1;omega
 .rw[if_neg c1]
  by_cases c2:s.size=2/\bt s 0=115/\48<=bt s 1/\bt s 1<=57
  .rw[if_pos c2]
   congr 1;omega
  .rw[if_neg c2,if_pos (by omega)]
   congr 1;omega
theorem Bd(s:ByteArray):bt s ((0:Nat):Int)=bt s 0:=rfl
theorem Eb(s:ByteArray):bt s ((1:Nat):Int)=bt s 1:=rfl
theorem D_(s:ByteArray):bt s ((2:Nat):Int)=bt s 2:=rfl
theorem loc_Parse.stop{s:ByteArray}{pos:Nat}{x y z:Int}(h:loc_Parse.St s pos x y z)(hp:pos<s.size)(hc:(pos=0/\bt s pos≠114/\bt s pos≠115)\/(pos≠0/\(bt s pos<48\/57<bt s pos))\/2<pos\/(pos=2/\y=0)):loc_Parse.place s=Ih:=by
 unfold loc_Parse.St at h;unfold loc_Parse.place;obtain⟨_,h⟩:=h;rcases h with⟨rfl,_⟩|⟨_,⟨rfl,_⟩|⟨_,⟨rfl,_⟩|⟨rfl,_⟩⟩⟩
 .rw[Bd]at hc;rw[if_neg (by omega),if_neg (by omega),if_neg (by omega)]
 .rw[Eb]at hc;rw[if_neg (by omega),if_neg (by omega),if_neg (by omega)]
 .rw[D_]at hc;rw[if_neg (by omega),if_neg (by omega),if_neg (by omega)]
 .rw[if_neg (by omega),if_neg (by omega),if_neg (by omega)]
theorem loc_Parse.next{s:ByteArray}{pos:Nat}{x y z:Int}(h:loc_Parse.St s pos x y z)(hp:pos<s.size)(h0:pos≠0)(h2:pos<=2)(hc:48<=bt s pos/\bt s pos<=57)(hn:¬(pos=2/\y=0)):loc_Parse.St s (pos+1) x (y*10+(bt s pos-48)) z:=by
 unfold loc_Parse.St at h ⊢;obtain⟨_,h⟩:=h;rcases h with⟨rfl,_⟩|⟨ha,⟨rfl,hb⟩|⟨hd,⟨rfl,hb⟩|⟨rfl,hb⟩⟩⟩
 .omega
 .rw[Eb]at hc ⊢
  exact⟨by omega,.inr ⟨ha,.inr ⟨hc,.inl ⟨by omega,by omega⟩⟩⟩⟩
 .rw[D_]at hc ⊢
  exact⟨by omega,.inr ⟨ha,.inr ⟨hd,.inr ⟨by omega,hc.1,hc.2,by omega,by omega⟩⟩⟩⟩
 .omega
theorem loc_Parse.first_r{s:ByteArray}{x y z:Int}(h:loc_Parse.St s 0 x y z)(hp:0<s.size)(hc:bt s ((0:Nat):Int)=114):x=0/\loc_Parse.St s 1 x y 8:=by
 unfold loc_Parse.St at h ⊢;rw[show((0:Nat):Int)=0 from rfl]at hc;omega
theorem loc_Parse.first_s{s:ByteArray}{x y z:Int}(h:loc_Parse.St s 0 x y z)(hp:0<s.size)(hc:bt s ((0:Nat):Int)=115):loc_Parse.St s 1 8 y 16:=by
 unfold loc_Parse.St at h ⊢;rw[show((0:Nat):Int)=0 from rfl]at hc;omega
theorem loc_Parse.of_none{s:ByteArray}{r1 r2:Int}(h:loc_Parse.f s=Ic (r1,r2))(hn:loc_Parse.place s=Ih):r1=0/\r2=2:=by
 unfold loc_Parse.f at h;rw[hn]at h;simp only[Ja,IM]at h;omega
theorem loc_Parse.of_some{s:ByteArray}{r1 r2 l:Int}(h:loc_Parse.f s=Ic (r1,r2))(hn:loc_Parse.place s=Ic l):r1=l/\r2=0:=by
 unfold loc_Parse.f at h;rw[hn]at h;simp only[Ja,IM]at h;omega
theorem tA(w:Im)(s:ByteArray)(pos:Nat)(hp:pos<s.size)(ha:bt s pos<128)(ty:Je) :
  (LD (Iq (Ic ⟨w.heap.size,0,Ih⟩)) Ir ty).run If (w.iter s pos)=.ok (IR #[Iy Ir,Ib Ie pos,.int .i32 (bt s pos)]) (w.iter s (pos+1)):=by
 have hb:=oX s (pos:Int) hp;have:=run_next_ascii (P:=If) w s pos ty hp (by rw[<-hb]at ha;simp only[IC]at ha;omega);rw[this];simp only[IC]at hb;rw[hb]
theorem od(w:Im)(s:ByteArray)(pos:Nat)(hp:pos<s.size)(ha:¬bt s pos<128) :
  ∃(c:Int) (pos':Nat),128<=c/\c<=2147483647/\∀ty:Je,(LD (Iq (Ic ⟨w.heap.size,0,Ih⟩)) Ir ty).run If (w.iter s pos)=.ok (IR #[Iy Ir,Ib Ie pos,.int .i32 c]) (w.iter s pos'):=by
 have hb:=oX s (pos:Int) hp;simp only[IC]at hb;have hd:=decode_high s pos hp (by omega);have hl:=decode_le s pos;exact⟨_,_,by omega,by omega,λty=>run_next_any (P:=If) w s pos ty hp⟩
theorem bQ(w:Im)(s:ByteArray)(pos:Nat):It w.heap.size w (w.iter s pos):=ae (Il _ _) _
theorem loc_Parse.calls(a0:ByteArray)(r1:Int)(r2:Int)(w:Im)(h:loc_Parse.f a0=Ic (r1,r2)) :
  I9 If 96 #[.string a0] w λe w'=>e=Iv (IR #[Ib Ie r1,Ib Ie r2])/\It w.heap.size w w':=by
 have H:=MD h;clear h;go_enter Tryz.func96,Tryz.ntmps96;go_wp2;go_loopw [4,5,6] (λf n m w'=>∃(pos:Nat) (x y z:Int),w'=w.iter a0 pos/\f=Ib Ie x/\n=Ib Ie y/\m=Ib Ie z/\aa (loc_Parse.St a0 pos x y z)) (λ_ _ _ w'=>a0.size-w'.iterPos w.heap.size)
 case atStart=>exact⟨0,0,0,0,rfl,rfl,rfl,rfl,⟨⟨ID _,.inl ⟨rfl,rfl,rfl,rfl⟩⟩⟩⟩
 case round=>
  obtain⟨pos,x,y,z,rfl,rfl,rfl,rfl,HS⟩:=hrel;obtain⟨b0,b1,b2,b3,b4,b5,b6⟩:=loc_Parse.bounds HS.1;by_cases hp:pos<a0.size
  .by_cases ha:bt a0 pos<128
   .have hnx:=tA w a0 pos hp ha
    have hb:=rh a0 pos;obtain⟨c,hcc⟩:∃c:Int,c=bt a0 pos:=⟨_,rfl⟩;rw[<-hcc]at hnx hb ha;have HC:=MD hcc;clear hcc;by_cases hz:pos=0
    .subst hz
     by_cases c1:c=114
     .subst c1
      obtain⟨rfl,hs⟩:=loc_Parse.first_r HS.1 hp HC.1.symm;have HS':=MD hs;clear hs HS;go_wp2;go_roundw
      case rel=>exact⟨1,_,_,_,rfl,rfl,rfl,rfl,HS'⟩
      case measure=>simp;omega
     .by_cases c2:c=115
      .subst c2
       have hs:=loc_Parse.first_s HS.1 hp HC.1.symm;have HS':=MD hs;clear hs HS;go_wp2;go_roundw
       case rel=>exact⟨1,_,_,_,rfl,rfl,rfl,rfl,HS'⟩
       case measure=>simp;omega
      .obtain⟨rfl,rfl⟩:=loc_Parse.of_none H.1 (loc_Parse.stop HS.1 hp (.inl ⟨rfl,by rw[<-HC.1];exact c1,by rw[<-HC.1];exact c2⟩))
       have ne1:(c==114)=Ik:=beq_eq_false_iff_ne.mpr (by omega);have ne2:(c==115)=Ik:=beq_eq_false_iff_ne.mpr (by omega);clear HS;go_wp2
       all_goals(go_ret2;exact⟨rfl,bQ _ _ _⟩)
    .have hpos:pos=1\/pos=2\/pos=3:=by omega
     by_cases hg:pos<=2/\48<=c/\c<=57/\¬(pos=2/\y=0)
     .have hs:=loc_Parse.next HS.1 hp hz hg.1 (by rw[<-HC.1];exact⟨hg.2.1,hg.2.2.1⟩) hg.2.2.2
      rw[<-HC.1]at hs;have HS':=MD hs;clear hs HS;obtain⟨_,g1,g2,g3⟩:=hg;rcases hpos with rfl|rfl|rfl
      .clear g3
       go_wp2;go_roundw
       case rel=>exact⟨2,_,_,_,rfl,rfl,rfl,rfl,HS'⟩
       case measure=>simp;omega
      .have g4:(y==0)=Ik:=beq_eq_false_iff_ne.mpr (by omega)
       clear g3;go_wp2;go_roundw
       case rel=>exact⟨3,_,_,_,rfl,rfl,rfl,rfl,HS'⟩
       case measure=>simp;omega
      .omega
     .obtain⟨rfl,rfl⟩:=loc_Parse.of_none H.1 (loc_Parse.stop HS.1 hp (by rw[<-HC.1];omega))
      clear HS;rcases hpos with rfl|rfl|rfl
      .have g:c<48\/57<c:=by omega
       clear hg;rcases g with g|g
       .go_wp2
        all_goals(go_ret2;exact⟨rfl,bQ _ _ _⟩)
       .have g':48<=c:=by omega
        go_wp2
        all_goals(go_ret2;exact⟨rfl,bQ _ _ _⟩)
      .by_cases g:c<48
       .clear hg
        go_wp2
        all_goals(go_ret2;exact⟨rfl,bQ _ _ _⟩)
       .by_cases g':57<c
        .have g'':48<=c:=by omega
         clear hg;go_wp2
         all_goals(go_ret2;exact⟨rfl,bQ _ _ _⟩)
        .have g'':48<=c:=by omega
         have g3:c<=57:=by omega
         obtain rfl:y=0:=by omega
         clear hg;go_wp2
         all_goals(go_ret2;exact⟨rfl,bQ _ _ _⟩)
      .clear hg
       go_wp2
       all_goals(go_ret2;exact⟨rfl,bQ _ _ _⟩)
   .obtain⟨c,pos',hc1,hc2,hnx⟩:=od w a0 pos hp ha
    obtain⟨rfl,rfl⟩:=loc_Parse.of_none H.1 (loc_Parse.stop HS.1 hp (by omega));have ne1:(c==114)=Ik:=beq_eq_false_iff_ne.mpr (by omega);have ne2:(c==115)=Ik:=beq_eq_false_iff_ne.mpr (by omega);clear HS;go_wp2
    all_goals(go_ret2;exact⟨rfl,bQ _ _ _⟩)
  .have hnx:∀ty,(LD (Iq (Ic ⟨w.heap.size,0,Ih⟩)) Ir ty).run If (w.iter a0 pos)=_:=λty=>run_next_end w a0 pos ty hp
   by_cases hw:(a0.size:Int)<2\/z<=y
   .obtain⟨rfl,rfl⟩:=loc_Parse.of_none H.1 (loc_Parse.exit_err HS.1 hp hw)
    clear HS;go_wp2
    all_goals(first|omega|(go_ret2;exact⟨rfl,bQ _ _ _⟩))
   .obtain⟨rfl,rfl⟩:=loc_Parse.of_some H.1 (loc_Parse.exit_ok HS.1 hp (by omega) (by omega))
    clear HS;go_wp2
    all_goals(first|omega|(go_ret2;exact⟨rfl,bQ _ _ _⟩))
def dv(t:ByteArray):Nat->Int
 |0=>0
 |n+1=>dv t n*10+(bt t n-48)
def oR(s:ByteArray):Bool:=decide (0<s.size/\bt s 0=45)
def tQ(s:ByteArray):ByteArray:=if oR s=Ir then s.extract 1 s.size else s
def gJ(t:ByteArray)(n:Nat):Prop:=∀i:Nat,i<n->48<=bt t i/\bt t i<=57
instance(t:ByteArray)(n:Nat):Decidable (gJ t n):=by unfold gJ;infer_instance
def gP:Int:=9223372036854775807
def num_Parse.sized(t:ByteArray)(low:Bool):Option Int:=
 if t.size=0\/19<t.size\/(bt t 0=48/\(1<t.size\/low=Ir))then Ih
 else if gJ t t.size then(if low=Ir then(if dv t t.size<=gP+1 then Ic (-(dv t t.size))else Ih)else(if dv t t.size<=gP then Ic (dv t t.size)else Ih))
 else Ih
def num_Parse.num(s:ByteArray):Option Int:=num_Parse.sized (tQ s) (oR s)
def num_Parse.f(s:ByteArray):Option (Int×Int):=Ic (match num_Parse.num s with|some n=>(n,0)|none=>(0,2))
theorem num_Parse.of_none{s:ByteArray}{r1 r2:Int}(h:num_Parse.f s=Ic (r1,r2))(hn:num_Parse.num s=Ih):r1=0/\r2=2:=by
 unfold num_Parse.f at h;rw[hn]at h;simp only[Ja,IM]at h;omega
theorem num_Parse.of_some{s:ByteArray}{r1 r2 l:Int}(h:num_Parse.f s=Ic (r1,r2))(hn:num_Parse.num s=Ic l):r1=l/\r2=0:=by
 unfold num_Parse.f at h;rw[hn]at h;simp only[Ja,IM]at h;omega
theorem nE(t:ByteArray)(n:Nat)(h:gJ t n):0<=dv t n/\dv t n+1<=10 ^ n:=by
 induction n with
 |zero=>simp[dv]
 |succ n ih=>
  have h1:=ih (λi hi=>h i (by omega));have h2:=h n (by omega);simp only[dv];have e:(10:Int) ^ (n+1)=10 ^ n*10:=by rw[Int.pow_succ]
  rw[e];generalize(10:Int) ^ n=p at *;omega
theorem DS(t:ByteArray)(n:Nat)(h:gJ t n)(hn:n<=18):0<=dv t n/\dv t n<=999999999999999999:=by
 have h1:=nE t n h;have h2:(10:Int) ^ n<=10 ^ 18:=by
  have h4:10 ^ n<=10 ^ 18:=Nat.pow_le_pow_right (by decide) hn
  exact_mod_cast h4
 have h3:(10:Int) ^ 18=1000000000000000000:=by decide
 omega
theorem jU{v:Int}(h1:1<=v)(h2:v<=9999999999999999999):LA.wrap (-v)=18446744073709551616-v:=by
 have e:LA.wrap (-v)=(-v)%18446744073709551616:=by simp[LP.wrap,LP.bits,LP.signed]
 rw[e];omega
theorem C_{a b c:Int}(h:a=b):Iv (IR #[Ib Ie a,Ib Ie c])=Iv (IR #[Ib Ie b,Ib Ie c]):=by rw[h]
theorem BS{v:Int}(h1:1<=v)(h2:v<=9999999999999999999)(h:v<=gP+1):LA.wrap (-9223372036854775808)<=LA.wrap (-v):=by
 unfold gP at h;rw[jU h1 h2,jU (by omega) (by omega)];omega
theorem EL{v:Int}(h1:1<=v)(h2:v<=9999999999999999999)(h:¬v<=gP+1):LA.wrap (-v)<LA.wrap (-9223372036854775808):=by
 unfold gP at h;rw[jU h1 h2,jU (by omega) (by omega)];omega
theorem Do{v:Int}(h1:1<=v)(h2:v<=9999999999999999999)(h:v<=gP+1):JW (LA.wrap (-v))=-v:=by
 unfold gP at h;rw[jU h1 h2];unfold JW;omega
theorem GX(t:ByteArray)(n:Nat)(h:gJ t n)(hn:n<=19):dv t n<=9999999999999999999:=by
 have h1:=nE t n h;have h2:(10:Int) ^ n<=10 ^ 19:=by
  have h4:10 ^ n<=10 ^ 19:=Nat.pow_le_pow_right (by decide) hn
  exact_mod_cast h4
 have h3:(10:Int) ^ 19=10000000000000000000:=by decide
 omega
theorem Gn(t:ByteArray)(n:Nat)(h:gJ t n)(h0:0<n)(hb:bt t 0≠48):1<=dv t n:=by
 induction n with
 |zero=>omega
 |succ n ih=>
  have h2:=h n (by omega);simp only[dv];by_cases e:n=0
  .subst e
   rw[Bd]at *;simp only[dv];omega
  .have:=ih (λi hi=>h i (by omega)) (by omega)
   omega
theorem oS{t:ByteArray}{n:Nat}(h:gJ t n)(hc:48<=bt t n/\bt t n<=57):gJ t (n+1):=by
 intro i hi;by_cases e:i=n
 .subst e;exact hc
 .exact h i (by omega)
theorem num_Parse.none_size{t:ByteArray}{low:Bool}(h:t.size=0\/19<t.size\/(bt t 0=48/\(1<t.size\/low=Ir))):num_Parse.sized t low=Ih:=by
 unfold num_Parse.sized;rw[if_pos h]
theorem num_Parse.none_dig{t:ByteArray}{low:Bool}{i:Nat}(hi:i<t.size)(hc:bt t i<48\/57<bt t i):num_Parse.sized t low=Ih:=by
 unfold num_Parse.sized;split
 .rfl
 .rw[if_neg (λh=>by have:=h i hi;omega)]
def num_Parse.Bad(t:ByteArray)(low:Bool):Prop:=t.size=0\/19<t.size\/(bt t 0=48/\(1<t.size\/low=Ir))
theorem num_Parse.some_up{t:ByteArray}(h:¬num_Parse.Bad t Ik)(hd:gJ t t.size) :
  num_Parse.sized t Ik=if dv t t.size<=gP then Ic (dv t t.size)else Ih:=by
 unfold num_Parse.Bad at h;unfold num_Parse.sized;rw[if_neg h,if_pos hd,if_neg (by decide)]
theorem num_Parse.some_low{t:ByteArray}(h:¬num_Parse.Bad t Ir)(hd:gJ t t.size) :
  num_Parse.sized t Ir=if dv t t.size<=gP+1 then Ic (-(dv t t.size))else Ih:=by
 unfold num_Parse.Bad at h;unfold num_Parse.sized;rw[if_neg h,if_pos hd,if_pos rfl]
theorem num_Parse.calls(a0:ByteArray)(r1:Int)(r2:Int)(w:Im)(h:num_Parse.f a0=Ic (r1,r2)) :
  I9 If 95 #[.string a0] w λe w'=>e=Iv (IR #[Ib Ie r1,Ib Ie r2])/\It w.heap.size w w':=by
 have H:=MD h;clear h;by_cases hl:0<a0.size
 .have hat:∀h:0<a0.size,((a0[0]'h).toNat:Int)=bt a0 0:=oX a0 0
  by_cases hb:bt a0 0=45
  .have hb1:(bt a0 0==45)=Ir:=beq_iff_eq.mpr hb
   have hlow:oR a0=Ir:=by unfold oR;exact decide_eq_true ⟨hl,hb⟩
   obtain⟨t,ht⟩:=ME (a0.extract 1 a0.size);have hdg:tQ a0=t:=by unfold tQ;rw[hlow,ht];rfl
   have hn:num_Parse.num a0=num_Parse.sized t Ir:=by unfold num_Parse.num;rw[hdg,hlow]
   have HN:=MD hn;have hts:t.size=a0.size-1:=by rw[ht];simp
   have hex:a0.extract 1 a0.size=t:=ht.symm;have htat:∀h:0<t.size,((t[0]'h).toNat:Int)=bt t 0:=oX t 0;clear hlow hdg hn hb ht;by_cases htz:t.size=0
   .obtain⟨rfl,rfl⟩:=num_Parse.of_none H.1 (HN.1.trans (num_Parse.none_size (.inl htz)))
    obtain rfl:t=Ji:=ByteArray.ext (Array.eq_empty_of_size_eq_zero htz);have hl1:(1:Int)<=a0.size:=by omega
    clear htat hts htz;go_enter Ln,Lb;go_wp2
    all_goals(go_ret2;exact⟨rfl,Il _ _⟩)
   .have htne:¬t=Ji:=λe=>htz (by rw[e];rfl)
    have hl1:(1:Int)<=a0.size:=by omega
    have hs0:((t.size:Int)==0)=Ik:=beq_eq_false_iff_ne.mpr (by omega);have htl:0<t.size:=by omega
    by_cases hbig:19<t.size
    .obtain⟨rfl,rfl⟩:=num_Parse.of_none H.1 (HN.1.trans (num_Parse.none_size (.inr (.inl hbig))))
     clear hts htz;go_enter Ln,Lb;go_wp2
     all_goals(go_ret2;exact⟨rfl,Il _ _⟩)
    .by_cases hz:bt t 0=48
     .obtain⟨rfl,rfl⟩:=num_Parse.of_none H.1 (HN.1.trans (num_Parse.none_size (.inr (.inr ⟨hz,.inr rfl⟩))))
      have hz3:(bt t 0==48)=Ir:=beq_iff_eq.mpr hz;clear hts htz hz;go_enter Ln,Lb;go_wp2
      all_goals(go_ret2;exact⟨rfl,Il _ _⟩)
     .have hsz:¬num_Parse.Bad t Ir:=by
       unfold num_Parse.Bad;intro h;rcases h with h|h|h
       .omega
       .omega
       .exact hz h.1
      have HZ:=MD hsz;have HZ0:=MD hz;have hz4:(bt t 0==48)=Ik:=beq_eq_false_iff_ne.mpr hz;have hs1:(t.size:Int)<=19:=by omega
      have hle:t.size<=9223372036854775807:=by omega
      clear hsz hz hbig hts htz;go_enter Ln,Lb;go_wp2
      all_goals(first|(exfalso;omega)|skip)
      go_loopw [6] (λu w'=>∃(pos:Nat),w'=w.iter t pos/\pos<=t.size/\u=.int .u64 (dv t pos)/\aa (gJ t pos)) (λ_ w'=>t.size-w'.iterPos w.heap.size)
      case atStart=>exact⟨0,rfl,ID _,rfl,⟨λi hi=>by omega⟩⟩
      case round=>
       obtain⟨pos,rfl,hps,rfl,HD⟩:=hrel;by_cases hp:pos<t.size
       .by_cases ha:bt t pos<128
        .have hnx:=tA w t pos hp ha
         have hb:=rh t pos;have hcap:=DS t pos HD.1 (by omega);obtain⟨c,hcc⟩:∃c:Int,c=bt t pos:=⟨_,rfl⟩;rw[<-hcc]at hnx hb ha;have HC:=MD hcc;clear hcc;by_cases hd:48<=c/\c<=57
         .have hD':=oS HD.1 (by rw[<-HC.1];exact hd)
          have HD':=MD hD';have hv:dv t (pos+1)=dv t pos*10+(c-48):=by rw[HC.1];rfl
          have HV:=MD hv;clear hD' hv HD;obtain⟨v,hv⟩:∃v:Int,v=dv t pos:=⟨_,rfl⟩;rw[<-hv]at hcap HV ⊢;clear hv;go_wp2;go_roundw
          case rel=>exact⟨pos+1,rfl,hp,by rw[HV.1],HD'⟩
          case measure=>simp;omega
         .obtain⟨rfl,rfl⟩:=num_Parse.of_none H.1 (HN.1.trans (num_Parse.none_dig hp (by rw[<-HC.1];omega)))
          clear HD;rcases(show c<48\/57<c by omega)with g|g
          .clear hd
           go_wp2
           all_goals(go_ret2;exact⟨rfl,bQ _ _ _⟩)
          .have g':48<=c:=by omega
           clear hd;go_wp2
           all_goals(go_ret2;exact⟨rfl,bQ _ _ _⟩)
        .obtain⟨c,pos',hc1,hc2,hnx⟩:=od w t pos hp ha
         obtain⟨rfl,rfl⟩:=num_Parse.of_none H.1 (HN.1.trans (num_Parse.none_dig hp (by omega)));clear HD;have g':48<=c:=by omega
         have g:57<c:=by omega
         go_wp2
         all_goals(go_ret2;exact⟨rfl,bQ _ _ _⟩)
       .have hnx:∀ty,(LD (Iq (Ic ⟨w.heap.size,0,Ih⟩)) Ir ty).run If (w.iter t pos)=_:=λty=>run_next_end w t pos ty hp
        obtain rfl:pos=t.size:=by omega
        have hb0:=nE t t.size HD.1;have hb1:=Gn t t.size HD.1 htl HZ0.1;have hb2:=GX t t.size HD.1 (by omega);have hsome:=num_Parse.some_low HZ.1 HD.1;by_cases ht:dv t t.size<=gP+1
        .rw[if_pos ht]at hsome
         obtain⟨rfl,rfl⟩:=num_Parse.of_some H.1 (HN.1.trans hsome);obtain⟨v,hv⟩:∃v:Int,v=dv t t.size:=⟨_,rfl⟩;rw[<-hv]at ht hb1 hb2 ⊢;have HV:=MD hv;have K1:=BS hb1 hb2 ht;have K2:=MD (Do hb1 hb2 ht);clear hv hb0 hsome HD ht hb1 hb2;go_wp2
         go_ret2
         exact⟨C_ (K2.1.trans (by rw[HV.1])),bQ _ _ _⟩
        .rw[if_neg ht]at hsome
         obtain⟨rfl,rfl⟩:=num_Parse.of_none H.1 (HN.1.trans hsome);obtain⟨v,hv⟩:∃v:Int,v=dv t t.size:=⟨_,rfl⟩;rw[<-hv]at ht hb1 hb2 ⊢;have K1:=EL hb1 hb2 ht;clear hv hb0 hsome HD ht hb1 hb2;go_wp2
         go_ret2
         exact⟨rfl,bQ _ _ _⟩
  .have hb1:(bt a0 0==45)=Ik:=beq_eq_false_iff_ne.mpr hb
   have hlow:oR a0=Ik:=by unfold oR;exact decide_eq_false (λh=>hb h.2)
   have hdg:tQ a0=a0:=by unfold tQ;rw[hlow];rfl
   have hn:num_Parse.num a0=num_Parse.sized a0 Ik:=by unfold num_Parse.num;rw[hdg,hlow]
   have HN:=MD hn;clear hlow hdg hn;by_cases hbig:19<a0.size
   .obtain⟨rfl,rfl⟩:=num_Parse.of_none H.1 (HN.1.trans (num_Parse.none_size (.inr (.inl hbig))))
    go_enter Ln,Lb;go_wp2
    all_goals(go_ret2;exact⟨rfl,Il _ _⟩)
   .by_cases hz:bt a0 0=48/\1<a0.size
    .obtain⟨rfl,rfl⟩:=num_Parse.of_none H.1 (HN.1.trans (num_Parse.none_size (.inr (.inr ⟨hz.1,.inl hz.2⟩))))
     obtain⟨hz1,hz2⟩:=hz;have hz3:(bt a0 0==48)=Ir:=beq_iff_eq.mpr hz1;clear hb hz1;go_enter Ln,Lb;go_wp2
     all_goals(go_ret2;exact⟨rfl,Il _ _⟩)
    .have hsz:¬num_Parse.Bad a0 Ik:=by
      unfold num_Parse.Bad;intro h;rcases h with h|h|h
      .omega
      .omega
      .rcases h.2 with h2|h2
       .exact hz ⟨h.1,h2⟩
       .cases h2
     have HZ:=MD hsz;have hz4:(bt a0 0==48)=Ik\/(bt a0 0==48)=Ir/\a0.size<=1:=by
      by_cases e:bt a0 0=48
      .exact .inr ⟨beq_iff_eq.mpr e,by omega⟩
      .exact .inl (beq_eq_false_iff_ne.mpr e)
     have hs0:((a0.size:Int)==0)=Ik:=beq_eq_false_iff_ne.mpr (by omega);have hs1:(a0.size:Int)<=19:=by omega
     have hne:¬a0=Ji:=λe=>by rw[e]at hl;exact absurd hl (by decide)
     have hle:a0.size<=9223372036854775807:=by omega
     clear hsz hz hb hbig;rcases hz4 with hz4|⟨hz4,hz5⟩
     all_goals
      go_enter Ln,Lb;go_wp2
      all_goals(first|(exfalso;omega)|skip)
      go_loopw [6] (λu w'=>∃(pos:Nat),w'=w.iter a0 pos/\pos<=a0.size/\u=.int .u64 (dv a0 pos)/\aa (gJ a0 pos)) (λ_ w'=>a0.size-w'.iterPos w.heap.size)
      case atStart=>exact⟨0,rfl,ID _,rfl,⟨λi hi=>by omega⟩⟩
      case round=>
       obtain⟨pos,rfl,hps,rfl,HD⟩:=hrel;by_cases hp:pos<a0.size
       .by_cases ha:bt a0 pos<128
        .have hnx:=tA w a0 pos hp ha
         have hb:=rh a0 pos;have hcap:=DS a0 pos HD.1 (by omega);obtain⟨c,hcc⟩:∃c:Int,c=bt a0 pos:=⟨_,rfl⟩;rw[<-hcc]at hnx hb ha;have HC:=MD hcc;clear hcc;by_cases hd:48<=c/\c<=57
         .have hD':=oS HD.1 (by rw[<-HC.1];exact hd)
          have HD':=MD hD';have hv:dv a0 (pos+1)=dv a0 pos*10+(c-48):=by rw[HC.1];rfl
          have HV:=MD hv;clear hD' hv HD;obtain⟨v,hv⟩:∃v:Int,v=dv a0 pos:=⟨_,rfl⟩;rw[<-hv]at hcap HV ⊢;clear hv;go_wp2;go_roundw
          case rel=>exact⟨pos+1,rfl,hp,by rw[HV.1],HD'⟩
          case measure=>simp;omega
         .obtain⟨rfl,rfl⟩:=num_Parse.of_none H.1 (HN.1.trans (num_Parse.none_dig hp (by rw[<-HC.1];omega)))
          clear HD;rcases(show c<48\/57<c by omega)with g|g
          .clear hd
           go_wp2
           all_goals(go_ret2;exact⟨rfl,bQ _ _ _⟩)
          .have g':48<=c:=by omega
           clear hd;go_wp2
           all_goals(go_ret2;exact⟨rfl,bQ _ _ _⟩)
        .obtain⟨c,pos',hc1,hc2,hnx⟩:=od w a0 pos hp ha
         obtain⟨rfl,rfl⟩:=num_Parse.of_none H.1 (HN.1.trans (num_Parse.none_dig hp (by omega)));clear HD;have g':48<=c:=by omega
         have g:57<c:=by omega
         go_wp2
         all_goals(go_ret2;exact⟨rfl,bQ _ _ _⟩)
       .have hnx:∀ty,(LD (Iq (Ic ⟨w.heap.size,0,Ih⟩)) Ir ty).run If (w.iter a0 pos)=_:=λty=>run_next_end w a0 pos ty hp
        obtain rfl:pos=a0.size:=by omega
        have hb0:=nE a0 a0.size HD.1;have hsome:=num_Parse.some_up HZ.1 HD.1;by_cases ht:dv a0 a0.size<=gP
        .rw[if_pos ht]at hsome
         obtain⟨e1,rfl⟩:=num_Parse.of_some H.1 (HN.1.trans hsome);have hb1:=hb0.1;rw[<-e1]at ht hb1 ⊢;clear e1 hb0 hsome HD;unfold gP at ht;go_wp2
         all_goals(go_ret2;exact⟨rfl,bQ _ _ _⟩)
        .rw[if_neg ht]at hsome
         obtain⟨rfl,rfl⟩:=num_Parse.of_none H.1 (HN.1.trans hsome);have hb1:=hb0.1;obtain⟨v,hv⟩:∃v:Int,v=dv a0 a0.size:=⟨_,rfl⟩;rw[<-hv]at ht hb1 ⊢;clear hv hb0 hsome HD;unfold gP at ht;go_wp2
         all_goals(go_ret2;exact⟨rfl,bQ _ _ _⟩)
 .obtain rfl:a0=Ji:=by
   have:a0.size=0:=by omega
   exact ByteArray.ext (Array.eq_empty_of_size_eq_zero this)
  have hn:num_Parse.num Ji=Ih:=by decide
  obtain⟨rfl,rfl⟩:=num_Parse.of_none H.1 hn;go_enter Ln,Lb;go_wp2
  all_goals(go_ret2;exact⟨rfl,Il _ _⟩)
theorem FD:(If.info? 9).map (λi=>(i.zero,i.size,i.bytes))=Ic (Ic (.string (mkS [])),1,16):=by kernel_rfl
def wst(s:ByteArray):Nat->List ByteArray×Nat
 |0=>([],0)
 |k+1=>if bt s k=32 then((wst s k).1++[s.extract (wst s k).2 k],k+1)else wst s k
def fL(s:ByteArray):List ByteArray:=(wst s s.size).1++[s.extract (wst s s.size).2 s.size]
theorem nQ(s:ByteArray):∀k,(wst s k).2<=k/\(wst s k).1.length<=k
 |0=>⟨Iz _,Iz _⟩
 |k+1=>by
  have:=nQ s k;unfold wst;split
  .simp;omega
  .omega
def Hs(w:Im)(s:ByteArray)(k:Nat)(v:Io)(n:Nat)(W:Im):Prop:=
 k<=s.size/\n=(wst s k).2/\Kd.R Kd.string 9 W w.heap.size (λb=>b≠w.heap.size) v (wst s k).1/\It w.heap.size w W/\W.heap[w.heap.size]?=Ic (.stringIter s k)
theorem BY(s:ByteArray)(ha:Asc s)(hs:s.size<=20000)(w:Im):I9 If 75 #[.string s] w λe w'=>∃v,e=Iv v/\Kd.R Kd.string 9 w' w.heap.size (λ_=>True) v (fL s)/\It w.heap.size w w':=by
 have HA:=MD ha;clear ha;go_enter Tryz.func75,Tryz.ntmps75;go_wp2;go_loopw [3,4,5,6] (λv3 c _ _ wr=>∃(k n:Nat),c=Ib Ie n/\aa (Hs w s k v3 n wr)) (λ_ _ _ _ wr=>s.size-wr.iterPos w.heap.size)
 case atStart=>exact⟨0,0,rfl,⟨⟨ID _,rfl,Kd.R_nil _ _ _ _ _,ae (Il _ _) _,Iu w _⟩⟩⟩
 case round=>
  obtain⟨k,n,rfl,HS⟩:=hrel;obtain⟨hk,hn,ho,hb,hi⟩:=HS.1;have hbd:=nQ s k;by_cases hlt:k<s.size
  .have hax:=HA.1 k hlt
   have hnx:=λty=>fW (P:=If) wr w.heap.size s k ty hi hlt hax;obtain⟨w2,hw2⟩:=ME (World.setIter wr w.heap.size s (k+1));have HI:aa (w2.heap[w.heap.size]?=Ic (.stringIter s (k+1))):=⟨by rw[hw2];exact fj hi _⟩;have HB:aa (It w.heap.size w w2):=⟨by rw[hw2];exact eB hb (Iz _) _ _⟩;have HO:aa (Kd.R Kd.string 9 w2 w.heap.size (λb=>b≠w.heap.size) u3 (wst s k).1):=⟨by
    rw[hw2];exact Kd.R_step ho (λb hb _=>by
     show(wr.heap.setIfInBounds w.heap.size (.stringIter s (k+1)))[b]?=_;rw[Kf (λe=>hb e.symm)])⟩
   rw[<-hw2]at hnx;obtain⟨c,hc⟩:∃c:Int,c=bt s k:=⟨_,rfl⟩;rw[<-hc]at hnx;have HI0:=MD hi;have HLk:=MD hlt;have HN:=MD hn;have HBd:=MD hbd;have hnk:n<=k:=by omega
   have hks:k<=s.size:=hk;clear hw2 hi hb hax HS ho hbd hn hk;by_cases c32:c=32
   .have hst:(wst s (k+1))=((wst s k).1++[s.extract n k],k+1):=by rw[wst,if_pos (by rw[<-hc];exact c32),HN.1]
    subst c32;have HSt:=MD hst;clear hst hc hlt;go_wp2_with (first
     |((with_reducible refine a6 (b:=.append) (xs:=#[.tmp 15,.tmp 20]) rfl ?_);at_builtin;refine Kd.R_append Kd.string (w0:=w) w.heap.size rfl (.tmp 15) (.tmp 20) 166 9 (.string (mkS [])) 16 rfl Tryz.underlying166 FD rfl (by decide) (by omega) u3 ((wst s k).1) (s.extract n k) [.string (s.extract n k)] (λb=>b≠w.heap.size) (λ_=>False) rfl rfl ?aP (λ_ hk=>hk.elim) ?aF ?aO ?aB ?aS ?aL ?_;(case aP=>exact rfl);(case aF=>exact(λb hb=>by have:=aj HI.1;omega));(case aO=>exact HO.1);(case aB=>exact HB.1);(case aS=>exact HB.1.size);(case aL=>have:=HBd.1;omega);intro vap wap ho hb hg hat;have HI3:=MD ((hg.block _ (aj HI.1) (Kd.R_away HO.1 (λ_ h=>h))).trans HI.1);have HO3:=MD ho;have HB3:=MD hb;clear ho hb hg hat))
    go_roundw
    case rel=>exact⟨k+1,k+1,by go_num,⟨⟨HLk.1,by rw[HSt.1],by rw[HSt.1];exact HO3.1,HB3.1,HI3.1⟩⟩⟩
    case measure=>rw[bd HI3.1,bd HI0.1];have:=HLk.1;omega
   .have hst:wst s (k+1)=wst s k:=by rw[wst,if_neg (by rw[<-hc];exact c32)]
    have e1:(c==32)=Ik:=beq_eq_false_iff_ne.mpr c32;have HSt:=MD hst;clear hst hc hlt c32;go_wp2;go_roundw
    case rel=>exact⟨k+1,n,rfl,⟨⟨HLk.1,by rw[HSt.1];exact HN.1,by rw[HSt.1];exact HO.1,HB.1,HI.1⟩⟩⟩
    case measure=>rw[bd HI.1,bd HI0.1];have:=HLk.1;omega
  .have hnx:=λty=>eC (P:=If) wr w.heap.size s k ty hi hlt
   obtain rfl:k=s.size:=by omega
   have hnk:n<=s.size:=by omega
   have HI:=MD hi;have HB:=MD hb;have HO:=MD ho;have HBd:=MD hbd;have HW:aa (fL s=(wst s s.size).1++[s.extract n s.size]):=⟨by unfold fL;rw[hn]⟩;clear hi hb ho HS hlt hbd hk hn;go_wp2_with (first
     |((with_reducible refine a6 (b:=.append) (xs:=#[.tmp 24,.tmp 28]) rfl ?_);at_builtin;refine Kd.R_append Kd.string (w0:=w) w.heap.size rfl (.tmp 24) (.tmp 28) 166 9 (.string (mkS [])) 16 rfl Tryz.underlying166 FD rfl (by decide) (by omega) u3 ((wst s s.size).1) (s.extract n s.size) [.string (s.extract n s.size)] (λb=>b≠w.heap.size) (λ_=>False) rfl rfl ?aP (λ_ hk=>hk.elim) ?aF ?aO ?aB ?aS ?aL ?_;(case aP=>exact rfl);(case aF=>exact(λb hb=>by have:=aj HI.1;omega));(case aO=>exact HO.1);(case aB=>exact HB.1);(case aS=>exact HB.1.size);(case aL=>have:=HBd.1;omega);intro vap wap ho hb hg hat;rw[<-HW.1]at ho;have HO3:=MD ho;have HB3:=MD hb;clear ho hb hg hat))
   go_ret;exact⟨_,rfl,Kd.R_mono HO3.1 (λ_ _=>trivial),HB3.1⟩
def rD(s:ByteArray):Int×Int:=match num_Parse.num s with|some n=>(n,0)|none=>(0,2)
def yY(s:ByteArray):Int×Int:=match loc_Parse.place s with|some l=>(l,0)|none=>(0,2)
theorem FC(s:ByteArray)(w:Im):I9 If 95 #[.string s] w λe w'=>e=Iv (IR #[Ib Ie (rD s).1,Ib Ie (rD s).2])/\It w.heap.size w w':=num_Parse.calls s _ _ w rfl
theorem GP(s:ByteArray)(w:Im):I9 If 96 #[.string s] w λe w'=>e=Iv (IR #[Ib Ie (yY s).1,Ib Ie (yY s).2])/\It w.heap.size w w':=loc_Parse.calls s _ _ w rfl
def iJ(c:Int):Nat:=if c=78 then 4 else if c=84 then 5 else ez c
def iv(c:Int)(s:ByteArray):Int×Int:=if c=78\/c=84 then rD s else yY s
theorem Dy(g:Nat)(x:In)(c:Int)(s:ByteArray)(w:Im)(hx:bq w g x):I9 If 76 #[Iq (Ic ⟨g,0,Ih⟩),.int .i32 c,.string s] w λe w'=>e=Iv (Ib Ie (iv c s).2)/\∃W,It w.heap.size w W/\w'=W.setCell ⟨g,iJ c,Ih⟩ (Ib Ie (iv c s).1):=by
 have HX:=MD hx;clear hx;unfold iJ iv;by_cases h1:c=78
 .subst h1
  rw[if_pos rfl,if_pos (.inl rfl)];have HP:=MD (FC s);obtain⟨a,ha⟩:=ME ((rD s).1);obtain⟨b,hb⟩:=ME ((rD s).2);rw[<-ha,<-hb]at HP ⊢;clear ha hb;go_enter Tryz.func76,Tryz.ntmps76;go_wp2_with (go_at_call 95;refine(HP.1 _).mono ?_;rintro e w2 ⟨rfl,hb⟩;have HB2:=MD hb;have g4:=(HX.1.below hb).get 4 (by omega);have f4:=au (HX.1.below hb) 4;clear hb);go_ret;exact⟨rfl,w2,HB2.1,rfl⟩
 .rw[if_neg h1]
  by_cases h2:c=84
  .subst h2
   rw[if_pos rfl,if_pos (.inr rfl)];have HP:=MD (FC s);obtain⟨a,ha⟩:=ME ((rD s).1);obtain⟨b,hb⟩:=ME ((rD s).2);rw[<-ha,<-hb]at HP ⊢;clear ha hb h1;go_enter Tryz.func76,Tryz.ntmps76;go_wp2_with (go_at_call 95;refine(HP.1 _).mono ?_;rintro e w2 ⟨rfl,hb⟩;have HB2:=MD hb;have g4:=(HX.1.below hb).get 5 (by omega);have f4:=au (HX.1.below hb) 5;clear hb);go_ret;exact⟨rfl,w2,HB2.1,rfl⟩
  .rw[if_neg h2,if_neg (by omega)]
   have HP:=MD (GP s);obtain⟨a,ha⟩:=ME ((yY s).1);obtain⟨b,hb⟩:=ME ((yY s).2);rw[<-ha,<-hb]at HP ⊢;have e1:(c==78)=Ik:=beq_eq_false_iff_ne.mpr h1;have e2:(c==84)=Ik:=beq_eq_false_iff_ne.mpr h2;have HF:=MD (nB c);clear ha hb h1 h2;go_enter Tryz.func76,Tryz.ntmps76;go_wp2_with (first
    |(go_at_call 96;refine(HP.1 _).mono ?_;rintro e w2 ⟨rfl,hb⟩;have HB2:=MD hb;have g4:=(HX.1.below hb).get (ez c) HF.1;have f4:=au (HX.1.below hb) (ez c);clear hb)
    |(go_at_call 86;refine(g_ _ _ _).mono ?_;rintro e w' ⟨rfl,rfl⟩))
   go_ret;exact⟨rfl,w2,HB2.1,rfl⟩
def In.put(x:In)(k:Nat)(v:Int):In:=
 match k with
 |0=>{ x with op:=v }|1=>{ x with d:=v }|2=>{ x with a:=v }|3=>{ x with b:=v }|4=>{ x with n:=v }|_=>{ x with jt:=v }
theorem DJ(c:Int):iJ c<6:=by
 have:=nB c;unfold iJ;split
 .omega
 .split<;>omega
theorem bq.put{w:Im}{g:Nat}{x:In}(h:bq w g x)(k:Nat)(hk:k<6)(v:Int):bq (w.setCell ⟨g,k,Ih⟩ (Ib Ie v)) g (x.put k v):=by
 have:=fv h k (Ib Ie v)
 match k,hk with
 |0,_=>exact this
 |1,_=>exact this
 |2,_=>exact this
 |3,_=>exact this
 |4,_=>exact this
 |5,_=>exact this
def eQ(ws:List ByteArray):List Int->Nat->In->Option In
 | [],_,x=>Ic x
 |c::cs,k,x=>if(iv c (ws.getD (k+1) (mkS []))).2=0 then eQ ws cs (k+1) (x.put (iJ c) (iv c (ws.getD (k+1) (mkS []))).1)else Ih
def jN(ws:List ByteArray):List (ByteArray×ByteArray)->Nat->In×Int
 | [],_=>(In.zero,2)
 |p::ps,i=>if p.1=ws.getD 0 (mkS [])/\p.2.size+1=ws.length then
   match eQ ws (bl p.2 0) 0 { In.zero with op:=(i:Int)+1 }with
   |none=>(In.zero,2)
   |some x=>if cy x 200=0 then(x,0)else(In.zero,2)
  else jN ws ps (i+1)
def dO(s:ByteArray):In×Int:=jN (fL s) aM 0
def mu:List Io:=aM.flatMap λp=>[.string p.1,.string p.2]
theorem BC(i:Nat)(hi:i<18):mu[i*2]?=Ic (.string (aM.getD i (mkS [],mkS [])).1)/\mu[i*2+1]?=Ic (.string (aM.getD i (mkS [],mkS [])).2):=by
 have h18:i=0\/i=1\/i=2\/i=3\/i=4\/i=5\/i=6\/i=7\/i=8\/i=9\/i=10\/i=11\/i=12\/i=13\/i=14\/i=15\/i=16\/i=17:=by omega
 clear hi;rcases h18 with rfl|rfl|rfl|rfl|rfl|rfl|rfl|rfl|rfl|rfl|rfl|rfl|rfl|rfl|rfl|rfl|rfl|rfl
 all_goals exact⟨rfl,rfl⟩
theorem yH:mu.length=36:=rfl
theorem uT{W:Im}(h:Gl W):(Le 170 ⟨0,0,Ih⟩).run If W=.ok (IA mu.toArray) W:=by
 have hcl:∀j v,mu[j]?=Ic v->W.cell? ((⟨0,0,Ih⟩:Addr).add j)=Ic v:=by
  intro j v hj;have hl:=(Ip.1 hj).1;rw[yH]at hl;obtain⟨c0,c1⟩:=h.1 (j/2) (by omega);obtain⟨s0,s1⟩:=BC (j/2) (by omega);have ha:(⟨0,0,Ih⟩:Addr).add j=⟨0,j,Ih⟩:=by
   unfold Mo;by_cases h0:j=0<;>simp[h0]
  rw[ha];rcases Nat.mod_two_eq_zero_or_one j with e|e
  .have:j/2*2=j:=by omega
   rw[this]at c0 s0;rw[c0,<-s0,hj]
  .have:j/2*2+1=j:=by omega
   rw[this]at c1 s1;rw[c1,<-s1,hj]
 have hl:=run_loadCells_list (P:=If) (w:=W) ⟨0,0,Ih⟩ _ hcl;have hs:(sizeOf 170).run If W=.ok 36 W:=by kernel_rfl
 have hl':(loadCells ⟨0,0,Ih⟩ 36).run If W=.ok mu.toArray W:=hl;simp only[Le,isAgg,IJ,I2 Tryz.underlying170,I1,JO,if_true,hs,hl']
theorem tK(i:Nat)(hi:i<18)(W:Im):(Instr.index 170 (IA mu.toArray) (Ib Ie (i:Int))).run If W=.ok (IA #[.string (aM.getD i (mkS [],mkS [])).1,.string (aM.getD i (mkS [],mkS [])).2]) W:=by
 have h18:i=0\/i=1\/i=2\/i=3\/i=4\/i=5\/i=6\/i=7\/i=8\/i=9\/i=10\/i=11\/i=12\/i=13\/i=14\/i=15\/i=16\/i=17:=by omega
 clear hi;rcases h18 with rfl|rfl|rfl|rfl|rfl|rfl|rfl|rfl|rfl|rfl|rfl|rfl|rfl|rfl|rfl|rfl|rfl|rfl
 all_goals(show _=_;kernel_rfl)
theorem av{P:Jn}{ops:Array Oper}{rest:List Oper}{o:Oper}{a:Act}{W:Im}{Q:Exit->Act->Im->Prop}(hgd:o.guard=Ih)(ty:Je)(x:Lf)(ho:o.op=.load ty x)(ad:Addr)(hx:a.eval x=Iq (Ic ad))(v:Io)
  (hrun:(Le ty ad).run P W=.ok v W) (h:Kg P ops Q rest (a.put o.dst v) W):Kg P ops Q (o::rest) a W:=by
 refine Kd.event_run hgd ?_ h;unfold JJ;simp only[ho,hx,Instr.loadAt,Mg,IJ,JO,I1,hrun]
theorem Eu(k:Nat)(hk:k<18):Asc (aM.getD k (mkS [],mkS [])).2:=by
 have h1:=pj ((k:Int)+1);have h3:kY ((k:Int)+1)=Ir:=decide_eq_true (by omega);have h2:((k:Int)+1-1).toNat=k:=by omega
 unfold shF at h1;rw[if_pos h3,h2]at h1;exact h1
theorem Bp(k:Nat)(hk:k<18):(aM.getD k (mkS [],mkS [])).2.size<=3:=by
 have h3:∀p∈aM,p.2.size<=3:=by decide
 rw[Ij,Ig (by rw[km];exact hk)];exact h3 _ (K8 _)
theorem CM(k:Nat)(hk:k<18):aM.drop k=(aM.getD k (mkS [],mkS []))::aM.drop (k+1):=by
 rw[Jc (by rw[km];exact hk),Ij,Ig (by rw[km];exact hk)];rfl
theorem sO(s:ByteArray):s.toList=s.data.toList:=by
 have key:∀(n i:Nat) (r:List UInt8),s.size-i=n->ByteArray.toList.loop s i r=r.reverse++s.data.toList.drop i:=by
  intro n
  induction n with
  |zero=>
   intro i r h;have hl:s.data.toList.length=s.size:=by rw[LJ];rfl
   rw[ByteArray.toList.loop,if_neg (by omega),Ju (by omega),JS]
  |succ n ih=>
   intro i r h;have hl:s.data.toList.length=s.size:=by rw[LJ];rfl
   rw[ByteArray.toList.loop,if_pos (by omega),ih (i+1) _ (by omega)];have hi:i<s.data.toList.length:=by omega
   rw[Jc hi];have hg:s.get! i=s.data.toList[i]:=by
    cases s with|mk d=>
    simp[ByteArray.get!];have:i<d.size:=by simpa using hi
    simp[this]
   simp[hg]
 have:=key s.size 0 [] rfl;simpa[ByteArray.toList]using this
theorem FR{a b:ByteArray}(h:a≠b):(a.toList==b.toList)=Ik:=by
 rw[beq_eq_false_iff_ne];intro e;rw[sO,sO]at e;apply h;cases a;cases b;simp at e;rw[e]
theorem nL(ad:Addr)(j:Nat)(h:0<j):ad.add j=⟨ad.block,ad.off+j,Ih⟩:=by
 unfold Mo;rw[if_neg (by omega)]
theorem yx{w:Im}{A:Option Addr}{n:Nat}{xs:List ByteArray}(h:Kd.C Kd.string w A n xs)(i:Nat)(hi:i<n):∃ad,A=Ic ad/\w.cell? (ad.add i)=Ic (.string (xs.getD i (mkS []))):=by
 obtain⟨ad,e,hc⟩:=Kd.at_string h (i:Int) (by omega) (by omega);refine⟨ad,e,?_⟩;have he:(mkS []:ByteArray)=Ji:=rfl;rw[he];simpa[yP,Ij]using hc
def Hw(w w1:Im)(g:Nat)(A:Option Addr)(ws:List ByteArray)(W:Im):Prop:=It w1.heap.size w1 W/\bq W g In.zero/\Kd.C Kd.string W A ws.length ws/\Gl W/\It w.heap.size w W/\w.heap.size<=g
theorem B0(s:ByteArray)(ha:Asc s)(hs:s.size<=20000)(w:Im)(hG:Gl w):I9 If 45 #[.string s] w λe w'=>e=Iv (IR #[IA (dO s).1.cells,Ib Ie (dO s).2])/\It w.heap.size w w':=by
 have HG:=MD hG;have HA:=MD ha;obtain⟨ws,hws⟩:=ME (fL s);have hlen:1<=ws.length:=by rw[hws];unfold fL;simp
 have hlen2:ws.length<=20001:=by rw[hws];unfold fL;have:=(nQ s s.size).2;simp;omega
 have hW:=λw=>BY s ha hs w;rw[<-hws]at hW;have HW:=MD hW;obtain⟨r,hr⟩:=ME (dO s);rw[<-hr];unfold dO at hr;rw[<-hws]at hr;have HR:=MD hr;obtain⟨r1,r2⟩:=r;have hlen0:0<ws.length:=hlen;clear hG ha hW hws hr;go_enter Tryz.func45,Tryz.ntmps45;go_upto_block 0 with(first
  |(go_at_call 75;refine(HW.1 _).mono ?_;rintro e w1 ⟨v,rfl,hv,hb⟩;obtain⟨A,c,rfl,hcc,hC⟩:=Kd.R_reads hv;have HC:=MD hC;have HB1:=MD (af (ae (Il _ _) _) hb);have KZ:=MD (show bq w1 w.heap.size In.zero from bq.below (show bq (w.alloc (Is In.zero.cells 49 (0,0))) w.heap.size In.zero from Iu w _) hb);have hls:=uT (HG.1.below (af (ae (Il w.heap.size w) (Is In.zero.cells 49 (0,0))) hb));clear hb hv hC)
  |((with_reducible refine ai (N:=13) rfl ?_);refine av rfl 170 _ rfl ⟨0,0,Ih⟩ rfl _ hls ?_))
 have HG1:=MD (HG.1.below HB1.1);go_wp2_with fail;go_loopw [14] (λi wr=>∃k:Nat,i=Ib Ie k/\aa (k<=18/\Hw w w1 w.heap.size A ws wr/\(r1,r2)=jN ws (aM.drop k) k)) (λi _=>18-(Jj i).toNat)
 case atStart=>exact⟨0,rfl,⟨⟨by omega,⟨Il _ _,KZ.1,HC.1,HG1.1,HB1.1,Iz _⟩,HR.1⟩⟩⟩
 case round=>
  obtain⟨wo,rfl⟩:=ME wr;obtain⟨k,rfl,HS⟩:=hrel;obtain⟨hk,⟨hb1,hz,hC,hG,hb,hg⟩,hp⟩:=HS.1;have HZ:=MD hz;have HC2:=MD hC;have HG2:=MD hG;have HB:=MD hb;have HBB:=MD hb1;by_cases hlt:k<18
  .have hlt':(k:Int)<18:=by omega
   have hix:=tK k hlt;obtain⟨ad,rfl,_⟩:=yx hC 0 (by omega);obtain⟨w0,hw0'⟩:∃w0,w0=ws.getD 0 (mkS []):=⟨_,rfl⟩;rw[CM k hlt,jN,<-hw0']at hp;have hfa:=Eu k hlt;have hfs:=Bp k hlt;obtain⟨wd,hwd⟩:∃x,x=(aM.getD k (mkS [],mkS [])).1:=⟨_,rfl⟩;obtain⟨fs,hfs'⟩:∃x,x=(aM.getD k (mkS [],mkS [])).2:=⟨_,rfl⟩;rw[<-hwd,<-hfs']at hp hix;rw[<-hfs']at hfs hfa;have HP:=MD hp;have HFa:=MD hfa;have HZ3:=MD (HZ.1.below (ae (Il _ _) (Is #[.string wd,.string fs] 169 (0,0))));have HC3:=MD (Kd.C_below HC2.1 (ae (Il _ _) (Is #[.string wd,.string fs] 169 (0,0))));have HG3:=MD (HG2.1.below (ae (Il _ _) (Is #[.string wd,.string fs] 169 (0,0))));have HB3:=MD (af HB.1 (ae (Il _ _) (Is #[.string wd,.string fs] 169 (0,0))));have HBB3:=MD (af HBB.1 (ae (Il _ _) (Is #[.string wd,.string fs] 169 (0,0))));obtain⟨ad',e,hw0⟩:=yx HC3.1 0 (by omega);obtain rfl:=Ii e;rw[<-hw0']at hw0;rw[show ad.add 0=ad by simp[Mo]]at hw0;clear hz hC hG hb hb1 HS hp hwd hfs' hfa hw0' e;have hnil:∃m:Nat,ws.length=m+1:=⟨ws.length-1,by omega⟩;clear hnil;by_cases hq:wd=w0
   .subst hq
    by_cases hz:fs.size+1=ws.length
    .have hz1:((fs.size:Int) != (ws.length:Int)-1)=Ik:=bne_eq_false_iff_eq.mpr (by omega)
     have HPp:=HP.1;rw[if_pos ⟨rfl,hz⟩]at HPp;have HPq:=MD HPp;have HZz:=MD hz;clear HPp hz;go_upto_region 5 with fail
     go_quiet (fail)
     go_wp2_with fail;obtain⟨F,hF⟩:=ME (eQ ws (bl fs 0) 0 { In.zero with op:=(k:Int)+1 });rw[<-hF]at HPq;have HF:=MD hF;clear hF;go_loopw [8,9,10] (λ_ _ _ W=>∃(k2:Nat) (x:In),aa (k2<=fs.size/\bq W (wo.heap.size+1) x/\W.heap[wo.heap.size+1+1]?=Ic (.stringIter fs k2)/\It wo.heap.size wo W/\F=eQ ws (bl fs k2) k2 x)) (λ_ _ _ W=>fs.size-W.iterPos (wo.heap.size+1+1))
     case atStart=>
      refine⟨0,{ In.zero with op:=(k:Int)+1 },⟨⟨ID _,?_,?_,?_,HF.1⟩⟩⟩
      .have h:=eF wo [Is #[.string wd,.string fs] 169,Is #[Ib Ie (1+(k:Int)),Ib Ie 0,Ib Ie 0,Ib Ie 0,Ib Ie 0,Ib Ie 0] 49,.stringIter fs 0] 1 _ rfl
       show _=Ic (Is #[Ib Ie ((k:Int)+1),Ib Ie 0,Ib Ie 0,Ib Ie 0,Ib Ie 0,Ib Ie 0] 49 (0,0));rw[Int.add_comm (k:Int) 1];exact h
      .exact eF wo [Is #[.string wd,.string fs] 169,Is #[Ib Ie (1+(k:Int)),Ib Ie 0,Ib Ie 0,Ib Ie 0,Ib Ie 0,Ib Ie 0] 49,.stringIter fs 0] 2 _ rfl
      .exact af (aQ (ae (Il _ _) _) _) (ae (ae (Il _ _) _) _)
     case round=>
      obtain⟨k2,x,HS2⟩:=hrel;obtain⟨hk2,hx,hi,hbw,hf⟩:=HS2.1;have hCw:=Kd.C_below HC2.1 hbw;have HBw:=MD hbw;by_cases hlt2:k2<fs.size
      .have hax:=HFa.1 k2 hlt2
       have hnx:=λty=>fW (P:=If) wr (wo.heap.size+1+1) fs k2 ty hi hlt2 hax;obtain⟨w2,hw2⟩:=ME (World.setIter wr (wo.heap.size+1+1) fs (k2+1));have HI:aa (w2.heap[wo.heap.size+1+1]?=Ic (.stringIter fs (k2+1))):=⟨by rw[hw2];exact fj hi _⟩;have HX:aa (bq w2 (wo.heap.size+1) x):=⟨by rw[hw2];exact jm hx (by omega) _ _⟩;have HB5:aa (It wo.heap.size wo w2):=⟨by rw[hw2];exact eB hbw (by omega) _ _⟩;rw[<-hw2]at hnx;obtain⟨ch,hc⟩:∃c:Int,c=bt fs k2:=⟨_,rfl⟩;rw[Bf hlt2,<-hc,eQ]at hf;rw[<-hc]at hnx;have hk3:k2+1<ws.length:=by have:=HZz.1;omega
       obtain⟨ad',e,hcell⟩:=yx (Kd.C_below HC2.1 HB5.1) (k2+1) hk3;obtain rfl:=Ii e;obtain⟨wk,hwk⟩:∃wk,wk=ws.getD (k2+1) (mkS []):=⟨_,rfl⟩;rw[<-hwk]at hf hcell;rw[nL _ _ (Nat.succ_pos _)]at hcell;have HFi:=MD (Dy (wo.heap.size+1) x ch wk);obtain⟨q,hq⟩:=ME ((iv ch wk).2);rw[<-hq]at HFi hf;have HI0:=MD hi;have HFf:=MD hf;have HLk:=MD hlt2;clear hq hwk hw2 hc hi hx hbw hax HS2 hf hCw e hk2 hlt2;by_cases hq0:q=0
       .have HFg:aa (F=eQ ws (bl fs (k2+1)) (k2+1) (x.put (iJ ch) (iv ch wk).1)):=⟨by rw[HFf.1,if_pos hq0]⟩
        subst hq0;go_wp2_with (go_at_call 76;refine(HFi.1 _ HX.1).mono ?_;rintro e w5 ⟨rfl,W5,hb5,rfl⟩;have HX5:=MD ((HX.1.below hb5).put (iJ ch) (DJ ch) (iv ch wk).1);have HI5:=MD (gE (p:=⟨wo.heap.size+1,iJ ch,Ih⟩) ((hb5.block _ (aj HI.1)).trans HI.1) (by simp) (Ib Ie (iv ch wk).1));have HB6:=MD ((af HB5.1 hb5).setCell (p:=⟨wo.heap.size+1,iJ ch,Ih⟩) (by simp) (Ib Ie (iv ch wk).1));clear hb5);go_roundw
        case rel=>exact⟨k2+1,_,⟨⟨HLk.1,HX5.1,HI5.1,HB6.1,HFg.1⟩⟩⟩
        case measure=>rw[bd HI5.1,bd HI0.1];have:=HLk.1;omega
       .have hFn:F=Ih:=by rw[HFf.1,if_neg hq0]
        subst hFn;obtain⟨rfl,rfl⟩:=IM ..▸HPq.1;have hq1:(q != 0)=Ir:=bne_iff_ne.mpr hq0;clear hq0;go_wp2_with (first
         |(go_at_call 76;refine(HFi.1 _ HX.1).mono ?_;rintro e w5 ⟨rfl,W5,hb5,rfl⟩;have HZ5:=MD (((HZ.1.below HB5.1).below hb5).far (p:=⟨wo.heap.size+1,iJ ch,Ih⟩) (by have:=aj HZ.1;simp;omega) (Ib Ie (iv ch wk).1));have HB6:=MD (af HB.1 ((af HB5.1 hb5).setCell (p:=⟨wo.heap.size+1,iJ ch,Ih⟩) (by simp) (Ib Ie (iv ch wk).1)));clear hb5)
         |((with_reducible refine ap (t:=49) (p:=2) rfl ?_);refine I3 rfl 49 _ _ rfl w.heap.size In.zero.cells rfl rfl 49 In.zero.cells HZ5.1 bU rfl (lP _) ?_))
        exact IG (v:=IR #[IA In.zero.cells,Ib Ie 2]) (aD (rs:=[.cell 2 49,.tmp 3]) rfl (by simp) (.cell w.heap.size 49 In.zero.cells (0,0) _ rfl (JX _ w.heap.size _ _ 49 _ HZ5.1) I6 rfl bU (.tmp .nil))) rfl ⟨rfl,Jl HB6.1 (Iz _) _⟩
      .obtain rfl:k2=fs.size:=by omega
       have hnx:=λty=>eC (P:=If) wr (wo.heap.size+1+1) fs fs.size ty hi hlt2;rw[Ef]at hf;obtain rfl:F=Ic x:=hf;have HX:=MD hx;have HZ7:=MD (HZ.1.below hbw);have HB7:=MD (af HB.1 hbw);have HG7:=MD (HG2.1.below hbw);have hpq:=HPq.1;clear hx hi hbw HS2 hCw hk2 hlt2;have HCk:=MD (sj x 200);by_cases hq0:cy x 200=0
       .rw[hq0]at HCk
        replace hpq:(r1,r2)=if cy x 200=0 then(x,0)else(In.zero,2):=hpq
        rw[if_pos hq0]at hpq;obtain⟨rfl,rfl⟩:=IM ..▸hpq;clear hq0 hpq;go_wp2_with (first
         |((with_reducible refine ai (N:=53) rfl ?_);refine II rfl 49 _ rfl (wo.heap.size+1) rfl 49 r1.cells (0,0) _ HX.1 I6 rfl bU ?_)
         |(go_at_call 77;refine(HCk.1 _ HG7.1).mono ?_;rintro e w5 ⟨rfl,hb5⟩;have HX8:=MD (HX.1.below hb5);have HZ8:=MD (HZ7.1.below hb5);have HB8:=MD (af HB7.1 hb5);clear hb5)
         |((with_reducible refine ai (N:=56) rfl ?_);refine II rfl 49 _ rfl (wo.heap.size+1) rfl 49 r1.cells (0,0) _ HX8.1 I6 rfl bU ?_)
         |((with_reducible refine ap (t:=49) (p:=2) rfl ?_);refine I3 rfl 49 _ _ rfl w.heap.size r1.cells rfl rfl 49 In.zero.cells HZ8.1 bU rfl (lP _) ?_))
        exact IG (v:=IR #[IA r1.cells,Ib Ie 0]) (aD (rs:=[.cell 2 49,.tmp 3]) rfl (by simp) (.cell w.heap.size 49 r1.cells (0,0) _ rfl (JX _ w.heap.size _ _ 49 _ HZ8.1) I6 rfl bU (.tmp .nil))) rfl ⟨rfl,Jl HB8.1 (Iz _) _⟩
       .obtain⟨q,hq⟩:=ME (cy x 200)
        rw[<-hq]at HCk hq0
        replace hpq:(r1,r2)=if cy x 200=0 then(x,0)else(In.zero,2):=hpq
        rw[if_neg (by rw[<-hq];exact hq0)]at hpq;obtain⟨rfl,rfl⟩:=IM ..▸hpq;have hq1:(q != 0)=Ir:=bne_iff_ne.mpr hq0;clear hq hq0 hpq;go_wp2_with (first
         |((with_reducible refine ai (N:=53) rfl ?_);refine II rfl 49 _ rfl (wo.heap.size+1) rfl 49 x.cells (0,0) _ HX.1 I6 rfl bU ?_)
         |(go_at_call 77;refine(HCk.1 _ HG7.1).mono ?_;rintro e w5 ⟨rfl,hb5⟩;have HZ8:=MD (HZ7.1.below hb5);have HB8:=MD (af HB7.1 hb5);clear hb5)
         |((with_reducible refine ap (t:=49) (p:=2) rfl ?_);refine I3 rfl 49 _ _ rfl w.heap.size In.zero.cells rfl rfl 49 In.zero.cells HZ8.1 bU rfl (lP _) ?_))
        exact IG (v:=IR #[IA In.zero.cells,Ib Ie 2]) (aD (rs:=[.cell 2 49,.tmp 3]) rfl (by simp) (.cell w.heap.size 49 In.zero.cells (0,0) _ rfl (JX _ w.heap.size _ _ 49 _ HZ8.1) I6 rfl bU (.tmp .nil))) rfl ⟨rfl,Jl HB8.1 (Iz _) _⟩
    .have hz1:((fs.size:Int) != (ws.length:Int)-1)=Ir:=bne_iff_ne.mpr (by omega)
     have HPp:aa ((r1,r2)=jN ws (aM.drop (k+1)) (k+1)):=⟨by rw[HP.1,if_neg (λh=>hz h.2)]⟩;clear hz;go_upto_region 5 with fail
     go_quiet (fail)
     go_wp2;go_roundw
     case rel=>exact⟨k+1,by go_num,⟨⟨hlt,⟨aQ HBB3.1 _,HZ3.1.below (aQ (Il _ _) _),Kd.C_below HC3.1 (aQ (Il _ _) _),HG3.1.below (aQ (Il _ _) _),aQ HB3.1 _,Iz _⟩,HPp.1⟩⟩⟩
     case measure=>simp[Jj];omega
   .have hq3:=FR hq
    have HPp:aa ((r1,r2)=jN ws (aM.drop (k+1)) (k+1)):=⟨by rw[HP.1,if_neg (λh=>hq h.1)]⟩;go_upto_region 5 with fail
    go_quiet (fail)
    go_wp2;go_roundw
    case rel=>exact⟨k+1,by go_num,⟨⟨hlt,⟨aQ HBB3.1 _,HZ3.1.below (aQ (Il _ _) _),Kd.C_below HC3.1 (aQ (Il _ _) _),HG3.1.below (aQ (Il _ _) _),aQ HB3.1 _,Iz _⟩,HPp.1⟩⟩⟩
    case measure=>simp[Jj];omega
  .obtain rfl:k=18:=by omega
   obtain⟨rfl,rfl⟩:=IM ..▸(show(r1,r2)=(In.zero,2)from hp);clear hz hC hG hb hb1 HS hp;go_wp2_with (first
    |((with_reducible refine ap (t:=49) (p:=2) rfl ?_);refine I3 rfl 49 _ _ rfl w.heap.size In.zero.cells rfl rfl 49 In.zero.cells HZ.1 bU rfl (lP _) ?_))
   exact IG (v:=IR #[IA In.zero.cells,Ib Ie 2]) (aD (rs:=[.cell 2 49,.tmp 3]) rfl (by simp) (.cell w.heap.size 49 In.zero.cells (0,0) _ rfl (JX _ w.heap.size _ _ 49 _ HZ.1) I6 rfl bU (.tmp .nil))) rfl ⟨rfl,Jl HB.1 (Iz _) _⟩
structure Fr(S:Nat->Prop)(w w':Im):Prop where
 os:w'.os=w.os
 tape:w'.tape=w.tape
 output:w'.output=w.output
 size:w.heap.size<=w'.heap.size
 block:∀k,k<w.heap.size->¬S k->w'.heap[k]?=w.heap[k]?
theorem Fr.refl(S:Nat->Prop)(w:Im):Fr S w w:=⟨rfl,rfl,rfl,Iz _,λ_ _ _=>rfl⟩
theorem Fr.trans{S:Nat->Prop}{a b c:Im}(h:Fr S a b)(k:Fr S b c):Fr S a c:=
 ⟨k.os.trans h.os,k.tape.trans h.tape,k.output.trans h.output,IT h.size k.size,λi hi hs=>(k.block i (Kw hi h.size) hs).trans (h.block i hi hs)⟩
theorem Fr.of_below{S:Nat->Prop}{a b:Im}(h:It a.heap.size a b):Fr S a b:=⟨h.os,h.tape,h.output,h.size,λi hi _=>h.block i hi⟩
theorem Fr.below{S:Nat->Prop}{B:Nat}{w a b:Im}(hb:It B w a)(h:Fr S a b)(hs:∀k,k<B->¬S k)(hB:B<=a.heap.size):It B w b:=
 ⟨h.os.trans hb.os,h.tape.trans hb.tape,h.output.trans hb.output,IT hb.size h.size,λk hk=>(h.block k (by omega) (hs k hk)).trans (hb.block k hk)⟩
theorem Fr.grown{S:Nat->Prop}{a b:Im}{row:Option Nat}(h:a.grownBy b row)(hs:∀k,Ic k=row->S k):Fr S a b:=
 ⟨h.os,h.tape,h.output,h.size,λk hk hn=>h.block k hk (λe=>hn (hs k e))⟩
theorem Fr.row{S:Nat->Prop}{a:Im}{g:Nat}(hs:S g)(cs:Array Io):Fr S a (a.setRow g cs):=by
 have hb:=Jl (Il g a) (Iz g) cs;exact⟨hb.os,hb.tape,hb.output,hb.size,λk _ hn=>setRow_other a g k cs (λe=>hn (e▸hs))⟩
theorem Fr.cell{S:Nat->Prop}{a:Im}{p:Addr}(hs:S p.block)(v:Io):Fr S a (a.setCell p v):=by
 have hb:=(Il p.block a).setCell (Iz _) v;exact⟨hb.os,hb.tape,hb.output,hb.size,λk _ hn=>Ld a p v k (λe=>hn (e▸hs))⟩
theorem Fr.mono{S T:Nat->Prop}{a b:Im}(h:Fr S a b)(hst:∀k,k<a.heap.size->S k->T k):Fr T a b:=⟨h.os,h.tape,h.output,h.size,λk hk hn=>h.block k hk (λe=>hn (hst k hk e))⟩
theorem Fr.drew{S:Nat->Prop}{a:Im}:Fr S a a.drew:=⟨rfl,rfl,rfl,Iz _,λ_ _ _=>rfl⟩
theorem ki{P:Jn}{ops:Array Oper}{aF:Act}{o:Oper}{W:Im}{G:Io->Im->Prop}{α:Type}(d:Kd α)(base:Nat)(hgd:Jk o (KH ops aF.tmps)=Ir)(s x:Lf)(t e:Je)(z:Io)(KU:Nat)
  (ho:o.op=.call { callee:=.builtin .append,args:=#[s,x],argTypes:=#[t,t] })
  (ht:P.underlying t=Ic (.slice e)) (hinfo:(P.info? e).map (λi=>(i.zero,i.size,i.bytes))=Ic (Ic z,d.sz,KU)) (hz:z.cells.size=d.sz) (hs0:0<d.sz) (hb0:0<KU)
  (v:Io) (xs:List α) (p:α) (cs:List Io) (ok okp:Nat->Prop) (hs:aF.eval s=v) (ad:Addr) (hx:aF.eval x=Ia (Ic ad) 1 1) (hbox:∀j u,cs[j]?=Ic u->W.cell? (ad.add j)=Ic u)
  (hp:d.M W base okp p cs) (hokp:∀k,okp k->ok k/\Ic k≠v.ownBlock) (hfresh:∀k,W.heap.size<=k->ok k)
  (HO:d.R e W base ok v xs) (hbase:base<=W.heap.size) (hl:(xs.length+1)*KU<=140737488355328)
  (h:∀v1 w1,d.R e w1 base ok v1 (xs++[p])->W.grownBy w1 v.ownBlock->(v1.ownBlock=v.ownBlock\/∃b,v1.ownBlock=Ic b/\W.heap.size<=b)->G v1 w1):gQ P ops aF o W G:=by
 obtain⟨i0,hi,hzz⟩:=Ks.1 hinfo;simp only[IM]at hzz;obtain⟨hz0,hz1,hz2⟩:=hzz;have hlen:xs.length+1<=140737488355328:=IT (Mk _ hb0) hl;obtain⟨h0,inner,hown,hr⟩:=HO;obtain⟨v1,w1,hrun,hown1,hg,_,hat⟩:=run_append_own_at (P:=P) W base t o.type e i0 z d.sz KU ht hi hz0 hz1 hz2 hz hs0 v xs.length inner hown ad 1 1 cs (by rw[d.K_len (d.K_of_M hp)];simp)
  hbox (d.K_one (d.K_of_M hp)) (by simp only[maxLen];omega) hl hbase
 have hat':v1.ownBlock=v.ownBlock\/∃b,v1.ownBlock=Ic b/\W.heap.size<=b:=by
  rcases hat with hat|hat
  .exact .inl hat
  .exact .inr ⟨_,hat,Iz _⟩
 refine .inr ⟨hgd,?_⟩;have hexec:(JJ aF.eval o).run P W=.ok (.value v1) w1:=by
  unfold JJ;simp only[ho,resolve,invoke,builtin,IJ,JO,I1,Mt,Jt,La,hs,hx,hrun]
 rw[hexec];exact h v1 w1 (Kd.R_appended h0 hr hp hokp hfresh hown1 hg hat') hg hat'
theorem zo(s:ByteArray)(a b:Nat)(hb:b<=s.size)(i:Nat)(hi:i<(s.extract a b).size):bt (s.extract a b) (i:Int)=bt s ((a+i:Nat):Int):=by
 have hsz:(s.extract a b).size=b-a:=by rw[ByteArray.size_extract];omega
 have h1:=oX (s.extract a b) (i:Int) hi;have h2:=oX s ((a+i:Nat):Int) (by simp only[IC];omega);simp only[IC]at h1 h2;rw[<-h1,<-h2,ByteArray.getElem_extract]
theorem Asc.extract{s:ByteArray}(h:Asc s)(a b:Nat)(hb:b<=s.size):Asc (s.extract a b):=by
 intro i hi;rw[zo s a b hb i hi];have hsz:(s.extract a b).size=b-a:=by rw[ByteArray.size_extract];omega
 exact h _ (by omega)
theorem ll{P:Jn}(W:Im)(a:Addr)(v u:Io)(h1:v.oneCell'=Ir)(hc:W.cell? a=Ic u)(hf:W.frozen? a=Ik):(store a v).run P W=.ok () (W.setCell a v):=by
 rw[run_store P W a v _ h1,hc];simp[hf]
theorem a_{P:Jn}{ops:Array Oper}{aF:Act}{o:Oper}{W:Im}{G:Io->Im->Prop}(hgd:Jk o (KH ops aF.tmps)=Ir)(ty:Je)(x y:Lf)(ho:o.op=.store ty x y)
  (g i:Nat) (v u:Io) (hx:aF.eval x=Iq (Ic ⟨g,i,Ih⟩)) (hy:aF.eval y=v) (hv:v.cells=#[v]) (h1:v.oneCell'=Ir) (hsz:(sizeOf ty).run P W=.ok 1 W) (hc:W.cell? ⟨g,i,Ih⟩=Ic u) (hf:W.frozen? ⟨g,i,Ih⟩=Ik)
  (hG:G KG (W.setCell ⟨g,i,Ih⟩ v)):gQ P ops aF o W G:=by
 refine .inr ⟨hgd,?_⟩;have hr:=ll (P:=P) W ⟨g,i,Ih⟩ v u h1 hc hf;have ha:(⟨g,i,Ih⟩:Addr).add 0=⟨g,i,Ih⟩:=rfl;have hexec:(JJ aF.eval o).run P W=.ok .skip (W.setCell ⟨g,i,Ih⟩ v):=by
  unfold JJ;simp[ho,hx,hy,Instr.storeAt,Mg,storeVar,hsz,hv,storeCells,ha,hr,IJ,Jf]
 rw[hexec];exact hG
theorem ax{P:Jn}{ops:Array Oper}{aF:Act}{o:Oper}{W:Im}{G:Io->Im->Prop}(hgd:Jk o (KH ops aF.tmps)=Ir)(ty:Je)(x:Lf)(ho:o.op=.load ty x)
  (a:Addr) (u:Io) (hx:aF.eval x=Iq (Ic a)) (hagg:(isAgg ty).run P W=.ok Ik W) (hc:W.cell? a=Ic u) (hG:G u W):gQ P ops aF o W G:=by
 refine .inr ⟨hgd,?_⟩;have hexec:(JJ aF.eval o).run P W=.ok (.value u) W:=by
  unfold JJ;simp[ho,hx,Instr.loadAt,Mg,Le,hagg,IJ,Jf,hc]
 rw[hexec];exact hG
end Go.Proofs.YtlinbehijfcelaaGreatDoor.Top
