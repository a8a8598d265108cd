/- Walks of the program, and what it computes, told plainly. No condition. (TF TG TI TJ TK TL TM) -/
import Derived.Test.YtlinbehijfcelaaGreatDoorPB
set_option linter.unusedVariables false
set_option linter.unusedSimpArgs false
set_option linter.unusedSectionVars false
set_option maxHeartbeats 8000000
set_option maxRecDepth 100000
namespace Go.Proofs.YtlinbehijfcelaaGreatDoor.Top
open Go.RowKit Go.Proofs.YtlinbehijfcelaaGreatDoorW.PrintWords Go.Proofs.YtlinbehijfcelaaGreatDoorW.PrintLast
section
def bl (f:ByteArray) (k:Nat):List Int:=((List.range f.size).map fun i:Nat=>bt f (i:Int)).drop k
theorem vt {f:ByteArray} {k:Nat} (h:k < f.size):bl f k=bt f (k:Int) :: bl f (k+1):=by
 unfold bl
 rw[List.drop_eq_getElem_cons (by simpa using h)]
 simp
theorem A_ (f:ByteArray):bl f f.size=[]:=by
 unfold bl
 rw[List.drop_of_length_le (by simp)]
def iw (x:In) (n:Int):List Int→Bool→Int
 | [],far=>if far=true then 4 else 0
 | c :: cs,far=>if c=78 then iw x n cs far else if c=84 then iw x n cs (decide (x.jt < 0∨n≤x.jt))
  else if 97≤c then (if inR (x.get (fF c))=true then iw x n cs far else 6) else (if lV (x.get (fF c))=true then iw x n cs far else 6)
def mO (x:In):Bool:=!mD x.op || (!decide (mx x (shF x.op)=In.zero) || (x.op == 15 && (decide (x.n < 0) || decide (99 < x.n))))
def cP (x:In) (n:Int):Int:=if mO x=true then 1 else iw x n (bl (shF x.op) 0) false
theorem nA (op:Int):Asc (shF op):=by
 unfold shF
 split
 ·have h:∀ p∈a_,Asc p.2:=by
   have h2:(a_.all fun p=>(List.range p.2.size).all fun i=>decide (bt p.2 i < 128))=true:=by decide +kernel
   intro p hp i hi
   have h3:=List.all_eq_true.1 h2 p hp
   exact of_decide_eq_true (List.all_eq_true.1 h3 i (List.mem_range.2 hi))
  by_cases hi:(op - 1).toNat < a_.length
  ·rw[List.getD_eq_getElem?_getD,List.getElem?_eq_getElem hi]
   exact h _ (List.getElem_mem hi)
  ·rw[List.getD_eq_getElem?_getD,List.getElem?_eq_none (by omega)]
   intro i hi
   exact absurd hi (by decide +revert)
 ·intro i hi
  exact absurd hi (by decide +revert)
section
variable {x:In} {n c:Int} {cs:List Int} {b:Bool}
theorem DP (h:c=78):iw x n (c :: cs) b=iw x n cs b:=by simp only[iw,if_pos h]
theorem DO (h:c=84):iw x n (c :: cs) b=iw x n cs (decide (x.jt < 0∨n≤x.jt)):=by subst h;simp only[iw];rfl
theorem DQ (h1:c≠78) (h2:c≠84) (h3:97≤c):iw x n (c :: cs) b=if inR (x.get (fF c))=true then iw x n cs b else 6:=by simp only[iw,if_neg h1,if_neg h2,if_pos h3]
theorem DR (h1:c≠78) (h2:c≠84) (h3:¬ 97≤c):iw x n (c :: cs) b=if lV (x.get (fF c))=true then iw x n cs b else 6:=by simp only[iw,if_neg h1,if_neg h2,if_neg h3]
end
theorem bH {w w':World} (h:ir w w'):Below w.heap.size w w':=by
 obtain⟨nd,rfl⟩:=h
 exact aI (Below.refl _ _) _
def DY (w:World) (x:In) (f:ByteArray) (g gi:Nat) (k:Nat) (W:World):Prop:=k≤f.size∧w.heap.size≤gi∧g < gi∧Below w.heap.size w W∧be W g x∧W.heap[gi]?=some (.stringIter f k)
theorem ye (x:In) (s f:ByteArray) (hf:Asc f) (r:In) (hr:mx x f=r) (w:World):Calls Tryz.prog 97 #[.agg #[.int .i64 x.op,.int .i64 x.d,.int .i64 x.a,.int .i64 x.b,.int .i64 x.n,.int .i64 x.jt],.agg #[.string s,.string f]] w fun e w'=>e=.returned (.agg #[.int .i64 r.op,.int .i64 r.d,.int .i64 r.a,.int .i64 r.b,.int .i64 r.n,.int .i64 r.jt])∧Below w.heap.size w w':=by
 subst hr
 exact zV x s f hf w
theorem DB (x:In) (b:Bool) (hb:decide (x=In.zero)=b) (w:World):(binOp .neq 49 (.agg #[.int .i64 x.op,.int .i64 x.d,.int .i64 x.a,.int .i64 x.b,.int .i64 x.n,.int .i64 x.jt]) (.agg #[.int .i64 0,.int .i64 0,.int .i64 0,.int .i64 0,.int .i64 0,.int .i64 0])).run Tryz.prog w=.ok (.bool (!b)) w:=by
 rw[←hb]
 exact D6 x In.zero w
theorem be.cells6 {w:World} {g:Nat} {x:In} (h:be w g x):w.cell? ⟨g,0,none⟩=some (.int .i64 x.op)∧w.cell? ⟨g,1,none⟩=some (.int .i64 x.d)∧w.cell? ⟨g,2,none⟩=some (.int .i64 x.a)∧w.cell? ⟨g,3,none⟩=some (.int .i64 x.b)∧w.cell? ⟨g,4,none⟩=some (.int .i64 x.n)∧w.cell? ⟨g,5,none⟩=some (.int .i64 x.jt):=
 ⟨h.get 0 (by omega),h.get 1 (by omega),h.get 2 (by omega),h.get 3 (by omega),h.get 4 (by omega),h.get 5 (by omega)⟩
theorem mu {w:World} {g:Nat} {a b:Value} {t:Nat} (h:w.heap[g]?=some (.cells #[a,b] t (0,0))):w.cell? ⟨g,0,none⟩=some a∧w.cell? ⟨g,1,none⟩=some b:=⟨by rw[ah h];rfl,by rw[ah h];rfl⟩
theorem qc (x:In) (n:Int) (w:World) (hG:Gl w):Calls Tryz.prog 77 #[.agg x.cells,.int .i64 n] w fun e w'=>e=.returned (.int .i64 (cP x n))∧Below w.heap.size w w':=by
 have HG:=ak_ hG
 clear hG
 rw[jp]
 obtain⟨o,ho⟩:=nm_ (mD x.op)
 obtain⟨s,hs⟩:=nm_ (shW x.op)
 obtain⟨f,hf⟩:=nm_ (shF x.op)
 obtain⟨r,hr⟩:=nm_ (mx x f)
 obtain⟨z,hz⟩:=nm_ (decide (r=In.zero))
 have hof:=zW x.op
 rw[←ho,←hs,←hf] at hof
 have HOf:=ak_ hof
 have HRest:=ak_ (ye x s f (by rw[hf];exact nA _) r hr.symm)
 have hne:=DB r z hz.symm
 have hbad:mO x=(!o || (!z || (x.op == 15 && (decide (x.n < 0) || decide (99 < x.n))))):=by unfold mO;rw[←ho,←hf,←hr,hz]
 have hval:cP x n=if (!o || (!z || (x.op == 15 && (decide (x.n < 0) || decide (99 < x.n)))))=true then 1 else iw x n (bl f 0) false:=by unfold cP;rw[hbad,←hf]
 rw[hval]
 have HF:aa (Asc f):=⟨by rw[hf];exact nA _⟩
 clear hval hbad ho hs hf hr hz hof
 obtain⟨b,hb⟩:∃ b:Bool,b=(!o || (!z || (x.op == 15 && (decide (x.n < 0) || decide (99 < x.n))))):=⟨_,rfl⟩
 rw[←hb]
 have HB:=ak_ hb
 clear hb
 obtain⟨R,hR⟩:=nm_ (iw x n (bl f 0) false)
 rw[←hR]
 have HR:=ak_ hR
 clear hR
 go_enter Tryz.func77,Tryz.ntmps77
 go_upto_region 2 with (first
   | (go_at_call 85;refine(HOf.out _ (HG.out.below (ae (Below.refl _ _) _))).mono ?_;rintro e w1 ⟨rfl,hb⟩;have HB1:=ak_ (af (ae (Below.refl _ _) _) hb);have KI:=ak_ (show be w1 w.heap.size x from be.below (show be (w.alloc (.cells x.cells 49 (0,0))) w.heap.size x from heap_alloc_last w _) hb);clear hb))
 have KI2:=ak_ (KI.out.below (ae (Below.refl _ _) (.cells #[.string s,.string f] 169 (0,0))))
 have KS:aa ((w1.alloc (.cells #[.string s,.string f] 169 (0,0))).heap[w1.heap.size]?=some (.cells #[.string s,.string f] 169 (0,0))):=⟨heap_alloc_last w1 _⟩
 have HB2:=ak_ (ae HB1.out (.cells #[.string s,.string f] 169 (0,0)))
 go_cut [39] from 16 to 38 (fun c wx=>c=.bool b∧aa (Below w.heap.size w wx∧be wx w.heap.size x∧wx.heap[w1.heap.size]?=some (.cells #[.string s,.string f] 169 (0,0))))
 case first=>
  obtain⟨q0,q1,q2,q3,q4,q5⟩:=KI2.out.cells6
  obtain⟨r0,r1⟩:=mu KS.out
  cases o with
  | false=>
   obtain rfl:b=true:=HB.out
   go_wp2_with fail
   go_meet
   case rel=>exact⟨rfl,⟨⟨HB2.out,KI2.out,KS.out⟩⟩⟩
  | true=>
   cases z with
   | false=>
    obtain rfl:b=true:=HB.out
    go_wp2_with (first
    | (go_at_call 97;refine(HRest.out _).mono ?_;rintro e w2 ⟨rfl,hb⟩;have KI3:=ak_ (KI2.out.below hb);have KS3:=ak_ ((hb.block _ (ai KS.out)).trans KS.out);have HB3:=ak_ (af HB2.out hb);clear hb;obtain⟨g0,g1,g2,g4⟩:=KI3.out.cells))
    go_meet
    case rel=>exact⟨rfl,⟨⟨HB3.out,KI3.out,KS3.out⟩⟩⟩
   | true=>
    cases h15:(x.op == 15) with
    | false=>
     obtain rfl:b=false:=by rw[HB.out,h15];rfl
     go_wp2_with (first
    | (go_at_call 97;refine(HRest.out _).mono ?_;rintro e w2 ⟨rfl,hb⟩;have KI3:=ak_ (KI2.out.below hb);have KS3:=ak_ ((hb.block _ (ai KS.out)).trans KS.out);have HB3:=ak_ (af HB2.out hb);clear hb;obtain⟨g0,g1,g2,g4⟩:=KI3.out.cells))
     go_meet
     case rel=>exact⟨rfl,⟨⟨HB3.out,KI3.out,KS3.out⟩⟩⟩
    | true=>
     have HB':aa (b=(decide (x.n < 0) || decide (99 < x.n))):=⟨by rw[HB.out,h15];simp⟩
     by_cases hn0:x.n < 0
     ·obtain rfl:b=true:=by rw[HB'.out,decide_eq_true hn0];rfl
      go_wp2_with (first
    | (go_at_call 97;refine(HRest.out _).mono ?_;rintro e w2 ⟨rfl,hb⟩;have KI3:=ak_ (KI2.out.below hb);have KS3:=ak_ ((hb.block _ (ai KS.out)).trans KS.out);have HB3:=ak_ (af HB2.out hb);clear hb;obtain⟨g0,g1,g2,g4⟩:=KI3.out.cells))
      go_meet
      case rel=>exact⟨rfl,⟨⟨HB3.out,KI3.out,KS3.out⟩⟩⟩
     ·have hbd:b=decide (99 < x.n):=by rw[HB'.out,decide_eq_false hn0];rfl
      have HBd:=ak_ hbd
      clear hbd
      by_cases hn9:99 < x.n
      ·obtain rfl:b=true:=by rw[HBd.out,decide_eq_true hn9]
       go_wp2_with (first
    | (go_at_call 97;refine(HRest.out _).mono ?_;rintro e w2 ⟨rfl,hb⟩;have KI3:=ak_ (KI2.out.below hb);have KS3:=ak_ ((hb.block _ (ai KS.out)).trans KS.out);have HB3:=ak_ (af HB2.out hb);clear hb;obtain⟨g0,g1,g2,g4⟩:=KI3.out.cells))
       go_meet
       case rel=>exact⟨rfl,⟨⟨HB3.out,KI3.out,KS3.out⟩⟩⟩
      ·obtain rfl:b=false:=by rw[HBd.out,decide_eq_false hn9]
       have hn0':=decide_eq_false hn0
       have hn9':=decide_eq_false hn9
       go_wp2_with (first
    | (go_at_call 97;refine(HRest.out _).mono ?_;rintro e w2 ⟨rfl,hb⟩;have KI3:=ak_ (KI2.out.below hb);have KS3:=ak_ ((hb.block _ (ai KS.out)).trans KS.out);have HB3:=ak_ (af HB2.out hb);clear hb;obtain⟨g0,g1,g2,g4⟩:=KI3.out.cells))
       go_meet
       case rel=>exact⟨by simp only[hn0',hn9',Bool.or_self],⟨⟨HB3.out,KI3.out,KS3.out⟩⟩⟩
 case rest=>
  obtain⟨rfl,HS⟩:=hcut
  obtain⟨hB,hI,hS⟩:=HS.out
  have HB4:=ak_ hB
  have KI4:=ak_ hI
  have KS4:=ak_ hS
  obtain⟨r0,r1⟩:=mu hS
  clear hB hI hS HS
  cases b with
  | true=>
   clear r0 r1
   go_wp2_with fail
   go_ret
   exact⟨rfl,HB4.out⟩
  | false=>
   go_wp2_with fail
   go_loopw [7,9] (fun far _ wr=>∃ (k:Nat) (b:Bool),far=.bool b∧aa (DY w x f w.heap.size wc.heap.size k wr∧iw x n (bl f k) b=R)) (fun _ _ wr=>f.size - wr.iterPos wc.heap.size)
   case atStart=>exact⟨0,false,rfl,⟨⟨⟨Nat.zero_le _,HB4.out.size,ai KI4.out,af HB4.out (ae (Below.refl _ _) _),KI4.out.below (ae (Below.refl _ _) _),heap_alloc_last wc _⟩,HR.out.symm⟩⟩⟩
   case round=>
    obtain⟨k,b,rfl,HS⟩:=hrel
    obtain⟨⟨hk,hgi,hlt2,hb,hx,hi⟩,hch⟩:=HS.out
    have HGi:=ak_ hgi
    have HLt:=ak_ hlt2
    by_cases hlt:k < f.size
    ·have ha:=HF.out k hlt
     have hnx:=fun ty=>fc (P:=Tryz.prog) wr wc.heap.size f k ty hi hlt ha
     obtain⟨w2,hw2⟩:=nm_ (World.setIter wr wc.heap.size f (k+1))
     have HI:aa (w2.heap[wc.heap.size]?=some (.stringIter f (k+1))):=⟨by rw[hw2];exact em hi _⟩
     have HX:aa (be w2 w.heap.size x):=⟨by rw[hw2];exact ii hx (by omega) _ _⟩
     have HB5:aa (Below w.heap.size w w2):=⟨by rw[hw2];exact dV hb (by omega) _ _⟩
     rw[←hw2] at hnx
     obtain⟨c,hc⟩:∃ c:Int,c=bt f k:=⟨_,rfl⟩
     rw[vt hlt,←hc] at hch
     rw[←hc] at hnx
     have HCh:=ak_ hch
     have HI0:=ak_ hi
     have HLk:=ak_ hlt
     clear hc hw2 hi hx hb ha HS hch hgi hlt2 hk hlt
     by_cases c78:c=78
     ·rw[DP c78] at HCh
      subst c78
      go_wp2
      go_roundw
      case rel=>exact⟨k+1,b,rfl,⟨⟨⟨HLk.out,HGi.out,HLt.out,HB5.out,HX.out,HI.out⟩,HCh.out⟩⟩⟩
      case measure=>rw[aY HI.out,aY HI0.out];have:=HLk.out;omega
     ·by_cases c84:c=84
      ·rw[DO c84] at HCh
       subst c84
       obtain⟨q0,q1,q2,q3,q4,q5⟩:=HX.out.cells6
       by_cases t1:x.jt < 0
       ·have e:decide (x.jt < 0∨n≤x.jt)=true:=decide_eq_true (.inl t1)
        rw[e] at HCh
        clear e
        go_wp2
        go_roundw
        case rel=>exact⟨k+1,true,rfl,⟨⟨⟨HLk.out,HGi.out,HLt.out,HB5.out,HX.out,HI.out⟩,HCh.out⟩⟩⟩
        case measure=>rw[aY HI.out,aY HI0.out];have:=HLk.out;omega
       ·have e:decide (x.jt < 0∨n≤x.jt)=decide (x.jt≥n):=by rw[decide_eq_decide];omega
        rw[e] at HCh
        clear e
        go_wp2
        go_roundw
        case rel=>exact⟨k+1,_,rfl,⟨⟨⟨HLk.out,HGi.out,HLt.out,HB5.out,HX.out,HI.out⟩,HCh.out⟩⟩⟩
        case measure=>rw[aY HI.out,aY HI0.out];have:=HLk.out;omega
      ·have e1:(c == 78)=false:=beq_eq_false_iff_ne.mpr c78
       have e2:(c == 84)=false:=beq_eq_false_iff_ne.mpr c84
       have gf:=HX.out.get (fF c) (l_ c)
       by_cases c97:97≤c
       ·rw[DQ c78 c84 c97] at HCh
        have e3:decide (c≥97)=true:=decide_eq_true c97
        have e4:decide (c < 97)=false:=decide_eq_false (by omega)
        obtain⟨v,hv⟩:=nm_ (x.get (fF c))
        rw[←hv] at gf HCh
        have hri:=pY v
        obtain⟨q,hq⟩:=nm_ (inR v)
        rw[←hq] at hri HCh
        have HRi:=ak_ hri
        clear hri hq hv c78 c84 c97
        cases q with
        | true=>
         go_wp2_with (first
      | (go_at_call 86;refine(fS _ _ _).mono ?_;rintro e w' ⟨rfl,rfl⟩)
      | (go_at_call 94;refine(HRi.out _).mono ?_;rintro e w3 ⟨rfl,hd⟩;have HD:=ak_ (bH hd);clear hd)
      | (go_at_call 98;refine(HRg.out _).mono ?_;rintro e w3 ⟨rfl,hd⟩;have HD:=ak_ (bH hd);clear hd))
         go_roundw
         case rel=>exact⟨k+1,b,rfl,⟨⟨⟨HLk.out,HGi.out,HLt.out,af HB5.out HD.out,HX.out.below HD.out,(HD.out.block _ (ai HI.out)).trans HI.out⟩,HCh.out⟩⟩⟩
         case measure=>rw[aY ((HD.out.block _ (ai HI.out)).trans HI.out),aY HI0.out];have:=HLk.out;omega
        | false=>
         have hR6:R=6:=HCh.out.symm
         subst hR6
         go_wp2_with (first
      | (go_at_call 86;refine(fS _ _ _).mono ?_;rintro e w' ⟨rfl,rfl⟩)
      | (go_at_call 94;refine(HRi.out _).mono ?_;rintro e w3 ⟨rfl,hd⟩;have HD:=ak_ (bH hd);clear hd)
      | (go_at_call 98;refine(HRg.out _).mono ?_;rintro e w3 ⟨rfl,hd⟩;have HD:=ak_ (bH hd);clear hd))
         go_ret
         exact⟨rfl,af HB5.out HD.out⟩
       ·rw[DR c78 c84 c97] at HCh
        have e3:decide (c≥97)=false:=decide_eq_false c97
        have e4:decide (c < 97)=true:=decide_eq_true (by omega)
        obtain⟨v,hv⟩:=nm_ (x.get (fF c))
        rw[←hv] at gf HCh
        have hri:=lL v
        obtain⟨q,hq⟩:=nm_ (lV v)
        rw[←hq] at hri HCh
        have HRg:=ak_ hri
        clear hri hq hv c78 c84 c97
        cases q with
        | true=>
         go_wp2_with (first
      | (go_at_call 86;refine(fS _ _ _).mono ?_;rintro e w' ⟨rfl,rfl⟩)
      | (go_at_call 94;refine(HRi.out _).mono ?_;rintro e w3 ⟨rfl,hd⟩;have HD:=ak_ (bH hd);clear hd)
      | (go_at_call 98;refine(HRg.out _).mono ?_;rintro e w3 ⟨rfl,hd⟩;have HD:=ak_ (bH hd);clear hd))
         go_roundw
         case rel=>exact⟨k+1,b,rfl,⟨⟨⟨HLk.out,HGi.out,HLt.out,af HB5.out HD.out,HX.out.below HD.out,(HD.out.block _ (ai HI.out)).trans HI.out⟩,HCh.out⟩⟩⟩
         case measure=>rw[aY ((HD.out.block _ (ai HI.out)).trans HI.out),aY HI0.out];have:=HLk.out;omega
        | false=>
         have hR6:R=6:=HCh.out.symm
         subst hR6
         go_wp2_with (first
      | (go_at_call 86;refine(fS _ _ _).mono ?_;rintro e w' ⟨rfl,rfl⟩)
      | (go_at_call 94;refine(HRi.out _).mono ?_;rintro e w3 ⟨rfl,hd⟩;have HD:=ak_ (bH hd);clear hd)
      | (go_at_call 98;refine(HRg.out _).mono ?_;rintro e w3 ⟨rfl,hd⟩;have HD:=ak_ (bH hd);clear hd))
         go_ret
         exact⟨rfl,af HB5.out HD.out⟩
    ·have hnx:=fun ty=>dW (P:=Tryz.prog) wr wc.heap.size f k ty hi hlt
     obtain rfl:k=f.size:=by omega
     rw[A_] at hch
     have HBz:=ak_ hb
     clear hi hx hb HS hk hgi hlt2 hlt
     cases b with
     | true=>
      obtain rfl:R=4:=hch.symm
      clear hch
      go_wp2
      go_ret
      exact⟨rfl,HBz.out⟩
     | false=>
      obtain rfl:R=0:=hch.symm
      clear hch
      go_wp2
      go_ret
      exact⟨rfl,HBz.out⟩
end
def Kd.flat {α:Type} (n:Nat) (enc:α→List Value) (hl:∀ x,(enc x).length=n) (h1:∀ x,∀ u∈enc x,u.oneCell'=true):Kd α where
 sz:=n
 E:=[]
 K:=fun _ x cs=>cs=enc x
 M:=fun _ _ _ x cs=>cs=enc x
 K_len:=fun h=>by rw[h];exact hl _
 K_one:=fun h u hu=>by rw[h] at hu;exact h1 _ u hu
 K_below:=fun _ h=>h
 K_of_M:=fun h=>h
 M_mono:=fun _ h=>h
 M_bound:=fun h=>h
 M_move:=fun _ h=>h
 M_lower:=fun _ h=>h
def kIn:Kd In:=Kd.flat 6 (fun x=>[.int .i64 x.op,.int .i64 x.d,.int .i64 x.a,.int .i64 x.b,.int .i64 x.n,.int .i64 x.jt]) (fun _=>rfl) (by simp[Value.oneCell'])
theorem po {w:World} {A:Option Addr} {n:Nat} {xs:List In} (h:Kd.C kIn w A n xs) (i:Nat) (h1:i < n) (x:In) (hx:xs[i]?=some x):∃ ad,A=some ad∧w.cell? (ad.add (i * 6))=some (.int .i64 x.op)∧w.cell? ⟨(ad.add (i * 6)).block,(ad.add (i * 6)).off+1,none⟩=some (.int .i64 x.d)∧w.cell? ⟨(ad.add (i * 6)).block,(ad.add (i * 6)).off+2,none⟩=some (.int .i64 x.a)∧
  w.cell? ⟨(ad.add (i * 6)).block,(ad.add (i * 6)).off+3,none⟩=some (.int .i64 x.b)∧w.cell? ⟨(ad.add (i * 6)).block,(ad.add (i * 6)).off+4,none⟩=some (.int .i64 x.n)∧w.cell? ⟨(ad.add (i * 6)).block,(ad.add (i * 6)).off+5,none⟩=some (.int .i64 x.jt):=by
 obtain⟨ad,c,e,_,hK,hc0⟩:=Kd.C_get h In.zero (i:Int) (by omega) (by omega)
 have hg:xs.getD (i:Int).toNat In.zero=x:=by simp[List.getD_eq_getElem?_getD,hx]
 rw[hg] at hK
 have hc:∀ j u,c[j]?=some u→w.cell? (ad.add (i * 6+j))=some u:=hc0
 have hK':c=[.int .i64 x.op,.int .i64 x.d,.int .i64 x.a,.int .i64 x.b,.int .i64 x.n,.int .i64 x.jt]:=hK
 subst hK'
 exact⟨ad,e,hc 0 _ rfl,by rw[←fV _ _ 1 (by omega)];exact hc 1 _ rfl,by rw[←fV _ _ 2 (by omega)];exact hc 2 _ rfl,by rw[←fV _ _ 3 (by omega)];exact hc 3 _ rfl,by rw[←fV _ _ 4 (by omega)];exact hc 4 _ rfl,by rw[←fV _ _ 5 (by omega)];exact hc 5 _ rfl⟩
def el (n:Int):List In→Nat→Option (Int × Int)
 | [],_=>none
 | x :: xs,i=>if cP x n=0 then el n xs (i+1) else some ((i:Int),cP x n)
def gA (f:List In):Int:=(f.getD (f.length - 1) In.zero).op
def cd (f:List In):Int × Int:=
 if 200 < f.length then (0,3) else if f.length=0 then (0,5) else
  match el f.length f 0 with
  | some r=>r
  | none=>if gA f≠16∧gA f≠18 then ((f.length:Int) - 1,5) else (0,0)
theorem Ax {n:Int} {f:List In} {i:Nat} {x:In} (hx:f[i]?=some x):el n (f.drop i) i=if cP x n=0 then el n (f.drop (i+1)) (i+1) else some ((i:Int),cP x n):=by
 obtain⟨hi,e⟩:=List.getElem?_eq_some_iff.1 hx
 rw[List.drop_eq_getElem_cons hi,e]
 rfl
theorem qA (A:Option Addr) (c:Nat) (f:List In) (w:World) (hG:Gl w) (hC:Kd.C kIn w A f.length f) (hc:f.length≤c):Calls Tryz.prog 46 #[.slice A f.length c] w fun e w'=>e=.returned (.tuple #[.int .i64 (cd f).1,.int .i64 (cd f).2])∧Below w.heap.size w w':=by
 obtain⟨r,hr⟩:=nm_ (cd f)
 rw[←hr]
 obtain⟨r1,r2⟩:=r
 have hmax:=Kd.C_max hC
 have HC:=ak_ hC
 have HG:=ak_ hG
 clear hC hG
 by_cases h200:200 < f.length
 ·have e:(r1,r2)=(0,3):=by rw[hr];unfold cd;rw[if_pos h200]
  obtain⟨rfl,rfl⟩:=Prod.mk.injEq .. ▸ e
  have h':(f.length:Int) > 200:=by omega
  clear hr e
  go_enter Tryz.func46,Tryz.ntmps46
  go_wp2
  go_ret2
  exact⟨rfl,Below.refl _ _⟩
 ·by_cases h0:f.length=0
  ·have e:(r1,r2)=(0,5):=by rw[hr];unfold cd;rw[if_neg h200,if_pos h0]
   obtain⟨rfl,rfl⟩:=Prod.mk.injEq .. ▸ e
   clear hr e HC h200
   obtain rfl:=List.length_eq_zero_iff.1 h0
   clear h0
   go_enter Tryz.func46,Tryz.ntmps46
   go_wp2
   go_ret2
   exact⟨rfl,Below.refl _ _⟩
  ·have e:(r1,r2)=match el f.length (f.drop 0) 0 with
    | some r=>r
    | none=>if gA f≠16∧gA f≠18 then ((f.length:Int) - 1,5) else (0,0):=by rw[hr];unfold cd;rw[if_neg h200,if_neg h0];rfl
   have HE:=ak_ e
   have H0:=ak_ h0
   have hl1:¬ (f.length:Int) > 200:=by omega
   have hl2:((f.length:Int) == 0)=false:=beq_eq_false_iff_ne.mpr (by omega)
   clear hr e h0 h200
   go_enter Tryz.func46,Tryz.ntmps46
   go_wp2
   go_loopw [18] (fun i wr=>∃ k:Nat,i=.int .i64 k∧aa (k≤f.length∧Below w.heap.size w wr∧el f.length (f.drop 0) 0=el f.length (f.drop k) k)) (fun i _=>f.length - (intOf i).toNat)
   case atStart=>exact⟨0,rfl,⟨⟨Nat.zero_le _,Below.refl _ _,rfl⟩⟩⟩
   case round=>
    obtain⟨k,rfl,HS⟩:=hrel
    obtain⟨hk,hb,hch⟩:=HS.out
    have HB:=ak_ hb
    by_cases hlt:k < f.length
    ·have hlt':(k:Int) < (f.length:Int):=by omega
     obtain⟨x,hx⟩:∃ x,f[k]?=some x:=⟨_,List.getElem?_eq_getElem hlt⟩
     rw[Ax hx] at hch
     obtain⟨ad,rfl,d0,d1,d2,d3,d4,d5⟩:=po (Kd.C_below HC.out hb) k hlt x hx
     have HK:=ak_ (qc x f.length)
     have HCh:=ak_ hch
     clear hb hch HS hx
     by_cases hz:cP x f.length=0
     ·have HZ:=ak_ hz
      rw[hz] at HK
      clear hz
      go_wp2_with (go_at_call 77;refine(HK.out _ (HG.out.below (af HB.out (ae (Below.refl _ _) _)))).mono ?_;rintro e w2 ⟨rfl,hb⟩;have HB2:=ak_ (af (af HB.out (ae (Below.refl _ _) _)) hb);clear hb)
      go_roundw
      case rel=>exact⟨k+1,by go_num,⟨⟨hlt,HB2.out,by rw[HCh.out,if_pos HZ.out]⟩⟩⟩
      case measure=>simp[intOf];omega
     ·obtain⟨q,hq⟩:=nm_ (cP x f.length)
      rw[←hq] at HK HCh hz
      have e2:=HE.out
      rw[HCh.out,if_neg hz] at e2
      obtain⟨rfl,rfl⟩:=Prod.mk.injEq .. ▸ e2
      have hz':(r2 == 0)=false:=beq_eq_false_iff_ne.mpr hz
      clear hq hz e2
      go_wp2_with (go_at_call 77;refine(HK.out _ (HG.out.below (af HB.out (ae (Below.refl _ _) _)))).mono ?_;rintro e w2 ⟨rfl,hb⟩;have HB2:=ak_ (af (af HB.out (ae (Below.refl _ _) _)) hb);clear hb)
      go_ret2
      exact⟨rfl,HB2.out⟩
    ·obtain rfl:k=f.length:=by omega
     rw[List.drop_length] at hch
     have e2:=HE.out
     rw[hch] at e2
     have hp:f.length - 1 < f.length:=by have:=H0.out;omega
     obtain⟨x,hx⟩:∃ x,f[f.length - 1]?=some x:=⟨_,List.getElem?_eq_getElem hp⟩
     have hlast:gA f=x.op:=by unfold gA;rw[List.getD_eq_getElem?_getD,hx];rfl
     obtain⟨ad,rfl,d0,d1,d2,d3,d4,d5⟩:=po (Kd.C_below HC.out hb) (f.length - 1) hp x hx
     obtain⟨m,hm⟩:∃ m:Nat,f.length=m+1:=⟨f.length - 1,by omega⟩
     rw[hlast,hm] at e2
     have hm1:m+1 - 1=m:=rfl
     rw[hm,hm1] at d0
     rw[hm] at hmax
     have HMm:=ak_ hm
     have he3:(((m+1:Nat):Int) - 1)=(m:Int):=by omega
     rw[he3] at e2
     have hlt:(m:Int) < ((m+1:Nat):Int):=by omega
     have hnl:¬ ((m+1:Nat):Int) < ((m+1:Nat):Int):=by omega
     have hsub:IntKind.i64.wrap (((m+1:Nat):Int) - 1)=(m:Int):=by rw[IntWalk.i64_in _ (by omega)];omega
     clear hch HS hx hlast hp hb d1 d2 d3 d4 d5 hk hl1 hl2 he3
     by_cases c16:x.op=16
     ·rw[if_neg (by omega)] at e2
      obtain⟨rfl,rfl⟩:=Prod.mk.injEq .. ▸ e2
      have z1:(x.op != 16)=false:=bne_eq_false_iff_eq.mpr c16
      rw[hm]
      clear e2 c16 hm
      go_wp2
      go_ret2
      exact⟨rfl,HB.out⟩
     ·have z1:(x.op != 16)=true:=bne_iff_ne.mpr c16
      by_cases c18:x.op=18
      ·rw[if_neg (by omega)] at e2
       obtain⟨rfl,rfl⟩:=Prod.mk.injEq .. ▸ e2
       have z2:(x.op != 18)=false:=bne_eq_false_iff_eq.mpr c18
       rw[hm]
       clear e2 c16 c18 hm
       go_wp2
       go_ret2
       exact⟨rfl,HB.out⟩
      ·rw[if_pos ⟨c16,c18⟩] at e2
       obtain⟨rfl,rfl⟩:=Prod.mk.injEq .. ▸ e2
       have z2:(x.op != 18)=true:=bne_iff_ne.mpr c18
       rw[hm]
       clear e2 c16 c18 hm
       go_wp2
       go_ret2
       exact⟨rfl,HB.out⟩
def bi (f:List In):Bool:=(cd f).2 == 0
theorem dY (A:Option Addr) (c:Nat) (f:List In) (w:World) (hG:Gl w) (hC:Kd.C kIn w A f.length f) (hc:f.length≤c):Calls Tryz.prog 47 #[.slice A f.length c] w fun e w'=>e=.returned (.bool (bi f))∧Below w.heap.size w w':=by
 have H:=ak_ (qA A c f w hG hC hc)
 clear hG hC hc
 obtain⟨r,hr⟩:=nm_ (bi f)
 rw[←hr]
 unfold bi at hr
 obtain⟨a,ha⟩:=nm_ ((cd f).1)
 obtain⟨b,hb⟩:=nm_ ((cd f).2)
 rw[←ha,←hb] at H
 rw[←hb] at hr
 have HR:=ak_ hr
 clear ha hb hr
 go_enter Tryz.func47,Tryz.ntmps47
 go_wp2_with (go_at_call 46;refine H.out.mono ?_;rintro e w2 ⟨rfl,hb⟩;have HB2:=ak_ hb;clear hb)
 go_ret
 exact⟨rY HR.out.symm,HB2.out⟩
def loc_Parse.place (s:ByteArray):Option Int:=
 if s.size=2∧bt s 0=114∧48≤bt s 1∧bt s 1≤55 then some (bt s 1 - 48)
 else if s.size=2∧bt s 0=115∧48≤bt s 1∧bt s 1≤57 then some (8+(bt s 1 - 48))
 else if s.size=3∧bt s 0=115∧bt s 1=49∧48≤bt s 2∧bt s 2≤53 then some (8+(10+(bt s 2 - 48)))
 else none
def loc_Parse.f (s:ByteArray):Option (Int × Int):=some (match loc_Parse.place s with | some l=>(l,0) | none=>(0,2))
def loc_Parse.St (s:ByteArray) (pos:Nat) (first n many:Int):Prop:=
 pos≤s.size∧((pos=0∧first=0∧n=0∧many=0)∨
 ((bt s 0=114∧first=0∧many=8∨bt s 0=115∧first=8∧many=16)∧
  (pos=1∧n=0∨
   (48≤bt s 1∧bt s 1≤57)∧(pos=2∧n=bt s 1 - 48∨
    pos=3∧48≤bt s 2∧bt s 2≤57∧bt s 1≠48∧n=(bt s 1 - 48) * 10+(bt s 2 - 48)))))
theorem loc_Parse.bounds {s:ByteArray} {pos:Nat} {x y z:Int} (h:loc_Parse.St s pos x y z):pos≤3∧0≤x∧x≤8∧0≤y∧y≤99∧0≤z∧z≤16:=by
 unfold loc_Parse.St at h
 omega
theorem loc_Parse.exit_err {s:ByteArray} {pos:Nat} {x y z:Int} (h:loc_Parse.St s pos x y z) (hp:¬ pos < s.size) (hw:(s.size:Int) < 2∨z≤y):loc_Parse.place s=none:=by
 unfold loc_Parse.St at h
 unfold loc_Parse.place
 rw[if_neg (by omega),if_neg (by omega),if_neg (by omega)]
theorem loc_Parse.exit_ok {s:ByteArray} {pos:Nat} {x y z:Int} (h:loc_Parse.St s pos x y z) (hp:¬ pos < s.size) (h2:2≤(s.size:Int)) (hw:y < z):loc_Parse.place s=some (x+y):=by
 unfold loc_Parse.St at h
 unfold loc_Parse.place
 by_cases c1:s.size=2∧bt s 0=114∧48≤bt s 1∧bt s 1≤55
 ·rw[if_pos c1]
  congr 1
  omega
 ·rw[if_neg c1]
  by_cases c2:s.size=2∧bt s 0=115∧48≤bt s 1∧bt s 1≤57
  ·rw[if_pos c2]
   congr 1
   omega
  ·rw[if_neg c2,if_pos (by omega)]
   congr 1
   omega
theorem vq (s:ByteArray):bt s ((0:Nat):Int)=bt s 0:=rfl
theorem A7 (s:ByteArray):bt s ((1:Nat):Int)=bt s 1:=rfl
theorem A6 (s:ByteArray):bt s ((2:Nat):Int)=bt s 2:=rfl
theorem loc_Parse.stop {s:ByteArray} {pos:Nat} {x y z:Int} (h:loc_Parse.St s pos x y z) (hp:pos < s.size) (hc:(pos=0∧bt s pos≠114∧bt s pos≠115)∨(pos≠0∧(bt s pos < 48∨57 < bt s pos))∨2 < pos∨(pos=2∧y=0)):loc_Parse.place s=none:=by
 unfold loc_Parse.St at h
 unfold loc_Parse.place
 obtain⟨_,h⟩:=h
 rcases h with ⟨rfl,_⟩ | ⟨_,⟨rfl,_⟩ | ⟨_,⟨rfl,_⟩ | ⟨rfl,_⟩⟩⟩
 ·rw[vq] at hc;rw[if_neg (by omega),if_neg (by omega),if_neg (by omega)]
 ·rw[A7] at hc;rw[if_neg (by omega),if_neg (by omega),if_neg (by omega)]
 ·rw[A6] at hc;rw[if_neg (by omega),if_neg (by omega),if_neg (by omega)]
 ·rw[if_neg (by omega),if_neg (by omega),if_neg (by omega)]
theorem loc_Parse.next {s:ByteArray} {pos:Nat} {x y z:Int} (h:loc_Parse.St s pos x y z) (hp:pos < s.size) (h0:pos≠0) (h2:pos≤2) (hc:48≤bt s pos∧bt s pos≤57) (hn:¬ (pos=2∧y=0)):loc_Parse.St s (pos+1) x (y * 10+(bt s pos - 48)) z:=by
 unfold loc_Parse.St at h ⊢
 obtain⟨_,h⟩:=h
 rcases h with ⟨rfl,_⟩ | ⟨ha,⟨rfl,hb⟩ | ⟨hd,⟨rfl,hb⟩ | ⟨rfl,hb⟩⟩⟩
 ·omega
 ·rw[A7] at hc ⊢
  exact⟨by omega,.inr ⟨ha,.inr ⟨hc,.inl ⟨by omega,by omega⟩⟩⟩⟩
 ·rw[A6] at hc ⊢
  exact⟨by omega,.inr ⟨ha,.inr ⟨hd,.inr ⟨by omega,hc.1,hc.2,by omega,by omega⟩⟩⟩⟩
 ·omega
theorem loc_Parse.first_r {s:ByteArray} {x y z:Int} (h:loc_Parse.St s 0 x y z) (hp:0 < s.size) (hc:bt s ((0:Nat):Int)=114):x=0∧loc_Parse.St s 1 x y 8:=by
 unfold loc_Parse.St at h ⊢
 rw[show ((0:Nat):Int)=0 from rfl] at hc
 omega
theorem loc_Parse.first_s {s:ByteArray} {x y z:Int} (h:loc_Parse.St s 0 x y z) (hp:0 < s.size) (hc:bt s ((0:Nat):Int)=115):loc_Parse.St s 1 8 y 16:=by
 unfold loc_Parse.St at h ⊢
 rw[show ((0:Nat):Int)=0 from rfl] at hc
 omega
theorem loc_Parse.of_none {s:ByteArray} {r1 r2:Int} (h:loc_Parse.f s=some (r1,r2)) (hn:loc_Parse.place s=none):r1=0∧r2=2:=by
 unfold loc_Parse.f at h
 rw[hn] at h
 simp only[Option.some.injEq,Prod.mk.injEq] at h
 omega
theorem loc_Parse.of_some {s:ByteArray} {r1 r2 l:Int} (h:loc_Parse.f s=some (r1,r2)) (hn:loc_Parse.place s=some l):r1=l∧r2=0:=by
 unfold loc_Parse.f at h
 rw[hn] at h
 simp only[Option.some.injEq,Prod.mk.injEq] at h
 omega
theorem qX (w:World) (s:ByteArray) (pos:Nat) (hp:pos < s.size) (ha:bt s pos < 128) (ty:TypeId) :
  (Instr.next (.pointer (some ⟨w.heap.size,0,none⟩)) true ty).run Tryz.prog (w.iter s pos)=.ok (.tuple #[.bool true,.int .i64 pos,.int .i32 (bt s pos)]) (w.iter s (pos+1)):=by
 have hb:=nk s (pos:Int) hp
 have:=run_next_ascii (P:=Tryz.prog) w s pos ty hp (by rw[←hb] at ha;simp only[Int.toNat_natCast] at ha;omega)
 rw[this]
 simp only[Int.toNat_natCast] at hb
 rw[hb]
theorem mG (w:World) (s:ByteArray) (pos:Nat) (hp:pos < s.size) (ha:¬ bt s pos < 128) :
  ∃ (c:Int) (pos':Nat),128≤c∧c≤2147483647∧∀ ty:TypeId,(Instr.next (.pointer (some ⟨w.heap.size,0,none⟩)) true ty).run Tryz.prog (w.iter s pos)=.ok (.tuple #[.bool true,.int .i64 pos,.int .i32 c]) (w.iter s pos'):=by
 have hb:=nk s (pos:Int) hp
 simp only[Int.toNat_natCast] at hb
 have hd:=decode_high s pos hp (by omega)
 have hl:=decode_le s pos
 exact⟨_,_,by omega,by omega,fun ty=>run_next_any (P:=Tryz.prog) w s pos ty hp⟩
theorem bv (w:World) (s:ByteArray) (pos:Nat):Below w.heap.size w (w.iter s pos):=ae (Below.refl _ _) _
theorem loc_Parse.calls (a0:ByteArray) (r1:Int) (r2:Int) (w:World) (h:loc_Parse.f a0=some (r1,r2)) :
  Calls Tryz.prog 96 #[.string a0] w fun e w'=>e=.returned (.tuple #[.int .i64 r1,.int .i64 r2])∧Below w.heap.size w w':=by
 have H:=ak_ h
 clear h
 go_enter Tryz.func96,Tryz.ntmps96
 go_wp2
 go_loopw [4,5,6] (fun f n m w'=>∃ (pos:Nat) (x y z:Int),w'=w.iter a0 pos∧f=.int .i64 x∧n=.int .i64 y∧m=.int .i64 z∧aa (loc_Parse.St a0 pos x y z)) (fun _ _ _ w'=>a0.size - w'.iterPos w.heap.size)
 case atStart=>exact⟨0,0,0,0,rfl,rfl,rfl,rfl,⟨⟨Nat.zero_le _,.inl ⟨rfl,rfl,rfl,rfl⟩⟩⟩⟩
 case round=>
  obtain⟨pos,x,y,z,rfl,rfl,rfl,rfl,HS⟩:=hrel
  obtain⟨b0,b1,b2,b3,b4,b5,b6⟩:=loc_Parse.bounds HS.out
  by_cases hp:pos < a0.size
  ·by_cases ha:bt a0 pos < 128
   ·have hnx:=qX w a0 pos hp ha
    have hb:=pn a0 pos
    obtain⟨c,hcc⟩:∃ c:Int,c=bt a0 pos:=⟨_,rfl⟩
    rw[←hcc] at hnx hb ha
    have HC:=ak_ hcc
    clear hcc
    by_cases hz:pos=0
    ·subst hz
     by_cases c1:c=114
     ·subst c1
      obtain⟨rfl,hs⟩:=loc_Parse.first_r HS.out hp HC.out.symm
      have HS':=ak_ hs
      clear hs HS
      go_wp2
      go_roundw
      case rel=>exact⟨1,_,_,_,rfl,rfl,rfl,rfl,HS'⟩
      case measure=>simp;omega
     ·by_cases c2:c=115
      ·subst c2
       have hs:=loc_Parse.first_s HS.out hp HC.out.symm
       have HS':=ak_ hs
       clear hs HS
       go_wp2
       go_roundw
       case rel=>exact⟨1,_,_,_,rfl,rfl,rfl,rfl,HS'⟩
       case measure=>simp;omega
      ·obtain⟨rfl,rfl⟩:=loc_Parse.of_none H.out (loc_Parse.stop HS.out hp (.inl ⟨rfl,by rw[←HC.out];exact c1,by rw[←HC.out];exact c2⟩))
       have ne1:(c == 114)=false:=beq_eq_false_iff_ne.mpr (by omega)
       have ne2:(c == 115)=false:=beq_eq_false_iff_ne.mpr (by omega)
       clear HS
       go_wp2
       all_goals (go_ret2;exact⟨rfl,bv _ _ _⟩)
    ·have hpos:pos=1∨pos=2∨pos=3:=by omega
     by_cases hg:pos≤2∧48≤c∧c≤57∧¬ (pos=2∧y=0)
     ·have hs:=loc_Parse.next HS.out hp hz hg.1 (by rw[←HC.out];exact⟨hg.2.1,hg.2.2.1⟩) hg.2.2.2
      rw[←HC.out] at hs
      have HS':=ak_ hs
      clear hs HS
      obtain⟨_,g1,g2,g3⟩:=hg
      rcases hpos with rfl | rfl | rfl
      ·clear g3
       go_wp2
       go_roundw
       case rel=>exact⟨2,_,_,_,rfl,rfl,rfl,rfl,HS'⟩
       case measure=>simp;omega
      ·have g4:(y == 0)=false:=beq_eq_false_iff_ne.mpr (by omega)
       clear g3
       go_wp2
       go_roundw
       case rel=>exact⟨3,_,_,_,rfl,rfl,rfl,rfl,HS'⟩
       case measure=>simp;omega
      ·omega
     ·obtain⟨rfl,rfl⟩:=loc_Parse.of_none H.out (loc_Parse.stop HS.out hp (by rw[←HC.out];omega))
      clear HS
      rcases hpos with rfl | rfl | rfl
      ·have g:c < 48∨57 < c:=by omega
       clear hg
       rcases g with g | g
       ·go_wp2
        all_goals (go_ret2;exact⟨rfl,bv _ _ _⟩)
       ·have g':48≤c:=by omega
        go_wp2
        all_goals (go_ret2;exact⟨rfl,bv _ _ _⟩)
      ·by_cases g:c < 48
       ·clear hg
        go_wp2
        all_goals (go_ret2;exact⟨rfl,bv _ _ _⟩)
       ·by_cases g':57 < c
        ·have g'':48≤c:=by omega
         clear hg
         go_wp2
         all_goals (go_ret2;exact⟨rfl,bv _ _ _⟩)
        ·have g'':48≤c:=by omega
         have g3:c≤57:=by omega
         obtain rfl:y=0:=by omega
         clear hg
         go_wp2
         all_goals (go_ret2;exact⟨rfl,bv _ _ _⟩)
      ·clear hg
       go_wp2
       all_goals (go_ret2;exact⟨rfl,bv _ _ _⟩)
   ·obtain⟨c,pos',hc1,hc2,hnx⟩:=mG w a0 pos hp ha
    obtain⟨rfl,rfl⟩:=loc_Parse.of_none H.out (loc_Parse.stop HS.out hp (by omega))
    have ne1:(c == 114)=false:=beq_eq_false_iff_ne.mpr (by omega)
    have ne2:(c == 115)=false:=beq_eq_false_iff_ne.mpr (by omega)
    clear HS
    go_wp2
    all_goals (go_ret2;exact⟨rfl,bv _ _ _⟩)
  ·have hnx:∀ ty,(Instr.next (.pointer (some ⟨w.heap.size,0,none⟩)) true ty).run Tryz.prog (w.iter a0 pos)=_:=fun ty=>run_next_end w a0 pos ty hp
   by_cases hw:(a0.size:Int) < 2∨z≤y
   ·obtain⟨rfl,rfl⟩:=loc_Parse.of_none H.out (loc_Parse.exit_err HS.out hp hw)
    clear HS
    go_wp2
    all_goals (first | omega | (go_ret2;exact⟨rfl,bv _ _ _⟩))
   ·obtain⟨rfl,rfl⟩:=loc_Parse.of_some H.out (loc_Parse.exit_ok HS.out hp (by omega) (by omega))
    clear HS
    go_wp2
    all_goals (first | omega | (go_ret2;exact⟨rfl,bv _ _ _⟩))
def dv (t:ByteArray):Nat→Int
 | 0=>0
 | n+1=>dv t n * 10+(bt t n - 48)
def p_ (s:ByteArray):Bool:=decide (0 < s.size∧bt s 0=45)
def At (s:ByteArray):ByteArray:=if p_ s=true then s.extract 1 s.size else s
def fX (t:ByteArray) (n:Nat):Prop:=∀ i:Nat,i < n→48≤bt t i∧bt t i≤57
instance (t:ByteArray) (n:Nat):Decidable (fX t n):=by unfold fX;infer_instance
def iy:Int:=9223372036854775807
def num_Parse.sized (t:ByteArray) (low:Bool):Option Int:=
 if t.size=0∨19 < t.size∨(bt t 0=48∧(1 < t.size∨low=true)) then none
 else if fX t t.size then (if low=true then (if dv t t.size≤iy+1 then some (-(dv t t.size)) else none) else (if dv t t.size≤iy then some (dv t t.size) else none))
 else none
def num_Parse.num (s:ByteArray):Option Int:=num_Parse.sized (At s) (p_ s)
def num_Parse.f (s:ByteArray):Option (Int × Int):=some (match num_Parse.num s with | some n=>(n,0) | none=>(0,2))
theorem num_Parse.of_none {s:ByteArray} {r1 r2:Int} (h:num_Parse.f s=some (r1,r2)) (hn:num_Parse.num s=none):r1=0∧r2=2:=by
 unfold num_Parse.f at h
 rw[hn] at h
 simp only[Option.some.injEq,Prod.mk.injEq] at h
 omega
theorem num_Parse.of_some {s:ByteArray} {r1 r2 l:Int} (h:num_Parse.f s=some (r1,r2)) (hn:num_Parse.num s=some l):r1=l∧r2=0:=by
 unfold num_Parse.f at h
 rw[hn] at h
 simp only[Option.some.injEq,Prod.mk.injEq] at h
 omega
theorem mc (t:ByteArray) (n:Nat) (h:fX t n):0≤dv t n∧dv t n+1≤10 ^ n:=by
 induction n with
 | zero=>simp[dv]
 | succ n ih=>
  have h1:=ih (fun i hi=>h i (by omega))
  have h2:=h n (by omega)
  simp only[dv]
  have e:(10:Int) ^ (n+1)=10 ^ n * 10:=by rw[Int.pow_succ]
  rw[e]
  generalize (10:Int) ^ n=p at *
  omega
theorem Ar (t:ByteArray) (n:Nat) (h:fX t n) (hn:n≤18):0≤dv t n∧dv t n≤999999999999999999:=by
 have h1:=mc t n h
 have h2:(10:Int) ^ n≤10 ^ 18:=by
  have h4:10 ^ n≤10 ^ 18:=Nat.pow_le_pow_right (by decide) hn
  exact_mod_cast h4
 have h3:(10:Int) ^ 18=1000000000000000000:=by decide
 omega
theorem iP {v:Int} (h1:1≤v) (h2:v≤9999999999999999999):IntKind.u64.wrap (-v)=18446744073709551616 - v:=by
 have e:IntKind.u64.wrap (-v)=(-v) % 18446744073709551616:=by simp[IntKind.wrap,IntKind.bits,IntKind.signed]
 rw[e]
 omega
theorem zC {a b c:Int} (h:a=b):Ending.returned (.tuple #[.int .i64 a,.int .i64 c])=Ending.returned (.tuple #[.int .i64 b,.int .i64 c]):=by rw[h]
theorem yn {v:Int} (h1:1≤v) (h2:v≤9999999999999999999) (h:v≤iy+1):IntKind.u64.wrap (-9223372036854775808)≤IntKind.u64.wrap (-v):=by
 unfold iy at h
 rw[iP h1 h2,iP (by omega) (by omega)]
 omega
theorem BC {v:Int} (h1:1≤v) (h2:v≤9999999999999999999) (h:¬ v≤iy+1):IntKind.u64.wrap (-v) < IntKind.u64.wrap (-9223372036854775808):=by
 unfold iy at h
 rw[iP h1 h2,iP (by omega) (by omega)]
 omega
theorem zO {v:Int} (h1:1≤v) (h2:v≤9999999999999999999) (h:v≤iy+1):wrap64 (IntKind.u64.wrap (-v))=-v:=by
 unfold iy at h
 rw[iP h1 h2]
 unfold wrap64
 omega
theorem DL (t:ByteArray) (n:Nat) (h:fX t n) (hn:n≤19):dv t n≤9999999999999999999:=by
 have h1:=mc t n h
 have h2:(10:Int) ^ n≤10 ^ 19:=by
  have h4:10 ^ n≤10 ^ 19:=Nat.pow_le_pow_right (by decide) hn
  exact_mod_cast h4
 have h3:(10:Int) ^ 19=10000000000000000000:=by decide
 omega
theorem Dh (t:ByteArray) (n:Nat) (h:fX t n) (h0:0 < n) (hb:bt t 0≠48):1≤dv t n:=by
 induction n with
 | zero=>omega
 | succ n ih=>
  have h2:=h n (by omega)
  simp only[dv]
  by_cases e:n=0
  ·subst e
   rw[vq] at *
   simp only[dv]
   omega
  ·have:=ih (fun i hi=>h i (by omega)) (by omega)
   omega
theorem m9 {t:ByteArray} {n:Nat} (h:fX t n) (hc:48≤bt t n∧bt t n≤57):fX t (n+1):=by
 intro i hi
 by_cases e:i=n
 ·subst e;exact hc
 ·exact h i (by omega)
theorem num_Parse.none_size {t:ByteArray} {low:Bool} (h:t.size=0∨19 < t.size∨(bt t 0=48∧(1 < t.size∨low=true))):num_Parse.sized t low=none:=by
 unfold num_Parse.sized
 rw[if_pos h]
theorem num_Parse.none_dig {t:ByteArray} {low:Bool} {i:Nat} (hi:i < t.size) (hc:bt t i < 48∨57 < bt t i):num_Parse.sized t low=none:=by
 unfold num_Parse.sized
 split
 ·rfl
 ·rw[if_neg (fun h=>by have:=h i hi;omega)]
def num_Parse.Bad (t:ByteArray) (low:Bool):Prop:=t.size=0∨19 < t.size∨(bt t 0=48∧(1 < t.size∨low=true))
theorem num_Parse.some_up {t:ByteArray} (h:¬ num_Parse.Bad t false) (hd:fX t t.size) :
  num_Parse.sized t false=if dv t t.size≤iy then some (dv t t.size) else none:=by
 unfold num_Parse.Bad at h
 unfold num_Parse.sized
 rw[if_neg h,if_pos hd,if_neg (by decide)]
theorem num_Parse.some_low {t:ByteArray} (h:¬ num_Parse.Bad t true) (hd:fX t t.size) :
  num_Parse.sized t true=if dv t t.size≤iy+1 then some (-(dv t t.size)) else none:=by
 unfold num_Parse.Bad at h
 unfold num_Parse.sized
 rw[if_neg h,if_pos hd,if_pos rfl]
theorem num_Parse.calls (a0:ByteArray) (r1:Int) (r2:Int) (w:World) (h:num_Parse.f a0=some (r1,r2)) :
  Calls Tryz.prog 95 #[.string a0] w fun e w'=>e=.returned (.tuple #[.int .i64 r1,.int .i64 r2])∧Below w.heap.size w w':=by
 have H:=ak_ h
 clear h
 by_cases hl:0 < a0.size
 ·have hat:∀ h:0 < a0.size,((a0[0]'h).toNat:Int)=bt a0 0:=nk a0 0
  by_cases hb:bt a0 0=45
  ·have hb1:(bt a0 0 == 45)=true:=beq_iff_eq.mpr hb
   have hlow:p_ a0=true:=by unfold p_;exact decide_eq_true ⟨hl,hb⟩
   obtain⟨t,ht⟩:=nm_ (a0.extract 1 a0.size)
   have hdg:At a0=t:=by unfold At;rw[hlow,ht];rfl
   have hn:num_Parse.num a0=num_Parse.sized t true:=by unfold num_Parse.num;rw[hdg,hlow]
   have HN:=ak_ hn
   have hts:t.size=a0.size - 1:=by rw[ht];simp
   have hex:a0.extract 1 a0.size=t:=ht.symm
   have htat:∀ h:0 < t.size,((t[0]'h).toNat:Int)=bt t 0:=nk t 0
   clear hlow hdg hn hb ht
   by_cases htz:t.size=0
   ·obtain⟨rfl,rfl⟩:=num_Parse.of_none H.out (HN.out.trans (num_Parse.none_size (.inl htz)))
    obtain rfl:t=ByteArray.empty:=ByteArray.ext (Array.eq_empty_of_size_eq_zero htz)
    have hl1:(1:Int)≤a0.size:=by omega
    clear htat hts htz
    go_enter Tryz.func95,Tryz.ntmps95
    go_wp2
    all_goals (go_ret2;exact⟨rfl,Below.refl _ _⟩)
   ·have htne:¬ t=ByteArray.empty:=fun e=>htz (by rw[e];rfl)
    have hl1:(1:Int)≤a0.size:=by omega
    have hs0:((t.size:Int) == 0)=false:=beq_eq_false_iff_ne.mpr (by omega)
    have htl:0 < t.size:=by omega
    by_cases hbig:19 < t.size
    ·obtain⟨rfl,rfl⟩:=num_Parse.of_none H.out (HN.out.trans (num_Parse.none_size (.inr (.inl hbig))))
     clear hts htz
     go_enter Tryz.func95,Tryz.ntmps95
     go_wp2
     all_goals (go_ret2;exact⟨rfl,Below.refl _ _⟩)
    ·by_cases hz:bt t 0=48
     ·obtain⟨rfl,rfl⟩:=num_Parse.of_none H.out (HN.out.trans (num_Parse.none_size (.inr (.inr ⟨hz,.inr rfl⟩))))
      have hz3:(bt t 0 == 48)=true:=beq_iff_eq.mpr hz
      clear hts htz hz
      go_enter Tryz.func95,Tryz.ntmps95
      go_wp2
      all_goals (go_ret2;exact⟨rfl,Below.refl _ _⟩)
     ·have hsz:¬ num_Parse.Bad t true:=by
       unfold num_Parse.Bad
       intro h
       rcases h with h | h | h
       ·omega
       ·omega
       ·exact hz h.1
      have HZ:=ak_ hsz
      have HZ0:=ak_ hz
      have hz4:(bt t 0 == 48)=false:=beq_eq_false_iff_ne.mpr hz
      have hs1:(t.size:Int)≤19:=by omega
      have hle:t.size≤9223372036854775807:=by omega
      clear hsz hz hbig hts htz
      go_enter Tryz.func95,Tryz.ntmps95
      go_wp2
      all_goals (first | (exfalso;omega) | skip)
      go_loopw [6] (fun u w'=>∃ (pos:Nat),w'=w.iter t pos∧pos≤t.size∧u=.int .u64 (dv t pos)∧aa (fX t pos)) (fun _ w'=>t.size - w'.iterPos w.heap.size)
      case atStart=>exact⟨0,rfl,Nat.zero_le _,rfl,⟨fun i hi=>by omega⟩⟩
      case round=>
       obtain⟨pos,rfl,hps,rfl,HD⟩:=hrel
       by_cases hp:pos < t.size
       ·by_cases ha:bt t pos < 128
        ·have hnx:=qX w t pos hp ha
         have hb:=pn t pos
         have hcap:=Ar t pos HD.out (by omega)
         obtain⟨c,hcc⟩:∃ c:Int,c=bt t pos:=⟨_,rfl⟩
         rw[←hcc] at hnx hb ha
         have HC:=ak_ hcc
         clear hcc
         by_cases hd:48≤c∧c≤57
         ·have hD':=m9 HD.out (by rw[←HC.out];exact hd)
          have HD':=ak_ hD'
          have hv:dv t (pos+1)=dv t pos * 10+(c - 48):=by rw[HC.out];rfl
          have HV:=ak_ hv
          clear hD' hv HD
          obtain⟨v,hv⟩:∃ v:Int,v=dv t pos:=⟨_,rfl⟩
          rw[←hv] at hcap HV ⊢
          clear hv
          go_wp2
          go_roundw
          case rel=>exact⟨pos+1,rfl,hp,by rw[HV.out],HD'⟩
          case measure=>simp;omega
         ·obtain⟨rfl,rfl⟩:=num_Parse.of_none H.out (HN.out.trans (num_Parse.none_dig hp (by rw[←HC.out];omega)))
          clear HD
          rcases (show c < 48∨57 < c by omega) with g | g
          ·clear hd
           go_wp2
           all_goals (go_ret2;exact⟨rfl,bv _ _ _⟩)
          ·have g':48≤c:=by omega
           clear hd
           go_wp2
           all_goals (go_ret2;exact⟨rfl,bv _ _ _⟩)
        ·obtain⟨c,pos',hc1,hc2,hnx⟩:=mG w t pos hp ha
         obtain⟨rfl,rfl⟩:=num_Parse.of_none H.out (HN.out.trans (num_Parse.none_dig hp (by omega)))
         clear HD
         have g':48≤c:=by omega
         have g:57 < c:=by omega
         go_wp2
         all_goals (go_ret2;exact⟨rfl,bv _ _ _⟩)
       ·have hnx:∀ ty,(Instr.next (.pointer (some ⟨w.heap.size,0,none⟩)) true ty).run Tryz.prog (w.iter t pos)=_:=fun ty=>run_next_end w t pos ty hp
        obtain rfl:pos=t.size:=by omega
        have hb0:=mc t t.size HD.out
        have hb1:=Dh t t.size HD.out htl HZ0.out
        have hb2:=DL t t.size HD.out (by omega)
        have hsome:=num_Parse.some_low HZ.out HD.out
        by_cases ht:dv t t.size≤iy+1
        ·rw[if_pos ht] at hsome
         obtain⟨rfl,rfl⟩:=num_Parse.of_some H.out (HN.out.trans hsome)
         obtain⟨v,hv⟩:∃ v:Int,v=dv t t.size:=⟨_,rfl⟩
         rw[←hv] at ht hb1 hb2 ⊢
         have HV:=ak_ hv
         have K1:=yn hb1 hb2 ht
         have K2:=ak_ (zO hb1 hb2 ht)
         clear hv hb0 hsome HD ht hb1 hb2
         go_wp2
         go_ret2
         exact⟨zC (K2.out.trans (by rw[HV.out])),bv _ _ _⟩
        ·rw[if_neg ht] at hsome
         obtain⟨rfl,rfl⟩:=num_Parse.of_none H.out (HN.out.trans hsome)
         obtain⟨v,hv⟩:∃ v:Int,v=dv t t.size:=⟨_,rfl⟩
         rw[←hv] at ht hb1 hb2 ⊢
         have K1:=BC hb1 hb2 ht
         clear hv hb0 hsome HD ht hb1 hb2
         go_wp2
         go_ret2
         exact⟨rfl,bv _ _ _⟩
  ·have hb1:(bt a0 0 == 45)=false:=beq_eq_false_iff_ne.mpr hb
   have hlow:p_ a0=false:=by unfold p_;exact decide_eq_false (fun h=>hb h.2)
   have hdg:At a0=a0:=by unfold At;rw[hlow];rfl
   have hn:num_Parse.num a0=num_Parse.sized a0 false:=by unfold num_Parse.num;rw[hdg,hlow]
   have HN:=ak_ hn
   clear hlow hdg hn
   by_cases hbig:19 < a0.size
   ·obtain⟨rfl,rfl⟩:=num_Parse.of_none H.out (HN.out.trans (num_Parse.none_size (.inr (.inl hbig))))
    go_enter Tryz.func95,Tryz.ntmps95
    go_wp2
    all_goals (go_ret2;exact⟨rfl,Below.refl _ _⟩)
   ·by_cases hz:bt a0 0=48∧1 < a0.size
    ·obtain⟨rfl,rfl⟩:=num_Parse.of_none H.out (HN.out.trans (num_Parse.none_size (.inr (.inr ⟨hz.1,.inl hz.2⟩))))
     obtain⟨hz1,hz2⟩:=hz
     have hz3:(bt a0 0 == 48)=true:=beq_iff_eq.mpr hz1
     clear hb hz1
     go_enter Tryz.func95,Tryz.ntmps95
     go_wp2
     all_goals (go_ret2;exact⟨rfl,Below.refl _ _⟩)
    ·have hsz:¬ num_Parse.Bad a0 false:=by
      unfold num_Parse.Bad
      intro h
      rcases h with h | h | h
      ·omega
      ·omega
      ·rcases h.2 with h2 | h2
       ·exact hz ⟨h.1,h2⟩
       ·cases h2
     have HZ:=ak_ hsz
     have hz4:(bt a0 0 == 48)=false∨(bt a0 0 == 48)=true∧a0.size≤1:=by
      by_cases e:bt a0 0=48
      ·exact .inr ⟨beq_iff_eq.mpr e,by omega⟩
      ·exact .inl (beq_eq_false_iff_ne.mpr e)
     have hs0:((a0.size:Int) == 0)=false:=beq_eq_false_iff_ne.mpr (by omega)
     have hs1:(a0.size:Int)≤19:=by omega
     have hne:¬ a0=ByteArray.empty:=fun e=>by rw[e] at hl;exact absurd hl (by decide)
     have hle:a0.size≤9223372036854775807:=by omega
     clear hsz hz hb hbig
     rcases hz4 with hz4 | ⟨hz4,hz5⟩
     all_goals
      go_enter Tryz.func95,Tryz.ntmps95
      go_wp2
      all_goals (first | (exfalso;omega) | skip)
      go_loopw [6] (fun u w'=>∃ (pos:Nat),w'=w.iter a0 pos∧pos≤a0.size∧u=.int .u64 (dv a0 pos)∧aa (fX a0 pos)) (fun _ w'=>a0.size - w'.iterPos w.heap.size)
      case atStart=>exact⟨0,rfl,Nat.zero_le _,rfl,⟨fun i hi=>by omega⟩⟩
      case round=>
       obtain⟨pos,rfl,hps,rfl,HD⟩:=hrel
       by_cases hp:pos < a0.size
       ·by_cases ha:bt a0 pos < 128
        ·have hnx:=qX w a0 pos hp ha
         have hb:=pn a0 pos
         have hcap:=Ar a0 pos HD.out (by omega)
         obtain⟨c,hcc⟩:∃ c:Int,c=bt a0 pos:=⟨_,rfl⟩
         rw[←hcc] at hnx hb ha
         have HC:=ak_ hcc
         clear hcc
         by_cases hd:48≤c∧c≤57
         ·have hD':=m9 HD.out (by rw[←HC.out];exact hd)
          have HD':=ak_ hD'
          have hv:dv a0 (pos+1)=dv a0 pos * 10+(c - 48):=by rw[HC.out];rfl
          have HV:=ak_ hv
          clear hD' hv HD
          obtain⟨v,hv⟩:∃ v:Int,v=dv a0 pos:=⟨_,rfl⟩
          rw[←hv] at hcap HV ⊢
          clear hv
          go_wp2
          go_roundw
          case rel=>exact⟨pos+1,rfl,hp,by rw[HV.out],HD'⟩
          case measure=>simp;omega
         ·obtain⟨rfl,rfl⟩:=num_Parse.of_none H.out (HN.out.trans (num_Parse.none_dig hp (by rw[←HC.out];omega)))
          clear HD
          rcases (show c < 48∨57 < c by omega) with g | g
          ·clear hd
           go_wp2
           all_goals (go_ret2;exact⟨rfl,bv _ _ _⟩)
          ·have g':48≤c:=by omega
           clear hd
           go_wp2
           all_goals (go_ret2;exact⟨rfl,bv _ _ _⟩)
        ·obtain⟨c,pos',hc1,hc2,hnx⟩:=mG w a0 pos hp ha
         obtain⟨rfl,rfl⟩:=num_Parse.of_none H.out (HN.out.trans (num_Parse.none_dig hp (by omega)))
         clear HD
         have g':48≤c:=by omega
         have g:57 < c:=by omega
         go_wp2
         all_goals (go_ret2;exact⟨rfl,bv _ _ _⟩)
       ·have hnx:∀ ty,(Instr.next (.pointer (some ⟨w.heap.size,0,none⟩)) true ty).run Tryz.prog (w.iter a0 pos)=_:=fun ty=>run_next_end w a0 pos ty hp
        obtain rfl:pos=a0.size:=by omega
        have hb0:=mc a0 a0.size HD.out
        have hsome:=num_Parse.some_up HZ.out HD.out
        by_cases ht:dv a0 a0.size≤iy
        ·rw[if_pos ht] at hsome
         obtain⟨e1,rfl⟩:=num_Parse.of_some H.out (HN.out.trans hsome)
         have hb1:=hb0.1
         rw[←e1] at ht hb1 ⊢
         clear e1 hb0 hsome HD
         unfold iy at ht
         go_wp2
         all_goals (go_ret2;exact⟨rfl,bv _ _ _⟩)
        ·rw[if_neg ht] at hsome
         obtain⟨rfl,rfl⟩:=num_Parse.of_none H.out (HN.out.trans hsome)
         have hb1:=hb0.1
         obtain⟨v,hv⟩:∃ v:Int,v=dv a0 a0.size:=⟨_,rfl⟩
         rw[←hv] at ht hb1 ⊢
         clear hv hb0 hsome HD
         unfold iy at ht
         go_wp2
         all_goals (go_ret2;exact⟨rfl,bv _ _ _⟩)
 ·obtain rfl:a0=ByteArray.empty:=by
   have:a0.size=0:=by omega
   exact ByteArray.ext (Array.eq_empty_of_size_eq_zero this)
  have hn:num_Parse.num ByteArray.empty=none:=by decide
  obtain⟨rfl,rfl⟩:=num_Parse.of_none H.out hn
  go_enter Tryz.func95,Tryz.ntmps95
  go_wp2
  all_goals (go_ret2;exact⟨rfl,Below.refl _ _⟩)
theorem CB:(Tryz.prog.info? 9).map (fun i=>(i.zero,i.size,i.bytes))=some (some (.string (mkS [])),1,16):=by kernel_rfl
def wst (s:ByteArray):Nat→List ByteArray × Nat
 | 0=>([],0)
 | k+1=>if bt s k=32 then ((wst s k).1++[s.extract (wst s k).2 k],k+1) else wst s k
def jb (s:ByteArray):List ByteArray:=(wst s s.size).1++[s.extract (wst s s.size).2 s.size]
theorem mo (s:ByteArray):∀ k,(wst s k).2≤k∧(wst s k).1.length≤k
 | 0=>⟨Nat.le_refl _,Nat.le_refl _⟩
 | k+1=>by
  have:=mo s k
  unfold wst
  split
  ·simp;omega
  ·omega
def Ea (w:World) (s:ByteArray) (k:Nat) (v:Value) (n:Nat) (W:World):Prop:=
 k≤s.size∧n=(wst s k).2∧Kd.R Kd.string 9 W w.heap.size (fun b=>b≠w.heap.size) v (wst s k).1∧Below w.heap.size w W∧W.heap[w.heap.size]?=some (.stringIter s k)
theorem yr (s:ByteArray) (ha:Asc s) (hs:s.size≤20000) (w:World):Calls Tryz.prog 75 #[.string s] w fun e w'=>∃ v,e=.returned v∧Kd.R Kd.string 9 w' w.heap.size (fun _=>True) v (jb s)∧Below w.heap.size w w':=by
 have HA:=ak_ ha
 clear ha
 go_enter Tryz.func75,Tryz.ntmps75
 go_wp2
 go_loopw [3,4,5,6] (fun v3 c _ _ wr=>∃ (k n:Nat),c=.int .i64 n∧aa (Ea w s k v3 n wr)) (fun _ _ _ _ wr=>s.size - wr.iterPos w.heap.size)
 case atStart=>exact⟨0,0,rfl,⟨⟨Nat.zero_le _,rfl,Kd.R_nil _ _ _ _ _,ae (Below.refl _ _) _,heap_alloc_last w _⟩⟩⟩
 case round=>
  obtain⟨k,n,rfl,HS⟩:=hrel
  obtain⟨hk,hn,ho,hb,hi⟩:=HS.out
  have hbd:=mo s k
  by_cases hlt:k < s.size
  ·have hax:=HA.out k hlt
   have hnx:=fun ty=>fc (P:=Tryz.prog) wr w.heap.size s k ty hi hlt hax
   obtain⟨w2,hw2⟩:=nm_ (World.setIter wr w.heap.size s (k+1))
   have HI:aa (w2.heap[w.heap.size]?=some (.stringIter s (k+1))):=⟨by rw[hw2];exact em hi _⟩
   have HB:aa (Below w.heap.size w w2):=⟨by rw[hw2];exact dV hb (Nat.le_refl _) _ _⟩
   have HO:aa (Kd.R Kd.string 9 w2 w.heap.size (fun b=>b≠w.heap.size) u3 (wst s k).1):=⟨by
    rw[hw2]
    exact Kd.R_step ho (fun b hb _=>by
     show (wr.heap.setIfInBounds w.heap.size (.stringIter s (k+1)))[b]?=_
     rw[Array.getElem?_setIfInBounds_ne (fun e=>hb e.symm)])⟩
   rw[←hw2] at hnx
   obtain⟨c,hc⟩:∃ c:Int,c=bt s k:=⟨_,rfl⟩
   rw[←hc] at hnx
   have HI0:=ak_ hi
   have HLk:=ak_ hlt
   have HN:=ak_ hn
   have HBd:=ak_ hbd
   have hnk:n≤k:=by omega
   have hks:k≤s.size:=hk
   clear hw2 hi hb hax HS ho hbd hn hk
   by_cases c32:c=32
   ·have hst:(wst s (k+1))=((wst s k).1++[s.extract n k],k+1):=by rw[wst,if_pos (by rw[←hc];exact c32),HN.out]
    subst c32
    have HSt:=ak_ hst
    clear hst hc hlt
    go_wp2_with (first
     | ((with_reducible refine a7 (b:=.append) (xs:=#[.tmp 15,.tmp 20]) rfl ?_);at_builtin;refine Kd.R_append Kd.string (w0:=w) w.heap.size rfl (.tmp 15) (.tmp 20) 166 9 (.string (mkS [])) 16 rfl Tryz.underlying166 CB rfl (by decide) (by omega) u3 ((wst s k).1) (s.extract n k) [.string (s.extract n k)] (fun b=>b≠w.heap.size) (fun _=>False) rfl rfl ?aP (fun _ hk=>hk.elim) ?aF ?aO ?aB ?aS ?aL ?_;(case aP=>exact rfl);(case aF=>exact(fun b hb=>by have:=ai HI.out;omega));(case aO=>exact HO.out);(case aB=>exact HB.out);(case aS=>exact HB.out.size);(case aL=>have:=HBd.out;omega);intro vap wap ho hb hg hat;have HI3:=ak_ ((hg.block _ (ai HI.out) (Kd.R_away HO.out (fun _ h=>h))).trans HI.out);have HO3:=ak_ ho;have HB3:=ak_ hb;clear ho hb hg hat))
    go_roundw
    case rel=>exact⟨k+1,k+1,by go_num,⟨⟨HLk.out,by rw[HSt.out],by rw[HSt.out];exact HO3.out,HB3.out,HI3.out⟩⟩⟩
    case measure=>rw[aY HI3.out,aY HI0.out];have:=HLk.out;omega
   ·have hst:wst s (k+1)=wst s k:=by rw[wst,if_neg (by rw[←hc];exact c32)]
    have e1:(c == 32)=false:=beq_eq_false_iff_ne.mpr c32
    have HSt:=ak_ hst
    clear hst hc hlt c32
    go_wp2
    go_roundw
    case rel=>exact⟨k+1,n,rfl,⟨⟨HLk.out,by rw[HSt.out];exact HN.out,by rw[HSt.out];exact HO.out,HB.out,HI.out⟩⟩⟩
    case measure=>rw[aY HI.out,aY HI0.out];have:=HLk.out;omega
  ·have hnx:=fun ty=>dW (P:=Tryz.prog) wr w.heap.size s k ty hi hlt
   obtain rfl:k=s.size:=by omega
   have hnk:n≤s.size:=by omega
   have HI:=ak_ hi
   have HB:=ak_ hb
   have HO:=ak_ ho
   have HBd:=ak_ hbd
   have HW:aa (jb s=(wst s s.size).1++[s.extract n s.size]):=⟨by unfold jb;rw[hn]⟩
   clear hi hb ho HS hlt hbd hk hn
   go_wp2_with (first
     | ((with_reducible refine a7 (b:=.append) (xs:=#[.tmp 24,.tmp 28]) rfl ?_);at_builtin;refine Kd.R_append Kd.string (w0:=w) w.heap.size rfl (.tmp 24) (.tmp 28) 166 9 (.string (mkS [])) 16 rfl Tryz.underlying166 CB rfl (by decide) (by omega) u3 ((wst s s.size).1) (s.extract n s.size) [.string (s.extract n s.size)] (fun b=>b≠w.heap.size) (fun _=>False) rfl rfl ?aP (fun _ hk=>hk.elim) ?aF ?aO ?aB ?aS ?aL ?_;(case aP=>exact rfl);(case aF=>exact(fun b hb=>by have:=ai HI.out;omega));(case aO=>exact HO.out);(case aB=>exact HB.out);(case aS=>exact HB.out.size);(case aL=>have:=HBd.out;omega);intro vap wap ho hb hg hat;rw[←HW.out] at ho;have HO3:=ak_ ho;have HB3:=ak_ hb;clear ho hb hg hat))
   go_ret
   exact⟨_,rfl,Kd.R_mono HO3.out (fun _ _=>trivial),HB3.out⟩
def tN (s:ByteArray):Int × Int:=match num_Parse.num s with | some n=>(n,0) | none=>(0,2)
def zS (s:ByteArray):Int × Int:=match loc_Parse.place s with | some l=>(l,0) | none=>(0,2)
theorem CA (s:ByteArray) (w:World):Calls Tryz.prog 95 #[.string s] w fun e w'=>e=.returned (.tuple #[.int .i64 (tN s).1,.int .i64 (tN s).2])∧Below w.heap.size w w':=num_Parse.calls s _ _ w rfl
theorem DE (s:ByteArray) (w:World):Calls Tryz.prog 96 #[.string s] w fun e w'=>e=.returned (.tuple #[.int .i64 (zS s).1,.int .i64 (zS s).2])∧Below w.heap.size w w':=loc_Parse.calls s _ _ w rfl
def ke (c:Int):Nat:=if c=78 then 4 else if c=84 then 5 else fF c
def jI (c:Int) (s:ByteArray):Int × Int:=if c=78∨c=84 then tN s else zS s
theorem zX (g:Nat) (x:In) (c:Int) (s:ByteArray) (w:World) (hx:be w g x):Calls Tryz.prog 76 #[.pointer (some ⟨g,0,none⟩),.int .i32 c,.string s] w fun e w'=>e=.returned (.int .i64 (jI c s).2)∧∃ W,Below w.heap.size w W∧w'=W.setCell ⟨g,ke c,none⟩ (.int .i64 (jI c s).1):=by
 have HX:=ak_ hx
 clear hx
 unfold ke jI
 by_cases h1:c=78
 ·subst h1
  rw[if_pos rfl,if_pos (.inl rfl)]
  have HP:=ak_ (CA s)
  obtain⟨a,ha⟩:=nm_ ((tN s).1)
  obtain⟨b,hb⟩:=nm_ ((tN s).2)
  rw[←ha,←hb] at HP ⊢
  clear ha hb
  go_enter Tryz.func76,Tryz.ntmps76
  go_wp2_with (go_at_call 95;refine(HP.out _).mono ?_;rintro e w2 ⟨rfl,hb⟩;have HB2:=ak_ hb;have g4:=(HX.out.below hb).get 4 (by omega);have f4:=aq (HX.out.below hb) 4;clear hb)
  go_ret
  exact⟨rfl,w2,HB2.out,rfl⟩
 ·rw[if_neg h1]
  by_cases h2:c=84
  ·subst h2
   rw[if_pos rfl,if_pos (.inr rfl)]
   have HP:=ak_ (CA s)
   obtain⟨a,ha⟩:=nm_ ((tN s).1)
   obtain⟨b,hb⟩:=nm_ ((tN s).2)
   rw[←ha,←hb] at HP ⊢
   clear ha hb h1
   go_enter Tryz.func76,Tryz.ntmps76
   go_wp2_with (go_at_call 95;refine(HP.out _).mono ?_;rintro e w2 ⟨rfl,hb⟩;have HB2:=ak_ hb;have g4:=(HX.out.below hb).get 5 (by omega);have f4:=aq (HX.out.below hb) 5;clear hb)
   go_ret
   exact⟨rfl,w2,HB2.out,rfl⟩
  ·rw[if_neg h2,if_neg (by omega)]
   have HP:=ak_ (DE s)
   obtain⟨a,ha⟩:=nm_ ((zS s).1)
   obtain⟨b,hb⟩:=nm_ ((zS s).2)
   rw[←ha,←hb] at HP ⊢
   have e1:(c == 78)=false:=beq_eq_false_iff_ne.mpr h1
   have e2:(c == 84)=false:=beq_eq_false_iff_ne.mpr h2
   have HF:=ak_ (l_ c)
   clear ha hb h1 h2
   go_enter Tryz.func76,Tryz.ntmps76
   go_wp2_with (first
    | (go_at_call 96;refine(HP.out _).mono ?_;rintro e w2 ⟨rfl,hb⟩;have HB2:=ak_ hb;have g4:=(HX.out.below hb).get (fF c) HF.out;have f4:=aq (HX.out.below hb) (fF c);clear hb)
    | (go_at_call 86;refine(fS _ _ _).mono ?_;rintro e w' ⟨rfl,rfl⟩))
   go_ret
   exact⟨rfl,w2,HB2.out,rfl⟩
def In.put (x:In) (k:Nat) (v:Int):In:=
 match k with
 | 0=>{ x with op:=v } | 1=>{ x with d:=v } | 2=>{ x with a:=v } | 3=>{ x with b:=v } | 4=>{ x with n:=v } | _=>{ x with jt:=v }
theorem Ai (c:Int):ke c < 6:=by
 have:=l_ c
 unfold ke
 split
 ·omega
 ·split <;> omega
theorem be.put {w:World} {g:Nat} {x:In} (h:be w g x) (k:Nat) (hk:k < 6) (v:Int):be (w.setCell ⟨g,k,none⟩ (.int .i64 v)) g (x.put k v):=by
 have:=ey h k (.int .i64 v)
 match k,hk with
 | 0,_=>exact this
 | 1,_=>exact this
 | 2,_=>exact this
 | 3,_=>exact this
 | 4,_=>exact this
 | 5,_=>exact this
def kq (ws:List ByteArray):List Int→Nat→In→Option In
 | [],_,x=>some x
 | c :: cs,k,x=>if (jI c (ws.getD (k+1) (mkS []))).2=0 then kq ws cs (k+1) (x.put (ke c) (jI c (ws.getD (k+1) (mkS []))).1) else none
def mC (ws:List ByteArray):List (ByteArray × ByteArray)→Nat→In × Int
 | [],_=>(In.zero,2)
 | p :: ps,i=>if p.1=ws.getD 0 (mkS [])∧p.2.size+1=ws.length then
   match kq ws (bl p.2 0) 0 { In.zero with op:=(i:Int)+1 } with
   | none=>(In.zero,2)
   | some x=>if cP x 200=0 then (x,0) else (In.zero,2)
  else mC ws ps (i+1)
def eC (s:ByteArray):In × Int:=mC (jb s) a_ 0
def kV:List Value:=a_.flatMap fun p=>[.string p.1,.string p.2]
theorem ya (i:Nat) (hi:i < 18):kV[i * 2]?=some (.string (a_.getD i (mkS [],mkS [])).1)∧kV[i * 2+1]?=some (.string (a_.getD i (mkS [],mkS [])).2):=by
 have h18:i=0∨i=1∨i=2∨i=3∨i=4∨i=5∨i=6∨i=7∨i=8∨i=9∨i=10∨i=11∨i=12∨i=13∨i=14∨i=15∨i=16∨i=17:=by omega
 clear hi
 rcases h18 with rfl | rfl | rfl | rfl | rfl | rfl | rfl | rfl | rfl | rfl | rfl | rfl | rfl | rfl | rfl | rfl | rfl | rfl
 all_goals exact⟨rfl,rfl⟩
theorem tC:kV.length=36:=rfl
theorem sv {W:World} (h:Gl W):(loadVar 170 ⟨0,0,none⟩).run Tryz.prog W=.ok (.agg kV.toArray) W:=by
 have hcl:∀ j v,kV[j]?=some v→W.cell? ((⟨0,0,none⟩:Addr).add j)=some v:=by
  intro j v hj
  have hl:=(List.getElem?_eq_some_iff.1 hj).1
  rw[tC] at hl
  obtain⟨c0,c1⟩:=h.1 (j / 2) (by omega)
  obtain⟨s0,s1⟩:=ya (j / 2) (by omega)
  have ha:(⟨0,0,none⟩:Addr).add j=⟨0,j,none⟩:=by
   unfold Addr.add
   by_cases h0:j=0 <;> simp[h0]
  rw[ha]
  rcases Nat.mod_two_eq_zero_or_one j with e | e
  ·have:j / 2 * 2=j:=by omega
   rw[this] at c0 s0
   rw[c0,←s0,hj]
  ·have:j / 2 * 2+1=j:=by omega
   rw[this] at c1 s1
   rw[c1,←s1,hj]
 have hl:=run_loadCells_list (P:=Tryz.prog) (w:=W) ⟨0,0,none⟩ _ hcl
 have hs:(sizeOf 170).run Tryz.prog W=.ok 36 W:=by kernel_rfl
 have hl':(loadCells ⟨0,0,none⟩ 36).run Tryz.prog W=.ok kV.toArray W:=hl
 simp only[loadVar,isAgg,Sem.run_bind,run_underlying Tryz.underlying170,Result.andThen_ok,Sem.run_pure,if_true,hs,hl']
theorem rh (i:Nat) (hi:i < 18) (W:World):(Instr.index 170 (.agg kV.toArray) (.int .i64 (i:Int))).run Tryz.prog W=.ok (.agg #[.string (a_.getD i (mkS [],mkS [])).1,.string (a_.getD i (mkS [],mkS [])).2]) W:=by
 have h18:i=0∨i=1∨i=2∨i=3∨i=4∨i=5∨i=6∨i=7∨i=8∨i=9∨i=10∨i=11∨i=12∨i=13∨i=14∨i=15∨i=16∨i=17:=by omega
 clear hi
 rcases h18 with rfl | rfl | rfl | rfl | rfl | rfl | rfl | rfl | rfl | rfl | rfl | rfl | rfl | rfl | rfl | rfl | rfl | rfl
 all_goals (show _=_;kernel_rfl)
theorem au {P:Program} {ops:Array Oper} {rest:List Oper} {o:Oper} {a:Act} {W:World} {Q:Exit→Act→World→Prop} (hgd:o.guard=none) (ty:TypeId) (x:Operand) (ho:o.op=.load ty x) (ad:Addr) (hx:a.eval x=.pointer (some ad)) (v:Value)
  (hrun:(loadVar ty ad).run P W=.ok v W) (h:wpList P ops Q rest (a.put o.dst v) W):wpList P ops Q (o :: rest) a W:=by
 refine Kd.event_run hgd ?_ h
 unfold execOp
 simp only[ho,hx,Instr.loadAt,Instr.sureAddr,Sem.run_bind,Sem.run_pure,Result.andThen_ok,hrun]
theorem Bk (k:Nat) (hk:k < 18):Asc (a_.getD k (mkS [],mkS [])).2:=by
 have h1:=nA ((k:Int)+1)
 have h3:mD ((k:Int)+1)=true:=decide_eq_true (by omega)
 have h2:((k:Int)+1 - 1).toNat=k:=by omega
 unfold shF at h1
 rw[if_pos h3,h2] at h1
 exact h1
theorem vK (k:Nat) (hk:k < 18):(a_.getD k (mkS [],mkS [])).2.size≤3:=by
 have h3:∀ p∈a_,p.2.size≤3:=by decide
 rw[List.getD_eq_getElem?_getD,List.getElem?_eq_getElem (by rw[jf];exact hk)]
 exact h3 _ (List.getElem_mem _)
theorem zj (k:Nat) (hk:k < 18):a_.drop k=(a_.getD k (mkS [],mkS [])) :: a_.drop (k+1):=by
 rw[List.drop_eq_getElem_cons (by rw[jf];exact hk),List.getD_eq_getElem?_getD,List.getElem?_eq_getElem (by rw[jf];exact hk)]
 rfl
theorem qy (s:ByteArray):s.toList=s.data.toList:=by
 have key:∀ (n i:Nat) (r:List UInt8),s.size - i=n→ByteArray.toList.loop s i r=r.reverse++s.data.toList.drop i:=by
  intro n
  induction n with
  | zero=>
   intro i r h
   have hl:s.data.toList.length=s.size:=by rw[Array.length_toList];rfl
   rw[ByteArray.toList.loop,if_neg (by omega),List.drop_of_length_le (by omega),List.append_nil]
  | succ n ih=>
   intro i r h
   have hl:s.data.toList.length=s.size:=by rw[Array.length_toList];rfl
   rw[ByteArray.toList.loop,if_pos (by omega),ih (i+1) _ (by omega)]
   have hi:i < s.data.toList.length:=by omega
   rw[List.drop_eq_getElem_cons hi]
   have hg:s.get! i=s.data.toList[i]:=by
    cases s with | mk d=>
    simp[ByteArray.get!]
    have:i < d.size:=by simpa using hi
    simp[this]
   simp[hg]
 have:=key s.size 0 [] rfl
 simpa [ByteArray.toList] using this
theorem CO {a b:ByteArray} (h:a≠b):(a.toList == b.toList)=false:=by
 rw[beq_eq_false_iff_ne]
 intro e
 rw[qy,qy] at e
 apply h
 cases a
 cases b
 simp at e
 rw[e]
theorem mi (ad:Addr) (j:Nat) (h:0 < j):ad.add j=⟨ad.block,ad.off+j,none⟩:=by
 unfold Addr.add
 rw[if_neg (by omega)]
theorem tr {w:World} {A:Option Addr} {n:Nat} {xs:List ByteArray} (h:Kd.C Kd.string w A n xs) (i:Nat) (hi:i < n):∃ ad,A=some ad∧w.cell? (ad.add i)=some (.string (xs.getD i (mkS []))):=by
 obtain⟨ad,e,hc⟩:=Kd.at_string h (i:Int) (by omega) (by omega)
 refine⟨ad,e,?_⟩
 have he:(mkS []:ByteArray)=ByteArray.empty:=rfl
 rw[he]
 simpa [tH,List.getD_eq_getElem?_getD] using hc
def Ee (w w1:World) (g:Nat) (A:Option Addr) (ws:List ByteArray) (W:World):Prop:=Below w1.heap.size w1 W∧be W g In.zero∧Kd.C Kd.string W A ws.length ws∧Gl W∧Below w.heap.size w W∧w.heap.size≤g
theorem yt (s:ByteArray) (ha:Asc s) (hs:s.size≤20000) (w:World) (hG:Gl w):Calls Tryz.prog 45 #[.string s] w fun e w'=>e=.returned (.tuple #[.agg (eC s).1.cells,.int .i64 (eC s).2])∧Below w.heap.size w w':=by
 have HG:=ak_ hG
 have HA:=ak_ ha
 obtain⟨ws,hws⟩:=nm_ (jb s)
 have hlen:1≤ws.length:=by rw[hws];unfold jb;simp
 have hlen2:ws.length≤20001:=by rw[hws];unfold jb;have:=(mo s s.size).2;simp;omega
 have hW:=fun w=>yr s ha hs w
 rw[←hws] at hW
 have HW:=ak_ hW
 obtain⟨r,hr⟩:=nm_ (eC s)
 rw[←hr]
 unfold eC at hr
 rw[←hws] at hr
 have HR:=ak_ hr
 obtain⟨r1,r2⟩:=r
 have hlen0:0 < ws.length:=hlen
 clear hG ha hW hws hr
 go_enter Tryz.func45,Tryz.ntmps45
 go_upto_block 0 with (first
  | (go_at_call 75;refine(HW.out _).mono ?_;rintro e w1 ⟨v,rfl,hv,hb⟩;obtain⟨A,c,rfl,hcc,hC⟩:=Kd.R_reads hv;have HC:=ak_ hC;have HB1:=ak_ (af (ae (Below.refl _ _) _) hb);have KZ:=ak_ (show be w1 w.heap.size In.zero from be.below (show be (w.alloc (.cells In.zero.cells 49 (0,0))) w.heap.size In.zero from heap_alloc_last w _) hb);have hls:=sv (HG.out.below (af (ae (Below.refl w.heap.size w) (.cells In.zero.cells 49 (0,0))) hb));clear hb hv hC)
  | ((with_reducible refine aj (N:=13) rfl ?_);refine au rfl 170 _ rfl ⟨0,0,none⟩ rfl _ hls ?_))
 have HG1:=ak_ (HG.out.below HB1.out)
 go_wp2_with fail
 go_loopw [14] (fun i wr=>∃ k:Nat,i=.int .i64 k∧aa (k≤18∧Ee w w1 w.heap.size A ws wr∧(r1,r2)=mC ws (a_.drop k) k)) (fun i _=>18 - (intOf i).toNat)
 case atStart=>exact⟨0,rfl,⟨⟨by omega,⟨Below.refl _ _,KZ.out,HC.out,HG1.out,HB1.out,Nat.le_refl _⟩,HR.out⟩⟩⟩
 case round=>
  obtain⟨wo,rfl⟩:=nm_ wr
  obtain⟨k,rfl,HS⟩:=hrel
  obtain⟨hk,⟨hb1,hz,hC,hG,hb,hg⟩,hp⟩:=HS.out
  have HZ:=ak_ hz
  have HC2:=ak_ hC
  have HG2:=ak_ hG
  have HB:=ak_ hb
  have HBB:=ak_ hb1
  by_cases hlt:k < 18
  ·have hlt':(k:Int) < 18:=by omega
   have hix:=rh k hlt
   obtain⟨ad,rfl,_⟩:=tr hC 0 (by omega)
   obtain⟨w0,hw0'⟩:∃ w0,w0=ws.getD 0 (mkS []):=⟨_,rfl⟩
   rw[zj k hlt,mC,←hw0'] at hp
   have hfa:=Bk k hlt
   have hfs:=vK k hlt
   obtain⟨wd,hwd⟩:∃ x,x=(a_.getD k (mkS [],mkS [])).1:=⟨_,rfl⟩
   obtain⟨fs,hfs'⟩:∃ x,x=(a_.getD k (mkS [],mkS [])).2:=⟨_,rfl⟩
   rw[←hwd,←hfs'] at hp hix
   rw[←hfs'] at hfs hfa
   have HP:=ak_ hp
   have HFa:=ak_ hfa
   have HZ3:=ak_ (HZ.out.below (ae (Below.refl _ _) (.cells #[.string wd,.string fs] 169 (0,0))))
   have HC3:=ak_ (Kd.C_below HC2.out (ae (Below.refl _ _) (.cells #[.string wd,.string fs] 169 (0,0))))
   have HG3:=ak_ (HG2.out.below (ae (Below.refl _ _) (.cells #[.string wd,.string fs] 169 (0,0))))
   have HB3:=ak_ (af HB.out (ae (Below.refl _ _) (.cells #[.string wd,.string fs] 169 (0,0))))
   have HBB3:=ak_ (af HBB.out (ae (Below.refl _ _) (.cells #[.string wd,.string fs] 169 (0,0))))
   obtain⟨ad',e,hw0⟩:=tr HC3.out 0 (by omega)
   obtain rfl:=Option.some.inj e
   rw[←hw0'] at hw0
   rw[show ad.add 0=ad by simp[Addr.add]] at hw0
   clear hz hC hG hb hb1 HS hp hwd hfs' hfa hw0' e
   have hnil:∃ m:Nat,ws.length=m+1:=⟨ws.length - 1,by omega⟩
   clear hnil
   by_cases hq:wd=w0
   ·subst hq
    by_cases hz:fs.size+1=ws.length
    ·have hz1:((fs.size:Int) != (ws.length:Int) - 1)=false:=bne_eq_false_iff_eq.mpr (by omega)
     have HPp:=HP.out
     rw[if_pos ⟨rfl,hz⟩] at HPp
     have HPq:=ak_ HPp
     have HZz:=ak_ hz
     clear HPp hz
     go_upto_region 5 with fail
     go_quiet (fail)
     go_wp2_with fail
     obtain⟨F,hF⟩:=nm_ (kq ws (bl fs 0) 0 { In.zero with op:=(k:Int)+1 })
     rw[←hF] at HPq
     have HF:=ak_ hF
     clear hF
     go_loopw [8,9,10] (fun _ _ _ W=>∃ (k2:Nat) (x:In),aa (k2≤fs.size∧be W (wo.heap.size+1) x∧W.heap[wo.heap.size+1+1]?=some (.stringIter fs k2)∧Below wo.heap.size wo W∧F=kq ws (bl fs k2) k2 x)) (fun _ _ _ W=>fs.size - W.iterPos (wo.heap.size+1+1))
     case atStart=>
      refine⟨0,{ In.zero with op:=(k:Int)+1 },⟨⟨Nat.zero_le _,?_,?_,?_,HF.out⟩⟩⟩
      ·have h:=dZ wo [.cells #[.string wd,.string fs] 169,.cells #[.int .i64 (1+(k:Int)),.int .i64 0,.int .i64 0,.int .i64 0,.int .i64 0,.int .i64 0] 49,.stringIter fs 0] 1 _ rfl
       show _=some (Obj.cells #[.int .i64 ((k:Int)+1),.int .i64 0,.int .i64 0,.int .i64 0,.int .i64 0,.int .i64 0] 49 (0,0))
       rw[Int.add_comm (k:Int) 1]
       exact h
      ·exact dZ wo [.cells #[.string wd,.string fs] 169,.cells #[.int .i64 (1+(k:Int)),.int .i64 0,.int .i64 0,.int .i64 0,.int .i64 0,.int .i64 0] 49,.stringIter fs 0] 2 _ rfl
      ·exact af (aI (ae (Below.refl _ _) _) _) (ae (ae (Below.refl _ _) _) _)
     case round=>
      obtain⟨k2,x,HS2⟩:=hrel
      obtain⟨hk2,hx,hi,hbw,hf⟩:=HS2.out
      have hCw:=Kd.C_below HC2.out hbw
      have HBw:=ak_ hbw
      by_cases hlt2:k2 < fs.size
      ·have hax:=HFa.out k2 hlt2
       have hnx:=fun ty=>fc (P:=Tryz.prog) wr (wo.heap.size+1+1) fs k2 ty hi hlt2 hax
       obtain⟨w2,hw2⟩:=nm_ (World.setIter wr (wo.heap.size+1+1) fs (k2+1))
       have HI:aa (w2.heap[wo.heap.size+1+1]?=some (.stringIter fs (k2+1))):=⟨by rw[hw2];exact em hi _⟩
       have HX:aa (be w2 (wo.heap.size+1) x):=⟨by rw[hw2];exact ii hx (by omega) _ _⟩
       have HB5:aa (Below wo.heap.size wo w2):=⟨by rw[hw2];exact dV hbw (by omega) _ _⟩
       rw[←hw2] at hnx
       obtain⟨ch,hc⟩:∃ c:Int,c=bt fs k2:=⟨_,rfl⟩
       rw[vt hlt2,←hc,kq] at hf
       rw[←hc] at hnx
       have hk3:k2+1 < ws.length:=by have:=HZz.out;omega
       obtain⟨ad',e,hcell⟩:=tr (Kd.C_below HC2.out HB5.out) (k2+1) hk3
       obtain rfl:=Option.some.inj e
       obtain⟨wk,hwk⟩:∃ wk,wk=ws.getD (k2+1) (mkS []):=⟨_,rfl⟩
       rw[←hwk] at hf hcell
       rw[mi _ _ (Nat.succ_pos _)] at hcell
       have HFi:=ak_ (zX (wo.heap.size+1) x ch wk)
       obtain⟨q,hq⟩:=nm_ ((jI ch wk).2)
       rw[←hq] at HFi hf
       have HI0:=ak_ hi
       have HFf:=ak_ hf
       have HLk:=ak_ hlt2
       clear hq hwk hw2 hc hi hx hbw hax HS2 hf hCw e hk2 hlt2
       by_cases hq0:q=0
       ·have HFg:aa (F=kq ws (bl fs (k2+1)) (k2+1) (x.put (ke ch) (jI ch wk).1)):=⟨by rw[HFf.out,if_pos hq0]⟩
        subst hq0
        go_wp2_with (go_at_call 76;refine(HFi.out _ HX.out).mono ?_;rintro e w5 ⟨rfl,W5,hb5,rfl⟩;have HX5:=ak_ ((HX.out.below hb5).put (ke ch) (Ai ch) (jI ch wk).1);have HI5:=ak_ (fy (p:=⟨wo.heap.size+1,ke ch,none⟩) ((hb5.block _ (ai HI.out)).trans HI.out) (by simp) (.int .i64 (jI ch wk).1));have HB6:=ak_ ((af HB5.out hb5).setCell (p:=⟨wo.heap.size+1,ke ch,none⟩) (by simp) (.int .i64 (jI ch wk).1));clear hb5)
        go_roundw
        case rel=>exact⟨k2+1,_,⟨⟨HLk.out,HX5.out,HI5.out,HB6.out,HFg.out⟩⟩⟩
        case measure=>rw[aY HI5.out,aY HI0.out];have:=HLk.out;omega
       ·have hFn:F=none:=by rw[HFf.out,if_neg hq0]
        subst hFn
        obtain⟨rfl,rfl⟩:=Prod.mk.injEq .. ▸ HPq.out
        have hq1:(q != 0)=true:=bne_iff_ne.mpr hq0
        clear hq0
        go_wp2_with (first
         | (go_at_call 76;refine(HFi.out _ HX.out).mono ?_;rintro e w5 ⟨rfl,W5,hb5,rfl⟩;have HZ5:=ak_ (((HZ.out.below HB5.out).below hb5).far (p:=⟨wo.heap.size+1,ke ch,none⟩) (by have:=ai HZ.out;simp;omega) (.int .i64 (jI ch wk).1));have HB6:=ak_ (af HB.out ((af HB5.out hb5).setCell (p:=⟨wo.heap.size+1,ke ch,none⟩) (by simp) (.int .i64 (jI ch wk).1)));clear hb5)
         | ((with_reducible refine ao (t:=49) (p:=2) rfl ?_);refine wpList_store_row rfl 49 _ _ rfl w.heap.size In.zero.cells rfl rfl 49 In.zero.cells HZ5.out bE rfl (ko _) ?_))
        exact bodyPost_ret (v:=.tuple #[.agg In.zero.cells,.int .i64 2]) (aA (rs:=[.cell 2 49,.tmp 3]) rfl (by simp) (.cell w.heap.size 49 In.zero.cells (0,0) _ rfl (setRow_heap _ w.heap.size _ _ 49 _ HZ5.out) Tryz.underlying49 rfl bE (.tmp .nil))) rfl ⟨rfl,below_setRow HB6.out (Nat.le_refl _) _⟩
      ·obtain rfl:k2=fs.size:=by omega
       have hnx:=fun ty=>dW (P:=Tryz.prog) wr (wo.heap.size+1+1) fs fs.size ty hi hlt2
       rw[A_] at hf
       obtain rfl:F=some x:=hf
       have HX:=ak_ hx
       have HZ7:=ak_ (HZ.out.below hbw)
       have HB7:=ak_ (af HB.out hbw)
       have HG7:=ak_ (HG2.out.below hbw)
       have hpq:=HPq.out
       clear hx hi hbw HS2 hCw hk2 hlt2
       have HCk:=ak_ (qc x 200)
       by_cases hq0:cP x 200=0
       ·rw[hq0] at HCk
        replace hpq:(r1,r2)=if cP x 200=0 then (x,0) else (In.zero,2):=hpq
        rw[if_pos hq0] at hpq
        obtain⟨rfl,rfl⟩:=Prod.mk.injEq .. ▸ hpq
        clear hq0 hpq
        go_wp2_with (first
         | ((with_reducible refine aj (N:=53) rfl ?_);refine wpList_load_row rfl 49 _ rfl (wo.heap.size+1) rfl 49 r1.cells (0,0) _ HX.out Tryz.underlying49 rfl bE ?_)
         | (go_at_call 77;refine(HCk.out _ HG7.out).mono ?_;rintro e w5 ⟨rfl,hb5⟩;have HX8:=ak_ (HX.out.below hb5);have HZ8:=ak_ (HZ7.out.below hb5);have HB8:=ak_ (af HB7.out hb5);clear hb5)
         | ((with_reducible refine aj (N:=56) rfl ?_);refine wpList_load_row rfl 49 _ rfl (wo.heap.size+1) rfl 49 r1.cells (0,0) _ HX8.out Tryz.underlying49 rfl bE ?_)
         | ((with_reducible refine ao (t:=49) (p:=2) rfl ?_);refine wpList_store_row rfl 49 _ _ rfl w.heap.size r1.cells rfl rfl 49 In.zero.cells HZ8.out bE rfl (ko _) ?_))
        exact bodyPost_ret (v:=.tuple #[.agg r1.cells,.int .i64 0]) (aA (rs:=[.cell 2 49,.tmp 3]) rfl (by simp) (.cell w.heap.size 49 r1.cells (0,0) _ rfl (setRow_heap _ w.heap.size _ _ 49 _ HZ8.out) Tryz.underlying49 rfl bE (.tmp .nil))) rfl ⟨rfl,below_setRow HB8.out (Nat.le_refl _) _⟩
       ·obtain⟨q,hq⟩:=nm_ (cP x 200)
        rw[←hq] at HCk hq0
        replace hpq:(r1,r2)=if cP x 200=0 then (x,0) else (In.zero,2):=hpq
        rw[if_neg (by rw[←hq];exact hq0)] at hpq
        obtain⟨rfl,rfl⟩:=Prod.mk.injEq .. ▸ hpq
        have hq1:(q != 0)=true:=bne_iff_ne.mpr hq0
        clear hq hq0 hpq
        go_wp2_with (first
         | ((with_reducible refine aj (N:=53) rfl ?_);refine wpList_load_row rfl 49 _ rfl (wo.heap.size+1) rfl 49 x.cells (0,0) _ HX.out Tryz.underlying49 rfl bE ?_)
         | (go_at_call 77;refine(HCk.out _ HG7.out).mono ?_;rintro e w5 ⟨rfl,hb5⟩;have HZ8:=ak_ (HZ7.out.below hb5);have HB8:=ak_ (af HB7.out hb5);clear hb5)
         | ((with_reducible refine ao (t:=49) (p:=2) rfl ?_);refine wpList_store_row rfl 49 _ _ rfl w.heap.size In.zero.cells rfl rfl 49 In.zero.cells HZ8.out bE rfl (ko _) ?_))
        exact bodyPost_ret (v:=.tuple #[.agg In.zero.cells,.int .i64 2]) (aA (rs:=[.cell 2 49,.tmp 3]) rfl (by simp) (.cell w.heap.size 49 In.zero.cells (0,0) _ rfl (setRow_heap _ w.heap.size _ _ 49 _ HZ8.out) Tryz.underlying49 rfl bE (.tmp .nil))) rfl ⟨rfl,below_setRow HB8.out (Nat.le_refl _) _⟩
    ·have hz1:((fs.size:Int) != (ws.length:Int) - 1)=true:=bne_iff_ne.mpr (by omega)
     have HPp:aa ((r1,r2)=mC ws (a_.drop (k+1)) (k+1)):=⟨by rw[HP.out,if_neg (fun h=>hz h.2)]⟩
     clear hz
     go_upto_region 5 with fail
     go_quiet (fail)
     go_wp2
     go_roundw
     case rel=>exact⟨k+1,by go_num,⟨⟨hlt,⟨aI HBB3.out _,HZ3.out.below (aI (Below.refl _ _) _),Kd.C_below HC3.out (aI (Below.refl _ _) _),HG3.out.below (aI (Below.refl _ _) _),aI HB3.out _,Nat.le_refl _⟩,HPp.out⟩⟩⟩
     case measure=>simp[intOf];omega
   ·have hq3:=CO hq
    have HPp:aa ((r1,r2)=mC ws (a_.drop (k+1)) (k+1)):=⟨by rw[HP.out,if_neg (fun h=>hq h.1)]⟩
    go_upto_region 5 with fail
    go_quiet (fail)
    go_wp2
    go_roundw
    case rel=>exact⟨k+1,by go_num,⟨⟨hlt,⟨aI HBB3.out _,HZ3.out.below (aI (Below.refl _ _) _),Kd.C_below HC3.out (aI (Below.refl _ _) _),HG3.out.below (aI (Below.refl _ _) _),aI HB3.out _,Nat.le_refl _⟩,HPp.out⟩⟩⟩
    case measure=>simp[intOf];omega
  ·obtain rfl:k=18:=by omega
   obtain⟨rfl,rfl⟩:=Prod.mk.injEq .. ▸ (show (r1,r2)=(In.zero,2) from hp)
   clear hz hC hG hb hb1 HS hp
   go_wp2_with (first
    | ((with_reducible refine ao (t:=49) (p:=2) rfl ?_);refine wpList_store_row rfl 49 _ _ rfl w.heap.size In.zero.cells rfl rfl 49 In.zero.cells HZ.out bE rfl (ko _) ?_))
   exact bodyPost_ret (v:=.tuple #[.agg In.zero.cells,.int .i64 2]) (aA (rs:=[.cell 2 49,.tmp 3]) rfl (by simp) (.cell w.heap.size 49 In.zero.cells (0,0) _ rfl (setRow_heap _ w.heap.size _ _ 49 _ HZ.out) Tryz.underlying49 rfl bE (.tmp .nil))) rfl ⟨rfl,below_setRow HB.out (Nat.le_refl _) _⟩
structure Fr (S:Nat→Prop) (w w':World):Prop where
 os:w'.os=w.os
 tape:w'.tape=w.tape
 output:w'.output=w.output
 size:w.heap.size≤w'.heap.size
 block:∀ k,k < w.heap.size→¬ S k→w'.heap[k]?=w.heap[k]?
theorem Fr.refl (S:Nat→Prop) (w:World):Fr S w w:=⟨rfl,rfl,rfl,Nat.le_refl _,fun _ _ _=>rfl⟩
theorem Fr.trans {S:Nat→Prop} {a b c:World} (h:Fr S a b) (k:Fr S b c):Fr S a c:=
 ⟨k.os.trans h.os,k.tape.trans h.tape,k.output.trans h.output,Nat.le_trans h.size k.size,fun i hi hs=>(k.block i (Nat.lt_of_lt_of_le hi h.size) hs).trans (h.block i hi hs)⟩
theorem Fr.of_below {S:Nat→Prop} {a b:World} (h:Below a.heap.size a b):Fr S a b:=⟨h.os,h.tape,h.output,h.size,fun i hi _=>h.block i hi⟩
theorem Fr.below {S:Nat→Prop} {B:Nat} {w a b:World} (hb:Below B w a) (h:Fr S a b) (hs:∀ k,k < B→¬ S k) (hB:B≤a.heap.size):Below B w b:=
 ⟨h.os.trans hb.os,h.tape.trans hb.tape,h.output.trans hb.output,Nat.le_trans hb.size h.size,fun k hk=>(h.block k (by omega) (hs k hk)).trans (hb.block k hk)⟩
theorem Fr.grown {S:Nat→Prop} {a b:World} {row:Option Nat} (h:a.grownBy b row) (hs:∀ k,some k=row→S k):Fr S a b:=
 ⟨h.os,h.tape,h.output,h.size,fun k hk hn=>h.block k hk (fun e=>hn (hs k e))⟩
theorem Fr.row {S:Nat→Prop} {a:World} {g:Nat} (hs:S g) (cs:Array Value):Fr S a (a.setRow g cs):=by
 have hb:=below_setRow (Below.refl g a) (Nat.le_refl g) cs
 exact⟨hb.os,hb.tape,hb.output,hb.size,fun k _ hn=>setRow_other a g k cs (fun e=>hn (e ▸ hs))⟩
theorem Fr.cell {S:Nat→Prop} {a:World} {p:Addr} (hs:S p.block) (v:Value):Fr S a (a.setCell p v):=by
 have hb:=(Below.refl p.block a).setCell (Nat.le_refl _) v
 exact⟨hb.os,hb.tape,hb.output,hb.size,fun k _ hn=>Below.heap_setCell a p v k (fun e=>hn (e ▸ hs))⟩
theorem Fr.mono {S T:Nat→Prop} {a b:World} (h:Fr S a b) (hst:∀ k,k < a.heap.size→S k→T k):Fr T a b:=⟨h.os,h.tape,h.output,h.size,fun k hk hn=>h.block k hk (fun e=>hn (hst k hk e))⟩
theorem Fr.drew {S:Nat→Prop} {a:World}:Fr S a a.drew:=⟨rfl,rfl,rfl,Nat.le_refl _,fun _ _ _=>rfl⟩
theorem jc {P:Program} {ops:Array Oper} {aF:Act} {o:Oper} {W:World} {G:Value→World→Prop} {α:Type} (d:Kd α) (base:Nat) (hgd:Region.wanted o (yielded ops aF.tmps)=true) (s x:Operand) (t e:TypeId) (z:Value) (bytes:Nat)
  (ho:o.op=.call { callee:=.builtin .append,args:=#[s,x],argTypes:=#[t,t] })
  (ht:P.underlying t=some (.slice e)) (hinfo:(P.info? e).map (fun i=>(i.zero,i.size,i.bytes))=some (some z,d.sz,bytes)) (hz:z.cells.size=d.sz) (hs0:0 < d.sz) (hb0:0 < bytes)
  (v:Value) (xs:List α) (p:α) (cs:List Value) (ok okp:Nat→Prop) (hs:aF.eval s=v) (ad:Addr) (hx:aF.eval x=.slice (some ad) 1 1) (hbox:∀ j u,cs[j]?=some u→W.cell? (ad.add j)=some u)
  (hp:d.M W base okp p cs) (hokp:∀ k,okp k→ok k∧some k≠v.ownBlock) (hfresh:∀ k,W.heap.size≤k→ok k)
  (HO:d.R e W base ok v xs) (hbase:base≤W.heap.size) (hl:(xs.length+1) * bytes≤140737488355328)
  (h:∀ v1 w1,d.R e w1 base ok v1 (xs++[p])→W.grownBy w1 v.ownBlock→(v1.ownBlock=v.ownBlock∨∃ b,v1.ownBlock=some b∧W.heap.size≤b)→G v1 w1):fK P ops aF o W G:=by
 obtain⟨i0,hi,hzz⟩:=Option.map_eq_some_iff.1 hinfo
 simp only[Prod.mk.injEq] at hzz
 obtain⟨hz0,hz1,hz2⟩:=hzz
 have hlen:xs.length+1≤140737488355328:=Nat.le_trans (Nat.le_mul_of_pos_right _ hb0) hl
 obtain⟨h0,inner,hown,hr⟩:=HO
 obtain⟨v1,w1,hrun,hown1,hg,_,hat⟩:=run_append_own_at (P:=P) W base t o.type e i0 z d.sz bytes ht hi hz0 hz1 hz2 hz hs0 v xs.length inner hown ad 1 1 cs (by rw[d.K_len (d.K_of_M hp)];simp)
  hbox (d.K_one (d.K_of_M hp)) (by simp only[maxLen];omega) hl hbase
 have hat':v1.ownBlock=v.ownBlock∨∃ b,v1.ownBlock=some b∧W.heap.size≤b:=by
  rcases hat with hat | hat
  ·exact .inl hat
  ·exact .inr ⟨_,hat,Nat.le_refl _⟩
 refine .inr ⟨hgd,?_⟩
 have hexec:(execOp aF.eval o).run P W=.ok (.value v1) w1:=by
  unfold execOp
  simp only[ho,resolve,invoke,builtin,Sem.run_bind,Sem.run_pure,Result.andThen_ok,List.map_toArray,List.map_cons,List.map_nil,hs,hx,hrun]
 rw[hexec]
 exact h v1 w1 (Kd.R_appended h0 hr hp hokp hfresh hown1 hg hat') hg hat'
theorem t9 (s:ByteArray) (a b:Nat) (hb:b≤s.size) (i:Nat) (hi:i < (s.extract a b).size):bt (s.extract a b) (i:Int)=bt s ((a+i:Nat):Int):=by
 have hsz:(s.extract a b).size=b - a:=by rw[ByteArray.size_extract];omega
 have h1:=nk (s.extract a b) (i:Int) hi
 have h2:=nk s ((a+i:Nat):Int) (by simp only[Int.toNat_natCast];omega)
 simp only[Int.toNat_natCast] at h1 h2
 rw[←h1,←h2,ByteArray.getElem_extract]
theorem Asc.extract {s:ByteArray} (h:Asc s) (a b:Nat) (hb:b≤s.size):Asc (s.extract a b):=by
 intro i hi
 rw[t9 s a b hb i hi]
 have hsz:(s.extract a b).size=b - a:=by rw[ByteArray.size_extract];omega
 exact h _ (by omega)
theorem jR {P:Program} (W:World) (a:Addr) (v u:Value) (h1:v.oneCell'=true) (hc:W.cell? a=some u) (hf:W.frozen? a=false):(store a v).run P W=.ok () (W.setCell a v):=by
 rw[run_store P W a v _ h1,hc]
 simp[hf]
theorem aV {P:Program} {ops:Array Oper} {aF:Act} {o:Oper} {W:World} {G:Value→World→Prop} (hgd:Region.wanted o (yielded ops aF.tmps)=true) (ty:TypeId) (x y:Operand) (ho:o.op=.store ty x y)
  (g i:Nat) (v u:Value) (hx:aF.eval x=.pointer (some ⟨g,i,none⟩)) (hy:aF.eval y=v) (hv:v.cells=#[v]) (h1:v.oneCell'=true) (hsz:(sizeOf ty).run P W=.ok 1 W) (hc:W.cell? ⟨g,i,none⟩=some u) (hf:W.frozen? ⟨g,i,none⟩=false)
  (hG:G undef (W.setCell ⟨g,i,none⟩ v)):fK P ops aF o W G:=by
 refine .inr ⟨hgd,?_⟩
 have hr:=jR (P:=P) W ⟨g,i,none⟩ v u h1 hc hf
 have ha:(⟨g,i,none⟩:Addr).add 0=⟨g,i,none⟩:=rfl
 have hexec:(execOp aF.eval o).run P W=.ok .skip (W.setCell ⟨g,i,none⟩ v):=by
  unfold execOp
  simp[ho,hx,hy,Instr.storeAt,Instr.sureAddr,storeVar,hsz,hv,storeCells,ha,hr,Sem.run_bind,Result.andThen]
 rw[hexec]
 exact hG
theorem aw {P:Program} {ops:Array Oper} {aF:Act} {o:Oper} {W:World} {G:Value→World→Prop} (hgd:Region.wanted o (yielded ops aF.tmps)=true) (ty:TypeId) (x:Operand) (ho:o.op=.load ty x)
  (a:Addr) (u:Value) (hx:aF.eval x=.pointer (some a)) (hagg:(isAgg ty).run P W=.ok false W) (hc:W.cell? a=some u) (hG:G u W):fK P ops aF o W G:=by
 refine .inr ⟨hgd,?_⟩
 have hexec:(execOp aF.eval o).run P W=.ok (.value u) W:=by
  unfold execOp
  simp[ho,hx,Instr.loadAt,Instr.sureAddr,loadVar,hagg,Sem.run_bind,Result.andThen,hc]
 rw[hexec]
 exact hG
end Go.Proofs.YtlinbehijfcelaaGreatDoor.Top
