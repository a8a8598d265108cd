/- Walks of the program, and what it computes, told plainly. No condition. (USR USS UTA UTB VA VB VC TH) -/
import Derived.Test.YtlinbehijfcelaaGreatDoorPK
set_option linter.unusedVariables false
set_option linter.unusedSimpArgs false
set_option linter.unusedSectionVars false
set_option maxHeartbeats 8000000
set_option maxRecDepth 100000
namespace Go.Proofs.YtlinbehijfcelaaGreatDoor.Top
open Go.RowKit Go.Proofs.YtlinbehijfcelaaGreatDoorW.PrintWords Go.Proofs.YtlinbehijfcelaaGreatDoorW.PrintLast
theorem kI (xs ys:List Src) (AX AY:Option Addr) (cX cY:Nat) (w:World) (hX:Kd.C eB w AX xs.length xs) (hY:Kd.C eB w AY ys.length ys) (hx:xs.length≤5000) (hy:ys.length≤5000) :
  Calls Tryz.prog 58 #[.slice AX xs.length cX,.slice AY ys.length cY] w fun e w'=>e=.returned (.bool (decide (xs=ys)))∧Below w.heap.size w w':=by
 obtain⟨r,hr⟩:=nm_ (decide (xs=ys))
 rw[←hr]
 have HR:=ak_ hr
 have HX:=ak_ hX
 have HY:=ak_ hY
 have hx':(xs.length:Int)≤5000:=by omega
 have hy':(ys.length:Int)≤5000:=by omega
 clear hr hX hY
 by_cases hl:xs.length=ys.length
 ·have hlb:((xs.length:Int) != (ys.length:Int))=false:=by simp[hl]
  have HL:=ak_ hl
  clear hl
  go_enter Tryz.func58,Tryz.ntmps58
  go_upto_region 4 with fail
  go_loopw [14] (fun j wr=>∃ (k:Nat),j=.int .i64 k∧aa (k≤xs.length∧Below w.heap.size w wr∧xs.take k=ys.take k)) (fun j _=>xs.length - (intOf j).toNat)
  case atStart=>exact⟨0,rfl,⟨⟨Nat.zero_le _,Below.refl _ _,rfl⟩⟩⟩
  case round=>
   obtain⟨k,rfl,HK⟩:=hrel
   obtain⟨hk,hb,ht⟩:=HK.out
   by_cases hkl:k < xs.length
   ·have hkl':(k:Int) < (xs.length:Int):=by omega
    have hky:k < ys.length:=by have:=HL.out;omega
    have hky':(k:Int) < (ys.length:Int):=by omega
    obtain⟨x,hxx⟩:∃ x,xs[k]?=some x:=⟨_,List.getElem?_eq_getElem hkl⟩
    obtain⟨y,hyy⟩:∃ y,ys[k]?=some y:=⟨_,List.getElem?_eq_getElem hky⟩
    obtain⟨adX,csX,eX,hKX,hldX⟩:=aW (P:=Tryz.prog) HX.out hb k hkl x hxx 135 Tryz.underlying135 rfl aG
    subst eX
    obtain rfl:csX=[.int .i64 x.kind,.int .i64 x.n]:=hKX
    have HLX:=ak_ (show (loadVar 135 (adX.add (k * 2))).run Tryz.prog wr=.ok (.agg #[.int .i64 x.kind,.int .i64 x.n]) wr from hldX)
    have htx:xs.take (k+1)=xs.take k++[x]:=by rw[List.take_succ_eq_append_getElem hkl,(List.getElem?_eq_some_iff.1 hxx).2]
    have hty:ys.take (k+1)=ys.take k++[y]:=by rw[List.take_succ_eq_append_getElem hky,(List.getElem?_eq_some_iff.1 hyy).2]
    have HT:=ak_ (And.intro ht (And.intro htx hty))
    have HB:=ak_ hb
    have HYY:=ak_ hyy
    have HKl:=ak_ hkl
    have HKy:=ak_ hky
    clear hk hb ht hkl hky hxx hyy hldX htx hty HK
    go_upto_region 6 with (first
     | ((with_reducible refine aj (N:=18) rfl ?_);refine au rfl 135 _ rfl (adX.add (k * 2)) rfl _ HLX.out ?_))
    obtain⟨w1,hw1⟩:∃ w1,w1=wr.alloc (.cells #[.int .i64 x.kind,.int .i64 x.n] 135):=⟨_,rfl⟩
    have hb1:Below w.heap.size w w1:=by rw[hw1];exact ae HB.out _
    have h6:w1.heap[wr.heap.size]?=some (.cells #[.int .i64 x.kind,.int .i64 x.n] 135 (0,0)):=by rw[hw1];exact heap_alloc_last wr _
    refine ar hw1.symm ?_
    obtain⟨g6,hg6⟩:=mn_ wr.heap.size
    rw[hg6] at h6 ⊢
    obtain⟨adY,csY,eY,hKY,hldY⟩:=aW (P:=Tryz.prog) HY.out (az hb1) k HKy.out y HYY.out 135 Tryz.underlying135 rfl aG
    subst eY
    obtain rfl:csY=[.int .i64 y.kind,.int .i64 y.n]:=hKY
    have HLY:=ak_ (show (loadVar 135 (adY.add (k * 2))).run Tryz.prog w1.drew=.ok (.agg #[.int .i64 y.kind,.int .i64 y.n]) w1.drew from hldY)
    have HB1:=ak_ hb1
    have H6:=ak_ h6
    clear hw1 hb1 h6 hg6 hldY
    refine wp_region_still_lit (by kernel_rfl) (by kernel_rfl) ?_
    refine bu rfl (al rfl rfl (aT H6.out Tryz.underlying135 rfl aG)) ?_
    still_step
    still_step
    still_step
    refine bu rfl (al rfl rfl HLY.out) ?_
    refine bu rfl (o7 rfl rfl rfl _) ?_
    refine wpStill_nil ?_
    change (Exit.then _ _) _ _ w1.drew
    obtain⟨w2,hw2⟩:=nm_ w1.drew
    rw[←hw2]
    have HB2:=ak_ (show Below w.heap.size w w2 by rw[hw2];exact az HB1.out)
    clear hw2
    by_cases hxy:x=y
    ·have hd:(!decide (x=y))=false:=by simp[hxy]
     have HXY:=ak_ hxy
     clear hxy
     rw[hd]
     go_wp2
     go_roundw
     case rel=>exact⟨k+1,by go_num,⟨⟨HKl.out,HB2.out,by rw[HT.out.2.1,HT.out.2.2,HT.out.1,HXY.out]⟩⟩⟩
     case measure=>have:=HKl.out;simp[intOf];omega
    ·have hd:(!decide (x=y))=true:=by simp[hxy]
     have HXY:=ak_ hxy
     clear hxy
     rw[hd]
     obtain rfl:r=false:=by
      rw[HR.out]
      refine decide_eq_false (fun e=>HXY.out ?_)
      have h1:=HT.out.2.1
      rw[e,HT.out.2.2] at h1
      have h2:=List.append_inj_right' h1 rfl
      simpa using h2.symm
     go_wp2
     go_ret
     exact⟨rfl,HB2.out⟩
   ·obtain rfl:k=xs.length:=by omega
    obtain rfl:r=true:=by
     rw[HR.out]
     refine decide_eq_true ?_
     rw[List.take_length,HL.out,List.take_length] at ht
     exact ht
    have HB:=ak_ hb
    clear hk hb ht hkl HK
    go_wp2
    go_ret
    exact⟨rfl,HB.out⟩
 ·have hlb:((xs.length:Int) != (ys.length:Int))=true:=by simp;omega
  obtain rfl:r=false:=by
   rw[HR.out]
   exact decide_eq_false (fun e=>hl (congrArg List.length e))
  clear hl
  go_enter Tryz.func58,Tryz.ntmps58
  go_wp2
  go_ret
  exact⟨rfl,Below.refl _ _⟩
deriving instance DecidableEq for fe
deriving instance DecidableEq for kE
deriving instance DecidableEq for kR
theorem sB {w:World} {x:fe} {c:List Value} (h:ek.K w x c):∃ vA vO,c=[.int .i64 x.op,.int .i64 x.n,vA,vO]∧Rd eB w vA x.args∧Rd (Kd.int .i64) w vO x.outs:=by
 obtain⟨c0,c1,rfl,h0,c2,c3,rfl,h2,c4,c5,rfl,⟨A1,n1,rfl,h4,h5⟩,A2,n2,rfl,h6,h7⟩:=h
 have h0':c0=[.int .i64 x.op]:=h0
 have h2':c2=[.int .i64 x.n]:=h2
 subst h0'
 subst h2'
 exact⟨_,_,rfl,⟨A1,n1,rfl,h4,h5⟩,⟨A2,n2,rfl,h6,h7⟩⟩
theorem uU {w:World} {x:kE} {c:List Value} (h:ie.K w x c):∃ vF,c=[.int .i64 x.at_,vF]∧Rd eB w vF x.from_:=by
 obtain⟨c0,c1,rfl,h0,A,n,rfl,h2,h3⟩:=h
 have h0':c0=[.int .i64 x.at_]:=h0
 subst h0'
 exact⟨_,rfl,A,n,rfl,h2,h3⟩
structure FSm (a:kR):Prop where
 n:a.nodes.length≤5000
 v:a.vals.length≤5000
 na:∀ x∈a.nodes,x.args.length≤5000∧x.outs.length≤5000
 vf:∀ x∈a.vals,x.from_.length≤5000
structure uB (w W:World) (a b:kR) (vNa vVa vNb vVb:Value):Prop where
 bw:Below w.heap.size w W
 h2:W.heap[w.heap.size]?=some (.cells #[.int .i64 a.entry,vNa,vVa] 33 (0,0))
 h3:W.heap[w.heap.size+1]?=some (.cells #[.int .i64 b.entry,vNb,vVb] 33 (0,0))
theorem uB.below {w W W1:World} {a b:kR} {vNa vVa vNb vVb:Value} (h:uB w W a b vNa vVa vNb vVb) (hb:Below W.heap.size W W1):uB w W1 a b vNa vVa vNb vVb:=⟨af h.bw hb,ag h.h2 hb,ag h.h3 hb⟩
theorem kh {α:Type} {xs ys:List α} {k:Nat} {x:α} (h:xs.take k=ys.take k) (hx:xs[k]?=some x) (hy:ys[k]?=some x):xs.take (k+1)=ys.take (k+1):=by
 obtain⟨h1,e1⟩:=List.getElem?_eq_some_iff.1 hx
 obtain⟨h2,e2⟩:=List.getElem?_eq_some_iff.1 hy
 rw[List.take_succ_eq_append_getElem h1,List.take_succ_eq_append_getElem h2,h,e1,e2]
theorem fe.same {x y:fe} (h1:x.op=y.op) (h2:x.n=y.n) (h3:x.args=y.args) (h4:x.outs=y.outs):x=y:=by
 cases x
 cases y
 simp only at h1 h2 h3 h4
 subst h1 h2 h3 h4
 rfl
theorem kE.same {x y:kE} (h1:x.at_=y.at_) (h2:x.from_=y.from_):x=y:=by
 cases x
 cases y
 simp only at h1 h2
 subst h1 h2
 rfl
theorem kR.same {x y:kR} (h1:x.entry=y.entry) (h2:x.nodes=y.nodes) (h3:x.vals=y.vals):x=y:=by
 cases x
 cases y
 simp only at h1 h2 h3
 subst h1 h2 h3
 rfl
theorem lw {α:Type} {xs ys:List α} (h:xs.take xs.length=ys.take xs.length) (hl:xs.length=ys.length):xs=ys:=by
 rw[List.take_length,hl,List.take_length] at h
 exact h
theorem tO (a b:kR) (vNa vVa vNb vVb:Value) (w:World) (hNa:Rd ek w vNa a.nodes) (hVa:Rd ie w vVa a.vals) (hNb:Rd ek w vNb b.nodes) (hVb:Rd ie w vVb b.vals) (ha:FSm a) (hb:FSm b) :
  Calls Tryz.prog 35 #[.agg #[.int .i64 a.entry,vNa,vVa],.agg #[.int .i64 b.entry,vNb,vVb]] w fun e w'=>e=.returned (.bool (decide (a=b)))∧Below w.heap.size w w':=by
 obtain⟨r,hr⟩:=nm_ (decide (a=b))
 rw[←hr]
 obtain⟨ANa,cNa,rfl,lNa,CNa⟩:=hNa
 obtain⟨AVa,cVa,rfl,lVa,CVa⟩:=hVa
 obtain⟨ANb,cNb,rfl,lNb,CNb⟩:=hNb
 obtain⟨AVb,cVb,rfl,lVb,CVb⟩:=hVb
 have HR:=ak_ hr
 have HNa:=ak_ CNa
 have HVa:=ak_ CVa
 have HNb:=ak_ CNb
 have HVb:=ak_ CVb
 have HA:=ak_ ha
 have HB:=ak_ hb
 have n1:(a.nodes.length:Int)≤5000:=by have:=ha.n;omega
 have n2:(b.nodes.length:Int)≤5000:=by have:=hb.n;omega
 have v1:(a.vals.length:Int)≤5000:=by have:=ha.v;omega
 have v2:(b.vals.length:Int)≤5000:=by have:=hb.v;omega
 clear hr CNa CVa CNb CVb ha hb lNa lVa lNb lVb
 go_enter Tryz.func35,Tryz.ntmps35
 go_upto_region 1 with fail
 obtain⟨w1,hw1⟩:∃ w1,w1=(w.alloc (.cells #[.int .i64 a.entry,.slice ANa a.nodes.length cNa,.slice AVa a.vals.length cVa] 33)).alloc (.cells #[.int .i64 b.entry,.slice ANb b.nodes.length cNb,.slice AVb b.vals.length cVb] 33):=⟨_,rfl⟩
 have hs1:uB w w1 a b (.slice ANa a.nodes.length cNa) (.slice AVa a.vals.length cVa) (.slice ANb b.nodes.length cNb) (.slice AVb b.vals.length cVb):=by
  have h:=heap_alloc_last (w.alloc (.cells #[.int .i64 a.entry,.slice ANa a.nodes.length cNa,.slice AVa a.vals.length cVa] 33)) (.cells #[.int .i64 b.entry,.slice ANb b.nodes.length cNb,.slice AVb b.vals.length cVb] 33 (0,0))
  rw[hw1]
  exact⟨ae (ae (Below.refl _ _) _) _,aK (heap_alloc_last w _) _,by simpa using h⟩
 refine ar hw1.symm ?_
 obtain⟨g3,hg3⟩:=mn_ (w.heap.size+1)
 have HG3:=ak_ hg3
 have c20:=(show w1.cell? ⟨w.heap.size,0,none⟩=some (.int .i64 a.entry) by rw[ah hs1.h2];rfl)
 have c21:=(show w1.cell? ⟨w.heap.size,1,none⟩=some (.slice ANa a.nodes.length cNa) by rw[ah hs1.h2];rfl)
 have c22:=(show w1.cell? ⟨w.heap.size,2,none⟩=some (.slice AVa a.vals.length cVa) by rw[ah hs1.h2];rfl)
 have c30:=(show w1.cell? ⟨g3,0,none⟩=some (.int .i64 b.entry) by rw[←hg3,ah hs1.h3];rfl)
 have c31:=(show w1.cell? ⟨g3,1,none⟩=some (.slice ANb b.nodes.length cNb) by rw[←hg3,ah hs1.h3];rfl)
 have c32:=(show w1.cell? ⟨g3,2,none⟩=some (.slice AVb b.vals.length cVb) by rw[←hg3,ah hs1.h3];rfl)
 have HS1:=ak_ hs1
 rw[hg3]
 clear hw1 hs1 hg3
 by_cases e1:a.entry=b.entry
 ·have q1:(a.entry != b.entry)=false:=by simp[e1]
  have E1:=ak_ e1
  clear e1
  by_cases e2:a.nodes.length=b.nodes.length
  ·have q2:((a.nodes.length:Int) != (b.nodes.length:Int))=false:=by simp[e2]
   have E2:=ak_ e2
   clear e2
   by_cases e3:a.vals.length=b.vals.length
   ·have q3:((a.vals.length:Int) != (b.vals.length:Int))=false:=by simp[e3]
    have E3:=ak_ e3
    clear e3
    go_upto_region 4 with fail
    go_loopw [38] (fun j wr=>∃ (k:Nat),j=.int .i64 k∧aa (k≤a.nodes.length∧uB w wr a b (.slice ANa a.nodes.length cNa) (.slice AVa a.vals.length cVa) (.slice ANb b.nodes.length cNb) (.slice AVb b.vals.length cVb)∧a.nodes.take k=b.nodes.take k)) (fun j _=>a.nodes.length - (intOf j).toNat)
    case atStart=>exact⟨0,rfl,⟨⟨Nat.zero_le _,HS1.out,rfl⟩⟩⟩
    case round=>
     obtain⟨k,rfl,HK⟩:=hrel
     obtain⟨hk,hs,ht⟩:=HK.out
     clear c20 c21 c22 c30 c31 c32
     by_cases hkl:k < a.nodes.length
     ·have hkl':(k:Int) < (a.nodes.length:Int):=by omega
      have hky:k < b.nodes.length:=by have:=E2.out;omega
      have hky':(k:Int) < (b.nodes.length:Int):=by omega
      obtain⟨x,hxx⟩:∃ x,a.nodes[k]?=some x:=⟨_,List.getElem?_eq_getElem hkl⟩
      obtain⟨y,hyy⟩:∃ y,b.nodes[k]?=some y:=⟨_,List.getElem?_eq_getElem hky⟩
      obtain⟨adX,csX,eX,hKX,hldX⟩:=aW (P:=Tryz.prog) HNa.out hs.bw k hkl x hxx 145 Tryz.underlying145 rfl oR
      subst eX
      obtain⟨_,_,rfl,⟨AXa,cXa,rfl,_,hXa⟩,AXo,cXo,rfl,_,hXo⟩:=sB hKX
      have hx1:=HA.out.na x (List.mem_of_getElem? hxx)
      have hy1:=HB.out.na y (List.mem_of_getElem? hyy)
      have HLX:=ak_ (show (loadVar 145 (adX.add (k * 4))).run Tryz.prog wr=.ok (.agg #[.int .i64 x.op,.int .i64 x.n,.slice AXa x.args.length cXa,.slice AXo x.outs.length cXo]) wr from hldX)
      have HXa:=ak_ hXa
      have HXo:=ak_ hXo
      have HXY:=ak_ (And.intro hxx hyy)
      have HSz:=ak_ (And.intro hx1 hy1)
      have o1:(x.outs.length:Int)≤5000:=by omega
      have o2:(y.outs.length:Int)≤5000:=by omega
      have HT:=ak_ ht
      have HS:=ak_ hs
      have HKl:=ak_ hkl
      have HKy:=ak_ hky
      clear hk hs ht hkl hky hxx hyy hldX hKX hXa hXo hx1 hy1 HK
      go_upto_region 6 with (first
       | ((with_reducible refine aj (N:=42) rfl ?_);refine au rfl 145 _ rfl (adX.add (k * 4)) rfl _ HLX.out ?_))
      obtain⟨w2,hw2⟩:∃ w2,w2=wr.alloc (.cells #[.int .i64 x.op,.int .i64 x.n,.slice AXa x.args.length cXa,.slice AXo x.outs.length cXo] 145):=⟨_,rfl⟩
      have hs2:=HS.out.below (ae (Below.refl wr.heap.size wr) (.cells #[.int .i64 x.op,.int .i64 x.n,.slice AXa x.args.length cXa,.slice AXo x.outs.length cXo] 145))
      rw[←hw2] at hs2
      have h6:w2.heap[wr.heap.size]?=some (.cells #[.int .i64 x.op,.int .i64 x.n,.slice AXa x.args.length cXa,.slice AXo x.outs.length cXo] 145 (0,0)):=by rw[hw2];exact heap_alloc_last wr _
      refine ar hw2.symm ?_
      obtain⟨g6,hg6⟩:=mn_ wr.heap.size
      rw[hg6] at h6 ⊢
      have c31:=(show w2.cell? ⟨g3,1,none⟩=some (.slice ANb b.nodes.length cNb) by have h:=hs2.h3;rw[HG3.out] at h;rw[ah h];rfl)
      obtain⟨adY,csY,eY,hKY,hldY⟩:=aW (P:=Tryz.prog) HNb.out hs2.bw k HKy.out y HXY.out.2 145 Tryz.underlying145 rfl oR
      subst eY
      obtain⟨_,_,rfl,⟨AYa,cYa,rfl,_,hYa⟩,AYo,cYo,rfl,_,hYo⟩:=sB hKY
      have HLY:=ak_ (show (loadVar 145 (adY.add (k * 4))).run Tryz.prog w2=.ok (.agg #[.int .i64 y.op,.int .i64 y.n,.slice AYa y.args.length cYa,.slice AYo y.outs.length cYo]) w2 from hldY)
      have HYa:=ak_ hYa
      have HYo:=ak_ hYo
      have HS2:=ak_ hs2
      have H6:=ak_ h6
      clear hw2 hs2 h6 hg6 hldY hKY hYa hYo
      go_upto_region 7 with (first
       | ((with_reducible refine aj (N:=47) rfl ?_);refine au rfl 145 _ rfl (adY.add (k * 4)) rfl _ HLY.out ?_))
      obtain⟨w3,hw3⟩:∃ w3,w3=w2.alloc (.cells #[.int .i64 y.op,.int .i64 y.n,.slice AYa y.args.length cYa,.slice AYo y.outs.length cYo] 145):=⟨_,rfl⟩
      have hb3:Below w2.heap.size w2 w3:=by rw[hw3];exact ae (Below.refl _ _) _
      have h7:w3.heap[w2.heap.size]?=some (.cells #[.int .i64 y.op,.int .i64 y.n,.slice AYa y.args.length cYa,.slice AYo y.outs.length cYo] 145 (0,0)):=by rw[hw3];exact heap_alloc_last w2 _
      refine ar hw3.symm ?_
      obtain⟨g7,hg7⟩:=mn_ w2.heap.size
      rw[hg7] at h7 ⊢
      have hs3:=HS2.out.below hb3
      have h63:=ag H6.out hb3
      have d60:=(show w3.cell? ⟨g6,0,none⟩=some (.int .i64 x.op) by rw[ah h63];rfl)
      have d61:=(show w3.cell? ⟨g6,1,none⟩=some (.int .i64 x.n) by rw[ah h63];rfl)
      have d62:=(show w3.cell? ⟨g6,2,none⟩=some (.slice AXa x.args.length cXa) by rw[ah h63];rfl)
      have d70:=(show w3.cell? ⟨g7,0,none⟩=some (.int .i64 y.op) by rw[ah h7];rfl)
      have d71:=(show w3.cell? ⟨g7,1,none⟩=some (.int .i64 y.n) by rw[ah h7];rfl)
      have d72:=(show w3.cell? ⟨g7,2,none⟩=some (.slice AYa y.args.length cYa) by rw[ah h7];rfl)
      have hS:=kI x.args y.args AXa AYa cXa cYa w3 (Kd.C_below HXa.out hs3.bw) (Kd.C_below HYa.out hs3.bw) HSz.out.1.1 HSz.out.2.1
      have HS3:=ak_ hs3
      have H63:=ak_ h63
      have H73:=ak_ h7
      have HNe:=ak_ (show x≠y→a≠b from fun hn e=>hn (by
       have h:=HXY.out.1
       rw[e,HXY.out.2] at h
       exact(Option.some.inj h).symm))
      clear hw3 hb3 h7 hg7 hs3 h63 c31 HS2 H6
      by_cases p1:x.op=y.op
      ·have q4:(x.op != y.op)=false:=by simp[p1]
       have P1:=ak_ p1
       clear p1
       by_cases p2:x.n=y.n
       ·have q5:(x.n != y.n)=false:=by simp[p2]
        have P2:=ak_ p2
        clear p2
        by_cases p3:x.args=y.args
        ·have P3:=ak_ p3
         rw[decide_eq_true p3] at hS
         have HSr:=ak_ hS
         clear p3 hS
         have d63:=(show w3.cell? ⟨g6,3,none⟩=some (.slice AXo x.outs.length cXo) by rw[ah H63.out];rfl)
         have d73:=(show w3.cell? ⟨g7,3,none⟩=some (.slice AYo y.outs.length cYo) by rw[ah H73.out];rfl)
         by_cases p4:x.outs.length=y.outs.length
         ·have q6:((x.outs.length:Int) != (y.outs.length:Int))=false:=by simp[p4]
          have P4:=ak_ p4
          clear p4
          go_upto_region 10 with (first
           | (go_at_call 58;refine HSr.out.mono ?_;rintro e w4 ⟨rfl,hb⟩;have HS4:=ak_ (HS3.out.below hb);have H74:=ak_ (ag H73.out hb);have d63:=ak hb d63;have d73:=ak hb d73;clear hb))
          go_loopw [80] (fun j wr=>∃ (i:Nat),j=.int .i64 i∧aa (i≤x.outs.length∧uB w wr a b (.slice (some adX) a.nodes.length cNa) (.slice AVa a.vals.length cVa) (.slice (some adY) b.nodes.length cNb) (.slice AVb b.vals.length cVb)∧wr.heap[g7]?=some (.cells #[.int .i64 y.op,.int .i64 y.n,.slice AYa y.args.length cYa,.slice AYo y.outs.length cYo] 145 (0,0))∧x.outs.take i=y.outs.take i)) (fun j _=>x.outs.length - (intOf j).toNat)
          case atStart=>exact⟨0,rfl,⟨⟨Nat.zero_le _,HS4.out,H74.out,rfl⟩⟩⟩
          case round=>
           obtain⟨i,rfl,HI⟩:=hrel
           obtain⟨hi,hs,h7,ht⟩:=HI.out
           clear d60 d61 d62 d63 d70 d71 d72 d73
           by_cases hil:i < x.outs.length
           ·have hil':(i:Int) < (x.outs.length:Int):=by omega
            have hiy:i < y.outs.length:=by have:=P4.out;omega
            have hiy':(i:Int) < (y.outs.length:Int):=by omega
            obtain⟨u,hu⟩:∃ u,x.outs[i]?=some u:=⟨_,List.getElem?_eq_getElem hil⟩
            obtain⟨v,hv⟩:∃ v,y.outs[i]?=some v:=⟨_,List.getElem?_eq_getElem hiy⟩
            obtain⟨adU,csU,eU,_,hKU,hcU⟩:=bX (Kd.C_below HXo.out hs.bw) i hil _ hu
            obtain⟨adV,csV,eV,_,hKV,hcV⟩:=bX (Kd.C_below HYo.out hs.bw) i hiy _ hv
            subst eU
            subst eV
            obtain rfl:csU=[.int .i64 u]:=hKU
            obtain rfl:csV=[.int .i64 v]:=hKV
            have vU:=hcU 0 _ rfl
            have vV:=hcV 0 _ rfl
            rw[show i * (Kd.int .i64).sz+0=i from Nat.mul_one i] at vU vV
            have d73:=(show wr.cell? ⟨g7,3,none⟩=some (.slice (some adV) y.outs.length cYo) by rw[ah h7];rfl)
            have HS5:=ak_ hs
            have H75:=ak_ h7
            have HIl:=ak_ hil
            by_cases huv:u=v
            ·have q7:(u != v)=false:=by simp[huv]
             have HTn:=ak_ (kh ht hu (by rw[huv];exact hv))
             clear hi hs h7 ht hil hiy hu hv hcU hcV huv HI
             go_wp2
             go_roundw
             case rel=>exact⟨i+1,by go_num,⟨⟨HIl.out,HS5.out,H75.out,HTn.out⟩⟩⟩
             case measure=>have:=HIl.out;simp[intOf];omega
            ·have q7:(u != v)=true:=by simp[huv]
             obtain rfl:r=false:=by
              rw[HR.out]
              refine decide_eq_false (HNe.out (fun e=>huv ?_))
              rw[e,hv] at hu
              exact(Option.some.inj hu).symm
             clear hi hs h7 ht hil hiy hu hv hcU hcV huv HI
             go_wp2
             go_ret
             exact⟨rfl,HS5.out.bw⟩
           ·obtain rfl:i=x.outs.length:=by omega
            have hxy:=fe.same P1.out P2.out P3.out (lw ht P4.out)
            have HTn:=ak_ (kh HT.out HXY.out.1 (by rw[hxy];exact HXY.out.2))
            have HS5:=ak_ hs
            clear hi hs h7 ht hil hxy HI
            go_wp2
            go_roundw
            case rel=>exact⟨k+1,by go_num,⟨⟨HKl.out,HS5.out,HTn.out⟩⟩⟩
            case measure=>have:=HKl.out;simp[intOf];omega
         ·have q6:((x.outs.length:Int) != (y.outs.length:Int))=true:=by simp;omega
          obtain rfl:r=false:=by
           rw[HR.out]
           exact decide_eq_false (HNe.out (fun e=>p4 (by rw[e])))
          clear p4
          go_wp2_with (first
           | (go_at_call 58;refine HSr.out.mono ?_;rintro e w4 ⟨rfl,hb⟩;have HS4:=ak_ (HS3.out.below hb);have d63:=ak hb d63;have d73:=ak hb d73;clear hb))
          go_ret
          exact⟨rfl,HS4.out.bw⟩
        ·rw[decide_eq_false p3] at hS
         have HSr:=ak_ hS
         obtain rfl:r=false:=by
          rw[HR.out]
          exact decide_eq_false (HNe.out (fun e=>p3 (by rw[e])))
         clear p3 hS
         go_wp2_with (first
          | (go_at_call 58;refine HSr.out.mono ?_;rintro e w4 ⟨rfl,hb⟩;have HS4:=ak_ (HS3.out.below hb);clear hb))
         go_ret
         exact⟨rfl,HS4.out.bw⟩
       ·have q5:(x.n != y.n)=true:=by simp[p2]
        obtain rfl:r=false:=by
         rw[HR.out]
         exact decide_eq_false (HNe.out (fun e=>p2 (by rw[e])))
        clear p2 hS
        go_wp2
        go_ret
        exact⟨rfl,HS3.out.bw⟩
      ·have q4:(x.op != y.op)=true:=by simp[p1]
       obtain rfl:r=false:=by
        rw[HR.out]
        exact decide_eq_false (HNe.out (fun e=>p1 (by rw[e])))
       clear p1 hS
       go_wp2
       go_ret
       exact⟨rfl,HS3.out.bw⟩
     ·obtain rfl:k=a.nodes.length:=by omega
      have HNq:=ak_ (lw ht E2.out)
      have HS:=ak_ hs
      have c22:=(show wr.cell? ⟨w.heap.size,2,none⟩=some (.slice AVa a.vals.length cVa) by rw[ah hs.h2];rfl)
      clear hk hs ht hkl HK
      go_upto_region 17 with fail
      go_loopw [97] (fun j wr=>∃ (k:Nat),j=.int .i64 k∧aa (k≤a.vals.length∧uB w wr a b (.slice ANa a.nodes.length cNa) (.slice AVa a.vals.length cVa) (.slice ANb b.nodes.length cNb) (.slice AVb b.vals.length cVb)∧a.vals.take k=b.vals.take k)) (fun j _=>a.vals.length - (intOf j).toNat)
      case atStart=>exact⟨0,rfl,⟨⟨Nat.zero_le _,HS.out,rfl⟩⟩⟩
      case round=>
       obtain⟨k,rfl,HK⟩:=hrel
       obtain⟨hk,hs,ht⟩:=HK.out
       clear c22
       by_cases hkl:k < a.vals.length
       ·have hkl':(k:Int) < (a.vals.length:Int):=by omega
        have hky:k < b.vals.length:=by have:=E3.out;omega
        have hky':(k:Int) < (b.vals.length:Int):=by omega
        obtain⟨x,hxx⟩:∃ x,a.vals[k]?=some x:=⟨_,List.getElem?_eq_getElem hkl⟩
        obtain⟨y,hyy⟩:∃ y,b.vals[k]?=some y:=⟨_,List.getElem?_eq_getElem hky⟩
        obtain⟨adX,csX,eX,hKX,hldX⟩:=aW (P:=Tryz.prog) HVa.out hs.bw k hkl x hxx 148 Tryz.underlying148 rfl sE
        subst eX
        obtain⟨_,rfl,AXa,cXa,rfl,_,hXa⟩:=uU hKX
        have hx1:=HA.out.vf x (List.mem_of_getElem? hxx)
        have hy1:=HB.out.vf y (List.mem_of_getElem? hyy)
        have HLX:=ak_ (show (loadVar 148 (adX.add (k * 2))).run Tryz.prog wr=.ok (.agg #[.int .i64 x.at_,.slice AXa x.from_.length cXa]) wr from hldX)
        have HXa:=ak_ hXa
        have HXY:=ak_ (And.intro hxx hyy)
        have HSz:=ak_ (And.intro hx1 hy1)
        have HT:=ak_ ht
        have HS:=ak_ hs
        have HKl:=ak_ hkl
        have HKy:=ak_ hky
        clear hk hs ht hkl hky hxx hyy hldX hKX hXa hx1 hy1 HK
        go_upto_region 19 with (first
         | ((with_reducible refine aj (N:=101) rfl ?_);refine au rfl 148 _ rfl (adX.add (k * 2)) rfl _ HLX.out ?_))
        obtain⟨w2,hw2⟩:∃ w2,w2=wr.alloc (.cells #[.int .i64 x.at_,.slice AXa x.from_.length cXa] 148):=⟨_,rfl⟩
        have hs2:=HS.out.below (ae (Below.refl wr.heap.size wr) (.cells #[.int .i64 x.at_,.slice AXa x.from_.length cXa] 148))
        rw[←hw2] at hs2
        have h11:w2.heap[wr.heap.size]?=some (.cells #[.int .i64 x.at_,.slice AXa x.from_.length cXa] 148 (0,0)):=by rw[hw2];exact heap_alloc_last wr _
        refine ar hw2.symm ?_
        obtain⟨g11,hg11⟩:=mn_ wr.heap.size
        rw[hg11] at h11 ⊢
        have e0:=(show w2.cell? ⟨g11,0,none⟩=some (.int .i64 x.at_) by rw[ah h11];rfl)
        have e1:=(show w2.cell? ⟨g11,1,none⟩=some (.slice AXa x.from_.length cXa) by rw[ah h11];rfl)
        have c32:=(show w2.cell? ⟨g3,2,none⟩=some (.slice AVb b.vals.length cVb) by have h:=hs2.h3;rw[HG3.out] at h;rw[ah h];rfl)
        obtain⟨adY,csY,eY,_,hKY,hcY⟩:=bX (Kd.C_below HVb.out hs2.bw) k HKy.out y HXY.out.2
        subst eY
        obtain⟨_,rfl,AYa,cYa,rfl,_,hYa⟩:=uU hKY
        have y0:=hcY 0 _ rfl
        have y1:=hcY 1 _ rfl
        rw[show k * ie.sz+0=k * 2 from rfl] at y0
        rw[show k * ie.sz+1=k * 2+1 from rfl,←fU,mi _ _ (by decide)] at y1
        have hS:=kI x.from_ y.from_ AXa AYa cXa cYa w2.drew (Kd.C_below HXa.out (az hs2.bw)) (Kd.C_below hYa (az (Below.refl _ _))) HSz.out.1 HSz.out.2
        obtain⟨W0,hW0⟩:=nm_ w2.drew
        have hb0:Below w2.heap.size w2 W0:=by rw[hW0];exact az (Below.refl _ _)
        rw[←hW0] at hS
        have HW0:=ak_ hW0
        have HS2:=ak_ (hs2.below hb0)
        have E0:=ak_ (ak hb0 e0)
        have E1':=ak_ (ak hb0 e1)
        have C32:=ak_ (ak hb0 c32)
        have Y0:=ak_ (ak hb0 y0)
        have Y1:=ak_ (ak hb0 y1)
        obtain⟨d,hd⟩:=nm_ (decide (x.from_=y.from_))
        rw[←hd] at hS
        have HD:=ak_ hd
        have HSr:=ak_ hS
        have HNe:=ak_ (show x≠y→a≠b from fun hn e=>hn (by
         have h:=HXY.out.1
         rw[e,HXY.out.2] at h
         exact(Option.some.inj h).symm))
        clear hw2 hs2 h11 hg11 hcY hYa HS hd hS hW0 hb0 e0 e1 c32 y0 y1
        by_cases p1:x.at_=y.at_
        ·have q4:(x.at_ != y.at_)=false:=by simp[p1]
         have P1:=ak_ p1
         clear p1
         refine bh (σ:=World) [18] (fun _=>[(102,.pointer (some ⟨g11,0,none⟩)),(103,.int .i64 x.at_),(104,.pointer (some ⟨g3,2,none⟩)),(105,.slice (some adY) b.vals.length cVb),(106,.int .i64 (k:Int)),(107,.pointer (some (adY.add (k * 2)))),(108,.pointer (some (adY.add (k * 2)))),(109,.int .i64 y.at_),(110,.bool false),(111,.bool false),(112,.pointer (some ⟨g11,1,none⟩)),(113,.slice AXa x.from_.length cXa),(114,.pointer (some ⟨g3,2,none⟩)),(115,.slice (some adY) b.vals.length cVb),(116,.int .i64 (k:Int)),(117,.pointer (some (adY.add (k * 2)))),(118,.pointer (some ⟨(adY.add (k * 2)).block,(adY.add (k * 2)).off+1,none⟩)),(119,.slice AYa y.from_.length cYa),(120,.bool d),(121,.bool (!d)),(122,.bool (!d))])
          (fun bs s W=>(bs=[false]∧W=W0)∨(bs=[true]∧W=s∧Below W0.heap.size W0 s)) W0 (by kernel_rfl) (by kernel_rfl) (by kernel_rfl) (fun _=>by kernel_rfl) ?_
         intro aF haF
         simp only[bd,Act.put,List.setIfInBounds_toArray,List.set_cons_succ,List.set_cons_zero] at haF
         subst haF
         refine⟨?_,?_,.inl ⟨rfl,HW0.out.symm⟩,?_⟩
         ·intro j o ho hct s W bs hlen hok hI
          have hW:Below W0.heap.size W0 W:=by
           rcases hI with ⟨_,rfl⟩ | ⟨_,rfl,hp⟩
           ·exact Below.refl _ _
           ·exact hp
          rcases j with _ | _ | _ | _ | _ | _ | _ | _ | _ | _ | _ | _ | _ | _ | _ | _ | _ | _ | _ | _ | _ | j
          all_goals first | exact absurd hct (by decide) | (obtain rfl:=Option.some.inj ho) | exact absurd (Array.getElem?_eq_some_iff.1 ho).1 (by simp)
          ·exact ab rfl (by go_simp) ⟨rfl,hI⟩
          ·exact aw rfl 3 _ rfl ⟨g11,0,none⟩ _ rfl (by kernel_rfl) (ak hW E0.out) ⟨rfl,hI⟩
          ·exact ab rfl (by go_simp) ⟨rfl,hI⟩
          ·exact aw rfl 31 _ rfl ⟨g3,2,none⟩ _ rfl (by kernel_rfl) (ak hW C32.out) ⟨rfl,hI⟩
          ·exact ab rfl (by go_simp) ⟨rfl,hI⟩
          ·exact ab rfl (by go_simp) ⟨rfl,hI⟩
          ·exact ab rfl (by go_simp) ⟨rfl,hI⟩
          ·exact aw rfl 3 _ rfl (adY.add (k * 2)) _ rfl (by kernel_rfl) (ak hW Y0.out) ⟨rfl,hI⟩
          ·exact ab rfl (by go_simp) ⟨rfl,hI⟩
          ·exact ab rfl (by go_simp) ⟨rfl,hI⟩
          ·exact ab rfl (by go_simp) ⟨rfl,hI⟩
          ·exact aw rfl 143 _ rfl ⟨g11,1,none⟩ _ rfl (by kernel_rfl) (ak hW E1'.out) ⟨rfl,hI⟩
          ·exact ab rfl (by go_simp) ⟨rfl,hI⟩
          ·exact aw rfl 31 _ rfl ⟨g3,2,none⟩ _ rfl (by kernel_rfl) (ak hW C32.out) ⟨rfl,hI⟩
          ·exact ab rfl (by go_simp) ⟨rfl,hI⟩
          ·exact ab rfl (by go_simp) ⟨rfl,hI⟩
          ·exact ab rfl (by go_simp) ⟨rfl,hI⟩
          ·exact aw rfl 143 _ rfl ⟨(adY.add (k * 2)).block,(adY.add (k * 2)).off+1,none⟩ _ rfl (by kernel_rfl) (ak hW Y1.out) ⟨rfl,hI⟩
          ·exact ab rfl (by go_simp) ⟨rfl,hI⟩
          ·exact ab rfl (by go_simp) ⟨rfl,hI⟩
         ·intro k1 j o hk ho s W bs hlen hok hI
          rcases k1 with _ | k1
          all_goals first | (obtain rfl:=Option.some.inj hk;obtain rfl:=Option.some.inj ho) | exact absurd hk (by simp)
          rcases hI with ⟨rfl,rfl⟩ | ⟨rfl,rfl,hp⟩
          ·refine aN rfl Tryz.func58 (by kernel_rfl) rfl #[.slice AXa x.from_.length cXa,.slice AYa y.from_.length cYa] rfl rfl (HSr.out.mono fun e w' h=>?_)
           exact⟨_,h.1,w',[],rfl,rfl,by kernel_rfl,.inr ⟨rfl,rfl,h.2⟩⟩
          ·exact a6 hok (by kernel_rfl)
         ·intro s W hI
          have hW:Below W0.heap.size W0 W:=by
           rcases hI with ⟨_,rfl⟩ | ⟨_,rfl,hp⟩
           ·exact Below.refl _ _
           ·exact hp
          have HS7:=ak_ (HS2.out.below hW)
          clear hW hI
          dsimp only
          cases d with
          | true=>
           have HTn:=ak_ (kh HT.out HXY.out.1 (by rw[kE.same P1.out (of_decide_eq_true HD.out.symm)];exact HXY.out.2))
           go_wp2
           go_roundw
           case rel=>exact⟨k+1,by go_num,⟨⟨HKl.out,HS7.out,HTn.out⟩⟩⟩
           case measure=>have:=HKl.out;simp[intOf];omega
          | false=>
           obtain rfl:r=false:=by
            rw[HR.out]
            exact decide_eq_false (HNe.out (fun e=>of_decide_eq_false HD.out.symm (by rw[e])))
           go_wp2
           go_ret
           exact⟨rfl,HS7.out.bw⟩
        ·have q4:(x.at_ != y.at_)=true:=by simp[p1]
         obtain rfl:r=false:=by
          rw[HR.out]
          exact decide_eq_false (HNe.out (fun e=>p1 (by rw[e])))
         clear p1
         refine bh (σ:=World) [18] (fun _=>[(102,.pointer (some ⟨g11,0,none⟩)),(103,.int .i64 x.at_),(104,.pointer (some ⟨g3,2,none⟩)),(105,.slice (some adY) b.vals.length cVb),(106,.int .i64 (k:Int)),(107,.pointer (some (adY.add (k * 2)))),(108,.pointer (some (adY.add (k * 2)))),(109,.int .i64 y.at_),(110,.bool true),(111,.bool true),(112,undef),(113,undef),(114,undef),(115,undef),(116,undef),(117,undef),(118,undef),(119,undef),(120,undef),(121,undef),(122,.bool true)])
          (fun bs s W=>(bs=[false]∧W=W0)∨(bs=[true]∧W=s∧Below W0.heap.size W0 s)) W0 (by kernel_rfl) (by kernel_rfl) (by kernel_rfl) (fun _=>by kernel_rfl) ?_
         intro aF haF
         simp only[bd,Act.put,List.setIfInBounds_toArray,List.set_cons_succ,List.set_cons_zero] at haF
         subst haF
         refine⟨?_,?_,.inl ⟨rfl,HW0.out.symm⟩,?_⟩
         ·intro j o ho hct s W bs hlen hok hI
          have hW:Below W0.heap.size W0 W:=by
           rcases hI with ⟨_,rfl⟩ | ⟨_,rfl,hp⟩
           ·exact Below.refl _ _
           ·exact hp
          rcases j with _ | _ | _ | _ | _ | _ | _ | _ | _ | _ | _ | _ | _ | _ | _ | _ | _ | _ | _ | _ | _ | j
          all_goals first | exact absurd hct (by decide) | (obtain rfl:=Option.some.inj ho) | exact absurd (Array.getElem?_eq_some_iff.1 ho).1 (by simp)
          ·exact ab rfl (by go_simp) ⟨rfl,hI⟩
          ·exact aw rfl 3 _ rfl ⟨g11,0,none⟩ _ rfl (by kernel_rfl) (ak hW E0.out) ⟨rfl,hI⟩
          ·exact ab rfl (by go_simp) ⟨rfl,hI⟩
          ·exact aw rfl 31 _ rfl ⟨g3,2,none⟩ _ rfl (by kernel_rfl) (ak hW C32.out) ⟨rfl,hI⟩
          ·exact ab rfl (by go_simp) ⟨rfl,hI⟩
          ·exact ab rfl (by go_simp) ⟨rfl,hI⟩
          ·exact ab rfl (by go_simp) ⟨rfl,hI⟩
          ·exact aw rfl 3 _ rfl (adY.add (k * 2)) _ rfl (by kernel_rfl) (ak hW Y0.out) ⟨rfl,hI⟩
          ·exact ab rfl (by go_simp) ⟨rfl,hI⟩
          ·exact ab rfl (by go_simp) ⟨rfl,hI⟩
          ·exact .inl ⟨rfl,rfl,hI⟩
          ·exact .inl ⟨rfl,rfl,hI⟩
          ·exact .inl ⟨rfl,rfl,hI⟩
          ·exact .inl ⟨rfl,rfl,hI⟩
          ·exact .inl ⟨rfl,rfl,hI⟩
          ·exact .inl ⟨rfl,rfl,hI⟩
          ·exact .inl ⟨rfl,rfl,hI⟩
          ·exact .inl ⟨rfl,rfl,hI⟩
          ·exact .inl ⟨rfl,rfl,hI⟩
          ·exact ab rfl (by go_simp) ⟨rfl,hI⟩
         ·intro k1 j o hk ho s W bs hlen hok hI
          rcases k1 with _ | k1
          all_goals first | (obtain rfl:=Option.some.inj hk;obtain rfl:=Option.some.inj ho) | exact absurd hk (by simp)
          rcases hI with ⟨rfl,rfl⟩ | ⟨rfl,rfl,hp⟩
          ·exact .inl ⟨rfl,_,[],rfl,rfl,by kernel_rfl,.inr ⟨rfl,rfl,Below.refl _ _⟩⟩
          ·exact a6 hok (by kernel_rfl)
         ·intro s W hI
          have hW:Below W0.heap.size W0 W:=by
           rcases hI with ⟨_,rfl⟩ | ⟨_,rfl,hp⟩
           ·exact Below.refl _ _
           ·exact hp
          have HS7:=ak_ (HS2.out.below hW)
          clear hW hI
          dsimp only
          go_wp2
          go_ret
          exact⟨rfl,HS7.out.bw⟩
       ·obtain rfl:k=a.vals.length:=by omega
        obtain rfl:r=true:=by
         rw[HR.out]
         exact decide_eq_true (kR.same E1.out HNq.out (lw ht E3.out))
        have HS:=ak_ hs
        clear hk hs ht hkl HK
        go_wp2
        go_ret
        exact⟨rfl,HS.out.bw⟩
   ·have q3:((a.vals.length:Int) != (b.vals.length:Int))=true:=by simp;omega
    obtain rfl:r=false:=by
     rw[HR.out]
     exact decide_eq_false (fun e=>e3 (by rw[e]))
    clear e3
    go_wp2
    go_ret
    exact⟨rfl,HS1.out.bw⟩
  ·have q2:((a.nodes.length:Int) != (b.nodes.length:Int))=true:=by simp;omega
   obtain rfl:r=false:=by
    rw[HR.out]
    exact decide_eq_false (fun e=>e2 (by rw[e]))
   clear e2
   go_wp2
   go_ret
   exact⟨rfl,HS1.out.bw⟩
 ·have q1:(a.entry != b.entry)=true:=by simp[e1]
  obtain rfl:r=false:=by
   rw[HR.out]
   exact decide_eq_false (fun e=>e1 (by rw[e]))
  clear e1
  go_wp2
  go_ret
  exact⟨rfl,HS1.out.bw⟩
def lp {α:Type} (d:Kd α):Prop:=∀ (w w1:World) (x:α) (cs:List Value),d.K w x cs→d.K w1 x cs
theorem aC:lp (Kd.int .i64):=fun _ _ _ _ h=>h
theorem vw {α:Type} {d:Kd α} (hd:lp d) {W W':World} {A:Option Addr} {n:Nat} {xs:List α} (h:Kd.C d W A n xs) (hb:∀ ad,A=some ad→W'.heap[ad.block]?=W.heap[ad.block]?):Kd.C d W' A n xs:=by
 obtain⟨h1,h2,h3⟩:=h
 refine⟨h1,h2,fun h0=>?_⟩
 obtain⟨ad,ea,h4⟩:=h3 h0
 refine⟨ad,ea,fun j p hp=>?_⟩
 obtain⟨cs,k1,k2,k3⟩:=h4 j p hp
 refine⟨cs,k1,hd _ _ _ _ k2,fun i u hu=>?_⟩
 rw[←k3 i u hu]
 have hbl:(ad.add (j * d.sz+i)).block=ad.block:=by unfold Addr.add;split <;> rfl
 unfold World.cell?
 rw[hbl,hb ad ea]
theorem RdT.fr {α:Type} {d:Kd α} (hd:lp d) {t:Nat} {W W':World} {v:Value} {xs:List α} {S:Nat→Prop} (h:RdT d t W v xs) (hf:Fr S W W') (hs:∀ k cs fr,S k→W.heap[k]?≠some (.cells cs t fr)):RdT d t W' v xs:=by
 obtain⟨A,c,h1,h2,h3,h4⟩:=h
 have key:∀ ad,A=some ad→W'.heap[ad.block]?=W.heap[ad.block]?:=fun ad e=>by
  obtain⟨cs,fr,h5⟩:=h4 ad e
  exact hf.block _ (Array.getElem?_eq_some_iff.1 h5).1 (fun hk=>hs _ cs fr hk h5)
 refine⟨A,c,h1,h2,vw hd h3 key,fun ad e=>?_⟩
 obtain⟨cs,fr,h5⟩:=h4 ad e
 exact⟨cs,fr,(key ad e).trans h5⟩
theorem k_ (A:Option Addr) (n c:Nat) (w:World) (hn:n≤5000):Calls Tryz.prog 89 #[.slice A n c] w fun e w'=>e=.returned (.bool (decide ((n:Int)≤16)))∧w'=w:=by
 go_enter Tryz.func89,Tryz.ntmps89
 go_wp2
 go_ret
 exact⟨rfl,rfl⟩
def hIn (n:Nat) (a:Int):Bool:=decide (n≤16∧0≤a∧a < (n:Int))
theorem uY (A:Option Addr) (n c:Nat) (a:Int) (w:World) (hn:n≤5000):Calls Tryz.prog 119 #[.slice A n c,.int .i64 a] w fun e w'=>e=.returned (.bool (hIn n a))∧w'=w:=by
 have hR:=k_ A n c w hn
 by_cases h1:n≤16
 ·rw[decide_eq_true (by omega:(n:Int)≤16)] at hR
  have HRt:=ak_ hR
  by_cases h2:0≤a
  ·have q2:decide (0≤a)=true:=decide_eq_true h2
   by_cases h3:a < (n:Int)
   ·have q3:decide (a < (n:Int))=true:=decide_eq_true h3
    have hh:hIn n a=true:=decide_eq_true ⟨h1,h2,h3⟩
    rw[hh]
    clear hR h1
    go_enter Tryz.func119,Tryz.ntmps119
    go_wp2_with (first | (go_at_call 89;refine HRt.out.mono ?_;rintro e w' ⟨rfl,rfl⟩))
    go_ret
    exact⟨rfl,rfl⟩
   ·have hh:hIn n a=false:=decide_eq_false (fun e=>h3 e.2.2)
    have q3:decide (a < (n:Int))=false:=decide_eq_false h3
    rw[hh]
    clear hR h1
    go_enter Tryz.func119,Tryz.ntmps119
    go_wp2_with (first | (go_at_call 89;refine HRt.out.mono ?_;rintro e w' ⟨rfl,rfl⟩))
    go_ret
    exact⟨rfl,rfl⟩
  ·have hh:hIn n a=false:=decide_eq_false (fun e=>h2 e.2.1)
   rw[hh]
   clear hR h1
   go_enter Tryz.func119,Tryz.ntmps119
   go_wp2_with (first | (go_at_call 89;refine HRt.out.mono ?_;rintro e w' ⟨rfl,rfl⟩))
   go_ret
   exact⟨rfl,rfl⟩
 ·rw[decide_eq_false (by omega:¬ (n:Int)≤16)] at hR
  have HRt:=ak_ hR
  have hh:hIn n a=false:=decide_eq_false (fun e=>h1 e.1)
  rw[hh]
  clear hR h1
  go_enter Tryz.func119,Tryz.ntmps119
  go_wp2_with (first | (go_at_call 89;refine HRt.out.mono ?_;rintro e w' ⟨rfl,rfl⟩))
  go_ret
  exact⟨rfl,rfl⟩
def qg (H:List Int) (a:Int):Int × Int:=if hIn H.length a=true then (H.getD a.toNat 0,0) else (0,4)
theorem yv (H:List Int) (A:Option Addr) (c:Nat) (a:Int) (w:World) (hn:H.length≤5000) (hC:Kd.C (Kd.int .i64) w A H.length H):Calls Tryz.prog 108 #[.slice A H.length c,.int .i64 a] w fun e w'=>e=.returned (.tuple #[.int .i64 (qg H a).1,.int .i64 (qg H a).2])∧w'=w:=by
 have hI:=uY A H.length c a w hn
 have HC:=ak_ hC
 clear hC
 unfold qg
 cases hh:hIn H.length a with
 | true=>
  rw[hh] at hI
  have HIn:=ak_ hI
  obtain⟨h1,h2,h3⟩:=of_decide_eq_true hh
  obtain⟨k,rfl⟩:∃ k:Nat,a=k:=⟨a.toNat,by omega⟩
  have hk:k < H.length:=by omega
  obtain⟨u,hu⟩:∃ u,H[k]?=some u:=⟨_,List.getElem?_eq_getElem hk⟩
  obtain⟨adU,csU,eU,_,hKU,hcU⟩:=bX HC.out k hk _ hu
  subst eU
  obtain rfl:csU=[.int .i64 u]:=hKU
  have vU:=hcU 0 _ rfl
  rw[show k * (Kd.int .i64).sz+0=k from Nat.mul_one k] at vU
  rw[if_pos rfl,List.getD_eq_getElem?_getD,Int.toNat_natCast,hu,Option.getD_some]
  clear hI hh h1 hu hcU hk
  go_enter Tryz.func108,Tryz.ntmps108
  go_wp2_with (first | (go_at_call 119;refine HIn.out.mono ?_;rintro e w' ⟨rfl,rfl⟩))
  exact bodyPost_ret (v:=.tuple #[.int .i64 u,.int .i64 0]) (aA (rs:=[.tmp 4,.tmp 5]) rfl (by simp) (.tmp (.tmp .nil))) rfl ⟨rfl,rfl⟩
 | false=>
  rw[hh] at hI
  have HIn:=ak_ hI
  rw[if_neg Bool.false_ne_true]
  clear hI hh
  go_enter Tryz.func108,Tryz.ntmps108
  go_wp2_with (first | (go_at_call 119;refine HIn.out.mono ?_;rintro e w' ⟨rfl,rfl⟩))
  exact bodyPost_ret (v:=.tuple #[.int .i64 0,.int .i64 4]) (aA (rs:=[.tmp 4,.tmp 5]) rfl (by simp) (.tmp (.tmp .nil))) rfl ⟨rfl,rfl⟩
theorem j9:(Tryz.prog.info? 2).map (fun i=>(i.zero,i.size,i.bytes))=some (some (.int .i64 0),1,8):=by kernel_rfl
theorem Da:(Tryz.prog.info? 2).map (·.size)=some 1:=by kernel_rfl
theorem CX (n:Nat) (hn:n≤5000) (W:World):(Instr.makeSlice 35 (.int .i64 (n:Int)) (.int .i64 (n:Int))).run Tryz.prog W=.ok (.slice (some ⟨W.heap.size,0,none⟩) n n) (W.alloc (.cells (List.replicate n (.int .i64 0)).toArray 2)):=by
 obtain⟨i,hi,hz,hs,hb⟩:=info_parts j9
 have h:=run_make (P:=Tryz.prog) W 35 2 i (.int .i64 0) Tryz.underlying35 hi hz .i64 .i64 n n (by omega) (Int.le_refl _) (by rw[hb];omega) (by omega)
 rw[h,hs,Int.toNat_natCast,Nat.mul_one,←gh]
 rfl
theorem C9 {W:World} {g:Nat} {L:List Int} (h:W.heap[g]?=some (.cells (L.map (Value.int .i64)).toArray 2 (0,0))) (hl:L.length≤9223372036854775807):Kd.C (Kd.int .i64) W (some ⟨g,0,none⟩) L.length L:=by
 refine⟨rfl,hl,fun _=>⟨_,rfl,fun j p hp=>⟨[.int .i64 p],rfl,rfl,fun i u hu=>?_⟩⟩⟩
 have hi:i=0:=by
  have:=(List.getElem?_eq_some_iff.1 hu).1
  simp at this
  exact this
 subst hi
 obtain rfl:=Option.some.inj hu
 rw[uz,ap h,show j * (Kd.int .i64).sz+0=j from Nat.mul_one j,List.getElem?_map,hp]
 rfl
def jr (H:List Int) (a v:Int):List Int × Int:=if hIn H.length a=true then (H.set a.toNat v,0) else ([],4)
theorem tU (H:List Int) (A:Option Addr) (c:Nat) (a v:Int) (w:World) (hn:H.length≤5000) (hC:Kd.C (Kd.int .i64) w A H.length H) :
  Calls Tryz.prog 109 #[.slice A H.length c,.int .i64 a,.int .i64 v] w fun e w'=>∃ vH,e=.returned (.tuple #[vH,.int .i64 (jr H a v).2])∧RdT (Kd.int .i64) 2 w' vH (jr H a v).1∧Below w.heap.size w w':=by
 have hI:=uY A H.length c a w hn
 have HC:=ak_ hC
 clear hC
 unfold jr
 cases hh:hIn H.length a with
 | true=>
  rw[hh] at hI
  have HIn:=ak_ hI
  obtain⟨h1,h2,h3⟩:=of_decide_eq_true hh
  obtain⟨k,rfl⟩:∃ k:Nat,a=k:=⟨a.toNat,by omega⟩
  have hk:k < H.length:=by omega
  have hkl':(k:Int) < (H.length:Int):=by omega
  have hn':(H.length:Int)≤5000:=by omega
  rw[if_pos rfl,Int.toNat_natCast]
  have HK:=ak_ hk
  have HMk:=ak_ (fun W=>CX H.length hn W)
  clear hI hh h1 hk
  go_enter Tryz.func109,Tryz.ntmps109
  go_upto_region 4 with (first
   | (go_at_call 119;refine HIn.out.mono ?_;rintro e w' ⟨rfl,rfl⟩)
   | ((with_reducible refine aj (N:=15) rfl ?_);refine fM rfl 35 _ _ rfl _ _ _ rfl rfl (HMk.out _) ?_))
  obtain⟨w1,hw1⟩:∃ w1,w1=w'.alloc (.cells (Array.replicate H.length (.int .i64 0)) 2):=⟨_,rfl⟩
  have hb1:Below w'.heap.size w' w1:=by rw[hw1];exact ae (Below.refl _ _) _
  have h1:w1.heap[w'.heap.size]?=some (.cells (List.replicate H.length (Value.int .i64 0)).toArray 2 (0,0)):=by
   rw[hw1,List.toArray_replicate]
   exact heap_alloc_last w' _
  refine ar hw1.symm ?_
  obtain⟨g,hg⟩:=mn_ w'.heap.size
  have HG:=ak_ hg
  rw[hg] at h1 ⊢
  obtain⟨x0,hx0⟩:∃ x0,H[k]?=some x0:=⟨_,List.getElem?_eq_getElem HK.out⟩
  obtain⟨adH,_,eH,_,_,_⟩:=bX HC.out k HK.out x0 hx0
  subst eH
  have hsrc:∀ j v,(H.map (Value.int .i64))[j]?=some v→w1.cell? (adH.add j)=some v:=by
   intro j v hj
   rw[List.getElem?_map] at hj
   cases hx:H[j]? with
   | none=>rw[hx] at hj;simp at hj
   | some x=>
    rw[hx] at hj
    obtain⟨ad,cs,e,_,hK,hc⟩:=bX HC.out j (List.getElem?_eq_some_iff.1 hx).1 x hx
    injection e with e
    subst e
    obtain rfl:cs=[.int .i64 x]:=hK
    have:=hc 0 _ rfl
    rw[show j * (Kd.int .i64).sz+0=j from Nat.mul_one j] at this
    simp at hj
    subst hj
    exact ak hb1 this
  have HB1:=ak_ hb1
  have H1:=ak_ h1
  have HSr:=ak_ hsrc
  have HX0:=ak_ hx0
  clear hw1 hb1 h1 hg hsrc hx0
  go_upto_region 5 with (first
   | ((with_reducible refine a7 (b:=.copy) (xs:=#[.tmp 16,.tmp 17]) rfl ?_);refine wpList_copy_splice rfl (.tmp 16) (.tmp 17) 35 35 rfl 2 Tryz.underlying35 Da (some ⟨g,0,none⟩) (some adH) H.length H.length H.length c rfl rfl g 0 (List.replicate H.length (Value.int .i64 0)) 2 H1.out (H.map (Value.int .i64)) (by simp) (fun _=>⟨rfl,adH,rfl,HSr.out⟩) (by simp) (by simp[Value.oneCell']) w'.heap.size w' HB1.out (by have:=HG.out;omega) ?_;intro w2 h2 hb2))
  have h3:w2.heap[g]?=some (.cells (H.map (Value.int .i64)).toArray 2 (0,0)):=by
   have h:w2.heap[g]?=some (.cells (splice (List.replicate H.length (Value.int .i64 0)) 0 (H.map (Value.int .i64))).toArray 2 (0,0)):=h2
   rwa [show splice (List.replicate H.length (Value.int .i64 0)) 0 (H.map (Value.int .i64))=H.map (Value.int .i64) by simp[splice]] at h
  have z:=(show w2.cell? ⟨g,k,none⟩=some (.int .i64 x0) by rw[ap h3,List.getElem?_map,HX0.out];rfl)
  have zf:=aq h3 k
  have H3:=ak_ h3
  have HB2:=ak_ hb2
  clear h2 hb2 h3
  go_wp2
  refine bodyPost_ret (v:=.tuple #[.slice (some ⟨g,0,none⟩) H.length H.length,.int .i64 0]) (aA (rs:=[.tmp 6,.tmp 7]) rfl (by simp) (.tmp (.tmp .nil))) rfl ⟨_,rfl,⟨some ⟨g,0,none⟩,H.length,by rw[List.length_set],by rw[List.length_set];exact Nat.le_refl _,C9 ?_ (by rw[List.length_set];omega),fun ad e=>by injection e with e;subst e;exact⟨_,_,aJ H3.out k (.int .i64 v)⟩⟩,?_⟩
  ·have h:=aJ H3.out k (.int .i64 v)
   rwa [←List.map_set] at h
  ·exact Fr.below HB2.out (Fr.cell (S:=fun j=>j=g) (p:=⟨g,k,none⟩) rfl _) (fun j hj q=>by have:=HG.out;omega) HB2.out.size
 | false=>
  rw[hh] at hI
  have HIn:=ak_ hI
  rw[if_neg Bool.false_ne_true]
  clear hI hh
  go_enter Tryz.func109,Tryz.ntmps109
  go_wp2_with (first | (go_at_call 119;refine HIn.out.mono ?_;rintro e w' ⟨rfl,rfl⟩))
  exact bodyPost_ret (v:=.tuple #[.slice none 0 0,.int .i64 4]) (aA (rs:=[.tmp 6,.tmp 7]) rfl (by simp) (.tmp (.tmp .nil))) rfl ⟨_,rfl,RdT.nil _ _ _,Below.refl _ _⟩
theorem yu (xs ys:List Int) (AX AY:Option Addr) (cX cY:Nat) (w:World) (hX:Kd.C (Kd.int .i64) w AX xs.length xs) (hY:Kd.C (Kd.int .i64) w AY ys.length ys) (hx:xs.length≤5000) (hy:ys.length≤5000) :
  Calls Tryz.prog 25 #[.slice AX xs.length cX,.slice AY ys.length cY] w fun e w'=>e=.returned (.bool (decide (xs=ys)))∧Below w.heap.size w w':=by
 obtain⟨r,hr⟩:=nm_ (decide (xs=ys))
 rw[←hr]
 have HR:=ak_ hr
 have HX:=ak_ hX
 have HY:=ak_ hY
 have hx':(xs.length:Int)≤5000:=by omega
 have hy':(ys.length:Int)≤5000:=by omega
 clear hr hX hY
 by_cases hl:xs.length=ys.length
 ·have hlb:((xs.length:Int) != (ys.length:Int))=false:=by simp[hl]
  have HL:=ak_ hl
  clear hl
  go_enter Tryz.func25,Tryz.ntmps25
  go_upto_region 4 with fail
  go_loopw [13] (fun j wr=>∃ (k:Nat),j=.int .i64 k∧aa (k≤xs.length∧Below w.heap.size w wr∧xs.take k=ys.take k)) (fun j _=>xs.length - (intOf j).toNat)
  case atStart=>exact⟨0,rfl,⟨⟨Nat.zero_le _,Below.refl _ _,rfl⟩⟩⟩
  case round=>
   obtain⟨k,rfl,HK⟩:=hrel
   obtain⟨hk,hb,ht⟩:=HK.out
   by_cases hkl:k < xs.length
   ·have hkl':(k:Int) < (xs.length:Int):=by omega
    have hky:k < ys.length:=by have:=HL.out;omega
    have hky':(k:Int) < (ys.length:Int):=by omega
    obtain⟨x,hxx⟩:∃ x,xs[k]?=some x:=⟨_,List.getElem?_eq_getElem hkl⟩
    obtain⟨y,hyy⟩:∃ y,ys[k]?=some y:=⟨_,List.getElem?_eq_getElem hky⟩
    obtain⟨adX,csX,eX,_,hKX,hcX⟩:=bX (Kd.C_below HX.out hb) k hkl x hxx
    obtain⟨adY,csY,eY,_,hKY,hcY⟩:=bX (Kd.C_below HY.out hb) k hky y hyy
    subst eX
    subst eY
    obtain rfl:csX=[.int .i64 x]:=hKX
    obtain rfl:csY=[.int .i64 y]:=hKY
    have vX:=hcX 0 _ rfl
    have vY:=hcY 0 _ rfl
    rw[show k * (Kd.int .i64).sz+0=k from Nat.mul_one k] at vX vY
    have HT:=ak_ (And.intro ht (And.intro hxx hyy))
    have HB:=ak_ hb
    have HKl:=ak_ hkl
    clear hk hb ht hkl hky hxx hyy hcX hcY HK
    go_upto_region 6 with fail
    by_cases hxy:x=y
    ·have q:(x != y)=false:=by simp[hxy]
     have HXY:=ak_ hxy
     clear hxy
     refine wp_region_still_lit (by kernel_rfl) (by kernel_rfl) ?_
     repeat still_step
     refine wpStill_nil ?_
     change (Exit.then _ _) _ _ wr.drew
     have HB2:=ak_ (show Below w.heap.size w wr.drew from az HB.out)
     obtain⟨w2,hw2⟩:=nm_ wr.drew
     rw[←hw2] at HB2 ⊢
     clear hw2 vX vY
     go_wp2
     go_roundw
     case rel=>exact⟨k+1,by go_num,⟨⟨HKl.out,HB2.out,kh HT.out.1 HT.out.2.1 (by rw[HXY.out];exact HT.out.2.2)⟩⟩⟩
     case measure=>have:=HKl.out;simp[intOf];omega
    ·have q:(x != y)=true:=by simp[hxy]
     obtain rfl:r=false:=by
      rw[HR.out]
      refine decide_eq_false (fun e=>hxy ?_)
      have h1:=HT.out.2.1
      rw[e,HT.out.2.2] at h1
      exact(Option.some.inj h1).symm
     clear hxy
     refine wp_region_still_lit (by kernel_rfl) (by kernel_rfl) ?_
     repeat still_step
     refine wpStill_nil ?_
     change (Exit.then _ _) _ _ wr.drew
     have HB2:=ak_ (show Below w.heap.size w wr.drew from az HB.out)
     obtain⟨w2,hw2⟩:=nm_ wr.drew
     rw[←hw2] at HB2 ⊢
     clear hw2 vX vY
     go_wp2
     go_ret
     exact⟨rfl,HB2.out⟩
   ·obtain rfl:k=xs.length:=by omega
    obtain rfl:r=true:=by
     rw[HR.out]
     exact decide_eq_true (lw ht HL.out)
    have HB:=ak_ hb
    clear hk hb ht hkl HK
    go_wp2
    go_ret
    exact⟨rfl,HB.out⟩
 ·have hlb:((xs.length:Int) != (ys.length:Int))=true:=by simp;omega
  obtain rfl:r=false:=by
   rw[HR.out]
   exact decide_eq_false (fun e=>hl (congrArg List.length e))
  clear hl
  go_enter Tryz.func25,Tryz.ntmps25
  go_wp2
  go_ret
  exact⟨rfl,Below.refl _ _⟩
def de:List (Bool × Int)→List Value
 | []=>[]
 | p :: r=>.bool p.1 :: .int .i64 p.2 :: de r
theorem dJ:∀ l,(de l).length=l.length * 2
 | []=>rfl
 | p :: r=>by rw[de,List.length_cons,List.length_cons,dJ r,List.length_cons];omega
theorem BH:∀ (l:List (Bool × Int)) (i:Nat) (p:Bool × Int),l[i]?=some p→(de l)[i * 2]?=some (.bool p.1)
 | [],i,p,h=>by simp at h
 | q :: r,0,p,h=>by simp at h;subst h;rfl
 | q :: r,i+1,p,h=>by
  rw[de,show (i+1) * 2=i * 2+1+1 by omega,List.getElem?_cons_succ,List.getElem?_cons_succ]
  exact BH r i p (by simpa using h)
theorem CY:∀ (l:List (Bool × Int)) (i:Nat) (p:Bool × Int),l[i]?=some p→(de l)[i * 2+1]?=some (.int .i64 p.2)
 | [],i,p,h=>by simp at h
 | q :: r,0,p,h=>by simp at h;subst h;rfl
 | q :: r,i+1,p,h=>by
  rw[de,show (i+1) * 2+1=i * 2+1+1+1 by omega,List.getElem?_cons_succ,List.getElem?_cons_succ]
  exact CY r i p (by simpa using h)
theorem tQ:∀ (l:List (Bool × Int)) (i:Nat) (b:Bool) (v:Int) (R:List Value),i < l.length→(de l++R).take (i * 2)++[.bool b,.int .i64 v]++(de l++R).drop (i * 2+2)=de (l.set i (b,v))++R
 | [],i,b,v,R,h=>by simp at h
 | q :: r,0,b,v,R,h=>by simp[de]
 | q :: r,i+1,b,v,R,h=>by
  have:=tQ r i b v R (by simpa using h)
  rw[de,show (i+1) * 2=i * 2+1+1 by omega,show i * 2+1+1+2=i * 2+2+1+1 by omega,List.set_cons_succ,de]
  simp only[List.cons_append,List.take_succ_cons,List.drop_succ_cons]
  rw[←this]
theorem zT:∀ (l:List (Bool × Int)),∀ v∈de l,v.oneCell'=true
 | [],v,h=>by simp[de] at h
 | q :: r,v,h=>by
  rw[de,List.mem_cons,List.mem_cons] at h
  rcases h with rfl | rfl | h
  ·rfl
  ·rfl
  ·exact zT r v h
structure Wk where
 l:List (Bool × Int)
 vH:Value
 at_:Int
 asked:Int
 x:In
 vA:Value
 vE:Value
 how:Int
 val:Int
def Wk.hi (k:Wk):List Value:=[k.vH,.int .i64 k.at_,.int .i64 k.asked,.int .i64 k.x.op,.int .i64 k.x.d,.int .i64 k.x.a,.int .i64 k.x.b,.int .i64 k.x.n,.int .i64 k.x.jt,k.vA,k.vE,.int .i64 k.how,.int .i64 k.val]
def Wk.cells (k:Wk):List Value:=de k.l++k.hi
def bT (W:World) (g:Nat) (k:Wk):Prop:=W.heap[g]?=some (.cells k.cells.toArray 197 (0,0))∧k.l.length=24
theorem nH {k:Wk} (h:k.l.length=24):k.cells.length=61:=by unfold Wk.cells;rw[List.length_append,dJ,h];rfl
theorem Ds {k:Wk} (h:k.l.length=24) (i:Nat):k.cells[48+i]?=k.hi[i]?:=by
 unfold Wk.cells
 rw[List.getElem?_append_right (by rw[dJ,h];omega),dJ,h]
 congr 1
 omega
theorem mr {k:Wk} (h:k.l.length=24) (i:Nat) (v:Value):k.cells.set (48+i) v=de k.l++k.hi.set i v:=by
 unfold Wk.cells
 rw[List.set_append_right _ _ (by rw[dJ,h];omega),dJ,h]
 congr 2
 omega
def Wk.at (k:Wk) (i:Nat):Bool × Int:=k.l.getD i (false,0)
theorem Cw {k:Wk} (h:k.l.length=24) {i:Nat} (hi:i < 24):k.l[i]?=some (k.at i):=by
 unfold Wk.at
 rw[List.getD_eq_getElem?_getD,List.getElem?_eq_getElem (by omega)]
 rfl
theorem DZ {k:Wk} (h:k.l.length=24) {i:Nat} (hi:i < 24):k.cells[i * 2]?=some (.bool (k.at i).1):=by
 unfold Wk.cells
 rw[List.getElem?_append_left (by rw[dJ,h];omega)]
 exact BH _ _ _ (Cw h hi)
theorem Dt {k:Wk} (h:k.l.length=24) {i:Nat} (hi:i < 24):k.cells[i * 2+1]?=some (.int .i64 (k.at i).2):=by
 unfold Wk.cells
 rw[List.getElem?_append_left (by rw[dJ,h];omega)]
 exact CY _ _ _ (Cw h hi)
def Wk.put (k:Wk) (i:Nat) (p:Bool × Int):Wk:={ k with l:=k.l.set i p }
theorem qF {k:Wk} (h:k.l.length=24) {i:Nat} (hi:i < 24) (b:Bool) (v:Int):k.cells.take (i * 2)++[.bool b,.int .i64 v]++k.cells.drop (i * 2+2)=(k.put i (b,v)).cells:=by
 unfold Wk.cells
 rw[tQ _ _ _ _ _ (by omega)]
 rfl
theorem Bg {k:Wk} (h:k.l.length=24) {i:Nat} (hi:i < 24):(k.cells.drop (i * 2)).take 2=[.bool (k.at i).1,.int .i64 (k.at i).2]:=by
 have h0:=DZ h hi
 have h1:=Dt h hi
 obtain⟨q0,e0⟩:=List.getElem?_eq_some_iff.1 h0
 obtain⟨q1,e1⟩:=List.getElem?_eq_some_iff.1 h1
 rw[List.drop_eq_getElem_cons q0,List.drop_eq_getElem_cons q1,e0,e1]
 rfl
theorem bT.cell {W:World} {g:Nat} {k:Wk} (h:bT W g k) (i:Nat):W.cell? ⟨g,48+i,none⟩=k.hi[i]?:=by rw[ap h.1,Ds h.2]
theorem bT.below {W W':World} {g:Nat} {k:Wk} (h:bT W g k) (hb:Below W.heap.size W W'):bT W' g k:=⟨ag h.1 hb,h.2⟩
theorem bT.fr {W W':World} {g:Nat} {k:Wk} {S:Nat→Prop} (h:bT W g k) (hf:Fr S W W') (hs:¬ S g):bT W' g k:=⟨(hf.block _ (ai h.1) hs).trans h.1,h.2⟩
theorem mZ (g:Nat) (k:Wk) (i:Nat) (hi:i < 24) (w:World) (hW:bT w g k):Calls Tryz.prog 106 #[.pointer (some ⟨g,0,none⟩),.int .i64 (i:Int)] w fun e w'=>e=.returned (.int .i64 (k.at i).2)∧w=w':=by
 have hi':(i:Int) < 24:=by omega
 have c1:=(show w.cell? ⟨g,i * 2+1,none⟩=some (.int .i64 (k.at i).2) by rw[ap hW.1,Dt hW.2 hi])
 clear hW hi
 go_enter Tryz.func106,Tryz.ntmps106
 go_wp2
 go_ret
 exact⟨rfl,rfl⟩
def Wk.setW (k:Wk) (v how:Int):Wk:=if how=0 then { k with how:=how,l:=k.l.set k.x.d.toNat (true,v) } else { k with how:=how }
theorem nI {W:World} {g:Nat} {k:Wk} (h:bT W g k) (how:Int):bT (W.setCell ⟨g,59,none⟩ (.int .i64 how)) g { k with how:=how }:=by
 refine⟨?_,h.2⟩
 rw[aJ h.1,show 59=48+11 from rfl,mr h.2]
 rfl
theorem bodyPost_end {P:Program} {fn:Func} {R:Ending→World→Prop} {a:Act} {w:World} {v:Value} (hr:(results fn a.tmps).run P w=.ok v w) (hd:a.defers=[]) (hR:R (.returned v) w):bodyPost P fn R .normal a w:=⟨hd,v,hr,hR⟩
theorem eG {P:Program} {ops:Array Oper} {rest:List Oper} {o:Oper} {a:Act} {W:World} {Q:Exit→Act→World→Prop} (hgd:o.guard=none) (ty:TypeId) (x y:Operand) (ho:o.op=.store ty x y) (g i:Nat) (vs:List Value)
  (hx:a.eval x=.pointer (some ⟨g,i,none⟩)) (hy:a.eval y=.agg vs.toArray) (t:Nat) (L:List Value) (hg:W.heap[g]?=some (.cells L.toArray t (0,0))) (hi:(P.info? ty).map (·.size)=some vs.length) (hl:i+vs.length≤L.length) (h1:∀ v∈vs,v.oneCell'=true)
  (h:∀ W',W'.heap[g]?=some (.cells (L.take i++vs++L.drop (i+vs.length)).toArray t (0,0))→Fr (fun k=>k=g) W W'→wpList P ops Q rest (a.put o.dst undef) W'):wpList P ops Q (o :: rest) a W:=
 fi hgd ty x y ho g i vs hx hy t L hg hi hl h1 (h _ (setRow_heap W g _ _ t _ hg) (Fr.row (S:=fun k=>k=g) rfl _))
theorem k9:(Tryz.prog.info? 90).map (·.size)=some 2:=by kernel_rfl
theorem rP (g:Nat) (k:Wk) (v how:Int) (w:World) (hW:bT w g k) (hd:0≤k.x.d) (hd':k.x.d < 24):Calls Tryz.prog 107 #[.pointer (some ⟨g,0,none⟩),.int .i64 v,.int .i64 how] w fun e w'=>e=.returned (.tuple #[])∧bT w' g (k.setW v how)∧Fr (fun j=>j=g) w w':=by
 obtain⟨d,hd2⟩:∃ d:Nat,k.x.d=d:=⟨k.x.d.toNat,by omega⟩
 have hdl:d < 24:=by omega
 have hdl':(d:Int) < 24:=by omega
 have c11:=(show w.cell? ⟨g,59,none⟩=some (.int .i64 k.how) by rw[show 59=48+11 from rfl,hW.cell];rfl)
 have f11:=aq hW.1 59
 have HW:=ak_ hW
 have HD:=ak_ hdl
 have HDe:=ak_ hd2
 clear hW hd hd' hd2 hdl
 by_cases h0:how=0
 ·subst h0
  go_enter Tryz.func107,Tryz.ntmps107
  go_upto_region 2 with fail
  have hW2:=nI HW.out 0
  obtain⟨w2,hw2⟩:∃ w2,w2=w.setCell ⟨g,59,none⟩ (.int .i64 0):=⟨_,rfl⟩
  rw[←hw2] at hW2
  have HF2:=ak_ (show Fr (fun j=>j=g) w w2 by rw[hw2];exact Fr.cell (S:=fun j=>j=g) (p:=⟨g,59,none⟩) rfl _)
  refine ar hw2.symm ?_
  have HW2:=ak_ hW2
  have c4:=(show w2.cell? ⟨g,52,none⟩=some (.int .i64 (d:Int)) by rw[show 52=48+4 from rfl,hW2.cell,←HDe.out];rfl)
  clear hw2 hW2 c11 f11
  go_upto_region 2 with fail
  go_still_tail 12,(by kernel_rfl)
  refine eG (W:=w2.drew) rfl 90 _ _ rfl g (d * 2) [.bool true,.int .i64 v] rfl rfl 197 _ (ag HW2.out.1 (az (Below.refl _ _))) k9 (by have:=nH HW2.out.2;have:=HD.out;simp only[List.length_cons,List.length_nil];omega) (by simp[Value.oneCell']) ?_
  intro w3 h3 hf3
  have HW3:=ak_ (show bT w3 g ({ k with how:=0 }.put d (true,v)) from ⟨by rw[←qF HW2.out.2 HD.out];exact h3,by unfold Wk.put;simp[HW2.out.2]⟩)
  have HF3:=ak_ ((HF2.out.trans (Fr.drew (S:=fun j=>j=g))).trans hf3)
  clear h3 hf3 c4
  go_wp2
  refine bodyPost_end (v:=.tuple #[]) (by simp[results,Tryz.results107,go_sem]) rfl ⟨rfl,?_,HF3.out⟩
  unfold Wk.setW
  rw[if_pos rfl,HDe.out,Int.toNat_natCast]
  exact HW3.out
 ·have q:(how == 0)=false:=beq_eq_false_iff_ne.mpr h0
  have HH:=ak_ h0
  clear h0
  go_enter Tryz.func107,Tryz.ntmps107
  go_wp2
  refine bodyPost_end (v:=.tuple #[]) (by simp[results,Tryz.results107,go_sem]) rfl ⟨rfl,?_,Fr.cell (S:=fun j=>j=g) (p:=⟨g,59,none⟩) rfl _⟩
  unfold Wk.setW
  rw[if_neg HH.out]
  exact nI HW.out how
def Wk.moveW (k:Wk):Wk:=if k.x.op=1 then k.put k.x.d.toNat (true,k.x.n) else if k.x.op=2 then k.put k.x.d.toNat (k.at k.x.a.toNat) else if k.x.op=3 then (k.put k.x.d.toNat (k.at k.x.a.toNat)).put k.x.a.toNat (k.at k.x.d.toNat) else k
theorem bT.put' {W:World} {g:Nat} {k:Wk} (h:k.l.length=24) {i:Nat} (hi:i < 24) {b:Bool} {v:Int} (h3:W.heap[g]?=some (.cells (k.cells.take (i * 2)++[Value.bool b,Value.int .i64 v]++k.cells.drop (i * 2+2)).toArray 197 (0,0))):bT W g (k.put i (b,v)):=
 ⟨by rw[←qF h hi];exact h3,by unfold Wk.put;simp[h]⟩
theorem qG {W:World} {g:Nat} {k:Wk} (h:bT W g k) {i:Nat} (hi:i < 24):(loadVar 90 ⟨g,i * 2,none⟩).run Tryz.prog W=.ok (.agg #[.bool (k.at i).1,.int .i64 (k.at i).2]) W:=
 bU h.1 90 (i * 2) [.bool (k.at i).1,.int .i64 (k.at i).2] (Bg h.2 hi) _ Tryz.underlying90 rfl k9
def rM (k:Wk) (d a:Nat) (bs:List Bool):Wk:=
 let k1:=if bs.getD 0 false=true then k.put d (k.at a) else k
 if bs.getD 1 false=true then k1.put a (k.at d) else k1
theorem nz (k:Wk) (d a:Nat) (bs:List Bool):(rM k d a bs).hi=k.hi:=by
 unfold rM
 simp only
 split <;> split <;> rfl
theorem rL (k:Wk) (d a:Nat) (bs:List Bool):(rM k d a bs).l.length=k.l.length:=by
 unfold rM Wk.put
 simp only
 split <;> split <;> simp
theorem CM {k:Wk} (h:k.l.length=24) {d a:Nat} (hd:d < 24) (ha:a < 24) {b1:Bool}:rM k d a [true,b1]=(rM k d a [false,b1]).put d ((k.at a).1,(k.at a).2):=by
 cases b1 with
 | false=>rfl
 | true=>
  show (k.put d (k.at a)).put a (k.at d)=(k.put a (k.at d)).put d (k.at a)
  unfold Wk.put
  by_cases e:d=a
  ·subst e
   simp
  ·simp only
   rw[List.set_comm _ _ e]
theorem v4 (g:Nat) (k:Wk) (w:World) (hW:bT w g k) (hd:0≤k.x.d∧k.x.d < 24) (ha:0≤k.x.a∧k.x.a < 24):Calls Tryz.prog 112 #[.pointer (some ⟨g,0,none⟩)] w fun e w'=>e=.returned (.tuple #[])∧bT w' g k.moveW∧Fr (fun j=>j=g) w w':=by
 obtain⟨d,hd2⟩:∃ d:Nat,k.x.d=d:=⟨k.x.d.toNat,by omega⟩
 obtain⟨a,ha2⟩:∃ a:Nat,k.x.a=a:=⟨k.x.a.toNat,by omega⟩
 have hdl:d < 24:=by omega
 have hal:a < 24:=by omega
 have hdl':(d:Int) < 24:=by omega
 have hal':(a:Int) < 24:=by omega
 have c3:=(show w.cell? ⟨g,51,none⟩=some (.int .i64 k.x.op) by rw[show 51=48+3 from rfl,hW.cell];rfl)
 have c4:=(show w.cell? ⟨g,52,none⟩=some (.int .i64 (d:Int)) by rw[show 52=48+4 from rfl,hW.cell,←hd2];rfl)
 have c5:=(show w.cell? ⟨g,53,none⟩=some (.int .i64 (a:Int)) by rw[show 53=48+5 from rfl,hW.cell,←ha2];rfl)
 have c7:=(show w.cell? ⟨g,55,none⟩=some (.int .i64 k.x.n) by rw[show 55=48+7 from rfl,hW.cell];rfl)
 unfold Wk.moveW
 rw[hd2,ha2,Int.toNat_natCast,Int.toNat_natCast]
 have HW:=ak_ hW
 have HD:=ak_ hdl
 have HA:=ak_ hal
 have HEd:=ak_ hd2
 have HEa:=ak_ ha2
 have HA3:=ak_ (show ∀ W,(isAgg 3).run Tryz.prog W=.ok false W from fun W=>by kernel_rfl)
 have HLd:=ak_ (fun i (hi:i < 24)=>qG (hW.below (az (Below.refl _ _))) hi)
 clear hW hd ha hd2 ha2 hdl hal
 by_cases h1:k.x.op=1
 ·have q1:(k.x.op == 1)=true:=beq_iff_eq.mpr h1
  rw[if_pos h1]
  clear h1
  go_enter Tryz.func112,Tryz.ntmps112
  go_upto_region 3 with fail
  go_still_tail 14,(by kernel_rfl)
  refine eG (W:=w.drew) rfl 90 _ _ rfl g (d * 2) [.bool true,.int .i64 k.x.n] rfl rfl 197 _ (ag HW.out.1 (az (Below.refl _ _))) k9 (by have:=nH HW.out.2;have:=HD.out;simp only[List.length_cons,List.length_nil];omega) (by simp[Value.oneCell']) ?_
  intro w3 h3 hf3
  have HW3:=ak_ (bT.put' HW.out.2 HD.out h3)
  have HF3:=ak_ ((Fr.drew (S:=fun j=>j=g)).trans hf3)
  clear h3 hf3 c3 c4 c5 c7
  go_wp2
  exact bodyPost_end (v:=.tuple #[]) (by simp[results,Tryz.results112,go_sem]) rfl ⟨rfl,HW3.out,HF3.out⟩
 ·rw[if_neg h1]
  have q1:(k.x.op == 1)=false:=beq_eq_false_iff_ne.mpr h1
  by_cases h2:k.x.op=2
  ·have q2:(k.x.op == 2)=true:=beq_iff_eq.mpr h2
   rw[if_pos h2]
   clear h1 h2
   go_enter Tryz.func112,Tryz.ntmps112
   go_upto_region 5 with fail
   go_still_tail 17,(by kernel_rfl)
   refine bu rfl (al rfl rfl (HLd.out a HA.out)) ?_
   repeat still_step
   refine wpStill_nil ?_
   refine eG (W:=w.drew) rfl 90 _ _ rfl g (d * 2) [.bool (k.at a).1,.int .i64 (k.at a).2] rfl rfl 197 _ (ag HW.out.1 (az (Below.refl _ _))) k9 (by have:=nH HW.out.2;have:=HD.out;simp only[List.length_cons,List.length_nil];omega) (by simp[Value.oneCell']) ?_
   intro w3 h3 hf3
   have HW3:=ak_ (bT.put' HW.out.2 HD.out h3)
   have HF3:=ak_ ((Fr.drew (S:=fun j=>j=g)).trans hf3)
   clear h3 hf3 c3 c4 c5 c7
   go_wp2
   exact bodyPost_end (v:=.tuple #[]) (by simp[results,Tryz.results112,go_sem]) rfl ⟨rfl,HW3.out,HF3.out⟩
  ·rw[if_neg h2]
   have q2:(k.x.op == 2)=false:=beq_eq_false_iff_ne.mpr h2
   by_cases h3:k.x.op=3
   ·have q3:(k.x.op == 3)=true:=beq_iff_eq.mpr h3
    rw[if_pos h3]
    clear h1 h2 h3
    go_enter Tryz.func112,Tryz.ntmps112
    go_upto_region 7 with fail
    refine bh (σ:=Unit) [32,35] (fun s=>[(49,.pointer (some ⟨g,0,none⟩)),(50,.pointer (some ⟨g,0,none⟩)),(51,.pointer (some ⟨g,0,none⟩)),(52,.pointer (some ⟨g,51,none⟩)),(53,.pointer (some ⟨g,52,none⟩)),(54,.int .i64 (d:Int)),(55,.pointer (some ⟨g,0,none⟩)),(56,.pointer (some ⟨g,0,none⟩)),(57,.pointer (some ⟨g,0,none⟩)),(58,.pointer (some ⟨g,51,none⟩)),(59,.pointer (some ⟨g,53,none⟩)),(60,.int .i64 (a:Int)),(61,.pointer (some ⟨g,0,none⟩)),(62,.pointer (some ⟨g,0,none⟩)),(63,.pointer (some ⟨g,0,none⟩)),(64,.pointer (some ⟨g,51,none⟩)),(65,.pointer (some ⟨g,53,none⟩)),(66,.int .i64 (a:Int)),(67,.pointer (some ⟨g,0,none⟩)),(68,.pointer (some ⟨g,a * 2,none⟩)),(69,.agg #[.bool (k.at a).1,.int .i64 (k.at a).2]),(70,.pointer (some ⟨g,0,none⟩)),(71,.pointer (some ⟨g,0,none⟩)),(72,.pointer (some ⟨g,0,none⟩)),(73,.pointer (some ⟨g,51,none⟩)),(74,.pointer (some ⟨g,52,none⟩)),(75,.int .i64 (d:Int)),(76,.pointer (some ⟨g,0,none⟩)),(77,.pointer (some ⟨g,d * 2,none⟩)),(78,.agg #[.bool (k.at d).1,.int .i64 (k.at d).2]),(79,.pointer (some ⟨g,0,none⟩)),(80,.pointer (some ⟨g,d * 2,none⟩)),(81,.pointer (some ⟨g,0,none⟩)),(82,.pointer (some ⟨g,a * 2,none⟩))])
     (fun bs _ W=>bT W g (rM k d a bs)∧Fr (fun j=>j=g) w W) () (by kernel_rfl) (by kernel_rfl) (by kernel_rfl) (fun _=>by kernel_rfl) ?_
    intro aF haF
    simp only[bd,Act.put,List.setIfInBounds_toArray,List.set_cons_succ,List.set_cons_zero] at haF
    subst haF
    refine⟨?_,?_,⟨bT.below HW.out (az (Below.refl _ _)),Fr.drew⟩,?_⟩
    ·intro j o ho hct s W bs hlen hok hI
     rcases j with _ | _ | _ | _ | _ | _ | _ | _ | _ | _ | _ | _ | _ | _ | _ | _ | _ | _ | _ | _ | _ | _ | _ | _ | _ | _ | _ | _ | _ | _ | _ | _ | _ | _ | _ | _ | j
     all_goals first | exact absurd hct (by decide) | (obtain rfl:=Option.some.inj ho) | exact absurd (Array.getElem?_eq_some_iff.1 ho).1 (by simp)
     ·exact ab rfl (by go_simp) ⟨rfl,hI⟩
     ·exact ab rfl (by go_simp) ⟨rfl,hI⟩
     ·exact ab rfl (by go_simp) ⟨rfl,hI⟩
     ·exact ab rfl (by go_simp) ⟨rfl,hI⟩
     ·exact ab rfl (by go_simp) ⟨rfl,hI⟩
     ·exact ab rfl (al rfl rfl (aE (HA3.out W) (by rw[show 52=48+4 from rfl,hI.1.cell,nz];exact congrArg some (congrArg (Value.int .i64) HEd.out)))) ⟨rfl,hI⟩
     ·exact ab rfl (by go_simp) ⟨rfl,hI⟩
     ·exact ab rfl (by go_simp) ⟨rfl,hI⟩
     ·exact ab rfl (by go_simp) ⟨rfl,hI⟩
     ·exact ab rfl (by go_simp) ⟨rfl,hI⟩
     ·exact ab rfl (by go_simp) ⟨rfl,hI⟩
     ·exact ab rfl (al rfl rfl (aE (HA3.out W) (by rw[show 53=48+5 from rfl,hI.1.cell,nz];exact congrArg some (congrArg (Value.int .i64) HEa.out)))) ⟨rfl,hI⟩
     ·exact ab rfl (by go_simp) ⟨rfl,hI⟩
     ·exact ab rfl (by go_simp) ⟨rfl,hI⟩
     ·exact ab rfl (by go_simp) ⟨rfl,hI⟩
     ·exact ab rfl (by go_simp) ⟨rfl,hI⟩
     ·exact ab rfl (by go_simp) ⟨rfl,hI⟩
     ·exact ab rfl (al rfl rfl (aE (HA3.out W) (by rw[show 53=48+5 from rfl,hI.1.cell,nz];exact congrArg some (congrArg (Value.int .i64) HEa.out)))) ⟨rfl,hI⟩
     ·exact ab rfl (by go_simp) ⟨rfl,hI⟩
     ·exact ab rfl (by go_simp) ⟨rfl,hI⟩
     ·obtain⟨b0,b1,rfl⟩:=fR hlen
      obtain rfl:=okF hok 0 rfl rfl rfl (by kernel_rfl)
      obtain rfl:=okF hok 1 rfl rfl rfl (by kernel_rfl)
      exact ab rfl (al rfl rfl (qG (k:=k) hI.1 HA.out)) ⟨rfl,hI⟩
     ·exact ab rfl (by go_simp) ⟨rfl,hI⟩
     ·exact ab rfl (by go_simp) ⟨rfl,hI⟩
     ·exact ab rfl (by go_simp) ⟨rfl,hI⟩
     ·exact ab rfl (by go_simp) ⟨rfl,hI⟩
     ·exact ab rfl (by go_simp) ⟨rfl,hI⟩
     ·exact ab rfl (al rfl rfl (aE (HA3.out W) (by rw[show 52=48+4 from rfl,hI.1.cell,nz];exact congrArg some (congrArg (Value.int .i64) HEd.out)))) ⟨rfl,hI⟩
     ·exact ab rfl (by go_simp) ⟨rfl,hI⟩
     ·exact ab rfl (by go_simp) ⟨rfl,hI⟩
     ·obtain⟨b0,b1,rfl⟩:=fR hlen
      obtain rfl:=okF hok 0 rfl rfl rfl (by kernel_rfl)
      obtain rfl:=okF hok 1 rfl rfl rfl (by kernel_rfl)
      exact ab rfl (al rfl rfl (qG (k:=k) hI.1 HD.out)) ⟨rfl,hI⟩
     ·exact ab rfl (by go_simp) ⟨rfl,hI⟩
     ·exact ab rfl (by go_simp) ⟨rfl,hI⟩
     ·exact ab rfl (by go_simp) ⟨rfl,hI⟩
     ·exact ab rfl (by go_simp) ⟨rfl,hI⟩
    ·intro k j o hk ho s W bs hlen hok hI
     rcases k with _ | _ | k
     all_goals first | (obtain rfl:=Option.some.inj hk;obtain rfl:=Option.some.inj ho) | exact absurd hk (by simp)
     ·obtain⟨b0,b1,rfl⟩:=fR hlen
      obtain rfl:=okS hok 0 rfl rfl
      refine bm rfl 90 _ _ rfl g (d * 2) [.bool (k.at a).1,.int .i64 (k.at a).2] rfl rfl 197 _ _ hI.1.1 k9 (by have:=nH hI.1.2;have:=HD.out;simp only[List.length_cons,List.length_nil];omega) (by simp[Value.oneCell']) (qF hI.1.2 HD.out _ _) (fun W' h3 hf3=>⟨(),[],rfl,rfl,rfl,⟨?_,(rL _ _ _ _).trans HW.out.2⟩,hI.2.trans hf3⟩)
      exact(show W'.heap[g]?=some (.cells (rM k d a [true,b1]).cells.toArray 197 (0,0)) by rw[CM HW.out.2 HD.out HA.out];exact h3)
     ·obtain⟨b0,b1,rfl⟩:=fR hlen
      obtain rfl:=okS hok 1 rfl rfl
      refine bm rfl 90 _ _ rfl g (a * 2) [.bool (k.at d).1,.int .i64 (k.at d).2] rfl rfl 197 _ _ hI.1.1 k9 (by have:=nH hI.1.2;have:=HA.out;simp only[List.length_cons,List.length_nil];omega) (by simp[Value.oneCell']) (qF hI.1.2 HA.out _ _) (fun W' h3 hf3=>⟨(),[],rfl,rfl,rfl,⟨?_,(rL _ _ _ _).trans HW.out.2⟩,hI.2.trans hf3⟩)
      exact h3
    ·intro s W hI
     have HW3:=ak_ hI.1
     have HF3:=ak_ hI.2
     clear hI c3 c4 c5 c7
     go_wp2
     exact bodyPost_end (v:=.tuple #[]) (by simp[results,Tryz.results112,go_sem]) rfl ⟨rfl,HW3.out,HF3.out⟩
   ·have q3:(k.x.op == 3)=false:=beq_eq_false_iff_ne.mpr h3
    rw[if_neg h3]
    clear h1 h2 h3
    go_enter Tryz.func112,Tryz.ntmps112
    go_wp2
    exact bodyPost_end (v:=.tuple #[]) (by simp[results,Tryz.results112,go_sem]) rfl ⟨rfl,HW.out,Fr.refl _ _⟩
structure Ev where
 n:Int
 arg:Int
 ans:Int
deriving DecidableEq
def kEv:Kd Ev:=Kd.flat 3 (fun x=>[.int .i64 x.n,.int .i64 x.arg,.int .i64 x.ans]) (fun _=>rfl) (by simp[Value.oneCell'])
theorem bR:lp kEv:=fun _ _ _ _ h=>h
def Wk.callW (k:Wk) (ask:List Int) (vE:Value):Wk:=if (ask.length:Int)≤k.asked then { k with how:=5 } else Wk.setW { k with vE:=vE,asked:=k.asked+1 } (ask.getD k.asked.toNat 0) 0
theorem Dr {W:World} {g:Nat} {k:Wk} (h:bT W g k) (v:Value):bT (W.setCell ⟨g,58,none⟩ v) g { k with vE:=v }:=⟨by rw[aJ h.1,show 58=48+10 from rfl,mr h.2];rfl,h.2⟩
theorem Dq {W:World} {g:Nat} {k:Wk} (h:bT W g k) (v:Value):bT (W.setCell ⟨g,48,none⟩ v) g { k with vH:=v }:=⟨by rw[aJ h.1,show 48=48+0 from rfl,mr h.2];rfl,h.2⟩
theorem jN {W:World} {g:Nat} {k:Wk} (h:bT W g k) (v:Int):bT (W.setCell ⟨g,49,none⟩ (.int .i64 v)) g { k with at_:=v }:=⟨by rw[aJ h.1,show 49=48+1 from rfl,mr h.2];rfl,h.2⟩
theorem y_ {W:World} {g:Nat} {k:Wk} (h:bT W g k) (v:Int):bT (W.setCell ⟨g,50,none⟩ (.int .i64 v)) g { k with asked:=v }:=⟨by rw[aJ h.1,show 50=48+2 from rfl,mr h.2];rfl,h.2⟩
theorem CJ {W:World} {g:Nat} {k:Wk} (h:bT W g k) (v:Int):bT (W.setCell ⟨g,60,none⟩ (.int .i64 v)) g { k with val:=v }:=⟨by rw[aJ h.1,show 60=48+12 from rfl,mr h.2];rfl,h.2⟩
theorem Dc {W:World} {g:Nat} {x:Ev} (h:W.heap[g]?=some (.cells #[.int .i64 x.n,.int .i64 x.arg,.int .i64 x.ans] 105 (0,0))):RdT kEv 105 W (.slice (some ⟨g,0,none⟩) 1 1) [x]:=by
 refine⟨some ⟨g,0,none⟩,1,rfl,Nat.le_refl _,⟨rfl,by simp,fun _=>⟨_,rfl,fun j p hp=>?_⟩⟩,fun ad e=>by injection e with e;subst e;exact⟨_,_,h⟩⟩
 match j,hp with
 | 0,hp=>
  obtain rfl:=Option.some.inj hp
  refine⟨[.int .i64 x.n,.int .i64 x.arg,.int .i64 x.ans],rfl,rfl,fun i u hu=>?_⟩
  rw[Nat.zero_mul,Nat.zero_add,uz,ah h,←hu]
  simp
 | j+1,hp=>simp at hp
theorem zl (g:Nat) (k:Wk) (ask:List Int) (arg:Int) (w:World) (hW:bT w g k) (hA:Rd (Kd.int .i64) w k.vA ask) (h0:0≤k.asked) (hl:ask.length≤100000) (hd:0≤k.x.d∧k.x.d < 24) :
  Calls Tryz.prog 110 #[.pointer (some ⟨g,0,none⟩),.int .i64 arg] w fun e w'=>e=.returned (.tuple #[])∧∃ vE,bT w' g (k.callW ask vE)∧(k.asked < ask.length→RdT kEv 105 w' vE [⟨k.x.n,arg,ask.getD k.asked.toNat 0⟩])∧Fr (fun j=>j=g) w w':=by
 obtain⟨n,hn⟩:∃ n:Nat,k.asked=n:=⟨k.asked.toNat,by omega⟩
 obtain⟨A,c,hv,_,hC⟩:=hA
 have c50:=(show w.cell? ⟨g,50,none⟩=some (.int .i64 (n:Int)) by rw[show 50=48+2 from rfl,hW.cell,←hn];rfl)
 have c57:=(show w.cell? ⟨g,57,none⟩=some (.slice A ask.length c) by rw[show 57=48+9 from rfl,hW.cell,←hv];rfl)
 have hl':(ask.length:Int)≤100000:=by omega
 have HW:=ak_ hW
 have HN:=ak_ hn
 have HD:=ak_ hd
 have HWd:=ak_ (hW.below (az (Below.refl _ _)))
 by_cases hle:ask.length≤n
 ·have hle':(ask.length:Int)≤(n:Int):=by omega
  have HLe:=ak_ (show (ask.length:Int)≤k.asked by omega)
  have c59:=(show w.drew.cell? ⟨g,59,none⟩=some (.int .i64 k.how) by rw[show 59=48+11 from rfl,HWd.out.cell];rfl)
  have f59:=aq HWd.out.1 59
  clear hW hn hd hv hC h0 hl hle
  go_enter Tryz.func110,Tryz.ntmps110
  go_upto_region 0 with fail
  refine wp_region_still_lit (by kernel_rfl) (by kernel_rfl) ?_
  repeat still_step
  refine wpStill_nil ?_
  change (Exit.then _ _) _ _ w.drew
  clear c50 c57
  go_wp2
  refine bodyPost_ret (v:=.tuple #[]) (by simp[results,Tryz.results110,go_sem]) rfl ⟨rfl,.bool false,?_,fun h=>by have:=HLe.out;omega,Fr.trans (Fr.drew (S:=fun j=>j=g)) (Fr.cell (S:=fun j=>j=g) (p:=⟨g,59,none⟩) rfl _)⟩
  unfold Wk.callW
  rw[if_pos HLe.out]
  exact nI HWd.out 5
 ·have hnl:n < ask.length:=by omega
  have hnl':(n:Int) < (ask.length:Int):=by omega
  obtain⟨x,hx⟩:∃ x,ask[n]?=some x:=⟨_,List.getElem?_eq_getElem hnl⟩
  obtain⟨ad,cs,e,_,hK,hcs⟩:=bX hC n hnl x hx
  subst e
  obtain rfl:cs=[.int .i64 x]:=hK
  have vx:=hcs 0 _ rfl
  rw[show n * (Kd.int .i64).sz+0=n from Nat.mul_one n] at vx
  have HX:=ak_ hx
  have HLt:=ak_ hnl
  clear hW hn hd hv hC h0 hl hle hnl hx hcs
  go_enter Tryz.func110,Tryz.ntmps110
  go_upto_region 0 with fail
  refine wp_region_still_lit (by kernel_rfl) (by kernel_rfl) ?_
  repeat still_step
  refine wpStill_nil ?_
  change (Exit.then _ _) _ _ w.drew
  obtain⟨w1,hw1⟩:=nm_ w.drew
  rw[←hw1] at HWd ⊢
  have c50':=(show w1.cell? ⟨g,50,none⟩=some (.int .i64 (n:Int)) by rw[hw1];exact c50)
  have c57':=(show w1.cell? ⟨g,57,none⟩=some (.slice (some ad) ask.length c) by rw[hw1];exact c57)
  have vx':=(show w1.cell? (ad.add n)=some (.int .i64 x) by rw[hw1];exact vx)
  have HF1:=ak_ (show Fr (fun j=>j=g) w w1 by rw[hw1];exact Fr.drew)
  clear hw1 c50 c57 vx
  go_upto_region 2 with fail
  refine wp_region_still_lit (by kernel_rfl) (by kernel_rfl) ?_
  repeat still_step
  refine wpStill_nil ?_
  change (Exit.then _ _) _ _ w1.drew
  obtain⟨w2,hw2⟩:=nm_ w1.drew
  have HW2:=ak_ (show bT w2 g k by rw[hw2];exact HWd.out.below (az (Below.refl _ _)))
  have HF2:=ak_ (show Fr (fun j=>j=g) w w2 by rw[hw2];exact HF1.out.trans Fr.drew)
  rw[←hw2]
  have c55:=(show w2.cell? ⟨g,55,none⟩=some (.int .i64 k.x.n) by rw[show 55=48+7 from rfl,HW2.out.cell];rfl)
  have c58:=(show w2.cell? ⟨g,58,none⟩=some k.vE by rw[show 58=48+10 from rfl,HW2.out.cell];rfl)
  have f58:=aq HW2.out.1 58
  have hlt:=ai HW2.out.1
  clear hw2 c50' c57' vx'
  go_upto_region 4 with fail
  obtain⟨w3,hw3⟩:∃ w3,w3=(w2.setCell ⟨g,58,none⟩ (.slice (some ⟨w2.heap.size,0,none⟩) 1 1)).alloc (.cells #[.int .i64 k.x.n,.int .i64 arg,.int .i64 x] 105):=⟨_,rfl⟩
  refine ar hw3.symm ?_
  have hsz:(w2.setCell ⟨g,58,none⟩ (.slice (some ⟨w2.heap.size,0,none⟩) 1 1)).heap.size=w2.heap.size:=by simp
  have HW3:=ak_ (show bT w3 g { k with vE:=.slice (some ⟨w2.heap.size,0,none⟩) 1 1 } by rw[hw3];exact(Dr HW2.out _).below (ae (Below.refl _ _) _))
  have HF3:=ak_ (show Fr (fun j=>j=g) w w3 by rw[hw3];exact(HF2.out.trans (Fr.cell (S:=fun j=>j=g) (p:=⟨g,58,none⟩) rfl _)).trans (Fr.of_below (ae (Below.refl _ _) _)))
  have HE3:=ak_ (show RdT kEv 105 w3 (.slice (some ⟨w2.heap.size,0,none⟩) 1 1) [⟨k.x.n,arg,x⟩] from Dc (x:=⟨k.x.n,arg,x⟩) (by have h:=heap_alloc_new (w2.setCell ⟨g,58,none⟩ (.slice (some ⟨w2.heap.size,0,none⟩) 1 1)) (.cells #[.int .i64 k.x.n,.int .i64 arg,.int .i64 x] 105);rw[hsz] at h;rw[hw3];exact h))
  obtain⟨vE,hvE⟩:=nm_ (Value.slice (some ⟨w2.heap.size,0,none⟩) 1 1)
  rw[←hvE] at HW3 HE3
  have c50:=(show w3.cell? ⟨g,50,none⟩=some (.int .i64 (n:Int)) by rw[show 50=48+2 from rfl,HW3.out.cell,←HN.out];rfl)
  have f50:=aq HW3.out.1 50
  clear hw3 hsz c55 c58 f58 hlt
  go_upto_region 5 with fail
  obtain⟨w4,hw4⟩:∃ w4,w4=w3.setCell ⟨g,50,none⟩ (.int .i64 ((n:Int)+1)):=⟨_,rfl⟩
  refine ar hw4.symm ?_
  have HW4:=ak_ (show bT w4 g { k with vE:=vE,asked:=(n:Int)+1 } by rw[hw4];exact y_ HW3.out _)
  have hf4:Fr (fun j=>j=g) w3 w4:=by rw[hw4];exact Fr.cell (S:=fun j=>j=g) (p:=⟨g,50,none⟩) rfl _
  have HE4:=ak_ (RdT.fr bR HE3.out hf4 (fun j cs fr e=>by subst e;rw[HW3.out.1];simp))
  have HF4:=ak_ (HF3.out.trans hf4)
  clear hw4 hf4 c50 f50
  have HC:=ak_ (rP g _ x 0 w4 HW4.out HD.out.1 HD.out.2)
  go_upto_region 6 with (first
   | (go_at_call 107;refine HC.out.mono ?_;rintro e w5 ⟨rfl,h5,hf5⟩;have HW5:=ak_ h5;have HF5:=ak_ hf5;clear h5 hf5))
  refine bodyPost_end (v:=.tuple #[]) (by simp[results,Tryz.results110,go_sem]) rfl ⟨rfl,vE,?_,fun _=>?_,HF4.out.trans HF5.out⟩
  ·unfold Wk.callW
   rw[if_neg (by have:=HLt.out;have:=HN.out;omega),HN.out,Int.toNat_natCast,List.getD_eq_getElem?_getD,HX.out]
   exact HW5.out
  ·rw[HN.out,Int.toNat_natCast,List.getD_eq_getElem?_getD,HX.out]
   exact RdT.fr bR HE4.out HF5.out (fun j cs fr e=>by subst e;rw[HW4.out.1];simp)
section
section
variable {P:Program}
open Go.ChangeMaps (setBlock)
theorem nZ {t kt et:TypeId} (hu:P.underlying t=some (.map kt et)) (hk:P.underlying kt=some (.int .i64)) (W:World) (b:Nat) (es:Array MapEntry) (c:Nat) (k:Int) (v:Value) (hh:W.heap[b]?=some (.map es c)) (hf:Instr.findNow (.int .i64) (.int .i64 k) es.toList 0=some none) :
  (Instr.mapUpdate t (.map (some b)) (.int .i64 k) v).run P W=.ok () (setBlock W b (.map (es.push { key:=.int .i64 k,val:=v,born:=c }) (c+1))):=by
 have h1:=MapKept.run_checkKey (P:=P) (w:=W) (k:=.int .i64 k) hk (show MapKept.IsKey (.int .i64) (.int .i64 k) from rfl) false 9999
 have h2:=MapKept.run_findKey (P:=P) (w:=W) hk hf
 simp[Instr.mapUpdate,run_underlying hu,MapKept.run_getObj_map hh,h1,h2,MapKept.run_setObj_map _ hh,Result.andThen,setBlock]
theorem nX {t kt et:TypeId} (hu:P.underlying t=some (.map kt et)) (hk:P.underlying kt=some (.int .i64)) (W:World) (b:Nat) (es:Array MapEntry) (c:Nat) (k:Int) (z:Value) (hh:W.heap[b]?=some (.map es c)) (hz:(zeroValue et).run P W=.ok z W) (hf:Instr.findNow (.int .i64) (.int .i64 k) es.toList 0=some none) :
  (Instr.lookup t (.map (some b)) (.int .i64 k) false).run P W=.ok z W:=by
 have h1:=MapKept.run_checkKey (P:=P) (w:=W) (k:=.int .i64 k) hk (show MapKept.IsKey (.int .i64) (.int .i64 k) from rfl) es.isEmpty 9999
 have h2:=MapKept.run_findKey (P:=P) (w:=W) hk hf
 simp[Instr.lookup,run_underlying hu,MapKept.run_getObj_map hh,h1,h2,hz,Result.andThen]
theorem nY {t kt et:TypeId} (hu:P.underlying t=some (.map kt et)) (hk:P.underlying kt=some (.int .i64)) (W:World) (b:Nat) (es:Array MapEntry) (c:Nat) (k:Int) (i:Nat) (v:Value) (hh:W.heap[b]?=some (.map es c)) (hf:Instr.findNow (.int .i64) (.int .i64 k) es.toList 0=some (some (i,v))) :
  (Instr.lookup t (.map (some b)) (.int .i64 k) false).run P W=.ok v W:=by
 have h1:=MapKept.run_checkKey (P:=P) (w:=W) (k:=.int .i64 k) hk (show MapKept.IsKey (.int .i64) (.int .i64 k) from rfl) es.isEmpty 9999
 have h2:=MapKept.run_findKey (P:=P) (w:=W) hk hf
 simp[Instr.lookup,run_underlying hu,MapKept.run_getObj_map hh,h1,h2,Result.andThen]
theorem nW (W:World) (o o':Obj):setBlock (W.alloc o) W.heap.size o'=W.alloc o':=by
 simp only[setBlock,World.alloc]
 congr 1
 apply Array.ext'
 simp[Array.setIfInBounds,Array.toList_push]
end
def Ce (i:Nat):MapEntry:={ key:=.int .i64 (4+i),val:=.func (.func (if i=8 then 131 else 122+i)) #[] #[],born:=i }
def d_ (n:Nat):Array MapEntry:=((List.range n).map Ce).toArray
theorem rm (n:Nat):(d_ n).push (Ce n)=d_ (n+1):=by
 unfold d_
 simp[List.range_succ]
theorem ft (i:Nat) (k:Int) (f:Nat) (hk:k=4+i) (hfn:f=if i=8 then 131 else 122+i) (hf:Instr.findNow (.int .i64) (.int .i64 (4+i)) (d_ i).toList 0=some none) (W:World) :
  (Instr.mapUpdate 243 (.map (some W.heap.size)) (.int .i64 k) (.func (.func f) #[] #[])).run Tryz.prog (W.alloc (.map (d_ i) i))=.ok () (W.alloc (.map (d_ (i+1)) (i+1))):=by
 subst hk hfn
 rw[nZ Tryz.underlying243 Tryz.underlying3 (W.alloc (.map (d_ i) i)) W.heap.size (d_ i) i _ _ (heap_alloc_new W _) hf,nW,←rm]
 rfl
def fd (W:World):World:=W.alloc (.map (d_ 9) 9)
theorem dK (w:World) :
  Calls Tryz.prog 120 #[] w fun e w'=>e=.returned (.map (some w.heap.size))∧w'=fd w:=by
 have hmm:∀ (t:TypeId) (w:World),(Instr.makeMap t none).run Tryz.prog w=.ok (.map (some w.heap.size)) (w.alloc (.map (d_ 0) 0)):=@run_makeMap Tryz.prog
 have h0:=ft 0 4 122 rfl rfl rfl
 have h1:=ft 1 5 123 rfl rfl rfl
 have h2:=ft 2 6 124 rfl rfl rfl
 have h3:=ft 3 7 125 rfl rfl rfl
 have h4:=ft 4 8 126 rfl rfl rfl
 have h5:=ft 5 9 127 rfl rfl rfl
 have h6:=ft 6 10 128 rfl rfl rfl
 have h7:=ft 7 11 129 rfl rfl rfl
 have h8:=ft 8 12 131 rfl rfl rfl
 go_enter Tryz.func120,Tryz.ntmps120
 go_wp2
 go_ret
 exact⟨rfl,rfl⟩
def num_Do.v (op a b:Int):Int × Int:=
 if op=4 then (wrap64 (a+b),0) else if op=5 then (wrap64 (a - b),0) else if op=6 then (wrap64 (a * b),0)
 else if op=7 then (if b=0 then (0,3) else (wrap64 (Int.tdiv a b),0))
 else if op=8 then (Go.bits .and .i64 a b,0) else if op=9 then (Go.bits .or .i64 a b,0) else if op=10 then (Go.bits .xor .i64 a b,0)
 else if op=11 then ((if a < b then 1 else 0),0) else if op=12 then ((if a=b then 1 else 0),0) else (0,2)
def num_Do.f (op a b:Int):Option (Int × Int):=some (num_Do.v op a b)
theorem dh (w:World) (i:Nat) (op:Int) (f:Nat) (hk:op=4+i) (hfn:f=if i=8 then 131 else 122+i) (hf:Instr.findNow (.int .i64) (.int .i64 (4+i)) (d_ 9).toList 0=some (some (i,(Ce i).val))) :
  (Instr.lookup 243 (.map (some w.heap.size)) (.int .i64 op) false).run Tryz.prog (fd w)=.ok (.func (.func f) #[] #[]) (fd w):=by
 subst hk hfn
 exact nY Tryz.underlying243 Tryz.underlying3 (fd w) w.heap.size (d_ 9) 9 _ i _ (heap_alloc_new w _) hf
theorem mf (w:World) (op:Int) (h:op < 4∨12 < op) :
  (Instr.lookup 243 (.map (some w.heap.size)) (.int .i64 op) false).run Tryz.prog (fd w)=.ok .nilFunc (fd w):=by
 refine nX Tryz.underlying243 Tryz.underlying3 (fd w) w.heap.size (d_ 9) 9 _ _ (heap_alloc_new w _) ?_ ?_
 ·have hz:∀ W:World,(zeroValue 242).run Tryz.prog W=.ok .nilFunc W:=fun W=>by kernel_rfl
  exact hz _
 ·have hn:∀ j:Int,4≤j→j≤12→(op == j)=false:=fun j h1 h2=>beq_eq_false_iff_ne.mpr (by omega)
  simp[d_,Ce,List.range_succ,Instr.findNow,Instr.sameNow,hn]
theorem Ae (W:World):(binOp .eql 242 Value.nilFunc .nilFunc).run Tryz.prog W=.ok (.bool true) W:=by kernel_rfl
theorem ri (f:Nat) (W:World):(binOp .eql 242 (.func (.func f) #[] #[]) .nilFunc).run Tryz.prog W=.ok (.bool false) W:=by kernel_rfl
theorem cQ (w:World):Below w.heap.size w (fd w):=ae (Below.refl _ _) _
theorem uk (a b:Int) (w:World):Calls Tryz.prog 122 #[.int .i64 a,.int .i64 b] w fun e w'=>e=.returned (.int .i64 (wrap64 (a+b)))∧w=w':=by
 go_enter Tryz.func122,Tryz.ntmps122
 go_wp2
 go_ret
 exact⟨rfl,rfl⟩
theorem uj (a b:Int) (w:World):Calls Tryz.prog 123 #[.int .i64 a,.int .i64 b] w fun e w'=>e=.returned (.int .i64 (wrap64 (a - b)))∧w=w':=by
 go_enter Tryz.func123,Tryz.ntmps123
 go_wp2
 go_ret
 exact⟨rfl,rfl⟩
theorem ui (a b:Int) (w:World):Calls Tryz.prog 124 #[.int .i64 a,.int .i64 b] w fun e w'=>e=.returned (.int .i64 (wrap64 (a * b)))∧w=w':=by
 go_enter Tryz.func124,Tryz.ntmps124
 go_wp2
 go_ret
 exact⟨rfl,rfl⟩
theorem ug (a b:Int) (w:World):Calls Tryz.prog 126 #[.int .i64 a,.int .i64 b] w fun e w'=>e=.returned (.int .i64 (Go.bits .and .i64 a b))∧w=w':=by
 go_enter Tryz.func126,Tryz.ntmps126
 go_wp2
 go_ret
 exact⟨rfl,rfl⟩
theorem uf (a b:Int) (w:World):Calls Tryz.prog 127 #[.int .i64 a,.int .i64 b] w fun e w'=>e=.returned (.int .i64 (Go.bits .or .i64 a b))∧w=w':=by
 go_enter Tryz.func127,Tryz.ntmps127
 go_wp2
 go_ret
 exact⟨rfl,rfl⟩
theorem ue (a b:Int) (w:World):Calls Tryz.prog 128 #[.int .i64 a,.int .i64 b] w fun e w'=>e=.returned (.int .i64 (Go.bits .xor .i64 a b))∧w=w':=by
 go_enter Tryz.func128,Tryz.ntmps128
 go_wp2
 go_ret
 exact⟨rfl,rfl⟩
theorem uh (a b:Int) (w:World) (hb:¬ b=0):Calls Tryz.prog 125 #[.int .i64 a,.int .i64 b] w fun e w'=>e=.returned (.int .i64 (wrap64 (Int.tdiv a b)))∧w=w':=by
 go_enter Tryz.func125,Tryz.ntmps125
 go_wp2
 go_ret
 exact⟨rfl,rfl⟩
theorem qm (w:World):Calls Tryz.prog 130 #[.bool true] w fun e w'=>e=.returned (.int .i64 1)∧w=w':=by
 go_enter Tryz.func130,Tryz.ntmps130
 go_wp2
 go_ret
 exact⟨rfl,rfl⟩
theorem oY (w:World):Calls Tryz.prog 130 #[.bool false] w fun e w'=>e=.returned (.int .i64 0)∧w=w':=by
 go_enter Tryz.func130,Tryz.ntmps130
 go_wp2
 go_ret
 exact⟨rfl,rfl⟩
theorem ud (a b:Int) (w:World):Calls Tryz.prog 129 #[.int .i64 a,.int .i64 b] w fun e w'=>e=.returned (.int .i64 (if a < b then 1 else 0))∧w=w':=by
 by_cases h:a < b
 ·rw[if_pos h]
  have h2:decide (a < b)=true:=decide_eq_true h
  clear h
  go_enter Tryz.func129,Tryz.ntmps129
  go_wp2_with (go_at_call 130;refine(qm _).mono ?_;rintro e w' ⟨rfl,rfl⟩)
  go_ret
  exact⟨rfl,rfl⟩
 ·rw[if_neg h]
  have h2:decide (a < b)=false:=decide_eq_false h
  clear h
  go_enter Tryz.func129,Tryz.ntmps129
  go_wp2_with (go_at_call 130;refine(oY _).mono ?_;rintro e w' ⟨rfl,rfl⟩)
  go_ret
  exact⟨rfl,rfl⟩
theorem uc (a b:Int) (w:World):Calls Tryz.prog 131 #[.int .i64 a,.int .i64 b] w fun e w'=>e=.returned (.int .i64 (if a=b then 1 else 0))∧w=w':=by
 by_cases h:a=b
 ·rw[if_pos h]
  have h2:(a == b)=true:=beq_iff_eq.mpr h
  clear h
  go_enter Tryz.func131,Tryz.ntmps131
  go_wp2_with (go_at_call 130;refine(qm _).mono ?_;rintro e w' ⟨rfl,rfl⟩)
  go_ret
  exact⟨rfl,rfl⟩
 ·rw[if_neg h]
  have h2:(a == b)=false:=beq_eq_false_iff_ne.mpr h
  clear h
  go_enter Tryz.func131,Tryz.ntmps131
  go_wp2_with (go_at_call 130;refine(oY _).mono ?_;rintro e w' ⟨rfl,rfl⟩)
  go_ret
  exact⟨rfl,rfl⟩
theorem num_Do.calls (a0:Int) (a1:Int) (a2:Int) (r1:Int) (r2:Int) (w:World) (h:num_Do.f a0 a1 a2=some (r1,r2)) :
  Calls Tryz.prog 111 #[.int .i64 a0,.int .i64 a1,.int .i64 a2] w fun e w'=>e=.returned (.tuple #[.int .i64 r1,.int .i64 r2])∧Below w.heap.size w w':=by
 by_cases hin:a0 < 4∨12 < a0
 ·have hl:=mf w a0 hin
  have hv:num_Do.v a0 a1 a2=(0,2):=by
   unfold num_Do.v
   rw[if_neg (by omega),if_neg (by omega),if_neg (by omega),if_neg (by omega),if_neg (by omega),if_neg (by omega),if_neg (by omega),if_neg (by omega),if_neg (by omega)]
  unfold num_Do.f at h
  rw[hv] at h
  simp only[Option.some.injEq,Prod.mk.injEq] at h
  obtain⟨rfl,rfl⟩:=h
  have hn:=Ae
  clear hv hin
  go_enter Tryz.func111,Tryz.ntmps111
  go_wp2_with (go_at_call 120;refine(dK _).mono ?_;rintro e w' ⟨rfl,rfl⟩)
  go_ret2
  exact⟨rfl,cQ _⟩
 ·have hn:=ri
  have h12:a0=4∨a0=5∨a0=6∨a0=7∨a0=8∨a0=9∨a0=10∨a0=11∨a0=12:=by omega
  rcases h12 with rfl | rfl | rfl | rfl | rfl | rfl | rfl | rfl | rfl
  ·have hl:=dh w 0 4 122 rfl rfl rfl
   replace h:some ((wrap64 (a1+a2),0):Int × Int)=some (r1,r2):=h
   simp only[Option.some.injEq,Prod.mk.injEq] at h
   obtain⟨rfl,rfl⟩:=h
   go_enter Tryz.func111,Tryz.ntmps111
   go_wp2_with (first | (go_at_call 120;refine(dK _).mono ?_;rintro e w' ⟨rfl,rfl⟩) | (go_at_call 122;refine(uk _ _ _).mono ?_;rintro e w' ⟨rfl,rfl⟩))
   go_ret2
   exact⟨rfl,cQ _⟩
  ·have hl:=dh w 1 5 123 rfl rfl rfl
   replace h:some ((wrap64 (a1 - a2),0):Int × Int)=some (r1,r2):=h
   simp only[Option.some.injEq,Prod.mk.injEq] at h
   obtain⟨rfl,rfl⟩:=h
   go_enter Tryz.func111,Tryz.ntmps111
   go_wp2_with (first | (go_at_call 120;refine(dK _).mono ?_;rintro e w' ⟨rfl,rfl⟩) | (go_at_call 123;refine(uj _ _ _).mono ?_;rintro e w' ⟨rfl,rfl⟩))
   go_ret2
   exact⟨rfl,cQ _⟩
  ·have hl:=dh w 2 6 124 rfl rfl rfl
   replace h:some ((wrap64 (a1 * a2),0):Int × Int)=some (r1,r2):=h
   simp only[Option.some.injEq,Prod.mk.injEq] at h
   obtain⟨rfl,rfl⟩:=h
   go_enter Tryz.func111,Tryz.ntmps111
   go_wp2_with (first | (go_at_call 120;refine(dK _).mono ?_;rintro e w' ⟨rfl,rfl⟩) | (go_at_call 124;refine(ui _ _ _).mono ?_;rintro e w' ⟨rfl,rfl⟩))
   go_ret2
   exact⟨rfl,cQ _⟩
  ·have hl:=dh w 3 7 125 rfl rfl rfl
   by_cases hb:a2=0
   ·subst hb
    replace h:some ((0,3):Int × Int)=some (r1,r2):=h
    simp only[Option.some.injEq,Prod.mk.injEq] at h
    obtain⟨rfl,rfl⟩:=h
    go_enter Tryz.func111,Tryz.ntmps111
    go_wp2_with (go_at_call 120;refine(dK _).mono ?_;rintro e w' ⟨rfl,rfl⟩)
    go_ret2
    exact⟨rfl,cQ _⟩
   ·replace h:some (if a2=0 then ((0,3):Int × Int) else (wrap64 (Int.tdiv a1 a2),0))=some (r1,r2):=h
    rw[if_neg hb] at h
    simp only[Option.some.injEq,Prod.mk.injEq] at h
    obtain⟨rfl,rfl⟩:=h
    have hb2:(a2 == 0)=false:=beq_eq_false_iff_ne.mpr hb
    have HB:=ak_ hb
    clear hb
    go_enter Tryz.func111,Tryz.ntmps111
    go_wp2_with (first | (go_at_call 120;refine(dK _).mono ?_;rintro e w' ⟨rfl,rfl⟩) | (go_at_call 125;refine(uh _ _ _ HB.out).mono ?_;rintro e w' ⟨rfl,rfl⟩))
    go_ret2
    exact⟨rfl,cQ _⟩
  ·have hl:=dh w 4 8 126 rfl rfl rfl
   replace h:some ((Go.bits .and .i64 a1 a2,0):Int × Int)=some (r1,r2):=h
   simp only[Option.some.injEq,Prod.mk.injEq] at h
   obtain⟨rfl,rfl⟩:=h
   go_enter Tryz.func111,Tryz.ntmps111
   go_wp2_with (first | (go_at_call 120;refine(dK _).mono ?_;rintro e w' ⟨rfl,rfl⟩) | (go_at_call 126;refine(ug _ _ _).mono ?_;rintro e w' ⟨rfl,rfl⟩))
   go_ret2
   exact⟨rfl,cQ _⟩
  ·have hl:=dh w 5 9 127 rfl rfl rfl
   replace h:some ((Go.bits .or .i64 a1 a2,0):Int × Int)=some (r1,r2):=h
   simp only[Option.some.injEq,Prod.mk.injEq] at h
   obtain⟨rfl,rfl⟩:=h
   go_enter Tryz.func111,Tryz.ntmps111
   go_wp2_with (first | (go_at_call 120;refine(dK _).mono ?_;rintro e w' ⟨rfl,rfl⟩) | (go_at_call 127;refine(uf _ _ _).mono ?_;rintro e w' ⟨rfl,rfl⟩))
   go_ret2
   exact⟨rfl,cQ _⟩
  ·have hl:=dh w 6 10 128 rfl rfl rfl
   replace h:some ((Go.bits .xor .i64 a1 a2,0):Int × Int)=some (r1,r2):=h
   simp only[Option.some.injEq,Prod.mk.injEq] at h
   obtain⟨rfl,rfl⟩:=h
   go_enter Tryz.func111,Tryz.ntmps111
   go_wp2_with (first | (go_at_call 120;refine(dK _).mono ?_;rintro e w' ⟨rfl,rfl⟩) | (go_at_call 128;refine(ue _ _ _).mono ?_;rintro e w' ⟨rfl,rfl⟩))
   go_ret2
   exact⟨rfl,cQ _⟩
  ·have hl:=dh w 7 11 129 rfl rfl rfl
   replace h:some ((if a1 < a2 then 1 else 0,0):Int × Int)=some (r1,r2):=h
   simp only[Option.some.injEq,Prod.mk.injEq] at h
   obtain⟨rfl,rfl⟩:=h
   go_enter Tryz.func111,Tryz.ntmps111
   go_wp2_with (first | (go_at_call 120;refine(dK _).mono ?_;rintro e w' ⟨rfl,rfl⟩) | (go_at_call 129;refine(ud _ _ _).mono ?_;rintro e w' ⟨rfl,rfl⟩))
   all_goals (go_ret2;exact⟨rfl,cQ _⟩)
  ·have hl:=dh w 8 12 131 rfl rfl rfl
   replace h:some ((if a1=a2 then 1 else 0,0):Int × Int)=some (r1,r2):=h
   simp only[Option.some.injEq,Prod.mk.injEq] at h
   obtain⟨rfl,rfl⟩:=h
   go_enter Tryz.func111,Tryz.ntmps111
   go_wp2_with (first | (go_at_call 120;refine(dK _).mono ?_;rintro e w' ⟨rfl,rfl⟩) | (go_at_call 131;refine(uc _ _ _).mono ?_;rintro e w' ⟨rfl,rfl⟩))
   all_goals (go_ret2;exact⟨rfl,cQ _⟩)
end
end Go.Proofs.YtlinbehijfcelaaGreatDoor.Top
