/- Walks of the program, and what it computes, told plainly. No condition. (UK UL UM UN UO UPA UP UQ) -/
import Derived.Test.YtlinbehijfcelaaGreatDoorPF
import Derived.StillTailTactics
set_option linter.unusedVariables false
set_option linter.unusedSimpArgs false
set_option linter.unusedSectionVars false
set_option maxHeartbeats 8000000
set_option maxRecDepth 100000
namespace Go.Proofs.YtlinbehijfcelaaGreatDoor.Top
open Go.RowKit Go.Proofs.YtlinbehijfcelaaGreatDoorW.PrintWords Go.Proofs.YtlinbehijfcelaaGreatDoorW.PrintLast
theorem CC:(Tryz.prog.info? 4).map (fun i=>(i.zero,i.size,i.bytes))=some (some (.bool false),1,1):=by kernel_rfl
theorem ax {P:Program} {ops:Array Oper} {rest:List Oper} {o:Oper} {a:Act} {W W':World} {Q:Exit→Act→World→Prop} (hw:Region.wanted o (yielded ops a.tmps)=true) (v:Value) (hrun:(execOp a.eval o).run P W=.ok (.value v) W') (h:wpList P ops Q rest (a.put o.dst v) W'):wpList P ops Q (o :: rest) a W:=by
 unfold wpList
 rw[if_pos hw]
 refine .inl ?_
 unfold Oper.wp
 rw[hrun]
 exact h
theorem uu {W:World} {g:Nat} {bs:List Bool} (h:W.heap[g]?=some (.cells (bs.map Value.bool).toArray 4 (0,0))) (hl:bs.length≤9223372036854775807):Kd.C Kd.bool W (some ⟨g,0,none⟩) bs.length bs:=by
 refine Kd.C_of_reads (d:=false) (h1:=fun _=>rfl) ⟨rfl,hl,fun _=>⟨_,rfl,fun j hj=>?_⟩⟩
 rw[Addr.add_mid,Nat.zero_add,ap h]
 simp[List.getElem?_map,hj,List.getD_eq_getElem?_getD]
structure tj (w W:World) (S:bj) (A:Option Addr) (c:Nat) (bs:List Bool):Prop where
 b:Below w.heap.size w W
 s:W.heap[w.heap.size]?=some (.cells (S.entry.cells++[Value.slice A S.nodes.length c]).toArray 119 (0,0))
 g:W.heap[w.heap.size+1]?=some (.cells (bs.map Value.bool).toArray 4 (0,0))
theorem tj.below {w W W':World} {S:bj} {A:Option Addr} {c:Nat} {bs:List Bool} (h:tj w W S A c bs) (hb:Below W.heap.size W W'):tj w W' S A c bs:=⟨af h.b hb,ag h.s hb,ag h.g hb⟩
theorem tj.set {w W:World} {S:bj} {A:Option Addr} {c:Nat} {bs:List Bool} (h:tj w W S A c bs) (p:Nat) (b:Bool):tj w (W.setCell ⟨w.heap.size+1,p,none⟩ (.bool b)) S A c (bs.set p b):=
 ⟨h.b.setCell (by show w.heap.size≤w.heap.size+1;omega) _,a8 h.s (p:=⟨w.heap.size+1,p,none⟩) (by show w.heap.size≠w.heap.size+1;omega) _,by rw[List.map_set];exact aJ h.g p _⟩
theorem yO {nodes:List aH} {n:Nat} {x:aH} (hx:nodes[n]?=some x) (c0:List Bool):fB (nodes.take (n+1)) c0=(fB (nodes.take n) c0).set x.at_.toNat (decide (x.outs.length=0)):=by
 obtain⟨h,e⟩:=List.getElem?_eq_some_iff.1 hx
 rw[List.take_succ_eq_append_getElem h,e]
 unfold fB
 rw[List.foldl_append]
 rfl
theorem pJ (f:List In) (cut:List Bool) (S:bj) (hSk:S=a9 f cut) (A Af:Option Addr) (c cf:Nat) (w:World) (hG:Gl w) (hC:Kd.C dl w A S.nodes.length S.nodes) (hF:Kd.C kIn w Af f.length f) (hcf:f.length≤cf) (hr:bi f=true) :
  Calls Tryz.prog 80 #[.slice Af f.length cf,nr S A c] w fun e w'=>e=.returned (.bool true)∧Below w.heap.size w w':=by
 have hok:=iz (bN hr) cut
 have hwy:=fp f cut
 have hag:=tA (bN hr) cut
 rw[←hSk] at hok hwy hag
 have HOk:=ak_ hok
 have HWy:=ak_ hwy
 have HAg:=ak_ hag
 have HR:=ak_ (bN hr)
 have HC:=ak_ hC
 have HF:=ak_ hF
 have HG:=ak_ hG
 have Hcf:=ak_ hcf
 have Hr:=ak_ hr
 have hl200:=(bN hr).len
 have hn200:S.nodes.length≤200:=by have:=hok.len;omega
 have hmk:=run_make_row' (P:=Tryz.prog) 71 4 (.bool false) 1 Tryz.underlying71 CC rfl .i64 .i64 f.length (by omega) (by omega)
 have HMk:=ak_ hmk
 unfold nr
 clear hok hwy hag hC hF hG hcf hr hSk hmk
 go_enter Tryz.func80,Tryz.ntmps80
 go_upto_region 1 with fail
 obtain⟨w1,hw1⟩:∃ w1,w1=w.alloc (.cells (S.entry.cells++[Value.slice A S.nodes.length c]).toArray 119):=⟨_,rfl⟩
 have h1:w1.heap[w.heap.size]?=some (.cells (S.entry.cells++[Value.slice A S.nodes.length c]).toArray 119 (0,0)):=by rw[hw1];exact heap_alloc_new w _
 have hb1:Below w.heap.size w w1:=by rw[hw1];exact ae (Below.refl _ _) _
 have hsz:w1.heap.size=w.heap.size+1:=by rw[hw1];simp
 refine ar hw1.symm ?_
 have H1:=ak_ h1
 have HB1:=ak_ hb1
 clear hw1 h1 hb1
 go_upto_region 2 with (first
  | ((with_reducible refine aj (N:=16) rfl ?_);refine fM rfl 71 _ _ rfl _ _ _ rfl rfl (HMk.out _) ?_))
 obtain⟨w2,hw2⟩:∃ w2,w2=w1.alloc (.cells (madeCells #[.bool false] f.length) 4):=⟨_,rfl⟩
 have hst:tj w w2 S A c (List.replicate f.length false):=by
  refine⟨by rw[hw2];exact ae HB1.out _,by rw[hw2];exact aK H1.out _,?_⟩
  have:=heap_alloc_new w1 (.cells (madeCells #[.bool false] f.length) 4)
  rw[gh] at this
  rw[hw2,gh,←hsz,List.map_replicate]
  exact this
 refine ar hw2.symm ?_
 have HSt:=ak_ hst
 have c25:=(show w2.cell? ⟨w.heap.size,25,none⟩=some (.slice A S.nodes.length c) by rw[ap hst.s,List.getElem?_append_right (by rw[aU.len];exact Nat.le_refl _),aU.len];rfl)
 clear hw2 hst hsz H1 HB1
 go_wp2
 go_loopw [20] (fun i wr=>∃ n:Nat,i=.int .i64 n∧aa (n≤S.nodes.length∧tj w wr S A c (fB (S.nodes.take n) (List.replicate f.length false)))) (fun i _=>S.nodes.length - (intOf i).toNat)
 case atStart=>exact⟨0,rfl,⟨⟨Nat.zero_le _,HSt.out⟩⟩⟩
 case round=>
  obtain⟨n,rfl,HL⟩:=hrel
  obtain⟨hn,hW⟩:=HL.out
  by_cases hlt:n < S.nodes.length
  ·have hlt':(n:Int) < (S.nodes.length:Int):=by omega
   obtain⟨x,hx⟩:∃ x,S.nodes[n]?=some x:=⟨_,List.getElem?_eq_getElem hlt⟩
   have hxa:=HOk.out.at_ x (List.mem_of_getElem? hx)
   obtain⟨ad,cs,rfl,hK,hld⟩:=aW (P:=Tryz.prog) HC.out hW.b n hlt x hx 142 Tryz.underlying142 rfl ka
   obtain⟨vO,rfl,AO,cO,rfl,hlO,hCO⟩:=fx hK
   have hcu:=yO hx (List.replicate f.length false)
   obtain⟨xa,xo⟩:=x
   simp only at hxa hld hcu hlO hCO
   obtain⟨p,rfl⟩:∃ p:Nat,xa=p:=⟨xa.toNat,by omega⟩
   simp only[Int.toNat_natCast] at hcu
   have hpf:(p:Int) < (f.length:Int):=by omega
   have hg1:w.heap.size+1 < wr.heap.size:=ai hW.g
   have hlen:p < (fB (S.nodes.take n) (List.replicate f.length false)).length:=by rw[ph,List.length_replicate];omega
   obtain⟨b0,hb0⟩:∃ b0,(fB (S.nodes.take n) (List.replicate f.length false))[p]?=some b0:=⟨_,List.getElem?_eq_getElem hlen⟩
   have gc:=(show wr.cell? ⟨w.heap.size+1,p,none⟩=some (.bool b0) by rw[ap hW.g,List.getElem?_map,hb0];rfl)
   have gf:=aq hW.g p
   have HW:=ak_ hW
   have HLd:=ak_ hld
   have HCu:=ak_ hcu
   have HLt:=ak_ hlt
   obtain⟨bz,hbz⟩:=nm_ (decide (xo.length=0))
   have qz:((xo.length:Int) == 0)=bz:=by rw[hbz];by_cases h0:xo.length=0 <;> simp[h0]
   rw[←hbz] at HCu
   clear hW hld hcu hlt hn HL hK hCO hx hxa hlen hb0 hbz
   go_wp2_with (first
    | ((with_reducible refine aj (N:=23) rfl ?_);refine au rfl 142 _ rfl (ad.add (n * 2)) rfl _ HLd.out ?_))
   go_roundw
   case rel=>exact⟨n+1,by go_num,⟨⟨HLt.out,by rw[HCu.out];exact(HW.out.set p bz).below (ae (Below.refl _ _) _)⟩⟩⟩
   case measure=>have:=HLt.out;simp[intOf];omega
  ·obtain rfl:n=S.nodes.length:=by omega
   rw[List.take_length] at hW
   have HW:=ak_ hW
   clear hW hn HL
   obtain⟨cu,hcu⟩:=nm_ (fB S.nodes (List.replicate f.length false))
   have hcl:cu.length=f.length:=by rw[hcu,ph,List.length_replicate]
   have hagc:=HAg.out
   rw[←hcu] at HW hagc
   have hBd:=fun (W:World) (hG:Gl W) (hC:Kd.C kIn W Af f.length f) (hK:Kd.C Kd.bool W (some ⟨w.heap.size+1,0,none⟩) cu.length cu)=>tB f cu Af (some ⟨w.heap.size+1,0,none⟩) cf f.length W hG hC Hcf.out hK Hr.out
   rw[hagc,hcl] at hBd
   have HBd:=ak_ hBd
   have HBC:=ak_ (uu HW.out.g (by omega))
   rw[hcl] at HBC
   clear hBd hagc hcl hcu
   go_upto_region 10 with (first
    | (go_at_call 49;refine(HBd.out _ (HG.out.below HW.out.b) (Kd.C_below HF.out HW.out.b) HBC.out).mono ?_;rintro e w4 ⟨vN,rfl,hrd,hb⟩;have HW4:=ak_ (HW.out.below hb);have HRd:=ak_ hrd;clear hrd hb)
    | ((with_reducible refine ao (t:=119) (p:=8) rfl ?_);obtain⟨AN,cN,rfl,hcN,hCN⟩:=HRd.out;refine an rfl 119 _ _ rfl w4.heap.size (S.entry.cells++[Value.slice AN S.nodes.length cN]).toArray rfl rfl 119 fq.toArray (heap_alloc_last w4 _) (dH _ _) (skz.trans (jQ _ _).symm) (qK _) ?_;intro w5 h5 hf5;have HCN:=ak_ (Kd.C_below hCN (bV hf5));have H5:=ak_ h5;have HW5:=ak_ (HW4.out.below (bV hf5));clear h5 hf5 hCN hcN))
   have c25':=(show w5.cell? ⟨w.heap.size,25,none⟩=some (.slice A S.nodes.length c) by rw[ap HW5.out.s,List.getElem?_append_right (by rw[aU.len];exact Nat.le_refl _),aU.len];rfl)
   have d25:=(show w5.cell? ⟨w4.heap.size,25,none⟩=some (.slice AN S.nodes.length cN) by rw[ap H5.out,List.getElem?_append_right (by rw[aU.len];exact Nat.le_refl _),aU.len];rfl)
   go_upto_region 12 with (first
    | ((with_reducible refine aj (N:=62) rfl ?_);refine ax rfl _ (al rfl rfl (li H5.out)) ?_)
    | ((with_reducible refine aj (N:=64) rfl ?_);refine ax rfl _ (al rfl rfl (li HW5.out.s)) ?_)
    | ((with_reducible refine aj (N:=65) rfl ?_);refine ax rfl _ (uT rfl rfl rfl HWy.out.2.t.len (uD.of_ok HWy.out.2.t.ok) w5) ?_))
   go_wp2
   go_loopw [70] (fun i wr=>∃ n:Nat,i=.int .i64 n∧aa (n≤S.nodes.length∧Below w5.heap.size w5 wr)) (fun i _=>S.nodes.length - (intOf i).toNat)
   case atStart=>exact⟨0,rfl,⟨⟨Nat.zero_le _,Below.refl _ _⟩⟩⟩
   case round=>
    obtain⟨n,rfl,HL⟩:=hrel
    obtain⟨hn,hB⟩:=HL.out
    by_cases hlt:n < S.nodes.length
    ·have hlt':(n:Int) < (S.nodes.length:Int):=by omega
     obtain⟨x,hx⟩:∃ x,S.nodes[n]?=some x:=⟨_,List.getElem?_eq_getElem hlt⟩
     obtain⟨ad,cs,rfl,_,hK,hcs⟩:=bX HC.out n hlt x hx
     obtain⟨vO,rfl,AO,cO,rfl,hlO,hCO⟩:=fx hK
     obtain⟨ad',cs',rfl,hK',hld'⟩:=aW (P:=Tryz.prog) HCN.out hB n hlt x hx 142 Tryz.underlying142 rfl ka
     obtain⟨vO',rfl,AO',cO',rfl,hlO',hCO'⟩:=fx hK'
     have hxa:=HOk.out.at_ x (List.mem_of_getElem? hx)
     have hxo:=fun o (h:o∈x.outs)=>HWy.out.1.ok x (List.mem_of_getElem? hx) o h
     have hfew:=HWy.out.1.few x (List.mem_of_getElem? hx)
     have hvo:w.cell? ⟨(ad.add (n * 2)).block,(ad.add (n * 2)).off+1,none⟩=some (.slice AO x.outs.length cO):=by
      rw[←fV _ _ 1 (by omega)]
      exact hcs 1 _ rfl
     have hva:w.cell? (ad.add (n * 2))=some (.int .i64 x.at_):=hcs 0 _ rfl
     have HVO:=ak_ hvo
     have HVA:=ak_ hva
     have HB:=ak_ hB
     have HLd':=ak_ hld'
     have HCO:=ak_ hCO
     have HCO':=ak_ hCO'
     have HXo:=ak_ hxo
     have HLt:=ak_ hlt
     have hfew':(x.outs.length:Int)≤2:=by omega
     clear hvo hva hld' hCO hCO' hxo hB hK hK' hcs hx hlt hn HL hfew hxa
     go_upto_region 15 with (first
      | ((with_reducible refine aj (N:=74) rfl ?_);refine au rfl 142 _ rfl (ad'.add (n * 2)) rfl _ HLd'.out ?_))
     obtain⟨w7,hw7⟩:∃ w7,w7=wr.alloc (.cells #[.int .i64 x.at_,.slice AO' x.outs.length cO'] 142):=⟨_,rfl⟩
     have hb7:Below w5.heap.size w5 w7:=by rw[hw7];exact af HB.out (ae (Below.refl _ _) _)
     have h7:w7.heap[wr.heap.size]?=some (.cells #[.int .i64 x.at_,.slice AO' x.outs.length cO'] 142 (0,0)):=by rw[hw7];exact heap_alloc_last wr _
     refine ar hw7.symm ?_
     have HB7:=ak_ hb7
     have H7:=ak_ h7
     have HW7:=ak_ (HW5.out.below hb7)
     have f0:=(show w7.cell? ⟨wr.heap.size,0,none⟩=some (.int .i64 x.at_) by rw[ah h7];rfl)
     have f1:=(show w7.cell? ⟨wr.heap.size,1,none⟩=some (.slice AO' x.outs.length cO') by rw[ah h7];rfl)
     have f25:=ak hb7 c25'
     have fa:=ak HW7.out.b HVA.out
     have fo:=ak HW7.out.b HVO.out
     have qa:(x.at_ != x.at_)=false:=by simp
     have ql:((x.outs.length:Int) != (x.outs.length:Int))=false:=by simp
     clear hw7 hb7 h7
     go_quiet (fail)
     go_upto_region 18 with fail
     obtain⟨wo,rfl⟩:=nm_ wr
     go_loopw [100] (fun j wr=>∃ k:Nat,j=.int .i64 k∧aa (k≤x.outs.length∧Below w7.heap.size w7 wr)) (fun j _=>x.outs.length - (intOf j).toNat)
     case atStart=>exact⟨0,rfl,⟨⟨Nat.zero_le _,aI (Below.refl _ _) _⟩⟩⟩
     case round=>
      obtain⟨k,rfl,HL⟩:=hrel
      obtain⟨hk,hB⟩:=HL.out
      by_cases hkl:k < x.outs.length
      ·have hkl':(k:Int) < (x.outs.length:Int):=by omega
       obtain⟨o,ho⟩:∃ o,x.outs[k]?=some o:=⟨_,List.getElem?_eq_getElem hkl⟩
       have hot:=(HXo.out o (List.mem_of_getElem? ho)).t
       obtain⟨ad2,cs2,rfl,_,_⟩:=aW (P:=Tryz.prog) HCO.out (Below.refl _ _) k hkl o ho 116 Tryz.underlying116 rfl fZ
       obtain⟨ad2',cs2',rfl,hK2,hld2⟩:=aW (P:=Tryz.prog) HCO'.out (af HB7.out hB) k hkl o ho 116 Tryz.underlying116 rfl fZ
       obtain rfl:cs2'=o.cells:=hK2
       obtain⟨w8,rfl⟩:=nm_ wr
       have hk2:k≤2:=by omega
       have HLd2:=ak_ hld2
       have HB8:=ak_ hB
       have HKl:=ak_ hkl
       have HOx:=ak_ ho
       have HOt:=ak_ hot
       clear hld2 hB hkl ho hot hk HL
       go_upto_region 20 with (first
        | ((with_reducible refine aj (N:=104) rfl ?_);refine au rfl 116 _ rfl (ad2'.add (k * 25)) rfl _ HLd2.out ?_)
        | ((with_reducible refine ao (t:=116) (p:=13) rfl ?_);refine an rfl 116 _ _ rfl w8.heap.size o.cells.toArray rfl rfl 116 (aU.cells ⟨0,bo⟩).toArray (heap_alloc_last w8 _) (dq o) (by simp[aU.len]) (gJ o) ?_;intro w9 h9 hf9;have HB9:=ak_ (af HB8.out (bV hf9));have HW9:=ak_ (HW7.out.below HB9.out);have H9:=ak_ h9;clear h9 hf9))
       have F25:=ak_ (ak HB9.out f25)
       have FO:=ak_ (ak HB9.out fo)
       have HA117:=ak_ (show ∀ W,(isAgg 117).run Tryz.prog W=.ok false W from fun W=>by kernel_rfl)
       have HA140:=ak_ (show ∀ W,(isAgg 140).run Tryz.prog W=.ok false W from fun W=>by kernel_rfl)
       have HN1:=ak_ hlt'
       have HK1:=ak_ hkl'
       clear f0 f1 f25 fa fo qa ql hlt' hkl'
       refine f_ [(105,.agg o.cells.toArray),(106,.pointer (some ⟨w.heap.size,25,none⟩)),(107,.slice (some ad) S.nodes.length c),(108,.int .i64 (n:Int)),(109,.pointer (some (ad.add (n * 2)))),(110,.pointer (some ⟨(ad.add (n * 2)).block,(ad.add (n * 2)).off+1,none⟩)),(111,.slice (some ad2) x.outs.length cO),(112,.int .i64 (k:Int)),(113,.pointer (some (ad2.add (k * 25)))),(114,.agg o.cells.toArray),(115,.bool false)]
        (fun L W=>Fr (fun _=>False) w9 W) (by kernel_rfl) (by kernel_rfl) (by kernel_rfl) ?_
       intro aF haF
       simp only[bd,Act.put,List.setIfInBounds_toArray,List.set_cons_succ,List.set_cons_zero] at haF
       subst haF
       refine⟨?_,⟨rfl,rfl,rfl,Nat.le_refl _,fun _ _ _=>rfl⟩,?_⟩
       ·intro j o2 ho L W hc hr hst
        rcases j with _ | _ | _ | _ | _ | _ | _ | _ | _ | _ | _ | j
        ·obtain rfl:=Option.some.inj ho
         exact pA rfl 116 _ rfl w8.heap.size rfl 116 o.cells.toArray (0,0) _ ((hst.block _ (ai H9.out) (fun h=>h)).trans H9.out) Tryz.underlying116 rfl (dq o) rfl hst
        ·obtain rfl:=Option.some.inj ho
         exact aD rfl (by go_simp) rfl hst
        ·obtain rfl:=Option.some.inj ho
         exact aD rfl (al rfl rfl (aE (HA117.out W) (hst.cell_at F25.out (fun h=>h)))) rfl hst
        ·obtain rfl:=Option.some.inj ho
         exact aD rfl (by go_simp) rfl hst
        ·obtain rfl:=Option.some.inj ho
         exact aD rfl (by have z1:=HN1.out;go_simp) rfl hst
        ·obtain rfl:=Option.some.inj ho
         exact aD rfl (by go_simp) rfl hst
        ·obtain rfl:=Option.some.inj ho
         exact aD rfl (al rfl rfl (aE (HA140.out W) (hst.cell_at FO.out (fun h=>h)))) rfl hst
        ·obtain rfl:=Option.some.inj ho
         exact aD rfl (by go_simp) rfl hst
        ·obtain rfl:=Option.some.inj ho
         exact aD rfl (by have z1:=HK1.out;go_simp) rfl hst
        ·obtain rfl:=Option.some.inj ho
         obtain⟨ad3,cs3,q1,q2,q3⟩:=aW (P:=Tryz.prog) HCO.out (Fr.below (S:=fun _=>False) HW9.out.b hst (fun k hk h=>h) HW9.out.b.size) k HKl.out o HOx.out 116 Tryz.underlying116 rfl fZ
         injection q1 with q1
         subst q1
         obtain rfl:cs3=o.cells:=q2
         exact aD rfl (al rfl rfl q3) rfl hst
        ·obtain rfl:=Option.some.inj ho
         exact aD rfl (uT rfl rfl rfl HOt.out.len (uD.of_ok HOt.out.ok) W) rfl hst
        ·exact absurd (Array.getElem?_eq_some_iff.1 ho).1 (by simp)
       ·intro L W hall hst
        have HBW:=ak_ (Fr.below (S:=fun _=>False) HB9.out hst (fun k hk h=>h) HB9.out.size)
        clear hst hall
        go_wp2
        go_roundw
        case rel=>exact⟨k+1,by go_num,⟨⟨HKl.out,HBW.out⟩⟩⟩
        case measure=>have:=HKl.out;simp[intOf];omega
      ·obtain rfl:k=x.outs.length:=by omega
       have HB8:=ak_ (af HB7.out hB)
       clear hB hk HL
       go_wp2
       go_roundw
       case rel=>exact⟨n+1,by go_num,⟨⟨HLt.out,HB8.out⟩⟩⟩
       case measure=>have:=HLt.out;simp[intOf];omega
    ·obtain rfl:n=S.nodes.length:=by omega
     have HB:=ak_ (HW5.out.below hB)
     clear hB hn HL
     go_wp2
     go_ret
     exact⟨rfl,HB.out.b⟩
def EOk (S:bj) (m:Nat) (e:bL):Prop:=∃ o,dE S e=some o∧o.jt=(m:Int)
def uF (S:bj) (rows:List (List bL)):Prop:=∀ (m:Nat) (xs:List bL),rows[m]?=some xs→∀ e∈xs,EOk S m e
theorem sy {S:bj} {rows:List (List bL)} (h:uF S rows) {a:Int} {e:bL} {o:aU} (ho:dE S e=some o) (ha:o.jt=a):uF S (fw rows a e):=by
 unfold fw
 split
 ·rename_i hr
  intro m xs hx f hf
  by_cases hm:m=a.toNat
  ·subst hm
   rw[List.getElem?_set_self (by omega)] at hx
   obtain rfl:=Option.some.inj hx
   rcases List.mem_append.1 hf with hf | hf
   ·rw[List.getD_eq_getElem?_getD,List.getElem?_eq_getElem (by omega)] at hf
    exact h _ _ (List.getElem?_eq_getElem (by omega)) f hf
   ·rw[List.mem_singleton.1 hf]
    exact⟨o,ho,by omega⟩
  ·rw[List.getElem?_set_ne (fun q=>hm q.symm)] at hx
   exact h m xs hx f hf
 ·exact h
theorem lP {S:bj} {n:Nat} {x:aH} (hx:S.nodes[n]?=some x):∀ (l:List aU) (k:Nat) (rows:List (List bL)),x.outs.drop k=l→uF S rows→uF S (ei n l k rows)
 | [],_,_,_,h=>h
 | o :: l,k,rows,hl,h=>by
  have hk:k < x.outs.length:=by
   by_cases hk:k < x.outs.length
   ·exact hk
   ·rw[List.drop_of_length_le (by omega)] at hl;exact absurd hl (by simp)
  rw[List.drop_eq_getElem_cons hk] at hl
  injection hl with h1 h2
  simp only[ei]
  refine lP hx l (k+1) _ h2 (sy h (o:=o) ?_ rfl)
  unfold dE
  rw[if_neg (by simp only;omega),if_neg (by simp only;omega)]
  simp only[Int.toNat_natCast,hx,Option.bind_some]
  rw[List.getElem?_eq_getElem hk,h1]
theorem kK {S:bj}:∀ (l:List aH) (n:Nat) (rows:List (List bL)),S.nodes.drop n=l→uF S rows→uF S (dX l n rows)
 | [],_,_,_,h=>h
 | x :: l,n,rows,hl,h=>by
  have hn:n < S.nodes.length:=by
   by_cases hn:n < S.nodes.length
   ·exact hn
   ·rw[List.drop_of_length_le (by omega)] at hl;exact absurd hl (by simp)
  rw[List.drop_eq_getElem_cons hn] at hl
  injection hl with h1 h2
  simp only[dX]
  exact kK l (n+1) _ h2 (lP (by rw[List.getElem?_eq_getElem hn,h1]) x.outs 0 rows (by simp) h)
theorem nJ (S:bj):uF S (aX S):=by
 unfold aX
 refine kK S.nodes 0 _ (by simp) (sy (o:=S.entry) ?_ ?_ rfl)
 ·intro m xs hx e he
  have:=List.mem_of_getElem? hx
  rw[List.eq_of_mem_replicate this] at he
  exact absurd he (List.not_mem_nil)
 ·unfold dE
  simp
theorem lO (n:Nat):∀ (l:List aU) (k:Nat) (rows:List (List bL)),(ei n l k rows).length=rows.length
 | [],_,_=>rfl
 | o :: l,k,rows=>by simp only[ei];rw[lO,mI]
theorem kJ:∀ (l:List aH) (n:Nat) (rows:List (List bL)),(dX l n rows).length=rows.length
 | [],_,_=>rfl
 | x :: l,n,rows=>by simp only[dX];rw[kJ,lO]
theorem gV (S:bj):(aX S).length=S.nodes.length:=by unfold aX;rw[kJ,mI,List.length_replicate]
theorem j6 (n:Nat):∀ (l:List aU) (k B:Nat) (rows:List (List bL)),(∀ xs∈rows,xs.length≤B)→∀ xs∈ei n l k rows,xs.length≤B+l.length
 | [],_,_,_,h=>h
 | o :: l,k,B,rows,h=>by
  intro xs hx
  have:=j6 n l (k+1) (B+1) _ (iG h o.jt ((n:Int),(k:Int))) xs hx
  simp only[List.length_cons]
  omega
theorem jH:∀ (l:List aH) (n B:Nat) (rows:List (List bL)),(∀ x∈l,x.outs.length≤2)→(∀ xs∈rows,xs.length≤B)→∀ xs∈dX l n rows,xs.length≤B+2 * l.length
 | [],_,_,_,_,h=>h
 | x :: l,n,B,rows,h2,h=>by
  intro xs hx
  have hx2:=h2 x (List.mem_cons_self ..)
  have:=jH l (n+1) (B+2) _ (fun y hy=>h2 y (List.mem_cons_of_mem _ hy)) (fun ys hy=>by have:=j6 n x.outs 0 B rows h ys hy;omega) xs hx
  simp only[List.length_cons]
  omega
theorem eM {S:bj} (h2:∀ x∈S.nodes,x.outs.length≤2) (hl:S.nodes.length≤200):∀ xs∈aX S,xs.length≤401:=by
 intro xs hx
 have:=jH S.nodes 0 1 _ h2 (iG (B:=0) (fun ys hy=>by rw[List.eq_of_mem_replicate hy];exact Nat.le_refl _) S.entry.jt (-1,0)) xs hx
 omega
def dU (f:List In) (S:bj) (e:bL):List Src:=(List.range 24).map (dr f S e)
def eF (f:List In) (S:bj):List (List (List Src)):=(aX S).map fun ws=>ws.map (dU f S)
def eB:Kd Src:=Kd.flat 2 (fun s=>[.int .i64 s.kind,.int .i64 s.n]) (fun _=>rfl) (by simp[Value.oneCell'])
def k8:Kd (List Src):=Kd.slice 135 eB
def lQ:Kd (List (List Src)):=Kd.slice 143 k8
theorem lU:(Tryz.prog.info? 135).map (fun i=>(i.zero,i.size,i.bytes))=some (some (.agg #[.int .i64 0,.int .i64 0]),2,16):=by kernel_rfl
theorem uW:(Tryz.prog.info? 143).map (fun i=>(i.zero,i.size,i.bytes))=some (some (.slice none 0 0),1,24):=by kernel_rfl
theorem BY:(Tryz.prog.info? 120).map (fun i=>(i.zero,i.size,i.bytes))=some (some (.slice none 0 0),1,24):=by kernel_rfl
section
structure jG (B:Nat) (w2 W:World) (vR vN vA:Value) (row:List Src) (node:List (List Src)) (all:List (List (List Src))):Prop where
 b:Below B w2 W
 r:Kd.R eB 135 W B (fun j=>B≤j) vR row
 n:Kd.R k8 143 W B (fun j=>B≤j∧some j≠vR.ownBlock) vN node
 a:Kd.R lQ 120 W B (fun j=>(B≤j∧some j≠vN.ownBlock)∧some j≠vR.ownBlock) vA all
section
variable {B:Nat} {w2 W W':World} {vR vN vA v1:Value} {row:List Src} {node:List (List Src)} {all:List (List (List Src))}
theorem jG.below (h:jG B w2 W vR vN vA row node all) (hb:Below W.heap.size W W') (hB:B≤W.heap.size):jG B w2 W' vR vN vA row node all:=
 ⟨Fr.below h.b (Fr.of_below (S:=fun _=>False) hb) (fun _ _ q=>q) hB,Kd.R_below h.r hb,Kd.R_below h.n hb,Kd.R_below h.a hb⟩
theorem jG.appR (h:jG B w2 W vR vN vA row node all) {s:Src} (hR:Kd.R eB 135 W' B (fun j=>B≤j) v1 (row++[s])) (hb:Below B w2 W') (hg:W.grownBy W' vR.ownBlock) (hat:v1.ownBlock=vR.ownBlock∨∃ b,v1.ownBlock=some b∧W.heap.size≤b):jG B w2 W' v1 vN vA (row++[s]) node all:=
 ⟨hb,hR,Kd.R_after h.n hg hat,Kd.R_after h.a hg hat⟩
theorem jG.appN (h:jG B w2 W vR vN vA row node all) (hR:Kd.R k8 143 W' B (fun j=>B≤j) v1 (node++[row])) (hb:Below B w2 W') (hg:W.grownBy W' vN.ownBlock) (hat:v1.ownBlock=vN.ownBlock∨∃ b,v1.ownBlock=some b∧W.heap.size≤b):jG B w2 W' (.slice none 0 0) v1 vA [] (node++[row]) all:=
 ⟨hb,Kd.R_nil _ _ _ _ _,Kd.R_mono hR (fun k hk=>⟨hk,by simp[Value.ownBlock]⟩),Kd.R_mono (Kd.R_after (Kd.R_mono h.a (fun k hk=>hk.1)) hg hat) (fun k hk=>⟨hk,by simp[Value.ownBlock]⟩)⟩
theorem jG.appA (hR:Kd.R lQ 120 W' B (fun j=>B≤j) v1 (all++[node])) (hb:Below B w2 W'):jG B w2 W' (.slice none 0 0) (.slice none 0 0) v1 [] [] (all++[node]):=
 ⟨hb,Kd.R_nil _ _ _ _ _,Kd.R_nil _ _ _ _ _,Kd.R_mono hR (fun k hk=>⟨⟨hk,by simp[Value.ownBlock]⟩,by simp[Value.ownBlock]⟩)⟩
theorem jG.rowM (h:jG B w2 W vR vN vA row node all):k8.M W B (fun j=>B≤j∧some j≠vN.ownBlock) row [vR]:=
 ⟨vR,rfl,Kd.R_apartR h.r h.n (fun q hq=>by
  have:q=135:=List.mem_singleton.1 hq
  omega)⟩
theorem jG.nodeM (h:jG B w2 W vR vN vA row node all):lQ.M W B (fun j=>B≤j∧some j≠vA.ownBlock) node [vN]:=
 ⟨vN,rfl,Kd.R_apartR (Kd.R_mono h.n (fun k hk=>hk.1)) h.a (fun q hq=>by
  have:q=143∨q=135:=by rcases List.mem_cons.1 hq with e | e;exact .inl e;exact .inr (List.mem_singleton.1 e)
  omega)⟩
end
theorem mX (f:List In) (cut:List Bool) (S:bj) (hSk:S=a9 f cut) (A Af:Option Addr) (c cf:Nat) (w:World) (hG:Gl w) (hC:Kd.C dl w A S.nodes.length S.nodes) (hcN:S.nodes.length≤c) (hF:Kd.C kIn w Af f.length f) (hcf:f.length≤cf) (hr:bi f=true) :
  Calls Tryz.prog 51 #[.slice Af f.length cf,nr S A c] w fun e w'=>∃ v,e=.returned v∧Kd.R lQ 120 w' w.heap.size (fun k=>w.heap.size≤k) v (eF f S)∧Below w.heap.size w w':=by
 have hok:=iz (bN hr) cut
 have hwy:=fp f cut
 rw[←hSk] at hok hwy
 have hl200:=(bN hr).len
 have hn200:S.nodes.length≤200:=by have:=hok.len;omega
 have HBt:=ak_ (fun (W:World) (hb:Below w.heap.size w W)=>pJ f cut S hSk A Af c cf W (hG.below hb) (Kd.C_below hC hb) (Kd.C_below hF hb) hcf hr)
 have HWs:=ak_ (fun (W:World) (hb:Below w.heap.size w W)=>v_ S (.slice A S.nodes.length c) W ⟨A,c,rfl,hcN,Kd.C_below hC hb⟩ hn200 hwy.1.few)
 have HBy:=ak_ (fun (W:World) (hb:Below w.heap.size w W) (e:bL) (l:Nat) (hl:l < 24) (o:aU) (ho:dE S e=some o)=>CL f S A Af c cf e l hl W (Kd.C_below hC hb) hn200 (Kd.C_below hF hb) hok.at_ o ho)
 have HSml:=ak_ (eM hwy.1.few hn200)
 have HAll:=ak_ (nJ S)
 have hwl:(aX S).length≤200:=by rw[gV];exact hn200
 unfold nr at HBt HBy ⊢
 clear hok hwy hG hC hcN hF hcf hr hSk
 go_enter Tryz.func51,Tryz.ntmps51
 go_upto_region 1 with fail
 obtain⟨w1,hw1⟩:∃ w1,w1=w.alloc (.cells (S.entry.cells++[Value.slice A S.nodes.length c]).toArray 119):=⟨_,rfl⟩
 have h1:w1.heap[w.heap.size]?=some (.cells (S.entry.cells++[Value.slice A S.nodes.length c]).toArray 119 (0,0)):=by rw[hw1];exact heap_alloc_new w _
 have hb1:Below w.heap.size w w1:=by rw[hw1];exact ae (Below.refl _ _) _
 refine ar hw1.symm ?_
 have H1:=ak_ h1
 have HB1:=ak_ hb1
 clear hw1 h1 hb1
 go_upto_region 5 with (first
  | ((with_reducible refine aj (N:=14) rfl ?_);refine wpList_load_row rfl 119 _ rfl w.heap.size rfl 119 (S.entry.cells++[Value.slice A S.nodes.length c]).toArray (0,0) _ H1.out Tryz.underlying119 rfl (dH _ _) ?_)
  | (go_at_call 80;refine(HBt.out _ HB1.out).mono ?_;rintro e wa ⟨rfl,hb⟩;have Ha:=ak_ (ag H1.out hb);have HBa:=ak_ (af HB1.out hb);clear hb)
  | ((with_reducible refine aj (N:=17) rfl ?_);refine wpList_load_row rfl 119 _ rfl w.heap.size rfl 119 (S.entry.cells++[Value.slice A S.nodes.length c]).toArray (0,0) _ Ha.out Tryz.underlying119 rfl (dH _ _) ?_)
  | (go_at_call 52;refine(HWs.out _ HBa.out).mono ?_;rintro e w2 ⟨vW,rfl,hrd,hb⟩;obtain⟨AW,cW,rfl,hcW,hCW⟩:=hrd;have H2:=ak_ (ag Ha.out hb);have HB2:=ak_ (af HBa.out hb);have HCW:=ak_ hCW;clear hb hCW hcW))
 have hwB:aa (w.heap.size < w2.heap.size):=⟨ai H2.out⟩
 go_loopw [5,20] (fun vA j wr=>∃ m:Nat,j=.int .i64 m∧aa (m≤(aX S).length∧jG w2.heap.size w2 wr (.slice none 0 0) (.slice none 0 0) vA [] [] (((aX S).take m).map fun ws=>ws.map (dU f S)))) (fun _ j _=>(aX S).length - (intOf j).toNat)
 case atStart=>exact⟨0,rfl,⟨⟨Nat.zero_le _,⟨Below.refl _ _,Kd.R_nil _ _ _ _ _,Kd.R_nil _ _ _ _ _,Kd.R_nil _ _ _ _ _⟩⟩⟩⟩
 case round=>
  obtain⟨m,rfl,HL⟩:=hrel
  obtain⟨hm,hA⟩:=HL.out
  obtain⟨all,hal⟩:∃ all,all=((aX S).take m).map (fun ws=>ws.map (dU f S)):=⟨_,rfl⟩
  rw[←hal] at hA
  obtain⟨AA,cA,rfl⟩:=Kd.R_slice hA.a
  by_cases hlt:m < (aX S).length
  ·have hlt':(m:Int) < ((aX S).length:Int):=by omega
   obtain⟨ws,hws⟩:∃ ws,(aX S)[m]?=some ws:=⟨_,List.getElem?_eq_getElem hlt⟩
   obtain⟨ad,cs,rfl,_,hK,hcs⟩:=bX HCW.out m hlt ws hws
   obtain⟨AE,cE,rfl,hlE,hCE⟩:=hK
   have v0:wr.cell? (ad.add m)=some (.slice AE ws.length cE):=by
    have:=ak hA.b (hcs 0 _ rfl)
    rwa [show m * (Kd.slice 151 cL).sz+0=m from Nat.mul_one m] at this
   have hsm:=HSml.out ws (List.mem_of_getElem? hws)
   have hall:=HAll.out m ws hws
   have htk:((aX S).take (m+1)).map (fun ws=>ws.map (dU f S))=((aX S).take m).map (fun ws=>ws.map (dU f S))++[ws.map (dU f S)]:=by
    rw[List.take_succ_eq_append_getElem hlt,(List.getElem?_eq_some_iff.1 hws).2,List.map_append]
    rfl
   have HTk:=ak_ htk
   have HA:=ak_ hA
   have HCE:=ak_ hCE
   have HEv:=ak_ hall
   have HLt:=ak_ hlt
   have hall2:all.length≤200:=by rw[hal,List.length_map,List.length_take];omega
   rw[←hal] at HTk
   have hsm':(ws.length:Int)≤401:=by omega
   clear hws hcs hCE hall htk hA hlt hm HL hal
   go_upto_region 9 with fail
   go_loopw [8,26] (fun vN j wr=>∃ k:Nat,j=.int .i64 k∧aa (k≤ws.length∧jG w2.heap.size w2 wr (.slice none 0 0) vN (.slice AA all.length cA) [] ((ws.take k).map (dU f S)) all)) (fun _ j _=>ws.length - (intOf j).toNat)
   case atStart=>exact⟨0,rfl,⟨⟨Nat.zero_le _,HA.out⟩⟩⟩
   case round=>
    obtain⟨k,rfl,HL⟩:=hrel
    obtain⟨hk,hA⟩:=HL.out
    obtain⟨nd,hnd⟩:=nm_ ((ws.take k).map (dU f S))
    rw[←hnd] at hA
    obtain⟨AN,cN,rfl⟩:=Kd.R_slice hA.n
    by_cases hkl:k < ws.length
    ·have hkl':(k:Int) < (ws.length:Int):=by omega
     obtain⟨e,he⟩:∃ e,ws[k]?=some e:=⟨_,List.getElem?_eq_getElem hkl⟩
     obtain⟨o,ho,_⟩:=HEv.out e (List.mem_of_getElem? he)
     obtain⟨adE,csE,rfl,hKE,hldE⟩:=aW (P:=Tryz.prog) HCE.out hA.b k hkl e he 151 Tryz.underlying151 rfl ik
     obtain rfl:csE=e.cells:=hKE
     have hnd2:(ws.take (k+1)).map (dU f S)=nd++[dU f S e]:=by
      rw[List.take_succ_eq_append_getElem hkl,(List.getElem?_eq_some_iff.1 he).2,List.map_append,hnd]
      rfl
     have hndl:nd.length≤401:=by rw[hnd,List.length_map,List.length_take];omega
     have HNd:=ak_ hnd2
     have HEo:=ak_ ho
     have HLdE:=ak_ (show (loadVar 151 (adE.add (k * 2))).run Tryz.prog wr=.ok (.agg #[.int .i64 e.1,.int .i64 e.2]) wr from hldE)
     have HA2:=ak_ hA
     have HKl:=ak_ hkl
     clear hA hk HL hnd hnd2 he ho hldE hkl
     obtain⟨wo,rfl⟩:=nm_ wr
     go_upto_region 13 with (first
      | ((with_reducible refine aj (N:=29) rfl ?_);refine au rfl 151 _ rfl (adE.add (k * 2)) rfl _ HLdE.out ?_))
     have hal:Below wo.heap.size wo (wo.alloc (.cells #[.int .i64 e.1,.int .i64 e.2] 151)):=ae (Below.refl _ _) _
     have HA4:=ak_ (HA2.out.below hal HA2.out.b.size)
     have H10:=ak_ (heap_alloc_last wo (.cells #[.int .i64 e.1,.int .i64 e.2] 151 (0,0)))
     clear hal
     go_loopw [11,30] (fun vR j wr=>∃ l:Nat,j=.int .i64 l∧aa (l≤24∧wr.heap[wo.heap.size]?=some (.cells #[.int .i64 e.1,.int .i64 e.2] 151 (0,0))∧jG w2.heap.size w2 wr vR (.slice AN nd.length cN) (.slice AA all.length cA) ((List.range l).map (dr f S e)) nd all)) (fun _ j _=>24 - (intOf j).toNat)
     case atStart=>exact⟨0,rfl,⟨⟨Nat.zero_le _,H10.out,HA4.out⟩⟩⟩
     case round=>
      obtain⟨l,rfl,HL⟩:=hrel
      obtain⟨hl,hH,hA⟩:=HL.out
      obtain⟨row,hrow⟩:=nm_ ((List.range l).map (dr f S e))
      rw[←hrow] at hA
      have HRl:=ak_ (show row.length=l by rw[hrow,List.length_map,List.length_range])
      obtain⟨AR,cR,rfl⟩:=Kd.R_slice hA.r
      by_cases hll:l < 24
      ·have hll':(l:Int) < 24:=by omega
       have hbw:Below w.heap.size w wr:=Fr.below (S:=fun k=>w2.heap.size≤k) HB2.out ⟨hA.b.os,hA.b.tape,hA.b.output,hA.b.size,fun k hk hn=>hA.b.block k (by omega)⟩ (fun k hk h=>by have:=hwB.out;omega) HB2.out.size
       have hbx:=(hA.b.block w.heap.size hwB.out).trans H2.out
       have hcall:=HBy.out wr hbw e l hll o HEo.out
       obtain⟨s,hs⟩:=nm_ (dr f S e l)
       rw[←hs] at hcall
       have hrow2:(List.range (l+1)).map (dr f S e)=row++[s]:=by rw[List.range_succ,List.map_append,hrow,hs];rfl
       have HCall:=ak_ (show Calls Tryz.prog 82 #[.slice Af f.length cf,.agg (S.entry.cells++[Value.slice A S.nodes.length c]).toArray,.agg #[.int .i64 e.1,.int .i64 e.2],.int .i64 (l:Int)] wr fun r w'=>r=.returned (.agg #[.int .i64 s.kind,.int .i64 s.n])∧Below wr.heap.size wr w' from hcall)
       have HBx:=ak_ hbx
       have H10a:=ak_ hH
       have HA4:=ak_ hA
       have HRow:=ak_ hrow2
       clear hbw hbx hcall hs hrow hrow2 hH hA hl HL hll
       go_wp2_with (first
        | ((with_reducible refine aj (N:=35) rfl ?_);refine wpList_load_row rfl 119 _ rfl w.heap.size rfl 119 (S.entry.cells++[Value.slice A S.nodes.length c]).toArray (0,0) _ HBx.out Tryz.underlying119 rfl (dH _ _) ?_)
        | ((with_reducible refine aj (N:=36) rfl ?_);refine wpList_load_row rfl 151 _ rfl wo.heap.size rfl 151 #[.int .i64 e.1,.int .i64 e.2] (0,0) _ H10a.out Tryz.underlying151 rfl ik ?_)
        | (go_at_call 82;refine HCall.out.mono ?_;rintro r w5 ⟨rfl,hb⟩;have HA5:=ak_ (HA4.out.below hb HA4.out.b.size);have H10b:=ak_ (ag H10a.out hb);clear hb)
        | ((with_reducible refine a7 (b:=.append) (xs:=#[.tmp 33,.tmp 39]) rfl ?_);at_builtin;refine Kd.R_append eB (w0:=w2) w2.heap.size rfl (.tmp 33) (.tmp 39) 143 135 (.agg #[.int .i64 0,.int .i64 0]) 16 rfl Tryz.underlying143 lU rfl (by decide) (by omega) (.slice AR row.length cR) (row) (s) [.int .i64 s.kind,.int .i64 s.n] (fun j=>w2.heap.size≤j) (fun _=>False) rfl rfl ?aP (fun _ hk=>hk.elim) ?aF ?aO ?aB ?aS ?aL ?_;(case aP=>exact rfl);(case aF=>exact(fun b hb=>by have:=HA5.out.b.size;omega));(case aO=>exact HA5.out.r);(case aB=>exact HA5.out.b);(case aS=>exact HA5.out.b.size);(case aL=>have:=HRl.out;omega);intro vap wap ho hb hg hat;have HA7:=ak_ (HA5.out.appR ho hb hg hat);have H11:=ak_ ((hg.block _ (ai H10b.out) (Kd.R_ne HA5.out.r H10b.out (by decide))).trans H10b.out);clear ho hb hg hat))
       go_roundw
       case rel=>exact⟨l+1,by go_num,⟨⟨by omega,H11.out,by rw[HRow.out];exact HA7.out⟩⟩⟩
       case measure=>simp[intOf];omega
      ·obtain rfl:l=24:=by omega
       have HA6:=ak_ hA
       have HNd2:=ak_ (show (ws.take (k+1)).map (dU f S)=nd++[row] by rw[HNd.out,hrow];rfl)
       clear hA hl HL hrow hH
       go_wp2_with (first
        | ((with_reducible refine a7 (b:=.append) (xs:=#[.tmp 42,.tmp 44]) rfl ?_);at_builtin;refine Kd.R_append k8 (w0:=w2) w2.heap.size rfl (.tmp 42) (.tmp 44) 120 143 (.slice none 0 0) 24 rfl Tryz.underlying120 uW rfl (by decide) (by omega) (.slice AN nd.length cN) (nd) (row) [Value.slice AR row.length cR] (fun j=>w2.heap.size≤j) (fun j=>w2.heap.size≤j∧some j≠(Value.slice AN nd.length cN).ownBlock) rfl rfl ?aP (fun k hk=>hk) ?aF ?aO ?aB ?aS ?aL ?_;(case aP=>exact HA6.out.rowM);(case aF=>exact(fun b hb=>by have:=HA6.out.b.size;omega));(case aO=>exact Kd.R_mono HA6.out.n (fun k hk=>hk.1));(case aB=>exact HA6.out.b);(case aS=>exact HA6.out.b.size);(case aL=>omega);intro vap wap ho hb hg hat;have HA8:=ak_ (HA6.out.appN ho hb hg hat);clear ho hb hg hat))
       go_roundw
       case rel=>exact⟨k+1,by go_num,⟨⟨HKl.out,by rw[HNd2.out];exact HA8.out⟩⟩⟩
       case measure=>have:=HKl.out;simp[intOf];omega
    ·obtain rfl:k=ws.length:=by omega
     rw[List.take_length] at hnd
     rw[←hnd] at HTk
     have HA3:=ak_ hA
     clear hA hk HL hnd
     go_wp2_with (first
      | ((with_reducible refine a7 (b:=.append) (xs:=#[.tmp 47,.tmp 49]) rfl ?_);at_builtin;refine Kd.R_append lQ (w0:=w2) w2.heap.size rfl (.tmp 47) (.tmp 49) 121 120 (.slice none 0 0) 24 rfl Tryz.underlying121 BY rfl (by decide) (by omega) (.slice AA all.length cA) (all) (nd) [Value.slice AN nd.length cN] (fun j=>w2.heap.size≤j) (fun j=>w2.heap.size≤j∧some j≠(Value.slice AA all.length cA).ownBlock) rfl rfl ?aP (fun k hk=>hk) ?aF ?aO ?aB ?aS ?aL ?_;(case aP=>exact HA3.out.nodeM);(case aF=>exact(fun b hb=>by have:=HA3.out.b.size;omega));(case aO=>exact Kd.R_mono HA3.out.a (fun k hk=>hk.1.1));(case aB=>exact HA3.out.b);(case aS=>exact HA3.out.b.size);(case aL=>omega);intro vap wap ho hb hg hat;have HA5:=ak_ (jG.appA ho hb);clear ho hb hg hat))
     go_roundw
     case rel=>exact⟨m+1,by go_num,⟨⟨HLt.out,by rw[HTk.out];exact HA5.out⟩⟩⟩
     case measure=>have:=HLt.out;simp[intOf];omega
  ·obtain rfl:m=(aX S).length:=by omega
   rw[List.take_length] at hal
   have HA3:=ak_ hA
   have HAl:=ak_ (show eF f S=all from hal.symm)
   clear hA hm HL hal
   go_wp2
   go_ret
   rw[HAl.out]
   refine⟨_,rfl,Kd.R_lower (Kd.R_mono HA3.out.a (fun k hk=>by have:=hwB.out;have:=hk.1.1;omega)) (by have:=hwB.out;omega),?_⟩
   exact Fr.below (S:=fun k=>w2.heap.size≤k) HB2.out ⟨HA3.out.b.os,HA3.out.b.tape,HA3.out.b.output,HA3.out.b.size,fun k hk hn=>HA3.out.b.block k hk⟩ (fun k hk h=>by have:=hwB.out;omega) HB2.out.size
end
def opn:Src:=⟨-1,0⟩
def dn (facts:List (List Src)) (e:bL) (x:Src):Src:=if x.kind=4 then (facts.getD e.1.toNat []).getD x.n.toNat opn else x
def bk (own:Src):List Src→Src→Src
 | [],now=>now
 | v :: vs,now=>if v=opn then bk own vs now else if (v.kind≠2∧v.kind≠0)∨(now≠opn∧now≠v) then own else bk own vs v
def rr (f:List In) (S:bj) (facts:List (List Src)) (n l:Nat):List Src:=((aX S).getD n []).map fun e=>dn facts e (dr f S e l)
def cz (f:List In) (S:bj) (facts:List (List Src)) (n l:Nat):Src:=bk ⟨4,l⟩ (rr f S facts n l) opn
theorem Df (d:Nat) (w:World) (a0 a1 b0 b1:Int):(Op.equalIn (d+2) 135 (.agg #[.int .i64 a0,.int .i64 a1]) (.agg #[.int .i64 b0,.int .i64 b1])).run Tryz.prog w=.ok (a0 == b0 && (a1 == b1)) w:=by
 refine jx Tryz.underlying135 (by kernel_rfl) ?_
 refine dA (by rfl) (by go_simp;rfl) (by go_simp;rfl) (by go_simp) ?_
 exact fA (by rfl) (by go_simp;rfl) (by go_simp;rfl) (by go_simp)
theorem CP (x y:Src):(x.kind == y.kind && (x.n == y.n))=decide (x=y):=by
 obtain⟨a,b⟩:=x
 obtain⟨c,d⟩:=y
 rw[Bool.eq_iff_iff]
 simp[Src.mk.injEq]
theorem DC (x y:Src) (w:World):(binOp .neq 135 (.agg #[.int .i64 x.kind,.int .i64 x.n]) (.agg #[.int .i64 y.kind,.int .i64 y.n])).run Tryz.prog w=.ok (.bool (!decide (x=y))) w:=by
 have h:(Op.equal 135 (.agg #[.int .i64 x.kind,.int .i64 x.n]) (.agg #[.int .i64 y.kind,.int .i64 y.n])).run Tryz.prog w=.ok (decide (x=y)) w:=by
  rw[←CP]
  exact Df 9998 w _ _ _ _
 simp only[binOp,Sem.run_bind,h,Result.andThen_ok,Sem.run_pure]
def d8 (t:Option Src) (v:Src):Option Src:=match t with
 | none=>none
 | some now=>if v=opn then some now else if (v.kind≠2∧v.kind≠0)∨(now≠opn∧now≠v) then none else some v
theorem yA (vs:List Src):vs.foldl d8 none=none:=by
 induction vs with
 | nil=>rfl
 | cons v vs ih=>exact ih
theorem kl (own:Src):∀ (vs:List Src) (now:Src),bk own vs now=(vs.foldl d8 (some now)).getD own
 | [],_=>rfl
 | v :: vs,now=>by
  rw[List.foldl_cons]
  by_cases h1:v=opn
  ·have e1:d8 (some now) v=some now:=by unfold d8;simp only;rw[if_pos h1]
   rw[e1,←kl own vs now,bk,if_pos h1]
  ·by_cases h2:(v.kind≠2∧v.kind≠0)∨(now≠opn∧now≠v)
   ·have e1:d8 (some now) v=none:=by unfold d8;simp only;rw[if_neg h1,if_pos h2]
    rw[e1,yA,bk,if_neg h1,if_pos h2]
    rfl
   ·have e1:d8 (some now) v=some v:=by unfold d8;simp only;rw[if_neg h1,if_neg h2]
    rw[e1,←kl own vs v,bk,if_neg h1,if_neg h2]
def LeT (t u:Option Src):Prop:=u=none∨t=some opn∨t=u
def LeV (v u:Src):Prop:=v=opn∨v=u∨(u≠opn∧u.kind≠2∧u.kind≠0)
theorem v6 {t t':Option Src} {v u:Src} (ht:LeT t t') (hv:LeV v u):LeT (d8 t v) (d8 t' u):=by
 cases t' with
 | none=>exact .inl rfl
 | some n'=>
  by_cases hbad:u≠opn∧u.kind≠2∧u.kind≠0
  ·refine .inl ?_
   show (if u=opn then _ else _)=none
   rw[if_neg hbad.1,if_pos (.inl hbad.2)]
  ·cases t with
   | none=>rcases ht with h | h | h <;> exact absurd h (by simp)
   | some n=>
    have hn:n=opn∨n=n':=by
     rcases ht with h | h | h
     ·exact absurd h (by simp)
     ·exact .inl (Option.some.inj h)
     ·exact .inr (Option.some.inj h)
    have hvu:v=opn∨v=u:=by
     rcases hv with h | h | h
     ·exact .inl h
     ·exact .inr h
     ·exact absurd h hbad
    by_cases hvo:v=opn
    ·have e1:d8 (some n) v=some n:=by unfold d8;simp only;rw[if_pos hvo]
     rw[e1]
     by_cases huo:u=opn
     ·have e2:d8 (some n') u=some n':=by unfold d8;simp only;rw[if_pos huo]
      rw[e2]
      rcases hn with h | h
      ·exact .inr (.inl (by rw[h]))
      ·exact .inr (.inr (by rw[h]))
     ·by_cases hc:(u.kind≠2∧u.kind≠0)∨(n'≠opn∧n'≠u)
      ·refine .inl ?_
       unfold d8;simp only;rw[if_neg huo,if_pos hc]
      ·have e2:d8 (some n') u=some u:=by unfold d8;simp only;rw[if_neg huo,if_neg hc]
       rw[e2]
       rcases hn with h | h
       ·exact .inr (.inl (by rw[h]))
       ·by_cases hno:n'=opn
        ·exact .inr (.inl (by rw[h,hno]))
        ·have:n'=u:=by
          by_cases q:n'=u
          ·exact q
          ·exact absurd (.inr ⟨hno,q⟩) hc
         exact .inr (.inr (by rw[h,this]))
    ·have hvu2:v=u:=hvu.resolve_left hvo
     subst hvu2
     by_cases hc:(v.kind≠2∧v.kind≠0)∨(n'≠opn∧n'≠v)
     ·refine .inl ?_
      unfold d8;simp only;rw[if_neg hvo,if_pos hc]
     ·have e2:d8 (some n') v=some v:=by unfold d8;simp only;rw[if_neg hvo,if_neg hc]
      have hc2:¬ ((v.kind≠2∧v.kind≠0)∨(n≠opn∧n≠v)):=by
       rintro(q | q)
       ·exact hc (.inl q)
       ·rcases hn with h | h
        ·exact q.1 h
        ·exact hc (.inr (by rw[←h];exact q))
      have e1:d8 (some n) v=some v:=by unfold d8;simp only;rw[if_neg hvo,if_neg hc2]
      rw[e1,e2]
      exact .inr (.inr rfl)
def LeS (own s t:Src):Prop:=t=own∨s=opn∨s=t
theorem qi {α:Type} (F G:α→Src):∀ (es:List α) (t t':Option Src),(∀ e∈es,LeV (F e) (G e))→LeT t t'→LeT ((es.map F).foldl d8 t) ((es.map G).foldl d8 t')
 | [],_,_,_,h=>h
 | e :: es,t,t',hv,h=>by
  rw[List.map_cons,List.map_cons,List.foldl_cons,List.foldl_cons]
  exact qi F G es _ _ (fun x hx=>hv x (List.mem_cons_of_mem _ hx)) (v6 h (hv e (List.mem_cons_self ..)))
theorem yo {α:Type} (own:Src) (F G:α→Src) (es:List α) (hv:∀ e∈es,LeV (F e) (G e)):LeS own (bk own (es.map F) opn) (bk own (es.map G) opn):=by
 rw[kl,kl]
 rcases qi F G es (some opn) (some opn) hv (.inr (.inr rfl)) with h | h | h
 ·exact .inl (by rw[h];rfl)
 ·exact .inr (.inl (by rw[h];rfl))
 ·exact .inr (.inr (by rw[h]))
def LeF (F G:List (List Src)):Prop:=∀ n l:Nat,LeS ⟨4,(l:Int)⟩ ((F.getD n []).getD l opn) ((G.getD n []).getD l opn)
theorem tp {F G:List (List Src)} (h:LeF F G) (e:bL) (x:Src):LeV (dn F e x) (dn G e x):=by
 unfold dn
 split
 ·rcases h e.1.toNat x.n.toNat with q | q | q
  ·rw[q];exact .inr (.inr ⟨fun e=>by injection e with e _;exact absurd e (by decide),(by show (4:Int)≠2;decide),(by show (4:Int)≠0;decide)⟩)
  ·exact .inl q
  ·exact .inr (.inl q)
 ·exact .inr (.inl rfl)
theorem su (f:List In) (S:bj) {F G:List (List Src)} (h:LeF F G) (n l:Nat):LeS ⟨4,(l:Int)⟩ (cz f S F n l) (cz f S G n l):=by
 unfold cz rr
 exact yo _ _ _ _ (fun e _=>tp h e _)
def ns (l:Nat):Src:=⟨4,(l:Int)⟩
def du (F:List (List Src)) (n l:Nat):Src:=(F.getD n []).getD l opn
def jV (F:List (List Src)) (n l:Nat) (x:Src):List (List Src):=F.set n ((F.getD n []).set l x)
structure fL (N:Nat) (F:List (List Src)):Prop where
 len:F.length=N
 row:∀ r∈F,r.length=24
theorem fL.at_ {N:Nat} {F:List (List Src)} (h:fL N F) {n:Nat} (hn:n < N):(F.getD n []).length=24:=by
 rw[List.getD_eq_getElem?_getD,List.getElem?_eq_getElem (by rw[h.len];exact hn)]
 exact h.row _ (List.getElem_mem _)
theorem fL.put {N:Nat} {F:List (List Src)} (h:fL N F) {n:Nat} (hn:n < N) (l:Nat) (x:Src):fL N (jV F n l x):=by
 refine⟨by unfold jV;rw[List.length_set];exact h.len,fun r hr=>?_⟩
 rcases List.mem_or_eq_of_mem_set hr with hr | rfl
 ·exact h.row r hr
 ·rw[List.length_set];exact h.at_ hn
theorem kN {N:Nat} {F:List (List Src)} (h:fL N F) {n l:Nat} (hn:n < N) (hl:l < 24) (x:Src):du (jV F n l x) n l=x:=by
 unfold du jV
 rw[List.getD_eq_getElem?_getD (l:=F.set _ _),List.getElem?_set_self (by rw[h.len];exact hn)]
 simp only[Option.getD_some]
 rw[List.getD_eq_getElem?_getD,List.getElem?_set_self (by rw[h.at_ hn];exact hl)]
 rfl
theorem kc {F:List (List Src)} {n l m k:Nat} (hne:¬ (m=n∧k=l)) (x:Src):du (jV F n l x) m k=du F m k:=by
 unfold du jV
 by_cases hm:m=n
 ·subst hm
  have hk:k≠l:=fun e=>hne ⟨rfl,e⟩
  by_cases hlt:m < F.length
  ·rw[List.getD_eq_getElem?_getD (l:=F.set _ _),List.getElem?_set_self hlt]
   simp only[Option.getD_some]
   rw[List.getD_eq_getElem?_getD,List.getElem?_set_ne (fun e=>hk e.symm),←List.getD_eq_getElem?_getD]
  ·rw[List.set_eq_of_length_le (by omega)]
 ·rw[List.getD_eq_getElem?_getD (l:=F.set _ _),List.getElem?_set_ne (fun e=>hm e.symm),←List.getD_eq_getElem?_getD]
theorem LeS.trans {l:Nat} {s t u:Src} (h:LeS (ns l) s t) (k:LeS (ns l) t u):LeS (ns l) s u:=by
 rcases k with k | k | k
 ·exact .inl k
 ·rcases h with h | h | h
  ·rw[h] at k;exact absurd k (by unfold ns opn;intro e;injection e with e _;exact absurd e (by decide))
  ·exact .inr (.inl h)
  ·exact .inr (.inl (h.trans k))
 ·rw[←k];exact h
theorem LeS.refl (own s:Src):LeS own s s:=.inr (.inr rfl)
def Inc (f:List In) (S:bj) (N:Nat) (F:List (List Src)):Prop:=∀ n l,n < N→l < 24→LeS (ns l) (du F n l) (cz f S F n l)
theorem Inc.put {f:List In} {S:bj} {N:Nat} {F:List (List Src)} (hs:fL N F) (h:Inc f S N F) {n l:Nat} (hn:n < N) (hl:l < 24):LeF F (jV F n l (cz f S F n l))∧Inc f S N (jV F n l (cz f S F n l)):=by
 have hle:LeF F (jV F n l (cz f S F n l)):=by
  intro m k
  show LeS (ns k) (du F m k) (du (jV F n l (cz f S F n l)) m k)
  by_cases e:m=n∧k=l
  ·obtain⟨rfl,rfl⟩:=e
   rw[kN hs hn hl]
   exact h m k hn hl
  ·rw[kc e]
   exact LeS.refl _ _
 refine⟨hle,fun m k hm hk=>?_⟩
 have hup:LeS (ns k) (cz f S F m k) (cz f S (jV F n l (cz f S F n l)) m k):=su f S hle m k
 by_cases e:m=n∧k=l
 ·obtain⟨rfl,rfl⟩:=e
  rw[kN hs hn hl]
  exact hup
 ·rw[kc e]
  exact(h m k hm hk).trans hup
def jU (l:Nat) (s:Src):Nat:=if s=opn then 0 else if s=ns l then 2 else 1
theorem By (l:Nat) (s:Src):jU l s≤2:=by unfold jU;split;exact Nat.zero_le _;split <;> omega
theorem Bx {l:Nat} {s t:Src} (h:LeS (ns l) s t) (hne:t≠s):jU l s < jU l t:=by
 have ho:ns l≠opn:=by unfold ns opn;intro e;injection e with e _;exact absurd e (by decide)
 rcases h with h | h | h
 ·subst h
  unfold jU
  rw[if_neg ho,if_pos rfl]
  split
  ·omega
  ·rw[if_neg (fun e=>hne e.symm)];omega
 ·subst h
  unfold jU
  rw[if_pos rfl,if_neg hne]
  split <;> omega
 ·exact absurd h.symm hne
def eI:List Src→Nat→Nat
 | [],_=>0
 | s :: r,l=>jU l s+eI r (l+1)
theorem ox:∀ (r:List Src) (l:Nat),eI r l≤2 * r.length
 | [],_=>Nat.le_refl _
 | s :: r,l=>by
  have:=ox r (l+1)
  have:=By l s
  simp only[eI,List.length_cons]
  omega
theorem m6:∀ (r:List Src) (l k:Nat) (x:Src),k < r.length→jU (l+k) (r.getD k opn) < jU (l+k) x→eI r l < eI (r.set k x) l
 | [],_,_,_,h,_=>absurd h (by simp)
 | s :: r,l,0,x,_,h=>by
  simp only[List.set_cons_zero,eI]
  have:jU l s < jU l x:=h
  omega
 | s :: r,l,k+1,x,hk,h=>by
  simp only[List.set_cons_succ,eI]
  have:=m6 r (l+1) k x (by simpa using hk) (by rw[show l+1+k=l+(k+1) by omega];exact h)
  omega
def iA (F:List (List Src)):Nat:=(F.map fun r=>eI r 0).sum
theorem r_ {N:Nat} {F:List (List Src)} (h:fL N F):iA F≤48 * N:=by
 obtain⟨hl,hr⟩:=h
 subst hl
 induction F with
 | nil=>exact Nat.le_refl _
 | cons r F ih=>
  have h1:=ih (fun q hq=>hr q (List.mem_cons_of_mem _ hq))
  have h2:=ox r 0
  have h3:=hr r (List.mem_cons_self ..)
  simp only[iA,List.map_cons,List.sum_cons,List.length_cons] at h1 ⊢
  omega
theorem uL:∀ (F:List (List Src)) (n:Nat) (r:List Src),n < F.length→eI (F.getD n []) 0 < eI r 0→iA F < iA (F.set n r)
 | [],_,_,h,_=>absurd h (by simp)
 | q :: F,0,r,_,h=>by
  simp only[List.set_cons_zero,iA,List.map_cons,List.sum_cons]
  have:eI q 0 < eI r 0:=h
  omega
 | q :: F,n+1,r,hn,h=>by
  have:=uL F n r (by simpa using hn) h
  simp only[List.set_cons_succ,iA,List.map_cons,List.sum_cons] at this ⊢
  omega
theorem zD {f:List In} {S:bj} {N:Nat} {F:List (List Src)} (hs:fL N F) (h:Inc f S N F) {n l:Nat} (hn:n < N) (hl:l < 24) (hne:cz f S F n l≠du F n l):iA F < iA (jV F n l (cz f S F n l)):=by
 refine uL F n _ (by rw[hs.len];exact hn) (m6 _ 0 l _ (by rw[hs.at_ hn];exact hl) ?_)
 rw[Nat.zero_add]
 exact Bx (h n l hn hl) hne
theorem bu {P:Program} {ops:Array Oper} {w:World} {Q:Act→Prop} {a:Act} {o:Oper} {rest:List Oper} {v:Value} (hw:Region.wanted o (yielded ops a.tmps)=true) (hrun:(execOp a.eval o).run P w=.ok (.value v) w) (h:wpStill P ops w Q rest (a.put o.dst v)):wpStill P ops w Q (o :: rest) a:=by
 unfold wpStill
 rw[if_pos hw]
 unfold Oper.still
 rw[hrun]
 exact⟨rfl,h⟩
theorem vk {S:bj} (hw:gy S.nodes) (he:OOk S.nodes.length S.entry) {e:bL} {o:aU} (h:dE S e=some o):OOk S.nodes.length o:=by
 unfold dE at h
 split at h
 ·obtain rfl:=Option.some.inj h
  exact he
 ·split at h
  ·exact absurd h (by simp)
  ·obtain⟨x,hx,ho⟩:=Option.bind_eq_some_iff.1 h
   exact hw.ok x (List.mem_of_getElem? hx) o (List.mem_of_getElem? ho)
theorem v9 {f:List In} {S:bj} {e:bL} {s:Sr} (hk:(eh f S e s).kind=4):(eh f S e s).n=s.loc:=by
 revert hk
 unfold eh
 split
 ·intro hk;simp at hk
 ·split
  ·split <;> (intro hk;simp at hk)
  ·split
   ·intro hk;simp at hk
   ·intro _;rfl
theorem ur {f:List In} {S:bj} {e:bL} {o:aU} (hok:OOk S.nodes.length o) (ho:dE S e=some o) {l:Nat} (hl:l < 24) (hk:(dr f S e l).kind=4):0≤e.1∧e.1 < (S.nodes.length:Int)∧0≤(dr f S e l).n∧(dr f S e l).n < 24:=by
 have hn:¬ e.1 < 0:=by
  intro hn
  unfold dr eh at hk
  split at hk
  ·simp at hk
  ·rw[if_pos hn] at hk
   split at hk <;> simp at hk
 obtain⟨x,hx⟩:=jy ho hn
 have h1:=(List.getElem?_eq_some_iff.1 hx).1
 have ht:((o.t).getD l .no).ok=true:=by
  rw[List.getD_eq_getElem?_getD,List.getElem?_eq_getElem (by rw[hok.t.len];exact hl)]
  exact hok.t.ok _ (List.getElem_mem _)
 have h2:0≤(dr f S e l).n∧(dr f S e l).n < 24:=by
  have h3:(dr f S e l).n=(o.t.getD l .no).loc:=by
   have h4:=v9 hk
   unfold dr
   rw[ho] at h4 ⊢
   exact h4
  rw[h3]
  cases hs:o.t.getD l .no with
  | is n=>exact⟨by show (0:Int)≤0;decide,by show (0:Int) < 24;decide⟩
  | no=>rw[hs] at ht;simp[Sr.ok] at ht
  | was k=>
   rw[hs] at ht
   have hr:0≤k∧k≤23:=of_decide_eq_true ht
   exact⟨hr.1,by show k < 24;omega⟩
 exact⟨by omega,by omega,h2⟩
structure nw (w W:World) (l:Nat) (now:Src):Prop where
 b:Below w.heap.size w W
 r:W.heap[w.heap.size]?=some (.cells #[.int .i64 0,.int .i64 0] 135 (0,0))
 o:W.heap[w.heap.size+1]?=some (.cells #[.int .i64 4,.int .i64 (l:Int)] 135 (0,0))
 n:W.heap[w.heap.size+1+1]?=some (.cells #[.int .i64 now.kind,.int .i64 now.n] 135 (0,0))
theorem nw.below {w W W':World} {l:Nat} {now:Src} (h:nw w W l now) (hb:Below W.heap.size W W'):nw w W' l now:=⟨af h.b hb,ag h.r hb,ag h.o hb,ag h.n hb⟩
theorem nw.take {w W W':World} {l:Nat} {now v:Src} (h:nw w W l now) (hf:Fr (fun k=>k=w.heap.size+1+1) W W') (h8:W'.heap[w.heap.size+1+1]?=some (.cells #[.int .i64 v.kind,.int .i64 v.n] 135 (0,0))):nw w W' l v:=
 ⟨Fr.below h.b hf (fun k hk q=>by omega) h.b.size,(hf.block _ (ai h.r) (by omega)).trans h.r,(hf.block _ (ai h.o) (by omega)).trans h.o,h8⟩
theorem nw.fr {w W W':World} {l:Nat} {now:Src} (h:nw w W l now) {g:Nat} (hf:Fr (fun k=>k=g) W W') (hg:w.heap.size+3≤g):nw w W' l now:=
 ⟨Fr.below h.b hf (fun k hk q=>by omega) h.b.size,(hf.block _ (ai h.r) (by omega)).trans h.r,(hf.block _ (ai h.o) (by omega)).trans h.o,(hf.block _ (ai h.n) (by omega)).trans h.n⟩
theorem D7 (w:World) (l:Nat):nw w (((w.alloc (.cells #[.int .i64 0,.int .i64 0] 135)).alloc (.cells #[.int .i64 4,.int .i64 (l:Int)] 135)).alloc (.cells #[.int .i64 (-1),.int .i64 0] 135)) l opn:=by
 have h:=fun i o h=>dZ w [.cells #[.int .i64 0,.int .i64 0] 135,.cells #[.int .i64 4,.int .i64 (l:Int)] 135,.cells #[.int .i64 (-1),.int .i64 0] 135] i o h
 exact⟨dS w [_,_,_],h 0 _ rfl,h 1 _ rfl,h 2 _ rfl⟩
theorem zi (f:List In) (S:bj) (F:List (List Src)) (vs:List Value) (n l g2 g3 g4 g base lo:Nat) (AW AA:Option Addr) (cW cA:Nat) (w:World) (hG:Gl w)
  (h2:w.heap[g2]?=some (.cells #[.slice AW (aX S).length cW] 122 (0,0))) (hCW:Kd.C (Kd.slice 151 cL) w AW (aX S).length (aX S))
  (h3:w.heap[g3]?=some (.cells #[.slice AA (aX S).length cA] 121 (0,0))) (hCA:Kd.C lQ w AA (aX S).length (eF f S))
  (h4:w.heap[g4]?=some (.cells #[.slice (some ⟨g,0,none⟩) F.length F.length] 120 (0,0))) (hM:Mat eB 135 143 base lo w g vs F) (hS:fL S.nodes.length F)
  (hn:n < S.nodes.length) (hl:l < 24) (hsm:∀ xs∈aX S,xs.length≤401) (hnw:gy S.nodes) (hne:OOk S.nodes.length S.entry) :
  Calls Tryz.prog 81 #[.int .i64 (n:Int),.int .i64 (l:Int),.pointer (some ⟨g2,0,none⟩),.pointer (some ⟨g3,0,none⟩),.pointer (some ⟨g4,0,none⟩)] w fun e w'=>e=.returned (.agg #[.int .i64 (cz f S F n l).kind,.int .i64 (cz f S F n l).n])∧Below w.heap.size w w':=by
 obtain⟨r,hr⟩:=nm_ (cz f S F n l)
 rw[←hr]
 have hnwl:n < (aX S).length:=by rw[gV];exact hn
 obtain⟨ws,hws⟩:∃ ws,(aX S)[n]?=some ws:=⟨_,List.getElem?_eq_getElem hnwl⟩
 have hwl:=hsm ws (List.mem_of_getElem? hws)
 have hal:(eF f S)[n]?=some (ws.map (dU f S)):=by unfold eF;rw[List.getElem?_map,hws];rfl
 obtain⟨adW,csW,rfl,_,hKW,hcW⟩:=bX hCW n hnwl ws hws
 obtain⟨AE,cE,rfl,hlE,hCE⟩:=hKW
 obtain⟨adA,csA,rfl,_,hKA,hcA⟩:=bX hCA n hnwl _ hal
 obtain⟨AM,cM,rfl,hlM,hCM⟩:=hKA
 have c2:=(show w.cell? ⟨g2,0,none⟩=some (.slice (some adW) (aX S).length cW) by rw[ah h2];rfl)
 have vW:w.cell? (adW.add n)=some (.slice AE ws.length cE):=by
  have:=hcW 0 _ rfl
  rwa [show n * (Kd.slice 151 cL).sz+0=n from Nat.mul_one n] at this
 have gl1:=hG.2.1
 have gl2:=hG.2.2.1
 have l2:=ai h2
 have hnw':(n:Int) < ((aX S).length:Int):=by omega
 have hl':(l:Int) < 24:=by omega
 have hwl':(ws.length:Int)≤401:=by omega
 have hg2:=hG.2.2.2
 have hbW:=World.block_lt_of_cell? w _ vW
 have hfin:r=bk ⟨4,l⟩ ((ws.drop 0).map fun e=>dn F e (dr f S e l)) opn:=by rw[hr];unfold cz rr;rw[List.getD_eq_getElem?_getD,hws];rfl
 have H3:=ak_ h3
 have H4:=ak_ h4
 have HM:=ak_ hM
 have HS:=ak_ hS
 have HG:=ak_ hG
 have HCE:=ak_ hCE
 have HCM:=ak_ hCM
 have HCA:=ak_ (hcA 0 _ rfl)
 have HFin:=ak_ hfin
 have HAll:=ak_ (nJ S n ws hws)
 have HNw:=ak_ (And.intro hnw hne)
 clear hnw hne
 clear hr h2 hCW h3 hCA h4 hM hS hn hsm hws hal hcW hcA hCE hCM hfin hG
 go_enter Tryz.func81,Tryz.ntmps81
 go_upto_region 2 with fail
 obtain⟨wa,hwa⟩:∃ wa,wa=((w.alloc (.cells #[.int .i64 0,.int .i64 0] 135)).alloc (.cells #[.int .i64 4,.int .i64 (l:Int)] 135)):=⟨_,rfl⟩
 have hba:Below w.heap.size w wa:=by rw[hwa];exact ae (ae (Below.refl _ _) _) _
 have hsa:wa.heap.size=w.heap.size+1+1:=by rw[hwa];simp
 have gla:=(HG.out.below hba).2.1
 have glb:=(HG.out.below hba).2.2.1
 have hst:=D7 w l
 rw[←hwa] at hst
 refine ar hwa.symm ?_
 have HSt:=ak_ hst
 clear hwa hba hst gl1 gl2
 go_upto_region 3 with fail
 obtain⟨w3,hw3⟩:∃ w3,w3=wa.alloc (.cells #[.int .i64 (-1),.int .i64 0] 135):=⟨_,rfl⟩
 have hst:=HSt.out
 rw[←hw3] at hst
 refine ar hw3.symm ?_
 have e2:=ak hst.b c2
 have eW:=ak hst.b vW
 have HSt3:=ak_ hst
 clear hw3 hst hsa gla glb c2 vW HSt hbW
 go_wp2
 go_loopw [21] (fun j wr=>∃ (k:Nat) (now:Src),j=.int .i64 k∧aa (k≤ws.length∧nw w wr l now∧r=bk ⟨4,l⟩ ((ws.drop k).map fun e=>dn F e (dr f S e l)) now)) (fun j _=>ws.length - (intOf j).toNat)
 case atStart=>exact⟨0,opn,rfl,⟨⟨Nat.zero_le _,HSt3.out,HFin.out⟩⟩⟩
 case round=>
  obtain⟨k,now,rfl,HL⟩:=hrel
  obtain⟨hk,hT,hfin⟩:=HL.out
  by_cases hkl:k < ws.length
  ·have hkl':(k:Int) < (ws.length:Int):=by omega
   obtain⟨e,he⟩:∃ e,ws[k]?=some e:=⟨_,List.getElem?_eq_getElem hkl⟩
   obtain⟨adE,csE,rfl,hKE,hldE⟩:=aW (P:=Tryz.prog) HCE.out hT.b k hkl e he 151 Tryz.underlying151 rfl ik
   obtain rfl:csE=e.cells:=hKE
   have hre:(ws.map (dU f S))[k]?=some (dU f S e):=by rw[List.getElem?_map,he];rfl
   obtain⟨adM,csM,rfl,_,hKM,hcM⟩:=bX HCM.out k (by rw[List.length_map];exact hkl) _ hre
   obtain⟨AR,cR,rfl,hlR,hCR⟩:=hKM
   have hrl:(dU f S e).length=24:=by simp[dU]
   have hxe:(dU f S e)[l]?=some (dr f S e l):=by unfold dU;rw[List.getElem?_map,List.getElem?_range hl];rfl
   obtain⟨x,hx⟩:=nm_ (dr f S e l)
   rw[←hx] at hxe
   obtain⟨adR,csR,rfl,hKR,hldR⟩:=aW (P:=Tryz.prog) hCR hT.b l (by rw[hrl];exact hl) x hxe 135 Tryz.underlying135 rfl aG
   obtain rfl:csR=[.int .i64 x.kind,.int .i64 x.n]:=hKR
   have vM:wr.cell? (adM.add k)=some (.slice (some adR) 24 cR):=by
    have:=ak hT.b (hcM 0 _ rfl)
    rw[hrl] at this
    rwa [show k * k8.sz+0=k from Nat.mul_one k] at this
   have vA:wr.cell? (adA.add n)=some (.slice (some adM) ws.length cM):=by
    have:=ak hT.b HCA.out
    rw[List.length_map] at this
    rwa [show n * lQ.sz+0=n from Nat.mul_one n] at this
   have v3:=(show wr.cell? ⟨g3,0,none⟩=some (.slice (some adA) (aX S).length cA) by rw[ah (ag H3.out hT.b)];rfl)
   have hval:dn F e (dr f S e l)=dn F e x:=by rw[hx]
   rw[List.drop_eq_getElem_cons hkl,(List.getElem?_eq_some_iff.1 he).2,List.map_cons,hval] at hfin
   have HFi:=ak_ hfin
   have HE:=ak_ (HAll.out e (List.mem_of_getElem? he))
   have HLdE:=ak_ (show (loadVar 151 (adE.add (k * 2))).run Tryz.prog wr=.ok (.agg #[.int .i64 e.1,.int .i64 e.2]) wr from hldE)
   have HLdR:aa (∀ W:World,Below w.heap.size w W→(loadVar 135 (adR.add (l * 2))).run Tryz.prog W=.ok (.agg #[.int .i64 x.kind,.int .i64 x.n]) W):=⟨fun W hb=>by
    obtain⟨a3,c3,q1,q2,q3⟩:=aW (P:=Tryz.prog) hCR hb l (by rw[hrl];exact hl) x hxe 135 Tryz.underlying135 rfl aG
    injection q1 with q1
    subst q1
    obtain rfl:c3=[.int .i64 x.kind,.int .i64 x.n]:=q2
    exact q3⟩
   have HT:=ak_ hT
   have HX:=ak_ hx
   have HKl:=ak_ hkl
   have lM:=World.block_lt_of_cell? wr _ vM
   have lA:=World.block_lt_of_cell? wr _ vA
   have l3:=World.block_lt_of_cell? wr _ v3
   clear hldE hldR hT hfin hval hxe hre hcM hCR hrl he hkl hk HL hx
   go_upto_region 6 with (first
    | ((with_reducible refine aj (N:=25) rfl ?_);refine au rfl 151 _ rfl (adE.add (k * 2)) rfl _ HLdE.out ?_))
   obtain⟨w5,hw5⟩:∃ w5,w5=wr.alloc (.cells #[.int .i64 e.1,.int .i64 e.2] 151):=⟨_,rfl⟩
   have hb5:Below wr.heap.size wr w5:=by rw[hw5];exact ae (Below.refl _ _) _
   refine ar hw5.symm ?_
   have k3:=ak hb5 v3
   have kA:=ak hb5 vA
   have kM:=ak hb5 vM
   have HT5:=ak_ (HT.out.below hb5)
   have H11:aa (w5.heap[wr.heap.size]?=some (.cells #[.int .i64 e.1,.int .i64 e.2] 151 (0,0))):=⟨by rw[hw5];exact heap_alloc_last wr _⟩
   clear hw5 hb5 v3 vA vM lM lA l3
   go_upto_region 7 with (first
    | ((with_reducible refine aj (N:=35) rfl ?_);refine au rfl 135 _ rfl (adR.add (l * 2)) rfl _ (HLdR.out w5 HT5.out.b) ?_))
   obtain⟨w6,hw6⟩:∃ w6,w6=w5.alloc (.cells #[.int .i64 x.kind,.int .i64 x.n] 135):=⟨_,rfl⟩
   have hb6:Below w5.heap.size w5 w6:=by rw[hw6];exact ae (Below.refl _ _) _
   have h12:w6.heap[w5.heap.size]?=some (.cells #[.int .i64 x.kind,.int .i64 x.n] 135 (0,0)):=by rw[hw6];exact heap_alloc_last w5 _
   refine ar hw6.symm ?_
   have HT6:=ak_ (HT5.out.below hb6)
   clear k3 kA kM hw6
   obtain⟨v,hv⟩:=nm_ (dn F e x)
   rw[←hv] at HFi
   have HV:=ak_ hv
   have H12:=ak_ h12
   clear hv h12
   have x0:=(show w6.cell? ⟨w5.heap.size,0,none⟩=some (.int .i64 x.kind) by rw[ah H12.out];rfl)
   have x1:=(show w6.cell? ⟨w5.heap.size,1,none⟩=some (.int .i64 x.n) by rw[ah H12.out];rfl)
   go_upto_if 38 with fail
   go_cut [] from 39 to 47 (fun wx=>aa (nw w wx l now∧wx.heap[w5.heap.size]?=some (.cells #[.int .i64 v.kind,.int .i64 v.n] 135 (0,0))))
   case first=>
    by_cases h4:x.kind=4
    ·have q4:(x.kind == 4)=true:=beq_iff_eq.mpr h4
     have hx4:dr f S e l=x:=HX.out.symm
     obtain⟨o,ho,hoj⟩:=HE.out
     obtain⟨b1,b2,b3,b4⟩:=ur (vk HNw.out.1 HNw.out.2 ho) ho hl (by rw[hx4];exact h4)
     rw[hx4] at b3 b4
     obtain⟨e1,e2⟩:=e
     simp only at b1 b2
     obtain⟨m,rfl⟩:∃ m:Nat,e1=m:=⟨e1.toNat,by omega⟩
     obtain⟨xk,xn⟩:=x
     simp only at b3 b4 h4 x0 x1
     obtain rfl:xk=4:=h4
     obtain⟨q,rfl⟩:∃ q:Nat,xn=q:=⟨xn.toNat,by omega⟩
     have hm:m < F.length:=by rw[HS.out.len];omega
     have hM6:=HM.out.below HT6.out.b
     obtain⟨vR,hvR⟩:∃ vR,vs[m]?=some vR:=⟨_,List.getElem?_eq_getElem (by rw[hM6.len];exact hm)⟩
     obtain⟨row,hrow⟩:∃ row,F[m]?=some row:=⟨_,List.getElem?_eq_getElem hm⟩
     have hRr:=hM6.row m vR row hvR hrow
     have hr24:row.length=24:=HS.out.row row (List.mem_of_getElem? hrow)
     obtain⟨AR2,cR2,rfl⟩:=Kd.R_slice hRr
     obtain⟨s,hs⟩:∃ s,row[q]?=some s:=⟨_,List.getElem?_eq_getElem (by omega)⟩
     obtain⟨A3,c3,z1,z2,z3⟩:=Rd.of_R (Kd.R_drew hRr)
     injection z1 with z1 z4 z5
     subst z1
     obtain⟨adS,csS,rfl,hKS,hldS⟩:=eu (P:=Tryz.prog) z3 q (by omega) s hs 135 Tryz.underlying135 rfl aG
     obtain rfl:csS=[.int .i64 s.kind,.int .i64 s.n]:=hKS
     have hv:=HV.out
     have hq':(q:Int) < (row.length:Int):=by omega
     have HR24:=ak_ hr24
     clear hr24
     have c4:=(show w6.cell? ⟨g4,0,none⟩=some (.slice (some ⟨g,0,none⟩) F.length F.length) by rw[ah (ag H4.out HT6.out.b)];rfl)
     have cM:=(show w6.cell? ⟨g,m,none⟩=some (.slice (some adS) row.length cR2) by rw[ap hM6.blk];exact hvR)
     have e0:=(show w6.cell? ⟨wr.heap.size,0,none⟩=some (.int .i64 (m:Int)) by rw[ah (ag H11.out hb6)];rfl)
     go_upto_region 8 with fail
     go_still_tail 9,(by kernel_rfl)
     refine bu rfl (al rfl rfl hldS) ?_
     refine wpStill_nil ?_
     refine an (W:=w6.drew) rfl 135 _ _ rfl w5.heap.size #[.int .i64 s.kind,.int .i64 s.n] rfl rfl 135 #[.int .i64 4,.int .i64 (q:Int)] H12.out aG rfl (by simp[Value.oneCell']) ?_
     intro w8 h8 hf8
     have HT8:=ak_ (HT6.out.fr (Fr.trans (Fr.drew (S:=fun k=>k=w5.heap.size)) hf8) (by have:=ai H11.out;have:=HT5.out.n;have:=ai this;omega))
     have hvs:v=s:=by
      rw[hv]
      unfold dn
      rw[if_pos rfl]
      simp only[Int.toNat_natCast]
      rw[List.getD_eq_getElem?_getD (l:=F),hrow]
      simp only[Option.getD_some]
      rw[List.getD_eq_getElem?_getD,hs]
      rfl
     rw[←hvs] at h8
     have H8:=ak_ h8
     clear h8 hf8 hv hvs z3 hldS hRr hs hrow hvR hM6 ho
     go_wp2
     go_meet
     case rel=>exact⟨⟨HT8.out,H8.out⟩⟩
    ·have q4:(x.kind == 4)=false:=beq_eq_false_iff_ne.mpr h4
     have HV2:=ak_ (show v=x by rw[HV.out,dn,if_neg h4])
     clear h4
     go_wp2
     go_meet
     case rel=>exact⟨⟨HT6.out,by rw[HV2.out];exact H12.out⟩⟩
   case rest=>
    obtain⟨hT7,h12⟩:=hcut.out
    have HT7:=ak_ hT7
    have gl1:=(HG.out.below HT7.out.b).2.1
    have gl2:=(HG.out.below HT7.out.b).2.2.1
    have n0:=(show wc.cell? ⟨w.heap.size+1+1,0,none⟩=some (.int .i64 now.kind) by rw[ah HT7.out.n];rfl)
    have n1:=(show wc.cell? ⟨w.heap.size+1+1,1,none⟩=some (.int .i64 now.n) by rw[ah HT7.out.n];rfl)
    have o0:=(show wc.cell? ⟨w.heap.size+1,0,none⟩=some (.int .i64 4) by rw[ah HT7.out.o];rfl)
    have o1:=(show wc.cell? ⟨w.heap.size+1,1,none⟩=some (.int .i64 (l:Int)) by rw[ah HT7.out.o];rfl)
    have x0:=(show wc.cell? ⟨w5.heap.size,0,none⟩=some (.int .i64 v.kind) by rw[ah h12];rfl)
    have x1:=(show wc.cell? ⟨w5.heap.size,1,none⟩=some (.int .i64 v.n) by rw[ah h12];rfl)
    clear h12 hT7 hcut HV H12 hb6
    by_cases hvk:v.kind=-1
    ·by_cases hvn:v.n=0
     ·have HR0:=ak_ (show r=bk ⟨4,l⟩ ((ws.drop (k+1)).map fun e=>dn F e (dr f S e l)) now by rw[HFi.out,bk,if_pos (show v=opn by obtain⟨a,b⟩:=v;simp only at hvk hvn;rw[hvk,hvn];rfl)])
      go_wp2
      go_roundw
      case rel=>exact⟨k+1,now,by go_num,⟨⟨HKl.out,HT7.out,HR0.out⟩⟩⟩
      case measure=>have:=HKl.out;simp[intOf];omega
     ·have HR0:=ak_ (show r=⟨4,l⟩ by rw[HFi.out,bk,if_neg (show v≠opn from fun e=>hvn (by rw[e];rfl)),if_pos (.inl ⟨by rw[hvk];decide,by rw[hvk];decide⟩)])
      have q1:(v.n == 0)=false:=beq_eq_false_iff_ne.mpr hvn
      go_wp2_with (first
       | ((with_reducible refine ao (t:=135) (p:=7) rfl ?_);refine an rfl 135 _ _ rfl w.heap.size #[.int .i64 4,.int .i64 (l:Int)] rfl rfl 135 #[.int .i64 0,.int .i64 0] HT7.out.r aG rfl (by simp[Value.oneCell']) ?_;intro w8 h8 hf8;have H8:=ak_ h8;have F8:=ak_ hf8;clear h8 hf8))
      all_goals rw[HR0.out]
      all_goals exact bodyPost_ret (v:=.agg #[.int .i64 4,.int .i64 (l:Int)]) (results_cell_row rfl _ _ w.heap.size 135 #[.int .i64 4,.int .i64 (l:Int)] (0,0) _ rfl H8.out Tryz.underlying135 rfl aG) rfl ⟨rfl,Fr.below HT7.out.b F8.out (fun k hk h=>by omega) HT7.out.b.size⟩
    ·have q0:(v.kind == -1)=false:=beq_eq_false_iff_ne.mpr hvk
     have HVo:=ak_ (show v≠opn from fun e=>hvk (by rw[e];rfl))
     by_cases hb1:v.kind≠2∧v.kind≠0
     ·have HR0:=ak_ (show r=⟨4,l⟩ by rw[HFi.out,bk,if_neg HVo.out,if_pos (.inl hb1)])
      have q1:(v.kind != 2)=true:=bne_iff_ne.mpr hb1.1
      have q2:(v.kind != 0)=true:=bne_iff_ne.mpr hb1.2
      clear hb1 hvk
      go_wp2_with (first
       | ((with_reducible refine ao (t:=135) (p:=7) rfl ?_);refine an rfl 135 _ _ rfl w.heap.size #[.int .i64 4,.int .i64 (l:Int)] rfl rfl 135 #[.int .i64 0,.int .i64 0] HT7.out.r aG rfl (by simp[Value.oneCell']) ?_;intro w8 h8 hf8;have H8:=ak_ h8;have F8:=ak_ hf8;clear h8 hf8))
      rw[HR0.out]
      exact bodyPost_ret (v:=.agg #[.int .i64 4,.int .i64 (l:Int)]) (results_cell_row rfl _ _ w.heap.size 135 #[.int .i64 4,.int .i64 (l:Int)] (0,0) _ rfl H8.out Tryz.underlying135 rfl aG) rfl ⟨rfl,Fr.below HT7.out.b F8.out (fun k hk h=>by omega) HT7.out.b.size⟩
     ·by_cases hkv:v.kind=2
      ·by_cases hnk:now.kind=-1
       ·by_cases hnn:now.n=0
        ·have HR0:=ak_ (show r=bk ⟨4,l⟩ ((ws.drop (k+1)).map fun e=>dn F e (dr f S e l)) v by rw[HFi.out,bk,if_neg HVo.out,if_neg (by rintro(q | q);exact hb1 q;exact(q.1 (by obtain⟨a,b⟩:=now;simp only at hnk hnn;rw[hnk,hnn];rfl)))])
         go_wp2_with (first
          | ((with_reducible refine ao (t:=135) (p:=9) rfl ?_);refine an rfl 135 _ _ rfl (w.heap.size+1+1) #[.int .i64 2,.int .i64 v.n] rfl rfl 135 #[.int .i64 now.kind,.int .i64 now.n] HT7.out.n aG rfl (by simp[Value.oneCell']) ?_;intro w8 h8 hf8;have H8:=ak_ h8;have F8:=ak_ hf8;clear h8 hf8))
         have HT8:=ak_ (HT7.out.take F8.out (by rw[hkv];exact H8.out))
         go_roundw
         case rel=>exact⟨k+1,v,by go_num,⟨⟨HKl.out,HT8.out,HR0.out⟩⟩⟩
         case measure=>have:=HKl.out;simp[intOf];omega
        ·have qn:(now.n == 0)=false:=beq_eq_false_iff_ne.mpr hnn
         have HR0:=ak_ (show r=⟨4,l⟩ by rw[HFi.out,bk,if_neg HVo.out,if_pos (.inr ⟨fun e=>hnn (by rw[e];rfl),fun e=>by rw[e,hkv] at hnk;exact absurd hnk (by decide)⟩)])
         go_wp2_with (first
          | ((with_reducible refine ao (t:=135) (p:=7) rfl ?_);refine an rfl 135 _ _ rfl w.heap.size #[.int .i64 4,.int .i64 (l:Int)] rfl rfl 135 #[.int .i64 0,.int .i64 0] HT7.out.r aG rfl (by simp[Value.oneCell']) ?_;intro w8 h8 hf8;have H8:=ak_ h8;have F8:=ak_ hf8;clear h8 hf8))
         rw[HR0.out]
         exact bodyPost_ret (v:=.agg #[.int .i64 4,.int .i64 (l:Int)]) (results_cell_row rfl _ _ w.heap.size 135 #[.int .i64 4,.int .i64 (l:Int)] (0,0) _ rfl H8.out Tryz.underlying135 rfl aG) rfl ⟨rfl,Fr.below HT7.out.b F8.out (fun k hk h=>by omega) HT7.out.b.size⟩
       ·have qk:(now.kind == -1)=false:=beq_eq_false_iff_ne.mpr hnk
        by_cases hk2:now.kind=2
        ·by_cases hn2:now.n=v.n
         ·have HR0:=ak_ (show r=bk ⟨4,l⟩ ((ws.drop (k+1)).map fun e=>dn F e (dr f S e l)) v by rw[HFi.out,bk,if_neg HVo.out,if_neg (by rintro(q | q);exact hb1 q;exact(q.2 (by obtain⟨a,b⟩:=now;obtain⟨c,d⟩:=v;simp only at hkv hk2 hn2;rw[hk2,hn2,hkv])))])
          go_wp2_with (first
           | ((with_reducible refine ao (t:=135) (p:=9) rfl ?_);refine an rfl 135 _ _ rfl (w.heap.size+1+1) #[.int .i64 2,.int .i64 v.n] rfl rfl 135 #[.int .i64 now.kind,.int .i64 now.n] HT7.out.n aG rfl (by simp[Value.oneCell']) ?_;intro w8 h8 hf8;have H8:=ak_ h8;have F8:=ak_ hf8;clear h8 hf8))
          have HT8:=ak_ (HT7.out.take F8.out (by rw[hkv];exact H8.out))
          go_roundw
          case rel=>exact⟨k+1,v,by go_num,⟨⟨HKl.out,HT8.out,HR0.out⟩⟩⟩
          case measure=>have:=HKl.out;simp[intOf];omega
         ·have qn:(now.n == v.n)=false:=beq_eq_false_iff_ne.mpr hn2
          have HR0:=ak_ (show r=⟨4,l⟩ by rw[HFi.out,bk,if_neg HVo.out,if_pos (.inr ⟨fun e=>hnk (by rw[e];rfl),fun e=>hn2 (by rw[e])⟩)])
          go_wp2_with (first
           | ((with_reducible refine ao (t:=135) (p:=7) rfl ?_);refine an rfl 135 _ _ rfl w.heap.size #[.int .i64 4,.int .i64 (l:Int)] rfl rfl 135 #[.int .i64 0,.int .i64 0] HT7.out.r aG rfl (by simp[Value.oneCell']) ?_;intro w8 h8 hf8;have H8:=ak_ h8;have F8:=ak_ hf8;clear h8 hf8))
          rw[HR0.out]
          exact bodyPost_ret (v:=.agg #[.int .i64 4,.int .i64 (l:Int)]) (results_cell_row rfl _ _ w.heap.size 135 #[.int .i64 4,.int .i64 (l:Int)] (0,0) _ rfl H8.out Tryz.underlying135 rfl aG) rfl ⟨rfl,Fr.below HT7.out.b F8.out (fun k hk h=>by omega) HT7.out.b.size⟩
        ·have qn:(now.kind == 2)=false:=beq_eq_false_iff_ne.mpr hk2
         have HR0:=ak_ (show r=⟨4,l⟩ by rw[HFi.out,bk,if_neg HVo.out,if_pos (.inr ⟨fun e=>hnk (by rw[e];rfl),fun e=>hk2 (by rw[e,hkv])⟩)])
         go_wp2_with (first
          | ((with_reducible refine ao (t:=135) (p:=7) rfl ?_);refine an rfl 135 _ _ rfl w.heap.size #[.int .i64 4,.int .i64 (l:Int)] rfl rfl 135 #[.int .i64 0,.int .i64 0] HT7.out.r aG rfl (by simp[Value.oneCell']) ?_;intro w8 h8 hf8;have H8:=ak_ h8;have F8:=ak_ hf8;clear h8 hf8))
         rw[HR0.out]
         exact bodyPost_ret (v:=.agg #[.int .i64 4,.int .i64 (l:Int)]) (results_cell_row rfl _ _ w.heap.size 135 #[.int .i64 4,.int .i64 (l:Int)] (0,0) _ rfl H8.out Tryz.underlying135 rfl aG) rfl ⟨rfl,Fr.below HT7.out.b F8.out (fun k hk h=>by omega) HT7.out.b.size⟩
      ·have hkv:v.kind=0:=by
        by_cases q:v.kind=0
        ·exact q
        ·exact absurd ⟨hkv,q⟩ hb1
       by_cases hnk:now.kind=-1
       ·by_cases hnn:now.n=0
        ·have HR0:=ak_ (show r=bk ⟨4,l⟩ ((ws.drop (k+1)).map fun e=>dn F e (dr f S e l)) v by rw[HFi.out,bk,if_neg HVo.out,if_neg (by rintro(q | q);exact hb1 q;exact(q.1 (by obtain⟨a,b⟩:=now;simp only at hnk hnn;rw[hnk,hnn];rfl)))])
         go_wp2_with (first
          | ((with_reducible refine ao (t:=135) (p:=9) rfl ?_);refine an rfl 135 _ _ rfl (w.heap.size+1+1) #[.int .i64 0,.int .i64 v.n] rfl rfl 135 #[.int .i64 now.kind,.int .i64 now.n] HT7.out.n aG rfl (by simp[Value.oneCell']) ?_;intro w8 h8 hf8;have H8:=ak_ h8;have F8:=ak_ hf8;clear h8 hf8))
         have HT8:=ak_ (HT7.out.take F8.out (by rw[hkv];exact H8.out))
         go_roundw
         case rel=>exact⟨k+1,v,by go_num,⟨⟨HKl.out,HT8.out,HR0.out⟩⟩⟩
         case measure=>have:=HKl.out;simp[intOf];omega
        ·have qn:(now.n == 0)=false:=beq_eq_false_iff_ne.mpr hnn
         have HR0:=ak_ (show r=⟨4,l⟩ by rw[HFi.out,bk,if_neg HVo.out,if_pos (.inr ⟨fun e=>hnn (by rw[e];rfl),fun e=>by rw[e,hkv] at hnk;exact absurd hnk (by decide)⟩)])
         go_wp2_with (first
          | ((with_reducible refine ao (t:=135) (p:=7) rfl ?_);refine an rfl 135 _ _ rfl w.heap.size #[.int .i64 4,.int .i64 (l:Int)] rfl rfl 135 #[.int .i64 0,.int .i64 0] HT7.out.r aG rfl (by simp[Value.oneCell']) ?_;intro w8 h8 hf8;have H8:=ak_ h8;have F8:=ak_ hf8;clear h8 hf8))
         rw[HR0.out]
         exact bodyPost_ret (v:=.agg #[.int .i64 4,.int .i64 (l:Int)]) (results_cell_row rfl _ _ w.heap.size 135 #[.int .i64 4,.int .i64 (l:Int)] (0,0) _ rfl H8.out Tryz.underlying135 rfl aG) rfl ⟨rfl,Fr.below HT7.out.b F8.out (fun k hk h=>by omega) HT7.out.b.size⟩
       ·have qk:(now.kind == -1)=false:=beq_eq_false_iff_ne.mpr hnk
        by_cases hk2:now.kind=0
        ·by_cases hn2:now.n=v.n
         ·have HR0:=ak_ (show r=bk ⟨4,l⟩ ((ws.drop (k+1)).map fun e=>dn F e (dr f S e l)) v by rw[HFi.out,bk,if_neg HVo.out,if_neg (by rintro(q | q);exact hb1 q;exact(q.2 (by obtain⟨a,b⟩:=now;obtain⟨c,d⟩:=v;simp only at hkv hk2 hn2;rw[hk2,hn2,hkv])))])
          go_wp2_with (first
           | ((with_reducible refine ao (t:=135) (p:=9) rfl ?_);refine an rfl 135 _ _ rfl (w.heap.size+1+1) #[.int .i64 0,.int .i64 v.n] rfl rfl 135 #[.int .i64 now.kind,.int .i64 now.n] HT7.out.n aG rfl (by simp[Value.oneCell']) ?_;intro w8 h8 hf8;have H8:=ak_ h8;have F8:=ak_ hf8;clear h8 hf8))
          have HT8:=ak_ (HT7.out.take F8.out (by rw[hkv];exact H8.out))
          go_roundw
          case rel=>exact⟨k+1,v,by go_num,⟨⟨HKl.out,HT8.out,HR0.out⟩⟩⟩
          case measure=>have:=HKl.out;simp[intOf];omega
         ·have qn:(now.n == v.n)=false:=beq_eq_false_iff_ne.mpr hn2
          have HR0:=ak_ (show r=⟨4,l⟩ by rw[HFi.out,bk,if_neg HVo.out,if_pos (.inr ⟨fun e=>hnk (by rw[e];rfl),fun e=>hn2 (by rw[e])⟩)])
          go_wp2_with (first
           | ((with_reducible refine ao (t:=135) (p:=7) rfl ?_);refine an rfl 135 _ _ rfl w.heap.size #[.int .i64 4,.int .i64 (l:Int)] rfl rfl 135 #[.int .i64 0,.int .i64 0] HT7.out.r aG rfl (by simp[Value.oneCell']) ?_;intro w8 h8 hf8;have H8:=ak_ h8;have F8:=ak_ hf8;clear h8 hf8))
          rw[HR0.out]
          exact bodyPost_ret (v:=.agg #[.int .i64 4,.int .i64 (l:Int)]) (results_cell_row rfl _ _ w.heap.size 135 #[.int .i64 4,.int .i64 (l:Int)] (0,0) _ rfl H8.out Tryz.underlying135 rfl aG) rfl ⟨rfl,Fr.below HT7.out.b F8.out (fun k hk h=>by omega) HT7.out.b.size⟩
        ·have qn:(now.kind == 0)=false:=beq_eq_false_iff_ne.mpr hk2
         have HR0:=ak_ (show r=⟨4,l⟩ by rw[HFi.out,bk,if_neg HVo.out,if_pos (.inr ⟨fun e=>hnk (by rw[e];rfl),fun e=>hk2 (by rw[e,hkv])⟩)])
         go_wp2_with (first
          | ((with_reducible refine ao (t:=135) (p:=7) rfl ?_);refine an rfl 135 _ _ rfl w.heap.size #[.int .i64 4,.int .i64 (l:Int)] rfl rfl 135 #[.int .i64 0,.int .i64 0] HT7.out.r aG rfl (by simp[Value.oneCell']) ?_;intro w8 h8 hf8;have H8:=ak_ h8;have F8:=ak_ hf8;clear h8 hf8))
         rw[HR0.out]
         exact bodyPost_ret (v:=.agg #[.int .i64 4,.int .i64 (l:Int)]) (results_cell_row rfl _ _ w.heap.size 135 #[.int .i64 4,.int .i64 (l:Int)] (0,0) _ rfl H8.out Tryz.underlying135 rfl aG) rfl ⟨rfl,Fr.below HT7.out.b F8.out (fun k hk h=>by omega) HT7.out.b.size⟩
  ·obtain rfl:k=ws.length:=by omega
   rw[List.drop_of_length_le (Nat.le_refl _)] at hfin
   have hres:r=now:=hfin
   have HT:=ak_ hT
   subst hres
   have n0:=(show wr.cell? ⟨w.heap.size+1+1,0,none⟩=some (.int .i64 r.kind) by rw[ah hT.n];rfl)
   have n1:=(show wr.cell? ⟨w.heap.size+1+1,1,none⟩=some (.int .i64 r.n) by rw[ah hT.n];rfl)
   clear hT hk hfin HL
   go_wp2_with (first
    | ((with_reducible refine ao (t:=135) (p:=7) rfl ?_);refine an rfl 135 _ _ rfl w.heap.size #[.int .i64 r.kind,.int .i64 r.n] rfl rfl 135 #[.int .i64 0,.int .i64 0] HT.out.r aG rfl (by simp[Value.oneCell']) ?_;intro w8 h8 hf8;have H8:=ak_ h8;have F8:=ak_ hf8;clear h8 hf8))
   exact bodyPost_ret (v:=.agg #[.int .i64 r.kind,.int .i64 r.n]) (results_cell_row rfl _ _ w.heap.size 135 #[.int .i64 r.kind,.int .i64 r.n] (0,0) _ rfl H8.out Tryz.underlying135 rfl aG) rfl ⟨rfl,Fr.below HT.out.b F8.out (fun k hk h=>by omega) HT.out.b.size⟩
def eD (f:List In) (S:bj) (n l:Nat) (r:List (List Src) × Bool):List (List Src) × Bool:=
 if cz f S r.1 n l=du r.1 n l then r else (jV r.1 n l (cz f S r.1 n l),true)
def fv (f:List In) (S:bj) (n k:Nat) (r:List (List Src) × Bool):List (List Src) × Bool:=(List.range k).foldl (fun r l=>eD f S n l r) r
def fP (f:List In) (S:bj) (k:Nat) (r:List (List Src) × Bool):List (List Src) × Bool:=(List.range k).foldl (fun r n=>fv f S n 24 r) r
def gU (f:List In) (S:bj):Nat→List (List Src)→List (List Src)
 | 0,F=>F
 | k+1,F=>if (fP f S S.nodes.length (F,false)).2=true then gU f S k (fP f S S.nodes.length (F,false)).1 else (fP f S S.nodes.length (F,false)).1
def io (N:Nat):List (List Src):=List.replicate N (List.replicate 24 opn)
def bY (f:List In) (S:bj):List (List Src):=gU f S (48 * S.nodes.length+1) (io S.nodes.length)
theorem gI (f:List In) (S:bj) (n k:Nat) (r:List (List Src) × Bool):fv f S n (k+1) r=eD f S n k (fv f S n k r):=by
 unfold fv
 rw[List.range_succ,List.foldl_append]
 rfl
theorem jZ (f:List In) (S:bj) (k:Nat) (r:List (List Src) × Bool):fP f S (k+1) r=fv f S k 24 (fP f S k r):=by
 unfold fP
 rw[List.range_succ (n:=k),List.foldl_append,List.foldl_cons,List.foldl_nil]
structure mn (f:List In) (S:bj) (F0:List (List Src)) (r:List (List Src) × Bool):Prop where
 sh:fL S.nodes.length r.1
 inc:Inc f S S.nodes.length r.1
 le:iA F0≤iA r.1
 lt:r.2=true→iA F0 < iA r.1
 same:r.2=false→r.1=F0
theorem mn.cell {f:List In} {S:bj} {F0:List (List Src)} {r:List (List Src) × Bool} (h:mn f S F0 r) {n l:Nat} (hn:n < S.nodes.length) (hl:l < 24):mn f S F0 (eD f S n l r):=by
 by_cases hne:cz f S r.1 n l=du r.1 n l
 ·unfold eD
  rw[if_pos hne]
  exact h
 ·have hr:=zD h.sh h.inc hn hl hne
  have h1:=h.sh.put hn l (cz f S r.1 n l)
  have h2:=(h.inc.put h.sh hn hl).2
  have h3:=h.le
  unfold eD
  rw[if_neg hne]
  exact⟨h1,h2,Nat.le_trans h3 (Nat.le_of_lt hr),fun _=>Nat.lt_of_le_of_lt h3 hr,fun e=>Bool.noConfusion e⟩
theorem mn.row {f:List In} {S:bj} {F0:List (List Src)} {r:List (List Src) × Bool} (h:mn f S F0 r) {n:Nat} (hn:n < S.nodes.length):∀ k,k≤24→mn f S F0 (fv f S n k r)
 | 0,_=>h
 | k+1,hk=>by rw[gI];exact(mn.row h hn k (by omega)).cell hn (by omega)
theorem mn.pass {f:List In} {S:bj} {F0:List (List Src)} {r:List (List Src) × Bool} (h:mn f S F0 r):∀ k,k≤S.nodes.length→mn f S F0 (fP f S k r)
 | 0,_=>h
 | k+1,hk=>by rw[jZ];exact(mn.pass h k (by omega)).row (by omega) 24 (Nat.le_refl _)
theorem Db (N n l:Nat):du (io N) n l=opn:=by
 unfold du io
 by_cases h:n < N
 ·simp only[List.getD_eq_getElem?_getD,List.getElem?_replicate,if_pos h,Option.getD_some]
  split <;> rfl
 ·simp only[List.getD_eq_getElem?_getD,List.getElem?_replicate,if_neg h,Option.getD_none,List.getElem?_nil]
theorem uM (N:Nat):fL N (io N):=⟨by unfold io;rw[List.length_replicate],fun r hr=>by rw[List.eq_of_mem_replicate hr,List.length_replicate]⟩
theorem CE (f:List In) (S:bj) (N:Nat):Inc f S N (io N):=fun n l _ _=>.inr (.inl (Db N n l))
structure mU (f:List In) (S:bj) (k:Nat) (m:Bool) (F:List (List Src)):Prop where
 sh:fL S.nodes.length F
 inc:Inc f S S.nodes.length F
 more:m=true→gU f S k F=bY f S∧48 * S.nodes.length+1≤iA F+k
 done:m=false→F=bY f S
theorem mU.start (f:List In) (S:bj):mU f S (48 * S.nodes.length+1) true (io S.nodes.length):=⟨uM _,CE _ _ _,fun _=>⟨rfl,by omega⟩,fun e=>by simp at e⟩
theorem mU.inv {f:List In} {S:bj} {k:Nat} {m:Bool} {F:List (List Src)} (h:mU f S k m F):mn f S F (F,false):=⟨h.sh,h.inc,Nat.le_refl _,fun e=>by simp at e,fun _=>rfl⟩
theorem mU.pos {f:List In} {S:bj} {k:Nat} {F:List (List Src)} (h:mU f S k true F):0 < k:=by
 have:=(h.more rfl).2
 have:=r_ h.sh
 omega
theorem mU.round {f:List In} {S:bj} {k:Nat} {F:List (List Src)} (h:mU f S (k+1) true F) {r:List (List Src) × Bool} (hr:r=fP f S S.nodes.length (F,false)):mU f S k r.2 r.1:=by
 have hi:=h.inv.pass S.nodes.length (Nat.le_refl _)
 rw[←hr] at hi
 have hm:=h.more rfl
 unfold gU at hm
 rw[←hr] at hm
 refine⟨hi.sh,hi.inc,fun e=>?_,fun e=>?_⟩
 ·rw[if_pos e] at hm
  have:=hi.lt e
  exact⟨hm.1,by omega⟩
 ·rw[if_neg (by rw[e];simp)] at hm
  exact hm.1
theorem yT {f:List In} {S:bj} {n l:Nat} {r:List (List Src) × Bool} (h:(eD f S n l r).2=false):eD f S n l r=r∧cz f S r.1 n l=du r.1 n l:=by
 unfold eD at h ⊢
 split
 ·rename_i e;exact⟨rfl,e⟩
 ·rename_i e;rw[if_neg e] at h;simp at h
theorem rV {f:List In} {S:bj} {n:Nat} {r:List (List Src) × Bool}:∀ k,(fv f S n k r).2=false→fv f S n k r=r∧∀ l,l < k→cz f S r.1 n l=du r.1 n l
 | 0,_=>⟨rfl,fun l h=>absurd h (Nat.not_lt_zero _)⟩
 | k+1,h=>by
  rw[gI] at h ⊢
  obtain⟨h1,h2⟩:=yT h
  rw[h1] at h ⊢
  obtain⟨h3,h4⟩:=rV k h
  rw[h3] at h2 ⊢
  exact⟨rfl,fun l hl=>by
   by_cases e:l=k
   ·subst e;exact h2
   ·exact h4 l (by omega)⟩
theorem pU {f:List In} {S:bj} {r:List (List Src) × Bool}:∀ k,(fP f S k r).2=false→fP f S k r=r∧∀ n l,n < k→l < 24→cz f S r.1 n l=du r.1 n l
 | 0,_=>⟨rfl,fun n l h=>absurd h (Nat.not_lt_zero _)⟩
 | k+1,h=>by
  rw[jZ] at h ⊢
  obtain⟨h1,h2⟩:=rV 24 h
  rw[h1] at h ⊢
  obtain⟨h3,h4⟩:=pU k h
  rw[h3] at h2 ⊢
  exact⟨rfl,fun n l hn hl=>by
   by_cases e:n=k
   ·subst e;exact h2 l hl
   ·exact h4 n l (by omega) hl⟩
structure CI (f:List In) (S:bj) (F:List (List Src)):Prop where
 sh:fL S.nodes.length F
 fix:∀ n l,n < S.nodes.length→l < 24→cz f S F n l=du F n l
theorem jJ {f:List In} {S:bj}:∀ (k:Nat) (F:List (List Src)),fL S.nodes.length F→Inc f S S.nodes.length F→48 * S.nodes.length+1≤iA F+k→CI f S (gU f S k F)
 | 0,F,hs,_,hk=>by have:=r_ hs;omega
 | k+1,F,hs,hi,hk=>by
  have hv:mn f S F (F,false):=⟨hs,hi,Nat.le_refl _,fun e=>by simp at e,fun _=>rfl⟩
  have hp:=hv.pass S.nodes.length (Nat.le_refl _)
  unfold gU
  by_cases e:(fP f S S.nodes.length (F,false)).2=true
  ·rw[if_pos e]
   have:=hp.lt e
   exact jJ k _ hp.sh hp.inc (by omega)
  ·rw[if_neg e]
   obtain⟨h1,h2⟩:=pU S.nodes.length (Bool.eq_false_iff.2 e)
   rw[h1]
   exact⟨hs,h2⟩
theorem kg (f:List In) (S:bj):CI f S (bY f S):=jJ _ _ (uM _) (CE _ _ _) (by omega)
theorem mU.end_ {f:List In} {S:bj} {k:Nat} {F:List (List Src)} (h:mU f S k false F):F=bY f S:=h.done rfl
end Go.Proofs.YtlinbehijfcelaaGreatDoor.Top
