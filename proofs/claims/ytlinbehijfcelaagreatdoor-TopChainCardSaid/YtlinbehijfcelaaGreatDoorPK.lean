/- Walks of the program, and what it computes, told plainly. No condition. (USQ) -/
import Derived.Test.YtlinbehijfcelaaGreatDoorPJ
set_option linter.unusedVariables false
set_option linter.unusedSimpArgs false
set_option linter.unusedSectionVars false
set_option maxHeartbeats 8000000
set_option maxRecDepth 100000
namespace Go.Proofs.YtlinbehijfcelaaGreatDoor.Top
open Go.RowKit Go.Proofs.YtlinbehijfcelaaGreatDoorW.PrintWords Go.Proofs.YtlinbehijfcelaaGreatDoorW.PrintLast
section
theorem AQ (A:Option Addr) (n c:Nat):Tryz.prog.built 124 [(0,.slice A n c)]=some (ep (.slice A n c) (.slice none 0 0) ⟨0,bo⟩ (.slice none 0 0) (.slice none 0 0) (.slice none 0 0) (.slice none 0 0) (.slice none 0 0)).toArray:=by kernel_rfl
structure Of4 (w W:World) (g2 gm p4:Nat) (L:List Value):Prop where
 b:Below w.heap.size w W
 h2:W.heap[g2]?=some (.cells #[.int .i64 0,.slice none 0 0,.slice none 0 0] 33 (0,0))
 blk:W.heap[gm]?=some (.cells L.toArray 124 (0,0))
 h4:W.heap[p4]?=some (.cells #[.pointer (some ⟨gm,0,none⟩)] 114 (0,0))
 lo:w.heap.size≤gm
section
variable {w W W1:World} {g2 gm p4:Nat} {L:List Value}
theorem Of4.below (h:Of4 w W g2 gm p4 L) (hb:Below W.heap.size W W1):Of4 w W1 g2 gm p4 L:=⟨af h.b hb,ag h.h2 hb,ag h.blk hb,ag h.h4 hb,h.lo⟩
theorem Of4.wr (h:Of4 w W g2 gm p4 L) {L1:List Value} (hf:Fr (fun k=>k=gm) W W1) (hb:W1.heap[gm]?=some (.cells L1.toArray 124 (0,0))):Of4 w W1 g2 gm p4 L1:=
 have hlo:=h.lo
 have n2:g2≠gm:=fun e=>by have h1:=h.h2;rw[e,h.blk] at h1;simp at h1
 have n4:p4≠gm:=fun e=>by have h1:=h.h4;rw[e,h.blk] at h1;simp at h1
 ⟨Fr.below h.b hf (fun k hk q=>by omega) h.b.size,(hf.block _ (ai h.h2) n2).trans h.h2,hb,(hf.block _ (ai h.h4) n4).trans h.h4,h.lo⟩
theorem Of4.set (h:Of4 w W g2 gm p4 L) (i:Nat) (v:Value):Of4 w (W.setCell ⟨gm,i,none⟩ v) g2 gm p4 (L.set i v):=h.wr (Fr.cell (S:=fun k=>k=gm) (p:=⟨gm,i,none⟩) rfl _) (aJ h.blk i v)
theorem Of4.frS (i:Nat) (v:Value):Fr (fun k=>k=gm) W (W.setCell ⟨gm,i,none⟩ v):=Fr.cell (S:=fun k=>k=gm) (p:=⟨gm,i,none⟩) rfl _
theorem Of4.c4 (h:Of4 w W g2 gm p4 L):W.cell? ⟨p4,0,none⟩=some (.pointer (some ⟨gm,0,none⟩)):=by rw[ah h.h4];rfl
theorem Of4.keep (h:Of4 w W g2 gm p4 L) {α:Type} {d:Kd α} {e b:Nat} {ok:Nat→Prop} {v:Value} {xs:List α} (hr:Kd.R d e W b ok v xs) (hd:∀ q∈e :: d.E,q≠124) (hf:Fr (fun k=>k=gm) W W1):Kd.R d e W1 b ok v xs:=
 c_ hr hf (fun k q cells hk hc hq=>by
  have hk2:k=gm:=hk
  rw[hk2,h.blk] at hc
  simp at hc
  exact hd q hq hc.2.symm)
end
def mk0 (vf vc:Value):List Value:=ep vf vc ⟨0,bo⟩ (.slice none 0 0) (.slice none 0 0) (.slice none 0 0) (.slice none 0 0) (.slice none 0 0)
def mk1 (vf vc:Value) (e:aU) (vN vF vA vW:Value):List Value:=ep vf vc e vN vF vA vW (.slice none 0 0)
theorem BE (vf vc vN:Value) (e:aU):(mk0 vf vc).take 2++(e.cells++[vN])++(mk0 vf vc).drop (2+(e.cells++[vN]).length)=mk1 vf vc e vN (.slice none 0 0) (.slice none 0 0) (.slice none 0 0):=by
 have hl:(e.cells++[vN]).length=26:=by rw[List.length_append,aU.len];rfl
 rw[hl]
 have h1:(mk0 vf vc).take 2=[vf,vc]:=rfl
 have h2:(mk0 vf vc).drop (2+26)=[.slice none 0 0,.slice none 0 0,.slice none 0 0,.slice none 0 0]:=rfl
 rw[h1,h2]
 unfold mk1 ep
 simp
theorem BD (vf vc vN vF vA vW:Value) (e:aU):((mk1 vf vc e vN vF vA vW).drop 2).take (e.cells++[vN]).length=e.cells++[vN]:=by
 have hl:(e.cells++[vN]).length=26:=by rw[List.length_append,aU.len];rfl
 rw[hl]
 have h1:(mk1 vf vc e vN vF vA vW).drop 2=(e.cells++[vN])++[vF,vA,vW,.slice none 0 0]:=by unfold mk1 ep;simp
 rw[h1,List.take_append_of_le_length (by omega),List.take_of_length_le (by omega)]
structure Of5 (w W:World) (g2 gm p4 gc:Nat) (c:List Bool) (S:bj) (vN:Value) (L:List Value):Prop where
 o:Of4 w W g2 gm p4 L
 hc:W.heap[gc]?=some (.cells (c.map Value.bool).toArray 4 (0,0))
 r:Kd.R dl 142 W w.heap.size (fun k=>w.heap.size≤k) vN S.nodes
section
variable {w W W1:World} {g2 gm p4 gc:Nat} {c:List Bool} {S:bj} {vN:Value} {L:List Value}
theorem Of5.below (h:Of5 w W g2 gm p4 gc c S vN L) (hb:Below W.heap.size W W1):Of5 w W1 g2 gm p4 gc c S vN L:=⟨h.o.below hb,ag h.hc hb,Kd.R_below h.r hb⟩
theorem Of5.set (h:Of5 w W g2 gm p4 gc c S vN L) (i:Nat) (v:Value):Of5 w (W.setCell ⟨gm,i,none⟩ v) g2 gm p4 gc c S vN (L.set i v):=
 ⟨h.o.set i v,a8 h.hc (p:=⟨gm,i,none⟩) (fun e=>by have h1:=h.o.blk;have e2:gc=gm:=e;rw[←e2,h.hc] at h1;simp at h1) _,h.o.keep h.r (fun q hq=>by have:=ic hq;omega) (Of4.frS i v)⟩
theorem Of5.load {vf vc vF vA vW:Value} (h:Of5 w W g2 gm p4 gc c S vN (mk1 vf vc S.entry vN vF vA vW)):(loadVar 119 ⟨gm,2,none⟩).run Tryz.prog W=.ok (.agg (S.entry.cells++[vN]).toArray) W:=
 bU h.o.blk 119 2 (S.entry.cells++[vN]) (BD _ _ _ _ _ _ _) _ Tryz.underlying119 rfl (by rw[List.length_append,aU.len];exact rg)
end
structure Of6 (w W:World) (g2 gm p4 gc:Nat) (f:List In) (c:List Bool) (S:bj) (F:List (List Src)) (vf vc vN:Value) (s:Value × Value × Value) (b0 b1 b2 b3 b4 b5:Bool):Prop where
 o:Of5 w W g2 gm p4 gc c S vN (mk1 vf vc S.entry vN (if b3=true then s.1 else .slice none 0 0) (if b4=true then s.2.1 else .slice none 0 0) (if b5=true then s.2.2 else .slice none 0 0))
 hf:b0=true→Kd.R k8 143 W w.heap.size (fun k=>w.heap.size≤k) s.1 F
 ha:b1=true→Kd.R lQ 120 W w.heap.size (fun k=>w.heap.size≤k) s.2.1 (eF f S)
 hw:b2=true→Kd.R (Kd.slice 151 cL) 149 W w.heap.size (fun k=>w.heap.size≤k) s.2.2 (aX S)
section
variable {w W W1:World} {g2 gm p4 gc:Nat} {f:List In} {c:List Bool} {S:bj} {F:List (List Src)} {vf vc vN:Value} {s:Value × Value × Value} {b0 b1 b2 b3 b4 b5:Bool}
theorem Of6.below (h:Of6 w W g2 gm p4 gc f c S F vf vc vN s b0 b1 b2 b3 b4 b5) (hb:Below W.heap.size W W1):Of6 w W1 g2 gm p4 gc f c S F vf vc vN s b0 b1 b2 b3 b4 b5:=⟨h.o.below hb,fun e=>Kd.R_below (h.hf e) hb,fun e=>Kd.R_below (h.ha e) hb,fun e=>Kd.R_below (h.hw e) hb⟩
theorem Of6.wr (h:Of6 w W g2 gm p4 gc f c S F vf vc vN s b0 b1 b2 b3 b4 b5) {b3' b4' b5':Bool} (i:Nat) (v:Value) (hL:(mk1 vf vc S.entry vN (if b3=true then s.1 else .slice none 0 0) (if b4=true then s.2.1 else .slice none 0 0) (if b5=true then s.2.2 else .slice none 0 0)).set i v=mk1 vf vc S.entry vN (if b3'=true then s.1 else .slice none 0 0) (if b4'=true then s.2.1 else .slice none 0 0) (if b5'=true then s.2.2 else .slice none 0 0)):Of6 w (W.setCell ⟨gm,i,none⟩ v) g2 gm p4 gc f c S F vf vc vN s b0 b1 b2 b3' b4' b5':=
 ⟨by rw[←hL];exact h.o.set i v,fun e=>h.o.o.keep (h.hf e) (fun q hq=>by have:=kn hq;omega) (Of4.frS i v),fun e=>h.o.o.keep (h.ha e) (fun q hq=>by have:=mM hq;omega) (Of4.frS i v),fun e=>h.o.o.keep (h.hw e) (fun q hq=>by have:=mL hq;omega) (Of4.frS i v)⟩
end
theorem uS (f:List In) (A:Option Addr) (cf:Nat) (w:World) (hG:Gl w) (hF:Kd.C kIn w A f.length f) (hcf:f.length≤cf) (hr:bi f=true) :
  Calls Tryz.prog 34 #[.slice A f.length cf] w fun e w'=>∃ vN vV,e=.returned (.tuple #[.agg #[.int .i64 (bD f).entry,vN,vV],.int .i64 0])∧Kd.R ek 145 w' w.heap.size (fun k=>w.heap.size≤k) vN (bD f).nodes∧Kd.R ie 148 w' w.heap.size (fun k=>w.heap.size≤k) vV (bD f).vals∧Below w.heap.size w w':=by
 have hR:=bN hr
 have hl200:=hR.len
 have hl200':(f.length:Int)≤200:=by omega
 have HRt:=ak_ (dY A cf f w hG hF hcf)
 have HCut:=ak_ (fun (W:World) (hb:Below w.heap.size w W)=>Bj f A cf W (hG.below hb) (Kd.C_below hF hb) hcf hr)
 have HG:=ak_ hG
 have HF:=ak_ hF
 have HR:=ak_ hR
 have HRr:=ak_ hr
 have HCf:=ak_ hcf
 clear hG hF hR hcf
 go_enter Tryz.func34,Tryz.ntmps34
 go_upto_region 1 with fail
 obtain⟨w1,hw1⟩:∃ w1,w1=w.alloc (.cells #[.int .i64 0,.slice none 0 0,.slice none 0 0] 33):=⟨_,rfl⟩
 have hb1:Below w.heap.size w w1:=by rw[hw1];exact ae (Below.refl _ _) _
 have h2:w1.heap[w.heap.size]?=some (.cells #[.int .i64 0,.slice none 0 0,.slice none 0 0] 33 (0,0)):=by rw[hw1];exact heap_alloc_last w _
 refine ar hw1.symm ?_
 have HRt1:=ak_ (dY A cf f w1 (HG.out.below hb1) (Kd.C_below HF.out hb1) HCf.out)
 have HB1:=ak_ hb1
 have H2:=ak_ h2
 clear hw1 hb1 h2 HRt
 go_upto_region 3 with (first
  | (go_at_call 47;refine HRt1.out.mono ?_;rintro e wa ⟨he,hb⟩;rw[hr] at he;subst he;have HBa:=ak_ (af HB1.out hb);have H2a:=ak_ (ag H2.out hb);clear hb))
 clear hr
 go_upto_region 4 with (first
  | ((with_reducible refine aj (N:=27) rfl ?_);refine aM rfl 124 _ rfl [(0,.slice A f.length cf)] _ rfl (AQ _ _ _) ?_))
 obtain⟨vf,hvf⟩:=nm_ (Value.slice A f.length cf)
 obtain⟨w3,hw3⟩:∃ w3,w3=(wa.alloc (.cells (mk0 vf (.slice none 0 0)).toArray 124)).alloc (.cells #[.pointer (some ⟨wa.heap.size,0,none⟩)] 114):=⟨_,rfl⟩
 have h3:Of4 w w3 w.heap.size wa.heap.size (wa.heap.size+1) (mk0 vf (.slice none 0 0)):=by
  have h:=heap_alloc_last (wa.alloc (.cells (mk0 vf (.slice none 0 0)).toArray 124)) (.cells #[.pointer (some ⟨wa.heap.size,0,none⟩)] 114 (0,0))
  rw[hw3]
  exact⟨ae (ae HBa.out _) _,aK (aK H2a.out _) _,aK (heap_alloc_last wa _) _,by simpa using h,HBa.out.size⟩
 have hw3':=hw3
 rw[hvf] at hw3'
 refine ar hw3'.symm ?_
 obtain⟨gm,hg⟩:=mn_ wa.heap.size
 obtain⟨p4,hp⟩:=mn_ (gm+1)
 rw[hg] at h3 ⊢
 rw[hp] at h3 ⊢
 have H3:=ak_ h3
 have HVf:=ak_ hvf
 clear hw3 hw3' h3 hg hp hvf HBa H2a
 refine bh (σ:=Nat) [2,8] (fun s=>[(30,.pointer (some ⟨gm,0,none⟩)),(31,.slice A f.length cf),(32,.tuple #[.slice (some ⟨s,0,none⟩) f.length f.length,.int .i64 0]),(29,.tuple #[.slice (some ⟨s,0,none⟩) f.length f.length,.int .i64 0]),(33,.slice (some ⟨s,0,none⟩) f.length f.length),(34,.int .i64 0),(35,.pointer (some ⟨gm,0,none⟩)),(36,.pointer (some ⟨gm,1,none⟩))])
  (fun bs s W=>Of4 w W w.heap.size gm p4 (mk0 vf (if bs.getD 1 false=true then .slice (some ⟨s,0,none⟩) f.length f.length else .slice none 0 0))∧(bs.getD 0 false=true→W.heap[s]?=some (.cells ((bZ f).map Value.bool).toArray 4 (0,0))∧w.heap.size≤s)) 0 (by kernel_rfl) (by kernel_rfl) (by kernel_rfl) (fun _=>by kernel_rfl) ?_
 intro aF haF
 simp only[bd,Act.put,List.setIfInBounds_toArray,List.set_cons_succ,List.set_cons_zero] at haF
 subst haF
 refine⟨?_,?_,⟨H3.out.below (az (Below.refl _ _)),fun e=>Bool.noConfusion e⟩,?_⟩
 ·intro j o ho hct s W bs hlen hok hI
  rcases j with _ | _ | _ | _ | _ | _ | _ | _ | _ | j
  all_goals first | exact absurd hct (by decide) | (obtain rfl:=Option.some.inj ho) | exact absurd (Array.getElem?_eq_some_iff.1 ho).1 (by simp)
  ·exact aw rfl 114 _ rfl ⟨p4,0,none⟩ _ rfl (by kernel_rfl) hI.1.c4 ⟨rfl,hI⟩
  ·exact ab rfl (by go_simp) ⟨rfl,hI⟩
  ·exact ab rfl (by go_simp) ⟨rfl,hI⟩
  ·exact ab rfl (by go_simp) ⟨rfl,hI⟩
  ·exact ab rfl (by go_simp) ⟨rfl,hI⟩
  ·exact ab rfl (by go_simp) ⟨rfl,hI⟩
  ·exact ab rfl (by go_simp) ⟨rfl,hI⟩
 ·intro k j o hk ho s W bs hlen hok hI
  rcases k with _ | _ | k
  all_goals first | (obtain rfl:=Option.some.inj hk;obtain rfl:=Option.some.inj ho) | exact absurd hk (by simp)
  ·obtain⟨b0,b1,rfl⟩:=fR hlen
   obtain rfl:=okS hok 0 rfl rfl
   obtain rfl:=okF hok 1 rfl rfl rfl (by kernel_rfl)
   refine aN rfl Tryz.func48 (by kernel_rfl) rfl #[.slice A f.length cf] rfl rfl ((HCut.out W hI.1.b).mono fun e w' h=>?_)
   obtain⟨gc,h1,h2,h3,h4⟩:=h
   exact⟨_,h1,gc,[(32,.tuple #[.slice (some ⟨gc,0,none⟩) f.length f.length,.int .i64 0]),(29,.tuple #[.slice (some ⟨gc,0,none⟩) f.length f.length,.int .i64 0]),(33,.slice (some ⟨gc,0,none⟩) f.length f.length)],rfl,rfl,by kernel_rfl,hI.1.below h4,fun _=>⟨h3,Nat.le_trans hI.1.b.size h2⟩⟩
  ·obtain⟨b0,b1,rfl⟩:=fR hlen
   obtain rfl:=okS hok 1 rfl rfl
   obtain rfl:=okT hok 0 rfl rfl rfl (by kernel_rfl)
   have h8:=hI.1.set 1 (.slice (some ⟨s,0,none⟩) f.length f.length)
   obtain⟨hc,hlo⟩:=hI.2 rfl
   have hne:s≠gm:=fun e=>by have h1:=hI.1.blk;rw[←e,hc] at h1;simp at h1
   exact aV rfl 71 _ _ rfl gm 1 _ (.slice none 0 0) rfl rfl rfl rfl (by kernel_rfl) (by rw[ap hI.1.blk];rfl) (aq hI.1.blk 1) ⟨s,[],rfl,rfl,rfl,h8,fun _=>⟨a8 hc (p:=⟨gm,1,none⟩) hne _,hlo⟩⟩
 ·intro s W hI
  obtain⟨gc,hgc⟩:=nm_ s
  subst hgc
  have H4:=ak_ (show Of4 w W w.heap.size gm p4 (mk0 vf (.slice (some ⟨gc,0,none⟩) f.length f.length)) from hI.1)
  have HC4:=ak_ (hI.2 rfl)
  clear hI H3
  dsimp only
  go_upto_region 5 with fail
  obtain⟨c,hcd⟩:=nm_ (bZ f)
  obtain⟨S,hSd⟩:=nm_ (a9 f c)
  have hcl:c.length=f.length:=by rw[hcd];exact vn HR.out
  have hok:=iz HR.out c
  rw[←hSd] at hok
  have hn200:S.nodes.length≤200:=by have:=hok.len;omega
  have hn200':(S.nodes.length:Int)≤200:=by omega
  have HC5:=HC4.out
  rw[←hcd] at HC5
  have hBd:=fun (W:World) (hb:Below w.heap.size w W) (hc:W.heap[gc]?=some (.cells (c.map Value.bool).toArray 4 (0,0)))=>gY f c A (some ⟨gc,0,none⟩) cf f.length W (HG.out.below hb) (Kd.C_below HF.out hb) HCf.out (uu hc (by rw[hcl];omega)) HRr.out
  rw[←hSd,hcl] at hBd
  have HBd:=ak_ hBd
  have HCd:=ak_ hcd
  have HSd:=ak_ hSd
  have HOk:=ak_ hok
  have HC6:=ak_ HC5
  clear hcl hok hBd hcd hSd HC4 HC5 HCut
  refine bh (σ:=Value) [6,12] (fun s=>[(38,.pointer (some ⟨gm,0,none⟩)),(39,.slice A f.length cf),(40,.pointer (some ⟨gm,0,none⟩)),(41,.pointer (some ⟨gm,0,none⟩)),(42,.pointer (some ⟨gm,1,none⟩)),(43,.slice (some ⟨gc,0,none⟩) f.length f.length),(44,.tuple #[.agg (S.entry.cells++[s]).toArray,.int .i64 0]),(37,.tuple #[.agg (S.entry.cells++[s]).toArray,.int .i64 0]),(45,.agg (S.entry.cells++[s]).toArray),(46,.int .i64 0),(47,.pointer (some ⟨gm,0,none⟩)),(48,.pointer (some ⟨gm,2,none⟩))])
   (fun bs s W=>Of4 w W w.heap.size gm p4 (if bs.getD 1 false=true then mk1 vf (.slice (some ⟨gc,0,none⟩) f.length f.length) S.entry s (.slice none 0 0) (.slice none 0 0) (.slice none 0 0) else mk0 vf (.slice (some ⟨gc,0,none⟩) f.length f.length))∧W.heap[gc]?=some (.cells (c.map Value.bool).toArray 4 (0,0))∧(bs.getD 0 false=true→Kd.R dl 142 W w.heap.size (fun k=>w.heap.size≤k) s S.nodes)) undef (by kernel_rfl) (by kernel_rfl) (by kernel_rfl) (fun _=>by kernel_rfl) ?_
  intro aF haF
  simp only[bd,Act.put,List.setIfInBounds_toArray,List.set_cons_succ,List.set_cons_zero] at haF
  subst haF
  refine⟨?_,?_,⟨H4.out.below (az (Below.refl _ _)),ag HC6.out.1 (az (Below.refl _ _)),fun e=>Bool.noConfusion e⟩,?_⟩
  ·intro j o ho hct s W bs hlen hok hI
   rcases j with _ | _ | _ | _ | _ | _ | _ | _ | _ | _ | _ | _ | _ | j
   all_goals first | exact absurd hct (by decide) | (obtain rfl:=Option.some.inj ho) | exact absurd (Array.getElem?_eq_some_iff.1 ho).1 (by simp)
   ·exact aw rfl 114 _ rfl ⟨p4,0,none⟩ _ rfl (by kernel_rfl) hI.1.c4 ⟨rfl,hI⟩
   ·exact ab rfl (by go_simp) ⟨rfl,hI⟩
   ·exact aw rfl 114 _ rfl ⟨p4,0,none⟩ _ rfl (by kernel_rfl) hI.1.c4 ⟨rfl,hI⟩
   ·exact ab rfl (by go_simp) ⟨rfl,hI⟩
   ·exact ab rfl (by go_simp) ⟨rfl,hI⟩
   ·obtain⟨b0,b1,rfl⟩:=fR hlen
    exact aw rfl 71 _ rfl ⟨gm,1,none⟩ _ rfl (by kernel_rfl) (by rw[ap hI.1.blk];show (if b1=true then mk1 vf (.slice (some ⟨gc,0,none⟩) f.length f.length) S.entry s (.slice none 0 0) (.slice none 0 0) (.slice none 0 0) else mk0 vf (.slice (some ⟨gc,0,none⟩) f.length f.length))[1]?=_;cases b1 <;> rfl) ⟨rfl,hI⟩
   ·exact ab rfl (by go_simp) ⟨rfl,hI⟩
   ·exact ab rfl (by go_simp) ⟨rfl,hI⟩
   ·exact ab rfl (by go_simp) ⟨rfl,hI⟩
   ·exact ab rfl (by go_simp) ⟨rfl,hI⟩
   ·exact ab rfl (by go_simp) ⟨rfl,hI⟩
  ·intro k j o hk ho s W bs hlen hok hI
   rcases k with _ | _ | k
   all_goals first | (obtain rfl:=Option.some.inj hk;obtain rfl:=Option.some.inj ho) | exact absurd hk (by simp)
   ·obtain⟨b0,b1,rfl⟩:=fR hlen
    obtain rfl:=okS hok 0 rfl rfl
    obtain rfl:=okF hok 1 rfl rfl rfl (by kernel_rfl)
    refine aN rfl Tryz.func49 (by kernel_rfl) rfl #[.slice A f.length cf,.slice (some ⟨gc,0,none⟩) f.length f.length] rfl rfl ((HBd.out W hI.1.b hI.2.1).mono fun e w' h=>?_)
    obtain⟨vN,h1,h3,h4⟩:=h
    exact⟨_,h1,vN,[(44,.tuple #[.agg (S.entry.cells++[vN]).toArray,.int .i64 0]),(37,.tuple #[.agg (S.entry.cells++[vN]).toArray,.int .i64 0]),(45,.agg (S.entry.cells++[vN]).toArray)],rfl,rfl,by kernel_rfl,hI.1.below h4,ag hI.2.1 h4,fun _=>Kd.R_lower (Kd.R_mono h3 (fun k hk=>Nat.le_trans hI.1.b.size hk)) hI.1.b.size⟩
   ·obtain⟨b0,b1,rfl⟩:=fR hlen
    obtain rfl:=okS hok 1 rfl rfl
    obtain rfl:=okT hok 0 rfl rfl rfl (by kernel_rfl)
    have hRs:=hI.2.2 rfl
    obtain⟨AN,cN,rfl⟩:=Kd.R_slice hRs
    have hne:gc≠gm:=fun e=>by have h1:=hI.1.blk;rw[←e,hI.2.1] at h1;simp at h1
    refine bm rfl 119 _ _ rfl gm 2 (S.entry.cells++[Value.slice AN S.nodes.length cN]) rfl rfl 124 _ _ hI.1.blk (by rw[List.length_append,aU.len];exact rg) (by rw[List.length_append,aU.len];exact Nat.le_of_ble_eq_true rfl) (fun u hu=>by rcases List.mem_append.1 hu with hu | hu;exact aU.one _ u hu;rw[List.mem_singleton.1 hu];rfl) (BE vf (.slice (some ⟨gc,0,none⟩) f.length f.length) _ S.entry) (fun W' q2 q3=>?_)
    exact⟨_,[],rfl,rfl,rfl,hI.1.wr q3 q2,(q3.block gc (ai hI.2.1) hne).trans hI.2.1,fun _=>hI.1.keep hRs (fun q hq=>by have:=ic hq;omega) q3⟩
  ·intro s W hI
   obtain⟨AN,cN,hsv⟩:=Kd.R_slice (hI.2.2 rfl)
   subst hsv
   have H5:=ak_ (show Of5 w W w.heap.size gm p4 gc c S (.slice AN S.nodes.length cN) (mk1 vf (.slice (some ⟨gc,0,none⟩) f.length f.length) S.entry (.slice AN S.nodes.length cN) (.slice none 0 0) (.slice none 0 0) (.slice none 0 0)) from ⟨hI.1,hI.2.1,hI.2.2 rfl⟩)
   have HLo:=ak_ HC6.out.2
   clear hI H4 HC6 HBd
   dsimp only
   go_upto_region 6 with fail
   obtain⟨F,hFd⟩:=nm_ (bY f S)
   have HWy:=ak_ (show gy S.nodes∧OOk S.nodes.length S.entry by rw[HSd.out];exact fp f c)
   have hFc:=fun (W:World) (hb:Below w.heap.size w W) (h:Kd.R dl 142 W w.heap.size (fun k=>w.heap.size≤k) (.slice AN S.nodes.length cN) S.nodes)=>pK f c S HSd.out AN A cN cf W (HG.out.below hb) (Kd.R_reads' h).2.2 (Kd.R_reads' h).2.1 (Kd.C_below HF.out hb) HCf.out HRr.out
   have hAl:=fun (W:World) (hb:Below w.heap.size w W) (h:Kd.R dl 142 W w.heap.size (fun k=>w.heap.size≤k) (.slice AN S.nodes.length cN) S.nodes)=>mX f c S HSd.out AN A cN cf W (HG.out.below hb) (Kd.R_reads' h).2.2 (Kd.R_reads' h).2.1 (Kd.C_below HF.out hb) HCf.out HRr.out
   have hWy:=fun (W:World) (h:Kd.R dl 142 W w.heap.size (fun k=>w.heap.size≤k) (.slice AN S.nodes.length cN) S.nodes)=>iK S (.slice AN S.nodes.length cN) W (Rd.of_R h) hn200 HWy.out.1.few
   rw[←hFd] at hFc
   unfold nr at hFc hAl
   have HFc:=ak_ hFc
   have HAl:=ak_ hAl
   have HWs:=ak_ hWy
   have HFd:=ak_ hFd
   clear hFc hAl hWy hFd
   refine bh (σ:=Value × Value × Value) [8,14,19,22,25,28] (fun s=>[(49,.pointer (some ⟨gm,0,none⟩)),(50,.pointer (some ⟨gm,0,none⟩)),(51,.pointer (some ⟨gm,0,none⟩)),(52,.slice A f.length cf),(53,.pointer (some ⟨gm,0,none⟩)),(54,.pointer (some ⟨gm,0,none⟩)),(55,.pointer (some ⟨gm,2,none⟩)),(56,.agg (S.entry.cells++[Value.slice AN S.nodes.length cN]).toArray),(57,s.1),(58,.slice A f.length cf),(59,.pointer (some ⟨gm,0,none⟩)),(60,.pointer (some ⟨gm,0,none⟩)),(61,.pointer (some ⟨gm,2,none⟩)),(62,.agg (S.entry.cells++[Value.slice AN S.nodes.length cN]).toArray),(63,s.2.1),(64,.pointer (some ⟨gm,0,none⟩)),(65,.pointer (some ⟨gm,0,none⟩)),(66,.pointer (some ⟨gm,2,none⟩)),(67,.agg (S.entry.cells++[Value.slice AN S.nodes.length cN]).toArray),(68,s.2.2),(69,.pointer (some ⟨gm,0,none⟩)),(70,.pointer (some ⟨gm,28,none⟩)),(71,.pointer (some ⟨gm,0,none⟩)),(72,.pointer (some ⟨gm,29,none⟩)),(73,.pointer (some ⟨gm,0,none⟩)),(74,.pointer (some ⟨gm,30,none⟩))])
    (fun bs s W=>Of6 w W w.heap.size gm p4 gc f c S F vf (.slice (some ⟨gc,0,none⟩) f.length f.length) (.slice AN S.nodes.length cN) s (bs.getD 0 false) (bs.getD 1 false) (bs.getD 2 false) (bs.getD 3 false) (bs.getD 4 false) (bs.getD 5 false)) (undef,undef,undef) (by kernel_rfl) (by kernel_rfl) (by kernel_rfl) (fun _=>by kernel_rfl) ?_
   intro aF haF
   simp only[bd,Act.put,List.setIfInBounds_toArray,List.set_cons_succ,List.set_cons_zero] at haF
   subst haF
   refine⟨?_,?_,⟨H5.out.below (az (Below.refl _ _)),fun e=>Bool.noConfusion e,fun e=>Bool.noConfusion e,fun e=>Bool.noConfusion e⟩,?_⟩
   ·intro j o ho hct s W bs hlen hok hI
    rcases j with _ | _ | _ | _ | _ | _ | _ | _ | _ | _ | _ | _ | _ | _ | _ | _ | _ | _ | _ | _ | _ | _ | _ | _ | _ | _ | _ | _ | _ | j
    all_goals first | exact absurd hct (by decide) | (obtain rfl:=Option.some.inj ho) | exact absurd (Array.getElem?_eq_some_iff.1 ho).1 (by simp)
    ·exact aw rfl 114 _ rfl ⟨p4,0,none⟩ _ rfl (by kernel_rfl) hI.o.o.c4 ⟨rfl,hI⟩
    ·exact aw rfl 114 _ rfl ⟨p4,0,none⟩ _ rfl (by kernel_rfl) hI.o.o.c4 ⟨rfl,hI⟩
    ·exact aw rfl 114 _ rfl ⟨p4,0,none⟩ _ rfl (by kernel_rfl) hI.o.o.c4 ⟨rfl,hI⟩
    ·exact ab rfl (by go_simp) ⟨rfl,hI⟩
    ·exact aw rfl 114 _ rfl ⟨p4,0,none⟩ _ rfl (by kernel_rfl) hI.o.o.c4 ⟨rfl,hI⟩
    ·exact ab rfl (by go_simp) ⟨rfl,hI⟩
    ·exact ab rfl (by go_simp) ⟨rfl,hI⟩
    ·exact ab rfl (al rfl rfl hI.o.load) ⟨rfl,hI⟩
    ·exact ab rfl (by go_simp) ⟨rfl,hI⟩
    ·exact aw rfl 114 _ rfl ⟨p4,0,none⟩ _ rfl (by kernel_rfl) hI.o.o.c4 ⟨rfl,hI⟩
    ·exact ab rfl (by go_simp) ⟨rfl,hI⟩
    ·exact ab rfl (by go_simp) ⟨rfl,hI⟩
    ·exact ab rfl (al rfl rfl hI.o.load) ⟨rfl,hI⟩
    ·exact aw rfl 114 _ rfl ⟨p4,0,none⟩ _ rfl (by kernel_rfl) hI.o.o.c4 ⟨rfl,hI⟩
    ·exact ab rfl (by go_simp) ⟨rfl,hI⟩
    ·exact ab rfl (by go_simp) ⟨rfl,hI⟩
    ·exact ab rfl (al rfl rfl hI.o.load) ⟨rfl,hI⟩
    ·exact ab rfl (by go_simp) ⟨rfl,hI⟩
    ·exact ab rfl (by go_simp) ⟨rfl,hI⟩
    ·exact ab rfl (by go_simp) ⟨rfl,hI⟩
    ·exact ab rfl (by go_simp) ⟨rfl,hI⟩
    ·exact ab rfl (by go_simp) ⟨rfl,hI⟩
    ·exact ab rfl (by go_simp) ⟨rfl,hI⟩
   ·intro k j o hk ho s W bs hlen hok hI
    rcases k with _ | _ | _ | _ | _ | _ | k
    all_goals first | (obtain rfl:=Option.some.inj hk;obtain rfl:=Option.some.inj ho) | exact absurd hk (by simp)
    ·obtain⟨b0,b1,b2,b3,b4,b5,rfl⟩:=k7 hlen
     obtain rfl:=okS hok 0 rfl rfl
     obtain rfl:=okF hok 3 rfl rfl rfl (by kernel_rfl)
     refine aN rfl Tryz.func50 (by kernel_rfl) rfl #[.slice A f.length cf,.agg (S.entry.cells++[Value.slice AN S.nodes.length cN]).toArray] rfl rfl ((HFc.out W hI.o.o.b hI.o.r).mono fun e w' h=>?_)
     obtain⟨v,h1,h3,h4⟩:=h
     have hz:=hI.o.o.b.size
     have hb:=hI.below h4
     have h5:=Kd.R_lower (Kd.R_mono h3 (fun k hk=>Nat.le_trans hz hk)) hz
     exact⟨v,h1,(v,s.2.1,s.2.2),[(57,v)],rfl,rfl,by kernel_rfl,hb.o,fun _=>h5,hb.ha,hb.hw⟩
    ·obtain⟨b0,b1,b2,b3,b4,b5,rfl⟩:=k7 hlen
     obtain rfl:=okS hok 1 rfl rfl
     obtain rfl:=okF hok 4 rfl rfl rfl (by kernel_rfl)
     refine aN rfl Tryz.func51 (by kernel_rfl) rfl #[.slice A f.length cf,.agg (S.entry.cells++[Value.slice AN S.nodes.length cN]).toArray] rfl rfl ((HAl.out W hI.o.o.b hI.o.r).mono fun e w' h=>?_)
     obtain⟨v,h1,h3,h4⟩:=h
     have hz:=hI.o.o.b.size
     have hb:=hI.below h4
     have h5:=Kd.R_lower (Kd.R_mono h3 (fun k hk=>Nat.le_trans hz hk)) hz
     exact⟨v,h1,(s.1,v,s.2.2),[(63,v)],rfl,rfl,by kernel_rfl,hb.o,hb.hf,fun _=>h5,hb.hw⟩
    ·obtain⟨b0,b1,b2,b3,b4,b5,rfl⟩:=k7 hlen
     obtain rfl:=okS hok 2 rfl rfl
     obtain rfl:=okF hok 5 rfl rfl rfl (by kernel_rfl)
     refine aN rfl Tryz.func52 (by kernel_rfl) rfl #[.agg (S.entry.cells++[Value.slice AN S.nodes.length cN]).toArray] rfl rfl ((HWs.out W hI.o.r).mono fun e w' h=>?_)
     obtain⟨v,h1,h3,h4⟩:=h
     have hz:=hI.o.o.b.size
     have hb:=hI.below h4
     have h5:=Kd.R_lower (Kd.R_mono h3 (fun k hk=>Nat.le_trans hz hk)) hz
     exact⟨v,h1,(s.1,s.2.1,v),[(68,v)],rfl,rfl,by kernel_rfl,hb.o,hb.hf,hb.ha,fun _=>h5⟩
    ·obtain⟨b0,b1,b2,b3,b4,b5,rfl⟩:=k7 hlen
     obtain rfl:=okS hok 3 rfl rfl
     obtain rfl:=okT hok 0 rfl rfl rfl (by kernel_rfl)
     obtain rfl:=okF hok 4 rfl rfl rfl (by kernel_rfl)
     obtain rfl:=okF hok 5 rfl rfl rfl (by kernel_rfl)
     have hRs:=hI.hf rfl
     obtain⟨A1,c1,he⟩:=Kd.R_slice hRs
     obtain⟨hv1,hv2⟩:=dz _ _ _ _ he
     exact aV rfl 120 _ _ rfl gm 28 s.1 (.slice none 0 0) rfl rfl hv1 hv2 (by kernel_rfl) (by rw[ap hI.o.o.blk];exact iF 1) (aq hI.o.o.blk 28) ⟨s,[],rfl,rfl,rfl,hI.wr (b3':=true) (b4':=false) (b5':=false) 28 _ (qZ 1 _)⟩
    ·obtain⟨b0,b1,b2,b3,b4,b5,rfl⟩:=k7 hlen
     obtain rfl:=okS hok 4 rfl rfl
     obtain rfl:=okT hok 1 rfl rfl rfl (by kernel_rfl)
     obtain rfl:=okT hok 3 rfl rfl rfl (by kernel_rfl)
     obtain rfl:=okF hok 5 rfl rfl rfl (by kernel_rfl)
     have hRs:=hI.ha rfl
     obtain⟨A1,c1,he⟩:=Kd.R_slice hRs
     obtain⟨hv1,hv2⟩:=dz _ _ _ _ he
     exact aV rfl 121 _ _ rfl gm 29 s.2.1 (.slice none 0 0) rfl rfl hv1 hv2 (by kernel_rfl) (by rw[ap hI.o.o.blk];exact iF 2) (aq hI.o.o.blk 29) ⟨s,[],rfl,rfl,rfl,hI.wr (b3':=true) (b4':=true) (b5':=false) 29 _ (qZ 2 _)⟩
    ·obtain⟨b0,b1,b2,b3,b4,b5,rfl⟩:=k7 hlen
     obtain rfl:=okS hok 5 rfl rfl
     obtain rfl:=okT hok 2 rfl rfl rfl (by kernel_rfl)
     obtain rfl:=okT hok 3 rfl rfl rfl (by kernel_rfl)
     obtain rfl:=okT hok 4 rfl rfl rfl (by kernel_rfl)
     have hRs:=hI.hw rfl
     obtain⟨A1,c1,he⟩:=Kd.R_slice hRs
     obtain⟨hv1,hv2⟩:=dz _ _ _ _ he
     exact aV rfl 122 _ _ rfl gm 30 s.2.2 (.slice none 0 0) rfl rfl hv1 hv2 (by kernel_rfl) (by rw[ap hI.o.o.blk];exact iF 3) (aq hI.o.o.blk 30) ⟨s,[],rfl,rfl,rfl,hI.wr (b3':=true) (b4':=true) (b5':=true) 30 _ (qZ 3 _)⟩
   ·intro s W hI
    obtain⟨vF,vA,vW⟩:=s
    have hI:Of6 w W w.heap.size gm p4 gc f c S F vf (.slice (some ⟨gc,0,none⟩) f.length f.length) (.slice AN S.nodes.length cN) (vF,vA,vW) true true true true true true:=hI
    obtain⟨AF,cF,hv⟩:=Kd.R_slice (hI.hf rfl)
    subst hv
    obtain⟨AA,cA,hv⟩:=Kd.R_slice (hI.ha rfl)
    subst hv
    obtain⟨AW,cW,hv⟩:=Kd.R_slice (hI.hw rfl)
    subst hv
    have H6:=ak_ hI
    clear hI H5 HFc HAl HWs
    dsimp only
    go_upto_region 7 with fail
    have HP:=ak_ (show NPl f c S F from ⟨HRr.out,HSd.out,HFd.out⟩)
    have h6:=H6.out
    have e1:F.length=S.nodes.length:=HP.out.sh.len
    have e2:(eF f S).length=S.nodes.length:=by unfold eF;rw[List.length_map,gV]
    have e3:=gV S
    rw[e1,e2,e3] at h6
    have H7:=ak_ h6
    have HSo:=ak_ (yl f c S F HP.out gm vf (.slice (some ⟨gc,0,none⟩) f.length f.length) AN AF AA AW cN cF cA cW W ⟨h6.o.o.blk,e1 ▸ (Kd.R_reads' (h6.hf rfl)).2.2,e2 ▸ (Kd.R_reads' (h6.ha rfl)).2.2,e3 ▸ (Kd.R_reads' (h6.hw rfl)).2.2⟩)
    have c4:=h6.o.o.c4
    clear h6 e1 e2 e3 H6
    go_upto_region 8 with (first
     | (go_at_call 53;refine HSo.out.mono ?_;rintro e w7 ⟨rfl,go,hk,hgo,hlo,hf⟩;have HK7:=ak_ hk;have HGo:=ak_ hgo;have HLg:=ak_ hlo;have HF7:=ak_ hf;clear hk hgo hlo hf))
    have h5:Of5 w w7 w.heap.size gm p4 gc c S (.slice AN S.nodes.length cN) (ep vf (.slice (some ⟨gc,0,none⟩) f.length f.length) S.entry (.slice AN S.nodes.length cN) (.slice AF S.nodes.length cF) (.slice AA S.nodes.length cA) (.slice AW S.nodes.length cW) (.slice (some ⟨go,0,none⟩) (S.nodes.length * 24) (S.nodes.length * 24))):=
     ⟨H7.out.o.o.wr HF7.out HK7.out,(HF7.out.block gc (ai H7.out.o.hc) (fun e=>by have h1:=H7.out.o.o.blk;rw[←e,H7.out.o.hc] at h1;simp at h1)).trans H7.out.o.hc,H7.out.o.o.keep H7.out.o.r (fun q hq=>by have:=ic hq;omega) HF7.out⟩
    have r1:=H7.out.o.o.keep (H7.out.hf rfl) (fun q hq=>by have:=kn hq;omega) HF7.out
    have r2:=H7.out.o.o.keep (H7.out.ha rfl) (fun q hq=>by have:=mM hq;omega) HF7.out
    have r3:=H7.out.o.o.keep (H7.out.hw rfl) (fun q hq=>by have:=mL hq;omega) HF7.out
    obtain⟨cl,hcl⟩:=nm_ (cr (gZ f S F))
    have hcl5:=uo (gZ f S F)
    rw[←hcl] at hcl5
    have hgo:=HGo.out
    rw[←hcl] at hgo
    have c4:=h5.o.c4
    have e2:=(show w7.cell? ⟨gm,2,none⟩=some (.int .i64 S.entry.jt) by rw[ap h5.o.blk];rfl)
    have H5:=ak_ h5
    have R1:=ak_ r1
    have R2:=ak_ r2
    have R3:=ak_ r3
    have HCl:=ak_ hcl
    have HCl5:=ak_ (show cl.length=S.nodes.length * 24∧∀ v∈cl,0≤v∧v < ((S.nodes.length * 24:Nat):Int) from by
     have h1:=hcl5.1
     have h2:(gZ f S F).length=S.nodes.length * 24:=by unfold gZ;rw[jS];omega
     rw[h2] at h1 hcl5
     exact⟨h1,hcl5.2⟩)
    have HGo2:=ak_ hgo
    clear h5 r1 r2 r3 hcl hcl5 hgo HGo HK7 HSo H7
    go_upto_region 11 with (first
     | ((with_reducible refine aj (N:=77) rfl ?_);refine dG rfl 132 rfl ?_))
    obtain⟨wk,hwk⟩:∃ wk,wk=((w7.alloc (.map #[] 0)).alloc (.cells #[.map (some w7.heap.size)] 132)).alloc (.cells #[.slice none 0 0] 133):=⟨_,rfl⟩
    have hbk:Below w7.heap.size w7 wk:=by rw[hwk];exact ae (ae (ae (Below.refl _ _) _) _) _
    have s1:(w7.alloc (.map #[] 0)).heap.size=w7.heap.size+1:=by simp
    have s2:((w7.alloc (.map #[] 0)).alloc (.cells #[.map (some w7.heap.size)] 132)).heap.size=w7.heap.size+1+1:=by simp
    have hmk:bI (Value.int .i64) wk w7.heap.size (dP ([]:List Int)):=by
     have f:∀ (W:World) (o:Obj),Fr (fun _=>False) W (W.alloc o):=fun W o=>Fr.of_below (ae (Below.refl _ _) o)
     rw[hwk]
     exact((bI.new (Value.int .i64) w7 0).fr (f _ _) id).fr (f _ _) id
    have h5k:wk.heap[w7.heap.size+1]?=some (.cells #[.map (some w7.heap.size)] 132 (0,0)):=by
     have:=heap_alloc_last (w7.alloc (.map #[] 0)) (.cells #[.map (some w7.heap.size)] 132 (0,0))
     rw[s1] at this
     rw[hwk]
     exact aK this _
    have h6k:wk.heap[w7.heap.size+1+1]?=some (.cells #[.slice none 0 0] 133 (0,0)):=by
     have:=heap_alloc_last ((w7.alloc (.map #[] 0)).alloc (.cells #[.map (some w7.heap.size)] 132)) (.cells #[.slice none 0 0] 133 (0,0))
     rw[s2] at this
     rw[hwk]
     exact this
    refine ar hwk.symm ?_
    have lg7:=ai HGo2.out
    have hlog:w.heap.size≤w7.heap.size:=H5.out.o.b.size
    obtain⟨gmap,hg⟩:=mn_ w7.heap.size
    have hbw:=hbk
    rw[hg] at hmk h5k h6k lg7 hlog ⊢
    obtain⟨p5,hp5⟩:=mn_ (gmap+1)
    rw[hp5] at h5k h6k ⊢
    obtain⟨p6,hp6⟩:=mn_ (p5+1)
    rw[hp6] at h6k ⊢
    have c4k:=ak hbk c4
    have e2k:=ak hbk e2
    have HBk:=ak_ hbk
    have HMk:=ak_ hmk
    have H5k:=ak_ h5k
    have H6k:=ak_ h6k
    have HLg7:=ak_ (And.intro lg7 hlog)
    have HPs:=ak_ (show gmap≤p5∧gmap≤p6 by omega)
    clear hwk hbk s1 s2 hmk h5k h6k lg7 hlog hg hp5 hp6 hbw c4 e2
    go_upto_region 12 with fail
    obtain⟨Wm,hWm⟩:∃ Wm,Wm=wk.alloc (.cells #[.int .i64 S.entry.jt,.slice none 0 0,.slice none 0 0] 33):=⟨_,rfl⟩
    have hbm:Below wk.heap.size wk Wm:=by rw[hWm];exact ae (Below.refl _ _) _
    have hbm7:=af HBk.out hbm
    have h8m:Wm.heap[wk.heap.size]?=some (.cells #[.int .i64 S.entry.jt,.slice none 0 0,.slice none 0 0] 33 (0,0)):=by rw[hWm];exact heap_alloc_last wk _
    have h5m:=H5.out.below hbm7
    have hOm:OfR w Wm f c S F cl gm p4 p5 gc go vf AN AF AA AW cN cF cA cW:=
     ⟨h5m.o.b,h5m.o.blk,h5m.o.h4,h5m.hc,ag HGo2.out hbm7,h5m.r,Kd.R_below R1.out hbm7,Kd.R_below R2.out hbm7,Kd.R_below R3.out hbm7⟩
    have hsm:Wm.heap.size=wk.heap.size+1:=by rw[hWm];simp
    have hlog:=HLg7.out
    have hlgm:go < Wm.heap.size:=ai (ag HGo2.out hbm7)
    have hSm:fW Wm Wm.heap.size p4 p5 p6 gm gmap go cl (.slice none 0 0) ⟨[],[]⟩:=
     ⟨hOm.h4,by rw[ap hOm.blk,HCl5.out.1];exact iF 4,hOm.ho,ag H5k.out hbm,HMk.out.fr (Fr.of_below (S:=fun _=>False) hbm) id,ag H6k.out hbm,Kd.R_nil _ _ _ _ _,rfl,List.nodup_nil,⟨_,hOm.blk⟩,fun v hv=>absurd hv (List.not_mem_nil)⟩
    obtain⟨g8,hg8⟩:=mn_ wk.heap.size
    refine ar hWm.symm ?_
    rw[hg8] at h8m hsm ⊢
    have hlo8:w.heap.size≤g8:=by rw[←hg8];exact Nat.le_trans hlog.2 (Nat.le_trans (by have:=HMk.out.lt;omega) (Nat.le_refl _))
    have hZm:ZSt Wm Wm p4 p5 p6 gm gmap go g8 cl S.entry.jt (.slice none 0 0) (.slice none 0 0) ⟨[],[]⟩ []:=⟨Fr.refl _ _,hSm,h8m,Kd.R_nil _ _ _ _ _,by omega,hlgm⟩
    have HTs:=ak_ (show ∀ k,OfS gmap p6 g8 k→k < Wm.heap.size→w.heap.size≤k∧∀ (q:Nat) (cells:Array Value),Wm.heap[k]?=some (.cells cells q (0,0))→q=133∨q=33 from fun k hk _=>by
     have hps:=HPs.out
     rcases hk with e | e | e
     ·subst e
      refine⟨hlog.2,fun q cells hc=>?_⟩
      obtain⟨es,cc,hb,_⟩:=hSm.hm
      rw[hb] at hc
      simp at hc
     ·subst e
      refine⟨by omega,fun q cells hc=>?_⟩
      rw[hSm.h6] at hc
      simp at hc
      exact .inl hc.2.symm
     ·subst e
      refine⟨hlo8,fun q cells hc=>?_⟩
      rw[h8m] at hc
      simp at hc
      exact .inr hc.2.symm)
    have HH2:=ak_ (And.intro h5m.o.h2 (show ¬ OfS gmap p6 g8 w.heap.size from fun e=>by
     rcases e with e | e | e
     ·obtain⟨es,cc,hb,_⟩:=hSm.hm
      rw[←e,h5m.o.h2] at hb
      simp at hb
     ·have h:=hSm.h6
      rw[←e,h5m.o.h2] at h
      simp at h
     ·have h:=ai (H5.out.below HBk.out).o.h2
      omega))
    have HOm:=ak_ hOm
    have HZm:=ak_ hZm
    have m4:=hOm.h4
    have c4:=(show Wm.cell? ⟨p4,0,none⟩=some (.pointer (some ⟨gm,0,none⟩)) by rw[ah hOm.h4];rfl)
    have c27:=(show Wm.cell? ⟨gm,27,none⟩=some (.slice AN S.nodes.length cN) by rw[ap hOm.blk];exact iF 0)
    obtain⟨res,hres⟩:∃ res,res=dd f c cl F S.nodes 0 ⟨[],[]⟩:=⟨_,rfl⟩
    have HRes:=ak_ hres
    clear hWm hbm hbm7 h8m h5m hOm hsm hlog hlgm hSm hg8 hlo8 hZm m4 H5 HGo2 R1 R2 R3 HBk HMk H5k H6k HPs HLg7 c4k e2k hres HF7 HLg
    go_wp2
    go_loopw [92] (fun j wr=>∃ (n:Nat) (vM vN:Value) (m:dj) (nodes:List fe),j=.int .i64 n∧aa (n≤S.nodes.length∧ZSt Wm wr p4 p5 p6 gm gmap go g8 cl S.entry.jt vM vN m nodes∧nodes.length≤n∧res=(nodes++(dd f c cl F (S.nodes.drop n) n m).1,(dd f c cl F (S.nodes.drop n) n m).2))) (fun j _=>S.nodes.length - (intOf j).toNat)
    case atStart=>exact⟨0,_,_,⟨[],[]⟩,[],rfl,⟨⟨Nat.zero_le _,HZm.out,Nat.le_refl _,HRes.out⟩⟩⟩
    case round=>
     obtain⟨n,vM,vNs,m,nodes,rfl,HL⟩:=hrel
     obtain⟨hn,hZ,hnl,hfin⟩:=HL.out
     by_cases hlt:n < S.nodes.length
     ·have hlt':(n:Int) < (S.nodes.length:Int):=by omega
      obtain⟨x,hx⟩:∃ x,S.nodes[n]?=some x:=⟨_,List.getElem?_eq_getElem hlt⟩
      obtain⟨gN,AO,cO,eN,hNd⟩:=HOm.out.node HTs.out hx
      subst eN
      have hld:=(hNd wr hZ.fr).1
      have hat:=HP.out.nok.at_ x (List.mem_of_getElem? hx)
      rw[List.drop_eq_getElem_cons hlt,(List.getElem?_eq_some_iff.1 hx).2,qW,mF] at hfin
      obtain⟨xa,xo⟩:=x
      simp only at hat
      obtain⟨a,rfl⟩:∃ a:Nat,xa=a:=⟨xa.toNat,by omega⟩
      have haf:a < f.length:=by omega
      obtain⟨y,hy⟩:∃ y,f[a]?=some y:=⟨_,List.getElem?_eq_getElem haf⟩
      have hyd:f.getD a In.zero=y:=by rw[List.getD_eq_getElem?_getD,hy];rfl
      obtain⟨q,hq⟩:=nm_ (lI f c cl F n ⟨(a:Int),xo⟩ m)
      rw[←hq] at hfin
      have hqv:q=if c.getD a false=true then ((0,0,[]),m) else ((y.op,if y.op=15 then y.n else 0,(dx cl F n (cy y) m).1),(dx cl F n (cy y) m).2):=by
       rw[hq]
       unfold lI
       simp only[Int.toNat_natCast]
       rw[hyd]
      have HQv:=ak_ hqv
      have HFi:=ak_ hfin
      have HZ:=ak_ hZ
      have HX:=ak_ hx
      have HNd:=ak_ hNd
      have HLd:=ak_ (show (loadVar 142 ⟨gN,n * 2,none⟩).run Tryz.prog wr=.ok (.agg #[.int .i64 (a:Int),.slice AO xo.length cO]) wr from hld)
      have HLt:=ak_ hlt
      have HNl:=ak_ hnl
      have HHy:=ak_ hy
      have haf':(a:Int) < (f.length:Int):=by omega
      have hxo2:xo.length≤2:=HWy.out.1.few _ (List.mem_of_getElem? hx)
      have hxo2':(xo.length:Int)≤2:=by omega
      clear hNd hld hx hat hfin hq hqv hyd hy hZ hnl hn HL hlt hxo2
      go_upto_region 15 with (first
       | ((with_reducible refine aj (N:=96) rfl ?_);refine au rfl 142 _ rfl ⟨gN,n * 2,none⟩ rfl _ HLd.out ?_))
      obtain⟨w8,hw8⟩:∃ w8,w8=wr.alloc (.cells #[.int .i64 (a:Int),.slice AO xo.length cO] 142):=⟨_,rfl⟩
      have h10:w8.heap[wr.heap.size]?=some (.cells #[.int .i64 (a:Int),.slice AO xo.length cO] 142 (0,0)):=by rw[hw8];exact heap_alloc_last wr _
      have hZ8:ZSt Wm w8 p4 p5 p6 gm gmap go g8 cl S.entry.jt vM vNs m nodes:=by rw[hw8];exact HZ.out.below (ae (Below.refl _ _) _)
      refine ar hw8.symm ?_
      obtain⟨g10,hg10⟩:=mn_ wr.heap.size
      rw[hg10] at h10 ⊢
      clear hw8 hg10
      go_upto_region 16 with fail
      obtain⟨w9,hw9⟩:∃ w9,w9=w8.alloc (.cells #[.int .i64 0,.int .i64 0,.slice none 0 0,.slice none 0 0] 145):=⟨_,rfl⟩
      have hY:=hZ8.open_
      rw[←hw9] at hY
      have h109:w9.heap[g10]?=some (.cells #[.int .i64 (a:Int),.slice AO xo.length cO] 142 (0,0)):=by rw[hw9];exact aK h10 _
      refine ar hw9.symm ?_
      have hg1110:g10 < w8.heap.size:=ai h10
      obtain⟨g11,hg11⟩:=mn_ w8.heap.size
      rw[hg11] at hY hg1110 ⊢
      have hO9:=HOm.out.move HTs.out hY.fr
      have c4:=(show w9.cell? ⟨p4,0,none⟩=some (.pointer (some ⟨gm,0,none⟩)) by rw[ah hO9.h4];rfl)
      have c1:=(show w9.cell? ⟨gm,1,none⟩=some (.slice (some ⟨gc,0,none⟩) f.length f.length) by rw[ap hO9.blk];rfl)
      have a10:=(show w9.cell? ⟨g10,0,none⟩=some (.int .i64 (a:Int)) by rw[ah h109];rfl)
      obtain⟨b,hb⟩:=nm_ (c.getD a false)
      have hcl:c.length=f.length:=by rw[HCd.out];exact vn HR.out
      have cC:=(show w9.cell? ⟨gc,a,none⟩=some (.bool b) by
       rw[ap hO9.hc,List.getElem?_map,List.getElem?_eq_getElem (show a < c.length by omega),hb,List.getD_eq_getElem?_getD,List.getElem?_eq_getElem (show a < c.length by omega)]
       rfl)
      have hq2:=HQv.out
      rw[←hb] at hq2
      have HQ2:=ak_ hq2
      have HY:=ak_ hY
      have H10:=ak_ h109
      have HG11:=ak_ hg1110
      clear hw9 hY h109 hg1110 hg11 hO9 hb hcl hq2 h10 hZ8 HQv
      refine wp_region_still_lit (by kernel_rfl) (by kernel_rfl) ?_
      repeat still_step
      refine wpStill_nil ?_
      change (Exit.then _ _) _ _ w9.drew
      obtain⟨w10,hw10⟩:=nm_ w9.drew
      rw[←hw10]
      have hb10:Below w9.heap.size w9 w10:=by rw[hw10];exact az (Below.refl _ _)
      have HYa:=ak_ (HY.out.below hb10)
      have H10a:=ak_ (ag H10.out hb10)
      clear hw10 hb10 c4 c1 a10 cC HY H10
      go_upto_if 105 with fail
      go_cut [] from 106 to 153 (fun wx=>aa (∃ vM' vA',YSt Wm wx p4 p5 p6 gm gmap go g8 g11 cl S.entry.jt q.1.1 q.1.2.1 vM' vA' (.slice none 0 0) vNs q.2 q.1.2.2 [] nodes∧wx.heap[g10]?=some (.cells #[.int .i64 (a:Int),.slice AO xo.length cO] 142 (0,0))))
      case first=>
       cases b with
       | true=>
        have HQ3:=ak_ (show q=((0,0,[]),m) from HQ2.out)
        go_wp2
        go_meet
        case rel=>
         rw[HQ3.out]
         exact⟨⟨vM,.slice none 0 0,HYa.out,H10a.out⟩⟩
       | false=>
        have HQ3:=ak_ (show q=((y.op,if y.op=15 then y.n else 0,(dx cl F n (cy y) m).1),(dx cl F n (cy y) m).2) from HQ2.out)
        have haf2:a < f.length:=by omega
        obtain⟨adF2,csF2,eF2,_,hKF2,hcF2⟩:=bX HF.out a haf2 y HHy.out
        subst eF2
        obtain rfl:csF2=y.cells.toList:=hKF2
        have y0w:=hcF2 0 _ rfl
        have y4w:=hcF2 4 _ rfl
        have hb10w:Below w.heap.size w w10:=(HOm.out.move HTs.out HYa.out.fr).b
        have y0:=ak hb10w y0w
        have y4:=ak hb10w y4w
        rw[show a * kIn.sz+0=a * 6 from rfl] at y0
        rw[show a * kIn.sz+4=a * 6+4 from rfl] at y4
        have a10:=(show w10.cell? ⟨g10,0,none⟩=some (.int .i64 (a:Int)) by rw[ah H10a.out];rfl)
        have g110:=(show w10.cell? ⟨g11,0,none⟩=some (.int .i64 0) by rw[ah HYa.out.hy];rfl)
        have g111:=(show w10.cell? ⟨g11,1,none⟩=some (.int .i64 0) by rw[ah HYa.out.hy];rfl)
        have zf0:=aq HYa.out.hy 0
        have zf1:=aq HYa.out.hy 1
        rw[←fU,mi _ _ (by decide)] at y4
        go_upto_region 18 with fail
        have hY2:=(HYa.out.set 0 (.int .i64 y.op) y.op 0 rfl).set 1 (.int .i64 0) y.op 0 rfl
        have hne10:g10≠g11:=by have:=HG11.out;omega
        have h102:=a8 (a8 H10a.out (p:=⟨g11,0,none⟩) hne10 (.int .i64 y.op)) (p:=⟨g11,1,none⟩) hne10 (.int .i64 0)
        obtain⟨w11,hw11⟩:∃ w11,w11=(w10.setCell ⟨g11,0,none⟩ (.int .i64 y.op)).setCell ⟨g11,1,none⟩ (.int .i64 0):=⟨_,rfl⟩
        rw[←hw11] at hY2 h102
        refine ar hw11.symm ?_
        have hb11:=(HOm.out.move HTs.out hY2.fr).b
        have y4:=ak hb11 y4w
        rw[show a * kIn.sz+4=a * 6+4 from rfl,←fU,mi _ _ (by decide)] at y4
        have a10:=(show w11.cell? ⟨g10,0,none⟩=some (.int .i64 (a:Int)) by rw[ah h102];rfl)
        have g110:=(show w11.cell? ⟨g11,0,none⟩=some (.int .i64 y.op) by rw[ah hY2.hy];rfl)
        have g111:=(show w11.cell? ⟨g11,1,none⟩=some (.int .i64 0) by rw[ah hY2.hy];rfl)
        have zf1:=aq hY2.hy 1
        have HY2:=ak_ hY2
        have H102:=ak_ h102
        have HNe:=ak_ hne10
        clear hw11 hY2 h102 hb11 y0 y4w y0w hcF2 zf0 hne10
        obtain⟨nv,hnv⟩:=nm_ (if y.op=15 then y.n else 0)
        have HNv:=ak_ hnv
        have hq3:=HQ3.out
        rw[←hnv] at hq3
        have HQ4:=ak_ hq3
        clear hnv hq3 HQ3
        go_upto_if 116 with fail
        go_cut [] from 116 to 123 (fun wx=>aa (YSt Wm wx p4 p5 p6 gm gmap go g8 g11 cl S.entry.jt y.op nv vM (.slice none 0 0) (.slice none 0 0) vNs m [] [] nodes∧wx.heap[g10]?=some (.cells #[.int .i64 (a:Int),.slice AO xo.length cO] 142 (0,0))))
        case first=>
         by_cases h15:y.op=15
         ·have q15:(y.op == 15)=true:=beq_iff_eq.mpr h15
          have hn2:=HNv.out
          rw[if_pos h15] at hn2
          have HN2:=ak_ hn2
          clear h15 hn2
          go_wp2
          go_meet
          case rel=>
           rw[HN2.out]
           exact⟨⟨HY2.out.set 1 (.int .i64 y.n) y.op y.n rfl,a8 H102.out (p:=⟨g11,1,none⟩) HNe.out (.int .i64 y.n)⟩⟩
         ·have q15:(y.op == 15)=false:=beq_eq_false_iff_ne.mpr h15
          have hn2:=HNv.out
          rw[if_neg h15] at hn2
          have HN2:=ak_ hn2
          clear h15 hn2
          go_wp2
          go_meet
          case rel=>
           rw[HN2.out]
           exact⟨⟨HY2.out,H102.out⟩⟩
        case rest=>
         obtain⟨hY3,h103⟩:=hcut.out
         have hb3:=(HOm.out.move HTs.out hY3.fr).b
         have HLdF:=ak_ (show (loadVar 49 (adF2.add (a * 6))).run Tryz.prog wc=.ok (.agg y.cells) wc by
          obtain⟨ad2,cs2,q1,q2,q3⟩:=aW (P:=Tryz.prog) HF.out hb3 a haf2 y HHy.out 49 Tryz.underlying49 rfl bE
          injection q1 with q1
          subst q1
          obtain rfl:cs2=y.cells.toList:=q2
          exact q3)
         have HUs:=ak_ (jq y wc (HG.out.below hb3))
         obtain⟨us,hus⟩:=nm_ (cy y)
         have HUin:=ak_ (ny (HR.out.ok a y HHy.out))
         have HUl:=ak_ (lu y)
         rw[←hus] at HUs HUin HUl HQ4
         have a10:=(show wc.cell? ⟨g10,0,none⟩=some (.int .i64 (a:Int)) by rw[ah h103];rfl)
         have HY3:=ak_ hY3
         have H103:=ak_ h103
         have HB3:=ak_ hb3.size
         clear hcut hY3 h103 hb3 hus
         go_upto_region 21 with (first
          | ((with_reducible refine aj (N:=128) rfl ?_);refine au rfl 49 _ rfl (adF2.add (a * 6)) rfl _ HLdF.out ?_)
          | (go_at_call 56;refine HUs.out.mono ?_;rintro e w12 ⟨vU,rfl,hru,hb⟩;obtain⟨AU,cU,rfl⟩:=Kd.R_slice hru;have HY4:=ak_ (HY3.out.below hb);have HRu:=ak_ (Kd.R_lower (Kd.R_mono hru (fun k hk=>Nat.le_trans HB3.out hk)) HB3.out);have H104:=ak_ (ag H103.out hb);clear hru hb))
         have hul':(us.length:Int)≤3:=by have:=HUl.out;omega
         go_loopw [131] (fun j wr=>∃ (k:Nat) (vM' vA':Value) (m':dj) (args:List Src),j=.int .i64 k∧aa (k≤us.length∧args.length≤k∧(dx cl F n us m)=(args++(dx cl F n (us.drop k) m').1,(dx cl F n (us.drop k) m').2)∧YSt Wm wr p4 p5 p6 gm gmap go g8 g11 cl S.entry.jt y.op nv vM' vA' (.slice none 0 0) vNs m' args [] nodes∧wr.heap[g10]?=some (.cells #[.int .i64 (a:Int),.slice AO xo.length cO] 142 (0,0))∧Kd.R (Kd.int .i64) 3 wr w.heap.size (fun k=>w.heap.size≤k) (.slice AU us.length cU) us)) (fun j _=>us.length - (intOf j).toNat)
         case atStart=>exact⟨0,vM,.slice none 0 0,m,[],rfl,⟨⟨Nat.zero_le _,Nat.zero_le _,rfl,HY4.out,H104.out,HRu.out⟩⟩⟩
         case round=>
          obtain⟨k,vM',vA',m',args,rfl,HL⟩:=hrel
          obtain⟨hk,hal,hfin,hY,h10,hRu⟩:=HL.out
          by_cases hkl:k < us.length
          ·have hkl':(k:Int) < (us.length:Int):=by omega
           obtain⟨u,hu⟩:∃ u,us[k]?=some u:=⟨_,List.getElem?_eq_getElem hkl⟩
           obtain⟨hu0,hu24⟩:=HUin.out u (List.mem_of_getElem? hu)
           obtain⟨l,rfl⟩:∃ l:Nat,u=l:=⟨u.toNat,by omega⟩
           obtain⟨adU,csU,eU,_,hKU,hcU⟩:=bX (Kd.R_reads' hRu).2.2 k hkl _ hu
           subst eU
           obtain rfl:csU=[.int .i64 (l:Int)]:=hKU
           have vU:=hcU 0 _ rfl
           rw[show k * (Kd.int .i64).sz+0=k from Nat.mul_one k] at vU
           rw[List.drop_eq_getElem_cons hkl,(List.getElem?_eq_some_iff.1 hu).2,s5,Int.toNat_natCast] at hfin
           obtain⟨s0,hs0⟩:=nm_ (du F n l)
           rw[←hs0] at hfin
           obtain⟨r,hr⟩:=nm_ (fJ cl (n:Int) s0 m')
           rw[←hr] at hfin
           have hxk:s0.kind=4→0≤(n:Int)∧(n:Int)≤199∧0≤s0.n∧s0.n < 24∧(n:Int) * 24+s0.n < (cl.length:Int):=by
            intro hk4
            have hcl:=HCl5.out.1
            rcases HP.out.fact HLt.out (show l < 24 by omega) with q | q | q | q
            ·rw[←hs0] at q
             rw[q]
             have:=HLt.out
             exact⟨by omega,by omega,by show (0:Int)≤(l:Int);omega,by show (l:Int) < 24;omega,by show (n:Int) * 24+(l:Int) < _;omega⟩
            ·rw[←hs0] at q;rw[q] at hk4;exact absurd hk4 (by decide)
            ·rw[←hs0] at q;omega
            ·rw[←hs0] at q;omega
           have HXk:=ak_ hxk
           have HHr:=ak_ hr
           have HFi2:=ak_ hfin
           have HY5:=ak_ hY
           have H105:=ak_ h10
           have HRu5:=ak_ hRu
           have HKl:=ak_ hkl
           have HAl:=ak_ hal
           have HS0:=ak_ hs0
           have hl24:l < 24:=by omega
           clear hk hal hfin hY h10 hRu hu hcU hs0 hr hxk hkl HL
           go_upto_region 23 with fail
           obtain⟨W0,hW0⟩:=nm_ wr.drew
           have hb0:Below wr.heap.size wr W0:=by rw[hW0];exact az (Below.refl _ _)
           have HW0:=ak_ hW0
           have HY0:=ak_ (HY5.out.below hb0)
           have H100:=ak_ (ag H105.out hb0)
           have HRU0:=ak_ (Kd.R_below HRu5.out hb0)
           have hO0:=HOm.out.move HTs.out HY0.out.fr
           have C4:=ak_ (show W0.cell? ⟨p4,0,none⟩=some (.pointer (some ⟨gm,0,none⟩)) by rw[ah hO0.h4];rfl)
           have C28:=ak_ (show W0.cell? ⟨gm,28,none⟩=some (.slice AF S.nodes.length cF) by rw[ap hO0.blk];exact iF 1)
           obtain⟨row,hrow⟩:∃ row,F[n]?=some row:=⟨_,List.getElem?_eq_getElem (by rw[HP.out.sh.len];exact HLt.out)⟩
           have hr24:row.length=24:=HP.out.sh.row row (List.mem_of_getElem? hrow)
           obtain⟨adF3,AR2,cR2,eF3,f0,_,hCF⟩:=py hO0.mkr.rF n HLt.out _ hrow
           subst eF3
           rw[hr24] at f0 hCF
           have hs1:row[l]?=some s0:=by
            rw[HS0.out]
            unfold du
            rw[List.getD_eq_getElem?_getD (l:=F),hrow]
            simp only[Option.getD_some]
            rw[List.getD_eq_getElem?_getD,List.getElem?_eq_getElem (by omega)]
            rfl
           obtain⟨adS,csS,eS,hKS,hldS⟩:=eu (P:=Tryz.prog) hCF l hl24 s0 hs1 135 Tryz.underlying135 rfl aG
           subst eS
           obtain rfl:csS=[.int .i64 s0.kind,.int .i64 s0.n]:=hKS
           have HLdS:=ak_ (show (loadVar 135 (adS.add (l * 2))).run Tryz.prog W0=.ok (.agg #[.int .i64 s0.kind,.int .i64 s0.n]) W0 from hldS)
           have F0:=ak_ f0
           have hSrc:=so Wm.heap.size p4 p5 p6 gm gmap go cl vM' m' (n:Int) s0 W0 HY0.out.sr HY0.out.fr.size (by have:=HCl5.out.1;omega) HXk.out
           rw[←HHr.out] at hSrc
           have HSrc:=ak_ hSrc
           have HArl:=ak_ (show args.length≤3 by have:=HAl.out;have:=HUl.out;have:=HKl.out;omega)
           have hlr':(l:Int) < 24:=by omega
           clear hW0 hb0 hO0 hrow hr24 hCF hs1 hldS f0 hSrc hl24
           refine bh (σ:=World × Value × World × Value) [14,15,16,18] (fun s=>[(135,.pointer (some ⟨g11,2,none⟩)),(136,vA'),(137,.func (.func 54) #[] #[.pointer (some ⟨p4,0,none⟩),.pointer (some ⟨p5,0,none⟩),.pointer (some ⟨p6,0,none⟩)]),(138,.int .i64 (n:Int)),(139,.pointer (some ⟨gm,0,none⟩)),(140,.pointer (some ⟨gm,0,none⟩)),(141,.pointer (some ⟨gm,28,none⟩)),(142,.slice (some adF3) S.nodes.length cF),(143,.int .i64 (n:Int)),(144,.pointer (some (adF3.add n))),(145,.slice (some adS) 24 cR2),(146,.int .i64 (l:Int)),(147,.pointer (some (adS.add (l * 2)))),(148,.agg #[.int .i64 s0.kind,.int .i64 s0.n]),(149,.agg #[.int .i64 r.1.kind,.int .i64 r.1.n]),(150,.slice (some ⟨s.1.heap.size,0,none⟩) 1 1),(151,s.2.2.2),(152,.pointer (some ⟨g11,2,none⟩))])
            (fun bs s W=>(bs=[false,false,false,false]∧W=W0)∨(bs=[true,false,false,false]∧W=s.1∧(YSt Wm s.1 p4 p5 p6 gm gmap go g8 g11 cl S.entry.jt y.op nv s.2.1 vA' (.slice none 0 0) vNs r.2 args [] nodes∧s.1.heap[g10]?=some (.cells #[.int .i64 (a:Int),.slice AO xo.length cO] 142 (0,0))∧Kd.R (Kd.int .i64) 3 s.1 w.heap.size (fun k=>w.heap.size≤k) (.slice (some adU) us.length cU) us))∨(bs=[true,true,false,false]∧W=s.1.alloc (.cells #[.int .i64 r.1.kind,.int .i64 r.1.n] 135)∧(YSt Wm s.1 p4 p5 p6 gm gmap go g8 g11 cl S.entry.jt y.op nv s.2.1 vA' (.slice none 0 0) vNs r.2 args [] nodes∧s.1.heap[g10]?=some (.cells #[.int .i64 (a:Int),.slice AO xo.length cO] 142 (0,0))∧Kd.R (Kd.int .i64) 3 s.1 w.heap.size (fun k=>w.heap.size≤k) (.slice (some adU) us.length cU) us))∨(bs=[true,true,true,false]∧W=s.2.2.1∧(YSt Wm s.1 p4 p5 p6 gm gmap go g8 g11 cl S.entry.jt y.op nv s.2.1 vA' (.slice none 0 0) vNs r.2 args [] nodes∧s.1.heap[g10]?=some (.cells #[.int .i64 (a:Int),.slice AO xo.length cO] 142 (0,0))∧Kd.R (Kd.int .i64) 3 s.1 w.heap.size (fun k=>w.heap.size≤k) (.slice (some adU) us.length cU) us)∧(Kd.R eB 135 s.2.2.1 Wm.heap.size (fun j=>Wm.heap.size≤j) s.2.2.2 (args++[r.1])∧(s.1.alloc (.cells #[.int .i64 r.1.kind,.int .i64 r.1.n] 135)).grownBy s.2.2.1 (Value.ownBlock vA')∧(s.2.2.2.ownBlock=Value.ownBlock vA'∨∃ b,s.2.2.2.ownBlock=some b∧(s.1.alloc (.cells #[.int .i64 r.1.kind,.int .i64 r.1.n] 135)).heap.size≤b)))∨(bs=[true,true,true,true]∧W=s.2.2.1.setCell ⟨g11,2,none⟩ s.2.2.2∧(YSt Wm s.1 p4 p5 p6 gm gmap go g8 g11 cl S.entry.jt y.op nv s.2.1 vA' (.slice none 0 0) vNs r.2 args [] nodes∧s.1.heap[g10]?=some (.cells #[.int .i64 (a:Int),.slice AO xo.length cO] 142 (0,0))∧Kd.R (Kd.int .i64) 3 s.1 w.heap.size (fun k=>w.heap.size≤k) (.slice (some adU) us.length cU) us)∧(Kd.R eB 135 s.2.2.1 Wm.heap.size (fun j=>Wm.heap.size≤j) s.2.2.2 (args++[r.1])∧(s.1.alloc (.cells #[.int .i64 r.1.kind,.int .i64 r.1.n] 135)).grownBy s.2.2.1 (Value.ownBlock vA')∧(s.2.2.2.ownBlock=Value.ownBlock vA'∨∃ b,s.2.2.2.ownBlock=some b∧(s.1.alloc (.cells #[.int .i64 r.1.kind,.int .i64 r.1.n] 135)).heap.size≤b)))) (W0,undef,W0,undef) (by kernel_rfl) (by kernel_rfl) (by kernel_rfl) (fun _=>by kernel_rfl) ?_
           intro aF haF
           simp only[bd,Act.put,List.setIfInBounds_toArray,List.set_cons_succ,List.set_cons_zero] at haF
           subst haF
           refine⟨?_,?_,.inl ⟨rfl,HW0.out.symm⟩,?_⟩
           ·intro j o ho hct s W bs hlen hok hI
            rcases j with _ | _ | _ | _ | _ | _ | _ | _ | _ | _ | _ | _ | _ | _ | _ | _ | _ | _ | _ | j
            all_goals first | exact absurd hct (by decide) | (obtain rfl:=Option.some.inj ho) | exact absurd (Array.getElem?_eq_some_iff.1 ho).1 (by simp)
            ·have hI2:=hI
             rcases hI with ⟨rfl,rfl⟩ | ⟨rfl,rfl,hp⟩ | ⟨rfl,rfl,hp⟩ | ⟨rfl,rfl,hp⟩ | ⟨rfl,rfl,hp⟩
             all_goals first
              | (refine ab rfl ?_ ⟨rfl,hI2⟩;go_simp;done)
              | exact a6 hok (by kernel_rfl)
            ·have hI2:=hI
             rcases hI with ⟨rfl,rfl⟩ | ⟨rfl,rfl,hp⟩ | ⟨rfl,rfl,hp⟩ | ⟨rfl,rfl,hp⟩ | ⟨rfl,rfl,hp⟩
             ·exact aw rfl 143 _ rfl ⟨g11,2,none⟩ _ rfl (by kernel_rfl) (by rw[ah HY0.out.hy];rfl) ⟨rfl,hI2⟩
             ·exact aw rfl 143 _ rfl ⟨g11,2,none⟩ _ rfl (by kernel_rfl) (by rw[ah hp.1.hy];rfl) ⟨rfl,hI2⟩
             ·exact aw rfl 143 _ rfl ⟨g11,2,none⟩ _ rfl (by kernel_rfl) (by rw[ah (aK hp.1.hy _)];rfl) ⟨rfl,hI2⟩
             ·exact a6 hok (by kernel_rfl)
             ·exact a6 hok (by kernel_rfl)
            ·have hI2:=hI
             rcases hI with ⟨rfl,rfl⟩ | ⟨rfl,rfl,hp⟩ | ⟨rfl,rfl,hp⟩ | ⟨rfl,rfl,hp⟩ | ⟨rfl,rfl,hp⟩
             all_goals first
              | (refine ab rfl ?_ ⟨rfl,hI2⟩;go_simp;done)
              | exact a6 hok (by kernel_rfl)
            ·have hI2:=hI
             rcases hI with ⟨rfl,rfl⟩ | ⟨rfl,rfl,hp⟩ | ⟨rfl,rfl,hp⟩ | ⟨rfl,rfl,hp⟩ | ⟨rfl,rfl,hp⟩
             all_goals first
              | (refine ab rfl ?_ ⟨rfl,hI2⟩;go_simp;done)
              | exact a6 hok (by kernel_rfl)
            ·have hI2:=hI
             rcases hI with ⟨rfl,rfl⟩ | ⟨rfl,rfl,hp⟩ | ⟨rfl,rfl,hp⟩ | ⟨rfl,rfl,hp⟩ | ⟨rfl,rfl,hp⟩
             ·exact aw rfl 114 _ rfl ⟨p4,0,none⟩ _ rfl (by kernel_rfl) C4.out ⟨rfl,hI2⟩
             all_goals exact a6 hok (by kernel_rfl)
            ·have hI2:=hI
             rcases hI with ⟨rfl,rfl⟩ | ⟨rfl,rfl,hp⟩ | ⟨rfl,rfl,hp⟩ | ⟨rfl,rfl,hp⟩ | ⟨rfl,rfl,hp⟩
             all_goals first
              | (refine ab rfl ?_ ⟨rfl,hI2⟩;go_simp;done)
              | exact a6 hok (by kernel_rfl)
            ·have hI2:=hI
             rcases hI with ⟨rfl,rfl⟩ | ⟨rfl,rfl,hp⟩ | ⟨rfl,rfl,hp⟩ | ⟨rfl,rfl,hp⟩ | ⟨rfl,rfl,hp⟩
             all_goals first
              | (refine ab rfl ?_ ⟨rfl,hI2⟩;go_simp;done)
              | exact a6 hok (by kernel_rfl)
            ·have hI2:=hI
             rcases hI with ⟨rfl,rfl⟩ | ⟨rfl,rfl,hp⟩ | ⟨rfl,rfl,hp⟩ | ⟨rfl,rfl,hp⟩ | ⟨rfl,rfl,hp⟩
             ·exact aw rfl 120 _ rfl ⟨gm,28,none⟩ _ rfl (by kernel_rfl) C28.out ⟨rfl,hI2⟩
             all_goals exact a6 hok (by kernel_rfl)
            ·have hI2:=hI
             rcases hI with ⟨rfl,rfl⟩ | ⟨rfl,rfl,hp⟩ | ⟨rfl,rfl,hp⟩ | ⟨rfl,rfl,hp⟩ | ⟨rfl,rfl,hp⟩
             all_goals first
              | (refine ab rfl ?_ ⟨rfl,hI2⟩;go_simp;done)
              | exact a6 hok (by kernel_rfl)
            ·have hI2:=hI
             rcases hI with ⟨rfl,rfl⟩ | ⟨rfl,rfl,hp⟩ | ⟨rfl,rfl,hp⟩ | ⟨rfl,rfl,hp⟩ | ⟨rfl,rfl,hp⟩
             all_goals first
              | (refine ab rfl ?_ ⟨rfl,hI2⟩;go_simp;done)
              | exact a6 hok (by kernel_rfl)
            ·have hI2:=hI
             rcases hI with ⟨rfl,rfl⟩ | ⟨rfl,rfl,hp⟩ | ⟨rfl,rfl,hp⟩ | ⟨rfl,rfl,hp⟩ | ⟨rfl,rfl,hp⟩
             ·exact aw rfl 143 _ rfl (adF3.add n) _ rfl (by kernel_rfl) F0.out ⟨rfl,hI2⟩
             all_goals exact a6 hok (by kernel_rfl)
            ·have hI2:=hI
             rcases hI with ⟨rfl,rfl⟩ | ⟨rfl,rfl,hp⟩ | ⟨rfl,rfl,hp⟩ | ⟨rfl,rfl,hp⟩ | ⟨rfl,rfl,hp⟩
             all_goals first
              | (refine ab rfl ?_ ⟨rfl,hI2⟩;go_simp;done)
              | exact a6 hok (by kernel_rfl)
            ·have hI2:=hI
             rcases hI with ⟨rfl,rfl⟩ | ⟨rfl,rfl,hp⟩ | ⟨rfl,rfl,hp⟩ | ⟨rfl,rfl,hp⟩ | ⟨rfl,rfl,hp⟩
             all_goals first
              | (refine ab rfl ?_ ⟨rfl,hI2⟩;go_simp;done)
              | exact a6 hok (by kernel_rfl)
            ·have hI2:=hI
             rcases hI with ⟨rfl,rfl⟩ | ⟨rfl,rfl,hp⟩ | ⟨rfl,rfl,hp⟩ | ⟨rfl,rfl,hp⟩ | ⟨rfl,rfl,hp⟩
             ·exact ab rfl (al rfl rfl HLdS.out) ⟨rfl,hI2⟩
             all_goals exact a6 hok (by kernel_rfl)
            ·have hI2:=hI
             rcases hI with ⟨rfl,rfl⟩ | ⟨rfl,rfl,hp⟩ | ⟨rfl,rfl,hp⟩ | ⟨rfl,rfl,hp⟩ | ⟨rfl,rfl,hp⟩
             all_goals first
              | (refine ab rfl ?_ ⟨rfl,hI2⟩;go_simp;done)
              | exact a6 hok (by kernel_rfl)
           ·intro k j o hk ho s W bs hlen hok hI
            rcases k with _ | _ | _ | _ | k
            all_goals first | (obtain rfl:=Option.some.inj hk;obtain rfl:=Option.some.inj ho) | exact absurd hk (by simp)
            ·rcases hI with ⟨rfl,rfl⟩ | ⟨rfl,rfl,hp⟩ | ⟨rfl,rfl,hp⟩ | ⟨rfl,rfl,hp⟩ | ⟨rfl,rfl,hp⟩
             ·refine jO rfl Tryz.func54 (by kernel_rfl) rfl rfl #[.int .i64 (n:Int),.agg #[.int .i64 s0.kind,.int .i64 s0.n],.pointer (some ⟨p4,0,none⟩),.pointer (some ⟨p5,0,none⟩),.pointer (some ⟨p6,0,none⟩)] rfl rfl (HSrc.out.mono fun e w' h=>?_)
              obtain⟨h1,v1,h2,h3,h4⟩:=h
              exact⟨_,h1,(w',v1,w',undef),[(150,.slice (some ⟨w'.heap.size,0,none⟩) 1 1),(151,undef)],rfl,rfl,by kernel_rfl,.inr (.inl ⟨rfl,rfl,HY0.out.src h2 h3,HY0.out.sr.keep h3 H100.out (by decide) (by decide),HY0.out.sr.keepR h3 HRU0.out (fun q hq=>by have:=ew hq;omega)⟩)⟩
             all_goals exact a6 hok (by kernel_rfl)
            ·rcases hI with ⟨rfl,rfl⟩ | ⟨rfl,rfl,hp⟩ | ⟨rfl,rfl,hp⟩ | ⟨rfl,rfl,hp⟩ | ⟨rfl,rfl,hp⟩
             ·exact a6 hok (by kernel_rfl)
             ·exact ab rfl (lm _ _ _ rfl rfl) ⟨s,[],rfl,rfl,rfl,.inr (.inr (.inl ⟨rfl,rfl,hp⟩))⟩
             all_goals exact a6 hok (by kernel_rfl)
            ·rcases hI with ⟨rfl,rfl⟩ | ⟨rfl,rfl,hp⟩ | ⟨rfl,rfl,hp⟩ | ⟨rfl,rfl,hp⟩ | ⟨rfl,rfl,hp⟩
             ·exact a6 hok (by kernel_rfl)
             ·exact a6 hok (by kernel_rfl)
             ·have hal:=ae (Below.refl s.1.heap.size s.1) (.cells #[.int .i64 r.1.kind,.int .i64 r.1.n] 135)
              have hYb:=hp.1.below hal
              obtain⟨v1,W2,hrun,hR,hg2,hat⟩:=jD (P:=Tryz.prog) eB Wm.heap.size 143 143 135 _ 16 Tryz.underlying143 lU rfl (by decide) (by omega) vA' args r.1 [.int .i64 r.1.kind,.int .i64 r.1.n] (fun j=>Wm.heap.size≤j) (fun _=>False) ⟨s.1.heap.size,0,none⟩ (kw (heap_alloc_last s.1 _)) rfl (fun _ h=>h.elim) (fun k hk=>Nat.le_trans hYb.fr.size hk) hYb.ra hYb.fr.size (by have:=HArl.out;omega)
              exact ab rfl (iZ rfl rfl rfl hrun) ⟨(s.1,s.2.1,W2,v1),[(151,v1)],rfl,rfl,by kernel_rfl,.inr (.inr (.inr (.inl ⟨rfl,rfl,hp,hR,hg2,hat⟩)))⟩
             all_goals exact a6 hok (by kernel_rfl)
            ·rcases hI with ⟨rfl,rfl⟩ | ⟨rfl,rfl,hp⟩ | ⟨rfl,rfl,hp⟩ | ⟨rfl,rfl,hp⟩ | ⟨rfl,rfl,hp⟩
             ·exact a6 hok (by kernel_rfl)
             ·exact a6 hok (by kernel_rfl)
             ·exact a6 hok (by kernel_rfl)
             ·obtain⟨hq1,hq2,hq3,hq4⟩:=hp
              have hal:=ae (Below.refl s.1.heap.size s.1) (.cells #[.int .i64 r.1.kind,.int .i64 r.1.n] 135)
              have hYb:=hq1.1.below hal
              have hy2:=(hq3.block g11 (ai hYb.hy) (Kd.R_ne hYb.ra hYb.hy (by decide))).trans hYb.hy
              obtain⟨A1,c1,he⟩:=Kd.R_slice hq2
              obtain⟨hv1,hv2⟩:=dz _ _ _ _ he
              exact aV rfl 143 _ _ rfl g11 2 s.2.2.2 vA' rfl rfl hv1 hv2 (by kernel_rfl) (by rw[ah hy2];rfl) (aq hy2 2) ⟨s,[],rfl,rfl,rfl,.inr (.inr (.inr (.inr ⟨rfl,rfl,hq1,hq2,hq3,hq4⟩)))⟩
             ·exact a6 hok (by kernel_rfl)
           ·intro s W hI
            rcases hI with ⟨h,_⟩ | ⟨h,_⟩ | ⟨h,_⟩ | ⟨h,_⟩ | ⟨_,hW,hq1,hq2,hq3,hq4⟩
            ·exact absurd h (by decide)
            ·exact absurd h (by decide)
            ·exact absurd h (by decide)
            ·exact absurd h (by decide)
            obtain⟨W1,vM1,W2,vA1⟩:=s
            simp only at hW hq1 hq2 hq3 hq4
            subst hW
            have hal:=ae (Below.refl W1.heap.size W1) (.cells #[.int .i64 r.1.kind,.int .i64 r.1.n] 135)
            have hYb:=hq1.1.below hal
            have hY6:=hYb.arg hq2 hq3 hq4
            have hne10:g10≠g11:=HNe.out
            have h10b:=ag hq1.2.1 hal
            have h106:=a8 ((hq3.block g10 (ai h10b) (Kd.R_ne hYb.ra h10b (by decide))).trans h10b) (p:=⟨g11,2,none⟩) hne10 vA1
            have hRb:=Kd.R_over' (Kd.R_below hq1.2.2 hal) (fun k hk=>Kd.R_typed hYb.ra k hk) (fun q hq=>by have:=ew hq;omega) hq3
            have hR6:=Kd.R_set hRb ((hq3.block g11 (ai hYb.hy) (Kd.R_ne hYb.ra hYb.hy (by decide))).trans hYb.hy) (fun q hq=>by have:=ew hq;omega) 2 vA1
            have HY6:=ak_ hY6
            have H106:=ak_ h106
            have HR6:=ak_ hR6
            clear hq1 hq2 hq3 hq4 hal hYb hY6 h10b h106 hRb hR6 hne10
            dsimp only
            go_wp2
            go_roundw
            case rel=>exact⟨k+1,vM1,vA1,r.2,args++[r.1],by go_num,⟨⟨HKl.out,by rw[List.length_append];have:=HAl.out;simp;omega,HFi2.out,HY6.out,H106.out,HR6.out⟩⟩⟩
            case measure=>have:=HKl.out;simp[intOf];omega
          ·obtain rfl:k=us.length:=by omega
           rw[List.drop_of_length_le (Nat.le_refl _)] at hfin
           have hf2:dx cl F n us m=(args,m'):=by rw[hfin];simp[dx]
           have hq5:=HQ4.out
           rw[hf2] at hq5
           have HQ5:=ak_ hq5
           have HY6:=ak_ hY
           have H106:=ak_ h10
           clear hk hal hfin hY h10 hRu hf2 hq5 hkl HL
           go_wp2
           go_meet
           case rel=>
            rw[HQ5.out]
            exact⟨⟨vM',vA',HY6.out,H106.out⟩⟩
      case rest=>
       obtain⟨vM2,vA2,hY,h10⟩:=hcut.out
       have a11:=(show wc.cell? ⟨g10,1,none⟩=some (.slice AO xo.length cO) by rw[ah h10];rfl)
       have HYb:=ak_ hY
       clear hcut hY h10
       go_upto_region 26 with fail
       go_loopw [157] (fun j wr=>∃ (k:Nat) (vO2:Value) (outs:List Int),j=.int .i64 k∧aa (k≤xo.length∧outs=(xo.take k).map (·.jt)∧YSt Wm wr p4 p5 p6 gm gmap go g8 g11 cl S.entry.jt q.1.1 q.1.2.1 vM2 vA2 vO2 vNs q.2 q.1.2.2 outs nodes)) (fun j _=>xo.length - (intOf j).toNat)
       case atStart=>exact⟨0,_,[],rfl,⟨⟨Nat.zero_le _,rfl,HYb.out⟩⟩⟩
       case round=>
        obtain⟨k,vO2,outs,rfl,HL⟩:=hrel
        obtain⟨hk,houts,hY⟩:=HL.out
        by_cases hkl:k < xo.length
        ·have hkl':(k:Int) < (xo.length:Int):=by omega
         obtain⟨o,ho⟩:∃ o,xo[k]?=some o:=⟨_,List.getElem?_eq_getElem hkl⟩
         obtain⟨adO,csO,eO,hKO,hldO⟩:=eu (P:=Tryz.prog) (HNd.out wr hY.fr).2 k hkl o ho 116 Tryz.underlying116 rfl fZ
         subst eO
         obtain rfl:csO=o.cells:=hKO
         have houts2:outs++[o.jt]=(xo.take (k+1)).map (·.jt):=by
          rw[List.take_succ_eq_append_getElem hkl,(List.getElem?_eq_some_iff.1 ho).2,List.map_append,houts]
          rfl
         have HOu:=ak_ houts2
         have HOl:=ak_ (show outs.length≤2 by rw[houts,List.length_map,List.length_take];omega)
         have HLdO:=ak_ (show (loadVar 116 (adO.add (k * 25))).run Tryz.prog wr=.ok (.agg o.cells.toArray) wr from hldO)
         have HY5:=ak_ hY
         have HKl:=ak_ hkl
         clear hk houts hY ho hldO houts2 hkl HL
         go_upto_region 28 with (first
          | ((with_reducible refine aj (N:=160) rfl ?_);refine au rfl 116 _ rfl (adO.add (k * 25)) rfl _ HLdO.out ?_)
          | ((with_reducible refine ao (t:=116) (p:=15) rfl ?_);refine an rfl 116 _ _ rfl wr.heap.size o.cells.toArray rfl rfl 116 (aU.cells ⟨0,bo⟩).toArray (heap_alloc_last wr _) (dq o) (by simp[aU.len]) (gJ o) ?_;intro w6 h6 hf6;have HY6:=ak_ (HY5.out.below (bV hf6));have o15:=(show w6.cell? ⟨wr.heap.size,0,none⟩=some (.int .i64 o.jt) by rw[ap h6];rfl);clear h6 hf6))
         have y3:=(show w6.cell? ⟨g11,3,none⟩=some vO2 by rw[ah HY6.out.hy];rfl)
         go_wp2_with (first
          | ((with_reducible refine a7 (b:=.append) (xs:=#[.tmp 162,.tmp 165]) rfl ?_);at_builtin;refine Kd.R_append (Kd.int .i64) (w0:=w6) Wm.heap.size rfl (.tmp 162) (.tmp 165) 109 3 (.int .i64 0) 8 rfl Tryz.underlying109 tS rfl (by decide) (by omega) vO2 (outs) (o.jt) [.int .i64 o.jt] (fun j=>Wm.heap.size≤j) (fun _=>False) rfl rfl ?aP (fun _ hk=>hk.elim) ?aF ?aO ?aB ?aS ?aL ?_;(case aP=>exact rfl);(case aF=>exact(fun b hb=>Nat.le_trans HY6.out.fr.size hb));(case aO=>exact HY6.out.ro);(case aB=>exact Below.mono (Below.refl _ _) HY6.out.fr.size);(case aS=>exact HY6.out.fr.size);(case aL=>have:=HOl.out;omega);intro vap wap ho hb hg hat;obtain⟨A1,c1,rfl⟩:=Kd.R_slice ho;have hy1:=(hg.block g11 (ai HY6.out.hy) (Kd.R_ne HY6.out.ro HY6.out.hy (by decide))).trans HY6.out.hy;have z3:=(show wap.cell? ⟨g11,3,none⟩=some vO2 by rw[ah hy1];rfl);have zf3:=aq hy1 3;have HY7:=ak_ (HY6.out.out ho hg hat);clear ho hb hg hat hy1))
         go_roundw
         case rel=>exact⟨k+1,.slice A1 (outs.length+1) c1,outs++[o.jt],by go_num,⟨⟨HKl.out,HOu.out,by have h:=HY7.out;rw[show (outs++[o.jt]).length=outs.length+1 by simp] at h;exact h⟩⟩⟩
         case measure=>have:=HKl.out;simp[intOf];omega
        ·obtain rfl:k=xo.length:=by omega
         rw[List.take_length] at houts
         have HOu:=ak_ houts
         have HY5:=ak_ hY
         have n8:=(show wr.cell? ⟨g8,1,none⟩=some vNs by rw[ah hY.h8];rfl)
         have HNl2:=ak_ (show nodes.length≤200 by have:=HNl.out;have:=HLt.out;omega)
         clear hk houts hY hkl HL
         go_wp2_with (first
          | ((with_reducible refine aj (N:=171) rfl ?_);refine wpList_load_row rfl 145 _ rfl g11 rfl 145 #[.int .i64 q.1.1,.int .i64 q.1.2.1,vA2,vO2] (0,0) _ HY5.out.hy Tryz.underlying145 rfl oR ?_)
          | ((with_reducible refine a7 (b:=.append) (xs:=#[.tmp 170,.tmp 172]) rfl ?_);at_builtin;refine Kd.R_append ek (w0:=wr) Wm.heap.size rfl (.tmp 170) (.tmp 172) 30 145 (.agg #[.int .i64 0,.int .i64 0,.slice none 0 0,.slice none 0 0]) 64 rfl Tryz.underlying30 BV rfl (by decide) (by omega) vNs (nodes) ((⟨q.1.1,q.1.2.1,q.1.2.2,outs⟩:fe)) [.int .i64 q.1.1,.int .i64 q.1.2.1,vA2,vO2] (fun j=>Wm.heap.size≤j) (fun j=>Wm.heap.size≤j∧some j≠vNs.ownBlock) rfl rfl ?aP (fun k hk=>hk) ?aF ?aO ?aB ?aS ?aL ?_;(case aP=>exact HY5.out.rowM);(case aF=>exact(fun b hb=>Nat.le_trans HY5.out.fr.size hb));(case aO=>exact HY5.out.rows);(case aB=>exact Below.mono (Below.refl _ _) HY5.out.fr.size);(case aS=>exact HY5.out.fr.size);(case aL=>have:=HNl2.out;omega);intro vap wap ho hb hg hat;obtain⟨A1,c1,rfl⟩:=Kd.R_slice ho;have h81:=(hg.block g8 (ai HY5.out.h8) (fun e=>by have:=Kd.R_base HY5.out.rows g8 e.symm;have:=HY5.out.l8;omega)).trans HY5.out.h8;have z8:=(show wap.cell? ⟨g8,1,none⟩=some vNs by rw[ah h81];rfl);have zf8:=aq h81 1;have HZ7:=ak_ (HY5.out.close ho hg);clear ho hb hg hat h81))
         go_roundw
         case rel=>exact⟨n+1,vM2,.slice A1 (nodes.length+1) c1,q.2,nodes++[⟨q.1.1,q.1.2.1,q.1.2.2,outs⟩],by go_num,⟨⟨HLt.out,by have h:=HZ7.out;rw[show (nodes++[(⟨q.1.1,q.1.2.1,q.1.2.2,outs⟩:fe)]).length=nodes.length+1 by simp] at h;exact h,by have:=HNl.out;simp;omega,by rw[HFi.out,HOu.out]⟩⟩⟩
         case measure=>have:=HLt.out;simp[intOf];omega
     ·obtain rfl:n=S.nodes.length:=by omega
      rw[List.drop_of_length_le (Nat.le_refl _)] at hfin
      have hfin2:res=(nodes,m):=by rw[hfin];simp[dd]
      have HPm:=ak_ (show PIn S.nodes.length m by
       have h:=sq HP.out cl S.nodes 0 ⟨[],[]⟩ rfl (fun p hp=>absurd hp List.not_mem_nil)
       rw[←HRes.out,hfin2] at h
       exact h)
      have HFi:=ak_ hfin2
      obtain⟨rv,hrv⟩:=nm_ (fj f S F cl (S.nodes.length * 24+1) 0 m)
      have HRv:=ak_ hrv
      have HX0:=ak_ hZ.toX
      clear hn hZ hnl hfin hfin2 hrv hlt HL
      go_upto_region 33 with fail
      go_loopw [16] (fun j wr=>∃ (i:Nat) (vM vV:Value) (m:dj) (vals:List kE),j=.int .i64 i∧aa (i≤S.nodes.length * 24∧XSt Wm wr p4 p5 p6 gm gmap go g8 cl S.entry.jt vM vNs vV m nodes vals∧vals.length=i∧PIn S.nodes.length m∧rv=vals++fj f S F cl (S.nodes.length * 24+1 - i) i m)) (fun j _=>S.nodes.length * 24 - (intOf j).toNat)
      case atStart=>exact⟨0,_,_,m,[],rfl,⟨⟨Nat.zero_le _,HX0.out,rfl,HPm.out,HRv.out⟩⟩⟩
      case round=>
       obtain⟨i,vM2,vV,m2,vals,rfl,HL⟩:=hrel
       obtain⟨hi,hX,hvl,hps,hrv⟩:=HL.out
       obtain⟨AM,cM,rfl⟩:=Kd.R_slice hX.sr.r
       have p6c:=(show wr.cell? ⟨p6,0,none⟩=some (.slice AM m2.ps.length cM) by rw[ah hX.sr.h6];rfl)
       have hms:m2.ps.length≤S.nodes.length * 24:=by
        rw[hX.sr.len]
        have:=hX.sr.nd.length_le_of_subset (fun v hv=>hX.sr.sm v hv)
        have:=HCl5.out.1
        omega
       have HMs:=ak_ hms
       have hN200:=HP.out.n200
       have hml:(m2.ps.length:Int)≤5000:=by omega
       by_cases hlt:i < m2.ps.length
       ·have hlt':(i:Int) < (m2.ps.length:Int):=by omega
        obtain⟨p,hp⟩:∃ p,m2.ps[i]?=some p:=⟨_,List.getElem?_eq_getElem hlt⟩
        obtain⟨pa,pb⟩:=p
        obtain⟨h1,h2,h3,h4⟩:=hps _ (List.mem_of_getElem? hp)
        simp only at h1 h2 h3 h4
        obtain⟨n',rfl⟩:∃ a:Nat,pa=a:=⟨pa.toNat,by omega⟩
        obtain⟨l',rfl⟩:∃ a:Nat,pb=a:=⟨pb.toNat,by omega⟩
        obtain⟨gM,cap,he,_⟩:=Kd.R_form hX.sr.r (by omega)
        injection he with he1 he2 he3
        subst he1
        obtain⟨cs,_,hcs,hc⟩:=ky hX.sr.r i _ hp
        obtain rfl:cs=[.int .i64 (n':Int),.int .i64 (l':Int)]:=hcs
        have cM0:=hc 0 _ rfl
        have cM1:=hc 1 _ rfl
        rw[show i * cL.sz+0=i * 2 from rfl] at cM0
        rw[show i * cL.sz+1=i * 2+1 from rfl] at cM1
        rw[show S.nodes.length * 24+1 - i=(S.nodes.length * 24 - i)+1 by omega,rD hp,Int.toNat_natCast,Int.toNat_natCast] at hrv
        obtain⟨ws,hws⟩:∃ ws,(aX S)[n']?=some ws:=⟨_,List.getElem?_eq_getElem (by rw[gV];omega)⟩
        rw[List.getD_eq_getElem?_getD,hws,Option.getD_some] at hrv
        have hws4:=eM HP.out.way.1.few HP.out.n200 ws (List.mem_of_getElem? hws)
        obtain⟨gW,AE,cE,eW,hWy⟩:=HOm.out.way HTs.out hws
        subst eW
        have HHp:=ak_ hp
        have HHws:=ak_ hws
        have HWs:=ak_ hWy
        have HRv2:=ak_ hrv
        have HX:=ak_ hX
        have HHi:=ak_ (And.intro hlt hvl)
        have HPi:=ak_ hps
        have hnl':(n':Int) < (S.nodes.length:Int):=by omega
        have hll':(l':Int) < 24:=by omega
        clear hi hX hvl hps hrv hms hlt hp he2 he3 hc hws hWy HL h1 h2 h3 h4
        go_upto_region 35 with fail
        refine wp_region_still_lit (by kernel_rfl) (by kernel_rfl) ?_
        repeat still_step
        refine wpStill_nil ?_
        change (Exit.then _ _) _ _ wr.drew
        obtain⟨wq,hwq⟩:=nm_ wr.drew
        rw[←hwq]
        have hbq:Below wr.heap.size wr wq:=by rw[hwq];exact az (Below.refl _ _)
        have HXq:=ak_ (HX.out.below hbq)
        clear hwq hbq p6c cM0 cM1
        go_upto_region 37 with fail
        obtain⟨wv,hwv⟩:∃ wv,wv=wq.alloc (.cells #[.int .i64 (n':Int),.slice none 0 0] 148):=⟨_,rfl⟩
        have hV:=HXq.out.open_ (n':Int)
        rw[←hwv] at hV
        refine ar hwv.symm ?_
        obtain⟨g19,hg19⟩:=mn_ wq.heap.size
        rw[hg19] at hV ⊢
        have hOv:=HOm.out.move HTs.out hV.fr
        have c4:=(show wv.cell? ⟨p4,0,none⟩=some (.pointer (some ⟨gm,0,none⟩)) by rw[ah hOv.h4];rfl)
        have c30:=(show wv.cell? ⟨gm,30,none⟩=some (.slice (some ⟨gW,0,none⟩) S.nodes.length cW) by rw[ap hOv.blk];exact iF 3)
        have cWy:=(HWs.out wv hV.fr).1
        have HV:=ak_ hV
        have HW4:=ak_ hws4
        have hw4':(ws.length:Int)≤5000:=by omega
        clear hwv hg19 hOv hV hws4
        go_upto_region 38 with fail
        go_loopw [202] (fun j wr=>∃ (k:Nat) (vM' vF':Value) (m':dj) (fs:List Src),j=.int .i64 k∧aa (k≤ws.length∧fs.length≤k∧(dL f S F cl l' ws m2)=(fs++(dL f S F cl l' (ws.drop k) m').1,(dL f S F cl l' (ws.drop k) m').2)∧VSt Wm wr p4 p5 p6 gm gmap go g8 g19 cl S.entry.jt (n':Int) vM' vF' vNs vV m' fs nodes vals)) (fun j _=>ws.length - (intOf j).toNat)
        case atStart=>exact⟨0,_,_,m2,[],rfl,⟨⟨Nat.zero_le _,Nat.zero_le _,rfl,HV.out⟩⟩⟩
        case round=>
         obtain⟨k,vM',vF',m',fs,rfl,HL⟩:=hrel
         obtain⟨hk,hfl,hfin,hV⟩:=HL.out
         by_cases hkl:k < ws.length
         ·have hkl':(k:Int) < (ws.length:Int):=by omega
          obtain⟨e,he⟩:∃ e,ws[k]?=some e:=⟨_,List.getElem?_eq_getElem hkl⟩
          have hem:=List.mem_of_getElem? he
          obtain⟨adE,csE,eE,hKE,hldE⟩:=eu (P:=Tryz.prog) (HWs.out wr hV.fr).2 k hkl e he 151 Tryz.underlying151 rfl ik
          subst eE
          obtain rfl:csE=[.int .i64 e.1,.int .i64 e.2]:=hKE
          rw[List.drop_eq_getElem_cons hkl,(List.getElem?_eq_some_iff.1 he).2,rC] at hfin
          obtain⟨x,hx⟩:=nm_ (dn F e (dr f S e l'))
          rw[←hx] at hfin
          obtain⟨r,hr⟩:=nm_ (fJ cl e.1 x m')
          rw[←hr] at hfin
          have hxk:x.kind=4→0≤e.1∧e.1≤199∧0≤x.n∧x.n < 24∧e.1 * 24+x.n < (cl.length:Int):=by
           intro hk4
           have hcl:=HCl5.out.1
           have:=(HP.out.src HHws.out hem (by omega) hx).2.2 hk4
           exact⟨this.1,by omega,this.2.2.1,this.2.2.2,by omega⟩
          have HLdE:=ak_ (show (loadVar 151 (adE.add (k * 2))).run Tryz.prog wr=.ok (.agg #[.int .i64 e.1,.int .i64 e.2]) wr from hldE)
          have HXk:=ak_ hxk
          have HHx:=ak_ hx
          have HHe:=ak_ he
          have HHr:=ak_ hr
          have HFi2:=ak_ hfin
          have HV5:=ak_ hV
          have HKl:=ak_ hkl
          have HFl:=ak_ hfl
          clear hk hfl hfin hV hkl he hem hldE hxk hx hr HL
          go_upto_region 40 with (first
           | ((with_reducible refine aj (N:=206) rfl ?_);refine au rfl 151 _ rfl (adE.add (k * 2)) rfl _ HLdE.out ?_))
          obtain⟨wz,hwz⟩:∃ wz,wz=wr.alloc (.cells #[.int .i64 e.1,.int .i64 e.2] 151):=⟨_,rfl⟩
          have hz21:wz.heap[wr.heap.size]?=some (.cells #[.int .i64 e.1,.int .i64 e.2] 151 (0,0)):=by rw[hwz];exact heap_alloc_last wr _
          have hVz:=HV5.out.below (ae (Below.refl wr.heap.size wr) (.cells #[.int .i64 e.1,.int .i64 e.2] 151))
          rw[←hwz] at hVz
          refine ar hwz.symm ?_
          obtain⟨g21,hg21⟩:=mn_ wr.heap.size
          rw[hg21] at hz21 ⊢
          obtain⟨W0,hW0⟩:=nm_ wz.drew
          have hb0:Below wz.heap.size wz W0:=by rw[hW0];exact az (Below.refl _ _)
          have HW0:=ak_ hW0
          have HV0:=ak_ (hVz.below hb0)
          have G21:=ak_ (show W0.cell? ⟨g21,0,none⟩=some (.int .i64 e.1) by rw[ah (ag hz21 hb0)];rfl)
          have hO0:=HOm.out.move HTs.out HV0.out.fr
          have C4:=ak_ (show W0.cell? ⟨p4,0,none⟩=some (.pointer (some ⟨gm,0,none⟩)) by rw[ah hO0.h4];rfl)
          obtain⟨kk,hkk⟩:=nm_ k
          subst hkk
          have hFrom:=pW f c S F HP.out gm vf _ _ _ _ _ _ cF cA cW n' kk l' ws HHws.out e HHe.out (by omega) W0 hO0.mkr
          rw[←HHx.out] at hFrom
          have HFrom:=ak_ hFrom
          have hl5:cl.length≤5000:=by have:=HCl5.out.1;have:=HP.out.n200;omega
          have hSrc:=fun (W:World) (hb:Below W0.heap.size W0 W)=>so Wm.heap.size p4 p5 p6 gm gmap go cl vM' m' e.1 x W (HV0.out.sr.below hb) (Nat.le_trans HV0.out.fr.size hb.size) hl5 HXk.out
          rw[←HHr.out] at hSrc
          have HSrc:=ak_ hSrc
          have HFs5:=ak_ (show fs.length≤5000 by have:=HFl.out;have:=HKl.out;have:=HW4.out;omega)
          clear hwz hz21 hVz hg21 hW0 hb0 hO0 hFrom hl5 hSrc
          refine bh (σ:=World × World × Value × World × Value) [9,10,11,12,14] (fun s=>[(207,.pointer (some ⟨g19,1,none⟩)),(208,vF'),(209,.func (.func 54) #[] #[.pointer (some ⟨p4,0,none⟩),.pointer (some ⟨p5,0,none⟩),.pointer (some ⟨p6,0,none⟩)]),(210,.pointer (some ⟨g21,0,none⟩)),(211,.int .i64 e.1),(212,.pointer (some ⟨gm,0,none⟩)),(213,.int .i64 (n':Int)),(214,.int .i64 (kk:Int)),(215,.int .i64 (l':Int)),(216,.agg #[.int .i64 x.kind,.int .i64 x.n]),(217,.agg #[.int .i64 r.1.kind,.int .i64 r.1.n]),(218,.slice (some ⟨s.2.1.heap.size,0,none⟩) 1 1),(219,s.2.2.2.2),(220,.pointer (some ⟨g19,1,none⟩))])
           (fun bs s W=>(bs=[false,false,false,false,false]∧W=W0)∨(bs=[true,false,false,false,false]∧W=s.1∧Below W0.heap.size W0 s.1)∨(bs=[true,true,false,false,false]∧W=s.2.1∧VSt Wm s.2.1 p4 p5 p6 gm gmap go g8 g19 cl S.entry.jt (n':Int) s.2.2.1 vF' vNs vV r.2 fs nodes vals)∨(bs=[true,true,true,false,false]∧W=s.2.1.alloc (.cells #[.int .i64 r.1.kind,.int .i64 r.1.n] 135)∧VSt Wm s.2.1 p4 p5 p6 gm gmap go g8 g19 cl S.entry.jt (n':Int) s.2.2.1 vF' vNs vV r.2 fs nodes vals)∨(bs=[true,true,true,true,false]∧W=s.2.2.2.1∧VSt Wm s.2.1 p4 p5 p6 gm gmap go g8 g19 cl S.entry.jt (n':Int) s.2.2.1 vF' vNs vV r.2 fs nodes vals∧(Kd.R eB 135 s.2.2.2.1 Wm.heap.size (fun j=>Wm.heap.size≤j) s.2.2.2.2 (fs++[r.1])∧(s.2.1.alloc (.cells #[.int .i64 r.1.kind,.int .i64 r.1.n] 135)).grownBy s.2.2.2.1 (Value.ownBlock vF')∧(s.2.2.2.2.ownBlock=Value.ownBlock vF'∨∃ b,s.2.2.2.2.ownBlock=some b∧(s.2.1.alloc (.cells #[.int .i64 r.1.kind,.int .i64 r.1.n] 135)).heap.size≤b)))∨(bs=[true,true,true,true,true]∧W=s.2.2.2.1.setCell ⟨g19,1,none⟩ s.2.2.2.2∧VSt Wm s.2.1 p4 p5 p6 gm gmap go g8 g19 cl S.entry.jt (n':Int) s.2.2.1 vF' vNs vV r.2 fs nodes vals∧(Kd.R eB 135 s.2.2.2.1 Wm.heap.size (fun j=>Wm.heap.size≤j) s.2.2.2.2 (fs++[r.1])∧(s.2.1.alloc (.cells #[.int .i64 r.1.kind,.int .i64 r.1.n] 135)).grownBy s.2.2.2.1 (Value.ownBlock vF')∧(s.2.2.2.2.ownBlock=Value.ownBlock vF'∨∃ b,s.2.2.2.2.ownBlock=some b∧(s.2.1.alloc (.cells #[.int .i64 r.1.kind,.int .i64 r.1.n] 135)).heap.size≤b)))) (W0,W0,undef,W0,undef) (by kernel_rfl) (by kernel_rfl) (by kernel_rfl) (fun _=>by kernel_rfl) ?_
          intro aF haF
          simp only[bd,Act.put,List.setIfInBounds_toArray,List.set_cons_succ,List.set_cons_zero] at haF
          subst haF
          refine⟨?_,?_,.inl ⟨rfl,HW0.out.symm⟩,?_⟩
          ·intro j o ho hct s W bs hlen hok hI
           rcases j with _ | _ | _ | _ | _ | _ | _ | _ | _ | _ | _ | _ | _ | _ | _ | j
           all_goals first | exact absurd hct (by decide) | (obtain rfl:=Option.some.inj ho) | exact absurd (Array.getElem?_eq_some_iff.1 ho).1 (by simp)
           ·have hI2:=hI
            rcases hI with ⟨rfl,rfl⟩ | ⟨rfl,rfl,hp⟩ | ⟨rfl,rfl,hp⟩ | ⟨rfl,rfl,hp⟩ | ⟨rfl,rfl,hp⟩ | ⟨rfl,rfl,hp⟩
            all_goals first
             | (refine ab rfl ?_ ⟨rfl,hI2⟩;go_simp;done)
             | exact a6 hok (by kernel_rfl)
           ·have hI2:=hI
            rcases hI with ⟨rfl,rfl⟩ | ⟨rfl,rfl,hp⟩ | ⟨rfl,rfl,hp⟩ | ⟨rfl,rfl,hp⟩ | ⟨rfl,rfl,hp⟩ | ⟨rfl,rfl,hp⟩
            ·exact aw rfl 143 _ rfl ⟨g19,1,none⟩ _ rfl (by kernel_rfl) (by rw[ah HV0.out.hv];rfl) ⟨rfl,hI2⟩
            ·exact aw rfl 143 _ rfl ⟨g19,1,none⟩ _ rfl (by kernel_rfl) (by rw[ah (ag HV0.out.hv hp)];rfl) ⟨rfl,hI2⟩
            ·exact aw rfl 143 _ rfl ⟨g19,1,none⟩ _ rfl (by kernel_rfl) (by rw[ah hp.hv];rfl) ⟨rfl,hI2⟩
            ·exact aw rfl 143 _ rfl ⟨g19,1,none⟩ _ rfl (by kernel_rfl) (by rw[ah (aK hp.hv _)];rfl) ⟨rfl,hI2⟩
            all_goals exact a6 hok (by kernel_rfl)
           ·have hI2:=hI
            rcases hI with ⟨rfl,rfl⟩ | ⟨rfl,rfl,hp⟩ | ⟨rfl,rfl,hp⟩ | ⟨rfl,rfl,hp⟩ | ⟨rfl,rfl,hp⟩ | ⟨rfl,rfl,hp⟩
            all_goals first
             | (refine ab rfl ?_ ⟨rfl,hI2⟩;go_simp;done)
             | exact a6 hok (by kernel_rfl)
           ·have hI2:=hI
            rcases hI with ⟨rfl,rfl⟩ | ⟨rfl,rfl,hp⟩ | ⟨rfl,rfl,hp⟩ | ⟨rfl,rfl,hp⟩ | ⟨rfl,rfl,hp⟩ | ⟨rfl,rfl,hp⟩
            all_goals first
             | (refine ab rfl ?_ ⟨rfl,hI2⟩;go_simp;done)
             | exact a6 hok (by kernel_rfl)
           ·have hI2:=hI
            rcases hI with ⟨rfl,rfl⟩ | ⟨rfl,rfl,hp⟩ | ⟨rfl,rfl,hp⟩ | ⟨rfl,rfl,hp⟩ | ⟨rfl,rfl,hp⟩ | ⟨rfl,rfl,hp⟩
            ·exact aw rfl 3 _ rfl ⟨g21,0,none⟩ _ rfl (by kernel_rfl) (G21.out) ⟨rfl,hI2⟩
            ·exact aw rfl 3 _ rfl ⟨g21,0,none⟩ _ rfl (by kernel_rfl) (ak hp G21.out) ⟨rfl,hI2⟩
            all_goals exact a6 hok (by kernel_rfl)
           ·have hI2:=hI
            rcases hI with ⟨rfl,rfl⟩ | ⟨rfl,rfl,hp⟩ | ⟨rfl,rfl,hp⟩ | ⟨rfl,rfl,hp⟩ | ⟨rfl,rfl,hp⟩ | ⟨rfl,rfl,hp⟩
            ·exact aw rfl 114 _ rfl ⟨p4,0,none⟩ _ rfl (by kernel_rfl) (C4.out) ⟨rfl,hI2⟩
            all_goals exact a6 hok (by kernel_rfl)
           ·have hI2:=hI
            rcases hI with ⟨rfl,rfl⟩ | ⟨rfl,rfl,hp⟩ | ⟨rfl,rfl,hp⟩ | ⟨rfl,rfl,hp⟩ | ⟨rfl,rfl,hp⟩ | ⟨rfl,rfl,hp⟩
            all_goals first
             | (refine ab rfl ?_ ⟨rfl,hI2⟩;go_simp;done)
             | exact a6 hok (by kernel_rfl)
           ·have hI2:=hI
            rcases hI with ⟨rfl,rfl⟩ | ⟨rfl,rfl,hp⟩ | ⟨rfl,rfl,hp⟩ | ⟨rfl,rfl,hp⟩ | ⟨rfl,rfl,hp⟩ | ⟨rfl,rfl,hp⟩
            all_goals first
             | (refine ab rfl ?_ ⟨rfl,hI2⟩;go_simp;done)
             | exact a6 hok (by kernel_rfl)
           ·have hI2:=hI
            rcases hI with ⟨rfl,rfl⟩ | ⟨rfl,rfl,hp⟩ | ⟨rfl,rfl,hp⟩ | ⟨rfl,rfl,hp⟩ | ⟨rfl,rfl,hp⟩ | ⟨rfl,rfl,hp⟩
            all_goals first
             | (refine ab rfl ?_ ⟨rfl,hI2⟩;go_simp;done)
             | exact a6 hok (by kernel_rfl)
           ·have hI2:=hI
            rcases hI with ⟨rfl,rfl⟩ | ⟨rfl,rfl,hp⟩ | ⟨rfl,rfl,hp⟩ | ⟨rfl,rfl,hp⟩ | ⟨rfl,rfl,hp⟩ | ⟨rfl,rfl,hp⟩
            all_goals first
             | (refine ab rfl ?_ ⟨rfl,hI2⟩;go_simp;done)
             | exact a6 hok (by kernel_rfl)
          ·intro k j o hk ho s W bs hlen hok hI
           rcases k with _ | _ | _ | _ | _ | k
           all_goals first | (obtain rfl:=Option.some.inj hk;obtain rfl:=Option.some.inj ho) | exact absurd hk (by simp)
           ·rcases hI with ⟨rfl,rfl⟩ | ⟨rfl,rfl,hp⟩ | ⟨rfl,rfl,hp⟩ | ⟨rfl,rfl,hp⟩ | ⟨rfl,rfl,hp⟩ | ⟨rfl,rfl,hp⟩
            ·refine aN rfl Tryz.func57 (by kernel_rfl) rfl #[.pointer (some ⟨gm,0,none⟩),.int .i64 (n':Int),.int .i64 (kk:Int),.int .i64 (l':Int)] rfl rfl (HFrom.out.mono fun e w' h=>?_)
             exact⟨_,h.1,(w',s.2),[],rfl,rfl,by kernel_rfl,.inr (.inl ⟨rfl,rfl,h.2⟩)⟩
            all_goals exact a6 hok (by kernel_rfl)
           ·rcases hI with ⟨rfl,rfl⟩ | ⟨rfl,rfl,hp⟩ | ⟨rfl,rfl,hp⟩ | ⟨rfl,rfl,hp⟩ | ⟨rfl,rfl,hp⟩ | ⟨rfl,rfl,hp⟩
            ·exact a6 hok (by kernel_rfl)
            ·refine jO rfl Tryz.func54 (by kernel_rfl) rfl rfl #[.int .i64 e.1,.agg #[.int .i64 x.kind,.int .i64 x.n],.pointer (some ⟨p4,0,none⟩),.pointer (some ⟨p5,0,none⟩),.pointer (some ⟨p6,0,none⟩)] rfl rfl ((HSrc.out s.1 hp).mono fun e w' h=>?_)
             obtain⟨h1,v1,h2,h3,h4⟩:=h
             exact⟨_,h1,(s.1,w',v1,w',undef),[(218,.slice (some ⟨w'.heap.size,0,none⟩) 1 1),(219,undef)],rfl,rfl,by kernel_rfl,.inr (.inr (.inl ⟨rfl,rfl,(HV0.out.below hp).src h2 h3⟩))⟩
            all_goals exact a6 hok (by kernel_rfl)
           ·rcases hI with ⟨rfl,rfl⟩ | ⟨rfl,rfl,hp⟩ | ⟨rfl,rfl,hp⟩ | ⟨rfl,rfl,hp⟩ | ⟨rfl,rfl,hp⟩ | ⟨rfl,rfl,hp⟩
            ·exact a6 hok (by kernel_rfl)
            ·exact a6 hok (by kernel_rfl)
            ·exact ab rfl (lm _ _ _ rfl rfl) ⟨s,[],rfl,rfl,rfl,.inr (.inr (.inr (.inl ⟨rfl,rfl,hp⟩)))⟩
            all_goals exact a6 hok (by kernel_rfl)
           ·rcases hI with ⟨rfl,rfl⟩ | ⟨rfl,rfl,hp⟩ | ⟨rfl,rfl,hp⟩ | ⟨rfl,rfl,hp⟩ | ⟨rfl,rfl,hp⟩ | ⟨rfl,rfl,hp⟩
            ·exact a6 hok (by kernel_rfl)
            ·exact a6 hok (by kernel_rfl)
            ·exact a6 hok (by kernel_rfl)
            ·have hal:=ae (Below.refl s.2.1.heap.size s.2.1) (.cells #[.int .i64 r.1.kind,.int .i64 r.1.n] 135)
             have hYb:=hp.below hal
             obtain⟨v1,W2,hrun,hR,hg2,hat⟩:=jD (P:=Tryz.prog) eB Wm.heap.size 143 143 135 _ 16 Tryz.underlying143 lU rfl (by decide) (by omega) vF' fs r.1 [.int .i64 r.1.kind,.int .i64 r.1.n] (fun j=>Wm.heap.size≤j) (fun _=>False) ⟨s.2.1.heap.size,0,none⟩ (kw (heap_alloc_last s.2.1 _)) rfl (fun _ h=>h.elim) (fun k hk=>Nat.le_trans hYb.fr.size hk) hYb.ra hYb.fr.size (by have:=HFs5.out;omega)
             exact ab rfl (iZ rfl rfl rfl hrun) ⟨(s.1,s.2.1,s.2.2.1,W2,v1),[(219,v1)],rfl,rfl,by kernel_rfl,.inr (.inr (.inr (.inr (.inl ⟨rfl,rfl,hp,hR,hg2,hat⟩))))⟩
            all_goals exact a6 hok (by kernel_rfl)
           ·rcases hI with ⟨rfl,rfl⟩ | ⟨rfl,rfl,hp⟩ | ⟨rfl,rfl,hp⟩ | ⟨rfl,rfl,hp⟩ | ⟨rfl,rfl,hp⟩ | ⟨rfl,rfl,hp⟩
            ·exact a6 hok (by kernel_rfl)
            ·exact a6 hok (by kernel_rfl)
            ·exact a6 hok (by kernel_rfl)
            ·exact a6 hok (by kernel_rfl)
            ·obtain⟨hq1,hq2,hq3,hq4⟩:=hp
             have hal:=ae (Below.refl s.2.1.heap.size s.2.1) (.cells #[.int .i64 r.1.kind,.int .i64 r.1.n] 135)
             have hYb:=hq1.below hal
             have hy2:=(hq3.block g19 (ai hYb.hv) (Kd.R_ne hYb.ra hYb.hv (by decide))).trans hYb.hv
             obtain⟨A1,c1,he⟩:=Kd.R_slice hq2
             obtain⟨hv1,hv2⟩:=dz _ _ _ _ he
             exact aV rfl 143 _ _ rfl g19 1 s.2.2.2.2 vF' rfl rfl hv1 hv2 (by kernel_rfl) (by rw[ah hy2];rfl) (aq hy2 1) ⟨s,[],rfl,rfl,rfl,.inr (.inr (.inr (.inr (.inr ⟨rfl,rfl,hq1,hq2,hq3,hq4⟩))))⟩
            ·exact a6 hok (by kernel_rfl)
          ·intro s W hI
           rcases hI with ⟨h,_⟩ | ⟨h,_⟩ | ⟨h,_⟩ | ⟨h,_⟩ | ⟨h,_⟩ | ⟨_,hW,hq1,hq2,hq3,hq4⟩
           ·exact absurd h (by decide)
           ·exact absurd h (by decide)
           ·exact absurd h (by decide)
           ·exact absurd h (by decide)
           ·exact absurd h (by decide)
           obtain⟨Wf,W1,vM1,W2,vA1⟩:=s
           simp only at hW hq1 hq2 hq3 hq4
           subst hW
           have hal:=ae (Below.refl W1.heap.size W1) (.cells #[.int .i64 r.1.kind,.int .i64 r.1.n] 135)
           have hV6:=(hq1.below hal).arg hq2 hq3 hq4
           have HV6:=ak_ hV6
           clear hq1 hq2 hq3 hq4 hal hV6
           dsimp only
           go_wp2
           go_roundw
           case rel=>exact⟨kk+1,vM1,vA1,r.2,fs++[r.1],by go_num,⟨⟨HKl.out,by rw[List.length_append];have:=HFl.out;simp;omega,HFi2.out,HV6.out⟩⟩⟩
           case measure=>have:=HKl.out;simp[intOf];omega
         ·obtain rfl:k=ws.length:=by omega
          rw[List.drop_of_length_le (Nat.le_refl _)] at hfin
          have hf2:dL f S F cl l' ws m2=(fs,m'):=by rw[hfin];simp[dL]
          have hrv2:=HRv2.out
          have hpi:=uJ HP.out cl (show l' < 24 by omega) HHws.out ws m2 (fun _ h=>h) HPi.out
          rw[hf2] at hrv2 hpi
          have HRv3:=ak_ hrv2
          have HPi3:=ak_ hpi
          have HV5:=ak_ hV
          have n8:=(show wr.cell? ⟨g8,2,none⟩=some vV by rw[ah hV.h8];rfl)
          have HVl:=ak_ (show vals.length≤5000 by have:=HHi.out.1;have:=HHi.out.2;have:=HMs.out;have:=HP.out.n200;omega)
          clear hk hfl hfin hV hkl HL hf2 hrv2 hpi
          go_wp2_with (first
           | ((with_reducible refine aj (N:=224) rfl ?_);refine wpList_load_row rfl 148 _ rfl g19 rfl 148 #[.int .i64 (n':Int),vF'] (0,0) _ HV5.out.hv Tryz.underlying148 rfl sE ?_)
           | ((with_reducible refine a7 (b:=.append) (xs:=#[.tmp 223,.tmp 225]) rfl ?_);at_builtin;refine Kd.R_append ie (w0:=wr) Wm.heap.size rfl (.tmp 223) (.tmp 225) 31 148 (.agg #[.int .i64 0,.slice none 0 0]) 32 rfl Tryz.underlying31 BU rfl (by decide) (by omega) vV (vals) ((⟨(n':Int),fs⟩:kE)) [.int .i64 (n':Int),vF'] (fun j=>Wm.heap.size≤j) (fun j=>Wm.heap.size≤j∧some j≠vV.ownBlock) rfl rfl ?aP (fun k hk=>hk) ?aF ?aO ?aB ?aS ?aL ?_;(case aP=>exact HV5.out.rowM);(case aF=>exact(fun b hb=>Nat.le_trans HV5.out.fr.size hb));(case aO=>exact HV5.out.rows);(case aB=>exact Below.mono (Below.refl _ _) HV5.out.fr.size);(case aS=>exact HV5.out.fr.size);(case aL=>have:=HVl.out;omega);intro vap wap ho hb hg hat;obtain⟨A1,c1,rfl⟩:=Kd.R_slice ho;have h81:=(hg.block g8 (ai HV5.out.h8) (fun e=>by have:=Kd.R_base HV5.out.rows g8 e.symm;have:=HV5.out.l8;omega)).trans HV5.out.h8;have z8:=(show wap.cell? ⟨g8,2,none⟩=some vV by rw[ah h81];rfl);have zf8:=aq h81 2;have HX7:=ak_ (HV5.out.close ho hg);clear ho hb hg hat h81))
          go_roundw
          case rel=>exact⟨i+1,vM',.slice A1 (vals.length+1) c1,m',vals++[⟨(n':Int),fs⟩],by go_num,⟨⟨by have:=HHi.out.1;have:=HMs.out;omega,by have h:=HX7.out;rw[show (vals++[(⟨(n':Int),fs⟩:kE)]).length=vals.length+1 by simp] at h;exact h,by have:=HHi.out.2;simp;omega,HPi3.out,by rw[show S.nodes.length * 24+1 - (i+1)=S.nodes.length * 24 - i by omega];exact HRv3.out⟩⟩⟩
          case measure=>have:=HHi.out.1;have:=HMs.out;simp[intOf];omega
       ·have hnn:m2.ps[i]?=none:=List.getElem?_eq_none (by omega)
        rw[show S.nodes.length * 24+1 - i=(S.nodes.length * 24 - i)+1 by omega,rG hnn,List.append_nil] at hrv
        obtain⟨AN2,cN2,rfl⟩:=Kd.R_slice hX.rn
        obtain⟨AV2,cV2,rfl⟩:=Kd.R_slice hX.rv
        have hge:¬ ((i:Int) < (m2.ps.length:Int)):=by omega
        have HX:=ak_ hX
        have HRv3:=ak_ hrv
        have HH3:=ak_ ((hX.fr.block w.heap.size (ai HH2.out.1) HH2.out.2).trans HH2.out.1)
        clear hi hX hvl hps hrv hnn HL hms hlt
        go_wp2_with (first
         | ((with_reducible refine aj (N:=228) rfl ?_);refine wpList_load_row rfl 33 _ rfl g8 rfl 33 #[.int .i64 S.entry.jt,.slice AN2 nodes.length cN2,.slice AV2 vals.length cV2] (0,0) _ HX.out.h8 Tryz.underlying33 rfl q_ ?_)
         | ((with_reducible refine ao (t:=33) (p:=2) rfl ?_);refine an rfl 33 _ _ rfl w.heap.size #[.int .i64 S.entry.jt,.slice AN2 nodes.length cN2,.slice AV2 vals.length cV2] rfl rfl 33 #[.int .i64 0,.slice none 0 0,.slice none 0 0] HH3.out q_ rfl (by simp[Value.oneCell']) ?_;intro w6 h6 hf6;have H6:=ak_ h6;have F6:=ak_ hf6;clear h6 hf6))
        have B6:Below w.heap.size w w6:=Fr.below (HOm.out.move HTs.out HX.out.fr).b F6.out (fun k hk h=>by omega) (HOm.out.move HTs.out HX.out.fr).b.size
        have hlo:w.heap.size < Wm.heap.size:=ai HH2.out.1
        have hform:bD f=⟨S.entry.jt,nodes,vals⟩:=by
         show kR.mk (a9 f (bZ f)).entry.jt (dd f (bZ f) (cr (gZ f (a9 f (bZ f)) (bY f (a9 f (bZ f))))) (bY f (a9 f (bZ f))) (a9 f (bZ f)).nodes 0 ⟨[],[]⟩).1 (fj f (a9 f (bZ f)) (bY f (a9 f (bZ f))) (cr (gZ f (a9 f (bZ f)) (bY f (a9 f (bZ f))))) ((a9 f (bZ f)).nodes.length * 24+1) 0 (dd f (bZ f) (cr (gZ f (a9 f (bZ f)) (bY f (a9 f (bZ f))))) (bY f (a9 f (bZ f))) (a9 f (bZ f)).nodes 0 ⟨[],[]⟩).2)=_
         rw[←HCd.out,←HSd.out,←HP.out.f,←HCl.out,←HRes.out,HFi.out,←HRv.out,HRv3.out]
        have r1:=Kd.R_step HX.out.rn (fun k hk hl=>F6.out.block k hl (by omega))
        have r2:=Kd.R_step HX.out.rv (fun k hk hl=>F6.out.block k hl (by omega))
        refine bodyPost_ret (v:=.tuple #[.agg #[.int .i64 S.entry.jt,.slice AN2 nodes.length cN2,.slice AV2 vals.length cV2],.int .i64 0]) (aA (rs:=[.cell 2 33,.tmp 3]) rfl (by simp) (.cell w.heap.size 33 #[.int .i64 S.entry.jt,.slice AN2 nodes.length cN2,.slice AV2 vals.length cV2] (0,0) _ rfl H6.out Tryz.underlying33 rfl q_ (.tmp .nil))) rfl ⟨.slice AN2 nodes.length cN2,.slice AV2 vals.length cV2,by rw[hform],?_,?_,B6⟩
        ·rw[hform]
         exact Kd.R_lower (Kd.R_mono r1 (fun k hk=>Nat.le_trans (Nat.le_of_lt hlo) hk)) (Nat.le_of_lt hlo)
        ·rw[hform]
         exact Kd.R_lower (Kd.R_mono r2 (fun k hk=>Nat.le_trans (Nat.le_of_lt hlo) hk)) (Nat.le_of_lt hlo)
end
end Go.Proofs.YtlinbehijfcelaaGreatDoor.Top
