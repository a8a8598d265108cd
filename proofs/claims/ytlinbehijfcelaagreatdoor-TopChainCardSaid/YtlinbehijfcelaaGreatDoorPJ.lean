/- Walks of the program, and what it computes, told plainly. No condition. (USO USP USPA) -/
import Derived.Test.YtlinbehijfcelaaGreatDoorPI
set_option linter.unusedVariables false
set_option linter.unusedSimpArgs false
set_option linter.unusedSectionVars false
set_option maxHeartbeats 8000000
set_option maxRecDepth 100000
namespace Go.Proofs.YtlinbehijfcelaaGreatDoor.Top
open Go.RowKit Go.Proofs.YtlinbehijfcelaaGreatDoorW.PrintWords Go.Proofs.YtlinbehijfcelaaGreatDoorW.PrintLast
section
theorem c_ {α:Type} {d:Kd α} {e base:Nat} {W W1:World} {ok:Nat→Prop} {v:Value} {xs:List α} (h:Kd.R d e W base ok v xs) {S:Nat→Prop} (hf:Fr S W W1) (hs:∀ k q cells,S k→W.heap[k]?=some (.cells cells q (0,0))→q ∉ e :: d.E):Kd.R d e W1 base ok v xs:=
 Kd.R_mono (Kd.R_step (Kd.R_bound h) (fun k hk hl=>hf.block k hl (fun hsk=>by obtain⟨_,_,_,q,hq,cells,hc⟩:=hk;exact hs k q cells hsk hc hq))) (fun k hk=>hk.1)
theorem z7:(Tryz.prog.info? 138).map (fun i=>(i.zero,i.size,i.bytes))=some (some (.agg #[.int .i64 0,.int .i64 0]),2,16):=by kernel_rfl
structure fW (W:World) (base p4 p5 p6 gm gmap go:Nat) (cl:List Int) (vMet:Value) (m:dj):Prop where
 h4:W.heap[p4]?=some (.cells #[.pointer (some ⟨gm,0,none⟩)] 114 (0,0))
 hc:W.cell? ⟨gm,31,none⟩=some (.slice (some ⟨go,0,none⟩) cl.length cl.length)
 ho:W.heap[go]?=some (.cells (cl.map (Value.int .i64)).toArray 3 (0,0))
 h5:W.heap[p5]?=some (.cells #[.map (some gmap)] 132 (0,0))
 hm:bI (Value.int .i64) W gmap (dP m.cs)
 h6:W.heap[p6]?=some (.cells #[vMet] 133 (0,0))
 r:Kd.R cL 138 W base (fun j=>base≤j) vMet m.ps
 len:m.ps.length=m.cs.length
 nd:m.cs.Nodup
 ty:∃ cells,W.heap[gm]?=some (.cells cells 124 (0,0))
 sm:∀ v∈m.cs,v∈cl
def SrS (gmap p6:Nat) (vMet:Value) (k:Nat):Prop:=k=gmap∨k=p6∨some k=vMet.ownBlock
section
variable {W W1:World} {base p4 p5 p6 gm gmap go:Nat} {cl:List Int} {vMet:Value} {m:dj}
theorem fW.below (h:fW W base p4 p5 p6 gm gmap go cl vMet m) (hb:Below W.heap.size W W1):fW W1 base p4 p5 p6 gm gmap go cl vMet m:=
 ⟨ag h.h4 hb,ak hb h.hc,ag h.ho hb,ag h.h5 hb,h.hm.fr (Fr.of_below (S:=fun _=>False) hb) id,ag h.h6 hb,Kd.R_below h.r hb,h.len,h.nd,by obtain⟨c,hc⟩:=h.ty;exact⟨c,ag hc hb⟩,h.sm⟩
theorem fW.tags (h:fW W base p4 p5 p6 gm gmap go cl vMet m):∀ k q cells,SrS gmap p6 vMet k→W.heap[k]?=some (.cells cells q (0,0))→q=133∨q=138:=by
 intro k q cells hk hc
 rcases hk with rfl | rfl | hk
 ·obtain⟨es,c,hb,_⟩:=h.hm
  rw[hb] at hc
  simp at hc
 ·rw[h.h6] at hc
  simp at hc
  exact .inl hc.2.symm
 ·obtain⟨cs,hcs⟩:=Kd.R_typed h.r k hk.symm
  rw[hcs] at hc
  simp at hc
  exact .inr hc.2.symm
theorem fW.keep (h:fW W base p4 p5 p6 gm gmap go cl vMet m) (hf:Fr (SrS gmap p6 vMet) W W1) {g t:Nat} {cells:Array Value} (hg:W.heap[g]?=some (.cells cells t (0,0))) (h1:t≠133) (h2:t≠138):W1.heap[g]?=some (.cells cells t (0,0)):=
 (hf.block g (ai hg) (fun hs=>by rcases h.tags g t cells hs hg with e | e;exact h1 e;exact h2 e)).trans hg
theorem fW.keepR (h:fW W base p4 p5 p6 gm gmap go cl vMet m) (hf:Fr (SrS gmap p6 vMet) W W1) {α:Type} {d:Kd α} {e b:Nat} {ok:Nat→Prop} {v:Value} {xs:List α} (hr:Kd.R d e W b ok v xs) (hd:∀ q∈e :: d.E,q≠133∧q≠138):Kd.R d e W1 b ok v xs:=
 c_ hr hf (fun k q cells hs hc hq=>by rcases h.tags k q cells hs hc with e | e;exact(hd q hq).1 e;exact(hd q hq).2 e)
theorem fW.farS (h:fW W base p4 p5 p6 gm gmap go cl vMet m) {S:Nat→Prop} (hS:∀ k,S k→k < W.heap.size→k≠go∧∃ (cells:Array Value) (t:Nat),W.heap[k]?=some (.cells cells t (0,0))∧t≠114∧t≠124∧t≠132∧t≠133∧t≠138) (hf:Fr S W W1):fW W1 base p4 p5 p6 gm gmap go cl vMet m:=by
 have apart:∀ (k u:Nat) (cs:Array Value),W.heap[k]?=some (.cells cs u (0,0))→(u=114∨u=124∨u=132∨u=133∨u=138∨k=go)→W1.heap[k]?=some (.cells cs u (0,0)):=fun k u cs hk hu=>(hf.block k (ai hk) (fun e=>by
  obtain⟨h0,c2,t,h1,t1,t2,t4,t5,t6⟩:=hS k e (ai hk)
  rw[hk] at h1
  simp at h1
  obtain⟨_,h2⟩:=h1
  rw[←h2] at t1 t2 t4 t5 t6
  rcases hu with q | q | q | q | q | q
  ·exact t1 q
  ·exact t2 q
  ·exact t4 q
  ·exact t5 q
  ·exact t6 q
  ·exact h0 q)).trans hk
 obtain⟨ct,hct⟩:=h.ty
 have hct1:=apart gm 124 ct hct (.inr (.inl rfl))
 refine⟨apart _ _ _ h.h4 (.inl rfl),?_,apart _ _ _ h.ho (.inr (.inr (.inr (.inr (.inr rfl))))),apart _ _ _ h.h5 (.inr (.inr (.inl rfl))),h.hm.fr hf (fun e=>?_),apart _ _ _ h.h6 (.inr (.inr (.inr (.inl rfl)))),c_ h.r hf (fun k q cs hs hc hq=>?_),h.len,h.nd,⟨ct,hct1⟩,h.sm⟩
 ·have hc1:=h.hc
  rw[ah hct] at hc1
  rw[ah hct1]
  exact hc1
 ·obtain⟨es,c,hb,_⟩:=h.hm
  obtain⟨_,c2,t,h1,_⟩:=hS gmap e h.hm.lt
  rw[hb] at h1
  simp at h1
 ·have hq2:=ig hq
  obtain⟨_,c2,t,h1,_,_,_,_,t6⟩:=hS k hs (ai hc)
  rw[hc] at h1
  simp at h1
  exact t6 (h1.2.symm.trans hq2)
theorem fW.far (h:fW W base p4 p5 p6 gm gmap go cl vMet m) {g t:Nat} {cells:Array Value} (hg:W.heap[g]?=some (.cells cells t (0,0))) (ht:t≠114∧t≠124∧t≠3∧t≠132∧t≠133∧t≠138) (hf:Fr (fun k=>k=g) W W1):fW W1 base p4 p5 p6 gm gmap go cl vMet m:=
 h.farS (fun k hk _=>by
  have hk2:k=g:=hk
  subst hk2
  exact⟨fun e=>by rw[e,h.ho] at hg;simp at hg;exact ht.2.2.1 hg.2.symm,cells,t,hg,ht.1,ht.2.1,ht.2.2.2.1,ht.2.2.2.2.1,ht.2.2.2.2.2⟩) hf
theorem fW.new (h:fW W base p4 p5 p6 gm gmap go cl vMet m) {W2:World} {v1:Value} {c n l:Int} (hm:bI (Value.int .i64) W1 gmap (dP (m.cs++[c]))) (hf:Fr (fun k=>k=gmap) W W1) (hR:Kd.R cL 138 W2 base (fun j=>base≤j) v1 (m.ps++[(n,l)])) (hg:W1.grownBy W2 vMet.ownBlock) (hc:c∈cl) (hnc:c ∉ m.cs) :
  fW (W2.setCell ⟨p6,0,none⟩ v1) base p4 p5 p6 gm gmap go cl v1 ⟨m.cs++[c],m.ps++[(n,l)]⟩∧Fr (SrS gmap p6 vMet) W (W2.setCell ⟨p6,0,none⟩ v1):=by
 have hfr:Fr (SrS gmap p6 vMet) W (W2.setCell ⟨p6,0,none⟩ v1):=((hf.mono (fun k _ e=>.inl e)).trans (Fr.grown hg (fun k e=>.inr (.inr e)))).trans (Fr.cell (p:=⟨p6,0,none⟩) (.inr (.inl rfl)) _)
 have hng:gmap≠p6:=fun e=>by
  obtain⟨es,c,hb,_⟩:=h.hm
  rw[e,h.h6] at hb
  simp at hb
 have hngv:some gmap≠vMet.ownBlock:=fun e=>by
  obtain⟨cs,hcs⟩:=Kd.R_typed h.r gmap e.symm
  obtain⟨es,c,hb,_⟩:=h.hm
  rw[hcs] at hb
  simp at hb
 have hn6v:some p6≠vMet.ownBlock:=Kd.R_ne h.r h.h6 (by decide)
 have h61:=(hf.block p6 (ai h.h6) (fun e=>hng e.symm)).trans h.h6
 have h62:=(hg.block p6 (ai h61) hn6v).trans h61
 obtain⟨ct,hct⟩:=h.ty
 have hgm1:=h.keep hfr hct (by decide) (by decide)
 refine⟨⟨h.keep hfr h.h4 (by decide) (by decide),?_,h.keep hfr h.ho (by decide) (by decide),h.keep hfr h.h5 (by decide) (by decide),?_,aJ (L:=[vMet]) h62 0 _,?_,by simp[h.len],?_,⟨ct,hgm1⟩,?_⟩,hfr⟩
 ·have hc1:=h.hc
  rw[ah hct] at hc1
  rw[ah hgm1]
  exact hc1
 ·have h1:=hm.moved (W':=W2) (hg.block gmap hm.lt hngv)
  exact h1.moved (Below.heap_setCell W2 ⟨p6,0,none⟩ _ gmap hng)
 ·exact Kd.R_set hR h62 (fun q hq=>by have:=ig hq;omega) 0 _
 ·rw[List.nodup_append]
  exact⟨h.nd,by simp,fun y hy z hz e=>by simp at hz;subst hz;subst e;exact hnc hy⟩
 ·intro v hv
  rcases List.mem_append.1 hv with hv | hv
  ·exact h.sm v hv
  ·rw[List.mem_singleton.1 hv];exact hc
end
theorem so (base p4 p5 p6 gm gmap go:Nat) (cl:List Int) (vMet:Value) (m:dj) (n:Int) (x:Src) (w:World) (hS:fW w base p4 p5 p6 gm gmap go cl vMet m) (hb:base≤w.heap.size) (hl5:cl.length≤5000) (hx:x.kind=4→0≤n∧n≤199∧0≤x.n∧x.n < 24∧n * 24+x.n < (cl.length:Int)) :
  Calls Tryz.prog 54 #[.int .i64 n,.agg #[.int .i64 x.kind,.int .i64 x.n],.pointer (some ⟨p4,0,none⟩),.pointer (some ⟨p5,0,none⟩),.pointer (some ⟨p6,0,none⟩)] w fun e w'=>e=.returned (.agg #[.int .i64 (fJ cl n x m).1.kind,.int .i64 (fJ cl n x m).1.n])∧∃ v1,fW w' base p4 p5 p6 gm gmap go cl v1 (fJ cl n x m).2∧Fr (SrS gmap p6 vMet) w w'∧(v1.ownBlock=vMet.ownBlock∨∃ b,v1.ownBlock=some b∧w.heap.size≤b):=by
 obtain⟨r,hr⟩:=nm_ (fJ cl n x m)
 rw[←hr]
 have HS:=ak_ hS
 have HX:=ak_ hx
 have HR:=ak_ hr
 have HB:=ak_ hb
 have HL5:=ak_ hl5
 clear hS hx hr hb hl5
 go_enter Tryz.func54,Tryz.ntmps54
 go_upto_region 1 with fail
 obtain⟨wa,hwa⟩:∃ wa,wa=(w.alloc (.cells #[.int .i64 x.kind,.int .i64 x.n] 135)).alloc (.cells #[.int .i64 0,.int .i64 0] 135):=⟨_,rfl⟩
 have hba:Below w.heap.size w wa:=by rw[hwa];exact ae (ae (Below.refl _ _) _) _
 have h6:wa.heap[w.heap.size]?=some (.cells #[.int .i64 x.kind,.int .i64 x.n] 135 (0,0)):=by rw[hwa];exact aK (heap_alloc_last w _) _
 have h7:wa.heap[w.heap.size+1]?=some (.cells #[.int .i64 0,.int .i64 0] 135 (0,0)):=by
  have:=heap_alloc_last (w.alloc (.cells #[.int .i64 x.kind,.int .i64 x.n] 135)) (.cells #[.int .i64 0,.int .i64 0] 135 (0,0))
  rw[hwa]
  simpa using this
 refine ar hwa.symm ?_
 have x0:=(show wa.cell? ⟨w.heap.size,0,none⟩=some (.int .i64 x.kind) by rw[ah h6];rfl)
 have x1:=(show wa.cell? ⟨w.heap.size,1,none⟩=some (.int .i64 x.n) by rw[ah h6];rfl)
 have HBa:=ak_ hba
 have H6:=ak_ h6
 have H7:=ak_ h7
 have HSa:=ak_ (HS.out.below hba)
 clear hwa hba h6 h7
 by_cases h4:x.kind=4
 ·obtain⟨b1,b2,b3,b4,b5⟩:=HX.out h4
  have q4:(x.kind != 4)=false:=by rw[h4];rfl
  obtain⟨c,hc⟩:=nm_ (cl.getD (n * 24+x.n).toNat 0)
  have hcm:cl[(n * 24+x.n).toNat]?=some c:=by rw[hc,List.getD_eq_getElem?_getD,List.getElem?_eq_getElem (by omega)];rfl
  have hr1:r=(⟨4,((cx m.cs c).1:Int)⟩,m.add c n x.n):=by
   rw[HR.out]
   unfold fJ
   rw[if_pos h4,←hc]
  obtain⟨i,hi⟩:∃ i:Nat,(i:Int)=n * 24+x.n:=⟨(n * 24+x.n).toNat,by omega⟩
  rw[←hi,Int.toNat_natCast] at hcm
  have hil:i < cl.length:=by omega
  have HR1:=ak_ hr1
  have HCm:=ak_ hcm
  have HTh:=ak_ (fun (W:World)=>(oI n x.n b1 (by omega) b3 (by omega) W).mono (fun e w' (h:e=.returned (.int .i64 (n * 24+x.n))∧W=w')=>(⟨h.1,h.2.symm⟩:e=.returned (.int .i64 (n * 24+x.n))∧w'=W)))
  rw[←hi] at HTh
  have HIl:=ak_ hil
  have hil':(i:Int) < (cl.length:Int):=by omega
  have HXm:=ak_ (show c∈cl from List.mem_of_getElem? hcm)
  clear h4 hc hcm hr1 hi hil b5
  go_upto_region 3 with fail
  have c4:=(show wa.cell? ⟨p4,0,none⟩=some (.pointer (some ⟨gm,0,none⟩)) by rw[ah HSa.out.h4];rfl)
  have cC:=HSa.out.hc
  have cO:=(show wa.cell? ⟨go,i,none⟩=some (.int .i64 c) by rw[ap HSa.out.ho,List.getElem?_map,HCm.out];rfl)
  refine wp_region_still_lit (by kernel_rfl) (by kernel_rfl) ?_
  repeat still_step
  still_call (HTh.out _)
  repeat still_step
  refine wpStill_nil ?_
  obtain⟨wb,hwb⟩:=nm_ wa.drew
  have hbb:Below wa.heap.size wa wb:=by rw[hwb];exact az (Below.refl _ _)
  change (Exit.then _ _) _ _ wa.drew
  rw[←hwb]
  have HSb:=ak_ (HSa.out.below hbb)
  have H7b:=ak_ (ag H7.out hbb)
  have HBb:=ak_ (af HBa.out hbb)
  have H6b2:=ag H6.out hbb
  have x1:=(show wb.cell? ⟨w.heap.size,1,none⟩=some (.int .i64 x.n) by rw[ah H6b2];rfl)
  have c5:=(show wb.cell? ⟨p5,0,none⟩=some (.map (some gmap)) by rw[ah HSb.out.h5];rfl)
  have c6:=(show wb.cell? ⟨p6,0,none⟩=some vMet by rw[ah HSb.out.h6];rfl)
  have HZ:=ak_ (show ∀ W,(zeroValue 3).run Tryz.prog W=.ok (.int .i64 0) W from fun W=>by kernel_rfl)
  have hX:=jv c m.cs
  clear hwb hbb x0 c4 cC cO H6b2
  cases hix:kz m.cs c with
  | some i0=>
   rw[hix] at hX
   have HX2:=ak_ (show jM (.int .i64 0) (bO c (dP m.cs) 0)=.tuple #[.int .i64 (i0:Int),.bool true] by rw[hX];rfl)
   have hr2:=HR1.out
   unfold cx dj.add at hr2
   rw[hix] at hr2
   have HR2:=ak_ (show r=(⟨4,(i0:Int)⟩,m) from hr2)
   clear hr2 hX hix
   go_wp2_with (first
    | ((with_reducible refine aj (N:=28) rfl ?_);refine cJ mK rfl _ _ rfl Tryz.underlying132 HSb.out.hm (.int .i64 0) (HZ.out _) c rfl rfl _ HX2.out ?_)
    | ((with_reducible refine ao (t:=135) (p:=7) rfl ?_);refine an rfl 135 _ _ rfl (w.heap.size+1) #[.int .i64 4,.int .i64 (i0:Int)] rfl rfl 135 #[.int .i64 0,.int .i64 0] H7b.out aG rfl (by simp[Value.oneCell']) ?_;intro w9 h9 hf9;have H9:=ak_ h9;have F9:=ak_ hf9;clear h9 hf9))
   rw[HR2.out]
   refine bodyPost_ret (v:=.agg #[.int .i64 4,.int .i64 (i0:Int)]) (results_cell_row rfl _ _ (w.heap.size+1) 135 #[.int .i64 4,.int .i64 (i0:Int)] (0,0) _ rfl H9.out Tryz.underlying135 rfl aG) rfl ⟨rfl,vMet,?_,?_,.inl rfl⟩
   ·exact HS.out.below (Fr.below HBb.out F9.out (fun k hk h=>by omega) HBb.out.size)
   ·exact Fr.of_below (Fr.below HBb.out F9.out (fun k hk h=>by omega) HBb.out.size)
  | none=>
   rw[hix] at hX
   have HX2:=ak_ (show jM (.int .i64 0) (bO c (dP m.cs) 0)=.tuple #[.int .i64 0,.bool false] by rw[hX];rfl)
   have HX3:=ak_ (show bO c (dP m.cs) 0=none from hX)
   have hr2:=HR1.out
   unfold cx dj.add at hr2
   rw[hix] at hr2
   have HR2:=ak_ (show r=(⟨4,(m.ps.length:Int)⟩,⟨m.cs++[c],m.ps++[(n,x.n)]⟩) by rw[HSb.out.len];exact hr2)
   have HNc:=ak_ (mN hix)
   have hml:m.ps.length≤5000:=by
    have:=HSb.out.nd.length_le_of_subset (fun v hv=>HSb.out.sm v hv)
    have:=HSb.out.len
    have:=HL5.out
    omega
   have hml':(m.ps.length:Int)≤5000:=by omega
   have HMl:=ak_ hml
   obtain⟨AM,cM,rfl⟩:=Kd.R_slice HSb.out.r
   have HBs:=ak_ (show base≤wb.heap.size from Nat.le_trans HB.out HBb.out.size)
   clear hr2 hX hix hml
   go_wp2_with (first
    | ((with_reducible refine aj (N:=28) rfl ?_);refine cJ mK rfl _ _ rfl Tryz.underlying132 HSb.out.hm (.int .i64 0) (HZ.out _) c rfl rfl _ HX2.out ?_)
    | ((with_reducible refine iW rfl ?_);refine dF mK rfl _ _ _ rfl Tryz.underlying132 HSb.out.hm c (.int .i64 (m.ps.length:Int)) rfl rfl rfl HX3.out ?_;intro w3 hm3 hfr3;have hgm3:∀ (k t:Nat) (cs:Array Value),wb.heap[k]?=some (.cells cs t (0,0))→w3.heap[k]?=some (.cells cs t (0,0)):=(fun k t cs hk=>(hfr3.block k (ai hk) (fun e=>by obtain⟨es,c,hb,_⟩:=HSb.out.hm;rw[e,hb] at hk;simp at hk)).trans hk);have c63:=(show w3.cell? ⟨p6,0,none⟩=some (.slice AM m.ps.length cM) by rw[ah (hgm3 _ _ _ HSb.out.h6)];rfl);have x13:=(show w3.cell? ⟨w.heap.size,1,none⟩=some (.int .i64 x.n) from hfr3.cell_at x1 (fun e=>by have h1:=HSb.out.hm;have h0:=ai (ag H6.out (show Below wa.heap.size wa wa from Below.refl _ _));have h2:=HS.out.hm.lt;have e2:w.heap.size=gmap:=e;omega));have H73:=ak_ (hgm3 _ _ _ H7b.out);have R3:=ak_ (c_ HSb.out.r hfr3 (fun k q cs hs hc hq=>by obtain⟨es,c,hb,_⟩:=HSb.out.hm;have hs2:k=gmap:=hs;rw[hs2,hb] at hc;simp at hc));have M3:=ak_ hm3;have F3:=ak_ hfr3;have h63:=hgm3 _ _ _ HSb.out.h6;have H63:=ak_ h63;have S3:=ak_ (show base≤w3.heap.size from Nat.le_trans HBs.out hfr3.size);clear hm3 hfr3 hgm3 h63)
    | ((with_reducible refine aj (N:=42) rfl ?_);refine aM rfl 138 _ rfl [(0,.int .i64 n),(1,.int .i64 x.n)] _ rfl (sV _ _) ?_)
    | ((with_reducible refine a7 (b:=.append) (xs:=#[.tmp 38,.tmp 43]) rfl ?_);at_builtin;refine Kd.R_append cL (w0:=w3) base rfl (.tmp 38) (.tmp 43) 133 138 (.agg #[.int .i64 0,.int .i64 0]) 16 rfl Tryz.underlying133 z7 rfl (by decide) (by omega) (.slice AM m.ps.length cM) (m.ps) (((n,x.n):Int × Int)) [.int .i64 n,.int .i64 x.n] (fun j=>base≤j) (fun _=>False) rfl rfl ?aP (fun _ hk=>hk.elim) ?aF ?aO ?aB ?aS ?aL ?_;(case aP=>exact rfl);(case aF=>exact(fun b hb=>by have:=S3.out;omega));(case aO=>exact R3.out);(case aB=>exact Below.refl _ _);(case aS=>exact S3.out);(case aL=>have:=HMl.out;omega);intro vap wap ho hb hg hat;obtain⟨A1,c1,rfl⟩:=Kd.R_slice ho;rw[show (m.ps++[((n,x.n):Int × Int)]).length=m.ps.length+1 by simp] at ho hat;have h6k:=(hg.block p6 (ai H63.out) (Kd.R_ne R3.out H63.out (by decide))).trans H63.out;have z6:=(show wap.cell? ⟨p6,0,none⟩=some (.slice AM m.ps.length cM) by rw[ah h6k];rfl);have zf6:=aq h6k 0;have H7k:=ak_ (a8 ((hg.block _ (ai H73.out) (Kd.R_ne R3.out H73.out (by decide))).trans H73.out) (p:=⟨p6,0,none⟩) (fun e=>by have e2:w.heap.size+1=p6:=e;have h1:=H63.out;rw[←e2,H73.out] at h1;simp at h1) (.slice A1 (m.ps.length+1) c1));have HN:=ak_ (HSb.out.new (W1:=w3) (W2:=wap) (c:=c) (n:=n) (l:=x.n) (by rw[lH,←HSb.out.len];exact M3.out) F3.out ho hg HXm.out HNc.out);have HAt:=ak_ hat;clear ho hb hg hat h6k)
    | ((with_reducible refine ao (t:=135) (p:=7) rfl ?_);refine an rfl 135 _ _ rfl (w.heap.size+1) #[.int .i64 4,.int .i64 (m.ps.length:Int)] rfl rfl 135 #[.int .i64 0,.int .i64 0] H7k.out aG rfl (by simp[Value.oneCell']) ?_;intro w9 h9 hf9;have H9:=ak_ h9;have F9:=ak_ hf9;clear h9 hf9))
   rw[HR2.out]
   refine bodyPost_ret (v:=.agg #[.int .i64 4,.int .i64 (m.ps.length:Int)]) (results_cell_row rfl _ _ (w.heap.size+1) 135 #[.int .i64 4,.int .i64 (m.ps.length:Int)] (0,0) _ rfl H9.out Tryz.underlying135 rfl aG) rfl ⟨rfl,_,HN.out.1.far H7k.out (by decide) F9.out,?_,?_⟩
   ·refine⟨F9.out.os.trans (HN.out.2.os.trans HBb.out.os),F9.out.tape.trans (HN.out.2.tape.trans HBb.out.tape),F9.out.output.trans (HN.out.2.output.trans HBb.out.output),Nat.le_trans HBb.out.size (Nat.le_trans HN.out.2.size F9.out.size),fun k hk hn=>?_⟩
    have h1:=HBb.out.size
    have h2:=HN.out.2.size
    exact(F9.out.block k (by omega) (by omega)).trans ((HN.out.2.block k (by omega) hn).trans (HBb.out.block k hk))
   ·rcases HAt.out with q | ⟨b,q,hl⟩
    ·exact .inl q
    ·exact .inr ⟨b,q,Nat.le_trans HBb.out.size (Nat.le_trans F3.out.size hl)⟩
 ·have q4:(x.kind != 4)=true:=bne_iff_ne.mpr h4
  have HR2:=ak_ (show r=(x,m) by rw[HR.out];unfold fJ;rw[if_neg h4])
  clear h4
  go_wp2_with (first
   | ((with_reducible refine aj (N:=14) rfl ?_);refine wpList_load_row rfl 135 _ rfl w.heap.size rfl 135 #[.int .i64 x.kind,.int .i64 x.n] (0,0) _ H6.out Tryz.underlying135 rfl aG ?_)
   | ((with_reducible refine ao (t:=135) (p:=7) rfl ?_);refine an rfl 135 _ _ rfl (w.heap.size+1) #[.int .i64 x.kind,.int .i64 x.n] rfl rfl 135 #[.int .i64 0,.int .i64 0] H7.out aG rfl (by simp[Value.oneCell']) ?_;intro w9 h9 hf9;have H9:=ak_ h9;have F9:=ak_ hf9;clear h9 hf9))
  rw[HR2.out]
  have hb9:=Fr.below HBa.out F9.out (fun k hk h=>by omega) HBa.out.size
  exact bodyPost_ret (v:=.agg #[.int .i64 x.kind,.int .i64 x.n]) (results_cell_row rfl _ _ (w.heap.size+1) 135 #[.int .i64 x.kind,.int .i64 x.n] (0,0) _ rfl H9.out Tryz.underlying135 rfl aG) rfl ⟨rfl,vMet,HS.out.below hb9,Fr.of_below hb9,.inl rfl⟩
end
section
def ek:Kd fe:=Kd.iso (Kd.pair (Kd.int .i64) (Kd.pair (Kd.int .i64) (Kd.pair (Kd.slice 135 eB) (Kd.slice 3 (Kd.int .i64))))) (fun x=>(x.op,x.n,x.args,x.outs))
def ie:Kd kE:=Kd.iso (Kd.pair (Kd.int .i64) (Kd.slice 135 eB)) (fun x=>(x.at_,x.from_))
theorem ej {q:Nat} (h:q∈145 :: ek.E):q=145∨q=135∨q=3:=by
 have:145 :: ek.E=[145,135,3]:=rfl
 rw[this] at h
 rcases List.mem_cons.1 h with e | e
 ·exact .inl e
 ·rcases List.mem_cons.1 e with e | e
  ·exact .inr (.inl e)
  ·exact .inr (.inr (List.mem_singleton.1 e))
theorem jo {q:Nat} (h:q∈148 :: ie.E):q=148∨q=135:=by
 have:148 :: ie.E=[148,135]:=rfl
 rw[this] at h
 rcases List.mem_cons.1 h with e | e
 ·exact .inl e
 ·exact .inr (List.mem_singleton.1 e)
theorem ev {t q:Nat} (h:q∈t :: eB.E):q=t:=List.mem_singleton.1 h
theorem ew {t q:Nat} (h:q∈t :: (Kd.int .i64).E):q=t:=List.mem_singleton.1 h
theorem mM {q:Nat} (h:q∈120 :: lQ.E):q=120∨q=143∨q=135:=by
 rcases List.mem_cons.1 h with e | e
 ·exact .inl e
 ·rcases List.mem_cons.1 e with e | e
  ·exact .inr (.inl e)
  ·exact .inr (.inr (List.mem_singleton.1 e))
theorem mL {q:Nat} (h:q∈149 :: (Kd.slice 151 cL).E):q=149∨q=151:=by
 rcases List.mem_cons.1 h with e | e
 ·exact .inl e
 ·exact .inr (List.mem_singleton.1 e)
theorem BV:(Tryz.prog.info? 145).map (fun i=>(i.zero,i.size,i.bytes))=some (some (.agg #[.int .i64 0,.int .i64 0,.slice none 0 0,.slice none 0 0]),4,64):=by kernel_rfl
theorem oR:(Tryz.prog.info? 145).map (·.size)=some 4:=by kernel_rfl
theorem BU:(Tryz.prog.info? 148).map (fun i=>(i.zero,i.size,i.bytes))=some (some (.agg #[.int .i64 0,.slice none 0 0]),2,32):=by kernel_rfl
theorem sE:(Tryz.prog.info? 148).map (·.size)=some 2:=by kernel_rfl
theorem q_:(Tryz.prog.info? 33).map (·.size)=some 3:=by kernel_rfl
structure OfR (w W:World) (f:List In) (c:List Bool) (S:bj) (F:List (List Src)) (cl:List Int) (gm p4 p5 gc go:Nat) (vf:Value) (AN AF AA AW:Option Addr) (cN cF cA cW:Nat):Prop where
 b:Below w.heap.size w W
 blk:W.heap[gm]?=some (.cells (ep vf (.slice (some ⟨gc,0,none⟩) f.length f.length) S.entry (.slice AN S.nodes.length cN) (.slice AF S.nodes.length cF) (.slice AA S.nodes.length cA) (.slice AW S.nodes.length cW) (.slice (some ⟨go,0,none⟩) (S.nodes.length * 24) (S.nodes.length * 24))).toArray 124 (0,0))
 h4:W.heap[p4]?=some (.cells #[.pointer (some ⟨gm,0,none⟩)] 114 (0,0))
 hc:W.heap[gc]?=some (.cells (c.map Value.bool).toArray 4 (0,0))
 ho:W.heap[go]?=some (.cells (cl.map (Value.int .i64)).toArray 3 (0,0))
 rN:Kd.R dl 142 W w.heap.size (fun k=>w.heap.size≤k) (.slice AN S.nodes.length cN) S.nodes
 rF:Kd.R k8 143 W w.heap.size (fun k=>w.heap.size≤k) (.slice AF S.nodes.length cF) F
 rA:Kd.R lQ 120 W w.heap.size (fun k=>w.heap.size≤k) (.slice AA S.nodes.length cA) (eF f S)
 rW:Kd.R (Kd.slice 151 cL) 149 W w.heap.size (fun k=>w.heap.size≤k) (.slice AW S.nodes.length cW) (aX S)
section
variable {w W W1:World} {f:List In} {c:List Bool} {S:bj} {F:List (List Src)} {cl:List Int} {gm p4 p5 gc go:Nat} {vf:Value} {AN AF AA AW:Option Addr} {cN cF cA cW:Nat}
theorem OfR.move (h:OfR w W f c S F cl gm p4 p5 gc go vf AN AF AA AW cN cF cA cW) {T:Nat→Prop} (hT:∀ k,T k→k < W.heap.size→w.heap.size≤k∧∀ (q:Nat) (cells:Array Value),W.heap[k]?=some (.cells cells q (0,0))→q=133∨q=33) (hf:Fr T W W1):OfR w W1 f c S F cl gm p4 p5 gc go vf AN AF AA AW cN cF cA cW:=by
 have apart:∀ (k u:Nat) (cs:Array Value),W.heap[k]?=some (.cells cs u (0,0))→u≠133→u≠33→W1.heap[k]?=some (.cells cs u (0,0)):=fun k u cs hk h1 h2=>(hf.block k (ai hk) (fun e=>by
  rcases (hT k e (ai hk)).2 u cs hk with q | q
  ·exact h1 q
  ·exact h2 q)).trans hk
 refine⟨Fr.below h.b hf (fun k hk q=>?_) h.b.size,apart _ _ _ h.blk (by decide) (by decide),apart _ _ _ h.h4 (by decide) (by decide),apart _ _ _ h.hc (by decide) (by decide),apart _ _ _ h.ho (by decide) (by decide),c_ h.rN hf (fun k q cells hk hc hq=>?_),c_ h.rF hf (fun k q cells hk hc hq=>?_),c_ h.rA hf (fun k q cells hk hc hq=>?_),c_ h.rW hf (fun k q cells hk hc hq=>?_)⟩
 ·have:=(hT k q (Nat.lt_of_lt_of_le hk h.b.size)).1
  omega
 ·have h1:=ic hq
  rcases (hT k hk (ai hc)).2 q cells hc with e | e <;> omega
 ·have h1:=kn hq
  rcases (hT k hk (ai hc)).2 q cells hc with e | e <;> omega
 ·have h1:=mM hq
  rcases (hT k hk (ai hc)).2 q cells hc with e | e <;> omega
 ·have h1:=mL hq
  rcases (hT k hk (ai hc)).2 q cells hc with e | e <;> omega
theorem OfR.mkr (h:OfR w W f c S F cl gm p4 p5 gc go vf AN AF AA AW cN cF cA cW):MkR W gm f S F vf (.slice (some ⟨gc,0,none⟩) f.length f.length) (.slice AN S.nodes.length cN) (.slice (some ⟨go,0,none⟩) (S.nodes.length * 24) (S.nodes.length * 24)) AF AA AW cF cA cW:=
 ⟨h.blk,(Kd.R_reads' h.rF).1 ▸ (Kd.R_reads' h.rF).2.2,(Kd.R_reads' h.rA).1 ▸ (Kd.R_reads' h.rA).2.2,(Kd.R_reads' h.rW).1 ▸ (Kd.R_reads' h.rW).2.2⟩
end
theorem OfR.node {w W:World} {f:List In} {c:List Bool} {S:bj} {F:List (List Src)} {cl:List Int} {gm p4 p5 gc go:Nat} {vf:Value} {AN AF AA AW:Option Addr} {cN cF cA cW:Nat} (h:OfR w W f c S F cl gm p4 p5 gc go vf AN AF AA AW cN cF cA cW) {T:Nat→Prop} (hT:∀ k,T k→k < W.heap.size→w.heap.size≤k∧∀ (q:Nat) (cells:Array Value),W.heap[k]?=some (.cells cells q (0,0))→q=133∨q=33) {n:Nat} {x:aH} (hx:S.nodes[n]?=some x) :
  ∃ gN AO cO,AN=some ⟨gN,0,none⟩∧∀ W1,Fr T W W1→(loadVar 142 ⟨gN,n * 2,none⟩).run Tryz.prog W1=.ok (.agg #[.int .i64 x.at_,.slice AO x.outs.length cO]) W1∧Kd.C pF W1 AO x.outs.length x.outs:=by
 have hn:=(List.getElem?_eq_some_iff.1 hx).1
 obtain⟨gN,cap,he,_,_,cs,hcs⟩:=Kd.R_form h.rN (by omega)
 injection he with he1 he2 he3
 subst he1
 obtain⟨c0,hl0,hK0,hc0⟩:=ky h.rN n x hx
 obtain⟨v0,rfl,A0,d0,rfl,hlo,hC0⟩:=fx hK0
 refine⟨gN,A0,d0,rfl,fun W1 hf=>?_⟩
 have hO:=h.move hT hf
 obtain⟨c1,hl1,hK1,hc1⟩:=ky hO.rN n x hx
 obtain⟨v1,rfl,A1,d1,rfl,_,hC1⟩:=fx hK1
 have hnt:¬ T gN:=fun e=>by
  rcases (hT gN e (ai hcs)).2 142 cs hcs with q | q
  ·exact absurd q (by decide)
  ·exact absurd q (by decide)
 have e0:=hf.cell_at (hc0 1 _ rfl) (show ¬ T gN from hnt)
 have e1:=hc1 1 _ rfl
 rw[e0] at e1
 obtain⟨rfl,rfl⟩:A0=A1∧d0=d1:=by
  have e2:=Option.some.inj e1
  simp only[Value.slice.injEq,true_and] at e2
  exact e2
 refine⟨?_,hC1⟩
 exact oL W1 ⟨gN,n * 2,none⟩ 142 [.int .i64 x.at_,.slice A0 x.outs.length d0] _ (fun j v hj=>by
  have:=hc1 j v hj
  rw[show n * dl.sz+j=n * 2+j from rfl,←uz,←fU,uz] at this
  exact this) Tryz.underlying142 rfl ka
def OfS (gmap p6 g8:Nat) (k:Nat):Prop:=k=gmap∨k=p6∨k=g8
structure YSt (Wm W:World) (p4 p5 p6 gm gmap go g8 g11:Nat) (cl:List Int) (en op n:Int) (vMet vArgs vOuts vNodes:Value) (m:dj) (args:List Src) (outs:List Int) (nodes:List fe):Prop where
 fr:Fr (OfS gmap p6 g8) Wm W
 sr:fW W Wm.heap.size p4 p5 p6 gm gmap go cl vMet m
 h8:W.heap[g8]?=some (.cells #[.int .i64 en,vNodes,.slice none 0 0] 33 (0,0))
 hy:W.heap[g11]?=some (.cells #[.int .i64 op,.int .i64 n,vArgs,vOuts] 145 (0,0))
 lo:Wm.heap.size≤g11
 rn:Kd.R ek 145 W Wm.heap.size (fun j=>((Wm.heap.size≤j∧j≠g11)∧some j≠vArgs.ownBlock)∧some j≠vOuts.ownBlock) vNodes nodes
 ra:Kd.R eB 135 W Wm.heap.size (fun j=>Wm.heap.size≤j) vArgs args
 ro:Kd.R (Kd.int .i64) 3 W Wm.heap.size (fun j=>Wm.heap.size≤j) vOuts outs
 l8:g8 < Wm.heap.size
 lg:go < Wm.heap.size
structure ZSt (Wm W:World) (p4 p5 p6 gm gmap go g8:Nat) (cl:List Int) (en:Int) (vMet vNodes:Value) (m:dj) (nodes:List fe):Prop where
 fr:Fr (OfS gmap p6 g8) Wm W
 sr:fW W Wm.heap.size p4 p5 p6 gm gmap go cl vMet m
 h8:W.heap[g8]?=some (.cells #[.int .i64 en,vNodes,.slice none 0 0] 33 (0,0))
 rn:Kd.R ek 145 W Wm.heap.size (fun j=>Wm.heap.size≤j) vNodes nodes
 l8:g8 < Wm.heap.size
 lg:go < Wm.heap.size
section
variable {Wm W W1 W2:World} {p4 p5 p6 gm gmap go g8 g11:Nat} {cl:List Int} {en op n:Int} {vMet vArgs vOuts vNodes:Value} {m:dj} {args:List Src} {outs:List Int} {nodes:List fe}
theorem YSt.below (h:YSt Wm W p4 p5 p6 gm gmap go g8 g11 cl en op n vMet vArgs vOuts vNodes m args outs nodes) (hb:Below W.heap.size W W1):YSt Wm W1 p4 p5 p6 gm gmap go g8 g11 cl en op n vMet vArgs vOuts vNodes m args outs nodes:=
 ⟨h.fr.trans (Fr.of_below hb),h.sr.below hb,ag h.h8 hb,ag h.hy hb,h.lo,Kd.R_below h.rn hb,Kd.R_below h.ra hb,Kd.R_below h.ro hb,h.l8,h.lg⟩
theorem ZSt.below (h:ZSt Wm W p4 p5 p6 gm gmap go g8 cl en vMet vNodes m nodes) (hb:Below W.heap.size W W1):ZSt Wm W1 p4 p5 p6 gm gmap go g8 cl en vMet vNodes m nodes:=
 ⟨h.fr.trans (Fr.of_below hb),h.sr.below hb,ag h.h8 hb,Kd.R_below h.rn hb,h.l8,h.lg⟩
theorem ZSt.open_ (h:ZSt Wm W p4 p5 p6 gm gmap go g8 cl en vMet vNodes m nodes):YSt Wm (W.alloc (.cells #[.int .i64 0,.int .i64 0,.slice none 0 0,.slice none 0 0] 145)) p4 p5 p6 gm gmap go g8 W.heap.size cl en 0 0 vMet (.slice none 0 0) (.slice none 0 0) vNodes m [] [] nodes:=
 have hb:=ae (Below.refl W.heap.size W) (.cells #[.int .i64 0,.int .i64 0,.slice none 0 0,.slice none 0 0] 145)
 ⟨h.fr.trans (Fr.of_below hb),h.sr.below hb,ag h.h8 hb,heap_alloc_last W _,h.fr.size,Kd.R_mono (Kd.R_below (Kd.R_elderB h.rn W.heap.size (Nat.le_refl _)) hb) (fun k hk=>⟨⟨hk,by simp[Value.ownBlock]⟩,by simp[Value.ownBlock]⟩),Kd.R_nil _ _ _ _ _,Kd.R_nil _ _ _ _ _,h.l8,h.lg⟩
theorem YSt.src (h:YSt Wm W p4 p5 p6 gm gmap go g8 g11 cl en op n vMet vArgs vOuts vNodes m args outs nodes) {v1:Value} {m1:dj} (hs:fW W1 Wm.heap.size p4 p5 p6 gm gmap go cl v1 m1) (hf:Fr (SrS gmap p6 vMet) W W1):YSt Wm W1 p4 p5 p6 gm gmap go g8 g11 cl en op n v1 vArgs vOuts vNodes m1 args outs nodes:=by
 refine⟨?_,hs,h.sr.keep hf h.h8 (by decide) (by decide),h.sr.keep hf h.hy (by decide) (by decide),h.lo,h.sr.keepR hf h.rn (fun q hq=>by have:=ej hq;omega),h.sr.keepR hf h.ra (fun q hq=>by have:=ev hq;omega),h.sr.keepR hf h.ro (fun q hq=>by have:=ew hq;omega),h.l8,h.lg⟩
 refine⟨hf.os.trans h.fr.os,hf.tape.trans h.fr.tape,hf.output.trans h.fr.output,Nat.le_trans h.fr.size hf.size,fun k hk hn=>?_⟩
 refine(hf.block k (Nat.lt_of_lt_of_le hk h.fr.size) (fun e=>?_)).trans (h.fr.block k hk hn)
 rcases e with e | e | e
 ·exact hn (.inl e)
 ·exact hn (.inr (.inl e))
 ·have:=Kd.R_base h.sr.r k e.symm
  omega
theorem YSt.frW (h:YSt Wm W p4 p5 p6 gm gmap go g8 g11 cl en op n vMet vArgs vOuts vNodes m args outs nodes) {S:Nat→Prop} (hf:Fr S W W1) (hS:∀ k,S k→Wm.heap.size≤k):Fr (OfS gmap p6 g8) Wm W1:=
 ⟨hf.os.trans h.fr.os,hf.tape.trans h.fr.tape,hf.output.trans h.fr.output,Nat.le_trans h.fr.size hf.size,fun k hk hn=>(hf.block k (Nat.lt_of_lt_of_le hk h.fr.size) (fun e=>by have:=hS k e;omega)).trans (h.fr.block k hk hn)⟩
theorem YSt.set (h:YSt Wm W p4 p5 p6 gm gmap go g8 g11 cl en op n vMet vArgs vOuts vNodes m args outs nodes) (i:Nat) (v:Value) (op' n':Int) (hv:[Value.int .i64 op,.int .i64 n,vArgs,vOuts].set i v=[Value.int .i64 op',.int .i64 n',vArgs,vOuts]):YSt Wm (W.setCell ⟨g11,i,none⟩ v) p4 p5 p6 gm gmap go g8 g11 cl en op' n' vMet vArgs vOuts vNodes m args outs nodes:=by
 have hf:Fr (fun k=>k=g11) W (W.setCell ⟨g11,i,none⟩ v):=Fr.cell (S:=fun k=>k=g11) (p:=⟨g11,i,none⟩) rfl _
 have hlo:=h.lo
 have hl8:=h.l8
 have hlg:=h.lg
 refine⟨h.frW hf (fun k hk=>by omega),h.sr.farS (fun k hk _=>?_) hf,a8 h.h8 (p:=⟨g11,i,none⟩) (by show g8≠g11;omega) _,?_,h.lo,Kd.R_far h.rn (p:=⟨g11,i,none⟩) (fun k hk=>hk.1.1.2) _,Kd.R_set h.ra h.hy (fun q hq=>by have:=ev hq;omega) i _,Kd.R_set h.ro h.hy (fun q hq=>by have:=ew hq;omega) i _,h.l8,h.lg⟩
 ·obtain rfl:k=g11:=hk
  exact⟨by omega,_,145,h.hy,by decide,by decide,by decide,by decide,by decide⟩
 ·have:=aJ (L:=[_,_,_,_]) h.hy i v
  rw[hv] at this
  exact this
theorem YSt.arg (h:YSt Wm W p4 p5 p6 gm gmap go g8 g11 cl en op n vMet vArgs vOuts vNodes m args outs nodes) {v1:Value} {x:Src} (hR:Kd.R eB 135 W1 Wm.heap.size (fun j=>Wm.heap.size≤j) v1 (args++[x])) (hg:W.grownBy W1 vArgs.ownBlock) (hat:v1.ownBlock=vArgs.ownBlock∨∃ b,v1.ownBlock=some b∧W.heap.size≤b):YSt Wm (W1.setCell ⟨g11,2,none⟩ v1) p4 p5 p6 gm gmap go g8 g11 cl en op n vMet v1 vOuts vNodes m (args++[x]) outs nodes:=by
 have hlo:=h.lo
 have hl8:=h.l8
 have hlg:=h.lg
 have hb:∀ k,some k=vArgs.ownBlock→Wm.heap.size≤k:=fun k e=>Kd.R_base h.ra k e.symm
 have hf1:Fr (fun k=>some k=vArgs.ownBlock) W W1:=Fr.grown hg (fun k e=>e)
 have hn8:some g8≠vArgs.ownBlock:=fun e=>by have:=hb g8 e;omega
 have hn11:some g11≠vArgs.ownBlock:=Kd.R_ne h.ra h.hy (by decide)
 have hy1:=(hg.block g11 (ai h.hy) hn11).trans h.hy
 have hf2:Fr (fun k=>k=g11) W1 (W1.setCell ⟨g11,2,none⟩ v1):=Fr.cell (S:=fun k=>k=g11) (p:=⟨g11,2,none⟩) rfl _
 have hf:Fr (fun k=>some k=vArgs.ownBlock∨k=g11) W (W1.setCell ⟨g11,2,none⟩ v1):=(hf1.mono (fun k _ e=>.inl e)).trans (hf2.mono (fun k _ e=>.inr e))
 have ro1:=Kd.R_over' h.ro (fun k hk=>Kd.R_typed h.ra k hk) (fun q hq=>by have:=ew hq;omega) hg
 have rn1:Kd.R ek 145 W1 Wm.heap.size (fun j=>((Wm.heap.size≤j∧j≠g11)∧some j≠vOuts.ownBlock)∧some j≠v1.ownBlock) vNodes nodes:=Kd.R_after (Kd.R_mono h.rn (fun k hk=>⟨⟨hk.1.1,hk.2⟩,hk.1.2⟩)) hg hat
 refine⟨h.frW hf (fun k hk=>?_),h.sr.farS (fun k hk _=>?_) hf,a8 ((hg.block g8 (ai h.h8) hn8).trans h.h8) (p:=⟨g11,2,none⟩) (by show g8≠g11;omega) _,aJ (L:=[_,_,_,_]) hy1 2 _,h.lo,?_,Kd.R_set hR hy1 (fun q hq=>by have:=ev hq;omega) 2 _,Kd.R_set ro1 hy1 (fun q hq=>by have:=ew hq;omega) 2 _,h.l8,h.lg⟩
 ·rcases hk with e | e
  ·exact hb k e
  ·omega
 ·rcases hk with e | e
  ·obtain⟨cs,hcs⟩:=Kd.R_typed h.ra k e.symm
   exact⟨by have:=hb k e;omega,cs,135,hcs,by decide,by decide,by decide,by decide,by decide⟩
  ·subst e
   exact⟨by omega,_,145,h.hy,by decide,by decide,by decide,by decide,by decide⟩
 ·exact Kd.R_mono (Kd.R_far rn1 (p:=⟨g11,2,none⟩) (fun k hk=>hk.1.1.2) _) (fun k hk=>⟨⟨hk.1.1,hk.2⟩,hk.1.2⟩)
theorem YSt.out (h:YSt Wm W p4 p5 p6 gm gmap go g8 g11 cl en op n vMet vArgs vOuts vNodes m args outs nodes) {v1:Value} {x:Int} (hR:Kd.R (Kd.int .i64) 3 W1 Wm.heap.size (fun j=>Wm.heap.size≤j) v1 (outs++[x])) (hg:W.grownBy W1 vOuts.ownBlock) (hat:v1.ownBlock=vOuts.ownBlock∨∃ b,v1.ownBlock=some b∧W.heap.size≤b):YSt Wm (W1.setCell ⟨g11,3,none⟩ v1) p4 p5 p6 gm gmap go g8 g11 cl en op n vMet vArgs v1 vNodes m args (outs++[x]) nodes:=by
 have hlo:=h.lo
 have hl8:=h.l8
 have hlg:=h.lg
 have hb:∀ k,some k=vOuts.ownBlock→Wm.heap.size≤k:=fun k e=>Kd.R_base h.ro k e.symm
 have hf1:Fr (fun k=>some k=vOuts.ownBlock) W W1:=Fr.grown hg (fun k e=>e)
 have hn8:some g8≠vOuts.ownBlock:=fun e=>by have:=hb g8 e;omega
 have hn11:some g11≠vOuts.ownBlock:=Kd.R_ne h.ro h.hy (by decide)
 have hy1:=(hg.block g11 (ai h.hy) hn11).trans h.hy
 have hf2:Fr (fun k=>k=g11) W1 (W1.setCell ⟨g11,3,none⟩ v1):=Fr.cell (S:=fun k=>k=g11) (p:=⟨g11,3,none⟩) rfl _
 have hf:Fr (fun k=>some k=vOuts.ownBlock∨k=g11) W (W1.setCell ⟨g11,3,none⟩ v1):=(hf1.mono (fun k _ e=>.inl e)).trans (hf2.mono (fun k _ e=>.inr e))
 have ra1:=Kd.R_over' h.ra (fun k hk=>Kd.R_typed h.ro k hk) (fun q hq=>by have:=ev hq;omega) hg
 have rn1:Kd.R ek 145 W1 Wm.heap.size (fun j=>((Wm.heap.size≤j∧j≠g11)∧some j≠vArgs.ownBlock)∧some j≠v1.ownBlock) vNodes nodes:=Kd.R_after h.rn hg hat
 refine⟨h.frW hf (fun k hk=>?_),h.sr.farS (fun k hk _=>?_) hf,a8 ((hg.block g8 (ai h.h8) hn8).trans h.h8) (p:=⟨g11,3,none⟩) (by show g8≠g11;omega) _,aJ (L:=[_,_,_,_]) hy1 3 _,h.lo,Kd.R_far rn1 (p:=⟨g11,3,none⟩) (fun k hk=>hk.1.1.2) _,Kd.R_set ra1 hy1 (fun q hq=>by have:=ev hq;omega) 3 _,Kd.R_set hR hy1 (fun q hq=>by have:=ew hq;omega) 3 _,h.l8,h.lg⟩
 ·rcases hk with e | e
  ·exact hb k e
  ·omega
 ·rcases hk with e | e
  ·obtain⟨cs,hcs⟩:=Kd.R_typed h.ro k e.symm
   exact⟨by have:=hb k e;omega,cs,3,hcs,by decide,by decide,by decide,by decide,by decide⟩
  ·subst e
   exact⟨by omega,_,145,h.hy,by decide,by decide,by decide,by decide,by decide⟩
theorem YSt.rowM (h:YSt Wm W p4 p5 p6 gm gmap go g8 g11 cl en op n vMet vArgs vOuts vNodes m args outs nodes):ek.M W Wm.heap.size (fun j=>Wm.heap.size≤j∧some j≠vNodes.ownBlock) ⟨op,n,args,outs⟩ [.int .i64 op,.int .i64 n,vArgs,vOuts]:=
 ⟨[.int .i64 op],[.int .i64 n,vArgs,vOuts],rfl,rfl,[.int .i64 n],[vArgs,vOuts],rfl,rfl,[vArgs],[vOuts],rfl,⟨vArgs,rfl,Kd.R_apartR h.ra h.rn (fun q hq=>by have:=ev hq;omega)⟩,vOuts,rfl,Kd.R_apartR h.ro h.rn (fun q hq=>by have:=ew hq;omega)⟩
theorem YSt.rows (h:YSt Wm W p4 p5 p6 gm gmap go g8 g11 cl en op n vMet vArgs vOuts vNodes m args outs nodes):Kd.R ek 145 W Wm.heap.size (fun j=>Wm.heap.size≤j) vNodes nodes:=Kd.R_mono h.rn (fun k hk=>hk.1.1.1)
theorem YSt.close (h:YSt Wm W p4 p5 p6 gm gmap go g8 g11 cl en op n vMet vArgs vOuts vNodes m args outs nodes) {v1:Value} {xs:List fe} (hR:Kd.R ek 145 W1 Wm.heap.size (fun j=>Wm.heap.size≤j) v1 xs) (hg:W.grownBy W1 vNodes.ownBlock):ZSt Wm (W1.setCell ⟨g8,1,none⟩ v1) p4 p5 p6 gm gmap go g8 cl en vMet v1 m xs:=by
 have hl8:=h.l8
 have hlg:=h.lg
 have hb:∀ k,some k=vNodes.ownBlock→Wm.heap.size≤k:=fun k e=>Kd.R_base h.rn k e.symm
 have hf1:Fr (fun k=>some k=vNodes.ownBlock) W W1:=Fr.grown hg (fun k e=>e)
 have hn8:some g8≠vNodes.ownBlock:=fun e=>by have:=hb g8 e;omega
 have h81:=(hg.block g8 (ai h.h8) hn8).trans h.h8
 have hf2:Fr (fun k=>k=g8) W1 (W1.setCell ⟨g8,1,none⟩ v1):=Fr.cell (S:=fun k=>k=g8) (p:=⟨g8,1,none⟩) rfl _
 have hf:Fr (fun k=>some k=vNodes.ownBlock∨k=g8) W (W1.setCell ⟨g8,1,none⟩ v1):=(hf1.mono (fun k _ e=>.inl e)).trans (hf2.mono (fun k _ e=>.inr e))
 refine⟨⟨hf.os.trans h.fr.os,hf.tape.trans h.fr.tape,hf.output.trans h.fr.output,Nat.le_trans h.fr.size hf.size,fun k hk hn=>?_⟩,h.sr.farS (fun k hk _=>?_) hf,aJ (L:=[_,_,_]) h81 1 _,Kd.R_set hR h81 (fun q hq=>by have:=ej hq;omega) 1 _,h.l8,h.lg⟩
 ·refine(hf.block k (Nat.lt_of_lt_of_le hk h.fr.size) (fun e=>?_)).trans (h.fr.block k hk hn)
  rcases e with e | e
  ·have:=hb k e;omega
  ·exact hn (.inr (.inr e))
 ·rcases hk with e | e
  ·obtain⟨cs,hcs⟩:=Kd.R_typed h.rn k e.symm
   exact⟨by have:=hb k e;omega,cs,145,hcs,by decide,by decide,by decide,by decide,by decide⟩
  ·subst e
   refine⟨fun e=>?_,_,33,h.h8,by decide,by decide,by decide,by decide,by decide⟩
   have h1:=h.sr.ho
   rw[←e,h.h8] at h1
   simp at h1
end
end
section
def PIn (N:Nat) (m:dj):Prop:=∀ p∈m.ps,0≤p.1∧p.1 < (N:Int)∧0≤p.2∧p.2 < 24
theorem PIn.src {N:Nat} {m:dj} (h:PIn N m) (cl:List Int) (n:Int) (x:Src) (hx:x.kind=4→0≤n∧n < (N:Int)∧0≤x.n∧x.n < 24):PIn N (fJ cl n x m).2:=by
 unfold fJ
 split
 ·rename_i hk
  unfold dj.add
  split
  ·exact h
  ·intro p hp
   rcases List.mem_append.1 hp with q | q
   ·exact h p q
   ·obtain rfl:=List.mem_singleton.1 q
    exact hx hk
 ·exact h
section
variable {f:List In} {c:List Bool} {S:bj} {F:List (List Src)}
theorem vu (hP:NPl f c S F) (cl:List Int) {n:Nat} (hn:n < S.nodes.length):∀ (ls:List Int) (m:dj),(∀ l∈ls,0≤l∧l < 24)→PIn S.nodes.length m→PIn S.nodes.length (dx cl F n ls m).2
 | [],m,_,h=>h
 | l :: ls,m,hl,h=>by
  have h1:=hl l (List.mem_cons_self ..)
  refine vu hP cl hn ls _ (fun q hq=>hl q (List.mem_cons_of_mem _ hq)) (h.src cl n _ fun hk=>?_)
  rcases hP.fact hn (show l.toNat < 24 by omega) with q | q | q | q
  ·rw[q]
   exact⟨by omega,by omega,by show (0:Int)≤(l.toNat:Int);omega,by show (l.toNat:Int) < 24;omega⟩
  ·rw[q] at hk;exact absurd hk (by decide)
  ·rw[q] at hk;exact absurd hk (by decide)
  ·rw[q] at hk;exact absurd hk (by decide)
theorem sq (hP:NPl f c S F) (cl:List Int):∀ (xs:List aH) (n:Nat) (m:dj),xs=S.nodes.drop n→PIn S.nodes.length m→PIn S.nodes.length (dd f c cl F xs n m).2
 | [],_,m,_,h=>h
 | x :: xs,n,m,hx,h=>by
  have hn:n < S.nodes.length:=by
   have:=congrArg List.length hx
   rw[List.length_drop,List.length_cons] at this
   omega
  rw[List.drop_eq_getElem_cons hn] at hx
  injection hx with hx1 hx2
  refine sq hP cl xs (n+1) _ hx2 ?_
  rw[mF]
  unfold lI
  split
  ·exact h
  ·refine vu hP cl hn _ _ (fun l hl=>?_) h
   have hm:x∈S.nodes:=by rw[hx1];exact List.getElem_mem hn
   have ha:=hP.nok.at_ x hm
   have hlt:x.at_.toNat < f.length:=by omega
   rw[List.getD_eq_getElem?_getD,List.getElem?_eq_getElem hlt] at hl
   exact ny ((bN hP.r).ok _ _ (List.getElem?_eq_getElem hlt)) l hl
theorem uJ (hP:NPl f c S F) (cl:List Int) {n l:Nat} (hl:l < 24) {ws:List bL} (hw:(aX S)[n]?=some ws):∀ (es:List bL) (m:dj),(∀ e∈es,e∈ws)→PIn S.nodes.length m→PIn S.nodes.length (dL f S F cl l es m).2
 | [],m,_,h=>h
 | e :: es,m,he,h=>uJ hP cl hl hw es _ (fun q hq=>he q (List.mem_cons_of_mem _ hq)) (h.src cl e.1 _ (hP.src hw (he e (List.mem_cons_self ..)) hl rfl).2.2)
end
theorem rD {f:List In} {S:bj} {F:List (List Src)} {cl:List Int} {k i:Nat} {m:dj} {p:Int × Int} (hp:m.ps[i]?=some p) (xs:List kE):xs++fj f S F cl (k+1) i m=(xs++[⟨p.1,(dL f S F cl p.2.toNat ((aX S).getD p.1.toNat []) m).1⟩])++fj f S F cl k (i+1) (dL f S F cl p.2.toNat ((aX S).getD p.1.toNat []) m).2:=by
 rw[fj,hp]
 simp only[List.append_assoc,List.singleton_append]
theorem rG {f:List In} {S:bj} {F:List (List Src)} {cl:List Int} {k i:Nat} {m:dj} (hp:m.ps[i]?=none):fj f S F cl (k+1) i m=[]:=by rw[fj,hp]
structure XSt (Wm W:World) (p4 p5 p6 gm gmap go g8:Nat) (cl:List Int) (en:Int) (vMet vNodes vVals:Value) (m:dj) (nodes:List fe) (vals:List kE):Prop where
 fr:Fr (OfS gmap p6 g8) Wm W
 sr:fW W Wm.heap.size p4 p5 p6 gm gmap go cl vMet m
 h8:W.heap[g8]?=some (.cells #[.int .i64 en,vNodes,vVals] 33 (0,0))
 rn:Kd.R ek 145 W Wm.heap.size (fun j=>Wm.heap.size≤j) vNodes nodes
 rv:Kd.R ie 148 W Wm.heap.size (fun j=>Wm.heap.size≤j) vVals vals
 l8:g8 < Wm.heap.size
 lg:go < Wm.heap.size
structure VSt (Wm W:World) (p4 p5 p6 gm gmap go g8 g19:Nat) (cl:List Int) (en at_:Int) (vMet vFrom vNodes vVals:Value) (m:dj) (fs:List Src) (nodes:List fe) (vals:List kE):Prop where
 fr:Fr (OfS gmap p6 g8) Wm W
 sr:fW W Wm.heap.size p4 p5 p6 gm gmap go cl vMet m
 h8:W.heap[g8]?=some (.cells #[.int .i64 en,vNodes,vVals] 33 (0,0))
 hv:W.heap[g19]?=some (.cells #[.int .i64 at_,vFrom] 148 (0,0))
 lo:Wm.heap.size≤g19
 rn:Kd.R ek 145 W Wm.heap.size (fun j=>(Wm.heap.size≤j∧j≠g19)∧some j≠vFrom.ownBlock) vNodes nodes
 rv:Kd.R ie 148 W Wm.heap.size (fun j=>(Wm.heap.size≤j∧j≠g19)∧some j≠vFrom.ownBlock) vVals vals
 ra:Kd.R eB 135 W Wm.heap.size (fun j=>Wm.heap.size≤j) vFrom fs
 l8:g8 < Wm.heap.size
 lg:go < Wm.heap.size
section
variable {Wm W W1 W2:World} {p4 p5 p6 gm gmap go g8 g19:Nat} {cl:List Int} {en at_:Int} {vMet vFrom vNodes vVals:Value} {m:dj} {fs:List Src} {nodes:List fe} {vals:List kE}
theorem ZSt.toX (h:ZSt Wm W p4 p5 p6 gm gmap go g8 cl en vMet vNodes m nodes):XSt Wm W p4 p5 p6 gm gmap go g8 cl en vMet vNodes (.slice none 0 0) m nodes []:=⟨h.fr,h.sr,h.h8,h.rn,Kd.R_nil _ _ _ _ _,h.l8,h.lg⟩
theorem XSt.below (h:XSt Wm W p4 p5 p6 gm gmap go g8 cl en vMet vNodes vVals m nodes vals) (hb:Below W.heap.size W W1):XSt Wm W1 p4 p5 p6 gm gmap go g8 cl en vMet vNodes vVals m nodes vals:=
 ⟨h.fr.trans (Fr.of_below hb),h.sr.below hb,ag h.h8 hb,Kd.R_below h.rn hb,Kd.R_below h.rv hb,h.l8,h.lg⟩
theorem VSt.below (h:VSt Wm W p4 p5 p6 gm gmap go g8 g19 cl en at_ vMet vFrom vNodes vVals m fs nodes vals) (hb:Below W.heap.size W W1):VSt Wm W1 p4 p5 p6 gm gmap go g8 g19 cl en at_ vMet vFrom vNodes vVals m fs nodes vals:=
 ⟨h.fr.trans (Fr.of_below hb),h.sr.below hb,ag h.h8 hb,ag h.hv hb,h.lo,Kd.R_below h.rn hb,Kd.R_below h.rv hb,Kd.R_below h.ra hb,h.l8,h.lg⟩
theorem XSt.open_ (h:XSt Wm W p4 p5 p6 gm gmap go g8 cl en vMet vNodes vVals m nodes vals) (at_:Int):VSt Wm (W.alloc (.cells #[.int .i64 at_,.slice none 0 0] 148)) p4 p5 p6 gm gmap go g8 W.heap.size cl en at_ vMet (.slice none 0 0) vNodes vVals m [] nodes vals:=
 have hb:=ae (Below.refl W.heap.size W) (.cells #[.int .i64 at_,.slice none 0 0] 148)
 ⟨h.fr.trans (Fr.of_below hb),h.sr.below hb,ag h.h8 hb,heap_alloc_last W _,h.fr.size,Kd.R_mono (Kd.R_below (Kd.R_elderB h.rn W.heap.size (Nat.le_refl _)) hb) (fun k hk=>⟨hk,by simp[Value.ownBlock]⟩),Kd.R_mono (Kd.R_below (Kd.R_elderB h.rv W.heap.size (Nat.le_refl _)) hb) (fun k hk=>⟨hk,by simp[Value.ownBlock]⟩),Kd.R_nil _ _ _ _ _,h.l8,h.lg⟩
theorem VSt.src (h:VSt Wm W p4 p5 p6 gm gmap go g8 g19 cl en at_ vMet vFrom vNodes vVals m fs nodes vals) {v1:Value} {m1:dj} (hs:fW W1 Wm.heap.size p4 p5 p6 gm gmap go cl v1 m1) (hf:Fr (SrS gmap p6 vMet) W W1):VSt Wm W1 p4 p5 p6 gm gmap go g8 g19 cl en at_ v1 vFrom vNodes vVals m1 fs nodes vals:=by
 refine⟨?_,hs,h.sr.keep hf h.h8 (by decide) (by decide),h.sr.keep hf h.hv (by decide) (by decide),h.lo,h.sr.keepR hf h.rn (fun q hq=>by have:=ej hq;omega),h.sr.keepR hf h.rv (fun q hq=>by have:=jo hq;omega),h.sr.keepR hf h.ra (fun q hq=>by have:=ev hq;omega),h.l8,h.lg⟩
 refine⟨hf.os.trans h.fr.os,hf.tape.trans h.fr.tape,hf.output.trans h.fr.output,Nat.le_trans h.fr.size hf.size,fun k hk hn=>?_⟩
 refine(hf.block k (Nat.lt_of_lt_of_le hk h.fr.size) (fun e=>?_)).trans (h.fr.block k hk hn)
 rcases e with e | e | e
 ·exact hn (.inl e)
 ·exact hn (.inr (.inl e))
 ·have:=Kd.R_base h.sr.r k e.symm
  omega
theorem VSt.frW (h:VSt Wm W p4 p5 p6 gm gmap go g8 g19 cl en at_ vMet vFrom vNodes vVals m fs nodes vals) {S:Nat→Prop} (hf:Fr S W W1) (hS:∀ k,S k→Wm.heap.size≤k):Fr (OfS gmap p6 g8) Wm W1:=
 ⟨hf.os.trans h.fr.os,hf.tape.trans h.fr.tape,hf.output.trans h.fr.output,Nat.le_trans h.fr.size hf.size,fun k hk hn=>(hf.block k (Nat.lt_of_lt_of_le hk h.fr.size) (fun e=>by have:=hS k e;omega)).trans (h.fr.block k hk hn)⟩
theorem VSt.arg (h:VSt Wm W p4 p5 p6 gm gmap go g8 g19 cl en at_ vMet vFrom vNodes vVals m fs nodes vals) {v1:Value} {x:Src} (hR:Kd.R eB 135 W1 Wm.heap.size (fun j=>Wm.heap.size≤j) v1 (fs++[x])) (hg:W.grownBy W1 vFrom.ownBlock) (hat:v1.ownBlock=vFrom.ownBlock∨∃ b,v1.ownBlock=some b∧W.heap.size≤b):VSt Wm (W1.setCell ⟨g19,1,none⟩ v1) p4 p5 p6 gm gmap go g8 g19 cl en at_ vMet v1 vNodes vVals m (fs++[x]) nodes vals:=by
 have hlo:=h.lo
 have hl8:=h.l8
 have hlg:=h.lg
 have hb:∀ k,some k=vFrom.ownBlock→Wm.heap.size≤k:=fun k e=>Kd.R_base h.ra k e.symm
 have hf1:Fr (fun k=>some k=vFrom.ownBlock) W W1:=Fr.grown hg (fun k e=>e)
 have hn8:some g8≠vFrom.ownBlock:=fun e=>by have:=hb g8 e;omega
 have hn11:some g19≠vFrom.ownBlock:=Kd.R_ne h.ra h.hv (by decide)
 have hy1:=(hg.block g19 (ai h.hv) hn11).trans h.hv
 have hf2:Fr (fun k=>k=g19) W1 (W1.setCell ⟨g19,1,none⟩ v1):=Fr.cell (S:=fun k=>k=g19) (p:=⟨g19,1,none⟩) rfl _
 have hf:Fr (fun k=>some k=vFrom.ownBlock∨k=g19) W (W1.setCell ⟨g19,1,none⟩ v1):=(hf1.mono (fun k _ e=>.inl e)).trans (hf2.mono (fun k _ e=>.inr e))
 refine⟨h.frW hf (fun k hk=>?_),h.sr.farS (fun k hk _=>?_) hf,a8 ((hg.block g8 (ai h.h8) hn8).trans h.h8) (p:=⟨g19,1,none⟩) (by show g8≠g19;omega) _,aJ (L:=[_,_]) hy1 1 _,h.lo,Kd.R_far (Kd.R_after h.rn hg hat) (p:=⟨g19,1,none⟩) (fun k hk=>hk.1.2) _,Kd.R_far (Kd.R_after h.rv hg hat) (p:=⟨g19,1,none⟩) (fun k hk=>hk.1.2) _,Kd.R_set hR hy1 (fun q hq=>by have:=ev hq;omega) 1 _,h.l8,h.lg⟩
 ·rcases hk with e | e
  ·exact hb k e
  ·omega
 ·rcases hk with e | e
  ·obtain⟨cs,hcs⟩:=Kd.R_typed h.ra k e.symm
   exact⟨by have:=hb k e;omega,cs,135,hcs,by decide,by decide,by decide,by decide,by decide⟩
  ·subst e
   exact⟨by omega,_,148,h.hv,by decide,by decide,by decide,by decide,by decide⟩
theorem VSt.rowM (h:VSt Wm W p4 p5 p6 gm gmap go g8 g19 cl en at_ vMet vFrom vNodes vVals m fs nodes vals):ie.M W Wm.heap.size (fun j=>Wm.heap.size≤j∧some j≠vVals.ownBlock) ⟨at_,fs⟩ [.int .i64 at_,vFrom]:=
 ⟨[.int .i64 at_],[vFrom],rfl,rfl,vFrom,rfl,Kd.R_apartR h.ra h.rv (fun q hq=>by have:=ev hq;omega)⟩
theorem VSt.rows (h:VSt Wm W p4 p5 p6 gm gmap go g8 g19 cl en at_ vMet vFrom vNodes vVals m fs nodes vals):Kd.R ie 148 W Wm.heap.size (fun j=>Wm.heap.size≤j) vVals vals:=Kd.R_mono h.rv (fun k hk=>hk.1.1)
theorem VSt.close (h:VSt Wm W p4 p5 p6 gm gmap go g8 g19 cl en at_ vMet vFrom vNodes vVals m fs nodes vals) {v1:Value} {xs:List kE} (hR:Kd.R ie 148 W1 Wm.heap.size (fun j=>Wm.heap.size≤j) v1 xs) (hg:W.grownBy W1 vVals.ownBlock):XSt Wm (W1.setCell ⟨g8,2,none⟩ v1) p4 p5 p6 gm gmap go g8 cl en vMet vNodes v1 m nodes xs:=by
 have hl8:=h.l8
 have hlg:=h.lg
 have hb:∀ k,some k=vVals.ownBlock→Wm.heap.size≤k:=fun k e=>Kd.R_base h.rv k e.symm
 have hf1:Fr (fun k=>some k=vVals.ownBlock) W W1:=Fr.grown hg (fun k e=>e)
 have hn8:some g8≠vVals.ownBlock:=fun e=>by have:=hb g8 e;omega
 have h81:=(hg.block g8 (ai h.h8) hn8).trans h.h8
 have rn1:=Kd.R_over' h.rn (fun k hk=>Kd.R_typed h.rv k hk) (fun q hq=>by have:=ej hq;omega) hg
 have hf2:Fr (fun k=>k=g8) W1 (W1.setCell ⟨g8,2,none⟩ v1):=Fr.cell (S:=fun k=>k=g8) (p:=⟨g8,2,none⟩) rfl _
 have hf:Fr (fun k=>some k=vVals.ownBlock∨k=g8) W (W1.setCell ⟨g8,2,none⟩ v1):=(hf1.mono (fun k _ e=>.inl e)).trans (hf2.mono (fun k _ e=>.inr e))
 refine⟨⟨hf.os.trans h.fr.os,hf.tape.trans h.fr.tape,hf.output.trans h.fr.output,Nat.le_trans h.fr.size hf.size,fun k hk hn=>?_⟩,h.sr.farS (fun k hk _=>?_) hf,aJ (L:=[_,_,_]) h81 2 _,Kd.R_set (Kd.R_mono rn1 (fun k hk=>hk.1.1)) h81 (fun q hq=>by have:=ej hq;omega) 2 _,Kd.R_set hR h81 (fun q hq=>by have:=jo hq;omega) 2 _,h.l8,h.lg⟩
 ·refine(hf.block k (Nat.lt_of_lt_of_le hk h.fr.size) (fun e=>?_)).trans (h.fr.block k hk hn)
  rcases e with e | e
  ·have:=hb k e;omega
  ·exact hn (.inr (.inr e))
 ·rcases hk with e | e
  ·obtain⟨cs,hcs⟩:=Kd.R_typed h.rv k e.symm
   exact⟨by have:=hb k e;omega,cs,148,hcs,by decide,by decide,by decide,by decide,by decide⟩
  ·subst e
   refine⟨fun e=>?_,_,33,h.h8,by decide,by decide,by decide,by decide,by decide⟩
   have h1:=h.sr.ho
   rw[←e,h.h8] at h1
   simp at h1
end
theorem OfR.way {w W:World} {f:List In} {c:List Bool} {S:bj} {F:List (List Src)} {cl:List Int} {gm p4 p5 gc go:Nat} {vf:Value} {AN AF AA AW:Option Addr} {cN cF cA cW:Nat} (h:OfR w W f c S F cl gm p4 p5 gc go vf AN AF AA AW cN cF cA cW) {T:Nat→Prop} (hT:∀ k,T k→k < W.heap.size→w.heap.size≤k∧∀ (q:Nat) (cells:Array Value),W.heap[k]?=some (.cells cells q (0,0))→q=133∨q=33) {n:Nat} {x:List bL} (hx:(aX S)[n]?=some x) :
  ∃ gN AO cO,AW=some ⟨gN,0,none⟩∧∀ W1,Fr T W W1→W1.cell? ⟨gN,n,none⟩=some (.slice AO x.length cO)∧Kd.C cL W1 AO x.length x:=by
 have hn:=(List.getElem?_eq_some_iff.1 hx).1
 obtain⟨gN,cap,he,_,_,cs,hcs⟩:=Kd.R_form h.rW (by omega)
 injection he with he1 he2 he3
 subst he1
 obtain⟨c0,hl0,hK0,hc0⟩:=ky h.rW n x hx
 obtain⟨A0,d0,rfl,hlo,hC0⟩:=hK0
 refine⟨gN,A0,d0,rfl,fun W1 hf=>?_⟩
 have hO:=h.move hT hf
 obtain⟨c1,hl1,hK1,hc1⟩:=ky hO.rW n x hx
 obtain⟨A1,d1,rfl,_,hC1⟩:=hK1
 have hnt:¬ T gN:=fun e=>by
  rcases (hT gN e (ai hcs)).2 149 cs hcs with q | q
  ·exact absurd q (by decide)
  ·exact absurd q (by decide)
 have e0:=hf.cell_at (hc0 0 _ rfl) (show ¬ T gN from hnt)
 have e1:=hc1 0 _ rfl
 rw[e0] at e1
 obtain⟨rfl,rfl⟩:A0=A1∧d0=d1:=by
  have e2:=Option.some.inj e1
  simp only[Value.slice.injEq,true_and] at e2
  exact e2
 refine⟨?_,hC1⟩
 rwa [show n * (Kd.slice 151 cL).sz+0=n from Nat.mul_one n] at e0
end
end Go.Proofs.YtlinbehijfcelaaGreatDoor.Top
