/- Walks of the program, and what it computes, told plainly. No condition. (TN TO TP TQ TR TS TSB TT) -/
import Derived.Test.YtlinbehijfcelaaGreatDoorPC
import Derived.Deep.MidRow
import Derived.Laws.Tables
set_option linter.unusedVariables false
set_option linter.unusedSimpArgs false
set_option linter.unusedSectionVars false
set_option maxHeartbeats 8000000
set_option maxRecDepth 100000
namespace Go.Proofs.YtlinbehijfcelaaGreatDoor.Top
open Go.RowKit Go.Proofs.YtlinbehijfcelaaGreatDoorW.PrintWords Go.Proofs.YtlinbehijfcelaaGreatDoorW.PrintLast
section
theorem CD:(Tryz.prog.info? 3).map (fun i=>(i.zero,i.size,i.bytes))=some (some (.int .i64 0),1,8):=by kernel_rfl
theorem BO:(Tryz.prog.info? 49).map (fun i=>(i.zero,i.size,i.bytes))=some (some (.agg #[.int .i64 0,.int .i64 0,.int .i64 0,.int .i64 0,.int .i64 0,.int .i64 0]),6,48):=by kernel_rfl
def DV (g3 g4:Nat) (vf vb:Value) (k:Nat):Prop:=k=g3∨k=g4∨some k=vf.ownBlock∨some k=vb.ownBlock
structure jF (W0:World) (base g3 g4:Nat) (ok:Nat→Prop) (vf vb:Value) (f:List In) (bs:List Int) (x:In) (fr:Int) (l2 l3 l6 l7 l8 l9:Bool) (s:Value × Value × Value × Value) (W:World):Prop where
 fr0:Fr (DV g3 g4 vf vb) W0 W
 c3:W.heap[g3]?=some (.cells #[if l8=true then s.2.1 else vf] 22 (0,0))
 c4:W.heap[g4]?=some (.cells #[if l9=true then s.2.2.2 else vb] 109 (0,0))
 b1:l2=true→∃ k,s.1=.slice (some ⟨k,0,none⟩) 1 1∧W0.heap.size≤k∧W.heap[k]?=some (.cells x.cells 49 (0,0))
 b2:l6=true→∃ k,s.2.2.1=.slice (some ⟨k,0,none⟩) 1 1∧W0.heap.size≤k∧W.heap[k]?=some (.cells #[.int .i64 fr] 3 (0,0))
 rf:Kd.R kIn 49 W base ok (if l3=true then s.2.1 else vf) (if l3=true then f++[x] else f)
 rb:Kd.R (Kd.int .i64) 3 W base ok (if l7=true then s.2.2.2 else vb) (if l7=true then bs++[fr] else bs)
section
variable {W0 W W':World} {base g3 g4:Nat} {ok:Nat→Prop} {vf vb v:Value} {f:List In} {bs:List Int} {x:In} {fr:Int} {l2 l3 l6 l7 l8 l9:Bool} {s:Value × Value × Value × Value}
theorem jF.box1 (h:jF W0 base g3 g4 ok vf vb f bs x fr l2 l3 l6 l7 l8 l9 s W):jF W0 base g3 g4 ok vf vb f bs x fr true l3 l6 l7 l8 l9 (.slice (some ⟨W.heap.size,0,none⟩) 1 1,s.2.1,s.2.2.1,s.2.2.2) (W.alloc (.cells x.cells 49)):=by
 obtain⟨h0,h3,h4,hb1,hb2,hf,hb⟩:=h
 have hbl:=ae (Below.refl W.heap.size W) (.cells x.cells 49 (0,0))
 refine⟨h0.trans (Fr.of_below hbl),(hbl.block _ (ai h3)).trans h3,(hbl.block _ (ai h4)).trans h4,fun _=>⟨_,rfl,h0.size,heap_alloc_last W _⟩,fun e=>?_,Kd.R_below hf hbl,Kd.R_below hb hbl⟩
 obtain⟨k,e1,e2,e3⟩:=hb2 e
 exact⟨k,e1,e2,(hbl.block _ (ai e3)).trans e3⟩
theorem jF.box2 (h:jF W0 base g3 g4 ok vf vb f bs x fr l2 l3 l6 l7 l8 l9 s W):jF W0 base g3 g4 ok vf vb f bs x fr l2 l3 true l7 l8 l9 (s.1,s.2.1,.slice (some ⟨W.heap.size,0,none⟩) 1 1,s.2.2.2) (W.alloc (.cells #[.int .i64 fr] 3)):=by
 obtain⟨h0,h3,h4,hb1,hb2,hf,hb⟩:=h
 have hbl:=ae (Below.refl W.heap.size W) (.cells #[.int .i64 fr] 3 (0,0))
 refine⟨h0.trans (Fr.of_below hbl),(hbl.block _ (ai h3)).trans h3,(hbl.block _ (ai h4)).trans h4,fun e=>?_,fun _=>⟨_,rfl,h0.size,heap_alloc_last W _⟩,Kd.R_below hf hbl,Kd.R_below hb hbl⟩
 obtain⟨k,e1,e2,e3⟩:=hb1 e
 exact⟨k,e1,e2,(hbl.block _ (ai e3)).trans e3⟩
theorem jF.app1 (h:jF W0 base g3 g4 ok vf vb f bs x fr l2 false l6 l7 false l9 s W) (ho3:∀ k,ok k→k≠g3∧k≠g4) (rf0:Kd.R kIn 49 W0 base ok vf f)
  (hR:Kd.R kIn 49 W' base ok v (f++[x])) (hg:W.grownBy W' vf.ownBlock):jF W0 base g3 g4 ok vf vb f bs x fr l2 true l6 l7 false l9 (s.1,v,s.2.2.1,s.2.2.2) W':=by
 obtain⟨h0,h3,h4,hb1,hb2,hf,hb⟩:=h
 have hlt:=Kd.R_lt rf0
 have hne:∀ k,W0.heap.size≤k→some k≠vf.ownBlock:=fun k hk e=>by have:=hlt k e.symm;omega
 have n3:some g3≠vf.ownBlock:=Kd.R_away rf0 (fun k hk=>(ho3 k hk).1)
 have n4:some g4≠vf.ownBlock:=Kd.R_away rf0 (fun k hk=>(ho3 k hk).2)
 refine⟨h0.trans (Fr.grown hg (fun k e=>.inr (.inr (.inl e)))),(hg.block _ (ai h3) n3).trans h3,(hg.block _ (ai h4) n4).trans h4,fun e=>?_,fun e=>?_,hR,?_⟩
 ·obtain⟨k,e1,e2,e3⟩:=hb1 e
  exact⟨k,e1,e2,(hg.block _ (ai e3) (hne k e2)).trans e3⟩
 ·obtain⟨k,e1,e2,e3⟩:=hb2 e
  exact⟨k,e1,e2,(hg.block _ (ai e3) (hne k e2)).trans e3⟩
 ·exact Kd.R_over hb (v:=vf) hf (fun q hq=>by have:q=3:=List.mem_singleton.1 hq;omega) hg
theorem jF.app2 (h:jF W0 base g3 g4 ok vf vb f bs x fr l2 l3 l6 false l8 false s W) (ho3:∀ k,ok k→k≠g3∧k≠g4) (rb0:Kd.R (Kd.int .i64) 3 W0 base ok vb bs)
  (hR:Kd.R (Kd.int .i64) 3 W' base ok v (bs++[fr])) (hg:W.grownBy W' vb.ownBlock):jF W0 base g3 g4 ok vf vb f bs x fr l2 l3 l6 true l8 false (s.1,s.2.1,s.2.2.1,v) W':=by
 obtain⟨h0,h3,h4,hb1,hb2,hf,hb⟩:=h
 have hlt:=Kd.R_lt rb0
 have hne:∀ k,W0.heap.size≤k→some k≠vb.ownBlock:=fun k hk e=>by have:=hlt k e.symm;omega
 have n3:some g3≠vb.ownBlock:=Kd.R_away rb0 (fun k hk=>(ho3 k hk).1)
 have n4:some g4≠vb.ownBlock:=Kd.R_away rb0 (fun k hk=>(ho3 k hk).2)
 refine⟨h0.trans (Fr.grown hg (fun k e=>.inr (.inr (.inr e)))),(hg.block _ (ai h3) n3).trans h3,(hg.block _ (ai h4) n4).trans h4,fun e=>?_,fun e=>?_,?_,hR⟩
 ·obtain⟨k,e1,e2,e3⟩:=hb1 e
  exact⟨k,e1,e2,(hg.block _ (ai e3) (hne k e2)).trans e3⟩
 ·obtain⟨k,e1,e2,e3⟩:=hb2 e
  exact⟨k,e1,e2,(hg.block _ (ai e3) (hne k e2)).trans e3⟩
 ·exact Kd.R_over hf (v:=vb) hb (fun q hq=>by have:q=49:=List.mem_singleton.1 hq;omega) hg
theorem jF.put3 (h:jF W0 base g3 g4 ok vf vb f bs x fr l2 true l6 l7 false l9 s W) (ho3:∀ k,ok k→k≠g3∧k≠g4) (h34:g3≠g4) (hlt:g3 < W0.heap.size):jF W0 base g3 g4 ok vf vb f bs x fr l2 true l6 l7 true l9 s (W.setCell ⟨g3,0,none⟩ s.2.1):=by
 obtain⟨h0,h3,h4,hb1,hb2,hf,hb⟩:=h
 refine⟨h0.trans (Fr.cell (p:=⟨g3,0,none⟩) (.inl rfl) _),ey h3 0 s.2.1,a8 h4 (p:=⟨g3,0,none⟩) (fun e=>h34 e.symm) _,fun e=>?_,fun e=>?_,?_,?_⟩
 ·obtain⟨k,e1,e2,e3⟩:=hb1 e
  exact⟨k,e1,e2,a8 e3 (p:=⟨g3,0,none⟩) (by show k≠g3;omega) _⟩
 ·obtain⟨k,e1,e2,e3⟩:=hb2 e
  exact⟨k,e1,e2,a8 e3 (p:=⟨g3,0,none⟩) (by show k≠g3;omega) _⟩
 ·exact Kd.R_step hf (fun k hk _=>Below.heap_setCell W ⟨g3,0,none⟩ _ k (ho3 k hk).1)
 ·exact Kd.R_step hb (fun k hk _=>Below.heap_setCell W ⟨g3,0,none⟩ _ k (ho3 k hk).1)
theorem jF.put4 (h:jF W0 base g3 g4 ok vf vb f bs x fr l2 l3 l6 true l8 false s W) (ho3:∀ k,ok k→k≠g3∧k≠g4) (h34:g3≠g4) (hlt:g4 < W0.heap.size):jF W0 base g3 g4 ok vf vb f bs x fr l2 l3 l6 true l8 true s (W.setCell ⟨g4,0,none⟩ s.2.2.2):=by
 obtain⟨h0,h3,h4,hb1,hb2,hf,hb⟩:=h
 refine⟨h0.trans (Fr.cell (p:=⟨g4,0,none⟩) (.inr (.inl rfl)) _),a8 h3 (p:=⟨g4,0,none⟩) h34 _,ey h4 0 s.2.2.2,fun e=>?_,fun e=>?_,?_,?_⟩
 ·obtain⟨k,e1,e2,e3⟩:=hb1 e
  exact⟨k,e1,e2,a8 e3 (p:=⟨g4,0,none⟩) (by show k≠g4;omega) _⟩
 ·obtain⟨k,e1,e2,e3⟩:=hb2 e
  exact⟨k,e1,e2,a8 e3 (p:=⟨g4,0,none⟩) (by show k≠g4;omega) _⟩
 ·exact Kd.R_step hf (fun k hk _=>Below.heap_setCell W ⟨g4,0,none⟩ _ k (ho3 k hk).2)
 ·exact Kd.R_step hb (fun k hk _=>Below.heap_setCell W ⟨g4,0,none⟩ _ k (ho3 k hk).2)
end
theorem dz (v:Value):∀ A n c,v=.slice A n c→v.cells=#[v]∧v.oneCell'=true:=by rintro A n c rfl;exact⟨rfl,rfl⟩
theorem yV {aF:Act} {o:Oper} (x:In) (W:World) {u:Operand} (ho:o.op=.buildSlice 22 1 #[(0,u)]) (hu:aF.eval u=.agg x.cells):(execOp aF.eval o).run Tryz.prog W=.ok (.value (.slice (some ⟨W.heap.size,0,none⟩) 1 1)) (W.alloc (.cells x.cells 49)):=by
 unfold execOp
 simp only[ho,List.map_toArray,List.map_cons,List.map_nil,hu]
 rw[jp]
 go_simp
theorem A8 {aF:Act} {o:Oper} (n:Int) (W:World) {u:Operand} (ho:o.op=.buildSlice 109 1 #[(0,u)]) (hu:aF.eval u=.int .i64 n):(execOp aF.eval o).run Tryz.prog W=.ok (.value (.slice (some ⟨W.heap.size,0,none⟩) 1 1)) (W.alloc (.cells #[.int .i64 n] 3)):=by
 unfold execOp
 simp only[ho,List.map_toArray,List.map_cons,List.map_nil,hu]
 go_simp
theorem Ba (s:ByteArray) (fr til:Nat) (hft:fr≤til) (hts:til≤s.size) (ha:Asc s) (hs:s.size≤20000) (f:List In) (bs:List Int) (hlf:f.length≤20000) (hlb:bs.length≤20000) (base g1 g2 g3 g4:Nat) (ok:Nat→Prop) (vf vb:Value) (w:World) (hG:Gl w)
  (h1:w.heap[g1]?=some (.cells #[.string s] 9 (0,0))) (h2:w.heap[g2]?=some (.cells #[.int .i64 (fr:Int)] 3 (0,0))) (h3:w.heap[g3]?=some (.cells #[vf] 22 (0,0))) (h4:w.heap[g4]?=some (.cells #[vb] 109 (0,0)))
  (rf:Kd.R kIn 49 w base ok vf f) (rb:Kd.R (Kd.int .i64) 3 w base ok vb bs) (ho3:∀ k,ok k→k≠g3∧k≠g4) (ho2:∀ k,ok k→k≠g1∧k≠g2) (hfr:∀ k,w.heap.size≤k→ok k) (hbase:base≤w.heap.size) (x:In) (e:Int) (hx:eC (s.extract fr til)=(x,e)) :
  Calls Tryz.prog 44 #[.int .i64 (til:Int),.pointer (some ⟨g1,0,none⟩),.pointer (some ⟨g2,0,none⟩),.pointer (some ⟨g3,0,none⟩),.pointer (some ⟨g4,0,none⟩)] w fun r w'=>r=.returned (.bool (e == 0))∧∃ vf' vb',
   w'.heap[g3]?=some (.cells #[vf'] 22 (0,0))∧w'.heap[g4]?=some (.cells #[vb'] 109 (0,0))∧Kd.R kIn 49 w' base ok vf' (f++[x])∧Kd.R (Kd.int .i64) 3 w' base ok vb' (bs++[(fr:Int)])∧Fr (DV g3 g4 vf vb) w w':=by
 have h34:g3≠g4:=fun e=>by rw[e,h4] at h3;injection h3 with h3;injection h3 with _ h3;exact absurd h3 (by decide)
 have n23:g2≠g3:=fun e=>by rw[e,h3] at h2;injection h2 with h2;injection h2 with _ h2;exact absurd h2 (by decide)
 have n24:g2≠g4:=fun e=>by rw[e,h4] at h2;injection h2 with h2;injection h2 with _ h2;exact absurd h2 (by decide)
 have N23:=ak_ n23
 have N24:=ak_ n24
 have HO2:=ak_ ho2
 clear n23 n24
 have c1:=(show w.cell? ⟨g1,0,none⟩=some (.string s) by rw[ah h1];rfl)
 have c2:=(show w.cell? ⟨g2,0,none⟩=some (.int .i64 (fr:Int)) by rw[ah h2];rfl)
 have hP:=fun w hG=>yt (s.extract fr til) (ha.extract fr til hts) (by rw[ByteArray.size_extract];omega) w hG
 rw[hx] at hP
 have HP:=ak_ hP
 have HG:=ak_ hG
 have H2:=ak_ h2
 have H3:=ak_ h3
 have H4:=ak_ h4
 have HRf:=ak_ rf
 have HRb:=ak_ rb
 have HO3:=ak_ ho3
 have HFr:=ak_ hfr
 have HBs:=ak_ hbase
 have H34:=ak_ h34
 have hft':(fr:Int)≤(til:Int):=by omega
 have hts':(til:Int)≤(s.size:Int):=by omega
 clear hP hG h1 h2 h3 h4 rf rb ho3 ho2 hfr hbase h34 hx ha
 go_enter Tryz.func44,Tryz.ntmps44
 go_upto_region 2 with (first
  | (go_at_call 45;refine(HP.out _ HG.out).mono ?_;rintro q w2 ⟨rfl,hb⟩;have HB:=ak_ hb;clear hb)
  | ((with_reducible refine ao (t:=49) (p:=7) rfl ?_);refine wpList_store_row rfl 49 _ _ rfl w2.heap.size x.cells rfl rfl 49 In.zero.cells (heap_alloc_last w2 _) bE rfl (ko _) ?_))
 obtain⟨W0,hW0⟩:∃ W0,W0=(w2.alloc (.cells In.zero.cells 49)).setRow w2.heap.size x.cells:=⟨_,rfl⟩
 have BW:aa (Below w.heap.size w W0):=⟨by rw[hW0];exact below_setRow (ae HB.out _) HB.out.size _⟩
 have KX:aa (be W0 w2.heap.size x):=⟨by rw[hW0];exact setRow_heap _ w2.heap.size _ _ 49 _ (heap_alloc_last w2 _)⟩
 have KN:aa (w.heap.size≤w2.heap.size):=⟨HB.out.size⟩
 rw[show (w2.alloc (.cells #[.int .i64 0,.int .i64 0,.int .i64 0,.int .i64 0,.int .i64 0,.int .i64 0] 49)).setRow w2.heap.size x.cells=W0 from hW0.symm]
 clear hW0
 have C2:aa (W0.heap[g2]?=some (.cells #[.int .i64 (fr:Int)] 3 (0,0))):=⟨(BW.out.block _ (ai H2.out)).trans H2.out⟩
 have C3:aa (W0.heap[g3]?=some (.cells #[vf] 22 (0,0))):=⟨(BW.out.block _ (ai H3.out)).trans H3.out⟩
 have C4:aa (W0.heap[g4]?=some (.cells #[vb] 109 (0,0))):=⟨(BW.out.block _ (ai H4.out)).trans H4.out⟩
 have L3:aa (g3 < W0.heap.size):=⟨ai C3.out⟩
 have L4:aa (g4 < W0.heap.size):=⟨ai C4.out⟩
 have RF0:aa (Kd.R kIn 49 W0 base ok vf f):=⟨Kd.R_below HRf.out BW.out⟩
 have RB0:aa (Kd.R (Kd.int .i64) 3 W0 base ok vb bs):=⟨Kd.R_below HRb.out BW.out⟩
 have hsz22:∀ W,(sizeOf 22).run Tryz.prog W=.ok 1 W:=fun W=>by kernel_rfl
 have hsz109:∀ W,(sizeOf 109).run Tryz.prog W=.ok 1 W:=fun W=>by kernel_rfl
 have hag22:∀ W,(isAgg 22).run Tryz.prog W=.ok false W:=fun W=>by kernel_rfl
 have hag109:∀ W,(isAgg 109).run Tryz.prog W=.ok false W:=fun W=>by kernel_rfl
 have hag3:∀ W,(isAgg 3).run Tryz.prog W=.ok false W:=fun W=>by kernel_rfl
 have HS1:=ak_ hsz22
 have HS2:=ak_ hsz109
 have HA1:=ak_ hag22
 have HA2:=ak_ hag109
 have HA3:=ak_ hag3
 clear hsz22 hsz109 hag22 hag109 hag3
 refine ji (σ:=Value × Value × Value × Value) (fun s=>[(17,vf),(18,.agg x.cells),(19,s.1),(20,s.2.1),(21,vb),(22,.int .i64 (fr:Int)),(23,s.2.2.1),(24,s.2.2.2)])
  (fun s L W=>L.size=10∧jF W0 base g3 g4 ok vf vb f bs x fr (L.getD 2 false) (L.getD 3 false) (L.getD 6 false) (L.getD 7 false) (L.getD 8 false) (L.getD 9 false) s W) (undef,undef,undef,undef) (by kernel_rfl) (by kernel_rfl) (fun _=>by kernel_rfl) ?_
 intro aF haF
 simp only[bd,Act.put,List.setIfInBounds_toArray,List.set_cons_succ,List.set_cons_zero] at haF
 subst haF
 refine⟨?_,⟨by simp,⟨Fr.drew,C3.out,C4.out,fun e=>absurd e (by decide),fun e=>absurd e (by decide),Kd.R_drew RF0.out,Kd.R_drew RB0.out⟩⟩,?_⟩
 ·intro j o ho s L W hc hr hs
  obtain⟨hL,hst⟩:=hs
  rcases j with _ | _ | _ | _ | _ | _ | _ | _ | _ | _ | j
  ·obtain rfl:=Option.some.inj ho
   have n8:=iD (j:=8) hc hr (by kernel_rfl)
   have h3:=hst.c3
   rw[n8] at h3
   refine aw rfl 22 _ rfl ⟨g3,0,none⟩ vf rfl (HA1.out W) (by rw[ah h3];rfl) (cj rfl ⟨by simpa using hL,?_⟩)
   simp only[getD_set_ne false (show (0:Nat)≠2 by decide),getD_set_ne false (show (0:Nat)≠3 by decide),getD_set_ne false (show (0:Nat)≠6 by decide),getD_set_ne false (show (0:Nat)≠7 by decide),getD_set_ne false (show (0:Nat)≠8 by decide),getD_set_ne false (show (0:Nat)≠9 by decide)]
   exact hst
  ·obtain rfl:=Option.some.inj ho
   refine fl rfl 49 _ rfl w2.heap.size rfl 49 x.cells (0,0) _ ?_ Tryz.underlying49 rfl bE (cj rfl ⟨by simpa using hL,?_⟩)
   ·refine(hst.fr0.block _ (ai KX.out) ?_).trans KX.out
    rintro(e1 | e1 | e1 | e1)
    ·have:=ai H3.out;have:=KN.out;omega
    ·have:=ai H4.out;have:=KN.out;omega
    ·have:=Kd.R_lt HRf.out _ e1.symm;have:=KN.out;omega
    ·have:=Kd.R_lt HRb.out _ e1.symm;have:=KN.out;omega
   ·simp only[getD_set_ne false (show (1:Nat)≠2 by decide),getD_set_ne false (show (1:Nat)≠3 by decide),getD_set_ne false (show (1:Nat)≠6 by decide),getD_set_ne false (show (1:Nat)≠7 by decide),getD_set_ne false (show (1:Nat)≠8 by decide),getD_set_ne false (show (1:Nat)≠9 by decide)]
    exact hst
  ·obtain rfl:=Option.some.inj ho
   refine ab (v:=.slice (some ⟨W.heap.size,0,none⟩) 1 1) (w':=W.alloc (.cells x.cells 49)) rfl (yV x W rfl rfl) (iS (.slice (some ⟨W.heap.size,0,none⟩) 1 1,s.2.1,s.2.2.1,s.2.2.2) 19 hr rfl (by kernel_rfl) rfl rfl ⟨by simpa using hL,?_⟩)
   have ht:(L.setIfInBounds 2 true).getD 2 false=true:=by simp[hL]
   simp only[getD_set_ne false (show (2:Nat)≠3 by decide),getD_set_ne false (show (2:Nat)≠6 by decide),getD_set_ne false (show (2:Nat)≠7 by decide),getD_set_ne false (show (2:Nat)≠8 by decide),getD_set_ne false (show (2:Nat)≠9 by decide),ht]
   exact hst.box1
  ·obtain rfl:=Option.some.inj ho
   have l2:=jz hc hr 2 (by kernel_rfl) (by rw[hL];decide)
   have n3:=fk hr
   have n8:=iD (j:=8) hc hr (by kernel_rfl)
   rw[n3,n8] at hst
   obtain⟨kb,e1,e2,e3⟩:=hst.b1 l2
   refine jc kIn base rfl (.tmp 17) (.tmp 19) 22 49 _ 48 rfl Tryz.underlying22 BO rfl (by decide) (by omega) vf f x [.int .i64 x.op,.int .i64 x.d,.int .i64 x.a,.int .i64 x.b,.int .i64 x.n,.int .i64 x.jt] ok (fun _=>False) rfl ⟨kb,0,none⟩ e1 ?_ rfl (fun _ h=>h.elim) (fun k hk=>HFr.out k (by have:=hst.fr0.size;have:=BW.out.size;omega)) hst.rf (by have:=HBs.out;have:=hst.fr0.size;have:=BW.out.size;omega) (by omega) ?_
   ·intro q u hq
    have:(⟨kb,0,none⟩:Addr).add q=⟨kb,q,none⟩:=by unfold Addr.add;by_cases h0:q=0 <;> simp[h0]
    rw[this,ah e3]
    exact(List.getElem?_toArray).trans hq
   ·intro v1 w1 hR hg hat
    refine iS (s.1,v1,s.2.2.1,s.2.2.2) 20 hr rfl (by kernel_rfl) rfl rfl ⟨by simpa using hL,?_⟩
    have ht:(L.setIfInBounds 3 true).getD 3 false=true:=by simp[hL]
    simp only[getD_set_ne false (show (3:Nat)≠2 by decide),getD_set_ne false (show (3:Nat)≠6 by decide),getD_set_ne false (show (3:Nat)≠7 by decide),getD_set_ne false (show (3:Nat)≠8 by decide),getD_set_ne false (show (3:Nat)≠9 by decide),ht,n8]
    exact hst.app1 HO3.out RF0.out hR hg
  ·obtain rfl:=Option.some.inj ho
   have n9:=iD (j:=9) hc hr (by kernel_rfl)
   have h4:=hst.c4
   rw[n9] at h4
   refine aw rfl 109 _ rfl ⟨g4,0,none⟩ vb rfl (HA2.out W) (by rw[ah h4];rfl) (cj rfl ⟨by simpa using hL,?_⟩)
   simp only[getD_set_ne false (show (4:Nat)≠2 by decide),getD_set_ne false (show (4:Nat)≠3 by decide),getD_set_ne false (show (4:Nat)≠6 by decide),getD_set_ne false (show (4:Nat)≠7 by decide),getD_set_ne false (show (4:Nat)≠8 by decide),getD_set_ne false (show (4:Nat)≠9 by decide)]
   exact hst
  ·obtain rfl:=Option.some.inj ho
   have h2:W.heap[g2]?=some (.cells #[.int .i64 (fr:Int)] 3 (0,0)):=by
    refine(hst.fr0.block _ (ai C2.out) ?_).trans C2.out
    rintro(e1 | e1 | e1 | e1)
    ·exact N23.out e1
    ·exact N24.out e1
    ·exact Kd.R_away RF0.out (fun k hk=>(HO2.out k hk).2) e1
    ·exact Kd.R_away RB0.out (fun k hk=>(HO2.out k hk).2) e1
   refine aw rfl 3 _ rfl ⟨g2,0,none⟩ (.int .i64 (fr:Int)) rfl (HA3.out W) (by rw[ah h2];rfl) (cj rfl ⟨by simpa using hL,?_⟩)
   simp only[getD_set_ne false (show (5:Nat)≠2 by decide),getD_set_ne false (show (5:Nat)≠3 by decide),getD_set_ne false (show (5:Nat)≠6 by decide),getD_set_ne false (show (5:Nat)≠7 by decide),getD_set_ne false (show (5:Nat)≠8 by decide),getD_set_ne false (show (5:Nat)≠9 by decide)]
   exact hst
  ·obtain rfl:=Option.some.inj ho
   refine ab (v:=.slice (some ⟨W.heap.size,0,none⟩) 1 1) (w':=W.alloc (.cells #[.int .i64 (fr:Int)] 3)) rfl (A8 _ W rfl rfl) (iS (s.1,s.2.1,.slice (some ⟨W.heap.size,0,none⟩) 1 1,s.2.2.2) 23 hr rfl (by kernel_rfl) rfl rfl ⟨by simpa using hL,?_⟩)
   have ht:(L.setIfInBounds 6 true).getD 6 false=true:=by simp[hL]
   simp only[getD_set_ne false (show (6:Nat)≠2 by decide),getD_set_ne false (show (6:Nat)≠3 by decide),getD_set_ne false (show (6:Nat)≠7 by decide),getD_set_ne false (show (6:Nat)≠8 by decide),getD_set_ne false (show (6:Nat)≠9 by decide),ht]
   exact hst.box2
  ·obtain rfl:=Option.some.inj ho
   have l6:=jz hc hr 6 (by kernel_rfl) (by rw[hL];decide)
   have n7:=fk hr
   have n9:=iD (j:=9) hc hr (by kernel_rfl)
   rw[n7,n9] at hst
   obtain⟨kb,e1,e2,e3⟩:=hst.b2 l6
   refine jc (Kd.int .i64) base rfl (.tmp 21) (.tmp 23) 109 3 _ 8 rfl Tryz.underlying109 CD rfl (by decide) (by omega) vb bs (fr:Int) [.int .i64 (fr:Int)] ok (fun _=>False) rfl ⟨kb,0,none⟩ e1 ?_ rfl (fun _ h=>h.elim) (fun k hk=>HFr.out k (by have:=hst.fr0.size;have:=BW.out.size;omega)) hst.rb (by have:=HBs.out;have:=hst.fr0.size;have:=BW.out.size;omega) (by omega) ?_
   ·intro q u hq
    have:(⟨kb,0,none⟩:Addr).add q=⟨kb,q,none⟩:=by unfold Addr.add;by_cases h0:q=0 <;> simp[h0]
    rw[this,ah e3]
    exact(List.getElem?_toArray).trans hq
   ·intro v1 w1 hR hg hat
    refine iS (s.1,s.2.1,s.2.2.1,v1) 24 hr rfl (by kernel_rfl) rfl rfl ⟨by simpa using hL,?_⟩
    have ht:(L.setIfInBounds 7 true).getD 7 false=true:=by simp[hL]
    simp only[getD_set_ne false (show (7:Nat)≠2 by decide),getD_set_ne false (show (7:Nat)≠3 by decide),getD_set_ne false (show (7:Nat)≠6 by decide),getD_set_ne false (show (7:Nat)≠8 by decide),getD_set_ne false (show (7:Nat)≠9 by decide),ht,n9]
    exact hst.app2 HO3.out RB0.out hR hg
  ·obtain rfl:=Option.some.inj ho
   have lj:=jz hc hr 3 (by kernel_rfl) (by rw[hL];decide)
   have ni:=fk hr
   rw[ni,lj] at hst
   obtain⟨A,c,he⟩:=Kd.R_slice hst.rf
   obtain⟨hv1,hv2⟩:=dz _ _ _ _ he
   have hcc:=hst.c3
   refine aV rfl 22 _ _ rfl g3 0 s.2.1 _ rfl rfl hv1 hv2 (HS1.out W) (by rw[ah hcc];rfl) (aq hcc 0) (cj rfl ⟨by simpa using hL,?_⟩)
   have ht:(L.setIfInBounds 8 true).getD 8 false=true:=by simp[hL]
   simp only[getD_set_ne false (show (8:Nat)≠2 by decide),getD_set_ne false (show (8:Nat)≠3 by decide),getD_set_ne false (show (8:Nat)≠6 by decide),getD_set_ne false (show (8:Nat)≠7 by decide),getD_set_ne false (show (8:Nat)≠9 by decide),ht,lj]
   exact hst.put3 HO3.out H34.out L3.out
  ·obtain rfl:=Option.some.inj ho
   have lj:=jz hc hr 7 (by kernel_rfl) (by rw[hL];decide)
   have ni:=fk hr
   rw[ni,lj] at hst
   obtain⟨A,c,he⟩:=Kd.R_slice hst.rb
   obtain⟨hv1,hv2⟩:=dz _ _ _ _ he
   have hcc:=hst.c4
   refine aV rfl 109 _ _ rfl g4 0 s.2.2.2 _ rfl rfl hv1 hv2 (HS2.out W) (by rw[ah hcc];rfl) (aq hcc 0) (cj rfl ⟨by simpa using hL,?_⟩)
   have ht:(L.setIfInBounds 9 true).getD 9 false=true:=by simp[hL]
   simp only[getD_set_ne false (show (9:Nat)≠2 by decide),getD_set_ne false (show (9:Nat)≠3 by decide),getD_set_ne false (show (9:Nat)≠6 by decide),getD_set_ne false (show (9:Nat)≠7 by decide),getD_set_ne false (show (9:Nat)≠8 by decide),ht,lj]
   exact hst.put4 HO3.out H34.out L4.out
  ·exact absurd (Array.getElem?_eq_some_iff.1 ho).1 (by simp)
 ·intro s L W hall hs
  have hst:=hs.2
  rw[hall 2 (by simp),hall 3 (by simp),hall 6 (by simp),hall 7 (by simp),hall 8 (by simp),hall 9 (by simp)] at hst
  have HSt:=ak_ hst
  clear hst hs hall
  dsimp only
  go_wp2
  go_ret
  exact⟨rfl,s.2.1,s.2.2.2,HSt.out.c3,HSt.out.c4,HSt.out.rf,HSt.out.rb,(Fr.of_below BW.out).trans HSt.out.fr0⟩
end
def plS (s:ByteArray):Nat→Except Nat (List In × List Int × Nat)
 | 0=>.ok ([],[],0)
 | k+1=>match plS s k with
  | .error e=>.error e
  | .ok (f,bs,fr)=>if bt s k=10 then (if (eC (s.extract fr k)).2=0 then .ok (f++[(eC (s.extract fr k)).1],bs++[(fr:Int)],k+1) else .error fr) else .ok (f,bs,fr)
theorem uP {s:ByteArray} {k:Nat} {e:Nat} (h:plS s k=.error e):∀ j,plS s (k+j)=.error e
 | 0=>h
 | j+1=>by
  have:=uP h j
  show plS s ((k+j)+1)=_
  unfold plS
  rw[this]
theorem pT {s:ByteArray}:∀ {k:Nat} {f:List In} {bs:List Int} {fr:Nat},plS s k=.ok (f,bs,fr)→f.length≤k∧bs.length=f.length∧fr≤k
 | 0,f,bs,fr,h=>by
  simp only[plS,Except.ok.injEq,Prod.mk.injEq] at h
  obtain⟨rfl,rfl,rfl⟩:=h
  exact⟨Nat.le_refl _,rfl,Nat.le_refl _⟩
 | k+1,f,bs,fr,h=>by
  unfold plS at h
  cases hp:plS s k with
  | error e=>rw[hp] at h;simp at h
  | ok r=>
   obtain⟨f0,bs0,fr0⟩:=r
   have ih:=pT hp
   rw[hp] at h
   simp only at h
   split at h
   ·split at h
    ·simp only[Except.ok.injEq,Prod.mk.injEq] at h
     obtain⟨rfl,rfl,rfl⟩:=h
     simp
     omega
    ·simp at h
   ·simp only[Except.ok.injEq,Prod.mk.injEq] at h
    obtain⟨rfl,rfl,rfl⟩:=h
    omega
def Bb (f:List In) (bs:List Int):Int:=if (cd f).1 < (bs.length:Int) then bs.getD (cd f).1.toNat 0 else (cd f).1
def ay (s:ByteArray):List In × Int × Int:=
 match plS s s.size with
 | .error fr=>([],(fr:Int),2)
 | .ok (f,bs,fr)=>if fr < s.size then ([],(fr:Int),2) else if (cd f).2=0 then (f,0,0) else ([],Bb f bs,(cd f).2)
theorem kQ {n:Int}:∀ (l:List In) (i:Nat) (r:Int × Int),el n l i=some r→0≤r.1
 | [],_,_,h=>by simp[el] at h
 | x :: l,i,r,h=>by
  unfold el at h
  split at h
  ·exact kQ l (i+1) r h
  ·injection h with h
   subst h
   simp
theorem nu (f:List In):0≤(cd f).1:=by
 unfold cd
 split
 ·exact Int.le_refl _
 ·split
  ·exact Int.le_refl _
  ·cases h:el f.length f 0 with
   | some r=>exact kQ f 0 r h
   | none=>
    simp only
    split
    ·simp;omega
    ·exact Int.le_refl _
def Rd {α:Type} (d:Kd α) (w:World) (v:Value) (xs:List α):Prop:=∃ A c,v=.slice A xs.length c∧xs.length≤c∧Kd.C d w A xs.length xs
theorem Rd.below {α:Type} {d:Kd α} {w w':World} {v:Value} {xs:List α} (h:Rd d w v xs) (hb:Below w.heap.size w w'):Rd d w' v xs:=by
 obtain⟨A,c,h1,h2,h3⟩:=h
 exact⟨A,c,h1,h2,Kd.C_below h3 hb⟩
theorem Rd.of_R {α:Type} {d:Kd α} {e:Nat} {w:World} {base:Nat} {ok:Nat→Prop} {v:Value} {xs:List α} (h:Kd.R d e w base ok v xs):Rd d w v xs:=Kd.R_reads h
theorem Rd.nil {α:Type} (d:Kd α) (w:World):Rd d w (.slice none 0 0) []:=⟨none,0,rfl,Nat.le_refl _,Kd.C_nil d w⟩
def RdT {α:Type} (d:Kd α) (t:Nat) (W:World) (v:Value) (xs:List α):Prop:=∃ A c,v=.slice A xs.length c∧xs.length≤c∧Kd.C d W A xs.length xs∧∀ ad,A=some ad→∃ cs fr,W.heap[ad.block]?=some (.cells cs t fr)
theorem RdT.rd {α:Type} {d:Kd α} {t:Nat} {W:World} {v:Value} {xs:List α} (h:RdT d t W v xs):Rd d W v xs:=by
 obtain⟨A,c,h1,h2,h3,_⟩:=h
 exact⟨A,c,h1,h2,h3⟩
theorem RdT.nil {α:Type} (d:Kd α) (t:Nat) (W:World):RdT d t W (.slice none 0 0) []:=⟨none,0,rfl,Nat.le_refl _,Kd.C_nil d W,fun _ h=>by cases h⟩
theorem RdT.below {α:Type} {d:Kd α} {t:Nat} {W W':World} {v:Value} {xs:List α} (h:RdT d t W v xs) (hb:Below W.heap.size W W'):RdT d t W' v xs:=by
 obtain⟨A,c,h1,h2,h3,h4⟩:=h
 refine⟨A,c,h1,h2,Kd.C_below h3 hb,fun ad e=>?_⟩
 obtain⟨cs,fr,h5⟩:=h4 ad e
 exact⟨cs,fr,ag h5 hb⟩
theorem RdT.of_R {α:Type} {d:Kd α} {e:Nat} {W:World} {base:Nat} {ok:Nat→Prop} {v:Value} {xs:List α} (h:Kd.R d e W base ok v xs):RdT d e W v xs:=by
 obtain⟨A,c,h1,h2,h3⟩:=Kd.R_reads h
 refine⟨A,c,h1,h2,h3,fun ad ea=>?_⟩
 obtain⟨_,inner,ho,_⟩:=h
 rcases ho.2 with ⟨h4,_⟩ | ⟨g,cap,cur,h4,hg,hh,r⟩
 ·rw[h1,ea] at h4
  injection h4 with h4
  cases h4
 ·rw[h1,ea] at h4
  injection h4 with h4
  injection h4 with h4
  subst h4
  exact⟨_,_,hh⟩
def Ed (w:World) (s:ByteArray) (k:Nat) (W:World):Prop:=
 k≤s.size∧Below w.heap.size w W∧W.heap[w.heap.size]?=some (.cells #[.string s] 9 (0,0))∧W.heap[w.heap.size+1+1+1+1]?=some (.stringIter s k)∧
 ∃ (f:List In) (bs:List Int) (fr:Nat) (vf vb:Value),plS s k=.ok (f,bs,fr)∧W.heap[w.heap.size+1]?=some (.cells #[vf] 22 (0,0))∧W.heap[w.heap.size+1+1]?=some (.cells #[vb] 109 (0,0))∧W.heap[w.heap.size+1+1+1]?=some (.cells #[.int .i64 (fr:Int)] 3 (0,0))∧
  Kd.R kIn 49 W w.heap.size (fun b=>w.heap.size+5≤b) vf f∧Kd.R (Kd.int .i64) 3 W w.heap.size (fun b=>w.heap.size+5≤b) vb bs
theorem yW (s:ByteArray) (ha:Asc s) (hs:s.size≤20000) (w:World) (hG:Gl w):Calls Tryz.prog 33 #[.string s] w fun e w'=>∃ v,e=.returned (.tuple #[v,.int .i64 (ay s).2.1,.int .i64 (ay s).2.2])∧RdT kIn 49 w' v (ay s).1∧Below w.heap.size w w':=by
 have HG:=ak_ hG
 have HA:=ak_ ha
 obtain⟨r,hr⟩:=nm_ (ay s)
 rw[←hr]
 obtain⟨r1,r2,r3⟩:=r
 have HR:=ak_ hr
 clear hG ha hr
 have hs':¬ (s.size:Int) > 20000:=by omega
 go_enter Tryz.func33,Tryz.ntmps33
 go_wp2
 go_loopw [9,10] (fun _ _ wr=>∃ k:Nat,aa (Ed w s k wr)) (fun _ _ wr=>s.size - wr.iterPos (w.heap.size+1+1+1+1))
 case atStart=>
  have h:=fun i o h=>dZ w [.cells #[.string s] 9,.cells #[.slice none 0 0] 22,.cells #[.slice none 0 0] 109,.cells #[.int .i64 0] 3,.stringIter s 0] i o h
  exact⟨0,⟨⟨Nat.zero_le _,dS w [_,_,_,_,_],h 0 _ rfl,h 4 _ rfl,[],[],0,.slice none 0 0,.slice none 0 0,rfl,h 1 _ rfl,h 2 _ rfl,h 3 _ rfl,Kd.R_nil _ _ _ _ _,Kd.R_nil _ _ _ _ _⟩⟩⟩
 case round=>
  obtain⟨k,HS⟩:=hrel
  obtain⟨hk,hb,h1,hi,f,bs,fr,vf,vb,hp,h3,h4,h2,hf,hbs⟩:=HS.out
  obtain⟨bd1,bd2,bd3⟩:=pT hp
  by_cases hlt:k < s.size
  ·have hax:=HA.out k hlt
   have hnx:=fun ty=>fc (P:=Tryz.prog) wr (w.heap.size+1+1+1+1) s k ty hi hlt hax
   obtain⟨w2,hw2⟩:=nm_ (World.setIter wr (w.heap.size+1+1+1+1) s (k+1))
   have hoth:∀ b,b≠w.heap.size+1+1+1+1→w2.heap[b]?=wr.heap[b]?:=fun b hb=>by
    rw[hw2]
    show (wr.heap.setIfInBounds (w.heap.size+1+1+1+1) (.stringIter s (k+1)))[b]?=_
    rw[Array.getElem?_setIfInBounds_ne (fun e=>hb e.symm)]
   have HI:aa (w2.heap[w.heap.size+1+1+1+1]?=some (.stringIter s (k+1))):=⟨by rw[hw2];exact em hi _⟩
   have HB:aa (Below w.heap.size w w2):=⟨by rw[hw2];exact dV hb (by omega) _ _⟩
   have H1:aa (w2.heap[w.heap.size]?=some (.cells #[.string s] 9 (0,0))):=⟨(hoth _ (by omega)).trans h1⟩
   have H2:aa (w2.heap[w.heap.size+1+1+1]?=some (.cells #[.int .i64 (fr:Int)] 3 (0,0))):=⟨(hoth _ (by omega)).trans h2⟩
   have H3:aa (w2.heap[w.heap.size+1]?=some (.cells #[vf] 22 (0,0))):=⟨(hoth _ (by omega)).trans h3⟩
   have H4:aa (w2.heap[w.heap.size+1+1]?=some (.cells #[vb] 109 (0,0))):=⟨(hoth _ (by omega)).trans h4⟩
   have HF:aa (Kd.R kIn 49 w2 w.heap.size (fun b=>w.heap.size+5≤b) vf f):=⟨Kd.R_step hf (fun b hb _=>hoth b (by omega))⟩
   have HBs:aa (Kd.R (Kd.int .i64) 3 w2 w.heap.size (fun b=>w.heap.size+5≤b) vb bs):=⟨Kd.R_step hbs (fun b hb _=>hoth b (by omega))⟩
   rw[←hw2] at hnx
   obtain⟨c,hc⟩:∃ c:Int,c=bt s k:=⟨_,rfl⟩
   have hst:plS s (k+1)=if bt s k=10 then (if (eC (s.extract fr k)).2=0 then .ok (f++[(eC (s.extract fr k)).1],bs++[(fr:Int)],k+1) else .error fr) else .ok (f,bs,fr):=by
    rw[plS,hp]
   rw[←hc] at hnx hst
   have HI0:=ak_ hi
   have HLk:=ak_ hlt
   have HSt:=ak_ hst
   have HSz:aa (w.heap.size+5≤w2.heap.size):=⟨by have:=ai HI.out;omega⟩
   clear hw2 hoth hi h1 h2 h3 h4 hf hbs hb hc hax HS hst hp hk hlt
   by_cases c10:c=10
   ·obtain⟨x,e,hx⟩:∃ x e,eC (s.extract fr k)=(x,e):=⟨_,_,rfl⟩
    have hst2:=HSt.out
    rw[if_pos c10,hx] at hst2
    subst c10
    have HL:=ak_ (Ba s fr k bd3 (by have:=HLk.out;omega) HA.out hs f bs (by have:=HLk.out;omega) (by have:=HLk.out;omega) w.heap.size w.heap.size (w.heap.size+1+1+1) (w.heap.size+1) (w.heap.size+1+1) (fun b=>w.heap.size+5≤b) vf vb w2 (HG.out.below HB.out) H1.out H2.out H3.out H4.out HF.out HBs.out (fun b hb=>⟨by omega,by omega⟩) (fun b hb=>⟨by omega,by omega⟩) (fun b hb=>by have:=HSz.out;omega) HB.out.size x e hx)
    have HSt2:=ak_ hst2
    clear hst2 hx
    by_cases he:e=0
    ·subst he
     have hkb:(k:Int)≤20000:=by have:=HLk.out;omega
     go_wp2_with (first | (go_at_call 44;refine HL.out.mono ?_;rintro q w5 ⟨rfl,vf',vb',k3,k4,kf,kb,hfr⟩;have hkeep:∀ b,b < w.heap.size+5→b≠w.heap.size+1→b≠w.heap.size+1+1→w5.heap[b]?=w2.heap[b]?:=(fun b h1 h2 h3=>hfr.block b (by have:=HSz.out;omega) (fun h=>by rcases h with h | h | h | h;exact h2 h;exact h3 h;exact absurd (HF.out.1 b h.symm) (by omega);exact absurd (HBs.out.1 b h.symm) (by omega)));have J1:=ak_ ((hkeep _ (by omega) (by omega) (by omega)).trans H1.out);have hj2:=(hkeep _ (by omega) (by omega) (by omega)).trans H2.out;have JI:=ak_ ((hkeep _ (by omega) (by omega) (by omega)).trans HI.out);have J2:=ak_ hj2;have J3:=ak_ k3;have J4:=ak_ k4;have JF:=ak_ kf;have JB:=ak_ kb;have JBl:=ak_ (Fr.below HB.out hfr (fun b hb h=>by rcases h with h | h | h | h;omega;omega;exact absurd (HF.out.1 b h.symm) (by omega);exact absurd (HBs.out.1 b h.symm) (by omega)) HB.out.size);have jc2:=ah hj2 0;have jf2:=aq hj2 0;clear k3 k4 kf kb hfr hkeep hj2))
     go_roundw
     case rel=>
      have hsc:=ey J2.out 0 (.int .i64 ((k:Int)+1))
      refine⟨k+1,⟨⟨HLk.out,JBl.out.setCell (by show w.heap.size≤w.heap.size+1+1+1;omega) _,a8 J1.out (by show _≠w.heap.size+1+1+1;omega) _,fy JI.out (p:=⟨w.heap.size+1+1+1,0,none⟩) (by show w.heap.size+1+1+1+1≠w.heap.size+1+1+1;omega) _,_,_,k+1,vf',vb',by simpa using HSt2.out,a8 J3.out (by show _≠w.heap.size+1+1+1;omega) _,a8 J4.out (by show _≠w.heap.size+1+1+1;omega) _,?_,?_,?_⟩⟩⟩
      ·have:((k+1:Nat):Int)=(k:Int)+1:=by omega
       rw[this]
       exact hsc
      ·exact Kd.R_far JF.out (fun b hb=>by show b≠w.heap.size+1+1+1;omega) _
      ·exact Kd.R_far JB.out (fun b hb=>by show b≠w.heap.size+1+1+1;omega) _
     case measure=>rw[aY (fy JI.out (p:=⟨w.heap.size+1+1+1,0,none⟩) (by show w.heap.size+1+1+1+1≠w.heap.size+1+1+1;omega) _),aY HI0.out];have:=HLk.out;omega
    ·have hz:(e == 0)=false:=beq_eq_false_iff_ne.mpr he
     have hst3:=HSt2.out
     simp only[if_neg he] at hst3
     have hfin:=uP hst3 (s.size - (k+1))
     rw[show k+1+(s.size - (k+1))=s.size by have:=HLk.out;omega] at hfin
     have hrr:=HR.out
     unfold ay at hrr
     rw[hfin] at hrr
     simp only[Prod.mk.injEq] at hrr
     obtain⟨rfl,rfl,rfl⟩:=hrr
     clear hst3 hfin he
     go_upto_region 12 with (first | (go_at_call 44;refine HL.out.mono ?_;rintro q w5 ⟨rfl,vf',vb',k3,k4,kf,kb,hfr⟩;have hkeep:∀ b,b < w.heap.size+5→b≠w.heap.size+1→b≠w.heap.size+1+1→w5.heap[b]?=w2.heap[b]?:=(fun b h1 h2 h3=>hfr.block b (by have:=HSz.out;omega) (fun h=>by rcases h with h | h | h | h;exact h2 h;exact h3 h;exact absurd (HF.out.1 b h.symm) (by omega);exact absurd (HBs.out.1 b h.symm) (by omega)));have J1:=ak_ ((hkeep _ (by omega) (by omega) (by omega)).trans H1.out);have hj2:=(hkeep _ (by omega) (by omega) (by omega)).trans H2.out;have JI:=ak_ ((hkeep _ (by omega) (by omega) (by omega)).trans HI.out);have J2:=ak_ hj2;have J3:=ak_ k3;have J4:=ak_ k4;have JF:=ak_ kf;have JB:=ak_ kb;have JBl:=ak_ (Fr.below HB.out hfr (fun b hb h=>by rcases h with h | h | h | h;omega;omega;exact absurd (HF.out.1 b h.symm) (by omega);exact absurd (HBs.out.1 b h.symm) (by omega)) HB.out.size);have jc2:=ah hj2 0;have jf2:=aq hj2 0;clear k3 k4 kf kb hfr hkeep hj2))
     go_quiet (fail)
     go_wp2
     refine bodyPost_ret (v:=.tuple #[.slice none 0 0,.int .i64 (fr:Int),.int .i64 2]) (aA (rs:=[.tmp 2,.tmp 3,.tmp 4]) rfl (by simp) (.tmp (.tmp (.tmp .nil)))) rfl ⟨.slice none 0 0,rfl,RdT.nil _ _ _,aI JBl.out _⟩
   ·have hst2:=HSt.out
    rw[if_neg c10] at hst2
    have hq:(c != 10)=true:=bne_iff_ne.mpr c10
    have HSt2:=ak_ hst2
    clear hst2 c10
    go_wp2
    go_roundw
    case rel=>exact⟨k+1,⟨⟨HLk.out,HB.out,H1.out,HI.out,f,bs,fr,vf,vb,HSt2.out,H3.out,H4.out,H2.out,HF.out,HBs.out⟩⟩⟩
    case measure=>rw[aY HI.out,aY HI0.out];have:=HLk.out;omega
  ·have hnx:=fun ty=>dW (P:=Tryz.prog) wr (w.heap.size+1+1+1+1) s k ty hi hlt
   obtain rfl:k=s.size:=by omega
   have q1:=ah h1 0
   have q2:=ah h2 0
   have q3:=ah h3 0
   have q4:=ah h4 0
   obtain⟨Af,cf,rfl,hcf,hCf,hTf⟩:=RdT.of_R hf
   have HTf:=ak_ hTf
   clear hTf
   obtain⟨Ab,cb,rfl,hcb,hCb⟩:=Kd.R_reads hbs
   have hrr:=HR.out
   unfold ay at hrr
   rw[hp] at hrr
   simp only at hrr
   have HC:=ak_ hCf
   have HCb:=ak_ hCb
   have HB:=ak_ hb
   have K4:=ak_ h4
   have K3:=ak_ h3
   have HCk:=ak_ (qA Af cf f)
   have hlfb:(bs.length:Int)≤20000:=by omega
   clear hi hb h1 h2 h3 h4 hf hbs hCf hCb HS hp hk hlt
   by_cases hfr:fr < s.size
   ·rw[if_pos hfr] at hrr
    simp only[Prod.mk.injEq] at hrr
    obtain⟨rfl,rfl,rfl⟩:=hrr
    have hfr':(fr:Int) < (s.size:Int):=by omega
    go_upto_region 15 with fail
    go_quiet (fail)
    go_wp2
    refine bodyPost_ret (v:=.tuple #[.slice none 0 0,.int .i64 (fr:Int),.int .i64 2]) (aA (rs:=[.tmp 2,.tmp 3,.tmp 4]) rfl (by simp) (.tmp (.tmp (.tmp .nil)))) rfl ⟨.slice none 0 0,rfl,RdT.nil _ _ _,aI HB.out _⟩
   ·rw[if_neg hfr] at hrr
    have hfr':¬ (fr:Int) < (s.size:Int):=by omega
    obtain⟨a,haa⟩:=nm_ ((cd f).1)
    obtain⟨b,hbb⟩:=nm_ ((cd f).2)
    have hnn:=nu f
    have hat:Bb f bs=if a < (bs.length:Int) then bs.getD a.toNat 0 else a:=by unfold Bb;rw[haa]
    rw[hat] at hrr
    rw[←haa] at hnn
    rw[←hbb] at hrr
    rw[←haa,←hbb] at HCk
    clear haa hbb hat
    by_cases hb0:b=0
    ·rw[if_pos hb0] at hrr
     simp only[Prod.mk.injEq] at hrr
     obtain⟨rfl,rfl,rfl⟩:=hrr
     subst hb0
     go_wp2_with (first | (go_at_call 46;refine(HCk.out _ (HG.out.below HB.out) HC.out hcf).mono ?_;rintro q w5 ⟨rfl,hb5⟩;have J3:=ah ((hb5.block _ (ai K3.out)).trans K3.out) 0;have HB5:=ak_ (af HB.out hb5);have HC5:=ak_ (RdT.below ⟨Af,cf,rfl,hcf,HC.out,HTf.out⟩ hb5);clear hb5))
     refine bodyPost_ret (v:=.tuple #[.slice Af r1.length cf,.int .i64 0,.int .i64 0]) (aA (rs:=[.tmp 2,.tmp 3,.tmp 4]) rfl (by simp) (.tmp (.tmp (.tmp .nil)))) rfl ⟨_,rfl,HC5.out,HB5.out⟩
    ·rw[if_neg hb0] at hrr
     simp only[Prod.mk.injEq] at hrr
     obtain⟨rfl,hr2,rfl⟩:=hrr
     have hb1:(r3 == 0)=false:=beq_eq_false_iff_ne.mpr hb0
     have HR2:=ak_ hr2
     clear hr2 hb0
     by_cases hab:a < (bs.length:Int)
     ·obtain⟨A',e',hcell⟩:=Kd.at_int HCb.out a hnn hab
      subst e'
      have hr2':r2=rd bs a:=by rw[HR2.out,if_pos hab];rfl
      subst hr2'
      have HA':=ak_ hcell
      clear hcell
      go_wp2_with (first | (go_at_call 46;refine(HCk.out _ (HG.out.below HB.out) HC.out hcf).mono ?_;rintro q w5 ⟨rfl,hb5⟩;have J4:=ah ((hb5.block _ (ai K4.out)).trans K4.out) 0;have HB5:=ak_ (af HB.out hb5);obtain⟨A2,e2,hcell⟩:=Kd.at_int (Kd.C_below HCb.out hb5) a hnn hab;obtain rfl:=Option.some.inj e2;clear hb5 e2))
      refine bodyPost_ret (v:=.tuple #[.slice none 0 0,.int .i64 (rd bs a),.int .i64 r3]) (aA (rs:=[.tmp 2,.tmp 3,.tmp 4]) rfl (by simp) (.tmp (.tmp (.tmp .nil)))) rfl ⟨.slice none 0 0,rfl,RdT.nil _ _ _,HB5.out⟩
     ·have hr2':r2=a:=by rw[HR2.out,if_neg hab]
      subst hr2'
      go_wp2_with (first | (go_at_call 46;refine(HCk.out _ (HG.out.below HB.out) HC.out hcf).mono ?_;rintro q w5 ⟨rfl,hb5⟩;have J4:=ah ((hb5.block _ (ai K4.out)).trans K4.out) 0;have HB5:=ak_ (af HB.out hb5);clear hb5))
      refine bodyPost_ret (v:=.tuple #[.slice none 0 0,.int .i64 r2,.int .i64 r3]) (aA (rs:=[.tmp 2,.tmp 3,.tmp 4]) rfl (by simp) (.tmp (.tmp (.tmp .nil)))) rfl ⟨.slice none 0 0,rfl,RdT.nil _ _ _,HB5.out⟩
def eQ (x:In) (f:ByteArray):Nat→List Int
 | 0=>[]
 | k+1=>if bt f k=65∨bt f k=66 then eQ x f k++[x.get (fF (bt f k))] else eQ x f k
def cy (x:In):List Int:=if mD x.op=false∨x.moves=true then [] else eQ x (shF x.op) (shF x.op).size
theorem kT (x:In) (f:ByteArray):∀ k,(eQ x f k).length≤k
 | 0=>Nat.le_refl _
 | k+1=>by
  have:=kT x f k
  unfold eQ
  split
  ·simp;omega
  ·omega
theorem pR (op:Int):(shF op).size≤3:=by
 unfold shF
 split
 ·have h3:∀ p∈a_,p.2.size≤3:=by decide
  by_cases hi:(op - 1).toNat < a_.length
  ·rw[List.getD_eq_getElem?_getD,List.getElem?_eq_getElem hi]
   exact h3 _ (List.getElem_mem _)
  ·rw[List.getD_eq_getElem?_getD,List.getElem?_eq_none (by omega)]
   decide
 ·decide
theorem m8 (x:In) (w:World):Calls Tryz.prog 66 #[.agg #[.int .i64 x.op,.int .i64 x.d,.int .i64 x.a,.int .i64 x.b,.int .i64 x.n,.int .i64 x.jt]] w fun e w'=>e=.returned (.bool x.moves)∧Below w.heap.size w w':=iU x w
def Eb (w:World) (x:In) (f:ByteArray) (g gi:Nat) (k:Nat) (v:Value) (W:World):Prop:=
 k≤f.size∧w.heap.size≤gi∧g < gi∧Below w.heap.size w W∧be W g x∧W.heap[gi]?=some (.stringIter f k)∧Kd.R (Kd.int .i64) 3 W w.heap.size (fun b=>gi < b) v (eQ x f k)
theorem jq (x:In) (w:World) (hG:Gl w):Calls Tryz.prog 56 #[.agg x.cells] w fun e w'=>∃ v,e=.returned v∧Kd.R (Kd.int .i64) 3 w' w.heap.size (fun k=>w.heap.size≤k) v (cy x)∧Below w.heap.size w w':=by
 have HG:=ak_ hG
 clear hG
 rw[jp]
 obtain⟨o,ho⟩:=nm_ (mD x.op)
 obtain⟨s,hs⟩:=nm_ (shW x.op)
 obtain⟨f,hf⟩:=nm_ (shF x.op)
 obtain⟨m,hm⟩:=nm_ x.moves
 obtain⟨R,hR⟩:=nm_ (cy x)
 have hof:=zW x.op
 rw[←ho,←hs,←hf] at hof
 have HOf:=ak_ hof
 have hmv:=m8 x
 rw[←hm] at hmv
 have HMv:=ak_ hmv
 have HF:aa (Asc f):=⟨by rw[hf];exact nA _⟩
 have HFs:aa (f.size≤3):=⟨by rw[hf];exact pR _⟩
 have hval:R=if o=false∨m=true then [] else eQ x f f.size:=by rw[hR];unfold cy;rw[←ho,←hf,←hm]
 rw[←hR]
 have HV:=ak_ hval
 clear hval ho hs hf hm hof hmv hR
 go_enter Tryz.func56,Tryz.ntmps56
 go_upto_region 2 with (first
   | (go_at_call 85;refine(HOf.out _ (HG.out.below (ae (Below.refl _ _) _))).mono ?_;rintro e w1 ⟨rfl,hb⟩;have HB1:=ak_ (af (ae (Below.refl _ _) _) hb);have KI:=ak_ (show be w1 w.heap.size x from be.below (show be (w.alloc (.cells x.cells 49 (0,0))) w.heap.size x from heap_alloc_last w _) hb);clear hb))
 have KI2:=ak_ (KI.out.below (ae (Below.refl _ _) (.cells #[.string s,.string f] 169 (0,0))))
 have KS:aa ((w1.alloc (.cells #[.string s,.string f] 169 (0,0))).heap[w1.heap.size]?=some (.cells #[.string s,.string f] 169 (0,0))):=⟨heap_alloc_last w1 _⟩
 have HB2:=ak_ (ae HB1.out (.cells #[.string s,.string f] 169 (0,0)))
 obtain⟨q0,q1,q2,q3,q4,q5⟩:=KI2.out.cells6
 cases o with
 | false=>
  obtain rfl:R=[]:=HV.out.trans (if_pos (.inl rfl))
  go_wp2_with fail
  go_ret
  exact⟨_,rfl,Kd.R_nil _ _ _ _ _,HB2.out⟩
 | true=>
  cases m with
  | true=>
   obtain rfl:R=[]:=HV.out.trans (if_pos (.inr rfl))
   go_wp2_with (first | (go_at_call 66;refine(HMv.out _).mono ?_;rintro e w2 ⟨rfl,hb⟩;have HB3:=ak_ (af HB2.out hb);clear hb))
   go_ret
   exact⟨_,rfl,Kd.R_nil _ _ _ _ _,HB3.out⟩
  | false=>
   have hv:R=eQ x f f.size:=HV.out.trans (if_neg (by simp))
   have HV2:=ak_ hv
   clear hv
   go_wp2_with (first | (go_at_call 66;refine(HMv.out _).mono ?_;rintro e w2 ⟨rfl,hb⟩;have HB3:=ak_ (af HB2.out hb);have KI3:=ak_ (KI2.out.below hb);obtain⟨r0,r1⟩:=mu ((hb.block _ (ai KS.out)).trans KS.out);clear hb))
   go_loopw [5,7] (fun v5 _ wr=>∃ k:Nat,aa (Eb w x f w.heap.size w2.heap.size k v5 wr)) (fun _ _ wr=>f.size - wr.iterPos w2.heap.size)
   case atStart=>exact⟨0,⟨⟨Nat.zero_le _,HB3.out.size,ai KI3.out,af HB3.out (ae (Below.refl _ _) _),KI3.out.below (ae (Below.refl _ _) _),heap_alloc_last w2 _,Kd.R_nil _ _ _ _ _⟩⟩⟩
   case round=>
    obtain⟨k,HS⟩:=hrel
    obtain⟨hk,hgi,hlt2,hb,hx,hi,hR⟩:=HS.out
    have HGi:=ak_ hgi
    have HLt:=ak_ hlt2
    by_cases hlt:k < f.size
    ·have ha:=HF.out k hlt
     have hnx:=fun ty=>fc (P:=Tryz.prog) wr w2.heap.size f k ty hi hlt ha
     obtain⟨w3,hw3⟩:=nm_ (World.setIter wr w2.heap.size f (k+1))
     have HI:aa (w3.heap[w2.heap.size]?=some (.stringIter f (k+1))):=⟨by rw[hw3];exact em hi _⟩
     have HX:aa (be w3 w.heap.size x):=⟨by rw[hw3];exact ii hx (by omega) _ _⟩
     have HB5:aa (Below w.heap.size w w3):=⟨by rw[hw3];exact dV hb (by omega) _ _⟩
     have HR5:aa (Kd.R (Kd.int .i64) 3 w3 w.heap.size (fun b=>w2.heap.size < b) u5 (eQ x f k)):=⟨by
      rw[hw3]
      exact Kd.R_step hR (fun b hb _=>by
       show (wr.heap.setIfInBounds w2.heap.size (.stringIter f (k+1)))[b]?=_
       rw[Array.getElem?_setIfInBounds_ne (by omega)])⟩
     rw[←hw3] at hnx
     obtain⟨c,hc⟩:∃ c:Int,c=bt f k:=⟨_,rfl⟩
     have hst:eQ x f (k+1)=if c=65∨c=66 then eQ x f k++[x.get (fF c)] else eQ x f k:=by rw[hc];rfl
     rw[←hc] at hnx
     have HI0:=ak_ hi
     have HLk:=ak_ hlt
     have HSt:=ak_ hst
     have HLn:=ak_ (kT x f k)
     clear hc hw3 hi hx hb ha HS hst hgi hlt2 hk hlt hR
     have gf:=HX.out.get (fF c) (l_ c)
     by_cases c6:c=65∨c=66
     ·have hs2:=HSt.out
      rw[if_pos c6] at hs2
      have HS2:=ak_ hs2
      clear hs2
      obtain⟨y,hy⟩:=nm_ (x.get (fF c))
      rw[←hy] at gf HS2
      clear hy
      rcases c6 with h6 | h6
      all_goals
       subst h6
       go_wp2_with (first
        | (go_at_call 86;refine(fS _ _ _).mono ?_;rintro e w' ⟨rfl,rfl⟩)
        | ((with_reducible refine a7 (b:=.append) (xs:=#[.tmp 32,.tmp 37]) rfl ?_);at_builtin;refine Kd.R_append (Kd.int .i64) (w0:=w) w.heap.size rfl (.tmp 32) (.tmp 37) 109 3 (.int .i64 0) 8 rfl Tryz.underlying109 CD rfl (by decide) (by omega) u5 (eQ x f k) (y) [.int .i64 y] (fun b=>w2.heap.size < b) (fun _=>False) rfl rfl ?aP (fun _ hk=>hk.elim) ?aF ?aO ?aB ?aS ?aL ?_;(case aP=>exact rfl);(case aF=>exact(fun b hb=>by have:=ai HI.out;omega));(case aO=>exact HR5.out);(case aB=>exact HB5.out);(case aS=>exact HB5.out.size);(case aL=>have:=HLn.out;have:=HLk.out;have:=HFs.out;omega);intro vap wap ho hb hg hat;have HI3:=ak_ ((hg.block _ (ai HI.out) (Kd.R_away HR5.out (fun _ h=>by omega))).trans HI.out);have HX3:=ak_ (show be _ _ x from (hg.block _ (ai HX.out) (Kd.R_away HR5.out (fun _ h=>by have:=HLt.out;omega))).trans HX.out);have HO3:=ak_ ho;have HB6:=ak_ hb;clear ho hb hg hat))
       go_roundw
       case rel=>exact⟨k+1,⟨⟨HLk.out,HGi.out,HLt.out,HB6.out,HX3.out,HI3.out,by rw[HS2.out];exact HO3.out⟩⟩⟩
       case measure=>rw[aY HI3.out,aY HI0.out];have:=HLk.out;omega
     ·have hs2:=HSt.out
      rw[if_neg c6] at hs2
      have HS2:=ak_ hs2
      have e1:(c == 65)=false:=beq_eq_false_iff_ne.mpr (fun e=>c6 (.inl e))
      have e2:(c == 66)=false:=beq_eq_false_iff_ne.mpr (fun e=>c6 (.inr e))
      clear hs2 c6
      go_wp2
      go_roundw
      case rel=>exact⟨k+1,⟨⟨HLk.out,HGi.out,HLt.out,HB5.out,HX.out,HI.out,by rw[HS2.out];exact HR5.out⟩⟩⟩
      case measure=>rw[aY HI.out,aY HI0.out];have:=HLk.out;omega
    ·have hnx:=fun ty=>dW (P:=Tryz.prog) wr w2.heap.size f k ty hi hlt
     obtain rfl:k=f.size:=by omega
     rw[←HV2.out] at hR
     have HBz:=ak_ hb
     have HRz:=ak_ hR
     clear hi hx hb HS hk hgi hlt2 hlt hR
     go_wp2
     go_ret
     exact⟨_,rfl,Kd.R_mono HRz.out (fun k hk=>by have:=HGi.out;omega),HBz.out⟩
theorem zY (x:In) (w:World) (hG:Gl w):Calls Tryz.prog 56 #[.agg x.cells] w fun e w'=>∃ v,e=.returned v∧Rd (Kd.int .i64) w' v (cy x)∧Below w.heap.size w w':=
 (jq x w hG).mono fun e w' ⟨v,h1,h3,h4⟩=>⟨v,h1,Rd.of_R h3,h4⟩
def jg (x:In):Int × Bool:=if 4≤x.op∧x.op≤15∧x.op≠14 then (x.d,true) else (0,false)
theorem sD (x:In) (w:World):Calls Tryz.prog 100 #[.agg x.cells] w fun e w'=>e=.returned (.tuple #[.int .i64 (jg x).1,.bool (jg x).2])∧Below w.heap.size w w':=by
 rw[jp]
 unfold jg
 by_cases h1:4≤x.op
 ·by_cases h2:x.op≤15
  ·by_cases h3:x.op=14
   ·rw[if_neg (by omega)]
    have q3:(x.op != 14)=false:=bne_eq_false_iff_eq.mpr h3
    clear h3
    go_enter Tryz.func100,Tryz.ntmps100
    go_wp2
    go_ret2
    exact⟨rfl,ae (Below.refl _ _) _⟩
   ·rw[if_pos ⟨h1,h2,h3⟩]
    have q3:(x.op != 14)=true:=bne_iff_ne.mpr h3
    clear h3
    go_enter Tryz.func100,Tryz.ntmps100
    go_wp2
    go_ret2
    exact⟨rfl,ae (Below.refl _ _) _⟩
  ·rw[if_neg (by omega)]
   go_enter Tryz.func100,Tryz.ntmps100
   go_wp2
   go_ret2
   exact⟨rfl,ae (Below.refl _ _) _⟩
 ·rw[if_neg (by omega)]
  go_enter Tryz.func100,Tryz.ntmps100
  go_wp2
  go_ret2
  exact⟨rfl,ae (Below.refl _ _) _⟩
theorem bU {P:Program} {W:World} {g t:Nat} {L:List Value} (hg:W.heap[g]?=some (.cells L.toArray t (0,0))) (ty:TypeId) (o:Nat) (vs:List Value) (hv:(L.drop o).take vs.length=vs) (d:TypeDesc) (hu:P.underlying ty=some d)
  (hd:(match d with | .struct _ | .array _ _=>true | _=>false)=true) (hi:(P.info? ty).map (·.size)=some vs.length):(loadVar ty ⟨g,o,none⟩).run P W=.ok (.agg vs.toArray) W:=by
 refine run_loadVar_mid W g o ty vs d (fun j v hj=>?_) hu (by cases d <;> simp_all [TypeDesc.isRow]) hi
 rw[ah hg,List.getElem?_toArray]
 have hlt:=(List.getElem?_eq_some_iff.1 hj).1
 rw[←hv,List.getElem?_take_of_lt hlt,List.getElem?_drop] at hj
 exact hj
theorem fi {P:Program} {ops:Array Oper} {rest:List Oper} {o:Oper} {a:Act} {W:World} {Q:Exit→Act→World→Prop} (hgd:o.guard=none) (ty:TypeId) (x y:Operand) (ho:o.op=.store ty x y) (g i:Nat) (vs:List Value)
  (hx:a.eval x=.pointer (some ⟨g,i,none⟩)) (hy:a.eval y=.agg vs.toArray) (t:Nat) (L:List Value) (hg:W.heap[g]?=some (.cells L.toArray t (0,0))) (hi:(P.info? ty).map (·.size)=some vs.length) (hl:i+vs.length≤L.length) (h1:∀ v∈vs,v.oneCell'=true)
  (h:wpList P ops Q rest (a.put o.dst undef) (W.setRow g (L.take i++vs++L.drop (i+vs.length)).toArray)):wpList P ops Q (o :: rest) a W:=by
 refine wpList_plain hgd fun K hK=>?_
 have hr:=run_storeCells_at P g i t vs 0 L.toArray W hg (by simpa using hl) h1
 simp only[Nat.add_zero] at hr
 have hexec:(execOp a.eval o).run P W=.ok .skip (W.setRow g (L.take i++vs++L.drop (i+vs.length)).toArray):=by
  unfold execOp
  cases hq:P.info? ty with
  | none=>simp[hq] at hi
  | some q=>
   have hs:q.size=vs.length:=by simpa [hq] using hi
   simp[ho,hx,hy,Instr.storeAt,Instr.sureAddr,storeVar,sizeOf,typeInfo,hq,hs,Value.cells,Sem.run_bind,Result.andThen,hr]
 unfold Oper.wp
 rw[hexec]
 exact hK _ _ h
theorem aJ {W:World} {g t:Nat} {L:List Value} (h:W.heap[g]?=some (.cells L.toArray t (0,0))) (i:Nat) (v:Value):(W.setCell ⟨g,i,none⟩ v).heap[g]?=some (.cells (L.set i v).toArray t (0,0)):=by
 have:=ey h i v
 simpa using this
theorem ap {W:World} {g t:Nat} {L:List Value} (h:W.heap[g]?=some (.cells L.toArray t (0,0))) (i:Nat):W.cell? ⟨g,i,none⟩=L[i]?:=by
 rw[ah h,List.getElem?_toArray]
def ce (x:In) (at_:Int):List Int:=if x.op=18 then [] else if x.op=17 then [x.jt,at_+1] else [at_+1]
structure PSt where
 at_:Nat
 t:List Sr
 steps:Nat
 met:List Bool
def fol (f:List In) (s:PSt):Option PSt:=
 match f[s.at_]? with
 | none=>none
 | some x=>if x.moves=false∨s.met.getD s.at_ true=true then none else some ⟨if x.op=16 then x.jt.toNat else s.at_+1,fD s.t x,s.steps+1,s.met.set s.at_ true⟩
def dp (s:PSt):List Value:=.int .i64 (s.at_:Int) :: (s.t.map Sr.v++[.int .i64 (s.steps:Int)])
def ci (W:World) (g:Nat) (s:PSt):Prop:=W.heap[g]?=some (.cells (dp s).toArray 101 (0,0))∧s.t.length=24
def ee (W:World) (g:Nat) (m:List Bool):Prop:=W.heap[g]?=some (.cells (m.map Value.bool).toArray 162 (0,0))∧m.length=200
theorem CV {s:PSt} (h:s.t.length=24):(dp s).length=26:=by simp[dp,h]
theorem CT {s:PSt} (h:s.t.length=24):((dp s).drop 1).take 24=s.t.map Sr.v:=by
 unfold dp
 rw[List.drop_one,List.tail_cons,List.take_append_of_le_length (by simp[h]),List.take_of_length_le (by simp[h])]
theorem oy {s:PSt} (h:s.t.length=24):(dp s)[25]?=some (.int .i64 (s.steps:Int)):=by
 unfold dp
 rw[List.getElem?_cons_succ,List.getElem?_append_right (by simp[h])]
 simp[h]
theorem CU {s:PSt} (h:s.t.length=24) (t':List Sr) (h':t'.length=24):(dp s).take 1++t'.map Sr.v++(dp s).drop (1+24)=dp ⟨s.at_,t',s.steps,s.met⟩:=by
 unfold dp
 rw[List.take_succ_cons,List.take_zero,show 1+24=24+1 from rfl,List.drop_succ_cons,List.drop_append_of_le_length (by simp[h]),List.drop_of_length_le (by simp[h])]
 simp
theorem zE {s:PSt} (h:s.t.length=24) (n:Nat):(dp s).set 25 (.int .i64 (n:Int))=dp ⟨s.at_,s.t,n,s.met⟩:=by
 unfold dp
 rw[List.set_cons_succ,List.set_append_right _ _ (by simp[h])]
 simp[h]
theorem Bz (s:PSt) (n:Nat):(dp s).set 0 (.int .i64 (n:Int))=dp ⟨n,s.t,s.steps,s.met⟩:=rfl
theorem BF (m:List Bool) (i:Nat):(m.map Value.bool).set i (.bool true)=(m.set i true).map Value.bool:=by rw[List.map_set]
theorem CQ (T:List Sr):∀ v∈T.map Sr.v,v.oneCell'=true:=by
 intro v hv
 obtain⟨s,_,rfl⟩:=List.mem_map.1 hv
 exact s.one
def gP (f:List In) (s:PSt) (gp gm:Nat) (w:World) (e:Ending) (w':World):Prop:=
 match fol f s with
 | none=>e=.returned (.bool false)∧Below w.heap.size w w'
 | some s'=>e=.returned (.bool true)∧Fr (fun k=>k=gp∨k=gm) w w'∧ci w' gp s'∧ee w' gm s'.met
theorem sJ {f:List In} {s:PSt} {x:In} {gp gm:Nat} {w w':World} {e:Ending} (hx:f[s.at_]?=some x) (h:x.moves=false∨s.met.getD s.at_ true=true) (he:e=.returned (.bool false)) (hb:Below w.heap.size w w'):gP f s gp gm w e w':=by
 unfold gP fol
 rw[hx]
 simp only[if_pos h]
 exact⟨he,hb⟩
theorem sI {f:List In} {s:PSt} {x:In} {gp gm:Nat} {w w':World} {e:Ending} (hx:f[s.at_]?=some x) (h1:x.moves=true) (h2:s.met.getD s.at_ true=false) {k:Nat} (hk:k=if x.op=16 then x.jt.toNat else s.at_+1)
  (he:e=.returned (.bool true)) (hfr:Fr (fun k=>k=gp∨k=gm) w w') (hp:ci w' gp ⟨k,fD s.t x,s.steps+1,s.met.set s.at_ true⟩) (hm:ee w' gm (s.met.set s.at_ true)):gP f s gp gm w e w':=by
 unfold gP fol
 rw[hx]
 have hn:¬ (x.moves=false∨s.met.getD s.at_ true=true):=by rw[h1,h2];decide
 simp only[if_neg hn]
 subst hk
 exact⟨he,hfr,hp,hm⟩
theorem tT {t':List Sr} (h:t'.length=24):(Tryz.prog.info? 99).map (·.size)=some (t'.map Sr.v).length:=by rw[List.length_map,h];exact j7
theorem ci.load {w:World} {g:Nat} {s:PSt} (h:ci w g s):(loadVar 99 ⟨g,1,none⟩).run Tryz.prog w=.ok (.agg (av s.t)) w:=
 bU h.1 99 1 (s.t.map Sr.v) (by rw[List.length_map,h.2];exact CT h.2) _ Tryz.underlying99 rfl (tT h.2)
theorem ci.row {w:World} {g:Nat} {s:PSt} (h:ci w g s) {t':List Sr} (h':t'.length=24):ci (w.setRow g (dp ⟨s.at_,t',s.steps,s.met⟩).toArray) g ⟨s.at_,t',s.steps,s.met⟩:=⟨setRow_heap w g _ _ 101 _ h.1,h'⟩
theorem ci.far {w:World} {g:Nat} {s:PSt} (h:ci w g s) {p:Addr} (hp:g≠p.block) (u:Value):ci (w.setCell p u) g s:=⟨a8 h.1 hp u,h.2⟩
theorem ci.below {w w':World} {g:Nat} {s:PSt} (h:ci w g s) {B:Nat} (hb:Below B w w') (hg:g < B):ci w' g s:=⟨(hb.block g hg).trans h.1,h.2⟩
theorem ci.set25 {w:World} {g:Nat} {s:PSt} (h:ci w g s) (n:Nat):ci (w.setCell ⟨g,25,none⟩ (.int .i64 (n:Int))) g ⟨s.at_,s.t,n,s.met⟩:=⟨(aJ h.1 25 _).trans (by rw[zE h.2]),h.2⟩
theorem ci.set0 {w:World} {g:Nat} {s:PSt} (h:ci w g s) (n:Nat):ci (w.setCell ⟨g,0,none⟩ (.int .i64 (n:Int))) g ⟨n,s.t,s.steps,s.met⟩:=⟨(aJ h.1 0 _).trans (by rw[Bz]),h.2⟩
theorem ee.far {w:World} {g:Nat} {m:List Bool} (h:ee w g m) {p:Addr} (hp:g≠p.block) (u:Value):ee (w.setCell p u) g m:=⟨a8 h.1 hp u,h.2⟩
theorem ee.row {w:World} {g g':Nat} {m:List Bool} (h:ee w g m) (hp:g≠g') (cs:Array Value):ee (w.setRow g' cs) g m:=⟨(setRow_other w g' g cs hp).trans h.1,h.2⟩
theorem ee.below {w w':World} {g:Nat} {m:List Bool} (h:ee w g m) {B:Nat} (hb:Below B w w') (hg:g < B):ee w' g m:=⟨(hb.block g hg).trans h.1,h.2⟩
theorem ee.put {w:World} {g:Nat} {m:List Bool} (h:ee w g m) (i:Nat):ee (w.setCell ⟨g,i,none⟩ (.bool true)) g (m.set i true):=⟨(aJ h.1 i _).trans (by rw[BF]),by rw[List.length_set];exact h.2⟩
theorem ix {ops:Array Oper} {rest:List Oper} {o:Oper} {a:Act} {W:World} {Q:Exit→Act→World→Prop} (hgd:o.guard=none) (x y:Operand) (ho:o.op=.store 99 x y) (g:Nat) (s:PSt) (t':List Sr)
  (hx:a.eval x=.pointer (some ⟨g,1,none⟩)) (hy:a.eval y=.agg (av t')) (hp:ci W g s) (h':t'.length=24)
  (h:wpList Tryz.prog ops Q rest (a.put o.dst undef) (W.setRow g (dp ⟨s.at_,t',s.steps,s.met⟩).toArray)):wpList Tryz.prog ops Q (o :: rest) a W:=by
 refine fi hgd 99 x y ho g 1 (t'.map Sr.v) hx hy 101 (dp s) hp.1 (tT h') (by rw[CV hp.2,List.length_map,h'];decide) (CQ t') ?_
 rw[List.length_map,h',CU hp.2 t' h']
 exact h
theorem sb (f:List In) (s:PSt) (gf gp gm:Nat) (A:Option Addr) (c:Nat) (w:World) (hl:f.length≤200) (hat:s.at_ < f.length) (hst:s.steps≤1000) (x:In) (hx:f[s.at_]?=some x) (hj:x.op=16→0≤x.jt)
  (hf:w.heap[gf]?=some (.cells #[.slice A f.length c] 22 (0,0))) (hC:Kd.C kIn w A f.length f) (hp:ci w gp s) (hm:ee w gm s.met) :
  Calls Tryz.prog 69 #[.pointer (some ⟨gf,0,none⟩),.pointer (some ⟨gp,0,none⟩),.pointer (some ⟨gm,0,none⟩)] w (gP f s gp gm w):=by
 have hne:gp≠gm:=fun e=>by have h1:=hp.1;have h2:=hm.1;rw[e,h2] at h1;injection h1 with h1;injection h1 with _ h1;exact absurd h1 (by decide)
 obtain⟨p,t,st,m⟩:=s
 simp only at hat hst hx hm
 have c1:=(show w.cell? ⟨gf,0,none⟩=some (.slice A f.length c) by rw[ah hf];rfl)
 have c2:=(show w.cell? ⟨gp,0,none⟩=some (.int .i64 (p:Int)) by rw[ap hp.1];rfl)
 obtain⟨ad,rfl,d0,d1,d2,d3,d4,d5⟩:=po hC p hat x hx
 have hpm:m[p]?=some (m.getD p true):=by rw[List.getD_eq_getElem?_getD,List.getElem?_eq_getElem (by rw[hm.2];omega)];rfl
 obtain⟨b,hb⟩:=nm_ (m.getD p true)
 rw[←hb] at hpm
 have c3:w.cell? ⟨gm,p,none⟩=some (.bool b):=by rw[ap hm.1,List.getElem?_map,hpm];rfl
 have hp200:(p:Int) < 200:=by omega
 have hpl:(p:Int) < (f.length:Int):=by omega
 have L1:=ak_ (ai hp.1)
 have L2:=ak_ (ai hm.1)
 have HX:=ak_ hx
 have HP:=ak_ hp
 have HM:=ak_ hm
 have HNe:=ak_ hne
 have HBb:=ak_ hb
 have HJ:=ak_ hj
 obtain⟨mv,hmv⟩:=nm_ x.moves
 have hcm:=m8 x
 rw[←hmv] at hcm
 have HCm:=ak_ hcm
 have HMv:=ak_ hmv
 have hst':(st:Int)≤1000:=by omega
 clear hf hC hp hm hx hne hb hj hmv hcm hpm hat
 cases mv with
 | false=>
  go_enter Tryz.func69,Tryz.ntmps69
  go_wp2_with (first | (go_at_call 66;refine(HCm.out _).mono ?_;rintro e w1 ⟨rfl,hb⟩;have B1:=ak_ (af (ae (Below.refl w.heap.size w) (.cells x.cells 49 (0,0))) hb);have KX:=ak_ (show be w1 w.heap.size x from be.below (show be (w.alloc (.cells x.cells 49 (0,0))) w.heap.size x from heap_alloc_last w _) hb);have KP:aa (ci w1 gp ⟨p,t,st,m⟩):=⟨(B1.out.block _ L1.out).trans HP.out.1,HP.out.2⟩;have KM:aa (ee w1 gm m):=⟨(B1.out.block _ L2.out).trans HM.out.1,HM.out.2⟩;have e2:=(B1.out.cell (p:=⟨gp,0,none⟩) L1.out).trans c2;have e3:=(B1.out.cell (p:=⟨gm,p,none⟩) L2.out).trans c3))
  go_ret
  exact sJ HX.out (.inl HMv.out.symm) rfl B1.out
 | true=>
  cases b with
  | true=>
   go_enter Tryz.func69,Tryz.ntmps69
   go_wp2_with (first | (go_at_call 66;refine(HCm.out _).mono ?_;rintro e w1 ⟨rfl,hb⟩;have B1:=ak_ (af (ae (Below.refl w.heap.size w) (.cells x.cells 49 (0,0))) hb);have KX:=ak_ (show be w1 w.heap.size x from be.below (show be (w.alloc (.cells x.cells 49 (0,0))) w.heap.size x from heap_alloc_last w _) hb);have KP:aa (ci w1 gp ⟨p,t,st,m⟩):=⟨(B1.out.block _ L1.out).trans HP.out.1,HP.out.2⟩;have KM:aa (ee w1 gm m):=⟨(B1.out.block _ L2.out).trans HM.out.1,HM.out.2⟩;have e2:=(B1.out.cell (p:=⟨gp,0,none⟩) L1.out).trans c2;have e3:=(B1.out.cell (p:=⟨gm,p,none⟩) L2.out).trans c3))
   go_ret
   exact sJ HX.out (.inr HBb.out.symm) rfl B1.out
  | false=>
   have HA:=ak_ (yI t HP.out.2 x)
   have HL:=ak_ (pq x HP.out.2)
   obtain⟨t',ht'⟩:∃ t',t'=fD t x:=⟨_,rfl⟩
   rw[←ht'] at HA HL
   have HT:=ak_ ht'
   clear ht'
   by_cases h16:x.op=16
   ·have q16:(x.op == 16)=true:=beq_iff_eq.mpr h16
    have J:=ak_ (HJ.out h16)
    have H16:=ak_ h16
    clear h16
    go_enter Tryz.func69,Tryz.ntmps69
    go_wp2_with (first
     | (go_at_call 66;refine(HCm.out _).mono ?_;rintro e w1 ⟨rfl,hb⟩;have B1:=ak_ (af (ae (Below.refl w.heap.size w) (.cells x.cells 49 (0,0))) hb);have KX:=ak_ (show be w1 w.heap.size x from be.below (show be (w.alloc (.cells x.cells 49 (0,0))) w.heap.size x from heap_alloc_last w _) hb);have KP:aa (ci w1 gp ⟨p,t,st,m⟩):=⟨(B1.out.block _ L1.out).trans HP.out.1,HP.out.2⟩;have KM:aa (ee w1 gm m):=⟨(B1.out.block _ L2.out).trans HM.out.1,HM.out.2⟩;have e2:=(B1.out.cell (p:=⟨gp,0,none⟩) L1.out).trans c2;have e3:=(B1.out.cell (p:=⟨gm,p,none⟩) L2.out).trans c3;clear hb;have f3:=aq KM.out.1 p)
     | ((with_reducible refine aj (N:=23) rfl ?_);have Z:=HNe.out;have Z1:=L1.out;have Z2:=L2.out;have KP2:=ak_ (KP.out.far (p:=⟨gm,p,none⟩) Z (.bool true));have KM2:=ak_ (KM.out.put p);have KX2:=ak_ (KX.out.far (p:=⟨gm,p,none⟩) (Nat.ne_of_gt Z2) (.bool true));refine au rfl 99 _ rfl ⟨gp,1,none⟩ rfl _ KP2.out.load ?_;clear Z Z1 Z2)
     | ((with_reducible refine aj (N:=24) rfl ?_);refine wpList_load_row rfl 49 _ rfl w.heap.size rfl 49 x.cells (0,0) _ KX2.out Tryz.underlying49 rfl bE ?_)
     | (go_at_call 70;refine(HA.out _).mono ?_;rintro e w3 ⟨rfl,hb⟩;have Z1:=L1.out;have Z2:=L2.out;have Z3:=B1.out.size;have B3:=ak_ hb;have KP3:=ak_ (KP2.out.below hb (ai KP2.out.1));have KM3:=ak_ (KM2.out.below hb (ai KM2.out.1));have KX3:=ak_ (KX2.out.below hb);clear hb Z1 Z2 Z3)
     | ((with_reducible refine ao (t:=99) (p:=26) rfl ?_);refine ix rfl _ _ rfl gp ⟨p,t,st,m⟩ t' rfl rfl KP3.out HL.out ?_;have Z:=HNe.out;have Z1:=L1.out;have KP4:=ak_ (KP3.out.row HL.out);have KM4:=ak_ (KM3.out.row (Ne.symm Z) (dp ⟨p,t',st,m⟩).toArray);have KX4:=ak_ (KX3.out.row (Nat.ne_of_gt Z1) (dp ⟨p,t',st,m⟩).toArray);have f0:=aq KP4.out.1 0;have f25:=aq KP4.out.1 25;have g0:=(show World.cell? _ ⟨gp,0,none⟩=some (.int .i64 (p:Int)) by rw[ap KP4.out.1];rfl);have g25:=(show World.cell? _ ⟨gp,25,none⟩=some (.int .i64 (st:Int)) by rw[ap KP4.out.1];exact oy KP4.out.2);have x0:=KX4.out.cells6.1;have x5:=KX4.out.cells6.2.2.2.2.2;have hne0:w.heap.size≠gp:=(Nat.ne_of_gt Z1);clear Z Z1))
    go_ret
    refine sI HX.out HMv.out.symm HBb.out.symm (k:=x.jt.toNat) (by rw[if_pos H16.out]) rfl (((((((Fr.of_below B1.out).trans (Fr.cell (p:=⟨gm,p,none⟩) (.inr rfl) _)).trans (Fr.of_below B3.out)).trans (Fr.row (.inl rfl) _)).trans (Fr.cell (p:=⟨gp,25,none⟩) (.inl rfl) _)).trans (Fr.cell (p:=⟨gp,0,none⟩) (.inl rfl) _)).trans (Fr.cell (p:=⟨gp,0,none⟩) (.inl rfl) _)) ?_ (((KM4.out.far (p:=⟨gp,25,none⟩) (Ne.symm HNe.out) _).far (p:=⟨gp,0,none⟩) (Ne.symm HNe.out) _).far (p:=⟨gp,0,none⟩) (Ne.symm HNe.out) _)
    have hh:=((KP4.out.set25 (st+1)).set0 (p+1)).set0 x.jt.toNat
    rw[Int.toNat_of_nonneg J.out,HT.out] at hh
    rw[HT.out]
    exact hh
   ·have q16:(x.op == 16)=false:=beq_eq_false_iff_ne.mpr h16
    have H16:=ak_ h16
    clear h16
    go_enter Tryz.func69,Tryz.ntmps69
    go_wp2_with (first
     | (go_at_call 66;refine(HCm.out _).mono ?_;rintro e w1 ⟨rfl,hb⟩;have B1:=ak_ (af (ae (Below.refl w.heap.size w) (.cells x.cells 49 (0,0))) hb);have KX:=ak_ (show be w1 w.heap.size x from be.below (show be (w.alloc (.cells x.cells 49 (0,0))) w.heap.size x from heap_alloc_last w _) hb);have KP:aa (ci w1 gp ⟨p,t,st,m⟩):=⟨(B1.out.block _ L1.out).trans HP.out.1,HP.out.2⟩;have KM:aa (ee w1 gm m):=⟨(B1.out.block _ L2.out).trans HM.out.1,HM.out.2⟩;have e2:=(B1.out.cell (p:=⟨gp,0,none⟩) L1.out).trans c2;have e3:=(B1.out.cell (p:=⟨gm,p,none⟩) L2.out).trans c3;clear hb;have f3:=aq KM.out.1 p)
     | ((with_reducible refine aj (N:=23) rfl ?_);have Z:=HNe.out;have Z1:=L1.out;have Z2:=L2.out;have KP2:=ak_ (KP.out.far (p:=⟨gm,p,none⟩) Z (.bool true));have KM2:=ak_ (KM.out.put p);have KX2:=ak_ (KX.out.far (p:=⟨gm,p,none⟩) (Nat.ne_of_gt Z2) (.bool true));refine au rfl 99 _ rfl ⟨gp,1,none⟩ rfl _ KP2.out.load ?_;clear Z Z1 Z2)
     | ((with_reducible refine aj (N:=24) rfl ?_);refine wpList_load_row rfl 49 _ rfl w.heap.size rfl 49 x.cells (0,0) _ KX2.out Tryz.underlying49 rfl bE ?_)
     | (go_at_call 70;refine(HA.out _).mono ?_;rintro e w3 ⟨rfl,hb⟩;have Z1:=L1.out;have Z2:=L2.out;have Z3:=B1.out.size;have B3:=ak_ hb;have KP3:=ak_ (KP2.out.below hb (ai KP2.out.1));have KM3:=ak_ (KM2.out.below hb (ai KM2.out.1));have KX3:=ak_ (KX2.out.below hb);clear hb Z1 Z2 Z3)
     | ((with_reducible refine ao (t:=99) (p:=26) rfl ?_);refine ix rfl _ _ rfl gp ⟨p,t,st,m⟩ t' rfl rfl KP3.out HL.out ?_;have Z:=HNe.out;have Z1:=L1.out;have KP4:=ak_ (KP3.out.row HL.out);have KM4:=ak_ (KM3.out.row (Ne.symm Z) (dp ⟨p,t',st,m⟩).toArray);have KX4:=ak_ (KX3.out.row (Nat.ne_of_gt Z1) (dp ⟨p,t',st,m⟩).toArray);have f0:=aq KP4.out.1 0;have f25:=aq KP4.out.1 25;have g0:=(show World.cell? _ ⟨gp,0,none⟩=some (.int .i64 (p:Int)) by rw[ap KP4.out.1];rfl);have g25:=(show World.cell? _ ⟨gp,25,none⟩=some (.int .i64 (st:Int)) by rw[ap KP4.out.1];exact oy KP4.out.2);have x0:=KX4.out.cells6.1;have x5:=KX4.out.cells6.2.2.2.2.2;have hne0:w.heap.size≠gp:=(Nat.ne_of_gt Z1);clear Z Z1))
    go_ret
    refine sI HX.out HMv.out.symm HBb.out.symm (k:=p+1) (by rw[if_neg H16.out]) rfl ((((((Fr.of_below B1.out).trans (Fr.cell (p:=⟨gm,p,none⟩) (.inr rfl) _)).trans (Fr.of_below B3.out)).trans (Fr.row (.inl rfl) _)).trans (Fr.cell (p:=⟨gp,25,none⟩) (.inl rfl) _)).trans (Fr.cell (p:=⟨gp,0,none⟩) (.inl rfl) _)) ?_ ((KM4.out.far (p:=⟨gp,25,none⟩) (Ne.symm HNe.out) _).far (p:=⟨gp,0,none⟩) (Ne.symm HNe.out) _)
    have hh:=(KP4.out.set25 (st+1)).set0 (p+1)
    rw[HT.out] at hh
    rw[HT.out]
    exact hh
structure Cu (n:Int) (x:In):Prop where
 op:1≤x.op∧x.op≤18
 d:0≤x.d∧x.d≤23
 a:0≤x.a∧x.a≤23
 b:0≤x.b∧x.b≤23
 jt:x.op=16∨x.op=17→0≤x.jt∧x.jt < n
 call:x.op=15→0≤x.n∧x.n≤99
theorem DA {n:Int} {x:In} (h:cP x n=0):Cu n x:=by
 unfold cP at h
 split at h
 ·exact absurd h (by decide)
 ·rename_i hb
  obtain⟨op,d,a,b,k,jt⟩:=x
  have hop:mD op=true:=by
   cases ho:mD op with
   | true=>rfl
   | false=>exact absurd (by unfold mO;simp[ho]) hb
  have hop2:1≤op∧op≤18:=of_decide_eq_true hop
  have hr:mx ⟨op,d,a,b,k,jt⟩ (shF op)=In.zero:=by
   unfold mO at hb
   simp only[Bool.or_eq_true,not_or,Bool.not_eq_true,Bool.not_eq_false',decide_eq_true_eq] at hb
   exact hb.2.1
  have hc:op=15→0≤k∧k≤99:=by
   intro h15
   unfold mO at hb
   simp only[Bool.or_eq_true,not_or,Bool.not_eq_true,Bool.and_eq_false_imp,Bool.or_eq_false_iff,decide_eq_false_iff_not] at hb
   have:=hb.2.2 (by simp[h15])
   omega
  have key:∀ (l:List Int) (F:ByteArray),shF op=F→bl F 0=l→iw ⟨op,d,a,b,k,jt⟩ n l false=0:=by
   intro l F e1 e2
   rw[←e2,←e1]
   exact h
  clear h hb hop
  obtain⟨o,rfl⟩:∃ o:Nat,op=(o:Int):=⟨op.toNat,by omega⟩
  have ho:o=1∨o=2∨o=3∨o=4∨o=5∨o=6∨o=7∨o=8∨o=9∨o=10∨o=11∨o=12∨o=13∨o=14∨o=15∨o=16∨o=17∨o=18:=by omega
  rcases ho with rfl | rfl | rfl | rfl | rfl | rfl | rfl | rfl | rfl | rfl | rfl | rfl | rfl | rfl | rfl | rfl | rfl | rfl
  all_goals first
   | have k1:=key [100,78] _ rfl (by decide)
   | have k1:=key [100,97] _ rfl (by decide)
   | have k1:=key [68,65,66] _ rfl (by decide)
   | have k1:=key [68,65] _ rfl (by decide)
   | have k1:=key [65,66] _ rfl (by decide)
   | have k1:=key [68,65,78] _ rfl (by decide)
   | have k1:=key [84] _ rfl (by decide)
   | have k1:=key [65,84] _ rfl (by decide)
   | have k1:=key [65] _ rfl (by decide)
  all_goals
   clear key
   simp[iw,fF,In.get,inR,lV] at k1
   first
    | have hr1:(⟨0,0,a,b,0,jt⟩:In)=In.zero:=hr
    | have hr1:(⟨0,0,0,b,k,jt⟩:In)=In.zero:=hr
    | have hr1:(⟨0,0,0,0,k,jt⟩:In)=In.zero:=hr
    | have hr1:(⟨0,d,0,0,k,jt⟩:In)=In.zero:=hr
    | have hr1:(⟨0,0,0,b,0,jt⟩:In)=In.zero:=hr
    | have hr1:(⟨0,d,a,b,k,0⟩:In)=In.zero:=hr
    | have hr1:(⟨0,d,0,b,k,0⟩:In)=In.zero:=hr
    | have hr1:(⟨0,d,0,b,k,jt⟩:In)=In.zero:=hr
   simp only[In.zero,In.mk.injEq] at hr1
   clear hr
   refine⟨?_,?_,?_,?_,?_,?_⟩ <;> simp only[] <;> omega
theorem nh {n:Int}:∀ (f:List In) (i:Nat),el n f i=none→∀ x∈f,cP x n=0
 | [],_,_,x,hx=>absurd hx (List.not_mem_nil)
 | y :: f,i,h,x,hx=>by
  unfold el at h
  split at h
  ·rename_i h0
   rcases List.mem_cons.1 hx with rfl | hx
   ·exact h0
   ·exact nh f (i+1) h x hx
  ·exact absurd h (by simp)
theorem m_ {n:Int}:∀ (f:List In) (i:Nat) (r:Int × Int),el n f i=some r→r.2≠0
 | [],_,r,h=>absurd h (by simp[el])
 | y :: f,i,r,h=>by
  unfold el at h
  split at h
  ·exact m_ f (i+1) r h
  ·rename_i h0
   injection h with h
   subst h
   exact h0
structure dy (f:List In):Prop where
 len:f.length≤200
 pos:0 < f.length
 ok:∀ (i:Nat) (x:In),f[i]?=some x→Cu f.length x
 last:gA f=16∨gA f=18
theorem bN {f:List In} (h:bi f=true):dy f:=by
 unfold bi cd at h
 by_cases h1:200 < f.length
 ·rw[if_pos h1] at h;exact absurd h (by decide)
 ·rw[if_neg h1] at h
  by_cases h2:f.length=0
  ·rw[if_pos h2] at h;exact absurd h (by decide)
  ·rw[if_neg h2] at h
   cases hc:el f.length f 0 with
   | some r=>
    rw[hc] at h
    exact absurd (beq_iff_eq.1 h) (m_ f 0 r hc)
   | none=>
    rw[hc] at h
    simp only at h
    refine⟨by omega,by omega,fun i x hx=>DA (nh f 0 hc x (List.mem_of_getElem? hx)),?_⟩
    by_cases h3:gA f≠16∧gA f≠18
    ·rw[if_pos h3] at h;exact absurd (beq_iff_eq.1 h) (by show ¬ (5:Int)=0;decide)
    ·omega
theorem dy.next {f:List In} (h:dy f) {i:Nat} {x:In} (hx:f[i]?=some x) (h1:x.op≠16) (h2:x.op≠18):i+1 < f.length:=by
 obtain⟨hi,e⟩:=List.getElem?_eq_some_iff.1 hx
 by_cases h3:i=f.length - 1
 ·have hl:=h.last
  unfold gA at hl
  rw[←h3,List.getD_eq_getElem?_getD,hx] at hl
  simp only[Option.getD_some] at hl
  omega
 ·omega
def il:Nat→List In→PSt→PSt
 | 0,_,s=>s
 | n+1,f,s=>match fol f s with
  | none=>s
  | some s'=>il n f s'
def lG (at_:Nat):PSt:=⟨at_,first,0,List.replicate 200 false⟩
def ki (f:List In) (at_:Nat):PSt:=il 201 f (lG at_)
structure gx (f:List In) (at0:Nat) (s:PSt):Prop where
 at_:s.at_ < f.length
 t:s.t.length=24
 len:s.met.length=200
 steps:s.steps=s.met.count true
 run:il (201 - s.steps) f s=ki f at0
theorem gx.bound {f:List In} {a:Nat} {s:PSt} (h:gx f a s):s.steps≤200:=by
 rw[h.steps,←h.len]
 exact List.count_le_length
theorem gx.init {f:List In} {a:Nat} (h:a < f.length):gx f a (lG a):=⟨h,rfl,List.length_replicate,by simp[lG,List.count_replicate],rfl⟩
theorem nD {f:List In} {s s':PSt} (h:fol f s=some s'):∃ x,f[s.at_]?=some x∧x.moves=true∧s.met.getD s.at_ true=false∧s'=⟨if x.op=16 then x.jt.toNat else s.at_+1,fD s.t x,s.steps+1,s.met.set s.at_ true⟩:=by
 unfold fol at h
 split at h
 ·exact absurd h (by simp)
 ·rename_i x hx
  split at h
  ·exact absurd h (by simp)
  ·rename_i hn
   refine⟨x,hx,?_,?_,?_⟩
   ·cases hm:x.moves <;> simp[hm] at hn ⊢
   ·cases hm:s.met.getD s.at_ true with
    | false=>rfl
    | true=>exact absurd (.inr hm) hn
   ·injection h with h;exact h.symm
theorem gx.step {f:List In} (hr:dy f) {a:Nat} {s s':PSt} (h:gx f a s) (hs:fol f s=some s'):gx f a s':=by
 obtain⟨x,hx,hm,hn,rfl⟩:=nD hs
 have hok:=hr.ok _ x hx
 have hlt:=h.at_
 have hl200:=hr.len
 have hmet:s.met[s.at_]?=some false:=by
  rw[List.getD_eq_getElem?_getD] at hn
  rw[List.getElem?_eq_getElem (by rw[h.len];omega)] at hn ⊢
  exact congrArg some hn
 obtain⟨hi,hg⟩:=List.getElem?_eq_some_iff.1 hmet
 have hcnt:(s.met.set s.at_ true).count true=s.met.count true+1:=by
  rw[List.count_set hi,hg]
  simp
 have hb:s.steps+1≤200:=by
  have h2:(s.met.set s.at_ true).count true≤(s.met.set s.at_ true).length:=List.count_le_length
  rw[List.length_set,h.len,hcnt,←h.steps] at h2
  exact h2
 refine⟨?_,pq x h.t,by simpa using h.len,by simp only[hcnt,h.steps],?_⟩
 ·simp only
  split
  ·rename_i h16
   have:=hok.jt (.inl h16)
   omega
  ·rename_i h16
   refine hr.next hx h16 (fun h18=>?_)
   unfold In.moves at hm
   simp[h18] at hm
 ·simp only
  have:=h.run
  rw[show 201 - s.steps=(201 - (s.steps+1))+1 by omega,il,hs] at this
  exact this
theorem gx.done {f:List In} {a:Nat} {s:PSt} (h:gx f a s) (hs:fol f s=none):s=ki f a:=by
 have:=h.run
 have hb:=h.bound
 rw[show 201 - s.steps=(201 - (s.steps+1))+1 by omega,il,hs] at this
 exact this
structure Pth where
 jt:Int
 t:List Sr
 steps:Int
def Pth.cells (p:Pth):List Value:=.int .i64 p.jt :: (p.t.map Sr.v++[.int .i64 p.steps])
def b_ (f:List In) (a:Nat):Pth:=let s:=ki f a;if s.met.getD s.at_ true=true then ⟨-1,first,0⟩ else ⟨s.at_,s.t,s.steps⟩
theorem Ah (vs:List Value) (off:Nat):∀ (k:Nat) (cs:Array Value) (i:Nat),((vs.zipIdx k).foldl (fun cs (p:Value × Nat)=>cs.setIfInBounds (off+p.2) p.1) cs)[i]?=if off+k≤i∧i < off+k+vs.length∧i < cs.size then vs[i - (off+k)]? else cs[i]?:=by
 induction vs with
 | nil=>intro k cs i;simp;omega
 | cons v vs ih=>
  intro k cs i
  rw[List.zipIdx_cons,List.foldl_cons,ih]
  simp only[Array.size_setIfInBounds,List.length_cons]
  by_cases h1:i=off+k
  ·subst h1
   rw[if_neg (by omega)]
   by_cases h2:off+k < cs.size
   ·rw[if_pos (by omega)]
    simp[h2]
   ·rw[if_neg (by omega)]
    rw[Array.getElem?_eq_none (by simp;omega),Array.getElem?_eq_none (by omega)]
  ·by_cases h2:off+(k+1)≤i∧i < off+(k+1)+vs.length∧i < cs.size
   ·rw[if_pos h2,if_pos (by omega),show i - (off+k)=(i - (off+(k+1)))+1 by omega,List.getElem?_cons_succ]
   ·rw[if_neg h2,if_neg (by omega),Array.getElem?_setIfInBounds_ne (by omega)]
theorem sH (vs:List Value) (off:Nat) (cs:List Value) (h:off+vs.length≤cs.length):vs.toArray.zipIdx.foldl (fun cs (p:Value × Nat)=>cs.setIfInBounds (off+p.2) p.1) cs.toArray=(cs.take off++vs++cs.drop (off+vs.length)).toArray:=by
 apply Array.ext_getElem?
 intro i
 have h0:vs.toArray.zipIdx.foldl (fun cs (p:Value × Nat)=>cs.setIfInBounds (off+p.2) p.1) cs.toArray=(vs.zipIdx 0).foldl (fun cs (p:Value × Nat)=>cs.setIfInBounds (off+p.2) p.1) cs.toArray:=by simp
 rw[h0,Ah]
 simp only[Nat.add_zero,List.size_toArray,List.getElem?_toArray]
 by_cases h1:i < off
 ·rw[if_neg (by omega),List.append_assoc,List.getElem?_append_left (by simp;omega),List.getElem?_take_of_lt h1]
 ·by_cases h2:i < off+vs.length
  ·rw[if_pos (by omega),List.append_assoc,List.getElem?_append_right (by simp;omega),List.getElem?_append_left (by simp;omega)]
   simp
   congr 1
   omega
  ·rw[if_neg (by omega),List.getElem?_append_right (by simp;omega),List.getElem?_drop]
   congr 1
   simp
   omega
theorem im (place:Nat→Option (Nat × Nat)) (cs:List Value) (i off size:Nat) (vs:List Value) (rest:List (Nat × Value)) (hp:place i=some (off,size)) (hs:vs.length=size) (hl:off+size≤cs.length) :
  Instr.fill place cs.toArray ((i,.agg vs.toArray) :: rest)=Instr.fill place (cs.take off++vs++cs.drop (off+vs.length)).toArray rest:=by
 have hc:(Value.agg vs.toArray).cells=vs.toArray:=rfl
 conv=>lhs;unfold Instr.fill
 simp only[hp,hc]
 rw[if_neg (by simp;omega)]
 exact congrArg (fun z=>Instr.fill place z rest) (sH vs off cs (by omega))
theorem aM {P:Program} {ops:Array Oper} {rest:List Oper} {o:Oper} {a:Act} {w:World} {Q:Exit→Act→World→Prop} (hg:o.guard=none) (t:TypeId) (parts:Array (Nat × Operand)) (ho:o.op=.build t parts) (L:List (Nat × Value)) (cells:Array Value)
  (hL0:(parts.toList.map fun p=>(p.1,a.eval p.2))=L) (hb:P.built t L=some cells) (h:wpList P ops Q rest (a.put o.dst (.agg cells)) w):wpList P ops Q (o :: rest) a w:=by
 have hL:(parts.map fun (i,x)=>(i,a.eval x)).toList=L:=by rw[Array.toList_map];exact hL0
 refine wpList_build hg t parts ho (by rw[hL,hb];rfl) ?_
 rw[hL,hb]
 exact h
theorem sW (n:Int) (T:List Sr) (h:T.length=24):Tryz.prog.built 101 [(0,.int .i64 n),(1,.agg (av T))]=some (Pth.cells ⟨n,T,0⟩).toArray:=by
 have h1:Tryz.prog.built 101 [(0,.int .i64 n),(1,.agg (av T))]=Instr.fill (#[(0,1),(1,24),(25,1)][·]?) (.int .i64 n :: (bo.map Sr.v++[.int .i64 0])).toArray [(1,.agg (T.map Sr.v).toArray)]:=by rfl
 rw[h1,im _ _ 1 1 24 (T.map Sr.v) [] rfl (by simp[h]) (by simp[bo])]
 simp[Instr.fill,Pth.cells,h,bo]
theorem ar {P:Program} {c:Code} {Q:Exit→Act→World→Prop} {a:Act} {W W':World} (h:W=W') (k:Code.wp P c Q a W'):Code.wp P c Q a W:=h ▸ k
def i_ (f:List In) (a:Int) (e:Ending):Prop:=
 if bi f=true∧0≤a∧a < f.length then e=.returned (.tuple #[.agg (b_ f a.toNat).cells.toArray,.int .i64 0])
 else e=.returned (.tuple #[.agg (Pth.cells ⟨0,bo,0⟩).toArray,.int .i64 1])
theorem B5:(Tryz.prog.info? 101).map (·.size)=some 26:=by kernel_rfl
theorem iB {p:Pth} (h:p.t.length=24):p.cells.length=26:=by simp[Pth.cells,h]
theorem db {p:Pth} (h:p.t.length=24):(Tryz.prog.info? 101).map (·.size)=some p.cells.toArray.size:=by
 rw[List.size_toArray,iB h]
 exact B5
theorem fY (p:Pth):p.cells.toArray.all (·.oneCell')=true:=by
 rw[Array.all_eq_true_iff_forall_mem]
 intro v hv
 simp only[List.mem_toArray,Pth.cells,List.mem_cons,List.mem_append,List.mem_map,List.not_mem_nil,or_false] at hv
 rcases hv with rfl | ⟨s,_,rfl⟩ | rfl
 ·rfl
 ·exact s.one
 ·rfl
def pz (w:World) (v:Value) (w1:World):Prop:=Below w.heap.size w w1∧w1.heap[w.heap.size+1]?=some (.cells (Pth.cells ⟨0,bo,0⟩).toArray 101 (0,0))∧w1.heap[w.heap.size]?=some (.cells #[v] 22 (0,0))
theorem asked (w:World) (v:Value) {w1:World} (hb:Below ((w.alloc (.cells #[v] 22)).alloc (.cells (Pth.cells ⟨0,bo,0⟩).toArray 101)).heap.size ((w.alloc (.cells #[v] 22)).alloc (.cells (Pth.cells ⟨0,bo,0⟩).toArray 101)) w1):pz w v w1:=by
 obtain⟨h1,h2,h3⟩:=dm hb
 exact⟨h3,h1,h2⟩
theorem pD (f:List In) (a:Int) (A:Option Addr) (c:Nat) (w:World) (hG:Gl w) (hC:Kd.C kIn w A f.length f) (hc:f.length≤c) (hbad:¬ (bi f=true∧0≤a∧a < f.length)) :
  Calls Tryz.prog 39 #[.slice A f.length c,.int .i64 a] w fun e w'=>i_ f a e∧Below w.heap.size w w':=by
 have hmax:=Kd.C_max hC
 have HR:=ak_ (dY A c f)
 have HC:=ak_ hC
 have HG:=ak_ hG
 have Hc:=ak_ hc
 have HP:aa (∀ e,e=.returned (.tuple #[.agg (Pth.cells ⟨0,bo,0⟩).toArray,.int .i64 1])→i_ f a e):=⟨fun e he=>by unfold i_;rw[if_neg hbad];exact he⟩
 obtain⟨b,hb⟩:=nm_ (bi f)
 rw[←hb] at HR hbad
 clear hG hC hc hb
 by_cases hb0:b=false
 ·subst hb0
  clear hbad
  go_enter Tryz.func39,Tryz.ntmps39
  go_wp2_with (first
   | (go_at_call 47;have hbA:=(ae (ae (Below.refl w.heap.size w) (.cells #[.slice A f.length c] 22)) (.cells (Pth.cells ⟨0,bo,0⟩).toArray 101));refine(HR.out _ (HG.out.below hbA) (Kd.C_below HC.out hbA) Hc.out).mono ?_;rintro e w1 ⟨rfl,hb⟩;have B1:=ak_ (asked w _ hb);clear hbA hb)
   | ((with_reducible refine ao (t:=101) (p:=4) rfl ?_);refine wpList_store_row rfl 101 _ _ rfl (w.heap.size+1) (Pth.cells ⟨0,bo,0⟩).toArray rfl rfl 101 (Pth.cells ⟨0,bo,0⟩).toArray B1.out.2.1 (db rfl) rfl (fY _) ?_))
  exact bodyPost_ret (v:=.tuple #[.agg (Pth.cells ⟨0,bo,0⟩).toArray,.int .i64 1]) (aA (rs:=[.cell 4 101,.tmp 5]) rfl (by simp) (.cell (w.heap.size+1) 101 (Pth.cells ⟨0,bo,0⟩).toArray (0,0) _ rfl (setRow_heap _ (w.heap.size+1) _ _ 101 _ B1.out.2.1) Tryz.underlying101 rfl (db rfl) (.tmp .nil))) rfl ⟨HP.out _ rfl,below_setRow B1.out.1 (by omega) _⟩
 ·obtain rfl:b=true:=by cases b <;> simp_all
  by_cases h0:a < 0
  ·clear hbad hb0
   go_enter Tryz.func39,Tryz.ntmps39
   go_wp2_with (first
    | (go_at_call 47;have hbA:=(ae (ae (Below.refl w.heap.size w) (.cells #[.slice A f.length c] 22)) (.cells (Pth.cells ⟨0,bo,0⟩).toArray 101));refine(HR.out _ (HG.out.below hbA) (Kd.C_below HC.out hbA) Hc.out).mono ?_;rintro e w1 ⟨rfl,hb⟩;have B1:=ak_ (asked w _ hb);have e0:=(show w1.cell? ⟨w.heap.size,0,none⟩=some (.slice A f.length c) by rw[ah B1.out.2.2];rfl);clear hbA hb)
    | ((with_reducible refine ao (t:=101) (p:=4) rfl ?_);refine wpList_store_row rfl 101 _ _ rfl (w.heap.size+1) (Pth.cells ⟨0,bo,0⟩).toArray rfl rfl 101 (Pth.cells ⟨0,bo,0⟩).toArray B1.out.2.1 (db rfl) rfl (fY _) ?_))
   exact bodyPost_ret (v:=.tuple #[.agg (Pth.cells ⟨0,bo,0⟩).toArray,.int .i64 1]) (aA (rs:=[.cell 4 101,.tmp 5]) rfl (by simp) (.cell (w.heap.size+1) 101 (Pth.cells ⟨0,bo,0⟩).toArray (0,0) _ rfl (setRow_heap _ (w.heap.size+1) _ _ 101 _ B1.out.2.1) Tryz.underlying101 rfl (db rfl) (.tmp .nil))) rfl ⟨HP.out _ rfl,below_setRow B1.out.1 (by omega) _⟩
  ·have h1:¬ a < (f.length:Int):=fun h=>hbad ⟨rfl,by omega,h⟩
   have h2:0≤a:=by omega
   clear hbad hb0
   go_enter Tryz.func39,Tryz.ntmps39
   go_wp2_with (first
    | (go_at_call 47;have hbA:=(ae (ae (Below.refl w.heap.size w) (.cells #[.slice A f.length c] 22)) (.cells (Pth.cells ⟨0,bo,0⟩).toArray 101));refine(HR.out _ (HG.out.below hbA) (Kd.C_below HC.out hbA) Hc.out).mono ?_;rintro e w1 ⟨rfl,hb⟩;have B1:=ak_ (asked w _ hb);have e0:=(show w1.cell? ⟨w.heap.size,0,none⟩=some (.slice A f.length c) by rw[ah B1.out.2.2];rfl);clear hbA hb)
    | ((with_reducible refine ao (t:=101) (p:=4) rfl ?_);refine wpList_store_row rfl 101 _ _ rfl (w.heap.size+1) (Pth.cells ⟨0,bo,0⟩).toArray rfl rfl 101 (Pth.cells ⟨0,bo,0⟩).toArray B1.out.2.1 (db rfl) rfl (fY _) ?_))
   exact bodyPost_ret (v:=.tuple #[.agg (Pth.cells ⟨0,bo,0⟩).toArray,.int .i64 1]) (aA (rs:=[.cell 4 101,.tmp 5]) rfl (by simp) (.cell (w.heap.size+1) 101 (Pth.cells ⟨0,bo,0⟩).toArray (0,0) _ rfl (setRow_heap _ (w.heap.size+1) _ _ 101 _ B1.out.2.1) Tryz.underlying101 rfl (db rfl) (.tmp .nil))) rfl ⟨HP.out _ rfl,below_setRow B1.out.1 (by omega) _⟩
def qH (w:World) (g:Nat):Nat:=match w.cell? ⟨g,25,none⟩ with
 | some (.int _ n)=>n.toNat
 | _=>0
theorem lz {w:World} {g:Nat} {s:PSt} (h:ci w g s):qH w g=s.steps:=by
 unfold qH
 rw[ap h.1,oy h.2]
 rfl
def LSt (w:World) (f:List In) (n gp gm:Nat) (v:Value) (wr:World) (s:PSt):Prop:=gx f n s∧pz w v wr∧ci wr gp s∧ee wr gm s.met
theorem pz.step {w:World} {v:Value} {a b:World} (h:pz w v a) {S:Nat→Prop} (hf:Fr S a b) (hs:∀ k,k≤w.heap.size+1→¬ S k):pz w v b:=
 ⟨Fr.below h.1 hf (fun k hk=>hs k (by omega)) h.1.size,(hf.block _ (ai h.2.1) (hs _ (Nat.le_refl _))).trans h.2.1,(hf.block _ (ai h.2.2) (hs _ (by omega))).trans h.2.2⟩
theorem zQ {w:World} {g:Nat} {m:List Bool} (h:ee w g m) {i:Nat} (hi:i < 200):w.cell? ⟨g,i,none⟩=some (.bool (m.getD i true)):=by
 rw[ap h.1,List.getElem?_map,List.getD_eq_getElem?_getD,List.getElem?_eq_getElem (by rw[h.2];exact hi)]
 rfl
theorem lW {f:List In} {s:PSt} (h:fol f s=none) {gp gm:Nat} {w w':World} {e:Ending} (k:gP f s gp gm w e w'):e=.returned (.bool false)∧Below w.heap.size w w':=by
 unfold gP at k
 rw[h] at k
 exact k
theorem rj {f:List In} {s s':PSt} (h:fol f s=some s') {gp gm:Nat} {w w':World} {e:Ending} (k:gP f s gp gm w e w'):e=.returned (.bool true)∧Fr (fun k=>k=gp∨k=gm) w w'∧ci w' gp s'∧ee w' gm s'.met:=by
 unfold gP at k
 rw[h] at k
 exact k
theorem LSt.below {w:World} {f:List In} {n gp gm:Nat} {v:Value} {a b:World} {s:PSt} (h:LSt w f n gp gm v a s) (hb:Below a.heap.size a b):LSt w f n gp gm v b s:=
 ⟨h.1,⟨af h.2.1.1 hb,ag h.2.1.2.1 hb,ag h.2.1.2.2 hb⟩,h.2.2.1.below hb (ai h.2.2.1.1),h.2.2.2.below hb (ai h.2.2.2.1)⟩
theorem jX (f:List In) (n:Nat) (A:Option Addr) (c:Nat) (w:World) (hG:Gl w) (hC:Kd.C kIn w A f.length f) (hc:f.length≤c) (hr:bi f=true) (hn:n < f.length) :
  Calls Tryz.prog 39 #[.slice A f.length c,.int .i64 (n:Int)] w fun e w'=>e=.returned (.tuple #[.agg (b_ f n).cells.toArray,.int .i64 0])∧Below w.heap.size w w':=by
 have hmax:=Kd.C_max hC
 have HR:=ak_ (dY A c f)
 rw[hr] at HR
 have HF:=ak_ (bN hr)
 have HC:=ak_ hC
 have HG:=ak_ hG
 have Hc:=ak_ hc
 have HN:=ak_ hn
 have hn1:¬ (n:Int) < 0:=by omega
 have hn3:¬ f.length≤n:=by omega
 have hn2:(n:Int) < (f.length:Int):=by omega
 clear hG hC hc hr hn
 go_enter Tryz.func39,Tryz.ntmps39
 go_upto_region 4 with (first
  | (go_at_call 47;have hbA:=(ae (ae (Below.refl w.heap.size w) (.cells #[.slice A f.length c] 22)) (.cells (Pth.cells ⟨0,bo,0⟩).toArray 101));refine(HR.out _ (HG.out.below hbA) (Kd.C_below HC.out hbA) Hc.out).mono ?_;rintro e w1 ⟨rfl,hb⟩;have B1:=ak_ (asked w _ hb);have e0:=(show w1.cell? ⟨w.heap.size,0,none⟩=some (.slice A f.length c) by rw[ah B1.out.2.2];rfl);clear hbA hb))
 obtain⟨gm,hgm⟩:=nm_ w1.heap.size
 have hM:ee (w1.alloc (Obj.cells Tryz.zeroCells162 162)) w1.heap.size (List.replicate 200 false):=⟨heap_alloc_new _ _,rfl⟩
 have hA:pz w (.slice A f.length c) (w1.alloc (Obj.cells Tryz.zeroCells162 162)):=⟨ae B1.out.1 _,aK B1.out.2.1 _,aK B1.out.2.2 _⟩
 have hlt:w.heap.size+1 < w1.heap.size:=ai B1.out.2.1
 rw[←hgm] at hM hlt ⊢
 have hsz:gm < (w1.alloc (Obj.cells Tryz.zeroCells162 162)).heap.size:=ai hM.1
 obtain⟨wa,hwa⟩:=nm_ (w1.alloc (Obj.cells Tryz.zeroCells162 162))
 rw[←hwa] at hM hA hsz ⊢
 have HM:=ak_ hM
 have HA:=ak_ hA
 have HLt:=ak_ hlt
 have HSz:=ak_ hsz
 clear hwa hgm hM hA hlt hsz B1 e0
 have HNew:=ak_ u_
 have HT0:=ak_ (show first.length=24 from rfl)
 obtain⟨T,hT⟩:=nm_ first
 rw[←hT] at HNew HT0
 have HT:=ak_ hT
 clear hT
 go_upto_region 6 with (first
  | (go_at_call 68;refine(HNew.out _).mono ?_;rintro e w2 ⟨rfl,hb⟩;have B2:=ak_ hb;clear hb)
  | ((with_reducible refine aj (N:=25) rfl ?_);refine aM rfl 101 _ rfl [(0,.int .i64 (n:Int)),(1,.agg (av T))] _ rfl (sW n T HT0.out) ?_)
  | ((with_reducible refine ao (t:=101) (p:=7) rfl ?_);refine wpList_store_row rfl 101 _ _ rfl w2.heap.size (Pth.cells ⟨n,T,0⟩).toArray rfl rfl 101 (Pth.cells ⟨0,bo,0⟩).toArray (heap_alloc_new _ _) (db HT0.out) (by simp[iB,HT0.out,bo]) (fY _) ?_))
 have hpath:ci ((w2.alloc (Obj.cells (Pth.cells ⟨0,bo,0⟩).toArray 101)).setRow w2.heap.size (Pth.cells ⟨n,T,0⟩).toArray) w2.heap.size ⟨n,T,0,List.replicate 200 false⟩:=⟨setRow_heap _ w2.heap.size _ _ 101 _ (heap_alloc_new _ _),HT0.out⟩
 have hlt2:gm < w2.heap.size:=by have:=B2.out.size;have:=HSz.out;omega
 have hmet:ee ((w2.alloc (Obj.cells (Pth.cells ⟨0,bo,0⟩).toArray 101)).setRow w2.heap.size (Pth.cells ⟨n,T,0⟩).toArray) gm (List.replicate 200 false):=((HM.out.below B2.out HSz.out).below (ae (Below.refl _ _) _) hlt2).row (Nat.ne_of_lt hlt2) _
 have hask:pz w (.slice A f.length c) ((w2.alloc (Obj.cells (Pth.cells ⟨0,bo,0⟩).toArray 101)).setRow w2.heap.size (Pth.cells ⟨n,T,0⟩).toArray):=((HA.out.step (Fr.of_below B2.out) (S:=fun k=>k=gm∨k=w2.heap.size) (fun k hk h=>by have:=HLt.out;omega)).step (Fr.of_below (ae (Below.refl _ _) _)) (S:=fun k=>k=gm∨k=w2.heap.size) (fun k hk h=>by have:=HLt.out;omega)).step (Fr.row (S:=fun k=>k=gm∨k=w2.heap.size) (.inr rfl) _) (fun k hk h=>by have:=HLt.out;omega)
 obtain⟨gp,hgp⟩:=nm_ w2.heap.size
 rw[←hgp] at hpath hmet hask hlt2 ⊢
 obtain⟨wb,hwb⟩:=nm_ (((w2.alloc (Obj.cells (Pth.cells ⟨0,bo,0⟩).toArray 101)).setRow gp (Pth.cells ⟨n,T,0⟩).toArray))
 rw[←hwb] at hpath hmet hask
 have hst:LSt w f n gp gm (.slice A f.length c) wb (lG n):=⟨gx.init HN.out,hask,by rw[HT.out] at hpath;exact hpath,hmet⟩
 have HS:=ak_ hst
 have HL2:=ak_ hlt2
 refine ar hwb.symm ?_
 clear hwb hgp hpath hmet hask hst hlt2 B2 HM HA
 go_loopw [] (fun wr=>∃ s,aa (LSt w f n gp gm (.slice A f.length c) wr s)) (fun wr=>201 - qH wr gp)
 case atStart=>exact⟨_,HS⟩
 case round=>
  obtain⟨s,HS2⟩:=hrel
  obtain⟨hI,hK,hP,hM⟩:=HS2.out
  obtain⟨x,hx⟩:∃ x,f[s.at_]?=some x:=⟨_,List.getElem?_eq_getElem hI.at_⟩
  have HCall:=ak_ (sb f s w.heap.size gp gm A c wr HF.out.len hI.at_ (by have:=hI.bound;omega) x hx (fun h=>(HF.out.ok _ x hx).jt (.inl h) |>.1) hK.2.2 (Kd.C_below HC.out hK.1) hP hM)
  clear hI hK hP hM hx
  cases hfol:fol f s with
  | some s'=>
   have HFol:=ak_ hfol
   clear hfol
   go_wp2_with (first | (go_at_call 69;refine HCall.out.mono ?_;intro e w3 hp;have hq:=rj HFol.out hp;obtain⟨rfl,hfr,hp3,hm3⟩:=hq;have HFr:=ak_ hfr;have HP3:=ak_ hp3;have HM3:=ak_ hm3;clear hp hfr hp3 hm3))
   go_roundw
   case rel=>exact⟨s',⟨⟨HS2.out.1.step HF.out HFol.out,HS2.out.2.1.step HFr.out (fun k hk h=>by have:=HLt.out;have:=HL2.out;omega),HP3.out,HM3.out⟩⟩⟩
   case measure=>
    have h1:=HS2.out.1.bound
    obtain⟨x',_,_,_,he⟩:=nD HFol.out
    rw[lz HP3.out,lz HS2.out.2.2.1,he]
    simp only
    omega
  | none=>
   have HFol:=ak_ hfol
   clear hfol
   have he:=HS2.out.1.done HFol.out
   have hlt:=(show (s.at_:Int) < 200 by have:=HS2.out.1.at_;have:=HF.out.len;omega)
   obtain⟨mb,hmb⟩:=mn_ (s.met.getD s.at_ true)
   have HB:=ak_ hmb
   have hres:b_ f n=if mb=true then ⟨-1,T,0⟩ else ⟨s.at_,s.t,s.steps⟩:=by
    unfold b_
    rw[←he,←hmb,HT.out]
   have HRes:=ak_ hres
   clear he hmb hres
   cases mb with
   | true=>
    rw[if_pos rfl] at HRes
    go_wp2_with (first
     | (go_at_call 69;refine HCall.out.mono ?_;intro e w3 hp;have hq:=lW HFol.out hp;obtain⟨rfl,hb⟩:=hq;have HS3:=ak_ (HS2.out.below hb);have p0:=(show w3.cell? ⟨gp,0,none⟩=some (.int .i64 (s.at_:Int)) by rw[ap HS3.out.2.2.1.1];rfl);have m0:=zQ HS3.out.2.2.2 (i:=s.at_) (by have:=HS3.out.1.at_;have:=HF.out.len;omega);rw[HB.out] at m0;clear hp hb)
     | (go_at_call 68;refine(HNew.out _).mono ?_;rintro e w4 ⟨rfl,hb⟩;have HS4:=ak_ (HS3.out.below hb);clear hb)
     | ((with_reducible refine aj (N:=34) rfl ?_);refine aM rfl 101 _ rfl [(0,.int .i64 (-1)),(1,.agg (av T))] _ rfl (sW (-1) T HT0.out) ?_)
     | ((with_reducible refine ao (t:=101) (p:=4) rfl ?_);refine wpList_store_row rfl 101 _ _ rfl (w.heap.size+1) (Pth.cells ⟨-1,T,0⟩).toArray rfl rfl 101 (Pth.cells ⟨0,bo,0⟩).toArray HS4.out.2.1.2.1 (db HT0.out) (by simp[iB,HT0.out,bo]) (fY _) ?_))
    rw[HRes.out]
    exact bodyPost_ret (v:=.tuple #[.agg (Pth.cells ⟨-1,T,0⟩).toArray,.int .i64 0]) (aA (rs:=[.cell 4 101,.tmp 5]) rfl (by simp) (.cell (w.heap.size+1) 101 (Pth.cells ⟨-1,T,0⟩).toArray (0,0) _ rfl (setRow_heap _ (w.heap.size+1) _ _ 101 _ HS4.out.2.1.2.1) Tryz.underlying101 rfl (db HT0.out) (.tmp .nil))) rfl ⟨rfl,below_setRow HS4.out.2.1.1 (by omega) _⟩
   | false=>
    rw[if_neg (by decide)] at HRes
    have HL24:=ak_ HS2.out.2.2.1.2
    go_wp2_with (first
     | (go_at_call 69;refine HCall.out.mono ?_;intro e w3 hp;have hq:=lW HFol.out hp;obtain⟨rfl,hb⟩:=hq;have HS3:=ak_ (HS2.out.below hb);have p0:=(show w3.cell? ⟨gp,0,none⟩=some (.int .i64 (s.at_:Int)) by rw[ap HS3.out.2.2.1.1];rfl);have m0:=zQ HS3.out.2.2.2 (i:=s.at_) (by have:=HS3.out.1.at_;have:=HF.out.len;omega);rw[HB.out] at m0;clear hp hb)
     | ((with_reducible refine aj (N:=35) rfl ?_);refine wpList_load_row rfl 101 _ rfl gp rfl 101 (Pth.cells ⟨s.at_,s.t,s.steps⟩).toArray (0,0) _ HS3.out.2.2.1.1 Tryz.underlying101 rfl (db HL24.out) ?_)
     | ((with_reducible refine ao (t:=101) (p:=4) rfl ?_);refine wpList_store_row rfl 101 _ _ rfl (w.heap.size+1) (Pth.cells ⟨s.at_,s.t,s.steps⟩).toArray rfl rfl 101 (Pth.cells ⟨0,bo,0⟩).toArray HS3.out.2.1.2.1 (db HL24.out) (by simp[iB,HL24.out,bo]) (fY _) ?_))
    rw[HRes.out]
    exact bodyPost_ret (v:=.tuple #[.agg (Pth.cells ⟨s.at_,s.t,s.steps⟩).toArray,.int .i64 0]) (aA (rs:=[.cell 4 101,.tmp 5]) rfl (by simp) (.cell (w.heap.size+1) 101 (Pth.cells ⟨s.at_,s.t,s.steps⟩).toArray (0,0) _ rfl (setRow_heap _ (w.heap.size+1) _ _ 101 _ HS3.out.2.1.2.1) Tryz.underlying101 rfl (db HL24.out) (.tmp .nil))) rfl ⟨rfl,below_setRow HS3.out.2.1.1 (by omega) _⟩
theorem yg (f:List In) (a:Int) (A:Option Addr) (c:Nat) (w:World) (hG:Gl w) (hC:Kd.C kIn w A f.length f) (hc:f.length≤c) :
  Calls Tryz.prog 39 #[.slice A f.length c,.int .i64 a] w fun e w'=>i_ f a e∧Below w.heap.size w w':=by
 by_cases h:bi f=true∧0≤a∧a < f.length
 ·obtain⟨n,rfl⟩:∃ n:Nat,a=n:=⟨a.toNat,by omega⟩
  refine(jX f n A c w hG hC hc h.1 (by omega)).mono ?_
  rintro e w' ⟨rfl,hb⟩
  refine⟨?_,hb⟩
  unfold i_
  rw[if_pos h]
  rfl
 ·exact pD f a A c w hG hC hc h
end Go.Proofs.YtlinbehijfcelaaGreatDoor.Top
