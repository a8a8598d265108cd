/- Walks of the program, and what it computes, told plainly. No condition. (VV VX VY VZ XA XB XC XD) -/
import Derived.Test.YtlinbehijfcelaaGreatDoorPP
set_option linter.unusedVariables false
set_option linter.unusedSimpArgs false
set_option linter.unusedSectionVars false
set_option maxHeartbeats 8000000
set_option maxRecDepth 100000
namespace Go.Proofs.YtlinbehijfcelaaGreatDoor.Top
open Go.RowKit Go.Proofs.YtlinbehijfcelaaGreatDoorW.PrintWords Go.Proofs.YtlinbehijfcelaaGreatDoorW.PrintLast
section
open Go.Shelf
attribute [local go_sem] Oper.semAt_some
def kp:Array Value:=#[.int .i64 0,.int .i64 0,.int .i64 0,.int .i64 0,.int .i64 0,.int .i64 0,.int .i64 0,.int .i64 0,.int .i64 0,.int .i64 0,.slice none 0 0,.slice none 0 0,.int .i64 0]
def kB:List Value:=[.int .i64 0,.int .i64 0,.int .i64 0,.int .i64 0,.int .i64 0,.int .i64 0,.int .i64 0,.int .i64 0,.int .i64 0,.int .i64 0,.slice none 0 0,.slice none 0 0,.int .i64 0]
theorem sK:∀ v∈kB,v.oneCell'=true:=by decide
theorem lS:(Tryz.prog.info? 84).map (·.size)=some 13:=by kernel_rfl
def zR (fn:FuncId) (tmps:Array Value) (ps:Array Tmp) (assign body:Code) (d:Nat) (st:LoopState) (pe:Option Code):Loop:={ state:=st,pending:=pe,fn,tmps:=tmps,params:=ps,assign:=assign,body:=body,defers:=d }
theorem tI {F:Fence} {n:Nat} {P:Program} {g:Operand} {ps:Array Tmp} {assign body:Code} {Q:Exit→Act→World→Prop} {a:Act} {w:World} (hro:F.round=none) (h1:1≤n) {gf:Nat} {lb:Array Value} (hg:a.eval g=.func (.func gf) #[] lb) (hFg:F.fn gf) (eg:∀ args w,(callFunc gf args).run P w=.ok (.enter gf args) w)
  (h:∀ fn,F.fn fn→∀ rec:LoopState→Option Code→Loop,rec=zR fn a.tmps ps assign body w.heap.size→∀ W1,Below w.heap.size w W1→W1.heap.size=w.heap.size+2→W1.heap[w.heap.size]?=some (.deferred (some []))→W1.heap[w.heap.size+1]?=some (.loop (rec .ready none))→
   CallsIn F (n - 1) P gf (#[.func (.yield (w.heap.size+1)) #[] #[]]++lb) W1 fun e W2=>(∃ v,e=.returned v)∧
    ((W2.heap[w.heap.size+1]?=some (.loop (rec .ready none))∧Q .normal { a with defers:={ target:=.collected w.heap.size,args:=#[] } :: a.defers } (W2.putObj (w.heap.size+1) (.loop (rec .exhausted none))))∨
     (W2.heap[w.heap.size+1]?=some (.loop (rec .done (some .ret)))∧Code.ret.wpIn F n P Q { a with defers:={ target:=.collected w.heap.size,args:=#[] } :: a.defers } (W2.putObj (w.heap.size+1) (.loop (rec .exhausted (some .ret))))))) :
  (Code.rangeFunc g ps assign body).wpIn F n P Q a w:=by
 refine wpIn_rangeFunc fun fn hfn=>?_
 rw[hro]
 obtain⟨W1,hW1⟩:∃ W1,W1=(w.alloc (.deferred (some []))).alloc (.loop (zR fn a.tmps ps assign body w.heap.size .ready none)):=⟨_,rfl⟩
 have k1:Below w.heap.size w W1:=by rw[hW1];exact ae (ae (Below.refl _ _) _) _
 have k2:W1.heap.size=w.heap.size+2:=by rw[hW1];simp
 have k3:W1.heap[w.heap.size]?=some (.deferred (some [])):=by
  rw[hW1]
  exact(Below.heap_alloc _ _ _ (by simp)).trans (World.alloc_heap_new w _)
 have k4:W1.heap[w.heap.size+1]?=some (.loop (zR fn a.tmps ps assign body w.heap.size .ready none)):=by
  have h:=World.alloc_heap_new (w.alloc (.deferred (some []))) (.loop (zR fn a.tmps ps assign body w.heap.size .ready none))
  rw[World.size_alloc] at h
  rw[hW1];exact h
 refine⟨w.heap.size+1,[{ target:=.collected w.heap.size,args:=#[] }],W1,{ target:=.fn (.func gf) lb,args:=#[.func (.yield (w.heap.size+1)) #[] #[]] },W1,gf,#[.func (.yield (w.heap.size+1)) #[] #[]]++lb,W1,?_,?_,?_,?_,fun _=>h1,?_⟩
 ·rw[hW1];exact run_enterLoop_outer _ _ _ _ _
 ·simp only[resolve,hg]
  simp[go_sem]
 ·intro f' hf'
  simp[Target.leads] at hf'
  subst hf'
  exact hFg
 ·simp[invoke,go_sem,eg]
 ·refine(h fn hfn _ rfl W1 k1 k2 k3 k4).mono ?_
  rintro e W2 ⟨⟨v,rfl⟩,(⟨hl,hq⟩ | ⟨hl,hq⟩)⟩
  ·exact⟨none,_,run_endLoop (P:=P) hl (fun e=>nomatch e),hq⟩
  ·exact⟨some .ret,_,run_endLoop (P:=P) hl (fun e=>nomatch e),hq⟩
def zK (l:Nat) (r:LoopState→Option Code→Loop) (R:Ending→World→Prop):Exit→Act→World→Prop
 | .normal,_,w=>w.heap[l]?=some (.loop (r .busy none))∧R (.returned (.bool true)) (w.putObj l (.loop (r .ready none)))
 | .ret,_,w=>w.heap[l]?=some (.loop (r .busy none))∧R (.returned (.bool false)) (w.putObj l (.loop (r .done (some .ret))))
 | _,_,_=>False
theorem tm {F:Fence} {m:Nat} {P:Program} {l:Nat} {fn:FuncId} {tmps:Array Value} {ps:Array Tmp} {assign body:Code} {d:Nat} {rec:LoopState→Option Code→Loop} (hrec:rec=zR fn tmps ps assign body d) {args:Array Value} {W:World} {R:Ending→World→Prop} (hfn:F.fn fn) (hl:W.heap[l]?=some (.loop (rec .ready none))) (hps:args.size=ps.size)
  (h:assign.wpIn (F.inRound l) m P (Exit.then (fun a1 Wa=>Wa.heap[l]?=some (.loop (rec .ready none))∧body.wpIn (F.inRound l) m P (zK l  rec R) a1 (Wa.putObj l (.loop (rec .busy none)))) (fun _ _ _=>False)) { tmps:=(ps.zip args).foldl (fun t (p,v)=>t.setIfInBounds p v) tmps,defers:=[] } W) :
  YieldAt F m P l args W R:=by
 subst hrec
 refine⟨fn,_,assign,body,run_yield (P:=P) (args:=args) hl hps,roundIn_of_wpIn hfn (wpIn_mono h ?_)⟩
 intro e a1 Wa hq
 cases e with
 | normal=>
  obtain⟨h1,h2⟩:=hq
  refine⟨_,run_beginRound (P:=P) h1 rfl,wpIn_mono h2 ?_⟩
  intro e a2 W2 hp
  cases e with
  | normal=>exact⟨_,_,run_endRound (P:=P) none hp.1,hp.2⟩
  | ret=>exact⟨_,_,run_endRound (P:=P) (some .ret) hp.1,hp.2⟩
  | exit id=>exact hp.elim
  | goto t=>exact hp.elim
  | panic c=>exact hp.elim
  | outgrown=>exact hp.elim
 | ret=>exact hq.elim
 | exit id=>exact hq.elim
 | goto t=>exact hq.elim
 | panic c=>exact hq.elim
 | outgrown=>exact hq.elim
section
variable {F:Fence} {n:Nat} {P:Program} {ops:Array Oper} {o:Oper} {rest:List Oper} {a:Act} {W W':World} {Q:Exit→Act→World→Prop}
theorem gH (hF:∀ f,F.fn f) (hs:o.semAt F.round a.eval=execOp a.eval o) (hgd:o.guard=none) (v:Value) (hrun:(execOp a.eval o).run P W=.ok (.value v) W') (h:wpListIn F n P ops Q rest (a.put o.dst v) W'):wpListIn F n P ops Q (o :: rest) a W:=by
 refine wpListIn_plain hgd fun K hK=>?_
 unfold Oper.wpIn
 rw[hs,hrun]
 exact⟨fun f _=>hF f,hK _ _ h⟩
theorem qD (hF:∀ f,F.fn f) (hs:o.semAt F.round a.eval=execOp a.eval o) (hgd:o.guard=none) (hrun:∃ W',(execOp a.eval o).run P W=.ok .skip W'∧wpListIn F n P ops Q rest (a.put o.dst undef) W'):wpListIn F n P ops Q (o :: rest) a W:=by
 obtain⟨W',hrun,h⟩:=hrun
 refine wpListIn_plain hgd fun K hK=>?_
 unfold Oper.wpIn
 rw[hs,hrun]
 exact⟨fun f _=>hF f,hK _ _ h⟩
theorem eK (hF:∀ f,F.fn f) (hs:o.semAt F.round a.eval=execOp a.eval o) (hgd:o.guard=none) (ty:TypeId) (x y:Operand) (ho:o.op=.store ty x y) (g:Nat) (vs:List Value)
  (hx:a.eval x=.pointer (some ⟨g,0,none⟩)) (hy:a.eval y=.agg vs.toArray) (t:Nat) (L:List Value) (hg:W.heap[g]?=some (.cells L.toArray t (0,0))) (hi:(P.info? ty).map (·.size)=some vs.length) (hl:vs.length=L.length) (h1:∀ v∈vs,v.oneCell'=true)
  (h:∀ W',W'.heap[g]?=some (.cells vs.toArray t (0,0))→Fr (fun k=>k=g) W W'→wpListIn F n P ops Q rest (a.put o.dst undef) W'):wpListIn F n P ops Q (o :: rest) a W:=by
 obtain⟨W',h2,h3,h4⟩:=jK (P:=P) (a:=a) (o:=o) (W:=W) ty x y ho g 0 vs hx hy t L vs hg hi (by omega) h1 (by simp[hl])
 exact qD hF hs hgd ⟨W',h2,h W' h3 h4⟩
theorem ju {N:Nat} (_ho:o.dst=some N) (h:wpListIn F n P ops Q (o :: rest) a W):wpListIn F n P ops Q (o :: rest) a W:=h
theorem js {t p:Nat} {y:Operand} (_ho:o.op=.store t (.tmp p) y) (h:wpListIn F n P ops Q (o :: rest) a W):wpListIn F n P ops Q (o :: rest) a W:=h
end
theorem Cm (k t:Int) (row:List Value) (h:row.length=11):Tryz.prog.built 84 [(0,.int .i64 k),(1,.int .i64 t),(2,.agg row.toArray)]=some (.int .i64 k :: .int .i64 t :: row).toArray:=by
 have h1:Tryz.prog.built 84 [(0,.int .i64 k),(1,.int .i64 t),(2,.agg row.toArray)]=Instr.fill (#[(0,1),(1,1),(2,11)][·]?) (.int .i64 k :: .int .i64 t :: kB.drop 2).toArray [(2,.agg row.toArray)]:=by rfl
 rw[h1,im _ _ 2 2 11 row [] rfl h (by simp[kB])]
 simp[Instr.fill,kB,h]
theorem CaV.fr {W W':World} {c:Ca} {v:Value} {S:Nat→Prop} (h:CaV W c v) (hf:Fr S W W') (hn:∀ k cs fr,S k→W.heap[k]?≠some (.cells cs 2 fr)):CaV W' c v:=by
 obtain⟨vH,vA,e,h8,hH,hA⟩:=h
 exact⟨vH,vA,e,h8,hH.fr aC hf hn,hA.fr aC hf hn⟩
theorem C8:∀ W,(isAgg 4).run Tryz.prog W=.ok false W:=fun W=>by kernel_rfl
theorem BN:∀ W,(isAgg 29).run Tryz.prog W=.ok false W:=fun W=>by kernel_rfl
theorem od {tmps:Array Value} {w:World} (g6 g7 g8:Nat) (cs:Array Value) (v7 v8:Value) (p6:tmps.getD 6 undef=.pointer (some ⟨g6,0,none⟩)) (p7:tmps.getD 7 undef=.pointer (some ⟨g7,0,none⟩)) (p8:tmps.getD 8 undef=.pointer (some ⟨g8,0,none⟩)) (h6:w.heap[g6]?=some (.cells cs 84 (0,0))) (hi:(Tryz.prog.info? 84).map (·.size)=some cs.size) (h7:w.cell? ⟨g7,0,none⟩=some v7) (h8:w.cell? ⟨g8,0,none⟩=some v8) :
  (results Tryz.f36 tmps).run Tryz.prog w=.ok (.tuple #[.agg cs,v7,v8]) w:=by
 have e6:=aT (P:=Tryz.prog) h6 Tryz.underlying84 rfl hi
 have e7:=aE (P:=Tryz.prog) (C8 w) h7
 have e8:=aE (P:=Tryz.prog) (BN w) h8
 rw[Array.getD_eq_getD_getElem?] at p6 p7 p8
 simp only[results,Tryz.f36]
 simp[List.mapM_cons,p6,p7,p8,asAddr,e6,e7,e8,Sem.run_bind,Result.andThen]
theorem qE {F:Fence} {n:Nat} {f:FuncId} {args:Array Value} {P:Program} {w w':World} {R:Ending→World→Prop} (h:w=w') (k:CallsIn F n P f args w' R):CallsIn F n P f args w R:=by subst h;exact k
theorem yD (f g:List In) (Af Ag:Option Addr) (cf cg:Nat) (w:World) (hGl:Gl w) (hrf:bi f=true) (hrg:bi g=true) (hf:f.length≤200) (hg:g.length≤200) (hCf:Kd.C kIn w Af f.length f) (hcf:f.length≤cf) (hCg:Kd.C kIn w Ag g.length g) (hcg:g.length≤cg) :
  Calls Tryz.prog 36 #[.slice Af f.length cf,.slice Ag g.length cg,.agg #[.int .i64 0,.int .i64 0]] w fun e w'=>((dt f g (aQ f g)).1=0→e=.returned (.tuple #[.agg kB.toArray,.bool false,.int .i64 0]))∧((dt f g (aQ f g)).1≠0→∃ row:List Value,e=.returned (.tuple #[.agg (.int .i64 0 :: .int .i64 (dt f g (aQ f g)).1 :: row).toArray,.bool true,.int .i64 0])∧CaV w' (aQ f g) (.agg row.toArray))∧Below w.heap.size w w':=by
 have HRf:=ak_ (fun W (hb:Below w.heap.size w W)=>dY Af cf f W (hGl.below hb) (Kd.C_below hCf hb) hcf)
 have HRg:=ak_ (fun W (hb:Below w.heap.size w W)=>dY Ag cg g W (hGl.below hb) (Kd.C_below hCg hb) hcg)
 rw[hrf] at HRf
 rw[hrg] at HRg
 have HCs:=ak_ (fun W=>tX (.slice Af f.length cf) (.slice Ag g.length cg) Af Ag f.length g.length cf cg rfl rfl W)
 have HF:=ak_ (And.intro hGl (And.intro hCf hCg))
 have Hc:=ak_ (And.intro (And.intro hf hg) (And.intro hcf hcg))
 clear hGl hrf hrg hf hg hCf hcf hCg hcg
 refine(callsIn_wide (n:=4)).1 ?_
 refine callsIn_of_wp_marks Tryz.func36 rfl trivial ?_ rfl
 simp only[Tryz.ntmps36,List.size_toArray,List.length_cons,List.length_nil,Nat.reduceAdd,Nat.reduceSub,Array.replicate_succ,Array.replicate_zero,List.push_toArray,List.append_toArray,List.nil_append,List.cons_append]
 obtain⟨w6,hw6⟩:∃ w6,w6=(((((w.alloc (.cells #[.slice Af f.length cf] 22)).alloc (.cells #[.slice Ag g.length cg] 22)).alloc (.cells #[.int .i64 0,.int .i64 0] 24)).alloc (.cells kp 84)).alloc (.cells #[.bool false] 4)).alloc (.cells #[.int .i64 0] 29):=⟨_,rfl⟩
 have HW6:=ak_ hw6
 have HB6:=ak_ (show Below w.heap.size w w6 by rw[hw6];exact ae (ae (ae (ae (ae (ae (Below.refl _ _) _) _) _) _) _) _)
 obtain⟨g1,g2,g3,g4,hb4⟩:=oW (w:=w) (w1:=w6) (A:=.cells #[.slice Af f.length cf] 22) (B:=.cells #[.slice Ag g.length cg] 22) (C:=.cells #[.int .i64 0,.int .i64 0] 24) (D:=.cells kp 84) (by rw[hw6];exact ae (ae (Below.refl _ _) _) _)
 have HG2:=ak_ g2
 have HG3:=ak_ (show w6.heap[w.heap.size+1+1]?=some (.cells #[.int .i64 0,.int .i64 0] 24 (0,0)) from g3)
 have HG4:=ak_ (show w6.heap[w.heap.size+1+1+1]?=some (.cells kp 84 (0,0)) from g4)
 have HG1:=ak_ g1
 have HG5:=ak_ (show w6.heap[w.heap.size+1+1+1+1]?=some (.cells #[.bool false] 4 (0,0)) by
  have h:=heap_alloc_last ((((w.alloc (.cells #[.slice Af f.length cf] 22)).alloc (.cells #[.slice Ag g.length cg] 22)).alloc (.cells #[.int .i64 0,.int .i64 0] 24)).alloc (.cells kp 84)) (.cells #[.bool false] 4)
  rw[hw6]
  refine ag (w:=((((w.alloc (.cells #[.slice Af f.length cf] 22)).alloc (.cells #[.slice Ag g.length cg] 22)).alloc (.cells #[.int .i64 0,.int .i64 0] 24)).alloc (.cells kp 84)).alloc (.cells #[.bool false] 4)) ?_ (ae (Below.refl _ _) _)
  simpa using h)
 have HG6:=ak_ (show w6.heap[w.heap.size+1+1+1+1+1]?=some (.cells #[.int .i64 0] 29 (0,0)) by
  have h:=heap_alloc_last (((((w.alloc (.cells #[.slice Af f.length cf] 22)).alloc (.cells #[.slice Ag g.length cg] 22)).alloc (.cells #[.int .i64 0,.int .i64 0] 24)).alloc (.cells kp 84)).alloc (.cells #[.bool false] 4)) (.cells #[.int .i64 0] 29)
  rw[hw6]
  simpa using h)
 clear hw6 g1 g2 g3 g4 hb4
 gi_wp2_with (first
  | (refine⟨trivial,?_⟩;gi_at_call 47;refine qE HW6.out.symm ?_;clear HW6;refine(callsIn_wide.2 (HRf.out w6 HB6.out)).mono ?_;rintro e w7 ⟨rfl,hb⟩;have HB7:=ak_ hb;have d1:=(show w7.cell? ⟨w.heap.size+1,0,none⟩=some (.slice Ag g.length cg) by rw[ah (ag HG2.out hb)];rfl);clear hb HRf)
  | (refine⟨trivial,?_⟩;gi_at_call 47;refine(callsIn_wide.2 (HRg.out w7 (af HB6.out HB7.out))).mono ?_;rintro e w8 ⟨rfl,hb⟩;have HB8:=ak_ hb;have d0:=(show w8.cell? ⟨w.heap.size,0,none⟩=some (.slice Af f.length cf) by rw[ah (ag (ag HG1.out HB7.out) hb)];rfl);have d1:=ak hb d1;have d2:=(show w8.cell? ⟨w.heap.size+1+1,0,none⟩=some (.int .i64 0) by rw[ah (ag (ag HG3.out HB7.out) hb)];rfl);have d3:=(show w8.cell? ⟨w.heap.size+1+1,1,none⟩=some (.int .i64 0) by rw[ah (ag (ag HG3.out HB7.out) hb)];rfl);clear hb HRg)
  | (refine⟨trivial,?_⟩;gi_at_call 59;refine(callsIn_wide.2 (HCs.out w8)).mono ?_;rintro e w9 ⟨B,rfl,hBe,k1,k2,k3,hb⟩;have HB9:=ak_ hb;have HK:=ak_ (And.intro hBe (And.intro k1 (And.intro k2 k3)));clear d0 d1 d2 d3 hb HCs hBe k1 k2 k3))
 have HLv:=ak_ (enters_of (f:=87) Tryz.func87 (by kernel_rfl) rfl)
 obtain⟨N,hN⟩:=nm_ w9.heap.size
 have HN:=ak_ hN
 refine tI rfl (by decide) (gf:=87) rfl trivial HLv.out ?_
 intro fn hfn rec hrec W1 hb1 hs1 hd1 hl1
 obtain⟨hBe,k1,k2,k3⟩:=HK.out
 have hb9:Below w.heap.size w w9:=af (af (af HB6.out HB7.out) HB8.out) HB9.out
 have hb91:Below w.heap.size w W1:=af hb9 hb1
 refine(sM f g Af Ag cf cg (w9.heap.size+1) (B+2) B (B+1) W1 Hc.out.1.1 Hc.out.1.2 (Kd.C_below HF.out.2.1 hb91) Hc.out.2.1 (Kd.C_below HF.out.2.2 hb91) Hc.out.2.2 (ag k3 hb1) (ag k1 hb1) (ag k2 hb1)
  (fun W=>W.heap[w9.heap.size]?=some (.deferred (some []))∧W.heap[w9.heap.size+1]?=some (.loop (rec .ready none))∧(dt f g (aQ f g)).1=0∧Below w9.heap.size w9 W)
  (fun W=>W.heap[w9.heap.size]?=some (.deferred (some []))∧W.heap[w9.heap.size+1]?=some (.loop (rec .done (some .ret)))∧∃ row:List Value,CaV W (aQ f g) (.agg row.toArray)∧row.length=11∧W.heap[w.heap.size+1+1+1]?=some (.cells (.int .i64 0 :: .int .i64 (dt f g (aQ f g)).1 :: row).toArray 84 (0,0))∧W.heap[w.heap.size+1+1+1+1]?=some (.cells #[.bool true] 4 (0,0))∧W.heap[w.heap.size+1+1+1+1+1]?=some (.cells #[.int .i64 0] 29 (0,0))∧(dt f g (aQ f g)).1≠0∧Below w.heap.size w W) w9.heap.size (ai k3) ?hY).mono ?after
 case after=>
  rintro e W' ⟨hv,(⟨hd,hl,ht0,hb⟩ | ⟨hd,hl,row,hC,hr,r6,r7,r8,hne,hb⟩)⟩
  ·refine⟨hv,.inl ⟨hl,?_⟩⟩
   obtain⟨W4,hW4⟩:∃ W4,W4=W'.putObj (w9.heap.size+1) (.loop (rec .exhausted none)):=⟨_,rfl⟩
   rw[←hW4]
   have hf4:Fr (fun k=>k=w9.heap.size+1) W' W4:=by rw[hW4];exact⟨rfl,rfl,rfl,by simp,fun k _ hk=>World.putObj_heap_other hk⟩
   have hb4:Below w9.heap.size w9 W4:=Fr.below hb hf4 (fun k hk e=>by omega) hb.size
   have HD4:=ak_ ((hf4.block _ (ai hd) (by omega)).trans hd)
   have hb64:Below w6.heap.size w6 W4:=af (af (af HB7.out HB8.out) HB9.out) hb4
   have HG4':=ak_ (ag HG4.out hb64)
   have HG5':=ak_ (ag HG5.out hb64)
   have HG6':=ak_ (ag HG6.out hb64)
   have HB4:=ak_ (af hb9 hb4)
   have HT0:=ak_ ht0
   clear hW4 hf4 hb4 hb64 hd hl ht0 hb hv hd1 hl1 hb1 hb9 hb91 k1 k2 k3 hrec
   gi_wp2_with (first
    | ((with_reducible refine js (t:=84) (p:=6) rfl ?_);refine eK (fun _=>trivial) rfl rfl 84 _ _ rfl (w.heap.size+1+1+1) kB rfl rfl 84 kB HG4'.out lS rfl sK ?_;intro W5 h5 hf5;have H5:=ak_ h5;have HF5:=ak_ hf5;have e7:=(show W5.cell? ⟨w.heap.size+1+1+1+1,0,none⟩=some (.bool false) by rw[ah ((hf5.block _ (ai HG5'.out) (by omega)).trans HG5'.out)];rfl);have e8:=(show W5.cell? ⟨w.heap.size+1+1+1+1+1,0,none⟩=some (.int .i64 0) by rw[ah ((hf5.block _ (ai HG6'.out) (by omega)).trans HG6'.out)];rfl);have f7:=aq ((hf5.block _ (ai HG5'.out) (by omega)).trans HG5'.out) 0;have f8:=aq ((hf5.block _ (ai HG6'.out) (by omega)).trans HG6'.out) 0;clear h5 hf5))
   obtain⟨W6,hW6⟩:∃ W6,W6=(W5.setCell ⟨w.heap.size+1+1+1+1,0,none⟩ (.bool false)).setCell ⟨w.heap.size+1+1+1+1+1,0,none⟩ (.int .i64 0):=⟨_,rfl⟩
   rw[←hW6]
   have hs9:w6.heap.size≤w9.heap.size:=Nat.le_trans HB7.out.size (Nat.le_trans HB8.out.size HB9.out.size)
   have hlt6:=ai HG6.out
   have hff:Fr (fun k=>k=w.heap.size+1+1+1∨k=w.heap.size+1+1+1+1∨k=w.heap.size+1+1+1+1+1) W4 W6:=by
    rw[hW6]
    exact((HF5.out.mono fun k _ e=>.inl e).trans (Fr.cell (p:=⟨w.heap.size+1+1+1+1,0,none⟩) (.inr (.inl rfl)) _)).trans (Fr.cell (p:=⟨w.heap.size+1+1+1+1+1,0,none⟩) (.inr (.inr rfl)) _)
   have hK:W6.heap[w9.heap.size]?=some (.deferred (some [])):=(hff.block _ (ai HD4.out) (by omega)).trans HD4.out
   have hp:Fr (fun k=>k=w9.heap.size) W6 (W6.putObj w9.heap.size (.deferred none)):=⟨rfl,rfl,rfl,by simp,fun k _ hk=>World.putObj_heap_other hk⟩
   refine⟨by simp,.inl ⟨_,_,rfl,run_takeDeferred hK,?_⟩⟩
   have r6:W6.heap[w.heap.size+1+1+1]?=some (.cells kB.toArray 84 (0,0)):=by
    rw[hW6]
    exact a8 (a8 H5.out (p:=⟨w.heap.size+1+1+1+1,0,none⟩) (by show w.heap.size+1+1+1≠w.heap.size+1+1+1+1;omega) _) (p:=⟨w.heap.size+1+1+1+1+1,0,none⟩) (by show w.heap.size+1+1+1≠w.heap.size+1+1+1+1+1;omega) _
   have r7:W6.cell? ⟨w.heap.size+1+1+1+1,0,none⟩=some (.bool false):=by
    rw[hW6]
    exact(Fr.cell (S:=fun k=>k=w.heap.size+1+1+1+1+1) (p:=⟨w.heap.size+1+1+1+1+1,0,none⟩) rfl _).cell_at (World.cell?_setCell_same' _ _ _ (by rw[e7];rfl)) (fun e=>by have e:w.heap.size+1+1+1+1=w.heap.size+1+1+1+1+1:=e;omega)
   have r8:W6.cell? ⟨w.heap.size+1+1+1+1+1,0,none⟩=some (.int .i64 0):=by
    rw[hW6]
    exact World.cell?_setCell_same' _ _ _ (by rw[(Fr.cell (S:=fun k=>k=w.heap.size+1+1+1+1) (p:=⟨w.heap.size+1+1+1+1,0,none⟩) rfl _).cell_at e8 (fun e=>by have e:w.heap.size+1+1+1+1+1=w.heap.size+1+1+1+1:=e;omega)];rfl)
   refine⟨_,od (w.heap.size+1+1+1) (w.heap.size+1+1+1+1) (w.heap.size+1+1+1+1+1) kB.toArray (.bool false) (.int .i64 0) rfl rfl rfl ((hp.block _ (ai r6) (by omega)).trans r6) lS (hp.cell_at r7 (fun e=>by have e:w.heap.size+1+1+1+1=w9.heap.size:=e;omega)) (hp.cell_at r8 (fun e=>by have e:w.heap.size+1+1+1+1+1=w9.heap.size:=e;omega)),?_⟩
   exact⟨fun _=>rfl,fun h=>absurd HT0.out h,Fr.below (Fr.below HB4.out hff (fun k hk e=>by omega) HB4.out.size) hp (fun k hk e=>by omega) (by have:=HB4.out.size;have:=hff.size;omega)⟩
  ·refine⟨hv,.inr ⟨hl,?_⟩⟩
   have hs9:w6.heap.size≤w9.heap.size:=Nat.le_trans HB7.out.size (Nat.le_trans HB8.out.size HB9.out.size)
   have hlt6:=ai HG6.out
   obtain⟨W4,hW4⟩:∃ W4,W4=W'.putObj (w9.heap.size+1) (.loop (rec .exhausted (some .ret))):=⟨_,rfl⟩
   rw[←hW4]
   have hf4:Fr (fun k=>k=w9.heap.size∨k=w9.heap.size+1) W' W4:=by rw[hW4];exact⟨rfl,rfl,rfl,by simp,fun k _ hk=>World.putObj_heap_other (fun e=>hk (.inr e))⟩
   have hK:W4.heap[w9.heap.size]?=some (.deferred (some [])):=by rw[hW4];exact(World.putObj_heap_other (by omega)).trans hd
   have hp:Fr (fun k=>k=w9.heap.size∨k=w9.heap.size+1) W' (W4.putObj w9.heap.size (.deferred none)):=hf4.trans ⟨rfl,rfl,rfl,by simp,fun k _ hk=>World.putObj_heap_other (fun e=>hk (.inl e))⟩
   have hnt:∀ k cs fr,(k=w9.heap.size∨k=w9.heap.size+1)→W'.heap[k]?≠some (.cells cs 2 fr):=fun k cs fr e=>by
    rcases e with rfl | rfl
    ·rw[hd];simp
    ·rw[hl];simp
   have hC':=hC.fr hp hnt
   have hb':Below w.heap.size w (W4.putObj w9.heap.size (.deferred none)):=Fr.below hb hp (fun k hk e=>by rcases e with e | e <;> omega) hb.size
   have q6:=(hp.block _ (ai r6) (fun e=>by rcases e with e | e <;> omega)).trans r6
   have q7:=(hp.block _ (ai r7) (fun e=>by rcases e with e | e <;> omega)).trans r7
   have q8:=(hp.block _ (ai r8) (fun e=>by rcases e with e | e <;> omega)).trans r8
   have HX:=ak_ (And.intro hK (And.intro hC' (And.intro hb' (And.intro q6 (And.intro q7 q8)))))
   have HN:=ak_ (And.intro hne hr)
   clear hW4 hf4 hK hp hnt hC' hb' q6 q7 q8 hC hr r6 r7 r8 hne hb hd hl hv hd1 hl1 hb1 hb9 hb91 k1 k2 k3 hrec
   gi_wp2
   refine⟨by simp,.inl ⟨_,_,rfl,run_takeDeferred HX.out.1,?_⟩⟩
   refine⟨_,od (w.heap.size+1+1+1) (w.heap.size+1+1+1+1) (w.heap.size+1+1+1+1+1) (.int .i64 0 :: .int .i64 (dt f g (aQ f g)).1 :: row).toArray (.bool true) (.int .i64 0) rfl rfl rfl HX.out.2.2.2.1 (lS.trans (by simp[HN.out.2])) (by rw[ah HX.out.2.2.2.2.1];rfl) (by rw[ah HX.out.2.2.2.2.2];rfl),?_⟩
   exact⟨fun h=>absurd h HN.out.1,fun _=>⟨row,rfl,HX.out.2.1⟩,HX.out.2.2.1⟩
 case hY=>
  intro v W2 hv hb2
  have HRec:=ak_ hrec
  clear hrec
  refine tm HRec.out hfn ((hb2.block _ (by omega)).trans hl1) rfl ?_
  obtain⟨vH,vA,rfl,h8,⟨AH,cH,rfl,zH⟩,⟨AA,cA,rfl,zA⟩⟩:=hv
  have HZ:=ak_ (And.intro h8 (And.intro zH zA))
  have HB2:=ak_ hb2
  have HL2:=ak_ (And.intro ((hb2.block _ (by omega)).trans hd1) ((hb2.block _ (by omega)).trans hl1))
  have HB1:=ak_ hb1
  clear zH zA hb2 hd1 hl1 k1 k2 k3
  gi_wp2_with (first
   | ((with_reducible refine js (t:=37) (p:=10) rfl ?_);refine eK (fun _=>trivial) rfl rfl 37 _ _ rfl W2.heap.size (cac (aQ f g).r (.slice AH (aQ f g).h.length cH) (.slice AA (aQ f g).ans.length cA) (aQ f g).fuel) rfl rfl 37 dR.toList (heap_alloc_last W2 _) ((bq HZ.out.1).trans (by rw[List.size_toArray])) (by rw[jC HZ.out.1];rfl) (fun x hx=>by have h:=fC (r:=(aQ f g).r) (A:=AH) (B:=AA) (n:=(aQ f g).h.length) (c:=cH) (m:=(aQ f g).ans.length) (d:=cA) (fuel:=(aQ f g).fuel);rw[Array.all_eq_true'] at h;exact h x (by simpa using hx)) ?_;intro w11 h11 hf11;have H11:=ak_ h11;have HB11:=ak_ (bV hf11);clear h11 hf11))
  refine⟨(HB11.out.block _ (ai HL2.out.2)).trans HL2.out.2,?_⟩
  obtain⟨w12,hw12⟩:∃ w12,w12=w11.putObj (w9.heap.size+1) (.loop (rec .busy none)):=⟨_,rfl⟩
  rw[←hw12]
  have hf12:Fr (fun k=>k=w9.heap.size+1) w11 w12:=by rw[hw12];exact⟨rfl,rfl,rfl,by simp,fun k _ hk=>World.putObj_heap_other hk⟩
  have HSz:=ak_ (show W1.heap.size≤w12.heap.size from Nat.le_trans HB2.out.size (Nat.le_trans HB11.out.size hf12.size))
  have hl12:w12.heap[w9.heap.size+1]?=some (.loop (rec .busy none)):=by rw[hw12];exact World.putObj_heap_same (by have:=ai HL2.out.2;have:=HB11.out.size;omega)
  have hb91':Below w9.heap.size w9 w11:=af (af HB1.out HB2.out) HB11.out
  have hb912:Below w9.heap.size w9 w12:=Fr.below hb91' hf12 (fun k hk e=>by omega) hb91'.size
  have hbw:Below w.heap.size w w12:=af hb9 hb912
  have hW1s:W1.heap.size≤W2.heap.size:=HB2.out.size
  have h11n:W2.heap.size≠w9.heap.size+1:=by omega
  have hH12:=ak_ ((hf12.block W2.heap.size (ai H11.out) h11n).trans H11.out)
  have hnt:∀ k cs fr,k=w9.heap.size+1→w11.heap[k]?≠some (.cells cs 2 fr):=fun k cs fr e=>by subst e;rw[(HB11.out.block _ (ai HL2.out.2)).trans HL2.out.2];simp
  have hRH:=RdT.fr (S:=fun k=>k=w9.heap.size+1) aC (RdT.below (show RdT (Kd.int .i64) 2 W2 (.slice AH (aQ f g).h.length cH) (aQ f g).h from ⟨AH,cH,rfl,HZ.out.2.1⟩) HB11.out) hf12 hnt
  have hRA:=RdT.fr (S:=fun k=>k=w9.heap.size+1) aC (RdT.below (show RdT (Kd.int .i64) 2 W2 (.slice AA (aQ f g).ans.length cA) (aQ f g).ans from ⟨AA,cA,rfl,HZ.out.2.2⟩) HB11.out) hf12 hnt
  have hT:=iI f g Af Ag cf cg (aQ f g) (.agg (cac (aQ f g).r (.slice AH (aQ f g).h.length cH) (.slice AA (aQ f g).ans.length cA) (aQ f g).fuel).toArray) w12 (HF.out.1.below hbw) (Kd.C_below HF.out.2.1 hbw) Hc.out.2.1 (Kd.C_below HF.out.2.2 hbw) Hc.out.2.2 ⟨_,_,rfl,HZ.out.1,hRH,hRA⟩ (by show ([]:List Int).length≤_;decide) (by have h:(aQ f g).ans.length=frN f g:=fT _ _ _;have:=Hc.out.1;unfold frN at h;omega)
  obtain⟨t,ht⟩:=nm_ (dt f g (aQ f g))
  rw[←ht] at hT
  have HT:=ak_ hT
  have HTe:=ak_ ht
  have HC12:=ak_ (show CaV w12 (aQ f g) (.agg (cac (aQ f g).r (.slice AH (aQ f g).h.length cH) (.slice AA (aQ f g).ans.length cA) (aQ f g).fuel).toArray) from ⟨_,_,rfl,HZ.out.1,hRH,hRA⟩)
  have hb69:Below w6.heap.size w6 w9:=af (af HB7.out HB8.out) HB9.out
  have b69:Below w6.heap.size w6 w12:=af hb69 hb912
  have HB69:=ak_ b69
  have c0:=(show w12.cell? ⟨w.heap.size,0,none⟩=some (.slice Af f.length cf) by rw[ah (ag HG1.out b69)];rfl)
  have c1:=(show w12.cell? ⟨w.heap.size+1,0,none⟩=some (.slice Ag g.length cg) by rw[ah (ag HG2.out b69)];rfl)
  have HBW:=ak_ (And.intro hb912 hbw)
  have HL12:=ak_ hl12
  have HD12:=ak_ (show w12.heap[w9.heap.size]?=some (.deferred (some [])) from (hf12.block _ (by have:=ai HL2.out.1;have:=HB11.out.size;omega) (by omega)).trans ((HB11.out.block _ (ai HL2.out.1)).trans HL2.out.1))
  clear hT ht hw12 hf12 hl12 hb91' hb912 hbw hnt hRH hRA hb69 b69 hb91
  by_cases ht0:t.1=0
  ·have q:(t.1 != 0)=false:=by rw[ht0];rfl
   have HQ:=ak_ ht0
   clear ht0
   gi_wp2_with (first
    | ((with_reducible refine ju (N:=31) rfl ?_);refine gH (fun _=>trivial) rfl rfl _ (al rfl rfl (aT (P:=Tryz.prog) hH12.out Tryz.underlying37 rfl (bq HZ.out.1))) ?_)
    | (refine⟨trivial,?_⟩;gi_at_call 9;refine(CallsIn.inRound _ (callsIn_wide.2 HT.out)).mono ?_;rintro e w13 ⟨rfl,hb⟩;have HB13:=ak_ hb;clear hb))
   have hfp:Fr (fun k=>k=w9.heap.size+1) w13 (w13.putObj (w9.heap.size+1) (.loop (rec .ready none))):=⟨rfl,rfl,rfl,by simp,fun k _ hk=>World.putObj_heap_other hk⟩
   have hbp:Below w9.heap.size w9 (w13.putObj (w9.heap.size+1) (.loop (rec .ready none))):=Fr.below (af HBW.out.1 HB13.out) hfp (fun k hk e=>by omega) (af HBW.out.1 HB13.out).size
   have hl13:=(HB13.out.block _ (ai HL12.out)).trans HL12.out
   have hd13:=(HB13.out.block _ (ai HD12.out)).trans HD12.out
   exact⟨hl13,.inl ⟨rfl,⟨(hfp.block _ (ai hd13) (by omega)).trans hd13,World.putObj_heap_same (ai hl13),by rw[←HTe.out];exact HQ.out,hbp⟩,⟨hbp.os.trans HB1.out.os.symm,hbp.tape.trans HB1.out.tape.symm,hbp.output.trans HB1.out.output.symm,Nat.le_trans HSz.out (Nat.le_trans HB13.out.size hfp.size),fun k hk=>(hbp.block k hk).trans (HB1.out.block k hk).symm⟩⟩⟩
  ·have q:(t.1 != 0)=true:=bne_iff_ne.mpr ht0
   have HQ:=ak_ ht0
   have hs9:w6.heap.size≤w9.heap.size:=Nat.le_trans HB7.out.size (Nat.le_trans HB8.out.size HB9.out.size)
   have hlt6:=ai HG6.out
   obtain⟨row,hrow⟩:∃ row,row=cac (aQ f g).r (.slice AH (aQ f g).h.length cH) (.slice AA (aQ f g).ans.length cA) (aQ f g).fuel:=⟨_,rfl⟩
   have hrl:row.length=11:=by rw[hrow];exact jC HZ.out.1
   have hro1:∀ x∈row,x.oneCell'=true:=fun x hx=>by rw[hrow] at hx;have h:=fC (r:=(aQ f g).r) (A:=AH) (B:=AA) (n:=(aQ f g).h.length) (c:=cH) (m:=(aQ f g).ans.length) (d:=cA) (fuel:=(aQ f g).fuel);rw[Array.all_eq_true'] at h;exact h x (by simpa using hx)
   rw[←hrow] at HT HC12 hH12
   have HRi:=ak_ (show (Tryz.prog.info? 37).map (·.size)=some row.toArray.size by rw[hrow];exact bq HZ.out.1)
   have HRo:=ak_ (And.intro hrl hro1)
   clear ht0 hrow hrl hro1
   gi_wp2_with (first
    | ((with_reducible refine ju (N:=31) rfl ?_);refine gH (fun _=>trivial) rfl rfl _ (al rfl rfl (aT (P:=Tryz.prog) hH12.out Tryz.underlying37 rfl HRi.out)) ?_)
    | (refine⟨trivial,?_⟩;gi_at_call 9;refine(CallsIn.inRound _ (callsIn_wide.2 HT.out)).mono ?_;rintro e w13 ⟨rfl,hb⟩;have HB13:=ak_ hb;have H13:=ak_ (ag hH12.out hb);clear hb)
    | ((with_reducible refine ju (N:=39) rfl ?_);refine gH (fun _=>trivial) rfl rfl _ (al rfl rfl (aT (P:=Tryz.prog) H13.out Tryz.underlying37 rfl HRi.out)) ?_)
    | ((with_reducible refine ju (N:=40) rfl ?_);refine gH (fun _=>trivial) rfl rfl _ (jw 84 _ rfl [(0,.int .i64 0),(1,.int .i64 t.1),(2,.agg row.toArray)] _ rfl (Cm 0 t.1 row HRo.out.1)) ?_)
    | ((with_reducible refine js (t:=84) (p:=6) rfl ?_);refine eK (fun _=>trivial) rfl rfl 84 _ _ rfl (w.heap.size+1+1+1) (.int .i64 0 :: .int .i64 t.1 :: row) rfl rfl 84 kB (ag (ag HG4.out HB69.out) HB13.out) (lS.trans (by simp[HRo.out.1])) (by simp[HRo.out.1,kB]) (fun x hx=>by rcases List.mem_cons.1 hx with rfl | hx;rfl;rcases List.mem_cons.1 hx with rfl | hx;rfl;exact HRo.out.2 x hx) ?_;intro W5 h5 hf5;have H5:=ak_ h5;have HF5:=ak_ hf5;have HG5':=ak_ (ag (ag HG5.out HB69.out) HB13.out);have HG6':=ak_ (ag (ag HG6.out HB69.out) HB13.out);have e7:=(show W5.cell? ⟨w.heap.size+1+1+1+1,0,none⟩=some (.bool false) by rw[ah ((hf5.block _ (ai HG5'.out) (by omega)).trans HG5'.out)];rfl);have e8:=(show W5.cell? ⟨w.heap.size+1+1+1+1+1,0,none⟩=some (.int .i64 0) by rw[ah ((hf5.block _ (ai HG6'.out) (by omega)).trans HG6'.out)];rfl);have f7:=aq ((hf5.block _ (ai HG5'.out) (by omega)).trans HG5'.out) 0;have f8:=aq ((hf5.block _ (ai HG6'.out) (by omega)).trans HG6'.out) 0;clear h5 hf5))
   obtain⟨W6,hW6⟩:∃ W6,W6=(W5.setCell ⟨w.heap.size+1+1+1+1,0,none⟩ (.bool true)).setCell ⟨w.heap.size+1+1+1+1+1,0,none⟩ (.int .i64 0):=⟨_,rfl⟩
   rw[←hW6]
   have hff:Fr (fun k=>k=w.heap.size+1+1+1∨k=w.heap.size+1+1+1+1∨k=w.heap.size+1+1+1+1+1) w13 W6:=by
    rw[hW6]
    exact((HF5.out.mono fun k _ e=>.inl e).trans (Fr.cell (p:=⟨w.heap.size+1+1+1+1,0,none⟩) (.inr (.inl rfl)) _)).trans (Fr.cell (p:=⟨w.heap.size+1+1+1+1+1,0,none⟩) (.inr (.inr rfl)) _)
   have r6:W6.heap[w.heap.size+1+1+1]?=some (.cells (.int .i64 0 :: .int .i64 t.1 :: row).toArray 84 (0,0)):=by
    rw[hW6]
    exact a8 (a8 H5.out (p:=⟨w.heap.size+1+1+1+1,0,none⟩) (by show w.heap.size+1+1+1≠w.heap.size+1+1+1+1;omega) _) (p:=⟨w.heap.size+1+1+1+1+1,0,none⟩) (by show w.heap.size+1+1+1≠w.heap.size+1+1+1+1+1;omega) _
   have s7:=(HF5.out.block _ (ai HG5'.out) (by omega)).trans HG5'.out
   have s8:=(HF5.out.block _ (ai HG6'.out) (by omega)).trans HG6'.out
   have r7:W6.heap[w.heap.size+1+1+1+1]?=some (.cells #[.bool true] 4 (0,0)):=by
    rw[hW6]
    exact a8 (aJ (L:=[.bool false]) s7 0 (.bool true)) (p:=⟨w.heap.size+1+1+1+1+1,0,none⟩) (by show w.heap.size+1+1+1+1≠w.heap.size+1+1+1+1+1;omega) _
   have r8:W6.heap[w.heap.size+1+1+1+1+1]?=some (.cells #[.int .i64 0] 29 (0,0)):=by
    rw[hW6]
    exact aJ (L:=[.int .i64 0]) (a8 s8 (p:=⟨w.heap.size+1+1+1+1,0,none⟩) (by show w.heap.size+1+1+1+1+1≠w.heap.size+1+1+1+1;omega) _) 0 (.int .i64 0)
   have hl13:=(HB13.out.block _ (ai HL12.out)).trans HL12.out
   have hd13:=(HB13.out.block _ (ai HD12.out)).trans HD12.out
   have hl6:=(hff.block _ (ai hl13) (by omega)).trans hl13
   have hd6:=(hff.block _ (ai hd13) (by omega)).trans hd13
   have hnt1:∀ k cs fr,(k=w.heap.size+1+1+1∨k=w.heap.size+1+1+1+1∨k=w.heap.size+1+1+1+1+1)→w13.heap[k]?≠some (.cells cs 2 fr):=fun k cs fr e=>by
    rcases e with rfl | rfl | rfl
    ·rw[ag (ag HG4.out HB69.out) HB13.out];simp
    ·rw[HG5'.out];simp
    ·rw[HG6'.out];simp
   have hp7:Fr (fun k=>k=w9.heap.size+1) W6 (W6.putObj (w9.heap.size+1) (.loop (rec .done (some .ret)))):=⟨rfl,rfl,rfl,by simp,fun k _ hk=>World.putObj_heap_other hk⟩
   have hC7:=((HC12.out.below HB13.out).fr hff hnt1).fr hp7 (fun k cs fr e=>by subst e;rw[hl6];simp)
   have hb13:=af HBW.out.2 HB13.out
   have hb7:Below w.heap.size w (W6.putObj (w9.heap.size+1) (.loop (rec .done (some .ret)))):=Fr.below (Fr.below hb13 hff (fun k hk e=>by omega) hb13.size) hp7 (fun k hk e=>by omega) (Nat.le_trans hb13.size hff.size)
   refine⟨hl6,.inr ⟨rfl,(hp7.block _ (ai hd6) (by omega)).trans hd6,World.putObj_heap_same (ai hl6),row,hC7,HRo.out.1,?_,(hp7.block _ (ai r7) (by omega)).trans r7,(hp7.block _ (ai r8) (by omega)).trans r8,?_,hb7⟩⟩
   ·rw[←HTe.out];exact(hp7.block _ (ai r6) (by omega)).trans r6
   ·rw[←HTe.out];exact HQ.out
end
theorem m7 (s:ByteArray) (h:(ay s).2.2=0):bi (ay s).1=true:=by
 unfold ay at h ⊢
 split at h
 ·simp at h
 ·rename_i f bs fr e
  by_cases h1:fr < s.size
  ·rw[if_pos h1] at h;simp at h
  ·rw[if_neg h1] at h ⊢
   by_cases h2:(cd f).2=0
   ·rw[if_pos h2]
    unfold bi
    simpa using h2
   ·rw[if_neg h2] at h
    exact absurd h h2
theorem pG {f g:List In} (hf:f.length≤200) (hg:g.length≤200):(aQ f g).h=[]∧(aQ f g).ans.length≤5000∧0≤(aQ f g).fuel∧(aQ f g).fuel≤5000:=by
 have h:(aQ f g).ans.length=frN f g:=fT _ _ _
 have h2:(aQ f g).fuel=(frN f g:Int):=rfl
 unfold frN at h h2
 refine⟨rfl,?_,?_,?_⟩ <;> omega
theorem vI {f g:List In} {c:Ca} (h:(dt f g c).1≠0):dt f g c=((dt f g c).1,0):=by
 unfold dt at h ⊢
 split
 ·rfl
 ·rename_i hn
  rw[if_neg hn] at h
  exact absurd rfl h
theorem nK (f:List In) (S:bj) (F:List (List Src)) (cl:List Int) (l:Nat):∀ (es:List bL) (m:dj),(dL f S F cl l es m).1.length=es.length
 | [],_=>rfl
 | e :: es,m=>by simp only[dL,List.length_cons];rw[nK f S F cl l es]
theorem kH (f:List In) (c:List Bool) (cl:List Int) (F:List (List Src)):∀ (xs:List aH) (n:Nat) (m:dj),(∀ x∈xs,x.outs.length≤2)→(dd f c cl F xs n m).1.length=xs.length∧∀ y∈(dd f c cl F xs n m).1,y.args.length≤3∧y.outs.length≤2
 | [],_,_,_=>⟨rfl,fun _ h=>absurd h List.not_mem_nil⟩
 | x :: xs,n,m,h=>by
  have ih:=kH f c cl F xs (n+1) (kZ f c cl F n x m).2 (fun y hy=>h y (List.mem_cons_of_mem _ hy))
  have hx:=h x List.mem_cons_self
  simp only[dd,List.length_cons]
  refine⟨by rw[ih.1],fun y hy=>?_⟩
  rcases List.mem_cons.1 hy with rfl | hy
  ·rw[mF]
   refine⟨?_,by simpa using hx⟩
   unfold lI
   split
   ·exact Nat.zero_le _
   ·show (dx cl F n (cy (f.getD x.at_.toNat In.zero)) m).1.length≤3
    rw[pp]
    exact lu _
  ·exact ih.2 y hy
theorem lr (f:List In) (S:bj) (F:List (List Src)) (cl:List Int) (B:Nat) (hB:∀ xs∈aX S,xs.length≤B):∀ (k i:Nat) (m:dj),(fj f S F cl k i m).length≤k∧∀ y∈fj f S F cl k i m,y.from_.length≤B
 | 0,_,_=>⟨Nat.le_refl _,fun _ h=>absurd h List.not_mem_nil⟩
 | k+1,i,m=>by
  unfold fj
  split
  ·exact⟨Nat.zero_le _,fun _ h=>absurd h List.not_mem_nil⟩
  ·rename_i p _
   simp only
   have ih:=lr f S F cl B hB k (i+1) (dL f S F cl p.2.toNat ((aX S).getD p.1.toNat []) m).2
   refine⟨by simpa using ih.1,fun y hy=>?_⟩
   rcases List.mem_cons.1 hy with rfl | hy
   ·show (dL f S F cl p.2.toNat ((aX S).getD p.1.toNat []) m).1.length≤B
    rw[nK]
    by_cases hn:p.1.toNat < (aX S).length
    ·rw[List.getD_eq_getElem?_getD,List.getElem?_eq_getElem hn]
     exact hB _ (List.getElem_mem hn)
    ·rw[List.getD_eq_getElem?_getD,List.getElem?_eq_none (by omega)]
     exact Nat.zero_le _
   ·exact ih.2 y hy
theorem oX {f:List In} (hr:bi f=true):FSm (bD f):=by
 have hN:NPl f (bZ f) (a9 f (bZ f)) (bY f (a9 f (bZ f))):=⟨hr,rfl,rfl⟩
 have h1:=kH f (bZ f) (cr (gZ f (a9 f (bZ f)) (bY f (a9 f (bZ f))))) (bY f (a9 f (bZ f))) (a9 f (bZ f)).nodes 0 ⟨[],[]⟩ hN.way.1.few
 have h2:=hN.n200
 have h3:=lr f (a9 f (bZ f)) (bY f (a9 f (bZ f))) (cr (gZ f (a9 f (bZ f)) (bY f (a9 f (bZ f))))) 401 (eM hN.way.1.few h2) ((a9 f (bZ f)).nodes.length * 24+1) 0 (dd f (bZ f) (cr (gZ f (a9 f (bZ f)) (bY f (a9 f (bZ f))))) (bY f (a9 f (bZ f))) (a9 f (bZ f)).nodes 0 ⟨[],[]⟩).2
 refine⟨?_,?_,fun x hx=>?_,fun x hx=>?_⟩
 ·show (dd _ _ _ _ _ _ _).1.length≤5000
  rw[h1.1]
  omega
 ·show (fj _ _ _ _ _ _ _).length≤5000
  have:=h3.1
  omega
 ·have:=h1.2 x hx
  omega
 ·have:=h3.2 x hx
  omega
theorem ef:lp kIn:=fun _ _ _ _ h=>h
def e_:List Value:=cac r8 (.slice none 0 0) (.slice none 0 0) 0
def qO:List Value:=[.int .i64 0,.slice none 0 0,.slice none 0 0,.int .i64 0,.slice none 0 0,.slice none 0 0,.int .i64 0]++e_++e_
def jL (what who at_ er:Int):List Value:=.int .i64 what :: .int .i64 who :: .int .i64 at_ :: .int .i64 er :: qO
theorem lE (a b c d:Int):(jL a b c d).length=33:=rfl
theorem r5 (a b c d:Int):∀ v∈jL a b c d,v.oneCell'=true:=by
 intro v hv
 rcases List.mem_cons.1 hv with rfl | hv
 ·rfl
 rcases List.mem_cons.1 hv with rfl | hv
 ·rfl
 rcases List.mem_cons.1 hv with rfl | hv
 ·rfl
 rcases List.mem_cons.1 hv with rfl | hv
 ·rfl
 have h:∀ v∈qO,v.oneCell'=true:=by
  have h2:qO.all (·.oneCell')=true:=by kernel_rfl
  exact fun v hv=>List.all_eq_true.1 h2 v hv
 exact h v hv
theorem mP:(Tryz.prog.info? 39).map (·.size)=some 33:=by kernel_rfl
theorem Co (who at_ er:Int):Tryz.prog.built 39 [(0,.int .i64 3),(1,.int .i64 who),(2,.int .i64 at_),(3,.int .i64 er)]=some (jL 3 who at_ er).toArray:=rfl
def jd (vf vg:Value) (rep:List Value):List Value:=vf :: vg :: (rep++[.int .i64 0,.int .i64 0])
structure JAt (W:World) (gj:Nat) (vf vg:Value) (rep:List Value):Prop where
 b:W.heap[gj]?=some (.cells (jd vf vg rep).toArray 53 (0,0))
 l:rep.length=33
theorem JAt.below {W W':World} {gj:Nat} {vf vg:Value} {rep:List Value} (h:JAt W gj vf vg rep) (hb:Below W.heap.size W W'):JAt W' gj vf vg rep:=⟨ag h.b hb,h.l⟩
theorem C7 (vf vg:Value) {rep vs:List Value} (h:rep.length=33) (h2:vs.length=33):(jd vf vg rep).take 2++vs++(jd vf vg rep).drop (2+vs.length)=jd vf vg vs:=by
 unfold jd
 rw[h2]
 simp[h]
theorem JAt.cell {W:World} {gj:Nat} {vf vg:Value} {rep:List Value} (h:JAt W gj vf vg rep) (i:Nat):W.cell? ⟨gj,i,none⟩=(jd vf vg rep)[i]?:=ap h.b i
theorem JAt.set0 {W:World} {gj:Nat} {vf vg:Value} {rep:List Value} (h:JAt W gj vf vg rep) (v:Value):JAt (W.setCell ⟨gj,0,none⟩ v) gj v vg rep:=⟨aJ h.b 0 v,h.l⟩
theorem JAt.set1 {W:World} {gj:Nat} {vf vg:Value} {rep:List Value} (h:JAt W gj vf vg rep) (v:Value):JAt (W.setCell ⟨gj,1,none⟩ v) gj vf v rep:=⟨aJ h.b 1 v,h.l⟩
theorem RdT.judge {α:Type} {d:Kd α} (hd:lp d) {t:Nat} {W W':World} {v:Value} {xs:List α} (h:RdT d t W v xs) {gj:Nat} {cs:Array Value} (hj:W.heap[gj]?=some (.cells cs 53 (0,0))) (ht:t≠53) (hf:Fr (fun k=>k=gj) W W'):RdT d t W' v xs:=by
 refine RdT.fr hd h hf ?_
 rintro k cs' fr rfl e
 rw[hj] at e
 injection e with e
 injection e with _ e
 exact ht e.symm
structure Dj (w W:World) (gj:Nat) (a b:ByteArray) (rep:List Value) (k:Nat) (vf vg:Value):Prop where
 k2:k≤2
 fr:Fr (fun k=>k=gj) w W
 j:JAt W gj vf vg rep
 one:1≤k→(ay a).2.2=0∧RdT kIn 49 W vf (ay a).1
 two:2≤k→(ay b).2.2=0∧RdT kIn 49 W vg (ay b).1
theorem Gl.fr {w W:World} (h:Gl w) {S:Nat→Prop} (hf:Fr S w W) (hs:¬ S 0∧¬ S 1):Gl W:=by
 obtain⟨h1,h2,h3,h4⟩:=h
 exact⟨fun i hi=>⟨hf.cell_at (h1 i hi).1 hs.1,hf.cell_at (h1 i hi).2 hs.1⟩,hf.cell_at h2 hs.2,hf.cell_at h3 hs.2,Nat.le_trans h4 hf.size⟩
def Bc (w:World) (gj:Nat) (a b:ByteArray) (rep:List Value) (e:Ending) (w':World):Prop:=∃ (r:Bool) (vf vg:Value) (rep':List Value),e=.returned (.bool r)∧JAt w' gj vf vg rep'∧Fr (fun k=>k=gj) w w'∧
   (r=true→(ay a).2.2=0∧(ay b).2.2=0∧RdT kIn 49 w' vf (ay a).1∧RdT kIn 49 w' vg (ay b).1∧rep'=rep)∧
   (r=false→¬ ((ay a).2.2=0∧(ay b).2.2=0)∧∃ x y z,rep'=jL 3 x y z)
theorem sS (a b:ByteArray) (ha:Asc a) (hb:Asc b) (la:a.size≤20000) (lb:b.size≤20000) (w:World) (hG:Gl w) (gj:Nat) (vf vg:Value) (rep:List Value) (hj:JAt w gj vf vg rep) (hg2:2≤gj) :
  Calls Tryz.prog 16 #[.pointer (some ⟨gj,0,none⟩),.agg #[.string a,.string b]] w (Bc w gj a b rep):=by
 have HGj:=ak_ (show Gl w∧2≤gj from ⟨hG,hg2⟩)
 have HA:=ak_ (And.intro (And.intro ha la) (And.intro hb lb))
 have HJ:=ak_ hj
 clear hG hg2 ha hb la lb hj
 go_enter Tryz.func16,Tryz.ntmps16
 go_wp2
 go_loopw [11] (fun i wr=>∃ (k:Nat) (vf vg:Value),i=.int .i64 k∧aa (Dj w wr gj a b rep k vf vg)) (fun i _=>2 - (intOf i).toNat)
 case atStart=>exact⟨0,vf,vg,rfl,⟨Nat.zero_le _,Fr.of_below (ae (Below.refl _ _) _),HJ.out.below (ae (Below.refl _ _) _),fun h=>by omega,fun h=>by omega⟩⟩
 case round=>
  obtain⟨k,vf,vg,rfl,HK⟩:=hrel
  have hk:=HK.out.k2
  by_cases hk2:k < 2
  ·have hk2':(k:Int) < 2:=by omega
   obtain⟨s,hix,hs,hsl,hsk⟩:∃ s:ByteArray,(∀ W,(Instr.index 55 (.agg #[.string a,.string b]) (.int .i64 (k:Int))).run Tryz.prog W=.ok (.string s) W)∧Asc s∧s.size≤20000∧s=(if k=0 then a else b):=by
    have h01:k=0∨k=1:=by omega
    rcases h01 with rfl | rfl
    ·exact⟨a,fun W=>by kernel_rfl,HA.out.1.1,HA.out.1.2,rfl⟩
    ·exact⟨b,fun W=>by kernel_rfl,HA.out.2.1,HA.out.2.2,rfl⟩
   have HS:=ak_ hsk
   have HP:=ak_ (fun W (hG:Gl W)=>yW s hs hsl W hG)
   obtain⟨P,hP⟩:=nm_ (ay s)
   rw[←hP] at HP
   obtain⟨F,p1,p2⟩:=P
   have HPe:=ak_ hP
   have HGw:=ak_ (Gl.fr HGj.out.1 HK.out.fr ⟨by have:=HGj.out.2;omega,by have:=HGj.out.2;omega⟩)
   clear hs hsl hsk hP
   have HK2:=ak_ hk2
   by_cases he:p2=0
   ·subst he
    by_cases hk0:k=0
    ·have q0:((k:Int) == 0)=true:=beq_iff_eq.mpr (by omega)
     have HK0:=ak_ hk0
     clear hk hk2 hk0
     go_wp2_with (go_at_call 33;refine(HP.out wr HGw.out).mono ?_;rintro e w1 ⟨v,rfl,hR,hb1⟩;obtain⟨AF,cF,rfl,zF⟩:=(show RdT kIn 49 w1 v F from hR);have HR:=ak_ (show RdT kIn 49 w1 (.slice AF F.length cF) F from ⟨AF,cF,rfl,zF⟩);have HB1:=ak_ hb1;have c0:=(show w1.cell? ⟨gj,0,none⟩=some vf from (HK.out.j.below hb1).cell 0);have z0:=aq (HK.out.j.below hb1).b 0;clear hR hb1 zF HP)
     have hf:Fr (fun k=>k=gj) w1 (w1.setCell ⟨gj,0,none⟩ (.slice AF F.length cF)):=Fr.cell (S:=fun k=>k=gj) (p:=⟨gj,0,none⟩) rfl _
     have hj:=(HK.out.j.below HB1.out).set0 (.slice AF F.length cF)
     have HN:=ak_ (show Dj w (w1.setCell ⟨gj,0,none⟩ (.slice AF F.length cF)) gj a b rep 1 (.slice AF F.length cF) vg from ⟨by omega,(HK.out.fr.trans (Fr.of_below HB1.out)).trans hf,hj,fun _=>by
      have e1:=HPe.out
      rw[HS.out,if_pos HK0.out] at e1
      rw[←e1]
      exact⟨rfl,HR.out.judge ef (HK.out.j.below HB1.out).b (by decide) hf⟩,fun h=>by omega⟩)
     clear hf hj
     go_roundw
     case rel=>exact⟨1,_,_,by rw[HK0.out];rfl,HN⟩
     case measure=>rw[HK0.out];simp[intOf]
    ·have q0:((k:Int) == 0)=false:=beq_eq_false_iff_ne.mpr (by omega)
     have HK0:=ak_ (show k=1 by omega)
     clear hk hk2 hk0
     go_wp2_with (go_at_call 33;refine(HP.out wr HGw.out).mono ?_;rintro e w1 ⟨v,rfl,hR,hb1⟩;obtain⟨AF,cF,rfl,zF⟩:=(show RdT kIn 49 w1 v F from hR);have HR:=ak_ (show RdT kIn 49 w1 (.slice AF F.length cF) F from ⟨AF,cF,rfl,zF⟩);have HB1:=ak_ hb1;have c0:=(show w1.cell? ⟨gj,1,none⟩=some vg from (HK.out.j.below hb1).cell 1);have z0:=aq (HK.out.j.below hb1).b 1;clear hR hb1 zF HP)
     have hf:Fr (fun k=>k=gj) w1 (w1.setCell ⟨gj,1,none⟩ (.slice AF F.length cF)):=Fr.cell (S:=fun k=>k=gj) (p:=⟨gj,1,none⟩) rfl _
     have hj:=(HK.out.j.below HB1.out).set1 (.slice AF F.length cF)
     have HN:=ak_ (show Dj w (w1.setCell ⟨gj,1,none⟩ (.slice AF F.length cF)) gj a b rep 2 vf (.slice AF F.length cF) from ⟨by omega,(HK.out.fr.trans (Fr.of_below HB1.out)).trans hf,hj,fun _=>⟨(HK.out.one (by have:=HK0.out;omega)).1,((HK.out.one (by have:=HK0.out;omega)).2.below HB1.out).judge ef (HK.out.j.below HB1.out).b (by decide) hf⟩,fun _=>by
      have e1:=HPe.out
      rw[HS.out,if_neg (by rw[HK0.out];decide)] at e1
      rw[←e1]
      exact⟨rfl,HR.out.judge ef (HK.out.j.below HB1.out).b (by decide) hf⟩⟩)
     clear hf hj
     go_roundw
     case rel=>exact⟨2,_,_,by rw[HK0.out];rfl,HN⟩
     case measure=>rw[HK0.out];simp[intOf]
   ·have qe:(p2 != 0)=true:=bne_iff_ne.mpr he
    have HE:=ak_ he
    clear he hk hk2
    go_wp2_with (first
     | (go_at_call 33;refine(HP.out wr HGw.out).mono ?_;rintro e w1 ⟨v,rfl,hR,hb1⟩;obtain⟨AF,cF,rfl,zF⟩:=(show RdT kIn 49 w1 v F from hR);have HB1:=ak_ hb1;have HJ1:=ak_ (HK.out.j.below hb1);clear hR hb1 zF HP)
     | ((with_reducible refine aj (N:=27) rfl ?_);refine aM rfl 39 _ rfl [(0,.int .i64 3),(1,.int .i64 (k:Int)),(2,.int .i64 p1),(3,.int .i64 p2)] _ rfl (Co k p1 p2) ?_)
     | ((with_reducible refine ao (t:=39) (p:=29) rfl ?_);refine dT rfl 39 _ _ rfl gj 2 (jL 3 k p1 p2) rfl rfl 53 (jd vf vg rep) (jd vf vg (jL 3 k p1 p2)) HJ1.out.b (by rw[lE];exact mP) (by unfold jd;simp[HJ1.out.l,lE]) (r5 _ _ _ _) (C7 _ _ HJ1.out.l (lE _ _ _ _)) ?_;intro w2 h2 hf2;have H2:=ak_ h2;have HF2:=ak_ hf2;clear h2 hf2))
    go_ret
    refine⟨false,vf,vg,jL 3 k p1 p2,rfl,⟨H2.out,lE _ _ _ _⟩,(HK.out.fr.trans (Fr.of_below HB1.out)).trans HF2.out,fun h=>(by cases h),fun _=>⟨fun h=>HE.out ?_,_,_,_,rfl⟩⟩
    have e1:=HPe.out
    have e2:p2=(ay s).2.2:=by rw[←e1]
    have hs:=HS.out
    rw[e2,hs]
    split
    ·exact h.1
    ·exact h.2
  ·obtain rfl:k=2:=by omega
   clear hk hk2
   go_wp2
   go_ret
   exact⟨true,vf,vg,rep,rfl,HK.out.j,HK.out.fr,fun _=>⟨(HK.out.one (by decide)).1,(HK.out.two (by decide)).1,(HK.out.one (by decide)).2,(HK.out.two (by decide)).2,rfl⟩,fun h=>by cases h⟩
def fg (what:Int) (ea:Int) (na va:Value) (eb:Int) (nb vb:Value) (tl:List Value):List Value:=.int .i64 what :: .int .i64 0 :: .int .i64 0 :: .int .i64 0 :: .int .i64 ea :: na :: va :: .int .i64 eb :: nb :: vb :: tl
def tl0:List Value:=.int .i64 0 :: (e_++e_)
theorem rc:(Tryz.prog.info? 33).map (·.size)=some 3:=by kernel_rfl
def iv (v:Value) (n:Nat):Prop:=∃ A c,v=.slice A n c
def Be (w:World) (gj:Nat) (f g:List In) (vf vg:Value) (e:Ending) (w':World):Prop:=
 ∃ na va nb vb,e=.returned (.bool (!decide (bD f=bD g)))∧JAt w' gj vf vg (fg 0 (bD f).entry na va (bD g).entry nb vb tl0)∧iv na (bD f).nodes.length∧(∃ n,iv va n)∧(∃ n,iv nb n)∧(∃ n,iv vb n)∧Fr (fun k=>k=gj) w w'∧RdT kIn 49 w' vf f∧RdT kIn 49 w' vg g
theorem Dz {n:Int} {A B:Option Addr} {a b c d:Nat}:∀ v∈[Value.int .i64 n,.slice A a b,.slice B c d],v.oneCell'=true:=by
 intro v hv
 simp only[List.mem_cons,List.not_mem_nil,or_false] at hv
 rcases hv with rfl | rfl | rfl <;> rfl
theorem rp (f g:List In) (w:World) (hG:Gl w) (gj:Nat) (vf vg:Value) (hj:JAt w gj vf vg (fg 0 0 (.slice none 0 0) (.slice none 0 0) 0 (.slice none 0 0) (.slice none 0 0) tl0)) (hg2:2≤gj) (hrf:bi f=true) (hrg:bi g=true) (hf:RdT kIn 49 w vf f) (hg:RdT kIn 49 w vg g) :
  Calls Tryz.prog 17 #[.pointer (some ⟨gj,0,none⟩)] w (Be w gj f g vf vg):=by
 obtain⟨Af,cf,rfl,lf,Cf,tf⟩:=hf
 obtain⟨Ag,cg,rfl,lg,Cg,tg⟩:=hg
 have hf:RdT kIn 49 w (.slice Af f.length cf) f:=⟨Af,cf,rfl,lf,Cf,tf⟩
 have hg:RdT kIn 49 w (.slice Ag g.length cg) g:=⟨Ag,cg,rfl,lg,Cg,tg⟩
 have HN1:=ak_ (uS f Af cf w hG Cf lf hrf)
 have HN2:=ak_ (fun (W:World) (hG:Gl W) (h:RdT kIn 49 W (.slice Ag g.length cg) g)=>uS g Ag cg W hG (by obtain⟨A,c,e,_,h,_⟩:=h;injection e with e;subst e;exact h) lg hrg)
 have HS:=ak_ (tO (bD f) (bD g))
 have HSm:=ak_ (And.intro (oX hrf) (oX hrg))
 obtain⟨F,hF⟩:=nm_ (bD f)
 obtain⟨G,hGe⟩:=nm_ (bD g)
 have HQ:Be w gj f g (.slice Af f.length cf) (.slice Ag g.length cg)=fun e w'=>∃ na va nb vb,e=.returned (.bool (!decide (F=G)))∧JAt w' gj (.slice Af f.length cf) (.slice Ag g.length cg) (fg 0 F.entry na va G.entry nb vb tl0)∧iv na F.nodes.length∧(∃ n,iv va n)∧(∃ n,iv nb n)∧(∃ n,iv vb n)∧Fr (fun k=>k=gj) w w'∧RdT kIn 49 w' (.slice Af f.length cf) f∧RdT kIn 49 w' (.slice Ag g.length cg) g:=by
  rw[hF,hGe];rfl
 rw[←hF] at HN1 HS HSm
 rw[←hGe] at HN2 HS HSm
 have HQe:=ak_ HQ
 have HGl:=ak_ hG
 have HJ:=ak_ hj
 have HFr:=ak_ (And.intro hf hg)
 have HG2:=ak_ hg2
 obtain⟨r,hr⟩:=nm_ (decide (F=G))
 have HR:=ak_ hr
 rw[←hr] at HS
 have c0:=(show w.cell? ⟨gj,0,none⟩=some (.slice Af f.length cf) from hj.cell 0)
 clear hF hGe HQ hG hj hg2 hf hg lf Cf tf lg Cg tg hrf hrg hr
 obtain⟨Q,hQ⟩:∃ Q,Q=Be w gj f g (.slice Af f.length cf) (.slice Ag g.length cg):=⟨_,rfl⟩
 rw[←hQ]
 have HQ2:=ak_ hQ
 clear hQ
 go_enter Tryz.func17,Tryz.ntmps17
 go_upto_region 2 with (first
  | (go_at_call 34;refine HN1.out.mono ?_;rintro e w1 ⟨vN,vV,rfl,hN,hV,hb1⟩;obtain⟨AN,cN,rfl⟩:=Kd.R_slice hN;obtain⟨AV,cV,rfl⟩:=Kd.R_slice hV;have HNa:=ak_ hN;have HVa:=ak_ hV;have HB1:=ak_ hb1;have HJ1:=ak_ (HJ.out.below hb1);clear hN hV hb1 c0 HN1)
  | ((with_reducible refine ao (t:=33) (p:=14) rfl ?_);refine dT rfl 33 _ _ rfl gj 6 [.int .i64 F.entry,.slice AN F.nodes.length cN,.slice AV F.vals.length cV] rfl rfl 53 (jd (.slice Af f.length cf) (.slice Ag g.length cg) (fg 0 0 (.slice none 0 0) (.slice none 0 0) 0 (.slice none 0 0) (.slice none 0 0) tl0)) (jd (.slice Af f.length cf) (.slice Ag g.length cg) (fg 0 F.entry (.slice AN F.nodes.length cN) (.slice AV F.vals.length cV) 0 (.slice none 0 0) (.slice none 0 0) tl0)) HJ1.out.b rc (Nat.le_of_ble_eq_true rfl) Dz rfl ?_;intro w2 h2 hf2;have H2:=ak_ h2;have HF2:=ak_ hf2;clear h2 hf2))
 have HB2:=ak_ (show Fr (fun k=>k=gj) w w2 from (Fr.of_below HB1.out).trans HF2.out)
 have HNb:=ak_ (c_ HNa.out HF2.out (fun k q cells hk hc hq=>by have hk2:k=gj:=hk;subst hk2;rw[HJ1.out.b] at hc;injection hc with hc;injection hc with _ hc _;rcases ej hq with e | e | e <;> exact absurd (hc.trans e) (by decide)))
 have HVb:=ak_ (c_ HVa.out HF2.out (fun k q cells hk hc hq=>by have hk2:k=gj:=hk;subst hk2;rw[HJ1.out.b] at hc;injection hc with hc;injection hc with _ hc _;rcases jo hq with e | e <;> exact absurd (hc.trans e) (by decide)))
 have HR2:=ak_ (And.intro ((HFr.out.1.below HB1.out).judge ef HJ1.out.b (by decide) HF2.out) ((HFr.out.2.below HB1.out).judge ef HJ1.out.b (by decide) HF2.out))
 have HGl2:=ak_ (Gl.fr HGl.out HB2.out ⟨by have:=HG2.out;omega,by have:=HG2.out;omega⟩)
 have HN3:=ak_ (HN2.out w2 HGl2.out HR2.out.2)
 have HJ2:=ak_ (show JAt w2 gj (.slice Af f.length cf) (.slice Ag g.length cg) (fg 0 F.entry (.slice AN F.nodes.length cN) (.slice AV F.vals.length cV) 0 (.slice none 0 0) (.slice none 0 0) tl0) from ⟨H2.out,rfl⟩)
 have c1:=(show w2.cell? ⟨gj,1,none⟩=some (.slice Ag g.length cg) from HJ2.out.cell 1)
 clear HN2 HNa HVa HJ1 HF2 HB1 HJ HGl HFr H2
 go_upto_region 3 with (first
  | (go_at_call 34;refine HN3.out.mono ?_;rintro e w3 ⟨vN,vV,rfl,hN,hV,hb3⟩;obtain⟨AM,cM,rfl⟩:=Kd.R_slice hN;obtain⟨AU,cU,rfl⟩:=Kd.R_slice hV;have HM:=ak_ hN;have HU:=ak_ hV;have HB3:=ak_ hb3;have HJ3:=ak_ (HJ2.out.below hb3);clear hN hV hb3 c1 HN3)
  | ((with_reducible refine ao (t:=33) (p:=26) rfl ?_);refine dT rfl 33 _ _ rfl gj 9 [.int .i64 G.entry,.slice AM G.nodes.length cM,.slice AU G.vals.length cU] rfl rfl 53 (jd (.slice Af f.length cf) (.slice Ag g.length cg) (fg 0 F.entry (.slice AN F.nodes.length cN) (.slice AV F.vals.length cV) 0 (.slice none 0 0) (.slice none 0 0) tl0)) (jd (.slice Af f.length cf) (.slice Ag g.length cg) (fg 0 F.entry (.slice AN F.nodes.length cN) (.slice AV F.vals.length cV) G.entry (.slice AM G.nodes.length cM) (.slice AU G.vals.length cU) tl0)) HJ3.out.b rc (Nat.le_of_ble_eq_true rfl) Dz rfl ?_;intro w4 h4 hf4;have H4:=ak_ h4;have HF4:=ak_ hf4;clear h4 hf4))
 have tagN:=fun (k q:Nat) (cells:Array Value) (hk:k=gj) (hc:w3.heap[k]?=some (.cells cells q (0,0))) (hq:q∈145 :: ek.E)=>(show False by subst hk;rw[HJ3.out.b] at hc;injection hc with hc;injection hc with _ hc _;rcases ej hq with e | e | e <;> exact absurd (hc.trans e) (by decide))
 have tagV:=fun (k q:Nat) (cells:Array Value) (hk:k=gj) (hc:w3.heap[k]?=some (.cells cells q (0,0))) (hq:q∈148 :: ie.E)=>(show False by subst hk;rw[HJ3.out.b] at hc;injection hc with hc;injection hc with _ hc _;rcases jo hq with e | e <;> exact absurd (hc.trans e) (by decide))
 have HNc:=ak_ (c_ (Kd.R_below HNb.out HB3.out) HF4.out tagN)
 have HVc:=ak_ (c_ (Kd.R_below HVb.out HB3.out) HF4.out tagV)
 have HMc:=ak_ (c_ HM.out HF4.out tagN)
 have HUc:=ak_ (c_ HU.out HF4.out tagV)
 have HR4:=ak_ (And.intro ((HR2.out.1.below HB3.out).judge ef HJ3.out.b (by decide) HF4.out) ((HR2.out.2.below HB3.out).judge ef HJ3.out.b (by decide) HF4.out))
 have HB4:=ak_ (show Fr (fun k=>k=gj) w w4 from (HB2.out.trans (Fr.of_below HB3.out)).trans HF4.out)
 have HD:=ak_ (show Below w4.heap.size w4 w4.drew from az (Below.refl _ _))
 have HS4:=ak_ (HS.out _ _ _ _ w4.drew (Rd.of_R (Kd.R_below HNc.out HD.out)) (Rd.of_R (Kd.R_below HVc.out HD.out)) (Rd.of_R (Kd.R_below HMc.out HD.out)) (Rd.of_R (Kd.R_below HUc.out HD.out)) HSm.out.1 HSm.out.2)
 have HL1:=ak_ (bU (P:=Tryz.prog) (W:=w4.drew) (ag H4.out HD.out) 33 6 [.int .i64 F.entry,.slice AN F.nodes.length cN,.slice AV F.vals.length cV] rfl _ Tryz.underlying33 rfl rc)
 have HL2:=ak_ (bU (P:=Tryz.prog) (W:=w4.drew) (ag H4.out HD.out) 33 9 [.int .i64 G.entry,.slice AM G.nodes.length cM,.slice AU G.vals.length cU] rfl _ Tryz.underlying33 rfl rc)
 clear tagN tagV HM HU HNb HVb HB3 HJ2 HJ3 HF4 HB2 HR2
 go_still_tail 10,(by kernel_rfl)
 refine bu rfl (al rfl rfl HL1.out) ?_
 repeat still_step
 refine bu rfl (al rfl rfl HL2.out) ?_
 refine wpStill_nil ?_
 change wpList _ _ _ _ _ w4.drew
 go_wp2_with (go_at_call 35;refine HS4.out.mono ?_;rintro e w5 ⟨rfl,hb5⟩;have HB5:=ak_ (af HD.out hb5);clear hb5)
 rw[HQ2.out,HQe.out]
 exact⟨_,_,_,_,by rw[HR.out];rfl,⟨ag H4.out HB5.out,rfl⟩,⟨_,_,rfl⟩,⟨_,_,_,rfl⟩,⟨_,_,_,rfl⟩,⟨_,_,_,rfl⟩,HB4.out.trans (Fr.of_below HB5.out),HR4.out.1.below HB5.out,HR4.out.2.below HB5.out⟩
theorem BP:(Tryz.prog.info? 24).map (·.size)=some 2:=by kernel_rfl
def nM (f g:List In):Int:=(dt f g (aQ f g)).1
def sG (f g:List In):Int:=gq (fun n=>gX f g { aQ f g with fuel:=n }) 0 (aQ f g).fuel
def CH (w:World) (gj:Nat) (f g:List In) (vf vg:Value) (ea:Int) (na va:Value) (eb:Int) (nb vb:Value) (e:Ending) (w':World):Prop:=
 Fr (fun k=>k=gj) w w'∧((nM f g=0∧e=.returned (.bool false)∧JAt w' gj vf vg (fg 2 ea na va eb nb vb tl0))∨
  (nM f g≠0∧e=.returned (.bool true)∧∃ tl,JAt w' gj vf vg (fg 1 ea na va eb nb vb tl)∧tl[22]?=some (.int .i64 (sG f g))∧∀ v∈tl,v.oneCell'=true))
def te (f g:List In) (t:Int) (V:List Value) (W:World):Prop:=t≠0→∃ row:List Value,V=.int .i64 0 :: .int .i64 t :: row∧CaV W (aQ f g) (.agg row.toArray)
theorem te.below {f g:List In} {t:Int} {V:List Value} {W W':World} (h:te f g t V W) (hb:Below W.heap.size W W'):te f g t V W':=fun h0=>by
 obtain⟨row,h1,h2⟩:=h h0
 exact⟨row,h1,h2.below hb⟩
theorem CaV.row {W:World} {c:Ca} {row:List Value} (h:CaV W c (.agg row.toArray)):row.length=11∧(∀ v∈row,v.oneCell'=true)∧row[10]?=some (.int .i64 c.fuel):=by
 obtain⟨vH,vA,h1,h8,hH,hA⟩:=h
 obtain⟨AH,cH,rfl,_⟩:=hH
 obtain⟨AA,cA,rfl,_⟩:=hA
 injection h1 with h1
 have h2:row=cac c.r (.slice AH c.h.length cH) (.slice AA c.ans.length cA) c.fuel:=by simpa using congrArg Array.toList h1
 subst h2
 refine⟨jC h8,fun v hv=>?_,?_⟩
 ·have:=fC (r:=c.r) (A:=AH) (n:=c.h.length) (c:=cH) (B:=AA) (m:=c.ans.length) (d:=cA) (fuel:=c.fuel)
  rw[Array.all_eq_true_iff_forall_mem] at this
  exact this v (by simpa using hv)
 ·unfold cac
  rw[List.getElem?_append_right (by simp[h8]),List.length_map,h8]
  rfl
def jdS (b0 b1 b2:Bool) (vf vg:Value) (ea:Int) (na va:Value) (eb:Int) (nb vb:Value) (t:Int) (row:List Value):List Value:=
 jd vf vg (fg (if b0=true then 1 else 0) ea na va eb nb vb (.int .i64 (if b1=true then t else 0) :: ((if b2=true then row else e_)++e_)))
theorem BJ (b0 b1:Bool) (vf vg:Value) (ea:Int) (na va:Value) (eb:Int) (nb vb:Value) (t:Int) {row:List Value} (h:row.length=11) :
  (jdS b0 b1 false vf vg ea na va eb nb vb t row).take 13++row++(jdS b0 b1 false vf vg ea na va eb nb vb t row).drop (13+row.length)=jdS b0 b1 true vf vg ea na va eb nb vb t row:=by
 rw[h]
 unfold jdS jd fg
 simp[e_,cac,r8]
theorem BK (b0 b1 b2:Bool) (vf vg:Value) (ea:Int) (na va:Value) (eb:Int) (nb vb:Value) (t:Int) {row:List Value} (h:row.length=11):(jdS b0 b1 b2 vf vg ea na va eb nb vb t row).length=37:=by
 unfold jdS jd fg
 cases b2 <;> simp[h,e_,cac,r8]
theorem BI (vf vg:Value) (ea:Int) (na va:Value) (eb:Int) (nb vb:Value) (t:Int) {row r2:List Value} (h:row.length=11) (h2:r2.length=11) :
  (jd vf vg (fg 1 ea na va eb nb vb (.int .i64 t :: (row++e_)))).take 24++r2++(jd vf vg (fg 1 ea na va eb nb vb (.int .i64 t :: (row++e_)))).drop (24+r2.length)=jd vf vg (fg 1 ea na va eb nb vb (.int .i64 t :: (row++r2))):=by
 rw[h2]
 unfold jd fg
 simp[h,e_,cac,r8]
 rw[List.drop_append,h]
 simp[h]
def DT (f g:List In) (row:List Value):Prop:=row.length=11∧(∀ v∈row,v.oneCell'=true)∧row[10]?=some (.int .i64 (sG f g))
theorem sT (f g:List In) (w:World) (hG:Gl w) (gj:Nat) (vf vg:Value) (ea:Int) (na va:Value) (eb:Int) (nb vb:Value) (hj:JAt w gj vf vg (fg 0 ea na va eb nb vb tl0)) (hg2:2≤gj) (hrf:bi f=true) (hrg:bi g=true) (hf:RdT kIn 49 w vf f) (hg:RdT kIn 49 w vg g) :
  Calls Tryz.prog 18 #[.pointer (some ⟨gj,0,none⟩)] w (CH w gj f g vf vg ea na va eb nb vb):=by
 obtain⟨Af,cf,rfl,lf,Cf,tf⟩:=hf
 obtain⟨Ag,cg,rfl,lg,Cg,tg⟩:=hg
 have hf:RdT kIn 49 w (.slice Af f.length cf) f:=⟨Af,cf,rfl,lf,Cf,tf⟩
 have hg:RdT kIn 49 w (.slice Ag g.length cg) g:=⟨Ag,cg,rfl,lg,Cg,tg⟩
 have hlf:=(bN hrf).len
 have hlg:=(bN hrg).len
 obtain⟨t,ht⟩:=nm_ (nM f g)
 obtain⟨b,hb⟩:=nm_ (decide (t≠0))
 have HC:=ak_ (show ∀ W,Below w.heap.size w W→Calls Tryz.prog 36 #[.slice Af f.length cf,.slice Ag g.length cg,.agg #[.int .i64 0,.int .i64 0]] W fun e w'=>∃ V:List Value,e=.returned (.tuple #[.agg V.toArray,.bool b,.int .i64 0])∧V.length=13∧(∀ v∈V,v.oneCell'=true)∧te f g t V w'∧Below W.heap.size W w' from fun W hB=>by
  refine(yD f g Af Ag cf cg W (hG.below hB) hrf hrg hlf hlg (Kd.C_below Cf hB) lf (Kd.C_below Cg hB) lg).mono ?_
  rintro e w' ⟨h1,h2,h3⟩
  by_cases h0:t=0
  ·refine⟨kB,?_,rfl,sK,fun h=>absurd h0 h,h3⟩
   rw[h1 (by rw[ht] at h0;exact h0),hb,decide_eq_false (fun h=>h h0)]
  ·obtain⟨row,h4,h5⟩:=h2 (by rw[ht] at h0;exact h0)
   obtain⟨r1,r2,_⟩:=h5.row
   refine⟨.int .i64 0 :: .int .i64 t :: row,?_,by simp[r1],fun v hv=>?_,fun _=>⟨row,rfl,h5⟩,h3⟩
   ·rw[h4,hb,decide_eq_true h0,ht]
    rfl
   ·rcases List.mem_cons.1 hv with rfl | hv
    ·rfl
    rcases List.mem_cons.1 hv with rfl | hv
    ·rfl
    exact r2 v hv)
 have HGl:=ak_ hG
 have HJ:=ak_ hj
 have HFr:=ak_ (And.intro hf hg)
 have HG2:=ak_ hg2
 have HTe:=ak_ ht
 have HBb:=ak_ hb
 have HRt:=ak_ (And.intro hrf hrg)
 have HL:=ak_ (And.intro lf lg)
 have HLt:=ak_ (And.intro hlf hlg)
 have HI:=ak_ (show ∀ W,(isAgg 22).run Tryz.prog W=.ok false W from fun W=>by kernel_rfl)
 have HI3:=ak_ (show ∀ W,(isAgg 3).run Tryz.prog W=.ok false W from fun W=>by kernel_rfl)
 have HS3:=ak_ (show ∀ W,(sizeOf 3).run Tryz.prog W=.ok 1 W from fun W=>by kernel_rfl)
 have HGj:=ak_ (show gj < w.heap.size from ai hj.b)
 clear hG hj hg2 hf hg lf Cf tf lg Cg tg hrf hrg ht hb hlf hlg
 obtain⟨Q,hQ⟩:∃ Q,Q=CH w gj f g (.slice Af f.length cf) (.slice Ag g.length cg) ea na va eb nb vb:=⟨_,rfl⟩
 rw[←hQ]
 have HQ:=ak_ hQ
 clear hQ
 go_enter Tryz.func18,Tryz.ntmps18
 go_upto_region 1 with fail
 refine bh (σ:=List Value × Nat) [12,17,18] (fun s=>[(7,.pointer (some ⟨gj,0,none⟩)),(8,.pointer (some ⟨gj,0,none⟩)),(9,.pointer (some ⟨gj,0,none⟩)),(10,.slice Af f.length cf),(11,.pointer (some ⟨gj,0,none⟩)),(12,.pointer (some ⟨gj,0,none⟩)),(13,.pointer (some ⟨gj,1,none⟩)),(14,.slice Ag g.length cg),(15,.pointer (some ⟨gj,0,none⟩)),(16,.pointer (some ⟨gj,0,none⟩)),(17,.pointer (some ⟨gj,35,none⟩)),(18,.agg #[.int .i64 0,.int .i64 0]),(19,.tuple #[.agg s.1.toArray,.bool b,.int .i64 0]),(6,.tuple #[.agg s.1.toArray,.bool b,.int .i64 0]),(20,.agg s.1.toArray),(21,.bool b),(22,.int .i64 0),(3,.pointer (some ⟨s.2,0,none⟩)),(4,.bool b),(5,.int .i64 0)])
  (fun bs s W=>Below w.heap.size w W∧(bs.getD 0 false=true→s.1.length=13∧(∀ v∈s.1,v.oneCell'=true)∧te f g t s.1 W)∧(bs.getD 1 false=true→w.heap.size≤s.2∧W.heap[s.2]?=some (.cells (if bs.getD 2 false=true then s.1.toArray else kB.toArray) 84 (0,0)))) ([],0) (by kernel_rfl) (by kernel_rfl) (by kernel_rfl) (fun _=>by kernel_rfl) ?_
 intro aF haF
 simp only[bd,Act.put,List.setIfInBounds_toArray,List.set_cons_succ,List.set_cons_zero] at haF
 subst haF
 refine⟨?_,?_,⟨az (Below.refl _ _),fun e=>Bool.noConfusion e,fun e=>Bool.noConfusion e⟩,?_⟩
 ·intro j o ho hct s_1 W bs hlen hok hI
  rcases j with _ | _ | _ | _ | _ | _ | _ | _ | _ | _ | _ | _ | _ | _ | _ | _ | _ | _ | _ | _ | _ | j
  all_goals first | exact absurd hct (by decide) | (obtain rfl:=Option.some.inj ho) | exact absurd (Array.getElem?_eq_some_iff.1 ho).1 (by simp)
  ·exact ab rfl (by go_simp) ⟨rfl,hI⟩
  ·exact ab rfl (by go_simp) ⟨rfl,hI⟩
  ·exact ab rfl (by go_simp) ⟨rfl,hI⟩
  ·exact ab rfl (al rfl rfl (aE (HI.out W) ((HJ.out.below hI.1).cell 0))) ⟨rfl,hI⟩
  ·exact ab rfl (by go_simp) ⟨rfl,hI⟩
  ·exact ab rfl (by go_simp) ⟨rfl,hI⟩
  ·exact ab rfl (by go_simp) ⟨rfl,hI⟩
  ·exact ab rfl (al rfl rfl (aE (HI.out W) ((HJ.out.below hI.1).cell 1))) ⟨rfl,hI⟩
  ·exact ab rfl (by go_simp) ⟨rfl,hI⟩
  ·exact ab rfl (by go_simp) ⟨rfl,hI⟩
  ·exact ab rfl (by go_simp) ⟨rfl,hI⟩
  ·exact ab rfl (al rfl rfl (bU (P:=Tryz.prog) (HJ.out.below hI.1).b 24 35 [.int .i64 0,.int .i64 0] rfl _ Tryz.underlying24 rfl BP)) ⟨rfl,hI⟩
  ·exact ab rfl (by go_simp) ⟨rfl,hI⟩
  ·exact ab rfl (by go_simp) ⟨rfl,hI⟩
  ·exact ab rfl (by go_simp) ⟨rfl,hI⟩
  ·exact ab rfl (by go_simp) ⟨rfl,hI⟩
  ·exact ab rfl (by go_simp) ⟨rfl,hI⟩
  ·exact ab rfl (by go_simp) ⟨rfl,hI⟩
 ·intro k j o hk ho s_1 W bs hlen hok hI
  rcases k with _ | _ | _ | k
  all_goals first | (obtain rfl:=Option.some.inj hk;obtain rfl:=Option.some.inj ho) | exact absurd hk (by simp)
  ·obtain⟨b0,b1,b2,rfl⟩:=tP hlen
   obtain rfl:=okS hok 0 rfl rfl
   obtain rfl:=okF hok 2 rfl rfl rfl (by kernel_rfl)
   refine aN rfl Tryz.func36 (by kernel_rfl) rfl #[.slice Af f.length cf,.slice Ag g.length cg,.agg #[.int .i64 0,.int .i64 0]] rfl rfl ((HC.out W hI.1).mono fun e w' h=>?_)
   obtain⟨V,h1,h2,h3,h4,h5⟩:=h
   exact⟨_,h1,(V,s_1.2),[(19,.tuple #[.agg V.toArray,.bool b,.int .i64 0]),(6,.tuple #[.agg V.toArray,.bool b,.int .i64 0]),(20,.agg V.toArray)],rfl,rfl,by kernel_rfl,⟨af hI.1 h5,fun _=>⟨h2,h3,h4⟩,fun e=>⟨(hI.2.2 e).1,ag (hI.2.2 e).2 h5⟩⟩⟩
  ·obtain⟨b0,b1,b2,rfl⟩:=tP hlen
   obtain rfl:=okS hok 1 rfl rfl
   obtain rfl:=okF hok 2 rfl rfl rfl (by kernel_rfl)
   have hbW:Below W.heap.size W (W.alloc (.cells kB.toArray 84)):=ae (Below.refl _ _) _
   exact ab (v:=.pointer (some ⟨W.heap.size,0,none⟩)) (w':=W.alloc (.cells kB.toArray 84)) rfl (by go_simp;rfl) ⟨(s_1.1,W.heap.size),[(3,.pointer (some ⟨W.heap.size,0,none⟩))],rfl,rfl,by kernel_rfl,⟨af hI.1 hbW,fun e=>⟨(hI.2.1 e).1,(hI.2.1 e).2.1,(hI.2.1 e).2.2.below hbW⟩,fun _=>⟨hI.1.size,heap_alloc_last W _⟩⟩⟩
  ·obtain⟨b0,b1,b2,rfl⟩:=tP hlen
   obtain rfl:=okS hok 2 rfl rfl
   obtain rfl:=okT hok 0 rfl rfl rfl (by kernel_rfl)
   obtain rfl:=okT hok 1 rfl rfl rfl (by kernel_rfl)
   obtain⟨c1,c2,c3⟩:=hI.2.1 rfl
   obtain⟨c4,c5⟩:=hI.2.2 rfl
   refine bm rfl 84 _ _ rfl s_1.2 0 s_1.1 rfl rfl 84 kB s_1.1 c5 (lS.trans (by rw[c1])) (by rw[c1];exact Nat.le_refl _) c2 (by rw[List.take_zero,List.nil_append,List.drop_of_length_le (by rw[c1];exact Nat.le_refl _),List.append_nil]) (fun W' h3 hf3=>⟨s_1,[],rfl,rfl,rfl,⟨Fr.below hI.1 hf3 (fun k hk e=>by omega) hI.1.size,fun _=>⟨c1,c2,fun h0=>?_⟩,fun _=>⟨c4,h3⟩⟩⟩)
   obtain⟨row,e1,e2⟩:=c3 h0
   exact⟨row,e1,e2.fr hf3 (fun k cs fr e h=>by subst e;rw[c5] at h;injection h with h;injection h with _ h;exact absurd h (by decide))⟩
 ·intro s_1 W hI
  obtain⟨⟨V,q⟩,rfl⟩:∃ s':List Value × Nat,s'=s_1:=⟨_,rfl⟩
  obtain⟨hB2,hc,ha⟩:=hI
  obtain⟨v13,v1,vr⟩:=hc rfl
  obtain⟨hq,hqb⟩:=ha rfl
  have HB2:=ak_ hB2
  have HV:=ak_ (And.intro v13 v1)
  have HVr:=ak_ vr
  have HQb:=ak_ (show W.heap[q]?=some (.cells V.toArray 84 (0,0)) from hqb)
  have HQl:=ak_ (show w.heap.size≤q from hq)
  have HJ2:=ak_ (HJ.out.below hB2)
  obtain⟨w2,rfl⟩:=nm_ W
  have c2:=(show w2.cell? ⟨gj,2,none⟩=some (.int .i64 0) from HJ2.out.cell 2)
  have z2:=aq HJ2.out.b 2
  clear hB2 hc ha v13 v1 vr hq hqb HC HJ
  cases b with
  | false=>
   go_wp2
   rw[HQ.out]
   have h0:nM f g=0:=by have h1:=HBb.out;rw[HTe.out] at h1;have h2:=of_decide_eq_false h1.symm;exact Decidable.not_not.1 h2
   refine⟨(Fr.of_below HB2.out).trans (Fr.cell (S:=fun k=>k=gj) (p:=⟨gj,2,none⟩) rfl _),.inl ⟨h0,rfl,?_,rfl⟩⟩
   exact aJ HJ2.out.b 2 (.int .i64 2)
  | true=>
   have h0:t≠0:=of_decide_eq_true HBb.out.symm
   obtain⟨row,hrow,hca⟩:=HVr.out h0
   subst hrow
   obtain⟨r11,r1c,_⟩:=hca.row
   have HRow:=ak_ (And.intro r11 r1c)
   have HCa:=ak_ hca
   have HT0:=ak_ h0
   clear h0 hca r11 r1c HVr c2 z2
   go_upto_region 5 with fail
   refine bh (σ:=Unit) [10,14,18] (fun _=>[(29,.pointer (some ⟨gj,0,none⟩)),(30,.pointer (some ⟨gj,0,none⟩)),(31,.pointer (some ⟨gj,0,none⟩)),(32,.pointer (some ⟨q,1,none⟩)),(33,.int .i64 t),(34,.pointer (some ⟨q,2,none⟩)),(35,.agg row.toArray),(36,.pointer (some ⟨gj,0,none⟩)),(37,.pointer (some ⟨gj,2,none⟩)),(38,.pointer (some ⟨gj,2,none⟩)),(39,.pointer (some ⟨gj,0,none⟩)),(40,.pointer (some ⟨gj,2,none⟩)),(41,.pointer (some ⟨gj,12,none⟩)),(42,.pointer (some ⟨gj,0,none⟩)),(43,.pointer (some ⟨gj,2,none⟩)),(44,.pointer (some ⟨gj,13,none⟩))])
    (fun bs _ W=>Fr (fun k=>k=gj) w2 W∧W.heap[gj]?=some (.cells (jdS (bs.getD 0 false) (bs.getD 1 false) (bs.getD 2 false) (.slice Af f.length cf) (.slice Ag g.length cg) ea na va eb nb vb t row).toArray 53 (0,0))) () (by kernel_rfl) (by kernel_rfl) (by kernel_rfl) (fun _=>by kernel_rfl) ?_
   intro aF haF
   simp only[bd,Act.put,List.setIfInBounds_toArray,List.set_cons_succ,List.set_cons_zero] at haF
   subst haF
   refine⟨?_,?_,⟨Fr.drew,HJ2.out.b⟩,?_⟩
   ·intro j o ho hct s_1 W bs hlen hok hI
    rcases j with _ | _ | _ | _ | _ | _ | _ | _ | _ | _ | _ | _ | _ | _ | _ | _ | _ | _ | _ | j
    all_goals first | exact absurd hct (by decide) | (obtain rfl:=Option.some.inj ho) | exact absurd (Array.getElem?_eq_some_iff.1 ho).1 (by simp)
    ·exact ab rfl (by go_simp) ⟨rfl,hI⟩
    ·exact ab rfl (by go_simp) ⟨rfl,hI⟩
    ·exact ab rfl (by go_simp) ⟨rfl,hI⟩
    ·exact ab rfl (by go_simp) ⟨rfl,hI⟩
    ·exact ab rfl (al rfl rfl (aE (HI3.out W) ((ap ((hI.1.block q (ai HQb.out) (by have:=HQl.out;have:=HGj.out;omega)).trans HQb.out) 1).trans rfl))) ⟨rfl,hI⟩
    ·exact ab rfl (by go_simp) ⟨rfl,hI⟩
    ·exact ab rfl (al rfl rfl (bU (P:=Tryz.prog) ((hI.1.block q (ai HQb.out) (by have:=HQl.out;have:=HGj.out;omega)).trans HQb.out) 37 2 row List.take_length _ Tryz.underlying37 rfl (by rw[HRow.out.1];exact oP))) ⟨rfl,hI⟩
    ·exact ab rfl (by go_simp) ⟨rfl,hI⟩
    ·exact ab rfl (by go_simp) ⟨rfl,hI⟩
    ·exact ab rfl (by go_simp) ⟨rfl,hI⟩
    ·exact ab rfl (by go_simp) ⟨rfl,hI⟩
    ·exact ab rfl (by go_simp) ⟨rfl,hI⟩
    ·exact ab rfl (by go_simp) ⟨rfl,hI⟩
    ·exact ab rfl (by go_simp) ⟨rfl,hI⟩
    ·exact ab rfl (by go_simp) ⟨rfl,hI⟩
    ·exact ab rfl (by go_simp) ⟨rfl,hI⟩
   ·intro k j o hk ho s_1 W bs hlen hok hI
    rcases k with _ | _ | _ | k
    all_goals first | (obtain rfl:=Option.some.inj hk;obtain rfl:=Option.some.inj ho) | exact absurd hk (by simp)
    ·obtain⟨b0,b1,b2,rfl⟩:=tP hlen
     obtain rfl:=okS hok 0 rfl rfl
     have h9:W.heap[gj]?=some (.cells (jdS false b1 b2 (.slice Af f.length cf) (.slice Ag g.length cg) ea na va eb nb vb t row).toArray 53 (0,0)):=hI.2
     exact aV rfl 3 _ _ rfl gj 2 (.int .i64 1) (.int .i64 0) rfl rfl rfl rfl (HS3.out W) ((ap h9 2).trans rfl) (aq h9 2) ⟨(),[],rfl,rfl,rfl,⟨hI.1.trans (Fr.cell (S:=fun k=>k=gj) (p:=⟨gj,2,none⟩) rfl _),aJ h9 2 (.int .i64 1)⟩⟩
    ·obtain⟨b0,b1,b2,rfl⟩:=tP hlen
     obtain rfl:=okS hok 1 rfl rfl
     have h9:W.heap[gj]?=some (.cells (jdS b0 false b2 (.slice Af f.length cf) (.slice Ag g.length cg) ea na va eb nb vb t row).toArray 53 (0,0)):=hI.2
     exact aV rfl 3 _ _ rfl gj 12 (.int .i64 t) (.int .i64 0) rfl rfl rfl rfl (HS3.out W) ((ap h9 12).trans rfl) (aq h9 12) ⟨(),[],rfl,rfl,rfl,⟨hI.1.trans (Fr.cell (S:=fun k=>k=gj) (p:=⟨gj,12,none⟩) rfl _),aJ h9 12 (.int .i64 t)⟩⟩
    ·obtain⟨b0,b1,b2,rfl⟩:=tP hlen
     obtain rfl:=okS hok 2 rfl rfl
     have h9:W.heap[gj]?=some (.cells (jdS b0 b1 false (.slice Af f.length cf) (.slice Ag g.length cg) ea na va eb nb vb t row).toArray 53 (0,0)):=hI.2
     exact bm rfl 37 _ _ rfl gj 13 row rfl rfl 53 _ _ h9 (by rw[HRow.out.1];exact oP) (by rw[BK _ _ _ _ _ _ _ _ _ _ _ _ HRow.out.1,HRow.out.1];decide) HRow.out.2 (BJ _ _ _ _ _ _ _ _ _ _ _ HRow.out.1) (fun W' h3 hf3=>⟨(),[],rfl,rfl,rfl,⟨hI.1.trans hf3,h3⟩⟩)
   ·intro s_1 W hI
    obtain⟨hf5,h5⟩:=hI
    have H5:=ak_ (show W.heap[gj]?=some (.cells (jd (.slice Af f.length cf) (.slice Ag g.length cg) (fg 1 ea na va eb nb vb (.int .i64 t :: (row++e_)))).toArray 53 (0,0)) from h5)
    have HF5:=ak_ hf5
    obtain⟨w5,rfl⟩:=nm_ W
    have hq5:=(hf5.block q (ai HQb.out) (by have:=HQl.out;have:=HGj.out;omega)).trans HQb.out
    have HQ5:=ak_ hq5
    have hca5:=HCa.out.fr hf5 (fun k cs fr e h=>by subst e;rw[HJ2.out.b] at h;injection h with h;injection h with _ h;exact absurd h (by decide))
    have hf2:=(HFr.out.1.below HB2.out).judge ef HJ2.out.b (by decide) hf5
    have hg2:=(HFr.out.2.below HB2.out).judge ef HJ2.out.b (by decide) hf5
    have hG5:=Gl.fr (HGl.out.below HB2.out) hf5 ⟨by have:=HG2.out;omega,by have:=HG2.out;omega⟩
    have HR5:=ak_ (And.intro hf2 hg2)
    have HCs:=ak_ (show ∀ W,Fr (fun k=>k=gj) w5 W→Calls Tryz.prog 37 #[.slice Af f.length cf,.slice Ag g.length cg,.agg row.toArray] W fun e w'=>∃ (V:List Value) (k':Int),e=.returned (.tuple #[.agg V.toArray,.int .i64 k',.int .i64 0])∧DT f g V∧Below W.heap.size W w' from fun W hW=>by
     obtain⟨A1,c1,e1,_,Cf,_⟩:=hf2.judge ef h5 (by decide) hW
     injection e1 with e1 e2 e3
     subst e1 e3
     obtain⟨A1,c1,e1,_,Cg,_⟩:=hg2.judge ef h5 (by decide) hW
     injection e1 with e1 e2 e3
     subst e1 e3
     have hcaW:=hca5.fr hW (fun k cs fr e h=>by subst e;rw[h5] at h;injection h with h;injection h with _ h;exact absurd h (by decide))
     have hs:=pG HLt.out.1 HLt.out.2
     have hn:(dt f g (aQ f g)).1≠0:=by have:=HT0.out;rw[HTe.out] at this;exact this
     refine(rQ f g Af Ag cf cg (aQ f g) _ W (Gl.fr hG5 hW ⟨by have:=HG2.out;omega,by have:=HG2.out;omega⟩) Cf HL.out.1 Cg HL.out.2 hcaW hs.1 _ (vI hn) hn hs.2.1 hs.2.2).mono ?_
     rintro e w' ⟨v,c',k',h1,h2,h3,h4⟩
     obtain⟨vH,vA,h6,h8,hH,hA⟩:=h2
     subst h6
     have h9:=CaV.row (W:=w') (c:=c') (row:=cac c'.r vH vA c'.fuel) ⟨vH,vA,rfl,h8,hH,hA⟩
     exact⟨_,k',h1,⟨h9.1,h9.2.1,by rw[h9.2.2,h3];rfl⟩,h4⟩)
    clear hf5 h5 hq5 hca5 hf2 hg2 hG5
    go_upto_region 6 with fail
    refine bh (σ:=List Value × Int) [11,19] (fun s=>[(46,.pointer (some ⟨gj,0,none⟩)),(47,.pointer (some ⟨gj,0,none⟩)),(48,.pointer (some ⟨gj,0,none⟩)),(49,.pointer (some ⟨gj,0,none⟩)),(50,.slice Af f.length cf),(51,.pointer (some ⟨gj,0,none⟩)),(52,.pointer (some ⟨gj,0,none⟩)),(53,.pointer (some ⟨gj,1,none⟩)),(54,.slice Ag g.length cg),(55,.pointer (some ⟨q,2,none⟩)),(56,.agg row.toArray),(57,.tuple #[.agg s.1.toArray,.int .i64 s.2,.int .i64 0]),(45,.tuple #[.agg s.1.toArray,.int .i64 s.2,.int .i64 0]),(58,.agg s.1.toArray),(59,.int .i64 s.2),(60,.int .i64 0),(61,.pointer (some ⟨gj,0,none⟩)),(62,.pointer (some ⟨gj,2,none⟩)),(63,.pointer (some ⟨gj,24,none⟩))])
     (fun bs s W=>Fr (fun k=>k=gj) w5 W∧(bs.getD 0 false=true→DT f g s.1)∧W.heap[gj]?=some (.cells (jd (.slice Af f.length cf) (.slice Ag g.length cg) (fg 1 ea na va eb nb vb (.int .i64 t :: (row++(if bs.getD 1 false=true then s.1 else e_))))).toArray 53 (0,0))) ([],0) (by kernel_rfl) (by kernel_rfl) (by kernel_rfl) (fun _=>by kernel_rfl) ?_
    intro aF haF
    simp only[bd,Act.put,List.setIfInBounds_toArray,List.set_cons_succ,List.set_cons_zero] at haF
    subst haF
    refine⟨?_,?_,⟨Fr.drew,fun e=>Bool.noConfusion e,H5.out⟩,?_⟩
    ·intro j o ho hct s_1 W bs hlen hok hI
     rcases j with _ | _ | _ | _ | _ | _ | _ | _ | _ | _ | _ | _ | _ | _ | _ | _ | _ | _ | _ | _ | j
     all_goals first | exact absurd hct (by decide) | (obtain rfl:=Option.some.inj ho) | exact absurd (Array.getElem?_eq_some_iff.1 ho).1 (by simp)
     ·exact ab rfl (by go_simp) ⟨rfl,hI⟩
     ·exact ab rfl (by go_simp) ⟨rfl,hI⟩
     ·exact ab rfl (by go_simp) ⟨rfl,hI⟩
     ·exact ab rfl (by go_simp) ⟨rfl,hI⟩
     ·exact ab rfl (al rfl rfl (aE (HI.out W) ((ap hI.2.2 0).trans rfl))) ⟨rfl,hI⟩
     ·exact ab rfl (by go_simp) ⟨rfl,hI⟩
     ·exact ab rfl (by go_simp) ⟨rfl,hI⟩
     ·exact ab rfl (by go_simp) ⟨rfl,hI⟩
     ·exact ab rfl (al rfl rfl (aE (HI.out W) ((ap hI.2.2 1).trans rfl))) ⟨rfl,hI⟩
     ·exact ab rfl (by go_simp) ⟨rfl,hI⟩
     ·exact ab rfl (al rfl rfl (bU (P:=Tryz.prog) ((hI.1.block q (ai HQ5.out) (by have:=HQl.out;have:=HGj.out;omega)).trans HQ5.out) 37 2 row List.take_length _ Tryz.underlying37 rfl (by rw[HRow.out.1];exact oP))) ⟨rfl,hI⟩
     ·exact ab rfl (by go_simp) ⟨rfl,hI⟩
     ·exact ab rfl (by go_simp) ⟨rfl,hI⟩
     ·exact ab rfl (by go_simp) ⟨rfl,hI⟩
     ·exact ab rfl (by go_simp) ⟨rfl,hI⟩
     ·exact ab rfl (by go_simp) ⟨rfl,hI⟩
     ·exact ab rfl (by go_simp) ⟨rfl,hI⟩
     ·exact ab rfl (by go_simp) ⟨rfl,hI⟩
    ·intro k j o hk ho s_1 W bs hlen hok hI
     rcases k with _ | _ | k
     all_goals first | (obtain rfl:=Option.some.inj hk;obtain rfl:=Option.some.inj ho) | exact absurd hk (by simp)
     ·obtain⟨b0,b1,rfl⟩:=fR hlen
      obtain rfl:=okS hok 0 rfl rfl
      obtain rfl:=okF hok 1 rfl rfl rfl (by kernel_rfl)
      refine aN rfl Tryz.func37 (by kernel_rfl) rfl #[.slice Af f.length cf,.slice Ag g.length cg,.agg row.toArray] rfl rfl ((HCs.out W hI.1).mono fun e w' h=>?_)
      obtain⟨V,k',h1,h2,h3⟩:=h
      exact⟨_,h1,(V,k'),[(57,.tuple #[.agg V.toArray,.int .i64 k',.int .i64 0]),(45,.tuple #[.agg V.toArray,.int .i64 k',.int .i64 0]),(58,.agg V.toArray),(59,.int .i64 k')],rfl,rfl,by kernel_rfl,⟨hI.1.trans (Fr.of_below h3),fun _=>h2,ag hI.2.2 h3⟩⟩
     ·obtain⟨b0,b1,rfl⟩:=fR hlen
      obtain rfl:=okS hok 1 rfl rfl
      obtain rfl:=okT hok 0 rfl rfl rfl (by kernel_rfl)
      have hp:=hI.2.1 rfl
      exact bm rfl 37 _ _ rfl gj 24 s_1.1 rfl rfl 53 (jd (.slice Af f.length cf) (.slice Ag g.length cg) (fg 1 ea na va eb nb vb (.int .i64 t :: (row++e_)))) _ hI.2.2 (by rw[hp.1];exact oP) (by have h11:=HRow.out.1;rw[hp.1];simp[jd,fg,h11,e_,cac,r8]) hp.2.1 (BI _ _ _ _ _ _ _ _ _ HRow.out.1 hp.1) (fun W' h3 hf3=>⟨s_1,[],rfl,rfl,rfl,⟨hI.1.trans hf3,fun _=>hp,h3⟩⟩)
    ·intro s_1 W hI
     obtain⟨⟨V,k'⟩,rfl⟩:∃ s':List Value × Int,s'=s_1:=⟨_,rfl⟩
     obtain⟨hf6,hp,h6⟩:=hI
     have hp:=hp rfl
     go_wp2
     rw[HQ.out]
     refine⟨((Fr.of_below HB2.out).trans HF5.out).trans hf6,.inr ⟨by have:=HT0.out;rw[HTe.out] at this;exact this,rfl,_,⟨h6,?_⟩,?_,fun v hv=>?_⟩⟩
     ·have:=HRow.out.1
      have:=hp.1
      simp[fg]
      omega
     ·rw[List.getElem?_cons_succ,List.getElem?_append_right (by rw[HRow.out.1];decide),HRow.out.1]
      exact hp.2.2
     ·rcases List.mem_cons.1 hv with rfl | hv
      ·rfl
      rcases List.mem_append.1 hv with hv | hv
      ·exact HRow.out.2 v hv
      ·exact hp.2.1 v hv
theorem Au (a b:ByteArray) (ha:Asc a) (hb:Asc b) (la:a.size≤20000) (lb:b.size≤20000) (w:World) (hG:Gl w) (gj ga gb gp:Nat) (vf vg:Value) (rep:List Value) (hj:JAt w gj vf vg rep) (hg2:2≤gj) (h1:w.heap[ga]?=some (.cells #[.string a] 9 (0,0))) (h2:w.heap[gb]?=some (.cells #[.string b] 9 (0,0))) (h3:w.heap[gp]?=some (.cells #[.pointer (some ⟨gj,0,none⟩)] 51 (0,0))) :
  Calls Tryz.prog 15 #[.pointer (some ⟨gp,0,none⟩),.pointer (some ⟨ga,0,none⟩),.pointer (some ⟨gb,0,none⟩)] w (Bc w gj a b rep):=by
 have HT:=ak_ (sS a b ha hb la lb w hG gj vf vg rep hj hg2)
 have c1:=(show w.cell? ⟨ga,0,none⟩=some (.string a) by rw[ah h1];rfl)
 have c2:=(show w.cell? ⟨gb,0,none⟩=some (.string b) by rw[ah h2];rfl)
 have c3:=(show w.cell? ⟨gp,0,none⟩=some (.pointer (some ⟨gj,0,none⟩)) by rw[ah h3];rfl)
 clear ha hb la lb hG hj hg2 h1 h2 h3
 obtain⟨Q,hQ⟩:=nm_ (Bc w gj a b rep)
 have HQ:=ak_ hQ
 rw[←hQ] at HT ⊢
 clear hQ
 go_enter Tryz.func15,Tryz.ntmps15
 go_wp2_with (go_at_call 16;refine HT.out.mono ?_;intro e w1 hq;have HQ1:=ak_ hq;have hq2:=hq;rw[HQ.out] at hq2;obtain⟨r,_,_,_,rfl,_⟩:=hq2;clear hq HT c1 c2 c3)
 exact HQ1.out
section
def fN (a b:ByteArray):Int:=if (ay a).2.2=0∧(ay b).2.2=0 then if bD (ay a).1=bD (ay b).1 then 0 else if nM (ay a).1 (ay b).1=0 then 2 else 1 else 3
structure uC (a b:ByteArray) (rep:List Value):Prop where
 len:rep.length=33
 one:∀ v∈rep,v.oneCell'=true
 v:rep.head?=some (.int .i64 (fN a b))
 eq:fN a b=0→∃ v,rep[5]?=some v∧iv v (bD (ay a).1).nodes.length
 di:fN a b=1→rep[32]?=some (.int .i64 (sG (ay a).1 (ay b).1))
theorem Bv {a b:ByteArray} (h:¬ ((ay a).2.2=0∧(ay b).2.2=0)) (x y z:Int):uC a b (jL 3 x y z):=by
 have hv:fN a b=3:=if_neg h
 exact⟨rfl,r5 _ _ _ _,by rw[hv];rfl,fun e=>by rw[hv] at e;exact absurd e (by decide),fun e=>by rw[hv] at e;exact absurd e (by decide)⟩
theorem qJ {v:Value} {n:Nat} (h:iv v n):v.oneCell'=true:=by
 obtain⟨A,c,rfl⟩:=h
 rfl
theorem oe {what ea:Int} {na va:Value} {eb:Int} {nb vb:Value} {tl:List Value} (h1:∃ n,iv na n) (h2:∃ n,iv va n) (h3:∃ n,iv nb n) (h4:∃ n,iv vb n) (h5:∀ v∈tl,v.oneCell'=true):∀ v∈fg what ea na va eb nb vb tl,v.oneCell'=true:=by
 obtain⟨_,h1⟩:=h1
 obtain⟨_,h2⟩:=h2
 obtain⟨_,h3⟩:=h3
 obtain⟨_,h4⟩:=h4
 intro v hv
 unfold fg at hv
 simp only[List.mem_cons] at hv
 rcases hv with rfl | rfl | rfl | rfl | rfl | rfl | rfl | rfl | rfl | rfl | hv
 ·rfl
 ·rfl
 ·rfl
 ·rfl
 ·rfl
 ·exact qJ h1
 ·exact qJ h2
 ·rfl
 ·exact qJ h3
 ·exact qJ h4
 ·exact h5 v hv
theorem uK:∀ v∈tl0,v.oneCell'=true:=fun v hv=>List.all_eq_true.1 (show tl0.all (·.oneCell')=true by kernel_rfl) v hv
section
variable {a b:ByteArray} (h:(ay a).2.2=0∧(ay b).2.2=0) {ea:Int} {na va:Value} {eb:Int} {nb vb:Value} {m:Nat} (h1:iv na m) (h2:∃ n,iv va n) (h3:∃ n,iv nb n) (h4:∃ n,iv vb n)
include h h1 h2 h3 h4
theorem CR (hm:m=(bD (ay a).1).nodes.length) (he:bD (ay a).1=bD (ay b).1):uC a b (fg 0 ea na va eb nb vb tl0):=by
 have hv:fN a b=0:=by unfold fN;rw[if_pos h,if_pos he]
 exact⟨rfl,oe ⟨_,h1⟩ h2 h3 h4 uK,by rw[hv];rfl,fun _=>⟨na,rfl,by rw[←hm];exact h1⟩,fun e=>by rw[hv] at e;exact absurd e (by decide)⟩
theorem Bu (he:bD (ay a).1≠bD (ay b).1) (ht:nM (ay a).1 (ay b).1=0):uC a b (fg 2 ea na va eb nb vb tl0):=by
 have hv:fN a b=2:=by unfold fN;rw[if_pos h,if_neg he,if_pos ht]
 exact⟨rfl,oe ⟨_,h1⟩ h2 h3 h4 uK,by rw[hv];rfl,fun e=>by rw[hv] at e;exact absurd e (by decide),fun e=>by rw[hv] at e;exact absurd e (by decide)⟩
theorem Bw (he:bD (ay a).1≠bD (ay b).1) (ht:nM (ay a).1 (ay b).1≠0) {tl:List Value} (hl:(fg 1 ea na va eb nb vb tl).length=33) (ho:∀ v∈tl,v.oneCell'=true) (hf:tl[22]?=some (.int .i64 (sG (ay a).1 (ay b).1))):uC a b (fg 1 ea na va eb nb vb tl):=by
 have hv:fN a b=1:=by unfold fN;rw[if_pos h,if_neg he,if_neg ht]
 exact⟨hl,oe ⟨_,h1⟩ h2 h3 h4 ho,by rw[hv];rfl,fun e=>by rw[hv] at e;exact absurd e (by decide),fun _=>hf⟩
end
def Bf (w:World) (a b:ByteArray) (e:Ending) (w':World):Prop:=∃ row,e=.returned (.agg row.toArray)∧uC a b row∧Below w.heap.size w w'
def DSt (w1 W:World) (gj:Nat) (a b:ByteArray) (k:Nat):Prop:=k≤3∧Fr (fun k=>k=gj) w1 W∧∃ vf vg rep,JAt W gj vf vg rep∧
 ((k=0∧rep=jL 0 0 0 0)∨
  (1≤k∧k < 3∧(ay a).2.2=0∧(ay b).2.2=0∧RdT kIn 49 W vf (ay a).1∧RdT kIn 49 W vg (ay b).1∧
   ((k=1∧rep=jL 0 0 0 0)∨(k=2∧bD (ay a).1≠bD (ay b).1∧∃ na va nb vb,rep=fg 0 (bD (ay a).1).entry na va (bD (ay b).1).entry nb vb tl0∧iv na (bD (ay a).1).nodes.length∧(∃ n,iv va n)∧(∃ n,iv nb n)∧(∃ n,iv vb n))))∨
  (k=3∧uC a b rep))
def Dn (w1 W:World) (gj:Nat) (a b:ByteArray):Prop:=Fr (fun k=>k=gj) w1 W∧∃ vf vg rep,JAt W gj vf vg rep∧uC a b rep
theorem iN (a b:ByteArray) (ha:Asc a) (hb:Asc b) (la:a.size≤20000) (lb:b.size≤20000) (w:World) (hG:Gl w) :
  Calls Tryz.prog 8 #[.string a,.string b,.agg #[.int .i64 0,.int .i64 0]] w (Bf w a b):=by
 obtain⟨w1,hw1⟩:∃ w1,w1=uy w [.cells #[.string a] 9,.cells #[.string b] 9,.cells #[.int .i64 0,.int .i64 0] 24,.cells (jL 0 0 0 0).toArray 39,.cells (jd (.slice none 0 0) (.slice none 0 0) (jL 0 0 0 0)).toArray 53,.cells #[.pointer (some ⟨w.heap.size+1+1+1+1,0,none⟩)] 51,
  .cells #[.func (.func 15) #[] #[.pointer (some ⟨w.heap.size+1+1+1+1+1,0,none⟩),.pointer (some ⟨w.heap.size,0,none⟩),.pointer (some ⟨w.heap.size+1,0,none⟩)],.func (.func 17) #[.pointer (some ⟨w.heap.size+1+1+1+1,0,none⟩)] #[],.func (.func 18) #[.pointer (some ⟨w.heap.size+1+1+1+1,0,none⟩)] #[]] 26]:=⟨_,rfl⟩
 have hat:=dZ w [.cells #[.string a] 9,.cells #[.string b] 9,.cells #[.int .i64 0,.int .i64 0] 24,.cells (jL 0 0 0 0).toArray 39,.cells (jd (.slice none 0 0) (.slice none 0 0) (jL 0 0 0 0)).toArray 53,.cells #[.pointer (some ⟨w.heap.size+1+1+1+1,0,none⟩)] 51,
  .cells #[.func (.func 15) #[] #[.pointer (some ⟨w.heap.size+1+1+1+1+1,0,none⟩),.pointer (some ⟨w.heap.size,0,none⟩),.pointer (some ⟨w.heap.size+1,0,none⟩)],.func (.func 17) #[.pointer (some ⟨w.heap.size+1+1+1+1,0,none⟩)] #[],.func (.func 18) #[.pointer (some ⟨w.heap.size+1+1+1+1,0,none⟩)] #[]] 26]
 rw[←hw1] at hat
 have hb1:Below w.heap.size w w1:=by rw[hw1];exact dS _ _
 have HW1:=ak_ hw1
 have HAt:=ak_ hat
 have HB1:=ak_ hb1
 have HGl:=ak_ (hG.below hb1)
 have HG2:=ak_ hG.2.2.2
 have HA:=ak_ (And.intro (And.intro ha la) (And.intro hb lb))
 clear hat hb1 hG ha hb la lb hw1
 go_enter Tryz.func8,Tryz.ntmps8
 go_upto_block 0 with fail
 refine ar (show _=w1 from HW1.out.symm) ?_
 clear HW1
 have hat:=HAt.out
 clear HAt
 obtain⟨B,hB⟩:=mn_ w.heap.size
 obtain⟨g6,hg6⟩:=mn_ (B+1+1+1)
 obtain⟨gj,hgj⟩:=mn_ (g6+1)
 obtain⟨gp,hgp⟩:=mn_ (gj+1)
 obtain⟨gs,hgs⟩:=mn_ (gp+1)
 have HGs:=ak_ (And.intro hB (And.intro hg6 (And.intro hgj (And.intro hgp hgs))))
 rw[hB,hg6,hgj,hgp] at hat
 have k0:=hat 0 _ rfl
 have k1:=hat 1 _ rfl
 have k3:=hat 3 _ rfl
 have k4:=hat 4 _ rfl
 have k5:=hat 5 _ rfl
 have k6:=hat 6 _ rfl
 rw[show B+0=B by omega] at k0
 rw[show B+3=g6 by omega] at k3
 rw[show B+4=gj by omega] at k4
 rw[show B+5=gp by omega] at k5
 rw[show B+6=gs by omega] at k6
 have K0:=ak_ k0
 have K1:=ak_ k1
 have K3:=ak_ k3
 have K4:=ak_ (show JAt w1 gj (.slice none 0 0) (.slice none 0 0) (jL 0 0 0 0) from ⟨k4,rfl⟩)
 have K5:=ak_ k5
 have K6:=ak_ k6
 rw[hB,hg6,hgj,hgp,hgs]
 clear hat k0 k1 k3 k4 k5 k6 hB hg6 hgj hgp hgs
 go_cut [] from 9 to 29 (fun wx=>aa (Dn w1 wx gj a b))
 case first=>
  go_wp2
  go_loopw [22] (fun i wr=>∃ k:Nat,i=.int .i64 k∧aa (DSt w1 wr gj a b k)) (fun i _=>3 - (intOf i).toNat)
  case atStart=>exact⟨0,rfl,⟨Nat.zero_le _,Fr.refl _ _,_,_,_,K4.out,.inl ⟨rfl,rfl⟩⟩⟩
  case round=>
   obtain⟨k,rfl,HK⟩:=hrel
   obtain⟨hk,hf,vf,vg,rep,hj,hs⟩:=HK.out
   have HF:=ak_ hf
   have HJ:=ak_ hj
   have ne:∀ g,g≠gj→w1.heap[g]?=wr.heap[g]?∨¬ g < w1.heap.size:=fun g hg=>by
    by_cases h:g < w1.heap.size
    ·exact .inl (hf.block g h hg).symm
    ·exact .inr h
   have hGw:=Gl.fr HGl.out hf ⟨by have:=HG2.out;obtain⟨e1,e2,e3,e4,e5⟩:=HGs.out;omega,by have:=HG2.out;obtain⟨e1,e2,e3,e4,e5⟩:=HGs.out;omega⟩
   have h2j:2≤gj:=by have:=HG2.out;obtain⟨e1,e2,e3,e4,e5⟩:=HGs.out;omega
   have p6:=(hf.block gs (ai K6.out) (by obtain⟨e1,e2,e3,e4,e5⟩:=HGs.out;omega)).trans K6.out
   rcases hs with ⟨rfl,rfl⟩ | ⟨h1,h3,ok1,ok2,hvf,hvg,hs⟩ | ⟨rfl,hq⟩
   ·have HC:=ak_ (Au a b HA.out.1.1 HA.out.2.1 HA.out.1.2 HA.out.2.2 wr hGw gj B (B+1) gp vf vg _ hj h2j ((hf.block B (ai K0.out) (by obtain⟨e1,e2,e3,e4,e5⟩:=HGs.out;omega)).trans K0.out) ((hf.block (B+1) (ai K1.out) (by obtain⟨e1,e2,e3,e4,e5⟩:=HGs.out;omega)).trans K1.out) ((hf.block gp (ai K5.out) (by obtain⟨e1,e2,e3,e4,e5⟩:=HGs.out;omega)).trans K5.out))
    have c0:=(show wr.cell? ⟨gs,0,none⟩=some (.func (.func 15) #[] #[.pointer (some ⟨gp,0,none⟩),.pointer (some ⟨B,0,none⟩),.pointer (some ⟨B+1,0,none⟩)]) by rw[ah p6];rfl)
    clear hk hf hj ne hGw h2j p6 HK
    go_upto_if 28 with (go_at_call 15;refine HC.out.mono ?_;rintro e w2 ⟨r,vf',vg',rep',rfl,hj',hf',ht,hn⟩;have HJ2:=ak_ hj';have HF2:=ak_ (HF.out.trans hf');have HT:=ak_ ht;have HN:=ak_ hn;clear hj' hf' ht hn c0)
    cases r with
    | false=>
     go_wp2
     go_meet
     case rel=>
      obtain⟨n1,x,y,z,rfl⟩:=HN.out (by simp)
      exact⟨HF2.out,_,_,_,HJ2.out,Bv n1 x y z⟩
    | true=>
     go_wp2
     go_roundw
     case rel=>
      obtain⟨n1,n2,n3,n4,rfl⟩:=HT.out (by simp)
      exact⟨1,rfl,⟨by omega,HF2.out,_,_,_,HJ2.out,.inr (.inl ⟨by omega,by omega,n1,n2,n3,n4,.inl ⟨rfl,rfl⟩⟩)⟩⟩
     case measure=>simp[intOf]
   ·have r1:=m7 a ok1
    have r2:=m7 b ok2
    have HOk:=ak_ (And.intro ok1 ok2)
    have HVf:=ak_ (And.intro hvf hvg)
    rcases hs with ⟨rfl,rfl⟩ | ⟨rfl,hne,na,va,nb,vb,rfl,s1,s2,s3,s4⟩
    ·have HC:=ak_ (rp (ay a).1 (ay b).1 wr hGw gj vf vg hj h2j r1 r2 hvf hvg)
     have c0:=(show wr.cell? ⟨gs,1,none⟩=some (.func (.func 17) #[.pointer (some ⟨gj,0,none⟩)] #[]) by rw[ah p6];rfl)
     obtain⟨r,hr⟩:∃ r:Bool,r=!decide (bD (ay a).1=bD (ay b).1):=⟨_,rfl⟩
     have HR:=ak_ hr
     clear hr
     clear hk hf hj ne hGw h2j p6 HK h1 h3 ok1 ok2 hvf hvg r1 r2
     go_upto_if 28 with (go_at_call 17;refine HC.out.mono ?_;rintro e w2 ⟨na,va,nb,vb,he,hj',i1,i2,i3,i4,hf',hv1,hv2⟩;rw[←HR.out] at he;subst he;have HJ2:=ak_ hj';have HF2:=ak_ (HF.out.trans hf');have HI:=ak_ (And.intro i1 (And.intro i2 (And.intro i3 i4)));have HV2:=ak_ (And.intro hv1 hv2);clear hj' hf' i1 i2 i3 i4 hv1 hv2 c0)
     cases r with
     | false=>
      have he:bD (ay a).1=bD (ay b).1:=of_decide_eq_true (by have:=HR.out;simpa using this)
      have HE:=ak_ he
      clear he
      go_wp2
      go_meet
      case rel=>exact⟨HF2.out,_,_,_,HJ2.out,CR HOk.out HI.out.1 HI.out.2.1 HI.out.2.2.1 HI.out.2.2.2 rfl HE.out⟩
     | true=>
      have he:bD (ay a).1≠bD (ay b).1:=of_decide_eq_false (by have:=HR.out;simpa using this)
      have HE:=ak_ he
      clear he
      go_wp2
      go_roundw
      case rel=>exact⟨2,rfl,⟨by omega,HF2.out,_,_,_,HJ2.out,.inr (.inl ⟨by omega,by omega,HOk.out.1,HOk.out.2,HV2.out.1,HV2.out.2,.inr ⟨rfl,HE.out,_,_,_,_,rfl,HI.out.1,HI.out.2.1,HI.out.2.2.1,HI.out.2.2.2⟩⟩)⟩⟩
      case measure=>simp[intOf]
    ·have HC:=ak_ (sT (ay a).1 (ay b).1 wr hGw gj vf vg _ na va _ nb vb hj h2j r1 r2 hvf hvg)
     have c0:=(show wr.cell? ⟨gs,2,none⟩=some (.func (.func 18) #[.pointer (some ⟨gj,0,none⟩)] #[]) by rw[ah p6];rfl)
     have HE:=ak_ hne
     have HI:=ak_ (And.intro s1 (And.intro s2 (And.intro s3 s4)))
     clear hk hf hj ne hGw h2j p6 HK h1 h3 ok1 ok2 hvf hvg r1 r2 hne s1 s2 s3 s4
     go_upto_if 28 with (go_at_call 18;refine HC.out.mono ?_;intro e w2 hq;obtain⟨r,rfl,hq2⟩:∃ r:Bool,e=.returned (.bool r)∧Dn w1 w2 gj a b:=(by
      obtain⟨h1,h2⟩:=hq
      rcases h2 with ⟨t0,e1,j1⟩ | ⟨t0,e1,tl,j1,j2,j3⟩
      ·exact⟨_,e1,HF.out.trans h1,_,_,_,j1,Bu HOk.out HI.out.1 HI.out.2.1 HI.out.2.2.1 HI.out.2.2.2 HE.out t0⟩
      ·exact⟨_,e1,HF.out.trans h1,_,_,_,j1,Bw HOk.out HI.out.1 HI.out.2.1 HI.out.2.2.1 HI.out.2.2.2 HE.out t0 j1.l j3 j2⟩);have HD:=ak_ hq2;clear hq hq2 c0)
     cases r with
     | false=>
      go_wp2
      go_meet
      case rel=>exact HD
     | true=>
      go_wp2
      go_roundw
      case rel=>exact⟨3,rfl,⟨by obtain⟨d1,vf,vg,rep,d2,d3⟩:=HD.out;exact⟨Nat.le_refl _,d1,vf,vg,rep,d2,.inr (.inr ⟨rfl,d3⟩)⟩⟩⟩
      case measure=>simp[intOf]
   ·have HD:=ak_ (show Dn w1 wr gj a b from ⟨hf,vf,vg,rep,hj,hq⟩)
    clear hk hf hj ne hGw h2j p6 HK hq
    go_wp2
    go_meet
    case rel=>exact HD
 case rest=>
  obtain⟨hf,vf,vg,rep,hj,hq⟩:=hcut.out
  obtain⟨w2,hw2⟩:=nm_ wc
  rw[←hw2] at hf hj hcut ⊢
  have p3:=(hf.block g6 (ai K3.out) (by obtain⟨e1,e2,e3,e4,e5⟩:=HGs.out;omega)).trans K3.out
  have p5:=(hf.block gp (ai K5.out) (by obtain⟨e1,e2,e3,e4,e5⟩:=HGs.out;omega)).trans K5.out
  have c0:=(show w2.cell? ⟨gp,0,none⟩=some (.pointer (some ⟨gj,0,none⟩)) by rw[ah p5];rfl)
  have HLd:=ak_ (bU (P:=Tryz.prog) (W:=w2) hj.b 39 2 rep (by rw[hj.l];unfold jd;simp[hj.l]) _ Tryz.underlying39 rfl (by rw[hj.l];exact mP))
  have H3:=ak_ p3
  have HQ:=ak_ hq
  have HB2:=ak_ (Fr.below HB1.out hf (fun k hk e=>by obtain⟨e1,e2,e3,e4,e5⟩:=HGs.out;omega) HB1.out.size)
  clear hf hj hq p3 p5 hcut hw2
  go_wp2_with (first
   | ((with_reducible refine aj (N:=33) rfl ?_);refine ax rfl _ (al rfl rfl HLd.out) ?_)
   | ((with_reducible refine ao (t:=39) (p:=6) rfl ?_);refine an rfl 39 _ _ rfl g6 rep.toArray rfl rfl 39 (jL 0 0 0 0).toArray H3.out (mP.trans (by rw[List.size_toArray,HQ.out.len])) (by rw[List.size_toArray,List.size_toArray,HQ.out.len];rfl) (by rw[Array.all_eq_true_iff_forall_mem];intro v hv;exact HQ.out.one v (by simpa using hv)) ?_;intro w3 h3 hf3;have H3:=ak_ h3;have HF3:=ak_ hf3;clear h3 hf3))
  exact bodyPost_ret (v:=.agg rep.toArray) (results_cell_row rfl _ _ g6 39 _ (0,0) _ rfl H3.out Tryz.underlying39 rfl (mP.trans (by rw[List.size_toArray,HQ.out.len]))) rfl ⟨rep,rfl,HQ.out,Fr.below HB2.out HF3.out (fun k hk e=>by obtain⟨e1,e2,e3,e4,e5⟩:=HGs.out;omega) HB2.out.size⟩
end
end Go.Proofs.YtlinbehijfcelaaGreatDoor.Top
