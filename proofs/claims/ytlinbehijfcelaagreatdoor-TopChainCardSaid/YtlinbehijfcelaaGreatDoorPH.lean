/- Walks of the program, and what it computes, told plainly. No condition. (URA UR USA USB USC USD USE) -/
import Derived.Test.YtlinbehijfcelaaGreatDoorPG
set_option linter.unusedVariables false
set_option linter.unusedSimpArgs false
set_option linter.unusedSectionVars false
set_option maxHeartbeats 8000000
set_option maxRecDepth 100000
namespace Go.Proofs.YtlinbehijfcelaaGreatDoor.Top
open Go.RowKit Go.Proofs.YtlinbehijfcelaaGreatDoorW.PrintWords Go.Proofs.YtlinbehijfcelaaGreatDoorW.PrintLast
section
section
variable {P:Program} {ops:Array Oper} {Q:Exit→Act→World→Prop} {σ:Type}
theorem nP {aF:Act} {o:Oper} {w:World} {G G':Value→World→Prop} (h:fK P ops aF o w G) (hg:∀ v w',G v w'→G' v w'):fK P ops aF o w G':=by
 rcases h with ⟨h1,h2⟩ | ⟨h1,h2⟩
 ·exact .inl ⟨h1,hg _ _ h2⟩
 ·refine .inr ⟨h1,?_⟩
  generalize (execOp aF.eval o).run P w=r at h2 ⊢
  cases r with
  | ok n w'=>
   cases n with
   | value v=>exact hg _ _ h2
   | skip=>exact hg _ _ h2
   | enter f args=>exact Calls.mono h2 (fun e w'' ⟨v,q1,q2⟩=>⟨v,q1,hg _ _ q2⟩)
   | _=>exact h2
  | halt x w'=>exact h2
def dQ (es:List Nat) (L:Array Bool):List Bool:=es.map fun e=>L.getD e false
def oG (ops:Array Oper) (es:List Nat) (j:Nat) (bs:List Bool):Bool:=
 (es.zip bs).all fun p=>if p.1=j then !p.2 else if p.2=true then !(Region.reachB .any ops j ops.size p.1) else !(Region.reachB .any ops p.1 ops.size j)
def esB (ops:Array Oper) (es:List Nat):Bool:=es.all (fun e=>decide (e < ops.size)) && decide es.Nodup
def CF (ops:Array Oper) (j:Nat) (ts:List Tmp):Bool:=
 ts.all fun t=>(List.range ops.size).all fun i=>((ops[i]?).map (·.dst) != some (some t)) || i == j || Region.reachB .any ops j ops.size i
theorem tL {es:List Nat} {L:Array Bool} {j:Nat} (hL:L.size=ops.size) (he:esB ops es=true) (hc:bp .any ops L) (hr:j∈Region.ready .any ops L):oG ops es j (dQ es L)=true:=by
 unfold oG dQ
 rw[List.all_eq_true]
 intro p hp
 have h1:=List.of_mem_zip hp
 obtain⟨i,hi⟩:=List.getElem?_of_mem hp
 rw[List.getElem?_zip_eq_some] at hi
 obtain⟨hi1,hi2⟩:=hi
 rw[List.getElem?_map,hi1] at hi2
 have hp2:L.getD p.1 false=p.2:=Option.some.inj hi2
 unfold esB at he
 rw[Bool.and_eq_true,List.all_eq_true] at he
 have hlt:p.1 < ops.size:=of_decide_eq_true (he.1 p.1 h1.1)
 split
 ·rename_i e
  rw[e,fk hr] at hp2
  rw[←hp2]
  rfl
 ·split
  ·rename_i e
   cases hq:Region.reachB .any ops j ops.size p.1 with
   | false=>rfl
   | true=>rw[iD hc hr hq] at hp2;rw[←hp2] at e;exact absurd e (by simp)
  ·rename_i e
   cases hq:Region.reachB .any ops p.1 ops.size j with
   | false=>rfl
   | true=>rw[jz hc hr p.1 hq (by omega)] at hp2;exact absurd hp2.symm e
theorem sL {es:List Nat} {L:Array Bool} {j:Nat} (h:es.contains j=false):dQ es (L.setIfInBounds j true)=dQ es L:=by
 unfold dQ
 apply List.map_congr_left
 intro e he
 refine getD_set_ne false (fun q=>?_)
 subst q
 have:es.contains j=true:=by simpa using he
 rw[this] at h
 exact absurd h (by simp)
theorem yB {es:List Nat} {L:Array Bool} {j k:Nat} (hL:L.size=ops.size) (he:esB ops es=true) (hk:es[k]?=some j):dQ es (L.setIfInBounds j true)=(dQ es L).set k true:=by
 unfold esB at he
 rw[Bool.and_eq_true,List.all_eq_true,decide_eq_true_eq] at he
 obtain⟨h1,h2⟩:=he
 have hlt:j < ops.size:=of_decide_eq_true (h1 j (List.mem_of_getElem? hk))
 unfold dQ
 apply List.ext_getElem?
 intro i
 rw[List.getElem?_map,List.getElem?_set,List.length_map,List.getElem?_map]
 by_cases e:k=i
 ·subst e
  rw[if_pos rfl,if_pos (List.getElem?_eq_some_iff.1 hk).1,hk]
  simp[hL,hlt]
 ·rw[if_neg e]
  cases hq:es[i]? with
  | none=>rfl
  | some x=>
   simp only[Option.map_some]
   congr 1
   refine getD_set_ne false (fun q=>?_)
   subst q
   obtain⟨a1,a2⟩:=List.getElem?_eq_some_iff.1 hk
   obtain⟨b1,b2⟩:=List.getElem?_eq_some_iff.1 hq
   have hp:=List.pairwise_iff_getElem.1 h2
   rcases Nat.lt_or_gt_of_ne e with q | q
   ·exact hp k i a1 b1 q (a2.trans b2.symm)
   ·exact hp i k b1 a1 q (b2.trans a2.symm)
theorem bh {id:Nat} {a0:Act} {w:World} (es:List Nat) (vals:σ→List (Tmp × Value)) (I:List Bool→σ→World→Prop) (s0:σ) (hm:P.follows .mixedOrders=true) (hd:ll ops=true) (hes:esB ops es=true)
  (hv:∀ s,((vals s).map (·.1)).all (fun t=>ops.any fun o=>o.dst == some t)=true)
  (h:∀ aF:σ→Act,(fun s=>bd a0 (vals s))=aF→
   (∀ j o,ops[j]?=some o→es.contains j=false→∀ s W bs,bs.length=es.length→oG ops es j bs=true→I bs s W→fK P ops (aF s) o W (fun v w'=>(aF s).put o.dst v=aF s∧I bs s w'))∧
   (∀ k j o,es[k]?=some j→ops[j]?=some o→∀ s W bs,bs.length=es.length→oG ops es j bs=true→I bs s W→fK P ops (aF s) o W (fun v w'=>∃ s' ps,(aF s').put o.dst v=aF s'∧aF s'=bd (aF s) ps∧CF ops j (ps.map (·.1))=true∧I (bs.set k true) s' w'))∧
   I (es.map fun _=>false) s0 w.drew∧(∀ s w',I (es.map fun _=>true) s w'→Q .normal (aF s) w')):(Code.region id ops true).wp P Q a0 w:=by
 refine ji vals (fun s L W=>L.size=ops.size∧I (dQ es L) s W) s0 hm hd hv ?_
 intro aF haF
 obtain⟨h1,h2,h3,h4⟩:=h aF haF
 refine⟨fun j o ho s L W hc hr hS=>?_,⟨by simp,?_⟩,fun s L W hall hS=>?_⟩
 ·obtain⟨hL,hI⟩:=hS
  have hok:=tL hL hes hc hr
  have hlen:(dQ es L).length=es.length:=by unfold dQ;rw[List.length_map]
  cases hct:es.contains j with
  | false=>
   refine nP (h1 j o ho hct s W _ hlen hok hI) (fun v w' hq=>cj hq.1 ⟨by simpa using hL,?_⟩)
   rw[sL hct]
   exact hq.2
  | true=>
   obtain⟨k,hk⟩:=List.getElem?_of_mem (show j∈es by simpa using hct)
   refine nP (h2 k j o hk ho s W _ hlen hok hI) (fun v w' hq=>?_)
   obtain⟨s',ps,q1,q2,q3,q4⟩:=hq
   refine⟨s',q1,fun t ht=>?_,by simpa using hL,?_⟩
   ·obtain⟨i,o',hi,hdst,hli⟩:=ht
    rw[q2]
    refine(g_ ps (aF s) (fun p hp e=>?_)).symm
    unfold CF at q3
    rw[List.all_eq_true] at q3
    have h5:=q3 p.1 (List.mem_map_of_mem hp)
    rw[List.all_eq_true] at h5
    have h6:=h5 i (by rw[List.mem_range];exact(Array.getElem?_eq_some_iff.1 hi).1)
    rw[Bool.or_eq_true,Bool.or_eq_true,hi] at h6
    simp only[Option.map_some,hdst,e] at h6
    rcases h6 with (h6 | h6) | h6
    ·simp at h6
    ·rw[beq_iff_eq] at h6
     rw[h6,fk hr] at hli
     exact absurd hli (by simp)
    ·rw[iD hc hr h6] at hli
     exact absurd hli (by simp)
   ·rw[yB hL hes hk]
    exact q4
 ·have:dQ es (Array.replicate ops.size false)=es.map fun _=>false:=by
   unfold dQ
   apply List.map_congr_left
   intro e he
   rw[getD_replicate_false]
  rw[this]
  exact h3
 ·have:dQ es L=es.map fun _=>true:=by
   unfold dQ
   apply List.map_congr_left
   intro e he
   unfold esB at hes
   rw[Bool.and_eq_true,List.all_eq_true] at hes
   exact hall e (of_decide_eq_true (hes.1 e he))
  have hI:=hS.2
  rw[this] at hI
  exact h4 s W hI
end
theorem a6 {ops:Array Oper} {es:List Nat} {j:Nat} {bs:List Bool} {p:Prop} (h:oG ops es j bs=true) (k:oG ops es j bs=false):p:=by rw[h] at k;exact absurd k (by simp)
theorem jD {P:Program} {α:Type} (d:Kd α) (base:Nat) (t ty e:TypeId) (z:Value) (bytes:Nat) {W:World}
  (ht:P.underlying t=some (.slice e)) (hinfo:(P.info? e).map (fun i=>(i.zero,i.size,i.bytes))=some (some z,d.sz,bytes)) (hz:z.cells.size=d.sz) (hs0:0 < d.sz) (hb0:0 < bytes)
  (v:Value) (xs:List α) (p:α) (cs:List Value) (ok okp:Nat→Prop) (ad:Addr) (hbox:∀ j u,cs[j]?=some u→W.cell? (ad.add j)=some u)
  (hp:d.M W base okp p cs) (hokp:∀ k,okp k→ok k∧some k≠v.ownBlock) (hfresh:∀ k,W.heap.size≤k→ok k)
  (HO:d.R e W base ok v xs) (hbase:base≤W.heap.size) (hl:(xs.length+1) * bytes≤140737488355328) :
  ∃ v1 w1,(Builtin.append_ #[t,t] ty #[v,.slice (some ad) 1 1]).run P W=.ok v1 w1∧d.R e w1 base ok v1 (xs++[p])∧W.grownBy w1 v.ownBlock∧(v1.ownBlock=v.ownBlock∨∃ b,v1.ownBlock=some b∧W.heap.size≤b):=by
 obtain⟨i0,hi,hzz⟩:=Option.map_eq_some_iff.1 hinfo
 simp only[Prod.mk.injEq] at hzz
 obtain⟨hz0,hz1,hz2⟩:=hzz
 have hlen:xs.length+1≤140737488355328:=Nat.le_trans (Nat.le_mul_of_pos_right _ hb0) hl
 obtain⟨h0,inner,hown,hr⟩:=HO
 obtain⟨v1,w1,hrun,hown1,hg,_,hat⟩:=run_append_own_at (P:=P) W base t ty e i0 z d.sz bytes ht hi hz0 hz1 hz2 hz hs0 v xs.length inner hown ad 1 1 cs (by rw[d.K_len (d.K_of_M hp)];simp)
  hbox (d.K_one (d.K_of_M hp)) (by simp only[maxLen];omega) hl hbase
 have hat':v1.ownBlock=v.ownBlock∨∃ b,v1.ownBlock=some b∧W.heap.size≤b:=by
  rcases hat with hat | hat
  ·exact .inl hat
  ·exact .inr ⟨_,hat,Nat.le_refl _⟩
 exact⟨v1,w1,hrun,Kd.R_appended h0 hr hp hokp hfresh hown1 hg hat',hg,hat'⟩
theorem iZ {P:Program} {a:Act} {o:Oper} {W w1:World} {s x:Operand} {t:TypeId} {v v1 b:Value} (ho:o.op=.call { callee:=.builtin .append,args:=#[s,x],argTypes:=#[t,t] }) (hs:a.eval s=v) (hx:a.eval x=b) (hrun:(Builtin.append_ #[t,t] o.type #[v,b]).run P W=.ok v1 w1):(execOp a.eval o).run P W=.ok (.value v1) w1:=by
 unfold execOp
 simp only[ho,resolve,invoke,builtin,Sem.run_bind,Sem.run_pure,Result.andThen_ok,List.map_toArray,List.map_cons,List.map_nil,hs,hx,hrun]
theorem kw {W:World} {g t:Nat} {cs:List Value} (h:W.heap[g]?=some (.cells cs.toArray t (0,0))):∀ j u,cs[j]?=some u→W.cell? ((⟨g,0,none⟩:Addr).add j)=some u:=by
 intro j u hu
 have:(⟨g,0,none⟩:Addr).add j=⟨g,j,none⟩:=by unfold Addr.add;by_cases h0:j=0 <;> simp[h0]
 rw[this,ap h]
 exact hu
theorem lm {aF:Act} {o:Oper} (x y:Int) (W:World) {u:Operand} (ho:o.op=.buildSlice 143 1 #[(0,u)]) (hu:aF.eval u=.agg #[.int .i64 x,.int .i64 y]):(execOp aF.eval o).run Tryz.prog W=.ok (.value (.slice (some ⟨W.heap.size,0,none⟩) 1 1)) (W.alloc (.cells #[.int .i64 x,.int .i64 y] 135)):=by
 unfold execOp
 simp only[ho,List.map_toArray,List.map_cons,List.map_nil,hu]
 go_simp
theorem qT {ops:Array Oper} {es:List Nat} {j:Nat} {bs:List Bool} (h:oG ops es j bs=true) (k:Nat) {e:Nat} {b:Bool} (he:es[k]?=some e) (hb:bs[k]?=some b):(if e=j then !b else if b=true then !(Region.reachB .any ops j ops.size e) else !(Region.reachB .any ops e ops.size j))=true:=by
 unfold oG at h
 rw[List.all_eq_true] at h
 exact h (e,b) (List.mem_of_getElem? (List.getElem?_zip_eq_some.2 ⟨he,hb⟩))
theorem okT {ops:Array Oper} {es:List Nat} {j:Nat} {bs:List Bool} (h:oG ops es j bs=true) (k:Nat) {e:Nat} {b:Bool} (he:es[k]?=some e) (hb:bs[k]?=some b) (hne:(e == j)=false) (hr:Region.reachB .any ops e ops.size j=true):b=true:=by
 have:=qT h k he hb
 rw[if_neg (by simpa using hne)] at this
 cases b with
 | true=>rfl
 | false=>simp[hr] at this
theorem okF {ops:Array Oper} {es:List Nat} {j:Nat} {bs:List Bool} (h:oG ops es j bs=true) (k:Nat) {e:Nat} {b:Bool} (he:es[k]?=some e) (hb:bs[k]?=some b) (hne:(e == j)=false) (hr:Region.reachB .any ops j ops.size e=true):b=false:=by
 have:=qT h k he hb
 rw[if_neg (by simpa using hne)] at this
 cases b with
 | false=>rfl
 | true=>simp[hr] at this
theorem okS {ops:Array Oper} {es:List Nat} {j:Nat} {bs:List Bool} (h:oG ops es j bs=true) (k:Nat) {b:Bool} (he:es[k]?=some j) (hb:bs[k]?=some b):b=false:=by
 have:=qT h k he hb
 rw[if_pos rfl] at this
 simpa using this
theorem fR {bs:List Bool} (h:bs.length=2):∃ a b,bs=[a,b]:=by
 rcases bs with _ | ⟨a,_ | ⟨b,_ | ⟨c,r⟩⟩⟩ <;> simp at h
 exact⟨_,_,rfl⟩
theorem tP {bs:List Bool} (h:bs.length=3):∃ a b c,bs=[a,b,c]:=by
 rcases bs with _ | ⟨a,bs⟩
 ·simp at h
 ·obtain⟨b,c,rfl⟩:=fR (by simpa using h)
  exact⟨_,_,_,rfl⟩
theorem yq {bs:List Bool} (h:bs.length=4):∃ a b c d,bs=[a,b,c,d]:=by
 rcases bs with _ | ⟨a,bs⟩
 ·simp at h
 ·obtain⟨b,c,d,rfl⟩:=tP (by simpa using h)
  exact⟨_,_,_,_,rfl⟩
theorem D8 {bs:List Bool} (h:bs.length=5):∃ a b c d e,bs=[a,b,c,d,e]:=by
 rcases bs with _ | ⟨a,bs⟩
 ·simp at h
 ·obtain⟨b,c,d,e,rfl⟩:=yq (by simpa using h)
  exact⟨_,_,_,_,_,rfl⟩
theorem k7 {bs:List Bool} (h:bs.length=6):∃ a b c d e f,bs=[a,b,c,d,e,f]:=by
 rcases bs with _ | ⟨a,bs⟩
 ·simp at h
 ·obtain⟨b,c,d,e,f,rfl⟩:=D8 (by simpa using h)
  exact⟨_,_,_,_,_,_,rfl⟩
theorem o7 {aF:Act} {p:Oper} {x y:Operand} {t:TypeId} {s u:Src} (hp:p.op=.binOp .neq 135 x y t) (hx:aF.eval x=.agg #[.int .i64 s.kind,.int .i64 s.n]) (hy:aF.eval y=.agg #[.int .i64 u.kind,.int .i64 u.n]) (w:World):(execOp aF.eval p).run Tryz.prog w=.ok (.value (.bool (!decide (s=u)))) w:=by
 have hk:Tryz.prog.eqGuardType Tryz.prog.depth 135=false:=by kernel_rfl
 have h1:(eqGuard .neq 135 x y (.agg #[.int .i64 s.kind,.int .i64 s.n]) (.agg #[.int .i64 u.kind,.int .i64 u.n])).run Tryz.prog w=.ok () w:=by
  simp[eqGuard,run_program,hk]
 unfold execOp
 simp only[hp,hx,hy,Sem.run_bind,h1,DC,Result.andThen_ok,Sem.run_pure]
theorem aT {P:Program} {W:World} {g ty:Nat} {cs:Array Value} {fr:Nat × Nat} {t:TypeId} {d:TypeDesc} (hg:W.heap[g]?=some (.cells cs t fr)) (hu:P.underlying ty=some d) (hd:(match d with | .struct _ | .array _ _=>true | _=>false)=true) (hi:(P.info? ty).map (·.size)=some cs.size):(loadVar ty ⟨g,0,none⟩).run P W=.ok (.agg cs) W:=run_loadVar_row W g t ty cs fr d hg hu hd hi
theorem uz (g n:Nat):(⟨g,0,none⟩:Addr).add n=⟨g,n,none⟩:=by unfold Addr.add;by_cases h0:n=0 <;> simp[h0]
theorem jw {P:Program} {a:Act} {o:Oper} {w:World} (t:TypeId) (parts:Array (Nat × Operand)) (ho:o.op=.build t parts) (L:List (Nat × Value)) (cells:Array Value) (hL0:(parts.toList.map fun p=>(p.1,a.eval p.2))=L) (hb:P.built t L=some cells):(execOp a.eval o).run P w=.ok (.value (.agg cells)) w:=by
 have hL:(parts.map fun (i,x)=>(i,a.eval x)).toList=L:=by rw[Array.toList_map];exact hL0
 unfold execOp
 simp only[ho,Sem.run_bind,run_build w t _ cells (by rw[hL];exact hb),Result.andThen_ok,Sem.run_pure]
theorem jK {P:Program} {a:Act} {o:Oper} {W:World} (ty:TypeId) (x y:Operand) (ho:o.op=.store ty x y) (g i:Nat) (vs:List Value)
  (hx:a.eval x=.pointer (some ⟨g,i,none⟩)) (hy:a.eval y=.agg vs.toArray) (t:Nat) (L L':List Value) (hg:W.heap[g]?=some (.cells L.toArray t (0,0))) (hi:(P.info? ty).map (·.size)=some vs.length) (hl:i+vs.length≤L.length) (h1:∀ v∈vs,v.oneCell'=true) (hL:L.take i++vs++L.drop (i+vs.length)=L') :
  ∃ W',(execOp a.eval o).run P W=.ok .skip W'∧W'.heap[g]?=some (.cells L'.toArray t (0,0))∧Fr (fun k=>k=g) W W':=by
 have hr:=run_storeCells_at P g i t vs 0 L.toArray W hg (by simpa using hl) h1
 simp only[Nat.add_zero] at hr
 refine⟨W.setRow g (L.take i++vs++L.drop (i+vs.length)).toArray,?_,?_,Fr.row (S:=fun k=>k=g) rfl _⟩
 ·unfold execOp
  cases hq:P.info? ty with
  | none=>simp[hq] at hi
  | some q=>
   have hs:q.size=vs.length:=by simpa [hq] using hi
   simp[ho,hx,hy,Instr.storeAt,Instr.sureAddr,storeVar,sizeOf,typeInfo,hq,hs,Value.cells,Sem.run_bind,Result.andThen,hr]
 ·rw[hL]
  exact setRow_heap W g _ _ t _ hg
theorem tx {P:Program} {ops:Array Oper} {aF:Act} {o:Oper} {w w':World} {G:Value→World→Prop} (hgd:Region.wanted o (yielded ops aF.tmps)=true) (hrun:(execOp aF.eval o).run P w=.ok .skip w') (hG:G undef w'):fK P ops aF o w G:=by
 refine .inr ⟨hgd,?_⟩
 rw[hrun]
 exact hG
theorem bm {P:Program} {ops:Array Oper} {aF:Act} {o:Oper} {W:World} {G:Value→World→Prop} (hgd:Region.wanted o (yielded ops aF.tmps)=true) (ty:TypeId) (x y:Operand) (ho:o.op=.store ty x y) (g i:Nat) (vs:List Value)
  (hx:aF.eval x=.pointer (some ⟨g,i,none⟩)) (hy:aF.eval y=.agg vs.toArray) (t:Nat) (L L':List Value) (hg:W.heap[g]?=some (.cells L.toArray t (0,0))) (hi:(P.info? ty).map (·.size)=some vs.length) (hl:i+vs.length≤L.length) (h1:∀ v∈vs,v.oneCell'=true) (hL:L.take i++vs++L.drop (i+vs.length)=L')
  (h:∀ W',W'.heap[g]?=some (.cells L'.toArray t (0,0))→Fr (fun k=>k=g) W W'→G undef W'):fK P ops aF o W G:=by
 obtain⟨W',q1,q2,q3⟩:=jK (P:=P) (a:=aF) (o:=o) (W:=W) ty x y ho g i vs hx hy t L L' hg hi hl h1 hL
 exact tx hgd q1 (h W' q2 q3)
theorem jO {P:Program} {ops:Array Oper} {aF:Act} {o:Oper} {w:World} {G:Value→World→Prop} (hgd:Region.wanted o (yielded ops aF.tmps)=true) {f:FuncId} {fn:Func} {x:Operand} {xs:Array Operand} {ts:Array TypeId} {caps:Array Value} (hf:P.funcs[f]?=some fn) (hname:(fn.name == "runtime.NumGoroutine")=false) (hb:fn.body.isSome=true) (hx:aF.eval x=.func (.func f) #[] caps) (args:Array Value)
  (hop:o.op=.call { callee:=.value x,args:=xs,argTypes:=ts }) (hargs:xs.toList.map aF.eval++caps.toList=args.toList)
  (h:Calls P f args w fun e w'=>∃ v,e=.returned v∧G v w'):fK P ops aF o w G:=by
 refine .inr ⟨hgd,?_⟩
 have hargs':xs.map aF.eval++caps=args:=by apply Array.toList_inj.1;simpa using hargs
 have he:=rl hf hname hb args w
 have hrun:(execOp aF.eval o).run P w=.ok (.enter f args) w:=by
  unfold execOp
  simp[hop,resolve,Deferred.ofValue,hx,invoke,hargs',he]
 rw[hrun]
 exact h
end
section
def gG (N n l:Nat):List (List Src):=(List.range N).map fun i=>if i < n then List.replicate 24 opn else if i=n then List.replicate l opn else []
theorem ex (N n l:Nat):(gG N n l).length=N:=by unfold gG;rw[List.length_map,List.length_range]
theorem e9 {N n l i:Nat} (hi:i < N):(gG N n l)[i]?=some (if i < n then List.replicate 24 opn else if i=n then List.replicate l opn else []):=by
 unfold gG
 rw[List.getElem?_map,List.getElem?_range hi]
 rfl
theorem sN (N:Nat):gG N 0 0=List.replicate N []:=by
 apply List.ext_getElem?
 intro i
 by_cases hi:i < N
 ·rw[e9 hi,List.getElem?_replicate,if_pos hi,if_neg (Nat.not_lt_zero _)]
  split <;> rfl
 ·rw[List.getElem?_eq_none (by rw[ex];omega),List.getElem?_eq_none (by rw[List.length_replicate];omega)]
theorem t7 (N n:Nat):gG N n 24=gG N (n+1) 0:=by
 apply List.ext_getElem?
 intro i
 by_cases hi:i < N
 ·rw[e9 hi,e9 hi]
  congr 1
  by_cases h1:i < n
  ·rw[if_pos h1,if_pos (by omega)]
  ·rw[if_neg h1]
   by_cases h2:i=n
   ·rw[if_pos h2,if_pos (by omega)]
   ·rw[if_neg h2,if_neg (by omega)]
    split <;> rfl
 ·rw[List.getElem?_eq_none (by rw[ex];omega),List.getElem?_eq_none (by rw[ex];omega)]
theorem sO {N n l:Nat} (hn:n < N):(gG N n l)[n]?=some (List.replicate l opn):=by rw[e9 hn,if_neg (Nat.lt_irrefl _),if_pos rfl]
theorem yE {N n l:Nat} (hn:n < N):(gG N n l).set n (List.replicate l opn++[opn])=gG N n (l+1):=by
 apply List.ext_getElem?
 intro i
 by_cases hi:i < N
 ·rw[List.getElem?_set,ex]
  by_cases e:n=i
  ·subst e
   rw[if_pos rfl,if_pos hn,sO hn,List.replicate_succ']
  ·rw[if_neg e,e9 hi,e9 hi]
   congr 1
   split
   ·rfl
   ·rw[if_neg (fun q=>e q.symm),if_neg (fun q=>e q.symm)]
 ·rw[List.getElem?_eq_none (by rw[List.length_set,ex];omega),List.getElem?_eq_none (by rw[ex];omega)]
theorem yF (N:Nat):gG N N 0=io N:=by
 apply List.ext_getElem?
 intro i
 unfold io
 by_cases hi:i < N
 ·rw[e9 hi,if_pos hi,List.getElem?_replicate,if_pos hi]
 ·rw[List.getElem?_eq_none (by rw[ex];omega),List.getElem?_eq_none (by rw[List.length_replicate];omega)]
theorem Mat.app {α:Type} {d:Kd α} {e t base lo:Nat} {W1 W2:World} {g:Nat} {vs:List Value} {rows:List (List α)} (h:Mat d e t base lo W1 g vs rows) (hE:d.E=[]) {i:Nat} {v v1:Value} {xs ys:List α} (hv:vs[i]?=some v) (hx:rows[i]?=some xs)
  (hR:Kd.R d e W2 base (fun k=>lo≤k∧k≠g) v1 ys) (hg:W1.grownBy W2 v.ownBlock) (hat:v1.ownBlock=v.ownBlock∨∃ b,v1.ownBlock=some b∧W1.heap.size≤b):Mat d e t base lo (W2.setCell ⟨g,i,none⟩ v1) g (vs.set i v1) (rows.set i ys):=by
 have hne:some g≠v.ownBlock:=Kd.R_away (h.row i v xs hv hx) (fun k hk=>hk.2)
 have hb2:=(hg.block g (ai h.blk) hne).trans h.blk
 exact h.put hE hv hx (Kd.R_far hR (p:=⟨g,i,none⟩) (fun k hk=>hk.2) _) (aJ hb2 i v1) ((Fr.grown hg (fun k e=>.inr e.symm.symm)).trans (Fr.cell (p:=⟨g,i,none⟩) (.inl rfl) _)) hat
structure nx (w W:World) (S:bj) (A:Option Addr) (c g:Nat) (vs:List Value) (F:List (List Src)):Prop where
 b:Below w.heap.size w W
 bx:W.heap[w.heap.size]?=some (.cells (S.entry.cells++[Value.slice A S.nodes.length c]).toArray 119 (0,0))
 gt:W.heap[g+1]?=some (.cells #[.slice (some ⟨g,0,none⟩) S.nodes.length S.nodes.length] 120 (0,0))
 m:Mat eB 135 143 w.heap.size (g+2) W g vs F
 len:F.length=S.nodes.length
 lo:w.heap.size < g
section
variable {w W W1 W2:World} {S:bj} {A:Option Addr} {c g:Nat} {vs:List Value} {F:List (List Src)}
theorem nx.below (h:nx w W S A c g vs F) (hb:Below W.heap.size W W1):nx w W1 S A c g vs F:=⟨af h.b hb,ag h.bx hb,ag h.gt hb,h.m.below hb,h.len,h.lo⟩
theorem nx.app (h:nx w W1 S A c g vs F) {i:Nat} {v v1:Value} {xs ys:List Src} (hv:vs[i]?=some v) (hx:F[i]?=some xs) (hR:Kd.R eB 135 W2 w.heap.size (fun k=>g+2≤k∧k≠g) v1 ys) (hg:W1.grownBy W2 v.ownBlock) (hat:v1.ownBlock=v.ownBlock∨∃ b,v1.ownBlock=some b∧W1.heap.size≤b):nx w (W2.setCell ⟨g,i,none⟩ v1) S A c g (vs.set i v1) (F.set i ys):=by
 have hr:=h.m.row i v xs hv hx
 have hne:∀ k,k < g+2→some k≠v.ownBlock:=fun k hk=>Kd.R_away hr (fun j hj=>by omega)
 have hf:Fr (fun k=>k=g∨some k=v.ownBlock) W1 (W2.setCell ⟨g,i,none⟩ v1):=(Fr.grown hg (fun k e=>.inr e)).trans (Fr.cell (p:=⟨g,i,none⟩) (.inl rfl) _)
 have hlo:=h.lo
 refine⟨Fr.below h.b hf (fun k hk q=>?_) h.b.size,(hf.block _ (ai h.bx) ?_).trans h.bx,(hf.block _ (ai h.gt) ?_).trans h.gt,h.m.app rfl hv hx hR hg hat,by rw[List.length_set];exact h.len,hlo⟩
 ·rcases q with q | q
  ·omega
  ·exact hne k (by omega) q
 ·rintro(q | q)
  ·omega
  ·exact hne _ (by omega) q
 ·rintro(q | q)
  ·omega
  ·exact hne _ (by omega) q
end
structure px (w W:World) (f:List In) (S:bj) (A:Option Addr) (c g B g7 g8:Nat) (vW vA:Value) (vs:List Value) (F:List (List Src)):Prop where
 fa:nx w W S A c g vs F
 h7:W.heap[g7]?=some (.cells #[vW] 122 (0,0))
 h8:W.heap[g8]?=some (.cells #[vA] 121 (0,0))
 r7:Kd.R (Kd.slice 151 cL) 149 W B (fun k=>B≤k) vW (aX S)
 r8:Kd.R lQ 120 W B (fun k=>B≤k) vA (eF f S)
 old:∀ v∈vs,∀ k,v.ownBlock=some k→k < B
 lo:w.heap.size≤B
 gB:g+2≤B
 b7:B≤g7
 b8:B≤g8
section
variable {w W W1 W2:World} {f:List In} {S:bj} {A:Option Addr} {c g B g7 g8:Nat} {vW vA:Value} {vs:List Value} {F:List (List Src)}
theorem px.below (h:px w W f S A c g B g7 g8 vW vA vs F) (hb:Below W.heap.size W W1):px w W1 f S A c g B g7 g8 vW vA vs F:=⟨h.fa.below hb,ag h.h7 hb,ag h.h8 hb,Kd.R_below h.r7 hb,Kd.R_below h.r8 hb,h.old,h.lo,h.gB,h.b7,h.b8⟩
theorem px.put (h:px w W f S A c g B g7 g8 vW vA vs F) {n gr cap:Nat} {ys xs:List Src} (hv:vs[n]?=some (.slice (some ⟨gr,0,none⟩) xs.length cap)) (hx:F[n]?=some xs) (hR:Kd.R eB 135 W1 w.heap.size (fun k=>g+2≤k∧k≠g) (.slice (some ⟨gr,0,none⟩) xs.length cap) ys) (hg:W.grownBy W1 (some gr)):px w W1 f S A c g B g7 g8 vW vA vs (F.set n ys):=by
 have hr:=h.fa.m.row n _ xs hv hx
 have hgr:g+2≤gr:=(hr.1 gr rfl).1
 have hgB:gr < B:=h.old _ (List.mem_of_getElem? hv) gr rfl
 have h1:=h.lo
 have h2:=h.b7
 have h3:=h.b8
 have h4:=h.fa.lo
 have hf:Fr (fun k=>k=gr) W W1:=Fr.grown hg (fun k e=>by injection e)
 have hvs:vs.set n (.slice (some ⟨gr,0,none⟩) xs.length cap)=vs:=by
  apply List.ext_getElem?
  intro i
  rw[List.getElem?_set]
  split
  ·rename_i e
   subst e
   rw[if_pos (List.getElem?_eq_some_iff.1 hv).1,hv]
  ·rfl
 have hm:=h.fa.m.put rfl hv hx hR (by rw[hvs];exact(hf.block _ (ai h.fa.m.blk) (by omega)).trans h.fa.m.blk) (hf.mono (fun k _ q=>.inr (by rw[q];rfl))) (.inl rfl)
 rw[hvs] at hm
 refine⟨⟨Fr.below h.fa.b hf (fun k hk q=>by omega) h.fa.b.size,(hf.block _ (ai h.fa.bx) (by omega)).trans h.fa.bx,(hf.block _ (ai h.fa.gt) (by omega)).trans h.fa.gt,hm,by rw[List.length_set];exact h.fa.len,h4⟩,(hf.block _ (ai h.h7) (by omega)).trans h.h7,(hf.block _ (ai h.h8) (by omega)).trans h.h8,?_,?_,h.old,h1,h.gB,h2,h3⟩
 ·exact Kd.R_step h.r7 (fun k hk hlt=>hf.block k hlt (by omega))
 ·exact Kd.R_step h.r8 (fun k hk hlt=>hf.block k hlt (by omega))
end
structure gv (w0 W:World) (f:List In) (S:bj) (s:Value × Value × Nat × Nat) (b1 b4 b5 b6 b7 b8:Bool):Prop where
 b:Below w0.heap.size w0 W
 r1:b1=true→Kd.R (Kd.slice 151 cL) 149 W w0.heap.size (fun k=>w0.heap.size≤k) s.1 (aX S)
 r4:b4=true→Kd.R lQ 120 W w0.heap.size (fun k=>w0.heap.size≤k) s.2.1 (eF f S)
 h5:b5=true→W.heap[s.2.2.1]?=some (.cells #[if b7=true then s.1 else .slice none 0 0] 122 (0,0))∧w0.heap.size≤s.2.2.1
 h6:b6=true→W.heap[s.2.2.2]?=some (.cells #[if b8=true then s.2.1 else .slice none 0 0] 121 (0,0))∧w0.heap.size≤s.2.2.2
section
variable {w0 W W1:World} {f:List In} {S:bj} {s:Value × Value × Nat × Nat} {b1 b4 b5 b6 b7 b8:Bool}
theorem gv.call1 (h:gv w0 W f S s false b4 b5 b6 false b8) {v:Value} (hr:Kd.R (Kd.slice 151 cL) 149 W1 W.heap.size (fun k=>W.heap.size≤k) v (aX S)) (hb:Below W.heap.size W W1):gv w0 W1 f S (v,s.2.1,s.2.2.1,s.2.2.2) true b4 b5 b6 false b8:=
 have hz:=h.b.size
 ⟨af h.b hb,fun _=>Kd.R_lower (Kd.R_mono hr (fun k hk=>Nat.le_trans hz hk)) hz,fun e=>Kd.R_below (h.r4 e) hb,fun e=>⟨ag (h.h5 e).1 hb,(h.h5 e).2⟩,fun e=>⟨ag (h.h6 e).1 hb,(h.h6 e).2⟩⟩
theorem gv.call4 (h:gv w0 W f S s b1 false b5 b6 b7 false) {v:Value} (hr:Kd.R lQ 120 W1 W.heap.size (fun k=>W.heap.size≤k) v (eF f S)) (hb:Below W.heap.size W W1):gv w0 W1 f S (s.1,v,s.2.2.1,s.2.2.2) b1 true b5 b6 b7 false:=
 have hz:=h.b.size
 ⟨af h.b hb,fun e=>Kd.R_below (h.r1 e) hb,fun _=>Kd.R_lower (Kd.R_mono hr (fun k hk=>Nat.le_trans hz hk)) hz,fun e=>⟨ag (h.h5 e).1 hb,(h.h5 e).2⟩,fun e=>⟨ag (h.h6 e).1 hb,(h.h6 e).2⟩⟩
theorem gv.new5 (h:gv w0 W f S s b1 b4 false b6 false b8):gv w0 (W.alloc (.cells #[.slice none 0 0] 122)) f S (s.1,s.2.1,W.heap.size,s.2.2.2) b1 b4 true b6 false b8:=
 have hb:=ae (Below.refl W.heap.size W) (.cells #[.slice none 0 0] 122)
 ⟨af h.b hb,fun e=>Kd.R_below (h.r1 e) hb,fun e=>Kd.R_below (h.r4 e) hb,fun _=>⟨heap_alloc_last W _,h.b.size⟩,fun e=>⟨ag (h.h6 e).1 hb,(h.h6 e).2⟩⟩
theorem gv.new6 (h:gv w0 W f S s b1 b4 b5 false b7 false):gv w0 (W.alloc (.cells #[.slice none 0 0] 121)) f S (s.1,s.2.1,s.2.2.1,W.heap.size) b1 b4 b5 true b7 false:=
 have hb:=ae (Below.refl W.heap.size W) (.cells #[.slice none 0 0] 121)
 ⟨af h.b hb,fun e=>Kd.R_below (h.r1 e) hb,fun e=>Kd.R_below (h.r4 e) hb,fun e=>⟨ag (h.h5 e).1 hb,(h.h5 e).2⟩,fun _=>⟨heap_alloc_last W _,h.b.size⟩⟩
theorem gv.put7 (h:gv w0 W f S s true true true true false b8):gv w0 (W.setCell ⟨s.2.2.1,0,none⟩ s.1) f S s true true true true true b8:=by
 obtain⟨h1,h2⟩:=h.h5 rfl
 obtain⟨h3,h4⟩:=h.h6 rfl
 have hne:s.2.2.2≠s.2.2.1:=fun e=>by rw[e,h1] at h3;simp at h3
 refine⟨Fr.below h.b (Fr.cell (S:=fun k=>k=s.2.2.1) rfl _) (fun k hk q=>by omega) h.b.size,fun _=>Kd.R_set (h.r1 rfl) h1 (fun q hq=>?_) 0 _,fun _=>Kd.R_set (h.r4 rfl) h1 (fun q hq=>?_) 0 _,fun _=>⟨aJ (L:=[_]) h1 0 _,h2⟩,fun _=>⟨a8 h3 hne _,h4⟩⟩
 ·have:q=149∨q=151:=by rcases List.mem_cons.1 hq with e | e;exact .inl e;exact .inr (List.mem_singleton.1 e)
  omega
 ·have:q=120∨q=143∨q=135:=by
   rcases List.mem_cons.1 hq with e | e
   ·exact .inl e
   ·rcases List.mem_cons.1 e with e | e
    ·exact .inr (.inl e)
    ·exact .inr (.inr (List.mem_singleton.1 e))
  omega
theorem gv.put8 (h:gv w0 W f S s true true true true true false):gv w0 (W.setCell ⟨s.2.2.2,0,none⟩ s.2.1) f S s true true true true true true:=by
 obtain⟨h1,h2⟩:=h.h5 rfl
 obtain⟨h3,h4⟩:=h.h6 rfl
 have hne:s.2.2.1≠s.2.2.2:=fun e=>by rw[e] at h1;rw[h1] at h3;simp at h3
 refine⟨Fr.below h.b (Fr.cell (S:=fun k=>k=s.2.2.2) rfl _) (fun k hk q=>by omega) h.b.size,fun _=>Kd.R_set (h.r1 rfl) h3 (fun q hq=>?_) 0 _,fun _=>Kd.R_set (h.r4 rfl) h3 (fun q hq=>?_) 0 _,fun _=>⟨a8 h1 hne _,h2⟩,fun _=>⟨aJ (L:=[_]) h3 0 _,h4⟩⟩
 ·have:q=149∨q=151:=by rcases List.mem_cons.1 hq with e | e;exact .inl e;exact .inr (List.mem_singleton.1 e)
  omega
 ·have:q=120∨q=143∨q=135:=by
   rcases List.mem_cons.1 hq with e | e
   ·exact .inl e
   ·rcases List.mem_cons.1 e with e | e
    ·exact .inr (.inl e)
    ·exact .inr (.inr (List.mem_singleton.1 e))
  omega
end
end
theorem pK (f:List In) (cut:List Bool) (S:bj) (hSk:S=a9 f cut) (A Af:Option Addr) (c cf:Nat) (w:World) (hG:Gl w) (hC:Kd.C dl w A S.nodes.length S.nodes) (hcN:S.nodes.length≤c) (hF:Kd.C kIn w Af f.length f) (hcf:f.length≤cf) (hr:bi f=true) :
  Calls Tryz.prog 50 #[.slice Af f.length cf,nr S A c] w fun e w'=>∃ v,e=.returned v∧Kd.R k8 143 w' w.heap.size (fun k=>w.heap.size≤k) v (bY f S)∧Below w.heap.size w w':=by
 have hok:=iz (bN hr) cut
 have hwy:=fp f cut
 rw[←hSk] at hok hwy
 have hl200:=(bN hr).len
 have hn200:S.nodes.length≤200:=by have:=hok.len;omega
 have HBt:=ak_ (fun (W:World) (hb:Below w.heap.size w W)=>pJ f cut S hSk A Af c cf W (hG.below hb) (Kd.C_below hC hb) (Kd.C_below hF hb) hcf hr)
 have HWs:=ak_ (fun (W:World) (hb:Below w.heap.size w W)=>iK S (.slice A S.nodes.length c) W ⟨A,c,rfl,hcN,Kd.C_below hC hb⟩ hn200 hwy.1.few)
 have HAl:=ak_ (fun (W:World) (hb:Below w.heap.size w W)=>mX f cut S hSk A Af c cf W (hG.below hb) (Kd.C_below hC hb) hcN (Kd.C_below hF hb) hcf hr)
 have HSml:=ak_ (eM hwy.1.few hn200)
 have HMk:=ak_ (run_make_row' (P:=Tryz.prog) 120 143 (.slice none 0 0) 24 Tryz.underlying120 uW rfl .i64 .i64 S.nodes.length (by omega) (by omega))
 have HWy:=ak_ hwy
 have HG:=ak_ hG
 have hn200':(S.nodes.length:Int)≤200:=by omega
 unfold nr at HBt HAl ⊢
 clear hok hwy hG hC hcN hF hcf hr hSk
 go_enter Tryz.func50,Tryz.ntmps50
 go_upto_region 1 with fail
 obtain⟨w1,hw1⟩:∃ w1,w1=w.alloc (.cells (S.entry.cells++[Value.slice A S.nodes.length c]).toArray 119):=⟨_,rfl⟩
 have h1:w1.heap[w.heap.size]?=some (.cells (S.entry.cells++[Value.slice A S.nodes.length c]).toArray 119 (0,0)):=by rw[hw1];exact heap_alloc_new w _
 have hb1:Below w.heap.size w w1:=by rw[hw1];exact ae (Below.refl _ _) _
 refine ar hw1.symm ?_
 have H1:=ak_ h1
 have HB1:=ak_ hb1
 clear hw1 h1 hb1
 go_upto_region 3 with (first
  | ((with_reducible refine aj (N:=15) rfl ?_);refine wpList_load_row rfl 119 _ rfl w.heap.size rfl 119 (S.entry.cells++[Value.slice A S.nodes.length c]).toArray (0,0) _ H1.out Tryz.underlying119 rfl (dH _ _) ?_)
  | (go_at_call 80;refine(HBt.out _ HB1.out).mono ?_;rintro e wa ⟨rfl,hb⟩;have Ha:=ak_ (ag H1.out hb);have HBa:=ak_ (af HB1.out hb);clear hb))
 have c25:=(show wa.cell? ⟨w.heap.size,25,none⟩=some (.slice A S.nodes.length c) by rw[ap Ha.out,List.getElem?_append_right (by rw[aU.len];exact Nat.le_refl _),aU.len];rfl)
 have lwa:=ai Ha.out
 go_upto_region 4 with (first
  | ((with_reducible refine aj (N:=21) rfl ?_);refine fM rfl 120 _ _ rfl _ _ _ rfl rfl (HMk.out _) ?_))
 obtain⟨wb,hwb⟩:∃ wb,wb=(wa.alloc (.cells (madeCells #[.slice none 0 0] S.nodes.length) 143)).alloc (.cells #[.slice (some ⟨wa.heap.size,0,none⟩) S.nodes.length S.nodes.length] 120):=⟨_,rfl⟩
 have hst:nx w wb S A c wa.heap.size (List.replicate S.nodes.length (.slice none 0 0)) (gG S.nodes.length 0 0):=by
  refine⟨by rw[hwb];exact ae (ae HBa.out _) _,by rw[hwb];exact aK (aK Ha.out _) _,?_,?_,by rw[ex],by omega⟩
  ·have:=heap_alloc_new (wa.alloc (.cells (madeCells #[.slice none 0 0] S.nodes.length) 143)) (.cells #[.slice (some ⟨wa.heap.size,0,none⟩) S.nodes.length S.nodes.length] 120)
   rw[hwb]
   simpa using this
  ·rw[sN]
   refine Mat.new eB ?_
   have:=aK (heap_alloc_new wa (.cells (madeCells #[.slice none 0 0] S.nodes.length) 143)) (.cells #[.slice (some ⟨wa.heap.size,0,none⟩) S.nodes.length S.nodes.length] 120)
   rw[←gh,hwb]
   exact this
 have hgb:wa.heap.size+2≤wb.heap.size:=by rw[hwb];simp
 refine ar hwb.symm ?_
 obtain⟨g,hg⟩:=mn_ wa.heap.size
 rw[hg] at hst hgb ⊢
 have c5:=(show wb.cell? ⟨g+1,0,none⟩=some (.slice (some ⟨g,0,none⟩) S.nodes.length S.nodes.length) by rw[ah hst.gt];rfl)
 have HSt:=ak_ hst
 have HGb:=ak_ hgb
 clear hwb hst hg c25 lwa HBt Ha HBa hgb
 go_upto_region 5 with fail
 go_loopw [24] (fun i wr=>∃ (n:Nat) (vs:List Value),i=.int .i64 n∧aa (n≤S.nodes.length∧g+2≤wr.heap.size∧nx w wr S A c g vs (gG S.nodes.length n 0))) (fun i _=>S.nodes.length - (intOf i).toNat)
 case atStart=>exact⟨0,_,rfl,⟨⟨Nat.zero_le _,HGb.out,HSt.out⟩⟩⟩
 case round=>
  obtain⟨n,vs,rfl,HL⟩:=hrel
  obtain⟨hn,hgr,hA⟩:=HL.out
  by_cases hlt:n < S.nodes.length
  ·have hlt':(n:Int) < (S.nodes.length:Int):=by omega
   have HLt:=ak_ hlt
   have HA:=ak_ hA
   have HGr:=ak_ hgr
   clear hA hlt hn HL hgr
   go_upto_region 8 with fail
   go_loopw [27] (fun j wr=>∃ (l:Nat) (vs:List Value),j=.int .i64 l∧aa (l≤24∧g+2≤wr.heap.size∧nx w wr S A c g vs (gG S.nodes.length n l))) (fun j _=>24 - (intOf j).toNat)
   case atStart=>exact⟨0,vs,rfl,⟨⟨Nat.zero_le _,HGr.out,HA.out⟩⟩⟩
   case round=>
    obtain⟨l,vs2,rfl,HL⟩:=hrel
    obtain⟨hl,hgr,hA⟩:=HL.out
    by_cases hll:l < 24
    ·have hll':(l:Int) < 24:=by omega
     go_upto_region 9 with fail
     obtain⟨vE,hv⟩:∃ vE,vs2[n]?=some vE:=⟨_,List.getElem?_eq_getElem (by rw[hA.m.len,ex];exact HLt.out)⟩
     have hx:=sO (l:=l) HLt.out
     obtain⟨W0,hW0⟩:=nm_ wr.drew
     have hA0:nx w W0 S A c g vs2 (gG S.nodes.length n l):=by rw[hW0];exact hA.below (az (Below.refl _ _))
     have hs0:W0.heap.size=wr.heap.size:=by rw[hW0];rfl
     obtain⟨W1,hW1⟩:∃ W1,W1=W0.alloc (.cells #[.int .i64 (-1),.int .i64 0] 135):=⟨_,rfl⟩
     have hA1:nx w W1 S A c g vs2 (gG S.nodes.length n l):=by rw[hW1];exact hA0.below (ae (Below.refl _ _) _)
     have hs1:W0.heap.size < W1.heap.size:=by rw[hW1];simp
     have hbx1:W1.heap[W0.heap.size]?=some (.cells #[.int .i64 (-1),.int .i64 0] 135 (0,0)):=by rw[hW1];exact heap_alloc_last W0 _
     obtain⟨v1,W2,hrun,hR,hg2,hat⟩:=jD (P:=Tryz.prog) eB w.heap.size 143 143 135 _ 16 Tryz.underlying143 lU rfl (by decide) (by omega) vE (List.replicate l opn) opn [.int .i64 (-1),.int .i64 0] (fun k=>g+2≤k∧k≠g) (fun _=>False) ⟨W0.heap.size,0,none⟩ (kw hbx1) rfl (fun _ h=>h.elim) (fun k hk=>⟨by omega,by omega⟩) (hA1.m.row n vE _ hv hx) hA1.b.size (by rw[List.length_replicate];omega)
     have hA3:=hA1.app hv hx hR hg2 hat
     rw[yE HLt.out] at hA3
     have hne:some g≠vE.ownBlock:=Kd.R_away (hA1.m.row n vE _ hv hx) (fun k hk=>hk.2)
     have hng:some (g+1)≠vE.ownBlock:=Kd.R_away (hA1.m.row n vE _ hv hx) (fun k hk=>by omega)
     have hM2:W2.heap[g]?=some (.cells vs2.toArray 143 (0,0)):=(hg2.block g (ai hA1.m.blk) hne).trans hA1.m.blk
     have a0:=(show W0.cell? ⟨g+1,0,none⟩=some (.slice (some ⟨g,0,none⟩) S.nodes.length S.nodes.length) by rw[ah hA0.gt];rfl)
     have a1:=(show W1.cell? ⟨g+1,0,none⟩=some (.slice (some ⟨g,0,none⟩) S.nodes.length S.nodes.length) by rw[ah hA1.gt];rfl)
     have a2:=(show W2.cell? ⟨g+1,0,none⟩=some (.slice (some ⟨g,0,none⟩) S.nodes.length S.nodes.length) by rw[ah ((hg2.block _ (ai hA1.gt) hng).trans hA1.gt)];rfl)
     have b0:=(show W0.cell? ⟨g,n,none⟩=some vE by rw[ap hA0.m.blk];exact hv)
     have b1:=(show W1.cell? ⟨g,n,none⟩=some vE by rw[ap hA1.m.blk];exact hv)
     have b2:=(show W2.cell? ⟨g,n,none⟩=some vE by rw[ap hM2];exact hv)
     have g0:=(HG.out.below hA0.b).2.1
     have g1:=(HG.out.below hA0.b).2.2.1
     obtain⟨hv1,hv2⟩:v1.cells=#[v1]∧v1.oneCell'=true:=by
      obtain⟨A1,c1,he⟩:=Kd.R_slice hR
      exact dz _ _ _ _ he
     have hgr3:g+2≤(W2.setCell ⟨g,n,none⟩ v1).heap.size:=by
      have:=hg2.size
      have:=(Fr.cell (S:=fun _=>True) (a:=W2) (p:=⟨g,n,none⟩) trivial v1).size
      omega
     have hfz:=aq hM2 n
     have hsz143:(sizeOf 143).run Tryz.prog W2=.ok 1 W2:=by kernel_rfl
     have HA3:=ak_ hA3
     have HGr3:=ak_ hgr3
     have hnN:(n:Int) < (S.nodes.length:Int):=hlt'
     have HW0:=ak_ hW0
     have HW1:=ak_ hW1
     have HRun:=ak_ hrun
     clear hW0 hW1 hrun hA hA0 hA1 hA3 hR hg2 hat hM2 hne hng hbx1 hs1 hs0 hx hv hgr hgr3 HL
     refine bh (σ:=Unit) [7,8,10] (fun _=>[(29,.slice (some ⟨g,0,none⟩) S.nodes.length S.nodes.length),(30,.int .i64 (n:Int)),(31,.slice (some ⟨g,0,none⟩) S.nodes.length S.nodes.length),(32,.int .i64 (n:Int)),(33,.pointer (some ⟨g,n,none⟩)),(34,vE),(35,.agg #[.int .i64 (-1),.int .i64 0]),(36,.slice (some ⟨W0.heap.size,0,none⟩) 1 1),(37,v1),(38,.pointer (some ⟨g,n,none⟩))])
      (fun bs _ W=>(bs=[false,false,false]∧W=W0)∨(bs=[true,false,false]∧W=W1)∨(bs=[true,true,false]∧W=W2)∨(bs=[true,true,true]∧W=W2.setCell ⟨g,n,none⟩ v1)) () (by kernel_rfl) (by kernel_rfl) (by kernel_rfl) (fun _=>by kernel_rfl) ?_
     intro aF haF
     simp only[bd,Act.put,List.setIfInBounds_toArray,List.set_cons_succ,List.set_cons_zero] at haF
     subst haF
     refine⟨?_,?_,.inl ⟨rfl,HW0.out.symm⟩,?_⟩
     ·intro j o ho hct s W bs hlen hok hI
      have hI2:=hI
      rcases j with _ | _ | _ | _ | _ | _ | _ | _ | _ | _ | _ | j
      all_goals first | exact absurd hct (by decide) | (obtain rfl:=Option.some.inj ho) | exact absurd (Array.getElem?_eq_some_iff.1 ho).1 (by simp)
      all_goals rcases hI with ⟨rfl,rfl⟩ | ⟨rfl,rfl⟩ | ⟨rfl,rfl⟩ | ⟨rfl,rfl⟩
      all_goals first
       | (refine ab rfl ?_ ⟨rfl,hI2⟩;go_simp;done)
       | exact a6 hok (by kernel_rfl)
     ·intro k j o hk ho s W bs hlen hok hI
      rcases k with _ | _ | _ | k
      ·obtain rfl:=Option.some.inj hk
       obtain rfl:=Option.some.inj ho
       rcases hI with ⟨rfl,rfl⟩ | ⟨rfl,rfl⟩ | ⟨rfl,rfl⟩ | ⟨rfl,rfl⟩
       ·exact ab rfl (lm _ _ _ rfl rfl) ⟨(),[],rfl,rfl,rfl,.inr (.inl ⟨rfl,HW1.out.symm⟩)⟩
       all_goals exact a6 hok (by kernel_rfl)
      ·obtain rfl:=Option.some.inj hk
       obtain rfl:=Option.some.inj ho
       rcases hI with ⟨rfl,rfl⟩ | ⟨rfl,rfl⟩ | ⟨rfl,rfl⟩ | ⟨rfl,rfl⟩
       ·exact a6 hok (by kernel_rfl)
       ·exact ab rfl (iZ rfl rfl rfl HRun.out) ⟨(),[],rfl,rfl,rfl,.inr (.inr (.inl ⟨rfl,rfl⟩))⟩
       all_goals exact a6 hok (by kernel_rfl)
      ·obtain rfl:=Option.some.inj hk
       obtain rfl:=Option.some.inj ho
       rcases hI with ⟨rfl,rfl⟩ | ⟨rfl,rfl⟩ | ⟨rfl,rfl⟩ | ⟨rfl,rfl⟩
       ·exact a6 hok (by kernel_rfl)
       ·exact a6 hok (by kernel_rfl)
       ·exact aV rfl 143 _ _ rfl g n v1 _ rfl rfl hv1 hv2 hsz143 b2 hfz ⟨(),[],rfl,rfl,rfl,.inr (.inr (.inr ⟨rfl,rfl⟩))⟩
       ·exact a6 hok (by kernel_rfl)
      ·exact absurd hk (by simp)
     ·intro s W hI
      rcases hI with ⟨h,_⟩ | ⟨h,_⟩ | ⟨h,_⟩ | ⟨_,rfl⟩
      ·exact absurd h (by decide)
      ·exact absurd h (by decide)
      ·exact absurd h (by decide)
      clear HW0 HW1 HRun a0 a1 a2 b0 b1 b2 g0 g1 hfz hsz143
      dsimp only
      go_wp2
      go_roundw
      case rel=>exact⟨l+1,_,by go_num,⟨⟨by omega,HGr3.out,HA3.out⟩⟩⟩
      case measure=>simp[intOf];omega
    ·obtain rfl:l=24:=by omega
     rw[t7] at hA
     have HA2:=ak_ hA
     have HGr2:=ak_ hgr
     clear hA hgr hl HL
     go_wp2
     go_roundw
     case rel=>exact⟨n+1,vs2,by go_num,⟨⟨HLt.out,HGr2.out,HA2.out⟩⟩⟩
     case measure=>have:=HLt.out;simp[intOf];omega
  ·obtain rfl:n=S.nodes.length:=by omega
   rw[yF] at hA
   have c5:=(show wr.cell? ⟨g+1,0,none⟩=some (.slice (some ⟨g,0,none⟩) S.nodes.length S.nodes.length) by rw[ah hA.gt];rfl)
   have HA:=ak_ hA
   have HGr:=ak_ hgr
   clear hA hn HL hgr
   go_upto_region 12 with fail
   have HBx:=ak_ (fun (W:World) (hb:Below wr.heap.size wr W)=>ag HA.out.bx hb)
   have HBl:=ak_ (fun (W:World) (hb:Below wr.heap.size wr W)=>af HA.out.b hb)
   refine bh (σ:=Value × Value × Nat × Nat) [1,4,5,6,7,8] (fun s=>[(41,.agg (S.entry.cells++[Value.slice A S.nodes.length c]).toArray),(42,s.1),(43,.slice Af f.length cf),(44,.agg (S.entry.cells++[Value.slice A S.nodes.length c]).toArray),(45,s.2.1),(7,.pointer (some ⟨s.2.2.1,0,none⟩)),(8,.pointer (some ⟨s.2.2.2,0,none⟩))])
    (fun bs s W=>gv wr W f S s (bs.getD 0 false) (bs.getD 1 false) (bs.getD 2 false) (bs.getD 3 false) (bs.getD 4 false) (bs.getD 5 false)) (undef,undef,0,0) (by kernel_rfl) (by kernel_rfl) (by kernel_rfl) (fun _=>by kernel_rfl) ?_
   intro aF haF
   simp only[bd,Act.put,List.setIfInBounds_toArray,List.set_cons_succ,List.set_cons_zero] at haF
   subst haF
   refine⟨?_,?_,⟨az (Below.refl _ _),fun e=>Bool.noConfusion e,fun e=>Bool.noConfusion e,fun e=>Bool.noConfusion e,fun e=>Bool.noConfusion e⟩,?_⟩
   ·intro j o ho hct s W bs hlen hok hI
    rcases j with _ | _ | _ | _ | _ | _ | _ | _ | _ | j
    all_goals first | exact absurd hct (by decide) | (obtain rfl:=Option.some.inj ho) | exact absurd (Array.getElem?_eq_some_iff.1 ho).1 (by simp)
    ·exact fl rfl 119 _ rfl w.heap.size rfl 119 _ (0,0) _ (HBx.out W hI.b) Tryz.underlying119 rfl (dH _ _) ⟨rfl,hI⟩
    ·exact ab rfl (by go_simp) ⟨rfl,hI⟩
    ·exact fl rfl 119 _ rfl w.heap.size rfl 119 _ (0,0) _ (HBx.out W hI.b) Tryz.underlying119 rfl (dH _ _) ⟨rfl,hI⟩
   ·intro k j o hk ho s W bs hlen hok hI
    obtain⟨b1,b4,b5,b6,b7,b8,rfl⟩:=k7 hlen
    rcases k with _ | _ | _ | _ | _ | _ | k
    all_goals first | (obtain rfl:=Option.some.inj hk;obtain rfl:=Option.some.inj ho) | exact absurd hk (by simp)
    ·obtain rfl:=okS hok 0 rfl rfl
     obtain rfl:=okF hok 4 rfl rfl rfl (by kernel_rfl)
     refine aN rfl Tryz.func52 (by kernel_rfl) rfl #[.agg (S.entry.cells++[Value.slice A S.nodes.length c]).toArray] rfl rfl ((HWs.out W (HBl.out W hI.b)).mono fun e w' h=>?_)
     obtain⟨v,h1,h2,h3⟩:=h
     exact⟨v,h1,(v,s.2.1,s.2.2.1,s.2.2.2),[(42,v)],rfl,rfl,by kernel_rfl,gv.call1 hI h2 h3⟩
    ·obtain rfl:=okS hok 1 rfl rfl
     obtain rfl:=okF hok 5 rfl rfl rfl (by kernel_rfl)
     refine aN rfl Tryz.func51 (by kernel_rfl) rfl #[.slice Af f.length cf,.agg (S.entry.cells++[Value.slice A S.nodes.length c]).toArray] rfl rfl ((HAl.out W (HBl.out W hI.b)).mono fun e w' h=>?_)
     obtain⟨v,h1,h2,h3⟩:=h
     exact⟨v,h1,(s.1,v,s.2.2.1,s.2.2.2),[(45,v)],rfl,rfl,by kernel_rfl,gv.call4 hI h2 h3⟩
    ·obtain rfl:=okS hok 2 rfl rfl
     obtain rfl:=okF hok 4 rfl rfl rfl (by kernel_rfl)
     exact ab (v:=.pointer (some ⟨W.heap.size,0,none⟩)) (w':=W.alloc (.cells #[.slice none 0 0] 122)) rfl (by go_simp) ⟨(s.1,s.2.1,W.heap.size,s.2.2.2),[(7,.pointer (some ⟨W.heap.size,0,none⟩))],rfl,rfl,by kernel_rfl,gv.new5 hI⟩
    ·obtain rfl:=okS hok 3 rfl rfl
     obtain rfl:=okF hok 5 rfl rfl rfl (by kernel_rfl)
     exact ab (v:=.pointer (some ⟨W.heap.size,0,none⟩)) (w':=W.alloc (.cells #[.slice none 0 0] 121)) rfl (by go_simp) ⟨(s.1,s.2.1,s.2.2.1,W.heap.size),[(8,.pointer (some ⟨W.heap.size,0,none⟩))],rfl,rfl,by kernel_rfl,gv.new6 hI⟩
    ·obtain rfl:=okS hok 4 rfl rfl
     obtain rfl:=okT hok 0 rfl rfl rfl (by kernel_rfl)
     obtain rfl:=okT hok 1 rfl rfl rfl (by kernel_rfl)
     obtain rfl:=okT hok 2 rfl rfl rfl (by kernel_rfl)
     obtain rfl:=okT hok 3 rfl rfl rfl (by kernel_rfl)
     obtain⟨A1,c1,he⟩:=Kd.R_slice (hI.r1 rfl)
     obtain⟨hv1,hv2⟩:=dz _ _ _ _ he
     have h5:=(hI.h5 rfl).1
     exact aV rfl 122 _ _ rfl s.2.2.1 0 s.1 (.slice none 0 0) rfl rfl hv1 hv2 (by kernel_rfl) (by rw[ah h5];rfl) (aq h5 0) ⟨s,[],rfl,rfl,rfl,gv.put7 hI⟩
    ·obtain rfl:=okS hok 5 rfl rfl
     obtain rfl:=okT hok 0 rfl rfl rfl (by kernel_rfl)
     obtain rfl:=okT hok 1 rfl rfl rfl (by kernel_rfl)
     obtain rfl:=okT hok 2 rfl rfl rfl (by kernel_rfl)
     obtain rfl:=okT hok 3 rfl rfl rfl (by kernel_rfl)
     obtain rfl:=okT hok 4 rfl rfl rfl (by kernel_rfl)
     obtain⟨A1,c1,he⟩:=Kd.R_slice (hI.r4 rfl)
     obtain⟨hv1,hv2⟩:=dz _ _ _ _ he
     have h6:=(hI.h6 rfl).1
     exact aV rfl 121 _ _ rfl s.2.2.2 0 s.2.1 (.slice none 0 0) rfl rfl hv1 hv2 (by kernel_rfl) (by rw[ah h6];rfl) (aq h6 0) ⟨s,[],rfl,rfl,rfl,gv.put8 hI⟩
   ·intro s W hI
    obtain⟨vW,vA,g7,g8⟩:=s
    have hI:gv wr W f S (vW,vA,g7,g8) true true true true true true:=hI
    have hc:px w W f S A c g wr.heap.size g7 g8 vW vA vs (io S.nodes.length):=by
     obtain⟨h1,h2⟩:=hI.h5 rfl
     obtain⟨h3,h4⟩:=hI.h6 rfl
     refine⟨HA.out.below hI.b,h1,h3,hI.r1 rfl,hI.r4 rfl,fun v hv k hk=>?_,HA.out.b.size,HGr.out,h2,h4⟩
     obtain⟨i,hi⟩:=List.getElem?_of_mem hv
     obtain⟨xs,hx⟩:∃ xs,(io S.nodes.length)[i]?=some xs:=⟨_,List.getElem?_eq_getElem (by rw[←HA.out.m.len];exact(List.getElem?_eq_some_iff.1 hi).1)⟩
     exact Kd.R_lt (HA.out.m.row i v xs hi hx) k hk
    obtain⟨AW,cW,rfl,hlW,_⟩:=Kd.R_reads hc.r7
    obtain⟨AA,cA,rfl,hlA,_⟩:=Kd.R_reads hc.r8
    have HC:=ak_ hc
    obtain⟨B,hB⟩:=mn_ wr.heap.size
    rw[hB] at HC
    clear hB
    clear hI hc hlW hlA HA HGr HBx HBl HWs HAl c5 HMk
    dsimp only
    go_wp2
    go_loopg [10] (48 * S.nodes.length+1) (fun k m wr=>∃ (mb:Bool) (F:List (List Src)),m=.bool mb∧aa (mU f S k mb F∧px w wr f S A c g B g7 g8 (.slice AW (aX S).length cW) (.slice AA (eF f S).length cA) vs F))
    case atStart=>exact⟨true,_,rfl,⟨⟨mU.start f S,HC.out⟩⟩⟩
    case round=>
     obtain⟨mb,F,rfl,HL⟩:=hrel
     obtain⟨hF,hA⟩:=HL.out
     cases mb with
     | false=>
      have c5:=(show wr.cell? ⟨g+1,0,none⟩=some (.slice (some ⟨g,0,none⟩) S.nodes.length S.nodes.length) by rw[ah hA.fa.gt];rfl)
      have HA:=ak_ hA
      have HEnd:=ak_ hF.end_
      clear hA hF HL
      go_wp2
      go_ret
      have hm:=HA.out.fa.m.own (by rw[HA.out.fa.len];omega) (by have:=HA.out.fa.lo;omega) (by have:=HA.out.fa.lo;omega)
      rw[HA.out.fa.len,HEnd.out] at hm
      exact⟨_,rfl,hm,HA.out.fa.b⟩
     | true=>
      obtain⟨k0,rfl⟩:∃ k0,gk=k0+1:=⟨gk - 1,by have:=hF.pos;omega⟩
      have c5:=(show wr.cell? ⟨g+1,0,none⟩=some (.slice (some ⟨g,0,none⟩) S.nodes.length S.nodes.length) by rw[ah hA.fa.gt];rfl)
      have HA:=ak_ hA
      have HF:=ak_ hF
      clear hA hF HL
      go_upto_region 18 with fail
      go_loopw [50,10] (fun i m wr=>∃ (n:Nat) (r:List (List Src) × Bool),i=.int .i64 n∧m=.bool r.2∧aa (n≤S.nodes.length∧r=fP f S n (F,false)∧px w wr f S A c g B g7 g8 (.slice AW (aX S).length cW) (.slice AA (eF f S).length cA) vs r.1)) (fun i _ _=>S.nodes.length - (intOf i).toNat)
      case atStart=>exact⟨0,(F,false),rfl,rfl,⟨⟨Nat.zero_le _,rfl,HA.out⟩⟩⟩
      case round=>
       obtain⟨n,r,rfl,rfl,HL⟩:=hrel
       obtain⟨hn,hr,hA⟩:=HL.out
       by_cases hlt:n < S.nodes.length
       ·have hlt':(n:Int) < (S.nodes.length:Int):=by omega
        have HLt:=ak_ hlt
        have HA2:=ak_ hA
        have HR:=ak_ hr
        clear hA hlt hn HL hr
        go_upto_region 21 with fail
        go_loopw [53,10] (fun j m wr=>∃ (l:Nat) (q:List (List Src) × Bool),j=.int .i64 l∧m=.bool q.2∧aa (l≤24∧q=fv f S n l r∧px w wr f S A c g B g7 g8 (.slice AW (aX S).length cW) (.slice AA (eF f S).length cA) vs q.1)) (fun j _ _=>24 - (intOf j).toNat)
        case atStart=>exact⟨0,r,rfl,rfl,⟨⟨Nat.zero_le _,rfl,HA2.out⟩⟩⟩
        case round=>
         obtain⟨l,q,rfl,rfl,HL⟩:=hrel
         obtain⟨hl,hq,hA⟩:=HL.out
         by_cases hll:l < 24
         ·have hll':(l:Int) < 24:=by omega
          have hinv:mn f S F q:=by
           rw[hq,HR.out]
           exact(HF.out.inv.pass n (by have:=HLt.out;omega)).row HLt.out l (by omega)
          have hshp:=hinv.sh
          have hgb:=HG.out.below hA.fa.b
          have h8:=hA.h8
          have hal:(eF f S).length=(aX S).length:=by unfold eF;rw[List.length_map]
          have hCA:=(Kd.R_reads' hA.r8).2.2
          rw[hal] at h8 hCA
          have HMt:=ak_ (zi f S q.1 vs n l g7 g8 (g+1) g w.heap.size (g+2) AW AA cW cA wr hgb hA.h7 (Kd.R_reads' hA.r7).2.2 h8 hCA (by rw[hshp.len];exact hA.fa.gt) hA.fa.m hshp HLt.out hll HSml.out HWy.out.1 HWy.out.2)
          obtain⟨x,hx⟩:=nm_ (cz f S q.1 n l)
          rw[←hx] at HMt
          have HX:=ak_ hx
          have HA3:=ak_ hA
          have HQ:=ak_ hq
          have HSh:=ak_ hshp
          clear hx hA hq hl HL hinv hshp hgb h8 hCA hal hll
          go_upto_region 24 with (first
           | (go_at_call 81;refine HMt.out.mono ?_;rintro e w5 ⟨rfl,hb⟩;have HA5:=ak_ (HA3.out.below hb);clear hb))
          obtain⟨w6,hw6⟩:∃ w6,w6=w5.alloc (.cells #[.int .i64 x.kind,.int .i64 x.n] 135):=⟨_,rfl⟩
          have hA6:px w w6 f S A c g B g7 g8 (.slice AW (aX S).length cW) (.slice AA (eF f S).length cA) vs q.1:=by rw[hw6];exact HA5.out.below (ae (Below.refl _ _) _)
          have h13:w6.heap[w5.heap.size]?=some (.cells #[.int .i64 x.kind,.int .i64 x.n] 135 (0,0)):=by rw[hw6];exact heap_alloc_last w5 _
          refine ar hw6.symm ?_
          obtain⟨vR,hvR⟩:∃ vR,vs[n]?=some vR:=⟨_,List.getElem?_eq_getElem (by rw[hA6.fa.m.len,HSh.out.len];exact HLt.out)⟩
          obtain⟨row,hrow⟩:∃ row,q.1[n]?=some row:=⟨_,List.getElem?_eq_getElem (by rw[HSh.out.len];exact HLt.out)⟩
          have hr24:row.length=24:=HSh.out.row row (List.mem_of_getElem? hrow)
          have hRr:=hA6.fa.m.row n vR row hvR hrow
          obtain⟨gr,cap,rfl,_⟩:=Kd.R_form hRr (by omega)
          obtain⟨s,hs⟩:∃ s,row[l]?=some s:=⟨_,List.getElem?_eq_getElem (by omega)⟩
          have hadd:(⟨gr,0,none⟩:Addr).add (l * eB.sz)=⟨gr,l * 2,none⟩:=by
           rw[show eB.sz=2 from rfl]
           unfold Addr.add
           by_cases h0:l * 2=0 <;> simp[h0]
          have HLdS:∀ W:World,Below w6.heap.size w6 W→(loadVar 135 ⟨gr,l * 2,none⟩).run Tryz.prog W=.ok (.agg #[.int .i64 s.kind,.int .i64 s.n]) W:=fun W hb=>by
           obtain⟨adS,csS,had,hKS,hldS⟩:=eu (P:=Tryz.prog) (Kd.R_reads' (Kd.R_below hRr hb)).2.2 l (by omega) s hs 135 Tryz.underlying135 rfl aG
           injection had with had
           subst had
           obtain rfl:csS=[.int .i64 s.kind,.int .i64 s.n]:=hKS
           rw[hadd] at hldS
           exact hldS
          have hgf:du q.1 n l=s:=by
           unfold du
           rw[List.getD_eq_getElem?_getD (l:=q.1),hrow]
           simp only[Option.getD_some]
           rw[List.getD_eq_getElem?_getD,hs]
           rfl
          have c5:=(show w6.cell? ⟨g+1,0,none⟩=some (.slice (some ⟨g,0,none⟩) S.nodes.length S.nodes.length) by rw[ah hA6.fa.gt];rfl)
          have cR:=(show w6.cell? ⟨g,n,none⟩=some (.slice (some ⟨gr,0,none⟩) row.length cap) by rw[ap hA6.fa.m.blk];exact hvR)
          have hlr:(l:Int) < (row.length:Int):=by omega
          have HR24:=ak_ hr24
          have HGf:=ak_ hgf
          have H13:=ak_ h13
          have HLd:=ak_ HLdS
          have HA6:=ak_ hA6
          have HRr:=ak_ hRr
          have HRow:=ak_ hrow
          have HVr:=ak_ hvR
          have HS:=ak_ hs
          clear hw6 hA6 h13 hr24 hgf hs HLdS hRr hrow hvR hadd HA5 HA3 HMt
          refine wp_region_still_lit (by kernel_rfl) (by kernel_rfl) ?_
          refine bu rfl (al rfl rfl (aT (W:=w6.drew) H13.out Tryz.underlying135 rfl aG)) ?_
          repeat still_step
          refine bu rfl (al rfl rfl (HLd.out w6.drew (az (Below.refl _ _)))) ?_
          refine bu rfl (o7 (s:=x) (u:=s) rfl rfl rfl _) ?_
          refine wpStill_nil ?_
          simp only[Act.put,List.setIfInBounds_toArray,List.set_cons_succ,List.set_cons_zero]
          by_cases hxs:x=s
          ·have hd:decide (x=s)=true:=decide_eq_true hxs
           have HQ2:=ak_ (show q=fv f S n (l+1) r by rw[gI,←HQ.out];unfold eD;rw[if_pos (by rw[←HX.out,HGf.out];exact hxs)])
           have HA7:=ak_ (HA6.out.below (az (Below.refl _ _)))
           clear hxs
           simp only[hd,Bool.not_true]
           go_wp2
           go_roundw
           case rel=>exact⟨l+1,q,by go_num,rfl,⟨⟨by omega,HQ2.out,HA7.out⟩⟩⟩
           case measure=>simp[intOf];omega
          ·have hd:decide (x=s)=false:=decide_eq_false hxs
           simp only[hd,Bool.not_false]
           have hxm:¬ cz f S q.1 n l=du q.1 n l:=by rw[←HX.out,HGf.out];exact hxs
           have HQ2:=ak_ (show (jV q.1 n l x,true)=fv f S n (l+1) r by rw[gI,←HQ.out,HX.out];unfold eD;rw[if_neg hxm])
           have HA7:=ak_ (HA6.out.below (az (Below.refl _ _)))
           clear hxs hxm
           go_upto_region 25 with fail
           refine ar (W':=w6.drew) rfl ?_
           obtain⟨w7,hw7⟩:=nm_ w6.drew
           rw[←hw7] at HA7 ⊢
           have HB7:=ak_ (show Below w6.heap.size w6 w7 by rw[hw7];exact az (Below.refl _ _))
           have c5:=(show w7.cell? ⟨g+1,0,none⟩=some (.slice (some ⟨g,0,none⟩) S.nodes.length S.nodes.length) by rw[ah HA7.out.fa.gt];rfl)
           have cR:=(show w7.cell? ⟨g,n,none⟩=some (.slice (some ⟨gr,0,none⟩) row.length cap) by rw[ap HA7.out.fa.m.blk];exact HVr.out)
           clear hw7
           go_still_tail 7,(by kernel_rfl)
           refine bu rfl (al rfl rfl (aT (W:=w7.drew) (ag H13.out (az HB7.out)) Tryz.underlying135 rfl aG)) ?_
           repeat still_step
           refine wpStill_nil ?_
           have hR7:=Kd.R_drew (HA7.out.fa.m.row n _ row HVr.out HRow.out)
           obtain⟨adS,csS,had,_,hKS,hcS⟩:=bX (Kd.R_reads' hR7).2.2 l (by have:=HR24.out;omega) s HS.out
           injection had with had
           subst had
           obtain rfl:csS=[.int .i64 s.kind,.int .i64 s.n]:=hKS
           have hcc:∀ (j:Nat) (u:Value),([Value.int .i64 s.kind,.int .i64 s.n]:List Value)[j]?=some u→w7.drew.cell? ⟨gr,(l:Int).toNat * eB.sz+j,none⟩=some u:=fun j u hu=>by
            have:=hcS j u hu
            rw[uz] at this
            rw[Int.toNat_natCast]
            exact this
           refine Kd.R_store (W:=w7.drew) eB (w0:=w) (o':=l * 2) w.heap.size rfl rfl 135 _ _ rfl 135 (l:Int) 0 row x (.agg #[.int .i64 x.kind,.int .i64 x.n]) [.int .i64 x.kind,.int .i64 x.n] [.int .i64 s.kind,.int .i64 s.n] (fun k=>g+2≤k∧k≠g) (fun _=>False) rfl (by rw[Int.toNat_natCast];rfl) rfl rfl aG (by simp[Value.oneCell']) hR7 (by omega) hlr rfl hcc (Nat.le_refl _) rfl (fun _ h=>h.elim) (az HA7.out.fa.b) ?_
           intro w8 hR8 hB8 hg8
           rw[Int.toNat_natCast] at hR8
           have hA8:=(HA7.out.below (az (Below.refl _ _))).put HVr.out HRow.out hR8 hg8
           have hput:q.1.set n (row.set l x)=jV q.1 n l x:=by
            unfold jV
            rw[List.getD_eq_getElem?_getD,HRow.out]
            rfl
           rw[hput] at hA8
           have HA8:=ak_ hA8
           clear hA8 hput hR7 hcc hcS hR8 hB8 hg8 c5 cR
           go_wp2
           go_roundw
           case rel=>exact⟨l+1,(jV q.1 n l x,true),by go_num,rfl,⟨⟨by omega,HQ2.out,HA8.out⟩⟩⟩
           case measure=>simp[intOf];omega
         ·obtain rfl:l=24:=by omega
          have HA3:=ak_ hA
          have HQ:=ak_ (show q=fP f S (n+1) (F,false) by rw[jZ,←HR.out];exact hq)
          clear hA hq hl HL hll
          go_wp2
          go_roundw
          case rel=>exact⟨n+1,q,by go_num,rfl,⟨⟨HLt.out,HQ.out,HA3.out⟩⟩⟩
          case measure=>have:=HLt.out;simp[intOf];omega
       ·obtain rfl:n=S.nodes.length:=by omega
        have HA3:=ak_ hA
        have HR:=ak_ (HF.out.round hr)
        clear hA hr hn HL hlt
        go_wp2
        go_roundg k0
        case measure=>omega
        case rel=>exact⟨r.2,r.1,rfl,⟨⟨HR.out,HA3.out⟩⟩⟩
def jA (F:List (List Src)) (n a:Nat) (st:List Bool × Bool) (l:Int):List Bool × Bool:=
 if st.1.getD a false=false∧(du F n l.toNat).kind=0 then (st.1.set a true,true) else st
def nF (f:List In) (F:List (List Src)) (n:Nat) (x:aH) (st:List Bool × Bool):List Bool × Bool:=
 (cy (f.getD x.at_.toNat In.zero)).foldl (jA F n x.at_.toNat) st
def qx (f:List In) (F:List (List Src)):List aH→Nat→List Bool × Bool→List Bool × Bool
 | [],_,st=>st
 | x :: xs,n,st=>qx f F xs (n+1) (nF f F n x st)
def ku (f:List In) (c:List Bool):List Bool × Bool:=qx f (bY f (a9 f c)) (a9 f c).nodes 0 (c,false)
def nG (f:List In):Nat→List Bool→List Bool
 | 0,c=>c
 | k+1,c=>if (ku f c).2=true then nG f k (ku f c).1 else (ku f c).1
def bZ (f:List In):List Bool:=nG f (f.length+1) (List.replicate f.length false)
structure kF (L:Nat) (c0:List Bool) (st:List Bool × Bool):Prop where
 len:st.1.length=L
 le:st.1.count false≤c0.count false
 lt:st.2=true→st.1.count false < c0.count false
 same:st.2=false→st.1=c0
theorem count_set:∀ (c:List Bool) (a:Nat),a < c.length→c.getD a false=false→(c.set a true).count false+1=c.count false
 | [],_,h,_=>absurd h (by simp)
 | b :: c,0,_,h=>by
  have:b=false:=h
  subst this
  simp[List.count_cons]
 | b :: c,a+1,h,hg=>by
  have:=count_set c a (by simpa using h) (by simpa using hg)
  simp only[List.set_cons_succ,List.count_cons]
  omega
theorem kF.use {L:Nat} {c0:List Bool} {st:List Bool × Bool} (h:kF L c0 st) (F:List (List Src)) (n:Nat) {a:Nat} (ha:a < L) (l:Int):kF L c0 (jA F n a st l):=by
 by_cases hc:st.1.getD a false=false∧(du F n l.toNat).kind=0
 ·have h1:=count_set st.1 a (by rw[h.len];exact ha) hc.1
  have h2:=h.le
  have h3:=h.len
  unfold jA
  rw[if_pos hc]
  exact⟨by rw[List.length_set];exact h3,by show (st.1.set a true).count false≤_;omega,fun _=>by show (st.1.set a true).count false < _;omega,fun e=>Bool.noConfusion e⟩
 ·unfold jA
  rw[if_neg hc]
  exact h
theorem kF.uses {L:Nat} {c0:List Bool} (F:List (List Src)) (n:Nat) {a:Nat} (ha:a < L):∀ (us:List Int) (st:List Bool × Bool),kF L c0 st→kF L c0 (us.foldl (jA F n a) st)
 | [],_,h=>h
 | l :: us,st,h=>kF.uses F n ha us _ (h.use F n ha l)
theorem kF.to {f:List In} {c0:List Bool} (F:List (List Src)):∀ (xs:List aH) (n:Nat) (st:List Bool × Bool),(∀ x∈xs,0≤x.at_∧x.at_ < f.length)→kF f.length c0 st→kF f.length c0 (qx f F xs n st)
 | [],_,_,_,h=>h
 | x :: xs,n,st,hx,h=>by
  have:=hx x (List.mem_cons_self ..)
  exact kF.to F xs (n+1) _ (fun y hy=>hx y (List.mem_cons_of_mem _ hy)) (kF.uses F n (by omega) _ _ h)
structure mV (f:List In) (k:Nat) (m:Bool) (c:List Bool):Prop where
 len:c.length=f.length
 more:m=true→nG f k c=bZ f∧c.count false < k
 done:m=false→c=bZ f
theorem mV.start (f:List In):mV f (f.length+1) true (List.replicate f.length false):=⟨by rw[List.length_replicate],fun _=>⟨rfl,by rw[List.count_replicate_self];omega⟩,fun e=>Bool.noConfusion e⟩
theorem mV.inv {f:List In} {k:Nat} {m:Bool} {c:List Bool} (h:mV f k m c):kF f.length c (c,false):=⟨h.len,Nat.le_refl _,fun e=>Bool.noConfusion e,fun _=>rfl⟩
theorem mV.pos {f:List In} {k:Nat} {c:List Bool} (h:mV f k true c):0 < k:=by
 have:=(h.more rfl).2
 omega
theorem mV.round {f:List In} {k:Nat} {c:List Bool} (h:mV f (k+1) true c) (hn:∀ x∈(a9 f c).nodes,0≤x.at_∧x.at_ < f.length) {r:List Bool × Bool} (hr:r=ku f c):mV f k r.2 r.1:=by
 have hi:=kF.to (f:=f) (bY f (a9 f c)) (a9 f c).nodes 0 (c,false) hn h.inv
 have hr2:r=qx f (bY f (a9 f c)) (a9 f c).nodes 0 (c,false):=hr
 rw[←hr2] at hi
 have hm:=h.more rfl
 unfold nG at hm
 rw[←hr] at hm
 refine⟨hi.len,fun e=>?_,fun e=>?_⟩
 ·rw[if_pos e] at hm
  have:=hi.lt e
  exact⟨hm.1,by omega⟩
 ·rw[if_neg (by rw[e];simp)] at hm
  exact hm.1
theorem ny {n:Int} {x:In} (h:Cu n x):∀ l∈cy x,0≤l∧l < 24:=by
 have hu:∀ (g:ByteArray) (k:Nat),∀ l∈eQ x g k,0≤l∧l < 24:=by
  intro g k
  induction k with
  | zero=>intro l hl;exact absurd hl (List.not_mem_nil)
  | succ k ih=>
   intro l hl
   unfold eQ at hl
   split at hl
   ·rename_i hc
    rcases List.mem_append.1 hl with hl | hl
    ·exact ih l hl
    ·rw[List.mem_singleton.1 hl]
     rcases hc with e | e
     ·rw[e];have:=h.a;exact⟨this.1,by show x.a < 24;omega⟩
     ·rw[e];have:=h.b;exact⟨this.1,by show x.b < 24;omega⟩
   ·exact ih l hl
 intro l hl
 unfold cy at hl
 split at hl
 ·exact absurd hl (List.not_mem_nil)
 ·exact hu _ _ l hl
theorem lu (x:In):(cy x).length≤3:=by
 unfold cy
 split
 ·exact Nat.zero_le _
 ·exact Nat.le_trans (kT _ _ _) (pR _)
theorem vn {f:List In} (hr:dy f):(bZ f).length=f.length:=by
 have h:∀ (k:Nat) (m:Bool) (c:List Bool),mV f k m c→(bZ f).length=f.length:=by
  intro k
  induction k with
  | zero=>
   intro m c h
   cases m with
   | true=>exact absurd h.pos (Nat.lt_irrefl _)
   | false=>rw[←h.done rfl];exact h.len
  | succ k ih=>
   intro m c h
   cases m with
   | true=>exact ih _ _ (h.round (iz hr c).at_ rfl)
   | false=>rw[←h.done rfl];exact h.len
 exact h _ _ _ (mV.start f)
section
theorem ky {α:Type} {d:Kd α} {e base:Nat} {W:World} {ok:Nat→Prop} {g n cap:Nat} {xs:List α} (h:Kd.R d e W base ok (.slice (some ⟨g,0,none⟩) n cap) xs) (i:Nat) (x:α) (hx:xs[i]?=some x) :
  ∃ cs,cs.length=d.sz∧d.K W x cs∧∀ j u,cs[j]?=some u→W.cell? ⟨g,i * d.sz+j,none⟩=some u:=by
 obtain⟨hn,_,hC⟩:=Kd.R_reads' h
 obtain⟨ad,c,e1,hl,hK,hc⟩:=bX hC i (List.getElem?_eq_some_iff.1 hx).1 x hx
 injection e1 with e1
 subst e1
 exact⟨c,hl,hK,fun j u hu=>by have:=hc j u hu;rwa [uz] at this⟩
theorem t8 {W:World} {base:Nat} {ok:Nat→Prop} {gF N cap:Nat} {F:List (List Src)} (h:Kd.R k8 143 W base ok (.slice (some ⟨gF,0,none⟩) N cap) F) (hS:fL N F) {n l:Nat} (hn:n < N) (hl:l < 24) :
  ∃ gR cR,W.cell? ⟨gF,n,none⟩=some (.slice (some ⟨gR,0,none⟩) 24 cR)∧W.cell? ⟨gR,l * 2,none⟩=some (.int .i64 (du F n l).kind)∧W.cell? ⟨gR,l * 2+1,none⟩=some (.int .i64 (du F n l).n):=by
 have hnF:n < F.length:=by rw[hS.len];exact hn
 obtain⟨c,hcl,hM,hc,_⟩:=Kd.R_elem h [] (n:Int) (by omega) (by omega)
 rw[Int.toNat_natCast] at hM hc
 obtain⟨v,rfl,hR⟩:=hM
 have hrow:F.getD n []=F[n]:=by rw[List.getD_eq_getElem?_getD,List.getElem?_eq_getElem hnF];rfl
 rw[hrow] at hR
 have hr24:(F[n]).length=24:=hS.row _ (List.getElem_mem hnF)
 obtain⟨gR,cR,rfl,_⟩:=Kd.R_form hR (by omega)
 have hs:(F[n])[l]?=some (du F n l):=by
  unfold du
  rw[hrow,List.getD_eq_getElem?_getD,List.getElem?_eq_getElem (by omega)]
  rfl
 obtain⟨cs,_,hK,hcs⟩:=ky hR l _ hs
 obtain rfl:cs=[.int .i64 (du F n l).kind,.int .i64 (du F n l).n]:=hK
 refine⟨gR,cR,?_,hcs 0 _ rfl,hcs 1 _ rfl⟩
 have:=hc 0 _ rfl
 rw[hr24,show n * k8.sz+0=n from Nat.mul_one n] at this
 exact this
structure y8 (w W:World) (gc:Nat) (c:List Bool):Prop where
 b:Below w.heap.size w W
 c:W.heap[gc]?=some (.cells (c.map Value.bool).toArray 4 (0,0))
 lo:w.heap.size≤gc
theorem y8.below {w W W1:World} {gc:Nat} {c:List Bool} (h:y8 w W gc c) (hb:Below W.heap.size W W1):y8 w W1 gc c:=⟨af h.b hb,ag h.c hb,h.lo⟩
structure pH (w W:World) (gc g6:Nat) (S:bj) (vN vF:Value) (F:List (List Src)) (c:List Bool):Prop where
 ct:y8 w W gc c
 h6:W.heap[g6]?=some (.cells (S.entry.cells++[vN]).toArray 119 (0,0))
 rn:Kd.R dl 142 W w.heap.size (fun k=>w.heap.size≤k) vN S.nodes
 rf:Kd.R k8 143 W w.heap.size (fun k=>w.heap.size≤k) vF F
section
variable {w W W1:World} {gc g6:Nat} {S:bj} {vN vF:Value} {F:List (List Src)} {c:List Bool}
theorem pH.below (h:pH w W gc g6 S vN vF F c) (hb:Below W.heap.size W W1):pH w W1 gc g6 S vN vF F c:=⟨h.ct.below hb,ag h.h6 hb,Kd.R_below h.rn hb,Kd.R_below h.rf hb⟩
theorem ic {q:Nat} (h:q∈142 :: dl.E):q=142∨q=116:=by
 have:142 :: dl.E=[142,116]:=rfl
 rw[this] at h
 rcases List.mem_cons.1 h with e | e
 ·exact .inl e
 ·exact .inr (List.mem_singleton.1 e)
theorem kn {q:Nat} (h:q∈143 :: k8.E):q=143∨q=135:=by
 rcases List.mem_cons.1 h with e | e
 ·exact .inl e
 ·exact .inr (List.mem_singleton.1 e)
theorem pH.set (h:pH w W gc g6 S vN vF F c) (a:Nat) (b:Bool):pH w (W.setCell ⟨gc,a,none⟩ (.bool b)) gc g6 S vN vF F (c.set a b):=by
 have hne:g6≠gc:=fun e=>by have h1:=h.h6;rw[e,h.ct.c] at h1;simp at h1
 refine⟨⟨Fr.below h.ct.b (Fr.cell (S:=fun k=>k=gc) rfl _) (fun k hk q=>by have:=h.ct.lo;omega) h.ct.b.size,?_,h.ct.lo⟩,a8 h.h6 hne _,Kd.R_set h.rn h.ct.c (fun q hq=>?_) a _,Kd.R_set h.rf h.ct.c (fun q hq=>?_) a _⟩
 ·have:=aJ h.ct.c a (.bool b)
  rwa [←List.map_set] at this
 ·have:=ic hq;omega
 ·have:=kn hq;omega
end
theorem sP {W:World} {base:Nat} {ok:Nat→Prop} {AF:Option Addr} {N cap:Nat} {F:List (List Src)} (h:Kd.R k8 143 W base ok (.slice AF N cap) F) (hS:fL N F) {n l:Nat} (hn:n < N) (hl:l < 24) :
  ∃ gF gR cR,AF=some ⟨gF,0,none⟩∧W.cell? ⟨gF,n,none⟩=some (.slice (some ⟨gR,0,none⟩) 24 cR)∧W.cell? ⟨gR,l * 2,none⟩=some (.int .i64 (du F n l).kind)∧W.cell? ⟨gR,l * 2+1,none⟩=some (.int .i64 (du F n l).n):=by
 obtain⟨gF,cF,he,_⟩:=Kd.R_form h (by rw[hS.len];omega)
 injection he with h1 h2 h3
 subst h1
 obtain⟨gR,cR,q⟩:=t8 h hS hn hl
 exact⟨gF,gR,cR,rfl,q⟩
end
theorem Bj (f:List In) (A:Option Addr) (cf:Nat) (w:World) (hG:Gl w) (hF:Kd.C kIn w A f.length f) (hcf:f.length≤cf) (hr:bi f=true) :
  Calls Tryz.prog 48 #[.slice A f.length cf] w fun e w'=>∃ gc:Nat,e=.returned (.tuple #[.slice (some ⟨gc,0,none⟩) f.length f.length,.int .i64 0])∧w.heap.size≤gc∧w'.heap[gc]?=some (.cells ((bZ f).map Value.bool).toArray 4 (0,0))∧Below w.heap.size w w':=by
 have hR:=bN hr
 have hl200:=hR.len
 have hl200':(f.length:Int)≤200:=by omega
 have HRt:=ak_ (fun (W:World) (hb:Below w.heap.size w W)=>dY A cf f W (hG.below hb) (Kd.C_below hF hb) hcf)
 have HMk:=ak_ (run_make_row' (P:=Tryz.prog) 71 4 (.bool false) 1 Tryz.underlying71 CC rfl .i64 .i64 f.length (by omega) (by omega))
 have HG:=ak_ hG
 have HF:=ak_ hF
 have HR:=ak_ hR
 have HRr:=ak_ hr
 have HCf:=ak_ hcf
 clear hG hF hR hcf
 go_enter Tryz.func48,Tryz.ntmps48
 go_upto_region 3 with (first
  | (go_at_call 47;refine(HRt.out _ (Below.refl _ _)).mono ?_;rintro e wa ⟨he,hb⟩;rw[hr] at he;subst he;have HBa:=ak_ hb;clear hb))
 clear hr
 go_upto_region 4 with (first
  | ((with_reducible refine aj (N:=18) rfl ?_);refine fM rfl 71 _ _ rfl _ _ _ rfl rfl (HMk.out _) ?_))
 obtain⟨wb,hwb⟩:∃ wb,wb=wa.alloc (.cells (madeCells #[.bool false] f.length) 4):=⟨_,rfl⟩
 have hst:y8 w wb wa.heap.size (List.replicate f.length false):=by
  refine⟨by rw[hwb];exact ae HBa.out _,?_,HBa.out.size⟩
  have:=heap_alloc_new wa (.cells (madeCells #[.bool false] f.length) 4)
  rw[←hwb,gh] at this
  rw[List.map_replicate]
  exact this
 refine ar hwb.symm ?_
 obtain⟨gc,hg⟩:=mn_ wa.heap.size
 rw[hg] at hst ⊢
 have HSt:=ak_ hst
 clear hwb hst hg
 go_wp2
 go_loopg [5] (f.length+1) (fun k m wr=>∃ (mb:Bool) (c:List Bool),m=.bool mb∧aa (mV f k mb c∧y8 w wr gc c))
 case atStart=>exact⟨true,_,rfl,⟨⟨mV.start f,HSt.out⟩⟩⟩
 case round=>
  obtain⟨mb,c,rfl,HL⟩:=hrel
  obtain⟨hC,hT⟩:=HL.out
  cases mb with
  | false=>
   have HT:=ak_ hT
   have HEnd:=ak_ (hC.done rfl)
   clear hC hT HL
   go_wp2
   refine bodyPost_ret (v:=.tuple #[.slice (some ⟨gc,0,none⟩) f.length f.length,.int .i64 0]) (by simp[results,Tryz.results48,go_sem]) rfl ⟨gc,rfl,HT.out.lo,?_,HT.out.b⟩
   rw[←HEnd.out]
   exact HT.out.c
  | true=>
   obtain⟨k0,rfl⟩:∃ k0,gk=k0+1:=⟨gk - 1,by have:=hC.pos;omega⟩
   obtain⟨S,hS⟩:=nm_ (a9 f c)
   obtain⟨F,hFa⟩:=nm_ (bY f S)
   have hok:=iz HR.out c
   rw[←hS] at hok
   have hn200:S.nodes.length≤200:=by have:=hok.len;omega
   have hn200':(S.nodes.length:Int)≤200:=by omega
   have hBd:=gY f c A (some ⟨gc,0,none⟩) cf f.length wr (HG.out.below hT.b) (Kd.C_below HF.out hT.b) HCf.out (by have:=uu hT.c (by rw[hC.len];omega);exact this) HRr.out
   rw[hC.len,←hS] at hBd
   have HBd:=ak_ hBd
   have HFc:=ak_ (fun (W:World) (hb:Below w.heap.size w W) (AN:Option Addr) (cN:Nat) (h1:Kd.C dl W AN S.nodes.length S.nodes) (h2:S.nodes.length≤cN)=>pK f c S hS AN A cN cf W (HG.out.below hb) h1 h2 (Kd.C_below HF.out hb) HCf.out HRr.out)
   have HShp:=ak_ (kg f S).sh
   rw[←hFa] at HFc HShp
   have HS:=ak_ hS
   have HFa:=ak_ hFa
   have HOk:=ak_ hok
   have HC:=ak_ hC
   have HT:=ak_ hT
   unfold nr at HFc
   clear hS hFa hok hBd hC hT HL
   go_upto_region 8 with (first
    | (go_at_call 49;refine HBd.out.mono ?_;rintro e w5 ⟨vN,rfl,hrn,hb⟩;obtain⟨AN,cN,rfl,hlN,hCN⟩:=Kd.R_reads hrn;have HRn:=ak_ hrn;have HCN:=ak_ hCN;have HB5:=ak_ hb;have HlN:=ak_ hlN;clear hrn hb hCN hlN)
    | ((with_reducible refine ao (t:=119) (p:=6) rfl ?_);refine an rfl 119 _ _ rfl w5.heap.size (S.entry.cells++[Value.slice AN S.nodes.length cN]).toArray rfl rfl 119 fq.toArray (heap_alloc_last w5 _) (dH _ _) (skz.trans (jQ _ _).symm) (qK _) ?_;intro w6 h6 hf6;have H6:=ak_ h6;have HB6:=ak_ (bV hf6);clear h6 hf6))
   have hb6:=HB6.out
   have hT6:=(HT.out.below HB5.out).below hb6
   have hr6:=Kd.R_lower (Kd.R_mono (Kd.R_below HRn.out hb6) (fun k hk=>Nat.le_trans HT.out.b.size hk)) HT.out.b.size
   have hF6:=HFc.out w6 hT6.b AN cN (Kd.C_below HCN.out hb6) HlN.out
   have HT6:=ak_ hT6
   have HR6:=ak_ hr6
   have HF6:=ak_ hF6
   clear hb6 hT6 hr6 hF6 HFc HBd HB5 HT HCN HRn HlN
   go_upto_region 9 with (first
    | ((with_reducible refine aj (N:=27) rfl ?_);refine wpList_load_row rfl 119 _ rfl w5.heap.size rfl 119 (S.entry.cells++[Value.slice AN S.nodes.length cN]).toArray (0,0) _ H6.out Tryz.underlying119 rfl (dH _ _) ?_)
    | (go_at_call 50;refine HF6.out.mono ?_;rintro e w7 ⟨vF,rfl,hrf,hb⟩;obtain⟨AF,cF,rfl⟩:=Kd.R_slice hrf;have HU:=ak_ (show pH w w7 gc w5.heap.size S (.slice AN S.nodes.length cN) (.slice AF F.length cF) F c from ⟨HT6.out.below hb,ag H6.out hb,Kd.R_below HR6.out hb,Kd.R_lower (Kd.R_mono hrf (fun k hk=>Nat.le_trans HT6.out.b.size hk)) HT6.out.b.size⟩);clear hrf hb))
   have c25:=(show w7.cell? ⟨w5.heap.size,25,none⟩=some (.slice AN S.nodes.length cN) by rw[ap HU.out.h6,List.getElem?_append_right (by rw[aU.len];exact Nat.le_refl _),aU.len];rfl)
   go_wp2
   go_loopw [32,5] (fun i m wr=>∃ (n:Nat) (st:List Bool × Bool),i=.int .i64 n∧m=.bool st.2∧aa (n≤S.nodes.length∧ku f c=qx f F (S.nodes.drop n) n st∧kF f.length c st∧pH w wr gc w5.heap.size S (.slice AN S.nodes.length cN) (.slice AF F.length cF) F st.1)) (fun i _ _=>S.nodes.length - (intOf i).toNat)
   case atStart=>exact⟨0,(c,false),rfl,rfl,⟨⟨Nat.zero_le _,by unfold ku;rw[←HS.out,←HFa.out];rfl,HC.out.inv,HU.out⟩⟩⟩
   case round=>
    obtain⟨n,st,rfl,rfl,HL⟩:=hrel
    obtain⟨hn,hfin,hI,hU⟩:=HL.out
    by_cases hlt:n < S.nodes.length
    ·have hlt':(n:Int) < (S.nodes.length:Int):=by omega
     obtain⟨x,hx⟩:∃ x,S.nodes[n]?=some x:=⟨_,List.getElem?_eq_getElem hlt⟩
     obtain⟨ad,cs,rfl,hK,hld⟩:=eu (P:=Tryz.prog) (Kd.R_reads' hU.rn).2.2 n hlt x hx 142 Tryz.underlying142 rfl ka
     obtain⟨vO,rfl,AO,cO,rfl,hlO,hCO⟩:=fx hK
     have hat:=HOk.out.at_ x (List.mem_of_getElem? hx)
     rw[List.drop_eq_getElem_cons hlt,(List.getElem?_eq_some_iff.1 hx).2] at hfin
     simp only[qx] at hfin
     obtain⟨xa,xo⟩:=x
     simp only at hat
     obtain⟨a,rfl⟩:∃ a:Nat,xa=a:=⟨xa.toNat,by omega⟩
     have haf:a < f.length:=by omega
     have haf':(a:Int) < (f.length:Int):=by omega
     obtain⟨y,hy⟩:∃ y,f[a]?=some y:=⟨_,List.getElem?_eq_getElem haf⟩
     have hyo:=HR.out.ok a y hy
     have hyd:f.getD a In.zero=y:=by rw[List.getD_eq_getElem?_getD,hy];rfl
     obtain⟨adF,csF,hadF,_,_⟩:=aW (P:=Tryz.prog) HF.out hU.ct.b a haf y hy 49 Tryz.underlying49 rfl bE
     subst hadF
     have HLdF:=ak_ (fun (W:World) (hb:Below w.heap.size w W)=>show (loadVar 49 (adF.add (a * 6))).run Tryz.prog W=.ok (.agg y.cells) W by
      obtain⟨ad2,cs2,q1,q2,q3⟩:=aW (P:=Tryz.prog) HF.out hb a haf y hy 49 Tryz.underlying49 rfl bE
      injection q1 with q1
      subst q1
      obtain rfl:cs2=y.cells.toList:=q2
      exact q3)
     obtain⟨us,hus⟩:=nm_ (cy y)
     have HUin:=ak_ (ny hyo)
     have HUl:=ak_ (lu y)
     have HUs:=ak_ (fun (W:World) (hb:Below w.heap.size w W)=>jq y W (HG.out.below hb))
     rw[←hus] at HUin HUl HUs
     have hcn:nF f F n ⟨(a:Int),xo⟩ st=us.foldl (jA F n a) st:=by unfold nF;simp only[Int.toNat_natCast];rw[hyd,hus]
     have HCn:=ak_ hcn
     have hfl:(0:Int)≤a:=by omega
     have HFi:=ak_ hfin
     have HI:=ak_ hI
     have HU2:=ak_ hU
     have HLd:=ak_ hld
     have HLt:=ak_ hlt
     clear hfin hI hU hld hCO hK hx HL hlt hn hat
     clear hy hyd hus hcn hyo haf
     go_upto_region 12 with (first
      | ((with_reducible refine aj (N:=36) rfl ?_);refine au rfl 142 _ rfl (ad.add (n * 2)) rfl _ HLd.out ?_))
     obtain⟨w8,hw8⟩:∃ w8,w8=wr.alloc (.cells #[.int .i64 (a:Int),.slice AO xo.length cO] 142):=⟨_,rfl⟩
     have h10:w8.heap[wr.heap.size]?=some (.cells #[.int .i64 (a:Int),.slice AO xo.length cO] 142 (0,0)):=by rw[hw8];exact heap_alloc_last wr _
     have hU8:pH w w8 gc w5.heap.size S (.slice (some ad) S.nodes.length cN) (.slice AF F.length cF) F st.1:=by rw[hw8];exact HU2.out.below (ae (Below.refl _ _) _)
     refine ar hw8.symm ?_
     have a10:=(show w8.cell? ⟨wr.heap.size,0,none⟩=some (.int .i64 (a:Int)) by rw[ah h10];rfl)
     have H10:=ak_ h10
     have HU8:=ak_ hU8
     obtain⟨g10,hg10⟩:=mn_ wr.heap.size
     rw[hg10] at H10 a10 ⊢
     clear hw8 h10 hU8 hg10
     go_upto_region 13 with (first
      | ((with_reducible refine aj (N:=41) rfl ?_);refine au rfl 49 _ rfl (adF.add (a * 6)) rfl _ (HLdF.out _ HU8.out.ct.b) ?_)
      | (go_at_call 56;refine(HUs.out _ HU8.out.ct.b).mono ?_;rintro e w9 ⟨vU,rfl,hru,hb⟩;obtain⟨AU,cU,rfl⟩:=Kd.R_slice hru;have HU9:=ak_ (HU8.out.below hb);have HRu:=ak_ (Kd.R_lower (Kd.R_mono hru (fun k hk=>Nat.le_trans HU8.out.ct.b.size hk)) HU8.out.ct.b.size);have H10b:=ak_ (ag H10.out hb);clear hru hb))
     have hul:(us.length:Int)≤3:=by have:=HUl.out;omega
     go_loopw [44,5] (fun j m wr=>∃ (k:Nat) (st2:List Bool × Bool),j=.int .i64 k∧m=.bool st2.2∧aa (k≤us.length∧nF f F n ⟨(a:Int),xo⟩ st=(us.drop k).foldl (jA F n a) st2∧kF f.length c st2∧pH w wr gc w5.heap.size S (.slice (some ad) S.nodes.length cN) (.slice AF F.length cF) F st2.1∧wr.heap[g10]?=some (.cells #[.int .i64 (a:Int),.slice AO xo.length cO] 142 (0,0))∧Kd.R (Kd.int .i64) 3 wr w.heap.size (fun k=>w.heap.size≤k) (.slice AU us.length cU) us)) (fun j _ _=>us.length - (intOf j).toNat)
     case atStart=>exact⟨0,st,rfl,rfl,⟨⟨Nat.zero_le _,HCn.out,HI.out,HU9.out,H10b.out,HRu.out⟩⟩⟩
     case round=>
      obtain⟨k,st2,rfl,rfl,HL⟩:=hrel
      obtain⟨hk,hfin,hI,hU,h10,hRu⟩:=HL.out
      by_cases hkl:k < us.length
      ·have hkl':(k:Int) < (us.length:Int):=by omega
       obtain⟨u,hu⟩:∃ u,us[k]?=some u:=⟨_,List.getElem?_eq_getElem hkl⟩
       obtain⟨hu0,hu24⟩:=HUin.out u (List.mem_of_getElem? hu)
       obtain⟨l,rfl⟩:∃ l:Nat,u=l:=⟨u.toNat,by omega⟩
       obtain⟨adU,csU,rfl,_,hKU,hcU⟩:=bX (Kd.R_reads' hRu).2.2 k hkl _ hu
       obtain rfl:csU=[.int .i64 (l:Int)]:=hKU
       have vU:=hcU 0 _ rfl
       rw[show k * (Kd.int .i64).sz+0=k from Nat.mul_one k] at vU
       rw[List.drop_eq_getElem_cons hkl,(List.getElem?_eq_some_iff.1 hu).2,List.foldl_cons] at hfin
       obtain⟨gF,gR,cR,rfl,f0,f1,_⟩:=sP hU.rf (by have:=HShp.out;exact this.len ▸ HShp.out) (by rw[HShp.out.len];exact HLt.out) (show l < 24 by omega)
       obtain⟨b,hb⟩:=nm_ (st2.1.getD a false)
       have cC:=(show wr.cell? ⟨gc,a,none⟩=some (.bool b) by
        rw[ap hU.ct.c,List.getElem?_map,List.getElem?_eq_getElem (show a < st2.1.length by rw[hI.len];omega),hb,List.getD_eq_getElem?_getD,List.getElem?_eq_getElem (show a < st2.1.length by rw[hI.len];omega)]
        rfl)
       have a10:=(show wr.cell? ⟨g10,0,none⟩=some (.int .i64 (a:Int)) by rw[ah h10];rfl)
       have hFl':(n:Int) < (F.length:Int):=by rw[HShp.out.len];exact hlt'
       have hl':(l:Int) < 24:=by omega
       have hfr:=aq hU.ct.c a
       obtain⟨kd,hkd⟩:=nm_ ((du F n l).kind)
       rw[←hkd] at f1
       have hcu:jA F n a st2 (l:Int)=if b=false∧kd=0 then (st2.1.set a true,true) else st2:=by unfold jA;rw[←hb,Int.toNat_natCast,←hkd]
       have hI3:=hI.use F n (a:=a) (by omega) (l:Int)
       have HI3:=ak_ hI3
       have HFi3:=ak_ hfin
       have HCu:=ak_ hcu
       have HU3:=ak_ hU
       have H103:=ak_ h10
       have HRu3:=ak_ hRu
       have HKl:=ak_ hkl
       clear hfin hI hU h10 hRu hu hcU hkl hk hb hkd hcu hI3 HL
       cases b with
       | true=>
        have hc3:=HCu.out
        rw[if_neg (by simp)] at hc3
        rw[hc3] at HFi3 HI3
        clear hc3
        go_wp2
        go_roundw
        case rel=>exact⟨k+1,st2,by go_num,rfl,⟨⟨HKl.out,HFi3.out,HI3.out,HU3.out,H103.out,HRu3.out⟩⟩⟩
        case measure=>have:=HKl.out;simp[intOf];omega
       | false=>
        by_cases hk0:kd=0
        ·have hc3:=HCu.out
         rw[if_pos ⟨rfl,hk0⟩] at hc3
         rw[hc3] at HFi3 HI3
         subst hk0
         clear hc3
         have HU4:=ak_ (HU3.out.set a true)
         have H104:=ak_ (a8 H103.out (p:=⟨gc,a,none⟩) (fun e=>by have h1:=H103.out;rw[show g10=gc from e,HU3.out.ct.c] at h1;simp at h1) (.bool true))
         have HRu4:=ak_ (Kd.R_set HRu3.out HU3.out.ct.c (fun q hq=>by have:q=3:=List.mem_singleton.1 hq;omega) a (.bool true))
         go_wp2
         go_roundw
         case rel=>exact⟨k+1,(st2.1.set a true,true),by go_num,rfl,⟨⟨HKl.out,HFi3.out,HI3.out,HU4.out,H104.out,HRu4.out⟩⟩⟩
         case measure=>have:=HKl.out;simp[intOf];omega
        ·have hc3:=HCu.out
         rw[if_neg (fun q=>hk0 q.2)] at hc3
         rw[hc3] at HFi3 HI3
         have q0:(kd == 0)=false:=beq_eq_false_iff_ne.mpr hk0
         clear hc3 hk0
         go_wp2
         go_roundw
         case rel=>exact⟨k+1,st2,by go_num,rfl,⟨⟨HKl.out,HFi3.out,HI3.out,HU3.out,H103.out,HRu3.out⟩⟩⟩
         case measure=>have:=HKl.out;simp[intOf];omega
      ·obtain rfl:k=us.length:=by omega
       rw[List.drop_of_length_le (Nat.le_refl _)] at hfin
       have hfi:=HFi.out
       rw[hfin] at hfi
       have HFi4:=ak_ hfi
       have HI4:=ak_ hI
       have HU4:=ak_ hU
       clear hfin hfi hI hU h10 hRu hk HL hkl
       go_wp2
       go_roundw
       case rel=>exact⟨n+1,st2,by go_num,rfl,⟨⟨HLt.out,HFi4.out,HI4.out,HU4.out⟩⟩⟩
       case measure=>have:=HLt.out;simp[intOf];omega
    ·obtain rfl:n=S.nodes.length:=by omega
     rw[List.drop_of_length_le (Nat.le_refl _)] at hfin
     have HRd:=ak_ (HC.out.round (by rw[←HS.out];exact HOk.out.at_) (r:=st) hfin.symm)
     have HU2:=ak_ hU
     clear hfin hI hU hn HL hlt
     go_wp2
     go_roundg k0
     case measure=>omega
     case rel=>exact⟨st.2,st.1,rfl,⟨⟨HRd.out,HU2.out.ct⟩⟩⟩
theorem mh (e:Bool) (n:Nat) (v:Int) (W:World):(Instr.checkKey e (n+1) 3 (.int .i64 v)).run Tryz.prog W=.ok () W:=by
 simp[Instr.checkKey,Sem.run_bind,run_underlying Tryz.underlying3,Result.andThen]
theorem Aw (e:Bool) (n:Nat) (v:Int) (W:World):(Instr.checkKey e (n+1) 2 (.int .i64 v)).run Tryz.prog W=.ok () W:=by
 simp[Instr.checkKey,Sem.run_bind,run_underlying Tryz.underlying2,Result.andThen]
theorem sU (e:Bool) (n:Nat) (v:Bool) (W:World):(Instr.checkKey e (n+1) 4 (.bool v)).run Tryz.prog W=.ok () W:=by
 simp[Instr.checkKey,Sem.run_bind,run_underlying Tryz.underlying4,Result.andThen]
theorem yR (e:Bool) (n:Nat) (a b c:Int) (W:World):(Instr.checkKey e (n+2) 234 (.agg #[.int .i64 a,.int .i64 b,.int .i64 c])).run Tryz.prog W=.ok () W:=by
 rw[Instr.checkKey]
 simp[Sem.run_bind,run_underlying Tryz.underlying234,run_underlying Tryz.underlying3,part,isAgg,mh,Result.andThen]
theorem Cj (e:Bool) (n:Nat) (a b:Int) (W:World):(Instr.checkKey e (n+2) 184 (.agg #[.int .i64 a,.int .i64 b])).run Tryz.prog W=.ok () W:=by
 rw[Instr.checkKey]
 simp[Sem.run_bind,run_underlying Tryz.underlying184,run_underlying Tryz.underlying3,run_underlying Tryz.underlying2,part,isAgg,mh,Aw,Result.andThen]
theorem oA (a k n:Int) (t:Bool) (W:World):(part 184 #[.int .i64 a,.int .i64 k,.int .i64 n,.bool t] 1).run Tryz.prog W=.ok (.agg #[.int .i64 k,.int .i64 n]) W:=by go_simp
theorem Av (e:Bool) (n:Nat) (a k m:Int) (t:Bool) (W:World):(Instr.checkKey e (n+3) 236 (.agg #[.int .i64 a,.int .i64 k,.int .i64 m,.bool t])).run Tryz.prog W=.ok () W:=by
 rw[Instr.checkKey]
 simp[Sem.run_bind,run_underlying Tryz.underlying236,run_underlying Tryz.underlying3,run_underlying Tryz.underlying4,mh,sU,Cj,oA,Result.andThen]
 simp[Sem.run_bind,run_underlying Tryz.underlying3,run_underlying Tryz.underlying4,part,isAgg,mh,sU,Result.andThen]
theorem Dx (W:World):(sizeOf 3).run Tryz.prog W=.ok 1 W:=by kernel_rfl
theorem kj (a b:Int) (W:World):(part 3 #[.int .i64 a,.int .i64 b] 0).run Tryz.prog W=.ok (.int .i64 a) W:=by go_simp
theorem mz (a b:Int) (W:World):(part 3 #[.int .i64 a,.int .i64 b] 1).run Tryz.prog W=.ok (.int .i64 b) W:=by go_simp
theorem Ci (e:Bool) (n:Nat) (a b:Int) (W:World):(Instr.checkKey e (n+2) 138 (.agg #[.int .i64 a,.int .i64 b])).run Tryz.prog W=.ok () W:=by
 rw[Instr.checkKey]
 simp[Sem.run_bind,run_underlying Tryz.underlying138,Dx,mh,kj,mz,Result.andThen,List.range']
theorem se (a b c:Int) (W:World):(part 3 #[.int .i64 a,.int .i64 b,.int .i64 c] 0).run Tryz.prog W=.ok (.int .i64 a) W:=by go_simp
theorem sd (a b c:Int) (W:World):(part 3 #[.int .i64 a,.int .i64 b,.int .i64 c] 1).run Tryz.prog W=.ok (.int .i64 b) W:=by go_simp
theorem sc (a b c:Int) (W:World):(part 3 #[.int .i64 a,.int .i64 b,.int .i64 c] 2).run Tryz.prog W=.ok (.int .i64 c) W:=by go_simp
theorem ua (d:Nat) (a b:Int) (W:World):(Op.equalIn (d+1) 3 (.int .i64 a) (.int .i64 b)).run Tryz.prog W=.ok (a == b) W:=by
 simp[Op.equalIn,Sem.run_bind,run_underlying Tryz.underlying3,Result.andThen]
theorem D_ (d:Nat) (a b:Int) (W:World):(Op.equalIn (d+1) 2 (.int .i64 a) (.int .i64 b)).run Tryz.prog W=.ok (a == b) W:=by
 simp[Op.equalIn,Sem.run_bind,run_underlying Tryz.underlying2,Result.andThen]
theorem D9 (d:Nat) (a b:Bool) (W:World):(Op.equalIn (d+1) 4 (.bool a) (.bool b)).run Tryz.prog W=.ok (a == b) W:=by
 simp[Op.equalIn,Sem.run_bind,run_underlying Tryz.underlying4,Result.andThen]
theorem Aj (d:Nat) (a b c a' b' c':Int) (W:World):(Op.equalIn (d+2) 234 (.agg #[.int .i64 a,.int .i64 b,.int .i64 c]) (.agg #[.int .i64 a',.int .i64 b',.int .i64 c'])).run Tryz.prog W=.ok (a == a' && (b == b' && (c == c'))) W:=by
 refine jx Tryz.underlying234 (by kernel_rfl) ?_
 refine dA (by rfl) (se _ _ _ _) (se _ _ _ _) (ua _ _ _ _) ?_
 refine dA (by rfl) (sd _ _ _ _) (sd _ _ _ _) (ua _ _ _ _) ?_
 exact fA (by rfl) (sc _ _ _ _) (sc _ _ _ _) (ua _ _ _ _)
theorem sf (a b:Int) (W:World):(part 2 #[.int .i64 a,.int .i64 b] 1).run Tryz.prog W=.ok (.int .i64 b) W:=by go_simp
theorem De (d:Nat) (a b a' b':Int) (W:World):(Op.equalIn (d+2) 184 (.agg #[.int .i64 a,.int .i64 b]) (.agg #[.int .i64 a',.int .i64 b'])).run Tryz.prog W=.ok (a == a' && (b == b')) W:=by
 refine jx Tryz.underlying184 (by kernel_rfl) ?_
 refine dA (by rfl) (kj _ _ _) (kj _ _ _) (ua _ _ _ _) ?_
 exact fA (by rfl) (sf _ _ _) (sf _ _ _) (D_ _ _ _ _)
theorem si (a k n:Int) (t:Bool) (W:World):(part 3 #[.int .i64 a,.int .i64 k,.int .i64 n,.bool t] 0).run Tryz.prog W=.ok (.int .i64 a) W:=by go_simp
theorem sg (a k n:Int) (t:Bool) (W:World):(part 4 #[.int .i64 a,.int .i64 k,.int .i64 n,.bool t] 3).run Tryz.prog W=.ok (.bool t) W:=by go_simp
theorem B9 (d:Nat) (a k n:Int) (t:Bool) (a' k' n':Int) (t':Bool) (W:World):(Op.equalIn (d+3) 236 (.agg #[.int .i64 a,.int .i64 k,.int .i64 n,.bool t]) (.agg #[.int .i64 a',.int .i64 k',.int .i64 n',.bool t'])).run Tryz.prog W=.ok (a == a' && ((k == k' && (n == n')) && (t == t'))) W:=by
 refine jx Tryz.underlying236 (by kernel_rfl) ?_
 refine dA (by rfl) (si _ _ _ _ _) (si _ _ _ _ _) (ua _ _ _ _) ?_
 refine dA (by rfl) (oA _ _ _ _ _) (oA _ _ _ _ _) (De _ _ _ _ _ _) ?_
 exact fA (by rfl) (sg _ _ _ _ _) (sg _ _ _ _ _) (D9 _ _ _ _)
theorem Dd (d:Nat) (a b a' b':Int) (W:World):(Op.equalIn (d+2) 138 (.agg #[.int .i64 a,.int .i64 b]) (.agg #[.int .i64 a',.int .i64 b'])).run Tryz.prog W=.ok (a == a' && (b == b')) W:=by
 obtain⟨i3,h3,_⟩:=lR 3 (by kernel_rfl)
 rw[run_equalIn_array W (d+1) _ _ Tryz.underlying138 h3]
 have hc:Tryz.prog.cellsOf 3=1:=by kernel_rfl
 rw[hc]
 simp only[show List.range 2=[0,1] from rfl,Op.eqItems,Sem.run_bind,Nat.zero_mul,Nat.one_mul,Nat.mul_one,kj,mz,ua,Result.andThen_ok,Sem.run_pure]
 cases ha:a == a' <;> cases hb:b == b' <;> simp[Op.eqItems,Sem.run_bind,mz,ua,hb,Result.andThen]
structure Lk where
 b:Int
 k:Int
 n:Int
 t:Bool
deriving DecidableEq
def eS (x:Int × Int × Int):Value:=.agg #[.int .i64 x.1,.int .i64 x.2.1,.int .i64 x.2.2]
def eL (x:Lk):Value:=.agg #[.int .i64 x.b,.int .i64 x.k,.int .i64 x.n,.bool x.t]
def eP (x:Int × Int):Value:=.agg #[.int .i64 x.1,.int .i64 x.2]
theorem CZ:iq Tryz.prog 234 eS:=iq.of_ask Tryz.underlying234 (fun e W x=>yR e 9998 _ _ _ W) (fun _ _=>rfl) (fun W x y=>by
 have h:=Aj 9998 x.1 x.2.1 x.2.2 y.1 y.2.1 y.2.2 W
 have e:(x.1 == y.1 && (x.2.1 == y.2.1 && (x.2.2 == y.2.2)))=decide (x=y):=by
  obtain⟨a,b,c⟩:=x
  obtain⟨a',b',c'⟩:=y
  rw[Bool.eq_iff_iff]
  simp
 rw[e] at h
 exact h) (fun x=>by simp[eS,Instr.sameBits])
theorem C5:iq Tryz.prog 236 eL:=iq.of_ask Tryz.underlying236 (fun e W x=>Av e 9997 _ _ _ _ W) (fun _ _=>rfl) (fun W x y=>by
 have h:=B9 9997 x.b x.k x.n x.t y.b y.k y.n y.t W
 have e:(x.b == y.b && ((x.k == y.k && (x.n == y.n)) && (x.t == y.t)))=decide (x=y):=by
  obtain⟨a,b,c,d⟩:=x
  obtain⟨a',b',c',d'⟩:=y
  rw[Bool.eq_iff_iff]
  simp[and_assoc]
 rw[e] at h
 exact h) (fun x=>by simp[eL,Instr.sameBits])
theorem C1:iq Tryz.prog 138 eP:=iq.of_ask Tryz.underlying138 (fun e W x=>Ci e 9998 _ _ W) (fun _ _=>rfl) (fun W x y=>by
 have h:=Dd 9998 x.1 x.2 y.1 y.2 W
 have e:(x.1 == y.1 && (x.2 == y.2))=decide (x=y):=by
  obtain⟨a,b⟩:=x
  obtain⟨a',b'⟩:=y
  rw[Bool.eq_iff_iff]
  simp
 rw[e] at h
 exact h) (fun x=>by simp[eP,Instr.sameBits])
end Go.Proofs.YtlinbehijfcelaaGreatDoor.Top
