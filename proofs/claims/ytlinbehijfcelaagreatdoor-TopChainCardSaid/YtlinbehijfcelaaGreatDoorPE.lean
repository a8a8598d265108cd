/- Walks of the program, and what it computes, told plainly. No condition. (TU TV TW TX TY TZ UA UB) -/
import Derived.Test.YtlinbehijfcelaaGreatDoorPD
set_option linter.unusedVariables false
set_option linter.unusedSimpArgs false
set_option linter.unusedSectionVars false
set_option maxHeartbeats 8000000
set_option maxRecDepth 100000
namespace Go.Proofs.YtlinbehijfcelaaGreatDoor.Top
open Go.RowKit Go.Proofs.YtlinbehijfcelaaGreatDoorW.PrintWords Go.Proofs.YtlinbehijfcelaaGreatDoorW.PrintLast
section
open Go.ChangeMaps (setBlock)
section
variable {P:Program} {α:Type} [DecidableEq α]
def bO (x:α):List (α × Value)→Nat→Option (Nat × Value)
 | [],_=>none
 | p :: L,i=>if x=p.1 then some (i,p.2) else bO x L (i+1)
theorem lh {x:α}:∀ {L:List (α × Value)} {i:Nat},(∀ p∈L,p.1≠x)→bO x L i=none
 | [],_,_=>rfl
 | p :: L,i,h=>by
  unfold bO
  rw[if_neg (fun e=>h p (List.mem_cons_self ..) e.symm)]
  exact lh (fun q hq=>h q (List.mem_cons_of_mem _ hq))
theorem ld {x:α}:∀ {L:List (α × Value)} {i j:Nat} {v:Value},L[j]?=some (x,v)→(∀ k,k < j→∀ p,L[k]?=some p→p.1≠x)→bO x L i=some (i+j,v)
 | [],_,_,_,h,_=>by simp at h
 | p :: L,i,0,v,h,_=>by
  have:p=(x,v):=by simpa using h
  subst this
  unfold bO
  rw[if_pos rfl]
  rfl
 | p :: L,i,j+1,v,h,hk=>by
  unfold bO
  rw[if_neg (fun e=>hk 0 (by omega) p rfl e.symm),ld (by simpa using h) (fun k hlt q hq=>hk (k+1) (by omega) q (by simpa using hq)),show i+1+j=i+(j+1) by omega]
structure iq (P:Program) (kt:TypeId) (enc:α→Value):Prop where
 check:∀ (e:Bool) (W:World) (x:α),(Instr.checkKey e 10000 kt (enc x)).run P W=.ok () W
 find:∀ (W:World) (x:α) (es:List MapEntry) (L:List (α × Value)),es.map (fun e=>(e.key,e.val))=L.map (fun p=>(enc p.1,p.2))→(Instr.findKey kt (enc x) es).run P W=.ok (bO x L 0) W
 same:∀ x,Instr.sameBits 10000 (enc x) (enc x)=true
theorem lX {d:TypeDesc} {enc:α→Value} (hn:∀ x y,Instr.sameNow d (enc x) (enc y)=some (decide (x=y))) (x:α):∀ (es:List MapEntry) (L:List (α × Value)) (i:Nat),es.map (fun e=>(e.key,e.val))=L.map (fun p=>(enc p.1,p.2))→Instr.findNow d (enc x) es i=some (bO x L i)
 | [],[],_,_=>rfl
 | [],_ :: _,_,h=>by simp at h
 | _ :: _,[],_,h=>by simp at h
 | e :: es,p :: L,i,h=>by
  simp only[List.map_cons,List.cons.injEq,Prod.mk.injEq] at h
  obtain⟨⟨h1,h2⟩,h3⟩:=h
  unfold Instr.findNow bO
  rw[h1,hn,h2]
  by_cases hx:x=p.1
  ·rw[decide_eq_true hx,if_pos hx]
  ·rw[decide_eq_false hx,if_neg hx]
   exact lX hn x es L (i+1) h3
theorem lZ {kt:TypeId} {enc:α→Value} (W:World) (he:∀ x y,(Op.equal kt (enc x) (enc y)).run P W=.ok (decide (x=y)) W) (x:α):∀ (es:List MapEntry) (L:List (α × Value)) (i:Nat),es.map (fun e=>(e.key,e.val))=L.map (fun p=>(enc p.1,p.2))→(Instr.findAsking kt (enc x) es i).run P W=.ok (bO x L i) W
 | [],[],_,_=>rfl
 | [],_ :: _,_,h=>by simp at h
 | _ :: _,[],_,h=>by simp at h
 | e :: es,p :: L,i,h=>by
  simp only[List.map_cons,List.cons.injEq,Prod.mk.injEq] at h
  obtain⟨⟨h1,h2⟩,h3⟩:=h
  unfold Instr.findAsking bO
  rw[h1,h2]
  by_cases hx:x=p.1
  ·simp[Sem.run_bind,he,Result.andThen,hx]
  ·simp only[Sem.run_bind,he,Result.andThen,decide_eq_false hx,if_neg hx]
   exact lZ W he x es L (i+1) h3
theorem iq.of_now {kt:TypeId} {d:TypeDesc} {enc:α→Value} (hd:P.underlying kt=some d) (hk:∀ x,MapKept.IsKey d (enc x)) (hn:∀ x y,Instr.sameNow d (enc x) (enc y)=some (decide (x=y))):iq P kt enc:=
 ⟨fun e W x=>MapKept.run_checkKey hd (hk x) e 9999,fun W x es L h=>MapKept.run_findKey hd (lX hn x es L 0 h),fun x=>MapKept.sameBits_self (hk x) _⟩
theorem iq.of_ask {kt:TypeId} {d:TypeDesc} {enc:α→Value} (hd:P.underlying kt=some d) (hc:∀ (e:Bool) (W:World) (x:α),(Instr.checkKey e 10000 kt (enc x)).run P W=.ok () W) (hn:∀ x y,Instr.sameNow d (enc x) (enc y)=none) (he:∀ W x y,(Op.equal kt (enc x) (enc y)).run P W=.ok (decide (x=y)) W) (hs:∀ x,Instr.sameBits 10000 (enc x) (enc x)=true):iq P kt enc:=by
 refine⟨hc,fun W x es L h=>?_,hs⟩
 unfold Instr.findKey
 simp only[Sem.run_bind,run_underlying hd,Result.andThen]
 match es,L,h with
 | [],[],_=>rfl
 | [],_ :: _,h=>simp at h
 | _ :: _,[],h=>simp at h
 | e :: es,p :: L,h=>
  have h1:e.key=enc p.1:=by simp only[List.map_cons,List.cons.injEq,Prod.mk.injEq] at h;exact h.1.1
  have h2:Instr.findNow d (enc x) (e :: es) 0=none:=by
   unfold Instr.findNow
   rw[h1,hn]
  rw[h2]
  exact lZ W (he W) x _ _ 0 h
def bI (enc:α→Value) (W:World) (b:Nat) (L:List (α × Value)):Prop:=∃ es c,W.heap[b]?=some (.map es c)∧es.toList.map (fun e=>(e.key,e.val))=L.map (fun p=>(enc p.1,p.2))
theorem bI.lt {enc:α→Value} {W:World} {b:Nat} {L:List (α × Value)} (h:bI enc W b L):b < W.heap.size:=by
 obtain⟨es,c,h1,_⟩:=h
 exact(Array.getElem?_eq_some_iff.1 h1).1
theorem bI.moved {enc:α→Value} {W W':World} {b:Nat} {L:List (α × Value)} (h:bI enc W b L) (he:W'.heap[b]?=W.heap[b]?):bI enc W' b L:=by
 obtain⟨es,c,h1,h2⟩:=h
 exact⟨es,c,he.trans h1,h2⟩
theorem bI.fr {enc:α→Value} {W W':World} {b:Nat} {L:List (α × Value)} (h:bI enc W b L) {S:Nat→Prop} (hf:Fr S W W') (hs:¬ S b):bI enc W' b L:=h.moved (hf.block b h.lt hs)
theorem bI.new (enc:α→Value) (W:World) (c:Nat):bI enc (W.alloc (.map #[] c)) W.heap.size []:=⟨#[],c,(MapKept.heap_alloc W _).1,rfl⟩
def jM (z:Value):Option (Nat × Value)→Value
 | some (_,v)=>.tuple #[v,.bool true]
 | none=>.tuple #[z,.bool false]
def oV (z:Value):Option (Nat × Value)→Value
 | some (_,v)=>v
 | none=>z
theorem rS {t kt et:TypeId} {enc:α→Value} (K:iq P kt enc) (hu:P.underlying t=some (.map kt et)) {W:World} {b:Nat} {L:List (α × Value)} (h:bI enc W b L) (z:Value) (hz:(zeroValue et).run P W=.ok z W) (x:α) :
  (Instr.lookup t (.map (some b)) (enc x) true).run P W=.ok (jM z (bO x L 0)) W:=by
 obtain⟨es,c,h1,h2⟩:=h
 have h3:=K.check es.isEmpty W x
 have h4:=K.find W x es.toList L h2
 cases hf:bO x L 0 with
 | none=>rw[hf] at h4;simp[oV,jM,Instr.lookup,run_underlying hu,MapKept.run_getObj_map h1,h3,h4,hz,Result.andThen]
 | some q=>obtain⟨i,v⟩:=q;rw[hf] at h4;simp[oV,jM,Instr.lookup,run_underlying hu,MapKept.run_getObj_map h1,h3,h4,Result.andThen]
theorem rT {t kt et:TypeId} {enc:α→Value} (K:iq P kt enc) (hu:P.underlying t=some (.map kt et)) {W:World} {b:Nat} {L:List (α × Value)} (h:bI enc W b L) (z:Value) (hz:(zeroValue et).run P W=.ok z W) (x:α) :
  (Instr.lookup t (.map (some b)) (enc x) false).run P W=.ok (oV z (bO x L 0)) W:=by
 obtain⟨es,c,h1,h2⟩:=h
 have h3:=K.check es.isEmpty W x
 have h4:=K.find W x es.toList L h2
 cases hf:bO x L 0 with
 | none=>rw[hf] at h4;simp[oV,jM,Instr.lookup,run_underlying hu,MapKept.run_getObj_map h1,h3,h4,hz,Result.andThen]
 | some q=>obtain⟨i,v⟩:=q;rw[hf] at h4;simp[oV,jM,Instr.lookup,run_underlying hu,MapKept.run_getObj_map h1,h3,h4,Result.andThen]
theorem rR {t kt et:TypeId} {enc:α→Value} (K:iq P kt enc) (hu:P.underlying t=some (.map kt et)) {W:World} {b:Nat} {L:List (α × Value)} (h:bI enc W b L) (x:α) (v:Value) (hf:bO x L 0=none) :
  ∃ W',(Instr.mapUpdate t (.map (some b)) (enc x) v).run P W=.ok () W'∧bI enc W' b (L++[(x,v)])∧Fr (fun k=>k=b) W W':=by
 obtain⟨es,c,h1,h2⟩:=h
 have h3:=K.check false W x
 have h4:=K.find W x es.toList L h2
 rw[hf] at h4
 refine⟨setBlock W b (.map (es.push { key:=enc x,val:=v,born:=c }) (c+1)),?_,⟨_,_,(MapKept.heap_set h1).1,?_⟩,⟨rfl,rfl,rfl,?_,fun k hk hn=>(MapKept.heap_set h1).2 k hn⟩⟩
 ·simp[Instr.mapUpdate,run_underlying hu,MapKept.run_getObj_map h1,h3,h4,MapKept.run_setObj_map _ h1,Result.andThen,setBlock]
 ·rw[Array.toList_push,List.map_append,h2,List.map_append]
  rfl
 ·show W.heap.size≤(W.heap.setIfInBounds b _).size
  simp
end
end
section
theorem dk {P:Program} {ops:Array Oper} {rest:List Oper} {o:Oper} {a:Act} {W W':World} {Q:Exit→Act→World→Prop} (hgd:o.guard=none) (v:Value) (hrun:(execOp a.eval o).run P W=.ok (.value v) W') (h:wpList P ops Q rest (a.put o.dst v) W'):wpList P ops Q (o :: rest) a W:=
 Kd.event_run hgd hrun h
theorem mW {P:Program} {ops:Array Oper} {rest:List Oper} {o:Oper} {a:Act} {W W':World} {Q:Exit→Act→World→Prop} (hgd:o.guard=none) (hrun:(execOp a.eval o).run P W=.ok .skip W') (h:wpList P ops Q rest (a.put o.dst undef) W'):wpList P ops Q (o :: rest) a W:=by
 refine wpList_plain hgd fun K hK=>?_
 unfold Oper.wp
 rw[hrun]
 exact hK _ _ h
section
variable {P:Program} {ops:Array Oper} {o:Oper} {rest:List Oper} {a:Act} {W:World} {Q:Exit→Act→World→Prop}
theorem an (hgd:o.guard=none) (ty:TypeId) (x y:Operand) (ho:o.op=.store ty x y)
  (g:Nat) (cells:Array Value) (hx:a.eval x=.pointer (some ⟨g,0,none⟩)) (hy:a.eval y=.agg cells)
  (t:TypeId) (old:Array Value) (hg:W.heap[g]?=some (.cells old t (0,0))) (hi:(P.info? ty).map (·.size)=some cells.size)
  (hold:old.size=cells.size) (h1:cells.all (·.oneCell')=true)
  (h:∀ W',W'.heap[g]?=some (.cells cells t (0,0))→Fr (fun k=>k=g) W W'→wpList P ops Q rest (a.put o.dst undef) W'):wpList P ops Q (o :: rest) a W:=
 wpList_store_row hgd ty x y ho g cells hx hy t old hg hi hold h1 (h _ (setRow_heap W g old cells t _ hg) (Fr.row (S:=fun k=>k=g) rfl _))
theorem iW {t:TypeId} {x y z:Operand} (_ho:o.op=.mapUpdate t x y z) (h:wpList P ops Q (o :: rest) a W):wpList P ops Q (o :: rest) a W:=h
theorem cJ {α:Type} [DecidableEq α] {t kt et:TypeId} {enc:α→Value} (K:iq P kt enc) (hgd:o.guard=none) (x y:Operand) (ho:o.op=.lookup t x y true) (hu:P.underlying t=some (.map kt et)) {b:Nat} {L:List (α × Value)} (hm:bI enc W b L) (z:Value) (hz:(zeroValue et).run P W=.ok z W) (k:α)
  (hx:a.eval x=.map (some b)) (hy:a.eval y=enc k) (v:Value) (hv:jM z (bO k L 0)=v) (h:wpList P ops Q rest (a.put o.dst v) W):wpList P ops Q (o :: rest) a W:=by
 subst hv
 refine dk hgd _ ?_ h
 unfold execOp
 simp only[ho,hx,hy,Sem.run_bind,rS K hu hm z hz k,Result.andThen_ok,Sem.run_pure]
theorem lq {α:Type} [DecidableEq α] {t kt et:TypeId} {enc:α→Value} (K:iq P kt enc) (hgd:o.guard=none) (x y:Operand) (ho:o.op=.lookup t x y false) (hu:P.underlying t=some (.map kt et)) {b:Nat} {L:List (α × Value)} (hm:bI enc W b L) (z:Value) (hz:(zeroValue et).run P W=.ok z W) (k:α)
  (hx:a.eval x=.map (some b)) (hy:a.eval y=enc k) (v:Value) (hv:oV z (bO k L 0)=v) (h:wpList P ops Q rest (a.put o.dst v) W):wpList P ops Q (o :: rest) a W:=by
 subst hv
 refine dk hgd _ ?_ h
 unfold execOp
 simp only[ho,hx,hy,Sem.run_bind,rT K hu hm z hz k,Result.andThen_ok,Sem.run_pure]
theorem dF {α:Type} [DecidableEq α] {t kt et:TypeId} {enc:α→Value} (K:iq P kt enc) (hgd:o.guard=none) (x y u:Operand) (ho:o.op=.mapUpdate t x y u) (hu:P.underlying t=some (.map kt et)) {b:Nat} {L:List (α × Value)} (hm:bI enc W b L) (k:α) (v:Value)
  (hx:a.eval x=.map (some b)) (hy:a.eval y=enc k) (hv:a.eval u=v) (hf:bO k L 0=none) (h:∀ W',bI enc W' b (L++[(k,v)])→Fr (fun k=>k=b) W W'→wpList P ops Q rest (a.put o.dst undef) W'):wpList P ops Q (o :: rest) a W:=by
 obtain⟨W',h1,h2,h3⟩:=rR K hu hm k v hf
 refine mW hgd ?_ (h W' h2 h3)
 unfold execOp
 simp only[ho,hx,hy,hv,Sem.run_bind,h1,Result.andThen_ok,Sem.run_pure]
end
theorem mK:iq Tryz.prog 3 (Value.int .i64):=iq.of_now (d:=.int .i64) (by kernel_rfl) (fun _=>rfl) (fun x y=>by show some (x == y)=some (decide (x=y));congr 1)
structure aU where
 jt:Int
 t:List Sr
structure aH where
 at_:Int
 outs:List aU
def pM (T:List Sr):List Value:=(List.range 24).map fun i=>(T.getD i .no).v
theorem rJ {T:List Sr} (h:T.length=24):pM T=T.map Sr.v:=by
 apply List.ext_getElem?
 intro i
 simp only[pM,List.getElem?_map,List.getElem?_range]
 by_cases hi:i < 24
 ·simp[hi,List.getD_eq_getElem?_getD,List.getElem?_eq_getElem (show i < T.length by omega)]
 ·simp[List.getElem?_eq_none (show T.length≤i by omega),List.getElem?_eq_none (show (List.range 24).length≤i by simp;omega)]
def aU.cells (o:aU):List Value:=.int .i64 o.jt :: pM o.t
theorem aU.len (o:aU):o.cells.length=25:=by simp[aU.cells,pM]
theorem aU.one (o:aU):∀ u∈o.cells,u.oneCell'=true:=by
 intro u hu
 simp only[aU.cells,pM,List.mem_cons,List.mem_map] at hu
 rcases hu with rfl | ⟨s,_,rfl⟩
 ·rfl
 ·exact Sr.one _
def pF:Kd aU:=Kd.flat 25 aU.cells aU.len aU.one
def dl:Kd aH:=Kd.iso (Kd.pair (Kd.int .i64) (Kd.slice 116 pF)) (fun n=>(n.at_,n.outs))
theorem pl (n:Int) (T:List Sr) (h:T.length=24):Tryz.prog.built 116 [(0,.int .i64 n),(1,.agg (av T))]=some (aU.cells ⟨n,T⟩).toArray:=by
 have h1:Tryz.prog.built 116 [(0,.int .i64 n),(1,.agg (av T))]=Instr.fill (#[(0,1),(1,24)][·]?) (.int .i64 n :: bo.map Sr.v).toArray [(1,.agg (T.map Sr.v).toArray)]:=by rfl
 rw[h1,im _ _ 1 1 24 (T.map Sr.v) [] rfl (by simp[h]) (by simp[bo])]
 simp[Instr.fill,aU.cells,h,bo,rJ h]
theorem fZ:(Tryz.prog.info? 116).map (·.size)=some 25:=by kernel_rfl
theorem dq (o:aU):(Tryz.prog.info? 116).map (·.size)=some o.cells.toArray.size:=by rw[List.size_toArray,o.len];exact fZ
theorem gJ (o:aU):o.cells.toArray.all (·.oneCell')=true:=by
 rw[Array.all_eq_true_iff_forall_mem]
 intro v hv
 exact o.one v (by simpa using hv)
def jj (at_:Int) (nodes:List aH):Option Nat:=nodes.findIdx? (fun n=>decide (n.at_=at_))
def mE (nodes:List aH):List (Int × Value):=nodes.zipIdx.map fun p=>(p.1.at_,.int .i64 (p.2:Int))
theorem zM (nodes:List aH) (x:aH):mE (nodes++[x])=mE nodes++[(x.at_,.int .i64 (nodes.length:Int))]:=by
 simp[mE,List.zipIdx_append]
theorem nC {nodes:List aH} {i:Nat}:(mE nodes)[i]?=(nodes[i]?).map fun x=>(x.at_,Value.int .i64 (i:Int)):=by
 simp only[mE,List.getElem?_map,List.getElem?_zipIdx,Option.map_map,Nat.zero_add]
 rfl
theorem qo (at_:Int) (nodes:List aH):bO at_ (mE nodes) 0=(jj at_ nodes).map fun i:Nat=>(i,Value.int .i64 (i:Int)):=by
 cases h:jj at_ nodes with
 | none=>
  refine lh fun p hp=>?_
  unfold jj at h
  rw[List.findIdx?_eq_none_iff] at h
  obtain⟨q,hq,rfl⟩:=List.mem_map.1 hp
  have:=h q.1 (List.fst_mem_of_mem_zipIdx hq)
  simpa using this
 | some i=>
  unfold jj at h
  rw[List.findIdx?_eq_some_iff_getElem] at h
  obtain⟨hi,h1,h2⟩:=h
  have h3:(mE nodes)[i]?=some (at_,.int .i64 (i:Int)):=by
   rw[nC,List.getElem?_eq_getElem hi]
   simp at h1
   simp[h1]
  rw[ld h3 (fun k hk p hp=>?_)]
  ·simp
  ·rw[nC,List.getElem?_eq_getElem (by omega)] at hp
   have:=h2 k hk
   simp at hp this
   rw[←hp]
   exact this
def da (f:List In) (nodes:List aH) (a:Nat):aU × List aH:=
 let p:=b_ f a
 if p.jt < 0 then (⟨-1,p.t⟩,nodes) else match jj p.jt nodes with
  | some n=>(⟨n,p.t⟩,nodes)
  | none=>(⟨nodes.length,p.t⟩,nodes++[⟨p.jt,[]⟩])
end
section
theorem gx.all {f:List In} (hr:dy f) {a:Nat}:∀ (n:Nat) (s:PSt),gx f a s→gx f a (il n f s)
 | 0,_,h=>h
 | n+1,s,h=>by
  unfold il
  cases hf:fol f s with
  | none=>exact h
  | some s'=>exact gx.all hr n s' (h.step hr hf)
theorem jY {f:List In} (hr:dy f) {a:Nat} (ha:a < f.length):(b_ f a).t.length=24∧((b_ f a).jt=-1∨(0≤(b_ f a).jt∧(b_ f a).jt < f.length)):=by
 have h:gx f a (ki f a):=gx.all hr 201 _ (gx.init ha)
 unfold b_
 simp only
 split
 ·exact⟨rfl,.inl rfl⟩
 ·have:=h.at_
  exact⟨h.t,.inr ⟨by simp only;omega,by simp only;omega⟩⟩
structure mj (gs gn gb base:Nat) (ok:Nat→Prop) (ec:List Value) (W:World) (vN:Value) (nodes:List aH):Prop where
 es:ec.length=25
 cs:W.heap[gs]?=some (.cells (ec++[vN]).toArray 119 (0,0))
 cn:W.heap[gn]?=some (.cells #[.map (some gb)] 132 (0,0))
 cm:bI (Value.int .i64) W gb (mE nodes)
 row:Kd.R dl 142 W base ok vN nodes
def SkS (gs gb:Nat) (vN:Value) (k:Nat):Prop:=k=gs∨k=gb∨some k=vN.ownBlock
section
variable {gs gn gb base:Nat} {ok:Nat→Prop} {ec:List Value} {W W':World} {vN:Value} {nodes:List aH}
theorem mj.below (h:mj gs gn gb base ok ec W vN nodes) (hb:Below W.heap.size W W'):mj gs gn gb base ok ec W' vN nodes:=
 ⟨h.es,ag h.cs hb,ag h.cn hb,h.cm.moved (hb.block _ h.cm.lt),Kd.R_below h.row hb⟩
theorem mj.cell (h:mj gs gn gb base ok ec W vN nodes):W.cell? ⟨gs,25,none⟩=some vN:=by
 rw[ap h.cs,List.getElem?_append_right (by rw[h.es];exact Nat.le_refl _),h.es]
 rfl
theorem mj.num (h:mj gs gn gb base ok ec W vN nodes):W.cell? ⟨gn,0,none⟩=some (.map (some gb)):=by
 rw[ah h.cn]
 rfl
theorem mj.ne (h:mj gs gn gb base ok ec W vN nodes):gs≠gb∧gn≠gb∧gs≠gn:=by
 obtain⟨es,c,h1,_⟩:=h.cm
 refine⟨fun e=>?_,fun e=>?_,fun e=>?_⟩
 ·have:=h.cs;rw[e,h1] at this;exact absurd this (by simp)
 ·have:=h.cn;rw[e,h1] at this;exact absurd this (by simp)
 ·have:=h.cs;rw[e,h.cn] at this;injection this with this;injection this with _ this;exact absurd this (by decide)
end
theorem jW {W:World} {g:Nat} {p:Pth} (h:W.heap[g]?=some (.cells p.cells.toArray 101 (0,0))) (hl:p.t.length=24):(loadVar 99 ⟨g,1,none⟩).run Tryz.prog W=.ok (.agg (av p.t)) W:=
 bU h 99 1 (p.t.map Sr.v) (by rw[List.length_map,hl];show ((p.t.map Sr.v++[.int .i64 p.steps]):List Value).take 24=_;rw[List.take_append_of_le_length (by simp[hl]),List.take_of_length_le (by simp[hl])]) _ Tryz.underlying99 rfl (tT hl)
theorem BX:(Tryz.prog.info? 142).map (fun i=>(i.zero,i.size,i.bytes))=some (some (.agg #[.int .i64 0,.slice none 0 0]),2,32):=by kernel_rfl
theorem zq (f:List In) (a:Nat) (gf gs gn gb base:Nat) (ok:Nat→Prop) (ec:List Value) (vN:Value) (nodes:List aH) (A:Option Addr) (c:Nat) (w:World) (hG:Gl w) (hf:w.heap[gf]?=some (.cells #[.slice A f.length c] 22 (0,0))) (hC:Kd.C kIn w A f.length f) (hc:f.length≤c)
  (hr:bi f=true) (ha:a < f.length) (hS:mj gs gn gb base ok ec w vN nodes) (hN:nodes.length≤200) (hok:∀ k,ok k→k≠gs∧k≠gn∧k≠gb) (hfresh:∀ k,w.heap.size≤k→ok k) (hbase:base≤w.heap.size) :
  Calls Tryz.prog 78 #[.int .i64 (a:Int),.pointer (some ⟨gf,0,none⟩),.pointer (some ⟨gn,0,none⟩),.pointer (some ⟨gs,0,none⟩)] w fun e w'=>e=.returned (.agg (da f nodes a).1.cells.toArray)∧∃ vN',mj gs gn gb base ok ec w' vN' (da f nodes a).2∧Fr (SkS gs gb vN) w w':=by
 obtain⟨p,hp⟩:=nm_ (b_ f a)
 obtain⟨hp24,hpj⟩:=jY (bN hr) ha
 have HF:=ak_ (fun w hG hC=>jX f a A c w hG hC hc hr ha)
 rw[←hp] at hp24 hpj HF
 obtain⟨r1,r2,hw⟩:∃ r1 r2,da f nodes a=(r1,r2):=⟨_,_,rfl⟩
 rw[hw]
 unfold da at hw
 simp only[←hp] at hw
 have c0:=(show w.cell? ⟨gf,0,none⟩=some (.slice A f.length c) by rw[ah hf];rfl)
 have l0:=ai hf
 have HP24:=ak_ hp24
 have HC:=ak_ hC
 have HG:=ak_ hG
 have HS:=ak_ hS
 have HOk:=ak_ hok
 have HFr:=ak_ hfresh
 have HW:=ak_ hw
 have HPj:=ak_ hpj
 clear hC hG hS hok hfresh hp24 hf hp hr ha hc hw hpj
 by_cases hneg:p.jt < 0
 ·have hj:p.jt=-1:=by rcases HPj.out with h | h <;> omega
  have hw:=HW.out
  rw[if_pos hneg] at hw
  obtain⟨rfl,rfl⟩:=Prod.mk.injEq .. ▸ hw
  clear hw hneg
  have hneg:(p.jt < 0):=by omega
  go_enter Tryz.func78,Tryz.ntmps78
  go_wp2_with (first
   | (go_at_call 39;have hbA:=(ae (Below.refl w.heap.size w) (.cells (aU.cells ⟨0,bo⟩).toArray 116));refine(HF.out _ (HG.out.below hbA) (Kd.C_below HC.out hbA)).mono ?_;rintro e w1 ⟨rfl,hb⟩;have B1:=ak_ (af hbA hb);have T0:=ak_ ((hb.block _ (show w.heap.size < _ by simp)).trans (heap_alloc_last w _));clear hbA hb)
   | ((with_reducible refine ao (t:=101) (p:=6) rfl ?_);refine an rfl 101 _ _ rfl w1.heap.size p.cells.toArray rfl rfl 101 (Pth.cells ⟨0,bo,0⟩).toArray (heap_alloc_last w1 _) (db HP24.out) (by simp[iB,HP24.out,bo]) (fY _) ?_;intro w2 h2 hf2;have Z:=ai T0.out;have Z2:=B1.out.size;have hb2:=(Fr.below (B:=w.heap.size) (ae B1.out _) hf2 (fun k hk h=>by omega) (by simp;omega));have P1:=ak_ h2;have p0:=(show w2.cell? ⟨w1.heap.size,0,none⟩=some (.int .i64 p.jt) by rw[ap h2];rfl);have B2:=ak_ hb2;have T1:=ak_ ((hf2.block w.heap.size (by simp;omega) (by omega)).trans (aK T0.out _));have S2:=ak_ (HS.out.below B2.out);have n0:=S2.out.num;have s25:=S2.out.cell;clear Z Z2 hb2 h2 hf2)
   | ((with_reducible refine aj (N:=20) rfl ?_);refine au rfl 99 _ rfl ⟨w1.heap.size,1,none⟩ rfl _ (jW P1.out HP24.out) ?_)
   | ((with_reducible refine aj (N:=21) rfl ?_);refine aM rfl 116 _ rfl [(0,.int .i64 (-1)),(1,.agg (av p.t))] _ rfl (pl (-1) p.t HP24.out) ?_)
   | ((with_reducible refine ao (t:=116) (p:=5) rfl ?_);refine wpList_store_row rfl 116 _ _ rfl w.heap.size (aU.cells ⟨-1,p.t⟩).toArray rfl rfl 116 (aU.cells ⟨0,bo⟩).toArray T1.out (dq _) (by simp[aU.len]) (gJ _) ?_))
  have B3:=below_setRow B2.out (Nat.le_refl _) (aU.cells ⟨-1,p.t⟩).toArray
  exact bodyPost_ret (v:=.agg (aU.cells ⟨-1,p.t⟩).toArray) (results_cell_row rfl _ _ w.heap.size 116 (aU.cells ⟨-1,p.t⟩).toArray (0,0) _ rfl (setRow_heap _ w.heap.size _ _ 116 _ T1.out) Tryz.underlying116 rfl (dq _)) rfl ⟨rfl,vN,HS.out.below B3,Fr.of_below B3⟩
 ·have hw:=HW.out
  rw[if_neg hneg] at hw
  have hzero:∀ W:World,(zeroValue 3).run Tryz.prog W=.ok (.int .i64 0) W:=fun W=>by kernel_rfl
  have HZ:=ak_ hzero
  clear hzero
  cases hix:jj p.jt nodes with
  | some n=>
   rw[hix] at hw
   obtain⟨rfl,rfl⟩:=Prod.mk.injEq .. ▸ hw
   have HX:aa (jM (.int .i64 0) (bO p.jt (mE nodes) 0)=.tuple #[.int .i64 (n:Int),.bool true]):=⟨by rw[qo,hix];rfl⟩
   clear hw hix
   go_enter Tryz.func78,Tryz.ntmps78
   go_wp2_with (first
    | (go_at_call 39;have hbA:=(ae (Below.refl w.heap.size w) (.cells (aU.cells ⟨0,bo⟩).toArray 116));refine(HF.out _ (HG.out.below hbA) (Kd.C_below HC.out hbA)).mono ?_;rintro e w1 ⟨rfl,hb⟩;have B1:=ak_ (af hbA hb);have T0:=ak_ ((hb.block _ (show w.heap.size < _ by simp)).trans (heap_alloc_last w _));clear hbA hb)
    | ((with_reducible refine ao (t:=101) (p:=6) rfl ?_);refine an rfl 101 _ _ rfl w1.heap.size p.cells.toArray rfl rfl 101 (Pth.cells ⟨0,bo,0⟩).toArray (heap_alloc_last w1 _) (db HP24.out) (by simp[iB,HP24.out,bo]) (fY _) ?_;intro w2 h2 hf2;have Z:=ai T0.out;have Z2:=B1.out.size;have hb2:=(Fr.below (B:=w.heap.size) (ae B1.out _) hf2 (fun k hk h=>by omega) (by simp;omega));have P1:=ak_ h2;have p0:=(show w2.cell? ⟨w1.heap.size,0,none⟩=some (.int .i64 p.jt) by rw[ap h2];rfl);have B2:=ak_ hb2;have T1:=ak_ ((hf2.block w.heap.size (by simp;omega) (by omega)).trans (aK T0.out _));have S2:=ak_ (HS.out.below B2.out);have n0:=S2.out.num;have s25:=S2.out.cell;clear Z Z2 hb2 h2 hf2)
    | ((with_reducible refine aj (N:=20) rfl ?_);refine au rfl 99 _ rfl ⟨w1.heap.size,1,none⟩ rfl _ (jW P1.out HP24.out) ?_)
    | ((with_reducible refine aj (N:=26) rfl ?_);refine cJ mK rfl _ _ rfl Tryz.underlying132 S2.out.cm (.int .i64 0) (HZ.out _) p.jt rfl rfl _ HX.out ?_)
    | ((with_reducible refine aj (N:=48) rfl ?_);refine au rfl 99 _ rfl ⟨w1.heap.size,1,none⟩ rfl _ (jW P1.out HP24.out) ?_)
    | ((with_reducible refine aj (N:=49) rfl ?_);refine aM rfl 116 _ rfl [(0,.int .i64 (n:Int)),(1,.agg (av p.t))] _ rfl (pl n p.t HP24.out) ?_)
    | ((with_reducible refine ao (t:=116) (p:=5) rfl ?_);refine wpList_store_row rfl 116 _ _ rfl w.heap.size (aU.cells ⟨n,p.t⟩).toArray rfl rfl 116 (aU.cells ⟨0,bo⟩).toArray T1.out (dq _) (by simp[aU.len]) (gJ _) ?_))
   have B3:=below_setRow B2.out (Nat.le_refl _) (aU.cells ⟨n,p.t⟩).toArray
   exact bodyPost_ret (v:=.agg (aU.cells ⟨n,p.t⟩).toArray) (results_cell_row rfl _ _ w.heap.size 116 (aU.cells ⟨n,p.t⟩).toArray (0,0) _ rfl (setRow_heap _ w.heap.size _ _ 116 _ T1.out) Tryz.underlying116 rfl (dq _)) rfl ⟨rfl,vN,HS.out.below B3,Fr.of_below B3⟩
  | none=>
   rw[hix] at hw
   obtain⟨rfl,rfl⟩:=Prod.mk.injEq .. ▸ hw
   have hfl:bO p.jt (mE nodes) 0=none:=by rw[qo,hix];rfl
   have HFl:=ak_ hfl
   have HX:aa (jM (.int .i64 0) (bO p.jt (mE nodes) 0)=.tuple #[.int .i64 0,.bool false]):=⟨by rw[hfl];rfl⟩
   obtain⟨AN,cN,rfl⟩:=Kd.R_slice HS.out.row
   clear hw hix hfl
   go_enter Tryz.func78,Tryz.ntmps78
   go_upto_region 8 with (first
    | (go_at_call 39;have hbA:=(ae (Below.refl w.heap.size w) (.cells (aU.cells ⟨0,bo⟩).toArray 116));refine(HF.out _ (HG.out.below hbA) (Kd.C_below HC.out hbA)).mono ?_;rintro e w1 ⟨rfl,hb⟩;have B1:=ak_ (af hbA hb);have T0:=ak_ ((hb.block _ (show w.heap.size < _ by simp)).trans (heap_alloc_last w _));clear hbA hb)
    | ((with_reducible refine ao (t:=101) (p:=6) rfl ?_);refine an rfl 101 _ _ rfl w1.heap.size p.cells.toArray rfl rfl 101 (Pth.cells ⟨0,bo,0⟩).toArray (heap_alloc_last w1 _) (db HP24.out) (by simp[iB,HP24.out,bo]) (fY _) ?_;intro w2 h2 hf2;have Z:=ai T0.out;have Z2:=B1.out.size;have hb2:=(Fr.below (B:=w.heap.size) (ae B1.out _) hf2 (fun k hk h=>by omega) (by simp;omega));have P1:=ak_ h2;have p0:=(show w2.cell? ⟨w1.heap.size,0,none⟩=some (.int .i64 p.jt) by rw[ap h2];rfl);have B2:=ak_ hb2;have T1:=ak_ ((hf2.block w.heap.size (by simp;omega) (by omega)).trans (aK T0.out _));have S2:=ak_ (HS.out.below B2.out);have n0:=S2.out.num;have s25:=S2.out.cell;clear Z Z2 hb2 h2 hf2)
    | ((with_reducible refine aj (N:=20) rfl ?_);refine au rfl 99 _ rfl ⟨w1.heap.size,1,none⟩ rfl _ (jW P1.out HP24.out) ?_)
    | ((with_reducible refine aj (N:=26) rfl ?_);refine cJ mK rfl _ _ rfl Tryz.underlying132 S2.out.cm (.int .i64 0) (HZ.out _) p.jt rfl rfl _ HX.out ?_)
    | ((with_reducible refine iW rfl ?_);refine dF mK rfl _ _ _ rfl Tryz.underlying132 S2.out.cm p.jt (.int .i64 (nodes.length:Int)) rfl rfl rfl HFl.out ?_;intro w3 hm3 hfr3;have M3:=ak_ hm3;have F3:=ak_ hfr3;clear hm3 hfr3))
   have hne:=S2.out.ne
   have hcs:=(F3.out.block gs (ai S2.out.cs) hne.1).trans S2.out.cs
   have hcn:=(F3.out.block gn (ai S2.out.cn) hne.2.1).trans S2.out.cn
   have hrow:=Kd.R_step (Kd.R_below (Kd.R_mono (ok':=fun k=>ok k∧k≠w.heap.size) (Kd.R_bound HS.out.row) (fun k hk=>⟨hk.1,by have:=hk.2.2.1;omega⟩)) B2.out) (w1:=w3) (fun k hk hlt=>F3.out.block k hlt (HOk.out k hk.1).2.2)
   have hgb:gb < w.heap.size:=HS.out.cm.lt
   have hgs:gs < w.heap.size:=ai HS.out.cs
   have hz1:w.heap.size≤w1.heap.size:=B1.out.size
   have hzT:w.heap.size < w1.heap.size:=ai T0.out
   have hP3:=(F3.out.block w1.heap.size (ai P1.out) (by omega)).trans P1.out
   have hT3:=(F3.out.block w.heap.size (ai T1.out) (by omega)).trans T1.out
   have hown:∀ k,(Value.slice AN nodes.length cN).ownBlock=some k→k < w.heap.size:=Kd.R_lt HS.out.row
   have s25':=(show w3.cell? ⟨gs,25,none⟩=some (.slice AN nodes.length cN) by rw[ap hcs,List.getElem?_append_right (by rw[HS.out.es];exact Nat.le_refl _),HS.out.es];rfl)
   have p0':=(show w3.cell? ⟨w1.heap.size,0,none⟩=some (.int .i64 p.jt) by rw[ap hP3];rfl)
   have CS:=ak_ hcs
   have CN:=ak_ hcn
   have RW:=ak_ hrow
   have NE:=ak_ hne
   have P3:=ak_ hP3
   have T3:=ak_ hT3
   have OW:=ak_ hown
   have Z1:=ak_ hgb
   have Z2:=ak_ hgs
   have Z3:=ak_ hzT
   have HB0:=ak_ hbase
   have BZ:aa (w.heap.size≤w3.heap.size):=⟨by have:=F3.out.size;have:=B2.out.size;omega⟩
   clear hne hcs hcn hrow hP3 hT3 hown hgb hgs hz1 hzT hbase s25 p0 n0
   go_wp2_with (first
    | ((with_reducible refine a7 (b:=.append) (xs:=#[.tmp 39,.tmp 43]) rfl ?_);at_builtin;refine Kd.R_append dl (w0:=w3) base rfl (.tmp 39) (.tmp 43) 117 142 (.agg #[.int .i64 0,.slice none 0 0]) 32 rfl Tryz.underlying117 BX rfl (by decide) (by omega) (.slice AN nodes.length cN) (nodes) (⟨p.jt,[]⟩) [.int .i64 p.jt,.slice none 0 0] (fun b=>ok b∧b≠w.heap.size) (fun _=>False) rfl rfl ?aP (fun _ hk=>hk.elim) ?aF ?aO ?aB ?aS ?aL ?_;(case aP=>exact⟨[.int .i64 p.jt],[.slice none 0 0],rfl,rfl,⟨_,rfl,Kd.R_nil _ _ _ _ _⟩⟩);(case aF=>exact(fun b hb=>⟨HFr.out b (by have:=BZ.out;omega),by have:=ai T3.out;omega⟩));(case aO=>exact RW.out);(case aB=>exact Below.refl _ _);(case aS=>have:=BZ.out;have:=HB0.out;omega);(case aL=>omega);intro vap wap ho hb hg hat;have ZA:=(fun k (hk:k < w3.heap.size) (hn:some k≠(Value.slice AN nodes.length cN).ownBlock)=>hg.block k hk hn);have CS4:=ak_ ((ZA gs (ai CS.out) (Kd.R_away RW.out (fun k hk=>(HOk.out k hk.1).1))).trans CS.out);have CN4:=ak_ ((ZA gn (ai CN.out) (Kd.R_away RW.out (fun k hk=>(HOk.out k hk.1).2.1))).trans CN.out);have M4:=ak_ (M3.out.moved (ZA gb M3.out.lt (Kd.R_away RW.out (fun k hk=>(HOk.out k hk.1).2.2))));have P4:=ak_ ((ZA _ (ai P3.out) (fun e=>by have:=OW.out _ e.symm;have:=Z3.out;omega)).trans P3.out);have T4:=ak_ ((ZA _ (ai T3.out) (fun e=>by have:=OW.out _ e.symm;omega)).trans T3.out);have f25:=aq CS4.out 25;have g25:=(show wap.cell? ⟨gs,25,none⟩=some (.slice AN nodes.length cN) by rw[ap CS4.out,List.getElem?_append_right (by rw[HS.out.es];exact Nat.le_refl _),HS.out.es];rfl);have RO:=ak_ ho;obtain⟨AV,cV,rfl⟩:=Kd.R_slice RO.out;have HG4:=ak_ hg;clear ZA ho hb hg hat)
    | ((with_reducible refine aj (N:=48) rfl ?_);refine au rfl 99 _ rfl ⟨w1.heap.size,1,none⟩ rfl _ (jW (a8 P4.out (p:=⟨gs,25,none⟩) (by have:=Z2.out;have:=Z3.out;show _≠gs;omega) _) HP24.out) ?_)
    | ((with_reducible refine aj (N:=49) rfl ?_);refine aM rfl 116 _ rfl [(0,.int .i64 (nodes.length:Int)),(1,.agg (av p.t))] _ rfl (pl nodes.length p.t HP24.out) ?_)
    | ((with_reducible refine ao (t:=116) (p:=5) rfl ?_);refine an rfl 116 _ _ rfl w.heap.size (aU.cells ⟨nodes.length,p.t⟩).toArray rfl rfl 116 (aU.cells ⟨0,bo⟩).toArray (a8 T4.out (p:=⟨gs,25,none⟩) (by have:=Z2.out;show _≠gs;omega) _) (dq _) (by simp[aU.len]) (gJ _) ?_;intro w6 h6 hf6;have H6:=ak_ h6;have F6:=ak_ hf6;clear h6 hf6))
   have hgs6:gs≠w.heap.size:=by have:=Z2.out;omega
   have hgn:gn < w.heap.size:=ai HS.out.cn
   have hgb:gb≠w.heap.size:=by have:=Z1.out;omega
   have q:(ec++[Value.slice AN nodes.length cN]).set 25 (.slice AV (nodes.length+1) cV)=ec++[.slice AV (nodes.length+1) cV]:=by
    rw[List.set_append_right _ _ (by rw[HS.out.es];exact Nat.le_refl _),HS.out.es]
    rfl
   have hcs:=aJ CS4.out 25 (.slice AV (nodes.length+1) cV)
   rw[q] at hcs
   have hcs6:=(F6.out.block gs (ai hcs) hgs6).trans hcs
   have hcn5:=a8 CN4.out (p:=⟨gs,25,none⟩) (fun e=>NE.out.2.2 e.symm) (.slice AV (nodes.length+1) cV)
   have hcn6:=(F6.out.block gn (ai hcn5) (by omega)).trans hcn5
   have hcm5:=M4.out.moved (Below.heap_setCell wap ⟨gs,25,none⟩ (.slice AV (nodes.length+1) cV) gb (fun e=>NE.out.1 e.symm))
   have hcm6:=hcm5.moved (F6.out.block gb hcm5.lt hgb)
   have hro:=RO.out
   rw[show (nodes++[aH.mk p.jt []]).length=nodes.length+1 by simp] at hro
   have hr5:=Kd.R_far hro (p:=⟨gs,25,none⟩) (fun k hk=>(HOk.out k hk.1).1) (.slice AV (nodes.length+1) cV)
   have hr6:=Kd.R_mono (Kd.R_step hr5 (w1:=w6) (fun k hk hlt=>F6.out.block k hlt hk.2)) (ok':=ok) (fun k hk=>hk.1)
   have hfr:Fr (SkS gs gb (.slice AN nodes.length cN)) w w6:=Fr.mono (S:=fun k=>SkS gs gb (.slice AN nodes.length cN) k∨k=w.heap.size) (((((Fr.of_below B2.out).trans (F3.out.mono (fun k _ e=>.inl (.inr (.inl e))))).trans (Fr.grown HG4.out (fun k e=>.inl (.inr (.inr e))))).trans (Fr.cell (p:=⟨gs,25,none⟩) (.inl (.inl rfl)) (.slice AV (nodes.length+1) cV))).trans (F6.out.mono (fun k _ e=>.inr e))) (fun k hk h=>h.resolve_right (by omega))
   exact bodyPost_ret (v:=.agg (aU.cells ⟨nodes.length,p.t⟩).toArray) (results_cell_row rfl _ _ w.heap.size 116 (aU.cells ⟨nodes.length,p.t⟩).toArray (0,0) _ rfl H6.out Tryz.underlying116 rfl (dq _)) rfl ⟨rfl,_,⟨HS.out.es,hcs6,hcn6,by rw[zM];exact hcm6,hr6⟩,hfr⟩
end
theorem gx.none {f:List In} (hr:dy f) {a:Nat}:∀ (n:Nat) (s:PSt),gx f a s→201 - s.steps≤n→fol f (il n f s)=none
 | 0,s,h,hn=>by have:=h.bound;omega
 | n+1,s,h,hn=>by
  unfold il
  cases hf:fol f s with
  | none=>exact hf
  | some s'=>
   have h':=h.step hr hf
   refine gx.none hr n s' h' ?_
   obtain⟨x,_,_,_,rfl⟩:=nD hf
   simp only
   omega
theorem oz {f:List In} (hr:dy f) {a:Nat} (ha:a < f.length) (hj:(b_ f a).jt≠-1):(f.getD (b_ f a).jt.toNat In.zero).moves=false:=by
 have h:gx f a (ki f a):=gx.all hr 201 _ (gx.init ha)
 have hn:fol f (ki f a)=none:=gx.none hr 201 _ (gx.init ha) (by omega)
 unfold b_ at hj ⊢
 simp only at hj ⊢
 split at hj
 ·exact absurd rfl hj
 ·rename_i hm
  rw[if_neg hm]
  simp only[Int.toNat_natCast]
  unfold fol at hn
  rw[List.getElem?_eq_getElem h.at_] at hn
  simp only at hn
  split at hn
  ·rename_i hor
   rw[List.getD_eq_getElem?_getD,List.getElem?_eq_getElem h.at_]
   rcases hor with q | q
   ·exact q
   ·exact absurd q hm
  ·exact absurd hn (by simp)
def bK (f:List In):List Int→List aH→List aU × List aH
 | [],nodes=>([],nodes)
 | a :: l0,nodes=>((da f nodes a.toNat).1 :: (bK f l0 (da f nodes a.toNat).2).1,(bK f l0 (da f nodes a.toNat).2).2)
def iT (cut:List Bool) (a:Int):Bool:=decide (a < cut.length) && cut.getD a.toNat false
def stepN (f:List In) (cut:List Bool) (n:Nat) (x:aH) (nodes:List aH):List aH:=
 if iT cut x.at_=true then nodes else (bK f (ce (f.getD x.at_.toNat In.zero) x.at_) nodes).2.set n ⟨x.at_,(bK f (ce (f.getD x.at_.toNat In.zero) x.at_) nodes).1⟩
def bP (f:List In) (cut:List Bool):Nat→Nat→List aH→List aH
 | 0,_,nodes=>nodes
 | fuel+1,n,nodes=>match nodes[n]? with
  | none=>nodes
  | some x=>bP f cut fuel (n+1) (stepN f cut n x nodes)
structure bj where
 entry:aU
 nodes:List aH
def a9 (f:List In) (cut:List Bool):bj:=⟨(da f [] 0).1,bP f cut 201 0 (da f [] 0).2⟩
structure NOk (f:List In) (nodes:List aH):Prop where
 at_:∀ x∈nodes,0≤x.at_∧x.at_ < f.length
 stops:∀ x∈nodes,(f.getD x.at_.toNat In.zero).moves=false
 nodup:(nodes.map aH.at_).Nodup
theorem NOk.len {f:List In} {nodes:List aH} (h:NOk f nodes):nodes.length≤f.length:=by
 have h1:(nodes.map fun x=>x.at_.toNat).Nodup:=by
  have:(nodes.map fun x=>x.at_.toNat)=(nodes.map aH.at_).map Int.toNat:=by simp
  rw[this]
  unfold List.Nodup at *
  rw[List.pairwise_map]
  refine h.nodup.imp_of_mem (fun ha hb hne e=>hne ?_)
  obtain⟨x,hx,rfl⟩:=List.mem_map.1 ha
  obtain⟨y,hy,rfl⟩:=List.mem_map.1 hb
  have:=h.at_ x hx
  have:=h.at_ y hy
  omega
 have h2:(nodes.map fun x=>x.at_.toNat) ⊆ List.range f.length:=by
  intro k hk
  obtain⟨x,hx,rfl⟩:=List.mem_map.1 hk
  have:=h.at_ x hx
  rw[List.mem_range]
  omega
 have:=h1.length_le_of_subset h2
 simpa using this
theorem ss {a:Int} {nodes:List aH} (h:jj a nodes=none):a ∉ nodes.map aH.at_:=by
 unfold jj at h
 rw[List.findIdx?_eq_none_iff] at h
 intro hm
 obtain⟨x,hx,rfl⟩:=List.mem_map.1 hm
 have:=h x hx
 simp at this
theorem NOk.way {f:List In} (hr:dy f) {nodes:List aH} (h:NOk f nodes) {a:Nat} (ha:a < f.length):NOk f (da f nodes a).2:=by
 have hp:=jY hr ha
 unfold da
 simp only
 split
 ·exact h
 ·split
  ·exact h
  ·rename_i hn hi
   have hx:=ss hi
   refine⟨fun x hx=>?_,?_,?_⟩
   ·rcases List.mem_append.1 hx with hx | hx
    ·exact h.at_ x hx
    ·rw[List.mem_singleton.1 hx]
     rcases hp.2 with q | q
     ·exact absurd q (by omega)
     ·exact q
   ·intro x hx
    rcases List.mem_append.1 hx with hx | hx
    ·exact h.stops x hx
    ·rw[List.mem_singleton.1 hx]
     exact oz hr ha (by omega)
   ·rw[List.map_append,List.nodup_append]
    refine⟨h.nodup,by simp,?_⟩
    intro y hy z hz e
    simp at hz
    subst hz
    subst e
    exact hx hy
theorem ms (f:List In) (nodes:List aH) (a:Nat):∃ l,(da f nodes a).2=nodes++l:=by
 unfold da
 simp only
 split
 ·exact⟨[],by simp⟩
 ·split
  ·exact⟨[],by simp⟩
  ·exact⟨_,rfl⟩
theorem eT (f:List In):∀ (l0:List Int) (nodes:List aH),∃ l,(bK f l0 nodes).2=nodes++l
 | [],nodes=>⟨[],by simp[bK]⟩
 | a :: l0,nodes=>by
  obtain⟨l,hl⟩:=ms f nodes a.toNat
  obtain⟨k,hk⟩:=eT f l0 (da f nodes a.toNat).2
  exact⟨l++k,by simp only[bK];rw[hk,hl,List.append_assoc]⟩
theorem NOk.outs {f:List In} (hr:dy f):∀ (l0:List Int) (nodes:List aH),NOk f nodes→(∀ a∈l0,0≤a∧a < f.length)→NOk f (bK f l0 nodes).2
 | [],_,h,_=>h
 | a :: l0,nodes,h,ha=>by
  simp only[bK]
  have:=ha a (List.mem_cons_self ..)
  exact NOk.outs hr l0 _ (h.way hr (by omega)) (fun b hb=>ha b (List.mem_cons_of_mem _ hb))
theorem NOk.put {f:List In} {nodes:List aH} (h:NOk f nodes) {n:Nat} {x:aH} (hx:(nodes[n]?).map aH.at_=some x.at_):NOk f (nodes.set n x):=by
 have hm:(nodes.set n x).map aH.at_=nodes.map aH.at_:=by
  rw[List.map_set]
  apply List.ext_getElem?
  intro i
  rw[List.getElem?_set]
  split
  ·rename_i e
   rw[←e,List.getElem?_map,hx]
   split
   ·rfl
   ·rename_i hlt
    cases hq:nodes[n]? with
    | none=>rw[hq] at hx;exact absurd hx (by simp)
    | some z=>exact absurd (by simpa using (List.getElem?_eq_some_iff.1 hq).1) hlt
  ·rfl
 have hy2:∀ y∈nodes.set n x,∃ z∈nodes,z.at_=y.at_:=fun y hy=>by
  have:y.at_∈nodes.map aH.at_:=by rw[←hm];exact List.mem_map_of_mem hy
  exact List.mem_map.1 this
 refine⟨fun y hy=>?_,fun y hy=>?_,by rw[hm];exact h.nodup⟩
 ·obtain⟨z,hz,e⟩:=hy2 y hy
  rw[←e]
  exact h.at_ z hz
 ·obtain⟨z,hz,e⟩:=hy2 y hy
  rw[←e]
  exact h.stops z hz
theorem oK {f:List In} (hr:dy f) {i:Nat} {x:In} (hx:f[i]?=some x):∀ a∈ce x (i:Int),x.moves=true∨(0≤a∧a < f.length):=by
 intro a ha
 unfold ce at ha
 split at ha
 ·simp at ha
 ·rename_i h18
  by_cases h16:x.op=16
  ·exact .inl (by unfold In.moves;simp[h16])
  ·have hn:=hr.next hx h16 h18
   split at ha
   ·rename_i h17
    have hj:=(hr.ok i x hx).jt (.inr h17)
    simp only[List.mem_cons,List.not_mem_nil,or_false] at ha
    rcases ha with rfl | rfl
    ·exact .inr hj
    ·exact .inr ⟨by omega,by omega⟩
   ·simp only[List.mem_cons,List.not_mem_nil,or_false] at ha
    subst ha
    exact .inr ⟨by omega,by omega⟩
theorem zz {P:Program} {t e:TypeId} {i:TypeInfo} {z:Value} (hu:P.underlying t=some (.slice e)) (hi:P.info? e=some i) (hz:i.zero=some z) (cs:List Value) (hl:cs.length=i.size) (h0:0 < i.size) (hm:i.size≤2 ^ 24) (W:World) :
  (Instr.buildSlice t 1 #[(0,.agg cs.toArray)]).run P W=.ok (.slice (some ⟨W.heap.size,0,none⟩) 1 1) (W.alloc (.cells cs.toArray e)):=by
 have hs:(sizeOf e).run P W=.ok i.size W:=by simp[sizeOf,typeInfo,hi]
 have hzv:(zeroValue e).run P W=.ok z W:=by simp[zeroValue,typeInfo,hi,hz]
 unfold Instr.buildSlice
 simp only[Sem.run_bind,run_underlying hu,Result.andThen_ok,hs,Nat.one_mul]
 rw[if_neg (by omega)]
 have hf:=im (fun k=>some (k * i.size,i.size)) ((Array.range i.size).map (fun k=>z.cells[k % z.cells.size]!)).toList 0 0 i.size cs [] (by simp) hl (by simp)
 simp only[Array.toArray_toList,List.take_zero,List.nil_append,Nat.zero_add,hl] at hf
 rw[List.drop_of_length_le (by simp),List.append_nil] at hf
 simp only[Sem.run_bind,Sem.run_pure,Result.andThen_ok,if_neg (Nat.pos_iff_ne_zero.1 h0),hzv,hf]
 rfl
theorem Cq {P:Program} {aF:Act} {o:Oper} {t e:TypeId} {i:TypeInfo} {z:Value} (hu:P.underlying t=some (.slice e)) (hi:P.info? e=some i) (hz:i.zero=some z) (cs:List Value) (hl:cs.length=i.size) (h0:0 < i.size) (hm:i.size≤2 ^ 24) (W:World)
  {u:Operand} (ho:o.op=.buildSlice t 1 #[(0,u)]) (hv:aF.eval u=.agg cs.toArray):(execOp aF.eval o).run P W=.ok (.value (.slice (some ⟨W.heap.size,0,none⟩) 1 1)) (W.alloc (.cells cs.toArray e)):=by
 unfold execOp
 simp only[ho,List.map_toArray,List.map_cons,List.map_nil,hv,Sem.run_bind,zz hu hi hz cs hl h0 hm W,Result.andThen_ok,Sem.run_pure]
def Frz (W:World) (v:Value) (L:List Int):Prop:=(v=.slice none 0 0∧L=[])∨∃ g,v=.slice (some ⟨g,0,none⟩) L.length L.length∧W.heap[g]?=some (.cells (L.map (Value.int .i64)).toArray 3 (0,0))
theorem m5 (x:In) (n:Nat) (hn:n≤1000) (w:World):Calls Tryz.prog 79 #[.agg x.cells,.int .i64 (n:Int)] w fun e w'=>∃ v,e=.returned v∧Frz w' v (ce x n)∧Below w.heap.size w w':=by
 rw[jp]
 have hn':(n:Int)≤1000:=by omega
 unfold ce
 by_cases h1:x.op=18
 ·have q1:(x.op == 18)=true:=beq_iff_eq.mpr h1
  rw[if_pos h1]
  clear h1
  go_enter Tryz.func79,Tryz.ntmps79
  go_wp2
  go_ret
  exact⟨_,rfl,.inl ⟨rfl,rfl⟩,ae (Below.refl _ _) _⟩
 ·have q1:(x.op == 18)=false:=beq_eq_false_iff_ne.mpr h1
  rw[if_neg h1]
  by_cases h2:x.op=17
  ·have q2:(x.op == 17)=true:=beq_iff_eq.mpr h2
   rw[if_pos h2]
   clear h1 h2
   go_enter Tryz.func79,Tryz.ntmps79
   go_wp2
   go_ret
   exact⟨_,rfl,.inr ⟨_,rfl,heap_alloc2_new w _ _⟩,ae (ae (Below.refl _ _) _) _⟩
  ·have q2:(x.op == 17)=false:=beq_eq_false_iff_ne.mpr h2
   rw[if_neg h2]
   clear h1 h2
   go_enter Tryz.func79,Tryz.ntmps79
   go_wp2
   go_ret
   exact⟨_,rfl,.inr ⟨_,rfl,heap_alloc2_new w _ _⟩,ae (ae (Below.refl _ _) _) _⟩
theorem bX {α:Type} {d:Kd α} {w:World} {A:Option Addr} {n:Nat} {xs:List α} (h:Kd.C d w A n xs) (i:Nat) (h1:i < n) (x:α) (hx:xs[i]?=some x) :
  ∃ ad c,A=some ad∧c.length=d.sz∧d.K w x c∧∀ j u,c[j]?=some u→w.cell? (ad.add (i * d.sz+j))=some u:=by
 obtain⟨ad,c,e,h2,hK,hc⟩:=Kd.C_get h x (i:Int) (by omega) (by omega)
 have hg:xs.getD (i:Int).toNat x=x:=by simp[List.getD_eq_getElem?_getD,hx]
 rw[hg] at hK
 exact⟨ad,c,e,h2,hK,hc⟩
theorem fx {w:World} {x:aH} {c:List Value} (h:dl.K w x c):∃ vO,c=[.int .i64 x.at_,vO]∧Rd pF w vO x.outs:=by
 obtain⟨c0,c1,rfl,h0,A,n,rfl,h2,h3⟩:=h
 have h0':c0=[.int .i64 x.at_]:=h0
 subst h0'
 exact⟨_,rfl,A,n,rfl,h2,h3⟩
theorem oC {w:World} {base:Nat} {ok:Nat→Prop} {v:Value} {xs:List aH} (h:Kd.R dl 142 w base ok v xs) (i:Nat) (x:aH) (hx:xs[i]?=some x) :
  ∃ g cap vO,v=.slice (some ⟨g,0,none⟩) xs.length cap∧w.cell? ⟨g,i * 2,none⟩=some (.int .i64 x.at_)∧w.cell? ⟨g,i * 2+1,none⟩=some vO∧Rd pF w vO x.outs∧g < w.heap.size:=by
 obtain⟨hi,_⟩:=List.getElem?_eq_some_iff.1 hx
 obtain⟨g,cap,rfl,_,hg,_⟩:=Kd.R_form h (by omega)
 obtain⟨_,_,hC⟩:=Kd.R_reads' h
 obtain⟨ad,c,e,_,hK,hc⟩:=bX hC i hi x hx
 injection e with e
 subst e
 obtain⟨vO,rfl,hO⟩:=fx hK
 have hadd:∀ k,(⟨g,0,none⟩:Addr).add k=⟨g,k,none⟩:=fun k=>by unfold Addr.add;by_cases h0:k=0 <;> simp[h0]
 refine⟨g,cap,vO,rfl,?_,?_,hO,hg⟩
 ·have:=hc 0 _ rfl
  rw[hadd] at this
  exact this
 ·have:=hc 1 _ rfl
  rw[hadd] at this
  exact this
section
def fq:List Value:=aU.cells ⟨0,bo⟩++[.slice none 0 0]
theorem dG {P:Program} {ops:Array Oper} {o:Oper} {rest:List Oper} {a:Act} {W:World} {Q:Exit→Act→World→Prop} (hgd:o.guard=none) (t:TypeId) (ho:o.op=.makeMap t none) (h:wpList P ops Q rest (a.put o.dst (.map (some W.heap.size))) (W.alloc (.map #[] 0))):wpList P ops Q (o :: rest) a W:=by
 refine dk hgd _ ?_ h
 unfold execOp
 simp only[ho,Option.map_none,Sem.run_bind,run_makeMap,Result.andThen_ok,Sem.run_pure]
theorem dT {P:Program} {ops:Array Oper} {rest:List Oper} {o:Oper} {a:Act} {W:World} {Q:Exit→Act→World→Prop} (hgd:o.guard=none) (ty:TypeId) (x y:Operand) (ho:o.op=.store ty x y) (g i:Nat) (vs:List Value)
  (hx:a.eval x=.pointer (some ⟨g,i,none⟩)) (hy:a.eval y=.agg vs.toArray) (t:Nat) (L L':List Value) (hg:W.heap[g]?=some (.cells L.toArray t (0,0))) (hi:(P.info? ty).map (·.size)=some vs.length) (hl:i+vs.length≤L.length) (h1:∀ v∈vs,v.oneCell'=true)
  (hL:L.take i++vs++L.drop (i+vs.length)=L') (h:∀ W',W'.heap[g]?=some (.cells L'.toArray t (0,0))→Fr (fun k=>k=g) W W'→wpList P ops Q rest (a.put o.dst undef) W'):wpList P ops Q (o :: rest) a W:=by
 subst hL
 exact fi hgd ty x y ho g i vs hx hy t L hg hi hl h1 (h _ (setRow_heap W g _ _ t _ hg) (Fr.row (S:=fun k=>k=g) rfl _))
theorem rg:(Tryz.prog.info? 119).map (·.size)=some 26:=by kernel_rfl
theorem jQ (o:aU) (v:Value):(o.cells++[v]).toArray.size=26:=by simp[aU.len]
theorem skz:fq.toArray.size=26:=jQ _ _
theorem oS:(Tryz.prog.info? 116).map (fun i=>(i.zero,i.size,i.bytes))=some (some (.agg (aU.cells ⟨0,bo⟩).toArray),25,392):=by kernel_rfl
theorem dH (o:aU) (v:Value):(Tryz.prog.info? 119).map (·.size)=some (o.cells++[v]).toArray.size:=by rw[jQ];exact rg
theorem qK (o:aU) {A:Option Addr} {n c:Nat}:(o.cells++[Value.slice A n c]).toArray.all (·.oneCell')=true:=by
 rw[Array.all_eq_true_iff_forall_mem]
 intro q hq
 simp only[List.mem_toArray,List.mem_append,List.mem_singleton] at hq
 rcases hq with hq | rfl
 ·exact aU.one _ _ hq
 ·rfl
structure BSt (w:World) (v:Value) (gs gb gn:Nat) (ok:Nat→Prop) (ec:List Value) (W:World) (vN:Value) (nodes:List aH):Prop where
 b:Below w.heap.size w W
 box:W.heap[w.heap.size]?=some (.cells #[v] 22 (0,0))
 res:W.heap[w.heap.size+1]?=some (.cells fq.toArray 119 (0,0))
 sk:mj gs gn gb w.heap.size ok ec W vN nodes
section
variable {w W W':World} {v vN:Value} {gs gb gn:Nat} {ok:Nat→Prop} {ec:List Value} {nodes:List aH}
theorem BSt.below (h:BSt w v gs gb gn ok ec W vN nodes) (hb:Below W.heap.size W W'):BSt w v gs gb gn ok ec W' vN nodes:=
 ⟨af h.b hb,ag h.box hb,ag h.res hb,h.sk.below hb⟩
theorem BSt.step (h:BSt w v gs gb gn ok ec W vN nodes) {S:Nat→Prop} (hf:Fr S W W') (hs:∀ k,k≤w.heap.size+1→¬ S k) {vN':Value} {nodes':List aH} {ok':Nat→Prop} {ec':List Value} (hsk:mj gs gn gb w.heap.size ok' ec' W' vN' nodes'):BSt w v gs gb gn ok' ec' W' vN' nodes':=
 ⟨Fr.below h.b hf (fun k hk=>hs k (by omega)) h.b.size,(hf.block _ (ai h.box) (hs _ (by omega))).trans h.box,(hf.block _ (ai h.res) (hs _ (Nat.le_refl _))).trans h.res,hsk⟩
theorem BSt.cell (h:BSt w v gs gb gn ok ec W vN nodes):W.cell? ⟨w.heap.size,0,none⟩=some v:=by rw[ah h.box];rfl
end
theorem zr (w:World) (v:Value) {w1:World} (hb:Below ((w.alloc (.cells #[v] 22)).alloc (.cells fq.toArray 119)).heap.size ((w.alloc (.cells #[v] 22)).alloc (.cells fq.toArray 119)) w1) :
  Below w.heap.size w w1∧w1.heap[w.heap.size]?=some (.cells #[v] 22 (0,0))∧w1.heap[w.heap.size+1]?=some (.cells fq.toArray 119 (0,0)):=by
 obtain⟨h1,h2,h3⟩:=dm hb
 exact⟨h3,h2,h1⟩
theorem qC {W:World} {v:Value} {L:List Int} (h:Frz W v L):∃ A,v=.slice A L.length L.length:=by
 rcases h with ⟨rfl,rfl⟩ | ⟨g,rfl,_⟩
 ·exact⟨none,rfl⟩
 ·exact⟨_,rfl⟩
theorem uR (x:aU) (W:World) {aF:Act} {o:Oper} {u:Operand} (ho:o.op=.buildSlice 140 1 #[(0,u)]) (hv:aF.eval u=.agg x.cells.toArray):(execOp aF.eval o).run Tryz.prog W=.ok (.value (.slice (some ⟨W.heap.size,0,none⟩) 1 1)) (W.alloc (.cells x.cells.toArray 116)):=by
 have hi:=oS
 cases hq:Tryz.prog.info? 116 with
 | none=>rw[hq] at hi;exact absurd hi (by simp)
 | some i=>
  rw[hq] at hi
  simp only[Option.map_some,Option.some.injEq,Prod.mk.injEq] at hi
  exact Cq Tryz.underlying140 hq hi.1 x.cells (by rw[x.len,hi.2.1]) (by rw[hi.2.1];decide) (by rw[hi.2.1];decide) W ho hv
theorem Bd {W W':World} {v:Value} {L:List Int} (h:Frz W v L) {S:Nat→Prop} (hf:Fr S W W') (hs:∀ g cs,W.heap[g]?=some (.cells cs 3 (0,0))→¬ S g):Frz W' v L:=by
 rcases h with h | ⟨g,h1,h2⟩
 ·exact .inl h
 ·exact .inr ⟨g,h1,(hf.block g (ai h2) (hs g _ h2)).trans h2⟩
theorem BSt.ok_mono {w W:World} {v vN:Value} {gs gb gn:Nat} {ok ok':Nat→Prop} {ec:List Value} {nodes:List aH} (h:BSt w v gs gb gn ok ec W vN nodes) (hok:∀ k,ok k→ok' k):BSt w v gs gb gn ok' ec W vN nodes:=
 ⟨h.b,h.box,h.res,⟨h.sk.es,h.sk.cs,h.sk.cn,h.sk.cm,Kd.R_mono h.sk.row hok⟩⟩
structure uE (w:World) (f:List In) (vf:Value) (gs:Nat) (ec:List Value) (vL:Value) (L:List Int) (nodes:List aH) (W:World) (k:Nat) (outs:List aU) (nodes2:List aH) (vO v2:Value):Prop where
 le:k≤L.length
 fz:Frz W vL L
 b:BSt w vf gs (gs+1) (gs+1+1) (fun j=>gs+1+1 < j∧some j≠vO.ownBlock) ec W v2 nodes2
 ro:Kd.R pF 116 W w.heap.size (fun j=>gs+1+1 < j) vO outs
 ok:NOk f nodes2
 grows:∃ l,nodes2=nodes++l
 len:outs.length=k
 run:bK f L nodes=(outs++(bK f (L.drop k) nodes2).1,(bK f (L.drop k) nodes2).2)
theorem uX:(Tryz.prog.info? 140).map (·.size)=some 1:=by kernel_rfl
theorem zL {nodes:List aH} {n:Nat} {x:aH} (h:(nodes[n]?).map aH.at_=some x.at_):mE (nodes.set n x)=mE nodes:=by
 apply List.ext_getElem?
 intro i
 rw[nC,nC,List.getElem?_set]
 split
 ·rename_i e
  subst e
  cases hq:nodes[n]? with
  | none=>rw[hq] at h;exact absurd h (by simp)
  | some z=>
   rw[hq] at h
   rw[if_pos (List.getElem?_eq_some_iff.1 hq).1]
   simp only[Option.map_some,Option.some.injEq] at h ⊢
   rw[h]
 ·rfl
theorem BSt.put {w W W6:World} {v:Value} {gs g2 n:Nat} {ok:Nat→Prop} {ec:List Value} {nodes:List aH} {vN:Value} (h:BSt w v gs (gs+1) (gs+1+1) ok ec W vN nodes) {p:Int} {xo outs:List aU}
  (hr:Kd.R dl 142 W6 w.heap.size (fun j=>gs+1+1 < j) vN (nodes.set (n:Int).toNat ⟨p,outs⟩)) (hg:W.grownBy W6 (some g2)) (hg2:gs+1+1 < g2) (hx:nodes[n]?=some ⟨p,xo⟩) (hlt:w.heap.size+1 < gs):BSt w v gs (gs+1) (gs+1+1) (fun j=>gs+1+1 < j) ec W6 vN (nodes.set (n:Int).toNat ⟨p,outs⟩):=by
 have ne:∀ j,j≤gs+1+1→some j≠some g2:=fun j hj e=>by injection e with e;omega
 refine h.step (Fr.grown hg (S:=fun j=>some j=some g2) (fun j e=>e)) (fun j hj hs=>ne j (by omega) hs) ⟨h.sk.es,(hg.block _ (ai h.sk.cs) (ne _ (by omega))).trans h.sk.cs,(hg.block _ (ai h.sk.cn) (ne _ (by omega))).trans h.sk.cn,?_,hr⟩
 rw[zL (by rw[Int.toNat_natCast,hx];rfl)]
 exact h.sk.cm.moved (hg.block _ h.sk.cm.lt (ne _ (by omega)))
theorem oJ {w:World} {g n:Nat} {a b:Value} (h0:w.cell? ⟨g,n * 2,none⟩=some a) (h1:w.cell? ⟨g,n * 2+1,none⟩=some b):∀ j u,[a,b][j]?=some u→w.cell? ⟨g,(n:Int).toNat * dl.sz+j,none⟩=some u:=by
 intro j u hj
 rw[Int.toNat_natCast]
 match j,hj with
 | 0,hj=>obtain rfl:=Option.some.inj hj;exact h0
 | 1,hj=>obtain rfl:=Option.some.inj hj;exact h1
theorem zN {w:World} {base gs g2 n cap:Nat} {ok:Nat→Prop} {vO:Value} {p:Int} {outs:List aU} {xs:List aH} (ro:Kd.R pF 116 w base (fun j=>gs+1+1 < j) vO outs) (hr:Kd.R dl 142 w base ok (.slice (some ⟨g2,0,none⟩) n cap) xs) :
  dl.M w base (fun j=>gs+1+1 < j∧j≠g2) ⟨p,outs⟩ [.int .i64 p,vO]:=
 ⟨[.int .i64 p],[vO],rfl,rfl,vO,rfl,Kd.R_mono (Kd.R_apartR ro hr (fun q hq=>by
  rcases List.mem_cons.1 hq with rfl | hq
  ·decide
  ·exact absurd hq (List.not_mem_nil))) (fun j hj=>⟨hj.1,fun e=>hj.2 (by rw[e];rfl)⟩)⟩
section
variable {w W W':World} {f:List In} {vf:Value} {gs:Nat} {ec:List Value} {vL:Value} {L:List Int} {nodes:List aH} {k:Nat} {outs:List aU} {nodes2:List aH} {vO v2:Value}
def tk (w:World) (vf:Value) (gs:Nat) (ec:List Value) (vL:Value) (L:List Int) (outs:List aU) (vO v3:Value) (nodes3:List aH) (W W':World):Prop:=
 Frz W' vL L∧BSt w vf gs (gs+1) (gs+1+1) (fun j=>gs+1+1 < j∧some j≠vO.ownBlock) ec W' v3 nodes3∧Kd.R pF 116 W' w.heap.size (fun j=>gs+1+1 < j) vO outs∧W.heap.size≤W'.heap.size
theorem uE.way_step (h:uE w f vf gs ec vL L nodes W k outs nodes2 vO v2) (hfr:Fr (SkS gs (gs+1) v2) W W') {v3:Value} {nodes3:List aH} (hsk:mj gs (gs+1+1) (gs+1) w.heap.size (fun j=>gs+1+1 < j∧some j≠vO.ownBlock) ec W' v3 nodes3) (hlt:w.heap.size+1 < gs):tk w vf gs ec vL L outs vO v3 nodes3 W W':=by
 refine⟨Bd h.fz hfr (fun g cs hg hs=>?_),h.b.step hfr (fun j hj hs=>?_) hsk,?_,hfr.size⟩
 ·rcases hs with hs | hs | hs
  ·have:=h.b.sk.cs;rw[hs,this] at hg;injection hg with hg;injection hg with _ hg;exact absurd hg (by decide)
  ·obtain⟨es,c,hm,_⟩:=h.b.sk.cm;rw[hs,hm] at hg;exact absurd hg (by simp)
  ·obtain⟨cells,hc⟩:=Kd.R_typed h.b.sk.row g hs.symm;rw[hc] at hg;injection hg with hg;injection hg with _ hg;exact absurd hg (by decide)
 ·rcases hs with hs | hs | hs
  ·omega
  ·omega
  ·have:=(h.b.sk.row.1 j hs.symm).1;omega
 ·refine Kd.R_mono (Kd.R_step (Kd.R_apartR h.ro h.b.sk.row (fun q hq=>?_)) (fun j hj hlt2=>hfr.block j hlt2 (fun hs=>?_))) (fun j hj=>hj.1)
  ·rcases List.mem_cons.1 hq with rfl | hq
   ·decide
   ·exact absurd hq (List.not_mem_nil)
  ·rcases hs with hs | hs | hs
   ·omega
   ·omega
   ·exact hj.2 hs
theorem uE.app_step (h:uE w f vf gs ec vL L nodes W k outs nodes2 vO v2) {W5:World} {v3:Value} {nodes3:List aH} (h5:tk w vf gs ec vL L outs vO v3 nodes3 W W5) {r1:aU} {v1:Value} (ho:Kd.R pF 116 W' w.heap.size (fun j=>gs+1+1 < j) v1 (outs++[r1])) (hg:W5.grownBy W' vO.ownBlock) (hat:v1.ownBlock=vO.ownBlock∨∃ b,v1.ownBlock=some b∧W5.heap.size≤b)
  (hrun:bK f L nodes=(outs++r1 :: (bK f (L.drop (k+1)) nodes3).1,(bK f (L.drop (k+1)) nodes3).2)) (hok:NOk f nodes3) {l2:List aH} (hl2:nodes3=nodes2++l2) (hk:k < L.length) (hlt:w.heap.size+1 < gs):uE w f vf gs ec vL L nodes W' (k+1) (outs++[r1]) nodes3 v1 v3:=by
 obtain⟨hfz,hb,hro,hsz⟩:=h5
 have away:∀ j,j≤gs+1+1→some j≠vO.ownBlock:=fun j hj e=>by have:=hro.1 j e.symm;omega
 refine⟨hk,Bd hfz (Fr.grown hg (S:=fun j=>some j=vO.ownBlock) (fun j e=>e)) (fun g cs hc hs=>?_),hb.step (Fr.grown hg (S:=fun j=>some j=vO.ownBlock) (fun j e=>e)) (fun j hj hs=>away j (by omega) hs) ⟨hb.sk.es,?_,?_,?_,Kd.R_after hb.sk.row hg hat⟩,ho,hok,?_,by rw[List.length_append,h.len];rfl,?_⟩
 ·obtain⟨cells,hc2⟩:=Kd.R_typed hro g hs.symm;rw[hc2] at hc;injection hc with hc;injection hc with _ hc;exact absurd hc (by decide)
 ·exact(hg.block _ (ai hb.sk.cs) (away _ (by omega))).trans hb.sk.cs
 ·exact(hg.block _ (ai hb.sk.cn) (away _ (by omega))).trans hb.sk.cn
 ·exact hb.sk.cm.moved (hg.block _ hb.sk.cm.lt (away _ (by omega)))
 ·obtain⟨l,hl⟩:=h.grows
  exact⟨l++l2,by rw[hl2,hl,List.append_assoc]⟩
 ·rw[hrun,List.append_assoc];rfl
end
end
theorem gY (f:List In) (cut:List Bool) (A Ac:Option Addr) (c cc:Nat) (w:World) (hG:Gl w) (hC:Kd.C kIn w A f.length f) (hc:f.length≤c) (hK:Kd.C Kd.bool w Ac cut.length cut) (hr:bi f=true) :
  Calls Tryz.prog 49 #[.slice A f.length c,.slice Ac cut.length cc] w fun e w'=>∃ vN,e=.returned (.tuple #[.agg ((a9 f cut).entry.cells++[vN]).toArray,.int .i64 0])∧Kd.R dl 142 w' w.heap.size (fun k=>w.heap.size≤k) vN (a9 f cut).nodes∧Below w.heap.size w w':=by
 have hmax:=Kd.C_max hC
 have hRt:=dY A c f
 rw[hr] at hRt
 have HR:=ak_ hRt
 have HF:=ak_ (bN hr)
 have HWay:=ak_ (fun (a:Nat) (ha:a < f.length) (gf gs gn gb base:Nat) (ok:Nat→Prop) (ec:List Value) (vN:Value) (nodes:List aH) (W:World) hG hf hC hS hN hok hfresh hbase=>zq f a gf gs gn gb base ok ec vN nodes A c W hG hf hC hc hr ha hS hN hok hfresh hbase)
 have HC:=ak_ hC
 have HG:=ak_ hG
 have Hc:=ak_ hc
 have HK:=ak_ hK
 obtain⟨S,hS⟩:=nm_ (a9 f cut)
 rw[←hS]
 have HS:=ak_ hS
 clear hG hC hc hK hr hRt hS
 go_enter Tryz.func49,Tryz.ntmps49
 go_upto_region 5 with (first
  | (go_at_call 47;have hbA:=(ae (ae (Below.refl w.heap.size w) (.cells #[.slice A f.length c] 22)) (.cells fq.toArray 119));refine(HR.out _ (HG.out.below hbA) (Kd.C_below HC.out hbA) Hc.out).mono ?_;rintro e w1 ⟨rfl,hb⟩;have hT:=zr w (.slice A f.length c) hb;have HT:=ak_ hT;have e0:=(show w1.cell? ⟨w.heap.size,0,none⟩=some (.slice A f.length c) by rw[ah hT.2.1];rfl);clear hbA hb hT)
  | ((with_reducible refine aj (N:=18) rfl ?_);refine dG rfl 132 rfl ?_))
 obtain⟨gs,hgs⟩:=nm_ w1.heap.size
 have hst:BSt w (.slice A f.length c) w1.heap.size (w1.heap.size+1) (w1.heap.size+1+1) (fun k=>w1.heap.size+1+1 < k) (aU.cells ⟨0,bo⟩) (((w1.alloc (.cells fq.toArray 119)).alloc (.map #[] 0)).alloc (.cells #[.map (some (w1.heap.size+1))] 132)) (.slice none 0 0) []:=
  ⟨ae (ae (ae HT.out.1 _) _) _,aK (aK (aK HT.out.2.1 _) _) _,aK (aK (aK HT.out.2.2 _) _) _,
   ⟨aU.len _,aK (aK (heap_alloc_new w1 _) _) _,by have:=heap_alloc_new ((w1.alloc (.cells fq.toArray 119)).alloc (.map #[] 0)) (.cells #[.map (some (w1.heap.size+1))] 132);simpa using this,⟨#[],0,by have:=heap_alloc_new (w1.alloc (.cells fq.toArray 119)) (.map #[] 0);exact aK (by simpa using this) _,rfl⟩,Kd.R_nil _ _ _ _ _⟩⟩
 have hlt:w.heap.size+1 < w1.heap.size:=ai HT.out.2.2
 have hsz:(((w1.alloc (.cells fq.toArray 119)).alloc (.map #[] 0)).alloc (.cells #[.map (some (w1.heap.size+1))] 132)).heap.size=w1.heap.size+1+1+1:=by simp
 rw[←hgs] at hst hlt hsz ⊢
 obtain⟨wa,hwa⟩:∃ x,x=(((w1.alloc (.cells fq.toArray 119)).alloc (.map #[] 0)).alloc (.cells #[.map (some (gs+1))] 132)):=⟨_,rfl⟩
 rw[←hwa] at hst hsz
 refine ar hwa.symm ?_
 have HB:=ak_ hst
 have HLt:=ak_ hlt
 have HSz:=ak_ hsz
 clear hwa hgs hst hlt hsz HT e0
 go_upto_region 7 with (first
  | (go_at_call 78;refine(HWay.out 0 HF.out.pos w.heap.size gs (gs+1+1) (gs+1) w.heap.size _ _ _ _ wa (HG.out.below HB.out.b) HB.out.box (Kd.C_below HC.out HB.out.b) HB.out.sk (by simp) (fun k hk=>by omega) (fun k hk=>by have:=HSz.out;omega) HB.out.b.size).mono ?_;rintro e w2 ⟨rfl,vN,hsk,hfr⟩;have HB2:=ak_ (HB.out.step hfr (fun k hk h=>by have:=HLt.out;rcases h with h | h | h;omega;omega;exact absurd h (by simp[Value.ownBlock])) hsk);clear hsk hfr)
  | ((with_reducible refine ao (t:=116) (p:=22) rfl ?_);refine dT rfl 116 _ _ rfl gs 0 (da f [] 0).1.cells rfl rfl 119 _ ((da f [] 0).1.cells++[vN]) HB2.out.sk.cs (by rw[aU.len];exact fZ) (by simp[aU.len]) (aU.one _) (by simp[aU.len]) ?_;intro w3 h3 hf3;have H3:=ak_ h3;have F3:=ak_ hf3;clear h3 hf3))
 have hcn:=HB2.out.sk.cn
 have hcm:=HB2.out.sk.cm
 have hb3:BSt w (.slice A f.length c) gs (gs+1) (gs+1+1) (fun k=>gs+1+1 < k) (da f [] 0).1.cells w3 vN (da f [] 0).2:=HB2.out.step F3.out (fun k hk h=>by have:=HLt.out;omega)
  ⟨aU.len _,H3.out,(F3.out.block _ (ai hcn) (by omega)).trans hcn,hcm.moved (F3.out.block _ hcm.lt (by omega)),Kd.R_step HB2.out.sk.row (fun k hk hl=>F3.out.block k hl (by omega))⟩
 have hok1:NOk f (da f [] 0).2:=NOk.way HF.out ⟨by simp,by simp,by simp⟩ HF.out.pos
 have hE:S.entry=(da f [] 0).1:=by rw[HS.out];rfl
 have hNs:S.nodes=bP f cut 201 0 (da f [] 0).2:=by rw[HS.out];rfl
 rw[←hE] at hb3
 obtain⟨N1,hN1⟩:∃ N1,N1=(da f [] 0).2:=⟨_,rfl⟩
 rw[←hN1] at hb3 hok1 hNs
 have HB3:=ak_ hb3
 have HO1:=ak_ hok1
 have HNs:=ak_ hNs
 clear hcn hcm hb3 hok1 hE hNs hN1 HB HB2 H3 F3 HS HR
 go_wp2
 go_loopw [9] (fun i wr=>∃ (n:Nat) (nodes:List aH) (v:Value),i=.int .i64 n∧aa (BSt w (.slice A f.length c) gs (gs+1) (gs+1+1) (fun k=>gs+1+1 < k) S.entry.cells wr v nodes∧NOk f nodes∧n≤nodes.length∧S.nodes=bP f cut (201 - n) n nodes)) (fun i _=>201 - (intOf i).toNat)
 case atStart=>exact⟨0,N1,vN,rfl,⟨⟨HB3.out,HO1.out,Nat.zero_le _,HNs.out⟩⟩⟩
 case round=>
  obtain⟨n,nodes,v,rfl,HL⟩:=hrel
  obtain⟨hB,hN,hn,hfin⟩:=HL.out
  obtain⟨AN,cN,rfl⟩:=Kd.R_slice hB.sk.row
  have s25:=hB.sk.cell
  have e0:=hB.cell
  have hlen:=hN.len
  have hl200:=HF.out.len
  by_cases hlt:n < nodes.length
  ·have hlt':(n:Int) < (nodes.length:Int):=by omega
   obtain⟨x,hx⟩:∃ x,nodes[n]?=some x:=⟨_,List.getElem?_eq_getElem hlt⟩
   obtain⟨g,cap,vO,hsl,n0,n1,hrd,hgl⟩:=oC hB.sk.row n x hx
   obtain⟨rfl,hcap⟩:AN=some ⟨g,0,none⟩∧cN=cap:=by injection hsl with h1 h2 h3;exact⟨h1,h3⟩
   obtain⟨xa,xo⟩:=x
   have hxa:=hN.at_ _ (List.mem_of_getElem? hx)
   have hst:=hN.stops _ (List.mem_of_getElem? hx)
   simp only at hxa hst n0
   obtain⟨p,rfl⟩:∃ p:Nat,xa=p:=⟨xa.toNat,by omega⟩
   simp only[Int.toNat_natCast] at hst
   have hp:p < f.length:=by omega
   have hstep:S.nodes=bP f cut (201 - (n+1)) (n+1) (stepN f cut n ⟨p,xo⟩ nodes):=by
    rw[hfin,show 201 - n=(201 - (n+1))+1 by omega]
    conv=>lhs;unfold bP
    rw[hx]
   have HB4:=ak_ hB
   have HN4:=ak_ hN
   have HSt:=ak_ hstep
   have HX:=ak_ hx
   have HStop:=ak_ hst
   have HHp:=ak_ hp
   have HLn:=ak_ hlt
   have HL2:=ak_ hl200
   have HLen:=ak_ hlen
   obtain⟨y,hy⟩:∃ y,f[p]?=some y:=⟨_,List.getElem?_eq_getElem hp⟩
   have hpf:(p:Int) < (f.length:Int):=by omega
   have hp1:(p:Int)≤200:=by omega
   have hn2:n≤200:=by omega
   have HY:=ak_ hy
   obtain⟨ad,rfl,d0,d1,d2,d3,d4,d5⟩:=po (Kd.C_below HC.out hB.b) p hp y hy
   clear hB hN hfin hstep hx hst hp hlt hl200 hlen hy hxa hn HL hsl hrd
   by_cases hc1:p < cut.length
   ·have hc1':(p:Int) < (cut.length:Int):=by omega
    obtain⟨bc,hbc⟩:∃ bc,cut[p]?=some bc:=⟨_,List.getElem?_eq_getElem hc1⟩
    obtain⟨ac,rfl,hcell⟩:=(Kd.reads_of_C (d:=false) (Kd.C_below HK.out HB4.out.b)).2.2 (by omega)
    have hcc:=hcell p hc1
    rw[List.getD_eq_getElem?_getD,hbc] at hcc
    simp only[Option.getD_some] at hcc
    have HBc:=ak_ hbc
    have HC1:=ak_ hc1
    clear hcell hbc
    cases bc with
    | true=>
     have HSt2:aa (stepN f cut n ⟨p,xo⟩ nodes=nodes):=⟨by unfold stepN;rw[if_pos (show iT cut (p:Int)=true by unfold iT;rw[Int.toNat_natCast,List.getD_eq_getElem?_getD,HBc.out,decide_eq_true hc1'];rfl)]⟩
     go_wp2
     go_roundw
     case rel=>exact⟨n+1,nodes,_,by go_num,⟨⟨HB4.out,HN4.out,HLn.out,by rw[HSt2.out] at HSt;exact HSt.out⟩⟩⟩
     case measure=>have:=HLn.out;have:=HLen.out;have:=HL2.out;simp[intOf];omega
    | false=>
     have HCut:aa (iT cut (p:Int)=false):=⟨by unfold iT;simp[List.getD_eq_getElem?_getD,HBc.out]⟩
     have HNx:=ak_ (fun W=>m5 y p (by have:=HHp.out;have:=HL2.out;omega) W)
     obtain⟨L,hL⟩:=nm_ (ce y (p:Int))
     have HLin:aa (∀ a∈L,0≤a∧a < f.length):=⟨fun a ha=>by
      rw[hL] at ha
      rcases oK HF.out HY.out a ha with q | q
      ·have h2:=HStop.out;rw[List.getD_eq_getElem?_getD,HY.out] at h2;simp only[Option.getD_some] at h2;rw[h2] at q;exact absurd q (by decide)
      ·exact q⟩
     have HL3:aa (L.length≤2):=⟨by rw[hL];unfold ce;split <;> (try split) <;> simp⟩
     rw[←hL] at HNx
     have HStp:aa (stepN f cut n ⟨p,xo⟩ nodes=(bK f L nodes).2.set n ⟨p,(bK f L nodes).1⟩):=⟨by unfold stepN;rw[if_neg (by rw[HCut.out];decide),hL,Int.toNat_natCast,List.getD_eq_getElem?_getD,HY.out];rfl⟩
     clear hL
     go_upto_block 6 with (first
      | (go_at_call 79;refine(HNx.out _).mono ?_;rintro e w4 ⟨vL,rfl,hfz,hb⟩;obtain⟨AL,rfl⟩:=qC hfz;have HFz:=ak_ hfz;have HB5:=ak_ (HB4.out.below hb);clear hfz hb))
     go_loopw [11,53] (fun vO j wr=>∃ (k:Nat) (outs:List aU) (nodes2:List aH) (v2:Value),j=.int .i64 k∧aa (uE w f (.slice (some ad) f.length c) gs S.entry.cells (.slice AL L.length L.length) L nodes wr k outs nodes2 vO v2)) (fun _ j _=>L.length - (intOf j).toNat)
     case atStart=>exact⟨0,[],nodes,_,rfl,⟨⟨Nat.zero_le _,HFz.out,HB5.out.ok_mono (fun k hk=>⟨hk,by simp[Value.ownBlock]⟩),Kd.R_nil _ _ _ _ _,HN4.out,⟨[],by simp⟩,by simp,rfl⟩⟩⟩
     case round=>
      obtain⟨k,outs,nodes2,v2,rfl,HI⟩:=hrel
      have hk:=HI.out.le
      have hL2:=HL3.out
      by_cases hkl:k < L.length
      ·have hkl':(k:Int) < (L.length:Int):=by omega
       have hfz2:=HI.out.fz
       obtain⟨gL,rfl,hgL⟩:∃ gL,AL=some ⟨gL,0,none⟩∧wr.heap[gL]?=some (.cells (L.map (Value.int .i64)).toArray 3 (0,0)):=by
        rcases hfz2 with ⟨_,h⟩ | ⟨gL,h1,h2⟩
        ·rw[h] at hkl;exact absurd hkl (by simp)
        ·injection h1 with h1 _ _;exact⟨gL,h1,h2⟩
       obtain⟨am,ham⟩:∃ am,L[k]?=some am:=⟨_,List.getElem?_eq_getElem hkl⟩
       have hamr:=HLin.out am (List.mem_of_getElem? ham)
       obtain⟨m,rfl⟩:∃ m:Nat,am=m:=⟨am.toNat,by omega⟩
       have eL:wr.cell? ⟨gL,k,none⟩=some (.int .i64 (m:Int)):=by rw[ap hgL,List.getElem?_map,ham];rfl
       obtain⟨AO,cO,rfl⟩:=Kd.R_slice HI.out.ro
       have HCall:=ak_ (HWay.out m (by omega) w.heap.size gs (gs+1+1) (gs+1) w.heap.size _ _ _ _ wr (HG.out.below HI.out.b.b) HI.out.b.box (Kd.C_below HC.out HI.out.b.b) HI.out.b.sk (by have:=HI.out.ok.len;have:=HF.out.len;omega) (fun k hk=>by omega) (fun j hj=>⟨by have:=ai HI.out.b.sk.cn;omega,fun e=>by have:=Kd.R_lt HI.out.ro j e.symm;omega⟩) HI.out.b.b.size)
       have hrun:=HI.out.run
       rw[List.drop_eq_getElem_cons hkl,(List.getElem?_eq_some_iff.1 ham).2] at hrun
       simp only[bK,Int.toNat_natCast] at hrun
       have hokw:=HI.out.ok.way HF.out (a:=m) (by omega)
       obtain⟨l2,hl2⟩:=ms f nodes2 m
       obtain⟨r1,r2,hr12⟩:∃ r1 r2,da f nodes2 m=(r1,r2):=⟨_,_,rfl⟩
       rw[hr12] at HCall hrun hokw hl2
       simp only at HCall hrun hokw hl2
       have HRun:=ak_ hrun
       have HOkw:=ak_ hokw
       have HGr:=ak_ hl2
       have HFresh:=ak_ (ai HI.out.b.sk.cn)
       have hk2:k≤2:=by omega
       clear hgL ham hamr hrun hokw hl2 hr12 hfz2
       go_wp2_with (first
        | (go_at_call 78;refine HCall.out.mono ?_;rintro e w5 ⟨rfl,v3,hsk,hfr⟩;have K5:=ak_ (HI.out.way_step hfr hsk (by have:=HLt.out;omega));clear hsk hfr)
        | ((with_reducible refine aj (N:=61) rfl ?_);refine dk rfl _ (uR r1 _ rfl rfl) ?_)
        | ((with_reducible refine a7 (b:=.append) (xs:=#[.tmp 57,.tmp 61]) rfl ?_);at_builtin;refine Kd.R_append pF (w0:=w5) w.heap.size rfl (.tmp 57) (.tmp 61) 140 116 (.agg (aU.cells ⟨0,bo⟩).toArray) 392 rfl Tryz.underlying140 oS rfl (by decide) (by omega) (.slice AO outs.length cO) (outs) (r1) r1.cells (fun j=>gs+1+1 < j) (fun _=>False) rfl rfl ?aP (fun _ hk=>hk.elim) ?aF ?aO ?aB ?aS ?aL ?_;(case aP=>exact rfl);(case aF=>exact(fun b hb=>by have:=K5.out.2.2.2;have:=HFresh.out;omega));(case aO=>exact K5.out.2.2.1);(case aB=>exact Below.refl _ _);(case aS=>exact K5.out.2.1.b.size);(case aL=>have:=HI.out.len;omega);intro vap wap ho hb hg hat;have K7:=ak_ (HI.out.app_step K5.out ho hg hat HRun.out HOkw.out HGr.out hkl (by have:=HLt.out;omega));clear ho hb hg hat))
       go_roundw
       case rel=>exact⟨k+1,outs++[r1],r2,v3,by go_num,K7⟩
       case measure=>simp[intOf];omega
      ·obtain rfl:k=L.length:=by omega
       have hrun:=HI.out.run
       rw[List.drop_of_length_le (Nat.le_refl _)] at hrun
       simp only[bK,List.append_nil] at hrun
       obtain⟨l,hl⟩:=HI.out.grows
       have hx2:nodes2[n]?=some ⟨p,xo⟩:=by rw[hl,List.getElem?_append_left HLn.out];exact HX.out
       obtain⟨AO,cO,rfl⟩:=Kd.R_slice HI.out.ro
       obtain⟨g2,cap2,vO2,rfl,m0,m1,_,_⟩:=oC HI.out.b.sk.row n _ hx2
       have hg2:=HI.out.b.sk.row.1 g2 (by simp[Value.ownBlock])
       have s25':=HI.out.b.sk.cell
       have hn2l:n < nodes2.length:=(List.getElem?_eq_some_iff.1 hx2).1
       have hn2l':(n:Int) < (nodes2.length:Int):=by omega
       have hput:aa (∀ (W6:World),Kd.R dl 142 W6 w.heap.size (fun j=>gs+1+1 < j) (.slice (some ⟨g2,0,none⟩) nodes2.length cap2) (nodes2.set (n:Int).toNat ⟨p,outs⟩)→wr.grownBy W6 (some g2)→∃ (nn:Nat) (nodes:List aH) (v:Value),Value.int .i64 ((n:Int)+1)=.int .i64 nn∧aa (BSt w (.slice (some ad) f.length c) gs (gs+1) (gs+1+1) (fun k=>gs+1+1 < k) S.entry.cells W6 v nodes∧NOk f nodes∧nn≤nodes.length∧S.nodes=bP f cut (201 - nn) nn nodes)):=
        ⟨fun W6 hr6 hg6=>⟨n+1,_,_,by go_num,⟨⟨HI.out.b.put hr6 hg6 hg2.1 hx2 (by have:=HLt.out;omega),HI.out.ok.put (x:=⟨p,outs⟩) (by rw[Int.toNat_natCast,hx2];rfl),by rw[List.length_set];omega,by rw[HSt.out,HStp.out,hrun,Int.toNat_natCast]⟩⟩⟩⟩
       have HM0:=ak_ m0
       have HM1:=ak_ m1
       have HG2:=ak_ hg2
       clear hrun hl hx2 m0 m1 hg2 hn2l
       go_wp2_with (first
        | ((with_reducible refine ao (t:=140) (p:=69) rfl ?_);refine Kd.R_store dl (w0:=wr) (o':=n * 2+1) w.heap.size rfl rfl 140 _ _ rfl 142 (n:Int) 1 nodes2 ⟨p,outs⟩ (.slice AO outs.length cO) [.slice AO outs.length cO] [.int .i64 (p:Int),vO2] (fun j=>gs+1+1 < j) (fun j=>gs+1+1 < j∧j≠g2) rfl rfl rfl rfl uX (by simp[Value.oneCell']) (Kd.R_mono HI.out.b.sk.row (fun j hj=>hj.1)) (by omega) hn2l' rfl (oJ HM0.out HM1.out) (Nat.le_refl 2) (zN HI.out.ro HI.out.b.sk.row) (fun k hk=>hk) (Below.refl _ _) ?_;intro w6 hr6 hb6 hg6;have Z:=ak_ (hput.out w6 hr6 hg6);clear hr6 hb6 hg6))
       go_roundw
       case rel=>exact Z.out
       case measure=>simp[intOf];omega
   ·have hc1':¬ (p:Int) < (cut.length:Int):=by omega
    have HCut:aa (iT cut (p:Int)=false):=⟨by unfold iT;simp[hc1]⟩
    clear hc1
    have HNx:=ak_ (fun W=>m5 y p (by have:=HHp.out;have:=HL2.out;omega) W)
    obtain⟨L,hL⟩:=nm_ (ce y (p:Int))
    have HLin:aa (∀ a∈L,0≤a∧a < f.length):=⟨fun a ha=>by
     rw[hL] at ha
     rcases oK HF.out HY.out a ha with q | q
     ·have h2:=HStop.out;rw[List.getD_eq_getElem?_getD,HY.out] at h2;simp only[Option.getD_some] at h2;rw[h2] at q;exact absurd q (by decide)
     ·exact q⟩
    have HL3:aa (L.length≤2):=⟨by rw[hL];unfold ce;split <;> (try split) <;> simp⟩
    rw[←hL] at HNx
    have HStp:aa (stepN f cut n ⟨p,xo⟩ nodes=(bK f L nodes).2.set n ⟨p,(bK f L nodes).1⟩):=⟨by unfold stepN;rw[if_neg (by rw[HCut.out];decide),hL,Int.toNat_natCast,List.getD_eq_getElem?_getD,HY.out];rfl⟩
    clear hL
    go_upto_block 6 with (first
     | (go_at_call 79;refine(HNx.out _).mono ?_;rintro e w4 ⟨vL,rfl,hfz,hb⟩;obtain⟨AL,rfl⟩:=qC hfz;have HFz:=ak_ hfz;have HB5:=ak_ (HB4.out.below hb);clear hfz hb))
    go_loopw [11,53] (fun vO j wr=>∃ (k:Nat) (outs:List aU) (nodes2:List aH) (v2:Value),j=.int .i64 k∧aa (uE w f (.slice (some ad) f.length c) gs S.entry.cells (.slice AL L.length L.length) L nodes wr k outs nodes2 vO v2)) (fun _ j _=>L.length - (intOf j).toNat)
    case atStart=>exact⟨0,[],nodes,_,rfl,⟨⟨Nat.zero_le _,HFz.out,HB5.out.ok_mono (fun k hk=>⟨hk,by simp[Value.ownBlock]⟩),Kd.R_nil _ _ _ _ _,HN4.out,⟨[],by simp⟩,by simp,rfl⟩⟩⟩
    case round=>
     obtain⟨k,outs,nodes2,v2,rfl,HI⟩:=hrel
     have hk:=HI.out.le
     have hL2:=HL3.out
     by_cases hkl:k < L.length
     ·have hkl':(k:Int) < (L.length:Int):=by omega
      have hfz2:=HI.out.fz
      obtain⟨gL,rfl,hgL⟩:∃ gL,AL=some ⟨gL,0,none⟩∧wr.heap[gL]?=some (.cells (L.map (Value.int .i64)).toArray 3 (0,0)):=by
       rcases hfz2 with ⟨_,h⟩ | ⟨gL,h1,h2⟩
       ·rw[h] at hkl;exact absurd hkl (by simp)
       ·injection h1 with h1 _ _;exact⟨gL,h1,h2⟩
      obtain⟨am,ham⟩:∃ am,L[k]?=some am:=⟨_,List.getElem?_eq_getElem hkl⟩
      have hamr:=HLin.out am (List.mem_of_getElem? ham)
      obtain⟨m,rfl⟩:∃ m:Nat,am=m:=⟨am.toNat,by omega⟩
      have eL:wr.cell? ⟨gL,k,none⟩=some (.int .i64 (m:Int)):=by rw[ap hgL,List.getElem?_map,ham];rfl
      obtain⟨AO,cO,rfl⟩:=Kd.R_slice HI.out.ro
      have HCall:=ak_ (HWay.out m (by omega) w.heap.size gs (gs+1+1) (gs+1) w.heap.size _ _ _ _ wr (HG.out.below HI.out.b.b) HI.out.b.box (Kd.C_below HC.out HI.out.b.b) HI.out.b.sk (by have:=HI.out.ok.len;have:=HF.out.len;omega) (fun k hk=>by omega) (fun j hj=>⟨by have:=ai HI.out.b.sk.cn;omega,fun e=>by have:=Kd.R_lt HI.out.ro j e.symm;omega⟩) HI.out.b.b.size)
      have hrun:=HI.out.run
      rw[List.drop_eq_getElem_cons hkl,(List.getElem?_eq_some_iff.1 ham).2] at hrun
      simp only[bK,Int.toNat_natCast] at hrun
      have hokw:=HI.out.ok.way HF.out (a:=m) (by omega)
      obtain⟨l2,hl2⟩:=ms f nodes2 m
      obtain⟨r1,r2,hr12⟩:∃ r1 r2,da f nodes2 m=(r1,r2):=⟨_,_,rfl⟩
      rw[hr12] at HCall hrun hokw hl2
      simp only at HCall hrun hokw hl2
      have HRun:=ak_ hrun
      have HOkw:=ak_ hokw
      have HGr:=ak_ hl2
      have HFresh:=ak_ (ai HI.out.b.sk.cn)
      have hk2:k≤2:=by omega
      clear hgL ham hamr hrun hokw hl2 hr12 hfz2
      go_wp2_with (first
       | (go_at_call 78;refine HCall.out.mono ?_;rintro e w5 ⟨rfl,v3,hsk,hfr⟩;have K5:=ak_ (HI.out.way_step hfr hsk (by have:=HLt.out;omega));clear hsk hfr)
       | ((with_reducible refine aj (N:=61) rfl ?_);refine dk rfl _ (uR r1 _ rfl rfl) ?_)
       | ((with_reducible refine a7 (b:=.append) (xs:=#[.tmp 57,.tmp 61]) rfl ?_);at_builtin;refine Kd.R_append pF (w0:=w5) w.heap.size rfl (.tmp 57) (.tmp 61) 140 116 (.agg (aU.cells ⟨0,bo⟩).toArray) 392 rfl Tryz.underlying140 oS rfl (by decide) (by omega) (.slice AO outs.length cO) (outs) (r1) r1.cells (fun j=>gs+1+1 < j) (fun _=>False) rfl rfl ?aP (fun _ hk=>hk.elim) ?aF ?aO ?aB ?aS ?aL ?_;(case aP=>exact rfl);(case aF=>exact(fun b hb=>by have:=K5.out.2.2.2;have:=HFresh.out;omega));(case aO=>exact K5.out.2.2.1);(case aB=>exact Below.refl _ _);(case aS=>exact K5.out.2.1.b.size);(case aL=>have:=HI.out.len;omega);intro vap wap ho hb hg hat;have K7:=ak_ (HI.out.app_step K5.out ho hg hat HRun.out HOkw.out HGr.out hkl (by have:=HLt.out;omega));clear ho hb hg hat))
      go_roundw
      case rel=>exact⟨k+1,outs++[r1],r2,v3,by go_num,K7⟩
      case measure=>simp[intOf];omega
     ·obtain rfl:k=L.length:=by omega
      have hrun:=HI.out.run
      rw[List.drop_of_length_le (Nat.le_refl _)] at hrun
      simp only[bK,List.append_nil] at hrun
      obtain⟨l,hl⟩:=HI.out.grows
      have hx2:nodes2[n]?=some ⟨p,xo⟩:=by rw[hl,List.getElem?_append_left HLn.out];exact HX.out
      obtain⟨AO,cO,rfl⟩:=Kd.R_slice HI.out.ro
      obtain⟨g2,cap2,vO2,rfl,m0,m1,_,_⟩:=oC HI.out.b.sk.row n _ hx2
      have hg2:=HI.out.b.sk.row.1 g2 (by simp[Value.ownBlock])
      have s25':=HI.out.b.sk.cell
      have hn2l:n < nodes2.length:=(List.getElem?_eq_some_iff.1 hx2).1
      have hn2l':(n:Int) < (nodes2.length:Int):=by omega
      have hput:aa (∀ (W6:World),Kd.R dl 142 W6 w.heap.size (fun j=>gs+1+1 < j) (.slice (some ⟨g2,0,none⟩) nodes2.length cap2) (nodes2.set (n:Int).toNat ⟨p,outs⟩)→wr.grownBy W6 (some g2)→∃ (nn:Nat) (nodes:List aH) (v:Value),Value.int .i64 ((n:Int)+1)=.int .i64 nn∧aa (BSt w (.slice (some ad) f.length c) gs (gs+1) (gs+1+1) (fun k=>gs+1+1 < k) S.entry.cells W6 v nodes∧NOk f nodes∧nn≤nodes.length∧S.nodes=bP f cut (201 - nn) nn nodes)):=
       ⟨fun W6 hr6 hg6=>⟨n+1,_,_,by go_num,⟨⟨HI.out.b.put hr6 hg6 hg2.1 hx2 (by have:=HLt.out;omega),HI.out.ok.put (x:=⟨p,outs⟩) (by rw[Int.toNat_natCast,hx2];rfl),by rw[List.length_set];omega,by rw[HSt.out,HStp.out,hrun,Int.toNat_natCast]⟩⟩⟩⟩
      have HM0:=ak_ m0
      have HM1:=ak_ m1
      have HG2:=ak_ hg2
      clear hrun hl hx2 m0 m1 hg2 hn2l
      go_wp2_with (first
       | ((with_reducible refine ao (t:=140) (p:=69) rfl ?_);refine Kd.R_store dl (w0:=wr) (o':=n * 2+1) w.heap.size rfl rfl 140 _ _ rfl 142 (n:Int) 1 nodes2 ⟨p,outs⟩ (.slice AO outs.length cO) [.slice AO outs.length cO] [.int .i64 (p:Int),vO2] (fun j=>gs+1+1 < j) (fun j=>gs+1+1 < j∧j≠g2) rfl rfl rfl rfl uX (by simp[Value.oneCell']) (Kd.R_mono HI.out.b.sk.row (fun j hj=>hj.1)) (by omega) hn2l' rfl (oJ HM0.out HM1.out) (Nat.le_refl 2) (zN HI.out.ro HI.out.b.sk.row) (fun k hk=>hk) (Below.refl _ _) ?_;intro w6 hr6 hb6 hg6;have Z:=ak_ (hput.out w6 hr6 hg6);clear hr6 hb6 hg6))
      go_roundw
      case rel=>exact Z.out
      case measure=>simp[intOf];omega
  ·obtain rfl:n=nodes.length:=by omega
   have hfin2:S.nodes=nodes:=by
    rw[hfin,show 201 - nodes.length=(200 - nodes.length)+1 by omega]
    unfold bP
    rw[List.getElem?_eq_none (by omega)]
   have HB4:=ak_ hB
   have HFin:=ak_ hfin2
   clear hB hN hn hfin hfin2
   go_wp2_with (first
    | ((with_reducible refine aj (N:=70) rfl ?_);refine wpList_load_row rfl 119 _ rfl gs rfl 119 (S.entry.cells++[Value.slice AN nodes.length cN]).toArray (0,0) _ HB4.out.sk.cs Tryz.underlying119 rfl (dH _ _) ?_)
    | ((with_reducible refine ao (t:=119) (p:=4) rfl ?_);refine an rfl 119 _ _ rfl (w.heap.size+1) (S.entry.cells++[Value.slice AN nodes.length cN]).toArray rfl rfl 119 fq.toArray HB4.out.res (dH _ _) (skz.trans (jQ _ _).symm) (qK _) ?_;intro w6 h6 hf6;have H6:=ak_ h6;have F6:=ak_ hf6;clear h6 hf6))
   have B6:Below w.heap.size w w6:=Fr.below HB4.out.b F6.out (fun k hk h=>by omega) HB4.out.b.size
   refine bodyPost_ret (v:=.tuple #[.agg (S.entry.cells++[Value.slice AN nodes.length cN]).toArray,.int .i64 0]) (aA (rs:=[.cell 4 119,.tmp 5]) rfl (by simp) (.cell (w.heap.size+1) 119 (S.entry.cells++[Value.slice AN nodes.length cN]).toArray (0,0) _ rfl H6.out Tryz.underlying119 rfl (dH _ _) (.tmp .nil))) rfl ⟨_,rfl,?_,B6⟩
   rw[HFin.out]
   exact Kd.R_mono (Kd.R_step HB4.out.sk.row (fun k hk hl=>F6.out.block k hl (by have:=HLt.out;omega))) (fun k hk=>by have:=HLt.out;omega)
theorem tB (f:List In) (cut:List Bool) (A Ac:Option Addr) (c cc:Nat) (w:World) (hG:Gl w) (hC:Kd.C kIn w A f.length f) (hc:f.length≤c) (hK:Kd.C Kd.bool w Ac cut.length cut) (hr:bi f=true) :
  Calls Tryz.prog 49 #[.slice A f.length c,.slice Ac cut.length cc] w fun e w'=>∃ vN,e=.returned (.tuple #[.agg ((a9 f cut).entry.cells++[vN]).toArray,.int .i64 0])∧Rd dl w' vN (a9 f cut).nodes∧Below w.heap.size w w':=
 (gY f cut A Ac c cc w hG hC hc hK hr).mono fun e w' ⟨v,h1,h3,h4⟩=>⟨v,h1,Rd.of_R h3,h4⟩
section
structure Mat {α:Type} (d:Kd α) (e t base lo:Nat) (W:World) (g:Nat) (vs:List Value) (rows:List (List α)):Prop where
 blk:W.heap[g]?=some (.cells vs.toArray t (0,0))
 len:vs.length=rows.length
 row:∀ (i:Nat) (v:Value) (xs:List α),vs[i]?=some v→rows[i]?=some xs→Kd.R d e W base (fun k=>lo≤k∧k≠g) v xs
 apart:∀ (i j:Nat) (v u:Value),vs[i]?=some v→vs[j]?=some u→i≠j→∀ k,v.ownBlock=some k→u.ownBlock≠some k
theorem Mat.put {α:Type} {d:Kd α} {e t base lo:Nat} {W W1:World} {g:Nat} {vs:List Value} {rows:List (List α)} (h:Mat d e t base lo W g vs rows) (hE:d.E=[]) {i:Nat} {v v1:Value} {xs ys:List α} (hv:vs[i]?=some v) (hx:rows[i]?=some xs)
  (hR:Kd.R d e W1 base (fun k=>lo≤k∧k≠g) v1 ys) (hb:W1.heap[g]?=some (.cells (vs.set i v1).toArray t (0,0))) (hfr:Fr (fun k=>k=g∨some k=v.ownBlock) W W1) (hat:v1.ownBlock=v.ownBlock∨∃ b,v1.ownBlock=some b∧W.heap.size≤b):Mat d e t base lo W1 g (vs.set i v1) (rows.set i ys):=by
 have hat2:∀ (j:Nat) (u:Value),vs[j]?=some u→j≠i→∀ k,u.ownBlock=some k→v1.ownBlock≠some k:=by
  intro j u hu hne k hk he
  rcases hat with q | ⟨b,q,hl⟩
  ·rw[q] at he;exact h.apart j i u v hu hv hne k hk he
  ·rw[q] at he
   injection he with he
   obtain⟨zs,hz⟩:∃ zs,rows[j]?=some zs:=⟨_,List.getElem?_eq_getElem (by rw[←h.len];exact(List.getElem?_eq_some_iff.1 hu).1)⟩
   have:=Kd.R_lt (h.row j u zs hu hz) k hk
   omega
 refine⟨hb,by rw[List.length_set,List.length_set,h.len],fun j u zs hu hz=>?_,fun j l u z hu hz hne k hk=>?_⟩
 ·by_cases hj:j=i
  ·subst hj
   rw[List.getElem?_set_self (List.getElem?_eq_some_iff.1 hv).1] at hu
   rw[List.getElem?_set_self (List.getElem?_eq_some_iff.1 hx).1] at hz
   obtain rfl:=Option.some.inj hu
   obtain rfl:=Option.some.inj hz
   exact hR
  ·rw[List.getElem?_set_ne (fun e=>hj e.symm)] at hu hz
   have hr:=h.row j u zs hu hz
   have hr2:Kd.R d e W base (fun k=>(lo≤k∧k≠g)∧some k≠v.ownBlock) u zs:=by
    refine⟨fun k hk=>⟨hr.1 k hk,fun q=>h.apart j i u v hu hv hj k hk q.symm⟩,?_⟩
    refine hr.2.imp_ (fun x cs hm=>?_)
    refine d.M_mono (fun k hk=>?_) (d.M_bound hm)
    obtain⟨_,_,_,q,hq,_⟩:=hk
    rw[hE] at hq
    exact absurd hq (List.not_mem_nil)
   exact Kd.R_mono (Kd.R_step hr2 (fun k hk hlt=>hfr.block k hlt (fun hs=>by rcases hs with hs | hs;exact hk.1.2 hs;exact hk.2 hs))) (fun k hk=>hk.1)
 ·by_cases hj:j=i
  ·subst hj
   rw[List.getElem?_set_self (List.getElem?_eq_some_iff.1 hv).1] at hu
   obtain rfl:=Option.some.inj hu
   rw[List.getElem?_set_ne hne] at hz
   exact fun q=>hat2 l z hz (fun e=>hne e.symm) k q hk
  ·rw[List.getElem?_set_ne (fun e=>hj e.symm)] at hu
   by_cases hl:l=i
   ·subst hl
    rw[List.getElem?_set_self (List.getElem?_eq_some_iff.1 hv).1] at hz
    obtain rfl:=Option.some.inj hz
    exact hat2 j u hu hj k hk
   ·rw[List.getElem?_set_ne (fun e=>hl e.symm)] at hz
    exact h.apart j l u z hu hz hne k hk
theorem Mat.below {α:Type} {d:Kd α} {e t base lo:Nat} {W W1:World} {g:Nat} {vs:List Value} {rows:List (List α)} (h:Mat d e t base lo W g vs rows) (hb:Below W.heap.size W W1):Mat d e t base lo W1 g vs rows:=
 ⟨ag h.blk hb,h.len,fun i v xs hv hx=>Kd.R_below (h.row i v xs hv hx) hb,h.apart⟩
theorem Mat.fr {α:Type} {d:Kd α} {e t base lo:Nat} {W W1:World} {g:Nat} {vs:List Value} {rows:List (List α)} (h:Mat d e t base lo W g vs rows) {S:Nat→Prop} (hf:Fr S W W1) (hs:∀ k,lo≤k∨k=g→¬ S k):Mat d e t base lo W1 g vs rows:=
 ⟨(hf.block g (ai h.blk) (hs g (.inr rfl))).trans h.blk,h.len,fun i v xs hv hx=>Kd.R_step (h.row i v xs hv hx) (fun k hk hlt=>hf.block k hlt (hs k (.inl hk.1))),h.apart⟩
abbrev bL:=Int × Int
def bL.cells (e:bL):List Value:=[.int .i64 e.1,.int .i64 e.2]
def cL:Kd bL:=Kd.flat 2 bL.cells (fun _=>rfl) (by simp[bL.cells,Value.oneCell'])
theorem BS:(Tryz.prog.info? 151).map (fun i=>(i.zero,i.size,i.bytes))=some (some (.agg #[.int .i64 0,.int .i64 0]),2,16):=by kernel_rfl
theorem ik:(Tryz.prog.info? 151).map (·.size)=some 2:=by kernel_rfl
theorem ut {aF:Act} {o:Oper} (x:bL) (W:World) {u:Operand} (ho:o.op=.buildSlice 149 1 #[(0,u)]) (hu:aF.eval u=.agg #[.int .i64 x.1,.int .i64 x.2]):(execOp aF.eval o).run Tryz.prog W=.ok (.value (.slice (some ⟨W.heap.size,0,none⟩) 1 1)) (W.alloc (.cells #[.int .i64 x.1,.int .i64 x.2] 151)):=by
 unfold execOp
 simp only[ho,List.map_toArray,List.map_cons,List.map_nil,hu]
 go_simp
structure pu (W0:World) (base gt g i:Nat) (ok:Nat→Prop) (vOut vE:Value) (vs:List Value) (es:List bL) (e:bL) (l7 l8 l10:Bool) (s:Value × Value) (W:World):Prop where
 fr0:Fr (fun k=>k=g∨some k=vE.ownBlock) W0 W
 ct:W.heap[gt]?=some (.cells #[vOut] 122 (0,0))
 cg:W.heap[g]?=some (.cells (if l10=true then vs.set i s.2 else vs).toArray 149 (0,0))
 bx:l7=true→∃ k,s.1=.slice (some ⟨k,0,none⟩) 1 1∧W0.heap.size≤k∧W.heap[k]?=some (.cells #[.int .i64 e.1,.int .i64 e.2] 151 (0,0))
 re:Kd.R cL 151 W base ok (if l8=true then s.2 else vE) (if l8=true then es++[e] else es)
 at_:l8=true→s.2.ownBlock=vE.ownBlock∨∃ b,s.2.ownBlock=some b∧W0.heap.size≤b
section
variable {W0 W W':World} {base gt g i:Nat} {ok:Nat→Prop} {vOut vE v:Value} {vs:List Value} {es:List bL} {e:bL} {l7 l8 l10:Bool} {s:Value × Value}
theorem pu.box (h:pu W0 base gt g i ok vOut vE vs es e l7 l8 l10 s W):pu W0 base gt g i ok vOut vE vs es e true l8 l10 (.slice (some ⟨W.heap.size,0,none⟩) 1 1,s.2) (W.alloc (.cells #[.int .i64 e.1,.int .i64 e.2] 151)):=by
 obtain⟨h0,h1,h2,h3,h4,h5⟩:=h
 have hbl:=ae (Below.refl W.heap.size W) (.cells #[.int .i64 e.1,.int .i64 e.2] 151 (0,0))
 exact⟨h0.trans (Fr.of_below hbl),ag h1 hbl,ag h2 hbl,fun _=>⟨_,rfl,h0.size,heap_alloc_last W _⟩,Kd.R_below h4 hbl,h5⟩
theorem pu.app (h:pu W0 base gt g i ok vOut vE vs es e l7 false false s W) (r0:Kd.R cL 151 W0 base ok vE es) (hok:∀ k,ok k→k≠gt∧k≠g)
  (hR:Kd.R cL 151 W' base ok v (es++[e])) (hg:W.grownBy W' vE.ownBlock) (hat:v.ownBlock=vE.ownBlock∨∃ b,v.ownBlock=some b∧W.heap.size≤b):pu W0 base gt g i ok vOut vE vs es e l7 true false (s.1,v) W':=by
 obtain⟨h0,h1,h2,h3,h4,h5⟩:=h
 have nt:some gt≠vE.ownBlock:=Kd.R_away r0 (fun k hk=>(hok k hk).1)
 have ng:some g≠vE.ownBlock:=Kd.R_away r0 (fun k hk=>(hok k hk).2)
 refine⟨h0.trans (Fr.grown hg (fun k e=>.inr e)),(hg.block _ (ai h1) nt).trans h1,(hg.block _ (ai h2) ng).trans h2,fun e=>?_,hR,fun _=>?_⟩
 ·obtain⟨k,e1,e2,e3⟩:=h3 e
  exact⟨k,e1,e2,(hg.block _ (ai e3) (fun q=>by have:=Kd.R_lt r0 k q.symm;omega)).trans e3⟩
 ·rcases hat with q | ⟨b,q,hl⟩
  ·exact .inl q
  ·exact .inr ⟨b,q,by have:=h0.size;omega⟩
theorem pu.put (h:pu W0 base gt g i ok vOut vE vs es e l7 true false s W) (hok:∀ k,ok k→k≠gt∧k≠g) (hne:gt≠g) (hlt:g < W0.heap.size):pu W0 base gt g i ok vOut vE vs es e l7 true true s (W.setCell ⟨g,i,none⟩ s.2):=by
 obtain⟨h0,h1,h2,h3,h4,h5⟩:=h
 refine⟨h0.trans (Fr.cell (p:=⟨g,i,none⟩) (.inl rfl) _),a8 h1 (p:=⟨g,i,none⟩) hne _,aJ h2 i s.2,fun e=>?_,Kd.R_step h4 (fun k hk _=>Below.heap_setCell W ⟨g,i,none⟩ _ k (hok k hk).2),h5⟩
 obtain⟨k,e1,e2,e3⟩:=h3 e
 exact⟨k,e1,e2,a8 e3 (p:=⟨g,i,none⟩) (by show k≠g;omega) _⟩
end
def fw (rows:List (List bL)) (a:Int) (e:bL):List (List bL):=if 0≤a∧a < rows.length then rows.set a.toNat (rows.getD a.toNat []++[e]) else rows
end
end Go.Proofs.YtlinbehijfcelaaGreatDoor.Top
