/- Walks of the program, and what it computes, told plainly. No condition. (USF USG USH USI USJ USK USL USM USN) -/
import Derived.Test.YtlinbehijfcelaaGreatDoorPH
set_option linter.unusedVariables false
set_option linter.unusedSimpArgs false
set_option linter.unusedSectionVars false
set_option maxHeartbeats 8000000
set_option maxRecDepth 100000
namespace Go.Proofs.YtlinbehijfcelaaGreatDoor.Top
open Go.RowKit Go.Proofs.YtlinbehijfcelaaGreatDoorW.PrintWords Go.Proofs.YtlinbehijfcelaaGreatDoorW.PrintLast
section
section
variable {α:Type} [DecidableEq α]
def kz (L:List α) (x:α):Option Nat:=L.findIdx? fun y=>decide (y=x)
def cx (L:List α) (x:α):Nat × List α:=match kz L x with | some i=>(i,L) | none=>(L.length,L++[x])
def dP (L:List α):List (α × Value):=L.zipIdx.map fun p=>(p.1,.int .i64 (p.2:Int))
theorem lH (L:List α) (x:α):dP (L++[x])=dP L++[(x,.int .i64 (L.length:Int))]:=by
 unfold dP
 rw[List.zipIdx_append,List.map_append]
 simp
theorem qV {L:List α} {i:Nat}:(dP L)[i]?=(L[i]?).map fun x=>(x,Value.int .i64 (i:Int)):=by
 unfold dP
 rw[List.getElem?_map,List.getElem?_zipIdx,Option.map_map,Nat.zero_add]
 rfl
theorem p9 {L:List α} {x:α} {i:Nat} (h:kz L x=some i):L[i]?=some x∧∀ j,j < i→L[j]?≠some x:=by
 unfold kz at h
 rw[List.findIdx?_eq_some_iff_getElem] at h
 obtain⟨hi,h1,h2⟩:=h
 refine⟨by rw[List.getElem?_eq_getElem hi];exact congrArg some (of_decide_eq_true h1),fun j hj he=>?_⟩
 have:=h2 j hj
 obtain⟨hl,e⟩:=List.getElem?_eq_some_iff.1 he
 simp[e] at this
theorem mN {L:List α} {x:α} (h:kz L x=none):x ∉ L:=by
 unfold kz at h
 rw[List.findIdx?_eq_none_iff] at h
 intro hx
 have:=h x hx
 simp at this
theorem jv (x:α) (L:List α):bO x (dP L) 0=(kz L x).map fun i:Nat=>(i,Value.int .i64 (i:Int)):=by
 cases h:kz L x with
 | some i=>
  obtain⟨h1,h2⟩:=p9 h
  have:=ld (x:=x) (L:=dP L) (i:=0) (j:=i) (v:=.int .i64 (i:Int)) (by rw[qV,h1];rfl) (fun k hk p hp=>by
   rw[qV] at hp
   cases hq:L[k]? with
   | none=>rw[hq] at hp;simp at hp
   | some y=>
    rw[hq] at hp
    simp at hp
    rw[←hp]
    intro e
    exact h2 k hk (by rw[hq,←e]))
  rw[this,Nat.zero_add]
  rfl
 | none=>
  have h1:=mN h
  refine lh (fun p hp=>?_)
  obtain⟨i,hi⟩:=List.getElem?_of_mem hp
  rw[qV] at hi
  cases hq:L[i]? with
  | none=>rw[hq] at hi;simp at hi
  | some y=>
   rw[hq] at hi
   simp at hi
   intro e
   rw[←hi] at e
   exact h1 (e ▸ List.mem_of_getElem? hq)
theorem oH (L:List α) (x:α):(cx L x).2[(cx L x).1]?=some x:=by
 unfold cx
 cases h:kz L x with
 | some i=>exact(p9 h).1
 | none=>simp
theorem sn (L:List α) (x:α):(cx L x).1 < (cx L x).2.length:=(List.getElem?_eq_some_iff.1 (oH L x)).1
theorem j0 (L:List α) (x:α):∃ l,(cx L x).2=L++l∧l.length≤1:=by
 unfold cx
 cases h:kz L x with
 | some i=>exact⟨[],by simp⟩
 | none=>exact⟨[x],rfl,Nat.le_refl _⟩
theorem sl {L:List α} (h:L.Nodup) (x:α):(cx L x).2.Nodup:=by
 unfold cx
 cases hx:kz L x with
 | some i=>exact h
 | none=>
  simp only
  rw[List.nodup_append]
  exact⟨h,by simp,fun y hy z hz e=>by simp at hz;subst hz;subst e;exact mN hx hy⟩
theorem yk {L:List α} {x:α} {i:Nat} (h:i < (cx L x).2.length):i < L.length∨i=(cx L x).1:=by
 unfold cx at h ⊢
 cases hx:kz L x with
 | some j=>rw[hx] at h;exact .inl h
 | none=>
  rw[hx] at h
  simp at h ⊢
  omega
end
structure fb where
 color:Int
 links:List (Int × Int)
def oM (N:Nat) (old:List Int) (at_:Int) (x:Int × Int):Lk:=
 if x.1=0∧0≤x.2∧x.2 < (N:Int) then ⟨at_,0,old.getD x.2.toNat 0,true⟩ else ⟨at_,x.1,x.2,false⟩
def jk (N:Nat) (old:List Int):List (Int × Int)→Int × List Lk→Int × List Lk
 | [],s=>s
 | x :: r,s=>jk N old r (((cx s.2 (oM N old s.1 x)).1:Int),(cx s.2 (oM N old s.1 x)).2)
structure RSt where
 starts:List (Int × Int × Int)
 links:List Lk
 classes:List (Int × Int)
 out:List Int
def fm (old:List Int) (i:Nat) (r:fb):Int × Int × Int:=(old.getD i 0,r.color,(r.links.length:Int))
def rX (N:Nat) (old:List Int) (i:Nat) (r:fb) (s:RSt):RSt:=
 let a:=cx s.starts (fm old i r)
 let b:=jk N old r.links (-1 - (a.1:Int),s.links)
 let c:=cx s.classes ((a.1:Int),b.1)
 ⟨a.2,b.2,c.2,s.out++[(c.1:Int)]⟩
def ob (N:Nat) (old:List Int):List fb→Nat→RSt→RSt
 | [],_,s=>s
 | r :: rs,i,s=>ob N old rs (i+1) (rX N old i r s)
def dc (rows:List fb) (old:List Int):RSt:=ob rows.length old rows 0 ⟨[],[],[],[]⟩
def gu (rows:List fb):Nat→List Int→Nat→List Int
 | 0,old,_=>old
 | k+1,old,many=>if (dc rows old).classes.length=many then (dc rows old).out else gu rows k (dc rows old).out (dc rows old).classes.length
def cr (rows:List fb):List Int:=gu rows (rows.length+1) (List.replicate rows.length 0) 0
structure mm (old:List Int) (n:Nat) (s:RSt):Prop where
 len:s.out.length=n
 few:s.classes.length≤n
 fewS:s.starts.length≤n
 nodup:s.classes.Nodup
 cover:∀ v,v < s.classes.length→(v:Int)∈s.out
 lt:∀ v∈s.out,0≤v∧v < (s.classes.length:Int)
 onto:∀ j,j < n→∃ c∈s.classes,∃ q,s.starts[c.1.toNat]?=some q∧q.1=old.getD j 0
theorem mm.row {N:Nat} {old:List Int} {n:Nat} {s:RSt} (h:mm old n s) (r:fb):mm old (n+1) (rX N old n r s):=by
 unfold rX
 obtain⟨a,ha⟩:=nm_ (cx s.starts (fm old n r))
 obtain⟨b,hb⟩:=nm_ (jk N old r.links (-1 - (a.1:Int),s.links))
 obtain⟨c,hc⟩:=nm_ (cx s.classes ((a.1:Int),b.1))
 simp only
 rw[←ha,←hb,←hc]
 obtain⟨la,hla,hla1⟩:=j0 s.starts (fm old n r)
 obtain⟨lc,hlc,hlc1⟩:=j0 s.classes ((a.1:Int),b.1)
 have hat:=oH s.starts (fm old n r)
 have hct:=oH s.classes ((a.1:Int),b.1)
 have hclt:=sn s.classes ((a.1:Int),b.1)
 rw[←ha] at hla hat
 rw[←hc] at hlc hct hclt
 refine⟨by simp[h.len],?_,?_,by rw[hc];exact sl h.nodup _,fun v hv=>?_,fun v hv=>?_,fun j hj=>?_⟩
 ·rw[hlc,List.length_append];have:=h.few;omega
 ·rw[hla,List.length_append];have:=h.fewS;omega
 ·rw[hc] at hv
  rcases yk hv with q | q
  ·exact List.mem_append_left _ (h.cover v q)
  ·rw[←hc] at q
   rw[q]
   exact List.mem_append_right _ (List.mem_singleton.2 rfl)
 ·rcases List.mem_append.1 hv with hv | hv
  ·have:=h.lt v hv
   rw[hlc,List.length_append]
   omega
  ·rw[List.mem_singleton.1 hv]
   exact⟨by omega,by show ((c.1:Nat):Int) < (c.2.length:Int);omega⟩
 ·by_cases e:j=n
  ·subst e
   refine⟨((a.1:Int),b.1),List.mem_of_getElem? hct,fm old j r,?_,rfl⟩
   rw[Int.toNat_natCast]
   exact hat
  ·obtain⟨c0,hc0,q,hq,hq2⟩:=h.onto j (by omega)
   refine⟨c0,by rw[hlc];exact List.mem_append_left _ hc0,q,?_,hq2⟩
   rw[hla,List.getElem?_append_left (List.getElem?_eq_some_iff.1 hq).1]
   exact hq
theorem mm.rows {N:Nat} {old:List Int}:∀ (rs:List fb) (n:Nat) (s:RSt),mm old n s→mm old (n+rs.length) (ob N old rs n s)
 | [],_,_,h=>h
 | r :: rs,n,s,h=>by
  have:=mm.rows (N:=N) rs (n+1) _ (h.row (N:=N) r)
  rw[show n+(r :: rs).length=n+1+rs.length by simp;omega]
  exact this
theorem mm.zero (old:List Int):mm old 0 ⟨[],[],[],[]⟩:=⟨rfl,Nat.le_refl _,Nat.le_refl _,by simp,fun v hv=>absurd hv (by simp),fun v hv=>absurd hv (by simp),fun j hj=>absurd hj (Nat.not_lt_zero _)⟩
theorem iQ (rows:List fb) (old:List Int):mm old rows.length (dc rows old):=by
 have:=mm.rows (N:=rows.length) rows 0 _ (mm.zero old)
 rw[Nat.zero_add] at this
 exact this
theorem oc {rows:List fb} {old:List Int} {many:Nat} (hl:old.length=rows.length) (hc:∀ v,v < many→(v:Int)∈old):many≤(dc rows old).classes.length:=by
 have h:=iQ rows old
 have hs:(List.range many).map (fun v:Nat=>(v:Int)) ⊆ (dc rows old).classes.map fun c=>(((dc rows old).starts[c.1.toNat]?).map (·.1)).getD 0:=by
  intro x hx
  obtain⟨v,hv,rfl⟩:=List.mem_map.1 hx
  obtain⟨j,hj⟩:=List.getElem?_of_mem (hc v (List.mem_range.1 hv))
  obtain⟨hjl,_⟩:=List.getElem?_eq_some_iff.1 hj
  obtain⟨c,hcm,q,hq,hq2⟩:=h.onto j (by omega)
  refine List.mem_map.2 ⟨c,hcm,?_⟩
  rw[hq]
  simp only[Option.map_some,Option.getD_some]
  rw[hq2,List.getD_eq_getElem?_getD,hj]
  rfl
 have hn:((List.range many).map (fun v:Nat=>(v:Int))).Nodup:=by
  unfold List.Nodup
  rw[List.pairwise_map]
  exact(List.nodup_range).imp (fun hne e=>hne (by omega))
 have:=hn.length_le_of_subset hs
 simpa using this
structure it (rows:List fb) (k:Nat) (old:List Int) (many:Nat):Prop where
 len:old.length=rows.length
 cover:∀ v,v < many→(v:Int)∈old
 lt:∀ v∈old,0≤v∧v≤(rows.length:Int)
 run:gu rows k old many=cr rows
 meas:rows.length+1≤many+k
theorem it.start (rows:List fb):it rows (rows.length+1) (List.replicate rows.length 0) 0:=⟨by rw[List.length_replicate],fun v hv=>absurd hv (Nat.not_lt_zero _),fun v hv=>by rw[List.eq_of_mem_replicate hv];omega,rfl,by omega⟩
theorem it.few {rows:List fb} {k:Nat} {old:List Int} {many:Nat} (h:it rows k old many):many≤rows.length:=Nat.le_trans (oc h.len h.cover) (iQ rows old).few
theorem it.pos {rows:List fb} {k:Nat} {old:List Int} {many:Nat} (h:it rows k old many):0 < k:=by have:=h.few;have:=h.meas;omega
theorem it.done {rows:List fb} {k:Nat} {old:List Int} {many:Nat} (h:it rows (k+1) old many) (he:(dc rows old).classes.length=many):(dc rows old).out=cr rows:=by
 have:=h.run
 unfold gu at this
 rwa [if_pos he] at this
theorem it.round {rows:List fb} {k:Nat} {old:List Int} {many:Nat} (h:it rows (k+1) old many) (he:¬ (dc rows old).classes.length=many):it rows k (dc rows old).out (dc rows old).classes.length:=by
 have hi:=iQ rows old
 have hm:=oc h.len h.cover
 have hr:=h.run
 unfold gu at hr
 rw[if_neg he] at hr
 exact⟨hi.len,hi.cover,fun v hv=>by have:=hi.lt v hv;have:=hi.few;omega,hr,by have:=h.meas;omega⟩
theorem uo (rows:List fb):(cr rows).length=rows.length∧∀ v∈cr rows,0≤v∧v < (rows.length:Int):=by
 have h:∀ (k:Nat) (old:List Int) (many:Nat),it rows k old many→(cr rows).length=rows.length∧∀ v∈cr rows,0≤v∧v < (rows.length:Int):=by
  intro k
  induction k with
  | zero=>intro old many h;exact absurd h.pos (Nat.lt_irrefl _)
  | succ k ih=>
   intro old many h
   by_cases he:(dc rows old).classes.length=many
   ·have hi:=iQ rows old
    rw[←h.done he]
    exact⟨hi.len,fun v hv=>by have:=hi.lt v hv;have:=hi.few;omega⟩
   ·exact ih _ _ (h.round he)
 exact h _ _ _ (it.start rows)
end
theorem kr {P:Program} {α:Type} {a:Act} {o:Oper} {W:World} {x:Operand} {t kt et:TypeId} {b n:Nat} {enc:α→Value} {L:List (α × Value)} (ho:o.op=.call { callee:=.builtin .len,args:=#[x],argTypes:=#[t] }) (hx:a.eval x=.map (some b)) (hn:L.length=n) (hm:bI enc W b L) (hu:P.underlying t=some (.map kt et)):(execOp a.eval o).run P W=.ok (.value (.int .i64 (n:Int))) W:=by
 obtain⟨es,c,hb,he⟩:=hm
 have hl:es.size=n:=by
  have:=congrArg List.length he
  simpa [hn] using this
 have h2:P.underlying t=some (.map (P.mapKeyOf t) (P.mapElemOf t)):=by simp[Program.mapKeyOf,Program.mapElemOf,hu]
 have hrun:=run_len_map (P:=P) (w:=W) t o.type b es c h2 hb
 rw[hl] at hrun
 unfold execOp
 simp only[ho,resolve,invoke,builtin,Sem.run_bind,Sem.run_pure,Result.andThen_ok,List.map_toArray,List.map_cons,List.map_nil,hx,hrun]
 rfl
theorem iC {α:Type} [DecidableEq α] (L:List α):(dP L).length=L.length:=by unfold dP;rw[List.length_map,List.length_zipIdx]
theorem qU (L:List (Int × Int × Int)) (x:Int × Int × Int) (m:Nat) (w:World) (hm:bI eS w m (dP L)) :
  Calls Tryz.prog 114 #[.map (some m),eS x] w fun e w'=>e=.returned (.int .i64 ((cx L x).1:Int))∧bI eS w' m (dP (cx L x).2)∧Fr (fun k=>k=m) w w':=by
 have hml:=hm.lt
 have hm1:=hm.fr (Fr.of_below (S:=fun k=>k=m+w.heap.size+1) (ae (Below.refl w.heap.size w) (.cells #[.int .i64 x.1,.int .i64 x.2.1,.int .i64 x.2.2] 234))) (by omega)
 have hB:=heap_alloc_last w (.cells #[.int .i64 x.1,.int .i64 x.2.1,.int .i64 x.2.2] 234 (0,0))
 have hX:=jv x L
 have hbl:=ae (Below.refl w.heap.size w) (.cells #[.int .i64 x.1,.int .i64 x.2.1,.int .i64 x.2.2] 234 (0,0))
 obtain⟨w1,hw1⟩:∃ w1,w1=w.alloc (.cells #[.int .i64 x.1,.int .i64 x.2.1,.int .i64 x.2.2] 234):=⟨_,rfl⟩
 rw[←hw1] at hm1 hB hbl
 have HM:=ak_ hm1
 have HB:=ak_ hB
 have HW:=ak_ hw1
 have HBl:=ak_ hbl
 have HZ:=ak_ (show ∀ W,(zeroValue 3).run Tryz.prog W=.ok (.int .i64 0) W from fun W=>by kernel_rfl)
 clear hm hm1 hB hw1 hbl
 unfold cx
 cases hi:kz L x with
 | some i=>
  rw[hi] at hX
  have HX:=ak_ (show jM (.int .i64 0) (bO x (dP L) 0)=.tuple #[.int .i64 (i:Int),.bool true] by rw[hX];rfl)
  clear hX hi
  unfold eS
  go_enter Tryz.func114,Tryz.ntmps114
  go_upto_region 1 with fail
  refine ar HW.out.symm ?_
  go_wp2_with (first
   | ((with_reducible refine aj (N:=9) rfl ?_);refine wpList_load_row rfl 234 _ rfl w.heap.size rfl 234 #[.int .i64 x.1,.int .i64 x.2.1,.int .i64 x.2.2] (0,0) _ HB.out Tryz.underlying234 rfl (by kernel_rfl) ?_)
   | ((with_reducible refine aj (N:=10) rfl ?_);refine cJ CZ rfl _ _ rfl Tryz.underlying227 HM.out (.int .i64 0) (HZ.out _) x rfl rfl _ HX.out ?_))
  go_ret
  exact⟨rfl,HM.out,Fr.of_below HBl.out⟩
 | none=>
  rw[hi] at hX
  have HX:=ak_ (show jM (.int .i64 0) (bO x (dP L) 0)=.tuple #[.int .i64 0,.bool false] by rw[hX];rfl)
  have HX2:=ak_ (show bO x (dP L) 0=none from hX)
  clear hX hi
  unfold eS
  go_enter Tryz.func114,Tryz.ntmps114
  go_upto_region 1 with fail
  refine ar HW.out.symm ?_
  go_wp2_with (first
   | ((with_reducible refine aj (N:=9) rfl ?_);refine wpList_load_row rfl 234 _ rfl w.heap.size rfl 234 #[.int .i64 x.1,.int .i64 x.2.1,.int .i64 x.2.2] (0,0) _ HB.out Tryz.underlying234 rfl (by kernel_rfl) ?_)
   | ((with_reducible refine aj (N:=10) rfl ?_);refine cJ CZ rfl _ _ rfl Tryz.underlying227 HM.out (.int .i64 0) (HZ.out _) x rfl rfl _ HX.out ?_)
   | ((with_reducible refine aj (N:=16) rfl ?_);refine dk rfl (.int .i64 (L.length:Int)) (kr (t:=227) rfl rfl (iC L) HM.out Tryz.underlying227) ?_)
   | ((with_reducible refine aj (N:=18) rfl ?_);refine wpList_load_row rfl 234 _ rfl w.heap.size rfl 234 #[.int .i64 x.1,.int .i64 x.2.1,.int .i64 x.2.2] (0,0) _ HB.out Tryz.underlying234 rfl (by kernel_rfl) ?_)
   | ((with_reducible refine iW rfl ?_);refine dF CZ rfl _ _ _ rfl Tryz.underlying227 HM.out x (.int .i64 (L.length:Int)) rfl rfl rfl HX2.out ?_;intro w3 hm3 hfr3;have M3:=ak_ hm3;have F3:=ak_ hfr3;clear hm3 hfr3))
  go_ret
  refine⟨rfl,?_,(Fr.of_below HBl.out).trans F3.out⟩
  have h3:=M3.out
  rw[←lH] at h3
  exact h3
theorem sj (L:List (Lk)) (x:Lk) (m:Nat) (w:World) (hm:bI eL w m (dP L)) :
  Calls Tryz.prog 115 #[.map (some m),eL x] w fun e w'=>e=.returned (.int .i64 ((cx L x).1:Int))∧bI eL w' m (dP (cx L x).2)∧Fr (fun k=>k=m) w w':=by
 have hml:=hm.lt
 have hm1:=hm.fr (Fr.of_below (S:=fun k=>k=m+w.heap.size+1) (ae (Below.refl w.heap.size w) (.cells #[.int .i64 x.b,.int .i64 x.k,.int .i64 x.n,.bool x.t] 236))) (by omega)
 have hB:=heap_alloc_last w (.cells #[.int .i64 x.b,.int .i64 x.k,.int .i64 x.n,.bool x.t] 236 (0,0))
 have hX:=jv x L
 have hbl:=ae (Below.refl w.heap.size w) (.cells #[.int .i64 x.b,.int .i64 x.k,.int .i64 x.n,.bool x.t] 236 (0,0))
 obtain⟨w1,hw1⟩:∃ w1,w1=w.alloc (.cells #[.int .i64 x.b,.int .i64 x.k,.int .i64 x.n,.bool x.t] 236):=⟨_,rfl⟩
 rw[←hw1] at hm1 hB hbl
 have HM:=ak_ hm1
 have HB:=ak_ hB
 have HW:=ak_ hw1
 have HBl:=ak_ hbl
 have HZ:=ak_ (show ∀ W,(zeroValue 3).run Tryz.prog W=.ok (.int .i64 0) W from fun W=>by kernel_rfl)
 clear hm hm1 hB hw1 hbl
 unfold cx
 cases hi:kz L x with
 | some i=>
  rw[hi] at hX
  have HX:=ak_ (show jM (.int .i64 0) (bO x (dP L) 0)=.tuple #[.int .i64 (i:Int),.bool true] by rw[hX];rfl)
  clear hX hi
  unfold eL
  go_enter Tryz.func115,Tryz.ntmps115
  go_upto_region 1 with fail
  refine ar HW.out.symm ?_
  go_wp2_with (first
   | ((with_reducible refine aj (N:=9) rfl ?_);refine wpList_load_row rfl 236 _ rfl w.heap.size rfl 236 #[.int .i64 x.b,.int .i64 x.k,.int .i64 x.n,.bool x.t] (0,0) _ HB.out Tryz.underlying236 rfl (by kernel_rfl) ?_)
   | ((with_reducible refine aj (N:=10) rfl ?_);refine cJ C5 rfl _ _ rfl Tryz.underlying229 HM.out (.int .i64 0) (HZ.out _) x rfl rfl _ HX.out ?_))
  go_ret
  exact⟨rfl,HM.out,Fr.of_below HBl.out⟩
 | none=>
  rw[hi] at hX
  have HX:=ak_ (show jM (.int .i64 0) (bO x (dP L) 0)=.tuple #[.int .i64 0,.bool false] by rw[hX];rfl)
  have HX2:=ak_ (show bO x (dP L) 0=none from hX)
  clear hX hi
  unfold eL
  go_enter Tryz.func115,Tryz.ntmps115
  go_upto_region 1 with fail
  refine ar HW.out.symm ?_
  go_wp2_with (first
   | ((with_reducible refine aj (N:=9) rfl ?_);refine wpList_load_row rfl 236 _ rfl w.heap.size rfl 236 #[.int .i64 x.b,.int .i64 x.k,.int .i64 x.n,.bool x.t] (0,0) _ HB.out Tryz.underlying236 rfl (by kernel_rfl) ?_)
   | ((with_reducible refine aj (N:=10) rfl ?_);refine cJ C5 rfl _ _ rfl Tryz.underlying229 HM.out (.int .i64 0) (HZ.out _) x rfl rfl _ HX.out ?_)
   | ((with_reducible refine aj (N:=16) rfl ?_);refine dk rfl (.int .i64 (L.length:Int)) (kr (t:=229) rfl rfl (iC L) HM.out Tryz.underlying229) ?_)
   | ((with_reducible refine aj (N:=18) rfl ?_);refine wpList_load_row rfl 236 _ rfl w.heap.size rfl 236 #[.int .i64 x.b,.int .i64 x.k,.int .i64 x.n,.bool x.t] (0,0) _ HB.out Tryz.underlying236 rfl (by kernel_rfl) ?_)
   | ((with_reducible refine iW rfl ?_);refine dF C5 rfl _ _ _ rfl Tryz.underlying229 HM.out x (.int .i64 (L.length:Int)) rfl rfl rfl HX2.out ?_;intro w3 hm3 hfr3;have M3:=ak_ hm3;have F3:=ak_ hfr3;clear hm3 hfr3))
  go_ret
  refine⟨rfl,?_,(Fr.of_below HBl.out).trans F3.out⟩
  have h3:=M3.out
  rw[←lH] at h3
  exact h3
theorem tM (L:List (Int × Int)) (x:Int × Int) (m:Nat) (w:World) (hm:bI eP w m (dP L)) :
  Calls Tryz.prog 116 #[.map (some m),eP x] w fun e w'=>e=.returned (.int .i64 ((cx L x).1:Int))∧bI eP w' m (dP (cx L x).2)∧Fr (fun k=>k=m) w w':=by
 have hml:=hm.lt
 have hm1:=hm.fr (Fr.of_below (S:=fun k=>k=m+w.heap.size+1) (ae (Below.refl w.heap.size w) (.cells #[.int .i64 x.1,.int .i64 x.2] 138))) (by omega)
 have hB:=heap_alloc_last w (.cells #[.int .i64 x.1,.int .i64 x.2] 138 (0,0))
 have hX:=jv x L
 have hbl:=ae (Below.refl w.heap.size w) (.cells #[.int .i64 x.1,.int .i64 x.2] 138 (0,0))
 obtain⟨w1,hw1⟩:∃ w1,w1=w.alloc (.cells #[.int .i64 x.1,.int .i64 x.2] 138):=⟨_,rfl⟩
 rw[←hw1] at hm1 hB hbl
 have HM:=ak_ hm1
 have HB:=ak_ hB
 have HW:=ak_ hw1
 have HBl:=ak_ hbl
 have HZ:=ak_ (show ∀ W,(zeroValue 3).run Tryz.prog W=.ok (.int .i64 0) W from fun W=>by kernel_rfl)
 clear hm hm1 hB hw1 hbl
 unfold cx
 cases hi:kz L x with
 | some i=>
  rw[hi] at hX
  have HX:=ak_ (show jM (.int .i64 0) (bO x (dP L) 0)=.tuple #[.int .i64 (i:Int),.bool true] by rw[hX];rfl)
  clear hX hi
  unfold eP
  go_enter Tryz.func116,Tryz.ntmps116
  go_upto_region 1 with fail
  refine ar HW.out.symm ?_
  go_wp2_with (first
   | ((with_reducible refine aj (N:=9) rfl ?_);refine wpList_load_row rfl 138 _ rfl w.heap.size rfl 138 #[.int .i64 x.1,.int .i64 x.2] (0,0) _ HB.out Tryz.underlying138 rfl (by kernel_rfl) ?_)
   | ((with_reducible refine aj (N:=10) rfl ?_);refine cJ C1 rfl _ _ rfl Tryz.underlying231 HM.out (.int .i64 0) (HZ.out _) x rfl rfl _ HX.out ?_))
  go_ret
  exact⟨rfl,HM.out,Fr.of_below HBl.out⟩
 | none=>
  rw[hi] at hX
  have HX:=ak_ (show jM (.int .i64 0) (bO x (dP L) 0)=.tuple #[.int .i64 0,.bool false] by rw[hX];rfl)
  have HX2:=ak_ (show bO x (dP L) 0=none from hX)
  clear hX hi
  unfold eP
  go_enter Tryz.func116,Tryz.ntmps116
  go_upto_region 1 with fail
  refine ar HW.out.symm ?_
  go_wp2_with (first
   | ((with_reducible refine aj (N:=9) rfl ?_);refine wpList_load_row rfl 138 _ rfl w.heap.size rfl 138 #[.int .i64 x.1,.int .i64 x.2] (0,0) _ HB.out Tryz.underlying138 rfl (by kernel_rfl) ?_)
   | ((with_reducible refine aj (N:=10) rfl ?_);refine cJ C1 rfl _ _ rfl Tryz.underlying231 HM.out (.int .i64 0) (HZ.out _) x rfl rfl _ HX.out ?_)
   | ((with_reducible refine aj (N:=16) rfl ?_);refine dk rfl (.int .i64 (L.length:Int)) (kr (t:=231) rfl rfl (iC L) HM.out Tryz.underlying231) ?_)
   | ((with_reducible refine aj (N:=18) rfl ?_);refine wpList_load_row rfl 138 _ rfl w.heap.size rfl 138 #[.int .i64 x.1,.int .i64 x.2] (0,0) _ HB.out Tryz.underlying138 rfl (by kernel_rfl) ?_)
   | ((with_reducible refine iW rfl ?_);refine dF C1 rfl _ _ _ rfl Tryz.underlying231 HM.out x (.int .i64 (L.length:Int)) rfl rfl rfl HX2.out ?_;intro w3 hm3 hfr3;have M3:=ak_ hm3;have F3:=ak_ hfr3;clear hm3 hfr3))
  go_ret
  refine⟨rfl,?_,(Fr.of_below HBl.out).trans F3.out⟩
  have h3:=M3.out
  rw[←lH] at h3
  exact h3
section
def kRR:Kd fb:=Kd.iso (Kd.pair (Kd.int .i64) (Kd.slice 184 cL)) (fun r=>(r.color,r.links))
theorem DF {w:World} {x:fb} {c:List Value} (h:kRR.K w x c):∃ vT,c=[.int .i64 x.color,vT]∧Rd cL w vT x.links:=by
 obtain⟨c0,c1,rfl,h0,A,n,rfl,h2,h3⟩:=h
 have h0':c0=[.int .i64 x.color]:=h0
 subst h0'
 exact⟨_,rfl,A,n,rfl,h2,h3⟩
theorem oQ:(Tryz.prog.info? 183).map (·.size)=some 2:=by kernel_rfl
theorem j_:(Tryz.prog.info? 184).map (·.size)=some 2:=by kernel_rfl
theorem zZ:(Tryz.prog.info? 236).map (·.size)=some 4:=by kernel_rfl
theorem tS:(Tryz.prog.info? 3).map (fun i=>(i.zero,i.size,i.bytes))=some (some (.int .i64 0),1,8):=by kernel_rfl
theorem AD (b k n:Int):Tryz.prog.built 236 [(0,.int .i64 b),(1,.agg #[.int .i64 k,.int .i64 n])]=some #[.int .i64 b,.int .i64 k,.int .i64 n,.bool false]:=by kernel_rfl
theorem AJ (n:Int):Tryz.prog.built 184 [(1,.int .i64 n)]=some #[.int .i64 0,.int .i64 n]:=by kernel_rfl
theorem AG (a b c:Int):Tryz.prog.built 234 [(0,.int .i64 a),(1,.int .i64 b),(2,.int .i64 c)]=some #[.int .i64 a,.int .i64 b,.int .i64 c]:=by kernel_rfl
theorem sV (a b:Int):Tryz.prog.built 138 [(0,.int .i64 a),(1,.int .i64 b)]=some #[.int .i64 a,.int .i64 b]:=by kernel_rfl
structure iO (w W:World) (B N:Nat) (s:RSt):Prop where
 b:Below w.heap.size w W
 lo:w.heap.size≤B
 a1:bI eS W B (dP s.starts)
 a2:bI eL W (B+1) (dP s.links)
 a3:bI eP W (B+1+1) (dP s.classes)
 out:W.heap[B+1+1+1]?=some (.cells ((s.out++List.replicate (N - s.out.length) 0).map (Value.int .i64)).toArray 3 (0,0))
section
variable {w W W1:World} {B N:Nat} {s:RSt}
theorem iO.below (h:iO w W B N s) (hb:Below W.heap.size W W1):iO w W1 B N s:=⟨af h.b hb,h.lo,h.a1.fr (Fr.of_below (S:=fun _=>False) hb) id,h.a2.fr (Fr.of_below (S:=fun _=>False) hb) id,h.a3.fr (Fr.of_below (S:=fun _=>False) hb) id,ag h.out hb⟩
theorem iO.put1 (h:iO w W B N s) {L:List (Int × Int × Int)} (hm:bI eS W1 B (dP L)) (hf:Fr (fun k=>k=B) W W1):iO w W1 B N ⟨L,s.links,s.classes,s.out⟩:=
 have hlo:=h.lo
 ⟨Fr.below h.b hf (fun k hk q=>by omega) h.b.size,h.lo,hm,h.a2.fr hf (by omega),h.a3.fr hf (by omega),(hf.block _ (ai h.out) (by omega)).trans h.out⟩
theorem iO.put2 (h:iO w W B N s) {L:List Lk} (hm:bI eL W1 (B+1) (dP L)) (hf:Fr (fun k=>k=B+1) W W1):iO w W1 B N ⟨s.starts,L,s.classes,s.out⟩:=
 have hlo:=h.lo
 ⟨Fr.below h.b hf (fun k hk q=>by omega) h.b.size,h.lo,h.a1.fr hf (by omega),hm,h.a3.fr hf (by omega),(hf.block _ (ai h.out) (by omega)).trans h.out⟩
theorem iO.put3 (h:iO w W B N s) {L:List (Int × Int)} (hm:bI eP W1 (B+1+1) (dP L)) (hf:Fr (fun k=>k=B+1+1) W W1):iO w W1 B N ⟨s.starts,s.links,L,s.out⟩:=
 have hlo:=h.lo
 ⟨Fr.below h.b hf (fun k hk q=>by omega) h.b.size,h.lo,h.a1.fr hf (by omega),h.a2.fr hf (by omega),hm,(hf.block _ (ai h.out) (by omega)).trans h.out⟩
theorem iO.putO (h:iO w W B N s) {i:Nat} (hi:i < N) (hl:s.out.length=i) (v:Int):iO w (W.setCell ⟨B+1+1+1,i,none⟩ (.int .i64 v)) B N ⟨s.starts,s.links,s.classes,s.out++[v]⟩:=by
 have hlo:=h.lo
 have hf:Fr (fun k=>k=B+1+1+1) W (W.setCell ⟨B+1+1+1,i,none⟩ (.int .i64 v)):=Fr.cell (S:=fun k=>k=B+1+1+1) (p:=⟨B+1+1+1,i,none⟩) rfl _
 refine⟨Fr.below h.b hf (fun k hk q=>by omega) h.b.size,h.lo,h.a1.fr hf (by omega),h.a2.fr hf (by omega),h.a3.fr hf (by omega),?_⟩
 have:=aJ h.out i (.int .i64 v)
 rw[this]
 congr 3
 subst hl
 rw[←List.map_set]
 congr 1
 show (s.out++List.replicate (N - s.out.length) 0).set s.out.length v=(s.out++[v])++List.replicate (N - (s.out++[v]).length) 0
 rw[List.set_append_right _ _ (Nat.le_refl _),Nat.sub_self,show N - s.out.length=(N - (s.out++[v]).length)+1 by simp;omega,List.replicate_succ,List.set_cons_zero]
 simp
end
end
theorem qP (rows:List fb) (old:List Int) (AR AO:Option Addr) (cR cO:Nat) (w:World) (hR:Kd.C kRR w AR rows.length rows) (hO:Kd.C (Kd.int .i64) w AO rows.length old) (hlen:old.length=rows.length) (hN:rows.length≤5000) (hT:∀ r∈rows,r.links.length≤500) :
  Calls Tryz.prog 101 #[.slice AR rows.length cR,.slice AO rows.length cO] w fun e w'=>∃ go:Nat,e=.returned (.tuple #[.slice (some ⟨go,0,none⟩) rows.length rows.length,.int .i64 ((dc rows old).classes.length:Int)])∧w'.heap[go]?=some (.cells ((dc rows old).out.map (Value.int .i64)).toArray 3 (0,0))∧w.heap.size≤go∧Below w.heap.size w w':=by
 have hN':(rows.length:Int)≤5000:=by omega
 have HMk:=ak_ (run_make_row' (P:=Tryz.prog) 109 3 (.int .i64 0) 8 Tryz.underlying109 tS rfl .i64 .i64 rows.length (by omega) (by omega))
 have HR:=ak_ hR
 have HO:=ak_ hO
 have HLen:=ak_ hlen
 have HT:=ak_ hT
 obtain⟨N,hNd⟩:=nm_ rows.length
 have HInv:=ak_ (iQ rows old)
 clear hR hO hlen hT hN
 go_enter Tryz.func101,Tryz.ntmps101
 go_upto_region 4 with (first
  | ((with_reducible refine aj (N:=17) rfl ?_);refine dG rfl 227 rfl ?_)
  | ((with_reducible refine aj (N:=18) rfl ?_);refine dG rfl 229 rfl ?_)
  | ((with_reducible refine aj (N:=19) rfl ?_);refine dG rfl 231 rfl ?_)
  | ((with_reducible refine aj (N:=22) rfl ?_);refine fM rfl 109 _ _ rfl _ _ _ rfl rfl (HMk.out _) ?_))
 obtain⟨wb,hwb⟩:∃ wb,wb=(((w.alloc (.map #[] 0)).alloc (.map #[] 0)).alloc (.map #[] 0)).alloc (.cells (madeCells #[.int .i64 0] rows.length) 3):=⟨_,rfl⟩
 have hst:iO w wb w.heap.size rows.length ⟨[],[],[],[]⟩:=by
  have h1:=bI.new eS w 0
  have h2:=bI.new eL (w.alloc (.map #[] 0)) 0
  have h3:=bI.new eP ((w.alloc (.map #[] 0)).alloc (.map #[] 0)) 0
  have h4:=heap_alloc_new (((w.alloc (.map #[] 0)).alloc (.map #[] 0)).alloc (.map #[] 0)) (.cells (madeCells #[.int .i64 0] rows.length) 3)
  have s1:(w.alloc (.map #[] 0)).heap.size=w.heap.size+1:=by simp
  have s2:((w.alloc (.map #[] 0)).alloc (.map #[] 0)).heap.size=w.heap.size+1+1:=by simp
  have s3:(((w.alloc (.map #[] 0)).alloc (.map #[] 0)).alloc (.map #[] 0)).heap.size=w.heap.size+1+1+1:=by simp
  rw[s1] at h2
  rw[s2] at h3
  rw[s3] at h4
  have f:∀ (W:World) (o:Obj),Fr (fun _=>False) W (W.alloc o):=fun W o=>Fr.of_below (ae (Below.refl _ _) o)
  rw[hwb]
  refine⟨ae (ae (ae (ae (Below.refl _ _) _) _) _) _,Nat.le_refl _,((h1.fr (f _ _) id).fr (f _ _) id).fr (f _ _) id,(h2.fr (f _ _) id).fr (f _ _) id,h3.fr (f _ _) id,?_⟩
  rw[h4,gh]
  simp
 refine ar hwb.symm ?_
 obtain⟨B,hB⟩:=mn_ w.heap.size
 have hlo:w.heap.size≤B:=by omega
 have hst2:iO w wb B rows.length ⟨[],[],[],[]⟩:=by rw[←hB];exact hst
 have HG:(fun (k:Nat)=>w.heap.size≤k)=(fun (k:Nat)=>w.heap.size≤k):=rfl
 clear HG
 have HSt:=ak_ hst2
 have HBw:=ak_ hB
 rw[hB]
 clear hwb hst hst2 hB hlo hNd
 go_loopw [25] (fun j wr=>∃ (i:Nat) (s:RSt),j=.int .i64 i∧aa (i≤rows.length∧dc rows old=ob rows.length old (rows.drop i) i s∧mm old i s∧iO w wr B rows.length s)) (fun j _=>rows.length - (intOf j).toNat)
 case atStart=>exact⟨0,_,rfl,⟨⟨Nat.zero_le _,rfl,mm.zero old,HSt.out⟩⟩⟩
 case round=>
  obtain⟨i,s,rfl,HL⟩:=hrel
  obtain⟨hi,hfin,hI,hS⟩:=HL.out
  by_cases hlt:i < rows.length
  ·have hlt':(i:Int) < (rows.length:Int):=by omega
   obtain⟨r,hr⟩:∃ r,rows[i]?=some r:=⟨_,List.getElem?_eq_getElem hlt⟩
   obtain⟨ad,cs,had,hK,hld⟩:=aW (P:=Tryz.prog) HR.out hS.b i hlt r hr 183 Tryz.underlying183 rfl oQ
   subst had
   obtain⟨vT,rfl,AT,cT,rfl,hlT,hCT⟩:=DF hK
   have hTl:=HT.out r (List.mem_of_getElem? hr)
   obtain⟨o,ho⟩:∃ o,old[i]?=some o:=⟨_,List.getElem?_eq_getElem (by rw[HLen.out];exact hlt)⟩
   obtain⟨adO,csO,hadO,_,hKO,hcO⟩:=bX HO.out i hlt o ho
   subst hadO
   obtain rfl:csO=[.int .i64 o]:=hKO
   have vO:=ak hS.b (hcO 0 _ rfl)
   rw[show i * (Kd.int .i64).sz+0=i from Nat.mul_one i] at vO
   rw[List.drop_eq_getElem_cons hlt,(List.getElem?_eq_some_iff.1 hr).2] at hfin
   simp only[ob] at hfin
   have hst:fm old i r=(o,r.color,(r.links.length:Int)):=by unfold fm;rw[List.getD_eq_getElem?_getD,ho];rfl
   obtain⟨a,ha⟩:=nm_ (cx s.starts (fm old i r))
   have hal:=sn s.starts (fm old i r)
   have hag:=j0 s.starts (fm old i r)
   rw[←ha] at hal hag
   have ha5:a.1≤5000:=by
    obtain⟨la,h1,h2⟩:=hag
    rw[h1,List.length_append] at hal
    have:=hI.fewS
    omega
   have HFi:=ak_ hfin
   have HI:=ak_ hI
   have HS:=ak_ hS
   have HLd:=ak_ (show (loadVar 183 (ad.add (i * 2))).run Tryz.prog wr=.ok (.agg #[.int .i64 r.color,.slice AT r.links.length cT]) wr from hld)
   have HCT:=ak_ hCT
   have HLt:=ak_ hlt
   have HA:=ak_ ha
   have HStq:=ak_ hst
   have hTl':(r.links.length:Int)≤500:=by omega
   have ha5':(a.1:Int)≤5000:=by omega
   clear hi hfin hI hS hK hld hlT hCT hTl hcO hst ha hal hag ha5 hlt HL hr ho
   go_upto_region 6 with (first
    | ((with_reducible refine aj (N:=29) rfl ?_);refine au rfl 183 _ rfl (ad.add (i * 2)) rfl _ HLd.out ?_))
   obtain⟨w5,hw5⟩:∃ w5,w5=wr.alloc (.cells #[.int .i64 r.color,.slice AT r.links.length cT] 183):=⟨_,rfl⟩
   have h11:w5.heap[wr.heap.size]?=some (.cells #[.int .i64 r.color,.slice AT r.links.length cT] 183 (0,0)):=by rw[hw5];exact heap_alloc_last wr _
   have hb5:Below wr.heap.size wr w5:=by rw[hw5];exact ae (Below.refl _ _) _
   refine ar hw5.symm ?_
   have HS5:=ak_ (HS.out.below hb5)
   have vO5:=ak hb5 vO
   have c0:=(show w5.cell? ⟨wr.heap.size,0,none⟩=some (.int .i64 r.color) by rw[ah h11];rfl)
   have c1:=(show w5.cell? ⟨wr.heap.size,1,none⟩=some (.slice AT r.links.length cT) by rw[ah h11];rfl)
   have H11:=ak_ h11
   have hg11:B+1+1+1 < wr.heap.size:=ai HS.out.out
   obtain⟨g11,hg⟩:=mn_ wr.heap.size
   rw[hg] at H11 c0 c1 hg11 ⊢
   have HG11:=ak_ hg11
   clear hw5 hb5 h11 vO hg hg11
   go_still_tail 11,(by kernel_rfl)
   refine bu rfl (jw 234 _ rfl [(0,.int .i64 o),(1,.int .i64 r.color),(2,.int .i64 (r.links.length:Int))] _ rfl (AG _ _ _)) ?_
   refine wpStill_nil ?_
   obtain⟨w6,hw6⟩:=nm_ w5.drew
   change wpList _ _ _ _ _ w5.drew
   rw[←hw6]
   have hb6:Below w5.heap.size w5 w6:=by rw[hw6];exact az (Below.refl _ _)
   have HS6:=ak_ (HS5.out.below hb6)
   have H116:=ak_ (ag H11.out hb6)
   have vO6:=ak hb6 vO5
   have HN:=qU s.starts (fm old i r) B w6 HS6.out.a1
   rw[←HA.out,HStq.out] at HN
   have HN:=ak_ (show Calls Tryz.prog 114 #[.map (some B),.agg #[.int .i64 o,.int .i64 r.color,.int .i64 (r.links.length:Int)]] w6 fun e w'=>e=.returned (.int .i64 (a.1:Int))∧bI eS w' B (dP a.2)∧Fr (fun k=>k=B) w6 w' from HN)
   clear hw6 hb6 vO5 c0 c1 HS5 H11
   go_upto_region 8 with (first
    | (go_at_call 114;refine HN.out.mono ?_;rintro e w7 ⟨rfl,hm,hf⟩;have HS7:=ak_ (HS6.out.put1 hm hf);have H117:=ak_ ((hf.block g11 (ai H116.out) (by have:=HG11.out;omega)).trans H116.out);have HF7:=ak_ hf;clear hm hf))
   have c1:=(show w7.cell? ⟨g11,1,none⟩=some (.slice AT r.links.length cT) by rw[ah H117.out];rfl)
   go_wp2
   go_loopw [47,13] (fun j at_ wr=>∃ (k:Nat) (q:Int × List Lk),j=.int .i64 k∧at_=.int .i64 q.1∧aa (k≤r.links.length∧jk rows.length old r.links (-1 - (a.1:Int),s.links)=jk rows.length old (r.links.drop k) q∧iO w wr B rows.length ⟨a.2,q.2,s.classes,s.out⟩)) (fun j _ _=>r.links.length - (intOf j).toNat)
   case atStart=>exact⟨0,(-1 - (a.1:Int),s.links),rfl,rfl,⟨⟨Nat.zero_le _,rfl,HS7.out⟩⟩⟩
   case round=>
    obtain⟨k,q,rfl,rfl,HL⟩:=hrel
    obtain⟨hk,hfin,hS⟩:=HL.out
    by_cases hkl:k < r.links.length
    ·have hkl':(k:Int) < (r.links.length:Int):=by omega
     obtain⟨x,hx⟩:∃ x,r.links[k]?=some x:=⟨_,List.getElem?_eq_getElem hkl⟩
     obtain⟨adT,csT,hadT,hKT,hldT⟩:=aW (P:=Tryz.prog) HCT.out hS.b k hkl x hx 184 Tryz.underlying184 rfl j_
     subst hadT
     obtain rfl:csT=[.int .i64 x.1,.int .i64 x.2]:=hKT
     rw[List.drop_eq_getElem_cons hkl,(List.getElem?_eq_some_iff.1 hx).2] at hfin
     simp only[jk] at hfin
     obtain⟨lk,hlk⟩:=nm_ (oM rows.length old q.1 x)
     rw[←hlk] at hfin
     have HLk:=ak_ hlk
     have HFi2:=ak_ hfin
     have HS8:=ak_ hS
     have HLdT:=ak_ (show (loadVar 184 (adT.add (k * 2))).run Tryz.prog wr=.ok (.agg #[.int .i64 x.1,.int .i64 x.2]) wr from hldT)
     have HKl:=ak_ hkl
     clear hk hfin hS hldT hx hlk hkl HL
     go_upto_region 11 with (first
      | ((with_reducible refine aj (N:=50) rfl ?_);refine au rfl 184 _ rfl (adT.add (k * 2)) rfl _ HLdT.out ?_))
     obtain⟨w8,hw8⟩:∃ w8,w8=wr.alloc (.cells #[.int .i64 x.1,.int .i64 x.2] 184):=⟨_,rfl⟩
     have h15:w8.heap[wr.heap.size]?=some (.cells #[.int .i64 x.1,.int .i64 x.2] 184 (0,0)):=by rw[hw8];exact heap_alloc_last wr _
     have hS9:iO w w8 B rows.length ⟨a.2,q.2,s.classes,s.out⟩:=by rw[hw8];exact HS8.out.below (ae (Below.refl _ _) _)
     have hg15:B+1+1+1 < wr.heap.size:=ai HS8.out.out
     refine ar hw8.symm ?_
     have H15:=ak_ h15
     have HS9:=ak_ hS9
     obtain⟨g15,hg⟩:=mn_ wr.heap.size
     rw[hg] at H15 hg15 ⊢
     have HG15:=ak_ hg15
     clear hw8 h15 hS9 hg hg15
     go_upto_region 12 with (first
      | ((with_reducible refine aj (N:=52) rfl ?_);refine wpList_load_row rfl 184 _ rfl g15 rfl 184 #[.int .i64 x.1,.int .i64 x.2] (0,0) _ H15.out Tryz.underlying184 rfl j_ ?_)
      | ((with_reducible refine aj (N:=53) rfl ?_);refine aM rfl 236 _ rfl [(0,.int .i64 q.1),(1,.agg #[.int .i64 x.1,.int .i64 x.2])] _ rfl (AD _ _ _) ?_))
     obtain⟨w9,hw9⟩:∃ w9,w9=w8.alloc (.cells #[.int .i64 q.1,.int .i64 x.1,.int .i64 x.2,.bool false] 236):=⟨_,rfl⟩
     have h16:w9.heap[w8.heap.size]?=some (.cells #[.int .i64 q.1,.int .i64 x.1,.int .i64 x.2,.bool false] 236 (0,0)):=by rw[hw9];exact heap_alloc_last w8 _
     have hb9:Below w8.heap.size w8 w9:=by rw[hw9];exact ae (Below.refl _ _) _
     have hg16:B+1+1+1 < w8.heap.size:=ai HS9.out.out
     refine ar hw9.symm ?_
     have H16:=ak_ h16
     have HS10:=ak_ (HS9.out.below hb9)
     have H159:=ag H15.out hb9
     have x0:=(show w9.cell? ⟨g15,0,none⟩=some (.int .i64 x.1) by rw[ah H159];rfl)
     have x1:=(show w9.cell? ⟨g15,1,none⟩=some (.int .i64 x.2) by rw[ah H159];rfl)
     obtain⟨g16,hg⟩:=mn_ w8.heap.size
     rw[hg] at H16 hg16 ⊢
     have HG16:=ak_ hg16
     clear hw9 h16 hb9 hg hg16 H159
     obtain⟨c,hc⟩:∃ c:Bool,c=decide (x.1=0∧0≤x.2∧x.2 < (rows.length:Int)):=⟨_,rfl⟩
     have HC:=ak_ hc
     clear hc
     go_cut [68] from 54 to 68 (fun v wx=>v=.bool c∧w9=wx)
     case first=>
      by_cases h0:x.1=0
      ·have q0:(x.1 == 0)=true:=beq_iff_eq.mpr h0
       by_cases h1:0≤x.2
       ·by_cases h2:x.2 < (rows.length:Int)
        ·obtain rfl:c=true:=by rw[HC.out];exact decide_eq_true ⟨h0,h1,h2⟩
         have q1:=decide_eq_true h1
         have q2:=decide_eq_true h2
         clear h0
         go_wp2
         go_meet
         case rel=>exact⟨rfl,rfl⟩
        ·obtain rfl:c=false:=by rw[HC.out];exact decide_eq_false (fun h=>h2 h.2.2)
         have q1:=decide_eq_true h1
         have q2:=decide_eq_false h2
         clear h0
         go_wp2
         go_meet
         case rel=>exact⟨rfl,rfl⟩
       ·obtain rfl:c=false:=by rw[HC.out];exact decide_eq_false (fun h=>h1 h.2.1)
        have q1:=decide_eq_false h1
        clear h0
        go_wp2
        go_meet
        case rel=>exact⟨rfl,rfl⟩
      ·have q0:(x.1 == 0)=false:=beq_eq_false_iff_ne.mpr h0
       obtain rfl:c=false:=by rw[HC.out];exact decide_eq_false (fun h=>h0 h.1)
       clear h0
       go_wp2
       go_meet
       case rel=>exact⟨rfl,rfl⟩
     case rest=>
      obtain⟨rfl,rfl⟩:=hcut
      go_upto_if 68 with fail
      go_cut [] from 69 to 76 (fun wx=>aa (iO w wx B rows.length ⟨a.2,q.2,s.classes,s.out⟩∧wx.heap[g16]?=some (.cells #[.int .i64 lk.b,.int .i64 lk.k,.int .i64 lk.n,.bool lk.t] 236 (0,0))))
      case first=>
       cases c with
       | false=>
        have hlk2:=HLk.out
        unfold oM at hlk2
        rw[if_neg (of_decide_eq_false HC.out.symm)] at hlk2
        have HL2:=ak_ hlk2
        clear hlk2
        go_wp2
        go_meet
        case rel=>exact⟨⟨HS10.out,by rw[HL2.out];exact H16.out⟩⟩
       | true=>
        have hcc:=of_decide_eq_true HC.out.symm
        have hlk2:=HLk.out
        unfold oM at hlk2
        rw[if_pos hcc] at hlk2
        obtain⟨xk,xn⟩:=x
        simp only at hcc hlk2 x0 x1
        obtain⟨p,rfl⟩:∃ p:Nat,xn=p:=⟨xn.toNat,by omega⟩
        obtain rfl:xk=0:=hcc.1
        have hpl:p < rows.length:=by omega
        have hpl':(p:Int) < (rows.length:Int):=by omega
        obtain⟨v,hv⟩:∃ v,old[p]?=some v:=⟨_,List.getElem?_eq_getElem (by rw[HLen.out];exact hpl)⟩
        rw[Int.toNat_natCast,List.getD_eq_getElem?_getD,hv,Option.getD_some] at hlk2
        obtain⟨ad2,cs2,e2,_,hK2,hc2⟩:=bX HO.out p hpl v hv
        injection e2 with e2
        subst e2
        obtain rfl:cs2=[.int .i64 v]:=hK2
        have vP:=ak HS10.out.b (hc2 0 _ rfl)
        rw[show p * (Kd.int .i64).sz+0=p from Nat.mul_one p] at vP
        have HL2:=ak_ hlk2
        clear hlk2 hcc hv hc2 hpl
        go_wp2_with (first
         | ((with_reducible refine aj (N:=74) rfl ?_);refine aM rfl 184 _ rfl [(1,.int .i64 v)] _ rfl (AJ _) ?_)
         | ((with_reducible refine ao (t:=184) (p:=75) rfl ?_);refine dT rfl 184 _ _ rfl g16 1 [.int .i64 0,.int .i64 v] rfl rfl 236 [.int .i64 q.1,.int .i64 0,.int .i64 (p:Int),.bool false] [.int .i64 q.1,.int .i64 0,.int .i64 v,.bool false] H16.out j_ (Nat.le_of_ble_eq_true rfl) (by simp[Value.oneCell']) rfl ?_;intro wp hp hfp;have z3:=(show wp.cell? ⟨g16,3,none⟩=some (.bool false) by rw[ap hp];rfl);have zf:=aq hp 3;have HP:=ak_ hp;have HFp:=ak_ hfp;clear hp hfp))
        go_meet
        case rel=>
         refine⟨⟨?_,by rw[HL2.out];exact aJ HP.out 3 (.bool true)⟩⟩
         have hf:=HFp.out.trans (Fr.cell (S:=fun k=>k=g16) (p:=⟨g16,3,none⟩) rfl (.bool true))
         have hg:=HG16.out
         have h:=HS10.out
         have hlo:=h.lo
         exact⟨Fr.below h.b hf (fun k hk q=>by omega) h.b.size,h.lo,h.a1.fr hf (by omega),h.a2.fr hf (by omega),h.a3.fr hf (by omega),(hf.block _ (ai h.out) (by omega)).trans h.out⟩
      case rest=>
       obtain⟨hS11,h16⟩:=hcut.out
       have HN2:=sj q.2 lk (B+1) wc hS11.a2
       have HN2:=ak_ (show Calls Tryz.prog 115 #[.map (some (B+1)),.agg #[.int .i64 lk.b,.int .i64 lk.k,.int .i64 lk.n,.bool lk.t]] wc fun e w'=>e=.returned (.int .i64 ((cx q.2 lk).1:Int))∧bI eL w' (B+1) (dP (cx q.2 lk).2)∧Fr (fun k=>k=B+1) wc w' from HN2)
       obtain⟨nq,hnq⟩:=nm_ (cx q.2 lk)
       rw[←hnq] at HN2 HFi2
       have HS11:=ak_ hS11
       have H16b:=ak_ h16
       clear hcut hS11 h16 hnq HC
       go_wp2_with (first
        | ((with_reducible refine aj (N:=78) rfl ?_);refine wpList_load_row rfl 236 _ rfl g16 rfl 236 #[.int .i64 lk.b,.int .i64 lk.k,.int .i64 lk.n,.bool lk.t] (0,0) _ H16b.out Tryz.underlying236 rfl zZ ?_)
        | (go_at_call 115;refine HN2.out.mono ?_;rintro e w12 ⟨rfl,hm,hf⟩;have HS12:=ak_ (HS11.out.put2 hm hf);clear hm hf))
       go_roundw
       case rel=>exact⟨k+1,((nq.1:Int),nq.2),by go_num,rfl,⟨⟨HKl.out,HFi2.out,HS12.out⟩⟩⟩
       case measure=>have:=HKl.out;simp[intOf];omega
    ·obtain rfl:k=r.links.length:=by omega
     rw[List.drop_of_length_le (Nat.le_refl _)] at hfin
     have hq:jk rows.length old r.links (-1 - (a.1:Int),s.links)=q:=hfin
     have HN3:=tM s.classes ((a.1:Int),q.1) (B+1+1) wr hS.a3
     have HN3:=ak_ (show Calls Tryz.prog 116 #[.map (some (B+1+1)),.agg #[.int .i64 (a.1:Int),.int .i64 q.1]] wr fun e w'=>e=.returned (.int .i64 ((cx s.classes ((a.1:Int),q.1)).1:Int))∧bI eP w' (B+1+1) (dP (cx s.classes ((a.1:Int),q.1)).2)∧Fr (fun k=>k=B+1+1) wr w' from HN3)
     obtain⟨nc,hnc⟩:=nm_ (cx s.classes ((a.1:Int),q.1))
     rw[←hnc] at HN3
     have hrow:rX rows.length old i r s=⟨a.2,q.2,nc.2,s.out++[(nc.1:Int)]⟩:=by
      unfold rX
      simp only
      rw[←HA.out,hq,←hnc]
     have hI2:=HI.out.row (N:=rows.length) r
     have hfi:=HFi.out
     rw[hrow] at hI2 hfi
     have HI2:=ak_ hI2
     have HFi3:=ak_ hfi
     have HS8:=ak_ hS
     have HOl:=ak_ HI.out.len
     clear hfin hq hnc hrow hI2 hfi hS hk HL hkl
     go_wp2_with (first
      | ((with_reducible refine aj (N:=86) rfl ?_);refine aM rfl 138 _ rfl [(0,.int .i64 (a.1:Int)),(1,.int .i64 q.1)] _ rfl (sV _ _) ?_)
      | (go_at_call 116;refine HN3.out.mono ?_;rintro e w12 ⟨rfl,hm,hf⟩;have hS12:=HS8.out.put3 hm hf;have HS13:=ak_ (hS12.putO HLt.out HOl.out (nc.1:Int));have zf:=aq hS12.out i;have zc:=(show w12.cell? ⟨B+1+1+1,i,none⟩=some (.int .i64 0) by rw[ap hS12.out,List.getElem?_map,List.getElem?_append_right (by rw[HOl.out];exact Nat.le_refl _),HOl.out,Nat.sub_self,List.getElem?_replicate,if_pos (by have:=HLt.out;omega)];rfl);clear hm hf hS12))
     go_roundw
     case rel=>exact⟨i+1,_,by go_num,⟨⟨HLt.out,HFi3.out,HI2.out,HS13.out⟩⟩⟩
     case measure=>have:=HLt.out;simp[intOf];omega
  ·obtain rfl:i=rows.length:=by omega
   rw[List.drop_of_length_le (Nat.le_refl _)] at hfin
   have hR:dc rows old=s:=hfin
   have HRd:=ak_ hR
   have HS8:=ak_ hS
   have HOl:=ak_ hI.len
   clear hfin hR hS hi HL hI hlt
   go_wp2_with (first
    | ((with_reducible refine aj (N:=92) rfl ?_);refine dk rfl (.int .i64 (s.classes.length:Int)) (kr (t:=231) rfl rfl (iC s.classes) HS8.out.a3 Tryz.underlying231) ?_))
   refine bodyPost_ret (v:=.tuple #[.slice (some ⟨B+1+1+1,0,none⟩) rows.length rows.length,.int .i64 (s.classes.length:Int)]) (by simp[results,Tryz.results101,go_sem]) rfl ⟨B+1+1+1,by rw[HRd.out],?_,by have:=HS8.out.lo;omega,HS8.out.b⟩
   have ho:=HS8.out.out
   rw[HOl.out,Nat.sub_self,List.replicate_zero,List.append_nil] at ho
   rw[HRd.out]
   exact ho
theorem DG {W:World} {g:Nat} {L:List Int} (h:W.heap[g]?=some (.cells (L.map (Value.int .i64)).toArray 3 (0,0))) (hl:L.length≤9223372036854775807):Kd.C (Kd.int .i64) W (some ⟨g,0,none⟩) L.length L:=by
 refine⟨rfl,hl,fun _=>⟨_,rfl,fun j p hp=>⟨[.int .i64 p],rfl,rfl,fun i u hu=>?_⟩⟩⟩
 have hi:i=0:=by
  have:=(List.getElem?_eq_some_iff.1 hu).1
  simp at this
  exact this
 subst hi
 obtain rfl:=Option.some.inj hu
 rw[uz,ap h,show j * (Kd.int .i64).sz+0=j from Nat.mul_one j,List.getElem?_map,hp]
 rfl
theorem og (rows:List fb) (AR:Option Addr) (cR:Nat) (w:World) (hR:Kd.C kRR w AR rows.length rows) (hN:rows.length≤5000) (hT:∀ r∈rows,r.links.length≤500) :
  Calls Tryz.prog 84 #[.slice AR rows.length cR] w fun e w'=>∃ go:Nat,e=.returned (.slice (some ⟨go,0,none⟩) rows.length rows.length)∧w'.heap[go]?=some (.cells ((cr rows).map (Value.int .i64)).toArray 3 (0,0))∧w.heap.size≤go∧Below w.heap.size w w':=by
 have hN':(rows.length:Int)≤5000:=by omega
 have HMk:=ak_ (run_make_row' (P:=Tryz.prog) 109 3 (.int .i64 0) 8 Tryz.underlying109 tS rfl .i64 .i64 rows.length (by omega) (by omega))
 have HRd:=ak_ (fun (W:World) (hb:Below w.heap.size w W) (old:List Int) (AO:Option Addr) (cO:Nat) (hO:Kd.C (Kd.int .i64) W AO rows.length old) (hl:old.length=rows.length)=>qP rows old AR AO cR cO W (Kd.C_below hR hb) hO hl hN hT)
 clear hR hN hT
 go_enter Tryz.func84,Tryz.ntmps84
 go_upto_region 2 with (first
  | ((with_reducible refine aj (N:=9) rfl ?_);refine fM rfl 109 _ _ rfl _ _ _ rfl rfl (HMk.out _) ?_))
 obtain⟨wb,hwb⟩:∃ wb,wb=w.alloc (.cells (madeCells #[.int .i64 0] rows.length) 3):=⟨_,rfl⟩
 have hbl:Below w.heap.size w wb:=by rw[hwb];exact ae (Below.refl _ _) _
 have hbk:wb.heap[w.heap.size]?=some (.cells ((List.replicate rows.length 0).map (Value.int .i64)).toArray 3 (0,0)):=by
  have:=heap_alloc_new w (.cells (madeCells #[.int .i64 0] rows.length) 3)
  rw[←hwb,gh] at this
  rw[List.map_replicate]
  exact this
 refine ar hwb.symm ?_
 have HBl:=ak_ hbl
 have HBk:=ak_ hbk
 clear hwb hbl hbk
 go_wp2
 go_loopg [3,4] (rows.length+1) (fun k o m wr=>∃ (go:Nat) (old:List Int) (many:Nat),o=.slice (some ⟨go,0,none⟩) rows.length rows.length∧m=.int .i64 many∧aa (it rows k old many∧Below w.heap.size w wr∧w.heap.size≤go∧wr.heap[go]?=some (.cells (old.map (Value.int .i64)).toArray 3 (0,0))))
 case atStart=>exact⟨w.heap.size,_,0,rfl,rfl,⟨⟨it.start rows,HBl.out,Nat.le_refl _,HBk.out⟩⟩⟩
 case round=>
  obtain⟨go,old,many,rfl,rfl,HL⟩:=hrel
  obtain⟨hC,hb,hgo,hbk⟩:=HL.out
  obtain⟨k0,rfl⟩:∃ k0,gk=k0+1:=⟨gk - 1,by have:=hC.pos;omega⟩
  have hO:=DG hbk (by rw[hC.len];omega)
  rw[hC.len] at hO
  have HCl:=ak_ (HRd.out wr hb old _ rows.length hO hC.len)
  have HC:=ak_ hC
  have HB:=ak_ hb
  obtain⟨n,hn⟩:=nm_ ((dc rows old).classes.length)
  rw[←hn] at HCl
  have HNn:=ak_ hn
  by_cases he:n=many
  ·subst he
   have HD:=ak_ (HC.out.done HNn.out.symm)
   clear hC hb hgo hbk hO hn HL
   go_wp2_with (first
    | (go_at_call 101;refine HCl.out.mono ?_;rintro e w5 ⟨go2,rfl,hk2,hg2,hb2⟩;have HK2:=ak_ hk2;have HB2:=ak_ (af HB.out hb2);have HG2:=ak_ (Nat.le_trans HB.out.size hg2);clear hk2 hg2 hb2))
   go_ret
   exact⟨go2,rfl,by rw[←HD.out];exact HK2.out,HG2.out,HB2.out⟩
  ·have HD:=ak_ (HC.out.round (by rw[←HNn.out];exact he))
   have qn:((n:Int) == (many:Int))=false:=beq_eq_false_iff_ne.mpr (by omega)
   clear hC hb hgo hbk hO hn he HL
   go_wp2_with (first
    | (go_at_call 101;refine HCl.out.mono ?_;rintro e w5 ⟨go2,rfl,hk2,hg2,hb2⟩;have HK2:=ak_ hk2;have HB2:=ak_ (af HB.out hb2);have HG2:=ak_ (Nat.le_trans HB.out.size hg2);clear hk2 hg2 hb2))
   go_roundg k0
   case measure=>omega
   case rel=>exact⟨go2,_,n,rfl,rfl,⟨⟨by rw[HNn.out];exact HD.out,HB2.out,HG2.out,HK2.out⟩⟩⟩
section
theorem mH (own:Src):∀ (vs:List Src) (now:Src),bk own vs now=own∨bk own vs now=now∨∃ v∈vs,bk own vs now=v∧(v.kind=2∨v.kind=0)
 | [],now=>.inr (.inl rfl)
 | v :: vs,now=>by
  unfold bk
  by_cases h1:v=opn
  ·rw[if_pos h1]
   rcases mH own vs now with h | h | ⟨u,hu,h⟩
   ·exact .inl h
   ·exact .inr (.inl h)
   ·exact .inr (.inr ⟨u,List.mem_cons_of_mem _ hu,h⟩)
  ·rw[if_neg h1]
   by_cases h2:(v.kind≠2∧v.kind≠0)∨(now≠opn∧now≠v)
   ·rw[if_pos h2]
    exact .inl rfl
   ·rw[if_neg h2]
    have hk:v.kind=2∨v.kind=0:=by
     by_cases q:v.kind=2
     ·exact .inl q
     ·by_cases q2:v.kind=0
      ·exact .inr q2
      ·exact absurd (.inl ⟨q,q2⟩) h2
    rcases mH own vs v with h | h | ⟨u,hu,h⟩
    ·exact .inl h
    ·exact .inr (.inr ⟨v,List.mem_cons_self ..,h,hk⟩)
    ·exact .inr (.inr ⟨u,List.mem_cons_of_mem _ hu,h⟩)
structure NPl (f:List In) (c:List Bool) (S:bj) (F:List (List Src)):Prop where
 r:bi f=true
 s:S=a9 f c
 f:F=bY f S
section
variable {f:List In} {c:List Bool} {S:bj} {F:List (List Src)}
theorem NPl.sh (h:NPl f c S F):fL S.nodes.length F:=by rw[h.f];exact(kg f S).sh
theorem NPl.way (h:NPl f c S F):gy S.nodes∧OOk S.nodes.length S.entry:=by rw[h.s];exact fp f c
theorem NPl.nok (h:NPl f c S F):NOk f S.nodes:=by rw[h.s];exact iz (bN h.r) c
theorem NPl.n200 (h:NPl f c S F):S.nodes.length≤200:=by have:=h.nok.len;have:=(bN h.r).len;omega
theorem NPl.fact (h:NPl f c S F) {n l:Nat} (hn:n < S.nodes.length) (hl:l < 24):du F n l=ns l∨du F n l=opn∨(du F n l).kind=2∨(du F n l).kind=0:=by
 have hf:=(kg f S).fix n l hn hl
 rw[←h.f] at hf
 rw[←hf]
 unfold cz
 rcases mH ⟨4,(l:Int)⟩ (rr f S F n l) opn with q | q | ⟨v,_,q,k⟩
 ·exact .inl q
 ·exact .inr (.inl q)
 ·rw[q];exact .inr (.inr k)
theorem NPl.edge (h:NPl f c S F) {n:Nat} {ws:List bL} (hw:(aX S)[n]?=some ws) {e:bL} (he:e∈ws):∃ o,dE S e=some o∧o.jt=(n:Int)∧OOk S.nodes.length o:=by
 obtain⟨o,h1,h2⟩:=nJ S n ws hw e he
 exact⟨o,h1,h2,vk h.way.1 h.way.2 h1⟩
theorem Ck (e:bL) (l:Nat):0≤(dr f S e l).kind∧(dr f S e l).kind≤4:=by
 unfold dr eh
 split
 ·exact⟨by show (0:Int)≤2;decide,by show (2:Int)≤4;decide⟩
 ·split
  ·split
   ·exact⟨by show (0:Int)≤1;decide,by show (1:Int)≤4;decide⟩
   ·exact⟨by show (0:Int)≤0;decide,by show (0:Int)≤4;decide⟩
  ·split
   ·exact⟨by show (0:Int)≤3;decide,by show (3:Int)≤4;decide⟩
   ·exact⟨by show (0:Int)≤4;decide,by show (4:Int)≤4;decide⟩
theorem NPl.src (h:NPl f c S F) {n:Nat} {ws:List bL} (hw:(aX S)[n]?=some ws) {e:bL} (he:e∈ws) {l:Nat} (hl:l < 24) {x:Src} (hx:x=dn F e (dr f S e l)) :
  -1≤x.kind∧x.kind≤4∧(x.kind=4→0≤e.1∧e.1 < (S.nodes.length:Int)∧0≤x.n∧x.n < 24):=by
 obtain⟨o,ho,hj,hok⟩:=h.edge hw he
 have hbk:=Ck (f:=f) (S:=S) e l
 by_cases hk:(dr f S e l).kind=4
 ·obtain⟨b1,b2,b3,b4⟩:=ur hok ho hl hk
  unfold dn at hx
  rw[if_pos hk] at hx
  have hx2:x=du F e.1.toNat (dr f S e l).n.toNat:=hx
  rcases h.fact (n:=e.1.toNat) (l:=(dr f S e l).n.toNat) (by omega) (by omega) with q | q | q | q
  ·rw[q] at hx2
   subst hx2
   exact⟨by show (-1:Int)≤4;decide,by show (4:Int)≤4;decide,fun _=>⟨b1,b2,by show (0:Int)≤((dr f S e l).n.toNat:Int);omega,by show ((dr f S e l).n.toNat:Int) < 24;omega⟩⟩
  ·rw[q] at hx2
   subst hx2
   exact⟨by show (-1:Int)≤-1;decide,by show (-1:Int)≤4;decide,fun q=>absurd q (by show ¬ (-1:Int)=4;decide)⟩
  ·rw[←hx2] at q
   exact⟨by omega,by omega,fun q2=>by omega⟩
  ·rw[←hx2] at q
   exact⟨by omega,by omega,fun q2=>by omega⟩
 ·unfold dn at hx
  rw[if_neg hk] at hx
  rw[hx]
  exact⟨by omega,by omega,fun q=>absurd q hk⟩
end
def ol (f:List In) (S:bj) (F:List (List Src)) (l:Nat) (e:bL):Int × Int:=
 let x:=dn F e (dr f S e l)
 if x.kind=4 then (0,e.1 * 24+x.n) else (1+x.kind,x.n)
def oa (f:List In) (S:bj) (F:List (List Src)) (n l:Nat):fb:=if (du F n l).kind=4 then ⟨n,((aX S).getD n []).map (ol f S F l)⟩ else ⟨-1,[]⟩
def dO (f:List In) (S:bj) (F:List (List Src)) (n l:Nat):List fb:=(List.range n).flatMap (fun n=>(List.range 24).map (oa f S F n))++(List.range l).map (oa f S F n)
def gZ (f:List In) (S:bj) (F:List (List Src)):List fb:=dO f S F S.nodes.length 0
theorem qM (f:List In) (S:bj) (F:List (List Src)) (n l:Nat):dO f S F n (l+1)=dO f S F n l++[oa f S F n l]:=by
 unfold dO
 rw[List.range_succ (n:=l),List.map_append,List.append_assoc]
 rfl
theorem qN (f:List In) (S:bj) (F:List (List Src)) (n:Nat):dO f S F n 24=dO f S F (n+1) 0:=by
 unfold dO
 rw[List.range_succ (n:=n),List.flatMap_append,List.range_zero,List.map_nil,List.append_nil]
 simp
theorem jS (f:List In) (S:bj) (F:List (List Src)) (n l:Nat):(dO f S F n l).length=n * 24+l:=by
 unfold dO
 rw[List.length_append,List.length_map,List.length_range]
 congr 1
 induction n with
 | zero=>rfl
 | succ n ih=>
  rw[List.range_succ (n:=n),List.flatMap_append,List.length_append,ih]
  simp
  omega
theorem n_ {f:List In} {c:List Bool} {S:bj} {F:List (List Src)} (h:NPl f c S F) (n l:Nat):(oa f S F n l).links.length≤500:=by
 unfold oa
 split
 ·show (((aX S).getD n []).map (ol f S F l)).length≤500
  rw[List.length_map]
  by_cases hn:n < (aX S).length
  ·have:=eM h.way.1.few h.n200 _ (List.getElem_mem hn)
   rw[List.getD_eq_getElem?_getD,List.getElem?_eq_getElem hn]
   simp only[Option.getD_some]
   omega
  ·rw[List.getD_eq_getElem?_getD,List.getElem?_eq_none (by omega)]
   exact Nat.zero_le _
 ·exact Nat.zero_le _
theorem rU {f:List In} {c:List Bool} {S:bj} {F:List (List Src)} (h:NPl f c S F):∀ r∈gZ f S F,r.links.length≤500:=by
 intro r hr
 unfold gZ dO at hr
 rcases List.mem_append.1 hr with hr | hr
 ·obtain⟨n,_,hr⟩:=List.mem_flatMap.1 hr
  obtain⟨l,_,rfl⟩:=List.mem_map.1 hr
  exact n_ h n l
 ·obtain⟨l,_,rfl⟩:=List.mem_map.1 hr
  exact n_ h _ l
structure fe where
 op:Int
 n:Int
 args:List Src
 outs:List Int
structure kE where
 at_:Int
 from_:List Src
structure kR where
 entry:Int
 nodes:List fe
 vals:List kE
structure dj where
 cs:List Int
 ps:List (Int × Int)
def dj.add (m:dj) (c n l:Int):dj:=match kz m.cs c with
 | some _=>m
 | none=>⟨m.cs++[c],m.ps++[(n,l)]⟩
def fJ (cl:List Int) (n:Int) (x:Src) (m:dj):Src × dj:=
 if x.kind=4 then (⟨4,((cx m.cs (cl.getD (n * 24+x.n).toNat 0)).1:Int)⟩,m.add (cl.getD (n * 24+x.n).toNat 0) n x.n) else (x,m)
def dx (cl:List Int) (F:List (List Src)) (n:Nat):List Int→dj→List Src × dj
 | [],m=>([],m)
 | l :: ls,m=>
  let a:=fJ cl (n:Int) (du F n l.toNat) m
  let b:=dx cl F n ls a.2
  (a.1 :: b.1,b.2)
def kZ (f:List In) (c:List Bool) (cl:List Int) (F:List (List Src)) (n:Nat) (x:aH) (m:dj):fe × dj:=
 let y:=f.getD x.at_.toNat In.zero
 if c.getD x.at_.toNat false=true then (⟨0,0,[],x.outs.map (·.jt)⟩,m)
 else
  let a:=dx cl F n (cy y) m
  (⟨y.op,if y.op=15 then y.n else 0,a.1,x.outs.map (·.jt)⟩,a.2)
def dd (f:List In) (c:List Bool) (cl:List Int) (F:List (List Src)):List aH→Nat→dj→List fe × dj
 | [],_,m=>([],m)
 | x :: xs,n,m=>
  let a:=kZ f c cl F n x m
  let b:=dd f c cl F xs (n+1) a.2
  (a.1 :: b.1,b.2)
def dL (f:List In) (S:bj) (F:List (List Src)) (cl:List Int) (l:Nat):List bL→dj→List Src × dj
 | [],m=>([],m)
 | e :: es,m=>
  let a:=fJ cl e.1 (dn F e (dr f S e l)) m
  let b:=dL f S F cl l es a.2
  (a.1 :: b.1,b.2)
def fj (f:List In) (S:bj) (F:List (List Src)) (cl:List Int):Nat→Nat→dj→List kE
 | 0,_,_=>[]
 | k+1,i,m=>match m.ps[i]? with
  | none=>[]
  | some p=>
   let a:=dL f S F cl p.2.toNat ((aX S).getD p.1.toNat []) m
   ⟨p.1,a.1⟩ :: fj f S F cl k (i+1) a.2
def bD (f:List In):kR:=
 let c:=bZ f
 let S:=a9 f c
 let F:=bY f S
 let cl:=cr (gZ f S F)
 let a:=dd f c cl F S.nodes 0 ⟨[],[]⟩
 ⟨S.entry.jt,a.1,fj f S F cl (S.nodes.length * 24+1) 0 a.2⟩
def lI (f:List In) (c:List Bool) (cl:List Int) (F:List (List Src)) (n:Nat) (x:aH) (m:dj):(Int × Int × List Src) × dj:=
 if c.getD x.at_.toNat false=true then ((0,0,[]),m)
 else (((f.getD x.at_.toNat In.zero).op,if (f.getD x.at_.toNat In.zero).op=15 then (f.getD x.at_.toNat In.zero).n else 0,(dx cl F n (cy (f.getD x.at_.toNat In.zero)) m).1),(dx cl F n (cy (f.getD x.at_.toNat In.zero)) m).2)
theorem mF (f:List In) (c:List Bool) (cl:List Int) (F:List (List Src)) (n:Nat) (x:aH) (m:dj):kZ f c cl F n x m=(⟨(lI f c cl F n x m).1.1,(lI f c cl F n x m).1.2.1,(lI f c cl F n x m).1.2.2,x.outs.map (·.jt)⟩,(lI f c cl F n x m).2):=by
 unfold kZ lI
 simp only
 split <;> rfl
theorem s5 (cl:List Int) (F:List (List Src)) (n:Nat) (l:Int) (ls:List Int) (m:dj) (zs:List Src):(zs++(dx cl F n (l :: ls) m).1,(dx cl F n (l :: ls) m).2)=((zs++[(fJ cl (n:Int) (du F n l.toNat) m).1])++(dx cl F n ls (fJ cl (n:Int) (du F n l.toNat) m).2).1,(dx cl F n ls (fJ cl (n:Int) (du F n l.toNat) m).2).2):=by
 simp only[dx,List.append_assoc,List.singleton_append]
theorem pp (cl:List Int) (F:List (List Src)) (n:Nat):∀ (ls:List Int) (m:dj),(dx cl F n ls m).1.length=ls.length
 | [],_=>rfl
 | l :: ls,m=>by simp only[dx,List.length_cons];rw[pp cl F n ls]
theorem rC (f:List In) (S:bj) (F:List (List Src)) (cl:List Int) (l:Nat) (e:bL) (es:List bL) (m:dj) (zs:List Src):(zs++(dL f S F cl l (e :: es) m).1,(dL f S F cl l (e :: es) m).2)=((zs++[(fJ cl e.1 (dn F e (dr f S e l)) m).1])++(dL f S F cl l es (fJ cl e.1 (dn F e (dr f S e l)) m).2).1,(dL f S F cl l es (fJ cl e.1 (dn F e (dr f S e l)) m).2).2):=by
 simp only[dL,List.append_assoc,List.singleton_append]
theorem qW (f:List In) (c:List Bool) (cl:List Int) (F:List (List Src)) (x:aH) (xs:List aH) (n:Nat) (m:dj) (zs:List fe):(zs++(dd f c cl F (x :: xs) n m).1,(dd f c cl F (x :: xs) n m).2)=((zs++[(kZ f c cl F n x m).1])++(dd f c cl F xs (n+1) (kZ f c cl F n x m).2).1,(dd f c cl F xs (n+1) (kZ f c cl F n x m).2).2):=by
 simp only[dd,List.append_assoc,List.singleton_append]
end
section
theorem oI (n l:Int) (h0:0≤n) (h1:n≤1000) (h2:0≤l) (h3:l≤1000) (w:World):Calls Tryz.prog 55 #[.int .i64 n,.int .i64 l] w fun e w'=>e=.returned (.int .i64 (n * 24+l))∧w=w':=by
 go_enter Tryz.func55,Tryz.ntmps55
 go_wp2
 go_ret
 exact⟨rfl,rfl⟩
def ep (vf vc:Value) (e:aU) (vN vF vA vW vC:Value):List Value:=[vf,vc]++e.cells++[vN,vF,vA,vW,vC]
section
variable {vf vc:Value} {e:aU} {vN vF vA vW vC:Value}
theorem iF (i:Nat):(ep vf vc e vN vF vA vW vC)[27+i]?=[vN,vF,vA,vW,vC][i]?:=by
 unfold ep
 rw[List.getElem?_append_right (by simp[aU.len])]
 congr 1
 simp[aU.len]
theorem qZ (i:Nat) (v:Value):(ep vf vc e vN vF vA vW vC).set (27+i) v=[vf,vc]++e.cells++[vN,vF,vA,vW,vC].set i v:=by
 unfold ep
 rw[List.set_append_right _ _ (by simp[aU.len])]
 congr 2
 simp[aU.len]
end
theorem py {α:Type} {k:Kd α} {t:Nat} {w:World} {A:Option Addr} {n:Nat} {rows:List (List α)} (h:Kd.C (Kd.slice t k) w A n rows) (i:Nat) (h1:i < n) (row:List α) (hx:rows[i]?=some row) :
  ∃ ad AR cR,A=some ad∧w.cell? (ad.add i)=some (.slice AR row.length cR)∧row.length≤cR∧Kd.C k w AR row.length row:=by
 obtain⟨ad,c,e1,_,hK,hc⟩:=bX h i h1 row hx
 obtain⟨AR,cR,rfl,hl,hC⟩:=hK
 have:=hc 0 _ rfl
 rw[show i * (Kd.slice t k).sz+0=i from Nat.mul_one i] at this
 exact⟨ad,AR,cR,e1,this,hl,hC⟩
structure MkR (W:World) (gm:Nat) (f:List In) (S:bj) (F:List (List Src)) (vf vc vN vC:Value) (AF AA AW:Option Addr) (cF cA cW:Nat):Prop where
 blk:W.heap[gm]?=some (.cells (ep vf vc S.entry vN (.slice AF S.nodes.length cF) (.slice AA S.nodes.length cA) (.slice AW S.nodes.length cW) vC).toArray 124 (0,0))
 rF:Kd.C k8 W AF S.nodes.length F
 rA:Kd.C lQ W AA S.nodes.length (eF f S)
 rW:Kd.C (Kd.slice 151 cL) W AW S.nodes.length (aX S)
theorem MkR.below {W W1:World} {gm:Nat} {f:List In} {S:bj} {F:List (List Src)} {vf vc vN vC:Value} {AF AA AW:Option Addr} {cF cA cW:Nat} (h:MkR W gm f S F vf vc vN vC AF AA AW cF cA cW) (hb:Below W.heap.size W W1):MkR W1 gm f S F vf vc vN vC AF AA AW cF cA cW:=⟨ag h.blk hb,Kd.C_below h.rF hb,Kd.C_below h.rA hb,Kd.C_below h.rW hb⟩
theorem pW (f:List In) (c:List Bool) (S:bj) (F:List (List Src)) (hP:NPl f c S F) (gm:Nat) (vf vc vN vC:Value) (AF AA AW:Option Addr) (cF cA cW:Nat) (n k l:Nat) (ws:List bL) (hws:(aX S)[n]?=some ws) (e:bL) (he:ws[k]?=some e) (hl:l < 24) (w:World) (hM:MkR w gm f S F vf vc vN vC AF AA AW cF cA cW) :
  Calls Tryz.prog 57 #[.pointer (some ⟨gm,0,none⟩),.int .i64 (n:Int),.int .i64 (k:Int),.int .i64 (l:Int)] w fun r w'=>r=.returned (.agg #[.int .i64 (dn F e (dr f S e l)).kind,.int .i64 (dn F e (dr f S e l)).n])∧Below w.heap.size w w':=by
 have hnw:n < S.nodes.length:=by have:=(List.getElem?_eq_some_iff.1 hws).1;rwa [gV] at this
 have hkw:=(List.getElem?_eq_some_iff.1 he).1
 have hws4:=eM hP.way.1.few hP.n200 ws (List.mem_of_getElem? hws)
 have hal:(eF f S)[n]?=some (ws.map (dU f S)):=by unfold eF;rw[List.getElem?_map,hws];rfl
 obtain⟨adA,AB,cB,rfl,a0,_,hCB⟩:=py hM.rA n hnw _ hal
 rw[List.length_map] at a0 hCB
 have hre:(ws.map (dU f S))[k]?=some (dU f S e):=by rw[List.getElem?_map,he];rfl
 obtain⟨adB,AR,cR,rfl,b0,_,hCR⟩:=py hCB k hkw _ hre
 have hrl:(dU f S e).length=24:=by simp[dU]
 rw[hrl] at b0 hCR
 obtain⟨x,hx⟩:=nm_ (dr f S e l)
 have hxe:(dU f S e)[l]?=some x:=by unfold dU;rw[List.getElem?_map,List.getElem?_range hl,hx];rfl
 obtain⟨adR,csR,rfl,hKR,_⟩:=eu (P:=Tryz.prog) hCR l hl x hxe 135 Tryz.underlying135 rfl aG
 have HLdR:=ak_ (fun (W:World) (hb:Below w.heap.size w W)=>show (loadVar 135 (adR.add (l * 2))).run Tryz.prog W=.ok (.agg #[.int .i64 x.kind,.int .i64 x.n]) W by
  obtain⟨a3,c3,q1,q2,q3⟩:=eu (P:=Tryz.prog) (Kd.C_below hCR hb) l hl x hxe 135 Tryz.underlying135 rfl aG
  injection q1 with q1
  subst q1
  obtain rfl:c3=[.int .i64 x.kind,.int .i64 x.n]:=q2
  exact q3)
 have m29:=(show w.cell? ⟨gm,29,none⟩=some (.slice (some adA) S.nodes.length cA) by rw[ap hM.blk];exact iF 2)
 have hgm:=ai hM.blk
 have hn':(n:Int) < (S.nodes.length:Int):=by omega
 have hk':(k:Int) < (ws.length:Int):=by omega
 have hl':(l:Int) < 24:=by omega
 have hws':(ws.length:Int)≤401:=by omega
 have hn200':(S.nodes.length:Int)≤200:=by have:=hP.n200;omega
 have HP:=ak_ hP
 have HX:=ak_ hx
 have HM:=ak_ hM
 have HWs:=ak_ hws
 have HE:=ak_ he
 have HKR:=ak_ hrl
 rw[←hx]
 obtain⟨v,hv⟩:=nm_ (dn F e x)
 rw[←hv]
 have HV:=ak_ hv
 have bA:=World.block_lt_of_cell? w _ a0
 have bB:=World.block_lt_of_cell? w _ b0
 clear hP hnw hkw hws4 hal hCB hre hCR hrl hxe hx hM hws he hv hKR
 go_enter Tryz.func57,Tryz.ntmps57
 go_upto_region 1 with fail
 obtain⟨wa,hwa⟩:∃ wa,wa=w.alloc (.cells #[.int .i64 0,.int .i64 0] 135):=⟨_,rfl⟩
 have hba:Below w.heap.size w wa:=by rw[hwa];exact ae (Below.refl _ _) _
 have h8:wa.heap[w.heap.size]?=some (.cells #[.int .i64 0,.int .i64 0] 135 (0,0)):=by rw[hwa];exact heap_alloc_last w _
 refine ar hwa.symm ?_
 have m29a:=ak hba m29
 have a0a:=ak hba a0
 have b0a:=ak hba b0
 have HBa:=ak_ hba
 have H8:=ak_ h8
 clear hwa hba h8 m29 a0 b0 bA bB
 go_upto_region 2 with (first
  | ((with_reducible refine aj (N:=22) rfl ?_);refine au rfl 135 _ rfl (adR.add (l * 2)) rfl _ (HLdR.out wa HBa.out) ?_))
 obtain⟨w6,hw6⟩:∃ w6,w6=wa.alloc (.cells #[.int .i64 x.kind,.int .i64 x.n] 135):=⟨_,rfl⟩
 have hb6:Below wa.heap.size wa w6:=by rw[hw6];exact ae (Below.refl _ _) _
 have h9:w6.heap[wa.heap.size]?=some (.cells #[.int .i64 x.kind,.int .i64 x.n] 135 (0,0)):=by rw[hw6];exact heap_alloc_last wa _
 have hg9:w.heap.size < wa.heap.size:=ai H8.out
 refine ar hw6.symm ?_
 have HB6:=ak_ (af HBa.out hb6)
 have H86:=ak_ (ag H8.out hb6)
 have H9:=ak_ h9
 obtain⟨g9,hg⟩:=mn_ wa.heap.size
 rw[hg] at H9 hg9 ⊢
 have x0:=(show w6.cell? ⟨g9,0,none⟩=some (.int .i64 x.kind) by rw[ah H9.out];rfl)
 have x1:=(show w6.cell? ⟨g9,1,none⟩=some (.int .i64 x.n) by rw[ah H9.out];rfl)
 have HG9:=ak_ hg9
 clear hw6 hb6 h9 hg m29a a0a b0a hg9 HBa H8
 go_upto_if 25 with fail
 go_cut [] from 26 to 46 (fun wx=>aa (Below w.heap.size w wx∧wx.heap[w.heap.size]?=some (.cells #[.int .i64 0,.int .i64 0] 135 (0,0))∧wx.heap[g9]?=some (.cells #[.int .i64 v.kind,.int .i64 v.n] 135 (0,0))))
 case first=>
  by_cases h4:x.kind=4
  ·obtain⟨o,ho,hoj,hok⟩:=HP.out.edge HWs.out (List.mem_of_getElem? HE.out)
   obtain⟨b1,b2,b3,b4⟩:=ur hok ho hl (by rw[←HX.out];exact h4)
   rw[←HX.out] at b3 b4
   obtain⟨e1,e2⟩:=e
   simp only at b1 b2
   obtain⟨m,rfl⟩:∃ m:Nat,e1=m:=⟨e1.toNat,by omega⟩
   obtain⟨xk,xn⟩:=x
   simp only at b3 b4 h4 x0 x1
   obtain rfl:xk=4:=h4
   obtain⟨q,rfl⟩:∃ q:Nat,xn=q:=⟨xn.toNat,by omega⟩
   have hmN:m < S.nodes.length:=by omega
   have hm':(m:Int) < (S.nodes.length:Int):=by omega
   have hq':(q:Int) < 24:=by omega
   have hM6:=HM.out.below HB6.out
   obtain⟨row,hrow⟩:∃ row,F[m]?=some row:=⟨_,List.getElem?_eq_getElem (by rw[HP.out.sh.len];exact hmN)⟩
   have hr24:row.length=24:=HP.out.sh.row row (List.mem_of_getElem? hrow)
   obtain⟨adF,AR2,cR2,rfl,f0,_,hCF⟩:=py hM6.rF m hmN _ hrow
   rw[hr24] at f0 hCF
   obtain⟨adW,AE,cE,rfl,w0,_,hCE⟩:=py hM6.rW n (by omega) _ HWs.out
   obtain⟨s,hs⟩:∃ s,row[q]?=some s:=⟨_,List.getElem?_eq_getElem (by omega)⟩
   obtain⟨adS,csS,rfl,hKS,hldS⟩:=eu (P:=Tryz.prog) (Kd.C_below hCF (az (Below.refl _ _))) q (by omega) s hs 135 Tryz.underlying135 rfl aG
   obtain rfl:csS=[.int .i64 s.kind,.int .i64 s.n]:=hKS
   obtain⟨adE,csE,eE,_,hKE,hcE⟩:=bX hCE k (List.getElem?_eq_some_iff.1 HE.out).1 _ HE.out
   subst eE
   obtain rfl:csE=[.int .i64 (m:Int),.int .i64 e2]:=hKE
   have e0:=hcE 0 _ rfl
   rw[show k * cL.sz+0=k * 2 from rfl] at e0
   have m28:=(show w6.cell? ⟨gm,28,none⟩=some (.slice (some adF) S.nodes.length cF) by rw[ap hM6.blk];exact iF 1)
   have m30:=(show w6.cell? ⟨gm,30,none⟩=some (.slice (some adW) S.nodes.length cW) by rw[ap hM6.blk];exact iF 3)
   have hvs:v=s:=by
    rw[HV.out]
    unfold dn
    rw[if_pos rfl]
    simp only[Int.toNat_natCast]
    rw[List.getD_eq_getElem?_getD (l:=F),hrow]
    simp only[Option.getD_some]
    rw[List.getD_eq_getElem?_getD,hs]
    rfl
   have HVs:=ak_ hvs
   have HLdS:=ak_ hldS
   clear hr24 hCF hCE hs hldS hcE hM6 hrow hvs ho hoj hok hmN b1 b2 b3 b4
   go_upto_region 3 with fail
   go_still_tail 21,(by kernel_rfl)
   refine bu rfl (al rfl rfl HLdS.out) ?_
   refine wpStill_nil ?_
   refine an (W:=w6.drew) rfl 135 _ _ rfl g9 #[.int .i64 s.kind,.int .i64 s.n] rfl rfl 135 #[.int .i64 4,.int .i64 (q:Int)] H9.out aG rfl (by simp[Value.oneCell']) ?_
   intro w8 h8 hf8
   rw[←HVs.out] at h8
   have hf:=(Fr.drew (S:=fun k=>k=g9) (a:=w6)).trans hf8
   have HB8:=ak_ (Fr.below HB6.out hf (fun k hk h=>by have:=HG9.out;omega) HB6.out.size)
   have H88:=ak_ ((hf.block w.heap.size (ai H86.out) (by have:=HG9.out;omega)).trans H86.out)
   have H98:=ak_ h8
   clear h8 hf8 hf
   go_wp2
   go_meet
   case rel=>exact⟨⟨HB8.out,H88.out,H98.out⟩⟩
  ·have q4:(x.kind == 4)=false:=beq_eq_false_iff_ne.mpr h4
   have HV2:=ak_ (show v=x by rw[HV.out,dn,if_neg h4])
   clear h4
   go_wp2
   go_meet
   case rel=>exact⟨⟨HB6.out,H86.out,by rw[HV2.out];exact H9.out⟩⟩
 case rest=>
  obtain⟨hB7,h87,h97⟩:=hcut.out
  have HB7:=ak_ hB7
  have H87:=ak_ h87
  have H97:=ak_ h97
  clear hcut hB7 h87 h97
  go_wp2_with (first
   | ((with_reducible refine aj (N:=47) rfl ?_);refine wpList_load_row rfl 135 _ rfl g9 rfl 135 #[.int .i64 v.kind,.int .i64 v.n] (0,0) _ H97.out Tryz.underlying135 rfl aG ?_)
   | ((with_reducible refine ao (t:=135) (p:=8) rfl ?_);refine an rfl 135 _ _ rfl w.heap.size #[.int .i64 v.kind,.int .i64 v.n] rfl rfl 135 #[.int .i64 0,.int .i64 0] H87.out aG rfl (by simp[Value.oneCell']) ?_;intro w9 h9 hf9;have H99:=ak_ h9;have F9:=ak_ hf9;clear h9 hf9))
  exact bodyPost_ret (v:=.agg #[.int .i64 v.kind,.int .i64 v.n]) (results_cell_row rfl _ _ w.heap.size 135 #[.int .i64 v.kind,.int .i64 v.n] (0,0) _ rfl H99.out Tryz.underlying135 rfl aG) rfl ⟨rfl,Fr.below HB7.out F9.out (fun k hk h=>by omega) HB7.out.size⟩
end
section
theorem uV:(Tryz.prog.info? 183).map (fun i=>(i.zero,i.size,i.bytes))=some (some (.agg #[.int .i64 0,.slice none 0 0]),2,32):=by kernel_rfl
theorem BR:(Tryz.prog.info? 184).map (fun i=>(i.zero,i.size,i.bytes))=some (some (.agg #[.int .i64 0,.int .i64 0]),2,16):=by kernel_rfl
theorem ig {t q:Nat} (h:q∈t :: cL.E):q=t:=List.mem_singleton.1 h
structure rx (w W:World) (vR:Value) (L:List fb):Prop where
 b:Below w.heap.size w W
 r:Kd.R kRR 183 W w.heap.size (fun j=>w.heap.size≤j) vR L
structure kD (w W:World) (g5:Nat) (c:Int) (vT:Value) (ls:List (Int × Int)) (vR:Value) (L:List fb):Prop where
 b:Below w.heap.size w W
 lo:w.heap.size≤g5
 g:W.heap[g5]?=some (.cells #[.int .i64 c,vT] 183 (0,0))
 t:Kd.R cL 184 W w.heap.size (fun j=>w.heap.size≤j) vT ls
 r:Kd.R kRR 183 W w.heap.size (fun j=>(w.heap.size≤j∧j≠g5)∧some j≠vT.ownBlock) vR L
section
variable {w W W1:World} {g5:Nat} {c:Int} {vT vR:Value} {ls:List (Int × Int)} {L:List fb}
theorem rx.below (h:rx w W vR L) (hb:Below W.heap.size W W1):rx w W1 vR L:=⟨af h.b hb,Kd.R_below h.r hb⟩
theorem kD.below (h:kD w W g5 c vT ls vR L) (hb:Below W.heap.size W W1):kD w W1 g5 c vT ls vR L:=⟨af h.b hb,h.lo,ag h.g hb,Kd.R_below h.t hb,Kd.R_below h.r hb⟩
theorem rx.open_ (h:rx w W vR L) (c:Int):kD w (W.alloc (.cells #[.int .i64 c,.slice none 0 0] 183)) W.heap.size c (.slice none 0 0) [] vR L:=
 have hb:=ae (Below.refl W.heap.size W) (.cells #[.int .i64 c,.slice none 0 0] 183)
 ⟨af h.b hb,h.b.size,heap_alloc_last W _,Kd.R_nil _ _ _ _ _,Kd.R_mono (Kd.R_below (Kd.R_elderB h.r W.heap.size (Nat.le_refl _)) hb) (fun k hk=>⟨hk,by simp[Value.ownBlock]⟩)⟩
theorem kD.color (h:kD w W g5 c vT ls vR L) (d:Int):kD w (W.setCell ⟨g5,0,none⟩ (.int .i64 d)) g5 d vT ls vR L:=
 have hlo:=h.lo
 ⟨Fr.below h.b (Fr.cell (S:=fun k=>k=g5) rfl _) (fun k hk q=>by omega) h.b.size,h.lo,aJ (L:=[_,_]) h.g 0 _,Kd.R_set h.t h.g (fun q hq=>by have:=ig hq;omega) 0 _,Kd.R_far h.r (p:=⟨g5,0,none⟩) (fun k hk=>hk.1.2) _⟩
theorem kD.app (h:kD w W g5 c vT ls vR L) {v1:Value} {x:Int × Int} (hR:Kd.R cL 184 W1 w.heap.size (fun j=>w.heap.size≤j) v1 (ls++[x])) (hb:Below w.heap.size w W1) (hg:W.grownBy W1 vT.ownBlock) (hat:v1.ownBlock=vT.ownBlock∨∃ b,v1.ownBlock=some b∧W.heap.size≤b):kD w (W1.setCell ⟨g5,1,none⟩ v1) g5 c v1 (ls++[x]) vR L:=by
 have hlo:=h.lo
 have hne:=Kd.R_ne h.t h.g (by decide)
 have hg1:=(hg.block g5 (ai h.g) hne).trans h.g
 exact⟨Fr.below hb (Fr.cell (S:=fun k=>k=g5) rfl _) (fun k hk q=>by omega) hb.size,h.lo,aJ (L:=[_,_]) hg1 1 _,Kd.R_set hR hg1 (fun q hq=>by have:=ig hq;omega) 1 _,Kd.R_far (Kd.R_after h.r hg hat) (p:=⟨g5,1,none⟩) (fun k hk=>hk.1.2) _⟩
theorem kD.rowM (h:kD w W g5 c vT ls vR L):kRR.M W w.heap.size (fun j=>w.heap.size≤j∧some j≠vR.ownBlock) ⟨c,ls⟩ [.int .i64 c,vT]:=
 ⟨[.int .i64 c],[vT],rfl,rfl,vT,rfl,Kd.R_apartR h.t h.r (fun q hq=>by have:=ig hq;omega)⟩
theorem kD.rows (h:kD w W g5 c vT ls vR L):Kd.R kRR 183 W w.heap.size (fun j=>w.heap.size≤j) vR L:=Kd.R_mono h.r (fun k hk=>hk.1.1)
end
end
theorem AP (n:Int):Tryz.prog.built 183 [(0,.int .i64 n)]=some #[.int .i64 n,.slice none 0 0]:=by kernel_rfl
theorem yl (f:List In) (c:List Bool) (S:bj) (F:List (List Src)) (hP:NPl f c S F) (gm:Nat) (vf vc:Value) (AN AF AA AW:Option Addr) (cN cF cA cW:Nat) (w:World) (hM:MkR w gm f S F vf vc (.slice AN S.nodes.length cN) (.slice none 0 0) AF AA AW cF cA cW) :
  Calls Tryz.prog 53 #[.pointer (some ⟨gm,0,none⟩)] w fun r w'=>r=.returned (.tuple #[])∧∃ go:Nat,w'.heap[gm]?=some (.cells (ep vf vc S.entry (.slice AN S.nodes.length cN) (.slice AF S.nodes.length cF) (.slice AA S.nodes.length cA) (.slice AW S.nodes.length cW) (.slice (some ⟨go,0,none⟩) (S.nodes.length * 24) (S.nodes.length * 24))).toArray 124 (0,0))∧w'.heap[go]?=some (.cells ((cr (gZ f S F)).map (Value.int .i64)).toArray 3 (0,0))∧w.heap.size≤go∧Fr (fun k=>k=gm) w w':=by
 have hn200:=hP.n200
 have hn200':(S.nodes.length:Int)≤200:=by omega
 have hgm:=ai hM.blk
 have m27:=(show w.cell? ⟨gm,27,none⟩=some (.slice AN S.nodes.length cN) by rw[ap hM.blk];exact iF 0)
 have HP:=ak_ hP
 have HM:=ak_ hM
 have HGm:=ak_ hgm
 clear hP hM
 go_enter Tryz.func53,Tryz.ntmps53
 go_wp2
 go_loopw [16,2] (fun j v2 wr=>∃ n:Nat,j=.int .i64 n∧aa (n≤S.nodes.length∧rx w wr v2 (dO f S F n 0))) (fun j _ _=>S.nodes.length - (intOf j).toNat)
 case atStart=>exact⟨0,rfl,⟨⟨Nat.zero_le _,⟨Below.refl _ _,Kd.R_nil _ _ _ _ _⟩⟩⟩⟩
 case round=>
  obtain⟨n,rfl,HL⟩:=hrel
  obtain⟨hn,hS⟩:=HL.out
  by_cases hlt:n < S.nodes.length
  ·have hlt':(n:Int) < (S.nodes.length:Int):=by omega
   have HS:=ak_ hS
   have HLt:=ak_ hlt
   clear hn hS hlt HL
   go_upto_region 5 with fail
   go_loopw [19,2] (fun j v2 wr=>∃ l:Nat,j=.int .i64 l∧aa (l≤24∧rx w wr v2 (dO f S F n l))) (fun j _ _=>24 - (intOf j).toNat)
   case atStart=>exact⟨0,rfl,⟨⟨Nat.zero_le _,HS.out⟩⟩⟩
   case round=>
    obtain⟨l,rfl,HL⟩:=hrel
    obtain⟨hl,hS⟩:=HL.out
    obtain⟨L,hLd⟩:=nm_ (dO f S F n l)
    rw[←hLd] at hS
    obtain⟨AR,cR,rfl⟩:=Kd.R_slice hS.r
    by_cases hll:l < 24
    ·have hll':(l:Int) < 24:=by omega
     have hLl:L.length≤5000:=by rw[hLd,jS];omega
     have hnx:dO f S F n (l+1)=L++[oa f S F n l]:=by rw[qM,←hLd]
     have HNx:=ak_ hnx
     have HLl:=ak_ hLl
     have hT:=hS.open_ (n:Int)
     have HS2:=ak_ hS
     clear hS hl HL hLd hnx hLl
     go_upto_region 8 with (first
      | ((with_reducible refine aj (N:=23) rfl ?_);refine aM rfl 183 _ rfl [(0,.int .i64 (n:Int))] _ rfl (AP _) ?_))
     obtain⟨w5,hw5⟩:∃ w5,w5=wr.alloc (.cells #[.int .i64 (n:Int),.slice none 0 0] 183):=⟨_,rfl⟩
     rw[←hw5] at hT
     refine ar hw5.symm ?_
     have HT:=ak_ hT
     have hg5:wr.heap.size < w5.heap.size:=ai hT.g
     obtain⟨g5,hg⟩:=mn_ wr.heap.size
     rw[hg] at HT hg5 ⊢
     clear hw5 hT hg
     have hM5:=HM.out.below HT.out.b
     obtain⟨row,hrow⟩:∃ row,F[n]?=some row:=⟨_,List.getElem?_eq_getElem (by rw[HP.out.sh.len];exact HLt.out)⟩
     have hr24:row.length=24:=HP.out.sh.row row (List.mem_of_getElem? hrow)
     obtain⟨adF,AR2,cR2,rfl,f0,_,hCF⟩:=py hM5.rF n HLt.out _ hrow
     rw[hr24] at f0 hCF
     obtain⟨s,hs⟩:∃ s,row[l]?=some s:=⟨_,List.getElem?_eq_getElem (by omega)⟩
     obtain⟨adS,csS,eS,_,hKS,hcS⟩:=bX hCF l hll _ hs
     subst eS
     obtain rfl:csS=[.int .i64 s.kind,.int .i64 s.n]:=hKS
     have s0:=hcS 0 _ rfl
     rw[show l * eB.sz+0=l * 2 from rfl] at s0
     have hgs:du F n l=s:=by
      unfold du
      rw[List.getD_eq_getElem?_getD (l:=F),hrow]
      simp only[Option.getD_some]
      rw[List.getD_eq_getElem?_getD,hs]
      rfl
     have m28:=(show w5.cell? ⟨gm,28,none⟩=some (.slice (some adF) S.nodes.length cF) by rw[ap hM5.blk];exact iF 1)
     have t0:=(show w5.cell? ⟨g5,0,none⟩=some (.int .i64 (n:Int)) by rw[ah HT.out.g];rfl)
     have HGs:=ak_ hgs
     have HM5:=ak_ hM5
     clear hM5 hrow hr24 hCF hs hcS hgs
     by_cases h4:s.kind=4
     ·have q4:(s.kind != 4)=false:=by rw[h4];rfl
      obtain⟨ws,hws⟩:∃ ws,(aX S)[n]?=some ws:=⟨_,List.getElem?_eq_getElem (by rw[gV];exact HLt.out)⟩
      have hw4:=eM HP.out.way.1.few HP.out.n200 ws (List.mem_of_getElem? hws)
      have hw4':(ws.length:Int)≤401:=by omega
      obtain⟨adW,AE,cE,rfl,w0w,_,hCE⟩:=py HM.out.rW n HLt.out _ hws
      have w0:=ak HT.out.b w0w
      clear w0w
      have m30:=(show w5.cell? ⟨gm,30,none⟩=some (.slice (some adW) S.nodes.length cW) by rw[ap HM5.out.blk];exact iF 3)
      have hrr:oa f S F n l=⟨(n:Int),ws.map (ol f S F l)⟩:=by
       unfold oa
       rw[HGs.out,if_pos h4,List.getD_eq_getElem?_getD,hws]
       rfl
      have HRr:=ak_ hrr
      have HCE:=ak_ hCE
      have HWs:=ak_ hws
      clear h4 hrr hCE hws hw4
      go_upto_region 12 with fail
      go_loopw [49] (fun j wr=>∃ (k:Nat) (vT:Value) (ls:List (Int × Int)),j=.int .i64 k∧aa (k≤ws.length∧ls=(ws.take k).map (ol f S F l)∧kD w wr g5 (n:Int) vT ls (.slice AR L.length cR) L)) (fun j _=>ws.length - (intOf j).toNat)
      case atStart=>exact⟨0,_,[],rfl,⟨⟨Nat.zero_le _,rfl,HT.out⟩⟩⟩
      case round=>
       obtain⟨k,vT,ls,rfl,HL⟩:=hrel
       obtain⟨hk,hls,hT⟩:=HL.out
       obtain⟨AT,cT,rfl⟩:=Kd.R_slice hT.t
       by_cases hkl:k < ws.length
       ·have hkl':(k:Int) < (ws.length:Int):=by omega
        obtain⟨e,he⟩:∃ e,ws[k]?=some e:=⟨_,List.getElem?_eq_getElem hkl⟩
        obtain⟨adE,csE,eE,hKE,hldE⟩:=aW (P:=Tryz.prog) HCE.out hT.b k hkl e he 151 Tryz.underlying151 rfl ik
        subst eE
        obtain rfl:csE=e.cells:=hKE
        have hFr:=fun (W:World) (hb:Below w.heap.size w W)=>pW f c S F HP.out gm vf vc (.slice AN S.nodes.length cN) (.slice none 0 0) (some adF) AA (some adW) cF cA cW n k l ws HWs.out e he hll W (HM.out.below hb)
        obtain⟨x,hx⟩:=nm_ (dn F e (dr f S e l))
        obtain⟨hk1,hk2,hk4⟩:=HP.out.src HWs.out (List.mem_of_getElem? he) hll hx
        rw[←hx] at hFr
        have hls2:ls++[ol f S F l e]=(ws.take (k+1)).map (ol f S F l):=by
         rw[List.take_succ_eq_append_getElem hkl,(List.getElem?_eq_some_iff.1 he).2,List.map_append,hls]
         rfl
        obtain⟨q,hq⟩:=nm_ (ol f S F l e)
        rw[←hq] at hls2
        have hqv:q=if x.kind=4 then (0,e.1 * 24+x.n) else (1+x.kind,x.n):=by rw[hq,hx];rfl
        have hlsl:ls.length≤401:=by rw[hls,List.length_map,List.length_take];omega
        have HFr:=ak_ hFr
        have HLs2:=ak_ hls2
        have HQ:=ak_ hqv
        have HK4:=ak_ hk4
        have HT7:=ak_ hT
        have HKl:=ak_ hkl
        have HLsl:=ak_ hlsl
        have HLdE:=ak_ (show (loadVar 151 (adE.add (k * 2))).run Tryz.prog wr=.ok (.agg #[.int .i64 e.1,.int .i64 e.2]) wr from hldE)
        clear hk hls hT hFr hx hls2 hq hqv hk4 hkl hldE he hlsl HL
        go_upto_region 14 with (first
         | ((with_reducible refine aj (N:=53) rfl ?_);refine au rfl 151 _ rfl (adE.add (k * 2)) rfl _ HLdE.out ?_))
        obtain⟨w13,hw13⟩:∃ w13,w13=wr.alloc (.cells #[.int .i64 e.1,.int .i64 e.2] 151):=⟨_,rfl⟩
        have hT13:kD w w13 g5 (n:Int) (.slice AT ls.length cT) ls (.slice AR L.length cR) L:=by rw[hw13];exact HT7.out.below (ae (Below.refl _ _) _)
        have h7:w13.heap[wr.heap.size]?=some (.cells #[.int .i64 e.1,.int .i64 e.2] 151 (0,0)):=by rw[hw13];exact heap_alloc_last wr _
        refine ar hw13.symm ?_
        have HT13:=ak_ hT13
        have H7:=ak_ h7
        obtain⟨g7,hg⟩:=mn_ wr.heap.size
        rw[hg] at H7 ⊢
        clear hw13 hT13 h7 hg
        go_upto_region 15 with (first
         | (go_at_call 57;refine(HFr.out _ HT13.out.b).mono ?_;rintro r w14 ⟨rfl,hb⟩;have HT14:=ak_ (HT13.out.below hb);have H714:=ak_ (ag H7.out hb);clear hb))
        obtain⟨w15,hw15⟩:∃ w15,w15=w14.alloc (.cells #[.int .i64 x.kind,.int .i64 x.n] 135):=⟨_,rfl⟩
        have hb15:Below w14.heap.size w14 w15:=by rw[hw15];exact ae (Below.refl _ _) _
        have h8:w15.heap[w14.heap.size]?=some (.cells #[.int .i64 x.kind,.int .i64 x.n] 135 (0,0)):=by rw[hw15];exact heap_alloc_last w14 _
        refine ar hw15.symm ?_
        have HT15:=ak_ (HT14.out.below hb15)
        have H715:=ak_ (ag H714.out hb15)
        have H8:=ak_ h8
        obtain⟨g8,hg⟩:=mn_ w14.heap.size
        rw[hg] at H8 ⊢
        have x0:=(show w15.cell? ⟨g8,0,none⟩=some (.int .i64 x.kind) by rw[ah H8.out];rfl)
        have x1:=(show w15.cell? ⟨g8,1,none⟩=some (.int .i64 x.n) by rw[ah H8.out];rfl)
        clear hw15 hb15 h8 hg
        go_upto_region 16 with fail
        obtain⟨w16,hw16⟩:∃ w16,w16=w15.alloc (.cells #[.int .i64 (1+x.kind),.int .i64 x.n] 184):=⟨_,rfl⟩
        have hb16:Below w15.heap.size w15 w16:=by rw[hw16];exact ae (Below.refl _ _) _
        have h9:w16.heap[w15.heap.size]?=some (.cells #[.int .i64 (1+x.kind),.int .i64 x.n] 184 (0,0)):=by rw[hw16];exact heap_alloc_last w15 _
        refine ar hw16.symm ?_
        have HB16:=ak_ hb16
        have H9:=ak_ h9
        have h8b:=ag H8.out hb16
        have h7b:=ag H715.out hb16
        have y0:=(show w16.cell? ⟨g8,0,none⟩=some (.int .i64 x.kind) by rw[ah h8b];rfl)
        have y1:=(show w16.cell? ⟨g8,1,none⟩=some (.int .i64 x.n) by rw[ah h8b];rfl)
        have z0:=(show w16.cell? ⟨g7,0,none⟩=some (.int .i64 e.1) by rw[ah h7b];rfl)
        clear hw16 hb16 h9 h8b h7b x0 x1
        go_upto_if 67 with fail
        go_cut [] from 67 to 73 (fun wx=>aa (Below w15.heap.size w15 wx∧wx.heap[w15.heap.size]?=some (.cells #[.int .i64 q.1,.int .i64 q.2] 184 (0,0))))
        case first=>
         by_cases hk4:x.kind=4
         ·have q44:(x.kind == 4)=true:=beq_iff_eq.mpr hk4
          obtain⟨b1,b2,b3,b4⟩:=HK4.out hk4
          have hq2:=HQ.out
          rw[if_pos hk4] at hq2
          have HQ2:=ak_ hq2
          have b2':e.1≤1000:=by omega
          have b4':x.n≤1000:=by omega
          clear hk4 hq2 b2 b4
          go_wp2_with (first
           | (go_at_call 55;refine(oI e.1 x.n b1 b2' b3 b4' _).mono ?_;rintro r w' ⟨rfl,rfl⟩)
           | ((with_reducible refine ao (t:=184) (p:=9) rfl ?_);refine an rfl 184 _ _ rfl w15.heap.size #[.int .i64 0,.int .i64 (e.1 * 24+x.n)] rfl rfl 184 #[.int .i64 (1+x.kind),.int .i64 x.n] H9.out j_ rfl (by simp[Value.oneCell']) ?_;intro w17 h17 hf17;have H17:=ak_ h17;have F17:=ak_ hf17;clear h17 hf17))
          go_meet
          case rel=>exact⟨⟨Fr.below HB16.out F17.out (fun j hj h=>by omega) HB16.out.size,by rw[HQ2.out];exact H17.out⟩⟩
         ·have q44:(x.kind == 4)=false:=beq_eq_false_iff_ne.mpr hk4
          have hq2:=HQ.out
          rw[if_neg hk4] at hq2
          have HQ2:=ak_ hq2
          clear hk4 hq2
          go_wp2
          go_meet
          case rel=>exact⟨⟨HB16.out,by rw[HQ2.out];exact H9.out⟩⟩
        case rest=>
         obtain⟨hb17,h9⟩:=hcut.out
         have HT17:=ak_ (HT15.out.below hb17)
         have H97:=ak_ h9
         have t1:=(show wc.cell? ⟨g5,1,none⟩=some (.slice AT ls.length cT) by rw[ah HT17.out.g];rfl)
         clear hcut hb17 h9
         go_wp2_with (first
          | ((with_reducible refine aj (N:=76) rfl ?_);refine wpList_load_row rfl 184 _ rfl w15.heap.size rfl 184 #[.int .i64 q.1,.int .i64 q.2] (0,0) _ H97.out Tryz.underlying184 rfl j_ ?_)
          | ((with_reducible refine a7 (b:=.append) (xs:=#[.tmp 75,.tmp 77]) rfl ?_);at_builtin;refine Kd.R_append cL (w0:=w) w.heap.size rfl (.tmp 75) (.tmp 77) 181 184 (.agg #[.int .i64 0,.int .i64 0]) 16 rfl Tryz.underlying181 BR rfl (by decide) (by omega) (.slice AT ls.length cT) (ls) (q) [.int .i64 q.1,.int .i64 q.2] (fun j=>w.heap.size≤j) (fun _=>False) rfl rfl ?aP (fun _ hk=>hk.elim) ?aF ?aO ?aB ?aS ?aL ?_;(case aP=>exact rfl);(case aF=>exact(fun b hb=>by have:=HT17.out.b.size;omega));(case aO=>exact HT17.out.t);(case aB=>exact HT17.out.b);(case aS=>exact HT17.out.b.size);(case aL=>have:=HLsl.out;omega);intro vap wap ho hb hg hat;obtain⟨A1,c1,rfl⟩:=Kd.R_slice ho;have HT18:=ak_ (HT17.out.app ho hb hg hat);have hgk:=(hg.block g5 (ai HT17.out.g) (Kd.R_ne HT17.out.t HT17.out.g (by decide))).trans HT17.out.g;have zc:=(show wap.cell? ⟨g5,1,none⟩=some (.slice AT ls.length cT) by rw[ah hgk];rfl);have zf:=aq hgk 1;clear ho hb hg hat hgk))
         go_roundw
         case rel=>exact⟨k+1,.slice A1 (ls.length+1) c1,ls++[q],by go_num,⟨⟨HKl.out,HLs2.out,by have h:=HT18.out;rw[List.length_append] at h;exact h⟩⟩⟩
         case measure=>have:=HKl.out;simp[intOf];omega
       ·obtain rfl:k=ws.length:=by omega
        rw[List.take_length] at hls
        have HT7:=ak_ hT
        have HRr2:=ak_ (show oa f S F n l=⟨(n:Int),ls⟩ by rw[HRr.out,hls])
        clear hk hls hT HL hkl
        go_wp2_with (first
         | ((with_reducible refine aj (N:=82) rfl ?_);refine wpList_load_row rfl 183 _ rfl g5 rfl 183 #[.int .i64 (n:Int),.slice AT ls.length cT] (0,0) _ HT7.out.g Tryz.underlying183 rfl oQ ?_)
         | ((with_reducible refine a7 (b:=.append) (xs:=#[.tmp 81,.tmp 83]) rfl ?_);at_builtin;refine Kd.R_append kRR (w0:=w) w.heap.size rfl (.tmp 81) (.tmp 83) 180 183 (.agg #[.int .i64 0,.slice none 0 0]) 32 rfl Tryz.underlying180 uV rfl (by decide) (by omega) (.slice AR L.length cR) (L) ((⟨(n:Int),ls⟩:fb)) [.int .i64 (n:Int),.slice AT ls.length cT] (fun j=>w.heap.size≤j) (fun j=>w.heap.size≤j∧some j≠(Value.slice AR L.length cR).ownBlock) rfl rfl ?aP (fun k hk=>hk) ?aF ?aO ?aB ?aS ?aL ?_;(case aP=>exact HT7.out.rowM);(case aF=>exact(fun b hb=>by have:=HT7.out.b.size;omega));(case aO=>exact HT7.out.rows);(case aB=>exact HT7.out.b);(case aS=>exact HT7.out.b.size);(case aL=>have:=HLl.out;omega);intro vap wap ho hb hg hat;have HS7:=ak_ (show rx w wap vap (L++[(⟨(n:Int),ls⟩:fb)]) from ⟨hb,ho⟩);clear ho hb hg hat))
        go_roundw
        case rel=>exact⟨l+1,by go_num,⟨⟨by omega,by rw[HNx.out,HRr2.out];exact HS7.out⟩⟩⟩
        case measure=>simp[intOf];omega
     ·have q4:(s.kind != 4)=true:=bne_iff_ne.mpr h4
      have hrr:oa f S F n l=⟨-1,[]⟩:=by unfold oa;rw[HGs.out,if_neg h4]
      have HRr:=ak_ hrr
      have HT6:=ak_ (HT.out.color (-1))
      have zf:=aq HT.out.g 0
      clear h4 hrr
      go_upto_region 10 with fail
      obtain⟨w6,hw6⟩:∃ w6,w6=w5.setCell ⟨g5,0,none⟩ (.int .i64 (-1)):=⟨_,rfl⟩
      rw[←hw6] at HT6
      refine ar hw6.symm ?_
      clear hw6
      go_wp2_with (first
       | ((with_reducible refine aj (N:=38) rfl ?_);refine wpList_load_row rfl 183 _ rfl g5 rfl 183 #[.int .i64 (-1),.slice none 0 0] (0,0) _ HT6.out.g Tryz.underlying183 rfl oQ ?_)
       | ((with_reducible refine a7 (b:=.append) (xs:=#[.tmp 37,.tmp 39]) rfl ?_);at_builtin;refine Kd.R_append kRR (w0:=w) w.heap.size rfl (.tmp 37) (.tmp 39) 180 183 (.agg #[.int .i64 0,.slice none 0 0]) 32 rfl Tryz.underlying180 uV rfl (by decide) (by omega) (.slice AR L.length cR) (L) ((⟨-1,[]⟩:fb)) [.int .i64 (-1),.slice none 0 0] (fun j=>w.heap.size≤j) (fun j=>w.heap.size≤j∧some j≠(Value.slice AR L.length cR).ownBlock) rfl rfl ?aP (fun k hk=>hk) ?aF ?aO ?aB ?aS ?aL ?_;(case aP=>exact HT6.out.rowM);(case aF=>exact(fun b hb=>by have:=HT6.out.b.size;omega));(case aO=>exact HT6.out.rows);(case aB=>exact HT6.out.b);(case aS=>exact HT6.out.b.size);(case aL=>have:=HLl.out;omega);intro vap wap ho hb hg hat;have HS7:=ak_ (show rx w wap vap (L++[(⟨-1,[]⟩:fb)]) from ⟨hb,ho⟩);clear ho hb hg hat))
      go_roundw
      case rel=>exact⟨l+1,by go_num,⟨⟨by omega,by rw[HNx.out,HRr.out];exact HS7.out⟩⟩⟩
      case measure=>simp[intOf];omega
    ·obtain rfl:l=24:=by omega
     rw[qN] at hLd
     have HS2:=ak_ hS
     have HLd:=ak_ hLd
     clear hS hl HL hLd
     go_wp2
     go_roundw
     case rel=>exact⟨n+1,by go_num,⟨⟨HLt.out,by rw[←HLd.out];exact HS2.out⟩⟩⟩
     case measure=>have:=HLt.out;simp[intOf];omega
  ·obtain rfl:n=S.nodes.length:=by omega
   obtain⟨L,hLd⟩:=nm_ (dO f S F S.nodes.length 0)
   rw[←hLd] at hS
   have hLr:gZ f S F=L:=hLd.symm
   have hLl:L.length=S.nodes.length * 24:=by rw[hLd,jS];omega
   obtain⟨AR,cR,hv,_,hCR⟩:=Kd.R_reads hS.r
   subst hv
   have hCl:=og L AR cR wr hCR (by omega) (fun r hr=>by
    rw[←hLr] at hr
    exact rU HP.out r hr)
   have HCl:=ak_ hCl
   have HS2:=ak_ hS
   have HLr:=ak_ hLr
   have HLl:=ak_ hLl
   clear hLd hLr hLl hCR hCl hS hn HL
   go_upto_region 23 with fail
   have hMr:=HM.out.below HS2.out.b
   have HMr:=ak_ hMr
   clear hMr
   go_wp2_with (first
    | (go_at_call 84;refine HCl.out.mono ?_;rintro e w5 ⟨go,rfl,hk,hg,hb⟩;have hM5:=HMr.out.below hb;have zc:=(show w5.cell? ⟨gm,31,none⟩=some (.slice none 0 0) by rw[ap hM5.blk];exact iF 4);have zf:=aq hM5.blk 31;have HM5:=ak_ hM5;have HK:=ak_ hk;have HG:=ak_ hg;have HB:=ak_ (af HS2.out.b hb);clear hk hg hb hM5))
   refine bodyPost_end (v:=.tuple #[]) (results_none rfl _ _ _) rfl ⟨rfl,go,?_,?_,Nat.le_trans HS2.out.b.size HG.out,?_⟩
   ·have:=aJ HM5.out.blk (27+4) (.slice (some ⟨go,0,none⟩) L.length L.length)
    rw[qZ,HLl.out] at this
    rw[HLl.out]
    exact this
   ·have hne:go≠gm:=by have:=HG.out;have:=HS2.out.b.size;have:=HGm.out;omega
    rw[HLr.out]
    exact a8 HK.out (p:=⟨gm,31,none⟩) hne _
   ·exact(Fr.of_below HB.out).trans (Fr.cell (S:=fun k=>k=gm) (p:=⟨gm,31,none⟩) rfl _)
end Go.Proofs.YtlinbehijfcelaaGreatDoor.Top
