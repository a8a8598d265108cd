/- Walks of the program, and what it computes, told plainly. No condition. (UC UD UE UF UG UH UI UJ) -/
import Derived.Test.YtlinbehijfcelaaGreatDoorPE
set_option linter.unusedVariables false
set_option linter.unusedSimpArgs false
set_option linter.unusedSectionVars false
set_option maxHeartbeats 8000000
set_option maxRecDepth 100000
namespace Go.Proofs.YtlinbehijfcelaaGreatDoor.Top
open Go.RowKit Go.Proofs.YtlinbehijfcelaaGreatDoorW.PrintWords Go.Proofs.YtlinbehijfcelaaGreatDoorW.PrintLast
theorem pQ (a:Int) (e:bL) (rows:List (List bL)) (vs:List Value) (gt g base lo:Nat) (w:World) (hM:Mat cL 151 149 base lo w g vs rows) (hct:w.heap[gt]?=some (.cells #[.slice (some ⟨g,0,none⟩) rows.length rows.length] 122 (0,0)))
  (hbase:base≤w.heap.size) (hlo:lo≤w.heap.size) (hgt:gt < lo) (hne:gt≠g) (hsm:∀ xs∈rows,xs.length≤1000000) (hrl:rows.length≤1000000) :
  Calls Tryz.prog 83 #[.int .i64 a,.agg #[.int .i64 e.1,.int .i64 e.2],.pointer (some ⟨gt,0,none⟩)] w fun r w'=>r=.returned (.tuple #[])∧∃ vs',Mat cL 151 149 base lo w' g vs' (fw rows a e)∧Fr (fun k=>k=g∨∃ v∈vs,some k=v.ownBlock) w w':=by
 have c0:=(show w.cell? ⟨gt,0,none⟩=some (.slice (some ⟨g,0,none⟩) rows.length rows.length) by rw[ah hct];rfl)
 have l0:=ai hct
 have HM:=ak_ hM
 have HCt:=ak_ hct
 have HSm:=ak_ hsm
 clear hM hct hsm
 by_cases h1:0≤a
 ·by_cases h2:a < (rows.length:Int)
  ·obtain⟨i,rfl⟩:∃ i:Nat,a=i:=⟨a.toNat,by omega⟩
   have hi:i < rows.length:=by omega
   obtain⟨es,hx⟩:∃ es,rows[i]?=some es:=⟨_,List.getElem?_eq_getElem hi⟩
   obtain⟨vE,hv⟩:∃ vE,vs[i]?=some vE:=⟨_,List.getElem?_eq_getElem (by rw[HM.out.len];exact hi)⟩
   have HL:aa (fw rows i e=rows.set i (es++[e])):=⟨by unfold fw;rw[if_pos ⟨h1,h2⟩,Int.toNat_natCast,List.getD_eq_getElem?_getD,hx];rfl⟩
   rw[HL.out]
   have hes:=HSm.out es (List.mem_of_getElem? hx)
   have HV:=ak_ hv
   have HX:=ak_ hx
   have HES:=ak_ hes
   clear hv hx hes
   go_enter Tryz.func83,Tryz.ntmps83
   go_upto_region 2 with fail
   obtain⟨W0,hW0⟩:∃ W0,W0=w.alloc (.cells #[.int .i64 e.1,.int .i64 e.2] 151):=⟨_,rfl⟩
   have hB0:Below w.heap.size w W0:=by rw[hW0];exact ae (Below.refl _ _) _
   have hT4:W0.heap[w.heap.size]?=some (.cells #[.int .i64 e.1,.int .i64 e.2] 151 (0,0)):=by rw[hW0];exact heap_alloc_last w _
   have hM0:=HM.out.below hB0
   have hC0:=ag HCt.out hB0
   have hsz:w.heap.size < W0.heap.size:=ai hT4
   rw[show w.alloc (.cells #[.int .i64 e.1,.int .i64 e.2] 151)=W0 from hW0.symm]
   clear hW0
   have RE0:=ak_ (hM0.row i vE es HV.out HX.out)
   have BW:=ak_ hB0
   have T4:=ak_ hT4
   have M0:=ak_ hM0
   have C0:=ak_ hC0
   have SZ:=ak_ hsz
   have NE:=ak_ hne
   have GT:=ak_ hgt
   have LO:=ak_ hlo
   have BA:=ak_ hbase
   have hsz149:∀ W,(sizeOf 149).run Tryz.prog W=.ok 1 W:=fun W=>by kernel_rfl
   have hag122:∀ W,(isAgg 122).run Tryz.prog W=.ok false W:=fun W=>by kernel_rfl
   have hag149:∀ W,(isAgg 149).run Tryz.prog W=.ok false W:=fun W=>by kernel_rfl
   have HS1:=ak_ hsz149
   have HA1:=ak_ hag122
   have HA2:=ak_ hag149
   have HI:=ak_ hi
   clear hsz149 hag122 hag149 hB0 hT4 hM0 hC0 hsz hne hgt hlo hbase hi c0 l0
   refine ji (σ:=Value × Value) (fun s=>[(13,.slice (some ⟨g,0,none⟩) rows.length rows.length),(14,.int .i64 (i:Int)),(15,.slice (some ⟨g,0,none⟩) rows.length rows.length),(16,.int .i64 (i:Int)),(17,.pointer (some ⟨g,i,none⟩)),(18,vE),(19,.agg #[.int .i64 e.1,.int .i64 e.2]),(20,s.1),(21,s.2),(22,.pointer (some ⟨g,i,none⟩))])
    (fun s L W=>L.size=11∧pu W0 base gt g i (fun k=>lo≤k∧k≠g) (.slice (some ⟨g,0,none⟩) rows.length rows.length) vE vs es e (L.getD 7 false) (L.getD 8 false) (L.getD 10 false) s W) (undef,undef) (by kernel_rfl) (by kernel_rfl) (fun _=>by kernel_rfl) ?_
   intro aF haF
   simp only[bd,Act.put,List.setIfInBounds_toArray,List.set_cons_succ,List.set_cons_zero] at haF
   subst haF
   refine⟨?_,⟨by simp,⟨Fr.drew,C0.out,M0.out.blk,fun e=>absurd e (by decide),Kd.R_drew RE0.out,fun e=>absurd e (by decide)⟩⟩,?_⟩
   ·intro j o ho s L W hc hr hs
    obtain⟨hL,hst⟩:=hs
    have keep:∀ j:Nat,j≠7→j≠8→j≠10→(L.setIfInBounds j true).size=11∧pu W0 base gt g i (fun k=>lo≤k∧k≠g) (.slice (some ⟨g,0,none⟩) rows.length rows.length) vE vs es e ((L.setIfInBounds j true).getD 7 false) ((L.setIfInBounds j true).getD 8 false) ((L.setIfInBounds j true).getD 10 false) s W:=fun j a b c=>by
     rw[getD_set_ne false a,getD_set_ne false b,getD_set_ne false c]
     exact⟨by simpa using hL,hst⟩
    rcases j with _ | _ | _ | _ | _ | _ | _ | _ | _ | _ | _ | j
    ·obtain rfl:=Option.some.inj ho
     exact aw rfl 122 _ rfl ⟨gt,0,none⟩ _ rfl (HA1.out W) (by rw[ah hst.ct];rfl) (cj rfl (keep 0 (by decide) (by decide) (by decide)))
    ·obtain rfl:=Option.some.inj ho
     exact ab rfl (by go_simp) (cj rfl (keep 1 (by decide) (by decide) (by decide)))
    ·obtain rfl:=Option.some.inj ho
     exact aw rfl 122 _ rfl ⟨gt,0,none⟩ _ rfl (HA1.out W) (by rw[ah hst.ct];rfl) (cj rfl (keep 2 (by decide) (by decide) (by decide)))
    ·obtain rfl:=Option.some.inj ho
     exact ab rfl (by go_simp) (cj rfl (keep 3 (by decide) (by decide) (by decide)))
    ·obtain rfl:=Option.some.inj ho
     exact ab rfl (by have z1:=HI.out;have z2:(i:Int) < (rows.length:Int):=(by omega);go_simp) (cj rfl (keep 4 (by decide) (by decide) (by decide)))
    ·obtain rfl:=Option.some.inj ho
     have n10:=iD (j:=10) hc hr (by kernel_rfl)
     have hcg:=hst.cg
     rw[n10] at hcg
     exact aw rfl 149 _ rfl ⟨g,i,none⟩ _ rfl (HA2.out W) (by rw[ap hcg];exact HV.out) (cj rfl (keep 5 (by decide) (by decide) (by decide)))
    ·obtain rfl:=Option.some.inj ho
     refine fl rfl 151 _ rfl w.heap.size rfl 151 #[.int .i64 e.1,.int .i64 e.2] (0,0) _ ?_ Tryz.underlying151 rfl ik (cj rfl (keep 6 (by decide) (by decide) (by decide)))
     refine(hst.fr0.block _ (ai T4.out) ?_).trans T4.out
     rintro(q | q)
     ·have:=ai HM.out.blk;omega
     ·have:=Kd.R_lt (HM.out.row i vE es HV.out HX.out) _ q.symm;omega
    ·obtain rfl:=Option.some.inj ho
     refine ab (v:=.slice (some ⟨W.heap.size,0,none⟩) 1 1) (w':=W.alloc (.cells #[.int .i64 e.1,.int .i64 e.2] 151)) rfl (ut e W rfl rfl) (iS (.slice (some ⟨W.heap.size,0,none⟩) 1 1,s.2) 20 hr rfl (by kernel_rfl) rfl rfl ⟨by simpa using hL,?_⟩)
     have ht:(L.setIfInBounds 7 true).getD 7 false=true:=by simp[hL]
     simp only[getD_set_ne false (show (7:Nat)≠8 by decide),getD_set_ne false (show (7:Nat)≠10 by decide),ht]
     exact hst.box
    ·obtain rfl:=Option.some.inj ho
     have l7:=jz hc hr 7 (by kernel_rfl) (by rw[hL];decide)
     have n8:=fk hr
     have n10:=iD (j:=10) hc hr (by kernel_rfl)
     rw[n8,n10] at hst
     obtain⟨kb,e1,e2,e3⟩:=hst.bx l7
     refine jc cL base rfl (.tmp 18) (.tmp 20) 149 151 _ 16 rfl Tryz.underlying149 BS rfl (by decide) (by omega) vE es e [.int .i64 e.1,.int .i64 e.2] (fun k=>lo≤k∧k≠g) (fun _=>False) rfl ⟨kb,0,none⟩ e1 ?_ rfl (fun _ h=>h.elim) (fun k hk=>⟨by have:=hst.fr0.size;have:=SZ.out;have:=LO.out;omega,by have:=hst.fr0.size;have:=ai M0.out.blk;omega⟩) hst.re (by have:=hst.fr0.size;have:=SZ.out;have:=BA.out;omega) (by have:=HES.out;omega) ?_
     ·intro q u hq
      have:(⟨kb,0,none⟩:Addr).add q=⟨kb,q,none⟩:=by unfold Addr.add;by_cases h0:q=0 <;> simp[h0]
      rw[this,ah e3]
      exact(List.getElem?_toArray).trans hq
     ·intro v1 w1 hR hg hat
      refine iS (s.1,v1) 21 hr rfl (by kernel_rfl) rfl rfl ⟨by simpa using hL,?_⟩
      have ht:(L.setIfInBounds 8 true).getD 8 false=true:=by simp[hL]
      simp only[getD_set_ne false (show (8:Nat)≠7 by decide),getD_set_ne false (show (8:Nat)≠10 by decide),ht,n10]
      exact hst.app RE0.out (fun k hk=>⟨by have:=GT.out;omega,hk.2⟩) hR hg hat
    ·obtain rfl:=Option.some.inj ho
     exact ab rfl (by have z1:=HI.out;have z2:(i:Int) < (rows.length:Int):=(by omega);go_simp) (cj rfl (keep 9 (by decide) (by decide) (by decide)))
    ·obtain rfl:=Option.some.inj ho
     have l8:=jz hc hr 8 (by kernel_rfl) (by rw[hL];decide)
     have ni:=fk hr
     rw[ni,l8] at hst
     obtain⟨A,c,he⟩:=Kd.R_slice hst.re
     obtain⟨hv1,hv2⟩:=dz _ _ _ _ he
     have hcg:=hst.cg
     refine aV rfl 149 _ _ rfl g i s.2 _ rfl rfl hv1 hv2 (HS1.out W) (by rw[ap hcg];exact HV.out) (aq hcg i) (cj rfl ⟨by simpa using hL,?_⟩)
     have ht:(L.setIfInBounds 10 true).getD 10 false=true:=by simp[hL]
     simp only[getD_set_ne false (show (10:Nat)≠7 by decide),getD_set_ne false (show (10:Nat)≠8 by decide),ht,l8]
     exact hst.put (fun k hk=>⟨by have:=GT.out;omega,hk.2⟩) NE.out (ai M0.out.blk)
    ·exact absurd (Array.getElem?_eq_some_iff.1 ho).1 (by simp)
   ·intro s L W hall hs
    have hst:=hs.2
    rw[hall 7 (by simp),hall 8 (by simp),hall 10 (by simp)] at hst
    have HSt:=ak_ hst
    clear hst hs hall
    dsimp only
    go_wp2
    refine bodyPost_end (v:=.tuple #[]) (results_none rfl _ _ _) rfl ⟨rfl,vs.set i s.2,?_,?_⟩
    ·exact M0.out.put rfl HV.out HX.out HSt.out.re HSt.out.cg HSt.out.fr0 (HSt.out.at_ rfl)
    ·exact(Fr.of_below BW.out).trans (HSt.out.fr0.mono (fun k _ h=>by rcases h with h | h;exact .inl h;exact .inr ⟨vE,List.mem_of_getElem? HV.out,h⟩))
  ·have HL:aa (fw rows a e=rows):=⟨by unfold fw;rw[if_neg (by omega)]⟩
   rw[HL.out]
   go_enter Tryz.func83,Tryz.ntmps83
   go_wp2
   exact bodyPost_end (v:=.tuple #[]) (results_none rfl _ _ _) rfl ⟨rfl,⟨vs,HM.out.below (ae (Below.refl _ _) _)⟩,Fr.of_below (ae (Below.refl _ _) _)⟩
 ·have HL:aa (fw rows a e=rows):=⟨by unfold fw;rw[if_neg (by omega)]⟩
  rw[HL.out]
  go_enter Tryz.func83,Tryz.ntmps83
  go_wp2
  exact bodyPost_end (v:=.tuple #[]) (results_none rfl _ _ _) rfl ⟨rfl,⟨vs,HM.out.below (ae (Below.refl _ _) _)⟩,Fr.of_below (ae (Below.refl _ _) _)⟩
def ei (n:Nat):List aU→Nat→List (List bL)→List (List bL)
 | [],_,rows=>rows
 | o :: l,k,rows=>ei n l (k+1) (fw rows o.jt ((n:Int),(k:Int)))
def dX:List aH→Nat→List (List bL)→List (List bL)
 | [],_,rows=>rows
 | x :: l,n,rows=>dX l (n+1) (ei n x.outs 0 rows)
def aX (S:bj):List (List bL):=dX S.nodes 0 (fw (List.replicate S.nodes.length []) S.entry.jt (-1,0))
theorem mI (rows:List (List bL)) (a:Int) (e:bL):(fw rows a e).length=rows.length:=by
 unfold fw
 split <;> simp
theorem iG {rows:List (List bL)} {B:Nat} (h:∀ xs∈rows,xs.length≤B) (a:Int) (e:bL):∀ xs∈fw rows a e,xs.length≤B+1:=by
 unfold fw
 split
 ·rename_i hr
  intro xs hx
  rcases List.mem_or_eq_of_mem_set hx with hx | rfl
  ·have:=h xs hx;omega
  ·rw[List.length_append,List.getD_eq_getElem?_getD,List.getElem?_eq_getElem (by omega)]
   have:=h _ (List.getElem_mem (show a.toNat < rows.length by omega))
   simp only[Option.getD_some,List.length_singleton]
   omega
 ·intro xs hx
  have:=h xs hx
  omega
theorem Mat.new {α:Type} (d:Kd α) {e t base lo:Nat} {W:World} {g n:Nat} (h:W.heap[g]?=some (.cells (List.replicate n (.slice none 0 0)).toArray t (0,0))):Mat d e t base lo W g (List.replicate n (.slice none 0 0)) (List.replicate n []):=by
 refine⟨h,by simp,fun i v xs hv hx=>?_,fun i j v u hv hu hne k hk=>?_⟩
 ·obtain rfl:=List.eq_of_mem_replicate (List.mem_of_getElem? hv)
  obtain rfl:=List.eq_of_mem_replicate (List.mem_of_getElem? hx)
  exact Kd.R_nil _ _ _ _ _
 ·obtain rfl:=List.eq_of_mem_replicate (List.mem_of_getElem? hv)
  exact absurd hk (by simp[Value.ownBlock])
theorem Mat.rd {α:Type} {d:Kd α} {e t base lo:Nat} {W:World} {g:Nat} {vs:List Value} {rows:List (List α)} (h:Mat d e t base lo W g vs rows) (hm:rows.length≤9223372036854775807):Rd (Kd.slice e d) W (.slice (some ⟨g,0,none⟩) rows.length rows.length) rows:=by
 refine⟨_,_,rfl,Nat.le_refl _,rfl,hm,fun _=>⟨_,rfl,fun j p hp=>?_⟩⟩
 obtain⟨v,hv⟩:∃ v,vs[j]?=some v:=⟨_,List.getElem?_eq_getElem (by rw[h.len];exact(List.getElem?_eq_some_iff.1 hp).1)⟩
 obtain⟨A,c,rfl,hl,hC⟩:=Kd.R_reads (h.row j v p hv hp)
 refine⟨[.slice A p.length c],rfl,⟨A,c,rfl,hl,hC⟩,fun i u hu=>?_⟩
 have hi:i=0:=by
  have:=(List.getElem?_eq_some_iff.1 hu).1
  simp at this
  exact this
 subst hi
 obtain rfl:=Option.some.inj hu
 have:(⟨g,0,none⟩:Addr).add (j * (Kd.slice e d).sz+0)=⟨g,j,none⟩:=by
  have hs:(Kd.slice e d).sz=1:=rfl
  rw[hs]
  unfold Addr.add
  by_cases h0:j=0 <;> simp[h0]
 rw[this,ap h.blk]
 exact hv
theorem Mat.own {α:Type} {d:Kd α} {e t base lo:Nat} {W:World} {g:Nat} {vs:List Value} {rows:List (List α)} (h:Mat d e t base lo W g vs rows) (hm:rows.length≤1000000) (hg:base≤g) (hlo:base≤lo):Kd.R (Kd.slice e d) t W base (fun k=>base≤k) (.slice (some ⟨g,0,none⟩) rows.length rows.length) rows:=by
 refine⟨fun k hk=>?_,vs,⟨by rw[h.len];exact(Nat.mul_one _).symm,.inr ⟨g,rows.length,vs.toArray,rfl,hg,h.blk,Nat.le_refl _,by simp only[maxLen];omega,?_,?_⟩⟩,by rw[h.len];exact(Nat.mul_one _).symm,fun j p hp=>?_⟩
 ·obtain rfl:g=k:=by simpa [Value.ownBlock] using hk
  exact hg
 ·rw[List.size_toArray,h.len];exact(Nat.mul_one _).symm
 ·rw[show (Kd.slice e d).sz=1 from rfl,Nat.mul_one,←h.len];simp
 ·obtain⟨v,hv⟩:∃ v,vs[j]?=some v:=⟨_,List.getElem?_eq_getElem (by rw[h.len];exact(List.getElem?_eq_some_iff.1 hp).1)⟩
  refine⟨v,?_,Kd.R_mono (h.row j v p hv hp) (fun k hk=>⟨by omega,by simp[Value.ownBlock];omega⟩)⟩
  rw[show (Kd.slice e d).sz=1 from rfl,Nat.mul_one]
  apply List.ext_getElem?
  intro i
  rw[List.getElem?_take,List.getElem?_drop]
  cases i with
  | zero=>rw[if_pos (by omega),Nat.add_zero,hv];rfl
  | succ i=>rw[if_neg (by omega)];rfl
theorem gh (z:Value) (n:Nat):madeCells #[z] n=(List.replicate n z).toArray:=by
 refine Array.ext (by simp[madeCells]) (fun i h1 h2=>?_)
 simp[madeCells,Nat.mod_one]
theorem BT:(Tryz.prog.info? 149).map (fun i=>(i.zero,i.size,i.bytes))=some (some (.slice none 0 0),1,24):=by kernel_rfl
theorem ka:(Tryz.prog.info? 142).map (·.size)=some 2:=by kernel_rfl
theorem fM {P:Program} {ops:Array Oper} {o:Oper} {rest:List Oper} {a:Act} {W W':World} {Q:Exit→Act→World→Prop} (hgd:o.guard=none) (t:TypeId) (x y:Operand) (ho:o.op=.makeSlice t x y) (vx vy v:Value) (hx:a.eval x=vx) (hy:a.eval y=vy)
  (hrun:(Instr.makeSlice t vx vy).run P W=.ok v W') (h:wpList P ops Q rest (a.put o.dst v) W'):wpList P ops Q (o :: rest) a W:=by
 refine dk hgd _ ?_ h
 unfold execOp
 simp only[ho,hx,hy,Sem.run_bind,hrun,Result.andThen_ok,Sem.run_pure]
theorem fU (a:Addr) (n m:Nat):(a.add n).add m=a.add (n+m):=by
 unfold Addr.add
 by_cases h1:n=0
 ·subst h1;simp
 ·by_cases h2:m=0
  ·subst h2;simp[h1]
  ·have h3:n+m≠0:=by omega
   simp[h1,h2,h3,Nat.add_assoc]
theorem oL {P:Program} (W:World) (p:Addr) (ty:TypeId) (cs:List Value) (d:TypeDesc) (hc:∀ j v,cs[j]?=some v→W.cell? (p.add j)=some v) (hu:P.underlying ty=some d) (hd:d.isRow=true) (hi:(P.info? ty).map (·.size)=some cs.length):(loadVar ty p).run P W=.ok (.agg cs.toArray) W:=by
 have hl:(loadCells p cs.length).run P W=.ok cs.toArray W:=run_loadCells_list (P:=P) W p cs hc
 cases hq:P.info? ty with
 | none=>simp[hq] at hi
 | some i=>
  have hs:i.size=cs.length:=by simpa [hq] using hi
  have hagg:(isAgg ty).run P W=.ok true W:=by
   unfold isAgg
   rw[Sem.run_bind,run_underlying hu W]
   cases d <;> simp_all
  simp[loadVar,Sem.run_bind,hagg,sizeOf,typeInfo,hq,hs,hl]
theorem eu {P:Program} {α:Type} {k:Kd α} {W:World} {A:Option Addr} {n:Nat} {xs:List α} (hC:Kd.C k W A n xs) (i:Nat) (h1:i < n) (x:α) (hx:xs[i]?=some x) (ty:TypeId) {d:TypeDesc} (hu:P.underlying ty=some d) (hd:d.isRow=true) (hi:(P.info? ty).map (·.size)=some k.sz) :
  ∃ ad cs,A=some ad∧k.K W x cs∧(loadVar ty (ad.add (i * k.sz))).run P W=.ok (.agg cs.toArray) W:=by
 obtain⟨ad,c,e,hl,hK,hc⟩:=bX hC i h1 x hx
 exact⟨ad,c,e,hK,oL W _ ty c d (fun j v hj=>by rw[fU];exact hc j v hj) hu hd (by rw[hl];exact hi)⟩
theorem aW {P:Program} {α:Type} {k:Kd α} {w W:World} {A:Option Addr} {n:Nat} {xs:List α} (hC:Kd.C k w A n xs) (hb:Below w.heap.size w W) (i:Nat) (h1:i < n) (x:α) (hx:xs[i]?=some x) (ty:TypeId) {d:TypeDesc} (hu:P.underlying ty=some d) (hd:d.isRow=true) (hi:(P.info? ty).map (·.size)=some k.sz) :
  ∃ ad cs,A=some ad∧k.K w x cs∧(loadVar ty (ad.add (i * k.sz))).run P W=.ok (.agg cs.toArray) W:=by
 obtain⟨ad,c,e,hl,hK,hc⟩:=bX hC i h1 x hx
 exact⟨ad,c,e,hK,oL W _ ty c d (fun j v hj=>by rw[fU];exact ak hb (hc j v hj)) hu hd (by rw[hl];exact hi)⟩
theorem bV {W W':World} {o:Obj} (hf:Fr (fun k=>k=W.heap.size) (W.alloc o) W'):Below W.heap.size W W':=Fr.below (ae (Below.refl _ _) o) hf (fun k hk h=>by omega) (by simp)
structure WSt (w:World) (N:Nat) (W:World) (vs:List Value) (rows:List (List bL)):Prop where
 b:Below w.heap.size w W
 gt:W.heap[w.heap.size+1+1]?=some (.cells #[.slice (some ⟨w.heap.size+1,0,none⟩) N N] 122 (0,0))
 m:Mat cL 151 149 w.heap.size (w.heap.size+3) W (w.heap.size+1) vs rows
 len:rows.length=N
theorem WSt.below {w:World} {N:Nat} {W W':World} {vs:List Value} {rows:List (List bL)} (h:WSt w N W vs rows) (hb:Below W.heap.size W W'):WSt w N W' vs rows:=
 ⟨af h.b hb,ag h.gt hb,h.m.below hb,h.len⟩
theorem WSt.lead {w:World} {N:Nat} {W W':World} {vs vs':List Value} {rows:List (List bL)} {a:Int} {e:bL} (h:WSt w N W vs rows) (hm:Mat cL 151 149 w.heap.size (w.heap.size+3) W' (w.heap.size+1) vs' (fw rows a e)) (hf:Fr (fun k=>k=w.heap.size+1∨∃ v∈vs,some k=v.ownBlock) W W'):WSt w N W' vs' (fw rows a e):=by
 have key:∀ k,k < w.heap.size+3→k≠w.heap.size+1→¬ (k=w.heap.size+1∨∃ v∈vs,some k=v.ownBlock):=by
  rintro k hk hne (q | ⟨v,hv,q⟩)
  ·exact hne q
  ·obtain⟨i,hi,he⟩:=List.mem_iff_getElem.1 hv
   have:=(h.m.row i v _ (by rw[List.getElem?_eq_getElem hi,he]) (List.getElem?_eq_getElem (by rw[←h.m.len];exact hi))).1 k q.symm
   omega
 exact⟨Fr.below h.b hf (fun k hk=>key k (by omega) (by omega)) h.b.size,(hf.block _ (ai h.gt) (key _ (by omega) (by omega))).trans h.gt,hm,by rw[mI];exact h.len⟩
theorem iK (S:bj) (vN:Value) (w:World) (hN:Rd dl w vN S.nodes) (h200:S.nodes.length≤200) (h2:∀ x∈S.nodes,x.outs.length≤2) :
  Calls Tryz.prog 52 #[.agg (S.entry.cells++[vN]).toArray] w fun e w'=>∃ v,e=.returned v∧Kd.R (Kd.slice 151 cL) 149 w' w.heap.size (fun k=>w.heap.size≤k) v (aX S)∧Below w.heap.size w w':=by
 obtain⟨A,c,rfl,hlc,hC⟩:=hN
 have HC:=ak_ hC
 have H2:=ak_ h2
 have hn200:(S.nodes.length:Int)≤200:=by omega
 have hmk:=run_make_row' (P:=Tryz.prog) 122 149 (.slice none 0 0) 24 Tryz.underlying122 BT rfl .i64 .i64 S.nodes.length (by omega) (by omega)
 have HMk:=ak_ hmk
 clear hC h2 hmk
 go_enter Tryz.func52,Tryz.ntmps52
 go_upto_region 1 with fail
 obtain⟨wa,hwa⟩:∃ wa,wa=w.alloc (.cells (S.entry.cells++[Value.slice A S.nodes.length c]).toArray 119):=⟨_,rfl⟩
 have hBx:wa.heap[w.heap.size]?=some (.cells (S.entry.cells++[Value.slice A S.nodes.length c]).toArray 119 (0,0)):=by rw[hwa];exact heap_alloc_new w _
 have hBa:Below w.heap.size w wa:=by rw[hwa];exact ae (Below.refl _ _) _
 have hsz:wa.heap.size=w.heap.size+1:=by rw[hwa];simp
 refine ar hwa.symm ?_
 have c25:=(show wa.cell? ⟨w.heap.size,25,none⟩=some (.slice A S.nodes.length c) by rw[ap hBx,List.getElem?_append_right (by rw[aU.len];exact Nat.le_refl _),aU.len];rfl)
 have HBx:=ak_ hBx
 have HBa:=ak_ hBa
 clear hwa hBx hBa
 go_upto_region 3 with (first
  | ((with_reducible refine aj (N:=12) rfl ?_);refine fM rfl 122 _ _ rfl _ _ _ rfl rfl (HMk.out _) ?_))
 obtain⟨wb,hwb⟩:∃ wb,wb=(wa.alloc (.cells (madeCells #[.slice none 0 0] S.nodes.length) 149)).alloc (.cells #[.slice (some ⟨w.heap.size+1,0,none⟩) S.nodes.length S.nodes.length] 122):=⟨_,rfl⟩
 have hst:WSt w S.nodes.length wb (List.replicate S.nodes.length (.slice none 0 0)) (List.replicate S.nodes.length []):=by
  refine⟨by rw[hwb];exact ae (ae HBa.out _) _,?_,Mat.new cL ?_,by simp⟩
  ·have:=heap_alloc_new (wa.alloc (.cells (madeCells #[.slice none 0 0] S.nodes.length) 149)) (.cells #[.slice (some ⟨w.heap.size+1,0,none⟩) S.nodes.length S.nodes.length] 122)
   rw[hwb]
   simpa [hsz] using this
  ·have:=aK (heap_alloc_new wa (.cells (madeCells #[.slice none 0 0] S.nodes.length) 149)) (.cells #[.slice (some ⟨w.heap.size+1,0,none⟩) S.nodes.length S.nodes.length] 122)
   rw[←gh,hwb,←hsz]
   rw[←hsz] at this
   exact this
 have hbx:wb.heap[w.heap.size]?=some (.cells (S.entry.cells++[Value.slice A S.nodes.length c]).toArray 119 (0,0)):=by rw[hwb];exact aK (aK HBx.out _) _
 have hs3:w.heap.size+3≤wb.heap.size:=by have:=ai hst.gt;omega
 refine ar hwb.symm ?_
 have e0:=(show wb.cell? ⟨w.heap.size,0,none⟩=some (.int .i64 S.entry.jt) by rw[ap hbx];rfl)
 have HSt:=ak_ hst
 have HBx2:=ak_ hbx
 have HS3:=ak_ hs3
 have HSm:=ak_ (show ∀ xs∈List.replicate S.nodes.length ([]:List bL),xs.length≤0 from fun xs hx=>by rw[List.eq_of_mem_replicate hx];exact Nat.le_refl _)
 clear hwb hst hbx c25 hsz hs3 HBx HBa
 go_upto_region 4 with (first
  | (go_at_call 83;refine(pQ S.entry.jt (-1,0) _ _ (w.heap.size+1+1) (w.heap.size+1) w.heap.size (w.heap.size+3) wb HSt.out.m (by rw[List.length_replicate];exact HSt.out.gt) (by have:=HS3.out;omega) HS3.out (by omega) (by omega) (fun xs hx=>by have:=HSm.out xs hx;omega) (by rw[List.length_replicate];omega)).mono ?_;rintro e w2 ⟨rfl,vs,hm,hfr⟩;have HS2:=ak_ (HSt.out.lead hm hfr);have hb2:=(Fr.block hfr w.heap.size (ai HBx2.out) (by rintro(q | ⟨v,hv,q⟩);omega;rw[List.eq_of_mem_replicate hv] at q;exact absurd q (by simp[Value.ownBlock]))).trans HBx2.out;have c25:=(show w2.cell? ⟨w.heap.size,25,none⟩=some (.slice A S.nodes.length c) by rw[ap hb2,List.getElem?_append_right (by rw[aU.len];exact Nat.le_refl _),aU.len];rfl);clear hm hfr hb2))
 have hsm2:∀ xs∈fw (List.replicate S.nodes.length []) S.entry.jt (-1,0),xs.length≤1:=iG HSm.out _ _
 obtain⟨R1,hR1⟩:∃ R1,R1=fw (List.replicate S.nodes.length []) S.entry.jt (-1,0):=⟨_,rfl⟩
 have hfin:aX S=dX (S.nodes.drop 0) 0 R1:=by rw[hR1];rfl
 rw[←hR1] at hsm2 HS2
 have HSm2:=ak_ hsm2
 have HFin:=ak_ hfin
 clear hsm2 hR1 hfin HSm HSt HBx2 e0
 go_wp2
 go_loopw [23] (fun i wr=>∃ (n:Nat) (vs:List Value) (rows:List (List bL)),i=.int .i64 n∧aa (n≤S.nodes.length∧WSt w S.nodes.length wr vs rows∧(∀ xs∈rows,xs.length≤1+2 * n)∧aX S=dX (S.nodes.drop n) n rows)) (fun i _=>S.nodes.length - (intOf i).toNat)
 case atStart=>exact⟨0,vs,R1,rfl,⟨⟨Nat.zero_le _,HS2.out,HSm2.out,HFin.out⟩⟩⟩
 case round=>
  obtain⟨n,vs2,rows,rfl,HL⟩:=hrel
  obtain⟨hn,hW,hsm,hfin⟩:=HL.out
  by_cases hlt:n < S.nodes.length
  ·have hlt':(n:Int) < (S.nodes.length:Int):=by omega
   obtain⟨x,hx⟩:∃ x,S.nodes[n]?=some x:=⟨_,List.getElem?_eq_getElem hlt⟩
   obtain⟨ad,cs,rfl,hK,hld⟩:=aW (P:=Tryz.prog) HC.out hW.b n hlt x hx 142 Tryz.underlying142 rfl ka
   obtain⟨vO,rfl,AO,cO,rfl,hlO,hCO⟩:=fx hK
   have ho2:=H2.out x (List.mem_of_getElem? hx)
   rw[List.drop_eq_getElem_cons hlt,(List.getElem?_eq_some_iff.1 hx).2] at hfin
   simp only[dX] at hfin
   have HW:=ak_ hW
   have HSm:=ak_ hsm
   have HFi:=ak_ hfin
   have HLd:=ak_ hld
   have HCO:=ak_ hCO
   have hOl:(x.outs.length:Int)≤2:=by omega
   have HLt:=ak_ hlt
   clear hW hsm hfin hld hCO hK hx HL hlt hn
   go_upto_region 8 with (first
    | ((with_reducible refine aj (N:=27) rfl ?_);refine au rfl 142 _ rfl (ad.add (n * 2)) rfl _ HLd.out ?_))
   have HW1:=ak_ (HW.out.below (ae (Below.refl _ _) (.cells #[.int .i64 x.at_,.slice AO x.outs.length cO] 142)))
   go_loopw [31] (fun j wr=>∃ (k:Nat) (vs:List Value) (rows2:List (List bL)),j=.int .i64 k∧aa (k≤x.outs.length∧WSt w S.nodes.length wr vs rows2∧(∀ xs∈rows2,xs.length≤1+2 * n+k)∧ei n x.outs 0 rows=ei n (x.outs.drop k) k rows2)) (fun j _=>x.outs.length - (intOf j).toNat)
   case atStart=>exact⟨0,vs2,rows,rfl,⟨⟨Nat.zero_le _,HW1.out,HSm.out,rfl⟩⟩⟩
   case round=>
    obtain⟨k,vs3,rows3,rfl,HL⟩:=hrel
    obtain⟨hk,hW,hsm,hfin⟩:=HL.out
    by_cases hkl:k < x.outs.length
    ·have hkl':(k:Int) < (x.outs.length:Int):=by omega
     obtain⟨o,ho⟩:∃ o,x.outs[k]?=some o:=⟨_,List.getElem?_eq_getElem hkl⟩
     obtain⟨ad2,cs2,rfl,hK2,hld2⟩:=aW (P:=Tryz.prog) HCO.out hW.b k hkl o ho 116 Tryz.underlying116 rfl fZ
     obtain rfl:cs2=o.cells:=hK2
     have hfin2:=hfin
     rw[List.drop_eq_getElem_cons hkl,(List.getElem?_eq_some_iff.1 ho).2] at hfin2
     simp only[ei] at hfin2
     have HW3:=ak_ hW
     have HSm3:=ak_ hsm
     have HFi3:=ak_ hfin2
     have HLd2:=ak_ hld2
     have HKl:=ak_ hkl
     have hk2:k≤2:=by omega
     have hr3:=ak_ hW.len
     have HNl:=ak_ (show n≤200 by have:=HLt.out;omega)
     clear hW hsm hfin hfin2 hld2 ho HL hkl hk
     go_wp2_with (first
      | ((with_reducible refine aj (N:=35) rfl ?_);refine au rfl 116 _ rfl (ad2.add (k * 25)) rfl _ HLd2.out ?_)
      | ((with_reducible refine ao (t:=116) (p:=8) rfl ?_);refine an rfl 116 _ _ rfl wr.heap.size o.cells.toArray rfl rfl 116 (aU.cells ⟨0,bo⟩).toArray (heap_alloc_last wr _) (dq o) (by simp[aU.len]) (gJ o) ?_;intro w6 h6 hf6;have HW6:=ak_ (HW3.out.below (bV hf6));have c80:=(show w6.cell? ⟨wr.heap.size,0,none⟩=some (.int .i64 o.jt) by rw[ap h6];rfl);clear h6 hf6)
      | (go_at_call 83;refine(pQ o.jt ((n:Int),(k:Int)) _ _ (w.heap.size+1+1) (w.heap.size+1) w.heap.size (w.heap.size+3) w6 HW6.out.m (by rw[hr3.out];exact HW6.out.gt) (by have:=HW6.out.b.size;omega) (by have:=ai HW6.out.gt;omega) (by omega) (by omega) (fun xs hx=>by have:=HSm3.out xs hx;have:=HNl.out;omega) (by rw[hr3.out];omega)).mono ?_;rintro e w7 ⟨rfl,vs7,hm,hfr⟩;have HW7:=ak_ (HW6.out.lead hm hfr);clear hm hfr))
     go_roundw
     case rel=>exact⟨k+1,vs7,_,by go_num,⟨⟨HKl.out,HW7.out,fun xs hx=>by have:=iG HSm3.out o.jt ((n:Int),(k:Int)) xs hx;omega,HFi3.out⟩⟩⟩
     case measure=>have:=HKl.out;simp[intOf];omega
    ·obtain rfl:k=x.outs.length:=by omega
     have hfin2:ei n x.outs 0 rows=rows3:=by rw[hfin,List.drop_of_length_le (Nat.le_refl _)];rfl
     have HW3:=ak_ hW
     have HSm3:=ak_ hsm
     have hfi:=HFi.out
     rw[hfin2] at hfi
     have HFi3:=ak_ hfi
     clear hW hsm hfin hfin2 hfi HL
     go_wp2
     go_roundw
     case rel=>exact⟨n+1,vs3,rows3,by go_num,⟨⟨HLt.out,HW3.out,fun xs hx=>by have:=HSm3.out xs hx;omega,HFi3.out⟩⟩⟩
     case measure=>have:=HLt.out;simp[intOf];omega
  ·obtain rfl:n=S.nodes.length:=by omega
   have hfin2:aX S=rows:=by rw[hfin,List.drop_of_length_le (Nat.le_refl _)];rfl
   have gtc:=(show wr.cell? ⟨w.heap.size+1+1,0,none⟩=some (.slice (some ⟨w.heap.size+1,0,none⟩) S.nodes.length S.nodes.length) by rw[ah hW.gt];rfl)
   have HW:=ak_ hW
   have HFi:=ak_ hfin2
   clear hW hsm hfin hfin2 hn
   go_wp2
   go_ret
   refine⟨_,rfl,?_,HW.out.b⟩
   have hr:=HW.out.m.own (by rw[HW.out.len];omega) (by omega) (by omega)
   rw[HW.out.len] at hr
   rw[HFi.out]
   exact hr
theorem v_ (S:bj) (vN:Value) (w:World) (hN:Rd dl w vN S.nodes) (h200:S.nodes.length≤200) (h2:∀ x∈S.nodes,x.outs.length≤2) :
  Calls Tryz.prog 52 #[.agg (S.entry.cells++[vN]).toArray] w fun e w'=>∃ v,e=.returned v∧Rd (Kd.slice 151 cL) w' v (aX S)∧Below w.heap.size w w':=
 (iK S vN w hN h200 h2).mono fun e w' ⟨v,h1,h3,h4⟩=>⟨v,h1,Rd.of_R h3,h4⟩
def dE (S:bj) (e:bL):Option aU:=if e.1=-1∧e.2=0 then some S.entry else if e.1 < 0∨e.2 < 0 then none else (S.nodes[e.1.toNat]?).bind fun x=>x.outs[e.2.toNat]?
theorem al {P:Program} {a:Act} {o:Oper} {W:World} {ty:TypeId} {x:Operand} {ad:Addr} {v:Value} (ho:o.op=.load ty x) (hx:a.eval x=.pointer (some ad)) (hrun:(loadVar ty ad).run P W=.ok v W):(execOp a.eval o).run P W=.ok (.value v) W:=by
 unfold execOp
 simp only[ho,hx,Instr.loadAt,Instr.sureAddr,Sem.run_bind,Sem.run_pure,Result.andThen_ok,hrun]
theorem Fr.cell_at {S:Nat→Prop} {W W':World} (h:Fr S W W') {p:Addr} {v:Value} (hc:W.cell? p=some v) (hs:¬ S p.block):W'.cell? p=some v:=by
 have:=h.block p.block (World.block_lt_of_cell? W p hc) hs
 simpa [World.cell?,this] using hc
theorem aE {P:Program} {W:World} {ty:TypeId} {p:Addr} {v:Value} (ha:(isAgg ty).run P W=.ok false W) (hc:W.cell? p=some v):(loadVar ty p).run P W=.ok v W:=by
 simp[loadVar,ha,Sem.run_bind,Result.andThen,hc]
def nr (S:bj) (A:Option Addr) (c:Nat):Value:=.agg (S.entry.cells++[Value.slice A S.nodes.length c]).toArray
structure Ef (w W:World) (S:bj) (A:Option Addr) (c:Nat) (e:bL):Prop where
 b:Below w.heap.size w W
 s:W.heap[w.heap.size]?=some (.cells (S.entry.cells++[Value.slice A S.nodes.length c]).toArray 119 (0,0))
 e:W.heap[w.heap.size+1]?=some (.cells #[.int .i64 e.1,.int .i64 e.2] 151 (0,0))
 o:W.heap[w.heap.size+1+1]?=some (.cells (aU.cells ⟨0,bo⟩).toArray 116 (0,0))
theorem D5 (w:World) (S:bj) (A:Option Addr) (c:Nat) (e:bL):Ef w (((w.alloc (.cells (S.entry.cells++[Value.slice A S.nodes.length c]).toArray 119)).alloc (.cells #[.int .i64 e.1,.int .i64 e.2] 151)).alloc (.cells (aU.cells ⟨0,bo⟩).toArray 116)) S A c e:=by
 have h:=fun i o h=>dZ w [.cells (S.entry.cells++[Value.slice A S.nodes.length c]).toArray 119,.cells #[.int .i64 e.1,.int .i64 e.2] 151,.cells (aU.cells ⟨0,bo⟩).toArray 116] i o h
 exact⟨dS w [_,_,_],h 0 _ rfl,h 1 _ rfl,h 2 _ rfl⟩
theorem li {W:World} {g:Nat} {S:bj} {A:Option Addr} {c:Nat} (h:W.heap[g]?=some (.cells (S.entry.cells++[Value.slice A S.nodes.length c]).toArray 119 (0,0))):(loadVar 116 ⟨g,0,none⟩).run Tryz.prog W=.ok (.agg S.entry.cells.toArray) W:=
 bU h 116 0 S.entry.cells (by rw[List.drop_zero,List.take_left'];rfl) _ Tryz.underlying116 rfl (by rw[aU.len];exact fZ)
theorem Bi (S:bj) (A:Option Addr) (c:Nat) (e:bL) (w:World) (hC:Kd.C dl w A S.nodes.length S.nodes) (hl:S.nodes.length≤200) (o:aU) (ho:dE S e=some o) :
  Calls Tryz.prog 99 #[nr S A c,.agg #[.int .i64 e.1,.int .i64 e.2]] w fun r w'=>r=.returned (.tuple #[.agg o.cells.toArray,.bool true])∧Below w.heap.size w w':=by
 unfold nr
 have HC:=ak_ hC
 clear hC
 go_enter Tryz.func99,Tryz.ntmps99
 go_upto_region 1 with fail
 obtain⟨w1,hw1⟩:∃ w1,w1=(((w.alloc (.cells (S.entry.cells++[Value.slice A S.nodes.length c]).toArray 119)).alloc (.cells #[.int .i64 e.1,.int .i64 e.2] 151)).alloc (.cells (aU.cells ⟨0,bo⟩).toArray 116)):=⟨_,rfl⟩
 have hW:=D5 w S A c e
 rw[←hw1] at hW
 refine ar hw1.symm ?_
 have e0:=(show w1.cell? ⟨w.heap.size+1,0,none⟩=some (.int .i64 e.1) by rw[ah hW.e];rfl)
 have e1:=(show w1.cell? ⟨w.heap.size+1,1,none⟩=some (.int .i64 e.2) by rw[ah hW.e];rfl)
 have c25:=(show w1.cell? ⟨w.heap.size,25,none⟩=some (.slice A S.nodes.length c) by rw[ap hW.s,List.getElem?_append_right (by rw[aU.len];exact Nat.le_refl _),aU.len];rfl)
 have HW:=ak_ hW
 clear hw1 hW
 by_cases h1:e.1=-1∧e.2=0
 ·unfold dE at ho
  rw[if_pos h1] at ho
  obtain rfl:=Option.some.inj ho
  have q1:(e.1 == -1)=true:=beq_iff_eq.mpr h1.1
  have q2:(e.2 == 0)=true:=beq_iff_eq.mpr h1.2
  clear h1 ho
  go_wp2_with (first
   | ((with_reducible refine aj (N:=16) rfl ?_);refine au rfl 116 _ rfl ⟨w.heap.size,0,none⟩ rfl _ (li HW.out.s) ?_)
   | ((with_reducible refine ao (t:=116) (p:=4) rfl ?_);refine an rfl 116 _ _ rfl (w.heap.size+1+1) S.entry.cells.toArray rfl rfl 116 (aU.cells ⟨0,bo⟩).toArray HW.out.o (dq _) (by simp[aU.len]) (gJ _) ?_;intro w6 h6 hf6;have H6:=ak_ h6;have F6:=ak_ hf6;clear h6 hf6))
  exact bodyPost_ret (v:=.tuple #[.agg S.entry.cells.toArray,.bool true]) (aA (rs:=[.cell 4 116,.tmp 5]) rfl (by simp) (.cell (w.heap.size+1+1) 116 S.entry.cells.toArray (0,0) _ rfl H6.out Tryz.underlying116 rfl (dq _) (.tmp .nil))) rfl ⟨rfl,Fr.below HW.out.b F6.out (fun k hk h=>by omega) HW.out.b.size⟩
 ·unfold dE at ho
  rw[if_neg h1] at ho
  by_cases h2:e.1 < 0∨e.2 < 0
  ·rw[if_pos h2] at ho;exact absurd ho (by simp)
  ·rw[if_neg h2] at ho
   obtain⟨e1v,e2v⟩:=e
   simp only at ho h1 h2 e0 e1
   obtain⟨n,rfl⟩:∃ n:Nat,e1v=n:=⟨e1v.toNat,by omega⟩
   obtain⟨k,rfl⟩:∃ k:Nat,e2v=k:=⟨e2v.toNat,by omega⟩
   simp only[Int.toNat_natCast] at ho
   obtain⟨x,hx,hko⟩:=Option.bind_eq_some_iff.1 ho
   have hn:=(List.getElem?_eq_some_iff.1 hx).1
   have hk:=(List.getElem?_eq_some_iff.1 hko).1
   obtain⟨ad,cs,rfl,_,hK,hcs⟩:=bX HC.out n hn x hx
   obtain⟨vO,rfl,AO,cO,rfl,hlO,hCO⟩:=fx hK
   obtain⟨ad2,cs2,rfl,hK2,_⟩:=aW (P:=Tryz.prog) hCO (Below.refl _ _) k hk o hko 116 Tryz.underlying116 rfl fZ
   have HLd:=ak_ (fun (W:World) (hb:Below w.heap.size w W)=>aW (P:=Tryz.prog) hCO hb k hk o hko 116 Tryz.underlying116 rfl fZ)
   have hvo:w.cell? ⟨(ad.add (n * 2)).block,(ad.add (n * 2)).off+1,none⟩=some (.slice (some ad2) x.outs.length cO):=by
    rw[←fV _ _ 1 (by omega)]
    exact hcs 1 _ rfl
   have v1:=ak HW.out.b hvo
   have q1:((n:Int) == -1)=false:=beq_eq_false_iff_ne.mpr (by omega)
   have hn':(n:Int) < (S.nodes.length:Int):=by omega
   have hk':(k:Int) < (x.outs.length:Int):=by omega
   have g1:decide ((n:Int) < 0)=false:=decide_eq_false (by omega)
   have g2:decide ((S.nodes.length:Int)≤(n:Int))=false:=decide_eq_false (by omega)
   have g2':decide (S.nodes.length≤n)=false:=decide_eq_false (by omega)
   have g3:decide ((k:Int) < 0)=false:=decide_eq_false (by omega)
   have g4:decide ((x.outs.length:Int)≤(k:Int))=false:=decide_eq_false (by omega)
   have g4':decide (x.outs.length≤k)=false:=decide_eq_false (by omega)
   have HV:=ak_ hvo
   clear h1 h2 ho hx hko hK hK2 hcs hCO hvo hn hk
   go_upto_region 3 with fail
   go_quiet (fail)
   go_upto_region 5 with fail
   have HA117:=ak_ (show ∀ W,(isAgg 117).run Tryz.prog W=.ok false W from fun W=>by kernel_rfl)
   have HA3:=ak_ (show ∀ W,(isAgg 3).run Tryz.prog W=.ok false W from fun W=>by kernel_rfl)
   have HA140:=ak_ (show ∀ W,(isAgg 140).run Tryz.prog W=.ok false W from fun W=>by kernel_rfl)
   have C25:=ak_ c25
   have E0:=ak_ e0
   have E1:=ak_ e1
   have V1:=ak_ v1
   have HN1:=ak_ hn'
   have HK1:=ak_ hk'
   have VB:aa (¬ ((ad.add (n * 2)).block=w.heap.size+1+1)):=⟨by have:=World.block_lt_of_cell? w _ HV.out;simp only at this;omega⟩
   clear c25 e0 e1 v1 hn' hk' g1 g2 g2' g3 g4 g4' q1
   refine f_ [(48,.pointer (some ⟨w.heap.size,25,none⟩)),(49,.slice (some ad) S.nodes.length c),(50,.pointer (some ⟨w.heap.size+1,0,none⟩)),(51,.int .i64 (n:Int)),(52,.pointer (some (ad.add (n * 2)))),(53,.pointer (some ⟨(ad.add (n * 2)).block,(ad.add (n * 2)).off+1,none⟩)),(54,.slice (some ad2) x.outs.length cO),(55,.pointer (some ⟨w.heap.size+1,1,none⟩)),(56,.int .i64 (k:Int)),(57,.pointer (some (ad2.add (k * 25)))),(58,.agg o.cells.toArray),(5,.bool true)]
    (fun L W=>L.size=13∧Fr (fun k=>k=w.heap.size+1+1) w1 W∧W.heap[w.heap.size+1+1]?=some (.cells (if L.getD 11 false=true then o.cells.toArray else (aU.cells ⟨0,bo⟩).toArray) 116 (0,0))) (by kernel_rfl) (by kernel_rfl) (by kernel_rfl) ?_
   intro aF haF
   simp only[bd,Act.put,List.setIfInBounds_toArray,List.set_cons_succ,List.set_cons_zero] at haF
   subst haF
   refine⟨?_,⟨by simp,⟨rfl,rfl,rfl,Nat.le_refl _,fun _ _ _=>rfl⟩,HW.out.o⟩,?_⟩
   ·intro j o2 ho L W hc hr hst
    have keep:∀ j:Nat,j≠11→(L.setIfInBounds j true).size=13∧Fr (fun k=>k=w.heap.size+1+1) w1 W∧W.heap[w.heap.size+1+1]?=some (.cells (if (L.setIfInBounds j true).getD 11 false=true then o.cells.toArray else (aU.cells ⟨0,bo⟩).toArray) 116 (0,0)):=fun j a=>by
     rw[getD_set_ne false a]
     exact⟨by simpa using hst.1,hst.2.1,hst.2.2⟩
    rcases j with _ | _ | _ | _ | _ | _ | _ | _ | _ | _ | _ | _ | _ | j
    ·obtain rfl:=Option.some.inj ho
     exact aD rfl (by go_simp) rfl (keep 0 (by decide))
    ·obtain rfl:=Option.some.inj ho
     exact aD rfl (al rfl rfl (aE (HA117.out W) (hst.2.1.cell_at C25.out (by show ¬ (w.heap.size=_);omega)))) rfl (keep 1 (by decide))
    ·obtain rfl:=Option.some.inj ho
     exact aD rfl (by go_simp) rfl (keep 2 (by decide))
    ·obtain rfl:=Option.some.inj ho
     exact aD rfl (al rfl rfl (aE (HA3.out W) (hst.2.1.cell_at E0.out (by show ¬ (w.heap.size+1=_);omega)))) rfl (keep 3 (by decide))
    ·obtain rfl:=Option.some.inj ho
     exact aD rfl (by have z1:=HN1.out;go_simp) rfl (keep 4 (by decide))
    ·obtain rfl:=Option.some.inj ho
     exact aD rfl (by go_simp) rfl (keep 5 (by decide))
    ·obtain rfl:=Option.some.inj ho
     exact aD rfl (al rfl rfl (aE (HA140.out W) (hst.2.1.cell_at V1.out VB.out))) rfl (keep 6 (by decide))
    ·obtain rfl:=Option.some.inj ho
     exact aD rfl (by go_simp) rfl (keep 7 (by decide))
    ·obtain rfl:=Option.some.inj ho
     exact aD rfl (al rfl rfl (aE (HA3.out W) (hst.2.1.cell_at E1.out (by show ¬ (w.heap.size+1=_);omega)))) rfl (keep 8 (by decide))
    ·obtain rfl:=Option.some.inj ho
     exact aD rfl (by have z1:=HK1.out;go_simp) rfl (keep 9 (by decide))
    ·obtain rfl:=Option.some.inj ho
     obtain⟨ad3,cs3,q1,q2,q3⟩:=HLd.out W (Fr.below HW.out.b hst.2.1 (fun k hk h=>by omega) HW.out.b.size)
     injection q1 with q1
     subst q1
     obtain rfl:cs3=o.cells:=q2
     exact aD rfl (al rfl rfl q3) rfl (keep 10 (by decide))
    ·obtain rfl:=Option.some.inj ho
     have ni:=fk hr
     have hg:=hst.2.2
     rw[ni] at hg
     refine nO rfl 116 _ _ rfl (w.heap.size+1+1) o.cells.toArray rfl rfl 116 (aU.cells ⟨0,bo⟩).toArray hg (dq _) (by simp[aU.len]) (gJ _) rfl ⟨by simpa using hst.1,hst.2.1.trans (Fr.row (S:=fun k=>k=w.heap.size+1+1) rfl _),?_⟩
     have ht:(L.setIfInBounds 11 true).getD 11 false=true:=by simp[hst.1]
     rw[ht]
     exact setRow_heap _ (w.heap.size+1+1) _ _ 116 _ hg
    ·obtain rfl:=Option.some.inj ho
     exact aD rfl (by go_simp) rfl (keep 12 (by decide))
    ·exact absurd (Array.getElem?_eq_some_iff.1 ho).1 (by simp)
   ·intro L W hall hs
    have hst:=hs
    rw[hall 11 (by simp)] at hst
    have HSt:=ak_ hst
    clear hst hs hall
    try dsimp only
    go_wp2
    exact bodyPost_ret (v:=.tuple #[.agg o.cells.toArray,.bool true]) (aA (rs:=[.cell 4 116,.tmp 5]) rfl (by simp) (.cell (w.heap.size+1+1) 116 o.cells.toArray (0,0) _ rfl HSt.out.2.2 Tryz.underlying116 rfl (dq _) (.tmp .nil))) rfl ⟨rfl,Fr.below HW.out.b HSt.out.2.1 (fun k hk h=>by omega) HW.out.b.size⟩
structure Src where
 kind:Int
 n:Int
deriving DecidableEq
def Src.cells (s:Src):Array Value:=#[.int .i64 s.kind,.int .i64 s.n]
def Sr.loc:Sr→Int
 | .was l=>l
 | _=>0
def eh (f:List In) (S:bj) (e:bL) (s:Sr):Src:=
 match s with
 | .is n=>⟨2,n⟩
 | s=>if e.1 < 0 then (if lV s.loc=true then ⟨1,s.loc⟩ else ⟨0,0⟩)
  else if (jg (f.getD ((S.nodes.getD e.1.toNat ⟨0,[]⟩).at_).toNat In.zero)).2=true∧(jg (f.getD ((S.nodes.getD e.1.toNat ⟨0,[]⟩).at_).toNat In.zero)).1=s.loc then ⟨3,0⟩ else ⟨4,s.loc⟩
def dr (f:List In) (S:bj) (e:bL) (l:Nat):Src:=eh f S e (((dE S e).getD ⟨0,[]⟩).t.getD l .no)
theorem Ay (o:aU) {l:Nat} (hl:l < 24):o.cells[1+l]?=some (o.t.getD l .no).v:=by
 unfold aU.cells pM
 rw[Nat.add_comm,List.getElem?_cons_succ,List.getElem?_map,List.getElem?_range hl]
 rfl
theorem jy {S:bj} {e:bL} {o:aU} (h:dE S e=some o) (hn:¬ e.1 < 0):∃ x,S.nodes[e.1.toNat]?=some x:=by
 unfold dE at h
 split at h
 ·rename_i q;omega
 ·split at h
  ·exact absurd h (by simp)
  ·obtain⟨x,hx,_⟩:=Option.bind_eq_some_iff.1 h
   exact⟨x,hx⟩
structure ByW (w W:World) (S:bj) (A:Option Addr) (c:Nat) (e:bL):Prop where
 b:Below w.heap.size w W
 s:W.heap[w.heap.size]?=some (.cells (S.entry.cells++[Value.slice A S.nodes.length c]).toArray 119 (0,0))
 e:W.heap[w.heap.size+1]?=some (.cells #[.int .i64 e.1,.int .i64 e.2] 151 (0,0))
 o:W.heap[w.heap.size+1+1]?=some (.cells #[.int .i64 0,.int .i64 0] 135 (0,0))
theorem byW (w:World) (S:bj) (A:Option Addr) (c:Nat) (e:bL):ByW w (((w.alloc (.cells (S.entry.cells++[Value.slice A S.nodes.length c]).toArray 119)).alloc (.cells #[.int .i64 e.1,.int .i64 e.2] 151)).alloc (.cells #[.int .i64 0,.int .i64 0] 135)) S A c e:=by
 have h:=fun i o h=>dZ w [.cells (S.entry.cells++[Value.slice A S.nodes.length c]).toArray 119,.cells #[.int .i64 e.1,.int .i64 e.2] 151,.cells #[.int .i64 0,.int .i64 0] 135] i o h
 exact⟨dS w [_,_,_],h 0 _ rfl,h 1 _ rfl,h 2 _ rfl⟩
theorem ByW.below {w W W':World} {S:bj} {A:Option Addr} {c:Nat} {e:bL} (h:ByW w W S A c e) (hb:Below W.heap.size W W'):ByW w W' S A c e:=
 ⟨af h.b hb,ag h.s hb,ag h.e hb,ag h.o hb⟩
theorem aG:(Tryz.prog.info? 135).map (·.size)=some 2:=by kernel_rfl
theorem CL (f:List In) (S:bj) (A Af:Option Addr) (c cf:Nat) (e:bL) (l:Nat) (hl:l < 24) (w:World) (hC:Kd.C dl w A S.nodes.length S.nodes) (h200:S.nodes.length≤200) (hF:Kd.C kIn w Af f.length f) (hat:∀ x∈S.nodes,0≤x.at_∧x.at_ < f.length) (o:aU) (ho:dE S e=some o) :
  Calls Tryz.prog 82 #[.slice Af f.length cf,nr S A c,.agg #[.int .i64 e.1,.int .i64 e.2],.int .i64 (l:Int)] w fun r w'=>r=.returned (.agg (dr f S e l).cells)∧Below w.heap.size w w':=by
 have hby:dr f S e l=eh f S e (o.t.getD l .no):=by unfold dr;rw[ho];rfl
 rw[hby]
 have HO:=ak_ (fun W (hb:Below w.heap.size w W)=>Bi S A c e W (Kd.C_below hC hb) h200 o ho)
 have HC:=ak_ hC
 have HF:=ak_ hF
 have HAt:=ak_ hat
 have HEd:=ak_ ho
 have HCl:=ak_ (Ay o hl)
 have hl':(l:Int) < 24:=by omega
 obtain⟨s,hs⟩:∃ s,s=o.t.getD l .no:=⟨_,rfl⟩
 rw[←hs] at HCl ⊢
 unfold nr at HO ⊢
 clear hC hF hat ho hby hs
 go_enter Tryz.func82,Tryz.ntmps82
 go_upto_region 1 with fail
 obtain⟨w1,hw1⟩:∃ w1,w1=(((w.alloc (.cells (S.entry.cells++[Value.slice A S.nodes.length c]).toArray 119)).alloc (.cells #[.int .i64 e.1,.int .i64 e.2] 151)).alloc (.cells #[.int .i64 0,.int .i64 0] 135)):=⟨_,rfl⟩
 have hW:=byW w S A c e
 rw[←hw1] at hW
 refine ar hw1.symm ?_
 have HW:=ak_ hW
 clear hw1 hW
 go_upto_region 2 with (first
  | ((with_reducible refine aj (N:=18) rfl ?_);refine wpList_load_row rfl 119 _ rfl w.heap.size rfl 119 (S.entry.cells++[Value.slice A S.nodes.length c]).toArray (0,0) _ HW.out.s Tryz.underlying119 rfl (dH _ _) ?_)
  | ((with_reducible refine aj (N:=19) rfl ?_);refine wpList_load_row rfl 151 _ rfl (w.heap.size+1) rfl 151 #[.int .i64 e.1,.int .i64 e.2] (0,0) _ HW.out.e Tryz.underlying151 rfl ik ?_)
  | (go_at_call 99;refine(HO.out _ HW.out.b).mono ?_;rintro r w2 ⟨rfl,hb⟩;have HW2:=ak_ (HW.out.below hb);clear hb)
  | ((with_reducible refine ao (t:=116) (p:=9) rfl ?_);refine an rfl 116 _ _ rfl w2.heap.size o.cells.toArray rfl rfl 116 (aU.cells ⟨0,bo⟩).toArray (heap_alloc_last w2 _) (dq o) (by simp[aU.len]) (gJ o) ?_;intro w3 h3 hf3;have HW3:=ak_ (HW2.out.below (bV hf3));have c1:=(show w3.cell? ⟨w2.heap.size,1+l,none⟩=some s.v by rw[ap h3];exact HCl.out);have l3:=ai h3;clear h3 hf3))
 have e0:=(show w3.cell? ⟨w.heap.size+1,0,none⟩=some (.int .i64 e.1) by rw[ah HW3.out.e];rfl)
 clear HO HCl
 cases s with
 | is n=>
  simp only[Sr.v] at c1
  have c2:=(show w3.cell? ⟨w2.heap.size,l+1,none⟩=some (.iface 202 (.agg #[.int .i64 n])) by rw[Nat.add_comm];exact c1)
  have t1:=Cy (.agg #[.int .i64 n]) w3
  go_wp2_with (first
   | ((with_reducible refine ao (t:=135) (p:=8) rfl ?_);refine an rfl 135 _ _ rfl (w.heap.size+1+1) #[.int .i64 2,.int .i64 n] rfl rfl 135 #[.int .i64 0,.int .i64 0] (aK HW3.out.o _) aG rfl (by simp[Value.oneCell']) ?_;intro w8 h8 hf8;have H8:=ak_ h8;have F8:=ak_ hf8;clear h8 hf8))
  exact bodyPost_ret (v:=.agg #[.int .i64 2,.int .i64 n]) (results_cell_row rfl _ _ (w.heap.size+1+1) 135 #[.int .i64 2,.int .i64 n] (0,0) _ rfl H8.out Tryz.underlying135 rfl aG) rfl ⟨rfl,Fr.below (ae HW3.out.b (.cells #[.int .i64 n] 202)) F8.out (fun k hk h=>by omega) ((ae HW3.out.b (.cells #[.int .i64 n] 202))).size⟩
 | was loc=>
  simp only[Sr.v] at c1
  have c2:=(show w3.cell? ⟨w2.heap.size,l+1,none⟩=some (.iface 199 (.agg #[.int .i64 loc])) by rw[Nat.add_comm];exact c1)
  have t1:=pN (.agg #[.int .i64 loc]) w3
  have t2:=fun W=>zk (.agg #[.int .i64 loc]) W
  go_upto_region 6 with fail
  obtain⟨w5,hw5⟩:∃ x,x=(w3.alloc (.cells #[.int .i64 0] 202)).alloc (.cells #[.int .i64 loc] 199):=⟨_,rfl⟩
  have hW5:ByW w w5 S A c e:=by rw[hw5];exact HW3.out.below (ae (ae (Below.refl _ _) _) _)
  have hl5:w5.cell? ⟨w3.heap.size+1,0,none⟩=some (.int .i64 loc):=by
   have h:=heap_alloc2_new w3 (.cells #[.int .i64 0] 202) (.cells #[.int .i64 loc] 199)
   rw[hw5,ah h];rfl
  refine ar hw5.symm ?_
  have e5:=(show w5.cell? ⟨w.heap.size+1,0,none⟩=some (.int .i64 e.1) by rw[ah hW5.e];rfl)
  have c25:=(show w5.cell? ⟨w.heap.size,25,none⟩=some (.slice A S.nodes.length c) by rw[ap hW5.s,List.getElem?_append_right (by rw[aU.len];exact Nat.le_refl _),aU.len];rfl)
  have HW5:=ak_ hW5
  have L5:=ak_ hl5
  clear t1 t2 c1 c2 e0 hw5 hW5
  by_cases hneg:e.1 < 0
  ·cases hreg:lV loc with
   | true=>
    have HRes:aa (Ending.returned (.agg #[.int .i64 1,.int .i64 loc])=Ending.returned (.agg (eh f S e (Sr.was loc)).cells)):=⟨by simp[eh,Sr.loc,hneg,hreg,Src.cells]⟩
    have HC98:=ak_ (lL loc)
    rw[hreg] at HC98
    clear hreg
    go_wp2_with (first
     | (go_at_call 98;refine(HC98.out _).mono ?_;rintro r w6 ⟨rfl,hd⟩;have HW6:=ak_ (HW5.out.below (bH hd));have l6:=ak (bH hd) L5.out;clear hd)
     | ((with_reducible refine ao (t:=135) (p:=8) rfl ?_);refine an rfl 135 _ _ rfl (w.heap.size+1+1) #[.int .i64 1,.int .i64 loc] rfl rfl 135 #[.int .i64 0,.int .i64 0] (HW6.out.o) aG rfl (by simp[Value.oneCell']) ?_;intro w8 h8 hf8;have H8:=ak_ h8;have F8:=ak_ hf8;clear h8 hf8))
    exact bodyPost_ret (v:=.agg #[.int .i64 1,.int .i64 loc]) (results_cell_row rfl _ _ (w.heap.size+1+1) 135 #[.int .i64 1,.int .i64 loc] (0,0) _ rfl H8.out Tryz.underlying135 rfl aG) rfl ⟨HRes.out,Fr.below HW6.out.b F8.out (fun k hk h=>by omega) (HW6.out.b).size⟩
   | false=>
    have HRes:aa (Ending.returned (.agg #[.int .i64 0,.int .i64 0])=Ending.returned (.agg (eh f S e (Sr.was loc)).cells)):=⟨by simp[eh,Sr.loc,hneg,hreg,Src.cells]⟩
    have HC98:=ak_ (lL loc)
    rw[hreg] at HC98
    clear hreg
    go_wp2_with (first
     | (go_at_call 98;refine(HC98.out _).mono ?_;rintro r w6 ⟨rfl,hd⟩;have HW6:=ak_ (HW5.out.below (bH hd));have l6:=ak (bH hd) L5.out;clear hd)
     | ((with_reducible refine ao (t:=135) (p:=8) rfl ?_);refine an rfl 135 _ _ rfl (w.heap.size+1+1) #[.int .i64 0,.int .i64 0] rfl rfl 135 #[.int .i64 0,.int .i64 0] (HW6.out.o) aG rfl (by simp[Value.oneCell']) ?_;intro w8 h8 hf8;have H8:=ak_ h8;have F8:=ak_ hf8;clear h8 hf8))
    exact bodyPost_ret (v:=.agg #[.int .i64 0,.int .i64 0]) (results_cell_row rfl _ _ (w.heap.size+1+1) 135 #[.int .i64 0,.int .i64 0] (0,0) _ rfl H8.out Tryz.underlying135 rfl aG) rfl ⟨HRes.out,Fr.below HW6.out.b F8.out (fun k hk h=>by omega) (HW6.out.b).size⟩
  ·obtain⟨x,hx⟩:=jy HEd.out hneg
   obtain⟨n,hn⟩:∃ n:Nat,e.1=n:=⟨e.1.toNat,by omega⟩
   rw[hn,Int.toNat_natCast] at hx
   have hxa:=HAt.out x (List.mem_of_getElem? hx)
   obtain⟨p,hp⟩:∃ p:Nat,x.at_=p:=⟨x.at_.toNat,by omega⟩
   have hnl:=(List.getElem?_eq_some_iff.1 hx).1
   obtain⟨ad,cs,rfl,_,hK,hcs⟩:=bX HC.out n hnl x hx
   obtain⟨vO,rfl,_⟩:=fx hK
   have v0:=ak HW5.out.b (hcs 0 _ rfl)
   rw[Nat.add_zero,hp] at v0
   have v0':w5.cell? (ad.add (n * 2))=some (.int .i64 (p:Int)):=v0
   obtain⟨y,hy⟩:∃ y,f[p]?=some y:=⟨_,List.getElem?_eq_getElem (by omega)⟩
   obtain⟨ad2,rfl,d0,d1,d2,d3,d4,d5⟩:=po (Kd.C_below HF.out HW5.out.b) p (by omega) y hy
   have hpf:(p:Int) < (f.length:Int):=by omega
   have hn':(n:Int) < (S.nodes.length:Int):=by omega
   rw[hn] at e5
   have hne:¬ (n:Int) < 0:=by omega
   obtain⟨d,okv,hset⟩:∃ d okv,jg y=(d,okv):=⟨_,_,rfl⟩
   have hS:=sD y
   rw[hset] at hS
   have HS100:=ak_ hS
   have hsrc:eh f S e (Sr.was loc)=if okv=true∧d=loc then ⟨3,0⟩ else ⟨4,loc⟩:=by
    have h1:(jg (f.getD ((S.nodes.getD e.1.toNat ⟨0,[]⟩).at_).toNat In.zero))=(d,okv):=by
     have q1:S.nodes.getD n ⟨0,[]⟩=x:=by simp[List.getD_eq_getElem?_getD,hx]
     have q2:f.getD p In.zero=y:=by simp[List.getD_eq_getElem?_getD,hy]
     rw[hn,Int.toNat_natCast,q1,hp,Int.toNat_natCast,q2]
     exact hset
    unfold eh
    simp only[h1,if_neg hneg,Sr.loc]
   have HSrc:=ak_ hsrc
   clear hS hset hsrc hy hxa hK hcs hx hnl v0 hn
   by_cases hboth:okv=true∧d=loc
   ·obtain⟨rfl,hd⟩:=hboth
    have HRes:aa (Ending.returned (.agg #[.int .i64 3,.int .i64 0])=Ending.returned (.agg (eh f S e (Sr.was loc)).cells)):=⟨by rw[HSrc.out,if_pos ⟨rfl,hd⟩];rfl⟩
    have qd:(d == loc)=true:=beq_iff_eq.mpr hd
    clear hd
    go_wp2_with (first
     | (go_at_call 100;refine(HS100.out _).mono ?_;rintro r w6 ⟨rfl,hb⟩;have HW6:=ak_ (HW5.out.below hb);have l6:=ak hb L5.out;clear hb)
     | ((with_reducible refine ao (t:=135) (p:=8) rfl ?_);refine an rfl 135 _ _ rfl (w.heap.size+1+1) #[.int .i64 3,.int .i64 0] rfl rfl 135 #[.int .i64 0,.int .i64 0] (HW6.out.o) aG rfl (by simp[Value.oneCell']) ?_;intro w8 h8 hf8;have H8:=ak_ h8;have F8:=ak_ hf8;clear h8 hf8))
    exact bodyPost_ret (v:=.agg #[.int .i64 3,.int .i64 0]) (results_cell_row rfl _ _ (w.heap.size+1+1) 135 #[.int .i64 3,.int .i64 0] (0,0) _ rfl H8.out Tryz.underlying135 rfl aG) rfl ⟨HRes.out,Fr.below HW6.out.b F8.out (fun k hk h=>by omega) (HW6.out.b).size⟩
   ·have HRes:aa (Ending.returned (.agg #[.int .i64 4,.int .i64 loc])=Ending.returned (.agg (eh f S e (Sr.was loc)).cells)):=⟨by rw[HSrc.out,if_neg hboth];rfl⟩
    cases okv with
    | false=>
     clear hboth
     go_wp2_with (first
      | (go_at_call 100;refine(HS100.out _).mono ?_;rintro r w6 ⟨rfl,hb⟩;have HW6:=ak_ (HW5.out.below hb);have l6:=ak hb L5.out;clear hb)
      | ((with_reducible refine ao (t:=135) (p:=8) rfl ?_);refine an rfl 135 _ _ rfl (w.heap.size+1+1) #[.int .i64 4,.int .i64 loc] rfl rfl 135 #[.int .i64 0,.int .i64 0] (HW6.out.o) aG rfl (by simp[Value.oneCell']) ?_;intro w8 h8 hf8;have H8:=ak_ h8;have F8:=ak_ hf8;clear h8 hf8))
     exact bodyPost_ret (v:=.agg #[.int .i64 4,.int .i64 loc]) (results_cell_row rfl _ _ (w.heap.size+1+1) 135 #[.int .i64 4,.int .i64 loc] (0,0) _ rfl H8.out Tryz.underlying135 rfl aG) rfl ⟨HRes.out,Fr.below HW6.out.b F8.out (fun k hk h=>by omega) (HW6.out.b).size⟩
     | true=>
     have qd:(d == loc)=false:=beq_eq_false_iff_ne.mpr (fun h=>hboth ⟨rfl,h⟩)
     clear hboth
     go_wp2_with (first
      | (go_at_call 100;refine(HS100.out _).mono ?_;rintro r w6 ⟨rfl,hb⟩;have HW6:=ak_ (HW5.out.below hb);have l6:=ak hb L5.out;clear hb)
      | ((with_reducible refine ao (t:=135) (p:=8) rfl ?_);refine an rfl 135 _ _ rfl (w.heap.size+1+1) #[.int .i64 4,.int .i64 loc] rfl rfl 135 #[.int .i64 0,.int .i64 0] (HW6.out.o) aG rfl (by simp[Value.oneCell']) ?_;intro w8 h8 hf8;have H8:=ak_ h8;have F8:=ak_ hf8;clear h8 hf8))
     exact bodyPost_ret (v:=.agg #[.int .i64 4,.int .i64 loc]) (results_cell_row rfl _ _ (w.heap.size+1+1) 135 #[.int .i64 4,.int .i64 loc] (0,0) _ rfl H8.out Tryz.underlying135 rfl aG) rfl ⟨HRes.out,Fr.below HW6.out.b F8.out (fun k hk h=>by omega) (HW6.out.b).size⟩
 | no=>
  simp only[Sr.v] at c1
  have c2:=(show w3.cell? ⟨w2.heap.size,l+1,none⟩=some .nilIface by rw[Nat.add_comm];exact c1)
  have t1:=rK w3
  have t2:=fun W=>pO W
  go_upto_region 6 with fail
  obtain⟨w5,hw5⟩:∃ x,x=(w3.alloc (.cells #[.int .i64 0] 202)).alloc (.cells #[.int .i64 0] 199):=⟨_,rfl⟩
  have hW5:ByW w w5 S A c e:=by rw[hw5];exact HW3.out.below (ae (ae (Below.refl _ _) _) _)
  have hl5:w5.cell? ⟨w3.heap.size+1,0,none⟩=some (.int .i64 0):=by
   have h:=heap_alloc2_new w3 (.cells #[.int .i64 0] 202) (.cells #[.int .i64 0] 199)
   rw[hw5,ah h];rfl
  refine ar hw5.symm ?_
  have e5:=(show w5.cell? ⟨w.heap.size+1,0,none⟩=some (.int .i64 e.1) by rw[ah hW5.e];rfl)
  have c25:=(show w5.cell? ⟨w.heap.size,25,none⟩=some (.slice A S.nodes.length c) by rw[ap hW5.s,List.getElem?_append_right (by rw[aU.len];exact Nat.le_refl _),aU.len];rfl)
  have HW5:=ak_ hW5
  have L5:=ak_ hl5
  clear t1 t2 c1 c2 e0 hw5 hW5
  by_cases hneg:e.1 < 0
  ·cases hreg:lV 0 with
   | true=>
    have HRes:aa (Ending.returned (.agg #[.int .i64 1,.int .i64 0])=Ending.returned (.agg (eh f S e Sr.no).cells)):=⟨by simp[eh,Sr.loc,hneg,hreg,Src.cells]⟩
    have HC98:=ak_ (lL 0)
    rw[hreg] at HC98
    clear hreg
    go_wp2_with (first
     | (go_at_call 98;refine(HC98.out _).mono ?_;rintro r w6 ⟨rfl,hd⟩;have HW6:=ak_ (HW5.out.below (bH hd));have l6:=ak (bH hd) L5.out;clear hd)
     | ((with_reducible refine ao (t:=135) (p:=8) rfl ?_);refine an rfl 135 _ _ rfl (w.heap.size+1+1) #[.int .i64 1,.int .i64 0] rfl rfl 135 #[.int .i64 0,.int .i64 0] (HW6.out.o) aG rfl (by simp[Value.oneCell']) ?_;intro w8 h8 hf8;have H8:=ak_ h8;have F8:=ak_ hf8;clear h8 hf8))
    exact bodyPost_ret (v:=.agg #[.int .i64 1,.int .i64 0]) (results_cell_row rfl _ _ (w.heap.size+1+1) 135 #[.int .i64 1,.int .i64 0] (0,0) _ rfl H8.out Tryz.underlying135 rfl aG) rfl ⟨HRes.out,Fr.below HW6.out.b F8.out (fun k hk h=>by omega) (HW6.out.b).size⟩
   | false=>
    have HRes:aa (Ending.returned (.agg #[.int .i64 0,.int .i64 0])=Ending.returned (.agg (eh f S e Sr.no).cells)):=⟨by simp[eh,Sr.loc,hneg,hreg,Src.cells]⟩
    have HC98:=ak_ (lL 0)
    rw[hreg] at HC98
    clear hreg
    go_wp2_with (first
     | (go_at_call 98;refine(HC98.out _).mono ?_;rintro r w6 ⟨rfl,hd⟩;have HW6:=ak_ (HW5.out.below (bH hd));have l6:=ak (bH hd) L5.out;clear hd)
     | ((with_reducible refine ao (t:=135) (p:=8) rfl ?_);refine an rfl 135 _ _ rfl (w.heap.size+1+1) #[.int .i64 0,.int .i64 0] rfl rfl 135 #[.int .i64 0,.int .i64 0] (HW6.out.o) aG rfl (by simp[Value.oneCell']) ?_;intro w8 h8 hf8;have H8:=ak_ h8;have F8:=ak_ hf8;clear h8 hf8))
    exact bodyPost_ret (v:=.agg #[.int .i64 0,.int .i64 0]) (results_cell_row rfl _ _ (w.heap.size+1+1) 135 #[.int .i64 0,.int .i64 0] (0,0) _ rfl H8.out Tryz.underlying135 rfl aG) rfl ⟨HRes.out,Fr.below HW6.out.b F8.out (fun k hk h=>by omega) (HW6.out.b).size⟩
  ·obtain⟨x,hx⟩:=jy HEd.out hneg
   obtain⟨n,hn⟩:∃ n:Nat,e.1=n:=⟨e.1.toNat,by omega⟩
   rw[hn,Int.toNat_natCast] at hx
   have hxa:=HAt.out x (List.mem_of_getElem? hx)
   obtain⟨p,hp⟩:∃ p:Nat,x.at_=p:=⟨x.at_.toNat,by omega⟩
   have hnl:=(List.getElem?_eq_some_iff.1 hx).1
   obtain⟨ad,cs,rfl,_,hK,hcs⟩:=bX HC.out n hnl x hx
   obtain⟨vO,rfl,_⟩:=fx hK
   have v0:=ak HW5.out.b (hcs 0 _ rfl)
   rw[Nat.add_zero,hp] at v0
   have v0':w5.cell? (ad.add (n * 2))=some (.int .i64 (p:Int)):=v0
   obtain⟨y,hy⟩:∃ y,f[p]?=some y:=⟨_,List.getElem?_eq_getElem (by omega)⟩
   obtain⟨ad2,rfl,d0,d1,d2,d3,d4,d5⟩:=po (Kd.C_below HF.out HW5.out.b) p (by omega) y hy
   have hpf:(p:Int) < (f.length:Int):=by omega
   have hn':(n:Int) < (S.nodes.length:Int):=by omega
   rw[hn] at e5
   have hne:¬ (n:Int) < 0:=by omega
   obtain⟨d,okv,hset⟩:∃ d okv,jg y=(d,okv):=⟨_,_,rfl⟩
   have hS:=sD y
   rw[hset] at hS
   have HS100:=ak_ hS
   have hsrc:eh f S e Sr.no=if okv=true∧d=0 then ⟨3,0⟩ else ⟨4,0⟩:=by
    have h1:(jg (f.getD ((S.nodes.getD e.1.toNat ⟨0,[]⟩).at_).toNat In.zero))=(d,okv):=by
     have q1:S.nodes.getD n ⟨0,[]⟩=x:=by simp[List.getD_eq_getElem?_getD,hx]
     have q2:f.getD p In.zero=y:=by simp[List.getD_eq_getElem?_getD,hy]
     rw[hn,Int.toNat_natCast,q1,hp,Int.toNat_natCast,q2]
     exact hset
    unfold eh
    simp only[h1,if_neg hneg,Sr.loc]
   have HSrc:=ak_ hsrc
   clear hS hset hsrc hy hxa hK hcs hx hnl v0 hn
   by_cases hboth:okv=true∧d=0
   ·obtain⟨rfl,hd⟩:=hboth
    have HRes:aa (Ending.returned (.agg #[.int .i64 3,.int .i64 0])=Ending.returned (.agg (eh f S e Sr.no).cells)):=⟨by rw[HSrc.out,if_pos ⟨rfl,hd⟩];rfl⟩
    have qd:(d == 0)=true:=beq_iff_eq.mpr hd
    clear hd
    go_wp2_with (first
     | (go_at_call 100;refine(HS100.out _).mono ?_;rintro r w6 ⟨rfl,hb⟩;have HW6:=ak_ (HW5.out.below hb);have l6:=ak hb L5.out;clear hb)
     | ((with_reducible refine ao (t:=135) (p:=8) rfl ?_);refine an rfl 135 _ _ rfl (w.heap.size+1+1) #[.int .i64 3,.int .i64 0] rfl rfl 135 #[.int .i64 0,.int .i64 0] (HW6.out.o) aG rfl (by simp[Value.oneCell']) ?_;intro w8 h8 hf8;have H8:=ak_ h8;have F8:=ak_ hf8;clear h8 hf8))
    exact bodyPost_ret (v:=.agg #[.int .i64 3,.int .i64 0]) (results_cell_row rfl _ _ (w.heap.size+1+1) 135 #[.int .i64 3,.int .i64 0] (0,0) _ rfl H8.out Tryz.underlying135 rfl aG) rfl ⟨HRes.out,Fr.below HW6.out.b F8.out (fun k hk h=>by omega) (HW6.out.b).size⟩
   ·have HRes:aa (Ending.returned (.agg #[.int .i64 4,.int .i64 0])=Ending.returned (.agg (eh f S e Sr.no).cells)):=⟨by rw[HSrc.out,if_neg hboth];rfl⟩
    cases okv with
    | false=>
     clear hboth
     go_wp2_with (first
      | (go_at_call 100;refine(HS100.out _).mono ?_;rintro r w6 ⟨rfl,hb⟩;have HW6:=ak_ (HW5.out.below hb);have l6:=ak hb L5.out;clear hb)
      | ((with_reducible refine ao (t:=135) (p:=8) rfl ?_);refine an rfl 135 _ _ rfl (w.heap.size+1+1) #[.int .i64 4,.int .i64 0] rfl rfl 135 #[.int .i64 0,.int .i64 0] (HW6.out.o) aG rfl (by simp[Value.oneCell']) ?_;intro w8 h8 hf8;have H8:=ak_ h8;have F8:=ak_ hf8;clear h8 hf8))
     exact bodyPost_ret (v:=.agg #[.int .i64 4,.int .i64 0]) (results_cell_row rfl _ _ (w.heap.size+1+1) 135 #[.int .i64 4,.int .i64 0] (0,0) _ rfl H8.out Tryz.underlying135 rfl aG) rfl ⟨HRes.out,Fr.below HW6.out.b F8.out (fun k hk h=>by omega) (HW6.out.b).size⟩
     | true=>
     have qd:(d == 0)=false:=beq_eq_false_iff_ne.mpr (fun h=>hboth ⟨rfl,h⟩)
     clear hboth
     go_wp2_with (first
      | (go_at_call 100;refine(HS100.out _).mono ?_;rintro r w6 ⟨rfl,hb⟩;have HW6:=ak_ (HW5.out.below hb);have l6:=ak hb L5.out;clear hb)
      | ((with_reducible refine ao (t:=135) (p:=8) rfl ?_);refine an rfl 135 _ _ rfl (w.heap.size+1+1) #[.int .i64 4,.int .i64 0] rfl rfl 135 #[.int .i64 0,.int .i64 0] (HW6.out.o) aG rfl (by simp[Value.oneCell']) ?_;intro w8 h8 hf8;have H8:=ak_ h8;have F8:=ak_ hf8;clear h8 hf8))
     exact bodyPost_ret (v:=.agg #[.int .i64 4,.int .i64 0]) (results_cell_row rfl _ _ (w.heap.size+1+1) 135 #[.int .i64 4,.int .i64 0] (0,0) _ rfl H8.out Tryz.underlying135 rfl aG) rfl ⟨HRes.out,Fr.below HW6.out.b F8.out (fun k hk h=>by omega) (HW6.out.b).size⟩
def fB (nodes:List aH) (c0:List Bool):List Bool:=nodes.foldl (fun c x=>c.set x.at_.toNat (decide (x.outs.length=0))) c0
theorem ph (nodes:List aH) (c0:List Bool):(fB nodes c0).length=c0.length:=by
 induction nodes generalizing c0 with
 | nil=>rfl
 | cons x l ih=>
  show (fB l _).length=_
  rw[ih,List.length_set]
theorem un (nodes:List aH) (c0:List Bool) (i:Nat) (h:∀ x∈nodes,x.at_.toNat≠i):(fB nodes c0)[i]?=c0[i]?:=by
 induction nodes generalizing c0 with
 | nil=>rfl
 | cons x l ih=>
  show (fB l _)[i]?=_
  rw[ih _ (fun y hy=>h y (List.mem_cons_of_mem _ hy)),List.getElem?_set_ne (h x (List.mem_cons_self ..))]
theorem yP {nodes:List aH} {c0:List Bool} (hn:(nodes.map aH.at_).Nodup) (h0:∀ x∈nodes,0≤x.at_∧x.at_ < c0.length) {x:aH} (hx:x∈nodes):(fB nodes c0)[x.at_.toNat]?=some (decide (x.outs.length=0)):=by
 induction nodes generalizing c0 with
 | nil=>exact absurd hx (List.not_mem_nil)
 | cons y l ih=>
  show (fB l _)[x.at_.toNat]?=_
  rw[List.map_cons,List.nodup_cons] at hn
  rcases List.mem_cons.1 hx with rfl | hx
  ·have hb:=h0 x (List.mem_cons_self ..)
   rw[un,List.getElem?_set_self (by omega)]
   intro z hz he
   have hz2:=h0 z (List.mem_cons_of_mem _ hz)
   refine hn.1 (List.mem_map.2 ⟨z,hz,by omega⟩)
  ·refine ih hn.2 (fun z hz=>?_) hx
   rw[List.length_set]
   exact h0 z (List.mem_cons_of_mem _ hz)
theorem zU {cut:List Bool} {a:Int} {b:Bool} (h0:0≤a) (h:cut[a.toNat]?=some b):iT cut a=b:=by
 have hl:=(List.getElem?_eq_some_iff.1 h).1
 unfold iT
 rw[List.getD_eq_getElem?_getD,h,decide_eq_true (by omega)]
 simp
structure iJ (nodes:List aH) (n:Nat):Prop where
 fresh:∀ (i:Nat) (x:aH),n≤i→nodes[i]?=some x→x.outs=[]
theorem pI {f:List In} {nodes:List aH} {n:Nat} (h:iJ nodes n) (a:Nat):iJ (da f nodes a).2 n:=by
 refine⟨fun i x hi hx=>?_⟩
 unfold da at hx
 simp only at hx
 split at hx
 ·exact h.fresh i x hi hx
 ·split at hx
  ·exact h.fresh i x hi hx
  ·by_cases hl:i < nodes.length
   ·rw[List.getElem?_append_left hl] at hx
    exact h.fresh i x hi hx
   ·rw[List.getElem?_append_right (by omega)] at hx
    have:=List.mem_of_getElem? hx
    rw[List.mem_singleton.1 this]
theorem oF {f:List In} {n:Nat}:∀ (l:List Int) (nodes:List aH),iJ nodes n→iJ (bK f l nodes).2 n
 | [],_,h=>h
 | a :: l,nodes,h=>by
  simp only[bK]
  exact oF l _ (pI h a.toNat)
theorem oE (f:List In):∀ (l:List Int) (nodes:List aH),(bK f l nodes).1.length=l.length
 | [],_=>rfl
 | a :: l,nodes=>by simp only[bK,List.length_cons];rw[oE f l]
theorem tv {f:List In} {cut:List Bool} {n:Nat} {x:aH} {nodes:List aH} (h:iJ nodes n):iJ (stepN f cut n x nodes) (n+1):=by
 unfold stepN
 split
 ·exact⟨fun i y hi hy=>h.fresh i y (by omega) hy⟩
 ·refine⟨fun i y hi hy=>?_⟩
  rw[List.getElem?_set_ne (by omega)] at hy
  exact(oF _ nodes h).fresh i y (by omega) hy
theorem tu (f:List In) (cut:List Bool) (n:Nat) (x:aH) (nodes:List aH) (i:Nat) (hi:i≠n) (y:aH) (hy:nodes[i]?=some y):(stepN f cut n x nodes)[i]?=some y:=by
 unfold stepN
 split
 ·exact hy
 ·rw[List.getElem?_set_ne (fun e=>hi e.symm)]
  obtain⟨l,hl⟩:=eT f (ce (f.getD x.at_.toNat In.zero) x.at_) nodes
  rw[hl,List.getElem?_append_left (List.getElem?_eq_some_iff.1 hy).1]
  exact hy
theorem nj (f:List In) (cut:List Bool):∀ (fuel n:Nat) (nodes:List aH) (i:Nat) (y:aH),i < n→nodes[i]?=some y→(bP f cut fuel n nodes)[i]?=some y
 | 0,_,_,_,_,_,h=>h
 | fuel+1,n,nodes,i,y,hi,h=>by
  unfold bP
  split
  ·exact h
  ·exact nj f cut fuel (n+1) _ i y (by omega) (tu f cut n _ nodes i (by omega) y h)
theorem zp (f:List In) (cut:List Bool) (n:Nat) (x:aH) (nodes:List aH) (hx:nodes[n]?=some x):∃ o,(stepN f cut n x nodes)[n]?=some ⟨x.at_,o⟩:=by
 unfold stepN
 split
 ·exact⟨x.outs,hx⟩
 ·obtain⟨l,hl⟩:=eT f (ce (f.getD x.at_.toNat In.zero) x.at_) nodes
  refine⟨_,List.getElem?_set_self ?_⟩
  rw[hl,List.length_append]
  have:=(List.getElem?_eq_some_iff.1 hx).1
  omega
theorem tz {f:List In} {cut cut':List Bool} {n:Nat} {x:aH} {nodes:List aH} (hx:nodes[n]?=some x) (hi:iJ nodes n) (hc:∀ o,(stepN f cut n x nodes)[n]?=some ⟨x.at_,o⟩→iT cut' x.at_=decide (o.length=0)):stepN f cut' n x nodes=stepN f cut n x nodes:=by
 have hx0:x.outs=[]:=hi.fresh n x (Nat.le_refl _) hx
 obtain⟨o,ho⟩:=zp f cut n x nodes hx
 have hc1:=hc o ho
 by_cases h1:iT cut x.at_=true
 ·have e1:stepN f cut n x nodes=nodes:=by unfold stepN;rw[if_pos h1]
  rw[e1,hx] at ho
  have ho2:x.outs=o:=by have:=Option.some.inj ho;rw[this]
  rw[←ho2,hx0] at hc1
  rw[e1]
  unfold stepN
  rw[if_pos (by rw[hc1];rfl)]
 ·have e1:stepN f cut n x nodes=(bK f (ce (f.getD x.at_.toNat In.zero) x.at_) nodes).2.set n ⟨x.at_,(bK f (ce (f.getD x.at_.toNat In.zero) x.at_) nodes).1⟩:=by unfold stepN;rw[if_neg h1]
  by_cases h2:iT cut' x.at_=true
  ·rw[h2] at hc1
   have hol:o.length=0:=of_decide_eq_true hc1.symm
   obtain⟨l,hl⟩:=eT f (ce (f.getD x.at_.toNat In.zero) x.at_) nodes
   have hnl:=(List.getElem?_eq_some_iff.1 hx).1
   rw[e1,List.getElem?_set_self (by rw[hl,List.length_append];omega)] at ho
   have ho2:(bK f (ce (f.getD x.at_.toNat In.zero) x.at_) nodes).1=o:=by have:=Option.some.inj ho;injection this
   have hnil:ce (f.getD x.at_.toNat In.zero) x.at_=[]:=by
    have:=oE f (ce (f.getD x.at_.toNat In.zero) x.at_) nodes
    rw[ho2,hol] at this
    exact List.length_eq_zero_iff.1 this.symm
   rw[e1,hnil]
   unfold stepN
   rw[if_pos h2]
   simp only[bK]
   apply List.ext_getElem?
   intro i
   by_cases e:n=i
   ·subst e
    rw[List.getElem?_set_self hnl,hx]
    obtain⟨xa,xo⟩:=x
    simp only at hx0
    rw[hx0]
   ·rw[List.getElem?_set_ne e]
  ·rw[e1]
   unfold stepN
   rw[if_neg h2]
theorem pm {f:List In} {cut cut':List Bool}:∀ (fuel n:Nat) (nodes:List aH),iJ nodes n→(∀ x∈bP f cut fuel n nodes,iT cut' x.at_=decide (x.outs.length=0))→bP f cut' fuel n nodes=bP f cut fuel n nodes
 | 0,_,_,_,_=>rfl
 | fuel+1,n,nodes,hi,h=>by
  unfold bP at h ⊢
  cases hx:nodes[n]? with
  | none=>rfl
  | some x=>
   rw[hx] at h
   simp only at h ⊢
   have hs:stepN f cut' n x nodes=stepN f cut n x nodes:=tz hx hi (fun o ho=>h ⟨x.at_,o⟩ (List.mem_of_getElem? (nj f cut fuel (n+1) _ n _ (by omega) ho)))
   rw[hs]
   exact pm fuel (n+1) _ (tv hi) h
theorem NOk.stepN {f:List In} (hr:dy f) {cut:List Bool} {n:Nat} {x:aH} {nodes:List aH} (h:NOk f nodes) (hx:nodes[n]?=some x):NOk f (stepN f cut n x nodes):=by
 have hxm:=List.mem_of_getElem? hx
 have ha:=h.at_ x hxm
 have hst:=h.stops x hxm
 unfold Top.stepN
 split
 ·exact h
 ·obtain⟨p,hp⟩:∃ p:Nat,x.at_=p:=⟨x.at_.toNat,by omega⟩
  rw[hp,Int.toNat_natCast] at hst ⊢
  obtain⟨y,hy⟩:∃ y,f[p]?=some y:=⟨_,List.getElem?_eq_getElem (by omega)⟩
  have q2:f.getD p In.zero=y:=by simp[List.getD_eq_getElem?_getD,hy]
  rw[q2] at hst ⊢
  obtain⟨l,hl⟩:=eT f (ce y (p:Int)) nodes
  refine(NOk.outs hr _ nodes h (fun a haa=>?_)).put ?_
  ·rcases oK hr hy a haa with q | q
   ·rw[hst] at q;exact absurd q (by decide)
   ·exact q
  ·rw[hl,List.getElem?_append_left (List.getElem?_eq_some_iff.1 hx).1,hx]
   simp[hp]
theorem NOk.build {f:List In} (hr:dy f) {cut:List Bool}:∀ (fuel n:Nat) (nodes:List aH),NOk f nodes→NOk f (bP f cut fuel n nodes)
 | 0,_,_,h=>h
 | fuel+1,n,nodes,h=>by
  unfold bP
  cases hx:nodes[n]? with
  | none=>exact h
  | some x=>exact NOk.build hr fuel (n+1) _ (h.stepN hr hx)
theorem iz {f:List In} (hr:dy f) (cut:List Bool):NOk f (a9 f cut).nodes:=NOk.build hr 201 0 _ (NOk.way hr ⟨by simp,by simp,by simp⟩ hr.pos)
theorem tA {f:List In} (hr:dy f) (cut:List Bool):a9 f (fB (a9 f cut).nodes (List.replicate f.length false))=a9 f cut:=by
 have hok:=iz hr cut
 unfold a9 at hok ⊢
 simp only at hok ⊢
 congr 1
 refine pm 201 0 _ (pI ⟨fun i x _ hx=>by simp at hx⟩ 0) (fun x hx=>?_)
 exact zU (hok.at_ x hx).1 (yP hok.nodup (fun y hy=>by rw[List.length_replicate];exact hok.at_ y hy) hx)
theorem o_ (d:Nat) (t:TypeId) (ht:Tryz.prog.underlying t=some (.int .i64)) (l m:Int) (w:World):(Op.equalIn (d+1) t (.int .i64 l) (.int .i64 m)).run Tryz.prog w=.ok (l == m) w:=by
 simp[Op.equalIn,Sem.run_bind,run_underlying ht]
theorem Ak (d:Nat) (l m:Int) (w:World):(Op.equalIn (d+2) 199 (.agg #[.int .i64 l]) (.agg #[.int .i64 m])).run Tryz.prog w=.ok (l == m) w:=
 jx Tryz.underlying199 (by kernel_rfl) (fA (by rfl) (a:=.int .i64 l) (b:=.int .i64 m) (by kernel_rfl) (by kernel_rfl) (o_ d 3 Tryz.underlying3 l m w))
theorem Cb (d:Nat) (l m:Int) (w:World):(Op.equalIn (d+2) 202 (.agg #[.int .i64 l]) (.agg #[.int .i64 m])).run Tryz.prog w=.ok (l == m) w:=
 jx Tryz.underlying202 (by kernel_rfl) (fA (by rfl) (a:=.int .i64 l) (b:=.int .i64 m) (by kernel_rfl) (by kernel_rfl) (o_ d 2 Tryz.underlying2 l m w))
theorem pc (d:Nat) (t:TypeId) (ti:TypeInfo) (hi:Tryz.prog.info? t=some ti) (hc:ti.comparable=true) (x y:Value) (r:Bool) (w:World) (h:(Op.equalIn d t x y).run Tryz.prog w=.ok r w):(Op.equalIn (d+1) 97 (.iface t x) (.iface t y)).run Tryz.prog w=.ok r w:=by
 simp[Op.equalIn,Sem.run_bind,run_underlying Tryz.underlying97,run_typeInfo w hi,hc,h]
theorem lR (t:TypeId) (h:((Tryz.prog.info? t).map (·.comparable))=some true):∃ ti,Tryz.prog.info? t=some ti∧ti.comparable=true:=by
 cases hi:Tryz.prog.info? t with
 | none=>rw[hi] at h;cases h
 | some ti=>rw[hi] at h;exact⟨ti,rfl,Option.some.inj h⟩
theorem o9 (d:Nat) (t t':TypeId) (ht:t≠t') (x y:Value) (w:World):(Op.equalIn (d+1) 97 (.iface t x) (.iface t' y)).run Tryz.prog w=.ok false w:=by
 simp[Op.equalIn,Sem.run_bind,run_underlying Tryz.underlying97,ht]
theorem qp (d:Nat) (t:TypeId) (x:Value) (w:World):(Op.equalIn (d+1) 97 (.iface t x) .nilIface).run Tryz.prog w=.ok false w:=by
 simp[Op.equalIn,Sem.run_bind,run_underlying Tryz.underlying97]
theorem ma (d:Nat) (t:TypeId) (x:Value) (w:World):(Op.equalIn (d+1) 97 .nilIface (.iface t x)).run Tryz.prog w=.ok false w:=by
 simp[Op.equalIn,Sem.run_bind,run_underlying Tryz.underlying97]
theorem yH (d:Nat) (w:World):(Op.equalIn (d+1) 97 .nilIface .nilIface).run Tryz.prog w=.ok true w:=by
 simp[Op.equalIn,Sem.run_bind,run_underlying Tryz.underlying97]
theorem B_ (d:Nat) (s u:Sr) (w:World):(Op.equalIn (d+3) 97 s.v u.v).run Tryz.prog w=.ok (decide (s=u)) w:=by
 have c47:=lR 199 (by kernel_rfl)
 have c49:=lR 202 (by kernel_rfl)
 obtain⟨i47,h47,k47⟩:=c47
 obtain⟨i49,h49,k49⟩:=c49
 cases s with
 | was l=>
  cases u with
  | was m=>
   refine(pc (d+2) 199 i47 h47 k47 _ _ _ w (Ak d l m w)).trans ?_
   by_cases h:l=m <;> simp[h]
  | is m=>exact o9 (d+2) 199 202 (by decide) _ _ w
  | no=>exact qp (d+2) 199 _ w
 | is l=>
  cases u with
  | is m=>
   refine(pc (d+2) 202 i49 h49 k49 _ _ _ w (Cb d l m w)).trans ?_
   by_cases h:l=m <;> simp[h]
  | was m=>exact o9 (d+2) 202 199 (by decide) _ _ w
  | no=>exact qp (d+2) 202 _ w
 | no=>
  cases u with
  | was m=>exact ma (d+2) 199 _ w
  | is m=>exact ma (d+2) 202 _ w
  | no=>exact yH (d+2) w
theorem nB (T:List Sr) (i:Nat) (h:i < T.length) (w:World):(part 97 (av T) i).run Tryz.prog w=.ok (T[i]).v w:=by
 simp[part,isAgg,run_underlying Tryz.underlying97,kU T i h]
theorem o8 (d:Nat) (A B:List Sr) (hA:A.length=24) (hB:B.length=24) (w:World):∀ is:List Nat,(∀ i∈is,i < 24)→
  (Op.eqItems (d+3) 97 1 (av A) (av B) is).run Tryz.prog w=.ok (is.all fun i=>decide (A[i]?=B[i]?)) w
 | [],_=>by simp[Op.eqItems]
 | i :: is,h=>by
  have hi:i < 24:=h i (List.mem_cons_self ..)
  have ih:=o8 d A B hA hB w is fun j hj=>h j (List.mem_cons_of_mem _ hj)
  simp only[Op.eqItems,Sem.run_bind,Nat.mul_one,nB A i (by omega),nB B i (by omega),Result.andThen_ok,B_,ih]
  have hg:decide (A[i]'(by omega)=B[i]'(by omega))=decide (A[i]?=B[i]?):=by simp[hA,hB,hi]
  rw[hg]
  cases hd:decide (A[i]?=B[i]?) <;> simp[List.all_cons,hd]
  all_goals first | done | (simp at hd;simp[hd,ih])
theorem yX {A B:List Sr} (hA:A.length=24) (hB:B.length=24):((List.range 24).all fun i=>decide (A[i]?=B[i]?))=decide (A=B):=by
 rw[Bool.eq_iff_iff]
 simp only[List.all_eq_true,List.mem_range,decide_eq_true_eq]
 constructor
 ·intro h
  apply List.ext_getElem?
  intro i
  by_cases hi:i < 24
  ·exact h i hi
  ·rw[List.getElem?_eq_none (by omega),List.getElem?_eq_none (by omega)]
 ·rintro rfl i _
  rfl
theorem Al (d:Nat) (A B:List Sr) (hA:A.length=24) (hB:B.length=24) (w:World):(Op.equalIn (d+4) 99 (.agg (av A)) (.agg (av B))).run Tryz.prog w=.ok (decide (A=B)) w:=by
 have c55:=lR 97 (by kernel_rfl)
 obtain⟨i55,h55,_⟩:=c55
 rw[run_equalIn_array w (d+3) (av A) (av B) Tryz.underlying99 h55]
 have hc:Tryz.prog.cellsOf 97=1:=by kernel_rfl
 rw[hc,o8 d A B hA hB w (List.range 24) (fun i hi=>List.mem_range.1 hi),yX hA hB]
def uD (A:List Sr):Prop:=∀ i:Nat,i < 24→A[i]?≠some .no
theorem z_ (d:Nat) (s u:Sr) (h:s≠.no) (w:World):(Op.eqGuardIn (d+1) 97 s.v u.v).run Tryz.prog w=.ok false w:=by
 cases s with
 | no=>exact absurd rfl h
 | was l=>cases u <;> simp[Sr.v,Op.eqGuardIn,Sem.run_bind,run_underlying Tryz.underlying97]
 | is l=>cases u <;> simp[Sr.v,Op.eqGuardIn,Sem.run_bind,run_underlying Tryz.underlying97]
theorem yw (d:Nat) (A B:List Sr) (hA:A.length=24) (hB:B.length=24) (hn:uD A) (w:World):(Op.eqGuardIn (d+2) 99 (.agg (av A)) (.agg (av B))).run Tryz.prog w=.ok false w:=by
 have c55:=lR 97 (by kernel_rfl)
 obtain⟨i55,h55,_⟩:=c55
 have hc:Tryz.prog.cellsOf 97=1:=by kernel_rfl
 rw[Op.eqGuardIn]
 simp only[Sem.run_bind,run_underlying Tryz.underlying99,Result.andThen_ok,run_sizeOf w h55,hc,Nat.mul_one]
 simp only[Std.Legacy.Range.forIn_eq_forIn_range',Std.Legacy.Range.size,Nat.sub_zero,Nat.add_one_sub_one,Nat.div_one]
 have hl:∀ i∈List.range' 0 24,i < 24:=by simp
 generalize List.range' 0 24=is at hl
 induction is with
 | nil=>simp
 | cons j is ih=>
  have hj:=hl j (List.mem_cons_self ..)
  have h1:A[j]'(by omega)≠.no:=fun e=>hn j hj (by rw[List.getElem?_eq_getElem (by omega),e])
  simp only[List.forIn_cons,Sem.run_bind,nB A j (by omega),nB B j (by omega),Result.andThen_ok,z_ d _ _ h1,Bool.false_eq_true,if_false,Sem.run_pure]
  exact ih fun i hi=>hl i (List.mem_cons_of_mem _ hi)
theorem uD.of_ok {T:List Sr} (h:∀ s∈T,s.ok=true):uD T:=fun i _ he=>by
 have:=h _ (List.mem_of_getElem? he)
 exact absurd this (by decide)
theorem mB (o:aU) (w:World):(part 3 o.cells.toArray 0).run Tryz.prog w=.ok (.int .i64 o.jt) w:=by
 have ha:(isAgg 3).run Tryz.prog w=.ok false w:=by kernel_rfl
 simp only[part,Sem.run_bind,ha,Result.andThen_ok]
 rfl
theorem mA (o:aU) (h:o.t.length=24) (w:World):(part 99 o.cells.toArray 1).run Tryz.prog w=.ok (.agg (av o.t)) w:=by
 have ha:(isAgg 99).run Tryz.prog w=.ok true w:=by kernel_rfl
 have hs:(sizeOf 99).run Tryz.prog w=.ok 24 w:=by kernel_rfl
 have hx:o.cells.toArray.extract 1 (1+24)=av o.t:=by
  apply Array.toList_inj.1
  rw[Array.toList_extract]
  show (o.cells.drop 1).take 24=o.t.map Sr.v
  unfold aU.cells
  rw[List.drop_one,List.tail_cons,rJ h,List.take_of_length_le (by simp[h])]
 simp only[part,Sem.run_bind,ha,hs,Result.andThen_ok,Sem.run_pure,hx,if_true]
theorem Am (d:Nat) (o:aU) (h:o.t.length=24) (w:World):(Op.equalIn (d+5) 116 (.agg o.cells.toArray) (.agg o.cells.toArray)).run Tryz.prog w=.ok true w:=by
 refine jx Tryz.underlying116 (by kernel_rfl) ?_
 refine B8 (by rfl) (mB o w) (mB o w) (by have:=o_ (d+3) 3 Tryz.underlying3 o.jt o.jt w;rw[beq_self_eq_true] at this;exact this) ?_
 refine fA (by rfl) (mA o h w) (mA o h w) (by have:=Al d o.t o.t h h w;rw[decide_eq_true rfl] at this;exact this)
theorem yx (d:Nat) (o:aU) (h:o.t.length=24) (hn:uD o.t) (w:World):(Op.eqGuardIn (d+3) 116 (.agg o.cells.toArray) (.agg o.cells.toArray)).run Tryz.prog w=.ok false w:=by
 have h0:∀ (x y:Value) (w:World),(Op.eqGuardIn (d+2) 3 x y).run Tryz.prog w=.ok false w:=fun x y w=>by
  simp[Op.eqGuardIn,Sem.run_bind,run_underlying Tryz.underlying3]
 have h1:=yw d o.t o.t h h hn
 rw[Op.eqGuardIn]
 simp[Sem.run_bind,run_underlying Tryz.underlying116,mB,mA o h,h0,h1,Result.andThen]
theorem uT {aF:Act} {p:Oper} {x y:Operand} {t:TypeId} {o:aU} (hp:p.op=.binOp .neq 116 x y t) (hx:aF.eval x=.agg o.cells.toArray) (hy:aF.eval y=.agg o.cells.toArray) (h:o.t.length=24) (hn:uD o.t) (w:World):(execOp aF.eval p).run Tryz.prog w=.ok (.value (.bool false)) w:=by
 have h2:(Op.equal 116 (.agg o.cells.toArray) (.agg o.cells.toArray)).run Tryz.prog w=.ok true w:=Am 9995 o h w
 have hg:(Op.eqGuardIn Op.maxDepth 116 (.agg o.cells.toArray) (.agg o.cells.toArray)).run Tryz.prog w=.ok false w:=yx 9997 o h hn w
 have h1:(eqGuard .neq 116 x y (.agg o.cells.toArray) (.agg o.cells.toArray)).run Tryz.prog w=.ok () w:=by
  simp[eqGuard,run_program,hg]
 unfold execOp
 simp only[hp,hx,hy,Sem.run_bind,h1,binOp,h2,Result.andThen_ok,Sem.run_pure,Bool.not_true]
structure TOk (T:List Sr):Prop where
 len:T.length=24
 ok:∀ s∈T,s.ok=true
theorem TOk.first:TOk first:=⟨rfl,by decide⟩
theorem Aa {T:List Sr} (h:T.length=24):TOk (iV T):=by
 unfold iV
 split
 ·rename_i hg
  exact⟨h,List.all_eq_true.1 hg⟩
 ·exact TOk.first
theorem qI {T:List Sr} (h:TOk T) {i:Int} (hi:inR i=true):(iu T i).ok=true:=by
 have hi':0≤i∧i≤23:=of_decide_eq_true hi
 unfold iu
 rw[List.getD_eq_getElem?_getD,List.getElem?_eq_getElem (by rw[h.len];omega)]
 exact h.ok _ (List.getElem_mem _)
theorem TOk.set {T:List Sr} (h:TOk T) (i:Nat) {s:Sr} (hs:s.ok=true):TOk (T.set i s):=by
 refine⟨by rw[List.length_set];exact h.len,fun u hu=>?_⟩
 rcases List.mem_or_eq_of_mem_set hu with hu | rfl
 ·exact h.ok u hu
 ·exact hs
theorem yY {T:List Sr} (h:T.length=24) (x:In):TOk (fD T x):=by
 have hg:=Aa h
 unfold fD
 split
 ·rename_i hc
  unfold lK
  split
  ·exact hg.set _ rfl
  ·split
   ·exact hg.set _ (qI hg hc.2.2)
   ·split
    ·exact(hg.set _ (qI hg hc.2.2)).set _ (qI hg hc.2.1)
    ·exact hg
 ·exact hg
theorem qj {f:List In}:∀ (n:Nat) (s:PSt),TOk s.t→TOk (il n f s).t
 | 0,_,h=>h
 | n+1,s,h=>by
  unfold il
  cases hf:fol f s with
  | none=>exact h
  | some s'=>
   obtain⟨x,_,_,_,rfl⟩:=nD hf
   exact qj n _ (yY h.len x)
theorem qR (f:List In) (a:Nat):TOk (b_ f a).t:=by
 unfold b_
 simp only
 split
 ·exact TOk.first
 ·exact qj 201 _ TOk.first
structure OOk (n:Nat) (o:aU):Prop where
 t:TOk o.t
 jt:o.jt=-1∨(0≤o.jt∧o.jt < n)
theorem OOk.mono {n m:Nat} {o:aU} (h:OOk n o) (hm:n≤m):OOk m o:=⟨h.t,by rcases h.jt with q | q;exact .inl q;exact .inr (by omega)⟩
theorem zg (f:List In) (nodes:List aH) (a:Nat):OOk (da f nodes a).2.length (da f nodes a).1:=by
 have ht:=qR f a
 unfold da
 simp only
 split
 ·exact⟨ht,.inl rfl⟩
 ·split
  ·rename_i n hn
   unfold jj at hn
   rw[List.findIdx?_eq_some_iff_getElem] at hn
   obtain⟨hl,_⟩:=hn
   exact⟨ht,.inr ⟨by simp only;omega,by simp only;omega⟩⟩
  ·exact⟨ht,.inr ⟨by simp only;omega,by simp only[List.length_append,List.length_singleton];omega⟩⟩
theorem uQ (f:List In):∀ (l:List Int) (nodes:List aH),∀ o∈(bK f l nodes).1,OOk (bK f l nodes).2.length o
 | [],_,o,ho=>by simp[bK] at ho
 | a :: l,nodes,o,ho=>by
  simp only[bK,List.mem_cons] at ho ⊢
  rcases ho with rfl | ho
  ·refine(zg f nodes a.toNat).mono ?_
   obtain⟨k,hk⟩:=eT f l (da f nodes a.toNat).2
   rw[hk,List.length_append]
   omega
  ·exact uQ f l _ o ho
structure gy (nodes:List aH):Prop where
 few:∀ x∈nodes,x.outs.length≤2
 ok:∀ x∈nodes,∀ o∈x.outs,OOk nodes.length o
theorem ym (x:In) (a:Int):(ce x a).length≤2:=by
 unfold ce
 split
 ·simp
 ·split <;> simp
theorem gy.grow {nodes l:List aH} (h:gy nodes) (hl:∀ x∈l,x.outs=[]):gy (nodes++l):=by
 refine⟨fun x hx=>?_,fun x hx o ho=>?_⟩
 ·rcases List.mem_append.1 hx with hx | hx
  ·exact h.few x hx
  ·rw[hl x hx];simp
 ·rcases List.mem_append.1 hx with hx | hx
  ·exact(h.ok x hx o ho).mono (by simp)
  ·rw[hl x hx] at ho;simp at ho
theorem gy.way {nodes:List aH} (h:gy nodes) (f:List In) (a:Nat):gy (da f nodes a).2:=by
 unfold da
 simp only
 split
 ·exact h
 ·split
  ·exact h
  ·exact h.grow (fun x hx=>by rw[List.mem_singleton.1 hx])
theorem gy.outs {f:List In}:∀ (l:List Int) (nodes:List aH),gy nodes→gy (bK f l nodes).2
 | [],_,h=>h
 | a :: l,nodes,h=>by simp only[bK];exact gy.outs l _ (h.way f a.toNat)
theorem gy.step {f:List In} {cut:List Bool} {n:Nat} {x:aH} {nodes:List aH} (h:gy nodes):gy (stepN f cut n x nodes):=by
 unfold Top.stepN
 split
 ·exact h
 ·have h2:=gy.outs (f:=f) (ce (f.getD x.at_.toNat In.zero) x.at_) nodes h
  refine⟨fun y hy=>?_,fun y hy o ho=>?_⟩
  ·rcases List.mem_or_eq_of_mem_set hy with hy | rfl
   ·exact h2.few y hy
   ·simp only;rw[oE];exact ym _ _
  ·rw[List.length_set]
   rcases List.mem_or_eq_of_mem_set hy with hy | rfl
   ·exact h2.ok y hy o ho
   ·exact uQ f _ nodes o ho
theorem gy.build {f:List In} {cut:List Bool}:∀ (fuel n:Nat) (nodes:List aH),gy nodes→gy (bP f cut fuel n nodes)∧nodes.length≤(bP f cut fuel n nodes).length
 | 0,_,_,h=>⟨h,Nat.le_refl _⟩
 | fuel+1,n,nodes,h=>by
  unfold bP
  cases hx:nodes[n]? with
  | none=>exact⟨h,Nat.le_refl _⟩
  | some x=>
   have h2:=gy.build (f:=f) (cut:=cut) fuel (n+1) _ (h.step (f:=f) (cut:=cut) (n:=n) (x:=x))
   refine⟨h2.1,Nat.le_trans ?_ h2.2⟩
   unfold Top.stepN
   split
   ·exact Nat.le_refl _
   ·obtain⟨l,hl⟩:=eT f (ce (f.getD x.at_.toNat In.zero) x.at_) nodes
    rw[List.length_set,hl,List.length_append]
    omega
theorem fp (f:List In) (cut:List Bool):gy (a9 f cut).nodes∧OOk (a9 f cut).nodes.length (a9 f cut).entry:=by
 have h0:gy (da f [] 0).2:=gy.way ⟨by simp,by simp⟩ f 0
 have h:=gy.build (f:=f) (cut:=cut) 201 0 _ h0
 exact⟨h.1,(zg f [] 0).mono h.2⟩
end Go.Proofs.YtlinbehijfcelaaGreatDoor.Top
