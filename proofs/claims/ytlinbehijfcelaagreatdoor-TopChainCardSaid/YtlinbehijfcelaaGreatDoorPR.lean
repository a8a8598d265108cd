/- Walks of the program, and what it computes, told plainly. No condition. (XE RA RB RC RD RE RF RG XF LA) -/
import Derived.Test.YtlinbehijfcelaaGreatDoorPQ
import Derived.Test.YtlinbehijfcelaaGreatDoorRows
import Derived.ProofKit
import Derived.LaidMore
import Derived.OpenShut
import Derived.Stop.Joined
import Derived.Deep.Slices
import Derived.SizedLaws
set_option linter.unusedVariables false
set_option linter.unusedSimpArgs false
set_option linter.unusedSectionVars false
set_option maxHeartbeats 8000000
set_option maxRecDepth 100000
namespace Go.Proofs.YtlinbehijfcelaaGreatDoor.Top
open Go.RowKit Go.Proofs.YtlinbehijfcelaaGreatDoorW.PrintWords Go.Proofs.YtlinbehijfcelaaGreatDoorW.PrintLast
def tx1:ByteArray:=⟨#[109,111,118,32,115,48,32,114,48,10,114,101,116,32,114,48,10]⟩
def tx2:ByteArray:=⟨#[114,101,116,32,114,48,10]⟩
def tx3:ByteArray:=⟨#[114,101,116,32,114,49,10]⟩
theorem mY:(Asc tx1∧tx1.size≤20000)∧(Asc tx2∧tx2.size≤20000)∧(Asc tx3∧tx3.size≤20000):=by
 have h:∀ s:ByteArray,(List.range s.size).all (fun i=>decide (bt s (i:Int) < 128))=true→Asc s:=fun s h i hi=>of_decide_eq_true (List.all_eq_true.1 h i (List.mem_range.2 hi))
 exact⟨⟨h _ (by decide +kernel),by decide +kernel⟩,⟨h _ (by decide +kernel),by decide +kernel⟩,⟨h _ (by decide +kernel),by decide +kernel⟩⟩
theorem v12:fN tx1 tx2=0:=by decide +kernel
theorem n12:(bD (ay tx1).1).nodes.length=1:=by decide +kernel
theorem v23:fN tx2 tx3=1:=by decide +kernel
theorem f23:sG (ay tx2).1 (ay tx3).1=1:=by decide +kernel
theorem z9 {row:List Value} {v:Value} (h:row.head?=some v):row[0]?=some v:=by rw[←List.head?_eq_getElem?];exact h
theorem vD (w:World) (hG:Gl w):Calls Tryz.prog 6 #[] w fun e w'=>e=.returned (.bool true)∧Below w.heap.size w w':=by
 have HD1:=ak_ (show Calls Tryz.prog 8 #[.string ⟨#[109,111,118,32,115,48,32,114,48,10,114,101,116,32,114,48,10]⟩,.string ⟨#[114,101,116,32,114,48,10]⟩,.agg #[.int .i64 0,.int .i64 0]] w (Bf w tx1 tx2) from iN tx1 tx2 mY.1.1 mY.2.1.1 mY.1.2 mY.2.1.2 w hG)
 have HD2:=ak_ (fun W (hG:Gl W)=>(show Calls Tryz.prog 8 #[.string ⟨#[114,101,116,32,114,48,10]⟩,.string ⟨#[114,101,116,32,114,49,10]⟩,.agg #[.int .i64 0,.int .i64 0]] W (Bf W tx2 tx3) from iN tx2 tx3 mY.2.1.1 mY.2.2.1 mY.2.1.2 mY.2.2.2 W hG))
 have HG:=ak_ hG
 clear hG
 go_enter Tryz.func6,Tryz.ntmps6
 go_upto_region 2 with (first
  | (go_at_call 8;refine HD1.out.mono ?_;rintro e w1 ⟨row,rfl,hq,hb⟩;have HQ1:=ak_ hq;have HB1:=ak_ hb;clear hq hb HD1)
  | ((with_reducible refine ao (t:=39) (p:=1) rfl ?_);refine an rfl 39 _ _ rfl w1.heap.size row.toArray rfl rfl 39 (jL 0 0 0 0).toArray (heap_alloc_last w1 _) (mP.trans (by rw[List.size_toArray,HQ1.out.len])) (by rw[List.size_toArray,List.size_toArray,HQ1.out.len];rfl) (by rw[Array.all_eq_true_iff_forall_mem];intro v hv;exact HQ1.out.one v (by simpa using hv)) ?_;intro w2 h2 hf2;have H2:=ak_ h2;have HF2:=ak_ (af HB1.out (bV hf2));clear h2 hf2))
 obtain⟨g1,hg1⟩:=mn_ w1.heap.size
 rw[hg1]
 have H2b:=ak_ (show w2.heap[g1]?=some (.cells row.toArray 39 (0,0)) by rw[←hg1];exact H2.out)
 have HD3:=ak_ (HD2.out w2 (HG.out.below HF2.out))
 clear hg1 H2 HD2
 go_upto_region 3 with (first
  | (go_at_call 8;refine HD3.out.mono ?_;rintro e w3 ⟨row2,rfl,hq,hb⟩;have HQ2:=ak_ hq;have HB3:=ak_ hb;clear hq hb HD3)
  | ((with_reducible refine ao (t:=39) (p:=2) rfl ?_);refine an rfl 39 _ _ rfl w3.heap.size row2.toArray rfl rfl 39 (jL 0 0 0 0).toArray (heap_alloc_last w3 _) (mP.trans (by rw[List.size_toArray,HQ2.out.len])) (by rw[List.size_toArray,List.size_toArray,HQ2.out.len];rfl) (by rw[Array.all_eq_true_iff_forall_mem];intro v hv;exact HQ2.out.one v (by simpa using hv)) ?_;intro w4 h4 hf4;have H4:=ak_ h4;have HF4:=ak_ (af HB3.out (bV hf4));clear h4 hf4))
 obtain⟨g2,hg2⟩:=mn_ w3.heap.size
 rw[hg2]
 have h4:=(show w4.heap[g2]?=some (.cells row2.toArray 39 (0,0)) by rw[←hg2];exact H4.out)
 have h2:=ag H2b.out HF4.out
 have a0:=(show w4.cell? ⟨g1,0,none⟩=some (.int .i64 0) by rw[ap h2,z9 HQ1.out.v,v12])
 obtain⟨v5,e5,A5,c5,rfl⟩:=HQ1.out.eq v12
 rw[n12] at e5
 have a5:=(show w4.cell? ⟨g1,5,none⟩=some (.slice A5 1 c5) by rw[ap h2,e5])
 have b0:=(show w4.cell? ⟨g2,0,none⟩=some (.int .i64 1) by rw[ap h4,z9 HQ2.out.v,v23])
 have b32:=(show w4.cell? ⟨g2,32,none⟩=some (.int .i64 1) by rw[ap h4,HQ2.out.di v23,f23])
 have HBe:=ak_ (af HF2.out HF4.out)
 clear h4 h2 hg2 e5 H4 H2b
 go_wp2
 go_ret
 exact⟨rfl,HBe.out⟩
def lastB (n:Int):ByteArray:=strOfNums [(wrap64 (48 - (Int.tmod n 10))) % 256]
def kC:Nat→Int→ByteArray
 | 0,n=>lastB n
 | k+1,n=>if n > -10 then lastB n else kC k (wrap64 (Int.tdiv n 10))++lastB n
theorem jm (n:Int):(lastB n).size=1:=strOfNums_size _
theorem i9:∀ (k:Nat) (n:Int),(kC k n).size≤k+1
 | 0,n=>by rw[kC,jm];exact Nat.le_refl _
 | k+1,n=>by
  rw[kC]
  split
  ·rw[jm];omega
  ·rw[ByteArray.size_append,jm]
   have:=i9 k (wrap64 (Int.tdiv n 10))
   omega
theorem vJ {n p:Int} (h1:n≤-10) (h2:-9223372036854775808≤n) (hp:-(p * 10) < n):wrap64 (Int.tdiv n 10)=Int.tdiv n 10∧-p < Int.tdiv n 10∧-9223372036854775808≤Int.tdiv n 10∧Int.tdiv n 10≤9223372036854775807:=by
 obtain⟨m,rfl⟩:∃ m,n=-m:=⟨-n,by omega⟩
 have e:Int.tdiv (-m) 10=-(m / 10):=by rw[Int.neg_tdiv,Int.tdiv_eq_ediv_of_nonneg (by omega)]
 rw[e]
 unfold wrap64
 omega
theorem Cd {k:Nat} {n:Int} (h:n > -10):kC k n=lastB n:=by
 cases k with
 | zero=>rfl
 | succ k=>rw[kC,if_pos h]
theorem qq (k:Nat) (n:Int) (w:World) (c:n > -10):Calls Tryz.prog 74 #[.int .i64 n] w fun e w'=>e=.returned (.string (kC k n))∧Below w.heap.size w w':=by
 rw[Cd c]
 have HB:=ak_ (Below.refl w.heap.size w)
 obtain⟨y,hy⟩:∃ y:List Int,y=[(wrap64 (48 - (Int.tmod n 10))) % 256]:=⟨_,rfl⟩
 have hl:lastB n=strOfNums y:=by rw[hy];rfl
 have Ny:=ak_ hy
 rw[hl]
 have cb:decide ((-10) < n)=true:=decide_eq_true c
 clear hy c hl
 go_enter Tryz.func74,Tryz.ntmps74
 go_wp2_with (first | ((with_reducible refine aj (N:=8) rfl ?_);refine Kd.R_lit (Kd.int .u8) _ 5 ?hg (N:=8) ?hd (xs:=([(wrap64 (48 - (Int.tmod n 10))) % 256]:List Int)) (inner:=[.int .u8 ((wrap64 (48 - (Int.tmod n 10))) % 256)]) (ok:=fun _=>True) (okp:=fun _=>True) ?hr ?hp (fun _ hk=>hk) trivial (Below.refl _ _) (Nat.le_refl _) (by simp) ?_;(case hd=>rfl);(case hg=>rfl);(case hr=>(first | (go_simp;done) | (go_simp;rfl)));(case hp=>exact(bS.one (show Kd.M (Kd.int .u8) _ _ _ ((wrap64 (48 - (Int.tmod n 10))) % 256) [.int .u8 ((wrap64 (48 - (Int.tmod n 10))) % 256)] from rfl) (bS.none _ _)));intro v102 w3 ho4 hb hg_ hnew_;clear hg_ hnew_;rw[←Ny.out] at ho4;have HB3:=ak_ (af HB.out hb);have HO:=ak_ ho4;clear hb ho4;have hcv5:=oB (P:=Tryz.prog) Tryz.underlying203 Tryz.underlying5 Tryz.underlying9 (Kd.own_of_R HO.out)))
 go_ret
 exact⟨rfl,HB3.out⟩
theorem ub:∀ (k:Nat) (n:Int) (w:World),k≤25→-(10:Int) ^ (k+1) < n→-9223372036854775808≤n→n≤9223372036854775807→
  Calls Tryz.prog 74 #[.int .i64 n] w fun e w'=>e=.returned (.string (kC k n))∧Below w.heap.size w w':=by
 intro k
 induction k with
 | zero=>exact fun n w _ h _ _=>qq 0 n w (by have h2:-(10:Int) < n:=h;omega)
 | succ k ih=>
  intro n w hk hp h1 h2
  by_cases c:n > -10
  ·exact qq _ n w c
  ·have HB:=ak_ (Below.refl w.heap.size w)
   obtain⟨y,hy⟩:∃ y:List Int,y=[(wrap64 (48 - (Int.tmod n 10))) % 256]:=⟨_,rfl⟩
   have hl:lastB n=strOfNums y:=by rw[hy];rfl
   have Ny:=ak_ hy
   rw[kC,hl]
   clear hy
   rw[if_neg c]
   have cb:decide ((-10) < n)=false:=decide_eq_false c
   obtain⟨e1,e2,e3,e4⟩:=vJ (n:=n) (p:=(10:Int) ^ (k+1)) (by omega) h1 (by rw[←Int.pow_succ];exact hp)
   have HI:=ak_ (fun W=>ih (wrap64 (Int.tdiv n 10)) W (by omega) (by rw[e1];exact e2) (by rw[e1];exact e3) (by rw[e1];exact e4))
   have hz:=i9 k (wrap64 (Int.tdiv n 10))
   obtain⟨t,ht⟩:=nm_ (kC k (wrap64 (Int.tdiv n 10)))
   rw[←ht] at HI hz ⊢
   have hy1:(strOfNums y).size=1:=by rw[←hl];exact jm n
   have c7:t.size+(strOfNums y).size≤9223372036854775807:=by omega
   have c7b0:=eq_true c7
   have c7b1:decide (t.size+(strOfNums y).size≤9223372036854775807)=true:=decide_eq_true c7
   have c7b2:(9223372036854775807 < t.size+(strOfNums y).size)=False:=eq_false (Nat.not_lt.2 c7)
   clear c hp h1 h2 ih hk hl e1 e2 e3 e4 ht hz hy1 c7
   go_enter Tryz.func74,Tryz.ntmps74
   go_wp2_with (first
    | ((with_reducible refine aj (N:=8) rfl ?_);refine Kd.R_lit (Kd.int .u8) _ 5 ?hg (N:=8) ?hd (xs:=([(wrap64 (48 - (Int.tmod n 10))) % 256]:List Int)) (inner:=[.int .u8 ((wrap64 (48 - (Int.tmod n 10))) % 256)]) (ok:=fun _=>True) (okp:=fun _=>True) ?hr ?hp (fun _ hk=>hk) trivial (Below.refl _ _) (Nat.le_refl _) (by simp) ?_;(case hd=>rfl);(case hg=>rfl);(case hr=>(first | (go_simp;done) | (go_simp;rfl)));(case hp=>exact(bS.one (show Kd.M (Kd.int .u8) _ _ _ ((wrap64 (48 - (Int.tmod n 10))) % 256) [.int .u8 ((wrap64 (48 - (Int.tmod n 10))) % 256)] from rfl) (bS.none _ _)));intro v102 w3 ho4 hb hg_ hnew_;clear hg_ hnew_;rw[←Ny.out] at ho4;have HB3:=ak_ (af HB.out hb);have HO:=ak_ ho4;clear hb ho4;have hcv5:=oB (P:=Tryz.prog) Tryz.underlying203 Tryz.underlying5 Tryz.underlying9 (Kd.own_of_R HO.out))
    | (go_at_call 74;refine(HI.out _).mono ?_;rintro e w4 ⟨rfl,hb4⟩;have HB4:=ak_ (af HB3.out hb4);clear hb4))
   go_ret
   exact⟨rfl,HB4.out⟩
def inI (n:Int):Prop:=-9223372036854775808≤n∧n≤9223372036854775807
theorem vm (n:Int) (h:inI n) (w:World):Calls Tryz.prog 74 #[.int .i64 n] w fun e w'=>e=.returned (.string (kC 19 n))∧Below w.heap.size w w':=
 ub 19 n w (by omega) (by have h1:=h.1;have h2:-(10:Int) ^ (19+1)=-100000000000000000000:=(by decide);omega) h.1 h.2
theorem uG (n:Int):inI (wrap64 n):=by unfold inI wrap64;omega
def nT (n:Int):ByteArray:=if n < 0 then (⟨#[45]⟩:ByteArray)++kC 19 n else kC 19 (wrap64 (-n))
theorem iE (n:Int):(nT n).size≤21:=by
 unfold nT
 split
 ·rw[ByteArray.size_append]
  have:=i9 19 n
  have h:(⟨#[45]⟩:ByteArray).size=1:=rfl
  omega
 ·have:=i9 19 (wrap64 (-n))
  omega
theorem lJ (n:Int) (h:inI n) (w:World):Calls Tryz.prog 42 #[.int .i64 n] w fun e w'=>e=.returned (.string (nT n))∧Below w.heap.size w w':=by
 unfold nT
 by_cases c:n < 0
 ·rw[if_pos c]
  have cb:decide (n < 0)=true:=decide_eq_true c
  have HD:=ak_ (vm n h)
  have hz:=i9 19 n
  obtain⟨t,ht⟩:=nm_ (kC 19 n)
  rw[←ht] at HD hz ⊢
  have c4:1+t.size≤9223372036854775807:=by omega
  have c4b0:=eq_true c4
  have c4b1:decide (1+t.size≤9223372036854775807)=true:=decide_eq_true c4
  have c4b2:(9223372036854775807 < 1+t.size)=False:=eq_false (Nat.not_lt.2 c4)
  clear c h ht hz c4
  go_enter Tryz.func42,Tryz.ntmps42
  go_wp2_with (go_at_call 74;refine(HD.out _).mono ?_;rintro e w4 ⟨rfl,hb4⟩;have HB4:=ak_ hb4;clear hb4)
  go_ret
  exact⟨rfl,HB4.out⟩
 ·rw[if_neg c]
  have cb:decide (n < 0)=false:=decide_eq_false c
  have HD:=ak_ (vm _ (uG (-n)))
  clear c h
  go_enter Tryz.func42,Tryz.ntmps42
  go_wp2_with (go_at_call 74;refine(HD.out _).mono ?_;rintro e w4 ⟨rfl,hb4⟩;have HB4:=ak_ hb4;clear hb4)
  go_ret
  exact⟨rfl,HB4.out⟩
def lT (n:Int):ByteArray:=if n < 8 then (⟨#[114]⟩:ByteArray)++nT n else (⟨#[115]⟩:ByteArray)++nT (wrap64 (n - 8))
theorem km (n:Int):(lT n).size≤22:=by
 unfold lT
 split
 ·rw[ByteArray.size_append]
  have:=iE n
  have h:(⟨#[114]⟩:ByteArray).size=1:=rfl
  omega
 ·rw[ByteArray.size_append]
  have:=iE (wrap64 (n - 8))
  have h:(⟨#[115]⟩:ByteArray).size=1:=rfl
  omega
theorem oO (n:Int) (h:inI n) (w:World):Calls Tryz.prog 41 #[.int .i64 n] w fun e w'=>e=.returned (.string (lT n))∧Below w.heap.size w w':=by
 unfold lT
 by_cases c:n < 8
 ·rw[if_pos c]
  have cb:decide (n < 8)=true:=decide_eq_true c
  have HD:=ak_ (lJ n h)
  have hz:=iE n
  obtain⟨t,ht⟩:=nm_ (nT n)
  rw[←ht] at HD hz ⊢
  have c4:1+t.size≤9223372036854775807:=by omega
  have c4b0:=eq_true c4
  have c4b1:decide (1+t.size≤9223372036854775807)=true:=decide_eq_true c4
  have c4b2:(9223372036854775807 < 1+t.size)=False:=eq_false (Nat.not_lt.2 c4)
  clear c h ht hz c4
  go_enter Tryz.func41,Tryz.ntmps41
  go_wp2_with (go_at_call 42;refine(HD.out _).mono ?_;rintro e w4 ⟨rfl,hb4⟩;have HB4:=ak_ hb4;clear hb4)
  go_ret
  exact⟨rfl,HB4.out⟩
 ·rw[if_neg c]
  have cb:decide (n < 8)=false:=decide_eq_false c
  have HD:=ak_ (lJ _ (uG (n - 8)))
  have hz:=iE (wrap64 (n - 8))
  obtain⟨t,ht⟩:=nm_ (nT (wrap64 (n - 8)))
  rw[←ht] at HD hz ⊢
  have c4:1+t.size≤9223372036854775807:=by omega
  have c4b0:=eq_true c4
  have c4b1:decide (1+t.size≤9223372036854775807)=true:=decide_eq_true c4
  have c4b2:(9223372036854775807 < 1+t.size)=False:=eq_false (Nat.not_lt.2 c4)
  clear c h ht hz c4
  go_enter Tryz.func41,Tryz.ntmps41
  go_wp2_with (go_at_call 42;refine(HD.out _).mono ?_;rintro e w4 ⟨rfl,hb4⟩;have HB4:=ak_ hb4;clear hb4)
  go_ret
  exact⟨rfl,HB4.out⟩
def wl:List ByteArray:=a_.map Prod.fst
def wd (op:Int):ByteArray:=tH ByteArray.empty wl (op - 1)
theorem ze (op:Int) (h:1≤op∧op≤18) (w:World):Calls Tryz.prog 43 #[.int .i64 op] w fun e w'=>e=.returned (.string (wd op))∧Below w.heap.size w w':=by
 have hd:wd op=tH ByteArray.empty wl (op - 1):=rfl
 rw[hd]
 obtain⟨j,hj⟩:=mn_ (op - 1)
 rw[hj]
 have p1:0≤j:=by omega
 have q1:j < 18:=by omega
 have hw:IntKind.i64.wrap (op - 1)=j:=(DI _).trans (by unfold wrap64;omega)
 clear hd hj h
 go_enter Tryz.func43,Tryz.ntmps43
 go_wp2
 go_ret
 refine⟨?_,ae (Below.refl _ _) _⟩
 have hc:j=0∨j=1∨j=2∨j=3∨j=4∨j=5∨j=6∨j=7∨j=8∨j=9∨j=10∨j=11∨j=12∨j=13∨j=14∨j=15∨j=16∨j=17:=by omega
 rcases hc with rfl | rfl | rfl | rfl | rfl | rfl | rfl | rfl | rfl | rfl | rfl | rfl | rfl | rfl | rfl | rfl | rfl | rfl <;> rfl
def sY (op:Int) (s d a b n t:ByteArray):ByteArray:=
 if op=1 then ((s++d)++(⟨#[32]⟩:ByteArray))++n
 else if op=2∨op=3∨op=13 then ((s++d)++(⟨#[32]⟩:ByteArray))++a
 else if op=14 then ((s++a)++(⟨#[32]⟩:ByteArray))++b
 else if op=15 then ((((s++d)++(⟨#[32]⟩:ByteArray))++a)++(⟨#[32]⟩:ByteArray))++n
 else if op=16 then s++t
 else if op=17 then ((s++a)++(⟨#[32]⟩:ByteArray))++t
 else if op=18 then s++a
 else ((((s++d)++(⟨#[32]⟩:ByteArray))++a)++(⟨#[32]⟩:ByteArray))++b
def lN (x:In):ByteArray:=sY x.op (wd x.op++(⟨#[32]⟩:ByteArray)) (lT x.d) (lT x.a) (lT x.b) (nT x.n) (nT x.jt)
theorem uI (op:Int):(wd op).size≤5:=by
 have h:∀ s∈wl,s.size≤5:=by decide
 unfold wd tH
 by_cases hi:(op - 1).toNat < wl.length
 ·rw[List.getD_eq_getElem?_getD,List.getElem?_eq_getElem hi]
  exact h _ (List.getElem_mem _)
 ·rw[List.getD_eq_getElem?_getD,List.getElem?_eq_none (by omega)]
  exact Nat.zero_le _
theorem b9 {n:Nat} (h:n≤1000):(n≤9223372036854775807)=True∧decide (n≤9223372036854775807)=true∧(9223372036854775807 < n)=False:=⟨eq_true (by omega),decide_eq_true (by omega),eq_false (by omega)⟩
theorem tF (x:In) (h:1≤x.op∧x.op≤18) (hd:inI x.d) (ha:inI x.a) (hb:inI x.b) (hn:inI x.n) (ht:inI x.jt) (w:World) :
  Calls Tryz.prog 32 #[.agg x.cells] w fun e w'=>e=.returned (.string (lN x))∧Below w.heap.size w w':=by
 unfold lN
 obtain⟨g,hg⟩:=mn_ w.heap.size
 obtain⟨w1,hw1⟩:∃ w1,w1=w.alloc (.cells x.cells 49):=⟨_,rfl⟩
 have h1:w1.heap[g]?=some (.cells #[.int .i64 x.op,.int .i64 x.d,.int .i64 x.a,.int .i64 x.b,.int .i64 x.n,.int .i64 x.jt] 49 (0,0)):=by rw[hw1,←hg];exact heap_alloc_last w _
 have H1:=ak_ h1
 have HB1:=ak_ (show Below w.heap.size w w1 by rw[hw1];exact ae (Below.refl _ _) _)
 have HD:=ak_ (oO x.d hd)
 have HA:=ak_ (oO x.a ha)
 have HBb:=ak_ (oO x.b hb)
 have HN:=ak_ (lJ x.n hn)
 have HT:=ak_ (lJ x.jt ht)
 have HWd:=ak_ (ze x.op h)
 have zd:=km x.d
 have za:=km x.a
 have zb:=km x.b
 have zn:=iE x.n
 have zt:=iE x.jt
 have zw:=uI x.op
 have hop:=h
 obtain⟨op,xd,xa,xb,xn,xt⟩:=x
 simp only at *
 obtain⟨td,e1⟩:=nm_ (lT xd)
 obtain⟨ta,e2⟩:=nm_ (lT xa)
 obtain⟨tb,e3⟩:=nm_ (lT xb)
 obtain⟨tn,e4⟩:=nm_ (nT xn)
 obtain⟨tt,e5⟩:=nm_ (nT xt)
 obtain⟨ts,e6⟩:=nm_ (wd op)
 rw[←e1] at HD zd ⊢
 rw[←e2] at HA za ⊢
 rw[←e3] at HBb zb ⊢
 rw[←e4] at HN zn ⊢
 rw[←e5] at HT zt ⊢
 rw[←e6] at HWd zw ⊢
 have HW1:=ak_ hw1
 have HG:=ak_ hg
 have HZ:=ak_ (And.intro zd (And.intro za (And.intro zb (And.intro zn (And.intro zt zw)))))
 have HI3:=ak_ (show ∀ W,(isAgg 3).run Tryz.prog W=.ok false W from fun W=>by kernel_rfl)
 have HI2:=ak_ (show ∀ W,(isAgg 2).run Tryz.prog W=.ok false W from fun W=>by kernel_rfl)
 clear e1 e2 e3 e4 e5 e6 zd za zb zn zt zw hd ha hb hn ht h h1
 have hops:op=1∨op=2∨op=3∨op=13∨op=14∨op=15∨op=16∨op=17∨op=18∨(4≤op∧op≤12):=by omega
 have HOps:=ak_ hops
 clear hops hop
 go_enter Tryz.func32,Tryz.ntmps32
 go_upto_region 1 with fail
 refine ar (show _=w1 from HW1.out.symm) ?_
 clear hw1 HW1
 refine f_ [(9,.pointer (some ⟨g,1,none⟩)),(10,.int .i64 xd),(11,.string td),(12,.pointer (some ⟨g,2,none⟩)),(13,.int .i64 xa),(14,.string ta),(15,.pointer (some ⟨g,3,none⟩)),(16,.int .i64 xb),(17,.string tb),(3,.string td),(4,.string ta),(5,.string tb)]
  (fun L W=>Fr (fun _=>False) w1 W) (by kernel_rfl) (by kernel_rfl) (by kernel_rfl) ?_
 intro aF haF
 simp only[bd,Act.put,List.setIfInBounds_toArray,List.set_cons_succ,List.set_cons_zero] at haF
 subst haF
 refine⟨?_,⟨rfl,rfl,rfl,Nat.le_refl _,fun _ _ _=>rfl⟩,?_⟩
 ·intro j o2 ho L W hc hr hst
  have hB:W.heap[g]?=_:=(hst.block _ (ai H1.out) (fun h=>h)).trans H1.out
  rcases j with _ | _ | _ | _ | _ | _ | _ | _ | _ | _ | _ | _ | j
  ·obtain rfl:=Option.some.inj ho
   exact aD rfl (by go_simp) rfl hst
  ·obtain rfl:=Option.some.inj ho
   exact aD rfl (al rfl rfl (aE (HI3.out W) ((ah hB 1).trans rfl))) rfl hst
  ·obtain rfl:=Option.some.inj ho
   exact gQ rfl Tryz.func41 (by kernel_rfl) rfl #[.int .i64 xd] rfl rfl ((HD.out W).mono (fun e w' h=>⟨_,h.1,rfl,hst.trans (Fr.of_below h.2)⟩))
  ·obtain rfl:=Option.some.inj ho
   exact aD rfl (by go_simp) rfl hst
  ·obtain rfl:=Option.some.inj ho
   exact aD rfl (al rfl rfl (aE (HI3.out W) ((ah hB 2).trans rfl))) rfl hst
  ·obtain rfl:=Option.some.inj ho
   exact gQ rfl Tryz.func41 (by kernel_rfl) rfl #[.int .i64 xa] rfl rfl ((HA.out W).mono (fun e w' h=>⟨_,h.1,rfl,hst.trans (Fr.of_below h.2)⟩))
  ·obtain rfl:=Option.some.inj ho
   exact aD rfl (by go_simp) rfl hst
  ·obtain rfl:=Option.some.inj ho
   exact aD rfl (al rfl rfl (aE (HI3.out W) ((ah hB 3).trans rfl))) rfl hst
  ·obtain rfl:=Option.some.inj ho
   exact gQ rfl Tryz.func41 (by kernel_rfl) rfl #[.int .i64 xb] rfl rfl ((HBb.out W).mono (fun e w' h=>⟨_,h.1,rfl,hst.trans (Fr.of_below h.2)⟩))
  ·obtain rfl:=Option.some.inj ho
   exact aD rfl (by go_simp) rfl hst
  ·obtain rfl:=Option.some.inj ho
   exact aD rfl (by go_simp) rfl hst
  ·obtain rfl:=Option.some.inj ho
   exact aD rfl (by go_simp) rfl hst
  ·exact absurd (Array.getElem?_eq_some_iff.1 ho).1 (by simp)
 intro L w2 hall hst
 have H2:=ak_ ((hst.block _ (ai H1.out) (fun h=>h)).trans H1.out)
 have HB2:=ak_ (Fr.below (S:=fun _=>False) HB1.out hst (fun k hk h=>h) HB1.out.size)
 clear hst hall HD HA HBb HB1 H1
 go_upto_region 2 with fail
 refine f_ [(18,.pointer (some ⟨g,4,none⟩)),(19,.int .i64 xn),(20,.string tn),(21,.pointer (some ⟨g,5,none⟩)),(22,.int .i64 xt),(23,.string tt),(6,.string tn),(7,.string tt)]
  (fun L W=>Fr (fun _=>False) w2 W) (by kernel_rfl) (by kernel_rfl) (by kernel_rfl) ?_
 intro aF haF
 simp only[bd,Act.put,List.setIfInBounds_toArray,List.set_cons_succ,List.set_cons_zero] at haF
 subst haF
 refine⟨?_,⟨rfl,rfl,rfl,Nat.le_refl _,fun _ _ _=>rfl⟩,?_⟩
 ·intro j o2 ho L W hc hr hst
  have hB:W.heap[g]?=_:=(hst.block _ (ai H2.out) (fun h=>h)).trans H2.out
  rcases j with _ | _ | _ | _ | _ | _ | _ | _ | j
  ·obtain rfl:=Option.some.inj ho
   exact aD rfl (by go_simp) rfl hst
  ·obtain rfl:=Option.some.inj ho
   exact aD rfl (al rfl rfl (aE (HI2.out W) ((ah hB 4).trans rfl))) rfl hst
  ·obtain rfl:=Option.some.inj ho
   exact gQ rfl Tryz.func42 (by kernel_rfl) rfl #[.int .i64 xn] rfl rfl ((HN.out W).mono (fun e w' h=>⟨_,h.1,rfl,hst.trans (Fr.of_below h.2)⟩))
  ·obtain rfl:=Option.some.inj ho
   exact aD rfl (by go_simp) rfl hst
  ·obtain rfl:=Option.some.inj ho
   exact aD rfl (al rfl rfl (aE (HI3.out W) ((ah hB 5).trans rfl))) rfl hst
  ·obtain rfl:=Option.some.inj ho
   exact gQ rfl Tryz.func42 (by kernel_rfl) rfl #[.int .i64 xt] rfl rfl ((HT.out W).mono (fun e w' h=>⟨_,h.1,rfl,hst.trans (Fr.of_below h.2)⟩))
  ·obtain rfl:=Option.some.inj ho
   exact aD rfl (by go_simp) rfl hst
  ·obtain rfl:=Option.some.inj ho
   exact aD rfl (by go_simp) rfl hst
  ·exact absurd (Array.getElem?_eq_some_iff.1 ho).1 (by simp)
 intro L w3 hall hst
 have H3:=ak_ ((hst.block _ (ai H2.out) (fun h=>h)).trans H2.out)
 have HB3:=ak_ (Fr.below (S:=fun _=>False) HB2.out hst (fun k hk h=>h) HB2.out.size)
 clear hst hall HN HT HB2 H2 HI2 HI3
 have c0:=(show w3.cell? ⟨g,0,none⟩=some (.int .i64 op) by rw[ah H3.out];rfl)
 obtain⟨zd,za,zb,zn,zt,zw⟩:=HZ.out
 obtain⟨f01,f02,f03⟩:=b9 (n:=ts.size+1) (by omega)
 rcases HOps.out with rfl | rfl | rfl | rfl | rfl | rfl | rfl | rfl | rfl | ⟨h4,h12⟩
 ·obtain⟨f11,f12,f13⟩:=b9 (n:=ts.size+1+td.size) (by omega)
  obtain⟨f21,f22,f23⟩:=b9 (n:=ts.size+1+td.size+1) (by omega)
  obtain⟨f31,f32,f33⟩:=b9 (n:=ts.size+1+td.size+1+tn.size) (by omega)
  clear HZ HOps zd za zb zn zt zw
  go_wp2_with (go_at_call 43;refine(HWd.out _).mono ?_;rintro e w4 ⟨rfl,hb4⟩;have c0:=(show w4.cell? ⟨g,0,none⟩=some (.int .i64 (1)) by rw[ah (ag H3.out hb4)];rfl);have HB4:=ak_ (af HB3.out hb4);clear hb4)
  go_ret
  exact⟨rfl,HB4.out⟩
 ·obtain⟨f11,f12,f13⟩:=b9 (n:=ts.size+1+td.size) (by omega)
  obtain⟨f21,f22,f23⟩:=b9 (n:=ts.size+1+td.size+1) (by omega)
  obtain⟨f31,f32,f33⟩:=b9 (n:=ts.size+1+td.size+1+ta.size) (by omega)
  clear HZ HOps zd za zb zn zt zw
  go_wp2_with (go_at_call 43;refine(HWd.out _).mono ?_;rintro e w4 ⟨rfl,hb4⟩;have c0:=(show w4.cell? ⟨g,0,none⟩=some (.int .i64 (2)) by rw[ah (ag H3.out hb4)];rfl);have HB4:=ak_ (af HB3.out hb4);clear hb4)
  go_ret
  exact⟨rfl,HB4.out⟩
 ·obtain⟨f11,f12,f13⟩:=b9 (n:=ts.size+1+td.size) (by omega)
  obtain⟨f21,f22,f23⟩:=b9 (n:=ts.size+1+td.size+1) (by omega)
  obtain⟨f31,f32,f33⟩:=b9 (n:=ts.size+1+td.size+1+ta.size) (by omega)
  clear HZ HOps zd za zb zn zt zw
  go_wp2_with (go_at_call 43;refine(HWd.out _).mono ?_;rintro e w4 ⟨rfl,hb4⟩;have c0:=(show w4.cell? ⟨g,0,none⟩=some (.int .i64 (3)) by rw[ah (ag H3.out hb4)];rfl);have HB4:=ak_ (af HB3.out hb4);clear hb4)
  go_ret
  exact⟨rfl,HB4.out⟩
 ·obtain⟨f11,f12,f13⟩:=b9 (n:=ts.size+1+td.size) (by omega)
  obtain⟨f21,f22,f23⟩:=b9 (n:=ts.size+1+td.size+1) (by omega)
  obtain⟨f31,f32,f33⟩:=b9 (n:=ts.size+1+td.size+1+ta.size) (by omega)
  clear HZ HOps zd za zb zn zt zw
  go_wp2_with (go_at_call 43;refine(HWd.out _).mono ?_;rintro e w4 ⟨rfl,hb4⟩;have c0:=(show w4.cell? ⟨g,0,none⟩=some (.int .i64 (13)) by rw[ah (ag H3.out hb4)];rfl);have HB4:=ak_ (af HB3.out hb4);clear hb4)
  go_ret
  exact⟨rfl,HB4.out⟩
 ·obtain⟨f11,f12,f13⟩:=b9 (n:=ts.size+1+ta.size) (by omega)
  obtain⟨f21,f22,f23⟩:=b9 (n:=ts.size+1+ta.size+1) (by omega)
  obtain⟨f31,f32,f33⟩:=b9 (n:=ts.size+1+ta.size+1+tb.size) (by omega)
  clear HZ HOps zd za zb zn zt zw
  go_wp2_with (go_at_call 43;refine(HWd.out _).mono ?_;rintro e w4 ⟨rfl,hb4⟩;have c0:=(show w4.cell? ⟨g,0,none⟩=some (.int .i64 (14)) by rw[ah (ag H3.out hb4)];rfl);have HB4:=ak_ (af HB3.out hb4);clear hb4)
  go_ret
  exact⟨rfl,HB4.out⟩
 ·obtain⟨f11,f12,f13⟩:=b9 (n:=ts.size+1+td.size) (by omega)
  obtain⟨f21,f22,f23⟩:=b9 (n:=ts.size+1+td.size+1) (by omega)
  obtain⟨f31,f32,f33⟩:=b9 (n:=ts.size+1+td.size+1+ta.size) (by omega)
  obtain⟨f41,f42,f43⟩:=b9 (n:=ts.size+1+td.size+1+ta.size+1) (by omega)
  obtain⟨f51,f52,f53⟩:=b9 (n:=ts.size+1+td.size+1+ta.size+1+tn.size) (by omega)
  clear HZ HOps zd za zb zn zt zw
  go_wp2_with (go_at_call 43;refine(HWd.out _).mono ?_;rintro e w4 ⟨rfl,hb4⟩;have c0:=(show w4.cell? ⟨g,0,none⟩=some (.int .i64 (15)) by rw[ah (ag H3.out hb4)];rfl);have HB4:=ak_ (af HB3.out hb4);clear hb4)
  go_ret
  exact⟨rfl,HB4.out⟩
 ·obtain⟨f11,f12,f13⟩:=b9 (n:=ts.size+1+tt.size) (by omega)
  clear HZ HOps zd za zb zn zt zw
  go_wp2_with (go_at_call 43;refine(HWd.out _).mono ?_;rintro e w4 ⟨rfl,hb4⟩;have c0:=(show w4.cell? ⟨g,0,none⟩=some (.int .i64 (16)) by rw[ah (ag H3.out hb4)];rfl);have HB4:=ak_ (af HB3.out hb4);clear hb4)
  go_ret
  exact⟨rfl,HB4.out⟩
 ·obtain⟨f11,f12,f13⟩:=b9 (n:=ts.size+1+ta.size) (by omega)
  obtain⟨f21,f22,f23⟩:=b9 (n:=ts.size+1+ta.size+1) (by omega)
  obtain⟨f31,f32,f33⟩:=b9 (n:=ts.size+1+ta.size+1+tt.size) (by omega)
  clear HZ HOps zd za zb zn zt zw
  go_wp2_with (go_at_call 43;refine(HWd.out _).mono ?_;rintro e w4 ⟨rfl,hb4⟩;have c0:=(show w4.cell? ⟨g,0,none⟩=some (.int .i64 (17)) by rw[ah (ag H3.out hb4)];rfl);have HB4:=ak_ (af HB3.out hb4);clear hb4)
  go_ret
  exact⟨rfl,HB4.out⟩
 ·obtain⟨f11,f12,f13⟩:=b9 (n:=ts.size+1+ta.size) (by omega)
  clear HZ HOps zd za zb zn zt zw
  go_wp2_with (go_at_call 43;refine(HWd.out _).mono ?_;rintro e w4 ⟨rfl,hb4⟩;have c0:=(show w4.cell? ⟨g,0,none⟩=some (.int .i64 (18)) by rw[ah (ag H3.out hb4)];rfl);have HB4:=ak_ (af HB3.out hb4);clear hb4)
  go_ret
  exact⟨rfl,HB4.out⟩
 ·obtain⟨f11,f12,f13⟩:=b9 (n:=ts.size+1+td.size) (by omega)
  obtain⟨f21,f22,f23⟩:=b9 (n:=ts.size+1+td.size+1) (by omega)
  obtain⟨f31,f32,f33⟩:=b9 (n:=ts.size+1+td.size+1+ta.size) (by omega)
  obtain⟨f41,f42,f43⟩:=b9 (n:=ts.size+1+td.size+1+ta.size+1) (by omega)
  obtain⟨f51,f52,f53⟩:=b9 (n:=ts.size+1+td.size+1+ta.size+1+tb.size) (by omega)
  have q1:(op == 1)=false:=beq_eq_false_iff_ne.mpr (by omega)
  have q2:(op == 2)=false:=beq_eq_false_iff_ne.mpr (by omega)
  have q3:(op == 3)=false:=beq_eq_false_iff_ne.mpr (by omega)
  have q13:(op == 13)=false:=beq_eq_false_iff_ne.mpr (by omega)
  have q14:(op == 14)=false:=beq_eq_false_iff_ne.mpr (by omega)
  have q15:(op == 15)=false:=beq_eq_false_iff_ne.mpr (by omega)
  have q16:(op == 16)=false:=beq_eq_false_iff_ne.mpr (by omega)
  have q17:(op == 17)=false:=beq_eq_false_iff_ne.mpr (by omega)
  have q18:(op == 18)=false:=beq_eq_false_iff_ne.mpr (by omega)
  have HBd:=ak_ (show sY op (ts++(⟨#[32]⟩:ByteArray)) td ta tb tn tt=(((((ts++(⟨#[32]⟩:ByteArray))++td)++(⟨#[32]⟩:ByteArray))++ta)++(⟨#[32]⟩:ByteArray))++tb by unfold sY;rw[if_neg (by omega),if_neg (by omega),if_neg (by omega),if_neg (by omega),if_neg (by omega),if_neg (by omega),if_neg (by omega)])
  have HH:=ak_ (And.intro h4 h12)
  clear h4 h12
  clear HZ HOps zd za zb zn zt zw
  go_wp2_with (go_at_call 43;refine(HWd.out _).mono ?_;rintro e w4 ⟨rfl,hb4⟩;have c0:=(show w4.cell? ⟨g,0,none⟩=some (.int .i64 op) by rw[ah (ag H3.out hb4)];rfl);have HB4:=ak_ (af HB3.out hb4);clear hb4)
  go_ret
  exact⟨by rw[HBd.out];rfl,HB4.out⟩
def fH (s:ByteArray):Prop:=∀ b∈s.data.toList,b.toNat < 128
theorem fH.asc {s:ByteArray} (h:fH s):Asc s:=by
 intro i hi
 have hb:=nk s (i:Int) hi
 simp only[Int.toNat_natCast] at hb
 rw[←hb]
 have:=h (s[i]'hi) (by
  have e:s[i]'hi=s.data[i]'hi:=rfl
  rw[e]
  exact Array.getElem_mem_toList _)
 omega
theorem fH.app {a b:ByteArray} (ha:fH a) (hb:fH b):fH (a++b):=by
 intro c hc
 rw[show (a++b).data=a.data++b.data from ByteArray.data_append,Array.toList_append] at hc
 rcases List.mem_append.1 hc with hc | hc
 ·exact ha c hc
 ·exact hb c hc
theorem fH.lit {l:List UInt8} (h:l.all (fun b=>decide (b.toNat < 128))=true):fH ⟨l.toArray⟩:=by
 intro c hc
 have:=List.all_eq_true.1 h c hc
 exact of_decide_eq_true this
theorem mJ (n:Int):fH (lastB n):=by
 intro c hc
 unfold lastB at hc
 rw[strOfNums_data] at hc
 simp only[List.map_cons,List.map_nil,List.mem_singleton] at hc
 subst hc
 have h1:-10 < Int.tmod n 10:=by
  have:=Int.lt_tmod_of_pos n (b:=10) (by decide)
  omega
 have h2:Int.tmod n 10 < 10:=Int.tmod_lt_of_pos n (by decide)
 have h3:wrap64 (48 - Int.tmod n 10)=48 - Int.tmod n 10:=by unfold wrap64;omega
 rw[h3]
 have h4:((48 - Int.tmod n 10) % 256).toNat < 128:=by omega
 rw[UInt8.toNat_ofNat']
 omega
theorem pf:∀ (k:Nat) (n:Int),fH (kC k n)
 | 0,n=>mJ n
 | k+1,n=>by
  rw[kC]
  split
  ·exact mJ n
  ·exact(pf k _).app (mJ n)
theorem qY (n:Int):fH (nT n):=by
 unfold nT
 split
 ·exact(fH.lit (l:=[45]) rfl).app (pf _ _)
 ·exact pf _ _
theorem tR (n:Int):fH (lT n):=by
 unfold lT
 split
 ·exact(fH.lit (l:=[114]) rfl).app (qY _)
 ·exact(fH.lit (l:=[115]) rfl).app (qY _)
theorem CK (op:Int):fH (wd op):=by
 have h:∀ s∈wl,fH s:=by
  have h2:wl.all (fun s=>s.data.toList.all (fun b=>decide (b.toNat < 128)))=true:=by decide
  intro s hs b hb
  exact of_decide_eq_true (List.all_eq_true.1 (List.all_eq_true.1 h2 s hs) b hb)
 unfold wd tH
 by_cases hi:(op - 1).toNat < wl.length
 ·rw[List.getD_eq_getElem?_getD,List.getElem?_eq_getElem hi]
  exact h _ (List.getElem_mem _)
 ·rw[List.getD_eq_getElem?_getD,List.getElem?_eq_none (by omega)]
  exact fH.lit (l:=[]) rfl
theorem yp (x:In):fH (lN x):=by
 have hs:fH (wd x.op++(⟨#[32]⟩:ByteArray)):=(CK _).app (fH.lit (l:=[32]) rfl)
 have h32:fH (⟨#[32]⟩:ByteArray):=fH.lit (l:=[32]) rfl
 have hd:=tR x.d
 have ha:=tR x.a
 have hb:=tR x.b
 have hn:=qY x.n
 have ht:=qY x.jt
 unfold lN sY
 split
 ·exact((hs.app hd).app h32).app hn
 split
 ·exact((hs.app hd).app h32).app ha
 split
 ·exact((hs.app ha).app h32).app hb
 split
 ·exact((((hs.app hd).app h32).app ha).app h32).app hn
 split
 ·exact hs.app ht
 split
 ·exact((hs.app ha).app h32).app ht
 split
 ·exact hs.app ha
 ·exact((((hs.app hd).app h32).app ha).app h32).app hb
theorem oN (x:In):(lN x).size≤100:=by
 have hs:(wd x.op++(⟨#[32]⟩:ByteArray)).size≤6:=by
  rw[ByteArray.size_append]
  have:=uI x.op
  have h:(⟨#[32]⟩:ByteArray).size=1:=rfl
  omega
 have h32:(⟨#[32]⟩:ByteArray).size=1:=rfl
 have hd:=km x.d
 have ha:=km x.a
 have hb:=km x.b
 have hn:=iE x.n
 have ht:=iE x.jt
 unfold lN sY
 repeat' split
 all_goals
  simp only[ByteArray.size_append] at hs ⊢
  omega
def kX:List In→ByteArray→ByteArray
 | [],s=>s
 | x :: xs,s=>kX xs ((s++lN x)++(⟨#[10]⟩:ByteArray))
theorem pS:∀ (xs:List In) (s:ByteArray),fH s→fH (kX xs s)∧(kX xs s).size≤s.size+101 * xs.length
 | [],s,h=>⟨h,by simp[kX]⟩
 | x :: xs,s,h=>by
  have h1:fH ((s++lN x)++(⟨#[10]⟩:ByteArray)):=(h.app (yp x)).app (fH.lit (l:=[10]) rfl)
  have h2:=pS xs _ h1
  refine⟨h2.1,Nat.le_trans h2.2 ?_⟩
  rw[ByteArray.size_append,ByteArray.size_append]
  have:=oN x
  have h3:(⟨#[10]⟩:ByteArray).size=1:=rfl
  rw[List.length_cons]
  omega
structure Prt (x:In):Prop where
 op:1≤x.op∧x.op≤18
 d:inI x.d
 a:inI x.a
 b:inI x.b
 n:inI x.n
 jt:inI x.jt
def prT (f:List In):ByteArray:=kX f ⟨#[]⟩
theorem tJ (f:List In) (h:f.length≤40):Asc (prT f)∧(prT f).size≤20000:=by
 have h1:=pS f ⟨#[]⟩ (fH.lit (l:=[]) rfl)
 refine⟨h1.1.asc,Nat.le_trans h1.2 ?_⟩
 have:(⟨#[]⟩:ByteArray).size=0:=rfl
 omega
theorem oo (f:List In) (A:Option Addr) (c:Nat) (w:World) (hC:Kd.C kIn w A f.length f) (hc:f.length≤c) (hl:f.length≤40) (hp:∀ x∈f,Prt x) :
  Calls Tryz.prog 14 #[.slice A f.length c] w fun e w'=>e=.returned (.string (prT f))∧Below w.heap.size w w':=by
 obtain⟨R,hR⟩:=nm_ (prT f)
 rw[←hR]
 have HR:=ak_ hR
 have HC:=ak_ hC
 have HL:=ak_ hl
 have HP:=ak_ hp
 have hl2:(f.length:Int)≤40:=by omega
 clear hR hC hl hp
 go_enter Tryz.func14,Tryz.ntmps14
 go_wp2
 go_loopw [3,4] (fun v i wr=>∃ (k:Nat) (s:ByteArray),v=.string s∧i=.int .i64 k∧aa (k≤f.length∧R=kX (f.drop k) s∧s.size≤101 * k∧Below w.heap.size w wr)) (fun _ i _=>f.length - (intOf i).toNat)
 case atStart=>exact⟨0,_,rfl,rfl,⟨Nat.zero_le _,HR.out,Nat.le_refl _,Below.refl _ _⟩⟩
 case round=>
  obtain⟨k,s,rfl,rfl,HK⟩:=hrel
  obtain⟨hk,hr,hs,hb⟩:=HK.out
  by_cases hkl:k < f.length
  ·have hkl':(k:Int) < (f.length:Int):=by omega
   obtain⟨x,hx⟩:∃ x,f[k]?=some x:=⟨_,List.getElem?_eq_getElem hkl⟩
   have hpx:=HP.out x (List.mem_of_getElem? hx)
   have HPr:=ak_ (tF x hpx.op hpx.d hpx.a hpx.b hpx.n hpx.jt)
   obtain⟨ad,cs,rfl,hK,hld⟩:=aW (P:=Tryz.prog) HC.out hb k hkl x hx 49 Tryz.underlying49 rfl bE
   obtain rfl:cs=[.int .i64 x.op,.int .i64 x.d,.int .i64 x.a,.int .i64 x.b,.int .i64 x.n,.int .i64 x.jt]:=hK
   have HLd:=ak_ (show (loadVar 49 (ad.add (k * 6))).run Tryz.prog wr=.ok (.agg #[.int .i64 x.op,.int .i64 x.d,.int .i64 x.a,.int .i64 x.b,.int .i64 x.n,.int .i64 x.jt]) wr from hld)
   have hdr:f.drop k=x :: f.drop (k+1):=by
    rw[List.drop_eq_getElem_cons hkl]
    rw[List.getElem?_eq_getElem hkl] at hx
    rw[Option.some.inj hx]
   rw[hdr] at hr
   have HRr:=ak_ hr
   have hz:=oN x
   obtain⟨t,ht⟩:=nm_ (lN x)
   have HTe:=ak_ ht
   have HPr2:=ak_ (show ∀ w,Calls Tryz.prog 32 #[.agg #[.int .i64 x.op,.int .i64 x.d,.int .i64 x.a,.int .i64 x.b,.int .i64 x.n,.int .i64 x.jt]] w fun e w'=>e=.returned (.string t)∧Below w.heap.size w w' by rw[ht];exact HPr.out)
   rw[←ht] at hz
   obtain⟨f11,f12,f13⟩:(s.size+t.size≤9223372036854775807)=True∧decide (s.size+t.size≤9223372036854775807)=true∧(9223372036854775807 < s.size+t.size)=False:=by have:=HL.out;exact⟨eq_true (by omega),decide_eq_true (by omega),eq_false (by omega)⟩
   obtain⟨f21,f22,f23⟩:(s.size+t.size+1≤9223372036854775807)=True∧decide (s.size+t.size+1≤9223372036854775807)=true∧(9223372036854775807 < s.size+t.size+1)=False:=by have:=HL.out;exact⟨eq_true (by omega),decide_eq_true (by omega),eq_false (by omega)⟩
   have HB:=ak_ hb
   have HSz:=ak_ (show ((s++t)++(⟨#[10]⟩:ByteArray)).size≤101 * (k+1) by rw[ByteArray.size_append,ByteArray.size_append];have h3:(⟨#[10]⟩:ByteArray).size=1:=rfl;omega)
   have HKl:=ak_ hkl
   clear hx hpx HPr hld hdr hr hz ht hb hs hk hkl HK
   go_wp2_with (first
    | ((with_reducible refine aj (N:=15) rfl ?_);refine au rfl 49 _ rfl (ad.add (k * 6)) rfl _ HLd.out ?_)
    | (go_at_call 32;refine(HPr2.out _).mono ?_;rintro e w4 ⟨rfl,hb4⟩;have HB4:=ak_ (af HB.out hb4);clear hb4))
   go_roundw
   case rel=>exact⟨k+1,_,rfl,by go_num,⟨⟨HKl.out,by rw[HRr.out,kX,HTe.out],HSz.out,HB4.out⟩⟩⟩
   case measure=>have:=HKl.out;simp[intOf];omega
  ·obtain rfl:k=f.length:=by omega
   rw[List.drop_length] at hr
   have HRr:=ak_ hr
   have HB:=ak_ hb
   clear hr hb hs hk HK hkl
   go_wp2
   go_ret
   exact⟨by rw[HRr.out];rfl,HB.out⟩
theorem pL (f g:List In) (A B:Option Addr) (c d:Nat) (w:World) (hC:Kd.C kIn w A f.length f) (hc:f.length≤c) (hl:f.length≤40) (hp:∀ x∈f,Prt x) (hC2:Kd.C kIn w B g.length g) (hc2:g.length≤d) (hl2:g.length≤40) (hp2:∀ x∈g,Prt x) :
  Calls Tryz.prog 7 #[.slice A f.length c,.slice B g.length d] w fun e w'=>e=.returned (.tuple #[.string (prT f),.string (prT g)])∧Below w.heap.size w w':=by
 have H1:=ak_ (oo f A c w hC hc hl hp)
 have H2:=ak_ (fun W (hb:Below w.heap.size w W)=>oo g B d W (Kd.C_below hC2 hb) hc2 hl2 hp2)
 clear hC hc hl hp hC2 hc2 hl2 hp2
 go_enter Tryz.func7,Tryz.ntmps7
 go_wp2_with (first
  | (go_at_call 14;(with_reducible refine H1.out.mono ?_);rintro e w1 ⟨rfl,hb1⟩;have HB1:=ak_ hb1;clear hb1 H1)
  | (go_at_call 14;(with_reducible refine(H2.out w1 HB1.out).mono ?_);rintro e w2 ⟨rfl,hb2⟩;have HB2:=ak_ (af HB1.out hb2);clear hb2 H2))
 refine bodyPost_ret (v:=.tuple #[.string (prT f),.string (prT g)]) (aA (rs:=[.tmp 4,.tmp 5]) rfl (by simp) (.tmp (.tmp .nil))) rfl ⟨rfl,HB2.out⟩
def Six (W:World) (g:Nat) (L:List Int):Prop:=L.length=6∧W.heap[g]?=some (.cells (L.map (Value.int .i64)).toArray 49 (0,0))
theorem Six.cell {W:World} {g:Nat} {L:List Int} (h:Six W g L) (i:Nat) (hi:i < 6):∃ n,W.cell? ⟨g,i,none⟩=some (.int .i64 n):=by
 rw[ap h.2,List.getElem?_map,List.getElem?_eq_getElem (by rw[h.1];exact hi)]
 exact⟨_,rfl⟩
theorem Six.put {W:World} {g:Nat} {L:List Int} (h:Six W g L) (i:Nat) (n:Int):Six (W.setCell ⟨g,i,none⟩ (.int .i64 n)) g (L.set i n):=⟨by rw[List.length_set];exact h.1,by rw[List.map_set];exact aJ h.2 i _⟩
structure ry (w W:World) (x:In) (g g3:Nat) (L:List Int):Prop where
 b:Below w.heap.size w W
 x:W.heap[g]?=some (.cells #[.int .i64 x.op,.int .i64 x.d,.int .i64 x.a,.int .i64 x.b,.int .i64 x.n,.int .i64 x.jt] 49 (0,0))
 r:∃ L,Six W (g+1) L
 o:Six W g3 L
theorem ry.put {w W:World} {x:In} {g g3:Nat} {L:List Int} (h:ry w W x g g3 L) (hg:w.heap.size=g∧g+1+1=g3) (i:Nat) (n:Int):ry w (W.setCell ⟨g3,i,none⟩ (.int .i64 n)) x g g3 (L.set i n):=by
 obtain⟨hg,hg3⟩:=hg
 have h3:=h.o
 obtain⟨L2,h4⟩:=h.r
 exact⟨h.b.setCell (by show w.heap.size≤g3;omega) _,a8 h.x (by show g≠g3;omega) _,⟨L2,h4.1,a8 h4.2 (by show g+1≠g3;omega) _⟩,h3.put i n⟩
theorem nR {L:List Int} (h:L.length=6):(Tryz.prog.info? 49).map (·.size)=some (L.map (Value.int .i64)).toArray.size:=by rw[List.size_toArray,List.length_map,h];exact bE
def BIs (c:Bool) (P:Prop):Prop:=c=true↔P
def pV (x:In):List Int:=
 let L1:=if x.op=1∨x.op=15 then [x.op,0,0,0,0,0].set 4 x.n else [x.op,0,0,0,0,0]
 let L2:=if x.op=16∨x.op=17 then L1.set 5 x.jt else L1
 let L3:=if x.op≤13∨x.op=15 then L2.set 1 x.d else L2
 let L4:=if x.op≠1∧x.op≠16 then L3.set 2 x.a else L3
 if (4≤x.op∧x.op≤12)∨x.op=14 then L4.set 3 x.b else L4
theorem yj (x:In):(pV x).length=6:=by
 unfold pV
 simp only
 repeat' split
 all_goals simp
theorem yf (x:In) (h:1≤x.op∧x.op≤18) (w:World):Calls Tryz.prog 71 #[.agg x.cells] w fun e w'=>e=.returned (.agg ((pV x).map (Value.int .i64)).toArray)∧Below w.heap.size w w':=by
 obtain⟨R,hR⟩:=nm_ (pV x)
 rw[←hR]
 have HRe:=ak_ hR
 clear hR
 obtain⟨op,xd,xa,xb,xn,xt⟩:=x
 simp only at h
 obtain⟨h1,h18⟩:=h
 rw[jp]
 obtain⟨g,hg⟩:=mn_ w.heap.size
 obtain⟨g3,hg3⟩:=mn_ (g+1+1)
 have HG:=ak_ (And.intro hg hg3)
 go_enter Tryz.func71,Tryz.ntmps71
 go_upto_region 2 with fail
 obtain⟨w1,hw1⟩:∃ w1,w1=((w.alloc (.cells #[.int .i64 op,.int .i64 xd,.int .i64 xa,.int .i64 xb,.int .i64 xn,.int .i64 xt] 49)).alloc (.cells #[.int .i64 0,.int .i64 0,.int .i64 0,.int .i64 0,.int .i64 0,.int .i64 0] 49)).alloc (.cells #[.int .i64 op,.int .i64 0,.int .i64 0,.int .i64 0,.int .i64 0,.int .i64 0] 49):=⟨_,rfl⟩
 have HS:=ak_ (show ry w w1 ⟨op,xd,xa,xb,xn,xt⟩ g g3 [op,0,0,0,0,0] by
  obtain⟨b1,b2,b3,b4⟩:=cw (w:=w) (w1:=w1) (by rw[hw1];exact Below.refl _ _)
  rw[hg] at b1 b2 b3
  rw[show g+2=g3 from hg3] at b3
  exact⟨b4,b1,⟨[0,0,0,0,0,0],rfl,b2⟩,⟨rfl,b3⟩⟩)
 refine ar (show _=w1 from hw1.symm) ?_
 clear hw1
 have c0:=(show w1.cell? ⟨g,0,none⟩=some (.int .i64 op) by rw[ah HS.out.x];rfl)
 clear hg hg3
 go_cut [14] from 7 to 14 (fun v wx=>∃ c:Bool,v=.bool c∧aa (BIs c (op=1∨op=15))∧wx=w1)
 case first=>
  by_cases h20:op=1
  ·have q1:(op == 1)=true:=beq_iff_eq.mpr (by omega)
   have HI:=ak_ (show BIs true (op=1∨op=15) from ⟨fun e=>by first | omega | exact absurd e (by decide),fun e=>by first | rfl | omega⟩)
   clear h1 h18 h20
   go_wp2
   go_meet
   case rel=>exact⟨_,rfl,HI,rfl⟩
  ·by_cases h21:op=15
   ·have q1:(op == 1)=false:=beq_eq_false_iff_ne.mpr (by omega)
    have q15:(op == 15)=true:=beq_iff_eq.mpr (by omega)
    have HI:=ak_ (show BIs true (op=1∨op=15) from ⟨fun e=>by first | omega | exact absurd e (by decide),fun e=>by first | rfl | omega⟩)
    clear h1 h18 h20 h21
    go_wp2
    go_meet
    case rel=>exact⟨_,rfl,HI,rfl⟩
   ·have q1:(op == 1)=false:=beq_eq_false_iff_ne.mpr (by omega)
    have q15:(op == 15)=false:=beq_eq_false_iff_ne.mpr (by omega)
    have HI:=ak_ (show BIs false (op=1∨op=15) from ⟨fun e=>by first | omega | exact absurd e (by decide),fun e=>by first | rfl | omega⟩)
    clear h1 h18 h20 h21
    go_wp2
    go_meet
    case rel=>exact⟨_,rfl,HI,rfl⟩
 case rest=>
  obtain⟨c,rfl,HI,rfl⟩:=hcut
  obtain⟨L1,hL⟩:=nm_ ((if op=1∨op=15 then [op,0,0,0,0,0].set 4 xn else [op,0,0,0,0,0]))
  have HL1:=ak_ hL
  clear hL
  go_upto_if 14 with fail
  have cv:=(show wc.cell? ⟨g,4,none⟩=some (.int .i64 xn) by rw[ah HS.out.x];rfl)
  obtain⟨ds,co,fz⟩:∃ d,wc.cell? ⟨g3,4,none⟩=some (.int .i64 d)∧wc.frozen? ⟨g3,4,none⟩=false:=by obtain⟨d,hd⟩:=HS.out.o.cell 4 (by decide);exact⟨d,hd,aq HS.out.o.2 4⟩
  go_cut [] from 15 to 17 (fun wx=>aa (ry w wx ⟨op,xd,xa,xb,xn,xt⟩ g g3 L1))
  case first=>
   cases c with
   | true=>go_wp2;go_meet;(case rel=>exact⟨by rw[HL1.out,if_pos (HI.out.1 rfl)];exact HS.out.put HG.out 4 xn⟩)
   | false=>go_wp2;go_meet;(case rel=>exact⟨by rw[HL1.out,if_neg (fun h=>Bool.noConfusion (HI.out.2 h))];exact HS.out⟩)
  case rest=>
   obtain⟨w2,hw2⟩:=nm_ wc
   rw[←hw2] at hcut ⊢
   clear HS c0 cv co fz ds hw2 HI
   have HS:=hcut
   clear hcut
   go_upto_region 4 with fail
   have c0:=(show w2.cell? ⟨g,0,none⟩=some (.int .i64 op) by rw[ah HS.out.x];rfl)
   go_cut [25] from 18 to 25 (fun v wx=>∃ c:Bool,v=.bool c∧aa (BIs c (op=16∨op=17))∧wx=w2)
   case first=>
    by_cases h20:op=16
    ·have q16:(op == 16)=true:=beq_iff_eq.mpr (by omega)
     have HI:=ak_ (show BIs true (op=16∨op=17) from ⟨fun e=>by first | omega | exact absurd e (by decide),fun e=>by first | rfl | omega⟩)
     clear h1 h18 h20
     go_wp2
     go_meet
     case rel=>exact⟨_,rfl,HI,rfl⟩
    ·by_cases h21:op=17
     ·have q16:(op == 16)=false:=beq_eq_false_iff_ne.mpr (by omega)
      have q17:(op == 17)=true:=beq_iff_eq.mpr (by omega)
      have HI:=ak_ (show BIs true (op=16∨op=17) from ⟨fun e=>by first | omega | exact absurd e (by decide),fun e=>by first | rfl | omega⟩)
      clear h1 h18 h20 h21
      go_wp2
      go_meet
      case rel=>exact⟨_,rfl,HI,rfl⟩
     ·have q16:(op == 16)=false:=beq_eq_false_iff_ne.mpr (by omega)
      have q17:(op == 17)=false:=beq_eq_false_iff_ne.mpr (by omega)
      have HI:=ak_ (show BIs false (op=16∨op=17) from ⟨fun e=>by first | omega | exact absurd e (by decide),fun e=>by first | rfl | omega⟩)
      clear h1 h18 h20 h21
      go_wp2
      go_meet
      case rel=>exact⟨_,rfl,HI,rfl⟩
   case rest=>
    obtain⟨c,rfl,HI,rfl⟩:=hcut
    obtain⟨L2,hL⟩:=nm_ ((if op=16∨op=17 then L1.set 5 xt else L1))
    have HL2:=ak_ hL
    clear hL
    go_upto_if 25 with fail
    have cv:=(show wc.cell? ⟨g,5,none⟩=some (.int .i64 xt) by rw[ah HS.out.x];rfl)
    obtain⟨ds,co,fz⟩:∃ d,wc.cell? ⟨g3,5,none⟩=some (.int .i64 d)∧wc.frozen? ⟨g3,5,none⟩=false:=by obtain⟨d,hd⟩:=HS.out.o.cell 5 (by decide);exact⟨d,hd,aq HS.out.o.2 5⟩
    go_cut [] from 26 to 28 (fun wx=>aa (ry w wx ⟨op,xd,xa,xb,xn,xt⟩ g g3 L2))
    case first=>
     cases c with
     | true=>go_wp2;go_meet;(case rel=>exact⟨by rw[HL2.out,if_pos (HI.out.1 rfl)];exact HS.out.put HG.out 5 xt⟩)
     | false=>go_wp2;go_meet;(case rel=>exact⟨by rw[HL2.out,if_neg (fun h=>Bool.noConfusion (HI.out.2 h))];exact HS.out⟩)
    case rest=>
     obtain⟨w3,hw3⟩:=nm_ wc
     rw[←hw3] at hcut ⊢
     clear HS c0 cv co fz ds hw3 HI
     have HS:=hcut
     clear hcut
     go_upto_region 6 with fail
     have c0:=(show w3.cell? ⟨g,0,none⟩=some (.int .i64 op) by rw[ah HS.out.x];rfl)
     go_cut [36] from 29 to 36 (fun v wx=>∃ c:Bool,v=.bool c∧aa (BIs c (op≤13∨op=15))∧wx=w3)
     case first=>
      by_cases h20:op≤13
      ·have q13:decide (op≤13)=true:=decide_eq_true (by omega)
       have HI:=ak_ (show BIs true (op≤13∨op=15) from ⟨fun e=>by first | omega | exact absurd e (by decide),fun e=>by first | rfl | omega⟩)
       clear h1 h18 h20
       go_wp2
       go_meet
       case rel=>exact⟨_,rfl,HI,rfl⟩
      ·by_cases h21:op=15
       ·have q13:decide (op≤13)=false:=decide_eq_false (by omega)
        have q15:(op == 15)=true:=beq_iff_eq.mpr (by omega)
        have HI:=ak_ (show BIs true (op≤13∨op=15) from ⟨fun e=>by first | omega | exact absurd e (by decide),fun e=>by first | rfl | omega⟩)
        clear h1 h18 h20 h21
        go_wp2
        go_meet
        case rel=>exact⟨_,rfl,HI,rfl⟩
       ·have q13:decide (op≤13)=false:=decide_eq_false (by omega)
        have q15:(op == 15)=false:=beq_eq_false_iff_ne.mpr (by omega)
        have HI:=ak_ (show BIs false (op≤13∨op=15) from ⟨fun e=>by first | omega | exact absurd e (by decide),fun e=>by first | rfl | omega⟩)
        clear h1 h18 h20 h21
        go_wp2
        go_meet
        case rel=>exact⟨_,rfl,HI,rfl⟩
     case rest=>
      obtain⟨c,rfl,HI,rfl⟩:=hcut
      obtain⟨L3,hL⟩:=nm_ ((if op≤13∨op=15 then L2.set 1 xd else L2))
      have HL3:=ak_ hL
      clear hL
      go_upto_if 36 with fail
      have cv:=(show wc.cell? ⟨g,1,none⟩=some (.int .i64 xd) by rw[ah HS.out.x];rfl)
      obtain⟨ds,co,fz⟩:∃ d,wc.cell? ⟨g3,1,none⟩=some (.int .i64 d)∧wc.frozen? ⟨g3,1,none⟩=false:=by obtain⟨d,hd⟩:=HS.out.o.cell 1 (by decide);exact⟨d,hd,aq HS.out.o.2 1⟩
      go_cut [] from 37 to 39 (fun wx=>aa (ry w wx ⟨op,xd,xa,xb,xn,xt⟩ g g3 L3))
      case first=>
       cases c with
       | true=>go_wp2;go_meet;(case rel=>exact⟨by rw[HL3.out,if_pos (HI.out.1 rfl)];exact HS.out.put HG.out 1 xd⟩)
       | false=>go_wp2;go_meet;(case rel=>exact⟨by rw[HL3.out,if_neg (fun h=>Bool.noConfusion (HI.out.2 h))];exact HS.out⟩)
      case rest=>
       obtain⟨w4,hw4⟩:=nm_ wc
       rw[←hw4] at hcut ⊢
       clear HS c0 cv co fz ds hw4 HI
       have HS:=hcut
       clear hcut
       go_upto_region 8 with fail
       have c0:=(show w4.cell? ⟨g,0,none⟩=some (.int .i64 op) by rw[ah HS.out.x];rfl)
       go_cut [47] from 40 to 47 (fun v wx=>∃ c:Bool,v=.bool c∧aa (BIs c (op≠1∧op≠16))∧wx=w4)
       case first=>
        by_cases h20:op=1
        ·have q1:(op != 1)=false:=by simp;omega
         have HI:=ak_ (show BIs false (op≠1∧op≠16) from ⟨fun e=>by first | omega | exact absurd e (by decide),fun e=>by first | rfl | omega⟩)
         clear h1 h18 h20
         go_wp2
         go_meet
         case rel=>exact⟨_,rfl,HI,rfl⟩
        ·by_cases h21:op=16
         ·have q1:(op != 1)=true:=by simp;omega
          have q16:(op != 16)=false:=by simp;omega
          have HI:=ak_ (show BIs false (op≠1∧op≠16) from ⟨fun e=>by first | omega | exact absurd e (by decide),fun e=>by first | rfl | omega⟩)
          clear h1 h18 h20 h21
          go_wp2
          go_meet
          case rel=>exact⟨_,rfl,HI,rfl⟩
         ·have q1:(op != 1)=true:=by simp;omega
          have q16:(op != 16)=true:=by simp;omega
          have HI:=ak_ (show BIs true (op≠1∧op≠16) from ⟨fun e=>by first | omega | exact absurd e (by decide),fun e=>by first | rfl | omega⟩)
          clear h1 h18 h20 h21
          go_wp2
          go_meet
          case rel=>exact⟨_,rfl,HI,rfl⟩
       case rest=>
        obtain⟨c,rfl,HI,rfl⟩:=hcut
        obtain⟨L4,hL⟩:=nm_ ((if op≠1∧op≠16 then L3.set 2 xa else L3))
        have HL4:=ak_ hL
        clear hL
        go_upto_if 47 with fail
        have cv:=(show wc.cell? ⟨g,2,none⟩=some (.int .i64 xa) by rw[ah HS.out.x];rfl)
        obtain⟨ds,co,fz⟩:∃ d,wc.cell? ⟨g3,2,none⟩=some (.int .i64 d)∧wc.frozen? ⟨g3,2,none⟩=false:=by obtain⟨d,hd⟩:=HS.out.o.cell 2 (by decide);exact⟨d,hd,aq HS.out.o.2 2⟩
        go_cut [] from 48 to 50 (fun wx=>aa (ry w wx ⟨op,xd,xa,xb,xn,xt⟩ g g3 L4))
        case first=>
         cases c with
         | true=>go_wp2;go_meet;(case rel=>exact⟨by rw[HL4.out,if_pos (HI.out.1 rfl)];exact HS.out.put HG.out 2 xa⟩)
         | false=>go_wp2;go_meet;(case rel=>exact⟨by rw[HL4.out,if_neg (fun h=>Bool.noConfusion (HI.out.2 h))];exact HS.out⟩)
        case rest=>
         obtain⟨w5,hw5⟩:=nm_ wc
         rw[←hw5] at hcut ⊢
         clear HS c0 cv co fz ds hw5 HI
         have HS:=hcut
         clear hcut
         go_upto_region 10 with fail
         have c0:=(show w5.cell? ⟨g,0,none⟩=some (.int .i64 op) by rw[ah HS.out.x];rfl)
         go_cut [63] from 51 to 63 (fun v wx=>∃ c:Bool,v=.bool c∧aa (BIs c ((4≤op∧op≤12)∨op=14))∧wx=w5)
         case first=>
          by_cases h20:op < 4
          ·have q4:decide (4≤op)=false:=decide_eq_false (by omega)
           have q14:(op == 14)=false:=beq_eq_false_iff_ne.mpr (by omega)
           have HI:=ak_ (show BIs false ((4≤op∧op≤12)∨op=14) from ⟨fun e=>by first | omega | exact absurd e (by decide),fun e=>by first | rfl | omega⟩)
           clear h1 h18 h20
           go_wp2
           go_meet
           case rel=>exact⟨_,rfl,HI,rfl⟩
          ·by_cases h21:op≤12
           ·have q4:decide (4≤op)=true:=decide_eq_true (by omega)
            have q12:decide (op≤12)=true:=decide_eq_true (by omega)
            have HI:=ak_ (show BIs true ((4≤op∧op≤12)∨op=14) from ⟨fun e=>by first | omega | exact absurd e (by decide),fun e=>by first | rfl | omega⟩)
            clear h1 h18 h20 h21
            go_wp2
            go_meet
            case rel=>exact⟨_,rfl,HI,rfl⟩
           ·by_cases h22:op=14
            ·have q4:decide (4≤op)=true:=decide_eq_true (by omega)
             have q12:decide (op≤12)=false:=decide_eq_false (by omega)
             have q14:(op == 14)=true:=beq_iff_eq.mpr (by omega)
             have HI:=ak_ (show BIs true ((4≤op∧op≤12)∨op=14) from ⟨fun e=>by first | omega | exact absurd e (by decide),fun e=>by first | rfl | omega⟩)
             clear h1 h18 h20 h21 h22
             go_wp2
             go_meet
             case rel=>exact⟨_,rfl,HI,rfl⟩
            ·have q4:decide (4≤op)=true:=decide_eq_true (by omega)
             have q12:decide (op≤12)=false:=decide_eq_false (by omega)
             have q14:(op == 14)=false:=beq_eq_false_iff_ne.mpr (by omega)
             have HI:=ak_ (show BIs false ((4≤op∧op≤12)∨op=14) from ⟨fun e=>by first | omega | exact absurd e (by decide),fun e=>by first | rfl | omega⟩)
             clear h1 h18 h20 h21 h22
             go_wp2
             go_meet
             case rel=>exact⟨_,rfl,HI,rfl⟩
         case rest=>
          obtain⟨c,rfl,HI,rfl⟩:=hcut
          obtain⟨L5,hL⟩:=nm_ ((if (4≤op∧op≤12)∨op=14 then L4.set 3 xb else L4))
          have HL5:=ak_ hL
          clear hL
          go_upto_if 63 with fail
          have cv:=(show wc.cell? ⟨g,3,none⟩=some (.int .i64 xb) by rw[ah HS.out.x];rfl)
          obtain⟨ds,co,fz⟩:∃ d,wc.cell? ⟨g3,3,none⟩=some (.int .i64 d)∧wc.frozen? ⟨g3,3,none⟩=false:=by obtain⟨d,hd⟩:=HS.out.o.cell 3 (by decide);exact⟨d,hd,aq HS.out.o.2 3⟩
          go_cut [] from 64 to 66 (fun wx=>aa (ry w wx ⟨op,xd,xa,xb,xn,xt⟩ g g3 L5))
          case first=>
           cases c with
           | true=>go_wp2;go_meet;(case rel=>exact⟨by rw[HL5.out,if_pos (HI.out.1 rfl)];exact HS.out.put HG.out 3 xb⟩)
           | false=>go_wp2;go_meet;(case rel=>exact⟨by rw[HL5.out,if_neg (fun h=>Bool.noConfusion (HI.out.2 h))];exact HS.out⟩)
          case rest=>
           obtain⟨w6,hw6⟩:=nm_ wc
           rw[←hw6] at hcut ⊢
           clear HS c0 cv co fz ds hw6 HI
           have HS:=hcut
           clear hcut
           obtain⟨L2,hr⟩:=HS.out.r
           have ho:=HS.out.o
           obtain⟨L,hL⟩:=nm_ L5
           rw[←hL] at ho
           have HLR:=ak_ (show L=R by rw[hL,HRe.out,HL5.out,HL4.out,HL3.out,HL2.out,HL1.out];rfl)
           clear hL
           have HLd:=ak_ (aT (P:=Tryz.prog) ho.2 Tryz.underlying49 rfl (nR ho.1))
           have HO:=ak_ ho
           have HR:=ak_ hr
           have HB:=ak_ HS.out.b
           clear hr ho HS h1 h18
           go_wp2_with (first
            | ((with_reducible refine aj (N:=67) rfl ?_);refine ax rfl _ (al rfl rfl HLd.out) ?_)
            | ((with_reducible refine ao (t:=49) (p:=2) rfl ?_);refine an rfl 49 _ _ rfl (g+1) (L.map (Value.int .i64)).toArray rfl rfl 49 (L2.map (Value.int .i64)).toArray HR.out.2 (nR HO.out.1) (by rw[List.size_toArray,List.size_toArray,List.length_map,List.length_map,HR.out.1,HO.out.1]) (by simp[Value.oneCell']) ?_;intro w7 h7 hf7;have H7:=ak_ h7;have HF7:=ak_ hf7;clear h7 hf7))
           exact bodyPost_ret (v:=.agg (L.map (Value.int .i64)).toArray) (results_cell_row rfl _ _ (g+1) 49 _ (0,0) _ rfl H7.out Tryz.underlying49 rfl (nR HO.out.1)) rfl ⟨by rw[HLR.out],Fr.below HB.out HF7.out (fun k hk e=>by have:=HG.out.1;omega) HB.out.size⟩
theorem yG {aF:Act} {p:Oper} {x y:Operand} {t:TypeId} {x0 y0 x1 y1 x2 y2 x3 y3 x4 y4 x5 y5:Int} {b:Bool} (hp:p.op=.binOp .neq 49 x y t) (hx:aF.eval x=.agg #[.int .i64 x0,.int .i64 x1,.int .i64 x2,.int .i64 x3,.int .i64 x4,.int .i64 x5]) (hy:aF.eval y=.agg #[.int .i64 y0,.int .i64 y1,.int .i64 y2,.int .i64 y3,.int .i64 y4,.int .i64 y5])
  (hb:(!(x0 == y0 && (x1 == y1 && (x2 == y2 && (x3 == y3 && (x4 == y4 && (x5 == y5)))))))=b) (w:World):(execOp aF.eval p).run Tryz.prog w=.ok (.value (.bool b)) w:=by
 have hk:Tryz.prog.eqGuardType Tryz.prog.depth 49=false:=by kernel_rfl
 have h1:(eqGuard .neq 49 x y (.agg #[.int .i64 x0,.int .i64 x1,.int .i64 x2,.int .i64 x3,.int .i64 x4,.int .i64 x5]) (.agg #[.int .i64 y0,.int .i64 y1,.int .i64 y2,.int .i64 y3,.int .i64 y4,.int .i64 y5])).run Tryz.prog w=.ok () w:=by
  simp[eqGuard,run_program,hk]
 have h:(Op.equal 49 (.agg #[.int .i64 x0,.int .i64 x1,.int .i64 x2,.int .i64 x3,.int .i64 x4,.int .i64 x5]) (.agg #[.int .i64 y0,.int .i64 y1,.int .i64 y2,.int .i64 y3,.int .i64 y4,.int .i64 y5])).run Tryz.prog w=.ok (x0 == y0 && (x1 == y1 && (x2 == y2 && (x3 == y3 && (x4 == y4 && (x5 == y5)))))) w:=CG 9998 w _ _ _ _ _ _ _ _ _ _ _ _
 unfold execOp
 simp only[hp,hx,hy,Sem.run_bind,h1,binOp,h,Result.andThen_ok,Sem.run_pure,hb]
theorem ov (l:Int) (w:World):Calls Tryz.prog 72 #[.int .i64 l] w fun e w'=>e=.returned (.bool (decide (0≤l) && decide (l < 24)))∧w'=w:=by
 by_cases h0:0≤l
 ·have q0:decide (0≤l)=true:=decide_eq_true h0
  clear h0
  go_enter Tryz.func72,Tryz.ntmps72
  go_wp2
  go_ret
  exact⟨by rw[q0];rfl,rfl⟩
 ·have q0:decide (0≤l)=false:=decide_eq_false h0
  clear h0
  go_enter Tryz.func72,Tryz.ntmps72
  go_wp2
  go_ret
  exact⟨by rw[q0];rfl,rfl⟩
theorem oq (l:Int) (w:World):Calls Tryz.prog 73 #[.int .i64 l] w fun e w'=>e=.returned (.bool (decide (0≤l) && decide (l < 8)))∧w'=w:=by
 by_cases h0:0≤l
 ·have q0:decide (0≤l)=true:=decide_eq_true h0
  clear h0
  go_enter Tryz.func73,Tryz.ntmps73
  go_wp2
  go_ret
  exact⟨by rw[q0];rfl,rfl⟩
 ·have q0:decide (0≤l)=false:=decide_eq_false h0
  clear h0
  go_enter Tryz.func73,Tryz.ntmps73
  go_wp2
  go_ret
  exact⟨by rw[q0];rfl,rfl⟩
def CkQ (op:Int) (w:World) (e:Ending) (w':World):Prop:=∃ r:Int,e=.returned (.int .i64 r)∧(r=0→1≤op∧op≤18)∧Below w.heap.size w w'
theorem tG (x:In) (n:Int) (w:World):Calls Tryz.prog 40 #[.agg x.cells,.int .i64 n] w (CkQ x.op w):=by
 have HO:=ak_ (fun h W=>yf x h W)
 obtain⟨l0,l1,l2,l3,l4,l5,hL⟩:∃ a b c d e f,pV x=[a,b,c,d,e,f]:=by
  have h:=yj x
  rcases hL:pV x with _ | ⟨a,_ | ⟨b,_ | ⟨c,_ | ⟨d,_ | ⟨e,_ | ⟨f,_ | ⟨z,t⟩⟩⟩⟩⟩⟩⟩ <;> rw[hL] at h <;> simp at h
  exact⟨a,b,c,d,e,f,rfl⟩
 rw[hL] at HO
 clear hL
 obtain⟨op,xd,xa,xb,xn,xt⟩:=x
 simp only at HO ⊢
 rw[jp] at HO ⊢
 by_cases h1:op < 1
 ·have q1:decide (op < 1)=true:=decide_eq_true h1
  have HX:=ak_ h1
  clear HO h1
  go_enter Tryz.func40,Tryz.ntmps40
  go_upto_region 1 with fail
  go_quiet (fail)
  go_wp2
  go_ret
  exact⟨1,rfl,fun h=>absurd h (by decide),aI (ae (Below.refl _ _) _) _⟩
 by_cases h18:18 < op
 ·have q1:decide (op < 1)=false:=decide_eq_false h1
  have q2:decide (18 < op)=true:=decide_eq_true h18
  clear HO h1 h18
  go_enter Tryz.func40,Tryz.ntmps40
  go_upto_region 1 with fail
  go_quiet (fail)
  go_wp2
  go_ret
  exact⟨1,rfl,fun h=>absurd h (by decide),aI (ae (Below.refl _ _) _) _⟩
 have hop:1≤op∧op≤18:=by omega
 have HOp:=ak_ hop
 have HOn:=ak_ (HO.out hop)
 have q1:decide (op < 1)=false:=decide_eq_false h1
 have q2:decide (18 < op)=false:=decide_eq_false h18
 clear hop h1 h18 HO
 obtain⟨g,hg⟩:=mn_ w.heap.size
 obtain⟨w1,hw1⟩:∃ w1,w1=w.alloc (.cells #[.int .i64 op,.int .i64 xd,.int .i64 xa,.int .i64 xb,.int .i64 xn,.int .i64 xt] 49):=⟨_,rfl⟩
 have H1:=ak_ (show w1.heap[g]?=some (.cells #[.int .i64 op,.int .i64 xd,.int .i64 xa,.int .i64 xb,.int .i64 xn,.int .i64 xt] 49 (0,0)) by rw[hw1,←hg];exact heap_alloc_last w _)
 have HB1:=ak_ (show Below w.heap.size w w1 by rw[hw1];exact ae (Below.refl _ _) _)
 have HW1:=ak_ hw1
 have HI3:=ak_ (show ∀ W,(isAgg 3).run Tryz.prog W=.ok false W from fun W=>by kernel_rfl)
 have HI2:=ak_ (show ∀ W,(isAgg 2).run Tryz.prog W=.ok false W from fun W=>by kernel_rfl)
 obtain⟨b17,h17⟩:=mn_ ((!(l0 == op && (l1 == xd && (l2 == xa && (l3 == xb && (l4 == xn && (l5 == xt))))))))
 obtain⟨b22,h22⟩:=mn_ ((op == 15))
 obtain⟨b26,h26⟩:=mn_ (decide (xn < 0))
 obtain⟨b30,h30⟩:=mn_ (decide (99 < xn))
 have HNe:=ak_ h17
 have HQs:=ak_ (And.intro h22 (And.intro h26 h30))
 clear hw1 h17 h22 h26 h30
 go_enter Tryz.func40,Tryz.ntmps40
 go_upto_region 1 with fail
 refine ar (show _=w1 from HW1.out.symm) ?_
 clear HW1 hg
 go_cut [33] from 5 to 33 (fun v wx=>∃ b:Bool,v=.bool b∧aa (Below w.heap.size w wx∧wx.heap[g]?=some (.cells #[.int .i64 op,.int .i64 xd,.int .i64 xa,.int .i64 xb,.int .i64 xn,.int .i64 xt] 49 (0,0))))
 case first=>
  obtain⟨h22,h26,h30⟩:=HQs.out
  refine f_ [(5,.pointer (some ⟨g,0,none⟩)),(6,.int .i64 op),(7,.bool false),(8,.bool false),(9,.pointer (some ⟨g,0,none⟩)),(10,.int .i64 op),(11,.bool false),(12,.bool false),(13,.bool false),(14,.agg #[.int .i64 op,.int .i64 xd,.int .i64 xa,.int .i64 xb,.int .i64 xn,.int .i64 xt]),(15,.agg #[.int .i64 l0,.int .i64 l1,.int .i64 l2,.int .i64 l3,.int .i64 l4,.int .i64 l5]),(16,.agg #[.int .i64 op,.int .i64 xd,.int .i64 xa,.int .i64 xb,.int .i64 xn,.int .i64 xt]),(17,.bool b17),(18,.bool b17),(19,.bool b17),
   (20,if b17=true then undef else .pointer (some ⟨g,0,none⟩)),(21,if b17=true then undef else .int .i64 op),(22,if b17=true then undef else .bool b22),(23,if b17=true then undef else .bool b22),
   (24,if (!b17 && b22)=true then .pointer (some ⟨g,4,none⟩) else undef),(25,if (!b17 && b22)=true then .int .i64 xn else undef),(26,if (!b17 && b22)=true then .bool b26 else undef),(27,if (!b17 && b22)=true then .bool b26 else undef),
   (28,if (!b17 && b22 && !b26)=true then .pointer (some ⟨g,4,none⟩) else undef),(29,if (!b17 && b22 && !b26)=true then .int .i64 xn else undef),(30,if (!b17 && b22 && !b26)=true then .bool b30 else undef),
   (31,if (!b17 && b22)=true then .bool (b26 || b30) else undef),(32,if b17=true then undef else .bool (b22 && (b26 || b30))),(33,.bool (b17 || (b22 && (b26 || b30))))]
   (fun L W=>Fr (fun _=>False) w1 W) (by kernel_rfl) (by kernel_rfl) (by kernel_rfl) ?_
  intro aF haF
  simp only[bd,Act.put,List.setIfInBounds_toArray,List.set_cons_succ,List.set_cons_zero] at haF
  subst haF
  refine⟨?_,⟨rfl,rfl,rfl,Nat.le_refl _,fun _ _ _=>rfl⟩,?_⟩
  ·intro j o2 ho L W hc hr hst
   have hB:W.heap[g]?=_:=(hst.block _ (ai H1.out) (fun h=>h)).trans H1.out
   have hc:b17=true∨(b17=false∧b22=false)∨(b17=false∧b22=true∧b26=true)∨(b17=false∧b22=true∧b26=false):=by cases b17 <;> cases b22 <;> cases b26 <;> simp
   rcases hc with rfl | ⟨rfl,rfl⟩ | ⟨rfl,rfl,rfl⟩ | ⟨rfl,rfl,rfl⟩
   all_goals
    rcases j with _ | _ | _ | _ | _ | _ | _ | _ | _ | _ | _ | _ | _ | _ | _ | _ | _ | _ | _ | _ | _ | _ | _ | _ | _ | _ | _ | _ | _ | j
    ·obtain rfl:=Option.some.inj ho
     first
      | exact aD rfl (by go_simp) rfl hst
      | exact br rfl rfl hst
    ·obtain rfl:=Option.some.inj ho
     first
      | exact aD rfl (al rfl rfl (aE (HI3.out W) ((ah hB 0).trans rfl))) rfl hst
      | exact br rfl rfl hst
    ·obtain rfl:=Option.some.inj ho
     first
      | exact aD rfl (by go_simp) rfl hst
      | exact br rfl rfl hst
    ·obtain rfl:=Option.some.inj ho
     first
      | exact aD rfl (by go_simp) rfl hst
      | exact br rfl rfl hst
    ·obtain rfl:=Option.some.inj ho
     first
      | exact aD rfl (by go_simp) rfl hst
      | exact br rfl rfl hst
    ·obtain rfl:=Option.some.inj ho
     first
      | exact aD rfl (al rfl rfl (aE (HI3.out W) ((ah hB 0).trans rfl))) rfl hst
      | exact br rfl rfl hst
    ·obtain rfl:=Option.some.inj ho
     first
      | exact aD rfl (by go_simp) rfl hst
      | exact br rfl rfl hst
    ·obtain rfl:=Option.some.inj ho
     first
      | exact aD rfl (by go_simp) rfl hst
      | exact br rfl rfl hst
    ·obtain rfl:=Option.some.inj ho
     first
      | exact aD rfl (by go_simp) rfl hst
      | exact br rfl rfl hst
    ·obtain rfl:=Option.some.inj ho
     first
      | exact aD rfl (al rfl rfl (aT (P:=Tryz.prog) hB Tryz.underlying49 rfl bE)) rfl hst
      | exact br rfl rfl hst
    ·obtain rfl:=Option.some.inj ho
     first
      | exact gQ rfl Tryz.func71 (by kernel_rfl) rfl #[.agg #[.int .i64 op,.int .i64 xd,.int .i64 xa,.int .i64 xb,.int .i64 xn,.int .i64 xt]] rfl rfl ((HOn.out W).mono (fun e w' h=>⟨_,h.1,rfl,hst.trans (Fr.of_below h.2)⟩))
      | exact br rfl rfl hst
    ·obtain rfl:=Option.some.inj ho
     first
      | exact aD rfl (al rfl rfl (aT (P:=Tryz.prog) hB Tryz.underlying49 rfl bE)) rfl hst
      | exact br rfl rfl hst
    ·obtain rfl:=Option.some.inj ho
     first
      | exact aD rfl (yG rfl rfl rfl HNe.out W) rfl hst
      | exact br rfl rfl hst
    ·obtain rfl:=Option.some.inj ho
     first
      | exact aD rfl (by go_simp) rfl hst
      | exact br rfl rfl hst
    ·obtain rfl:=Option.some.inj ho
     first
      | exact aD rfl (by go_simp) rfl hst
      | exact br rfl rfl hst
    ·obtain rfl:=Option.some.inj ho
     first
      | exact aD rfl (by go_simp) rfl hst
      | exact br rfl rfl hst
    ·obtain rfl:=Option.some.inj ho
     first
      | exact aD rfl (al rfl rfl (aE (HI3.out W) ((ah hB 0).trans rfl))) rfl hst
      | exact br rfl rfl hst
    ·obtain rfl:=Option.some.inj ho
     first
      | exact aD rfl (by go_simp) rfl hst
      | exact br rfl rfl hst
    ·obtain rfl:=Option.some.inj ho
     first
      | exact aD rfl (by go_simp) rfl hst
      | exact br rfl rfl hst
    ·obtain rfl:=Option.some.inj ho
     first
      | exact aD rfl (by go_simp) rfl hst
      | exact br rfl rfl hst
    ·obtain rfl:=Option.some.inj ho
     first
      | exact aD rfl (al rfl rfl (aE (HI2.out W) ((ah hB 4).trans rfl))) rfl hst
      | exact br rfl rfl hst
    ·obtain rfl:=Option.some.inj ho
     first
      | exact aD rfl (by go_simp) rfl hst
      | exact br rfl rfl hst
    ·obtain rfl:=Option.some.inj ho
     first
      | exact aD rfl (by go_simp) rfl hst
      | exact br rfl rfl hst
    ·obtain rfl:=Option.some.inj ho
     first
      | exact aD rfl (by go_simp) rfl hst
      | exact br rfl rfl hst
    ·obtain rfl:=Option.some.inj ho
     first
      | exact aD rfl (al rfl rfl (aE (HI2.out W) ((ah hB 4).trans rfl))) rfl hst
      | exact br rfl rfl hst
    ·obtain rfl:=Option.some.inj ho
     first
      | exact aD rfl (by go_simp) rfl hst
      | exact br rfl rfl hst
    ·obtain rfl:=Option.some.inj ho
     first
      | exact aD rfl (by go_simp) rfl hst
      | exact br rfl rfl hst
    ·obtain rfl:=Option.some.inj ho
     first
      | exact aD rfl (by go_simp) rfl hst
      | exact br rfl rfl hst
    ·obtain rfl:=Option.some.inj ho
     first
      | exact aD rfl (by go_simp) rfl hst
      | exact br rfl rfl hst
    ·exact absurd (Array.getElem?_eq_some_iff.1 ho).1 (by simp)
  intro L w2 hall hst
  have HR:=ak_ (And.intro (Fr.below (S:=fun _=>False) HB1.out hst (fun k hk h=>h) HB1.out.size) ((hst.block _ (ai H1.out) (fun h=>h)).trans H1.out))
  clear hst hall
  go_wp2
  all_goals
   go_meet
   (case rel=>exact⟨_,rfl,HR⟩)
 case rest=>
  obtain⟨b33,rfl,hbw⟩:=hcut
  obtain⟨w2,hw2⟩:=nm_ wc
  rw[←hw2] at hbw ⊢
  have HB2:=ak_ hbw.out.1
  have H2:=ak_ hbw.out.2
  clear hbw HB1 H1 HOn HI2 HI3 hw2 HQs HNe
  go_upto_if 33 with fail
  cases b33 with
  | true=>
   clear q1 q2
   go_wp2
   go_ret
   exact⟨1,rfl,fun h=>absurd h (by decide),HB2.out⟩
  | false=>
   clear q1 q2
   obtain⟨b3,h3⟩:=mn_ (decide (op≤3))
   have c0:=(show w2.cell? ⟨g,0,none⟩=some (.int .i64 op) by rw[ah H2.out];rfl)
   have c1:=(show w2.cell? ⟨g,1,none⟩=some (.int .i64 xd) by rw[ah H2.out];rfl)
   have c2:=(show w2.cell? ⟨g,2,none⟩=some (.int .i64 xa) by rw[ah H2.out];rfl)
   have c3:=(show w2.cell? ⟨g,3,none⟩=some (.int .i64 xb) by rw[ah H2.out];rfl)
   have c5:=(show w2.cell? ⟨g,5,none⟩=some (.int .i64 xt) by rw[ah H2.out];rfl)
   go_upto_if 36 with fail
   go_cut [] from 37 to 62 (fun wx=>wx=w2)
   case first=>
    cases b3 with
    | true=>
     have P1:=ak_ (ov xd w2)
     have P2:=ak_ (ov xa w2)
     obtain⟨pd,hpd⟩:=mn_ ((decide (0≤xd) && decide (xd < 24)))
     obtain⟨pa,hpa⟩:=mn_ ((decide (0≤xa) && decide (xa < 24)))
     rw[hpd] at P1
     rw[hpa] at P2
     clear hpd hpa
     cases pd <;> cases pa
     all_goals
      go_wp2_with (first
       | (go_at_call 72;(with_reducible refine P1.out.mono ?_);rintro e w3 ⟨rfl,rfl⟩)
       | (go_at_call 72;(with_reducible refine P2.out.mono ?_);rintro e w3 ⟨rfl,rfl⟩))
      first
       | (go_meet;(case rel=>rfl))
       | (go_ret;exact⟨6,rfl,fun h=>absurd h (by decide),HB2.out⟩)
    | false=>
     have P1:=ak_ (oq xd w2)
     have P2:=ak_ (oq xa w2)
     have P3:=ak_ (oq xb w2)
     obtain⟨pd,hpd⟩:=mn_ ((decide (0≤xd) && decide (xd < 8)))
     obtain⟨pa,hpa⟩:=mn_ ((decide (0≤xa) && decide (xa < 8)))
     obtain⟨pb,hpb⟩:=mn_ ((decide (0≤xb) && decide (xb < 8)))
     rw[hpd] at P1
     rw[hpa] at P2
     rw[hpb] at P3
     clear hpd hpa hpb
     cases pd <;> cases pa <;> cases pb
     all_goals
      go_wp2_with (first
       | (go_at_call 73;(with_reducible refine P1.out.mono ?_);rintro e w3 ⟨rfl,rfl⟩)
       | (go_at_call 73;(with_reducible refine P2.out.mono ?_);rintro e w3 ⟨rfl,rfl⟩)
       | (go_at_call 73;(with_reducible refine P3.out.mono ?_);rintro e w3 ⟨rfl,rfl⟩))
      first
       | (go_meet;(case rel=>rfl))
       | (go_ret;exact⟨6,rfl,fun h=>absurd h (by decide),HB2.out⟩)
   case rest=>
    obtain rfl:=hcut
    obtain⟨b16,h16⟩:=mn_ ((op == 16))
    obtain⟨b17',h17'⟩:=mn_ ((op == 17))
    obtain⟨b0,h0⟩:=mn_ (decide (xt < 0))
    obtain⟨bn,hn⟩:=mn_ (decide (n≤xt))
    clear c1 c2 c3 h3
    cases b16 <;> cases b17' <;> cases b0 <;> cases bn
    all_goals
     go_wp2
     go_ret
     first
      | exact⟨0,rfl,fun _=>HOp.out,HB2.out⟩
      | exact⟨4,rfl,fun h=>absurd h (by decide),HB2.out⟩
def y7 (f:List In):Prop:=∀ x∈f,1≤x.op∧x.op≤18
def DX (f:List In) (w:World) (e:Ending) (w':World):Prop:=∃ p r:Int,e=.returned (.tuple #[.int .i64 p,.int .i64 r])∧(r=0→y7 f)∧Below w.heap.size w w'
theorem tE (f:List In) (A:Option Addr) (c:Nat) (w:World) (hC:Kd.C kIn w A f.length f) (hc:f.length≤c) (hl:f.length≤40):Calls Tryz.prog 31 #[.slice A f.length c] w (DX f w):=by
 have HC:=ak_ hC
 have hl2:(f.length:Int)≤40:=by omega
 have q1:decide (200 < (f.length:Int))=false:=decide_eq_false (by omega)
 have HCl:=ak_ hc
 clear hC hl hc
 by_cases h0:f.length=0
 ·have q2:((f.length:Int) == 0)=true:=beq_iff_eq.mpr (by omega)
  have HE:=ak_ (List.eq_nil_of_length_eq_zero h0)
  clear h0
  go_enter Tryz.func31,Tryz.ntmps31
  go_wp2
  refine bodyPost_ret (v:=.tuple #[.int .i64 0,.int .i64 5]) (aA (rs:=[.tmp 2,.tmp 3]) rfl (by simp) (.tmp (.tmp .nil))) rfl ⟨0,5,rfl,fun h=>absurd h (by decide),Below.refl _ _⟩
 have q2:((f.length:Int) == 0)=false:=beq_eq_false_iff_ne.mpr (by omega)
 have HN0:=ak_ h0
 clear h0
 go_enter Tryz.func31,Tryz.ntmps31
 go_wp2
 go_loopw [4] (fun i wr=>∃ k:Nat,i=.int .i64 k∧aa (k≤f.length∧y7 (f.take k)∧Below w.heap.size w wr)) (fun i _=>f.length - (intOf i).toNat)
 case atStart=>exact⟨0,rfl,⟨Nat.zero_le _,fun x hx=>by simp at hx,Below.refl _ _⟩⟩
 case round=>
  obtain⟨k,rfl,HK⟩:=hrel
  obtain⟨hk,ho,hb⟩:=HK.out
  by_cases hkl:k < f.length
  ·have hkl':(k:Int) < (f.length:Int):=by omega
   obtain⟨x,hx⟩:∃ x,f[k]?=some x:=⟨_,List.getElem?_eq_getElem hkl⟩
   have HPr:=ak_ (tG x f.length)
   obtain⟨ad,cs,rfl,hK,hld⟩:=aW (P:=Tryz.prog) HC.out hb k hkl x hx 49 Tryz.underlying49 rfl bE
   obtain rfl:cs=[.int .i64 x.op,.int .i64 x.d,.int .i64 x.a,.int .i64 x.b,.int .i64 x.n,.int .i64 x.jt]:=hK
   have HLd:=ak_ (show (loadVar 49 (ad.add (k * 6))).run Tryz.prog wr=.ok (.agg #[.int .i64 x.op,.int .i64 x.d,.int .i64 x.a,.int .i64 x.b,.int .i64 x.n,.int .i64 x.jt]) wr from hld)
   have HPr2:=ak_ (show ∀ w,Calls Tryz.prog 40 #[.agg #[.int .i64 x.op,.int .i64 x.d,.int .i64 x.a,.int .i64 x.b,.int .i64 x.n,.int .i64 x.jt],.int .i64 f.length] w (CkQ x.op w) from HPr.out)
   have HO:=ak_ ho
   have HB:=ak_ hb
   have HKl:=ak_ hkl
   have HX:=ak_ hx
   clear hx HPr hld hb ho hk hkl HK
   go_upto_if 27 with (first
    | ((with_reducible refine aj (N:=22) rfl ?_);refine au rfl 49 _ rfl (ad.add (k * 6)) rfl _ HLd.out ?_)
    | (go_at_call 40;refine(HPr2.out _).mono ?_;rintro e w4 ⟨r,rfl,hr,hb4⟩;have HB4:=ak_ (af HB.out hb4);have HR:=ak_ hr;clear hb4 hr))
   by_cases h0:r=0
   ·have q0:(r != 0)=false:=by simp[h0]
    have H0:=ak_ h0
    clear h0
    go_wp2
    go_roundw
    case rel=>
     refine⟨k+1,by go_num,⟨HKl.out,fun y hy=>?_,HB4.out⟩⟩
     rw[List.take_add_one,HX.out] at hy
     rcases List.mem_append.1 hy with hy | hy
     ·exact HO.out y hy
     ·have:y=x:=by simpa using hy
      subst this
      exact HR.out H0.out
    case measure=>have:=HKl.out;simp[intOf];omega
   ·have q0:(r != 0)=true:=bne_iff_ne.mpr h0
    have H0:=ak_ h0
    clear h0
    go_wp2
    refine bodyPost_ret (v:=.tuple #[.int .i64 k,.int .i64 r]) (aA (rs:=[.tmp 2,.tmp 3]) rfl (by simp) (.tmp (.tmp .nil))) rfl ⟨k,r,rfl,fun h=>absurd h H0.out,HB4.out⟩
  ·obtain rfl:k=f.length:=by omega
   rw[List.take_length] at ho
   have HO:=ak_ ho
   have HB:=ak_ hb
   have hp:f.length - 1 < f.length:=by have:=HN0.out;omega
   obtain⟨x,hx⟩:∃ x,f[f.length - 1]?=some x:=⟨_,List.getElem?_eq_getElem hp⟩
   obtain⟨ad,rfl,d0,d1,d2,d3,d4,d5⟩:=po (Kd.C_below HC.out hb) (f.length - 1) hp x hx
   obtain⟨m,hm⟩:∃ m:Nat,f.length=m+1:=⟨f.length - 1,by omega⟩
   have hm1:m+1 - 1=m:=rfl
   rw[hm,hm1] at d0
   rw[hm] at hl2
   have hlt:(m:Int) < ((m+1:Nat):Int):=by omega
   have hnl:¬ ((m+1:Nat):Int) < ((m+1:Nat):Int):=by omega
   have hsub:IntKind.i64.wrap (((m+1:Nat):Int) - 1)=(m:Int):=by rw[IntWalk.i64_in _ (by omega)];omega
   rw[hm] at q1 q2
   clear hk hkl HK hb ho hx hp d1 d2 d3 d4 d5 hm1
   have fin:∀ (p r:Int),DX f w (.returned (.tuple #[.int .i64 p,.int .i64 r])) wr:=fun p r=>⟨p,r,rfl,fun _=>HO.out,HB.out⟩
   have HFin:=ak_ fin
   by_cases c16:x.op=16
   ·have z1:(x.op == 16)=true:=beq_iff_eq.mpr c16
    rw[hm]
    clear c16 hm fin
    go_wp2
    exact bodyPost_ret (v:=.tuple #[.int .i64 0,.int .i64 0]) (aA (rs:=[.tmp 2,.tmp 3]) rfl (by simp) (.tmp (.tmp .nil))) rfl (HFin.out _ _)
   ·have z1:(x.op == 16)=false:=beq_eq_false_iff_ne.mpr c16
    by_cases c18:x.op=18
    ·have z2:(x.op == 18)=true:=beq_iff_eq.mpr c18
     rw[hm]
     clear c16 c18 hm fin
     go_wp2
     exact bodyPost_ret (v:=.tuple #[.int .i64 0,.int .i64 0]) (aA (rs:=[.tmp 2,.tmp 3]) rfl (by simp) (.tmp (.tmp .nil))) rfl (HFin.out _ _)
    ·have z2:(x.op == 18)=false:=beq_eq_false_iff_ne.mpr c18
     rw[hm]
     clear c16 c18 hm fin
     go_wp2
     exact bodyPost_ret (v:=.tuple #[.int .i64 m,.int .i64 5]) (aA (rs:=[.tmp 2,.tmp 3]) rfl (by simp) (.tmp (.tmp .nil))) rfl (HFin.out _ _)
def BQ (P:Prop) (w:World) (e:Ending) (w':World):Prop:=∃ b:Bool,e=.returned (.bool b)∧(b=true→P)∧Below w.heap.size w w'
theorem om (f:List In) (A:Option Addr) (c:Nat) (w:World) (hC:Kd.C kIn w A f.length f) (hc:f.length≤c) (hl:f.length≤40):Calls Tryz.prog 13 #[.slice A f.length c] w (BQ (y7 f) w):=by
 have H:=ak_ (tE f A c w hC hc hl)
 clear hC hc hl
 go_enter Tryz.func13,Tryz.ntmps13
 go_wp2_with (go_at_call 31;refine H.out.mono ?_;rintro e w1 ⟨p,r,rfl,hr,hb⟩;have HR:=ak_ hr;have HB:=ak_ hb;clear hr hb)
 go_ret
 exact⟨_,rfl,fun h=>HR.out (by simpa using h),HB.out⟩
def th (f g:List In):Prop:=(f.length≤40∧g.length≤40)∧y7 f∧y7 g
theorem rI (f g:List In) (A B:Option Addr) (c d:Nat) (w:World) (hC:Kd.C kIn w A f.length f) (hc:f.length≤c) (hD:Kd.C kIn w B g.length g) (hd:g.length≤d) (hf63:f.length≤9223372036854775807) (hg63:g.length≤9223372036854775807) :
  Calls Tryz.prog 12 #[.slice A f.length c,.slice B g.length d,.agg #[.int .i64 0,.int .i64 0,.int .i64 0,.int .i64 0,.int .i64 0,.int .i64 0,.int .i64 0,.int .i64 0,.slice none 0 0,.slice none 0 0,.int .i64 0]] w (BQ (th f g) w):=by
 by_cases h1:f.length≤40
 ·have q1:decide ((f.length:Int)≤40)=true:=decide_eq_true (by omega)
  by_cases h2:g.length≤40
  ·have q2:decide ((g.length:Int)≤40)=true:=decide_eq_true (by omega)
   have H1:=ak_ (fun W (hb:Below w.heap.size w W)=>om f A c W (Kd.C_below hC hb) hc h1)
   have H2:=ak_ (fun W (hb:Below w.heap.size w W)=>om g B d W (Kd.C_below hD hb) hd h2)
   have HL:=ak_ (And.intro h1 h2)
   clear hC hc hD hd hf63 hg63 h1 h2
   go_enter Tryz.func12,Tryz.ntmps12
   go_wp2_with (first
    | (go_at_call 13;(with_reducible refine(H1.out _ (ae (Below.refl _ _) _)).mono ?_);rintro e w1 ⟨b1,rfl,hr,hb⟩;have HR1:=ak_ hr;have HB1:=ak_ (af (ae (Below.refl _ _) _) hb);clear hr hb H1)
    | (go_at_call 13;(with_reducible refine(H2.out _ HB1.out).mono ?_);rintro e w2 ⟨b2,rfl,hr,hb⟩;have HR2:=ak_ hr;have HB2:=ak_ (af HB1.out hb);clear hr hb H2))
   ·go_ret
    exact⟨_,rfl,fun h=>⟨HL.out,HR1.out (by assumption),HR2.out h⟩,HB2.out⟩
   ·go_ret
    exact⟨_,rfl,fun h=>absurd h (by decide),HB1.out⟩
  ·have q2:decide ((g.length:Int)≤40)=false:=decide_eq_false (by omega)
   clear hC hc hD hd hf63 hg63 h1 h2
   go_enter Tryz.func12,Tryz.ntmps12
   go_wp2
   go_ret
   exact⟨false,rfl,fun h=>(by cases h),ae (Below.refl _ _) _⟩
 ·have q1:decide ((f.length:Int)≤40)=false:=decide_eq_false (by omega)
  clear hC hc hD hd hf63 hg63 h1
  go_enter Tryz.func12,Tryz.ntmps12
  go_wp2
  go_ret
  exact⟨false,rfl,fun h=>(by cases h),ae (Below.refl _ _) _⟩
theorem mt {a b:ByteArray}:fN a b=0↔((ay a).2.2=0∧(ay b).2.2=0)∧bD (ay a).1=bD (ay b).1:=by
 unfold fN
 by_cases h:(ay a).2.2=0∧(ay b).2.2=0
 ·rw[if_pos h]
  by_cases h2:bD (ay a).1=bD (ay b).1
  ·rw[if_pos h2];exact⟨fun _=>⟨h,h2⟩,fun _=>rfl⟩
  ·rw[if_neg h2]
   split
   ·exact⟨fun e=>absurd e (by decide),fun e=>absurd e.2 h2⟩
   ·exact⟨fun e=>absurd e (by decide),fun e=>absurd e.2 h2⟩
 ·rw[if_neg h]
  exact⟨fun e=>absurd e (by decide),fun e=>absurd e.1 h⟩
theorem vz (a b:ByteArray):fN a b=0↔fN b a=0:=by
 rw[mt,mt]
 exact⟨fun h=>⟨⟨h.1.2,h.1.1⟩,h.2.symm⟩,fun h=>⟨⟨h.1.2,h.1.1⟩,h.2.symm⟩⟩
theorem Bh {a b c:ByteArray} (h:fN a b=0) (k:fN b c=0):fN a c=0:=by
 rw[mt] at *
 exact⟨⟨h.1.1,k.1.2⟩,h.2.trans k.2⟩
theorem Bf.mk2 {w:World} {a b:ByteArray} {e:Ending} {w':World} (h:Bf w a b e w'):∃ (rest:List Value),e=.returned (.agg (.int .i64 (fN a b) :: rest).toArray)∧Below w.heap.size w w':=by
 obtain⟨row,h1,h2,h3⟩:=h
 have hv:=h2.v
 rcases row with _ | ⟨x,rest⟩
 ·simp at hv
 ·simp only[List.head?_cons,Option.some.injEq] at hv
  subst hv
  exact⟨rest,h1,h3⟩
theorem nE (v:Int) (rest:List Value) (W:World):(Instr.field 39 (.agg (.int .i64 v :: rest).toArray) 0).run Tryz.prog W=.ok (.int .i64 v) W:=by
 unfold Instr.field
 simp[run_underlying Tryz.underlying39,Sem.run_bind,Result.andThen,asAgg,part,show ∀ W,(isAgg 3).run Tryz.prog W=.ok false W from fun W=>by kernel_rfl]
theorem vG (f g h:List In) (A B C:Option Addr) (cf cg ch:Nat) (w:World) (hG:Gl w) (hC:Kd.C kIn w A f.length f) (hc:f.length≤cf) (hD:Kd.C kIn w B g.length g) (hd:g.length≤cg) (hE:Kd.C kIn w C h.length h) (he:h.length≤ch)
  (hf63:f.length≤9223372036854775807) (hg63:g.length≤9223372036854775807) (hh63:h.length≤9223372036854775807)
  (hif:∀ x∈f,inI x.d∧inI x.a∧inI x.b∧inI x.n∧inI x.jt) (hig:∀ x∈g,inI x.d∧inI x.a∧inI x.b∧inI x.n∧inI x.jt) (hih:∀ x∈h,inI x.d∧inI x.a∧inI x.b∧inI x.n∧inI x.jt) :
  Calls Tryz.prog 4 #[.slice A f.length cf,.slice B g.length cg,.slice C h.length ch] w fun e w'=>e=.returned (.bool true)∧Below w.heap.size w w':=by
 have HF1:=ak_ (rI f g A B cf cg w hC hc hD hd hf63 hg63)
 have HF2:=ak_ (fun W (hb:Below w.heap.size w W)=>rI g h B C cg ch W (Kd.C_below hD hb) hd (Kd.C_below hE hb) he hg63 hh63)
 have HWk:=ak_ (fun W (hb:Below w.heap.size w W)=>vD W (hG.below hb))
 have HDc:=ak_ (fun (a b:ByteArray) (ha:Asc a∧a.size≤20000) (hb2:Asc b∧b.size≤20000) W (hb:Below w.heap.size w W)=>(iN a b ha.1 hb2.1 ha.2 hb2.2 W (hG.below hb)).mono (fun e w' hq=>hq.mk2))
 have prt:∀ (l:List In),(∀ x∈l,inI x.d∧inI x.a∧inI x.b∧inI x.n∧inI x.jt)→y7 l→∀ x∈l,Prt x:=fun l h1 h2 x hx=>⟨h2 x hx,(h1 x hx).1,(h1 x hx).2.1,(h1 x hx).2.2.1,(h1 x hx).2.2.2.1,(h1 x hx).2.2.2.2⟩
 have HT1:=ak_ (fun (hp:th f g) W (hb:Below w.heap.size w W)=>pL f g A B cf cg W (Kd.C_below hC hb) hc hp.1.1 (prt f hif hp.2.1) (Kd.C_below hD hb) hd hp.1.2 (prt g hig hp.2.2))
 have HT2:=ak_ (fun (hp:th g h) W (hb:Below w.heap.size w W)=>pL g h B C cg ch W (Kd.C_below hD hb) hd hp.1.1 (prt g hig hp.2.1) (Kd.C_below hE hb) he hp.1.2 (prt h hih hp.2.2))
 clear hG hC hc hD hd hE he hf63 hg63 hh63 hif hig hih prt
 go_enter Tryz.func4,Tryz.ntmps4
 go_upto_if 26 with (first
  | (go_at_call 12;(with_reducible refine HF1.out.mono ?_);rintro e w1 ⟨b1,rfl,hr,hb⟩;have HR1:=ak_ hr;have HB1:=ak_ hb;clear hr hb HF1)
  | (go_at_call 12;(with_reducible refine(HF2.out _ HB1.out).mono ?_);rintro e w2 ⟨b2,rfl,hr,hb⟩;have HR2:=ak_ hr;have HB2:=ak_ (af HB1.out hb);clear hr hb HF2))
 rotate_left
 ·go_wp2_with (go_at_call 6;refine(HWk.out _ HB1.out).mono ?_;rintro e w3 ⟨rfl,hb⟩;have HB3:=ak_ (af HB1.out hb);clear hb)
  go_ret
  exact⟨rfl,HB3.out⟩
 have hb1:th f g:=HR1.out (by assumption)
 have HP1:=ak_ hb1
 clear hb1
 cases b2 with
 | false=>
  go_wp2_with (go_at_call 6;refine(HWk.out _ HB2.out).mono ?_;rintro e w3 ⟨rfl,hb⟩;have HB3:=ak_ (af HB2.out hb);clear hb)
  go_ret
  exact⟨rfl,HB3.out⟩
 | true=>
  have HP2:=ak_ (show th g h from HR2.out (by simp))
  have T1:=ak_ (HT1.out HP1.out)
  have T2:=ak_ (HT2.out HP2.out)
  obtain⟨s,hs⟩:=nm_ (prT f)
  obtain⟨t,ht⟩:=nm_ (prT g)
  obtain⟨u,hu⟩:=nm_ (prT h)
  have os:Asc s∧s.size≤20000:=by rw[hs];exact tJ f HP1.out.1.1
  have ot:Asc t∧t.size≤20000:=by rw[ht];exact tJ g HP1.out.1.2
  have ou:Asc u∧u.size≤20000:=by rw[hu];exact tJ h HP2.out.1.2
  rw[←hs,←ht] at T1
  rw[←ht,←hu] at T2
  have D1:=ak_ (HDc.out s t os ot)
  have D2:=ak_ (HDc.out t u ot ou)
  have D3:=ak_ (HDc.out s u os ou)
  have D4:=ak_ (HDc.out t s ot os)
  have c1:=vz s t
  have c2:fN s t=0→fN t u=0→fN s u=0:=Bh
  obtain⟨va,ha⟩:=nm_ (fN s t)
  obtain⟨vb,hvb⟩:=nm_ (fN t u)
  obtain⟨vc,hc⟩:=nm_ (fN s u)
  obtain⟨vd,hd⟩:=nm_ (fN t s)
  rw[←ha,←hd] at c1
  rw[←ha,←hvb,←hc] at c2
  rw[←ha] at D1
  rw[←hvb] at D2
  rw[←hc] at D3
  rw[←hd] at D4
  have HC:=ak_ (And.intro c1 c2)
  clear hs ht hu os ot ou c1 c2 ha hvb hc hd HT1 HT2 HDc HR1 HR2
  go_upto_region 9 with (first
   | (go_at_call 7;(with_reducible refine(T1.out _ HB2.out).mono ?_);rintro e w3 ⟨rfl,hb⟩;have HB3:=ak_ (af HB2.out hb);clear hb T1)
   | (go_at_call 7;(with_reducible refine(T2.out _ HB3.out).mono ?_);rintro e w4 ⟨rfl,hb⟩;have HB4:=ak_ (af HB3.out hb);clear hb T2)
   | (go_at_call 8;(with_reducible refine(D1.out _ HB4.out).mono ?_);rintro e w5 ⟨r1,rfl,hb⟩;have z1:=nE va r1;have HB5:=ak_ (af HB4.out hb);clear hb D1)
   | (go_at_call 8;(with_reducible refine(D2.out _ HB5.out).mono ?_);rintro e w6 ⟨r2,rfl,hb⟩;have z2:=nE vb r2;have HB6:=ak_ (af HB5.out hb);clear hb D2)
   | (go_at_call 8;(with_reducible refine(D3.out _ HB6.out).mono ?_);rintro e w7 ⟨r3,rfl,hb⟩;have z3:=nE vc r3;have HB7:=ak_ (af HB6.out hb);clear hb D3)
   | (go_at_call 8;(with_reducible refine(D4.out _ HB7.out).mono ?_);rintro e w8 ⟨r4,rfl,hb⟩;have z4:=nE vd r4;have HB8:=ak_ (af HB7.out hb);clear hb D4))
  obtain⟨c1,c2⟩:=HC.out
  clear z1 z2 z3 z4 HC
  have k1:(va == 0)=(vd == 0):=by
   rw[Bool.eq_iff_iff,beq_iff_eq,beq_iff_eq]
   exact c1
  have k2:(va == 0)=true→(vb == 0)=true→(vc == 0)=true:=fun h1 h2=>beq_iff_eq.mpr (c2 (beq_iff_eq.mp h1) (beq_iff_eq.mp h2))
  obtain⟨ba,e1⟩:=mn_ ((va == 0))
  obtain⟨bb,e2⟩:=mn_ ((vb == 0))
  obtain⟨bc,e3⟩:=mn_ ((vc == 0))
  rw[e1] at k1
  rw[←k1,e1,e2,e3]
  rw[e1,e2,e3] at k2
  clear c1 c2 e1 e2 e3 k1
  cases ba with
  | false=>
   clear k2
   go_wp2_with (go_at_call 6;refine(HWk.out _ HB8.out).mono ?_;rintro e w9 ⟨rfl,hb⟩;have HB9:=ak_ (af HB8.out hb);clear hb)
   go_ret
   exact⟨rfl,HB9.out⟩
  | true=>
   cases bb with
   | false=>
    clear k2
    go_wp2_with (go_at_call 6;refine(HWk.out _ HB8.out).mono ?_;rintro e w9 ⟨rfl,hb⟩;have HB9:=ak_ (af HB8.out hb);clear hb)
    go_ret
    exact⟨rfl,HB9.out⟩
   | true=>
    obtain rfl:=k2 rfl rfl
    clear k2
    go_wp2_with (go_at_call 6;refine(HWk.out _ HB8.out).mono ?_;rintro e w9 ⟨rfl,hb⟩;have HB9:=ak_ (af HB8.out hb);clear hb)
    go_ret
    exact⟨rfl,HB9.out⟩
section
open Go.ChangeShapes Go.WideShapes Go.ChangeAt Go.WideElems
theorem f6 {H:Type} {enc:TypeId × Value→H} {P:Program} {W:World} {base:Nat} {sp:Nat→Bool} {held:Bool} {fs:Array Field} {n:Nat} {cs:List Value} {xs:List (DataW H × List MemPlace)}
  (hx:xs.length=fs.size) (hf:∀ (i:Nat) (f:Field),fs[i]?=some f→DataW.trod enc P W base sp held n f.type ((cs.drop f.offset).take (P.cellsOf f.type))=xs[i]?) (j:Nat) (f:Field) (hj:fs[j]?=some f) (hu:P.underlying f.type=some (.int .i64)) (hc:P.cellsOf f.type=1) (ho:f.offset=j) :
  ∃ k,cs[j]?=some (.int .i64 k)∧inI k∧(xs[j]?).map (·.1)=some (.lit (.int .i64 k)):=by
 have h3:=hf j f hj
 have hl:j < xs.length:=by rw[hx];exact(Array.getElem?_eq_some_iff.1 hj).1
 rw[ho,hc,List.getElem?_eq_getElem hl] at h3
 obtain⟨k,e1,e2,e3⟩:=DataW.trod_int hu h3
 refine⟨k,?_,?_,?_⟩
 ·have:=congrArg (fun z=>z[0]?) e1
  simpa using this
 ·simp[Lit.wf,IntKind.min,IntKind.max,IntKind.signed,IntKind.bits] at e3
  unfold inI
  omega
 ·rw[List.getElem?_eq_getElem hl,e2]
  rfl
theorem kY {H:Type} {enc:TypeId × Value→H} {W:World} {base:Nat} {sp:Nat→Bool} {held:Bool} {a:Option Addr} {len cap:Nat} {d:DataW H} {p:List MemPlace}
  (h:DataW.Trod enc Tryz.prog W base sp held 22 (.slice a len cap) d p) :
  ∃ l:List In,len=l.length∧Kd.C kIn W a l.length l∧l.length≤cap∧l.length≤9223372036854775807∧∀ x∈l,inI x.d∧inI x.a∧inI x.b∧inI x.n∧inI x.jt:=by
 obtain⟨fuel,hf⟩:=h
 rcases Go.Deep.open_slice Tryz.underlying22 hf with ⟨hcs,_⟩ | ⟨x,l,c,m,n,D,Pl,hcs,_,hl,hm,hmm,_,hel⟩
 ·simp[Value.cells] at hcs
  obtain⟨rfl,rfl,rfl⟩:=hcs
  exact⟨[],rfl,Kd.C_nil _ _,Nat.le_refl _,Nat.zero_le _,fun x hx=>absurd hx List.not_mem_nil⟩
 ·simp[Value.cells] at hcs
  obtain⟨rfl,rfl,rfl⟩:=hcs
  have hc49:Tryz.prog.cellsOf 49=6:=by kernel_rfl
  have hc3:Tryz.prog.cellsOf 3=1:=by kernel_rfl
  have hc2:Tryz.prog.cellsOf 2=1:=by kernel_rfl
  have hlm:len≤m:=by rw[hmm];split <;> omega
  have each:∀ i,i < len→∃ y:In,(∀ j u,([.int .i64 y.op,.int .i64 y.d,.int .i64 y.a,.int .i64 y.b,.int .i64 y.n,.int .i64 y.jt]:List Value)[j]?=some u→W.cell? (x.add (i * 6+j))=some u)∧inI y.d∧inI y.a∧inI y.b∧inI y.n∧inI y.jt:=by
   intro i hi
   obtain⟨cs,h1,h2⟩:=hel i (by omega)
   rw[hc49] at h1
   obtain⟨xs,n',_,_,hl6,hx6,hfs⟩:=DataW.trod_struct Tryz.underlying49 h2
   obtain⟨k0,c0,i0,_⟩:=f6 hx6 hfs 0 _ rfl Tryz.underlying3 hc3 rfl
   obtain⟨k1,c1,i1,_⟩:=f6 hx6 hfs 1 _ rfl Tryz.underlying3 hc3 rfl
   obtain⟨k2,c2,i2,_⟩:=f6 hx6 hfs 2 _ rfl Tryz.underlying3 hc3 rfl
   obtain⟨k3,c3,i3,_⟩:=f6 hx6 hfs 3 _ rfl Tryz.underlying3 hc3 rfl
   obtain⟨k4,c4,i4,_⟩:=f6 hx6 hfs 4 _ rfl Tryz.underlying2 hc2 rfl
   obtain⟨k5,c5,i5,_⟩:=f6 hx6 hfs 5 _ rfl Tryz.underlying3 hc3 rfl
   refine⟨⟨k0,k1,k2,k3,k4,k5⟩,fun j u hu=>?_,i1,i2,i3,i4,i5⟩
   have hj:j < 6:=(List.getElem?_eq_some_iff.1 hu).1
   rw[←fU,(World.cells?_some h1).2.2 j hj,←hu]
   rcases j with _ | _ | _ | _ | _ | _ | j
   ·exact c0
   ·exact c1
   ·exact c2
   ·exact c3
   ·exact c4
   ·exact c5
   ·omega
  refine⟨(List.range len).map (fun i=>if h:i < len then (each i h).choose else In.zero),by simp,?_,by simpa using hl,by simp;unfold maxLen at hm;omega,fun y hy=>?_⟩
  ·refine⟨by simp,by simp;unfold maxLen at hm;omega,fun _=>⟨x,rfl,fun j p hp=>?_⟩⟩
   rw[List.getElem?_map] at hp
   obtain⟨i,hi,rfl⟩:=Option.map_eq_some_iff.1 hp
   obtain⟨hj,rfl⟩:j < len∧j=i:=by
    obtain⟨h1,h2⟩:=List.getElem?_eq_some_iff.1 hi
    simp at h1 h2
    exact⟨h1,h2⟩
   rw[dif_pos hj]
   exact⟨_,rfl,rfl,(each j hj).choose_spec.1⟩
  ·obtain⟨i,hi,rfl⟩:=List.mem_map.1 hy
   rw[dif_pos (List.mem_range.1 hi)]
   exact(each i (List.mem_range.1 hi)).choose_spec.2
def sA:List (String × DataW Unit):=[("joinery/ins.shapes",Rows.laid_joinery_ins_shapes),("joinery/value.open",Rows.laid_joinery_value_open)]
theorem B7:Tryz.prog.globalNamed "joinery/ins.shapes"=some 0:=by kernel_rfl
theorem DJ:Tryz.prog.globalNamed "joinery/value.open"=some 1:=by kernel_rfl
theorem Bl:(Tryz.prog.globals[0]?).map (·.type)=some 170:=by kernel_rfl
theorem Du:(Tryz.prog.globals[1]?).map (·.type)=some 135:=by kernel_rfl
theorem tW {W:World} (h:laidMetH Tryz.prog sA W):Gl W:=by
 rw[MakeChecks.laidMetH_plain _ _ _ (by kernel_rfl)] at h
 obtain⟨ps,⟨g0,t0,cs0,f0,p0,q0,hg0,ht0,hv0,hd0,⟨g1,t1,cs1,f1,p1,q1,hg1,ht1,hv1,hd1,_,_⟩,_⟩,_,_⟩:=h
 obtain rfl:=Option.some.inj (B7.symm.trans hg0)
 obtain rfl:=Option.some.inj (DJ.symm.trans hg1)
 obtain rfl:=Option.some.inj (Bl.symm.trans ht0)
 obtain rfl:=Option.some.inj (Du.symm.trans ht1)
 have hc3:Tryz.prog.cellsOf 3=1:=by kernel_rfl
 have hc2:Tryz.prog.cellsOf 2=1:=by kernel_rfl
 have hc9:Tryz.prog.cellsOf 9=1:=by kernel_rfl
 have hc169:Tryz.prog.cellsOf 169=2:=by kernel_rfl
 have h1:W.cell? ⟨1,0,none⟩=some (.int .i64 (-1))∧W.cell? ⟨1,1,none⟩=some (.int .i64 0):=by
  obtain⟨xs,n',_,hx,_,hx2,hfs⟩:=DataW.trod_struct Tryz.underlying135 hd1
  obtain⟨k0,c0,_,e0⟩:=f6 hx2 hfs 0 _ rfl Tryz.underlying3 hc3 rfl
  obtain⟨k1,c1,_,e1⟩:=f6 hx2 hfs 1 _ rfl Tryz.underlying2 hc2 rfl
  simp only[Prod.mk.injEq,Rows.laid_joinery_value_open,DataW.agg.injEq] at hx
  rw[←List.getElem?_map,←hx.1] at e0 e1
  simp at e0 e1
  subst e0 e1
  exact⟨(World.var?_cell hg1 hv1 0).trans (by simpa using c0),(World.var?_cell hg1 hv1 1).trans (by simpa using c1)⟩
 refine⟨fun i hi=>?_,h1.1,h1.2,World.block_lt_of_cell? W _ h1.1⟩
 obtain⟨xs,m,_,hx,_,hx18,hel⟩:=DataW.trod_array Tryz.underlying170 hd0
 have hi2:=hel i hi
 rw[hc169,List.getElem?_eq_getElem (show i < xs.length by omega)] at hi2
 obtain⟨y0,y1,n',hy,_,hy0,hy1⟩:=trod_struct2 Tryz.underlying169 hi2
 obtain⟨s0,d0,e0,_⟩:=DataW.trod_string Tryz.underlying9 hy0
 obtain⟨s1,d1,e1,_⟩:=DataW.trod_string Tryz.underlying9 hy1
 have hL:(Rows.laid_joinery_ins_shapes:DataW Unit)=.agg (a_.map fun p=>.agg [.lit (.string p.1.data.toList),.lit (.string p.2.data.toList)]):=rfl
 simp only[Prod.mk.injEq,hL,DataW.agg.injEq] at hx
 have hp:a_[i]?=some (a_.getD i (mkS [],mkS [])):=by rw[List.getD_eq_getElem?_getD,List.getElem?_eq_getElem (show i < a_.length from hi)];rfl
 obtain⟨p,hp2⟩:∃ p,p=a_.getD i (mkS [],mkS []):=⟨_,rfl⟩
 rw[←hp2] at hp ⊢
 have hxi:(xs.map (·.1))[i]?=some (.agg [.lit (.string p.1.data.toList),.lit (.string p.2.data.toList)]):=by rw[←hx.1,List.getElem?_map,hp];rfl
 rw[List.getElem?_map,List.getElem?_eq_getElem (show i < xs.length by omega),hy] at hxi
 simp only[Option.map_some,Option.some.injEq,DataW.agg.injEq,List.cons.injEq,and_true] at hxi
 rw[e0,e1] at hxi
 simp only[DataW.lit.injEq,Lit.string.injEq] at hxi
 have str:∀ a b:ByteArray,a.data.toList=b.data.toList→a=b:=fun a b h=>ByteArray.ext (Array.toList_inj.1 h)
 have z0:=str _ _ hxi.1
 have z1:=str _ _ hxi.2
 subst z0 z1
 have k0:=congrArg (fun z=>z[0]?) d0
 have k1:=congrArg (fun z=>z[0]?) d1
 rw[hc9] at k0 k1
 simp at k0 k1
 exact⟨(World.var?_cell hg0 hv0 _).trans k0,(World.var?_cell hg0 hv0 _).trans k1⟩
end
end Go.Proofs.YtlinbehijfcelaaGreatDoor.Top
