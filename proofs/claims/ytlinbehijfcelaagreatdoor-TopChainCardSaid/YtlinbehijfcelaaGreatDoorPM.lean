/- Walks of the program, and what it computes, told plainly. No condition. (VD VE VF) -/
import Derived.Test.YtlinbehijfcelaaGreatDoorPL
set_option linter.unusedVariables false
set_option linter.unusedSimpArgs false
set_option linter.unusedSectionVars false
set_option maxHeartbeats 8000000
set_option maxRecDepth 100000
namespace Go.Proofs.YtlinbehijfcelaaGreatDoor.Top
open Go.RowKit Go.Proofs.YtlinbehijfcelaaGreatDoorW.PrintWords Go.Proofs.YtlinbehijfcelaaGreatDoorW.PrintLast
structure Pw where
 l:List (Bool × Int)
 h:List Int
 at_:Int
 asked:Int
 evs:List Ev
 how:Int
 val:Int
def Pw.wk (p:Pw) (x:In) (vH vA vE:Value):Wk:=⟨p.l,vH,p.at_,p.asked,x,vA,vE,p.how,p.val⟩
def IsP (W:World) (g:Nat) (x:In) (vA:Value) (p:Pw):Prop:=∃ vH vE,bT W g (p.wk x vH vA vE)∧RdT (Kd.int .i64) 2 W vH p.h∧RdT kEv 105 W vE p.evs
def Pw.num (p:Pw) (i:Int):Int:=(p.l.getD i.toNat (false,0)).2
def Pw.setP (p:Pw) (d v how:Int):Pw:=if how=0 then { p with how:=how,l:=p.l.set d.toNat (true,v) } else { p with how:=how }
def Pw.next (p:Pw) (n:Int):Pw:=if p.how=0 then { p with at_:=n } else p
def Pw.storeP (p:Pw) (a b:Int):Pw:=if (jr p.h a b).2=0 then { p with how:=(jr p.h a b).2,h:=(jr p.h a b).1 } else { p with how:=(jr p.h a b).2 }
def Pw.callP (p:Pw) (x:In) (ask:List Int) (a:Int):Pw:=if (ask.length:Int)≤p.asked then { p with how:=5 } else { p with evs:=[⟨x.n,a,ask.getD p.asked.toNat 0⟩],asked:=p.asked+1,how:=0,l:=p.l.set x.d.toNat (true,ask.getD p.asked.toNat 0) }
def Pw.moveP (p:Pw) (x:In):Pw:={ p with l:=if x.op=1 then p.l.set x.d.toNat (true,x.n) else if x.op=2 then p.l.set x.d.toNat (p.l.getD x.a.toNat (false,0)) else if x.op=3 then (p.l.set x.d.toNat (p.l.getD x.a.toNat (false,0))).set x.a.toNat (p.l.getD x.d.toNat (false,0)) else p.l }
def doP (x:In) (ask:List Int) (p:Pw):Pw:=
 if x.op=13 then (p.setP x.d (qg p.h (p.num x.a)).1 (qg p.h (p.num x.a)).2).next (p.at_+1)
 else if x.op=14 then (p.storeP (p.num x.a) (p.num x.b)).next (p.at_+1)
 else if x.op=15 then (p.callP x ask (p.num x.a)).next (p.at_+1)
 else if x.op=18 then { p with how:=1,val:=p.num x.a }
 else if x.op=17 then p.next (if p.num x.a=0 then x.jt else p.at_+1)
 else if x.op=16 then p.next x.jt
 else if x.moves=false then (p.setP x.d (num_Do.v x.op (p.num x.a) (p.num x.b)).1 (num_Do.v x.op (p.num x.a) (p.num x.b)).2).next (p.at_+1)
 else (p.moveP x).next (p.at_+1)
theorem bT.cells {W:World} {g:Nat} {k:Wk} (h:bT W g k):W.cell? ⟨g,48,none⟩=some k.vH∧W.cell? ⟨g,49,none⟩=some (.int .i64 k.at_)∧W.cell? ⟨g,51,none⟩=some (.int .i64 k.x.op)∧W.cell? ⟨g,53,none⟩=some (.int .i64 k.x.a)∧W.cell? ⟨g,54,none⟩=some (.int .i64 k.x.b)∧W.cell? ⟨g,56,none⟩=some (.int .i64 k.x.jt)∧W.cell? ⟨g,59,none⟩=some (.int .i64 k.how)∧W.cell? ⟨g,60,none⟩=some (.int .i64 k.val):=
 ⟨by rw[show 48=48+0 from rfl,h.cell];rfl,by rw[show 49=48+1 from rfl,h.cell];rfl,by rw[show 51=48+3 from rfl,h.cell];rfl,by rw[show 53=48+5 from rfl,h.cell];rfl,by rw[show 54=48+6 from rfl,h.cell];rfl,by rw[show 56=48+8 from rfl,h.cell];rfl,by rw[show 59=48+11 from rfl,h.cell];rfl,by rw[show 60=48+12 from rfl,h.cell];rfl⟩
theorem bW {W:World} {g:Nat} {k:Wk} (h:bT W g k) {t:Nat} (ht:t≠197):∀ j cs fr,j=g→W.heap[j]?≠some (.cells cs t fr):=fun j cs fr e h2=>by
 subst e
 rw[h.1] at h2
 injection h2 with h2
 injection h2 with _ h2
 exact ht h2.symm
theorem Dp {W:World} {g:Nat} {k:Wk} (h:bT W g k):(loadVar 49 ⟨g,51,none⟩).run Tryz.prog W=.ok (.agg k.x.cells) W:=by
 refine bU h.1 49 51 [.int .i64 k.x.op,.int .i64 k.x.d,.int .i64 k.x.a,.int .i64 k.x.b,.int .i64 k.x.n,.int .i64 k.x.jt] ?_ _ Tryz.underlying49 rfl bE
 unfold Wk.cells
 rw[List.drop_append,dJ,h.2,List.drop_of_length_le (by rw[dJ,h.2];decide)]
 rfl
theorem zP (p:Pw) (x:In) (vH vA vE:Value):(p.wk x vH vA vE).moveW=(p.moveP x).wk x vH vA vE:=by
 unfold Wk.moveW Pw.moveP
 by_cases h1:x.op=1
 ·simp[h1,Pw.wk,Wk.put]
 ·by_cases h2:x.op=2
  ·simp[h2,Pw.wk,Wk.put,Wk.at]
  ·by_cases h3:x.op=3
   ·simp[h3,Pw.wk,Wk.put,Wk.at]
   ·simp[h1,h2,h3,Pw.wk]
theorem Bm (g:Nat) (x:In) (n:Int) (hx:Cu n x) (ask:List Int) (vA:Value) (p:Pw) (w:World) (hP:IsP w g x vA p) (hA:RdT (Kd.int .i64) 2 w vA ask) (h0:0≤p.asked) (hl:ask.length≤100000) (hat:0≤p.at_∧p.at_≤1000) (hh:p.h.length≤5000) (hh0:p.how=0) :
  Calls Tryz.prog 92 #[.pointer (some ⟨g,0,none⟩)] w fun e w'=>e=.returned (.tuple #[])∧IsP w' g x vA (doP x ask p)∧Fr (fun j=>j=g) w w':=by
 obtain⟨vH,vE,hW,hH,hE⟩:=hP
 obtain⟨k,hk⟩:=nm_ (p.wk x vH vA vE)
 rw[←hk] at hW
 obtain⟨a,ha⟩:∃ a:Nat,x.a=a:=⟨x.a.toNat,by have:=hx.a;omega⟩
 obtain⟨b,hb⟩:∃ b:Nat,x.b=b:=⟨x.b.toNat,by have:=hx.b;omega⟩
 have hWd:bT w.drew g k:=hW.below (az (Below.refl _ _))
 obtain⟨AH,cH,hvH,_,hCH,_⟩:=hH.below (az (Below.refl _ _))
 obtain⟨va,hva⟩:=nm_ ((k.at a).2)
 obtain⟨vb,hvb⟩:=nm_ ((k.at b).2)
 have HNa:=ak_ ((mZ g k a (by have:=hx.a;omega) w.drew hWd).mono (fun e w' h=>(⟨h.1,h.2.symm⟩:e=.returned (.int .i64 (k.at a).2)∧w'=w.drew)))
 have HNb:=ak_ ((mZ g k b (by have:=hx.b;omega) w.drew hWd).mono (fun e w' h=>(⟨h.1,h.2.symm⟩:e=.returned (.int .i64 (k.at b).2)∧w'=w.drew)))
 rw[←hva] at HNa
 rw[←hvb] at HNb
 obtain⟨d0,d1,d2,d3,d4,d5,d6,d7⟩:=hWd.cells
 obtain⟨w1,hw1⟩:=nm_ w.drew
 have hW1:bT w1 g k:=by rw[hw1];exact hWd
 have hF1:Fr (fun j=>j=g) w w1:=by rw[hw1];exact Fr.drew
 have hH1:RdT (Kd.int .i64) 2 w1 vH p.h:=by rw[hw1];exact hH.below (az (Below.refl _ _))
 have hE1:RdT kEv 105 w1 vE p.evs:=by rw[hw1];exact hE.below (az (Below.refl _ _))
 have hA1:RdT (Kd.int .i64) 2 w1 vA ask:=by rw[hw1];exact hA.below (az (Below.refl _ _))
 obtain⟨e0,e1,e2,e3,e4,e5,e6,e7⟩:=hW1.cells
 have f49:=aq hW1.1 49
 have f59:=aq hW1.1 59
 have f60:=aq hW1.1 60
 have hna:p.num x.a=va:=by rw[hva,hk,ha];rfl
 have hnb:p.num x.b=vb:=by rw[hvb,hk,hb];rfl
 rw[show k.x.a=(a:Int) by rw[hk];exact ha] at d3 e3
 rw[show k.x.b=(b:Int) by rw[hk];exact hb] at d4 e4
 rw[show k.x.op=x.op by rw[hk];rfl] at d2 e2
 rw[show k.x.jt=x.jt by rw[hk];rfl] at e5
 rw[show k.at_=p.at_ by rw[hk];rfl] at e1
 rw[show k.how=0 by rw[hk];exact hh0] at e6
 rw[show k.vH=.slice AH p.h.length cH by rw[hk];exact hvH] at e0
 rw[←hw1] at hCH
 have hkx:k.x=x:=by rw[hk];rfl
 have hd:0≤k.x.d∧k.x.d < 24:=by rw[hkx];have:=hx.d;omega
 have HLoad:=ak_ (yv p.h AH cH va w1 hh hCH)
 have HStore:=ak_ (tU p.h AH cH va vb w1 hh hCH)
 have HSet:=ak_ (fun v how W (hW:bT W g k)=>rP g k v how W hW hd.1 hd.2)
 have HCall:=ak_ (zl g k ask va w1 hW1 (by rw[show k.vA=vA by rw[hk];rfl];exact hA1.rd) (by rw[hk];exact h0) hl hd)
 have HMove:=ak_ (fun W (hW:bT W g k)=>v4 g k W hW hd (by rw[hkx];have:=hx.a;omega))
 have HNum:=ak_ (fun W=>num_Do.calls x.op va vb _ _ W (show num_Do.f x.op va vb=some ((num_Do.v x.op va vb).1,(num_Do.v x.op va vb).2) from rfl))
 have HMv:=ak_ (iU x w1)
 have HX6:=ak_ (Dp hW1)
 rw[hkx] at HX6
 obtain⟨p1,hp1⟩:=nm_ (doP x ask p)
 rw[←hp1]
 unfold doP at hp1
 rw[hna,hnb] at hp1
 have HDo:=ak_ hp1
 have hx1:=hx.op
 have hat1:=hat.1
 have hat2:=hat.2
 have HW:=ak_ hW1
 have HF:=ak_ hF1
 have HH:=ak_ hH1
 have HE:=ak_ hE1
 have HA:=ak_ hA1
 have HK:=ak_ hk
 have HX:=ak_ hx
 have H0:=ak_ h0
 have HL:=ak_ hl
 have HHL:=ak_ hh
 have HH0:=ak_ hh0
 have HW1:=ak_ hw1
 clear hp1 hkx hd hCH hvH hW hH hE ha hb hWd hva hvb hW1 hF1 hH1 hE1 hA1 hna hnb hx hA h0 hl hat hh hh0 hk hw1 d0 d1 d5 d6 d7
 obtain⟨op,d,xa,xb,nn,jt⟩:=x
 simp only at hx1 d2 e2 e5 ⊢
 have hop:op=13∨op=14∨op=15∨op=18∨op=17∨op=16∨(4≤op∧op≤12)∨(1≤op∧op≤3):=by omega
 clear hx1
 rcases hop with rfl | rfl | rfl | rfl | rfl | rfl | ⟨h4,h12⟩ | ⟨h1,h3⟩
 rotate_left 6
 all_goals
  try have q13:(op == 13)=false:=beq_eq_false_iff_ne.mpr (by omega)
  try have q14:(op == 14)=false:=beq_eq_false_iff_ne.mpr (by omega)
  try have q15:(op == 15)=false:=beq_eq_false_iff_ne.mpr (by omega)
  try have q16:(op == 16)=false:=beq_eq_false_iff_ne.mpr (by omega)
  try have q17:(op == 17)=false:=beq_eq_false_iff_ne.mpr (by omega)
  try have q18:(op == 18)=false:=beq_eq_false_iff_ne.mpr (by omega)
 rotate_left 2
 all_goals
  go_enter Tryz.func92,Tryz.ntmps92
  go_upto_region 0 with fail
  refine wp_region_still_lit (by kernel_rfl) (by kernel_rfl) ?_
  repeat still_step
  still_call HNa.out
  repeat still_step
  still_call HNb.out
  repeat still_step
  refine wpStill_nil ?_
  change (Exit.then _ _) _ _ w.drew
  rw[←HW1.out]
  clear d2 d3 d4 HNa HNb HW1
 ·obtain⟨r,hr⟩:=nm_ (qg p.h va)
  have HDn:=ak_ (show p1=(p.setP d r.1 r.2).next (p.at_+1) by rw[hr,HDo.out,if_pos rfl])
  rw[←hr] at HLoad
  clear hr HDo HStore HCall HMove HNum HMv HX6 e3 e4 e5 e6 e7 f49 f59 f60
  go_upto_region 21 with (first
   | (go_at_call 108;refine HLoad.out.mono ?_;rintro e w' ⟨rfl,rfl⟩)
   | (go_at_call 107;refine(HSet.out _ _ _ HW.out).mono ?_;rintro e w2 ⟨rfl,h2,hf2⟩;have HW2:=ak_ h2;have HF2:=ak_ (HF.out.trans hf2);have HH2:=ak_ (HH.out.fr aC hf2 (bW HW.out (by decide)));have HE2:=ak_ (HE.out.fr bR hf2 (bW HW.out (by decide)));clear h2 hf2))
  clear e1 e2
  clear e0
  by_cases hz:r.2=0
  ·have c59:=(show w2.cell? ⟨g,59,none⟩=some (.int .i64 0) by rw[show 59=48+11 from rfl,HW2.out.cell];unfold Wk.setW;rw[if_pos hz];exact congrArg (fun z=>some (Value.int .i64 z)) hz)
   have c49:=(show w2.cell? ⟨g,49,none⟩=some (.int .i64 p.at_) by rw[show 49=48+1 from rfl,HW2.out.cell];unfold Wk.setW;rw[if_pos hz,HK.out];rfl)
   have f49:=aq HW2.out.1 49
   have HZ:=ak_ hz
   clear hz
   go_wp2
   refine bodyPost_end (v:=.tuple #[]) (by simp[results,Tryz.results92,go_sem]) rfl ⟨rfl,?_,HF2.out.trans (Fr.cell (S:=fun j=>j=g) (p:=⟨g,49,none⟩) rfl _)⟩
   have h1:p1={ p with how:=r.2,l:=p.l.set d.toNat (true,r.1),at_:=p.at_+1 }:=by rw[HDn.out];unfold Pw.setP;rw[if_pos HZ.out];unfold Pw.next;rw[if_pos HZ.out]
   rw[h1]
   refine⟨vH,vE,?_,HH2.out.fr aC (Fr.cell (S:=fun j=>j=g) (p:=⟨g,49,none⟩) rfl _) (bW HW2.out (by decide)),HE2.out.fr bR (Fr.cell (S:=fun j=>j=g) (p:=⟨g,49,none⟩) rfl _) (bW HW2.out (by decide))⟩
   have h3:=jN HW2.out (p.at_+1)
   unfold Wk.setW at h3
   rw[if_pos HZ.out,HK.out] at h3
   exact h3
  ·have c59:=(show w2.cell? ⟨g,59,none⟩=some (.int .i64 r.2) by rw[show 59=48+11 from rfl,HW2.out.cell];unfold Wk.setW;rw[if_neg hz];rfl)
   have q:(r.2 == 0)=false:=beq_eq_false_iff_ne.mpr hz
   have HZ:=ak_ hz
   clear hz
   go_wp2
   refine bodyPost_end (v:=.tuple #[]) (by simp[results,Tryz.results92,go_sem]) rfl ⟨rfl,?_,HF2.out⟩
   have h1:p1={ p with how:=r.2 }:=by rw[HDn.out];unfold Pw.setP;rw[if_neg HZ.out];unfold Pw.next;rw[if_neg HZ.out]
   rw[h1]
   refine⟨vH,vE,?_,HH2.out,HE2.out⟩
   have h3:=HW2.out
   unfold Wk.setW at h3
   rw[if_neg HZ.out,HK.out] at h3
   exact h3
 ·obtain⟨r,hr⟩:=nm_ (jr p.h va vb)
  have HDn:=ak_ (show p1=(if r.2=0 then { p with how:=r.2,h:=r.1 } else { p with how:=r.2 }:Pw).next (p.at_+1) by rw[hr,HDo.out];rfl)
  rw[←hr] at HStore
  clear hr HDo HLoad HCall HMove HNum HMv HX6 e3 e4 e5 e7 f60
  go_upto_region 11 with (first
   | (go_at_call 109;refine HStore.out.mono ?_;rintro e w2 ⟨vH2,rfl,⟨A2,c2,rfl,h2b,h2c,h2d⟩,hb2⟩;have HH2:=ak_ (show RdT (Kd.int .i64) 2 w2 (.slice A2 r.1.length c2) r.1 from ⟨A2,c2,rfl,h2b,h2c,h2d⟩);have HHo:=ak_ (HH.out.below hb2);have HW2:=ak_ (HW.out.below hb2);have HE2:=ak_ (HE.out.below hb2);have HF2:=ak_ (HF.out.trans (Fr.of_below hb2));clear h2b h2c h2d hb2))
  obtain⟨_,_,_,_,_,_,c59,_⟩:=HW2.out.cells
  have f59':=aq HW2.out.1 59
  clear e0 e1 e2 e6 f49 f59
  go_upto_region 12 with fail
  obtain⟨w3,hw3⟩:∃ w3,w3=w2.setCell ⟨g,59,none⟩ (.int .i64 r.2):=⟨_,rfl⟩
  refine ar hw3.symm ?_
  have hf3:Fr (fun j=>j=g) w2 w3:=by rw[hw3];exact Fr.cell (S:=fun j=>j=g) (p:=⟨g,59,none⟩) rfl _
  have HW3:=ak_ (show bT w3 g { k with how:=r.2 } by rw[hw3];exact nI HW2.out _)
  have HH3:=ak_ (HH2.out.fr aC hf3 (bW HW2.out (by decide)))
  have HE3:=ak_ (HE2.out.fr bR hf3 (bW HW2.out (by decide)))
  have HHo3:=ak_ (HHo.out.fr aC hf3 (bW HW2.out (by decide)))
  have HF3:=ak_ (HF2.out.trans hf3)
  clear hw3 hf3 c59 f59'
  obtain⟨c48,c49,_,_,_,_,c59,_⟩:=HW3.out.cells
  by_cases hz:r.2=0
  ·have f48:=aq HW3.out.1 48
   have q:(r.2 == 0)=true:=beq_iff_eq.mpr hz
   have HZ:=ak_ hz
   clear hz c49 c59
   go_upto_region 21 with fail
   obtain⟨w4,hw4⟩:∃ w4,w4=w3.setCell ⟨g,48,none⟩ (.slice A2 r.1.length c2):=⟨_,rfl⟩
   refine ar hw4.symm ?_
   have hf4:Fr (fun j=>j=g) w3 w4:=by rw[hw4];exact Fr.cell (S:=fun j=>j=g) (p:=⟨g,48,none⟩) rfl _
   have HW4:=ak_ (show bT w4 g { k with how:=r.2,vH:=.slice A2 r.1.length c2 } by rw[hw4];exact Dq HW3.out _)
   have HH4:=ak_ (HH3.out.fr aC hf4 (bW HW3.out (by decide)))
   have HE4:=ak_ (HE3.out.fr bR hf4 (bW HW3.out (by decide)))
   have HF4:=ak_ (HF3.out.trans hf4)
   clear hw4 hf4 c48 f48
   obtain⟨_,c49,_,_,_,_,c59,_⟩:=HW4.out.cells
   simp only[HZ.out] at c59
   have f49:=aq HW4.out.1 49
   have HW5:=ak_ (show bT w4 g (({ p with how:=r.2,h:=r.1 }:Pw).wk ⟨14,d,xa,xb,nn,jt⟩ (.slice A2 r.1.length c2) vA vE) by have h:=HW4.out;rw[HK.out] at h;exact h)
   have HK2:=ak_ HK.out
   go_wp2
   refine bodyPost_end (v:=.tuple #[]) (by simp[results,Tryz.results92,go_sem]) rfl ⟨rfl,?_,HF4.out.trans (Fr.cell (S:=fun j=>j=g) (p:=⟨g,49,none⟩) rfl _)⟩
   rw[show p1={ p with how:=r.2,h:=r.1,at_:=p.at_+1 } from by rw[HDn.out,if_pos HZ.out];unfold Pw.next;rw[if_pos HZ.out]]
   exact⟨_,vE,jN HW5.out _,HH4.out.fr aC (Fr.cell (S:=fun j=>j=g) (p:=⟨g,49,none⟩) rfl _) (bW HW5.out (by decide)),HE4.out.fr bR (Fr.cell (S:=fun j=>j=g) (p:=⟨g,49,none⟩) rfl _) (bW HW5.out (by decide))⟩
  ·have q:(r.2 == 0)=false:=beq_eq_false_iff_ne.mpr hz
   have HZ:=ak_ hz
   clear hz c48 c49
   go_wp2
   refine bodyPost_end (v:=.tuple #[]) (by simp[results,Tryz.results92,go_sem]) rfl ⟨rfl,?_,HF3.out⟩
   rw[show p1={ p with how:=r.2 } by rw[HDn.out,if_neg HZ.out];unfold Pw.next;rw[if_neg HZ.out]]
   refine⟨vH,vE,?_,HHo3.out,HE3.out⟩
   have h:=HW3.out
   rw[HK.out] at h
   exact h
 ·have hka:k.asked=p.asked:=by rw[HK.out];rfl
  have hkn:k.x.n=nn:=by rw[HK.out];rfl
  rw[hka,hkn] at HCall
  have HDn:=ak_ (show p1=(p.callP ⟨15,d,xa,xb,nn,jt⟩ ask va).next (p.at_+1) by rw[HDo.out];rfl)
  have HKa:=ak_ hka
  by_cases hle:(ask.length:Int)≤p.asked
  ·have HLe:=ak_ hle
   have HLk:=ak_ (show (ask.length:Int)≤k.asked by rw[hka];exact hle)
   clear hle hka hkn HDo HLoad HStore HMove HNum HMv HX6 e3 e4 e5 e7 f49 f59 f60
   go_upto_region 21 with (first
    | (go_at_call 110;refine HCall.out.mono ?_;rintro e w2 ⟨rfl,vE2,h2,hev,hf2⟩;have HW2:=ak_ (show bT w2 g { k with how:=5 } by unfold Wk.callW at h2;rw[if_pos HLk.out] at h2;exact h2);have HF2:=ak_ (HF.out.trans hf2);have HH2:=ak_ (HH.out.fr aC hf2 (bW HW.out (by decide)));have HE2:=ak_ (HE.out.fr bR hf2 (bW HW.out (by decide)));clear h2 hev hf2))
   clear e0 e1 e2 e6
   have c59:=(show w2.cell? ⟨g,59,none⟩=some (.int .i64 5) by rw[show 59=48+11 from rfl,HW2.out.cell];rfl)
   go_wp2
   refine bodyPost_end (v:=.tuple #[]) (by simp[results,Tryz.results92,go_sem]) rfl ⟨rfl,?_,HF2.out⟩
   rw[show p1={ p with how:=5 } from by rw[HDn.out];unfold Pw.callP;rw[if_pos HLe.out];rfl]
   exact⟨_,vE,(show bT w2 g (({ p with how:=5 }:Pw).wk _ vH vA vE) by have h:=HW2.out;rw[HK.out] at h;exact h),HH2.out,HE2.out⟩
  ·have HLe:=ak_ hle
   have HLk:=ak_ (show ¬ (ask.length:Int)≤k.asked by rw[hka];exact hle)
   clear hle hka hkn HDo HLoad HStore HMove HNum HMv HX6 e3 e4 e5 e7 f49 f59 f60
   go_upto_region 21 with (first
    | (go_at_call 110;refine HCall.out.mono ?_;rintro e w2 ⟨rfl,vE2,h2,hev,hf2⟩;have HW2:=ak_ (show bT w2 g (({ p with evs:=[⟨nn,va,ask.getD p.asked.toNat 0⟩],asked:=p.asked+1,how:=0,l:=p.l.set d.toNat (true,ask.getD p.asked.toNat 0) }:Pw).wk ⟨15,d,xa,xb,nn,jt⟩ vH vA vE2) by unfold Wk.callW at h2;rw[if_neg HLk.out,HK.out] at h2;exact h2);have HF2:=ak_ (HF.out.trans hf2);have HH2:=ak_ (HH.out.fr aC hf2 (bW HW.out (by decide)));have HE2:=ak_ (hev (by have:=HLe.out;omega));clear h2 hev hf2))
   clear e0 e1 e2 e6
   have c59:=(show w2.cell? ⟨g,59,none⟩=some (.int .i64 0) by rw[show 59=48+11 from rfl,HW2.out.cell];rfl)
   have c49:=(show w2.cell? ⟨g,49,none⟩=some (.int .i64 p.at_) by rw[show 49=48+1 from rfl,HW2.out.cell];rfl)
   have f49:=aq HW2.out.1 49
   go_wp2
   refine bodyPost_end (v:=.tuple #[]) (by simp[results,Tryz.results92,go_sem]) rfl ⟨rfl,?_,HF2.out.trans (Fr.cell (S:=fun j=>j=g) (p:=⟨g,49,none⟩) rfl _)⟩
   rw[show p1={ p with evs:=[⟨nn,va,ask.getD p.asked.toNat 0⟩],asked:=p.asked+1,how:=0,l:=p.l.set d.toNat (true,ask.getD p.asked.toNat 0),at_:=p.at_+1 } from by rw[HDn.out];unfold Pw.callP;rw[if_neg (by have:=HLe.out;omega)];rfl]
   exact⟨_,vE2,jN HW2.out _,HH2.out.fr aC (Fr.cell (S:=fun j=>j=g) (p:=⟨g,49,none⟩) rfl _) (bW HW2.out (by decide)),HE2.out.fr bR (Fr.cell (S:=fun j=>j=g) (p:=⟨g,49,none⟩) rfl _) (bW HW2.out (by decide))⟩
 ·have HDn:=ak_ (show p1={ p with how:=1,val:=va } by rw[HDo.out];rfl)
  clear HDo HLoad HStore HCall HMove HNum HMv HX6 e3 e4 e5
  go_upto_region 21 with fail
  obtain⟨w2,hw2⟩:∃ w2,w2=(w1.setCell ⟨g,59,none⟩ (.int .i64 1)).setCell ⟨g,60,none⟩ (.int .i64 va):=⟨_,rfl⟩
  refine ar hw2.symm ?_
  have hf2:Fr (fun j=>j=g) w1 w2:=by rw[hw2];exact(Fr.cell (S:=fun j=>j=g) (p:=⟨g,59,none⟩) rfl _).trans (Fr.cell (S:=fun j=>j=g) (p:=⟨g,60,none⟩) rfl _)
  have HW2:=ak_ (show bT w2 g (({ p with how:=1,val:=va }:Pw).wk ⟨18,d,xa,xb,nn,jt⟩ vH vA vE) by have h:=CJ (nI HW.out 1) va;rw[HK.out] at h;rw[hw2];exact h)
  have HH2:=ak_ (HH.out.fr aC hf2 (bW HW.out (by decide)))
  have HE2:=ak_ (HE.out.fr bR hf2 (bW HW.out (by decide)))
  have HF2:=ak_ (HF.out.trans hf2)
  clear hw2 hf2 e0 e1 e2 e6 e7 f49 f59 f60
  have c59:=(show w2.cell? ⟨g,59,none⟩=some (.int .i64 1) by rw[show 59=48+11 from rfl,HW2.out.cell];rfl)
  go_wp2
  refine bodyPost_end (v:=.tuple #[]) (by simp[results,Tryz.results92,go_sem]) rfl ⟨rfl,?_,HF2.out⟩
  rw[show p1={ p with how:=1,val:=va } from HDn.out]
  exact⟨_,vE,HW2.out,HH2.out,HE2.out⟩
 ·have HDn:=ak_ (show p1=p.next (if va=0 then jt else p.at_+1) by rw[HDo.out];rfl)
  by_cases hv:va=0
  ·have q:(va != 0)=false:=by simp[hv]
   have HV:=ak_ hv
   clear hv HDo HLoad HStore HCall HMove HNum HMv HX6 e0 e3 e4 e7 f59 f60
   go_wp2
   refine bodyPost_end (v:=.tuple #[]) (by simp[results,Tryz.results92,go_sem]) rfl ⟨rfl,?_,HF.out.trans (Fr.cell (S:=fun j=>j=g) (p:=⟨g,49,none⟩) rfl _)⟩
   rw[show p1={ p with at_:=jt } from by rw[HDn.out,if_pos HV.out];unfold Pw.next;rw[if_pos HH0.out]]
   exact⟨_,vE,jN (show bT w1 g (p.wk _ vH vA vE) by have h:=HW.out;rw[HK.out] at h;exact h) _,HH.out.fr aC (Fr.cell (S:=fun j=>j=g) (p:=⟨g,49,none⟩) rfl _) (bW (show bT w1 g (p.wk _ vH vA vE) by have h:=HW.out;rw[HK.out] at h;exact h) (by decide)),HE.out.fr bR (Fr.cell (S:=fun j=>j=g) (p:=⟨g,49,none⟩) rfl _) (bW (show bT w1 g (p.wk _ vH vA vE) by have h:=HW.out;rw[HK.out] at h;exact h) (by decide))⟩
  ·have q:(va != 0)=true:=by simp[hv]
   have HV:=ak_ hv
   clear hv HDo HLoad HStore HCall HMove HNum HMv HX6 e0 e3 e4 e7 f59 f60
   go_wp2
   refine bodyPost_end (v:=.tuple #[]) (by simp[results,Tryz.results92,go_sem]) rfl ⟨rfl,?_,HF.out.trans (Fr.cell (S:=fun j=>j=g) (p:=⟨g,49,none⟩) rfl _)⟩
   rw[show p1={ p with at_:=p.at_+1 } from by rw[HDn.out,if_neg HV.out];unfold Pw.next;rw[if_pos HH0.out]]
   exact⟨_,vE,jN (show bT w1 g (p.wk _ vH vA vE) by have h:=HW.out;rw[HK.out] at h;exact h) _,HH.out.fr aC (Fr.cell (S:=fun j=>j=g) (p:=⟨g,49,none⟩) rfl _) (bW (show bT w1 g (p.wk _ vH vA vE) by have h:=HW.out;rw[HK.out] at h;exact h) (by decide)),HE.out.fr bR (Fr.cell (S:=fun j=>j=g) (p:=⟨g,49,none⟩) rfl _) (bW (show bT w1 g (p.wk _ vH vA vE) by have h:=HW.out;rw[HK.out] at h;exact h) (by decide))⟩
 ·have HDn:=ak_ (show p1=p.next jt by rw[HDo.out];rfl)
  clear HDo HLoad HStore HCall HMove HNum HMv HX6 e0 e3 e4 e7 f59 f60
  go_wp2
  refine bodyPost_end (v:=.tuple #[]) (by simp[results,Tryz.results92,go_sem]) rfl ⟨rfl,?_,HF.out.trans (Fr.cell (S:=fun j=>j=g) (p:=⟨g,49,none⟩) rfl _)⟩
  rw[show p1={ p with at_:=jt } from by rw[HDn.out];unfold Pw.next;rw[if_pos HH0.out]]
  exact⟨_,vE,jN (show bT w1 g (p.wk _ vH vA vE) by have h:=HW.out;rw[HK.out] at h;exact h) _,HH.out.fr aC (Fr.cell (S:=fun j=>j=g) (p:=⟨g,49,none⟩) rfl _) (bW (show bT w1 g (p.wk _ vH vA vE) by have h:=HW.out;rw[HK.out] at h;exact h) (by decide)),HE.out.fr bR (Fr.cell (S:=fun j=>j=g) (p:=⟨g,49,none⟩) rfl _) (bW (show bT w1 g (p.wk _ vH vA vE) by have h:=HW.out;rw[HK.out] at h;exact h) (by decide))⟩
 ·have hmv:In.moves ⟨op,d,xa,xb,nn,jt⟩=false:=decide_eq_false (by simp only;omega)
  rw[hmv] at HMv
  obtain⟨r,hr⟩:=nm_ (num_Do.v op va vb)
  have HDn:=ak_ (show p1=(p.setP d r.1 r.2).next (p.at_+1) by rw[hr,HDo.out,if_neg (show ¬ op=13 by omega),if_neg (show ¬ op=14 by omega),if_neg (show ¬ op=15 by omega),if_neg (show ¬ op=18 by omega),if_neg (show ¬ op=17 by omega),if_neg (show ¬ op=16 by omega),if_pos hmv])
  rw[←hr] at HNum
  clear hmv hr h4 h12 HDo HLoad HStore HCall HMove e0 e3 e4 e5 e7 f49 f59 f60
  go_upto_region 21 with (first
   | ((with_reducible refine aj (N:=97) rfl ?_);refine au rfl 49 _ rfl ⟨g,51,none⟩ rfl _ HX6.out ?_)
   | (go_at_call 66;refine HMv.out.mono ?_;rintro e w3 ⟨rfl,hb3⟩;have HW3:=ak_ (HW.out.below hb3);have HF3:=ak_ (HF.out.trans (Fr.of_below hb3));have HH3:=ak_ (HH.out.below hb3);have HE3:=ak_ (HE.out.below hb3);have c51:=(ak hb3 e2);clear hb3)
   | (go_at_call 111;refine(HNum.out _).mono ?_;rintro e w4 ⟨rfl,hb4⟩;have HW2a:=ak_ (HW3.out.below hb4);have HF2a:=ak_ (HF3.out.trans (Fr.of_below hb4));have HH2a:=ak_ (HH3.out.below hb4);have HE2a:=ak_ (HE3.out.below hb4);clear hb4)
   | (go_at_call 107;refine(HSet.out _ _ _ HW2a.out).mono ?_;rintro e w2 ⟨rfl,h2,hf2⟩;have HW2:=ak_ h2;have HF2:=ak_ (HF2a.out.trans hf2);have HH2:=ak_ (HH2a.out.fr aC hf2 (bW HW2a.out (by decide)));have HE2:=ak_ (HE2a.out.fr bR hf2 (bW HW2a.out (by decide)));clear h2 hf2))
  clear e1 e2 e6 c51
  by_cases hz:r.2=0
  ·have c59:=(show w2.cell? ⟨g,59,none⟩=some (.int .i64 0) by rw[show 59=48+11 from rfl,HW2.out.cell];unfold Wk.setW;rw[if_pos hz];exact congrArg (fun z=>some (Value.int .i64 z)) hz)
   have c49:=(show w2.cell? ⟨g,49,none⟩=some (.int .i64 p.at_) by rw[show 49=48+1 from rfl,HW2.out.cell];unfold Wk.setW;rw[if_pos hz,HK.out];rfl)
   have f49:=aq HW2.out.1 49
   have HZ:=ak_ hz
   clear hz
   go_wp2
   refine bodyPost_end (v:=.tuple #[]) (by simp[results,Tryz.results92,go_sem]) rfl ⟨rfl,?_,HF2.out.trans (Fr.cell (S:=fun j=>j=g) (p:=⟨g,49,none⟩) rfl _)⟩
   have h1:p1={ p with how:=r.2,l:=p.l.set d.toNat (true,r.1),at_:=p.at_+1 }:=by rw[HDn.out];unfold Pw.setP;rw[if_pos HZ.out];unfold Pw.next;rw[if_pos HZ.out]
   rw[h1]
   refine⟨vH,vE,?_,HH2.out.fr aC (Fr.cell (S:=fun j=>j=g) (p:=⟨g,49,none⟩) rfl _) (bW HW2.out (by decide)),HE2.out.fr bR (Fr.cell (S:=fun j=>j=g) (p:=⟨g,49,none⟩) rfl _) (bW HW2.out (by decide))⟩
   have h3:=jN HW2.out (p.at_+1)
   unfold Wk.setW at h3
   rw[if_pos HZ.out,HK.out] at h3
   exact h3
  ·have c59:=(show w2.cell? ⟨g,59,none⟩=some (.int .i64 r.2) by rw[show 59=48+11 from rfl,HW2.out.cell];unfold Wk.setW;rw[if_neg hz];rfl)
   have q:(r.2 == 0)=false:=beq_eq_false_iff_ne.mpr hz
   have HZ:=ak_ hz
   clear hz
   go_wp2
   refine bodyPost_end (v:=.tuple #[]) (by simp[results,Tryz.results92,go_sem]) rfl ⟨rfl,?_,HF2.out⟩
   have h1:p1={ p with how:=r.2 }:=by rw[HDn.out];unfold Pw.setP;rw[if_neg HZ.out];unfold Pw.next;rw[if_neg HZ.out]
   rw[h1]
   refine⟨vH,vE,?_,HH2.out,HE2.out⟩
   have h3:=HW2.out
   unfold Wk.setW at h3
   rw[if_neg HZ.out,HK.out] at h3
   exact h3
 ·have hmv:In.moves ⟨op,d,xa,xb,nn,jt⟩=true:=decide_eq_true (by simp only;omega)
  rw[hmv] at HMv
  have HDn:=ak_ (show p1=(p.moveP ⟨op,d,xa,xb,nn,jt⟩).next (p.at_+1) by rw[HDo.out,if_neg (show ¬ op=13 by omega),if_neg (show ¬ op=14 by omega),if_neg (show ¬ op=15 by omega),if_neg (show ¬ op=18 by omega),if_neg (show ¬ op=17 by omega),if_neg (show ¬ op=16 by omega),if_neg (by rw[hmv];decide)])
  clear hmv h1 h3 HDo HLoad HStore HCall HNum e0 e3 e4 e5 e7 f49 f59 f60
  go_upto_region 21 with (first
   | ((with_reducible refine aj (N:=97) rfl ?_);refine au rfl 49 _ rfl ⟨g,51,none⟩ rfl _ HX6.out ?_)
   | (go_at_call 66;refine HMv.out.mono ?_;rintro e w3 ⟨rfl,hb3⟩;have HW3:=ak_ (HW.out.below hb3);have HF3:=ak_ (HF.out.trans (Fr.of_below hb3));have HH3:=ak_ (HH.out.below hb3);have HE3:=ak_ (HE.out.below hb3);clear hb3)
   | (go_at_call 112;refine(HMove.out _ HW3.out).mono ?_;rintro e w2 ⟨rfl,h2,hf2⟩;have HW2:=ak_ (show bT w2 g ((p.moveP ⟨op,d,xa,xb,nn,jt⟩).wk ⟨op,d,xa,xb,nn,jt⟩ vH vA vE) by rw[HK.out,zP] at h2;exact h2);have HF2:=ak_ (HF3.out.trans hf2);have HH2:=ak_ (HH3.out.fr aC hf2 (bW HW3.out (by decide)));have HE2:=ak_ (HE3.out.fr bR hf2 (bW HW3.out (by decide)));clear h2 hf2))
  clear e1 e2 e6
  have c59:=(show w2.cell? ⟨g,59,none⟩=some (.int .i64 0) by rw[show 59=48+11 from rfl,HW2.out.cell];exact congrArg (fun z=>some (Value.int .i64 z)) HH0.out)
  have c49:=(show w2.cell? ⟨g,49,none⟩=some (.int .i64 p.at_) by rw[show 49=48+1 from rfl,HW2.out.cell];rfl)
  have f49:=aq HW2.out.1 49
  go_wp2
  refine bodyPost_end (v:=.tuple #[]) (by simp[results,Tryz.results92,go_sem]) rfl ⟨rfl,?_,HF2.out.trans (Fr.cell (S:=fun j=>j=g) (p:=⟨g,49,none⟩) rfl _)⟩
  rw[show p1={ p.moveP ⟨op,d,xa,xb,nn,jt⟩ with at_:=p.at_+1 } from by rw[HDn.out];unfold Pw.next;rw[if_pos (show (p.moveP ⟨op,d,xa,xb,nn,jt⟩).how=0 from HH0.out)]]
  exact⟨_,vE,jN HW2.out _,HH2.out.fr aC (Fr.cell (S:=fun j=>j=g) (p:=⟨g,49,none⟩) rfl _) (bW HW2.out (by decide)),HE2.out.fr bR (Fr.cell (S:=fun j=>j=g) (p:=⟨g,49,none⟩) rfl _) (bW HW2.out (by decide))⟩
theorem RdT.of_own {W:World} {base:Nat} {v:Value} {xs:List Int} (h:W.ownsRow base 2 1 v xs.length (fh .i64 xs)):RdT (Kd.int .i64) 2 W v xs:=by
 obtain⟨A,c,rfl,hr⟩:=yh h
 rcases h.2 with ⟨h4,h5⟩ | ⟨g,cap,cur,h4,hg,hh,hn,_⟩
 ·injection h4 with e1 e2 e3
  subst e1
  subst e3
  exact⟨none,0,rfl,by omega,Kd.C_of_reads (d:=(0:Int)) (h1:=fun _=>rfl) hr,fun ad e=>by cases e⟩
 ·injection h4 with e1 e2 e3
  subst e1
  subst e3
  exact⟨_,c,rfl,hn,Kd.C_of_reads (d:=(0:Int)) (h1:=fun _=>rfl) hr,fun ad e=>by injection e with e;subst e;exact⟨_,_,hh⟩⟩
theorem kS {P:Program} {ops:Array Oper} {rest:List Oper} {o:Oper} {a:Act} {W:World} {Q:Exit→Act→World→Prop} (hgd:o.guard=none) (t:TypeId) (s x:Operand) (ho:o.op=.call { callee:=.builtin .append,args:=#[s,x],argTypes:=#[t,t] })
  (ht:P.underlying t=some (.slice 2)) (hinfo:(P.info? 2).map (fun i=>(i.zero,i.size,i.bytes))=some (some (.int .i64 0),1,8)) (g:Nat) (ys:List Int) (A:Option Addr) (m c:Nat) (hs:a.eval s=.slice (some ⟨g,0,none⟩) 0 0) (hx:a.eval x=.slice A m c)
  (hg:W.heap[g]?=some (.cells #[] 2 (0,0))) (HC:Kd.C (Kd.int .i64) W A m ys) (hm:ys.length≤100000)
  (h:∀ A1 c1 w1,RdT (Kd.int .i64) 2 w1 (.slice A1 ys.length c1) ys→Fr (fun k=>k=g) W w1→wpList P ops Q rest (a.put o.dst (.slice A1 ys.length c1)) w1):wpList P ops Q (o :: rest) a W:=by
 have HO:W.ownsRow 0 2 1 (.slice (some ⟨g,0,none⟩) 0 0) ([]:List Int).length (fh .i64 []):=⟨by simp[fh],.inr ⟨g,0,#[],rfl,Nat.zero_le _,hg,Nat.le_refl _,by simp[maxLen],rfl,rfl⟩⟩
 have HR:dC W .i64 A m ys:=Kd.reads_of_C (d:=(0:Int)) (h1:=fun _=>rfl) HC
 have hml:ys.length=m:=HR.1
 refine my (w0:=W) 0 hgd s x t 2 .i64 8 ho ht hinfo (by decide) _ [] ys A m c hs hx HO HR ⟨rfl,rfl,rfl,Nat.le_refl _,fun k hk=>absurd hk (Nat.not_lt_zero k)⟩ (Nat.zero_le _) (by simp only[List.length_nil];omega) ?_
 intro v1 w1 hown _ hgr _
 rw[List.nil_append] at hown
 have hr:=RdT.of_own hown
 obtain⟨A1,c1,rfl,hh⟩:=hr
 exact h A1 c1 w1 ⟨A1,c1,rfl,hh⟩ (Fr.grown hgr (fun k hk=>by simpa [Value.ownBlock] using hk))
def stc (l:List (Bool × Int)) (vH:Value) (at_ asked:Int):List Value:=de l++[vH,.int .i64 at_,.int .i64 asked]
theorem cD {l:List (Bool × Int)} (h:l.length=24) {vH:Value} {at_ asked:Int}:(stc l vH at_ asked).length=51:=by unfold stc;rw[List.length_append,dJ,h];rfl
theorem jP {l:List (Bool × Int)} (h:l.length=24) {vH:Value} {at_ asked:Int} (i:Nat):(stc l vH at_ asked)[48+i]?=[vH,.int .i64 at_,.int .i64 asked][i]?:=by
 unfold stc
 rw[List.getElem?_append_right (by rw[dJ,h];omega),dJ,h]
 congr 1
 omega
theorem Bp {l:List (Bool × Int)} (h:l.length=24) {vH:Value} {at_ asked:Int} (i:Nat) (v:Value):(stc l vH at_ asked).set (48+i) v=de l++[vH,.int .i64 at_,.int .i64 asked].set i v:=by
 unfold stc
 rw[List.set_append_right _ _ (by rw[dJ,h];omega),dJ,h]
 congr 2
 omega
theorem dN {l:List (Bool × Int)} {A:Option Addr} {n c:Nat} {at_ asked:Int}:(stc l (.slice A n c) at_ asked).toArray.all (·.oneCell')=true:=by
 rw[Array.all_eq_true_iff_forall_mem]
 intro v hv
 simp only[List.mem_toArray,stc,List.mem_append,List.mem_cons,List.not_mem_nil,or_false] at hv
 rcases hv with hv | rfl | rfl | rfl
 ·exact zT _ v hv
 all_goals rfl
theorem j8:(Tryz.prog.info? 93).map (·.size)=some 51:=by kernel_rfl
theorem bM {l:List (Bool × Int)} (h:l.length=24) {vH:Value} {at_ asked:Int}:(Tryz.prog.info? 93).map (·.size)=some (stc l vH at_ asked).toArray.size:=by rw[List.size_toArray,cD h];exact j8
def bJ:Array Value:=(stc (List.replicate 24 (false,0)) (.slice none 0 0) 0 0).toArray
theorem stz {l:List (Bool × Int)} (h:l.length=24) {vH:Value} {at_ asked:Int}:bJ.size=(stc l vH at_ asked).toArray.size:=(show bJ.size=51 from rfl).trans (by rw[List.size_toArray,cD h])
theorem zm (l:List (Bool × Int)) (h24:l.length=24) (vH:Value) (H:List Int) (at_ asked:Int) (w:World) (hH:Rd (Kd.int .i64) w vH H) (hm:H.length≤100000) :
  Calls Tryz.prog 91 #[.agg (stc l vH at_ asked).toArray] w fun e w'=>∃ A c,e=.returned (.agg (stc l (.slice A H.length c) at_ asked).toArray)∧RdT (Kd.int .i64) 2 w' (.slice A H.length c) H∧Below w.heap.size w w':=by
 obtain⟨A,c,rfl,_,hC⟩:=hH
 have H24:=ak_ h24
 have HM:=ak_ hm
 have HC:=ak_ hC
 clear h24 hm hC
 obtain⟨L,hL⟩:∃ L,L=stc l (.slice A H.length c) at_ asked:=⟨_,rfl⟩
 have HL:=ak_ hL
 rw[←hL]
 clear hL
 go_enter Tryz.func91,Tryz.ntmps91
 go_upto_region 1 with fail
 obtain⟨g,hg⟩:=mn_ w.heap.size
 rw[hg]
 obtain⟨w1,hw1⟩:∃ w1,w1=(w.alloc (.cells L.toArray 93)).alloc (.cells bJ 93):=⟨_,rfl⟩
 refine ar hw1.symm ?_
 obtain⟨h2,h1,hb⟩:=dm (w:=w) (A:=.cells L.toArray 93) (B:=.cells bJ 93) (w1:=w1) (by rw[hw1];exact Below.refl _ _)
 rw[hg] at h1 h2
 have c48:=(show w1.cell? ⟨g,48,none⟩=some (.slice A H.length c) by rw[ap h1,HL.out,show 48=48+0 from rfl,jP H24.out];rfl)
 have HB:=ak_ (show Below w.heap.size w w1 from hb)
 have hlt:g < w1.heap.size:=ai h1
 have HG:=ak_ hg
 have H1:=ak_ h1
 have H2:=ak_ h2
 have HZ:=ak_ (show w1.heap.size=g+2 by rw[hw1,←hg];simp)
 clear hw1 h1 h2 hb hg
 go_upto_region 2 with (first
  | ((with_reducible refine a7 (b:=.append) (xs:=#[.tmp 3,.tmp 5]) rfl ?_);refine kS rfl 35 (.tmp 3) (.tmp 5) rfl Tryz.underlying35 j9 w1.heap.size H A H.length c rfl rfl (heap_alloc_last w1 _) (Kd.C_below HC.out (ae HB.out _)) HM.out ?_;intro A1 c1 w2 hr hf;have HR:=ak_ hr;have HF:=ak_ hf;have H12:=ak_ ((hf.block g (by simp;have:=HZ.out;omega) (by have:=HZ.out;omega)).trans (aK H1.out _));have H22:=ak_ ((hf.block (g+1) (by simp;have:=HZ.out;omega) (by have:=HZ.out;omega)).trans (aK H2.out _));have d48:=(show w2.cell? ⟨g,48,none⟩=some (.slice A H.length c) by rw[ap H12.out,HL.out,show 48=48+0 from rfl,jP H24.out];rfl);have f48:=aq H12.out 48;clear hr hf))
 obtain⟨w3,hw3⟩:∃ w3,w3=w2.setCell ⟨g,48,none⟩ (.slice A1 H.length c1):=⟨_,rfl⟩
 refine ar hw3.symm ?_
 have h13:w3.heap[g]?=some (.cells (stc l (.slice A1 H.length c1) at_ asked).toArray 93 (0,0)):=by
  rw[hw3,aJ H12.out,HL.out,show 48=48+0 from rfl,Bp H24.out]
  rfl
 have hf3:Fr (fun k=>k=g) w2 w3:=by rw[hw3];exact Fr.cell (S:=fun j=>j=g) (p:=⟨g,48,none⟩) rfl _
 have H13:=ak_ h13
 have H23:=ak_ ((hf3.block (g+1) (ai H22.out) (by omega)).trans H22.out)
 have HR3:=ak_ (HR.out.fr aC hf3 (fun k cs fr e=>by subst e;rw[H12.out];simp))
 have HF3:=ak_ hf3
 clear hw3 h13 hf3 d48 f48
 go_upto_region 3 with (first
  | ((with_reducible refine aj (N:=8) rfl ?_);refine wpList_load_row rfl 93 _ rfl g rfl 93 (stc l (.slice A1 H.length c1) at_ asked).toArray (0,0) _ H13.out Tryz.underlying93 rfl (bM H24.out) ?_)
  | ((with_reducible refine ao (t:=93) (p:=2) rfl ?_);refine an rfl 93 _ _ rfl (g+1) (stc l (.slice A1 H.length c1) at_ asked).toArray rfl rfl 93 bJ H23.out (bM H24.out) (stz H24.out) dN ?_;intro w4 h4 hf4;have H4:=ak_ h4;have HF4:=ak_ hf4;clear h4 hf4))
 have hbz:=(Below.refl w1.heap.size w1)
 have h14:RdT (Kd.int .i64) 2 w4 (.slice A1 H.length c1) H:=HR3.out.fr aC HF4.out (fun k cs fr e=>by subst e;rw[H23.out];simp)
 have hbb:Below w.heap.size w w4:=by
  refine Fr.below HB.out (((Fr.of_below (S:=fun k=>g≤k) (ae (Below.refl _ _) (.cells #[] 2))).trans (HF.out.mono fun k _ e=>by subst e;have:=HZ.out;omega)).trans ((HF3.out.mono fun k _ e=>by subst e;exact Nat.le_refl _).trans (HF4.out.mono fun k _ e=>by subst e;omega))) (fun k hk hg=>by have:=HG.out;omega) HB.out.size
 exact bodyPost_ret (v:=.agg (stc l (.slice A1 H.length c1) at_ asked).toArray) (results_cell_row rfl _ _ (g+1) 93 _ (0,0) _ rfl H4.out Tryz.underlying93 rfl (bM H24.out)) rfl ⟨A1,c1,rfl,h14,hbb⟩
theorem BM (W:World):(isAgg 90).run Tryz.prog W=.ok true W:=by kernel_rfl
theorem zv (W:World):(sizeOf 90).run Tryz.prog W=.ok 2 W:=by kernel_rfl
theorem BG (l:List (Bool × Int)) (i:Nat) (p:Bool × Int) (h:l[i]?=some p):((de l).drop (i * 2)).take 2=[.bool p.1,.int .i64 p.2]:=by
 obtain⟨q0,e0⟩:=List.getElem?_eq_some_iff.1 (BH l i p h)
 obtain⟨q1,e1⟩:=List.getElem?_eq_some_iff.1 (CY l i p h)
 rw[List.drop_eq_getElem_cons q0,List.drop_eq_getElem_cons q1,e0,e1]
 rfl
theorem n6 (l:List (Bool × Int)) (i:Nat) (p:Bool × Int) (hp:l[i]?=some p) (hl:l.length=24) (W:World):(Instr.index 91 (.agg (de l).toArray) (.int .i64 (i:Int))).run Tryz.prog W=.ok (.agg #[.bool p.1,.int .i64 p.2]) W:=by
 have h0:(0:Int)≤i:=by omega
 have h2:i < 24:=by have:=(List.getElem?_eq_some_iff.1 hp).1;omega
 have h1:(i:Int) < 24:=by omega
 have he:=BG l i p hp
 simp[Instr.index,asIntOf,run_underlying Tryz.underlying91,h0,h1,h2,part,BM,zv,Result.andThen]
 exact he
theorem C_:(Tryz.prog.info? 91).map (·.size)=some 48:=by kernel_rfl
def pP (f:List In) (l:List (Bool × Int)) (n:Nat) (at_ asked:Int):Bool:=bi f && decide (0≤at_) && decide (at_ < (f.length:Int)) && decide ((n:Int)≤16) && decide (0≤asked) && l.all (fun p=>p.1 || p.2 == 0)
theorem tw (f:List In) (Af:Option Addr) (cf:Nat) (l:List (Bool × Int)) (h24:l.length=24) (A:Option Addr) (n c:Nat) (at_ asked:Int) (w:World) (hG:Gl w) (hC:Kd.C kIn w Af f.length f) (hc:f.length≤cf) (hn:n≤5000) :
  Calls Tryz.prog 90 #[.slice Af f.length cf,.agg (stc l (.slice A n c) at_ asked).toArray] w fun e w'=>e=.returned (.bool (pP f l n at_ asked))∧Below w.heap.size w w':=by
 obtain⟨r,hr⟩:=nm_ (pP f l n at_ asked)
 rw[←hr]
 unfold pP at hr
 have hmax:=Kd.C_max hC
 obtain⟨L,hL⟩:∃ L,L=stc l (.slice A n c) at_ asked:=⟨_,rfl⟩
 obtain⟨w1,hw1⟩:∃ w1,w1=w.alloc (.cells L.toArray 93):=⟨_,rfl⟩
 obtain⟨g,hg⟩:=mn_ w.heap.size
 have h1:w1.heap[g]?=some (.cells L.toArray 93 (0,0)):=by rw[hw1,←hg];exact heap_alloc_last w _
 have hb1:Below w.heap.size w w1:=by rw[hw1];exact ae (Below.refl _ _) _
 have HR:=ak_ (dY Af cf f w1 (hG.below hb1) (Kd.C_below hC hb1) hc)
 have HHp:=ak_ (fun W=>k_ A n c W hn)
 rw[←hL]
 have c48:=(show w1.cell? ⟨g,48,none⟩=some (.slice A n c) by rw[ap h1,hL,show 48=48+0 from rfl,jP h24];rfl)
 have c49:=(show w1.cell? ⟨g,49,none⟩=some (.int .i64 at_) by rw[ap h1,hL,show 49=48+1 from rfl,jP h24];rfl)
 have c50:=(show w1.cell? ⟨g,50,none⟩=some (.int .i64 asked) by rw[ap h1,hL,show 50=48+2 from rfl,jP h24];rfl)
 have hT:=(show ((L.drop 0).take 48)=de l by rw[hL];unfold stc;rw[List.drop_zero,List.take_append_of_le_length (by rw[dJ,h24];decide),List.take_of_length_le (by rw[dJ,h24];decide)])
 have HL:=ak_ hT
 have H24:=ak_ h24
 have H1:=ak_ h1
 have HB:=ak_ hb1
 have HW1:=ak_ hw1
 obtain⟨b,hb⟩:=nm_ (bi f)
 rw[←hb] at hr HR
 clear hG hC hc hL h24 h1 hb1 hb hT hw1
 by_cases hbad:b=true∧0≤at_∧at_ < (f.length:Int)∧(n:Int)≤16∧0≤asked
 ·obtain⟨rfl,h2,h3,h4,h5⟩:=hbad
  rw[decide_eq_true h2,decide_eq_true h3,decide_eq_true h4,decide_eq_true h5] at hr
  rw[decide_eq_true h4] at HHp
  have HRr:=ak_ (show r=l.all (fun p=>p.1 || p.2 == 0) from hr)
  clear hr
  have n2:¬ at_ < 0:=by omega
  have n3:¬ (f.length:Int)≤at_:=by omega
  have n5:¬ asked < 0:=by omega
  go_enter Tryz.func90,Tryz.ntmps90
  go_upto_region 1 with fail
  refine ar HW1.out.symm ?_
  have HG:=ak_ hg
  clear hg HW1
  go_upto_region 3 with (first
   | (go_at_call 47;refine HR.out.mono ?_;rintro e w2 ⟨rfl,hb⟩;have HB2:=ak_ (af HB.out hb);have H2:=ak_ (ag H1.out hb);have k48:=ak hb c48;have k49:=ak hb c49;have k50:=ak hb c50;clear hb)
   | (go_at_call 89;refine(HHp.out _).mono ?_;rintro e w' ⟨rfl,rfl⟩))
  have HLd:=ak_ (fun vs h=>bU (P:=Tryz.prog) H2.out 91 0 vs h _ Tryz.underlying91 rfl)
  clear n2 n3 n5 h2 h3 h4 h5 k48 k49 k50 c48 c49 c50 HR HHp
  go_wp2_with (first
   | ((with_reducible refine aj (N:=34) rfl ?_);refine au rfl 91 _ rfl ⟨g,0,none⟩ rfl _ (HLd.out (de l) (by rw[dJ,H24.out];exact HL.out) (by rw[dJ,H24.out];exact C_)) ?_))
  go_loopw [35] (fun c wr=>∃ i:Nat,c=.int .i64 i∧aa (i≤24∧(∀ (j:Nat) (p:Bool × Int),j < i→l[j]?=some p→(p.1 || p.2 == 0)=true)∧Below w.heap.size w wr)) (fun c _=>24 - (intOf c).toNat)
  case atStart=>exact⟨0,rfl,⟨⟨by omega,fun j p h=>by omega,HB2.out⟩⟩⟩
  case round=>
   obtain⟨i,rfl,HS⟩:=hrel
   by_cases hi:i < 24
   ·have hi':(i:Int) < 24:=by omega
    obtain⟨p,hp⟩:∃ p,l[i]?=some p:=⟨_,List.getElem?_eq_getElem (by have:=H24.out;omega)⟩
    have hix:=n6 l i p hp H24.out
    have HP:=ak_ hp
    have HI:=ak_ hi
    clear hi hp
    obtain⟨pb,pv⟩:=p
    simp only at hix
    by_cases hok:(pb || pv == 0)=true
    ·have HO:=ak_ hok
     cases pb with
     | true=>
      clear hok
      go_wp2
      go_roundw
      case rel=>exact⟨i+1,by go_num,⟨⟨by have:=HI.out;omega,fun j q hj hq=>by
       by_cases e:j=i
       ·subst e
        obtain rfl:=Option.some.inj (HP.out.symm.trans hq)
        rfl
       ·exact HS.out.2.1 j q (by omega) hq,af HS.out.2.2 (ae (Below.refl _ _) _)⟩⟩⟩
      case measure=>have:=HI.out;simp[intOf];omega
     | false=>
      have hv:pv=0:=by simpa using hok
      subst hv
      clear hok
      go_wp2
      go_roundw
      case rel=>exact⟨i+1,by go_num,⟨⟨by have:=HI.out;omega,fun j q hj hq=>by
       by_cases e:j=i
       ·subst e
        obtain rfl:=Option.some.inj (HP.out.symm.trans hq)
        rfl
       ·exact HS.out.2.1 j q (by omega) hq,af HS.out.2.2 (ae (Below.refl _ _) _)⟩⟩⟩
      case measure=>have:=HI.out;simp[intOf];omega
    ·obtain⟨rfl,hv⟩:pb=false∧pv≠0:=by
      cases pb with
      | true=>exact absurd rfl hok
      | false=>exact⟨rfl,by simpa using hok⟩
     have q:(pv != 0)=true:=by simp[hv]
     obtain rfl:r=false:=by
      rw[HRr.out,List.all_eq_false]
      exact⟨_,List.mem_of_getElem? HP.out,by simpa using hv⟩
     clear hok hv
     go_wp2
     go_ret
     exact⟨rfl,af HS.out.2.2 (ae (Below.refl _ _) _)⟩
   ·obtain rfl:r=true:=by
     rw[HRr.out,List.all_eq_true]
     intro p hp
     obtain⟨j,hj⟩:=List.getElem?_of_mem hp
     have hlt:=(List.getElem?_eq_some_iff.1 hj).1
     exact HS.out.2.1 j p (by have:=H24.out;omega) hj
    obtain rfl:i=24:=by have:=HS.out.1;omega
    clear hi
    go_wp2
    go_ret
    exact⟨rfl,HS.out.2.2⟩
 ·obtain rfl:r=false:=by
   cases r with
   | false=>rfl
   | true=>
    have hr':=hr.symm
    simp only[Bool.and_eq_true,decide_eq_true_eq] at hr'
    obtain⟨⟨⟨⟨⟨h1,h2⟩,h3⟩,h4⟩,h5⟩,_⟩:=hr'
    exact absurd ⟨h1,h2,h3,h4,h5⟩ hbad
  clear hr
  by_cases h1:b=false
  ·subst h1
   clear hbad
   go_enter Tryz.func90,Tryz.ntmps90
   go_upto_region 1 with fail
   refine ar HW1.out.symm ?_
   have HG:=ak_ hg
   clear hg HW1
   go_wp2_with (first
    | (go_at_call 47;refine HR.out.mono ?_;rintro e w2 ⟨rfl,hb⟩;have HB2:=ak_ (af HB.out hb);have k48:=ak hb c48;have k49:=ak hb c49;have k50:=ak hb c50;clear hb)
    | (go_at_call 89;refine(HHp.out _).mono ?_;rintro e w' ⟨rfl,rfl⟩))
   go_ret
   exact⟨rfl,HB2.out⟩
  obtain rfl:b=true:=by cases b <;> simp_all
  clear h1
  by_cases h2:at_ < 0
  ·clear hbad
   go_enter Tryz.func90,Tryz.ntmps90
   go_upto_region 1 with fail
   refine ar HW1.out.symm ?_
   have HG:=ak_ hg
   clear hg HW1
   go_wp2_with (first
    | (go_at_call 47;refine HR.out.mono ?_;rintro e w2 ⟨rfl,hb⟩;have HB2:=ak_ (af HB.out hb);have k48:=ak hb c48;have k49:=ak hb c49;have k50:=ak hb c50;clear hb)
    | (go_at_call 89;refine(HHp.out _).mono ?_;rintro e w' ⟨rfl,rfl⟩))
   go_ret
   exact⟨rfl,HB2.out⟩
  have h2':0≤at_:=by omega
  by_cases h3:(f.length:Int)≤at_
  ·clear hbad
   go_enter Tryz.func90,Tryz.ntmps90
   go_upto_region 1 with fail
   refine ar HW1.out.symm ?_
   have HG:=ak_ hg
   clear hg HW1
   go_wp2_with (first
    | (go_at_call 47;refine HR.out.mono ?_;rintro e w2 ⟨rfl,hb⟩;have HB2:=ak_ (af HB.out hb);have k48:=ak hb c48;have k49:=ak hb c49;have k50:=ak hb c50;clear hb)
    | (go_at_call 89;refine(HHp.out _).mono ?_;rintro e w' ⟨rfl,rfl⟩))
   go_ret
   exact⟨rfl,HB2.out⟩
  have h3':at_ < (f.length:Int):=by omega
  by_cases h4:(n:Int)≤16
  ·rw[decide_eq_true h4] at HHp
   have h5:asked < 0:=by
    rcases Int.lt_or_le asked 0 with h | h
    ·exact h
    ·exact absurd ⟨rfl,h2',h3',h4,h⟩ hbad
   clear hbad h4
   go_enter Tryz.func90,Tryz.ntmps90
   go_upto_region 1 with fail
   refine ar HW1.out.symm ?_
   have HG:=ak_ hg
   clear hg HW1
   go_wp2_with (first
    | (go_at_call 47;refine HR.out.mono ?_;rintro e w2 ⟨rfl,hb⟩;have HB2:=ak_ (af HB.out hb);have k48:=ak hb c48;have k49:=ak hb c49;have k50:=ak hb c50;clear hb)
    | (go_at_call 89;refine(HHp.out _).mono ?_;rintro e w' ⟨rfl,rfl⟩))
   go_ret
   exact⟨rfl,HB2.out⟩
  ·rw[decide_eq_false h4] at HHp
   clear hbad h4
   go_enter Tryz.func90,Tryz.ntmps90
   go_upto_region 1 with fail
   refine ar HW1.out.symm ?_
   have HG:=ak_ hg
   clear hg HW1
   go_wp2_with (first
    | (go_at_call 47;refine HR.out.mono ?_;rintro e w2 ⟨rfl,hb⟩;have HB2:=ak_ (af HB.out hb);have k48:=ak hb c48;have k49:=ak hb c49;have k50:=ak hb c50;clear hb)
    | (go_at_call 89;refine(HHp.out _).mono ?_;rintro e w' ⟨rfl,rfl⟩))
   go_ret
   exact⟨rfl,HB2.out⟩
structure St where
 l:List (Bool × Int)
 h:List Int
 at_:Int
 asked:Int
structure Oc where
 how:Int
 val:Int
 h:List Int
def St.pw (s:St):Pw:=⟨s.l,s.h,s.at_,s.asked,[],0,0⟩
def stZ:St:=⟨List.replicate 24 (false,0),[],0,0⟩
def nL (s:St) (x:In):Bool:=(cy x).all (fun i=>(s.l.getD i.toNat (false,0)).1)
def gz (f:List In) (s:St) (ask:List Int):St × List Ev × Oc × Int:=
 if pP f s.l s.h.length s.at_ s.asked=true then
  if nL s (f.getD s.at_.toNat In.zero)=true then
   let p:=doP (f.getD s.at_.toNat In.zero) ask s.pw
   (⟨p.l,p.h,p.at_,p.asked⟩,p.evs,⟨p.how,p.val,if p.how=1 then p.h else []⟩,0)
  else (s,[],⟨2,0,[]⟩,0)
 else (stZ,[],⟨0,0,[]⟩,1)
def Dm (r:St × List Ev × Oc × Int) (w:World) (e:Ending) (w':World):Prop:=
 ∃ vH vE vO,e=.returned (.tuple #[.agg (stc r.1.l vH r.1.at_ r.1.asked).toArray,vE,.agg #[.int .i64 r.2.2.1.how,.int .i64 r.2.2.1.val,vO],.int .i64 r.2.2.2])∧
  RdT (Kd.int .i64) 2 w' vH r.1.h∧RdT kEv 105 w' vE r.2.1∧RdT (Kd.int .i64) 2 w' vO r.2.2.1.h∧Below w.heap.size w w'
def wkZ:List Value:=Wk.cells ⟨List.replicate 24 (false,0),.slice none 0 0,0,0,⟨0,0,0,0,0,0⟩,.slice none 0 0,.slice none 0 0,0,0⟩
theorem uH:wkZ.length=61:=rfl
theorem AI (l:List (Bool × Int)) (h:l.length=24) (A:Option Addr) (n c:Nat) (at_ asked:Int) (x:In) (B:Option Addr) (m d:Nat) :
  Tryz.prog.built 197 [(0,.agg (stc l (.slice A n c) at_ asked).toArray),(1,.agg x.cells),(2,.slice B m d)]=some (Wk.cells ⟨l,.slice A n c,at_,asked,x,.slice B m d,.slice none 0 0,0,0⟩).toArray:=by
 have h1:Tryz.prog.built 197 [(0,.agg (stc l (.slice A n c) at_ asked).toArray),(1,.agg x.cells),(2,.slice B m d)]=Instr.fill (#[(0,51),(51,6),(57,1),(58,1),(59,1),(60,1)][·]?) wkZ.toArray [(0,.agg (stc l (.slice A n c) at_ asked).toArray),(1,.agg x.cells),(2,.slice B m d)]:=by rfl
 rw[h1,im _ _ 0 0 51 _ _ rfl (cD h) (by rw[uH];decide)]
 have h2:=cD h (vH:=.slice A n c) (at_:=at_) (asked:=asked)
 obtain⟨L,hL⟩:∃ L,L=stc l (.slice A n c) at_ asked:=⟨_,rfl⟩
 rw[←hL] at h2 ⊢
 rw[show In.cells x=([.int .i64 x.op,.int .i64 x.d,.int .i64 x.a,.int .i64 x.b,.int .i64 x.n,.int .i64 x.jt]:List Value).toArray from rfl,im _ _ 1 51 6 _ _ rfl rfl (by simp[h2,uH])]
 have h4:wkZ.drop 57=[.slice none 0 0,.slice none 0 0,.int .i64 0,.int .i64 0]:=rfl
 have e1:(wkZ.take 0++L++wkZ.drop (0+L.length)).take 51=L:=by simp[h2]
 have e2:(wkZ.take 0++L++wkZ.drop (0+L.length)).drop (51+6)=wkZ.drop 57:=by
  rw[List.take_zero,List.nil_append,List.drop_append,h2,List.drop_of_length_le (by rw[h2];decide),List.nil_append,List.drop_drop]
 simp only[List.length_cons,List.length_nil]
 rw[show (51+(0+1+1+1+1+1+1))=51+6 from rfl,e1,e2,h4]
 have h3:(stc l (.slice A n c) at_ asked)++[Value.int .i64 x.op,.int .i64 x.d,.int .i64 x.a,.int .i64 x.b,.int .i64 x.n,.int .i64 x.jt,.slice B m d,.slice none 0 0,.int .i64 0,.int .i64 0]=Wk.cells ⟨l,.slice A n c,at_,asked,x,.slice B m d,.slice none 0 0,0,0⟩:=by unfold stc Wk.cells Wk.hi;simp
 rw[←h3,←hL]
 simp[Instr.fill,h2,show (Value.slice B m d).cells=#[.slice B m d] from rfl,List.set_append]
theorem y9 {W:World} {g:Nat} {k:Wk} (h:bT W g k):(loadVar 93 ⟨g,0,none⟩).run Tryz.prog W=.ok (.agg (stc k.l k.vH k.at_ k.asked).toArray) W:=by
 refine bU h.1 93 0 (stc k.l k.vH k.at_ k.asked) ?_ _ Tryz.underlying93 rfl (by rw[cD h.2];exact j8)
 have h1:k.cells=stc k.l k.vH k.at_ k.asked++k.hi.drop 3:=by unfold Wk.cells stc Wk.hi;simp
 rw[h1,List.drop_zero,List.take_append_of_le_length (Nat.le_refl _),List.take_length]
theorem Dv {l:List (Bool × Int)} (h:l.length=24) {vH:Value} {at_ asked:Int} {i:Nat} (hi:i < 24):(stc l vH at_ asked)[i * 2]?=some (.bool (l.getD i (false,0)).1):=by
 unfold stc
 rw[List.getElem?_append_left (by rw[dJ,h];omega)]
 refine BH _ _ _ ?_
 rw[List.getD_eq_getElem?_getD,List.getElem?_eq_getElem (by omega)]
 rfl
theorem IsP.below {W W':World} {g:Nat} {x:In} {vA:Value} {p:Pw} (h:IsP W g x vA p) (hb:Below W.heap.size W W'):IsP W' g x vA p:=by
 obtain⟨vH,vE,h1,h2,h3⟩:=h
 exact⟨vH,vE,h1.below hb,h2.below hb,h3.below hb⟩
theorem vl (x:In) (ask:List Int) (p:Pw):(doP x ask p).h.length=p.h.length:=by
 have hs:∀ d v how,(p.setP d v how).h=p.h:=fun d v how=>by unfold Pw.setP;split <;> rfl
 have hn:∀ (q:Pw) n,(q.next n).h=q.h:=fun q n=>by unfold Pw.next;split <;> rfl
 have hc:∀ a,(p.callP x ask a).h=p.h:=fun a=>by unfold Pw.callP;split <;> rfl
 have hst:∀ a b,(p.storeP a b).h.length=p.h.length:=fun a b=>by
  unfold Pw.storeP jr
  by_cases hi:hIn p.h.length a=true
  ·rw[if_pos hi];simp
  ·rw[if_neg hi];simp
 unfold doP
 split
 ·rw[hn,hs]
 ·split
  ·rw[hn,hst]
  ·split
   ·rw[hn,hc]
   ·split
    ·rfl
    ·split
     ·rw[hn]
     ·split
      ·rw[hn]
      ·split
       ·rw[hn,hs]
       ·rw[hn];rfl
theorem Fr.new {W W':World} {S:Nat→Prop} {o:Obj} (h:Fr (fun k=>k=W.heap.size) (W.alloc o) W'):Fr S W W':=
 ⟨h.os,h.tape,h.output,Nat.le_trans (by simp) h.size,fun k hk _=>(h.block k (by simp;omega) (by omega)).trans (by have:=heap_alloc_last W o;exact(ae (Below.refl W.heap.size W) o).block k hk)⟩
theorem ij:(Tryz.prog.info? 59).map (·.size)=some 3:=by kernel_rfl
theorem Bo (f:List In) (Af:Option Addr) (cf:Nat) (s:St) (h24:s.l.length=24) (vH:Value) (ask:List Int) (vA:Value) (w:World) (hG:Gl w) (hC:Kd.C kIn w Af f.length f) (hc:f.length≤cf) (hH:Rd (Kd.int .i64) w vH s.h) (hA:RdT (Kd.int .i64) 2 w vA ask) (hn:s.h.length≤5000) (hl:ask.length≤100000) :
  Calls Tryz.prog 67 #[.slice Af f.length cf,.agg (stc s.l vH s.at_ s.asked).toArray,vA] w fun e w'=>Dm (gz f s ask) w e w':=by
 obtain⟨AH,cH,rfl,hcH,hCH⟩:=hH
 obtain⟨AA,cA,rfl,hcA,hCA,htA⟩:=hA
 have hHr:Rd (Kd.int .i64) w (.slice AH s.h.length cH) s.h:=⟨AH,cH,rfl,hcH,hCH⟩
 have hAr:RdT (Kd.int .i64) 2 w (.slice AA ask.length cA) ask:=⟨AA,cA,rfl,hcA,hCA,htA⟩
 obtain⟨r,hr⟩:=nm_ (gz f s ask)
 rw[←hr]
 unfold gz at hr
 obtain⟨L,hL⟩:∃ L,L=stc s.l (.slice AH s.h.length cH) s.at_ s.asked:=⟨_,rfl⟩
 have hLl:L.length=51:=by rw[hL];exact cD h24
 have hL1:L.toArray.all (·.oneCell')=true:=by rw[hL];exact dN
 have hL2:L[49]?=some (.int .i64 s.at_):=by rw[hL,show 49=48+1 from rfl,jP h24];rfl
 obtain⟨w1,hw1⟩:∃ w1,w1=((w.alloc (.cells L.toArray 93)).alloc (.cells bJ 93)).alloc (.cells #[.int .i64 0,.int .i64 0,.slice none 0 0] 59):=⟨_,rfl⟩
 obtain⟨B,hB⟩:=mn_ w.heap.size
 obtain⟨h1,h2,h3,hb1⟩:=cw (w:=w) (w1:=w1) (A:=.cells L.toArray 93) (B:=.cells bJ 93) (C:=.cells #[.int .i64 0,.int .i64 0,.slice none 0 0] 59) (by rw[hw1];exact Below.refl _ _)
 rw[hB] at h1 h2 h3
 rw[show B+2=B+1+1 from rfl] at h3
 obtain⟨b,hb⟩:=nm_ (pP f s.l s.h.length s.at_ s.asked)
 have hR:=tw f Af cf s.l h24 AH s.h.length cH s.at_ s.asked w1 (hG.below hb1) (Kd.C_below hC hb1) hc hn
 rw[←hL,←hb] at hR
 rw[←hb] at hr
 have HG:=ak_ (hG.below hb1)
 have HC:=ak_ (Kd.C_below hC hb1)
 have HHr:=ak_ (Rd.below hHr hb1)
 have HAr:=ak_ (RdT.below hAr hb1)
 have HRt:=ak_ hR
 have HRr:=ak_ hr
 have HW1:=ak_ hw1
 have H1:=ak_ h1
 have H2:=ak_ h2
 have H3:=ak_ h3
 have HB1:=ak_ hb1
 have HBe:=ak_ hB
 have HL:=ak_ hL
 have HLl:=ak_ hLl
 have HL1:=ak_ hL1
 have HL2:=ak_ hL2
 have H24:=ak_ h24
 have HHn:=ak_ hn
 have HAl:=ak_ hl
 have HBo:=ak_ hb
 have HBd93:=ak_ (show Tryz.prog.built 93 []=some bJ from rfl)
 rw[←hL]
 clear hG hC hc hHr hAr hR hr hw1 h1 h2 h3 hb1 hL hLl hL1 hL2 h24 hn hl hb hcH hCH hcA hCA htA
 by_cases hbt:b=true
 ·subst hbt
  rw[if_pos rfl] at HRr
  have hok:=HBo.out.symm
  unfold pP at hok
  simp only[Bool.and_eq_true,decide_eq_true_eq] at hok
  obtain⟨⟨⟨⟨⟨k1,k2⟩,k3⟩,k4⟩,k5⟩,k6⟩:=hok
  obtain⟨n,hn⟩:∃ n:Nat,s.at_=n:=⟨s.at_.toNat,by omega⟩
  have hnl:n < f.length:=by omega
  obtain⟨x,hx⟩:∃ x,f[n]?=some x:=⟨_,List.getElem?_eq_getElem hnl⟩
  have hok:=(bN k1).ok n x hx
  have hf200:=(bN k1).len
  have hgx:f.getD s.at_.toNat In.zero=x:=by rw[hn,Int.toNat_natCast,List.getD_eq_getElem?_getD,hx];rfl
  rw[hgx] at HRr
  obtain⟨ad,cs,rfl,hK,_⟩:=aW (P:=Tryz.prog) HC.out (Below.refl _ _) n hnl x hx 49 Tryz.underlying49 rfl bE
  obtain rfl:cs=[.int .i64 x.op,.int .i64 x.d,.int .i64 x.a,.int .i64 x.b,.int .i64 x.n,.int .i64 x.jt]:=hK
  have hnl':(n:Int) < (f.length:Int):=by omega
  have HOk:=ak_ hok
  have HF200:=ak_ hf200
  have HN:=ak_ hn
  have HX:=ak_ hx
  have HNl:=ak_ hnl
  have HK:=ak_ (And.intro k4 k5)
  clear k1 k2 k3 k4 k5 k6 hok hf200 hgx hn hx hnl
  go_enter Tryz.func67,Tryz.ntmps67
  go_upto_region 1 with fail
  refine ar HW1.out.symm ?_
  clear hB HW1
  go_upto_region 3 with (first
   | ((with_reducible refine aj (N:=15) rfl ?_);refine wpList_load_row rfl 93 _ rfl B rfl 93 L.toArray (0,0) _ H1.out Tryz.underlying93 rfl (by rw[List.size_toArray,HLl.out];exact j8) ?_)
   | (go_at_call 90;refine HRt.out.mono ?_;rintro e w2 ⟨rfl,hb⟩;have HB2:=ak_ hb;have H12:=ak_ (ag H1.out hb);have H22:=ak_ (ag H2.out hb);have H32:=ak_ (ag H3.out hb);clear hb))
  have HLd:=ak_ (fun (W:World) (hb:Below w2.heap.size w2 W)=>aT (P:=Tryz.prog) (ag H12.out hb) Tryz.underlying93 rfl (by rw[List.size_toArray,HLl.out];exact j8))
  have HC49:=ak_ (show w2.cell? ⟨B,49,none⟩=some (.int .i64 (n:Int)) by rw[ap H12.out,HL2.out,HN.out])
  have HA3:=ak_ (show ∀ W,(isAgg 3).run Tryz.prog W=.ok false W from fun W=>by kernel_rfl)
  have HLx:=ak_ (fun (W:World) (hb:Below w2.heap.size w2 W)=>show (loadVar 49 (ad.add (n * 6))).run Tryz.prog W=.ok (.agg x.cells) W by
   obtain⟨a3,c3,q1,q2,q3⟩:=aW (P:=Tryz.prog) HC.out (af HB2.out hb) n HNl.out x HX.out 49 Tryz.underlying49 rfl bE
   injection q1 with q1
   subst q1
   obtain rfl:c3=[.int .i64 x.op,.int .i64 x.d,.int .i64 x.a,.int .i64 x.b,.int .i64 x.n,.int .i64 x.jt]:=q2
   exact q3)
  have hOwn:=fun (W:World) (hb:Below w2.heap.size w2 W)=>zm s.l H24.out (.slice AH s.h.length cH) s.h s.at_ s.asked W (HHr.out.below (af HB2.out hb)) (by have:=HHn.out;omega)
  rw[←HL.out] at hOwn
  have HOwn:=ak_ hOwn
  clear hOwn
  refine bh (σ:=(Option Addr × Nat) × Nat) [1,9] (fun q=>[(20,.agg L.toArray),(21,.agg (stc s.l (.slice q.1.1 s.h.length q.1.2) s.at_ s.asked).toArray),(22,.slice (some ad) f.length cf),(23,.pointer (some ⟨B,49,none⟩)),(24,.int .i64 (n:Int)),(25,.pointer (some (ad.add (n * 6)))),(26,.agg x.cells),(27,.slice AA ask.length cA),(28,.agg (Wk.cells (s.pw.wk x (.slice q.1.1 s.h.length q.1.2) (.slice AA ask.length cA) (.slice none 0 0))).toArray),(29,.pointer (some ⟨q.2,0,none⟩)),(10,.pointer (some ⟨q.2,0,none⟩))])
   (fun bs q W=>Below w2.heap.size w2 W∧(bs.getD 0 false=true→RdT (Kd.int .i64) 2 W (.slice q.1.1 s.h.length q.1.2) s.h)∧(bs.getD 1 false=true→bT W q.2 (s.pw.wk x (.slice q.1.1 s.h.length q.1.2) (.slice AA ask.length cA) (.slice none 0 0))∧w2.heap.size≤q.2)) ((none,0),0) (by kernel_rfl) (by kernel_rfl) (by kernel_rfl) (fun _=>by kernel_rfl) ?_
  intro aF haF
  simp only[bd,Act.put,List.setIfInBounds_toArray,List.set_cons_succ,List.set_cons_zero] at haF
  subst haF
  refine⟨?_,?_,⟨az (Below.refl _ _),fun e=>Bool.noConfusion e,fun e=>Bool.noConfusion e⟩,?_⟩
  ·intro j o ho hct s_1 W bs hlen hok hI
   rcases j with _ | _ | _ | _ | _ | _ | _ | _ | _ | _ | _ | j
   all_goals first | exact absurd hct (by decide) | (obtain rfl:=Option.some.inj ho) | exact absurd (Array.getElem?_eq_some_iff.1 ho).1 (by simp)
   ·exact ab rfl (al rfl rfl (HLd.out W hI.1)) ⟨rfl,hI⟩
   ·exact ab rfl (by go_simp) ⟨rfl,hI⟩
   ·exact ab rfl (by go_simp) ⟨rfl,hI⟩
   ·exact ab rfl (al rfl rfl (aE (HA3.out W) (ak hI.1 HC49.out))) ⟨rfl,hI⟩
   ·exact ab rfl (by go_simp) ⟨rfl,hI⟩
   ·exact ab rfl (al rfl rfl (HLx.out W hI.1)) ⟨rfl,hI⟩
   ·exact ab rfl (by go_simp) ⟨rfl,hI⟩
   ·exact ab rfl (jw 197 _ rfl [(0,.agg (stc s.l (.slice s_1.1.1 s.h.length s_1.1.2) s.at_ s.asked).toArray),(1,.agg x.cells),(2,.slice AA ask.length cA)] _ rfl (AI _ H24.out _ _ _ _ _ _ _ _ _)) ⟨rfl,hI⟩
   ·exact ab rfl (by go_simp) ⟨rfl,hI⟩
  ·intro k j o hk ho s_1 W bs hlen hok hI
   rcases k with _ | _ | k
   all_goals first | (obtain rfl:=Option.some.inj hk;obtain rfl:=Option.some.inj ho) | exact absurd hk (by simp)
   ·obtain⟨b0,b1,rfl⟩:=fR hlen
    obtain rfl:=okS hok 0 rfl rfl
    obtain rfl:=okF hok 1 rfl rfl rfl (by kernel_rfl)
    refine aN rfl Tryz.func91 (by kernel_rfl) rfl #[.agg L.toArray] rfl rfl ((HOwn.out W hI.1).mono fun e w' h=>?_)
    obtain⟨A1,c1,h1,h2,h3⟩:=h
    exact⟨_,h1,((A1,c1),s_1.2),[(21,.agg (stc s.l (.slice A1 s.h.length c1) s.at_ s.asked).toArray),(28,.agg (Wk.cells (s.pw.wk x (.slice A1 s.h.length c1) (.slice AA ask.length cA) (.slice none 0 0))).toArray)],rfl,rfl,by kernel_rfl,⟨af hI.1 h3,fun _=>h2,fun e=>Bool.noConfusion e⟩⟩
   ·obtain⟨b0,b1,rfl⟩:=fR hlen
    obtain rfl:=okS hok 1 rfl rfl
    obtain rfl:=okT hok 0 rfl rfl rfl (by kernel_rfl)
    exact ab (v:=.pointer (some ⟨W.heap.size,0,none⟩)) (w':=W.alloc (.cells (Wk.cells (s.pw.wk x (.slice s_1.1.1 s.h.length s_1.1.2) (.slice AA ask.length cA) (.slice none 0 0))).toArray 197)) rfl (by go_simp) ⟨(s_1.1,W.heap.size),[(29,.pointer (some ⟨W.heap.size,0,none⟩)),(10,.pointer (some ⟨W.heap.size,0,none⟩))],rfl,rfl,by kernel_rfl,⟨af hI.1 (ae (Below.refl _ _) _),fun _=>(hI.2.1 rfl).below (ae (Below.refl _ _) _),fun _=>⟨⟨heap_alloc_last W _,H24.out⟩,hI.1.size⟩⟩⟩
  ·intro q W hI
   obtain⟨hb3,hr3,hk3⟩:=hI
   have hr3:=hr3 rfl
   obtain⟨hk3,hg3⟩:=hk3 rfl
   obtain⟨⟨A1,c1⟩,g⟩:=q
   dsimp only at hr3 hk3 hg3 ⊢
   obtain⟨w3,rfl⟩:=nm_ W
   have hgB:B+1+1 < g:=by have:=ai H32.out;omega
   have HB3:=ak_ (af HB1.out (af HB2.out hb3))
   have HUse:=ak_ (zY x w3 (HG.out.below (af HB2.out hb3)))
   have HAr3:=ak_ (HAr.out.below (af HB2.out hb3))
   have HX3:=ak_ (Dp hk3)
   have HGn:=ak_ hgB
   have HP3:=ak_ (show IsP w3 g x (.slice AA ask.length cA) s.pw from ⟨_,_,hk3,hr3,RdT.nil _ _ _⟩)
   have H13:=ak_ (ag H12.out hb3)
   have H23:=ak_ (ag H22.out hb3)
   have H33:=ak_ (ag H32.out hb3)
   have HK3:=ak_ hk3
   have HR3:=ak_ hr3
   clear hb3 hr3 hk3 hg3 hgB HOwn HLx HLd HC49 HRt H1 H2 H3 H12 H22 H32
   go_upto_region 5 with (first
    | ((with_reducible refine aj (N:=33) rfl ?_);refine au rfl 49 _ rfl ⟨g,51,none⟩ rfl _ HX3.out ?_)
    | (go_at_call 56;refine HUse.out.mono ?_;rintro e w4 ⟨vU,rfl,⟨AU,cU,rfl,hcU,hCU⟩,hb4⟩;have HCU:=ak_ hCU;have HB4:=ak_ hb4;clear hCU hb4 hcU))
   have HWs:=ak_ (y9 HK3.out)
   have hu3:((cy x).length:Int)≤3:=by have:=lu x;omega
   clear hnl' HX3 HUse
   go_loopw [36] (fun j wr=>∃ k:Nat,j=.int .i64 k∧aa (k≤(cy x).length∧Below w4.heap.size w4 wr∧∀ (i:Nat) (l:Int),i < k→(cy x)[i]?=some l→(s.l.getD l.toNat (false,0)).1=true)) (fun j _=>(cy x).length - (intOf j).toNat)
   case atStart=>exact⟨0,rfl,⟨⟨Nat.zero_le _,Below.refl _ _,fun i l h=>absurd h (Nat.not_lt_zero i)⟩⟩⟩
   case round=>
    obtain⟨k,rfl,HL5⟩:=hrel
    obtain⟨hk,hb5,hall⟩:=HL5.out
    by_cases hkl:k < (cy x).length
    ·have hkl':(k:Int) < ((cy x).length:Int):=by omega
     obtain⟨l,hl⟩:∃ l,(cy x)[k]?=some l:=⟨_,List.getElem?_eq_getElem hkl⟩
     obtain⟨l1,l2⟩:=ny HOk.out l (List.mem_of_getElem? hl)
     obtain⟨m,rfl⟩:∃ m:Nat,l=m:=⟨l.toNat,by omega⟩
     obtain⟨adU,csU,eU,_,hKU,hcU⟩:=bX (Kd.C_below HCU.out hb5) k hkl _ hl
     subst eU
     obtain rfl:csU=[.int .i64 (m:Int)]:=hKU
     have vU:=hcU 0 _ rfl
     rw[show k * (Kd.int .i64).sz+0=k from Nat.mul_one k] at vU
     obtain⟨bb,hbb⟩:=nm_ ((s.l.getD m (false,0)).1)
     have vB:=(show wr.cell? ⟨B,m * 2,none⟩=some (.bool bb) by rw[ap (ag (ag H13.out HB4.out) hb5),HL.out,Dv H24.out (by omega),hbb])
     have HB5:=ak_ hb5
     have HAll:=ak_ hall
     have HLx:=ak_ hl
     have HKl:=ak_ hkl
     have HBb:=ak_ hbb
     clear hk hb5 hall HL5 hl hcU hkl hbb
     by_cases ht:bb=true
     ·subst ht
      go_wp2
      go_roundw
      case rel=>exact⟨k+1,by go_num,⟨⟨HKl.out,HB5.out,fun i l hi hl=>by
       by_cases e:i=k
       ·subst e
        obtain rfl:=Option.some.inj (HLx.out.symm.trans hl)
        rw[Int.toNat_natCast]
        exact HBb.out.symm
       ·exact HAll.out i l (by omega) hl⟩⟩⟩
      case measure=>have:=HKl.out;simp[intOf];omega
     ·obtain rfl:bb=false:=by cases bb <;> simp_all
      clear ht
      have H26:=ak_ (ag (ag H23.out HB4.out) HB5.out)
      have H36:=ak_ (ag (ag H33.out HB4.out) HB5.out)
      have HWk6:=ak_ ((HK3.out.below HB4.out).below HB5.out)
      have HW6:=ak_ (y9 HWk6.out)
      go_wp2_with (first
       | ((with_reducible refine aj (N:=49) rfl ?_);refine au rfl 93 _ rfl ⟨g,0,none⟩ rfl _ HW6.out ?_)
       | ((with_reducible refine ao (t:=93) (p:=6) rfl ?_);refine an rfl 93 _ _ rfl (B+1) (stc s.l (.slice A1 s.h.length c1) s.at_ s.asked).toArray rfl rfl 93 bJ H26.out (bM H24.out) (stz H24.out) dN ?_;intro w7 h27 hf7;have H27:=ak_ h27;have H37:=ak_ ((hf7.block (B+1+1) (ai H36.out) (by omega)).trans H36.out);have HF7:=ak_ hf7;clear h27 hf7)
       | ((with_reducible refine ao (t:=59) (p:=8) rfl ?_);refine an rfl 59 _ _ rfl (B+1+1) #[.int .i64 2,.int .i64 0,.slice none 0 0] rfl rfl 59 #[.int .i64 0,.int .i64 0,.slice none 0 0] H37.out ij rfl (by simp[Value.oneCell']) ?_;intro w8 h38 hf8;have H38:=ak_ h38;have H28:=ak_ ((hf8.block (B+1) (ai H27.out) (by omega)).trans H27.out);have HF8:=ak_ hf8;clear h38 hf8))
      have hno:nL s x=false:=by
       unfold nL
       rw[List.all_eq_false]
       refine⟨_,List.mem_of_getElem? HLx.out,?_⟩
       rw[Int.toNat_natCast,←HBb.out]
       decide
      rw[hno,if_neg Bool.false_ne_true] at HRr
      rw[HRr.out]
      have hf68:Fr (fun k=>k=B+1∨k=B+1+1) wr w8:=(HF7.out.mono fun k _ e=>.inl e).trans (HF8.out.mono fun k _ e=>.inr e)
      have hh:RdT (Kd.int .i64) 2 w8 (.slice A1 s.h.length c1) s.h:=by
       exact((HR3.out.below HB4.out).below HB5.out).fr aC hf68 (fun k cs fr e=>by
        rcases e with rfl | rfl
        ·rw[H26.out];simp
        ·rw[H36.out];simp)
      exact bodyPost_ret (v:=.tuple #[.agg (stc s.l (.slice A1 s.h.length c1) s.at_ s.asked).toArray,.slice none 0 0,.agg #[.int .i64 2,.int .i64 0,.slice none 0 0],.int .i64 0]) (aA (rs:=[.cell 6 93,.tmp 7,.cell 8 59,.tmp 9]) rfl (by simp) (.cell (B+1) 93 _ (0,0) _ rfl H28.out Tryz.underlying93 rfl (bM H24.out) (.tmp (.cell (B+1+1) 59 #[.int .i64 2,.int .i64 0,.slice none 0 0] (0,0) _ rfl H38.out Tryz.underlying59 rfl ij (.tmp .nil))))) rfl ⟨_,_,_,rfl,hh,RdT.nil _ _ _,RdT.nil _ _ _,Fr.below (af (af HB3.out HB4.out) HB5.out) hf68 (fun k hk e=>by have:=HBe.out;omega) (af (af HB3.out HB4.out) HB5.out).size⟩
    ·obtain rfl:k=(cy x).length:=by omega
     have hok:nL s x=true:=by
      unfold nL
      rw[List.all_eq_true]
      intro l hl
      obtain⟨i,hi⟩:=List.getElem?_of_mem hl
      exact hall i l (List.getElem?_eq_some_iff.1 hi).1 hi
     rw[hok,if_pos rfl] at HRr
     obtain⟨p1,hp1⟩:=nm_ (doP x ask s.pw)
     have HPl:=ak_ (show p1.h.length≤100000 by rw[hp1];have:=vl x ask s.pw;have:=HHn.out;show _≤_;have h:s.pw.h.length=s.h.length:=rfl;omega)
     have HRr2:=ak_ (show r=(⟨p1.l,p1.h,p1.at_,p1.asked⟩,p1.evs,⟨p1.how,p1.val,if p1.how=1 then p1.h else []⟩,0) by rw[HRr.out,hp1])
     have hDo:=Bm g x f.length HOk.out ask (.slice AA ask.length cA) s.pw wr ((HP3.out.below HB4.out).below hb5) ((HAr3.out.below HB4.out).below hb5) HK.out.2 HAl.out ⟨by show 0≤s.at_;have:=HN.out;omega,by show s.at_≤1000;have:=HN.out;have:=HNl.out;have:=HF200.out;omega⟩ HHn.out rfl
     rw[←hp1] at hDo
     have HDo:=ak_ hDo
     have HB5:=ak_ (af (af HB3.out HB4.out) hb5)
     have H26:=ak_ (ag (ag H23.out HB4.out) hb5)
     have H36:=ak_ (ag (ag H33.out HB4.out) hb5)
     clear hk hkl hb5 hall HL5 hok hp1 hDo HRr HP3 HK3 HR3 HAr3 H13 H23 H33 HWs HCU HBo HL2 hu3
     go_upto_region 11 with (first
      | (go_at_call 92;refine HDo.out.mono ?_;rintro e w5 ⟨rfl,⟨vH2,vE2,hw5,hH5,hE5⟩,hf5⟩;obtain⟨A2,c2,rfl,z1⟩:=hH5;obtain⟨A4,c4,rfl,z2⟩:=hE5;have HWk5:=ak_ hw5;have HH5:=ak_ (show RdT (Kd.int .i64) 2 w5 (.slice A2 p1.h.length c2) p1.h from ⟨A2,c2,rfl,z1⟩);have HE5:=ak_ (show RdT kEv 105 w5 (.slice A4 p1.evs.length c4) p1.evs from ⟨A4,c4,rfl,z2⟩);have HF5:=ak_ hf5;clear hw5 hf5 z1 z2))
     have HB6:=ak_ (show Below w.heap.size w w5 from Fr.below HB5.out HF5.out (fun k hk e=>by subst e;have:=HGn.out;have:=HBe.out;omega) HB5.out.size)
     have H25:=ak_ ((HF5.out.block (B+1) (ai H26.out) (by have:=HGn.out;omega)).trans H26.out)
     have H35:=ak_ ((HF5.out.block (B+1+1) (ai H36.out) (by have:=HGn.out;omega)).trans H36.out)
     have C59:=ak_ (show w5.cell? ⟨g,59,none⟩=some (.int .i64 p1.how) by rw[show 59=48+11 from rfl,HWk5.out.cell];rfl)
     have C60:=ak_ (show w5.cell? ⟨g,60,none⟩=some (.int .i64 p1.val) by rw[show 60=48+12 from rfl,HWk5.out.cell];rfl)
     have HA2:=ak_ (show ∀ W,(isAgg 2).run Tryz.prog W=.ok false W from fun W=>by kernel_rfl)
     have HBd59:=ak_ (show ∀ a b,Tryz.prog.built 59 [(0,.int .i64 a),(1,.int .i64 b)]=some #[.int .i64 a,.int .i64 b,.slice none 0 0] from fun _ _=>rfl)
     clear HDo H26 H36 HF5 HB5
     refine bh (σ:=Nat) [9,10] (fun q=>[(54,.pointer (some ⟨g,0,none⟩)),(55,.pointer (some ⟨g,0,none⟩)),(56,.pointer (some ⟨g,59,none⟩)),(57,.int .i64 p1.how),(58,.pointer (some ⟨g,0,none⟩)),(59,.pointer (some ⟨g,0,none⟩)),(60,.pointer (some ⟨g,60,none⟩)),(61,.int .i64 p1.val),(62,.agg #[.int .i64 p1.how,.int .i64 p1.val,.slice none 0 0]),(13,.pointer (some ⟨q,0,none⟩))])
      (fun bs q W=>Below w5.heap.size w5 W∧(bs.getD 0 false=true→w5.heap.size≤q∧W.heap[q]?=some (.cells (if bs.getD 1 false=true then #[.int .i64 p1.how,.int .i64 p1.val,.slice none 0 0] else #[.int .i64 0,.int .i64 0,.slice none 0 0]) 59 (0,0)))) 0 (by kernel_rfl) (by kernel_rfl) (by kernel_rfl) (fun _=>by kernel_rfl) ?_
     intro aF haF
     simp only[bd,Act.put,List.setIfInBounds_toArray,List.set_cons_succ,List.set_cons_zero] at haF
     subst haF
     refine⟨?_,?_,⟨az (Below.refl _ _),fun e=>Bool.noConfusion e⟩,?_⟩
     ·intro j o ho hct s_1 W bs hlen hok hI
      rcases j with _ | _ | _ | _ | _ | _ | _ | _ | _ | _ | _ | j
      all_goals first | exact absurd hct (by decide) | (obtain rfl:=Option.some.inj ho) | exact absurd (Array.getElem?_eq_some_iff.1 ho).1 (by simp)
      ·exact ab rfl (by go_simp) ⟨rfl,hI⟩
      ·exact ab rfl (by go_simp) ⟨rfl,hI⟩
      ·exact ab rfl (by go_simp) ⟨rfl,hI⟩
      ·exact ab rfl (al rfl rfl (aE (HA3.out W) (ak hI.1 C59.out))) ⟨rfl,hI⟩
      ·exact ab rfl (by go_simp) ⟨rfl,hI⟩
      ·exact ab rfl (by go_simp) ⟨rfl,hI⟩
      ·exact ab rfl (by go_simp) ⟨rfl,hI⟩
      ·exact ab rfl (al rfl rfl (aE (HA2.out W) (ak hI.1 C60.out))) ⟨rfl,hI⟩
      ·exact ab rfl (jw 59 _ rfl [(0,.int .i64 p1.how),(1,.int .i64 p1.val)] _ rfl (HBd59.out _ _)) ⟨rfl,hI⟩
     ·intro k j o hk ho s_1 W bs hlen hok hI
      rcases k with _ | _ | k
      all_goals first | (obtain rfl:=Option.some.inj hk;obtain rfl:=Option.some.inj ho) | exact absurd hk (by simp)
      ·obtain⟨b0,b1,rfl⟩:=fR hlen
       obtain rfl:=okS hok 0 rfl rfl
       obtain rfl:=okF hok 1 rfl rfl rfl (by kernel_rfl)
       exact ab (v:=.pointer (some ⟨W.heap.size,0,none⟩)) (w':=W.alloc (.cells #[.int .i64 0,.int .i64 0,.slice none 0 0] 59)) rfl (by go_simp) ⟨W.heap.size,[(13,.pointer (some ⟨W.heap.size,0,none⟩))],rfl,rfl,by kernel_rfl,⟨af hI.1 (ae (Below.refl _ _) _),fun _=>⟨hI.1.size,heap_alloc_last W _⟩⟩⟩
      ·obtain⟨b0,b1,rfl⟩:=fR hlen
       obtain rfl:=okS hok 1 rfl rfl
       obtain rfl:=okT hok 0 rfl rfl rfl (by kernel_rfl)
       obtain⟨z1,z2⟩:=hI.2 rfl
       refine bm rfl 59 _ _ rfl s_1 0 [.int .i64 p1.how,.int .i64 p1.val,.slice none 0 0] rfl rfl 59 [.int .i64 0,.int .i64 0,.slice none 0 0] [.int .i64 p1.how,.int .i64 p1.val,.slice none 0 0] z2 ij (by simp) (by simp[Value.oneCell']) rfl (fun W' h3 hf3=>⟨s_1,[],rfl,rfl,rfl,⟨Fr.below hI.1 hf3 (fun k hk e=>by subst e;omega) hI.1.size,fun _=>⟨z1,h3⟩⟩⟩)
     ·intro q W hI
      obtain⟨hb6,hq6⟩:=hI
      obtain⟨hqn,hq6⟩:=hq6 rfl
      obtain⟨w6,rfl⟩:=nm_ W
      have H6q:=ak_ (show w6.heap[q]?=some (.cells #[.int .i64 p1.how,.int .i64 p1.val,.slice none 0 0] 59 (0,0)) from hq6)
      have HWk6:=ak_ (HWk5.out.below hb6)
      have HH6:=ak_ (HH5.out.below hb6)
      have HE6:=ak_ (HE5.out.below hb6)
      have H26:=ak_ (ag H25.out hb6)
      have H36:=ak_ (ag H35.out hb6)
      have HQn:=ak_ (show g < q∧B+1+1 < q from ⟨by have:=ai HWk5.out.1;omega,by have:=ai H35.out;omega⟩)
      have HB7:=ak_ (af HB6.out hb6)
      have c59:=ak hb6 C59.out
      have c48:=(show w6.cell? ⟨g,48,none⟩=some (.slice A2 p1.h.length c2) by rw[show 48=48+0 from rfl,HWk6.out.cell];rfl)
      have hgl:=ai HWk6.out.1
      have hql:=ai H6q.out
      have hq2:=(show w6.cell? ⟨q,2,none⟩=some (.slice none 0 0) by rw[ah H6q.out];rfl)
      obtain⟨oh,hoh⟩:∃ oh,oh=(if p1.how=1 then p1.h else []):=⟨_,rfl⟩
      rw[←hoh] at HRr2
      clear hb6 hqn hq6 HWk5 HH5 HE5 H25 H35 C59 C60 HB6 HBd59
      go_upto_if 67 with fail
      go_cut [] from 67 to 76 (fun wx=>∃ v3,aa (wx.heap[q]?=some (.cells #[.int .i64 p1.how,.int .i64 p1.val,v3] 59 (0,0))∧RdT (Kd.int .i64) 2 wx v3 oh∧Fr (fun k=>k=q) w6 wx))
      case first=>
       by_cases hd:p1.how=1
       ·have q1:(p1.how == 1)=true:=beq_iff_eq.mpr hd
        obtain rfl:oh=p1.h:=by rw[hoh,if_pos hd]
        clear hd hoh
        have HC2:=ak_ (show Kd.C (Kd.int .i64) w6 A2 p1.h.length p1.h by obtain⟨Aq,cq,e,_,h,_⟩:=HH6.out;injection e with e;subst e;exact h)
        have HL5:=ak_ HPl.out
        go_wp2_with (first
         | ((with_reducible refine a7 (b:=.append) (xs:=#[.tmp 68,.tmp 73]) rfl ?_);refine kS rfl 35 (.tmp 68) (.tmp 73) rfl Tryz.underlying35 j9 w6.heap.size p1.h A2 p1.h.length c2 rfl rfl (heap_alloc_last w6 _) (Kd.C_below HC2.out (ae (Below.refl _ _) _)) HL5.out ?_;intro A9 c9 w7 hr hf;have HR:=ak_ hr;have HF:=ak_ hf;have H7q:=ak_ ((hf.block q (by simp;omega) (by omega)).trans (aK H6q.out _));have hq2':=(show w7.cell? ⟨q,2,none⟩=some (.slice none 0 0) by rw[ah H7q.out];rfl);have fq2:=aq H7q.out 2;clear hr hf))
        have hf8:Fr (fun k=>k=q) w7 (w7.setCell ⟨q,2,none⟩ (.slice A9 p1.h.length c9)):=Fr.cell (S:=fun j=>j=q) (p:=⟨q,2,none⟩) rfl _
        have h8:=aJ (L:=[.int .i64 p1.how,.int .i64 p1.val,.slice none 0 0]) H7q.out 2 (.slice A9 p1.h.length c9)
        have h9:=HR.out.fr aC hf8 (fun k cs fr e=>by subst e;rw[H7q.out];simp)
        go_meet
        case rel=>exact⟨_,⟨h8,h9,(Fr.new HF.out).trans hf8⟩⟩
       ·have q1:(p1.how == 1)=false:=beq_eq_false_iff_ne.mpr hd
        obtain rfl:oh=[]:=by rw[hoh,if_neg hd]
        clear hd hoh
        go_wp2
        go_meet
        case rel=>exact⟨_,⟨H6q.out,RdT.nil _ _ _,Fr.refl _ _⟩⟩
      case rest=>
       obtain⟨v3,hC3⟩:=hcut
       obtain⟨h7q,⟨A3,c3,rfl,z3⟩,hf7⟩:=hC3.out
       have HOc:=ak_ h7q
       have HOr:=ak_ (show RdT (Kd.int .i64) 2 wc (.slice A3 oh.length c3) oh from ⟨A3,c3,rfl,z3⟩)
       have HF7:=ak_ hf7
       obtain⟨w7,rfl⟩:=nm_ wc
       have HWk7:=ak_ (HWk6.out.fr hf7 (by have:=HQn.out;omega))
       have H27:=ak_ ((hf7.block (B+1) (ai H26.out) (by have:=HQn.out;omega)).trans H26.out)
       have H37:=ak_ ((hf7.block (B+1+1) (ai H36.out) (by have:=HQn.out;omega)).trans H36.out)
       have HH7:=ak_ (HH6.out.fr aC hf7 (fun k cs fr e=>by subst e;rw[H6q.out];simp))
       have HE7:=ak_ (HE6.out.fr bR hf7 (fun k cs fr e=>by subst e;rw[H6q.out];simp))
       have HB8:=ak_ (Fr.below HB7.out hf7 (fun k hk e=>by have:=HQn.out;have:=HBe.out;omega) HB7.out.size)
       have C58:=ak_ (show w7.cell? ⟨g,58,none⟩=some (.slice A4 p1.evs.length c4) by rw[show 58=48+10 from rfl,HWk7.out.cell];rfl)
       have HA57:=ak_ (show ∀ W,(isAgg 57).run Tryz.prog W=.ok false W from fun W=>by kernel_rfl)
       have HL24:=ak_ (show p1.l.length=24 from HWk7.out.2)
       clear hC3 h7q z3 hf7 c59 c48 hgl hql hq2 HWk6 HH6 HE6 H26 H36 HB7 H6q
       go_upto_region 14 with fail
       refine bh (σ:=Unit) [9,11] (fun _=>[(76,.pointer (some ⟨g,0,none⟩)),(77,.pointer (some ⟨g,0,none⟩)),(78,.pointer (some ⟨g,0,none⟩)),(79,.agg (stc p1.l (.slice A2 p1.h.length c2) p1.at_ p1.asked).toArray),(80,.pointer (some ⟨g,0,none⟩)),(81,.pointer (some ⟨g,0,none⟩)),(82,.pointer (some ⟨g,58,none⟩)),(83,.slice A4 p1.evs.length c4),(84,.agg ([.int .i64 p1.how,.int .i64 p1.val,.slice A3 oh.length c3]:List Value).toArray),(7,.slice A4 p1.evs.length c4),(9,.int .i64 0)])
        (fun bs _ W=>W.heap[B+1]?=some (.cells (if bs.getD 0 false=true then (stc p1.l (.slice A2 p1.h.length c2) p1.at_ p1.asked).toArray else bJ) 93 (0,0))∧W.heap[B+1+1]?=some (.cells (if bs.getD 1 false=true then ([.int .i64 p1.how,.int .i64 p1.val,.slice A3 oh.length c3]:List Value).toArray else #[.int .i64 0,.int .i64 0,.slice none 0 0]) 59 (0,0))∧Fr (fun k=>k=B+1∨k=B+1+1) w7 W) () (by kernel_rfl) (by kernel_rfl) (by kernel_rfl) (fun _=>by kernel_rfl) ?_
       intro aF haF
       simp only[bd,Act.put,List.setIfInBounds_toArray,List.set_cons_succ,List.set_cons_zero] at haF
       subst haF
       refine⟨?_,?_,⟨H27.out,H37.out,Fr.drew⟩,?_⟩
       ·intro j o ho hct s_1 W bs hlen hok hI
        rcases j with _ | _ | _ | _ | _ | _ | _ | _ | _ | _ | _ | _ | _ | j
        all_goals first | exact absurd hct (by decide) | (obtain rfl:=Option.some.inj ho) | exact absurd (Array.getElem?_eq_some_iff.1 ho).1 (by simp)
        ·exact ab rfl (by go_simp) ⟨rfl,hI⟩
        ·exact ab rfl (by go_simp) ⟨rfl,hI⟩
        ·exact ab rfl (by go_simp) ⟨rfl,hI⟩
        ·exact ab rfl (al rfl rfl (y9 (k:=p1.wk x (.slice A2 p1.h.length c2) (.slice AA ask.length cA) (.slice A4 p1.evs.length c4)) (HWk7.out.fr hI.2.2 (by have:=HGn.out;omega)))) ⟨rfl,hI⟩
        ·exact ab rfl (by go_simp) ⟨rfl,hI⟩
        ·exact ab rfl (by go_simp) ⟨rfl,hI⟩
        ·exact ab rfl (by go_simp) ⟨rfl,hI⟩
        ·exact ab rfl (al rfl rfl (aE (HA57.out W) (hI.2.2.cell_at C58.out (by have:=HGn.out;show ¬ (g=_∨g=_);omega)))) ⟨rfl,hI⟩
        ·exact ab rfl (al rfl rfl (aT (P:=Tryz.prog) ((hI.2.2.block q (ai HOc.out) (by have:=HQn.out;omega)).trans HOc.out) Tryz.underlying59 rfl ij)) ⟨rfl,hI⟩
        ·exact ab rfl (by go_simp) ⟨rfl,hI⟩
        ·exact ab rfl (by go_simp) ⟨rfl,hI⟩
       ·intro k j o hk ho s_1 W bs hlen hok hI
        rcases k with _ | _ | k
        all_goals first | (obtain rfl:=Option.some.inj hk;obtain rfl:=Option.some.inj ho) | exact absurd hk (by simp)
        ·obtain⟨b0,b1,rfl⟩:=fR hlen
         obtain rfl:=okS hok 0 rfl rfl
         refine bm rfl 93 _ _ rfl (B+1) 0 (stc p1.l (.slice A2 p1.h.length c2) p1.at_ p1.asked) rfl rfl 93 (stc (List.replicate 24 (false,0)) (.slice none 0 0) 0 0) (stc p1.l (.slice A2 p1.h.length c2) p1.at_ p1.asked) hI.1 (by rw[cD HL24.out];exact j8) (by rw[cD HL24.out,cD (by rfl)];decide) (fun v hv=>by have:=dN (l:=p1.l) (A:=A2) (n:=p1.h.length) (c:=c2) (at_:=p1.at_) (asked:=p1.asked);rw[Array.all_eq_true_iff_forall_mem] at this;exact this v (by simpa using hv)) (by rw[List.take_zero,List.nil_append,List.drop_of_length_le (by rw[cD HL24.out,cD (by rfl)];decide),List.append_nil]) (fun W' h3 hf3=>⟨(),[],rfl,rfl,rfl,⟨h3,(hf3.block (B+1+1) (ai hI.2.1) (by omega)).trans hI.2.1,hI.2.2.trans (hf3.mono fun k _ e=>.inl e)⟩⟩)
        ·obtain⟨b0,b1,rfl⟩:=fR hlen
         obtain rfl:=okS hok 1 rfl rfl
         refine bm rfl 59 _ _ rfl (B+1+1) 0 [.int .i64 p1.how,.int .i64 p1.val,.slice A3 oh.length c3] rfl rfl 59 [.int .i64 0,.int .i64 0,.slice none 0 0] [.int .i64 p1.how,.int .i64 p1.val,.slice A3 oh.length c3] hI.2.1 ij (by simp) (by simp[Value.oneCell']) rfl (fun W' h3 hf3=>⟨(),[],rfl,rfl,rfl,⟨(hf3.block (B+1) (ai hI.1) (by omega)).trans hI.1,h3,hI.2.2.trans (hf3.mono fun k _ e=>.inr e)⟩⟩)
       ·intro _ W hI
        have hf9:=hI.2.2
        have H29:=hI.1
        have H39:=hI.2.1
        have ht:∀ k cs fr t,(k=B+1∨k=B+1+1)→t≠93→t≠59→w7.heap[k]?≠some (.cells cs t fr):=fun k cs fr t e h1 h2 h3=>by
         rcases e with rfl | rfl
         ·rw[H27.out] at h3
          injection h3 with h3
          injection h3 with _ h3
          exact h1 h3.symm
         ·rw[H37.out] at h3
          injection h3 with h3
          injection h3 with _ h3
          exact h2 h3.symm
        have r1:=HH7.out.fr aC hf9 (fun k cs fr e=>ht k cs fr 2 e (by decide) (by decide))
        have r2:=HE7.out.fr bR hf9 (fun k cs fr e=>ht k cs fr 105 e (by decide) (by decide))
        have r3:=HOr.out.fr aC hf9 (fun k cs fr e=>ht k cs fr 2 e (by decide) (by decide))
        have r4:=Fr.below HB8.out hf9 (fun k hk e=>by have:=HBe.out;omega) HB8.out.size
        go_wp2
        rw[HRr2.out]
        exact bodyPost_ret (v:=.tuple #[.agg (stc p1.l (.slice A2 p1.h.length c2) p1.at_ p1.asked).toArray,.slice A4 p1.evs.length c4,.agg #[.int .i64 p1.how,.int .i64 p1.val,.slice A3 oh.length c3],.int .i64 0]) (aA (rs:=[.cell 6 93,.tmp 7,.cell 8 59,.tmp 9]) rfl (by simp) (.cell (B+1) 93 _ (0,0) _ rfl H29 Tryz.underlying93 rfl (bM HL24.out) (.tmp (.cell (B+1+1) 59 #[.int .i64 p1.how,.int .i64 p1.val,.slice A3 oh.length c3] (0,0) _ rfl H39 Tryz.underlying59 rfl ij (.tmp .nil))))) rfl ⟨_,_,_,rfl,r1,r2,r3,r4⟩
 ·obtain rfl:b=false:=by cases b <;> simp_all
  clear hbt
  go_enter Tryz.func67,Tryz.ntmps67
  go_upto_region 1 with fail
  refine ar HW1.out.symm ?_
  clear hB HW1
  go_wp2_with (first
   | ((with_reducible refine aj (N:=15) rfl ?_);refine wpList_load_row rfl 93 _ rfl B rfl 93 L.toArray (0,0) _ H1.out Tryz.underlying93 rfl (by rw[List.size_toArray,HLl.out];exact j8) ?_)
   | (go_at_call 90;refine HRt.out.mono ?_;rintro e w2 ⟨rfl,hb⟩;have HB2:=ak_ hb;have H22:=ak_ (ag H2.out hb);have H32:=ak_ (ag H3.out hb);clear hb)
   | ((with_reducible refine aj (N:=18) rfl ?_);refine aM rfl 93 _ rfl [] _ rfl HBd93.out ?_)
   | ((with_reducible refine ao (t:=93) (p:=6) rfl ?_);refine an rfl 93 _ _ rfl (B+1) bJ rfl rfl 93 bJ H22.out (bM (l:=List.replicate 24 (false,0)) rfl) rfl dN ?_;intro w3 h23 hf3;have H23:=ak_ h23;have H33:=ak_ ((hf3.block (B+1+1) (ai H32.out) (by omega)).trans H32.out);have HF3:=ak_ hf3;clear h23 hf3)
   | ((with_reducible refine ao (t:=59) (p:=8) rfl ?_);refine an rfl 59 _ _ rfl (B+1+1) #[.int .i64 0,.int .i64 0,.slice none 0 0] rfl rfl 59 #[.int .i64 0,.int .i64 0,.slice none 0 0] H33.out ij rfl (by simp[Value.oneCell']) ?_;intro w4 h34 hf4;have H34:=ak_ h34;have H24':=ak_ ((hf4.block (B+1) (ai H23.out) (by omega)).trans H23.out);have HF4:=ak_ hf4;clear h34 hf4))
  rw[if_neg Bool.false_ne_true] at HRr
  rw[HRr.out]
  have hbb:Below w.heap.size w w4:=Fr.below HB1.out ((Fr.of_below (S:=fun k=>B < k) HB2.out).trans ((HF3.out.mono fun k _ e=>by subst e;omega).trans (HF4.out.mono fun k _ e=>by subst e;omega))) (fun k hk e=>by have:=HBe.out;omega) HB1.out.size
  exact bodyPost_ret (v:=.tuple #[.agg bJ,.slice none 0 0,.agg #[.int .i64 0,.int .i64 0,.slice none 0 0],.int .i64 1]) (aA (rs:=[.cell 6 93,.tmp 7,.cell 8 59,.tmp 9]) rfl (by simp) (.cell (B+1) 93 bJ (0,0) _ rfl H24'.out Tryz.underlying93 rfl (bM (l:=List.replicate 24 (false,0)) rfl) (.tmp (.cell (B+1+1) 59 #[.int .i64 0,.int .i64 0,.slice none 0 0] (0,0) _ rfl H34.out Tryz.underlying59 rfl ij (.tmp .nil))))) rfl ⟨_,_,_,rfl,RdT.nil _ _ _,RdT.nil _ _ _,RdT.nil _ _ _,hbb⟩
end Go.Proofs.YtlinbehijfcelaaGreatDoor.Top
