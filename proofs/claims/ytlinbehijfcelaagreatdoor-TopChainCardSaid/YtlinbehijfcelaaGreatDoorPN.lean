/- Walks of the program, and what it computes, told plainly. No condition. (VG VH VI VJ VK) -/
import Derived.Test.YtlinbehijfcelaaGreatDoorPM
set_option linter.unusedVariables false
set_option linter.unusedSimpArgs false
set_option linter.unusedSectionVars false
set_option maxHeartbeats 8000000
set_option maxRecDepth 100000
namespace Go.Proofs.YtlinbehijfcelaaGreatDoor.Top
open Go.RowKit Go.Proofs.YtlinbehijfcelaaGreatDoorW.PrintWords Go.Proofs.YtlinbehijfcelaaGreatDoorW.PrintLast
structure Ca where
 r:List Int
 h:List Int
 ans:List Int
 fuel:Int
def cac (r:List Int) (vH vA:Value) (fuel:Int):List Value:=r.map (Value.int .i64)++[vH,vA,.int .i64 fuel]
theorem jC {r:List Int} (h:r.length=8) {vH vA:Value} {fuel:Int}:(cac r vH vA fuel).length=11:=by simp[cac,h]
theorem dw {r:List Int} (h:r.length=8) {vH vA:Value} {fuel:Int} (i:Nat):(cac r vH vA fuel)[8+i]?=[vH,vA,.int .i64 fuel][i]?:=by
 unfold cac
 rw[List.getElem?_append_right (by simp[h]),List.length_map,h]
 congr 1
 omega
theorem AC {r:List Int} (h:r.length=8) {vH vA:Value} {fuel:Int} {i:Nat} (hi:i < 8):(cac r vH vA fuel)[i]?=some (.int .i64 (r.getD i 0)):=by
 unfold cac
 rw[List.getElem?_append_left (by simp[h];exact hi),List.getElem?_map,List.getD_eq_getElem?_getD,List.getElem?_eq_getElem (by omega)]
 rfl
theorem jB {r:List Int} (h:r.length=8) {vH vA:Value} {fuel:Int} (i:Nat) (v:Value):(cac r vH vA fuel).set (8+i) v=r.map (Value.int .i64)++[vH,vA,.int .i64 fuel].set i v:=by
 unfold cac
 rw[List.set_append_right _ _ (by simp[h]),List.length_map,h]
 congr 2
 omega
theorem fC {r:List Int} {A B:Option Addr} {n c m d:Nat} {fuel:Int}:(cac r (.slice A n c) (.slice B m d) fuel).toArray.all (·.oneCell')=true:=by
 rw[Array.all_eq_true_iff_forall_mem]
 intro v hv
 simp only[List.mem_toArray,cac,List.mem_append,List.mem_map,List.mem_cons,List.not_mem_nil,or_false] at hv
 rcases hv with ⟨i,_,rfl⟩ | rfl | rfl | rfl <;> rfl
theorem oP:(Tryz.prog.info? 37).map (·.size)=some 11:=by kernel_rfl
theorem bq {r:List Int} (h:r.length=8) {vH vA:Value} {fuel:Int}:(Tryz.prog.info? 37).map (·.size)=some (cac r vH vA fuel).toArray.size:=by rw[List.size_toArray,jC h];exact oP
def dR:Array Value:=(cac (List.replicate 8 0) (.slice none 0 0) (.slice none 0 0) 0).toArray
theorem caz {r:List Int} (h:r.length=8) {vH vA:Value} {fuel:Int}:dR.size=(cac r vH vA fuel).toArray.size:=(show dR.size=11 from rfl).trans (by rw[List.size_toArray,jC h])
def CaV (W:World) (c:Ca) (v:Value):Prop:=∃ vH vA,v=.agg (cac c.r vH vA c.fuel).toArray∧c.r.length=8∧RdT (Kd.int .i64) 2 W vH c.h∧RdT (Kd.int .i64) 2 W vA c.ans
theorem CaV.below {W W':World} {c:Ca} {v:Value} (h:CaV W c v) (hb:Below W.heap.size W W'):CaV W' c v:=by
 obtain⟨vH,vA,h1,h2,h3,h4⟩:=h
 exact⟨vH,vA,h1,h2,h3.below hb,h4.below hb⟩
def gO (n m:Nat) (fuel:Int):Bool:=decide ((n:Int)≤16) && (decide ((m:Int)≤5000) && (decide (0≤fuel) && decide (fuel≤5000)))
theorem yb (r:List Int) (h8:r.length=8) (A B:Option Addr) (n c m d:Nat) (fuel:Int) (hn:n≤5000) (hm:m≤100000) (w:World) :
  Calls Tryz.prog 64 #[.agg (cac r (.slice A n c) (.slice B m d) fuel).toArray] w fun e w'=>e=.returned (.bool (gO n m fuel))∧Below w.heap.size w w':=by
 obtain⟨L,hL⟩:∃ L,L=cac r (.slice A n c) (.slice B m d) fuel:=⟨_,rfl⟩
 obtain⟨w1,hw1⟩:∃ w1,w1=w.alloc (.cells L.toArray 37):=⟨_,rfl⟩
 obtain⟨g,hg⟩:=mn_ w.heap.size
 have h1:w1.heap[g]?=some (.cells L.toArray 37 (0,0)):=by rw[hw1,←hg];exact heap_alloc_last w _
 have HB:=ak_ (show Below w.heap.size w w1 by rw[hw1];exact ae (Below.refl _ _) _)
 have c8:=(show w1.cell? ⟨g,8,none⟩=some (.slice A n c) by rw[ap h1,hL,show 8=8+0 from rfl,dw h8];rfl)
 have c9:=(show w1.cell? ⟨g,9,none⟩=some (.slice B m d) by rw[ap h1,hL,show 9=8+1 from rfl,dw h8];rfl)
 have c10:=(show w1.cell? ⟨g,10,none⟩=some (.int .i64 fuel) by rw[ap h1,hL,show 10=8+2 from rfl,dw h8];rfl)
 have HHp:=ak_ (k_ A n c w1 hn)
 have HW1:=ak_ hw1
 have HG:=ak_ hg
 obtain⟨b,hb⟩:=nm_ (gO n m fuel)
 rw[←hL,←hb]
 unfold gO at hb
 have hm':(m:Int)≤100000:=by omega
 clear hL h8 h1 hw1 hn
 by_cases k1:(n:Int)≤16
 ·by_cases k2:(m:Int)≤5000
  ·by_cases k3:0≤fuel
   ·by_cases k4:fuel≤5000
    ·obtain rfl:b=true:=by rw[hb,decide_eq_true k1,decide_eq_true k2,decide_eq_true k3,decide_eq_true k4];rfl
     rw[decide_eq_true k1] at HHp
     clear hb k1
     go_enter Tryz.func64,Tryz.ntmps64
     go_upto_region 1 with fail
     refine ar HW1.out.symm ?_
     clear hg
     go_wp2_with (first | (go_at_call 89;refine HHp.out.mono ?_;rintro e w' ⟨rfl,rfl⟩))
     go_ret
     exact⟨rfl,HB.out⟩
    ·obtain rfl:b=false:=by rw[hb,decide_eq_false k4,Bool.and_false,Bool.and_false,Bool.and_false]
     have q4:=decide_eq_false k4
     rw[decide_eq_true k1] at HHp
     clear hb k1
     go_enter Tryz.func64,Tryz.ntmps64
     go_upto_region 1 with fail
     refine ar HW1.out.symm ?_
     clear hg
     go_wp2_with (first | (go_at_call 89;refine HHp.out.mono ?_;rintro e w' ⟨rfl,rfl⟩))
     go_ret
     exact⟨rfl,HB.out⟩
   ·obtain rfl:b=false:=by rw[hb,decide_eq_false k3,Bool.false_and,Bool.and_false,Bool.and_false]
    rw[decide_eq_true k1] at HHp
    clear hb k1
    go_enter Tryz.func64,Tryz.ntmps64
    go_upto_region 1 with fail
    refine ar HW1.out.symm ?_
    clear hg
    go_wp2_with (first | (go_at_call 89;refine HHp.out.mono ?_;rintro e w' ⟨rfl,rfl⟩))
    go_ret
    exact⟨rfl,HB.out⟩
  ·obtain rfl:b=false:=by rw[hb,decide_eq_false k2,Bool.false_and,Bool.and_false]
   rw[decide_eq_true k1] at HHp
   clear hb k1
   go_enter Tryz.func64,Tryz.ntmps64
   go_upto_region 1 with fail
   refine ar HW1.out.symm ?_
   clear hg
   go_wp2_with (first | (go_at_call 89;refine HHp.out.mono ?_;rintro e w' ⟨rfl,rfl⟩))
   go_ret
   exact⟨rfl,HB.out⟩
 ·obtain rfl:b=false:=by rw[hb,decide_eq_false k1,Bool.false_and]
  rw[decide_eq_false k1] at HHp
  clear hb k1
  go_enter Tryz.func64,Tryz.ntmps64
  go_upto_region 1 with fail
  refine ar HW1.out.symm ?_
  clear hg
  go_wp2_with (first | (go_at_call 89;refine HHp.out.mono ?_;rintro e w' ⟨rfl,rfl⟩))
  go_ret
  exact⟨rfl,HB.out⟩
def rt (r:List Int):List (Bool × Int):=r.map (fun v=>(true,v))++List.replicate 16 (false,0)
def nl (r:List Int) (k:Nat):List (Bool × Int):=(r.take k).map (fun v=>(true,v))++List.replicate (24 - k) (false,0)
theorem mS {r:List Int} (h:r.length=8) {k:Nat} (hk:k≤8):(nl r k).length=24:=by simp[nl,h];omega
theorem uw {r:List Int} (h:r.length=8) {k:Nat} (hk:k < 8):(nl r k).set k (true,r.getD k 0)=nl r (k+1):=by
 have hl:((r.take k).map (fun v=>((true,v):Bool × Int))).length=k:=by simp[h];omega
 unfold nl
 rw[List.set_append_right _ _ (by omega),hl,Nat.sub_self,show 24 - k=(24 - (k+1))+1 by omega,List.replicate_succ,List.set_cons_zero,List.take_add_one,List.getElem?_eq_getElem (by omega),List.map_append,List.append_assoc]
 simp[List.getD_eq_getElem?_getD,List.getElem?_eq_getElem (show k < r.length by omega)]
theorem mT {r:List Int} (h:r.length=8):nl r 8=rt r:=by unfold nl rt;rw[List.take_of_length_le (by omega)]
theorem Cl (A:Option Addr) (n c:Nat):Tryz.prog.built 93 [(1,.slice A n c)]=some (stc (List.replicate 24 (false,0)) (.slice A n c) 0 0).toArray:=rfl
theorem Bq {l:List (Bool × Int)} (h:l.length=24) {i:Nat} (hi:i < 24) (b:Bool) (v:Int) (vH:Value) (a k:Int):(stc l vH a k).take (i * 2)++[.bool b,.int .i64 v]++(stc l vH a k).drop (i * 2+2)=stc (l.set i (b,v)) vH a k:=by
 unfold stc
 exact tQ l i b v _ (by omega)
theorem yc (r:List Int) (h8:r.length=8) (vH vA:Value) (H:List Int) (fuel:Int) (w:World) (hH:Rd (Kd.int .i64) w vH H) (hA:∃ B m d,vA=.slice B m d) (hn:H.length≤100000) :
  Calls Tryz.prog 65 #[.agg (cac r vH vA fuel).toArray] w fun e w'=>∃ A c,e=.returned (.agg (stc (rt r) (.slice A H.length c) 0 0).toArray)∧RdT (Kd.int .i64) 2 w' (.slice A H.length c) H∧Below w.heap.size w w':=by
 obtain⟨A,c,rfl,_,hC⟩:=hH
 obtain⟨B,m,d,rfl⟩:=hA
 obtain⟨L,hL⟩:∃ L,L=cac r (.slice A H.length c) (.slice B m d) fuel:=⟨_,rfl⟩
 obtain⟨g,hg⟩:=mn_ w.heap.size
 obtain⟨w1,hw1⟩:∃ w1,w1=(w.alloc (.cells L.toArray 37)).alloc (.cells bJ 93):=⟨_,rfl⟩
 obtain⟨h2,h1,hb⟩:=dm (w:=w) (A:=.cells L.toArray 37) (B:=.cells bJ 93) (w1:=w1) (by rw[hw1];exact Below.refl _ _)
 rw[hg] at h1 h2
 have c8:=(show w1.cell? ⟨g,8,none⟩=some (.slice A H.length c) by rw[ap h1,hL,show 8=8+0 from rfl,dw h8];rfl)
 have hlt:=ai h1
 have HLo:=ak_ (fun i (hi:i < 8)=>show L[i]?=some (.int .i64 (r.getD i 0)) by rw[hL];exact AC h8 hi)
 have HC:=ak_ (Kd.C_below hC hb)
 have HB:=ak_ hb
 have HW1:=ak_ hw1
 have H1:=ak_ h1
 have H2:=ak_ h2
 have HZ:=ak_ (show w1.heap.size=g+2 by rw[hw1,←hg];simp)
 have HN:=ak_ hn
 have H8:=ak_ h8
 have HG:=ak_ hg
 rw[←hL]
 clear hL hC hb hw1 h1 h2 hn h8
 go_enter Tryz.func65,Tryz.ntmps65
 go_upto_region 1 with fail
 refine ar HW1.out.symm ?_
 clear hg
 go_upto_region 2 with (first
  | ((with_reducible refine a7 (b:=.append) (xs:=#[.tmp 5,.tmp 7]) rfl ?_);refine kS rfl 35 (.tmp 5) (.tmp 7) rfl Tryz.underlying35 j9 w1.heap.size H A H.length c rfl rfl (heap_alloc_last w1 _) (Kd.C_below HC.out (ae (Below.refl _ _) _)) HN.out ?_;intro A1 c1 w2 hr hf;have HR:=ak_ hr;have HF:=ak_ (show Fr (fun k=>g+1 < k) w1 w2 from Fr.new hf);have H12:=ak_ ((hf.block g (by simp;have:=HZ.out;omega) (by have:=HZ.out;omega)).trans (aK H1.out _));clear hr hf)
  | ((with_reducible refine aj (N:=9) rfl ?_);refine aM rfl 93 _ rfl [(1,.slice A1 H.length c1)] _ rfl (Cl A1 H.length c1) ?_)
  | ((with_reducible refine ao (t:=93) (p:=3) rfl ?_);refine an rfl 93 _ _ rfl w2.heap.size (stc (List.replicate 24 (false,0)) (.slice A1 H.length c1) 0 0).toArray rfl rfl 93 bJ (heap_alloc_last w2 _) (bM (by rfl)) rfl dN ?_;intro w3 h3 hf3;have H33:=ak_ h3;have HF3:=ak_ hf3;clear h3 hf3))
 obtain⟨G,hG⟩:=mn_ w2.heap.size
 have hgG:g+1 < G:=by rw[←hG];have:=HF.out.size;have:=HZ.out;omega
 rw[hG] at H33 ⊢
 have HGg:=ak_ hgG
 have H13:=ak_ ((HF3.out.block g (by simp;have:=ai H12.out;omega) (by omega)).trans (aK H12.out _))
 have HR3:=ak_ ((HR.out.below (ae (Below.refl _ _) (.cells bJ 93))).fr aC HF3.out (fun k cs fr e=>by subst e;rw[heap_alloc_last];simp))
 have HFF:=ak_ (show Fr (fun k=>g+1 < k) w1 w3 from (HF.out.trans (Fr.of_below (ae (Below.refl _ _) (.cells bJ 93)))).trans (HF3.out.mono fun k _ e=>by omega))
 have HX:=ak_ (show w1.heap.size≤w3.heap.size from HFF.out.size)
 have H23:=ak_ ((HFF.out.block (g+1) (ai H2.out) (by omega)).trans H2.out)
 clear hG hgG c8 hlt H1 H2 HF HF3 H12 HR HC HW1
 go_wp2
 go_loopw [10] (fun j wr=>∃ k:Nat,j=.int .i64 k∧aa (k≤8∧wr.heap[G]?=some (.cells (stc (nl r k) (.slice A1 H.length c1) 0 0).toArray 93 (0,0))∧Fr (fun j=>j=G) w3 wr)) (fun j _=>8 - (intOf j).toNat)
 case atStart=>exact⟨0,rfl,⟨⟨Nat.zero_le _,H33.out,Fr.refl _ _⟩⟩⟩
 case round=>
  obtain⟨k,rfl,HL⟩:=hrel
  obtain⟨hk,hG,hF⟩:=HL.out
  have h13:=(hF.block g (ai H13.out) (by have:=HGg.out;omega)).trans H13.out
  by_cases hk8:k < 8
  ·have hk8':(k:Int) < 8:=by omega
   have hk24':(k:Int) < 24:=by omega
   have ck:=(show wr.cell? ⟨g,k,none⟩=some (.int .i64 (r.getD k 0)) by rw[ap h13,HLo.out k hk8])
   have HF:=ak_ hF
   have HK:=ak_ hk8
   have HGb:=ak_ hG
   have HL24:=ak_ (mS H8.out hk)
   obtain⟨rk,hrk⟩:=nm_ (r.getD k 0)
   rw[←hrk] at ck
   have HRk:=ak_ hrk
   clear hk hG hF HL h13 hk8 hrk
   go_wp2_with (first
    | ((with_reducible refine ao (t:=90) (p:=20) rfl ?_);refine eG rfl 90 _ _ rfl G (k * 2) [.bool true,.int .i64 rk] rfl rfl 93 _ HGb.out k9 (by rw[cD HL24.out];have:=HK.out;simp only[List.length_cons,List.length_nil];omega) (by simp[Value.oneCell']) ?_;intro w5 h5 hf5;have H5:=ak_ h5;have HF5:=ak_ hf5;clear h5 hf5))
   go_roundw
   case rel=>exact⟨k+1,by go_num,⟨⟨by have:=HK.out;omega,by rw[←uw H8.out HK.out,←Bq HL24.out (by have:=HK.out;omega),←HRk.out];exact H5.out,HF.out.trans HF5.out⟩⟩⟩
   case measure=>have:=HK.out;simp[intOf];omega
  ·obtain rfl:k=8:=by omega
   rw[mT H8.out] at hG
   have H24:=ak_ (show (rt r).length=24 by rw[←mT H8.out];exact mS H8.out (by omega))
   have HF:=ak_ hF
   have HGb:=ak_ hG
   have H23':=ak_ ((hF.block (g+1) (ai H23.out) (by have:=HGg.out;omega)).trans H23.out)
   clear hk hG hF HL h13 hk8
   go_wp2_with (first
    | ((with_reducible refine aj (N:=22) rfl ?_);refine wpList_load_row rfl 93 _ rfl G rfl 93 (stc (rt r) (.slice A1 H.length c1) 0 0).toArray (0,0) _ HGb.out Tryz.underlying93 rfl (bM H24.out) ?_)
    | ((with_reducible refine ao (t:=93) (p:=2) rfl ?_);refine an rfl 93 _ _ rfl (g+1) (stc (rt r) (.slice A1 H.length c1) 0 0).toArray rfl rfl 93 bJ H23'.out (bM H24.out) (stz H24.out) dN ?_;intro w5 h5 hf5;have H5:=ak_ h5;have HF5:=ak_ hf5;clear h5 hf5))
   have hfin:Fr (fun k=>g+1≤k) w1 w5:=(HFF.out.mono fun k _ e=>by omega).trans ((HF.out.mono fun k _ e=>by have:=HGg.out;omega).trans (HF5.out.mono fun k _ e=>by omega))
   have hr:=(HR3.out.fr aC HF.out (fun k cs fr e=>by subst e;rw[H33.out];simp)).fr aC HF5.out (fun k cs fr e=>by subst e;rw[H23'.out];simp)
   exact bodyPost_ret (v:=.agg (stc (rt r) (.slice A1 H.length c1) 0 0).toArray) (results_cell_row rfl _ _ (g+1) 93 _ (0,0) _ rfl H5.out Tryz.underlying93 rfl (bM H24.out)) rfl ⟨A1,c1,rfl,hr,Fr.below HB.out hfin (fun k hk e=>by have:=HG.out;omega) HB.out.size⟩
structure Tr where
 evs:List Ev
 out:Oc
 steps:Int
 work:Int
def trZ:Tr:=⟨[],⟨0,0,[]⟩,0,0⟩
def eo (f:List In) (ask:List Int) (q:Tr × St):Tr × St:=
 (⟨q.1.evs++(gz f q.2 ask).2.1,(gz f q.2 ask).2.2.1,q.1.steps+1,if (f.getD q.2.at_.toNat In.zero).moves=true then q.1.work else q.1.work+1⟩,(gz f q.2 ask).1)
def mw (f:List In) (ask:List Int):Nat→Tr × St→Tr × St
 | 0,q=>q
 | n+1,q=>if (eo f ask q).1.out.how=0 then mw f ask n (eo f ask q) else eo f ask q
def sZ (c:Ca):St:=⟨rt c.r,c.h,0,0⟩
def fu (f:List In) (c:Ca):Tr × St × Int:=
 if bi f=true∧gO c.h.length c.ans.length c.fuel=true then ((mw f c.ans c.fuel.toNat (trZ,sZ c)).1,(mw f c.ans c.fuel.toNat (trZ,sZ c)).2,0) else (trZ,stZ,1)
structure StI (f:List In) (s:St):Prop where
 l:s.l.length=24
 lo:0≤s.at_
 hi:s.at_ < (f.length:Int)
 h:s.h.length≤16
theorem DM (x:In) (ask:List Int) (p:Pw):(doP x ask p).l.length=p.l.length:=by
 have hs:∀ d v how,(p.setP d v how).l.length=p.l.length:=fun d v how=>by unfold Pw.setP;split <;> simp
 have hn:∀ (q:Pw) n,(q.next n).l=q.l:=fun q n=>by unfold Pw.next;split <;> rfl
 have hc:∀ a,(p.callP x ask a).l.length=p.l.length:=fun a=>by unfold Pw.callP;split <;> simp
 have hst:∀ a b,(p.storeP a b).l=p.l:=fun a b=>by unfold Pw.storeP;split <;> rfl
 have hm:(p.moveP x).l.length=p.l.length:=by unfold Pw.moveP;simp only;(repeat' split) <;> simp
 unfold doP
 repeat' split
 all_goals first | rw[hn,hs] | rw[hn,hst] | rw[hn,hc] | rfl | rw[hn,hm] | rw[hn]
theorem Cc (x:In) (ask:List Int) (p:Pw) (h:p.evs=[]):(doP x ask p).evs.length≤1:=by
 have hs:∀ d v how,(p.setP d v how).evs=p.evs:=fun d v how=>by unfold Pw.setP;split <;> rfl
 have hn:∀ (q:Pw) n,(q.next n).evs=q.evs:=fun q n=>by unfold Pw.next;split <;> rfl
 have hc:∀ a,(p.callP x ask a).evs.length≤1:=fun a=>by unfold Pw.callP;split <;> simp[h]
 have hst:∀ a b,(p.storeP a b).evs=p.evs:=fun a b=>by unfold Pw.storeP;split <;> rfl
 unfold doP
 repeat' split
 all_goals first
  | (rw[hn,hs,h];exact Nat.zero_le _)
  | (rw[hn,hst,h];exact Nat.zero_le _)
  | (rw[hn];exact hc _)
  | (rw[hn,show (p.moveP x).evs=p.evs from rfl,h];exact Nat.zero_le _)
  | (rw[hn,h];exact Nat.zero_le _)
  | (show p.evs.length≤1;rw[h];exact Nat.zero_le _)
theorem Di (f:List In) (hr:dy f) (n:Nat) (x:In) (hx:f[n]?=some x) (ask:List Int) (p:Pw) (hp:p.at_=n):0≤(doP x ask p).at_∧(doP x ask p).at_ < (f.length:Int):=by
 have hnl:=(List.getElem?_eq_some_iff.1 hx).1
 have hok:=hr.ok n x hx
 have hn:∀ (q:Pw) (m:Int),q.at_=n→0≤m→m < (f.length:Int)→0≤(q.next m).at_∧(q.next m).at_ < (f.length:Int):=fun q m h1 h2 h3=>by
  unfold Pw.next
  split
  ·exact⟨h2,h3⟩
  ·rw[h1];omega
 have hs:∀ d v how,(p.setP d v how).at_=n:=fun d v how=>by rw[←hp];unfold Pw.setP;split <;> rfl
 have hc:∀ a,(p.callP x ask a).at_=n:=fun a=>by rw[←hp];unfold Pw.callP;split <;> rfl
 have hst:∀ a b,(p.storeP a b).at_=n:=fun a b=>by rw[←hp];unfold Pw.storeP;split <;> rfl
 have hlast:x.op≠16→x.op≠18→n+1 < f.length:=fun h1 h2=>by
  rcases Nat.lt_or_ge (n+1) f.length with h | h
  ·exact h
  ·exfalso
   have e:f.length - 1=n:=by omega
   have hl:=hr.last
   unfold gA at hl
   rw[e,List.getD_eq_getElem?_getD,hx] at hl
   rcases hl with hl | hl
   ·exact h1 hl
   ·exact h2 hl
 unfold doP
 by_cases h1:x.op=13
 ·rw[if_pos h1];have:=hlast (by omega) (by omega);exact hn _ _ (hs _ _ _) (by omega) (by omega)
 rw[if_neg h1]
 by_cases h2:x.op=14
 ·rw[if_pos h2];have:=hlast (by omega) (by omega);exact hn _ _ (hst _ _) (by omega) (by omega)
 rw[if_neg h2]
 by_cases h3:x.op=15
 ·rw[if_pos h3];have:=hlast (by omega) (by omega);exact hn _ _ (hc _) (by omega) (by omega)
 rw[if_neg h3]
 by_cases h4:x.op=18
 ·rw[if_pos h4];show 0≤p.at_∧p.at_ < _;omega
 rw[if_neg h4]
 by_cases h5:x.op=17
 ·rw[if_pos h5]
  have:=hlast (by omega) (by omega)
  have:=hok.jt (.inr h5)
  split
  ·exact hn _ _ hp this.1 this.2
  ·exact hn _ _ hp (by omega) (by omega)
 rw[if_neg h5]
 by_cases h6:x.op=16
 ·rw[if_pos h6]
  have:=hok.jt (.inl h6)
  exact hn _ _ hp this.1 this.2
 rw[if_neg h6]
 have:=hlast h6 h4
 split
 ·exact hn _ _ (hs _ _ _) (by omega) (by omega)
 ·exact hn _ _ hp (by omega) (by omega)
theorem Dw {f:List In} (hr:dy f):StI f stZ:=⟨rfl,Int.le_refl _,by have:=hr.pos;show (0:Int) < _;omega,Nat.zero_le _⟩
theorem ux {f:List In} (hr:dy f) {c:Ca} (h8:c.r.length=8) (hh:c.h.length≤16):StI f (sZ c):=⟨by unfold sZ;rw[←mT h8];exact mS h8 (by omega),Int.le_refl _,by have:=hr.pos;show (0:Int) < _;omega,hh⟩
theorem nQ {f:List In} (hr:dy f) {s:St} (h:StI f s) (ask:List Int):StI f (gz f s ask).1∧(gz f s ask).2.1.length≤1∧(gz f s ask).2.2.1.h.length≤16:=by
 unfold gz
 split
 ·obtain⟨n,hn⟩:∃ n:Nat,s.at_=n:=⟨s.at_.toNat,by have:=h.lo;omega⟩
  obtain⟨x,hx⟩:∃ x,f[n]?=some x:=⟨_,List.getElem?_eq_getElem (by have:=h.hi;omega)⟩
  have hg:f.getD s.at_.toNat In.zero=x:=by rw[hn,Int.toNat_natCast,List.getD_eq_getElem?_getD,hx];rfl
  rw[hg]
  split
  ·have h1:=Di f hr n x hx ask s.pw hn
   have h2:=DM x ask s.pw
   have h3:=vl x ask s.pw
   have h4:s.pw.h.length=s.h.length:=rfl
   have h5:s.pw.l.length=s.l.length:=rfl
   refine⟨⟨?_,h1.1,h1.2,?_⟩,Cc x ask s.pw rfl,?_⟩
   ·show (doP x ask s.pw).l.length=24
    rw[h2,h5];exact h.l
   ·show (doP x ask s.pw).h.length≤16
    rw[h3,h4];exact h.h
   ·show (if _ then (doP x ask s.pw).h else []).length≤16
    split
    ·rw[h3,h4];exact h.h
    ·exact Nat.zero_le _
  ·exact⟨h,Nat.zero_le _,Nat.zero_le _⟩
 ·exact⟨Dw hr,Nat.zero_le _,Nat.zero_le _⟩
theorem zB {f:List In} (hr:dy f) (ask:List Int):∀ (n:Nat) (q:Tr × St),StI f q.2→StI f (mw f ask n q).2
 | 0,q,h=>h
 | n+1,q,h=>by
  have h1:StI f (eo f ask q).2:=(nQ hr h ask).1
  unfold mw
  split
  ·exact zB hr ask n _ h1
  ·exact h1
def trc (t:Tr) (vE vO:Value):List Value:=[vE,.int .i64 t.out.how,.int .i64 t.out.val,vO,.int .i64 t.steps,.int .i64 t.work]
def dM:Array Value:=#[.slice none 0 0,.int .i64 0,.int .i64 0,.slice none 0 0,.int .i64 0,.int .i64 0]
theorem ez:(Tryz.prog.info? 61).map (·.size)=some 6:=by kernel_rfl
structure ml (w W:World) (B G7 G8:Nat) (L:List Value) (t:Tr) (s:St) (vE vO vH:Value):Prop where
 b:Below w.heap.size w W
 c:W.heap[B]?=some (.cells L.toArray 37 (0,0))
 z1:W.heap[B+1]?=some (.cells dM 61 (0,0))
 z2:W.heap[B+1+1]?=some (.cells bJ 93 (0,0))
 h7:W.heap[G7]?=some (.cells (trc t vE vO).toArray 61 (0,0))
 h8:W.heap[G8]?=some (.cells (stc s.l vH s.at_ s.asked).toArray 93 (0,0))
 rE:Kd.R kEv 105 W B (fun k=>B≤k) vE t.evs
 rO:RdT (Kd.int .i64) 2 W vO t.out.h
 rH:RdT (Kd.int .i64) 2 W vH s.h
theorem ml.below {w W W':World} {B G7 G8:Nat} {L:List Value} {t:Tr} {s:St} {vE vO vH:Value} (h:ml w W B G7 G8 L t s vE vO vH) (hb:Below W.heap.size W W'):ml w W' B G7 G8 L t s vE vO vH:=
 ⟨af h.b hb,ag h.c hb,ag h.z1 hb,ag h.z2 hb,ag h.h7 hb,ag h.h8 hb,Kd.R_below h.rE hb,h.rO.below hb,h.rH.below hb⟩
theorem ml.put7 {w W W':World} {B G7 G8:Nat} {L:List Value} {t t':Tr} {s:St} {vE vO vH:Value} (h:ml w W B G7 G8 L t s vE vO vH) (hf:Fr (fun k=>k=G7) W W') (h7:W'.heap[G7]?=some (.cells (trc t' vE vO).toArray 61 (0,0))) (he:t'.evs=t.evs) (ho:t'.out=t.out) (hB:B+1+1 < G7) (h78:G7≠G8) (hw:w.heap.size=B):ml w W' B G7 G8 L t' s vE vO vH:=
 ⟨Fr.below h.b hf (fun k hk e=>by omega) h.b.size,(hf.block _ (ai h.c) (by omega)).trans h.c,(hf.block _ (ai h.z1) (by omega)).trans h.z1,(hf.block _ (ai h.z2) (by omega)).trans h.z2,h7,(hf.block _ (ai h.h8) (by omega)).trans h.h8,
  by rw[he];exact c_ h.rE hf (fun k q cs e hc hq=>by subst e;rw[h.h7] at hc;injection hc with hc;injection hc with _ hc;subst hc;exact absurd hq (by decide)),
  by rw[ho];exact h.rO.fr aC hf (fun k cs fr e=>by subst e;rw[h.h7];simp),h.rH.fr aC hf (fun k cs fr e=>by subst e;rw[h.h7];simp)⟩
def Cs (r:Tr × St × Int) (w:World) (e:Ending) (w':World):Prop:=
 ∃ vE vO vH,e=.returned (.tuple #[.agg (trc r.1 vE vO).toArray,.agg (stc r.2.1.l vH r.2.1.at_ r.2.1.asked).toArray,.int .i64 r.2.2])∧RdT kEv 105 w' vE r.1.evs∧RdT (Kd.int .i64) 2 w' vO r.1.out.h∧RdT (Kd.int .i64) 2 w' vH r.2.1.h∧Below w.heap.size w w'
theorem B0:(Tryz.prog.info? 105).map (fun i=>(i.zero,i.size,i.bytes))=some (some (.agg #[.int .i64 0,.int .i64 0,.int .i64 0]),3,24):=by kernel_rfl
theorem Bs (f:List In) (Af:Option Addr) (cf:Nat) (c:Ca) (vC:Value) (w:World) (hG:Gl w) (hC:Kd.C kIn w Af f.length f) (hc:f.length≤cf) (hV:CaV w c vC) (hh:c.h.length≤5000) (ha:c.ans.length≤100000) :
  Calls Tryz.prog 38 #[.slice Af f.length cf,vC] w fun e w'=>Cs (fu f c) w e w':=by
 obtain⟨vH,vA,rfl,h8,hHr,hAr⟩:=hV
 obtain⟨AH,cH,rfl,zH⟩:=hHr
 obtain⟨AA,cA,rfl,zA⟩:=hAr
 have hHr:RdT (Kd.int .i64) 2 w (.slice AH c.h.length cH) c.h:=⟨AH,cH,rfl,zH⟩
 have hAr:RdT (Kd.int .i64) 2 w (.slice AA c.ans.length cA) c.ans:=⟨AA,cA,rfl,zA⟩
 obtain⟨r,hr⟩:=nm_ (fu f c)
 rw[←hr]
 unfold fu at hr
 obtain⟨L,hL⟩:∃ L,L=cac c.r (.slice AH c.h.length cH) (.slice AA c.ans.length cA) c.fuel:=⟨_,rfl⟩
 have hLi:(Tryz.prog.info? 37).map (·.size)=some L.toArray.size:=by rw[hL];exact bq h8
 have hL9:L[9]?=some (.slice AA c.ans.length cA):=by rw[hL,show 9=8+1 from rfl,dw h8];rfl
 have hL10:L[10]?=some (.int .i64 c.fuel):=by rw[hL,show 10=8+2 from rfl,dw h8];rfl
 obtain⟨w1,hw1⟩:∃ w1,w1=((w.alloc (.cells L.toArray 37)).alloc (.cells dM 61)).alloc (.cells bJ 93):=⟨_,rfl⟩
 obtain⟨B,hB⟩:=mn_ w.heap.size
 obtain⟨h1,h2,h3,hb1⟩:=cw (w:=w) (w1:=w1) (A:=.cells L.toArray 37) (B:=.cells dM 61) (C:=.cells bJ 93) (by rw[hw1];exact Below.refl _ _)
 rw[hB] at h1 h2 h3
 rw[show B+2=B+1+1 from rfl] at h3
 obtain⟨b,hb⟩:=nm_ (bi f)
 obtain⟨b2,hb2⟩:=nm_ (gO c.h.length c.ans.length c.fuel)
 have hR:=dY Af cf f w1 (hG.below hb1) (Kd.C_below hC hb1) hc
 have hR2:=fun W=>yb c.r h8 AH AA c.h.length cH c.ans.length cA c.fuel hh ha W
 have hBg:=fun W hH=>yc c.r h8 (.slice AH c.h.length cH) (.slice AA c.ans.length cA) c.h c.fuel W hH ⟨_,_,_,rfl⟩ (by omega)
 rw[←hL] at hR2 hBg
 rw[←hb] at hR hr
 rw[←hb2] at hR2 hr
 rw[←hL]
 have HGw:=ak_ hG
 have HCw:=ak_ hC
 have HArw:=ak_ hAr
 have HG:=ak_ (hG.below hb1)
 have HC:=ak_ (Kd.C_below hC hb1)
 have HHr:=ak_ (hHr.below hb1)
 have HAr:=ak_ (hAr.below hb1)
 have HRt:=ak_ hR
 have HRt2:=ak_ hR2
 have HBg:=ak_ hBg
 have HRr:=ak_ hr
 have HW1:=ak_ hw1
 have H1:=ak_ h1
 have H2:=ak_ h2
 have H3:=ak_ h3
 have HB1:=ak_ hb1
 have HBe:=ak_ hB
 have HLi:=ak_ hLi
 have HL9:=ak_ hL9
 have HL10:=ak_ hL10
 have H8:=ak_ h8
 have HHl:=ak_ hh
 have HAl:=ak_ ha
 have HBo:=ak_ hb
 have HBo2:=ak_ hb2
 have Hcf:=ak_ hc
 have HBd93:=ak_ (show Tryz.prog.built 93 []=some bJ from rfl)
 have HBd61:=ak_ (show Tryz.prog.built 61 []=some dM from rfl)
 clear hG hC hc hHr hAr hR hR2 hBg hr hw1 h1 h2 h3 hb1 hL hLi hL9 hL10 h8 hh ha hb hb2 zH zA
 by_cases hbt:b=true
 ·subst hbt
  by_cases hbt2:b2=true
  ·subst hbt2
   rw[if_pos ⟨rfl,rfl⟩] at HRr
   go_enter Tryz.func38,Tryz.ntmps38
   go_upto_region 1 with fail
   refine ar HW1.out.symm ?_
   clear hB HW1
   go_upto_region 3 with (first
    | (go_at_call 47;refine HRt.out.mono ?_;rintro e w2 ⟨rfl,hb⟩;have HB2:=ak_ hb;have H12:=ak_ (ag H1.out hb);clear hb)
    | ((with_reducible refine aj (N:=17) rfl ?_);refine ax rfl _ (al rfl rfl (aT (P:=Tryz.prog) H12.out Tryz.underlying37 rfl HLi.out)) ?_)
    | (go_at_call 64;refine(HRt2.out _).mono ?_;rintro e w3 ⟨rfl,hb⟩;have HB3:=ak_ (af HB2.out hb);clear hb))
   have hrt:=bN HBo.out.symm
   have hca:=HBo2.out.symm
   unfold gO at hca
   simp only[Bool.and_eq_true,decide_eq_true_eq] at hca
   obtain⟨k1,k2,k3,k4⟩:=hca
   obtain⟨N,hN⟩:∃ N:Nat,c.fuel=N:=⟨c.fuel.toNat,by omega⟩
   rw[hN,Int.toNat_natCast] at HRr
   have HRi:=ak_ hrt
   have HI0:=ak_ (ux hrt H8.out (by omega:c.h.length≤16))
   have HNe:=ak_ hN
   have HA5:=ak_ (show c.ans.length≤5000 by omega)
   have hN5:(N:Int)≤5000:=by omega
   obtain⟨G7,hG7⟩:=mn_ w3.heap.size
   have hBG:B+1+1 < G7:=by rw[←hG7];exact ai (ag H3.out HB3.out)
   have h1':=ag H1.out HB3.out
   have HG7:=ak_ hG7
   have HBG:=ak_ hBG
   obtain⟨w4,hw4⟩:∃ w4,w4=w3.alloc (.cells dM 61):=⟨_,rfl⟩
   have h47:w4.heap[G7]?=some (.cells dM 61 (0,0)):=by rw[hw4,←hG7];exact heap_alloc_last w3 _
   have hb4:Below w1.heap.size w1 w4:=by rw[hw4];exact ae HB3.out _
   have HB4:=ak_ hb4
   have H14:=ak_ (ag H1.out hb4)
   have H47:=ak_ h47
   have HW4:=ak_ hw4
   have HS4:=ak_ (show w4.heap.size=G7+1 by rw[hw4,←hG7];simp)
   clear hrt k1 k2 k3 k4 hN hBG h1' hw4 h47 hb4
   go_upto_region 4 with fail
   refine ar HW4.out.symm ?_
   clear hG7 HW4
   go_upto_region 5 with (first
    | ((with_reducible refine aj (N:=23) rfl ?_);refine ax rfl _ (al rfl rfl (aT (P:=Tryz.prog) H14.out Tryz.underlying37 rfl HLi.out)) ?_)
    | (go_at_call 65;refine(HBg.out _ (HHr.out.rd.below HB4.out)).mono ?_;rintro e w5 ⟨AB,cB,rfl,hr,hb⟩;have HB5:=ak_ (af HB4.out hb);have H57:=ak_ (ag H47.out hb);have HR5:=ak_ hr;clear hr hb)
    | ((with_reducible refine ao (t:=93) (p:=8) rfl ?_);refine an rfl 93 _ _ rfl w5.heap.size (stc (rt c.r) (.slice AB c.h.length cB) 0 0).toArray rfl rfl 93 bJ (heap_alloc_last w5 _) (bM HI0.out.l) (stz HI0.out.l) dN ?_;intro w6 h6 hf6;have H68:=ak_ h6;have HB56:=ak_ (bV hf6);clear h6 hf6))
   obtain⟨G8,hG8⟩:=mn_ w5.heap.size
   rw[hG8] at H68 ⊢
   have H78:=ak_ (show G7 < G8 by rw[←hG8];exact ai H57.out)
   have HS0:=ak_ (show ml w w6 B G7 G8 L trZ (sZ c) (.slice none 0 0) (.slice none 0 0) (.slice AB c.h.length cB) from
    ⟨af HB1.out (af HB5.out HB56.out),ag (ag H1.out HB5.out) HB56.out,ag (ag H2.out HB5.out) HB56.out,ag (ag H3.out HB5.out) HB56.out,ag H57.out HB56.out,H68.out,Kd.R_nil _ _ _ _ _,RdT.nil _ _ _,HR5.out.below HB56.out⟩)
   have c10:=(show w6.cell? ⟨B,10,none⟩=some (.int .i64 (N:Int)) by rw[ap HS0.out.c,HL10.out,HNe.out])
   clear hG8 HBg HRt HRt2 H1 H2 H3 HB3 H14 H47 HB4 H57 HB5 HR5 H68 HB56 HBo2
   go_upto_block 0 with fail
   obtain⟨qf,hqf⟩:=nm_ (mw f c.ans N (trZ,sZ c))
   rw[←hqf] at HRr
   have HQf:=ak_ hqf
   clear hqf c10
   go_cut [9,10,11,12] from 27 to 66 (fun _ _ _ _ wx=>∃ vE vO vH,aa (ml w wx B G7 G8 L qf.1 qf.2 vE vO vH∧StI f qf.2))
   case first=>
    go_wp2
    go_loopw [27,9,10,11,12] (fun j _ _ _ _ wr=>∃ (k:Nat) (q:Tr × St) (vE vO vH:Value),j=.int .i64 k∧aa (k≤N∧qf=mw f c.ans (N - k) q∧StI f q.2∧ml w wr B G7 G8 L q.1 q.2 vE vO vH∧q.1.evs.length≤k∧q.1.steps=k∧0≤q.1.work∧q.1.work≤k)) (fun j _ _ _ _ _=>N - (intOf j).toNat)
    case atStart=>exact⟨0,_,_,_,_,rfl,⟨⟨Nat.zero_le _,HQf.out,HI0.out,HS0.out,Nat.le_refl _,rfl,Int.le_refl _,Int.le_refl _⟩⟩⟩
    case round=>
     obtain⟨k,q,vE,vO,vH,rfl,HL⟩:=hrel
     obtain⟨hk,hq,hI,hS,he,hst,hw0,hw1⟩:=HL.out
     by_cases hkN:k < N
     ·have hkN':(k:Int) < (N:Int):=by omega
      obtain⟨n,hn⟩:∃ n:Nat,q.2.at_=n:=⟨q.2.at_.toNat,by have:=hI.lo;omega⟩
      have hnl:n < f.length:=by have:=hI.hi;omega
      obtain⟨x,hx⟩:∃ x,f[n]?=some x:=⟨_,List.getElem?_eq_getElem hnl⟩
      have hgx:f.getD q.2.at_.toNat In.zero=x:=by rw[hn,Int.toNat_natCast,List.getD_eq_getElem?_getD,hx];rfl
      obtain⟨ad,cs,rfl,hK,hld⟩:=aW (P:=Tryz.prog) HCw.out hS.b n hnl x hx 49 Tryz.underlying49 rfl bE
      obtain rfl:cs=[.int .i64 x.op,.int .i64 x.d,.int .i64 x.a,.int .i64 x.b,.int .i64 x.n,.int .i64 x.jt]:=hK
      have hnl':(n:Int) < (f.length:Int):=by omega
      have c49:=(show wr.cell? ⟨G8,49,none⟩=some (.int .i64 (n:Int)) by rw[ap hS.h8,show 49=48+1 from rfl,jP hI.l,←hn];rfl)
      have HMv:=ak_ (iU x wr)
      have HLd:=ak_ (show (loadVar 49 (ad.add (n * 6))).run Tryz.prog wr=.ok (.agg x.cells) wr from hld)
      have HGx:=ak_ hgx
      have HS:=ak_ hS
      have HI:=ak_ hI
      have HQ:=ak_ hq
      have HKn:=ak_ hkN
      have HEv:=ak_ (And.intro he (And.intro hst (And.intro hw0 hw1)))
      obtain⟨mv,hmv⟩:=nm_ x.moves
      rw[←hmv] at HMv
      have HMe:=ak_ hmv
      obtain⟨wk,hwk⟩:=nm_ (if mv=true then q.1.work else q.1.work+1)
      have HWk:=ak_ hwk
      clear hk hq hI hS he hst hw0 hw1 HL hkN hn hnl hx hgx hld hmv hwk
      go_upto_if 35 with (first
       | ((with_reducible refine aj (N:=33) rfl ?_);refine au rfl 49 _ rfl (ad.add (n * 6)) rfl _ HLd.out ?_)
       | (go_at_call 66;refine HMv.out.mono ?_;rintro e w7 ⟨rfl,hb⟩;have HS7:=ak_ (HS.out.below hb);clear hb))
      clear c49
      go_cut [] from 35 to 41 (fun wx=>aa (ml w wx B G7 G8 L { q.1 with work:=wk } q.2 vE vO vH))
      case first=>
       have c5:=(show w7.cell? ⟨G7,5,none⟩=some (.int .i64 q.1.work) by rw[ap HS7.out.h7];rfl)
       have f5:=aq HS7.out.h7 5
       have hv:=HEv.out
       have hv1:0≤q.1.work:=hv.2.2.1
       have hv2:q.1.work≤5000:=by omega
       clear hv
       cases mv with
       | true=>
        have h1:wk=q.1.work:=by rw[HWk.out,if_pos rfl]
        have HS8:=ak_ (show ml w w7 B G7 G8 L { q.1 with work:=wk } q.2 vE vO vH by rw[h1];exact HS7.out)
        clear h1
        go_wp2
        go_meet
        case rel=>exact HS8
       | false=>
        have h1:wk=q.1.work+1:=by rw[HWk.out,if_neg (by decide)]
        have HS8:=ak_ (show ml w (w7.setCell ⟨G7,5,none⟩ (.int .i64 (q.1.work+1))) B G7 G8 L { q.1 with work:=wk } q.2 vE vO vH from HS7.out.put7 (Fr.cell (S:=fun j=>j=G7) (p:=⟨G7,5,none⟩) rfl _) (by rw[h1];exact aJ HS7.out.h7 5 _) rfl rfl HBG.out (by have:=H78.out;omega) HBe.out)
        clear h1
        go_wp2
        go_meet
        case rel=>exact HS8
      case rest=>
       have HS8:=ak_ hcut.out
       obtain⟨w8,rfl⟩:=nm_ wc
       have hv:=HEv.out
       have hv1:q.1.steps≤5000:=by omega
       have hv2:0≤q.1.steps:=by omega
       have c4:=(show w8.cell? ⟨G7,4,none⟩=some (.int .i64 q.1.steps) by rw[ap HS8.out.h7];rfl)
       have f4:=aq HS8.out.h7 4
       clear hcut hv
       go_upto_region 10 with fail
       obtain⟨w9,hw9⟩:∃ w9,w9=w8.setCell ⟨G7,4,none⟩ (.int .i64 (q.1.steps+1)):=⟨_,rfl⟩
       refine ar hw9.symm ?_
       have HS9:=ak_ (show ml w w9 B G7 G8 L ⟨q.1.evs,q.1.out,q.1.steps+1,wk⟩ q.2 vE vO vH by rw[hw9];exact HS8.out.put7 (Fr.cell (S:=fun j=>j=G7) (p:=⟨G7,4,none⟩) rfl _) (aJ HS8.out.h7 4 _) rfl rfl HBG.out (by have:=H78.out;omega) HBe.out)
       have c9:=(show w9.cell? ⟨B,9,none⟩=some (.slice AA c.ans.length cA) by rw[ap HS9.out.c,HL9.out])
       obtain⟨d,hd⟩:=nm_ (gz f q.2 c.ans)
       have hDo:=Bo f (some ad) cf q.2 HI.out.l vH c.ans (.slice AA c.ans.length cA) w9 (HGw.out.below HS9.out.b) (Kd.C_below HCw.out HS9.out.b) Hcf.out HS9.out.rH.rd (HArw.out.below HS9.out.b) (by have:=HI.out.h;omega) HAl.out
       have hDI:=nQ HRi.out HI.out c.ans
       rw[←hd] at hDo hDI
       have HDo:=ak_ hDo
       have HDI:=ak_ hDI
       have HD:=ak_ hd
       clear hw9 c4 f4 hDo hDI hd
       go_upto_region 11 with (first
        | ((with_reducible refine aj (N:=46) rfl ?_);refine wpList_load_row rfl 93 _ rfl G8 rfl 93 _ (0,0) _ HS9.out.h8 Tryz.underlying93 rfl (bM HI.out.l) ?_)
        | (go_at_call 67;refine HDo.out.mono ?_;rintro e wB ⟨vH2,vE2,vO2,rfl,hH2,hE2,hO2,hb⟩;obtain⟨A1,c1,rfl,z1⟩:=hH2;obtain⟨A2,c2,rfl,z2⟩:=hE2;obtain⟨A3,c3,rfl,z3⟩:=hO2;have HSB:=ak_ (HS9.out.below hb);have HHB:=ak_ (show RdT (Kd.int .i64) 2 wB (.slice A1 d.1.h.length c1) d.1.h from ⟨A1,c1,rfl,z1⟩);have HEB:=ak_ (show RdT kEv 105 wB (.slice A2 d.2.1.length c2) d.2.1 from ⟨A2,c2,rfl,z2⟩);have HOB:=ak_ (show RdT (Kd.int .i64) 2 wB (.slice A3 d.2.2.1.h.length c3) d.2.2.1.h from ⟨A3,c3,rfl,z3⟩);clear z1 z2 z3 hb)
        | ((with_reducible refine ao (t:=93) (p:=9) rfl ?_);refine an rfl 93 _ _ rfl wB.heap.size (stc d.1.l (.slice A1 d.1.h.length c1) d.1.at_ d.1.asked).toArray rfl rfl 93 bJ (heap_alloc2_old wB _ _) (bM HDI.out.1.l) (stz HDI.out.1.l) dN ?_;intro wC h9 hf9;have H9a:=ak_ h9;have H11a:=ak_ ((hf9.block (wB.heap.size+1) (by simp) (by omega)).trans (heap_alloc2_new wB _ _));have HBC:=ak_ (show Below wB.heap.size wB wC from Fr.below (ae (ae (Below.refl _ _) _) _) hf9 (fun k hk e=>by omega) (by simp;omega));clear h9 hf9)
        | ((with_reducible refine ao (t:=59) (p:=11) rfl ?_);refine an rfl 59 _ _ rfl (wB.heap.size+1) #[.int .i64 d.2.2.1.how,.int .i64 d.2.2.1.val,.slice A3 d.2.2.1.h.length c3] rfl rfl 59 #[.int .i64 0,.int .i64 0,.slice none 0 0] H11a.out ij rfl (by simp[Value.oneCell']) ?_;intro wD h11 hf11;have H11b:=ak_ h11;have H9b:=ak_ ((hf11.block wB.heap.size (ai H9a.out) (by omega)).trans H9a.out);have HBD:=ak_ (show Below wB.heap.size wB wD from Fr.below HBC.out hf11 (fun k hk e=>by omega) HBC.out.size);clear h11 hf11))
       obtain⟨G9,hG9⟩:=mn_ wB.heap.size
       rw[hG9] at H9b H11b ⊢
       obtain⟨AE,cE,hvE⟩:=Kd.R_slice HSB.out.rE
       simp only at hvE
       subst hvE
       have HSD:=ak_ (HSB.out.below HBD.out)
       have hgG:=(show G8 < G9 by rw[←hG9];exact ai HSB.out.h8)
       have HGs:=ak_ (show G7 < G8∧G8 < G9∧B+1+1 < G7 from ⟨H78.out,hgG,HBG.out⟩)
       have HHD:=ak_ (HHB.out.below HBD.out)
       have HOD:=ak_ (HOB.out.below HBD.out)
       have HED:=ak_ (show Kd.C kEv wD A2 d.2.1.length d.2.1 by obtain⟨Aq,cq,e,_,h,_⟩:=HEB.out.below HBD.out;injection e with e;subst e;exact h)
       have c0:=(show wD.cell? ⟨G7,0,none⟩=some (.slice AE q.1.evs.length cE) by rw[ap HSD.out.h7];rfl)
       have HBw:=ak_ (show Below B w wD by rw[←HBe.out];exact HSD.out.b)
       have HBs:=ak_ (show B≤wD.heap.size by have:=ai HSD.out.c;omega)
       have HLen:=ak_ (show (q.1.evs.length+d.2.1.length) * 24≤140737488355328 by have:=HEv.out.1;have:=HDI.out.2.1;have:=HKn.out;omega)
       clear hG9 hgG HS8 HS9 HSB HBC HBD H9a H11a HHB HOB HEB HDo HMv HLd c9
       go_upto_region 12 with (first
        | ((with_reducible refine a7 (b:=.append) (xs:=#[.tmp 55,.tmp 56]) rfl ?_);refine Kd.R_append_rows kEv (w0:=w) B rfl (.tmp 55) (.tmp 56) 57 105 (.agg #[.int .i64 0,.int .i64 0,.int .i64 0]) 24 rfl Tryz.underlying57 B0 rfl (by decide) (by decide) (.slice AE q.1.evs.length cE) q.1.evs d.2.1 A2 d.2.1.length c2 (fun k=>B≤k) (fun _=>False) rfl rfl HSD.out.rE HED.out (fun x cs h=>h) (fun k hk=>hk.elim) (fun k hk=>by have:=HBs.out;omega) HBw.out HBs.out HLen.out ?_;intro v1 wE hR _ hgr _;obtain⟨A5,c5,rfl⟩:=Kd.R_slice hR;have HRE:=ak_ (show Kd.R kEv 105 wE B (fun k=>B≤k) (.slice A5 (q.1.evs.length+d.2.1.length) c5) (q.1.evs++d.2.1) by rw[List.length_append] at hR;exact hR);have HGr:=ak_ (show Fr (fun k=>some k=(Value.slice AE q.1.evs.length cE).ownBlock) wD wE from Fr.grown hgr (fun k hk=>hk));have H7E:=ak_ ((HGr.out.block G7 (ai HSD.out.h7) (Kd.R_ne HSD.out.rE HSD.out.h7 (by decide))).trans HSD.out.h7);have e0:=(show wE.cell? ⟨G7,0,none⟩=some (.slice AE q.1.evs.length cE) by rw[ap H7E.out];rfl);have ef0:=aq H7E.out 0;clear hR hgr))
       obtain⟨wA,hwA⟩:∃ wA,wA=wE.setCell ⟨G7,0,none⟩ (.slice A5 (q.1.evs.length+d.2.1.length) c5):=⟨_,rfl⟩
       refine ar hwA.symm ?_
       have hfA:Fr (fun k=>k=G7) wE wA:=by rw[hwA];exact Fr.cell (S:=fun j=>j=G7) (p:=⟨G7,0,none⟩) rfl _
       have h7A:wA.heap[G7]?=some (.cells (trc ⟨q.1.evs++d.2.1,q.1.out,q.1.steps+1,wk⟩ (.slice A5 (q.1.evs.length+d.2.1.length) c5) vO).toArray 61 (0,0)):=by rw[hwA];exact aJ H7E.out 0 _
       have hfD:Fr (fun k=>some k=(Value.slice AE q.1.evs.length cE).ownBlock∨k=G7) wD wA:=(HGr.out.mono fun k _ e=>.inl e).trans (hfA.mono fun k _ e=>.inr e)
       have key:∀ g t (cs:Array Value),wD.heap[g]?=some (.cells cs t (0,0))→(105:Nat)≠t→g≠G7→wA.heap[g]?=some (.cells cs t (0,0)):=fun g t cs h1 h2 h3=>(hfD.block g (ai h1) (fun e=>by rcases e with e | e;exact Kd.R_ne HSD.out.rE h1 h2 e;exact h3 e)).trans h1
       have tag:∀ k cs fr t,(some k=(Value.slice AE q.1.evs.length cE).ownBlock∨k=G7)→t≠105→t≠61→wD.heap[k]?≠some (.cells cs t fr):=fun k cs fr t e h1 h2 h3=>by
        rcases e with e | rfl
        ·obtain⟨inner,hin⟩:=Kd.R_own HSD.out.rE
         obtain⟨cells,hcs⟩:=fQ hin k e.symm
         rw[hcs] at h3
         injection h3 with h3
         injection h3 with _ h3
         exact h1 h3.symm
        ·rw[HSD.out.h7] at h3
         injection h3 with h3
         injection h3 with _ h3
         exact h2 h3.symm
       have H7A:=ak_ h7A
       have H8A:=ak_ (key G8 93 _ HSD.out.h8 (by decide) (by have:=HGs.out;omega))
       have H9:=ak_ (key G9 93 _ H9b.out (by decide) (by have:=HGs.out;omega))
       have H11:=ak_ (key (G9+1) 59 _ H11b.out (by decide) (by have:=HGs.out;omega))
       have HcA:=ak_ (And.intro (key B 37 _ HSD.out.c (by decide) (by have:=HGs.out;omega)) (And.intro (key (B+1) 61 _ HSD.out.z1 (by decide) (by have:=HGs.out;omega)) (key (B+1+1) 93 _ HSD.out.z2 (by decide) (by have:=HGs.out;omega))))
       have HHA:=ak_ (HHD.out.fr aC hfD (fun k cs fr e=>tag k cs fr 2 e (by decide) (by decide)))
       have HOA:=ak_ (HOD.out.fr aC hfD (fun k cs fr e=>tag k cs fr 2 e (by decide) (by decide)))
       have HEA:=ak_ (c_ HRE.out hfA (fun k q cs e hc hq=>by subst e;rw[H7E.out] at hc;injection hc with hc;injection hc with _ hc;subst hc;exact absurd hq (by decide)))
       have HBA:=ak_ (Fr.below HSD.out.b hfD (fun k hk e=>by
        rcases e with e | e
        ·obtain⟨inner,hin⟩:=Kd.R_own HSD.out.rE
         have:=iR hin k e.symm
         have:=HBe.out
         omega
        ·have:=HGs.out
         have:=HBe.out
         omega) HSD.out.b.size)
       clear hwA hfA h7A hfD key tag c0 e0 ef0 HSD H9b H11b HHD HOD HRE HGr H7E HED
       refine bh (σ:=Unit) [2,4] (fun _=>[(59,.agg (stc d.1.l (.slice A1 d.1.h.length c1) d.1.at_ d.1.asked).toArray),(60,.agg ([.int .i64 d.2.2.1.how,.int .i64 d.2.2.1.val,.slice A3 d.2.2.1.h.length c3]:List Value).toArray),(61,.pointer (some ⟨G7,1,none⟩))])
        (fun bs _ W=>W.heap[G8]?=some (.cells (if bs.getD 0 false=true then (stc d.1.l (.slice A1 d.1.h.length c1) d.1.at_ d.1.asked) else (stc q.2.l vH q.2.at_ q.2.asked)).toArray 93 (0,0))∧W.heap[G7]?=some (.cells (if bs.getD 1 false=true then (trc ⟨q.1.evs++d.2.1,d.2.2.1,q.1.steps+1,wk⟩ (.slice A5 (q.1.evs.length+d.2.1.length) c5) (.slice A3 d.2.2.1.h.length c3)) else (trc ⟨q.1.evs++d.2.1,q.1.out,q.1.steps+1,wk⟩ (.slice A5 (q.1.evs.length+d.2.1.length) c5) vO)).toArray 61 (0,0))∧Fr (fun k=>k=G7∨k=G8) wA W) () (by kernel_rfl) (by kernel_rfl) (by kernel_rfl) (fun _=>by kernel_rfl) ?_
       intro aF haF
       simp only[bd,Act.put,List.setIfInBounds_toArray,List.set_cons_succ,List.set_cons_zero] at haF
       subst haF
       refine⟨?_,?_,⟨H8A.out,H7A.out,Fr.drew⟩,?_⟩
       ·intro j o ho hct s_1 W bs hlen hok hI
        rcases j with _ | _ | _ | _ | _ | j
        all_goals first | exact absurd hct (by decide) | (obtain rfl:=Option.some.inj ho) | exact absurd (Array.getElem?_eq_some_iff.1 ho).1 (by simp)
        ·exact ab rfl (al rfl rfl (aT (P:=Tryz.prog) ((hI.2.2.block G9 (ai H9.out) (by have:=HGs.out;omega)).trans H9.out) Tryz.underlying93 rfl (bM HDI.out.1.l))) ⟨rfl,hI⟩
        ·exact ab rfl (al rfl rfl (aT (P:=Tryz.prog) ((hI.2.2.block (G9+1) (ai H11.out) (by have:=HGs.out;omega)).trans H11.out) Tryz.underlying59 rfl ij)) ⟨rfl,hI⟩
        ·exact ab rfl (by go_simp) ⟨rfl,hI⟩
       ·intro k_1 j o hk ho s_1 W bs hlen hok hI
        rcases k_1 with _ | _ | k
        all_goals first | (obtain rfl:=Option.some.inj hk;obtain rfl:=Option.some.inj ho) | exact absurd hk (by simp)
        ·obtain⟨b0,b1,rfl⟩:=fR hlen
         obtain rfl:=okS hok 0 rfl rfl
         refine bm rfl 93 _ _ rfl G8 0 (stc d.1.l (.slice A1 d.1.h.length c1) d.1.at_ d.1.asked) rfl rfl 93 (stc q.2.l vH q.2.at_ q.2.asked) (stc d.1.l (.slice A1 d.1.h.length c1) d.1.at_ d.1.asked) hI.1 (by rw[cD HDI.out.1.l];exact j8) (by rw[cD HDI.out.1.l,cD HI.out.l];decide) (fun v hv=>by have:=dN (l:=d.1.l) (A:=A1) (n:=d.1.h.length) (c:=c1) (at_:=d.1.at_) (asked:=d.1.asked);rw[Array.all_eq_true_iff_forall_mem] at this;exact this v (by simpa using hv)) (by rw[List.take_zero,List.nil_append,List.drop_of_length_le (by rw[cD HDI.out.1.l,cD HI.out.l];decide),List.append_nil]) (fun W' h3 hf3=>⟨(),[],rfl,rfl,rfl,⟨h3,(hf3.block G7 (ai hI.2.1) (by have:=HGs.out;omega)).trans hI.2.1,hI.2.2.trans (hf3.mono fun k _ e=>.inr e)⟩⟩)
        ·obtain⟨b0,b1,rfl⟩:=fR hlen
         obtain rfl:=okS hok 1 rfl rfl
         refine bm rfl 59 _ _ rfl G7 1 [.int .i64 d.2.2.1.how,.int .i64 d.2.2.1.val,.slice A3 d.2.2.1.h.length c3] rfl rfl 61 (trc ⟨q.1.evs++d.2.1,q.1.out,q.1.steps+1,wk⟩ (.slice A5 (q.1.evs.length+d.2.1.length) c5) vO) (trc ⟨q.1.evs++d.2.1,d.2.2.1,q.1.steps+1,wk⟩ (.slice A5 (q.1.evs.length+d.2.1.length) c5) (.slice A3 d.2.2.1.h.length c3)) hI.2.1 ij (by simp[trc]) (by simp[Value.oneCell']) rfl (fun W' h3 hf3=>⟨(),[],rfl,rfl,rfl,⟨(hf3.block G8 (ai hI.1) (by have:=HGs.out;omega)).trans hI.1,h3,hI.2.2.trans (hf3.mono fun k _ e=>.inl e)⟩⟩)
       ·intro _ W hI2
        have HS':=ak_ (show ml w W B G7 G8 L ⟨q.1.evs++d.2.1,d.2.2.1,q.1.steps+1,wk⟩ d.1 (.slice A5 (q.1.evs.length+d.2.1.length) c5) (.slice A3 d.2.2.1.h.length c3) (.slice A1 d.1.h.length c1) by
         obtain⟨i1,i2,i3⟩:=hI2
         have tg:∀ k cs fr t,(k=G7∨k=G8)→t≠61→t≠93→wA.heap[k]?≠some (.cells cs t fr):=fun k cs fr t e h1 h2 h3=>by
          rcases e with rfl | rfl
          ·rw[H7A.out] at h3
           injection h3 with h3
           injection h3 with _ h3
           exact h1 h3.symm
          ·rw[H8A.out] at h3
           injection h3 with h3
           injection h3 with _ h3
           exact h2 h3.symm
         refine⟨Fr.below HBA.out i3 (fun k hk e=>by have:=HGs.out;have:=HBe.out;omega) HBA.out.size,(i3.block B (ai HcA.out.1) (by have:=HGs.out;omega)).trans HcA.out.1,(i3.block (B+1) (ai HcA.out.2.1) (by have:=HGs.out;omega)).trans HcA.out.2.1,(i3.block (B+1+1) (ai HcA.out.2.2) (by have:=HGs.out;omega)).trans HcA.out.2.2,i2,i1,?_,HOA.out.fr aC i3 (fun k cs fr e=>tg k cs fr 2 e (by decide) (by decide)),HHA.out.fr aC i3 (fun k cs fr e=>tg k cs fr 2 e (by decide) (by decide))⟩
         exact c_ HEA.out i3 (fun k q cs e hc hq=>by
          rcases e with rfl | rfl
          ·rw[H7A.out] at hc;injection hc with hc;injection hc with _ hc;subst hc;exact absurd hq (by decide)
          ·rw[H8A.out] at hc;injection hc with hc;injection hc with _ hc;subst hc;exact absurd hq (by decide)))
        have h11:=(hI2.2.2.block (G9+1) (ai H11.out) (by have:=HGs.out;omega)).trans H11.out
        obtain⟨w10,rfl⟩:=nm_ W
        have c11:=(show w10.cell? ⟨G9+1,0,none⟩=some (.int .i64 d.2.2.1.how) by rw[ah h11];rfl)
        have HQ':=ak_ (show eo f c.ans q=(⟨q.1.evs++d.2.1,d.2.2.1,q.1.steps+1,wk⟩,d.1) by unfold eo;rw[HGx.out,←HMe.out,HWk.out,HD.out])
        have HRn:=ak_ (show qf=if d.2.2.1.how=0 then mw f c.ans (N - (k+1)) (eo f c.ans q) else eo f c.ans q by
         have hkN:=HKn.out
         rw[HQ.out,show N - k=(N - (k+1))+1 by omega,mw,HQ'.out])
        clear hI2 h11 H7A H8A H9 H11 HcA HHA HOA HEA HBA HQ
        by_cases hz:d.2.2.1.how=0
        ·have q0:(d.2.2.1.how != 0)=false:=by simp[hz]
         have HRn2:=ak_ (show qf=mw f c.ans (N - (k+1)) (eo f c.ans q) by rw[HRn.out,if_pos hz])
         clear hz
         go_wp2
         go_roundw
         case rel=>
          have hv:=HEv.out
          have hv2:=HDI.out.2.1
          refine⟨k+1,(⟨q.1.evs++d.2.1,d.2.2.1,q.1.steps+1,wk⟩,d.1),_,_,_,by go_num,⟨⟨HKn.out,by rw[←HQ'.out];exact HRn2.out,HDI.out.1,HS'.out,by show (q.1.evs++d.2.1).length≤_;rw[List.length_append];omega,by show q.1.steps+1=_;omega,?_,?_⟩⟩⟩
          ·show 0≤wk
           rw[HWk.out]
           split <;> omega
          ·show wk≤_
           rw[HWk.out]
           split <;> omega
         case measure=>have:=HKn.out;simp[intOf];omega
        ·have q0:(d.2.2.1.how != 0)=true:=by simp[hz]
         have HRn2:=ak_ (show qf=(⟨q.1.evs++d.2.1,d.2.2.1,q.1.steps+1,wk⟩,d.1) by rw[HRn.out,if_neg hz,HQ'.out])
         clear hz
         go_wp2
         go_meet
         case rel=>exact⟨_,_,_,⟨by rw[HRn2.out];exact HS'.out,by rw[HRn2.out];exact HDI.out.1⟩⟩
     ·have hkN':¬ (k:Int) < (N:Int):=by omega
      obtain rfl:k=N:=by omega
      rw[Nat.sub_self] at hq
      have HQ:=ak_ hq
      have HS:=ak_ hS
      have HI:=ak_ hI
      clear hk hq hI hS he hst hw0 hw1 HL hkN
      go_wp2
      go_meet
      case rel=>exact⟨vE,vO,vH,⟨by rw[HQ.out];exact HS.out,by rw[HQ.out];exact HI.out⟩⟩
   case rest=>
    obtain⟨vE,vO,vH,HC3⟩:=hcut
    obtain⟨hS,hI⟩:=HC3.out
    obtain⟨wC,rfl⟩:=nm_ wc
    obtain⟨AX,cX,rfl⟩:=Kd.R_slice hS.rE
    have hO:=hS.rO
    have hH:=hS.rH
    obtain⟨AY,cY,rfl,_⟩:=hO
    obtain⟨AZ,cZ,rfl,_⟩:=hH
    have HSC:=ak_ hS
    have HIf:=ak_ hI
    clear HC3 hS hI
    go_upto_region 15 with fail
    refine bh (σ:=Unit) [2,3] (fun _=>[(66,.agg (trc qf.1 (.slice AX qf.1.evs.length cX) (.slice AY qf.1.out.h.length cY)).toArray),(67,.agg (stc qf.2.l (.slice AZ qf.2.h.length cZ) qf.2.at_ qf.2.asked).toArray),(6,.int .i64 0)])
     (fun bs _ W=>W.heap[B+1]?=some (.cells (if bs.getD 0 false=true then (trc qf.1 (.slice AX qf.1.evs.length cX) (.slice AY qf.1.out.h.length cY)).toArray else dM) 61 (0,0))∧W.heap[B+1+1]?=some (.cells (if bs.getD 1 false=true then (stc qf.2.l (.slice AZ qf.2.h.length cZ) qf.2.at_ qf.2.asked).toArray else bJ) 93 (0,0))∧Fr (fun k=>k=B+1∨k=B+1+1) wC W) () (by kernel_rfl) (by kernel_rfl) (by kernel_rfl) (fun _=>by kernel_rfl) ?_
    intro aF haF
    simp only[bd,Act.put,List.setIfInBounds_toArray,List.set_cons_succ,List.set_cons_zero] at haF
    subst haF
    refine⟨?_,?_,⟨HSC.out.z1,HSC.out.z2,Fr.drew⟩,?_⟩
    ·intro j o ho hct s_1 W bs hlen hok hI
     rcases j with _ | _ | _ | _ | _ | j
     all_goals first | exact absurd hct (by decide) | (obtain rfl:=Option.some.inj ho) | exact absurd (Array.getElem?_eq_some_iff.1 ho).1 (by simp)
     ·exact ab rfl (al rfl rfl (aT (P:=Tryz.prog) ((hI.2.2.block G7 (ai HSC.out.h7) (by have:=HBG.out;omega)).trans HSC.out.h7) Tryz.underlying61 rfl ez)) ⟨rfl,hI⟩
     ·exact ab rfl (al rfl rfl (aT (P:=Tryz.prog) ((hI.2.2.block G8 (ai HSC.out.h8) (by have:=HBG.out;have:=H78.out;omega)).trans HSC.out.h8) Tryz.underlying93 rfl (bM HIf.out.l))) ⟨rfl,hI⟩
     ·exact ab rfl (by go_simp) ⟨rfl,hI⟩
    ·intro k j o hk ho s_1 W bs hlen hok hI
     rcases k with _ | _ | k
     all_goals first | (obtain rfl:=Option.some.inj hk;obtain rfl:=Option.some.inj ho) | exact absurd hk (by simp)
     ·obtain⟨b0,b1,rfl⟩:=fR hlen
      obtain rfl:=okS hok 0 rfl rfl
      refine bm rfl 61 _ _ rfl (B+1) 0 (trc qf.1 (.slice AX qf.1.evs.length cX) (.slice AY qf.1.out.h.length cY)) rfl rfl 61 [.slice none 0 0,.int .i64 0,.int .i64 0,.slice none 0 0,.int .i64 0,.int .i64 0] (trc qf.1 (.slice AX qf.1.evs.length cX) (.slice AY qf.1.out.h.length cY)) hI.1 ez (by simp[trc]) (by simp[trc,Value.oneCell']) rfl (fun W' h3 hf3=>⟨(),[],rfl,rfl,rfl,⟨h3,(hf3.block (B+1+1) (ai hI.2.1) (by omega)).trans hI.2.1,hI.2.2.trans (hf3.mono fun k _ e=>.inl e)⟩⟩)
     ·obtain⟨b0,b1,rfl⟩:=fR hlen
      obtain rfl:=okS hok 1 rfl rfl
      refine bm rfl 93 _ _ rfl (B+1+1) 0 (stc qf.2.l (.slice AZ qf.2.h.length cZ) qf.2.at_ qf.2.asked) rfl rfl 93 (stc (List.replicate 24 (false,0)) (.slice none 0 0) 0 0) (stc qf.2.l (.slice AZ qf.2.h.length cZ) qf.2.at_ qf.2.asked) hI.2.1 (by rw[cD HIf.out.l];exact j8) (by rw[cD HIf.out.l,cD (by rfl)];decide) (fun v hv=>by have:=dN (l:=qf.2.l) (A:=AZ) (n:=qf.2.h.length) (c:=cZ) (at_:=qf.2.at_) (asked:=qf.2.asked);rw[Array.all_eq_true_iff_forall_mem] at this;exact this v (by simpa using hv)) (by rw[List.take_zero,List.nil_append,List.drop_of_length_le (by rw[cD HIf.out.l,cD (by rfl)];decide),List.append_nil]) (fun W' h3 hf3=>⟨(),[],rfl,rfl,rfl,⟨(hf3.block (B+1) (ai hI.1) (by omega)).trans hI.1,h3,hI.2.2.trans (hf3.mono fun k _ e=>.inr e)⟩⟩)
    ·intro _ W hI2
     obtain⟨i1,i2,i3⟩:=hI2
     have tg:∀ k cs fr t,(k=B+1∨k=B+1+1)→t≠61→t≠93→wC.heap[k]?≠some (.cells cs t fr):=fun k cs fr t e h1 h2 h3=>by
      rcases e with rfl | rfl
      ·rw[HSC.out.z1] at h3
       injection h3 with h3
       injection h3 with _ h3
       exact h1 h3.symm
      ·rw[HSC.out.z2] at h3
       injection h3 with h3
       injection h3 with _ h3
       exact h2 h3.symm
     have j1:RdT kEv 105 W (.slice AX qf.1.evs.length cX) qf.1.evs:=(RdT.of_R HSC.out.rE).fr bR i3 (fun k cs fr e=>tg k cs fr 105 e (by decide) (by decide))
     have j2:=HSC.out.rO.fr aC i3 (fun k cs fr e=>tg k cs fr 2 e (by decide) (by decide))
     have j3:=HSC.out.rH.fr aC i3 (fun k cs fr e=>tg k cs fr 2 e (by decide) (by decide))
     have j4:=Fr.below HSC.out.b i3 (fun k hk e=>by have:=HBe.out;omega) HSC.out.b.size
     have HI1:=ak_ i1
     have HI2:=ak_ i2
     have HJ:=ak_ (And.intro j1 (And.intro j2 (And.intro j3 j4)))
     clear i1 i2 i3 tg j1 j2 j3 j4
     go_wp2
     rw[HRr.out]
     exact bodyPost_ret (v:=.tuple #[.agg (trc qf.1 (.slice AX qf.1.evs.length cX) (.slice AY qf.1.out.h.length cY)).toArray,.agg (stc qf.2.l (.slice AZ qf.2.h.length cZ) qf.2.at_ qf.2.asked).toArray,.int .i64 0]) (aA (rs:=[.cell 4 61,.cell 5 93,.tmp 6]) rfl (by simp) (.cell (B+1) 61 _ (0,0) _ rfl HI1.out Tryz.underlying61 rfl ez (.cell (B+1+1) 93 _ (0,0) _ rfl HI2.out Tryz.underlying93 rfl (bM HIf.out.l) (.tmp .nil)))) rfl ⟨_,_,_,rfl,HJ.out.1,HJ.out.2.1,HJ.out.2.2.1,HJ.out.2.2.2⟩
  ·obtain rfl:b2=false:=by cases b2 <;> simp_all
   clear hbt2
   go_enter Tryz.func38,Tryz.ntmps38
   go_upto_region 1 with fail
   refine ar HW1.out.symm ?_
   clear hB HW1
   go_wp2_with (first
    | (go_at_call 47;refine HRt.out.mono ?_;rintro e w2 ⟨rfl,hb⟩;have HB2:=ak_ hb;have H12:=ak_ (ag H1.out hb);clear hb)
    | ((with_reducible refine aj (N:=17) rfl ?_);refine ax rfl _ (al rfl rfl (aT (P:=Tryz.prog) H12.out Tryz.underlying37 rfl HLi.out)) ?_)
    | (go_at_call 64;refine(HRt2.out _).mono ?_;rintro e w3 ⟨rfl,hb⟩;have HB3:=ak_ (af HB2.out hb);clear hb)
    | ((with_reducible refine aj (N:=21) rfl ?_);refine aM rfl 61 _ rfl [] _ rfl HBd61.out ?_)
    | ((with_reducible refine aj (N:=22) rfl ?_);refine aM rfl 93 _ rfl [] _ rfl HBd93.out ?_)
    | ((with_reducible refine ao (t:=61) (p:=4) rfl ?_);refine an rfl 61 _ _ rfl (B+1) dM rfl rfl 61 dM (ag H2.out HB3.out) ez rfl (by simp[dM,Value.oneCell']) ?_;intro w4 h4 hf4;have H4:=ak_ h4;have HF4:=ak_ hf4;clear h4 hf4)
    | ((with_reducible refine ao (t:=93) (p:=5) rfl ?_);refine an rfl 93 _ _ rfl (B+1+1) bJ rfl rfl 93 bJ ((HF4.out.block (B+1+1) (ai (ag H3.out HB3.out)) (by omega)).trans (ag H3.out HB3.out)) (bM (l:=List.replicate 24 (false,0)) rfl) rfl dN ?_;intro w5 h5 hf5;have H5:=ak_ h5;have HF5:=ak_ hf5;clear h5 hf5))
   rw[if_neg (fun h=>by simp at h)] at HRr
   rw[HRr.out]
   have h4:=(HF5.out.block (B+1) (ai H4.out) (by omega)).trans H4.out
   have hbb:Below w.heap.size w w5:=Fr.below (af HB1.out HB3.out) ((HF4.out.mono fun k _ e=>by subst e;omega).trans (HF5.out.mono fun k _ e=>by subst e;omega):Fr (fun k=>B < k) _ _) (fun k hk e=>by have:=HBe.out;omega) (af HB1.out HB3.out).size
   exact bodyPost_ret (v:=.tuple #[.agg dM,.agg bJ,.int .i64 1]) (aA (rs:=[.cell 4 61,.cell 5 93,.tmp 6]) rfl (by simp) (.cell (B+1) 61 dM (0,0) _ rfl h4 Tryz.underlying61 rfl ez (.cell (B+1+1) 93 bJ (0,0) _ rfl H5.out Tryz.underlying93 rfl (bM (l:=List.replicate 24 (false,0)) rfl) (.tmp .nil)))) rfl ⟨.slice none 0 0,.slice none 0 0,.slice none 0 0,rfl,RdT.nil _ _ _,RdT.nil _ _ _,RdT.nil _ _ _,hbb⟩
 ·obtain rfl:b=false:=by cases b <;> simp_all
  clear hbt
  go_enter Tryz.func38,Tryz.ntmps38
  go_upto_region 1 with fail
  refine ar HW1.out.symm ?_
  clear hB HW1
  go_wp2_with (first
   | (go_at_call 47;refine HRt.out.mono ?_;rintro e w2 ⟨rfl,hb⟩;have HB2:=ak_ hb;have H12:=ak_ (ag H1.out hb);have HB3:=ak_ hb;clear hb)
   | ((with_reducible refine aj (N:=21) rfl ?_);refine aM rfl 61 _ rfl [] _ rfl HBd61.out ?_)
   | ((with_reducible refine aj (N:=22) rfl ?_);refine aM rfl 93 _ rfl [] _ rfl HBd93.out ?_)
   | ((with_reducible refine ao (t:=61) (p:=4) rfl ?_);refine an rfl 61 _ _ rfl (B+1) dM rfl rfl 61 dM (ag H2.out HB3.out) ez rfl (by simp[dM,Value.oneCell']) ?_;intro w4 h4 hf4;have H4:=ak_ h4;have HF4:=ak_ hf4;clear h4 hf4)
   | ((with_reducible refine ao (t:=93) (p:=5) rfl ?_);refine an rfl 93 _ _ rfl (B+1+1) bJ rfl rfl 93 bJ ((HF4.out.block (B+1+1) (ai (ag H3.out HB3.out)) (by omega)).trans (ag H3.out HB3.out)) (bM (l:=List.replicate 24 (false,0)) rfl) rfl dN ?_;intro w5 h5 hf5;have H5:=ak_ h5;have HF5:=ak_ hf5;clear h5 hf5))
  rw[if_neg (fun h=>by simp at h)] at HRr
  rw[HRr.out]
  have h4:=(HF5.out.block (B+1) (ai H4.out) (by omega)).trans H4.out
  have hbb:Below w.heap.size w w5:=Fr.below (af HB1.out HB3.out) ((HF4.out.mono fun k _ e=>by subst e;omega).trans (HF5.out.mono fun k _ e=>by subst e;omega):Fr (fun k=>B < k) _ _) (fun k hk e=>by have:=HBe.out;omega) (af HB1.out HB3.out).size
  exact bodyPost_ret (v:=.tuple #[.agg dM,.agg bJ,.int .i64 1]) (aA (rs:=[.cell 4 61,.cell 5 93,.tmp 6]) rfl (by simp) (.cell (B+1) 61 dM (0,0) _ rfl h4 Tryz.underlying61 rfl ez (.cell (B+1+1) 93 bJ (0,0) _ rfl H5.out Tryz.underlying93 rfl (bM (l:=List.replicate 24 (false,0)) rfl) (.tmp .nil)))) rfl ⟨.slice none 0 0,.slice none 0 0,.slice none 0 0,rfl,RdT.nil _ _ _,RdT.nil _ _ _,RdT.nil _ _ _,hbb⟩
theorem Dg (d:Nat) (w:World) (a0 a1 a2 b0 b1 b2:Int):(Op.equalIn (d+2) 105 (.agg #[.int .i64 a0,.int .i64 a1,.int .i64 a2]) (.agg #[.int .i64 b0,.int .i64 b1,.int .i64 b2])).run Tryz.prog w=.ok (a0 == b0 && (a1 == b1 && (a2 == b2))) w:=by
 refine jx Tryz.underlying105 (by kernel_rfl) ?_
 refine dA (by rfl) (by go_simp;rfl) (by go_simp;rfl) (by go_simp) ?_
 refine dA (by rfl) (by go_simp;rfl) (by go_simp;rfl) (by go_simp) ?_
 exact fA (by rfl) (by go_simp;rfl) (by go_simp;rfl) (by go_simp)
theorem DK (x y:Ev):(x.n == y.n && (x.arg == y.arg && (x.ans == y.ans)))=decide (x=y):=by
 obtain⟨a,b,e⟩:=x
 obtain⟨c,d,g⟩:=y
 rw[Bool.eq_iff_iff]
 simp[Ev.mk.injEq]
theorem DD (x y:Ev) (w:World):(binOp .neq 105 (.agg #[.int .i64 x.n,.int .i64 x.arg,.int .i64 x.ans]) (.agg #[.int .i64 y.n,.int .i64 y.arg,.int .i64 y.ans])).run Tryz.prog w=.ok (.bool (!decide (x=y))) w:=by
 have h:(Op.equal 105 (.agg #[.int .i64 x.n,.int .i64 x.arg,.int .i64 x.ans]) (.agg #[.int .i64 y.n,.int .i64 y.arg,.int .i64 y.ans])).run Tryz.prog w=.ok (decide (x=y)) w:=by
  rw[←DK]
  exact Dg 9998 w _ _ _ _ _ _
 simp only[binOp,Sem.run_bind,h,Result.andThen_ok,Sem.run_pure]
theorem t_ {aF:Act} {p:Oper} {x y:Operand} {t:TypeId} {s u:Ev} (hp:p.op=.binOp .neq 105 x y t) (hx:aF.eval x=.agg #[.int .i64 s.n,.int .i64 s.arg,.int .i64 s.ans]) (hy:aF.eval y=.agg #[.int .i64 u.n,.int .i64 u.arg,.int .i64 u.ans]) (w:World):(execOp aF.eval p).run Tryz.prog w=.ok (.value (.bool (!decide (s=u)))) w:=by
 have hk:Tryz.prog.eqGuardType Tryz.prog.depth 105=false:=by kernel_rfl
 have h1:(eqGuard .neq 105 x y (.agg #[.int .i64 s.n,.int .i64 s.arg,.int .i64 s.ans]) (.agg #[.int .i64 u.n,.int .i64 u.arg,.int .i64 u.ans])).run Tryz.prog w=.ok () w:=by
  simp[eqGuard,run_program,hk]
 unfold execOp
 simp only[hp,hx,hy,Sem.run_bind,h1,DD,Result.andThen_ok,Sem.run_pure]
theorem oT:(Tryz.prog.info? 105).map (·.size)=some 3:=by kernel_rfl
def Cr (a b:List Ev):Bool:=decide (a <+: b)
theorem kO (xs ys:List Ev) (AX AY:Option Addr) (cX cY:Nat) (w:World) (hX:Kd.C kEv w AX xs.length xs) (hY:Kd.C kEv w AY ys.length ys) (hx:xs.length≤5000) (hy:ys.length≤5000) :
  Calls Tryz.prog 22 #[.slice AX xs.length cX,.slice AY ys.length cY] w fun e w'=>e=.returned (.bool (Cr xs ys))∧Below w.heap.size w w':=by
 obtain⟨r,hr⟩:=nm_ (Cr xs ys)
 rw[←hr]
 have HR:=ak_ hr
 have HX:=ak_ hX
 have HY:=ak_ hY
 have hx':(xs.length:Int)≤5000:=by omega
 have hy':(ys.length:Int)≤5000:=by omega
 clear hr hX hY
 by_cases hl:xs.length≤ys.length
 ·have hlb:¬ (ys.length:Int) < (xs.length:Int):=by omega
  have HL:=ak_ hl
  clear hl
  go_enter Tryz.func22,Tryz.ntmps22
  go_upto_region 4 with fail
  go_loopw [14] (fun j wr=>∃ (k:Nat),j=.int .i64 k∧aa (k≤xs.length∧Below w.heap.size w wr∧xs.take k=ys.take k)) (fun j _=>xs.length - (intOf j).toNat)
  case atStart=>exact⟨0,rfl,⟨⟨Nat.zero_le _,Below.refl _ _,rfl⟩⟩⟩
  case round=>
   obtain⟨k,rfl,HK⟩:=hrel
   obtain⟨hk,hb,ht⟩:=HK.out
   by_cases hkl:k < xs.length
   ·have hkl':(k:Int) < (xs.length:Int):=by omega
    have hky:k < ys.length:=by have:=HL.out;omega
    have hky':(k:Int) < (ys.length:Int):=by omega
    obtain⟨x,hxx⟩:∃ x,xs[k]?=some x:=⟨_,List.getElem?_eq_getElem hkl⟩
    obtain⟨y,hyy⟩:∃ y,ys[k]?=some y:=⟨_,List.getElem?_eq_getElem hky⟩
    obtain⟨adX,csX,eX,hKX,hldX⟩:=aW (P:=Tryz.prog) HX.out hb k hkl x hxx 105 Tryz.underlying105 rfl oT
    subst eX
    obtain rfl:csX=[.int .i64 x.n,.int .i64 x.arg,.int .i64 x.ans]:=hKX
    have HLX:=ak_ (show (loadVar 105 (adX.add (k * 3))).run Tryz.prog wr=.ok (.agg #[.int .i64 x.n,.int .i64 x.arg,.int .i64 x.ans]) wr from hldX)
    have htx:xs.take (k+1)=xs.take k++[x]:=by rw[List.take_succ_eq_append_getElem hkl,(List.getElem?_eq_some_iff.1 hxx).2]
    have hty:ys.take (k+1)=ys.take k++[y]:=by rw[List.take_succ_eq_append_getElem hky,(List.getElem?_eq_some_iff.1 hyy).2]
    have HT:=ak_ (And.intro ht (And.intro htx hty))
    have HB:=ak_ hb
    have HYY:=ak_ hyy
    have HKl:=ak_ hkl
    have HKy:=ak_ hky
    clear hk hb ht hkl hky hxx hyy hldX htx hty HK
    go_upto_region 6 with (first
     | ((with_reducible refine aj (N:=18) rfl ?_);refine au rfl 105 _ rfl (adX.add (k * 3)) rfl _ HLX.out ?_))
    obtain⟨w1,hw1⟩:∃ w1,w1=wr.alloc (.cells #[.int .i64 x.n,.int .i64 x.arg,.int .i64 x.ans] 105):=⟨_,rfl⟩
    have hb1:Below w.heap.size w w1:=by rw[hw1];exact ae HB.out _
    have h6:w1.heap[wr.heap.size]?=some (.cells #[.int .i64 x.n,.int .i64 x.arg,.int .i64 x.ans] 105 (0,0)):=by rw[hw1];exact heap_alloc_last wr _
    refine ar hw1.symm ?_
    obtain⟨g6,hg6⟩:=mn_ wr.heap.size
    rw[hg6] at h6 ⊢
    obtain⟨adY,csY,eY,hKY,hldY⟩:=aW (P:=Tryz.prog) HY.out (az hb1) k HKy.out y HYY.out 105 Tryz.underlying105 rfl oT
    subst eY
    obtain rfl:csY=[.int .i64 y.n,.int .i64 y.arg,.int .i64 y.ans]:=hKY
    have HLY:=ak_ (show (loadVar 105 (adY.add (k * 3))).run Tryz.prog w1.drew=.ok (.agg #[.int .i64 y.n,.int .i64 y.arg,.int .i64 y.ans]) w1.drew from hldY)
    have HB1:=ak_ hb1
    have H6:=ak_ h6
    clear hw1 hb1 h6 hg6 hldY
    refine wp_region_still_lit (by kernel_rfl) (by kernel_rfl) ?_
    refine bu rfl (al rfl rfl (aT H6.out Tryz.underlying105 rfl oT)) ?_
    still_step
    still_step
    still_step
    refine bu rfl (al rfl rfl HLY.out) ?_
    refine bu rfl (t_ rfl rfl rfl _) ?_
    refine wpStill_nil ?_
    change (Exit.then _ _) _ _ w1.drew
    obtain⟨w2,hw2⟩:=nm_ w1.drew
    rw[←hw2]
    have HB2:=ak_ (show Below w.heap.size w w2 by rw[hw2];exact az HB1.out)
    clear hw2
    by_cases hxy:x=y
    ·have hd:(!decide (x=y))=false:=by simp[hxy]
     have HXY:=ak_ hxy
     clear hxy
     rw[hd]
     go_wp2
     go_roundw
     case rel=>exact⟨k+1,by go_num,⟨⟨HKl.out,HB2.out,by rw[HT.out.2.1,HT.out.2.2,HT.out.1,HXY.out]⟩⟩⟩
     case measure=>have:=HKl.out;simp[intOf];omega
    ·have hd:(!decide (x=y))=true:=by simp[hxy]
     have HXY:=ak_ hxy
     clear hxy
     rw[hd]
     obtain rfl:r=false:=by
      rw[HR.out]
      refine decide_eq_false (fun e=>HXY.out ?_)
      obtain⟨z,hz⟩:=e
      have h1:=HT.out.2.2
      rw[←hz,List.take_append_of_le_length (show k+1≤xs.length from HKl.out),HT.out.2.1,List.take_append_of_le_length (show k≤xs.length from Nat.le_of_lt HKl.out)] at h1
      have h2:=List.append_inj_right' h1 rfl
      simpa using h2
     go_wp2
     go_ret
     exact⟨rfl,HB2.out⟩
   ·obtain rfl:k=xs.length:=by omega
    obtain rfl:r=true:=by
     rw[HR.out]
     refine decide_eq_true ?_
     rw[List.take_length] at ht
     rw[ht]
     exact List.take_prefix _ _
    have HB:=ak_ hb
    clear hk hb ht hkl HK
    go_wp2
    go_ret
    exact⟨rfl,HB.out⟩
 ·have hlb:(ys.length:Int) < (xs.length:Int):=by omega
  obtain rfl:r=false:=by
   rw[HR.out]
   exact decide_eq_false (fun e=>hl e.length_le)
  clear hl
  go_enter Tryz.func22,Tryz.ntmps22
  go_wp2
  go_ret
  exact⟨rfl,Below.refl _ _⟩
def iH (h:Int):Bool:=decide (1≤h∧h≤4)
theorem f2 (t:Tr) (A B:Option Addr) (n c m d:Nat) (w:World):Calls Tryz.prog 24 #[.agg (trc t (.slice A n c) (.slice B m d)).toArray] w fun e w'=>e=.returned (.bool (iH t.out.how))∧Below w.heap.size w w':=by
 obtain⟨es,⟨how,val,oh⟩,st,wk⟩:=t
 show Calls Tryz.prog 24 #[.agg #[.slice A n c,.int .i64 how,.int .i64 val,.slice B m d,.int .i64 st,.int .i64 wk]] w fun e w'=>e=.returned (.bool (iH how))∧Below w.heap.size w w'
 obtain⟨r,hr⟩:=nm_ (iH how)
 rw[←hr]
 unfold iH at hr
 by_cases h1:how=1
 ·subst h1
  obtain rfl:r=true:=hr
  go_enter Tryz.func24,Tryz.ntmps24
  go_wp2
  go_ret
  exact⟨rfl,ae (Below.refl _ _) _⟩
 by_cases h2:how=2
 ·subst h2
  obtain rfl:r=true:=hr
  go_enter Tryz.func24,Tryz.ntmps24
  go_wp2
  go_ret
  exact⟨rfl,ae (Below.refl _ _) _⟩
 by_cases h3:how=3
 ·subst h3
  obtain rfl:r=true:=hr
  go_enter Tryz.func24,Tryz.ntmps24
  go_wp2
  go_ret
  exact⟨rfl,ae (Below.refl _ _) _⟩
 by_cases h4:how=4
 ·subst h4
  obtain rfl:r=true:=hr
  go_enter Tryz.func24,Tryz.ntmps24
  go_wp2
  go_ret
  exact⟨rfl,ae (Below.refl _ _) _⟩
 ·obtain rfl:r=false:=by rw[hr];exact decide_eq_false (by omega)
  have q1:(how == 1)=false:=beq_eq_false_iff_ne.mpr h1
  have q2:(how == 2)=false:=beq_eq_false_iff_ne.mpr h2
  have q3:(how == 3)=false:=beq_eq_false_iff_ne.mpr h3
  have q4:(how == 4)=false:=beq_eq_false_iff_ne.mpr h4
  clear hr h1 h2 h3 h4
  go_enter Tryz.func24,Tryz.ntmps24
  go_wp2
  go_ret
  exact⟨rfl,ae (Below.refl _ _) _⟩
def sdc (t:Tr) (b:Bool) (vE vO:Value):Array Value:=#[vE,.int .i64 t.out.how,.int .i64 t.out.val,vO,.int .i64 t.steps,.int .i64 t.work,.bool b]
def SdV (W:World) (x:Tr × Bool) (v:Value):Prop:=∃ A n B m,v=.agg (sdc x.1 x.2 (.slice A x.1.evs.length n) (.slice B x.1.out.h.length m))∧RdT kEv 105 W (.slice A x.1.evs.length n) x.1.evs∧RdT (Kd.int .i64) 2 W (.slice B x.1.out.h.length m) x.1.out.h
theorem SdV.below {W W':World} {x:Tr × Bool} {v:Value} (h:SdV W x v) (hb:Below W.heap.size W W'):SdV W' x v:=by
 obtain⟨A,n,B,m,h1,h2,h3⟩:=h
 exact⟨A,n,B,m,h1,h2.below hb,h3.below hb⟩
def eR (f:List In) (c:Ca):(Tr × Bool) × Int:=
 if (fu f c).2.2=0 then (((fu f c).1,decide ((fu f c).1.out.how=0) && decide ((b_ f (fu f c).2.1.at_.toNat).jt < 0)),0) else ((trZ,false),(fu f c).2.2)
theorem dg:(Tryz.prog.info? 63).map (·.size)=some 7:=by kernel_rfl
def fO:Array Value:=sdc trZ false (.slice none 0 0) (.slice none 0 0)
theorem Cn (vs:List Value) (h:vs.length=6) (b:Bool):Tryz.prog.built 63 [(0,.agg vs.toArray),(1,.bool b)]=some (vs++[Value.bool b]).toArray:=by
 have h1:Tryz.prog.built 63 [(0,.agg vs.toArray),(1,.bool b)]=Instr.fill (#[(0,6),(6,1)][·]?) ([.slice none 0 0,.int .i64 0,.int .i64 0,.slice none 0 0,.int .i64 0,.int .i64 0,.bool false]:List Value).toArray [(0,.agg vs.toArray),(1,.bool b)]:=by rfl
 rw[h1,im _ _ 0 0 6 vs _ rfl h (by simp)]
 simp[Instr.fill,h,List.set_append,show (Value.bool b).cells=#[.bool b] from rfl]
theorem uN {f:List In} {c:Ca} (h8:c.r.length=8) (h:(fu f c).2.2=0):bi f=true∧StI f (fu f c).2.1:=by
 unfold fu at h ⊢
 split at h
 ·rename_i hc
  rw[if_pos hc]
  have hr:=bN hc.1
  have h16:c.h.length≤16:=by
   have:=hc.2
   unfold gO at this
   simp only[Bool.and_eq_true,decide_eq_true_eq] at this
   omega
  exact⟨hc.1,zB hr c.ans _ _ (ux hr h8 h16)⟩
 ·exact absurd h (by decide)
theorem Bt (f:List In) (c:Ca) (h8:c.r.length=8):(fu f c).2.1.l.length=24:=by
 by_cases h:(fu f c).2.2=0
 ·exact(uN h8 h).2.l
 ·unfold fu at h ⊢
  split
  ·rename_i hc
   rw[if_pos hc] at h
   exact absurd rfl h
  ·rfl
theorem yd (f:List In) (c:Ca):(fu f c).2.2=0∨(fu f c).2.2=1:=by
 unfold fu
 split
 ·exact .inl rfl
 ·exact .inr rfl
theorem qv (f:List In) (Af:Option Addr) (cf:Nat) (c:Ca) (vC:Value) (w:World) (hG:Gl w) (hC:Kd.C kIn w Af f.length f) (hc:f.length≤cf) (hV:CaV w c vC) (hh:c.h.length≤5000) (ha:c.ans.length≤100000) :
  Calls Tryz.prog 19 #[.slice Af f.length cf,vC] w fun e w'=>∃ v,e=.returned (.tuple #[v,.int .i64 (eR f c).2])∧SdV w' (eR f c).1 v∧Below w.heap.size w w':=by
 have hV0:=hV
 obtain⟨vH,vA,rfl,h8,hHr,hAr⟩:=hV
 obtain⟨L,hL⟩:=nm_ (cac c.r vH vA c.fuel)
 have hLi:(Tryz.prog.info? 37).map (·.size)=some L.toArray.size:=by rw[hL];exact bq h8
 obtain⟨r,hr⟩:=nm_ (eR f c)
 rw[←hr]
 unfold eR at hr
 obtain⟨q,hq⟩:=nm_ (fu f c)
 have hI:=fun h=>uN (f:=f) (c:=c) h8 h
 have hE:=yd f c
 have hl:=Bt f c h8
 rw[←hq] at hr hI hE hl
 obtain⟨w1,hw1⟩:∃ w1,w1=(w.alloc (.cells L.toArray 37)).alloc (.cells fO 63):=⟨_,rfl⟩
 obtain⟨B,hB⟩:=mn_ w.heap.size
 obtain⟨h2,h1,hb1⟩:=dm (w:=w) (A:=.cells L.toArray 37) (B:=.cells fO 63) (w1:=w1) (by rw[hw1];exact Below.refl _ _)
 rw[hB] at h1 h2
 have hRun:=Bs f Af cf c _ w1 (hG.below hb1) (Kd.C_below hC hb1) hc (hV0.below hb1) hh ha
 rw[←hL,←hq] at hRun
 rw[←hL]
 have HG:=ak_ (hG.below hb1)
 have HC:=ak_ (Kd.C_below hC hb1)
 have HRun:=ak_ hRun
 have HW1:=ak_ hw1
 have H1:=ak_ h1
 have H2:=ak_ h2
 have HB1:=ak_ hb1
 have HBe:=ak_ hB
 have HLi:=ak_ hLi
 have HRr:=ak_ hr
 have HI:=ak_ hI
 have HSl:=ak_ hl
 have Hcf:=ak_ hc
 have HBd63:=ak_ (show Tryz.prog.built 63 []=some fO from rfl)
 clear hV0 hG hC hc hL hLi hr hq hI hl hRun hw1 h1 h2 hb1 hHr hAr h8 hh ha
 obtain⟨t,s,er⟩:=q
 simp only at hE
 have HIs:=ak_ (show er=0→bi f=true∧StI f s from HI.out)
 have HRs:=ak_ (show r=if er=0 then ((t,decide (t.out.how=0) && decide ((b_ f s.at_.toNat).jt < 0)),0) else ((trZ,false),er) from HRr.out)
 clear HI HRr
 rcases hE with rfl | rfl
 ·obtain⟨hr,hs⟩:=HIs.out rfl
  obtain⟨n,hn⟩:∃ n:Nat,s.at_=n:=⟨s.at_.toNat,by have:=hs.lo;omega⟩
  have hFr:=fun W hG hC=>(yg f s.at_ Af cf W hG hC Hcf.out).mono (fun e w' h=>(show e=.returned (.tuple #[.agg (b_ f s.at_.toNat).cells.toArray,.int .i64 0])∧Below W.heap.size W w' from ⟨by have h1:=h.1;unfold i_ at h1;rw[if_pos ⟨hr,hs.lo,hs.hi⟩] at h1;exact h1,h.2⟩))
  obtain⟨pt,hpt⟩:=nm_ (b_ f s.at_.toNat)
  rw[if_pos rfl,←hpt] at HRs
  rw[←hpt] at hFr
  have HFr:=ak_ hFr
  have HS:=ak_ hs
  have HPl:=ak_ (show pt.t.length=24 by rw[hpt];exact(jY (bN hr) (by have:=hs.hi;omega)).1)
  clear hFr hr hs hpt hn
  go_enter Tryz.func19,Tryz.ntmps19
  go_upto_region 1 with fail
  refine ar HW1.out.symm ?_
  clear hB HW1
  go_upto_region 2 with (first
   | ((with_reducible refine aj (N:=13) rfl ?_);refine ax rfl _ (al rfl rfl (aT (P:=Tryz.prog) H1.out Tryz.underlying37 rfl HLi.out)) ?_)
   | (go_at_call 38;refine HRun.out.mono ?_;rintro e w2 ⟨vE,vO,vS,rfl,hE,hO,hS,hb⟩;obtain⟨AE,cE,rfl,z1⟩:=hE;obtain⟨AO,cO,rfl,z2⟩:=hO;obtain⟨AS,cS,rfl,z3⟩:=hS;have HEr:=ak_ (show RdT kEv 105 w2 (.slice AE t.evs.length cE) t.evs from ⟨AE,cE,rfl,z1⟩);have HOr:=ak_ (show RdT (Kd.int .i64) 2 w2 (.slice AO t.out.h.length cO) t.out.h from ⟨AO,cO,rfl,z2⟩);have HB2:=ak_ hb;clear z1 z2 z3 hb)
   | ((with_reducible refine ao (t:=61) (p:=6) rfl ?_);refine an rfl 61 _ _ rfl w2.heap.size (trc t (.slice AE t.evs.length cE) (.slice AO t.out.h.length cO)).toArray rfl rfl 61 dM (heap_alloc2_old w2 _ _) ez rfl (by simp[trc,Value.oneCell']) ?_;intro w3 h3 hf3;have H3:=ak_ h3;have H3b:=ak_ ((hf3.block (w2.heap.size+1) (by simp) (by omega)).trans (heap_alloc2_new w2 _ _));have HB3:=ak_ (show Below w2.heap.size w2 w3 from Fr.below (ae (ae (Below.refl _ _) _) _) hf3 (fun k hk e=>by omega) (by simp;omega));clear h3 hf3)
   | ((with_reducible refine ao (t:=93) (p:=7) rfl ?_);refine an rfl 93 _ _ rfl (w2.heap.size+1) (stc s.l (.slice AS s.h.length cS) s.at_ s.asked).toArray rfl rfl 93 bJ H3b.out (bM HS.out.l) (stz HS.out.l) dN ?_;intro w4 h4 hf4;have H4:=ak_ h4;have H4a:=ak_ ((hf4.block w2.heap.size (ai H3.out) (by omega)).trans H3.out);have HB4:=ak_ (show Below w2.heap.size w2 w4 from Fr.below HB3.out hf4 (fun k hk e=>by omega) HB3.out.size);clear h4 hf4))
  obtain⟨G,hG⟩:=mn_ w2.heap.size
  rw[hG] at H4 H4a ⊢
  have HBG:=ak_ (show B+1 < G by rw[←hG];exact ai (ag H2.out HB2.out))
  have HB5:=ak_ (af HB2.out HB4.out)
  have HE4:=ak_ (HEr.out.below HB4.out)
  have HO4:=ak_ (HOr.out.below HB4.out)
  have c49:=(show w4.cell? ⟨G+1,49,none⟩=some (.int .i64 s.at_) by rw[ap H4.out,show 49=48+1 from rfl,jP HS.out.l];rfl)
  have HFc:=ak_ (HFr.out w4 (HG.out.below HB5.out) (Kd.C_below HC.out HB5.out))
  clear hG HRun H1 H3 H3b HB3 HB2 HB4 HEr HOr HFr
  go_upto_region 5 with (first
   | (go_at_call 39;refine HFc.out.mono ?_;rintro e w5 ⟨rfl,hb⟩;have HB6:=ak_ hb;clear hb)
   | ((with_reducible refine ao (t:=101) (p:=9) rfl ?_);refine an rfl 101 _ _ rfl w5.heap.size pt.cells.toArray rfl rfl 101 (Pth.cells ⟨0,bo,0⟩).toArray (heap_alloc_last w5 _) (db HPl.out) (by simp[iB,HPl.out,bo]) (fY _) ?_;intro w6 h6 hf6;have H6:=ak_ h6;have HB7:=ak_ (af HB6.out (bV hf6));clear h6 hf6))
  have HE6:=ak_ (HE4.out.below HB7.out)
  have HO6:=ak_ (HO4.out.below HB7.out)
  have H66:=ak_ (ag H4a.out HB7.out)
  have H26:=ak_ (ag (ag H2.out HB5.out) HB7.out)
  have c1:=(show w6.cell? ⟨G,1,none⟩=some (.int .i64 t.out.how) by rw[ap H66.out];rfl)
  have cp:=(show w6.cell? ⟨w5.heap.size,0,none⟩=some (.int .i64 pt.jt) by rw[ap H6.out];rfl)
  have HB8:=ak_ (af HB5.out HB7.out)
  obtain⟨b,hb⟩:=nm_ ((decide (t.out.how=0) && decide (pt.jt < 0)))
  rw[←hb] at HRs
  have HBd:=ak_ (show ∀ z,Tryz.prog.built 63 [(0,.agg (trc t (.slice AE t.evs.length cE) (.slice AO t.out.h.length cO)).toArray),(1,.bool z)]=some (sdc t z (.slice AE t.evs.length cE) (.slice AO t.out.h.length cO)) from fun z=>Cn _ rfl z)
  clear c49 HFc HE4 HO4 H4 H4a H2 HB5 HB6 HB7
  by_cases h0:t.out.how=0
  ·by_cases hj:pt.jt < 0
   ·have q1:(t.out.how == 0)=true:=beq_iff_eq.mpr h0
    obtain rfl:b=true:=by rw[hb,decide_eq_true h0,decide_eq_true hj];rfl
    clear h0 hb
    go_wp2_with (first
     | ((with_reducible refine aj (N:=29) rfl ?_);refine ax rfl _ (al rfl rfl (aT (P:=Tryz.prog) H66.out Tryz.underlying61 rfl ez)) ?_)
     | ((with_reducible refine aj (N:=39) rfl ?_);refine aM rfl 63 _ rfl [(0,.agg (trc t (.slice AE t.evs.length cE) (.slice AO t.out.h.length cO)).toArray),(1,.bool true)] _ rfl (HBd.out _) ?_)
     | ((with_reducible refine ao (t:=63) (p:=4) rfl ?_);refine an rfl 63 _ _ rfl (B+1) (sdc t true (.slice AE t.evs.length cE) (.slice AO t.out.h.length cO)) rfl rfl 63 fO H26.out dg rfl (by simp[sdc,Value.oneCell']) ?_;intro w7 h7 hf7;have H7:=ak_ h7;have HF7:=ak_ hf7;clear h7 hf7))
    rw[HRs.out]
    exact bodyPost_ret (v:=.tuple #[.agg (sdc t true (.slice AE t.evs.length cE) (.slice AO t.out.h.length cO)),.int .i64 0]) (aA (rs:=[.cell 4 63,.tmp 5]) rfl (by simp) (.cell (B+1) 63 _ (0,0) _ rfl H7.out Tryz.underlying63 rfl dg (.tmp .nil))) rfl ⟨_,rfl,⟨AE,cE,AO,cO,rfl,HE6.out.fr bR HF7.out (fun k cs fr e=>by subst e;rw[H26.out];simp),HO6.out.fr aC HF7.out (fun k cs fr e=>by subst e;rw[H26.out];simp)⟩,Fr.below (af HB1.out HB8.out) HF7.out (fun k hk e=>by have:=HBe.out;omega) (af HB1.out HB8.out).size⟩
   ·have q1:(t.out.how == 0)=true:=beq_iff_eq.mpr h0
    have q2:decide (pt.jt < 0)=false:=decide_eq_false hj
    obtain rfl:b=false:=by rw[hb,decide_eq_true h0,decide_eq_false hj];rfl
    clear h0 hb
    go_wp2_with (first
     | ((with_reducible refine aj (N:=29) rfl ?_);refine ax rfl _ (al rfl rfl (aT (P:=Tryz.prog) H66.out Tryz.underlying61 rfl ez)) ?_)
     | ((with_reducible refine aj (N:=39) rfl ?_);refine aM rfl 63 _ rfl [(0,.agg (trc t (.slice AE t.evs.length cE) (.slice AO t.out.h.length cO)).toArray),(1,.bool false)] _ rfl (HBd.out _) ?_)
     | ((with_reducible refine ao (t:=63) (p:=4) rfl ?_);refine an rfl 63 _ _ rfl (B+1) (sdc t false (.slice AE t.evs.length cE) (.slice AO t.out.h.length cO)) rfl rfl 63 fO H26.out dg rfl (by simp[sdc,Value.oneCell']) ?_;intro w7 h7 hf7;have H7:=ak_ h7;have HF7:=ak_ hf7;clear h7 hf7))
    rw[HRs.out]
    exact bodyPost_ret (v:=.tuple #[.agg (sdc t false (.slice AE t.evs.length cE) (.slice AO t.out.h.length cO)),.int .i64 0]) (aA (rs:=[.cell 4 63,.tmp 5]) rfl (by simp) (.cell (B+1) 63 _ (0,0) _ rfl H7.out Tryz.underlying63 rfl dg (.tmp .nil))) rfl ⟨_,rfl,⟨AE,cE,AO,cO,rfl,HE6.out.fr bR HF7.out (fun k cs fr e=>by subst e;rw[H26.out];simp),HO6.out.fr aC HF7.out (fun k cs fr e=>by subst e;rw[H26.out];simp)⟩,Fr.below (af HB1.out HB8.out) HF7.out (fun k hk e=>by have:=HBe.out;omega) (af HB1.out HB8.out).size⟩
  ·have q1:(t.out.how == 0)=false:=beq_eq_false_iff_ne.mpr h0
   obtain rfl:b=false:=by rw[hb,decide_eq_false h0];rfl
   clear h0 hb
   go_wp2_with (first
    | ((with_reducible refine aj (N:=29) rfl ?_);refine ax rfl _ (al rfl rfl (aT (P:=Tryz.prog) H66.out Tryz.underlying61 rfl ez)) ?_)
    | ((with_reducible refine aj (N:=39) rfl ?_);refine aM rfl 63 _ rfl [(0,.agg (trc t (.slice AE t.evs.length cE) (.slice AO t.out.h.length cO)).toArray),(1,.bool false)] _ rfl (HBd.out _) ?_)
    | ((with_reducible refine ao (t:=63) (p:=4) rfl ?_);refine an rfl 63 _ _ rfl (B+1) (sdc t false (.slice AE t.evs.length cE) (.slice AO t.out.h.length cO)) rfl rfl 63 fO H26.out dg rfl (by simp[sdc,Value.oneCell']) ?_;intro w7 h7 hf7;have H7:=ak_ h7;have HF7:=ak_ hf7;clear h7 hf7))
   rw[HRs.out]
   exact bodyPost_ret (v:=.tuple #[.agg (sdc t false (.slice AE t.evs.length cE) (.slice AO t.out.h.length cO)),.int .i64 0]) (aA (rs:=[.cell 4 63,.tmp 5]) rfl (by simp) (.cell (B+1) 63 _ (0,0) _ rfl H7.out Tryz.underlying63 rfl dg (.tmp .nil))) rfl ⟨_,rfl,⟨AE,cE,AO,cO,rfl,HE6.out.fr bR HF7.out (fun k cs fr e=>by subst e;rw[H26.out];simp),HO6.out.fr aC HF7.out (fun k cs fr e=>by subst e;rw[H26.out];simp)⟩,Fr.below (af HB1.out HB8.out) HF7.out (fun k hk e=>by have:=HBe.out;omega) (af HB1.out HB8.out).size⟩
 ·rw[if_neg (by decide)] at HRs
  go_enter Tryz.func19,Tryz.ntmps19
  go_upto_region 1 with fail
  refine ar HW1.out.symm ?_
  clear hB HW1
  go_wp2_with (first
   | ((with_reducible refine aj (N:=13) rfl ?_);refine ax rfl _ (al rfl rfl (aT (P:=Tryz.prog) H1.out Tryz.underlying37 rfl HLi.out)) ?_)
   | (go_at_call 38;refine HRun.out.mono ?_;rintro e w2 ⟨vE,vO,vS,rfl,hE,hO,hS,hb⟩;obtain⟨AE,cE,rfl,z1⟩:=hE;obtain⟨AO,cO,rfl,z2⟩:=hO;obtain⟨AS,cS,rfl,z3⟩:=hS;have HB2:=ak_ hb;clear z1 z2 z3 hb)
   | ((with_reducible refine ao (t:=61) (p:=6) rfl ?_);refine an rfl 61 _ _ rfl w2.heap.size (trc t (.slice AE t.evs.length cE) (.slice AO t.out.h.length cO)).toArray rfl rfl 61 dM (heap_alloc2_old w2 _ _) ez rfl (by simp[trc,Value.oneCell']) ?_;intro w3 h3 hf3;have H3b:=ak_ ((hf3.block (w2.heap.size+1) (by simp) (by omega)).trans (heap_alloc2_new w2 _ _));have HB3:=ak_ (show Below w2.heap.size w2 w3 from Fr.below (ae (ae (Below.refl _ _) _) _) hf3 (fun k hk e=>by omega) (by simp;omega));clear h3 hf3)
   | ((with_reducible refine ao (t:=93) (p:=7) rfl ?_);refine an rfl 93 _ _ rfl (w2.heap.size+1) (stc s.l (.slice AS s.h.length cS) s.at_ s.asked).toArray rfl rfl 93 bJ H3b.out (bM HSl.out) (stz HSl.out) dN ?_;intro w4 h4 hf4;have HB4:=ak_ (show Below w2.heap.size w2 w4 from Fr.below HB3.out hf4 (fun k hk e=>by omega) HB3.out.size);have H24:=ak_ (ag (ag H2.out HB2.out) HB4.out);clear h4 hf4)
   | ((with_reducible refine aj (N:=20) rfl ?_);refine aM rfl 63 _ rfl [] _ rfl HBd63.out ?_)
   | ((with_reducible refine ao (t:=63) (p:=4) rfl ?_);refine an rfl 63 _ _ rfl (B+1) fO rfl rfl 63 fO H24.out dg rfl (by simp[fO,sdc,Value.oneCell']) ?_;intro w5 h5 hf5;have H5:=ak_ h5;have HB6:=ak_ (Fr.below (af HB1.out (af HB2.out HB4.out)) hf5 (fun k hk e=>by have:=HBe.out;omega) (af HB1.out (af HB2.out HB4.out)).size);clear h5 hf5))
  rw[HRs.out]
  exact bodyPost_ret (v:=.tuple #[.agg fO,.int .i64 1]) (aA (rs:=[.cell 4 63,.tmp 5]) rfl (by simp) (.cell (B+1) 63 fO (0,0) _ rfl H5.out Tryz.underlying63 rfl dg (.tmp .nil))) rfl ⟨_,rfl,⟨none,0,none,0,rfl,RdT.nil _ _ _,RdT.nil _ _ _⟩,HB6.out⟩
end Go.Proofs.YtlinbehijfcelaaGreatDoor.Top
