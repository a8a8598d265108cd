/- Walks of the program, and what it computes, told plainly. No condition. (USP USPA) -/
import Derived.Below
import Derived.Deep.Draws
import Derived.Deep.AppendLies
import Derived.Maps.AppendAt
import Derived.OwnWalk
import Derived.Laws.BytesArg
import Derived.Laws.MakeOwn
import Derived.Laws.OwnMore
import Derived.Deep.OwnRows
import Derived.Tactics
import Derived.Lib.ConvBytes
import Derived.Laws.Slices
import Derived.WalkKit
import Derived.KernelRfl
import Derived.RowKit3
import Derived.Deep.LoopGhost
import Derived.Deep.QuietTactic
import Derived.BigQuiet
import Derived.WideLaws
import Derived.Deep.DeepCutAuto
import Derived.Deep.CutBlock
import Derived.Deep.RegionHeld3
import Derived.Laws.Rows
import Derived.Lib.AppendStr
import Derived.ArgAppend
import Derived.Laws.IdiomCopy
import Derived.RowKit
import Derived.OrdersHeld
import Derived.Laws.BitsLemmas
import Derived.Laws.StructEq
import Derived.Test.YtlinbehijfcelaaGreatDoorProg
import Derived.Deep.WholeRow
import Derived.Laws.CopyOwn
import Derived.Carry
import Derived.ChangeKeysEq
import Derived.Laws.RangeAny
import Derived.Deep.MidRow
import Derived.Laws.Tables
import Derived.StillTailTactics
import Derived.Test.YtlinbehijfcelaaGreatDoorPA
import Derived.Test.YtlinbehijfcelaaGreatDoorPB
import Derived.Test.YtlinbehijfcelaaGreatDoorPC
import Derived.Test.YtlinbehijfcelaaGreatDoorPD
import Derived.Test.YtlinbehijfcelaaGreatDoorPE
import Derived.Test.YtlinbehijfcelaaGreatDoorPF
import Derived.Test.YtlinbehijfcelaaGreatDoorPG
import Derived.Test.YtlinbehijfcelaaGreatDoorPH
import Derived.Test.YtlinbehijfcelaaGreatDoorPI
import Derived.Test.YtlinbehijfcelaaGreatDoorPJ
set_option linter.unusedVariables false
set_option linter.unusedSimpArgs false
set_option linter.unusedSectionVars false
set_option maxHeartbeats 8000000
set_option maxRecDepth 100000
open List renaming append_assoc->Kv,drop_eq_getElem_cons->Jc,getD_eq_getElem?_getD->Ij,getElem?_eq_getElem->Ig,getElem?_eq_some_iff->Ip,getElem_mem->K8,length_cons->Jz,length_drop->Kk,mem_append->J0,mem_cons->I7,mem_cons_of_mem->Jm,mem_cons_self->JH,mem_singleton->IS,singleton_append->Mj
open Go.Value renaming agg->IA,bool->Iy,int->Ib,ownBlock->IQ,pointer->Iq,slice->Ia
open Go.IntKind renaming i64->Ie
open Go.Proofs.Tryz renaming prog->If
open Option renaming none->Ih,some->Ic
open Go renaming Value->Io,World->Im,heap_alloc_last->Iu,loadVar->Le
open Go.RowKit renaming Below->It
open Nat renaming le_refl->Iz,le_trans->IT,lt_of_lt_of_le->Kw,mul_one->JQ
open Option.some renaming inj->Ii
open Go.Obj renaming cells->Is
open Go.RowKit.Below renaming refl->Il
namespace Go.Proofs.YtlinbehijfcelaaGreatDoor.Top
open Go.RowKit Go.Proofs.YtlinbehijfcelaaGreatDoorW.PrintWords Go.Proofs.YtlinbehijfcelaaGreatDoorW.PrintLast
section
def fg:Kd fi:=Kd.iso (Kd.pair (Kd.int .i64) (Kd.pair (Kd.int .i64) (Kd.pair (Kd.slice 135 fF) (Kd.slice 3 (Kd.int .i64))))) (λx=>(x.op,x.n,x.args,x.outs))
def jj:Kd kO:=Kd.iso (Kd.pair (Kd.int .i64) (Kd.slice 135 fF)) (λx=>(x.at_,x.from_))
theorem fe{q:Nat}(h:q∈145::fg.E):q=145\/q=135\/q=3:=by
 have:145::fg.E=[145,135,3]:=rfl;rw[this]at h;rcases I7.1 h with e|e
 .exact .inl e
 .rcases I7.1 e with e|e
  .exact .inr (.inl e)
  .exact .inr (.inr (IS.1 e))
theorem ky{q:Nat}(h:q∈148::jj.E):q=148\/q=135:=by
 have:148::jj.E=[148,135]:=rfl;rw[this]at h;rcases I7.1 h with e|e
 .exact .inl e
 .exact .inr (IS.1 e)
theorem fm{t q:Nat}(h:q∈t::fF.E):q=t:=IS.1 h
theorem fp{t q:Nat}(h:q∈t::(Kd.int .i64).E):q=t:=IS.1 h
theorem oq{q:Nat}(h:q∈120::np.E):q=120\/q=143\/q=135:=by
 rcases I7.1 h with e|e
 .exact .inl e
 .rcases I7.1 e with e|e
  .exact .inr (.inl e)
  .exact .inr (.inr (IS.1 e))
theorem oo{q:Nat}(h:q∈149::(Kd.slice 151 dw).E):q=149\/q=151:=by
 rcases I7.1 h with e|e
 .exact .inl e
 .exact .inr (IS.1 e)
theorem E6:(If.info? 145).map (λi=>(i.zero,i.size,i.bytes))=Ic (Ic (.agg #[Ib Ie 0,Ib Ie 0,Ia Ih 0 0,Ia Ih 0 0]),4,64):=by kernel_rfl
theorem qE:(If.info? 145).map (·.size)=Ic 4:=by kernel_rfl
theorem E5:(If.info? 148).map (λi=>(i.zero,i.size,i.bytes))=Ic (Ic (.agg #[Ib Ie 0,Ia Ih 0 0]),2,32):=by kernel_rfl
theorem vn:(If.info? 148).map (·.size)=Ic 2:=by kernel_rfl
theorem tH:(If.info? 33).map (·.size)=Ic 3:=by kernel_rfl
structure OfR(w W:Im)(f:List In)(c:List Bool)(S:bj)(F:List (List Src))(cl:List Int)(gm p4 p5 gc go:Nat)(vf:Io)(AN AF AA AW:Option Addr)(cN cF cA cW:Nat):Prop where
 b:It w.heap.size w W
 blk:W.heap[gm]?=Ic (.cells (fk vf (Ia (Ic ⟨gc,0,Ih⟩) f.length f.length) S.entry (Ia AN S.nodes.length cN) (Ia AF S.nodes.length cF) (Ia AA S.nodes.length cA) (Ia AW S.nodes.length cW) (Ia (Ic ⟨go,0,Ih⟩) (S.nodes.length*24) (S.nodes.length*24))).toArray 124 (0,0))
 h4:W.heap[p4]?=Ic (.cells #[Iq (Ic ⟨gm,0,Ih⟩)] 114 (0,0))
 hc:W.heap[gc]?=Ic (.cells (c.map Iy).toArray 4 (0,0))
 ho:W.heap[go]?=Ic (.cells (cl.map (Ib .i64)).toArray 3 (0,0))
 rN:Kd.R dK 142 W w.heap.size (λk=>w.heap.size<=k) (Ia AN S.nodes.length cN) S.nodes
 rF:Kd.R my 143 W w.heap.size (λk=>w.heap.size<=k) (Ia AF S.nodes.length cF) F
 rA:Kd.R np 120 W w.heap.size (λk=>w.heap.size<=k) (Ia AA S.nodes.length cA) (fJ f S)
 rW:Kd.R (Kd.slice 151 dw) 149 W w.heap.size (λk=>w.heap.size<=k) (Ia AW S.nodes.length cW) (a7 S)
section
variable{w W W1:Im}{f:List In}{c:List Bool}{S:bj}{F:List (List Src)}{cl:List Int}{gm p4 p5 gc go:Nat}{vf:Io}{AN AF AA AW:Option Addr}{cN cF cA cW:Nat}
theorem OfR.move(h:OfR w W f c S F cl gm p4 p5 gc go vf AN AF AA AW cN cF cA cW){T:Nat->Prop}(hT:∀k,T k->k<W.heap.size->w.heap.size<=k/\∀(q:Nat) (cells:Array Io),W.heap[k]?=Ic (.cells cells q (0,0))->q=133\/q=33)(hf:Fr T W W1):OfR w W1 f c S F cl gm p4 p5 gc go vf AN AF AA AW cN cF cA cW:=by
 have apart:∀(k u:Nat) (cs:Array Io),W.heap[k]?=Ic (.cells cs u (0,0))->u≠133->u≠33->W1.heap[k]?=Ic (.cells cs u (0,0)):=λk u cs hk h1 h2=>(hf.block k (aj hk) (λe=>by
  rcases(hT k e (aj hk)).2 u cs hk with q|q
  .exact h1 q
  .exact h2 q)).trans hk
 refine⟨Fr.below h.b hf (λk hk q=>?_) h.b.size,apart _ _ _ h.blk (by decide) (by decide),apart _ _ _ h.h4 (by decide) (by decide),apart _ _ _ h.hc (by decide) (by decide),apart _ _ _ h.ho (by decide) (by decide),dy h.rN hf (λk q cells hk hc hq=>?_),dy h.rF hf (λk q cells hk hc hq=>?_),dy h.rA hf (λk q cells hk hc hq=>?_),dy h.rW hf (λk q cells hk hc hq=>?_)⟩
 .have:=(hT k q (Kw hk h.b.size)).1
  omega
 .have h1:=ji hq
  rcases(hT k hk (aj hc)).2 q cells hc with e|e<;>omega
 .have h1:=lO hq
  rcases(hT k hk (aj hc)).2 q cells hc with e|e<;>omega
 .have h1:=oq hq
  rcases(hT k hk (aj hc)).2 q cells hc with e|e<;>omega
 .have h1:=oo hq
  rcases(hT k hk (aj hc)).2 q cells hc with e|e<;>omega
theorem OfR.mkr(h:OfR w W f c S F cl gm p4 p5 gc go vf AN AF AA AW cN cF cA cW):MkR W gm f S F vf (Ia (Ic ⟨gc,0,Ih⟩) f.length f.length) (Ia AN S.nodes.length cN) (Ia (Ic ⟨go,0,Ih⟩) (S.nodes.length*24) (S.nodes.length*24)) AF AA AW cF cA cW:=
 ⟨h.blk,(Kd.R_reads' h.rF).1▸(Kd.R_reads' h.rF).2.2,(Kd.R_reads' h.rA).1▸(Kd.R_reads' h.rA).2.2,(Kd.R_reads' h.rW).1▸(Kd.R_reads' h.rW).2.2⟩
end
theorem OfR.node{w W:Im}{f:List In}{c:List Bool}{S:bj}{F:List (List Src)}{cl:List Int}{gm p4 p5 gc go:Nat}{vf:Io}{AN AF AA AW:Option Addr}{cN cF cA cW:Nat}(h:OfR w W f c S F cl gm p4 p5 gc go vf AN AF AA AW cN cF cA cW){T:Nat->Prop}(hT:∀k,T k->k<W.heap.size->w.heap.size<=k/\∀(q:Nat) (cells:Array Io),W.heap[k]?=Ic (.cells cells q (0,0))->q=133\/q=33){n:Nat}{x:aG}(hx:S.nodes[n]?=Ic x) :
  ∃gN AO cO,AN=Ic ⟨gN,0,Ih⟩/\∀W1,Fr T W W1->(Le 142 ⟨gN,n*2,Ih⟩).run If W1=.ok (IA #[Ib Ie x.at_,Ia AO x.outs.length cO]) W1/\Kd.C rI W1 AO x.outs.length x.outs:=by
 have hn:=(Ip.1 hx).1;obtain⟨gN,cap,he,_,_,cs,hcs⟩:=Kd.R_form h.rN (by omega);injection he with he1 he2 he3
 subst he1;obtain⟨c0,hl0,hK0,hc0⟩:=l_ h.rN n x hx;obtain⟨v0,rfl,A0,d0,rfl,hlo,hC0⟩:=gD hK0;refine⟨gN,A0,d0,rfl,λW1 hf=>?_⟩;have hO:=h.move hT hf;obtain⟨c1,hl1,hK1,hc1⟩:=l_ hO.rN n x hx;obtain⟨v1,rfl,A1,d1,rfl,_,hC1⟩:=gD hK1;have hnt:¬T gN:=λe=>by
  rcases(hT gN e (aj hcs)).2 142 cs hcs with q|q
  .exact absurd q (by decide)
  .exact absurd q (by decide)
 have e0:=hf.cell_at (hc0 1 _ rfl) (show ¬T gN from hnt);have e1:=hc1 1 _ rfl;rw[e0]at e1;obtain⟨rfl,rfl⟩:A0=A1/\d0=d1:=by
  have e2:=Ii e1;simp only[Ia.injEq,true_and]at e2;exact e2
 refine⟨?_,hC1⟩;exact qy W1 ⟨gN,n*2,Ih⟩ 142 [Ib Ie x.at_,Ia A0 x.outs.length d0] _ (λj v hj=>by
  have:=hc1 j v hj;rw[show n*dK.sz+j=n*2+j from rfl,<-zV,<-ic,zV]at this;exact this) Tryz.underlying142 rfl lE
def OfS(gmap p6 g8:Nat)(k:Nat):Prop:=k=gmap\/k=p6\/k=g8
structure YSt(Wm W:Im)(p4 p5 p6 gm gmap go g8 g11:Nat)(cl:List Int)(en op n:Int)(vMet vArgs vOuts vNodes:Io)(m:dl)(args:List Src)(outs:List Int)(nodes:List fi):Prop where
 fr:Fr (OfS gmap p6 g8) Wm W
 sr:ig W Wm.heap.size p4 p5 p6 gm gmap go cl vMet m
 h8:W.heap[g8]?=Ic (.cells #[Ib Ie en,vNodes,Ia Ih 0 0] 33 (0,0))
 hy:W.heap[g11]?=Ic (.cells #[Ib Ie op,Ib Ie n,vArgs,vOuts] 145 (0,0))
 lo:Wm.heap.size<=g11
 rn:Kd.R fg 145 W Wm.heap.size (λj=>((Wm.heap.size<=j/\j≠g11)/\Ic j≠vArgs.ownBlock)/\Ic j≠vOuts.ownBlock) vNodes nodes
 ra:Kd.R fF 135 W Wm.heap.size (λj=>Wm.heap.size<=j) vArgs args
 ro:Kd.R (Kd.int .i64) 3 W Wm.heap.size (λj=>Wm.heap.size<=j) vOuts outs
 l8:g8<Wm.heap.size
 lg:go<Wm.heap.size
structure ZSt(Wm W:Im)(p4 p5 p6 gm gmap go g8:Nat)(cl:List Int)(en:Int)(vMet vNodes:Io)(m:dl)(nodes:List fi):Prop where
 fr:Fr (OfS gmap p6 g8) Wm W
 sr:ig W Wm.heap.size p4 p5 p6 gm gmap go cl vMet m
 h8:W.heap[g8]?=Ic (.cells #[Ib Ie en,vNodes,Ia Ih 0 0] 33 (0,0))
 rn:Kd.R fg 145 W Wm.heap.size (λj=>Wm.heap.size<=j) vNodes nodes
 l8:g8<Wm.heap.size
 lg:go<Wm.heap.size
section
variable{Wm W W1 W2:Im}{p4 p5 p6 gm gmap go g8 g11:Nat}{cl:List Int}{en op n:Int}{vMet vArgs vOuts vNodes:Io}{m:dl}{args:List Src}{outs:List Int}{nodes:List fi}
theorem YSt.below(h:YSt Wm W p4 p5 p6 gm gmap go g8 g11 cl en op n vMet vArgs vOuts vNodes m args outs nodes)(hb:It W.heap.size W W1):YSt Wm W1 p4 p5 p6 gm gmap go g8 g11 cl en op n vMet vArgs vOuts vNodes m args outs nodes:=
 ⟨h.fr.trans (Fr.of_below hb),h.sr.below hb,ag h.h8 hb,ag h.hy hb,h.lo,Kd.R_below h.rn hb,Kd.R_below h.ra hb,Kd.R_below h.ro hb,h.l8,h.lg⟩
theorem ZSt.below(h:ZSt Wm W p4 p5 p6 gm gmap go g8 cl en vMet vNodes m nodes)(hb:It W.heap.size W W1):ZSt Wm W1 p4 p5 p6 gm gmap go g8 cl en vMet vNodes m nodes:=
 ⟨h.fr.trans (Fr.of_below hb),h.sr.below hb,ag h.h8 hb,Kd.R_below h.rn hb,h.l8,h.lg⟩
theorem ZSt.open_(h:ZSt Wm W p4 p5 p6 gm gmap go g8 cl en vMet vNodes m nodes):YSt Wm (W.alloc (Is #[Ib Ie 0,Ib Ie 0,Ia Ih 0 0,Ia Ih 0 0] 145)) p4 p5 p6 gm gmap go g8 W.heap.size cl en 0 0 vMet (Ia Ih 0 0) (Ia Ih 0 0) vNodes m [] [] nodes:=
 have hb:=ae (Il W.heap.size W) (Is #[Ib Ie 0,Ib Ie 0,Ia Ih 0 0,Ia Ih 0 0] 145)
 ⟨h.fr.trans (Fr.of_below hb),h.sr.below hb,ag h.h8 hb,Iu W _,h.fr.size,Kd.R_mono (Kd.R_below (Kd.R_elderB h.rn W.heap.size (Iz _)) hb) (λk hk=>⟨⟨hk,by simp[IQ]⟩,by simp[IQ]⟩),Kd.R_nil _ _ _ _ _,Kd.R_nil _ _ _ _ _,h.l8,h.lg⟩
theorem YSt.src(h:YSt Wm W p4 p5 p6 gm gmap go g8 g11 cl en op n vMet vArgs vOuts vNodes m args outs nodes){v1:Io}{m1:dl}(hs:ig W1 Wm.heap.size p4 p5 p6 gm gmap go cl v1 m1)(hf:Fr (SrS gmap p6 vMet) W W1):YSt Wm W1 p4 p5 p6 gm gmap go g8 g11 cl en op n v1 vArgs vOuts vNodes m1 args outs nodes:=by
 refine⟨?_,hs,h.sr.keep hf h.h8 (by decide) (by decide),h.sr.keep hf h.hy (by decide) (by decide),h.lo,h.sr.keepR hf h.rn (λq hq=>by have:=fe hq;omega),h.sr.keepR hf h.ra (λq hq=>by have:=fm hq;omega),h.sr.keepR hf h.ro (λq hq=>by have:=fp hq;omega),h.l8,h.lg⟩;refine⟨hf.os.trans h.fr.os,hf.tape.trans h.fr.tape,hf.output.trans h.fr.output,IT h.fr.size hf.size,λk hk hn=>?_⟩;refine(hf.block k (Kw hk h.fr.size) (λe=>?_)).trans (h.fr.block k hk hn);rcases e with e|e|e
 .exact hn (.inl e)
 .exact hn (.inr (.inl e))
 .have:=Kd.R_base h.sr.r k e.symm
  omega
theorem YSt.frW(h:YSt Wm W p4 p5 p6 gm gmap go g8 g11 cl en op n vMet vArgs vOuts vNodes m args outs nodes){S:Nat->Prop}(hf:Fr S W W1)(hS:∀k,S k->Wm.heap.size<=k):Fr (OfS gmap p6 g8) Wm W1:=
 ⟨hf.os.trans h.fr.os,hf.tape.trans h.fr.tape,hf.output.trans h.fr.output,IT h.fr.size hf.size,λk hk hn=>(hf.block k (Kw hk h.fr.size) (λe=>by have:=hS k e;omega)).trans (h.fr.block k hk hn)⟩
theorem YSt.set(h:YSt Wm W p4 p5 p6 gm gmap go g8 g11 cl en op n vMet vArgs vOuts vNodes m args outs nodes)(i:Nat)(v:Io)(op' n':Int)(hv:[Ib .i64 op,Ib Ie n,vArgs,vOuts].set i v=[Ib .i64 op',Ib Ie n',vArgs,vOuts]):YSt Wm (W.setCell ⟨g11,i,Ih⟩ v) p4 p5 p6 gm gmap go g8 g11 cl en op' n' vMet vArgs vOuts vNodes m args outs nodes:=by
 have hf:Fr (λk=>k=g11) W (W.setCell ⟨g11,i,Ih⟩ v):=Fr.cell (S:=λk=>k=g11) (p:=⟨g11,i,Ih⟩) rfl _;have hlo:=h.lo;have hl8:=h.l8;have hlg:=h.lg;refine⟨h.frW hf (λk hk=>by omega),h.sr.farS (λk hk _=>?_) hf,bp h.h8 (p:=⟨g11,i,Ih⟩) (by show g8≠g11;omega) _,?_,h.lo,Kd.R_far h.rn (p:=⟨g11,i,Ih⟩) (λk hk=>hk.1.1.2) _,Kd.R_set h.ra h.hy (λq hq=>by have:=fm hq;omega) i _,Kd.R_set h.ro h.hy (λq hq=>by have:=fp hq;omega) i _,h.l8,h.lg⟩
 .obtain rfl:k=g11:=hk
  exact⟨by omega,_,145,h.hy,by decide,by decide,by decide,by decide,by decide⟩
 .have:=aR (L:=[_,_,_,_]) h.hy i v
  rw[hv]at this;exact this
theorem YSt.arg(h:YSt Wm W p4 p5 p6 gm gmap go g8 g11 cl en op n vMet vArgs vOuts vNodes m args outs nodes){v1:Io}{x:Src}(hR:Kd.R fF 135 W1 Wm.heap.size (λj=>Wm.heap.size<=j) v1 (args++[x]))(hg:W.grownBy W1 vArgs.ownBlock)(hat:v1.ownBlock=vArgs.ownBlock\/∃b,v1.ownBlock=Ic b/\W.heap.size<=b):YSt Wm (W1.setCell ⟨g11,2,Ih⟩ v1) p4 p5 p6 gm gmap go g8 g11 cl en op n vMet v1 vOuts vNodes m (args++[x]) outs nodes:=by
 have hlo:=h.lo;have hl8:=h.l8;have hlg:=h.lg;have hb:∀k,Ic k=vArgs.ownBlock->Wm.heap.size<=k:=λk e=>Kd.R_base h.ra k e.symm;have hf1:Fr (λk=>Ic k=vArgs.ownBlock) W W1:=Fr.grown hg (λk e=>e);have hn8:Ic g8≠vArgs.ownBlock:=λe=>by have:=hb g8 e;omega
 have hn11:Ic g11≠vArgs.ownBlock:=Kd.R_ne h.ra h.hy (by decide);have hy1:=(hg.block g11 (aj h.hy) hn11).trans h.hy;have hf2:Fr (λk=>k=g11) W1 (W1.setCell ⟨g11,2,Ih⟩ v1):=Fr.cell (S:=λk=>k=g11) (p:=⟨g11,2,Ih⟩) rfl _;have hf:Fr (λk=>Ic k=vArgs.ownBlock\/k=g11) W (W1.setCell ⟨g11,2,Ih⟩ v1):=(hf1.mono (λk _ e=>.inl e)).trans (hf2.mono (λk _ e=>.inr e));have ro1:=Kd.R_over' h.ro (λk hk=>Kd.R_typed h.ra k hk) (λq hq=>by have:=fp hq;omega) hg;have rn1:Kd.R fg 145 W1 Wm.heap.size (λj=>((Wm.heap.size<=j/\j≠g11)/\Ic j≠vOuts.ownBlock)/\Ic j≠v1.ownBlock) vNodes nodes:=Kd.R_after (Kd.R_mono h.rn (λk hk=>⟨⟨hk.1.1,hk.2⟩,hk.1.2⟩)) hg hat;refine⟨h.frW hf (λk hk=>?_),h.sr.farS (λk hk _=>?_) hf,bp ((hg.block g8 (aj h.h8) hn8).trans h.h8) (p:=⟨g11,2,Ih⟩) (by show g8≠g11;omega) _,aR (L:=[_,_,_,_]) hy1 2 _,h.lo,?_,Kd.R_set hR hy1 (λq hq=>by have:=fm hq;omega) 2 _,Kd.R_set ro1 hy1 (λq hq=>by have:=fp hq;omega) 2 _,h.l8,h.lg⟩
 .rcases hk with e|e
  .exact hb k e
  .omega
 .rcases hk with e|e
  .obtain⟨cs,hcs⟩:=Kd.R_typed h.ra k e.symm
   exact⟨by have:=hb k e;omega,cs,135,hcs,by decide,by decide,by decide,by decide,by decide⟩
  .subst e
   exact⟨by omega,_,145,h.hy,by decide,by decide,by decide,by decide,by decide⟩
 .exact Kd.R_mono (Kd.R_far rn1 (p:=⟨g11,2,Ih⟩) (λk hk=>hk.1.1.2) _) (λk hk=>⟨⟨hk.1.1,hk.2⟩,hk.1.2⟩)
theorem YSt.out(h:YSt Wm W p4 p5 p6 gm gmap go g8 g11 cl en op n vMet vArgs vOuts vNodes m args outs nodes){v1:Io}{x:Int}(hR:Kd.R (Kd.int .i64) 3 W1 Wm.heap.size (λj=>Wm.heap.size<=j) v1 (outs++[x]))(hg:W.grownBy W1 vOuts.ownBlock)(hat:v1.ownBlock=vOuts.ownBlock\/∃b,v1.ownBlock=Ic b/\W.heap.size<=b):YSt Wm (W1.setCell ⟨g11,3,Ih⟩ v1) p4 p5 p6 gm gmap go g8 g11 cl en op n vMet vArgs v1 vNodes m args (outs++[x]) nodes:=by
 have hlo:=h.lo;have hl8:=h.l8;have hlg:=h.lg;have hb:∀k,Ic k=vOuts.ownBlock->Wm.heap.size<=k:=λk e=>Kd.R_base h.ro k e.symm;have hf1:Fr (λk=>Ic k=vOuts.ownBlock) W W1:=Fr.grown hg (λk e=>e);have hn8:Ic g8≠vOuts.ownBlock:=λe=>by have:=hb g8 e;omega
 have hn11:Ic g11≠vOuts.ownBlock:=Kd.R_ne h.ro h.hy (by decide);have hy1:=(hg.block g11 (aj h.hy) hn11).trans h.hy;have hf2:Fr (λk=>k=g11) W1 (W1.setCell ⟨g11,3,Ih⟩ v1):=Fr.cell (S:=λk=>k=g11) (p:=⟨g11,3,Ih⟩) rfl _;have hf:Fr (λk=>Ic k=vOuts.ownBlock\/k=g11) W (W1.setCell ⟨g11,3,Ih⟩ v1):=(hf1.mono (λk _ e=>.inl e)).trans (hf2.mono (λk _ e=>.inr e));have ra1:=Kd.R_over' h.ra (λk hk=>Kd.R_typed h.ro k hk) (λq hq=>by have:=fm hq;omega) hg;have rn1:Kd.R fg 145 W1 Wm.heap.size (λj=>((Wm.heap.size<=j/\j≠g11)/\Ic j≠vArgs.ownBlock)/\Ic j≠v1.ownBlock) vNodes nodes:=Kd.R_after h.rn hg hat;refine⟨h.frW hf (λk hk=>?_),h.sr.farS (λk hk _=>?_) hf,bp ((hg.block g8 (aj h.h8) hn8).trans h.h8) (p:=⟨g11,3,Ih⟩) (by show g8≠g11;omega) _,aR (L:=[_,_,_,_]) hy1 3 _,h.lo,Kd.R_far rn1 (p:=⟨g11,3,Ih⟩) (λk hk=>hk.1.1.2) _,Kd.R_set ra1 hy1 (λq hq=>by have:=fm hq;omega) 3 _,Kd.R_set hR hy1 (λq hq=>by have:=fp hq;omega) 3 _,h.l8,h.lg⟩
 .rcases hk with e|e
  .exact hb k e
  .omega
 .rcases hk with e|e
  .obtain⟨cs,hcs⟩:=Kd.R_typed h.ro k e.symm
   exact⟨by have:=hb k e;omega,cs,3,hcs,by decide,by decide,by decide,by decide,by decide⟩
  .subst e
   exact⟨by omega,_,145,h.hy,by decide,by decide,by decide,by decide,by decide⟩
theorem YSt.rowM(h:YSt Wm W p4 p5 p6 gm gmap go g8 g11 cl en op n vMet vArgs vOuts vNodes m args outs nodes):fg.M W Wm.heap.size (λj=>Wm.heap.size<=j/\Ic j≠vNodes.ownBlock) ⟨op,n,args,outs⟩ [Ib Ie op,Ib Ie n,vArgs,vOuts]:=
 ⟨[Ib Ie op],[Ib Ie n,vArgs,vOuts],rfl,rfl,[Ib Ie n],[vArgs,vOuts],rfl,rfl,[vArgs],[vOuts],rfl,⟨vArgs,rfl,Kd.R_apartR h.ra h.rn (λq hq=>by have:=fm hq;omega)⟩,vOuts,rfl,Kd.R_apartR h.ro h.rn (λq hq=>by have:=fp hq;omega)⟩
theorem YSt.rows(h:YSt Wm W p4 p5 p6 gm gmap go g8 g11 cl en op n vMet vArgs vOuts vNodes m args outs nodes):Kd.R fg 145 W Wm.heap.size (λj=>Wm.heap.size<=j) vNodes nodes:=Kd.R_mono h.rn (λk hk=>hk.1.1.1)
theorem YSt.close(h:YSt Wm W p4 p5 p6 gm gmap go g8 g11 cl en op n vMet vArgs vOuts vNodes m args outs nodes){v1:Io}{xs:List fi}(hR:Kd.R fg 145 W1 Wm.heap.size (λj=>Wm.heap.size<=j) v1 xs)(hg:W.grownBy W1 vNodes.ownBlock):ZSt Wm (W1.setCell ⟨g8,1,Ih⟩ v1) p4 p5 p6 gm gmap go g8 cl en vMet v1 m xs:=by
 have hl8:=h.l8;have hlg:=h.lg;have hb:∀k,Ic k=vNodes.ownBlock->Wm.heap.size<=k:=λk e=>Kd.R_base h.rn k e.symm;have hf1:Fr (λk=>Ic k=vNodes.ownBlock) W W1:=Fr.grown hg (λk e=>e);have hn8:Ic g8≠vNodes.ownBlock:=λe=>by have:=hb g8 e;omega
 have h81:=(hg.block g8 (aj h.h8) hn8).trans h.h8;have hf2:Fr (λk=>k=g8) W1 (W1.setCell ⟨g8,1,Ih⟩ v1):=Fr.cell (S:=λk=>k=g8) (p:=⟨g8,1,Ih⟩) rfl _;have hf:Fr (λk=>Ic k=vNodes.ownBlock\/k=g8) W (W1.setCell ⟨g8,1,Ih⟩ v1):=(hf1.mono (λk _ e=>.inl e)).trans (hf2.mono (λk _ e=>.inr e));refine⟨⟨hf.os.trans h.fr.os,hf.tape.trans h.fr.tape,hf.output.trans h.fr.output,IT h.fr.size hf.size,λk hk hn=>?_⟩,h.sr.farS (λk hk _=>?_) hf,aR (L:=[_,_,_]) h81 1 _,Kd.R_set hR h81 (λq hq=>by have:=fe hq;omega) 1 _,h.l8,h.lg⟩
 .refine(hf.block k (Kw hk h.fr.size) (λe=>?_)).trans (h.fr.block k hk hn)
  rcases e with e|e
  .have:=hb k e;omega
  .exact hn (.inr (.inr e))
 .rcases hk with e|e
  .obtain⟨cs,hcs⟩:=Kd.R_typed h.rn k e.symm
   exact⟨by have:=hb k e;omega,cs,145,hcs,by decide,by decide,by decide,by decide,by decide⟩
  .subst e
   refine⟨λe=>?_,_,33,h.h8,by decide,by decide,by decide,by decide,by decide⟩;have h1:=h.sr.ho;rw[<-e,h.h8]at h1;simp at h1
end
end
section
def PIn(N:Nat)(m:dl):Prop:=∀p∈m.ps,0<=p.1/\p.1<(N:Int)/\0<=p.2/\p.2<24
theorem PIn.src{N:Nat}{m:dl}(h:PIn N m)(cl:List Int)(n:Int)(x:Src)(hx:x.kind=4->0<=n/\n<(N:Int)/\0<=x.n/\x.n<24):PIn N (eK cl n x m).2:=by
 unfold eK;split
 .rename_i hk
  unfold dl.add;split
  .exact h
  .intro p hp
   rcases J0.1 hp with q|q
   .exact h p q
   .obtain rfl:=IS.1 q
    exact hx hk
 .exact h
section
variable{f:List In}{c:List Bool}{S:bj}{F:List (List Src)}
theorem Bg(hP:NPl f c S F)(cl:List Int){n:Nat}(hn:n<S.nodes.length):∀(ls:List Int) (m:dl),(∀l∈ls,0<=l/\l<24)->PIn S.nodes.length m->PIn S.nodes.length (dH cl F n ls m).2
 | [],m,_,h=>h
 |l::ls,m,hl,h=>by
  have h1:=hl l (JH ..);refine Bg hP cl hn ls _ (λq hq=>hl q (Jm _ hq)) (h.src cl n _ λhk=>?_);rcases hP.fact hn (show l.toNat<24 by omega)with q|q|q|q
  .rw[q]
   exact⟨by omega,by omega,by show(0:Int)<=(l.toNat:Int);omega,by show(l.toNat:Int)<24;omega⟩
  .rw[q]at hk;exact absurd hk (by decide)
  .rw[q]at hk;exact absurd hk (by decide)
  .rw[q]at hk;exact absurd hk (by decide)
theorem uQ(hP:NPl f c S F)(cl:List Int):∀(xs:List aG) (n:Nat) (m:dl),xs=S.nodes.drop n->PIn S.nodes.length m->PIn S.nodes.length (dp f c cl F xs n m).2
 | [],_,m,_,h=>h
 |x::xs,n,m,hx,h=>by
  have hn:n<S.nodes.length:=by
   have:=congrArg List.length hx;rw[Kk,Jz]at this;omega
  rw[Jc hn]at hx;injection hx with hx1 hx2
  refine uQ hP cl xs (n+1) _ hx2 ?_;rw[oc];unfold m9;split
  .exact h
  .refine Bg hP cl hn _ _ (λl hl=>?_) h
   have hm:x∈S.nodes:=by rw[hx1];exact K8 hn
   have ha:=hP.nok.at_ x hm;have hlt:x.at_.toNat<f.length:=by omega
   rw[Ij,Ig hlt]at hl;exact pc ((bu hP.r).ok _ _ (Ig hlt)) l hl
theorem Ae(hP:NPl f c S F)(cl:List Int){n l:Nat}(hl:l<24){ws:List bV}(hw:(a7 S)[n]?=Ic ws):∀(es:List bV) (m:dl),(∀e∈es,e∈ws)->PIn S.nodes.length m->PIn S.nodes.length (dL f S F cl l es m).2
 | [],m,_,h=>h
 |e::es,m,he,h=>Ae hP cl hl hw es _ (λq hq=>he q (Jm _ hq)) (h.src cl e.1 _ (hP.src hw (he e (JH ..)) hl rfl).2.2)
end
theorem t_{f:List In}{S:bj}{F:List (List Src)}{cl:List Int}{k i:Nat}{m:dl}{p:Int×Int}(hp:m.ps[i]?=Ic p)(xs:List kO):xs++fx f S F cl (k+1) i m=(xs++[⟨p.1,(dL f S F cl p.2.toNat ((a7 S).getD p.1.toNat []) m).1⟩])++fx f S F cl k (i+1) (dL f S F cl p.2.toNat ((a7 S).getD p.1.toNat []) m).2:=by
 rw[fx,hp];simp only[Kv,Mj]
theorem ua{f:List In}{S:bj}{F:List (List Src)}{cl:List Int}{k i:Nat}{m:dl}(hp:m.ps[i]?=Ih):fx f S F cl (k+1) i m=[]:=by rw[fx,hp]
structure XSt(Wm W:Im)(p4 p5 p6 gm gmap go g8:Nat)(cl:List Int)(en:Int)(vMet vNodes vVals:Io)(m:dl)(nodes:List fi)(vals:List kO):Prop where
 fr:Fr (OfS gmap p6 g8) Wm W
 sr:ig W Wm.heap.size p4 p5 p6 gm gmap go cl vMet m
 h8:W.heap[g8]?=Ic (.cells #[Ib Ie en,vNodes,vVals] 33 (0,0))
 rn:Kd.R fg 145 W Wm.heap.size (λj=>Wm.heap.size<=j) vNodes nodes
 rv:Kd.R jj 148 W Wm.heap.size (λj=>Wm.heap.size<=j) vVals vals
 l8:g8<Wm.heap.size
 lg:go<Wm.heap.size
structure VSt(Wm W:Im)(p4 p5 p6 gm gmap go g8 g19:Nat)(cl:List Int)(en at_:Int)(vMet vFrom vNodes vVals:Io)(m:dl)(fs:List Src)(nodes:List fi)(vals:List kO):Prop where
 fr:Fr (OfS gmap p6 g8) Wm W
 sr:ig W Wm.heap.size p4 p5 p6 gm gmap go cl vMet m
 h8:W.heap[g8]?=Ic (.cells #[Ib Ie en,vNodes,vVals] 33 (0,0))
 hv:W.heap[g19]?=Ic (.cells #[Ib Ie at_,vFrom] 148 (0,0))
 lo:Wm.heap.size<=g19
 rn:Kd.R fg 145 W Wm.heap.size (λj=>(Wm.heap.size<=j/\j≠g19)/\Ic j≠vFrom.ownBlock) vNodes nodes
 rv:Kd.R jj 148 W Wm.heap.size (λj=>(Wm.heap.size<=j/\j≠g19)/\Ic j≠vFrom.ownBlock) vVals vals
 ra:Kd.R fF 135 W Wm.heap.size (λj=>Wm.heap.size<=j) vFrom fs
 l8:g8<Wm.heap.size
 lg:go<Wm.heap.size
section
variable{Wm W W1 W2:Im}{p4 p5 p6 gm gmap go g8 g19:Nat}{cl:List Int}{en at_:Int}{vMet vFrom vNodes vVals:Io}{m:dl}{fs:List Src}{nodes:List fi}{vals:List kO}
theorem ZSt.toX(h:ZSt Wm W p4 p5 p6 gm gmap go g8 cl en vMet vNodes m nodes):XSt Wm W p4 p5 p6 gm gmap go g8 cl en vMet vNodes (Ia Ih 0 0) m nodes []:=⟨h.fr,h.sr,h.h8,h.rn,Kd.R_nil _ _ _ _ _,h.l8,h.lg⟩
theorem XSt.below(h:XSt Wm W p4 p5 p6 gm gmap go g8 cl en vMet vNodes vVals m nodes vals)(hb:It W.heap.size W W1):XSt Wm W1 p4 p5 p6 gm gmap go g8 cl en vMet vNodes vVals m nodes vals:=
 ⟨h.fr.trans (Fr.of_below hb),h.sr.below hb,ag h.h8 hb,Kd.R_below h.rn hb,Kd.R_below h.rv hb,h.l8,h.lg⟩
theorem VSt.below(h:VSt Wm W p4 p5 p6 gm gmap go g8 g19 cl en at_ vMet vFrom vNodes vVals m fs nodes vals)(hb:It W.heap.size W W1):VSt Wm W1 p4 p5 p6 gm gmap go g8 g19 cl en at_ vMet vFrom vNodes vVals m fs nodes vals:=
 ⟨h.fr.trans (Fr.of_below hb),h.sr.below hb,ag h.h8 hb,ag h.hv hb,h.lo,Kd.R_below h.rn hb,Kd.R_below h.rv hb,Kd.R_below h.ra hb,h.l8,h.lg⟩
theorem XSt.open_(h:XSt Wm W p4 p5 p6 gm gmap go g8 cl en vMet vNodes vVals m nodes vals)(at_:Int):VSt Wm (W.alloc (Is #[Ib Ie at_,Ia Ih 0 0] 148)) p4 p5 p6 gm gmap go g8 W.heap.size cl en at_ vMet (Ia Ih 0 0) vNodes vVals m [] nodes vals:=
 have hb:=ae (Il W.heap.size W) (Is #[Ib Ie at_,Ia Ih 0 0] 148)
 ⟨h.fr.trans (Fr.of_below hb),h.sr.below hb,ag h.h8 hb,Iu W _,h.fr.size,Kd.R_mono (Kd.R_below (Kd.R_elderB h.rn W.heap.size (Iz _)) hb) (λk hk=>⟨hk,by simp[IQ]⟩),Kd.R_mono (Kd.R_below (Kd.R_elderB h.rv W.heap.size (Iz _)) hb) (λk hk=>⟨hk,by simp[IQ]⟩),Kd.R_nil _ _ _ _ _,h.l8,h.lg⟩
theorem VSt.src(h:VSt Wm W p4 p5 p6 gm gmap go g8 g19 cl en at_ vMet vFrom vNodes vVals m fs nodes vals){v1:Io}{m1:dl}(hs:ig W1 Wm.heap.size p4 p5 p6 gm gmap go cl v1 m1)(hf:Fr (SrS gmap p6 vMet) W W1):VSt Wm W1 p4 p5 p6 gm gmap go g8 g19 cl en at_ v1 vFrom vNodes vVals m1 fs nodes vals:=by
 refine⟨?_,hs,h.sr.keep hf h.h8 (by decide) (by decide),h.sr.keep hf h.hv (by decide) (by decide),h.lo,h.sr.keepR hf h.rn (λq hq=>by have:=fe hq;omega),h.sr.keepR hf h.rv (λq hq=>by have:=ky hq;omega),h.sr.keepR hf h.ra (λq hq=>by have:=fm hq;omega),h.l8,h.lg⟩;refine⟨hf.os.trans h.fr.os,hf.tape.trans h.fr.tape,hf.output.trans h.fr.output,IT h.fr.size hf.size,λk hk hn=>?_⟩;refine(hf.block k (Kw hk h.fr.size) (λe=>?_)).trans (h.fr.block k hk hn);rcases e with e|e|e
 .exact hn (.inl e)
 .exact hn (.inr (.inl e))
 .have:=Kd.R_base h.sr.r k e.symm
  omega
theorem VSt.frW(h:VSt Wm W p4 p5 p6 gm gmap go g8 g19 cl en at_ vMet vFrom vNodes vVals m fs nodes vals){S:Nat->Prop}(hf:Fr S W W1)(hS:∀k,S k->Wm.heap.size<=k):Fr (OfS gmap p6 g8) Wm W1:=
 ⟨hf.os.trans h.fr.os,hf.tape.trans h.fr.tape,hf.output.trans h.fr.output,IT h.fr.size hf.size,λk hk hn=>(hf.block k (Kw hk h.fr.size) (λe=>by have:=hS k e;omega)).trans (h.fr.block k hk hn)⟩
theorem VSt.arg(h:VSt Wm W p4 p5 p6 gm gmap go g8 g19 cl en at_ vMet vFrom vNodes vVals m fs nodes vals){v1:Io}{x:Src}(hR:Kd.R fF 135 W1 Wm.heap.size (λj=>Wm.heap.size<=j) v1 (fs++[x]))(hg:W.grownBy W1 vFrom.ownBlock)(hat:v1.ownBlock=vFrom.ownBlock\/∃b,v1.ownBlock=Ic b/\W.heap.size<=b):VSt Wm (W1.setCell ⟨g19,1,Ih⟩ v1) p4 p5 p6 gm gmap go g8 g19 cl en at_ vMet v1 vNodes vVals m (fs++[x]) nodes vals:=by
 have hlo:=h.lo;have hl8:=h.l8;have hlg:=h.lg;have hb:∀k,Ic k=vFrom.ownBlock->Wm.heap.size<=k:=λk e=>Kd.R_base h.ra k e.symm;have hf1:Fr (λk=>Ic k=vFrom.ownBlock) W W1:=Fr.grown hg (λk e=>e);have hn8:Ic g8≠vFrom.ownBlock:=λe=>by have:=hb g8 e;omega
 have hn11:Ic g19≠vFrom.ownBlock:=Kd.R_ne h.ra h.hv (by decide);have hy1:=(hg.block g19 (aj h.hv) hn11).trans h.hv;have hf2:Fr (λk=>k=g19) W1 (W1.setCell ⟨g19,1,Ih⟩ v1):=Fr.cell (S:=λk=>k=g19) (p:=⟨g19,1,Ih⟩) rfl _;have hf:Fr (λk=>Ic k=vFrom.ownBlock\/k=g19) W (W1.setCell ⟨g19,1,Ih⟩ v1):=(hf1.mono (λk _ e=>.inl e)).trans (hf2.mono (λk _ e=>.inr e));refine⟨h.frW hf (λk hk=>?_),h.sr.farS (λk hk _=>?_) hf,bp ((hg.block g8 (aj h.h8) hn8).trans h.h8) (p:=⟨g19,1,Ih⟩) (by show g8≠g19;omega) _,aR (L:=[_,_]) hy1 1 _,h.lo,Kd.R_far (Kd.R_after h.rn hg hat) (p:=⟨g19,1,Ih⟩) (λk hk=>hk.1.2) _,Kd.R_far (Kd.R_after h.rv hg hat) (p:=⟨g19,1,Ih⟩) (λk hk=>hk.1.2) _,Kd.R_set hR hy1 (λq hq=>by have:=fm hq;omega) 1 _,h.l8,h.lg⟩
 .rcases hk with e|e
  .exact hb k e
  .omega
 .rcases hk with e|e
  .obtain⟨cs,hcs⟩:=Kd.R_typed h.ra k e.symm
   exact⟨by have:=hb k e;omega,cs,135,hcs,by decide,by decide,by decide,by decide,by decide⟩
  .subst e
   exact⟨by omega,_,148,h.hv,by decide,by decide,by decide,by decide,by decide⟩
theorem VSt.rowM(h:VSt Wm W p4 p5 p6 gm gmap go g8 g19 cl en at_ vMet vFrom vNodes vVals m fs nodes vals):jj.M W Wm.heap.size (λj=>Wm.heap.size<=j/\Ic j≠vVals.ownBlock) ⟨at_,fs⟩ [Ib Ie at_,vFrom]:=
 ⟨[Ib Ie at_],[vFrom],rfl,rfl,vFrom,rfl,Kd.R_apartR h.ra h.rv (λq hq=>by have:=fm hq;omega)⟩
theorem VSt.rows(h:VSt Wm W p4 p5 p6 gm gmap go g8 g19 cl en at_ vMet vFrom vNodes vVals m fs nodes vals):Kd.R jj 148 W Wm.heap.size (λj=>Wm.heap.size<=j) vVals vals:=Kd.R_mono h.rv (λk hk=>hk.1.1)
theorem VSt.close(h:VSt Wm W p4 p5 p6 gm gmap go g8 g19 cl en at_ vMet vFrom vNodes vVals m fs nodes vals){v1:Io}{xs:List kO}(hR:Kd.R jj 148 W1 Wm.heap.size (λj=>Wm.heap.size<=j) v1 xs)(hg:W.grownBy W1 vVals.ownBlock):XSt Wm (W1.setCell ⟨g8,2,Ih⟩ v1) p4 p5 p6 gm gmap go g8 cl en vMet vNodes v1 m nodes xs:=by
 have hl8:=h.l8;have hlg:=h.lg;have hb:∀k,Ic k=vVals.ownBlock->Wm.heap.size<=k:=λk e=>Kd.R_base h.rv k e.symm;have hf1:Fr (λk=>Ic k=vVals.ownBlock) W W1:=Fr.grown hg (λk e=>e);have hn8:Ic g8≠vVals.ownBlock:=λe=>by have:=hb g8 e;omega
 have h81:=(hg.block g8 (aj h.h8) hn8).trans h.h8;have rn1:=Kd.R_over' h.rn (λk hk=>Kd.R_typed h.rv k hk) (λq hq=>by have:=fe hq;omega) hg;have hf2:Fr (λk=>k=g8) W1 (W1.setCell ⟨g8,2,Ih⟩ v1):=Fr.cell (S:=λk=>k=g8) (p:=⟨g8,2,Ih⟩) rfl _;have hf:Fr (λk=>Ic k=vVals.ownBlock\/k=g8) W (W1.setCell ⟨g8,2,Ih⟩ v1):=(hf1.mono (λk _ e=>.inl e)).trans (hf2.mono (λk _ e=>.inr e));refine⟨⟨hf.os.trans h.fr.os,hf.tape.trans h.fr.tape,hf.output.trans h.fr.output,IT h.fr.size hf.size,λk hk hn=>?_⟩,h.sr.farS (λk hk _=>?_) hf,aR (L:=[_,_,_]) h81 2 _,Kd.R_set (Kd.R_mono rn1 (λk hk=>hk.1.1)) h81 (λq hq=>by have:=fe hq;omega) 2 _,Kd.R_set hR h81 (λq hq=>by have:=ky hq;omega) 2 _,h.l8,h.lg⟩
 .refine(hf.block k (Kw hk h.fr.size) (λe=>?_)).trans (h.fr.block k hk hn)
  rcases e with e|e
  .have:=hb k e;omega
  .exact hn (.inr (.inr e))
 .rcases hk with e|e
  .obtain⟨cs,hcs⟩:=Kd.R_typed h.rv k e.symm
   exact⟨by have:=hb k e;omega,cs,148,hcs,by decide,by decide,by decide,by decide,by decide⟩
  .subst e
   refine⟨λe=>?_,_,33,h.h8,by decide,by decide,by decide,by decide,by decide⟩;have h1:=h.sr.ho;rw[<-e,h.h8]at h1;simp at h1
end
theorem OfR.way{w W:Im}{f:List In}{c:List Bool}{S:bj}{F:List (List Src)}{cl:List Int}{gm p4 p5 gc go:Nat}{vf:Io}{AN AF AA AW:Option Addr}{cN cF cA cW:Nat}(h:OfR w W f c S F cl gm p4 p5 gc go vf AN AF AA AW cN cF cA cW){T:Nat->Prop}(hT:∀k,T k->k<W.heap.size->w.heap.size<=k/\∀(q:Nat) (cells:Array Io),W.heap[k]?=Ic (.cells cells q (0,0))->q=133\/q=33){n:Nat}{x:List bV}(hx:(a7 S)[n]?=Ic x) :
  ∃gN AO cO,AW=Ic ⟨gN,0,Ih⟩/\∀W1,Fr T W W1->W1.cell? ⟨gN,n,Ih⟩=Ic (.slice AO x.length cO)/\Kd.C dw W1 AO x.length x:=by
 have hn:=(Ip.1 hx).1;obtain⟨gN,cap,he,_,_,cs,hcs⟩:=Kd.R_form h.rW (by omega);injection he with he1 he2 he3
 subst he1;obtain⟨c0,hl0,hK0,hc0⟩:=l_ h.rW n x hx;obtain⟨A0,d0,rfl,hlo,hC0⟩:=hK0;refine⟨gN,A0,d0,rfl,λW1 hf=>?_⟩;have hO:=h.move hT hf;obtain⟨c1,hl1,hK1,hc1⟩:=l_ hO.rW n x hx;obtain⟨A1,d1,rfl,_,hC1⟩:=hK1;have hnt:¬T gN:=λe=>by
  rcases(hT gN e (aj hcs)).2 149 cs hcs with q|q
  .exact absurd q (by decide)
  .exact absurd q (by decide)
 have e0:=hf.cell_at (hc0 0 _ rfl) (show ¬T gN from hnt);have e1:=hc1 0 _ rfl;rw[e0]at e1;obtain⟨rfl,rfl⟩:A0=A1/\d0=d1:=by
  have e2:=Ii e1;simp only[Ia.injEq,true_and]at e2;exact e2
 refine⟨?_,hC1⟩
 rwa[show n*(Kd.slice 151 dw).sz+0=n from JQ n]at e0
end
end Go.Proofs.YtlinbehijfcelaaGreatDoor.Top
