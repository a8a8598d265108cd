/- Walks of the program, and what it computes, told plainly. No condition. (UG UH UI UJ UK UL UM UN UO UPA UQ) -/
import Derived.Below
import Derived.Deep.Draws
import Derived.Deep.AppendLies
import Derived.Maps.AppendAt
import Derived.OwnWalk
import Derived.Laws.BytesArg
import Derived.Laws.MakeOwn
import Derived.Laws.OwnMore
import Derived.Deep.OwnRows
import Derived.Tactics
import Derived.Lib.ConvBytes
import Derived.Laws.Slices
import Derived.WalkKit
import Derived.KernelRfl
import Derived.RowKit3
import Derived.Deep.LoopGhost
import Derived.Deep.QuietTactic
import Derived.BigQuiet
import Derived.WideLaws
import Derived.Deep.DeepCutAuto
import Derived.Deep.CutBlock
import Derived.Deep.RegionHeld3
import Derived.Laws.Rows
import Derived.Lib.AppendStr
import Derived.ArgAppend
import Derived.Laws.IdiomCopy
import Derived.RowKit
import Derived.OrdersHeld
import Derived.Laws.BitsLemmas
import Derived.Laws.StructEq
import Derived.Test.YtlinbehijfcelaaGreatDoorProg
import Derived.Deep.WholeRow
import Derived.Laws.CopyOwn
import Derived.Carry
import Derived.ChangeKeysEq
import Derived.Laws.RangeAny
import Derived.Deep.MidRow
import Derived.Laws.Tables
import Derived.StillTailTactics
import Derived.Test.YtlinbehijfcelaaGreatDoorPA
import Derived.Test.YtlinbehijfcelaaGreatDoorPB
import Derived.Test.YtlinbehijfcelaaGreatDoorPC
import Derived.Test.YtlinbehijfcelaaGreatDoorPD
import Derived.Test.YtlinbehijfcelaaGreatDoorPE
import Derived.Test.YtlinbehijfcelaaGreatDoorPF
set_option linter.unusedVariables false
set_option linter.unusedSimpArgs false
set_option linter.unusedSectionVars false
set_option maxHeartbeats 8000000
set_option maxRecDepth 100000
open List renaming all_eq_true->Jd,drop_eq_getElem_cons->Jc,drop_of_length_le->Ju,eq_of_mem_replicate->J5,ext_getElem?->JN,foldl_cons->Ml,getD_eq_getElem?_getD->Ij,getElem?_append_left->Jg,getElem?_append_right->IW,getElem?_eq_getElem->Ig,getElem?_eq_none->I0,getElem?_eq_some_iff->Ip,getElem?_map->IK,getElem?_replicate->Ku,getElem?_set_ne->JR,getElem?_set_self->Jw,getElem_mem->K8,length_append->IV,length_cons->Jz,length_map->Jb,length_replicate->JP,length_set->Jq,length_singleton->LU,length_take->Kt,map_append->LY,map_cons->Jt,mem_append->J0,mem_cons->I7,mem_cons_of_mem->Jm,mem_cons_self->JH,mem_map->JM,mem_of_getElem?->Iw,mem_or_eq_of_mem_set->KA,mem_range->Kq,mem_singleton->IS,not_mem_nil->JE,range->Jy,range_succ->Lc,replicate->IF,setIfInBounds_toArray->IP,set_cons_succ->IZ,set_cons_zero->IY,take_length->Kh,take_succ_eq_append_getElem->JC
open Option renaming bind_eq_some_iff->L7,getD_some->JL,none->Ih,some->Ic
open Nat renaming le_of_lt->Mv,le_refl->Iz,le_trans->IT,mul_one->JQ,not_lt_zero->LG,zero_add->KB,zero_le->ID
open Bool renaming eq_iff_iff->L6,false->Ik,noConfusion->Ix,true->Ir
open Option.some renaming inj->Ii
open Int renaming toNat_natCast->IC
open Go.Value renaming agg->IA,bool->Iy,int->Ib,oneCell'->IH,ownBlock->IQ,pointer->Iq,slice->Ia
open Go.IntKind renaming i64->Ie
open Go renaming Calls->I9,Operand->Lf,Program->Jn,TypeId->Je,Value->Io,World->Im,execOp->JJ,heap_alloc_last->Iu,heap_alloc_new->JZ,loadVar->Le,madeCells->Lo,run_underlying->I2,wpList->Kg,wpList_load_row->II,yielded->KH
open Go.Proofs.Tryz renaming prog->If,underlying116->JD,underlying119->KE,underlying135->IN,underlying151->MB,underlying2->Mi,underlying3->Jr,underlying97->Kl,underlying99->IU
open Go.Op renaming eqGuardIn->Ky,equalIn->Jp
open Go.Sem renaming run_bind->IJ,run_pure->JO
open Go.Result renaming andThen->Jf,andThen_ok->I1
open Go.Region renaming wanted->Jk
open Go.RowKit renaming Below->It,intOf->Jj
open Go.Ending renaming returned->Iv
open Go.Obj renaming cells->Is
open Go.RowKit.Below renaming refl->Il
open Go.Act renaming put->KY
open Array renaming getElem?_eq_some_iff->IB
namespace Go.Proofs.YtlinbehijfcelaaGreatDoor.Top
open Go.RowKit Go.Proofs.YtlinbehijfcelaaGreatDoorW.PrintWords Go.Proofs.YtlinbehijfcelaaGreatDoorW.PrintLast
def gI(nodes:List aG)(c0:List Bool):List Bool:=nodes.foldl (λc x=>c.set x.at_.toNat (decide (x.outs.length=0))) c0
theorem qX(nodes:List aG)(c0:List Bool):(gI nodes c0).length=c0.length:=by
 induction nodes generalizing c0 with
 |nil=>rfl
 |cons x l ih=>
  show(gI l _).length=_;rw[ih,Jq]
theorem zK(nodes:List aG)(c0:List Bool)(i:Nat)(h:∀x∈nodes,x.at_.toNat≠i):(gI nodes c0)[i]?=c0[i]?:=by
 induction nodes generalizing c0 with
 |nil=>rfl
 |cons x l ih=>
  show(gI l _)[i]?=_;rw[ih _ (λy hy=>h y (Jm _ hy)),JR (h x (JH ..))]
theorem Cr{nodes:List aG}{c0:List Bool}(hn:(nodes.map aG.at_).Nodup)(h0:∀x∈nodes,0<=x.at_/\x.at_<c0.length){x:aG}(hx:x∈nodes):(gI nodes c0)[x.at_.toNat]?=Ic (decide (x.outs.length=0)):=by
 induction nodes generalizing c0 with
 |nil=>exact absurd hx (JE)
 |cons y l ih=>
  show(gI l _)[x.at_.toNat]?=_;rw[Jt,List.nodup_cons]at hn;rcases I7.1 hx with rfl|hx
  .have hb:=h0 x (JH ..)
   rw[zK,Jw (by omega)];intro z hz he;have hz2:=h0 z (Jm _ hz);refine hn.1 (JM.2 ⟨z,hz,by omega⟩)
  .refine ih hn.2 (λz hz=>?_) hx
   rw[Jq];exact h0 z (Jm _ hz)
theorem Dv{cut:List Bool}{a:Int}{b:Bool}(h0:0<=a)(h:cut[a.toNat]?=Ic b):jn cut a=b:=by
 have hl:=(Ip.1 h).1;unfold jn;rw[Ij,h,decide_eq_true (by omega)];simp
structure jI(nodes:List aG)(n:Nat):Prop where
 fresh:∀(i:Nat) (x:aG),n<=i->nodes[i]?=Ic x->x.outs=[]
theorem rM{f:List In}{nodes:List aG}{n:Nat}(h:jI nodes n)(a:Nat):jI (du f nodes a).2 n:=by
 refine⟨λi x hi hx=>?_⟩;unfold du at hx;simp only at hx;split at hx
 .exact h.fresh i x hi hx
 .split at hx
  .exact h.fresh i x hi hx
  .by_cases hl:i<nodes.length
   .rw[Jg hl]at hx
    exact h.fresh i x hi hx
   .rw[IW (by omega)]at hx
    have:=Iw hx;rw[IS.1 this]
theorem qq{f:List In}{n:Nat}:∀(l:List Int) (nodes:List aG),jI nodes n->jI (bS f l nodes).2 n
 | [],_,h=>h
 |a::l,nodes,h=>by
  simp only[bS];exact qq l _ (rM h a.toNat)
theorem qp(f:List In):∀(l:List Int) (nodes:List aG),(bS f l nodes).1.length=l.length
 | [],_=>rfl
 |a::l,nodes=>by simp only[bS,Jz];rw[qp f l]
theorem yz{f:List In}{cut:List Bool}{n:Nat}{x:aG}{nodes:List aG}(h:jI nodes n):jI (stepN f cut n x nodes) (n+1):=by
 unfold stepN;split
 .exact⟨λi y hi hy=>h.fresh i y (by omega) hy⟩
 .refine⟨λi y hi hy=>?_⟩
  rw[JR (by omega)]at hy;exact(qq _ nodes h).fresh i y (by omega) hy
theorem yy(f:List In)(cut:List Bool)(n:Nat)(x:aG)(nodes:List aG)(i:Nat)(hi:i≠n)(y:aG)(hy:nodes[i]?=Ic y):(stepN f cut n x nodes)[i]?=Ic y:=by
 unfold stepN;split
 .exact hy
 .rw[JR (λe=>hi e.symm)]
  obtain⟨l,hl⟩:=fS f (cL (f.getD x.at_.toNat In.zero) x.at_) nodes;rw[hl,Jg (Ip.1 hy).1];exact hy
theorem oV(f:List In)(cut:List Bool):∀(fuel n:Nat) (nodes:List aG) (i:Nat) (y:aG),i<n->nodes[i]?=Ic y->(bI f cut fuel n nodes)[i]?=Ic y
 |0,_,_,_,_,_,h=>h
 |fuel+1,n,nodes,i,y,hi,h=>by
  unfold bI;split
  .exact h
  .exact oV f cut fuel (n+1) _ i y (by omega) (yy f cut n _ nodes i (by omega) y h)
theorem CT(f:List In)(cut:List Bool)(n:Nat)(x:aG)(nodes:List aG)(hx:nodes[n]?=Ic x):∃o,(stepN f cut n x nodes)[n]?=Ic ⟨x.at_,o⟩:=by
 unfold stepN;split
 .exact⟨x.outs,hx⟩
 .obtain⟨l,hl⟩:=fS f (cL (f.getD x.at_.toNat In.zero) x.at_) nodes
  refine⟨_,Jw ?_⟩;rw[hl,IV];have:=(Ip.1 hx).1;omega
theorem yC{f:List In}{cut cut':List Bool}{n:Nat}{x:aG}{nodes:List aG}(hx:nodes[n]?=Ic x)(hi:jI nodes n)(hc:∀o,(stepN f cut n x nodes)[n]?=Ic ⟨x.at_,o⟩->jn cut' x.at_=decide (o.length=0)):stepN f cut' n x nodes=stepN f cut n x nodes:=by
 have hx0:x.outs=[]:=hi.fresh n x (Iz _) hx;obtain⟨o,ho⟩:=CT f cut n x nodes hx;have hc1:=hc o ho;by_cases h1:jn cut x.at_=Ir
 .have e1:stepN f cut n x nodes=nodes:=by unfold stepN;rw[if_pos h1]
  rw[e1,hx]at ho;have ho2:x.outs=o:=by have:=Ii ho;rw[this]
  rw[<-ho2,hx0]at hc1;rw[e1];unfold stepN;rw[if_pos (by rw[hc1];rfl)]
 .have e1:stepN f cut n x nodes=(bS f (cL (f.getD x.at_.toNat In.zero) x.at_) nodes).2.set n ⟨x.at_,(bS f (cL (f.getD x.at_.toNat In.zero) x.at_) nodes).1⟩:=by unfold stepN;rw[if_neg h1]
  by_cases h2:jn cut' x.at_=Ir
  .rw[h2]at hc1
   have hol:o.length=0:=of_decide_eq_true hc1.symm;obtain⟨l,hl⟩:=fS f (cL (f.getD x.at_.toNat In.zero) x.at_) nodes;have hnl:=(Ip.1 hx).1;rw[e1,Jw (by rw[hl,IV];omega)]at ho;have ho2:(bS f (cL (f.getD x.at_.toNat In.zero) x.at_) nodes).1=o:=by have:=Ii ho;injection this
   have hnil:cL (f.getD x.at_.toNat In.zero) x.at_=[]:=by
    have:=qp f (cL (f.getD x.at_.toNat In.zero) x.at_) nodes;rw[ho2,hol]at this;exact List.length_eq_zero_iff.1 this.symm
   rw[e1,hnil];unfold stepN;rw[if_pos h2];simp only[bS];apply JN;intro i;by_cases e:n=i
   .subst e
    rw[Jw hnl,hx];obtain⟨xa,xo⟩:=x;simp only at hx0;rw[hx0]
   .rw[JR e]
  .rw[e1]
   unfold stepN;rw[if_neg h2]
theorem rg{f:List In}{cut cut':List Bool}:∀(fuel n:Nat) (nodes:List aG),jI nodes n->(∀x∈bI f cut fuel n nodes,jn cut' x.at_=decide (x.outs.length=0))->bI f cut' fuel n nodes=bI f cut fuel n nodes
 |0,_,_,_,_=>rfl
 |fuel+1,n,nodes,hi,h=>by
  unfold bI at h ⊢;cases hx:nodes[n]? with
  |none=>rfl
  |some x=>
   rw[hx]at h;simp only at h ⊢;have hs:stepN f cut' n x nodes=stepN f cut n x nodes:=yC hx hi (λo ho=>h ⟨x.at_,o⟩ (Iw (oV f cut fuel (n+1) _ n _ (by omega) ho)));rw[hs];exact rg fuel (n+1) _ (yz hi) h
theorem NOk.stepN{f:List In}(hr:dQ f){cut:List Bool}{n:Nat}{x:aG}{nodes:List aG}(h:NOk f nodes)(hx:nodes[n]?=Ic x):NOk f (stepN f cut n x nodes):=by
 have hxm:=Iw hx;have ha:=h.at_ x hxm;have hst:=h.stops x hxm;unfold Top.stepN;split
 .exact h
 .obtain⟨p,hp⟩:∃p:Nat,x.at_=p:=⟨x.at_.toNat,by omega⟩
  rw[hp,IC]at hst ⊢;obtain⟨y,hy⟩:∃y,f[p]?=Ic y:=⟨_,Ig (by omega)⟩;have q2:f.getD p In.zero=y:=by simp[Ij,hy]
  rw[q2]at hst ⊢;obtain⟨l,hl⟩:=fS f (cL y (p:Int)) nodes;refine(NOk.outs hr _ nodes h (λa haa=>?_)).put ?_
  .rcases qx hr hy a haa with q|q
   .rw[hst]at q;exact absurd q (by decide)
   .exact q
  .rw[hl,Jg (Ip.1 hx).1,hx]
   simp[hp]
theorem NOk.build{f:List In}(hr:dQ f){cut:List Bool}:∀(fuel n:Nat) (nodes:List aG),NOk f nodes->NOk f (bI f cut fuel n nodes)
 |0,_,_,h=>h
 |fuel+1,n,nodes,h=>by
  unfold bI;cases hx:nodes[n]? with
  |none=>exact h
  |some x=>exact NOk.build hr fuel (n+1) _ (h.stepN hr hx)
theorem gq{f:List In}(hr:dQ f)(cut:List Bool):NOk f (aJ f cut).nodes:=NOk.build hr 201 0 _ (NOk.way hr ⟨by simp,by simp,by simp⟩ hr.pos)
theorem yD{f:List In}(hr:dQ f)(cut:List Bool):aJ f (gI (aJ f cut).nodes (IF f.length Ik))=aJ f cut:=by
 have hok:=gq hr cut;unfold aJ at hok ⊢;simp only at hok ⊢;congr 1;refine rg 201 0 _ (rM ⟨λi x _ hx=>by simp at hx⟩ 0) (λx hx=>?_);exact Dv (hok.at_ x hx).1 (Cr hok.nodup (λy hy=>by rw[JP];exact hok.at_ y hy) hx)
theorem qU(d:Nat)(t:Je)(ht:If.underlying t=Ic (.int .i64))(l m:Int)(w:Im):(Jp (d+1) t (Ib Ie l) (Ib Ie m)).run If w=.ok (l==m) w:=by
 simp[Jp,IJ,I2 ht]
theorem DL(d:Nat)(l m:Int)(w:Im):(Jp (d+2) 199 (IA #[Ib Ie l]) (IA #[Ib Ie m])).run If w=.ok (l==m) w:=
 kF Tryz.underlying199 (by kernel_rfl) (gH (by rfl) (a:=Ib Ie l) (b:=Ib Ie m) (by kernel_rfl) (by kernel_rfl) (qU d 3 Jr l m w))
theorem Fe(d:Nat)(l m:Int)(w:Im):(Jp (d+2) 202 (IA #[Ib Ie l]) (IA #[Ib Ie m])).run If w=.ok (l==m) w:=
 kF Tryz.underlying202 (by kernel_rfl) (gH (by rfl) (a:=Ib Ie l) (b:=Ib Ie m) (by kernel_rfl) (by kernel_rfl) (qU d 2 Mi l m w))
theorem qV(d:Nat)(t:Je)(ti:TypeInfo)(hi:If.info? t=Ic ti)(hc:ti.comparable=Ir)(x y:Io)(r:Bool)(w:Im)(h:(Jp d t x y).run If w=.ok r w):(Jp (d+1) 97 (.iface t x) (.iface t y)).run If w=.ok r w:=by
 simp[Jp,IJ,I2 Kl,run_typeInfo w hi,hc,h]
theorem nr(t:Je)(h:((If.info? t).map (·.comparable))=Ic Ir):∃ti,If.info? t=Ic ti/\ti.comparable=Ir:=by
 cases hi:If.info? t with
 |none=>rw[hi]at h;cases h
 |some ti=>rw[hi]at h;exact⟨ti,rfl,Ii h⟩
theorem qT(d:Nat)(t t':Je)(ht:t≠t')(x y:Io)(w:Im):(Jp (d+1) 97 (.iface t x) (.iface t' y)).run If w=.ok Ik w:=by
 simp[Jp,IJ,I2 Kl,ht]
theorem sx(d:Nat)(t:Je)(x:Io)(w:Im):(Jp (d+1) 97 (.iface t x) .nilIface).run If w=.ok Ik w:=by
 simp[Jp,IJ,I2 Kl]
theorem nD(d:Nat)(t:Je)(x:Io)(w:Im):(Jp (d+1) 97 .nilIface (.iface t x)).run If w=.ok Ik w:=by
 simp[Jp,IJ,I2 Kl]
theorem Cl(d:Nat)(w:Im):(Jp (d+1) 97 .nilIface .nilIface).run If w=.ok Ir w:=by
 simp[Jp,IJ,I2 Kl]
theorem Fd(d:Nat)(s u:Sr)(w:Im):(Jp (d+3) 97 s.v u.v).run If w=.ok (decide (s=u)) w:=by
 have c47:=nr 199 (by kernel_rfl);have c49:=nr 202 (by kernel_rfl);obtain⟨i47,h47,k47⟩:=c47;obtain⟨i49,h49,k49⟩:=c49;cases s with
 |was l=>
  cases u with
  |was m=>
   refine(qV (d+2) 199 i47 h47 k47 _ _ _ w (DL d l m w)).trans ?_;by_cases h:l=m<;>simp[h]
  |is m=>exact qT (d+2) 199 202 (by decide) _ _ w
  |no=>exact sx (d+2) 199 _ w
 |is l=>
  cases u with
  |is m=>
   refine(qV (d+2) 202 i49 h49 k49 _ _ _ w (Fe d l m w)).trans ?_;by_cases h:l=m<;>simp[h]
  |was m=>exact qT (d+2) 202 199 (by decide) _ _ w
  |no=>exact sx (d+2) 202 _ w
 |no=>
  cases u with
  |was m=>exact nD (d+2) 199 _ w
  |is m=>exact nD (d+2) 202 _ w
  |no=>exact Cl (d+2) w
theorem pk(T:List Sr)(i:Nat)(h:i<T.length)(w:Im):(part 97 (aw T) i).run If w=.ok (T[i]).v w:=by
 simp[part,isAgg,I2 Kl,mt T i h]
theorem qS(d:Nat)(A B:List Sr)(hA:A.length=24)(hB:B.length=24)(w:Im):∀is:List Nat,(∀i∈is,i<24)->
  (Op.eqItems (d+3) 97 1 (aw A) (aw B) is).run If w=.ok (is.all λi=>decide (A[i]?=B[i]?)) w
 | [],_=>by simp[Op.eqItems]
 |i::is,h=>by
  have hi:i<24:=h i (JH ..);have ih:=qS d A B hA hB w is λj hj=>h j (Jm _ hj);simp only[Op.eqItems,IJ,JQ,pk A i (by omega),pk B i (by omega),I1,Fd,ih];have hg:decide (A[i]'(by omega)=B[i]'(by omega))=decide (A[i]?=B[i]?):=by simp[hA,hB,hi]
  rw[hg];cases hd:decide (A[i]?=B[i]?)<;>simp[List.all_cons,hd]
  all_goals first|done|(simp at hd;simp[hd,ih])
theorem Cz{A B:List Sr}(hA:A.length=24)(hB:B.length=24):((Jy 24).all λi=>decide (A[i]?=B[i]?))=decide (A=B):=by
 rw[L6];simp only[Jd,Kq,decide_eq_true_eq];constructor
 .intro h
  apply JN;intro i;by_cases hi:i<24
  .exact h i hi
  .rw[I0 (by omega),I0 (by omega)]
 .rintro rfl i _
  rfl
theorem DM(d:Nat)(A B:List Sr)(hA:A.length=24)(hB:B.length=24)(w:Im):(Jp (d+4) 99 (IA (aw A)) (IA (aw B))).run If w=.ok (decide (A=B)) w:=by
 have c55:=nr 97 (by kernel_rfl);obtain⟨i55,h55,_⟩:=c55;rw[run_equalIn_array w (d+3) (aw A) (aw B) IU h55];have hc:If.cellsOf 97=1:=by kernel_rfl
 rw[hc,qS d A B hA hB w (Jy 24) (λi hi=>Kq.1 hi),Cz hA hB]
def zY(A:List Sr):Prop:=∀i:Nat,i<24->A[i]?≠Ic .no
theorem DE(d:Nat)(s u:Sr)(h:s≠.no)(w:Im):(Ky (d+1) 97 s.v u.v).run If w=.ok Ik w:=by
 cases s with
 |no=>exact absurd rfl h
 |was l=>cases u<;>simp[Sr.v,Ky,IJ,I2 Kl]
 |is l=>cases u<;>simp[Sr.v,Ky,IJ,I2 Kl]
theorem B8(d:Nat)(A B:List Sr)(hA:A.length=24)(hB:B.length=24)(hn:zY A)(w:Im):(Ky (d+2) 99 (IA (aw A)) (IA (aw B))).run If w=.ok Ik w:=by
 have c55:=nr 97 (by kernel_rfl);obtain⟨i55,h55,_⟩:=c55;have hc:If.cellsOf 97=1:=by kernel_rfl
 rw[Ky];simp only[IJ,I2 IU,I1,run_sizeOf w h55,hc,JQ];simp only[Std.Legacy.Range.forIn_eq_forIn_range',Std.Legacy.Range.size,Nat.sub_zero,Nat.add_one_sub_one,Nat.div_one];have hl:∀i∈List.range' 0 24,i<24:=by simp
 generalize List.range' 0 24=is at hl
 induction is with
 |nil=>simp
 |cons j is ih=>
  have hj:=hl j (JH ..);have h1:A[j]'(by omega)≠.no:=λe=>hn j hj (by rw[Ig (by omega),e]);simp only[List.forIn_cons,IJ,pk A j (by omega),pk B j (by omega),I1,DE d _ _ h1,Bool.false_eq_true,if_false,JO];exact ih λi hi=>hl i (Jm _ hi)
theorem zY.of_ok{T:List Sr}(h:∀s∈T,s.ok=Ir):zY T:=λi _ he=>by
 have:=h _ (Iw he);exact absurd this (by decide)
theorem oa(o:aX)(w:Im):(part 3 o.cells.toArray 0).run If w=.ok (Ib Ie o.jt) w:=by
 have ha:(isAgg 3).run If w=.ok Ik w:=by kernel_rfl
 simp only[part,IJ,ha,I1];rfl
theorem n_(o:aX)(h:o.t.length=24)(w:Im):(part 99 o.cells.toArray 1).run If w=.ok (IA (aw o.t)) w:=by
 have ha:(isAgg 99).run If w=.ok Ir w:=by kernel_rfl
 have hs:(sizeOf 99).run If w=.ok 24 w:=by kernel_rfl
 have hx:o.cells.toArray.extract 1 (1+24)=aw o.t:=by
  apply Array.toList_inj.1;rw[Array.toList_extract];show(o.cells.drop 1).take 24=o.t.map Sr.v;unfold aX.cells;rw[List.drop_one,List.tail_cons,ub h,List.take_of_length_le (by simp[h])]
 simp only[part,IJ,ha,hs,I1,JO,hx,if_true]
theorem DN(d:Nat)(o:aX)(h:o.t.length=24)(w:Im):(Jp (d+5) 116 (IA o.cells.toArray) (IA o.cells.toArray)).run If w=.ok Ir w:=by
 refine kF JD (by kernel_rfl) ?_;refine Fb (by rfl) (oa o w) (oa o w) (by have:=qU (d+3) 3 Jr o.jt o.jt w;rw[beq_self_eq_true]at this;exact this) ?_;refine gH (by rfl) (n_ o h w) (n_ o h w) (by have:=DM d o.t o.t h h w;rw[decide_eq_true rfl]at this;exact this)
theorem B9(d:Nat)(o:aX)(h:o.t.length=24)(hn:zY o.t)(w:Im):(Ky (d+3) 116 (IA o.cells.toArray) (IA o.cells.toArray)).run If w=.ok Ik w:=by
 have h0:∀(x y:Io) (w:Im),(Ky (d+2) 3 x y).run If w=.ok Ik w:=λx y w=>by
  simp[Ky,IJ,I2 Jr]
 have h1:=B8 d o.t o.t h h hn;rw[Ky];simp[IJ,I2 JD,oa,n_ o h,h0,h1,Jf]
theorem At{aF:Act}{p:Oper}{x y:Lf}{t:Je}{o:aX}(hp:p.op=.binOp .neq 116 x y t)(hx:aF.eval x=IA o.cells.toArray)(hy:aF.eval y=IA o.cells.toArray)(h:o.t.length=24)(hn:zY o.t)(w:Im):(JJ aF.eval p).run If w=.ok (.value (Iy Ik)) w:=by
 have h2:(Op.equal 116 (IA o.cells.toArray) (IA o.cells.toArray)).run If w=.ok Ir w:=DN 9995 o h w;have hg:(Ky Op.maxDepth 116 (IA o.cells.toArray) (IA o.cells.toArray)).run If w=.ok Ik w:=B9 9997 o h hn w;have h1:(eqGuard .neq 116 x y (IA o.cells.toArray) (IA o.cells.toArray)).run If w=.ok () w:=by
  simp[eqGuard,run_program,hg]
 unfold JJ;simp only[hp,hx,hy,IJ,h1,binOp,h2,I1,JO,Bool.not_true]
structure TOk(T:List Sr):Prop where
 len:T.length=24
 ok:∀s∈T,s.ok=Ir
theorem TOk.first:TOk first:=⟨rfl,by decide⟩
theorem DF{T:List Sr}(h:T.length=24):TOk (jH T):=by
 unfold jH;split
 .rename_i hg
  exact⟨h,Jd.1 hg⟩
 .exact TOk.first
theorem s_{T:List Sr}(h:TOk T){i:Int}(hi:inR i=Ir):(iL T i).ok=Ir:=by
 have hi':0<=i/\i<=23:=of_decide_eq_true hi;unfold iL;rw[Ij,Ig (by rw[h.len];omega)];exact h.ok _ (K8 _)
theorem TOk.set{T:List Sr}(h:TOk T)(i:Nat){s:Sr}(hs:s.ok=Ir):TOk (T.set i s):=by
 refine⟨by rw[Jq];exact h.len,λu hu=>?_⟩;rcases KA hu with hu|rfl
 .exact h.ok u hu
 .exact hs
theorem CA{T:List Sr}(h:T.length=24)(x:In):TOk (dS T x):=by
 have hg:=DF h;unfold dS;split
 .rename_i hc
  unfold kR;split
  .exact hg.set _ rfl
  .split
   .exact hg.set _ (s_ hg hc.2.2)
   .split
    .exact(hg.set _ (s_ hg hc.2.2)).set _ (s_ hg hc.2.1)
    .exact hg
 .exact hg
theorem sq{f:List In}:∀(n:Nat) (s:PSt),TOk s.t->TOk (eo n f s).t
 |0,_,h=>h
 |n+1,s,h=>by
  unfold eo;cases hf:fol f s with
  |none=>exact h
  |some s'=>
   obtain⟨x,_,_,_,rfl⟩:=po hf;exact sq n _ (CA h.len x)
theorem tu(f:List In)(a:Nat):TOk (bT f a).t:=by
 unfold bT;simp only;split
 .exact TOk.first
 .exact sq 201 _ TOk.first
structure OOk(n:Nat)(o:aX):Prop where
 t:TOk o.t
 jt:o.jt=-1\/(0<=o.jt/\o.jt<n)
theorem OOk.mono{n m:Nat}{o:aX}(h:OOk n o)(hm:n<=m):OOk m o:=⟨h.t,by rcases h.jt with q|q;exact .inl q;exact .inr (by omega)⟩
theorem CI(f:List In)(nodes:List aG)(a:Nat):OOk (du f nodes a).2.length (du f nodes a).1:=by
 have ht:=tu f a;unfold du;simp only;split
 .exact⟨ht,.inl rfl⟩
 .split
  .rename_i n hn
   unfold jh at hn;rw[List.findIdx?_eq_some_iff_getElem]at hn;obtain⟨hl,_⟩:=hn;exact⟨ht,.inr ⟨by simp only;omega,by simp only;omega⟩⟩
  .exact⟨ht,.inr ⟨by simp only;omega,by simp only[IV,LU];omega⟩⟩
theorem Ap(f:List In):∀(l:List Int) (nodes:List aG),∀o∈(bS f l nodes).1,OOk (bS f l nodes).2.length o
 | [],_,o,ho=>by simp[bS]at ho
 |a::l,nodes,o,ho=>by
  simp only[bS,I7]at ho ⊢;rcases ho with rfl|ho
  .refine(CI f nodes a.toNat).mono ?_
   obtain⟨k,hk⟩:=fS f l (du f nodes a.toNat).2;rw[hk,IV];omega
  .exact Ap f l _ o ho
structure iD(nodes:List aG):Prop where
 few:∀x∈nodes,x.outs.length<=2
 ok:∀x∈nodes,∀o∈x.outs,OOk nodes.length o
theorem BR(x:In)(a:Int):(cL x a).length<=2:=by
 unfold cL;split
 .simp
 .split<;>simp
theorem iD.grow{nodes l:List aG}(h:iD nodes)(hl:∀x∈l,x.outs=[]):iD (nodes++l):=by
 refine⟨λx hx=>?_,λx hx o ho=>?_⟩
 .rcases J0.1 hx with hx|hx
  .exact h.few x hx
  .rw[hl x hx];simp
 .rcases J0.1 hx with hx|hx
  .exact(h.ok x hx o ho).mono (by simp)
  .rw[hl x hx]at ho;simp at ho
theorem iD.way{nodes:List aG}(h:iD nodes)(f:List In)(a:Nat):iD (du f nodes a).2:=by
 unfold du;simp only;split
 .exact h
 .split
  .exact h
  .exact h.grow (λx hx=>by rw[IS.1 hx])
theorem iD.outs{f:List In}:∀(l:List Int) (nodes:List aG),iD nodes->iD (bS f l nodes).2
 | [],_,h=>h
 |a::l,nodes,h=>by simp only[bS];exact iD.outs l _ (h.way f a.toNat)
theorem iD.step{f:List In}{cut:List Bool}{n:Nat}{x:aG}{nodes:List aG}(h:iD nodes):iD (stepN f cut n x nodes):=by
 unfold Top.stepN;split
 .exact h
 .have h2:=iD.outs (f:=f) (cL (f.getD x.at_.toNat In.zero) x.at_) nodes h
  refine⟨λy hy=>?_,λy hy o ho=>?_⟩
  .rcases KA hy with hy|rfl
   .exact h2.few y hy
   .simp only;rw[qp];exact BR _ _
  .rw[Jq]
   rcases KA hy with hy|rfl
   .exact h2.ok y hy o ho
   .exact Ap f _ nodes o ho
theorem iD.build{f:List In}{cut:List Bool}:∀(fuel n:Nat) (nodes:List aG),iD nodes->iD (bI f cut fuel n nodes)/\nodes.length<=(bI f cut fuel n nodes).length
 |0,_,_,h=>⟨h,Iz _⟩
 |fuel+1,n,nodes,h=>by
  unfold bI;cases hx:nodes[n]? with
  |none=>exact⟨h,Iz _⟩
  |some x=>
   have h2:=iD.build (f:=f) (cut:=cut) fuel (n+1) _ (h.step (f:=f) (cut:=cut) (n:=n) (x:=x));refine⟨h2.1,IT ?_ h2.2⟩;unfold Top.stepN;split
   .exact Iz _
   .obtain⟨l,hl⟩:=fS f (cL (f.getD x.at_.toNat In.zero) x.at_) nodes
    rw[Jq,hl,IV];omega
theorem gh(f:List In)(cut:List Bool):iD (aJ f cut).nodes/\OOk (aJ f cut).nodes.length (aJ f cut).entry:=by
 have h0:iD (du f [] 0).2:=iD.way ⟨by simp,by simp⟩ f 0;have h:=iD.build (f:=f) (cut:=cut) 201 0 _ h0;exact⟨h.1,(CI f [] 0).mono h.2⟩
theorem FE:(If.info? 4).map (λi=>(i.zero,i.size,i.bytes))=Ic (Ic (.bool Ik),1,1):=by kernel_rfl
theorem ay{P:Jn}{ops:Array Oper}{rest:List Oper}{o:Oper}{a:Act}{W W':Im}{Q:Exit->Act->Im->Prop}(hw:Jk o (KH ops a.tmps)=Ir)(v:Io)(hrun:(JJ a.eval o).run P W=.ok (.value v) W')(h:Kg P ops Q rest (a.put o.dst v) W'):Kg P ops Q (o::rest) a W:=by
 unfold Kg;rw[if_pos hw];refine .inl ?_;unfold Oper.wp;rw[hrun];exact h
theorem zQ{W:Im}{g:Nat}{bs:List Bool}(h:W.heap[g]?=Ic (.cells (bs.map Iy).toArray 4 (0,0)))(hl:bs.length<=9223372036854775807):Kd.C Kd.bool W (Ic ⟨g,0,Ih⟩) bs.length bs:=by
 refine Kd.C_of_reads (d:=Ik) (h1:=λ_=>rfl) ⟨rfl,hl,λ_=>⟨_,rfl,λj hj=>?_⟩⟩;rw[Addr.add_mid,KB,aq h];simp[IK,hj,Ij]
structure yp(w W:Im)(S:bj)(A:Option Addr)(c:Nat)(bs:List Bool):Prop where
 b:It w.heap.size w W
 s:W.heap[w.heap.size]?=Ic (.cells (S.entry.cells++[Ia A S.nodes.length c]).toArray 119 (0,0))
 g:W.heap[w.heap.size+1]?=Ic (.cells (bs.map Iy).toArray 4 (0,0))
theorem yp.below{w W W':Im}{S:bj}{A:Option Addr}{c:Nat}{bs:List Bool}(h:yp w W S A c bs)(hb:It W.heap.size W W'):yp w W' S A c bs:=⟨af h.b hb,ag h.s hb,ag h.g hb⟩
theorem yp.set{w W:Im}{S:bj}{A:Option Addr}{c:Nat}{bs:List Bool}(h:yp w W S A c bs)(p:Nat)(b:Bool):yp w (W.setCell ⟨w.heap.size+1,p,Ih⟩ (Iy b)) S A c (bs.set p b):=
 ⟨h.b.setCell (by show w.heap.size<=w.heap.size+1;omega) _,bp h.s (p:=⟨w.heap.size+1,p,Ih⟩) (by show w.heap.size≠w.heap.size+1;omega) _,by rw[List.map_set];exact aR h.g p _⟩
theorem Cq{nodes:List aG}{n:Nat}{x:aG}(hx:nodes[n]?=Ic x)(c0:List Bool):gI (nodes.take (n+1)) c0=(gI (nodes.take n) c0).set x.at_.toNat (decide (x.outs.length=0)):=by
 obtain⟨h,e⟩:=Ip.1 hx;rw[JC h,e];unfold gI;rw[List.foldl_append];rfl
theorem rP(f:List In)(cut:List Bool)(S:bj)(hSk:S=aJ f cut)(A Af:Option Addr)(c cf:Nat)(w:Im)(hG:Gl w)(hC:Kd.C dK w A S.nodes.length S.nodes)(hF:Kd.C kIn w Af f.length f)(hcf:f.length<=cf)(hr:bi f=Ir) :
  I9 If 80 #[Ia Af f.length cf,o6 S A c] w λe w'=>e=Iv (Iy Ir)/\It w.heap.size w w':=by
 have hok:=gq (bu hr) cut;have hwy:=gh f cut;have hag:=yD (bu hr) cut;rw[<-hSk]at hok hwy hag;have HOk:=MD hok;have HWy:=MD hwy;have HAg:=MD hag;have HR:=MD (bu hr);have HC:=MD hC;have HF:=MD hF;have HG:=MD hG;have Hcf:=MD hcf;have Hr:=MD hr;have hl200:=(bu hr).len;have hn200:S.nodes.length<=200:=by have:=hok.len;omega
 have hmk:=run_make_row' (P:=If) 71 4 (Iy Ik) 1 Tryz.underlying71 FE rfl .i64 .i64 f.length (by omega) (by omega);have HMk:=MD hmk;unfold o6;clear hok hwy hag hC hF hG hcf hr hSk hmk;go_enter Tryz.func80,Tryz.ntmps80;go_upto_region 1 with fail
 obtain⟨w1,hw1⟩:∃w1,w1=w.alloc (Is (S.entry.cells++[Ia A S.nodes.length c]).toArray 119):=⟨_,rfl⟩;have h1:w1.heap[w.heap.size]?=Ic (.cells (S.entry.cells++[Ia A S.nodes.length c]).toArray 119 (0,0)):=by rw[hw1];exact JZ w _
 have hb1:It w.heap.size w w1:=by rw[hw1];exact ae (Il _ _) _
 have hsz:w1.heap.size=w.heap.size+1:=by rw[hw1];simp
 refine ar hw1.symm ?_;have H1:=MD h1;have HB1:=MD hb1;clear hw1 h1 hb1;go_upto_region 2 with(first
  |((with_reducible refine ai (N:=16) rfl ?_);refine gT rfl 71 _ _ rfl _ _ _ rfl rfl (HMk.1 _) ?_))
 obtain⟨w2,hw2⟩:∃w2,w2=w1.alloc (Is (Lo #[Iy Ik] f.length) 4):=⟨_,rfl⟩;have hst:yp w w2 S A c (IF f.length Ik):=by
  refine⟨by rw[hw2];exact ae HB1.1 _,by rw[hw2];exact aT H1.1 _,?_⟩;have:=JZ w1 (Is (Lo #[Iy Ik] f.length) 4);rw[iq]at this;rw[hw2,iq,<-hsz,List.map_replicate];exact this
 refine ar hw2.symm ?_;have HSt:=MD hst;have c25:=(show w2.cell? ⟨w.heap.size,25,Ih⟩=Ic (.slice A S.nodes.length c) by rw[aq hst.s,IW (by rw[aX.len];exact Iz _),aX.len];rfl);clear hw2 hst hsz H1 HB1;go_wp2;go_loopw [20] (λi wr=>∃n:Nat,i=Ib Ie n/\aa (n<=S.nodes.length/\yp w wr S A c (gI (S.nodes.take n) (IF f.length Ik)))) (λi _=>S.nodes.length-(Jj i).toNat)
 case atStart=>exact⟨0,rfl,⟨⟨ID _,HSt.1⟩⟩⟩
 case round=>
  obtain⟨n,rfl,HL⟩:=hrel;obtain⟨hn,hW⟩:=HL.1;by_cases hlt:n<S.nodes.length
  .have hlt':(n:Int)<(S.nodes.length:Int):=by omega
   obtain⟨x,hx⟩:∃x,S.nodes[n]?=Ic x:=⟨_,Ig hlt⟩;have hxa:=HOk.1.at_ x (Iw hx);obtain⟨ad,cs,rfl,hK,hld⟩:=ba (P:=If) HC.1 hW.b n hlt x hx 142 Tryz.underlying142 rfl lE;obtain⟨vO,rfl,AO,cO,rfl,hlO,hCO⟩:=gD hK;have hcu:=Cq hx (IF f.length Ik);obtain⟨xa,xo⟩:=x;simp only at hxa hld hcu hlO hCO;obtain⟨p,rfl⟩:∃p:Nat,xa=p:=⟨xa.toNat,by omega⟩;simp only[IC]at hcu;have hpf:(p:Int)<(f.length:Int):=by omega
   have hg1:w.heap.size+1<wr.heap.size:=aj hW.g;have hlen:p<(gI (S.nodes.take n) (IF f.length Ik)).length:=by rw[qX,JP];omega
   obtain⟨b0,hb0⟩:∃b0,(gI (S.nodes.take n) (IF f.length Ik))[p]?=Ic b0:=⟨_,Ig hlen⟩;have gc:=(show wr.cell? ⟨w.heap.size+1,p,Ih⟩=Ic (.bool b0) by rw[aq hW.g,IK,hb0];rfl);have gf:=au hW.g p;have HW:=MD hW;have HLd:=MD hld;have HCu:=MD hcu;have HLt:=MD hlt;obtain⟨bz,hbz⟩:=ME (decide (xo.length=0));have qz:((xo.length:Int)==0)=bz:=by rw[hbz];by_cases h0:xo.length=0<;>simp[h0]
   rw[<-hbz]at HCu;clear hW hld hcu hlt hn HL hK hCO hx hxa hlen hb0 hbz;go_wp2_with (first
    |((with_reducible refine ai (N:=23) rfl ?_);refine av rfl 142 _ rfl (ad.add (n*2)) rfl _ HLd.1 ?_))
   go_roundw
   case rel=>exact⟨n+1,by go_num,⟨⟨HLt.1,by rw[HCu.1];exact(HW.1.set p bz).below (ae (Il _ _) _)⟩⟩⟩
   case measure=>have:=HLt.1;simp[Jj];omega
  .obtain rfl:n=S.nodes.length:=by omega
   rw[Kh]at hW;have HW:=MD hW;clear hW hn HL;obtain⟨cu,hcu⟩:=ME (gI S.nodes (IF f.length Ik));have hcl:cu.length=f.length:=by rw[hcu,qX,JP]
   have hagc:=HAg.1;rw[<-hcu]at HW hagc;have hBd:=λ(W:Im) (hG:Gl W) (hC:Kd.C kIn W Af f.length f) (hK:Kd.C Kd.bool W (Ic ⟨w.heap.size+1,0,Ih⟩) cu.length cu)=>yE f cu Af (Ic ⟨w.heap.size+1,0,Ih⟩) cf f.length W hG hC Hcf.1 hK Hr.1;rw[hagc,hcl]at hBd;have HBd:=MD hBd;have HBC:=MD (zQ HW.1.g (by omega));rw[hcl]at HBC;clear hBd hagc hcl hcu;go_upto_region 10 with(first
    |(go_at_call 49;refine(HBd.1 _ (HG.1.below HW.1.b) (Kd.C_below HF.1 HW.1.b) HBC.1).mono ?_;rintro e w4 ⟨vN,rfl,hrd,hb⟩;have HW4:=MD (HW.1.below hb);have HRd:=MD hrd;clear hrd hb)
    |((with_reducible refine ap (t:=119) (p:=8) rfl ?_);obtain⟨AN,cN,rfl,hcN,hCN⟩:=HRd.1;refine an rfl 119 _ _ rfl w4.heap.size (S.entry.cells++[Ia AN S.nodes.length cN]).toArray rfl rfl 119 gu.toArray (Iu w4 _) (d_ _ _) (skz.trans (li _ _).symm) (te _) ?_;intro w5 h5 hf5;have HCN:=MD (Kd.C_below hCN (cw hf5));have H5:=MD h5;have HW5:=MD (HW4.1.below (cw hf5));clear h5 hf5 hCN hcN))
   have c25':=(show w5.cell? ⟨w.heap.size,25,Ih⟩=Ic (.slice A S.nodes.length c) by rw[aq HW5.1.s,IW (by rw[aX.len];exact Iz _),aX.len];rfl);have d25:=(show w5.cell? ⟨w4.heap.size,25,Ih⟩=Ic (.slice AN S.nodes.length cN) by rw[aq H5.1,IW (by rw[aX.len];exact Iz _),aX.len];rfl);go_upto_region 12 with(first
    |((with_reducible refine ai (N:=62) rfl ?_);refine ay rfl _ (ao rfl rfl (mG H5.1)) ?_)
    |((with_reducible refine ai (N:=64) rfl ?_);refine ay rfl _ (ao rfl rfl (mG HW5.1.s)) ?_)
    |((with_reducible refine ai (N:=65) rfl ?_);refine ay rfl _ (At rfl rfl rfl HWy.1.2.t.len (zY.of_ok HWy.1.2.t.ok) w5) ?_))
   go_wp2;go_loopw [70] (λi wr=>∃n:Nat,i=Ib Ie n/\aa (n<=S.nodes.length/\It w5.heap.size w5 wr)) (λi _=>S.nodes.length-(Jj i).toNat)
   case atStart=>exact⟨0,rfl,⟨⟨ID _,Il _ _⟩⟩⟩
   case round=>
    obtain⟨n,rfl,HL⟩:=hrel;obtain⟨hn,hB⟩:=HL.1;by_cases hlt:n<S.nodes.length
    .have hlt':(n:Int)<(S.nodes.length:Int):=by omega
     obtain⟨x,hx⟩:∃x,S.nodes[n]?=Ic x:=⟨_,Ig hlt⟩;obtain⟨ad,cs,rfl,_,hK,hcs⟩:=b_ HC.1 n hlt x hx;obtain⟨vO,rfl,AO,cO,rfl,hlO,hCO⟩:=gD hK;obtain⟨ad',cs',rfl,hK',hld'⟩:=ba (P:=If) HCN.1 hB n hlt x hx 142 Tryz.underlying142 rfl lE;obtain⟨vO',rfl,AO',cO',rfl,hlO',hCO'⟩:=gD hK';have hxa:=HOk.1.at_ x (Iw hx);have hxo:=λo (h:o∈x.outs)=>HWy.1.1.ok x (Iw hx) o h;have hfew:=HWy.1.1.few x (Iw hx);have hvo:w.cell? ⟨(ad.add (n*2)).block,(ad.add (n*2)).off+1,Ih⟩=Ic (.slice AO x.outs.length cO):=by
      rw[<-ie _ _ 1 (by omega)];exact hcs 1 _ rfl
     have hva:w.cell? (ad.add (n*2))=Ic (Ib Ie x.at_):=hcs 0 _ rfl;have HVO:=MD hvo;have HVA:=MD hva;have HB:=MD hB;have HLd':=MD hld';have HCO:=MD hCO;have HCO':=MD hCO';have HXo:=MD hxo;have HLt:=MD hlt;have hfew':(x.outs.length:Int)<=2:=by omega
     clear hvo hva hld' hCO hCO' hxo hB hK hK' hcs hx hlt hn HL hfew hxa;go_upto_region 15 with(first
      |((with_reducible refine ai (N:=74) rfl ?_);refine av rfl 142 _ rfl (ad'.add (n*2)) rfl _ HLd'.1 ?_))
     obtain⟨w7,hw7⟩:∃w7,w7=wr.alloc (Is #[Ib Ie x.at_,Ia AO' x.outs.length cO'] 142):=⟨_,rfl⟩;have hb7:It w5.heap.size w5 w7:=by rw[hw7];exact af HB.1 (ae (Il _ _) _)
     have h7:w7.heap[wr.heap.size]?=Ic (.cells #[Ib Ie x.at_,Ia AO' x.outs.length cO'] 142 (0,0)):=by rw[hw7];exact Iu wr _
     refine ar hw7.symm ?_;have HB7:=MD hb7;have H7:=MD h7;have HW7:=MD (HW5.1.below hb7);have f0:=(show w7.cell? ⟨wr.heap.size,0,Ih⟩=Ic (Ib Ie x.at_) by rw[ah h7];rfl);have f1:=(show w7.cell? ⟨wr.heap.size,1,Ih⟩=Ic (.slice AO' x.outs.length cO') by rw[ah h7];rfl);have f25:=ak hb7 c25';have fa:=ak HW7.1.b HVA.1;have fo:=ak HW7.1.b HVO.1;have qa:(x.at_ != x.at_)=Ik:=by simp
     have ql:((x.outs.length:Int) != (x.outs.length:Int))=Ik:=by simp
     clear hw7 hb7 h7
     go_quiet (fail)
     go_upto_region 18 with fail
     obtain⟨wo,rfl⟩:=ME wr;go_loopw [100] (λj wr=>∃k:Nat,j=Ib Ie k/\aa (k<=x.outs.length/\It w7.heap.size w7 wr)) (λj _=>x.outs.length-(Jj j).toNat)
     case atStart=>exact⟨0,rfl,⟨⟨ID _,aQ (Il _ _) _⟩⟩⟩
     case round=>
      obtain⟨k,rfl,HL⟩:=hrel;obtain⟨hk,hB⟩:=HL.1;by_cases hkl:k<x.outs.length
      .have hkl':(k:Int)<(x.outs.length:Int):=by omega
       obtain⟨o,ho⟩:∃o,x.outs[k]?=Ic o:=⟨_,Ig hkl⟩;have hot:=(HXo.1 o (Iw ho)).t;obtain⟨ad2,cs2,rfl,_,_⟩:=ba (P:=If) HCO.1 (Il _ _) k hkl o ho 116 JD rfl ij;obtain⟨ad2',cs2',rfl,hK2,hld2⟩:=ba (P:=If) HCO'.1 (af HB7.1 hB) k hkl o ho 116 JD rfl ij;obtain rfl:cs2'=o.cells:=hK2;obtain⟨w8,rfl⟩:=ME wr;have hk2:k<=2:=by omega
       have HLd2:=MD hld2;have HB8:=MD hB;have HKl:=MD hkl;have HOx:=MD ho;have HOt:=MD hot;clear hld2 hB hkl ho hot hk HL;go_upto_region 20 with(first
        |((with_reducible refine ai (N:=104) rfl ?_);refine av rfl 116 _ rfl (ad2'.add (k*25)) rfl _ HLd2.1 ?_)
        |((with_reducible refine ap (t:=116) (p:=13) rfl ?_);refine an rfl 116 _ _ rfl w8.heap.size o.cells.toArray rfl rfl 116 (aX.cells ⟨0,bE⟩).toArray (Iu w8 _) (dN o) (by simp[aX.len]) (iO o) ?_;intro w9 h9 hf9;have HB9:=MD (af HB8.1 (cw hf9));have HW9:=MD (HW7.1.below HB9.1);have H9:=MD h9;clear h9 hf9))
       have F25:=MD (ak HB9.1 f25);have FO:=MD (ak HB9.1 fo);have HA117:=MD (show ∀W,(isAgg 117).run If W=.ok Ik W from λW=>by kernel_rfl);have HA140:=MD (show ∀W,(isAgg 140).run If W=.ok Ik W from λW=>by kernel_rfl);have HN1:=MD hlt';have HK1:=MD hkl';clear f0 f1 f25 fa fo qa ql hlt' hkl';refine im [(105,IA o.cells.toArray),(106,Iq (Ic ⟨w.heap.size,25,Ih⟩)),(107,Ia (Ic ad) S.nodes.length c),(108,Ib Ie (n:Int)),(109,Iq (Ic (ad.add (n*2)))),(110,Iq (Ic ⟨(ad.add (n*2)).block,(ad.add (n*2)).off+1,Ih⟩)),(111,Ia (Ic ad2) x.outs.length cO),(112,Ib Ie (k:Int)),(113,Iq (Ic (ad2.add (k*25)))),(114,IA o.cells.toArray),(115,Iy Ik)]
        (λL W=>Fr (λ_=>False) w9 W) (by kernel_rfl) (by kernel_rfl) (by kernel_rfl) ?_
       intro aF haF;simp only[bk,KY,IP,IZ,IY]at haF;subst haF;refine⟨?_,⟨rfl,rfl,rfl,Iz _,λ_ _ _=>rfl⟩,?_⟩
       .intro j o2 ho L W hc hr hst
        rcases j with _|_|_|_|_|_|_|_|_|_|_|j
        .obtain rfl:=Ii ho
         exact rx rfl 116 _ rfl w8.heap.size rfl 116 o.cells.toArray (0,0) _ ((hst.block _ (aj H9.1) (λh=>h)).trans H9.1) JD rfl (dN o) rfl hst
        .obtain rfl:=Ii ho
         exact aI rfl (by go_simp) rfl hst
        .obtain rfl:=Ii ho
         exact aI rfl (ao rfl rfl (aH (HA117.1 W) (hst.cell_at F25.1 (λh=>h)))) rfl hst
        .obtain rfl:=Ii ho
         exact aI rfl (by go_simp) rfl hst
        .obtain rfl:=Ii ho
         exact aI rfl (by have z1:=HN1.1;go_simp) rfl hst
        .obtain rfl:=Ii ho
         exact aI rfl (by go_simp) rfl hst
        .obtain rfl:=Ii ho
         exact aI rfl (ao rfl rfl (aH (HA140.1 W) (hst.cell_at FO.1 (λh=>h)))) rfl hst
        .obtain rfl:=Ii ho
         exact aI rfl (by go_simp) rfl hst
        .obtain rfl:=Ii ho
         exact aI rfl (by have z1:=HK1.1;go_simp) rfl hst
        .obtain rfl:=Ii ho
         obtain⟨ad3,cs3,q1,q2,q3⟩:=ba (P:=If) HCO.1 (Fr.below (S:=λ_=>False) HW9.1.b hst (λk hk h=>h) HW9.1.b.size) k HKl.1 o HOx.1 116 JD rfl ij;injection q1 with q1
         subst q1;obtain rfl:cs3=o.cells:=q2;exact aI rfl (ao rfl rfl q3) rfl hst
        .obtain rfl:=Ii ho
         exact aI rfl (At rfl rfl rfl HOt.1.len (zY.of_ok HOt.1.ok) W) rfl hst
        .exact absurd (IB.1 ho).1 (by simp)
       .intro L W hall hst
        have HBW:=MD (Fr.below (S:=λ_=>False) HB9.1 hst (λk hk h=>h) HB9.1.size);clear hst hall;go_wp2;go_roundw
        case rel=>exact⟨k+1,by go_num,⟨⟨HKl.1,HBW.1⟩⟩⟩
        case measure=>have:=HKl.1;simp[Jj];omega
      .obtain rfl:k=x.outs.length:=by omega
       have HB8:=MD (af HB7.1 hB);clear hB hk HL;go_wp2;go_roundw
       case rel=>exact⟨n+1,by go_num,⟨⟨HLt.1,HB8.1⟩⟩⟩
       case measure=>have:=HLt.1;simp[Jj];omega
    .obtain rfl:n=S.nodes.length:=by omega
     have HB:=MD (HW5.1.below hB);clear hB hn HL;go_wp2;go_ret;exact⟨rfl,HB.1.b⟩
def EOk(S:bj)(m:Nat)(e:bV):Prop:=∃o,dR S e=Ic o/\o.jt=(m:Int)
def z7(S:bj)(rows:List (List bV)):Prop:=∀(m:Nat) (xs:List bV),rows[m]?=Ic xs->∀e∈xs,EOk S m e
theorem uX{S:bj}{rows:List (List bV)}(h:z7 S rows){a:Int}{e:bV}{o:aX}(ho:dR S e=Ic o)(ha:o.jt=a):z7 S (eM rows a e):=by
 unfold eM;split
 .rename_i hr
  intro m xs hx f hf;by_cases hm:m=a.toNat
  .subst hm
   rw[Jw (by omega)]at hx;obtain rfl:=Ii hx;rcases J0.1 hf with hf|hf
   .rw[Ij,Ig (by omega)]at hf
    exact h _ _ (Ig (by omega)) f hf
   .rw[IS.1 hf]
    exact⟨o,ho,by omega⟩
  .rw[JR (λq=>hm q.symm)]at hx
   exact h m xs hx f hf
 .exact h
theorem nm{S:bj}{n:Nat}{x:aG}(hx:S.nodes[n]?=Ic x):∀(l:List aX) (k:Nat) (rows:List (List bV)),x.outs.drop k=l->z7 S rows->z7 S (dV n l k rows)
 | [],_,_,_,h=>h
 |o::l,k,rows,hl,h=>by
  have hk:k<x.outs.length:=by
   by_cases hk:k<x.outs.length
   .exact hk
   .rw[Ju (by omega)]at hl;exact absurd hl (by simp)
  rw[Jc hk]at hl;injection hl with h1 h2
  simp only[dV];refine nm hx l (k+1) _ h2 (uX h (o:=o) ?_ rfl);unfold dR;rw[if_neg (by simp only;omega),if_neg (by simp only;omega)];simp only[IC,hx,Option.bind_some];rw[Ig hk,h1]
theorem mi{S:bj}:∀(l:List aG) (n:Nat) (rows:List (List bV)),S.nodes.drop n=l->z7 S rows->z7 S (dr l n rows)
 | [],_,_,_,h=>h
 |x::l,n,rows,hl,h=>by
  have hn:n<S.nodes.length:=by
   by_cases hn:n<S.nodes.length
   .exact hn
   .rw[Ju (by omega)]at hl;exact absurd hl (by simp)
  rw[Jc hn]at hl;injection hl with h1 h2
  simp only[dr];exact mi l (n+1) _ h2 (nm (by rw[Ig hn,h1]) x.outs 0 rows (by simp) h)
theorem pA(S:bj):z7 S (a7 S):=by
 unfold a7;refine mi S.nodes 0 _ (by simp) (uX (o:=S.entry) ?_ ?_ rfl)
 .intro m xs hx e he
  have:=Iw hx;rw[J5 this]at he;exact absurd he (JE)
 .unfold dR
  simp
theorem nk(n:Nat):∀(l:List aX) (k:Nat) (rows:List (List bV)),(dV n l k rows).length=rows.length
 | [],_,_=>rfl
 |o::l,k,rows=>by simp only[dV];rw[nk,lL]
theorem mh:∀(l:List aG) (n:Nat) (rows:List (List bV)),(dr l n rows).length=rows.length
 | [],_,_=>rfl
 |x::l,n,rows=>by simp only[dr];rw[mh,nk]
theorem iW(S:bj):(a7 S).length=S.nodes.length:=by unfold a7;rw[mh,lL,JP]
theorem lz(n:Nat):∀(l:List aX) (k B:Nat) (rows:List (List bV)),(∀xs∈rows,xs.length<=B)->∀xs∈dV n l k rows,xs.length<=B+l.length
 | [],_,_,_,h=>h
 |o::l,k,B,rows,h=>by
  intro xs hx;have:=lz n l (k+1) (B+1) _ (jF h o.jt ((n:Int),(k:Int))) xs hx;simp only[Jz];omega
theorem kS:∀(l:List aG) (n B:Nat) (rows:List (List bV)),(∀x∈l,x.outs.length<=2)->(∀xs∈rows,xs.length<=B)->∀xs∈dr l n rows,xs.length<=B+2*l.length
 | [],_,_,_,_,h=>h
 |x::l,n,B,rows,h2,h=>by
  intro xs hx;have hx2:=h2 x (JH ..);have:=kS l (n+1) (B+2) _ (λy hy=>h2 y (Jm _ hy)) (λys hy=>by have:=lz n x.outs 0 B rows h ys hy;omega) xs hx;simp only[Jz];omega
theorem fP{S:bj}(h2:∀x∈S.nodes,x.outs.length<=2)(hl:S.nodes.length<=200):∀xs∈a7 S,xs.length<=401:=by
 intro xs hx;have:=kS S.nodes 0 1 _ h2 (jF (B:=0) (λys hy=>by rw[J5 hy];exact Iz _) S.entry.jt (-1,0)) xs hx;omega
def ex(f:List In)(S:bj)(e:bV):List Src:=(Jy 24).map (dq f S e)
def fJ(f:List In)(S:bj):List (List (List Src)):=(a7 S).map λws=>ws.map (ex f S)
def fF:Kd Src:=Kd.flat 2 (λs=>[Ib Ie s.kind,Ib Ie s.n]) (λ_=>rfl) (by simp[IH])
def my:Kd (List Src):=Kd.slice 135 fF
def np:Kd (List (List Src)):=Kd.slice 143 my
theorem nu:(If.info? 135).map (λi=>(i.zero,i.size,i.bytes))=Ic (Ic (.agg #[Ib Ie 0,Ib Ie 0]),2,16):=by kernel_rfl
theorem Az:(If.info? 143).map (λi=>(i.zero,i.size,i.bytes))=Ic (Ic (.slice Ih 0 0),1,24):=by kernel_rfl
theorem E8:(If.info? 120).map (λi=>(i.zero,i.size,i.bytes))=Ic (Ic (.slice Ih 0 0),1,24):=by kernel_rfl
section
structure kP(B:Nat)(w2 W:Im)(vR vN vA:Io)(row:List Src)(node:List (List Src))(all:List (List (List Src))):Prop where
 b:It B w2 W
 r:Kd.R fF 135 W B (λj=>B<=j) vR row
 n:Kd.R my 143 W B (λj=>B<=j/\Ic j≠vR.ownBlock) vN node
 a:Kd.R np 120 W B (λj=>(B<=j/\Ic j≠vN.ownBlock)/\Ic j≠vR.ownBlock) vA all
section
variable{B:Nat}{w2 W W':Im}{vR vN vA v1:Io}{row:List Src}{node:List (List Src)}{all:List (List (List Src))}
theorem kP.below(h:kP B w2 W vR vN vA row node all)(hb:It W.heap.size W W')(hB:B<=W.heap.size):kP B w2 W' vR vN vA row node all:=
 ⟨Fr.below h.b (Fr.of_below (S:=λ_=>False) hb) (λ_ _ q=>q) hB,Kd.R_below h.r hb,Kd.R_below h.n hb,Kd.R_below h.a hb⟩
theorem kP.appR(h:kP B w2 W vR vN vA row node all){s:Src}(hR:Kd.R fF 135 W' B (λj=>B<=j) v1 (row++[s]))(hb:It B w2 W')(hg:W.grownBy W' vR.ownBlock)(hat:v1.ownBlock=vR.ownBlock\/∃b,v1.ownBlock=Ic b/\W.heap.size<=b):kP B w2 W' v1 vN vA (row++[s]) node all:=
 ⟨hb,hR,Kd.R_after h.n hg hat,Kd.R_after h.a hg hat⟩
theorem kP.appN(h:kP B w2 W vR vN vA row node all)(hR:Kd.R my 143 W' B (λj=>B<=j) v1 (node++[row]))(hb:It B w2 W')(hg:W.grownBy W' vN.ownBlock)(hat:v1.ownBlock=vN.ownBlock\/∃b,v1.ownBlock=Ic b/\W.heap.size<=b):kP B w2 W' (Ia Ih 0 0) v1 vA [] (node++[row]) all:=
 ⟨hb,Kd.R_nil _ _ _ _ _,Kd.R_mono hR (λk hk=>⟨hk,by simp[IQ]⟩),Kd.R_mono (Kd.R_after (Kd.R_mono h.a (λk hk=>hk.1)) hg hat) (λk hk=>⟨hk,by simp[IQ]⟩)⟩
theorem kP.appA(hR:Kd.R np 120 W' B (λj=>B<=j) v1 (all++[node]))(hb:It B w2 W'):kP B w2 W' (Ia Ih 0 0) (Ia Ih 0 0) v1 [] [] (all++[node]):=
 ⟨hb,Kd.R_nil _ _ _ _ _,Kd.R_nil _ _ _ _ _,Kd.R_mono hR (λk hk=>⟨⟨hk,by simp[IQ]⟩,by simp[IQ]⟩)⟩
theorem kP.rowM(h:kP B w2 W vR vN vA row node all):my.M W B (λj=>B<=j/\Ic j≠vN.ownBlock) row [vR]:=
 ⟨vR,rfl,Kd.R_apartR h.r h.n (λq hq=>by
  have:q=135:=IS.1 hq;omega)⟩
theorem kP.nodeM(h:kP B w2 W vR vN vA row node all):np.M W B (λj=>B<=j/\Ic j≠vA.ownBlock) node [vN]:=
 ⟨vN,rfl,Kd.R_apartR (Kd.R_mono h.n (λk hk=>hk.1)) h.a (λq hq=>by
  have:q=143\/q=135:=by rcases I7.1 hq with e|e;exact .inl e;exact .inr (IS.1 e)
  omega)⟩
end
theorem oE(f:List In)(cut:List Bool)(S:bj)(hSk:S=aJ f cut)(A Af:Option Addr)(c cf:Nat)(w:Im)(hG:Gl w)(hC:Kd.C dK w A S.nodes.length S.nodes)(hcN:S.nodes.length<=c)(hF:Kd.C kIn w Af f.length f)(hcf:f.length<=cf)(hr:bi f=Ir) :
  I9 If 51 #[Ia Af f.length cf,o6 S A c] w λe w'=>∃v,e=Iv v/\Kd.R np 120 w' w.heap.size (λk=>w.heap.size<=k) v (fJ f S)/\It w.heap.size w w':=by
 have hok:=gq (bu hr) cut;have hwy:=gh f cut;rw[<-hSk]at hok hwy;have hl200:=(bu hr).len;have hn200:S.nodes.length<=200:=by have:=hok.len;omega
 have HBt:=MD (λ(W:Im) (hb:It w.heap.size w W)=>rP f cut S hSk A Af c cf W (hG.below hb) (Kd.C_below hC hb) (Kd.C_below hF hb) hcf hr);have HWs:=MD (λ(W:Im) (hb:It w.heap.size w W)=>Bx S (Ia A S.nodes.length c) W ⟨A,c,rfl,hcN,Kd.C_below hC hb⟩ hn200 hwy.1.few);have HBy:=MD (λ(W:Im) (hb:It w.heap.size w W) (e:bV) (l:Nat) (hl:l<24) (o:aX) (ho:dR S e=Ic o)=>FN f S A Af c cf e l hl W (Kd.C_below hC hb) hn200 (Kd.C_below hF hb) hok.at_ o ho);have HSml:=MD (fP hwy.1.few hn200);have HAll:=MD (pA S);have hwl:(a7 S).length<=200:=by rw[iW];exact hn200
 unfold o6 at HBt HBy ⊢;clear hok hwy hG hC hcN hF hcf hr hSk;go_enter Tryz.func51,Tryz.ntmps51;go_upto_region 1 with fail
 obtain⟨w1,hw1⟩:∃w1,w1=w.alloc (Is (S.entry.cells++[Ia A S.nodes.length c]).toArray 119):=⟨_,rfl⟩;have h1:w1.heap[w.heap.size]?=Ic (.cells (S.entry.cells++[Ia A S.nodes.length c]).toArray 119 (0,0)):=by rw[hw1];exact JZ w _
 have hb1:It w.heap.size w w1:=by rw[hw1];exact ae (Il _ _) _
 refine ar hw1.symm ?_;have H1:=MD h1;have HB1:=MD hb1;clear hw1 h1 hb1;go_upto_region 5 with(first
  |((with_reducible refine ai (N:=14) rfl ?_);refine II rfl 119 _ rfl w.heap.size rfl 119 (S.entry.cells++[Ia A S.nodes.length c]).toArray (0,0) _ H1.1 KE rfl (d_ _ _) ?_)
  |(go_at_call 80;refine(HBt.1 _ HB1.1).mono ?_;rintro e wa ⟨rfl,hb⟩;have Ha:=MD (ag H1.1 hb);have HBa:=MD (af HB1.1 hb);clear hb)
  |((with_reducible refine ai (N:=17) rfl ?_);refine II rfl 119 _ rfl w.heap.size rfl 119 (S.entry.cells++[Ia A S.nodes.length c]).toArray (0,0) _ Ha.1 KE rfl (d_ _ _) ?_)
  |(go_at_call 52;refine(HWs.1 _ HBa.1).mono ?_;rintro e w2 ⟨vW,rfl,hrd,hb⟩;obtain⟨AW,cW,rfl,hcW,hCW⟩:=hrd;have H2:=MD (ag Ha.1 hb);have HB2:=MD (af HBa.1 hb);have HCW:=MD hCW;clear hb hCW hcW))
 have hwB:aa (w.heap.size<w2.heap.size):=⟨aj H2.1⟩;go_loopw [5,20] (λvA j wr=>∃m:Nat,j=Ib Ie m/\aa (m<=(a7 S).length/\kP w2.heap.size w2 wr (Ia Ih 0 0) (Ia Ih 0 0) vA [] [] (((a7 S).take m).map λws=>ws.map (ex f S)))) (λ_ j _=>(a7 S).length-(Jj j).toNat)
 case atStart=>exact⟨0,rfl,⟨⟨ID _,⟨Il _ _,Kd.R_nil _ _ _ _ _,Kd.R_nil _ _ _ _ _,Kd.R_nil _ _ _ _ _⟩⟩⟩⟩
 case round=>
  obtain⟨m,rfl,HL⟩:=hrel;obtain⟨hm,hA⟩:=HL.1;obtain⟨all,hal⟩:∃all,all=((a7 S).take m).map (λws=>ws.map (ex f S)):=⟨_,rfl⟩;rw[<-hal]at hA;obtain⟨AA,cA,rfl⟩:=Kd.R_slice hA.a;by_cases hlt:m<(a7 S).length
  .have hlt':(m:Int)<((a7 S).length:Int):=by omega
   obtain⟨ws,hws⟩:∃ws,(a7 S)[m]?=Ic ws:=⟨_,Ig hlt⟩;obtain⟨ad,cs,rfl,_,hK,hcs⟩:=b_ HCW.1 m hlt ws hws;obtain⟨AE,cE,rfl,hlE,hCE⟩:=hK;have v0:wr.cell? (ad.add m)=Ic (.slice AE ws.length cE):=by
    have:=ak hA.b (hcs 0 _ rfl)
    rwa[show m*(Kd.slice 151 dw).sz+0=m from JQ m]at this
   have hsm:=HSml.1 ws (Iw hws);have hall:=HAll.1 m ws hws;have htk:((a7 S).take (m+1)).map (λws=>ws.map (ex f S))=((a7 S).take m).map (λws=>ws.map (ex f S))++[ws.map (ex f S)]:=by
    rw[JC hlt,(Ip.1 hws).2,LY];rfl
   have HTk:=MD htk;have HA:=MD hA;have HCE:=MD hCE;have HEv:=MD hall;have HLt:=MD hlt;have hall2:all.length<=200:=by rw[hal,Jb,Kt];omega
   rw[<-hal]at HTk;have hsm':(ws.length:Int)<=401:=by omega
   clear hws hcs hCE hall htk hA hlt hm HL hal;go_upto_region 9 with fail
   go_loopw [8,26] (λvN j wr=>∃k:Nat,j=Ib Ie k/\aa (k<=ws.length/\kP w2.heap.size w2 wr (Ia Ih 0 0) vN (Ia AA all.length cA) [] ((ws.take k).map (ex f S)) all)) (λ_ j _=>ws.length-(Jj j).toNat)
   case atStart=>exact⟨0,rfl,⟨⟨ID _,HA.1⟩⟩⟩
   case round=>
    obtain⟨k,rfl,HL⟩:=hrel;obtain⟨hk,hA⟩:=HL.1;obtain⟨nd,hnd⟩:=ME ((ws.take k).map (ex f S));rw[<-hnd]at hA;obtain⟨AN,cN,rfl⟩:=Kd.R_slice hA.n;by_cases hkl:k<ws.length
    .have hkl':(k:Int)<(ws.length:Int):=by omega
     obtain⟨e,he⟩:∃e,ws[k]?=Ic e:=⟨_,Ig hkl⟩;obtain⟨o,ho,_⟩:=HEv.1 e (Iw he);obtain⟨adE,csE,rfl,hKE,hldE⟩:=ba (P:=If) HCE.1 hA.b k hkl e he 151 MB rfl jp;obtain rfl:csE=e.cells:=hKE;have hnd2:(ws.take (k+1)).map (ex f S)=nd++[ex f S e]:=by
      rw[JC hkl,(Ip.1 he).2,LY,hnd];rfl
     have hndl:nd.length<=401:=by rw[hnd,Jb,Kt];omega
     have HNd:=MD hnd2;have HEo:=MD ho;have HLdE:=MD (show(Le 151 (adE.add (k*2))).run If wr=.ok (IA #[Ib Ie e.1,Ib Ie e.2]) wr from hldE);have HA2:=MD hA;have HKl:=MD hkl;clear hA hk HL hnd hnd2 he ho hldE hkl;obtain⟨wo,rfl⟩:=ME wr;go_upto_region 13 with(first
      |((with_reducible refine ai (N:=29) rfl ?_);refine av rfl 151 _ rfl (adE.add (k*2)) rfl _ HLdE.1 ?_))
     have hal:It wo.heap.size wo (wo.alloc (Is #[Ib Ie e.1,Ib Ie e.2] 151)):=ae (Il _ _) _;have HA4:=MD (HA2.1.below hal HA2.1.b.size);have H10:=MD (Iu wo (Is #[Ib Ie e.1,Ib Ie e.2] 151 (0,0)));clear hal;go_loopw [11,30] (λvR j wr=>∃l:Nat,j=Ib Ie l/\aa (l<=24/\wr.heap[wo.heap.size]?=Ic (.cells #[Ib Ie e.1,Ib Ie e.2] 151 (0,0))/\kP w2.heap.size w2 wr vR (Ia AN nd.length cN) (Ia AA all.length cA) ((Jy l).map (dq f S e)) nd all)) (λ_ j _=>24-(Jj j).toNat)
     case atStart=>exact⟨0,rfl,⟨⟨ID _,H10.1,HA4.1⟩⟩⟩
     case round=>
      obtain⟨l,rfl,HL⟩:=hrel;obtain⟨hl,hH,hA⟩:=HL.1;obtain⟨row,hrow⟩:=ME ((Jy l).map (dq f S e));rw[<-hrow]at hA;have HRl:=MD (show row.length=l by rw[hrow,Jb,List.length_range]);obtain⟨AR,cR,rfl⟩:=Kd.R_slice hA.r;by_cases hll:l<24
      .have hll':(l:Int)<24:=by omega
       have hbw:It w.heap.size w wr:=Fr.below (S:=λk=>w2.heap.size<=k) HB2.1 ⟨hA.b.os,hA.b.tape,hA.b.output,hA.b.size,λk hk hn=>hA.b.block k (by omega)⟩ (λk hk h=>by have:=hwB.1;omega) HB2.1.size;have hbx:=(hA.b.block w.heap.size hwB.1).trans H2.1;have hcall:=HBy.1 wr hbw e l hll o HEo.1;obtain⟨s,hs⟩:=ME (dq f S e l);rw[<-hs]at hcall;have hrow2:(Jy (l+1)).map (dq f S e)=row++[s]:=by rw[Lc,LY,hrow,hs];rfl
       have HCall:=MD (show I9 If 82 #[Ia Af f.length cf,IA (S.entry.cells++[Ia A S.nodes.length c]).toArray,IA #[Ib Ie e.1,Ib Ie e.2],Ib Ie (l:Int)] wr λr w'=>r=Iv (IA #[Ib Ie s.kind,Ib Ie s.n])/\It wr.heap.size wr w' from hcall);have HBx:=MD hbx;have H10a:=MD hH;have HA4:=MD hA;have HRow:=MD hrow2;clear hbw hbx hcall hs hrow hrow2 hH hA hl HL hll;go_wp2_with (first
        |((with_reducible refine ai (N:=35) rfl ?_);refine II rfl 119 _ rfl w.heap.size rfl 119 (S.entry.cells++[Ia A S.nodes.length c]).toArray (0,0) _ HBx.1 KE rfl (d_ _ _) ?_)
        |((with_reducible refine ai (N:=36) rfl ?_);refine II rfl 151 _ rfl wo.heap.size rfl 151 #[Ib Ie e.1,Ib Ie e.2] (0,0) _ H10a.1 MB rfl jp ?_)
        |(go_at_call 82;refine HCall.1.mono ?_;rintro r w5 ⟨rfl,hb⟩;have HA5:=MD (HA4.1.below hb HA4.1.b.size);have H10b:=MD (ag H10a.1 hb);clear hb)
        |((with_reducible refine a6 (b:=.append) (xs:=#[.tmp 33,.tmp 39]) rfl ?_);at_builtin;refine Kd.R_append fF (w0:=w2) w2.heap.size rfl (.tmp 33) (.tmp 39) 143 135 (IA #[Ib Ie 0,Ib Ie 0]) 16 rfl Tryz.underlying143 nu rfl (by decide) (by omega) (Ia AR row.length cR) (row) (s) [Ib Ie s.kind,Ib Ie s.n] (λj=>w2.heap.size<=j) (λ_=>False) rfl rfl ?aP (λ_ hk=>hk.elim) ?aF ?aO ?aB ?aS ?aL ?_;(case aP=>exact rfl);(case aF=>exact(λb hb=>by have:=HA5.1.b.size;omega));(case aO=>exact HA5.1.r);(case aB=>exact HA5.1.b);(case aS=>exact HA5.1.b.size);(case aL=>have:=HRl.1;omega);intro vap wap ho hb hg hat;have HA7:=MD (HA5.1.appR ho hb hg hat);have H11:=MD ((hg.block _ (aj H10b.1) (Kd.R_ne HA5.1.r H10b.1 (by decide))).trans H10b.1);clear ho hb hg hat))
       go_roundw
       case rel=>exact⟨l+1,by go_num,⟨⟨by omega,H11.1,by rw[HRow.1];exact HA7.1⟩⟩⟩
       case measure=>simp[Jj];omega
      .obtain rfl:l=24:=by omega
       have HA6:=MD hA;have HNd2:=MD (show(ws.take (k+1)).map (ex f S)=nd++[row] by rw[HNd.1,hrow];rfl);clear hA hl HL hrow hH;go_wp2_with (first
        |((with_reducible refine a6 (b:=.append) (xs:=#[.tmp 42,.tmp 44]) rfl ?_);at_builtin;refine Kd.R_append my (w0:=w2) w2.heap.size rfl (.tmp 42) (.tmp 44) 120 143 (Ia Ih 0 0) 24 rfl Tryz.underlying120 Az rfl (by decide) (by omega) (Ia AN nd.length cN) (nd) (row) [Ia AR row.length cR] (λj=>w2.heap.size<=j) (λj=>w2.heap.size<=j/\Ic j≠(Ia AN nd.length cN).ownBlock) rfl rfl ?aP (λk hk=>hk) ?aF ?aO ?aB ?aS ?aL ?_;(case aP=>exact HA6.1.rowM);(case aF=>exact(λb hb=>by have:=HA6.1.b.size;omega));(case aO=>exact Kd.R_mono HA6.1.n (λk hk=>hk.1));(case aB=>exact HA6.1.b);(case aS=>exact HA6.1.b.size);(case aL=>omega);intro vap wap ho hb hg hat;have HA8:=MD (HA6.1.appN ho hb hg hat);clear ho hb hg hat))
       go_roundw
       case rel=>exact⟨k+1,by go_num,⟨⟨HKl.1,by rw[HNd2.1];exact HA8.1⟩⟩⟩
       case measure=>have:=HKl.1;simp[Jj];omega
    .obtain rfl:k=ws.length:=by omega
     rw[Kh]at hnd;rw[<-hnd]at HTk;have HA3:=MD hA;clear hA hk HL hnd;go_wp2_with (first
      |((with_reducible refine a6 (b:=.append) (xs:=#[.tmp 47,.tmp 49]) rfl ?_);at_builtin;refine Kd.R_append np (w0:=w2) w2.heap.size rfl (.tmp 47) (.tmp 49) 121 120 (Ia Ih 0 0) 24 rfl Tryz.underlying121 E8 rfl (by decide) (by omega) (Ia AA all.length cA) (all) (nd) [Ia AN nd.length cN] (λj=>w2.heap.size<=j) (λj=>w2.heap.size<=j/\Ic j≠(Ia AA all.length cA).ownBlock) rfl rfl ?aP (λk hk=>hk) ?aF ?aO ?aB ?aS ?aL ?_;(case aP=>exact HA3.1.nodeM);(case aF=>exact(λb hb=>by have:=HA3.1.b.size;omega));(case aO=>exact Kd.R_mono HA3.1.a (λk hk=>hk.1.1));(case aB=>exact HA3.1.b);(case aS=>exact HA3.1.b.size);(case aL=>omega);intro vap wap ho hb hg hat;have HA5:=MD (kP.appA ho hb);clear ho hb hg hat))
     go_roundw
     case rel=>exact⟨m+1,by go_num,⟨⟨HLt.1,by rw[HTk.1];exact HA5.1⟩⟩⟩
     case measure=>have:=HLt.1;simp[Jj];omega
  .obtain rfl:m=(a7 S).length:=by omega
   rw[Kh]at hal;have HA3:=MD hA;have HAl:=MD (show fJ f S=all from hal.symm);clear hA hm HL hal;go_wp2;go_ret;rw[HAl.1];refine⟨_,rfl,Kd.R_lower (Kd.R_mono HA3.1.a (λk hk=>by have:=hwB.1;have:=hk.1.1;omega)) (by have:=hwB.1;omega),?_⟩;exact Fr.below (S:=λk=>w2.heap.size<=k) HB2.1 ⟨HA3.1.b.os,HA3.1.b.tape,HA3.1.b.output,HA3.1.b.size,λk hk hn=>HA3.1.b.block k hk⟩ (λk hk h=>by have:=hwB.1;omega) HB2.1.size
end
def opn:Src:=⟨-1,0⟩
def c_(facts:List (List Src))(e:bV)(x:Src):Src:=if x.kind=4 then(facts.getD e.1.toNat []).getD x.n.toNat opn else x
def br(own:Src):List Src->Src->Src
 | [],now=>now
 |v::vs,now=>if v=opn then br own vs now else if(v.kind≠2/\v.kind≠0)\/(now≠opn/\now≠v)then own else br own vs v
def q_(f:List In)(S:bj)(facts:List (List Src))(n l:Nat):List Src:=((a7 S).getD n []).map λe=>c_ facts e (dq f S e l)
def dc(f:List In)(S:bj)(facts:List (List Src))(n l:Nat):Src:=br ⟨4,l⟩ (q_ f S facts n l) opn
theorem Gk(d:Nat)(w:Im)(a0 a1 b0 b1:Int):(Jp (d+2) 135 (IA #[Ib Ie a0,Ib Ie a1]) (IA #[Ib Ie b0,Ib Ie b1])).run If w=.ok (a0==b0&&(a1==b1)) w:=by
 refine kF IN (by kernel_rfl) ?_;refine dW (by rfl) (by go_simp;rfl) (by go_simp;rfl) (by go_simp) ?_;exact gH (by rfl) (by go_simp;rfl) (by go_simp;rfl) (by go_simp)
theorem FS(x y:Src):(x.kind==y.kind&&(x.n==y.n))=decide (x=y):=by
 obtain⟨a,b⟩:=x;obtain⟨c,d⟩:=y;rw[L6];simp[Src.mk.injEq]
theorem GN(x y:Src)(w:Im):(binOp .neq 135 (IA #[Ib Ie x.kind,Ib Ie x.n]) (IA #[Ib Ie y.kind,Ib Ie y.n])).run If w=.ok (Iy (!decide (x=y))) w:=by
 have h:(Op.equal 135 (IA #[Ib Ie x.kind,Ib Ie x.n]) (IA #[Ib Ie y.kind,Ib Ie y.n])).run If w=.ok (decide (x=y)) w:=by
  rw[<-FS];exact Gk 9998 w _ _ _ _
 simp only[binOp,IJ,h,I1,JO]
def eJ(t:Option Src)(v:Src):Option Src:=match t with
 |none=>Ih
 |some now=>if v=opn then Ic now else if(v.kind≠2/\v.kind≠0)\/(now≠opn/\now≠v)then Ih else Ic v
theorem Ce(vs:List Src):vs.foldl eJ Ih=Ih:=by
 induction vs with
 |nil=>rfl
 |cons v vs ih=>exact ih
theorem lK(own:Src):∀(vs:List Src) (now:Src),br own vs now=(vs.foldl eJ (Ic now)).getD own
 | [],_=>rfl
 |v::vs,now=>by
  rw[Ml];by_cases h1:v=opn
  .have e1:eJ (Ic now) v=Ic now:=by unfold eJ;simp only;rw[if_pos h1]
   rw[e1,<-lK own vs now,br,if_pos h1]
  .by_cases h2:(v.kind≠2/\v.kind≠0)\/(now≠opn/\now≠v)
   .have e1:eJ (Ic now) v=Ih:=by unfold eJ;simp only;rw[if_neg h1,if_pos h2]
    rw[e1,Ce,br,if_neg h1,if_pos h2];rfl
   .have e1:eJ (Ic now) v=Ic v:=by unfold eJ;simp only;rw[if_neg h1,if_neg h2]
    rw[e1,<-lK own vs v,br,if_neg h1,if_neg h2]
def LeT(t u:Option Src):Prop:=u=Ih\/t=Ic opn\/t=u
def LeV(v u:Src):Prop:=v=opn\/v=u\/(u≠opn/\u.kind≠2/\u.kind≠0)
theorem Bv{t t':Option Src}{v u:Src}(ht:LeT t t')(hv:LeV v u):LeT (eJ t v) (eJ t' u):=by
 cases t' with
 |none=>exact .inl rfl
 |some n'=>
  by_cases hbad:u≠opn/\u.kind≠2/\u.kind≠0
  .refine .inl ?_
   show(if u=opn then _ else _)=Ih;rw[if_neg hbad.1,if_pos (.inl hbad.2)]
  .cases t with
   |none=>rcases ht with h|h|h<;>exact absurd h (by simp)
   |some n=>
    have hn:n=opn\/n=n':=by
     rcases ht with h|h|h
     .exact absurd h (by simp)
     .exact .inl (Ii h)
     .exact .inr (Ii h)
    have hvu:v=opn\/v=u:=by
     rcases hv with h|h|h
     .exact .inl h
     .exact .inr h
     .exact absurd h hbad
    by_cases hvo:v=opn
    .have e1:eJ (Ic n) v=Ic n:=by unfold eJ;simp only;rw[if_pos hvo]
     rw[e1];by_cases huo:u=opn
     .have e2:eJ (Ic n') u=Ic n':=by unfold eJ;simp only;rw[if_pos huo]
      rw[e2];rcases hn with h|h
      .exact .inr (.inl (by rw[h]))
      .exact .inr (.inr (by rw[h]))
     .by_cases hc:(u.kind≠2/\u.kind≠0)\/(n'≠opn/\n'≠u)
      .refine .inl ?_
       unfold eJ;simp only;rw[if_neg huo,if_pos hc]
      .have e2:eJ (Ic n') u=Ic u:=by unfold eJ;simp only;rw[if_neg huo,if_neg hc]
       rw[e2];rcases hn with h|h
       .exact .inr (.inl (by rw[h]))
       .by_cases hno:n'=opn
        .exact .inr (.inl (by rw[h,hno]))
        .have:n'=u:=by
          by_cases q:n'=u
          .exact q
          .exact absurd (.inr ⟨hno,q⟩) hc
         exact .inr (.inr (by rw[h,this]))
    .have hvu2:v=u:=hvu.resolve_left hvo
     subst hvu2;by_cases hc:(v.kind≠2/\v.kind≠0)\/(n'≠opn/\n'≠v)
     .refine .inl ?_
      unfold eJ;simp only;rw[if_neg hvo,if_pos hc]
     .have e2:eJ (Ic n') v=Ic v:=by unfold eJ;simp only;rw[if_neg hvo,if_neg hc]
      have hc2:¬((v.kind≠2/\v.kind≠0)\/(n≠opn/\n≠v)):=by
       rintro(q|q)
       .exact hc (.inl q)
       .rcases hn with h|h
        .exact q.1 h
        .exact hc (.inr (by rw[<-h];exact q))
      have e1:eJ (Ic n) v=Ic v:=by unfold eJ;simp only;rw[if_neg hvo,if_neg hc2]
      rw[e1,e2];exact .inr (.inr rfl)
def LeS(own s t:Src):Prop:=t=own\/s=opn\/s=t
theorem so{α:Type}(F G:α->Src):∀(es:List α) (t t':Option Src),(∀e∈es,LeV (F e) (G e))->LeT t t'->LeT ((es.map F).foldl eJ t) ((es.map G).foldl eJ t')
 | [],_,_,_,h=>h
 |e::es,t,t',hv,h=>by
  rw[Jt,Jt,Ml,Ml];exact so F G es _ _ (λx hx=>hv x (Jm _ hx)) (Bv h (hv e (JH ..)))
theorem BT{α:Type}(own:Src)(F G:α->Src)(es:List α)(hv:∀e∈es,LeV (F e) (G e)):LeS own (br own (es.map F) opn) (br own (es.map G) opn):=by
 rw[lK,lK];rcases so F G es (Ic opn) (Ic opn) hv (.inr (.inr rfl))with h|h|h
 .exact .inl (by rw[h];rfl)
 .exact .inr (.inl (by rw[h];rfl))
 .exact .inr (.inr (by rw[h]))
def LeF(F G:List (List Src)):Prop:=∀n l:Nat,LeS ⟨4,(l:Int)⟩ ((F.getD n []).getD l opn) ((G.getD n []).getD l opn)
theorem yu{F G:List (List Src)}(h:LeF F G)(e:bV)(x:Src):LeV (c_ F e x) (c_ G e x):=by
 unfold c_;split
 .rcases h e.1.toNat x.n.toNat with q|q|q
  .rw[q];exact .inr (.inr ⟨λe=>by injection e with e _;exact absurd e (by decide),(by show(4:Int)≠2;decide),(by show(4:Int)≠0;decide)⟩)
  .exact .inl q
  .exact .inr (.inl q)
 .exact .inr (.inl rfl)
theorem uS(f:List In)(S:bj){F G:List (List Src)}(h:LeF F G)(n l:Nat):LeS ⟨4,(l:Int)⟩ (dc f S F n l) (dc f S G n l):=by
 unfold dc q_;exact BT _ _ _ _ (λe _=>yu h e _)
def kw(l:Nat):Src:=⟨4,(l:Int)⟩
def dg(F:List (List Src))(n l:Nat):Src:=(F.getD n []).getD l opn
def lp(F:List (List Src))(n l:Nat)(x:Src):List (List Src):=F.set n ((F.getD n []).set l x)
structure gS(N:Nat)(F:List (List Src)):Prop where
 len:F.length=N
 row:∀r∈F,r.length=24
theorem gS.at_{N:Nat}{F:List (List Src)}(h:gS N F){n:Nat}(hn:n<N):(F.getD n []).length=24:=by
 rw[Ij,Ig (by rw[h.len];exact hn)];exact h.row _ (K8 _)
theorem gS.put{N:Nat}{F:List (List Src)}(h:gS N F){n:Nat}(hn:n<N)(l:Nat)(x:Src):gS N (lp F n l x):=by
 refine⟨by unfold lp;rw[Jq];exact h.len,λr hr=>?_⟩;rcases KA hr with hr|rfl
 .exact h.row r hr
 .rw[Jq];exact h.at_ hn
theorem mj{N:Nat}{F:List (List Src)}(h:gS N F){n l:Nat}(hn:n<N)(hl:l<24)(x:Src):dg (lp F n l x) n l=x:=by
 unfold dg lp;rw[Ij (l:=F.set _ _),Jw (by rw[h.len];exact hn)];simp only[JL];rw[Ij,Jw (by rw[h.at_ hn];exact hl)];rfl
theorem lF{F:List (List Src)}{n l m k:Nat}(hne:¬(m=n/\k=l))(x:Src):dg (lp F n l x) m k=dg F m k:=by
 unfold dg lp;by_cases hm:m=n
 .subst hm
  have hk:k≠l:=λe=>hne ⟨rfl,e⟩;by_cases hlt:m<F.length
  .rw[Ij (l:=F.set _ _),Jw hlt]
   simp only[JL];rw[Ij,JR (λe=>hk e.symm),<-Ij]
  .rw[List.set_eq_of_length_le (by omega)]
 .rw[Ij (l:=F.set _ _),JR (λe=>hm e.symm),<-Ij]
theorem LeS.trans{l:Nat}{s t u:Src}(h:LeS (kw l) s t)(k:LeS (kw l) t u):LeS (kw l) s u:=by
 rcases k with k|k|k
 .exact .inl k
 .rcases h with h|h|h
  .rw[h]at k;exact absurd k (by unfold kw opn;intro e;injection e with e _;exact absurd e (by decide))
  .exact .inr (.inl h)
  .exact .inr (.inl (h.trans k))
 .rw[<-k];exact h
theorem LeS.refl(own s:Src):LeS own s s:=.inr (.inr rfl)
def Inc(f:List In)(S:bj)(N:Nat)(F:List (List Src)):Prop:=∀n l,n<N->l<24->LeS (kw l) (dg F n l) (dc f S F n l)
theorem Inc.put{f:List In}{S:bj}{N:Nat}{F:List (List Src)}(hs:gS N F)(h:Inc f S N F){n l:Nat}(hn:n<N)(hl:l<24):LeF F (lp F n l (dc f S F n l))/\Inc f S N (lp F n l (dc f S F n l)):=by
 have hle:LeF F (lp F n l (dc f S F n l)):=by
  intro m k;show LeS (kw k) (dg F m k) (dg (lp F n l (dc f S F n l)) m k);by_cases e:m=n/\k=l
  .obtain⟨rfl,rfl⟩:=e
   rw[mj hs hn hl];exact h m k hn hl
  .rw[lF e]
   exact LeS.refl _ _
 refine⟨hle,λm k hm hk=>?_⟩;have hup:LeS (kw k) (dc f S F m k) (dc f S (lp F n l (dc f S F n l)) m k):=uS f S hle m k;by_cases e:m=n/\k=l
 .obtain⟨rfl,rfl⟩:=e
  rw[mj hs hn hl];exact hup
 .rw[lF e]
  exact(h m k hm hk).trans hup
def ln(l:Nat)(s:Src):Nat:=if s=opn then 0 else if s=kw l then 2 else 1
theorem EI(l:Nat)(s:Src):ln l s<=2:=by unfold ln;split;exact ID _;split<;>omega
theorem EH{l:Nat}{s t:Src}(h:LeS (kw l) s t)(hne:t≠s):ln l s<ln l t:=by
 have ho:kw l≠opn:=by unfold kw opn;intro e;injection e with e _;exact absurd e (by decide)
 rcases h with h|h|h
 .subst h
  unfold ln;rw[if_neg ho,if_pos rfl];split
  .omega
  .rw[if_neg (λe=>hne e.symm)];omega
 .subst h
  unfold ln;rw[if_pos rfl,if_neg hne];split<;>omega
 .exact absurd h.symm hne
def fM:List Src->Nat->Nat
 | [],_=>0
 |s::r,l=>ln l s+fM r (l+1)
theorem p9:∀(r:List Src) (l:Nat),fM r l<=2*r.length
 | [],_=>Iz _
 |s::r,l=>by
  have:=p9 r (l+1);have:=EI l s;simp only[fM,Jz];omega
theorem oO:∀(r:List Src) (l k:Nat) (x:Src),k<r.length->ln (l+k) (r.getD k opn)<ln (l+k) x->fM r l<fM (r.set k x) l
 | [],_,_,_,h,_=>absurd h (by simp)
 |s::r,l,0,x,_,h=>by
  simp only[IY,fM];have:ln l s<ln l x:=h;omega
 |s::r,l,k+1,x,hk,h=>by
  simp only[IZ,fM];have:=oO r (l+1) k x (by simpa using hk) (by rw[show l+1+k=l+(k+1) by omega];exact h);omega
def jz(F:List (List Src)):Nat:=(F.map λr=>fM r 0).sum
theorem uy{N:Nat}{F:List (List Src)}(h:gS N F):jz F<=48*N:=by
 obtain⟨hl,hr⟩:=h;subst hl
 induction F with
 |nil=>exact Iz _
 |cons r F ih=>
  have h1:=ih (λq hq=>hr q (Jm _ hq));have h2:=p9 r 0;have h3:=hr r (JH ..);simp only[jz,Jt,List.sum_cons,Jz]at h1 ⊢;omega
theorem Aj:∀(F:List (List Src)) (n:Nat) (r:List Src),n<F.length->fM (F.getD n []) 0<fM r 0->jz F<jz (F.set n r)
 | [],_,_,h,_=>absurd h (by simp)
 |q::F,0,r,_,h=>by
  simp only[IY,jz,Jt,List.sum_cons];have:fM q 0<fM r 0:=h;omega
 |q::F,n+1,r,hn,h=>by
  have:=Aj F n r (by simpa using hn) h;simp only[IZ,jz,Jt,List.sum_cons]at this ⊢;omega
theorem Db{f:List In}{S:bj}{N:Nat}{F:List (List Src)}(hs:gS N F)(h:Inc f S N F){n l:Nat}(hn:n<N)(hl:l<24)(hne:dc f S F n l≠dg F n l):jz F<jz (lp F n l (dc f S F n l)):=by
 refine Aj F n _ (by rw[hs.len];exact hn) (oO _ 0 l _ (by rw[hs.at_ hn];exact hl) ?_);rw[KB];exact EH (h n l hn hl) hne
theorem bO{P:Jn}{ops:Array Oper}{w:Im}{Q:Act->Prop}{a:Act}{o:Oper}{rest:List Oper}{v:Io}(hw:Jk o (KH ops a.tmps)=Ir)(hrun:(JJ a.eval o).run P w=.ok (.value v) w)(h:wpStill P ops w Q rest (a.put o.dst v)):wpStill P ops w Q (o::rest) a:=by
 unfold wpStill;rw[if_pos hw];unfold Oper.still;rw[hrun];exact⟨rfl,h⟩
theorem A6{S:bj}(hw:iD S.nodes)(he:OOk S.nodes.length S.entry){e:bV}{o:aX}(h:dR S e=Ic o):OOk S.nodes.length o:=by
 unfold dR at h;split at h
 .obtain rfl:=Ii h
  exact he
 .split at h
  .exact absurd h (by simp)
  .obtain⟨x,hx,ho⟩:=L7.1 h
   exact hw.ok x (Iw hx) o (Iw ho)
theorem Bw{f:List In}{S:bj}{e:bV}{s:Sr}(hk:(dB f S e s).kind=4):(dB f S e s).n=s.loc:=by
 revert hk;unfold dB;split
 .intro hk;simp at hk
 .split
  .split<;>(intro hk;simp at hk)
  .split
   .intro hk;simp at hk
   .intro _;rfl
theorem zN{f:List In}{S:bj}{e:bV}{o:aX}(hok:OOk S.nodes.length o)(ho:dR S e=Ic o){l:Nat}(hl:l<24)(hk:(dq f S e l).kind=4):0<=e.1/\e.1<(S.nodes.length:Int)/\0<=(dq f S e l).n/\(dq f S e l).n<24:=by
 have hn:¬e.1<0:=by
  intro hn;unfold dq dB at hk;split at hk
  .simp at hk
  .rw[if_pos hn]at hk
   split at hk<;>simp at hk
 obtain⟨x,hx⟩:=kG ho hn;have h1:=(Ip.1 hx).1;have ht:((o.t).getD l .no).ok=Ir:=by
  rw[Ij,Ig (by rw[hok.t.len];exact hl)];exact hok.t.ok _ (K8 _)
 have h2:0<=(dq f S e l).n/\(dq f S e l).n<24:=by
  have h3:(dq f S e l).n=(o.t.getD l .no).loc:=by
   have h4:=Bw hk;unfold dq;rw[ho]at h4 ⊢;exact h4
  rw[h3];cases hs:o.t.getD l .no with
  |is n=>exact⟨by show(0:Int)<=0;decide,by show(0:Int)<24;decide⟩
  |no=>rw[hs]at ht;simp[Sr.ok]at ht
  |was k=>
   rw[hs]at ht;have hr:0<=k/\k<=23:=of_decide_eq_true ht;exact⟨hr.1,by show k<24;omega⟩
 exact⟨by omega,by omega,h2⟩
def fH(f:List In)(S:bj)(n l:Nat)(r:List (List Src)×Bool):List (List Src)×Bool:=
 if dc f S r.1 n l=dg r.1 n l then r else(lp r.1 n l (dc f S r.1 n l),Ir)
def gx(f:List In)(S:bj)(n k:Nat)(r:List (List Src)×Bool):List (List Src)×Bool:=(Jy k).foldl (λr l=>fH f S n l r) r
def gX(f:List In)(S:bj)(k:Nat)(r:List (List Src)×Bool):List (List Src)×Bool:=(Jy k).foldl (λr n=>gx f S n 24 r) r
def iU(f:List In)(S:bj):Nat->List (List Src)->List (List Src)
 |0,F=>F
 |k+1,F=>if(gX f S S.nodes.length (F,Ik)).2=Ir then iU f S k (gX f S S.nodes.length (F,Ik)).1 else(gX f S S.nodes.length (F,Ik)).1
def jr(N:Nat):List (List Src):=IF N (IF 24 opn)
def bD(f:List In)(S:bj):List (List Src):=iU f S (48*S.nodes.length+1) (jr S.nodes.length)
theorem iM(f:List In)(S:bj)(n k:Nat)(r:List (List Src)×Bool):gx f S n (k+1) r=fH f S n k (gx f S n k r):=by
 unfold gx;rw[Lc,List.foldl_append];rfl
theorem lv(f:List In)(S:bj)(k:Nat)(r:List (List Src)×Bool):gX f S (k+1) r=gx f S k 24 (gX f S k r):=by
 unfold gX;rw[Lc (n:=k),List.foldl_append,Ml,List.foldl_nil]
structure nP(f:List In)(S:bj)(F0:List (List Src))(r:List (List Src)×Bool):Prop where
 sh:gS S.nodes.length r.1
 inc:Inc f S S.nodes.length r.1
 le:jz F0<=jz r.1
 lt:r.2=Ir->jz F0<jz r.1
 same:r.2=Ik->r.1=F0
theorem nP.cell{f:List In}{S:bj}{F0:List (List Src)}{r:List (List Src)×Bool}(h:nP f S F0 r){n l:Nat}(hn:n<S.nodes.length)(hl:l<24):nP f S F0 (fH f S n l r):=by
 by_cases hne:dc f S r.1 n l=dg r.1 n l
 .unfold fH
  rw[if_pos hne];exact h
 .have hr:=Db h.sh h.inc hn hl hne
  have h1:=h.sh.put hn l (dc f S r.1 n l);have h2:=(h.inc.put h.sh hn hl).2;have h3:=h.le;unfold fH;rw[if_neg hne];exact⟨h1,h2,IT h3 (Mv hr),λ_=>Nat.lt_of_le_of_lt h3 hr,λe=>Ix e⟩
theorem nP.row{f:List In}{S:bj}{F0:List (List Src)}{r:List (List Src)×Bool}(h:nP f S F0 r){n:Nat}(hn:n<S.nodes.length):∀k,k<=24->nP f S F0 (gx f S n k r)
 |0,_=>h
 |k+1,hk=>by rw[iM];exact(nP.row h hn k (by omega)).cell hn (by omega)
theorem nP.pass{f:List In}{S:bj}{F0:List (List Src)}{r:List (List Src)×Bool}(h:nP f S F0 r):∀k,k<=S.nodes.length->nP f S F0 (gX f S k r)
 |0,_=>h
 |k+1,hk=>by rw[lv];exact(nP.pass h k (by omega)).row (by omega) 24 (Iz _)
theorem Gf(N n l:Nat):dg (jr N) n l=opn:=by
 unfold dg jr;by_cases h:n<N
 .simp only[Ij,Ku,if_pos h,JL]
  split<;>rfl
 .simp only[Ij,Ku,if_neg h,Option.getD_none,List.getElem?_nil]
theorem Ak(N:Nat):gS N (jr N):=⟨by unfold jr;rw[JP],λr hr=>by rw[J5 hr,JP]⟩
theorem FG(f:List In)(S:bj)(N:Nat):Inc f S N (jr N):=λn l _ _=>.inr (.inl (Gf N n l))
structure oC(f:List In)(S:bj)(k:Nat)(m:Bool)(F:List (List Src)):Prop where
 sh:gS S.nodes.length F
 inc:Inc f S S.nodes.length F
 more:m=Ir->iU f S k F=bD f S/\48*S.nodes.length+1<=jz F+k
 done:m=Ik->F=bD f S
theorem oC.start(f:List In)(S:bj):oC f S (48*S.nodes.length+1) Ir (jr S.nodes.length):=⟨Ak _,FG _ _ _,λ_=>⟨rfl,by omega⟩,λe=>by simp at e⟩
theorem oC.inv{f:List In}{S:bj}{k:Nat}{m:Bool}{F:List (List Src)}(h:oC f S k m F):nP f S F (F,Ik):=⟨h.sh,h.inc,Iz _,λe=>by simp at e,λ_=>rfl⟩
theorem oC.pos{f:List In}{S:bj}{k:Nat}{F:List (List Src)}(h:oC f S k Ir F):0<k:=by
 have:=(h.more rfl).2;have:=uy h.sh;omega
theorem oC.round{f:List In}{S:bj}{k:Nat}{F:List (List Src)}(h:oC f S (k+1) Ir F){r:List (List Src)×Bool}(hr:r=gX f S S.nodes.length (F,Ik)):oC f S k r.2 r.1:=by
 have hi:=h.inv.pass S.nodes.length (Iz _);rw[<-hr]at hi;have hm:=h.more rfl;unfold iU at hm;rw[<-hr]at hm;refine⟨hi.sh,hi.inc,λe=>?_,λe=>?_⟩
 .rw[if_pos e]at hm
  have:=hi.lt e;exact⟨hm.1,by omega⟩
 .rw[if_neg (by rw[e];simp)]at hm
  exact hm.1
theorem Ct{f:List In}{S:bj}{n l:Nat}{r:List (List Src)×Bool}(h:(fH f S n l r).2=Ik):fH f S n l r=r/\dc f S r.1 n l=dg r.1 n l:=by
 unfold fH at h ⊢;split
 .rename_i e;exact⟨rfl,e⟩
 .rename_i e;rw[if_neg e]at h;simp at h
theorem ur{f:List In}{S:bj}{n:Nat}{r:List (List Src)×Bool}:∀k,(gx f S n k r).2=Ik->gx f S n k r=r/\∀l,l<k->dc f S r.1 n l=dg r.1 n l
 |0,_=>⟨rfl,λl h=>absurd h (LG _)⟩
 |k+1,h=>by
  rw[iM]at h ⊢;obtain⟨h1,h2⟩:=Ct h;rw[h1]at h ⊢;obtain⟨h3,h4⟩:=ur k h;rw[h3]at h2 ⊢;exact⟨rfl,λl hl=>by
   by_cases e:l=k
   .subst e;exact h2
   .exact h4 l (by omega)⟩
theorem sb{f:List In}{S:bj}{r:List (List Src)×Bool}:∀k,(gX f S k r).2=Ik->gX f S k r=r/\∀n l,n<k->l<24->dc f S r.1 n l=dg r.1 n l
 |0,_=>⟨rfl,λn l h=>absurd h (LG _)⟩
 |k+1,h=>by
  rw[lv]at h ⊢;obtain⟨h1,h2⟩:=ur 24 h;rw[h1]at h ⊢;obtain⟨h3,h4⟩:=sb k h;rw[h3]at h2 ⊢;exact⟨rfl,λn l hn hl=>by
   by_cases e:n=k
   .subst e;exact h2 l hl
   .exact h4 n l (by omega) hl⟩
structure rq(f:List In)(S:bj)(F:List (List Src)):Prop where
 sh:gS S.nodes.length F
 fix:∀n l,n<S.nodes.length->l<24->dc f S F n l=dg F n l
theorem kT{f:List In}{S:bj}:∀(k:Nat) (F:List (List Src)),gS S.nodes.length F->Inc f S S.nodes.length F->48*S.nodes.length+1<=jz F+k->rq f S (iU f S k F)
 |0,F,hs,_,hk=>by have:=uy hs;omega
 |k+1,F,hs,hi,hk=>by
  have hv:nP f S F (F,Ik):=⟨hs,hi,Iz _,λe=>by simp at e,λ_=>rfl⟩;have hp:=hv.pass S.nodes.length (Iz _);unfold iU;by_cases e:(gX f S S.nodes.length (F,Ik)).2=Ir
  .rw[if_pos e]
   have:=hp.lt e;exact kT k _ hp.sh hp.inc (by omega)
  .rw[if_neg e]
   obtain⟨h1,h2⟩:=sb S.nodes.length (Bool.eq_false_iff.2 e);rw[h1];exact⟨hs,h2⟩
theorem iw(f:List In)(S:bj):rq f S (bD f S):=kT _ _ (Ak _) (FG _ _ _) (by omega)
theorem oC.end_{f:List In}{S:bj}{k:Nat}{F:List (List Src)}(h:oC f S k Ik F):F=bD f S:=h.done rfl
end Go.Proofs.YtlinbehijfcelaaGreatDoor.Top
