/- Walks of the program, and what it computes, told plainly. No condition. (VO VP VQ VR VS) -/
import Derived.Below
import Derived.Deep.Draws
import Derived.Deep.AppendLies
import Derived.Maps.AppendAt
import Derived.OwnWalk
import Derived.Laws.BytesArg
import Derived.Laws.MakeOwn
import Derived.Laws.OwnMore
import Derived.Deep.OwnRows
import Derived.Tactics
import Derived.Lib.ConvBytes
import Derived.Laws.Slices
import Derived.WalkKit
import Derived.KernelRfl
import Derived.RowKit3
import Derived.Deep.LoopGhost
import Derived.Deep.QuietTactic
import Derived.BigQuiet
import Derived.WideLaws
import Derived.Deep.DeepCutAuto
import Derived.Deep.CutBlock
import Derived.Deep.RegionHeld3
import Derived.Laws.Rows
import Derived.Lib.AppendStr
import Derived.ArgAppend
import Derived.Laws.IdiomCopy
import Derived.RowKit
import Derived.OrdersHeld
import Derived.Laws.BitsLemmas
import Derived.Laws.StructEq
import Derived.Test.YtlinbehijfcelaaGreatDoorProg
import Derived.Deep.WholeRow
import Derived.Laws.CopyOwn
import Derived.Carry
import Derived.ChangeKeysEq
import Derived.Laws.RangeAny
import Derived.Deep.MidRow
import Derived.Laws.Tables
import Derived.StillTailTactics
import Derived.Test.YtlinbehijfcelaaGreatDoorPA
import Derived.Test.YtlinbehijfcelaaGreatDoorPB
import Derived.Test.YtlinbehijfcelaaGreatDoorPC
import Derived.Test.YtlinbehijfcelaaGreatDoorPD
import Derived.Test.YtlinbehijfcelaaGreatDoorPE
import Derived.Test.YtlinbehijfcelaaGreatDoorPF
import Derived.Test.YtlinbehijfcelaaGreatDoorPG
import Derived.Test.YtlinbehijfcelaaGreatDoorPH
import Derived.Test.YtlinbehijfcelaaGreatDoorPM
import Derived.Test.YtlinbehijfcelaaGreatDoorPN
import Derived.Test.YtlinbehijfcelaaGreatDoorPO
import Derived.Test.YtlinbehijfcelaaGreatDoorPP
set_option linter.unusedVariables false
set_option linter.unusedSimpArgs false
set_option linter.unusedSectionVars false
set_option maxHeartbeats 8000000
set_option maxRecDepth 100000
open Go renaming Calls->I9,Operand->Lf,Program->Jn,TypeId->Je,Value->Io,World->Im,bodyPost_ret->IG,execOp->JJ,heap_alloc2_new->L9,heap_alloc2_old->Lz,heap_alloc_last->Iu,results_cell_row->IX,run_underlying->I2,undef->KG,wpList->Kg,wpList_load_row->II,zeroValue->Mr
open Option renaming map_eq_some_iff->Ks,map_some->Mu,none->Ih,some->Ic
open Option.some renaming inj->Ii,injEq->Ja
open Prod.mk renaming injEq->IM
open Go.Instr renaming mapUpdate->LK
open Bool renaming false->Ik,noConfusion->Ix,true->Ir
open List renaming append_assoc->Kv,ext_getElem?->JN,getElem?_append_left->Jg,getElem?_eq_getElem->Ig,getElem?_eq_some_iff->Ip,getElem?_map->IK,getElem?_take_of_lt->MC,length_append->IV,length_map->Jb,length_replicate->JP,mem_append->J0,mem_cons->I7,mem_of_getElem?->Iw,mem_singleton->IS,replicate->IF,setIfInBounds_toArray->IP,set_cons_succ->IZ,set_cons_zero->IY,take_length->Kh,take_succ_eq_append_getElem->JC
open Go.MapKept renaming run_getObj_map->J6
open Go.Result renaming andThen->Jf,andThen_ok->I1
open Go.Sem renaming run_bind->IJ,run_pure->JO
open Go.Value renaming agg->IA,bool->Iy,int->Ib,pointer->Iq,slice->Ia
open Go.IntKind renaming i64->Ie
open Go.Proofs.Tryz renaming prog->If,underlying35->Lu,underlying37->I4
open Nat renaming le_refl->Iz,mul_one->JQ,zero_le->ID
open Go.Ending renaming returned->Iv
open And renaming intro->IE
open Int renaming le_refl->J7
open Go.RowKit renaming Below->It,intOf->Jj
open Go.Obj renaming cells->Is
open Go.RowKit.Below renaming refl->Il
open Go.Act renaming put->KY
open Array renaming getElem?_eq_some_iff->IB
open Go.World renaming block_lt_of_cell?->J8
namespace Go.Proofs.YtlinbehijfcelaaGreatDoor.Top
open Go.RowKit Go.Proofs.YtlinbehijfcelaaGreatDoorW.PrintWords Go.Proofs.YtlinbehijfcelaaGreatDoorW.PrintLast
section
open Go.ChangeMaps (setBlock)
theorem nz{α:Type}[DecidableEq α]{x:α}:∀{L:List (α×Io)} {i j:Nat} {v:Io},cd x L i=Ic (j,v)->∃k,j=i+k/\L[k]?=Ic (x,v)
 | [],i,j,v,h=>by simp[cd]at h
 |p::L,i,j,v,h=>by
  unfold cd at h;split at h
  .rename_i e
   simp only[Ja,IM]at h;obtain⟨rfl,rfl⟩:=h;exact⟨0,rfl,by obtain⟨a,b⟩:=p;simp at e;subst e;rfl⟩
  .obtain⟨k,h1,h2⟩:=nz h
   exact⟨k+1,by omega,by simpa using h2⟩
theorem tj{P:Jn}{α:Type}[DecidableEq α]{t kt et:Je}{enc:α->Io}(K:ju P kt enc)(hu:P.underlying t=Ic (.map kt et)){W:Im}{b:Nat}{L:List (α×Io)}(h:bX enc W b L)(x:α)(v:Io)(i:Nat)(hf:cd x L 0=Ic (i,v)) :
  ∃W',(LK t (.map (Ic b)) (enc x) v).run P W=.ok () W'/\bX enc W' b L/\Fr (λk=>k=b) W W':=by
 obtain⟨es,c,h1,h2⟩:=h;have h3:=K.check Ik W x;have h4:=K.find W x es.toList L h2;rw[hf]at h4;obtain⟨k,hk,hL⟩:=nz hf;obtain rfl:i=k:=by omega
 have hm:=congrArg (λl=>l[i]?) h2;simp only[IK,hL,Mu,Array.getElem?_toList]at hm;obtain⟨e,he,hek⟩:=Ks.1 hm;simp only[IM]at hek;have h5:(Instr.keyThatStays (enc x) (enc x)).run P W=.ok (enc x) W:=by
  simp[Instr.keyThatStays,K.same x]
 refine⟨setBlock W b (.map (es.modify i λe=>{ e with key:=enc x,val:=v }) c),?_,⟨_,_,(MapKept.heap_set h1).1,?_⟩,⟨rfl,rfl,rfl,?_,λk hk hn=>(MapKept.heap_set h1).2 k hn⟩⟩
 .simp[LK,I2 hu,J6 h1,h3,h4,he,hek.1,h5,MapKept.run_setObj_map _ h1,Jf,setBlock]
 .rw[<-h2]
  apply JN;intro j;simp only[IK,Array.getElem?_toList,Array.getElem?_modify];by_cases hj:i=j
  .subst hj
   simp[he,hek.1,hek.2]
  .simp[hj]
 .show W.heap.size<=(W.heap.setIfInBounds b _).size
  simp
theorem o5{P:Jn}{ops:Array Oper}{rest:List Oper}{o:Oper}{a:Act}{W:Im}{Q:Exit->Act->Im->Prop}{α:Type}[DecidableEq α]{t kt et:Je}{enc:α->Io}(K:ju P kt enc)(hgd:o.guard=Ih)(x y u:Lf)(ho:o.op=.mapUpdate t x y u)(hu:P.underlying t=Ic (.map kt et)){b:Nat}{L:List (α×Io)}(hm:bX enc W b L)(k:α)(v:Io)(i:Nat)
  (hx:a.eval x=.map (Ic b)) (hy:a.eval y=enc k) (hv:a.eval u=v) (hf:cd k L 0=Ic (i,v)) (h:∀W',bX enc W' b L->Fr (λk=>k=b) W W'->Kg P ops Q rest (a.put o.dst KG) W'):Kg P ops Q (o::rest) a W:=by
 obtain⟨W',h1,h2,h3⟩:=tj K hu hm k v i hf;refine oD hgd ?_ (h W' h2 h3);unfold JJ;simp only[ho,hx,hy,hv,IJ,h1,I1,JO]
theorem t7{P:Jn}{ops:Array Oper}{rest:List Oper}{o:Oper}{a:Act}{W:Im}{Q:Exit->Act->Im->Prop}{t kt et:Je}(K:ju P kt (Ib .i64))(hgd:o.guard=Ih)(x y u:Lf)(ho:o.op=.mapUpdate t x y u)(hu:P.underlying t=Ic (.map kt et)){b:Nat}{ks:List Int}
  (hm:∃L,bX (Ib .i64) W b L/\(∀p∈L,p.2=Iy Ir)/\∀a,a∈ks↔∃p∈L,p.1=a) (k:Int) (hx:a.eval x=.map (Ic b)) (hy:a.eval y=Ib Ie k) (hv:a.eval u=Iy Ir)
  (h:∀W',(∃L,bX (Ib .i64) W' b L/\(∀p∈L,p.2=Iy Ir)/\∀a,a∈ks++[k]↔∃p∈L,p.1=a)->Fr (λk=>k=b) W W'->Kg P ops Q rest (a.put o.dst KG) W'):Kg P ops Q (o::rest) a W:=by
 obtain⟨L,h1,h2,h3⟩:=hm;cases hf:cd k L 0 with
 |none=>
  refine dZ K hgd x y u ho hu h1 k (Iy Ir) hx hy hv hf (λW' q1 q2=>h W' ⟨_,q1,λp hp=>?_,λa=>?_⟩ q2)
  .rcases J0.1 hp with hp|hp
   .exact h2 p hp
   .obtain rfl:=IS.1 hp
    rfl
  .rw[J0,h3 a,IS]
   constructor
   .rintro(⟨p,hp,e⟩|rfl)
    .exact⟨p,List.mem_append_left _ hp,e⟩
    .exact⟨_,List.mem_append_right _ (IS.2 rfl),rfl⟩
   .rintro⟨p,hp,e⟩
    rcases J0.1 hp with hp|hp
    .exact .inl ⟨p,hp,e⟩
    .obtain rfl:=IS.1 hp
     exact .inr e.symm
 |some q=>
  obtain⟨i,v⟩:=q;obtain⟨j,_,hj⟩:=nz hf;have hm:=Iw hj;have hv2:=h2 _ hm;simp only at hv2;subst hv2;refine o5 K hgd x y u ho hu h1 k (Iy Ir) i hx hy hv hf (λW' q1 q2=>h W' ⟨_,q1,h2,λa=>?_⟩ q2);rw[J0,h3 a,IS];constructor
  .rintro(h|rfl)
   .exact h
   .exact⟨_,hm,rfl⟩
  .exact λh=>.inl h
theorem F_:ju If 2 (Ib .i64):=ju.of_now (d:=.int .i64) (by kernel_rfl) (λ_=>rfl) (λx y=>by show Ic (x==y)=Ic (decide (x=y));congr 1)
def kL(W:Im)(b:Nat)(ks:List Int):Prop:=∃L,bX (Ib .i64) W b L/\(∀p∈L,p.2=Iy Ir)/\∀a,a∈ks↔∃p∈L,p.1=a
theorem kL.fr{W W':Im}{b:Nat}{ks:List Int}{S:Nat->Prop}(h:kL W b ks)(hf:Fr S W W')(hs:¬S b):kL W' b ks:=by
 obtain⟨L,h1,h2,h3⟩:=h;exact⟨L,h1.fr hf hs,h2,h3⟩
theorem kL.lt{W:Im}{b:Nat}{ks:List Int}(h:kL W b ks):b<W.heap.size:=by
 obtain⟨L,h1,_⟩:=h;exact h1.lt
theorem sn{L:List (Int×Io)}{ks:List Int}(h2:∀p∈L,p.2=Iy Ir)(h3:∀a,a∈ks↔∃p∈L,p.1=a)(a:Int):qI (Iy Ik) (cd a L 0)=Iy (decide (a∈ks)):=by
 cases hf:cd a L 0 with
 |none=>
  have:a ∉ ks:=λh=>by
   obtain⟨p,hp,e⟩:=(h3 a).1 h;have hn:∀(L:List (Int×Io)) (i:Nat),cd a L i=Ih->∀p∈L,p.1≠a:=by
    intro L
    induction L with
    |nil=>intro i _ p hp;cases hp
    |cons q L ih=>
     intro i h p hp;unfold cd at h;split at h
     .simp at h
     .rename_i hne
      rcases I7.1 hp with rfl|hp
      .exact λe=>hne e.symm
      .exact ih _ h p hp
   exact hn L 0 hf p hp e
  simp[qI,k7,this]
 |some q=>
  obtain⟨i,v⟩:=q;obtain⟨k,_,hk⟩:=nz hf;have hm:=Iw hk;have hv:=h2 _ hm;simp only at hv;subst hv;have:a∈ks:=(h3 a).2 ⟨_,hm,rfl⟩;simp[qI,k7,this]
def iy(ks:List Int):Nat->Int->Int
 |0,a=>a
 |n+1,a=>if a∈ks then iy ks n (a+1)else a
def fD(ks:List Int)(a:Int):Nat:=(ks.filter (λk=>decide (a<=k))).length
def gK(ks:List Int)(a:Int):Int:=iy ks (fD ks a) a
theorem pl:∀(ks:List Int) (a:Int),fD ks (a+1)<=fD ks a
 | [],_=>Iz _
 |k::ks,a=>by
  have:=pl ks a;unfold fD at this ⊢;simp only[List.filter_cons];by_cases h1:a+1<=k
  .have h2:a<=k:=by omega
   simp[h1,h2];omega
  .by_cases h2:a<=k
   .simp[h1,h2];omega
   .simp[h1,h2];omega
theorem fX:∀{ks:List Int} {a:Int},a∈ks->fD ks (a+1)<fD ks a
 | [],_,h=>by cases h
 |k::ks,a,h=>by
  have hl:=pl ks a;by_cases e:k=a
  .subst e
   unfold fD at hl ⊢;simp only[List.filter_cons];have h1:¬k+1<=k:=by omega
   simp[h1];omega
  .have hm:a∈ks:=by
    rcases I7.1 h with h|h
    .exact absurd h.symm e
    .exact h
   have:=fX hm;unfold fD at this ⊢;simp only[List.filter_cons];by_cases h1:a+1<=k
   .have h2:a<=k:=by omega
    simp[h1,h2];omega
   .have h2:¬a<=k:=by omega
    simp[h1,h2];omega
theorem zJ(ks:List Int):∀(n:Nat) (a:Int),fD ks a<=n->iy ks n a=gK ks a:=by
 have key:∀(n m:Nat) (a:Int),fD ks a<=n->fD ks a<=m->iy ks n a=iy ks m a:=by
  intro n
  induction n with
  |zero=>
   intro m a h1 h2;have hn:a ∉ ks:=λh=>by have:=fX h;omega
   cases m with
   |zero=>rfl
   |succ m=>simp[iy,hn]
  |succ n ih=>
   intro m a h1 h2;by_cases ha:a∈ks
   .have hs:=fX ha
    cases m with
    |zero=>omega
    |succ m=>
     simp only[iy,if_pos ha];exact ih m (a+1) (by omega) (by omega)
   .cases m with
    |zero=>simp[iy,ha]
    |succ m=>simp[iy,ha]
 exact λn a h=>key n _ a h (Iz _)
theorem sH{ks:List Int}{a:Int}(h:a∈ks):gK ks a=gK ks (a+1):=by
 have hs:=fX h;unfold gK;obtain⟨n,hn⟩:∃n,fD ks a=n+1:=⟨fD ks a-1,by omega⟩;rw[hn,iy,if_pos h,zJ ks n (a+1) (by omega)];rfl
theorem sI{ks:List Int}{a:Int}(h:a ∉ ks):gK ks a=a:=by
 unfold gK;cases fD ks a with
 |zero=>rfl
 |succ n=>rw[iy,if_neg h]
theorem m6(ks:List Int)(a:Int):fD ks a<=ks.length:=List.length_filter_le _ _
def vl(w:Im)(g:Nat):Int:=match w.cell? ⟨g,0,Ih⟩with
 |some (.int _ n)=>n
 |_=>0
theorem qN(ks:List Int)(a:Int)(gt ga b:Nat)(w:Im)(ht:w.heap[gt]?=Ic (.cells #[.map (Ic b)] 239 (0,0)))(ha:w.heap[ga]?=Ic (.cells #[Ib Ie a] 2 (0,0)))(hm:kL w b ks)(hne:gt≠ga)(hnb:b≠ga)(h0:0<=a)(h1:a<=2000000)(hk:ks.length<=1000) :
  I9 If 117 #[Iq (Ic ⟨gt,0,Ih⟩),Iq (Ic ⟨ga,0,Ih⟩)] w λe w'=>e=Iv (Ib Ie (gK ks a))/\w'.heap[ga]?=Ic (.cells #[Ib Ie (gK ks a+1)] 2 (0,0))/\Fr (λk=>k=ga) w w':=by
 have HT:=MD ht;have HA:=MD ha;have HM:=MD hm;have HN:=MD (IE hne hnb);have HK:=MD hk;have HBd:=MD (IE h0 h1);have HZ:=MD (show ∀W,(Mr 4).run If W=.ok (Iy Ik) W from λW=>by kernel_rfl);clear ht ha hm hne hnb hk h0 h1;go_enter Tryz.func117,Tryz.ntmps117;go_wp2;go_loopw [] (λwr=>∃c:Int,aa (wr.heap[ga]?=Ic (.cells #[Ib Ie c] 2 (0,0))/\Fr (λk=>k=ga) w wr/\gK ks c=gK ks a/\0<=c/\c+fD ks c<=a+fD ks a)) (λwr=>fD ks (vl wr ga))
 case atStart=>exact⟨a,⟨HA.1,Fr.refl _ _,rfl,HBd.1.1,J7 _⟩⟩
 case round=>
  obtain⟨c,HC⟩:=hrel;obtain⟨hc,hf,hd,hc0,hcb⟩:=HC.1;have hol:=m6 ks a;have hc2:c<=3000000:=by have:=HBd.1;have:=HK.1;omega
  have hT:=(hf.block gt (aj HT.1) HN.1.1).trans HT.1;obtain⟨L,hL1,hL2,hL3⟩:=HM.1.fr hf HN.1.2;have ct:=(show wr.cell? ⟨gt,0,Ih⟩=Ic (.map (Ic b)) by rw[ah hT];rfl);have ca:=(show wr.cell? ⟨ga,0,Ih⟩=Ic (Ib Ie c) by rw[ah hc];rfl);have fa:=au hc 0;have HL1:=MD hL1;have HF:=MD hf;have HD:=MD hd;have HCb:=MD hcb;have HC1:=MD hc;have HI:=MD (show vl wr ga=c by unfold vl;rw[ca]);by_cases hin:c∈ks
  .have HG:=MD (show qI (Iy Ik) (cd c L 0)=Iy Ir by rw[sn hL2 hL3 c,decide_eq_true hin])
   have HO:=MD (fX hin);have HDn:=MD (sH hin);clear hc hf hd hcb hT hL1 hL2 hL3 hin HC hol;go_wp2_with (first
    |((with_reducible refine ai (N:=5) rfl ?_);refine mN F_ rfl _ _ rfl Tryz.underlying239 HL1.1 (Iy Ik) (HZ.1 _) c rfl rfl _ HG.1 ?_))
   go_roundw
   case rel=>exact⟨c+1,⟨fv HC1.1 0 _,HF.1.trans (Fr.cell (S:=λj=>j=ga) (p:=⟨ga,0,Ih⟩) rfl _),by rw[<-HDn.1];exact HD.1,by omega,by have:=HCb.1;have:=HO.1;omega⟩⟩
   case measure=>
    rw[HI.1];have:vl (wr.setCell ⟨ga,0,Ih⟩ (Ib Ie (c+1))) ga=c+1:=by
     unfold vl;rw[ah (fv HC1.1 0 _)];rfl
    rw[this];exact HO.1
  .have HG:=MD (show qI (Iy Ik) (cd c L 0)=Iy Ik by rw[sn hL2 hL3 c,decide_eq_false hin])
   have HDh:=MD (show gK ks a=c by rw[<-hd,sI hin]);clear hc hf hd hcb hT hL1 hL2 hL3 hin HC hol;go_wp2_with (first
    |((with_reducible refine ai (N:=5) rfl ?_);refine mN F_ rfl _ _ rfl Tryz.underlying239 HL1.1 (Iy Ik) (HZ.1 _) c rfl rfl _ HG.1 ?_))
   go_ret;exact⟨by rw[HDh.1];rfl,by rw[HDh.1];exact fv HC1.1 0 _,HF.1.trans (Fr.cell (S:=λj=>j=ga) (p:=⟨ga,0,Ih⟩) rfl _)⟩
end
def bP(ks:List Int):Nat->Int->List Int×Int
 |0,a=>([],a)
 |n+1,a=>((bP ks n a).1++[gK ks (bP ks n a).2],gK ks (bP ks n a).2+1)
theorem cI(ks:List Int)(a:Int):∀n,(bP ks n a).1.length=n
 |0=>rfl
 |n+1=>by rw[bP,IV,cI ks a n];rfl
theorem Ba(ks:List Int)(a:Int):a<=gK ks a/\gK ks a+fD ks (gK ks a)<=a+fD ks a:=by
 have key:∀(n:Nat) (a:Int),a<=iy ks n a/\iy ks n a+fD ks (iy ks n a)<=a+fD ks a:=by
  intro n
  induction n with
  |zero=>intro a;exact⟨J7 _,J7 _⟩
  |succ n ih=>
   intro a;unfold iy;by_cases h:a∈ks
   .rw[if_pos h]
    have:=ih (a+1);have:=fX h;omega
   .rw[if_neg h]
    exact⟨J7 _,J7 _⟩
 exact key _ a
theorem nH(ks:List Int)(a:Int):∀n,a<=(bP ks n a).2/\(bP ks n a).2+fD ks (bP ks n a).2<=a+fD ks a+n
 |0=>⟨J7 _,by show a+fD ks a<=_;omega⟩
 |n+1=>by
  have h1:=nH ks a n;have h2:=Ba ks (bP ks n a).2;have h3:=pl ks (gK ks (bP ks n a).2);show a<=gK ks (bP ks n a).2+1/\gK ks (bP ks n a).2+1+fD ks (gK ks (bP ks n a).2+1)<=_;omega
def frK(f g:List In):List Int:=fA f++fA g
def frN(f g:List In):Nat:=f.length+g.length+2
def az(f g:List In):Ca:=⟨(bP (frK f g) 8 1000003).1,[],(bP (frK f g) (frN f g) (bP (frK f g) 8 1000003).2).1,frN f g⟩
def r8:List Int:=IF 8 0
theorem Fs(n:Int):If.built 37 [(3,Ib Ie n)]=Ic (cac r8 (Ia Ih 0 0) (Ia Ih 0 0) n).toArray:=rfl
theorem tT(r:List Int)(i:Nat)(hi:i<r.length)(x:Int)(vH vA:Io)(fuel:Int):(cac r vH vA fuel).set i (Ib Ie x)=cac (r.set i x) vH vA fuel:=by
 unfold cac;rw[List.set_append_left _ _ (by simpa using hi),List.map_set]
def mm(ks:List Int)(k:Nat):List Int:=(bP ks k 1000003).1++IF (8-k) 0
theorem zI(ks:List Int){k:Nat}(hk:k<8):(mm ks k).set k (gK ks (bP ks k 1000003).2)=mm ks (k+1):=by
 unfold mm;rw[List.set_append_right _ _ (by rw[cI];exact Iz _),cI,Nat.sub_self,show 8-k=(8-(k+1))+1 by omega,List.replicate_succ,IY,bP,Kv];rfl
theorem oy(ks:List Int){k:Nat}(hk:k<=8):(mm ks k).length=8:=by unfold mm;rw[IV,cI,JP];omega
structure yn(w W:Im)(B M ga G:Nat)(ks:List Int)(a:Int)(r:List Int)(N:Nat)(vA:Io)(ans:List Int):Prop where
 b:It w.heap.size w W
 z:W.heap[B]?=Ic (.cells dP 37 (0,0))
 t:W.heap[M+1]?=Ic (.cells #[.map (Ic M)] 239 (0,0))
 m:kL W M ks
 a:W.heap[ga]?=Ic (.cells #[Ib Ie a] 2 (0,0))
 c:W.heap[G]?=Ic (.cells (cac r (Ia Ih 0 0) vA N).toArray 37 (0,0))
 rA:Kd.R (Kd.int .i64) 2 W G (λk=>G<k) vA ans
theorem yn.move{w W W':Im}{B M ga G:Nat}{ks:List Int}{a a':Int}{r r':List Int}{N:Nat}{vA vA':Io}{ans ans':List Int}(h:yn w W B M ga G ks a r N vA ans){S:Nat->Prop}(hf:Fr S W W')(hS:∀k,S k->M+1<k)(hB:B<M)(hw:w.heap.size=B)
  (ha:W'.heap[ga]?=Ic (.cells #[Ib Ie a'] 2 (0,0))) (hc:W'.heap[G]?=Ic (.cells (cac r' (Ia Ih 0 0) vA' N).toArray 37 (0,0))) (hr:Kd.R (Kd.int .i64) 2 W' G (λk=>G<k) vA' ans'):yn w W' B M ga G ks a' r' N vA' ans':=
 ⟨Fr.below h.b hf (λk hk e=>by have:=hS k e;omega) h.b.size,(hf.block B (aj h.z) (λe=>by have:=hS B e;omega)).trans h.z,(hf.block (M+1) (aj h.t) (λe=>by have:=hS _ e;omega)).trans h.t,h.m.fr hf (λe=>by have:=hS _ e;omega),ha,hc,hr⟩
theorem zM(f g:List In)(Af Ag:Option Addr)(cf cg:Nat)(w:Im)(hf:f.length<=200)(hg:g.length<=200)(hCf:Kd.C kIn w Af f.length f)(hcf:f.length<=cf)(hCg:Kd.C kIn w Ag g.length g)(hcg:g.length<=cg) :
  I9 If 102 #[Ia Af f.length cf,Ia Ag g.length cg] w λe w'=>∃v,e=Iv v/\CaV w' (az f g) v/\It w.heap.size w w':=by
 obtain⟨ks,hks⟩:=ME (frK f g);have hkl:ks.length<=400:=by rw[hks];unfold frK;rw[IV];have:=js f;have:=js g;omega
 obtain⟨w1,hw1⟩:∃w1,w1=w.alloc (Is dP 37):=⟨_,rfl⟩;obtain⟨B,hB⟩:=MF w.heap.size;have h1:w1.heap[B]?=Ic (.cells dP 37 (0,0)):=by rw[hw1,<-hB];exact Iu w _
 have hb1:It w.heap.size w w1:=by rw[hw1];exact ae (Il _ _) _
 have hCn:=λW hb=>q9 f g Af Ag cf cg W hf hg (Kd.C_below hCf hb) hcf (Kd.C_below hCg hb) hcg;have hMn:=λW=>Cu Af Ag f.length cf g.length cg hf hcf hg hcg W;unfold frK at hks;rw[<-hks]at hCn;have HCn:=MD hCn;have HMn:=MD hMn;have HW1:=MD hw1;have H1:=MD h1;have HB1:=MD hb1;have HBe:=MD hB;have HKl:=MD hkl;have HKs:=MD hks;have hf':(f.length:Int)<=200:=by omega
 have hg':(g.length:Int)<=200:=by omega
 clear hf hg hCf hcf hCg hcg hCn hMn hw1 h1 hb1 hkl hks;go_enter Tryz.func102,Tryz.ntmps102;go_upto_region 1 with fail
 refine ar HW1.1.symm ?_;clear hB HW1;go_upto_region 2 with(first
  |((with_reducible refine ai (N:=12) rfl ?_);refine d8 rfl 239 rfl ?_))
 obtain⟨M,hM⟩:=MF w1.heap.size;have hBM:B<M:=by rw[<-hM];exact aj H1.1
 obtain⟨w2,hw2⟩:∃w2,w2=(w1.alloc (.map #[] 0)).alloc (Is #[.map (Ic M)] 239):=⟨_,rfl⟩;rw[hM];refine ar hw2.symm ?_;have HT:=MD (show w2.heap[M+1]?=Ic (.cells #[.map (Ic M)] 239 (0,0)) by rw[hw2,<-hM];exact L9 w1 _ _);have HM2:=MD (show kL w2 M []from⟨[],by rw[hw2,<-hM];exact(bX.new _ w1 0).moved (by exact(Lz w1 _ _).trans (by have:=Iu w1 (.map #[] 0);exact this.symm)),λp hp=>(by cases hp),λa=>⟨λh=>(by cases h),λ⟨p,hp,_⟩=>(by cases hp)⟩⟩);have HB2:=MD (show It w.heap.size w w2 by rw[hw2];exact ae (ae HB1.1 _) _);have H12:=MD (show w2.heap[B]?=Ic (.cells dP 37 (0,0)) by rw[hw2];exact aT (aT H1.1 _) _);have HBM:=MD hBM;clear hw2 hM hBM H1 HB1;go_upto_region 3 with(first
  |(go_at_call 103;refine(HCn.1 w2 HB2.1).mono ?_;rintro e w3 ⟨v,rfl,hR,hb⟩;obtain⟨AK,cK,rfl⟩:=Kd.R_slice hR;have HRK:=MD (show RdT (Kd.int .i64) 2 w3 (Ia AK ks.length cK) ks from RdT.of_R hR);have HB3:=MD (af HB2.1 hb);have HT3:=MD (ag HT.1 hb);have H13:=MD (ag H12.1 hb);have HM3:=MD (HM2.1.fr (Fr.of_below (S:=λ_=>False) hb) (λh=>h));clear hR hb))
 have hkl':(ks.length:Int)<=400:=by have:=HKl.1;omega
 clear HM2 HT H12 HB2 HCn;go_wp2;go_loopw [17] (λj wr=>∃i:Nat,j=Ib Ie i/\aa (i<=ks.length/\kL wr M (ks.take i)/\Fr (λk=>k=M) w3 wr)) (λj _=>ks.length-(Jj j).toNat)
 case atStart=>exact⟨0,rfl,⟨⟨ID _,HM3.1,Fr.refl _ _⟩⟩⟩
 case round=>
  obtain⟨i,rfl,HI⟩:=hrel;obtain⟨hi,hm,hf⟩:=HI.1;have hMm:∀cs fr,w3.heap[M]?≠Ic (.cells cs 2 fr):=λcs fr h=>by
   obtain⟨L,⟨es,c,h1,_⟩,_⟩:=HM3.1;rw[h1]at h;simp at h
  have hT:=(hf.block (M+1) (aj HT3.1) (by omega)).trans HT3.1;by_cases hil:i<ks.length
  .have hil':(i:Int)<(ks.length:Int):=by omega
   obtain⟨x,hx⟩:∃x,ks[i]?=Ic x:=⟨_,Ig hil⟩;obtain⟨Aq,cq,eq,_,hC,_⟩:=HRK.1.fr aC hf (λk cs fr e=>by subst e;exact hMm cs fr);injection eq with eq
   subst eq;obtain⟨ad,cs,eA,_,hK,hc⟩:=b_ hC i hil x hx;subst eA;obtain rfl:cs=[Ib Ie x]:=hK;have vx:=hc 0 _ rfl;rw[show i*(Kd.int .i64).sz+0=i from JQ i]at vx;have ct:=(show wr.cell? ⟨M+1,0,Ih⟩=Ic (.map (Ic M)) by rw[ah hT];rfl);have HM:=MD hm;have HF:=MD hf;have HIl:=MD hil;have HTk:=MD (show ks.take (i+1)=ks.take i++[x] by rw[JC hil,(Ip.1 hx).2]);clear hi hm hf hMm hT hil hx hC hc HI;go_wp2_with (first
    |((with_reducible refine j8 rfl ?_);refine t7 F_ rfl _ _ _ rfl Tryz.underlying239 HM.1 x rfl rfl rfl ?_;intro w4 hm4 hf4;have HM4:=MD hm4;have HF4:=MD (HF.1.trans hf4);clear hm4 hf4))
   go_roundw
   case rel=>exact⟨i+1,by go_num,⟨⟨HIl.1,by rw[HTk.1];exact HM4.1,HF4.1⟩⟩⟩
   case measure=>have:=HIl.1;simp[Jj];omega
  .obtain rfl:i=ks.length:=by omega
   rw[Kh]at hm;have HM:=MD hm;have HT4:=MD hT;have HB4:=MD (Fr.below HB3.1 hf (λk hk e=>by have:=HBM.1;have:=HBe.1;omega) HB3.1.size);have H14:=MD ((hf.block B (aj H13.1) (by have:=HBM.1;omega)).trans H13.1);obtain⟨w4,rfl⟩:=ME wr;clear hi hm hf hMm hT hil HI HRK HT3 HM3 HB3 H13;go_upto_region 9 with fail
   obtain⟨ga,hga⟩:=MF w4.heap.size;obtain⟨w5,hw5⟩:∃w5,w5=w4.alloc (Is #[Ib Ie 1000003] 2):=⟨_,rfl⟩;have hMga:M+1<ga:=by rw[<-hga];exact aj HT4.1
   have h5a:w5.heap[ga]?=Ic (.cells #[Ib Ie 1000003] 2 (0,0)):=by rw[hw5,<-hga];exact Iu w4 _
   have hb45:It w4.heap.size w4 w5:=by rw[hw5];exact ae (Il _ _) _
   rw[hga];refine ar hw5.symm ?_;have H5a:=MD h5a;have HB45:=MD hb45;have HMga:=MD hMga;clear hw5 h5a hb45 hMga hga;obtain⟨N,hN⟩:∃N:Nat,N=f.length+g.length+2:=⟨_,rfl⟩;have hNi:(f.length:Int)+(g.length:Int)+2=(N:Int):=by omega
   have HN:=MD hN;have HNl:=MD (show N<=402 by omega);have hNl':(N:Int)<=402:=by omega
   clear hN;go_upto_region 10 with(first
    |(go_at_call 105;refine(HMn.1 _).mono ?_;rintro e w9 ⟨rfl,rfl⟩)
    |((with_reducible refine ai (N:=29) rfl ?_);refine aU rfl 37 _ rfl [(3,Ib Ie (N:Int))] _ rfl (Fs _) ?_)
    |((with_reducible refine ap (t:=37) (p:=10) rfl ?_);refine an rfl 37 _ _ rfl w5.heap.size (cac r8 (Ia Ih 0 0) (Ia Ih 0 0) (N:Int)).toArray rfl rfl 37 dP (Iu w5 _) (bv rfl) rfl fN ?_;intro w6 h6 hf6;have H6:=MD h6;have HB6:=MD (cw hf6);clear h6 hf6))
   obtain⟨G,hG⟩:=MF w5.heap.size;have hgaG:ga<G:=by rw[<-hG];exact aj H5a.1
   rw[hG]at H6 ⊢;have HOr:=MD (show B<M/\M+1<ga/\ga<G from⟨HBM.1,HMga.1,hgaG⟩);have HS6:=MD (show yn w w6 B M ga G ks 1000003 r8 N (Ia Ih 0 0) []from⟨af (af HB4.1 HB45.1) HB6.1,ag (ag H14.1 HB45.1) HB6.1,ag (ag HT4.1 HB45.1) HB6.1,(HM.1.fr (Fr.of_below (S:=λ_=>False) HB45.1) (λh=>h)).fr (Fr.of_below (S:=λ_=>False) HB6.1) (λh=>h),ag H5a.1 HB6.1,H6.1,Kd.R_nil _ _ _ _ _⟩);have HDl:=MD (λ(W:Im) (a:Int) (r:List Int) (vA:Io) (ans:List Int) (h:yn w W B M ga G ks a r N vA ans) (k:Nat) (hk:k<=1000) (h0:1000003<=a) (h1:a+fD ks a<=1000003+400+k)=>qN ks a (M+1) ga M W h.t h.a h.m (by have:=HOr.1;omega) (by have:=HOr.1;omega) (by omega) (by omega) (by have:=HKl.1;omega));clear hG hgaG HM HT4 HB4 H14 H5a HB45 H6 HB6 HMga HMn hNi;go_wp2;go_loopw [30,11] (λj _ wr=>∃k:Nat,j=Ib Ie k/\aa (k<=8/\yn w wr B M ga G ks (bP ks k 1000003).2 (mm ks k) N (Ia Ih 0 0) [])) (λj _ _=>8-(Jj j).toNat)
   case atStart=>exact⟨0,rfl,⟨⟨ID _,HS6.1⟩⟩⟩
   case round=>
    obtain⟨k,rfl,HI⟩:=hrel;obtain⟨hk,hS⟩:=HI.1;have hbd:=nH ks 1000003 k;have hov:=m6 ks 1000003;obtain⟨a,ha⟩:=ME ((bP ks k 1000003).2);rw[<-ha]at hS hbd;by_cases hk8:k<8
    .have hk8':(k:Int)<8:=by omega
     have HCl:=MD (HDl.1 _ _ _ _ _ hS k (by omega) hbd.1 (by have:=HKl.1;omega));have HRs:=MD (zI ks hk8);have HAa:=MD ha;have HS:=MD hS;have HK:=MD hk8;obtain⟨d,hd⟩:=ME (gK ks a);rw[<-hd]at HCl;have HD:=MD hd;have HRl:=MD (oy ks hk);have hrk:∃z,(mm ks k)[k]?=Ic z:=⟨_,Ig (by rw[oy ks hk];exact hk8)⟩;have HRk:=MD hrk;clear hk hS hbd hov ha hk8 HI hd hrk;go_wp2_with (first
      |(go_at_call 117;refine HCl.1.mono ?_;rintro e w8 ⟨rfl,h8,hf8⟩;have H8:=MD h8;have HF8:=MD hf8;have HcG:=MD ((hf8.block G (aj HS.1.c) (by have:=HOr.1;omega)).trans HS.1.c);obtain⟨z,hz⟩:=HRk.1;have cG:=(show w8.cell? ⟨G,k,Ih⟩=Ic (Ib Ie z) by rw[aq HcG.1];unfold cac;rw[Jg (by rw[Jb,HRl.1];exact HK.1),IK,hz];rfl);have fG:=au HcG.1 k;clear h8 hf8 hz))
     have hset:=tT (mm ks k) k (by rw[HRl.1];exact HK.1) d (Ia Ih 0 0) (Ia Ih 0 0) (N:Int);have h9:=aR HcG.1 k (Ib Ie d);rw[hset]at h9;have hf9:Fr (λj=>j=ga\/j=G) wr (w8.setCell ⟨G,k,Ih⟩ (Ib Ie d)):=(HF8.1.mono λk _ e=>.inl e).trans (Fr.cell (S:=λj=>j=ga\/j=G) (p:=⟨G,k,Ih⟩) (.inr rfl) _);have hSn:=HS.1.move hf9 (λk e=>by have:=HOr.1;omega) HOr.1.1 HBe.1 (bp H8.1 (p:=⟨G,k,Ih⟩) (by have:=HOr.1;show ga≠G;omega) _) h9 (Kd.R_nil _ _ _ _ _);rw[HD.1,HAa.1,HRs.1]at hSn;rw[HD.1,HAa.1];go_roundw
     case rel=>exact⟨k+1,by go_num,⟨⟨HK.1,hSn⟩⟩⟩
     case measure=>have:=HK.1;simp[Jj];omega
    .obtain rfl:k=8:=by omega
     obtain⟨R0,hR0⟩:=ME (mm ks 8);rw[<-hR0]at hS;have HR0:=MD hR0;have HR8:=MD (show R0.length=8 by rw[hR0];exact oy ks (Iz _));have HAa:=MD ha;have HBd:=MD (show 1000003<=a/\a+fD ks a<=1000003+400+8 from⟨hbd.1,by have:=HKl.1;omega⟩);have c10:=(show wr.cell? ⟨G,10,Ih⟩=Ic (Ib Ie (N:Int)) by rw[aq hS.c,show 10=8+2 from rfl,dj HR8.1];rfl);have HS:=MD hS;have HA35:=MD (show ∀W,(isAgg 35).run If W=.ok Ik W from λW=>by kernel_rfl);clear hk hS hbd hov ha hk8 HI hR0;go_wp2;obtain⟨wo,hwo⟩:=ME wr;clear c10;go_loopw [41] (λj wr=>∃(k:Nat) (vA:Io),j=Ib Ie k/\aa (k<=N/\yn w wr B M ga G ks (bP ks k a).2 R0 N vA (bP ks k a).1)) (λj _=>N-(Jj j).toNat)
     case atStart=>exact⟨0,_,rfl,⟨⟨ID _,HS.1⟩⟩⟩
     case round=>
      obtain⟨k,vA,rfl,HI⟩:=hrel;obtain⟨hk,hS⟩:=HI.1;by_cases hkN:k<N
      .have hkN':(k:Int)<(N:Int):=by omega
       have hbd:=nH ks a k;have hov:=m6 ks a;have hal:=cI ks a k;obtain⟨b,hb⟩:=ME ((bP ks k a).2);obtain⟨ans,hans⟩:=ME ((bP ks k a).1);rw[<-hb]at hS hbd;rw[<-hans]at hS hal;have HNb:=MD (show bP ks (k+1) a=(ans++[gK ks b],gK ks b+1) by rw[bP,<-hb,<-hans]);obtain⟨AX,cX,rfl⟩:=Kd.R_slice hS.rA;obtain⟨d,hd⟩:=ME (gK ks b);obtain⟨w7,hw7⟩:=ME wr;rw[<-hw7]at hS ⊢;have HDl2:=MD (λ(W:Im) (hf:Fr (λk=>k=ga\/k=G\/Ic k=(Ia AX ans.length cX).ownBlock) w7 W) (h2:W.heap[ga]?=Ic (.cells #[Ib Ie b] 2 (0,0)))=>show I9 If 117 #[Iq (Ic ⟨M+1,0,Ih⟩),Iq (Ic ⟨ga,0,Ih⟩)] W λe w'=>e=Iv (Ib Ie d)/\w'.heap[ga]?=Ic (.cells #[Ib Ie (d+1)] 2 (0,0))/\Fr (λk=>k=ga) W w' by
        have hS':∀k,(k=ga\/k=G\/Ic k=(Ia AX ans.length cX).ownBlock)->M+1<k:=λk e=>by
         have:=HOr.1;rcases e with e|e|e
         .omega
         .omega
         .have:=hS.rA.1 k e.symm;omega
        have:=HBd.1;have:=HNl.1;rw[hd];exact qN ks b (M+1) ga M W ((hf.block (M+1) (aj hS.t) (λe=>by have:=hS' _ e;omega)).trans hS.t) h2 (hS.m.fr hf (λe=>by have:=hS' _ e;omega)) (by have:=HOr.1;omega) (by have:=HOr.1;omega) (by omega) (by omega) (by have:=HKl.1;omega))
       have HS7:=MD hS;have HD:=MD hd;have HK:=MD hkN;have HLn:=MD (show ans.length<=1000 by have:=HNl.1;omega);clear hk hS hkN hbd hov hal hb hans HI hd hw7 hwo HDl HS HS6;go_upto_region 17 with fail
       refine bm (σ:=Nat×Io) [3,4,5,7] (λq=>[(43,Iq (Ic ⟨G,9,Ih⟩)),(44,Ia AX ans.length cX),(45,.func (.func 117) #[] #[Iq (Ic ⟨M+1,0,Ih⟩),Iq (Ic ⟨ga,0,Ih⟩)]),(46,Ib Ie d),(47,Ia (Ic ⟨q.1,0,Ih⟩) 1 1),(48,q.2),(49,Iq (Ic ⟨G,9,Ih⟩))])
        (λbs q W=>Fr (λk=>k=ga\/k=G\/Ic k=(Ia AX ans.length cX).ownBlock) w7 W/\W.heap[ga]?=Ic (.cells #[Ib Ie (if bs.getD 0 Ik=Ir then d+1 else b)] 2 (0,0))/\W.heap[G]?=Ic (.cells (cac R0 (Ia Ih 0 0) (if bs.getD 3 Ik=Ir then q.2 else(Ia AX ans.length cX)) N).toArray 37 (0,0))/\(if bs.getD 2 Ik=Ir then Kd.R (Kd.int .i64) 2 W G (λk=>G<k) q.2 (ans++[d])else Kd.R (Kd.int .i64) 2 W G (λk=>G<k) (Ia AX ans.length cX) ans)/\(bs.getD 1 Ik=Ir->bs.getD 2 Ik=Ik->W.heap[q.1]?=Ic (.cells #[Ib Ie d] 2 (0,0))/\w7.heap.size<=q.1)) (0,KG) (by kernel_rfl) (by kernel_rfl) (by kernel_rfl) (λ_=>by kernel_rfl) ?_
       intro aF haF;simp only[bk,KY,IP,IZ,IY]at haF;subst haF;refine⟨?_,?_,⟨Fr.drew,HS7.1.a,HS7.1.c,Kd.R_below HS7.1.rA (aA (Il _ _)),λe=>Ix e⟩,?_⟩
       .intro j o ho hct s_1 W bs hlen hok hI
        rcases j with _|_|_|_|_|_|_|_|j
        all_goals first|exact absurd hct (by decide)|(obtain rfl:=Ii ho)|exact absurd (IB.1 ho).1 (by simp)
        .exact ab rfl (by go_simp) ⟨rfl,hI⟩
        .obtain⟨b0,b1,b2,b3,rfl⟩:=BV hlen
         obtain rfl:=okF hok 3 rfl rfl rfl (by kernel_rfl);exact ab rfl (ao rfl rfl (aH (HA35.1 W) (show W.cell? ⟨G,9,Ih⟩=Ic (.slice AX ans.length cX) by rw[aq hI.2.2.1,show 9=8+1 from rfl,dj HR8.1];rfl))) ⟨rfl,hI⟩
        .exact ab rfl (by go_simp) ⟨rfl,hI⟩
        .exact ab rfl (by go_simp) ⟨rfl,hI⟩
       .intro k_1 j o hk ho s_1 W bs hlen hok hI
        rcases k_1 with _|_|_|_|k
        all_goals first|(obtain rfl:=Ii hk;obtain rfl:=Ii ho)|exact absurd hk (by simp)
        .obtain⟨b0,b1,b2,b3,rfl⟩:=BV hlen
         obtain rfl:=okS hok 0 rfl rfl;obtain rfl:=okF hok 1 rfl rfl rfl (by kernel_rfl);obtain rfl:=okF hok 2 rfl rfl rfl (by kernel_rfl);obtain rfl:=okF hok 3 rfl rfl rfl (by kernel_rfl);obtain⟨i1,i2,i3,i4,i5⟩:=hI;refine ld (caps:=#[Iq (Ic ⟨M+1,0,Ih⟩),Iq (Ic ⟨ga,0,Ih⟩)]) rfl Tryz.func117 (by kernel_rfl) rfl rfl #[Iq (Ic ⟨M+1,0,Ih⟩),Iq (Ic ⟨ga,0,Ih⟩)] rfl rfl ((HDl2.1 W i1 i2).mono λe w' h=>?_);obtain⟨h1,h2,h3⟩:=h;exact⟨_,h1,s_1,[],rfl,rfl,rfl,⟨i1.trans (h3.mono λk _ e=>.inl e),h2,(h3.block G (aj i3) (by have:=HOr.1;omega)).trans i3,Kd.R_step i4 (λk hk hl=>h3.block k hl (by have:=HOr.1;omega)),λe=>Ix e⟩⟩
        .obtain⟨b0,b1,b2,b3,rfl⟩:=BV hlen
         obtain rfl:=okS hok 1 rfl rfl;obtain rfl:=okT hok 0 rfl rfl rfl (by kernel_rfl);obtain rfl:=okF hok 2 rfl rfl rfl (by kernel_rfl);obtain rfl:=okF hok 3 rfl rfl rfl (by kernel_rfl);obtain⟨i1,i2,i3,i4,i5⟩:=hI;exact ab (v:=Ia (Ic ⟨W.heap.size,0,Ih⟩) 1 1) (w':=W.alloc (Is #[Ib Ie d] 2)) rfl (by go_simp) ⟨(W.heap.size,s_1.2),[(47,Ia (Ic ⟨W.heap.size,0,Ih⟩) 1 1)],rfl,rfl,by kernel_rfl,⟨i1.trans (Fr.of_below (ae (Il _ _) _)),aT i2 _,aT i3 _,Kd.R_below i4 (ae (Il _ _) _),λ_ _=>⟨Iu W _,i1.size⟩⟩⟩
        .obtain⟨b0,b1,b2,b3,rfl⟩:=BV hlen
         obtain rfl:=okS hok 2 rfl rfl;obtain rfl:=okT hok 0 rfl rfl rfl (by kernel_rfl);obtain rfl:=okT hok 1 rfl rfl rfl (by kernel_rfl);obtain rfl:=okF hok 3 rfl rfl rfl (by kernel_rfl);obtain⟨i1,i2,i3,i4,i5⟩:=hI;obtain⟨j1,j2⟩:=i5 rfl rfl;obtain⟨v1,w1,r1,r2,r3,r4⟩:=kK (P:=If) (Kd.int .i64) G 35 35 2 (Ib Ie 0) 8 Lu jP rfl (by decide) (by decide) (Ia AX ans.length cX) ans d [Ib Ie d] (λk=>G<k) (λ_=>False) ⟨s_1.1,0,Ih⟩ (lY (cs:=[Ib Ie d]) j1) rfl (λk hk=>hk.elim) (λk hk=>by have:=aj i3;omega) i4 (by have:=aj i3;omega) (by have:=HLn.1;omega);refine ab rfl (j_ rfl rfl rfl r1) ⟨(s_1.1,v1),[(48,v1)],rfl,rfl,by kernel_rfl,⟨i1.trans (Fr.grown r3 (λk hk=>.inr (.inr hk))),(r3.block ga (aj i2) (λe=>by have:=i4.1 ga e.symm;have:=HOr.1;omega)).trans i2,(r3.block G (aj i3) (λe=>by have:=i4.1 G e.symm;omega)).trans i3,r2,λ_ e=>Ix e⟩⟩
        .obtain⟨b0,b1,b2,b3,rfl⟩:=BV hlen
         obtain rfl:=okS hok 3 rfl rfl;obtain rfl:=okT hok 0 rfl rfl rfl (by kernel_rfl);obtain rfl:=okT hok 2 rfl rfl rfl (by kernel_rfl);obtain⟨i1,i2,i3,i4,i5⟩:=hI;have i4':Kd.R (Kd.int .i64) 2 W G (λk=>G<k) s_1.2 (ans++[d]):=i4;obtain⟨A1,c1,he⟩:=Kd.R_slice i4';obtain⟨hv1,hv2⟩:=dT _ _ _ _ he;have hset:(cac R0 (Ia Ih 0 0) (Ia AX ans.length cX) (N:Int)).set 9 s_1.2=cac R0 (Ia Ih 0 0) s_1.2 N:=by rw[show 9=8+1 from rfl,kI HR8.1];rfl
         have h9:(W.setCell ⟨G,9,Ih⟩ s_1.2).heap[G]?=Ic (.cells (cac R0 (Ia Ih 0 0) s_1.2 (N:Int)).toArray 37 (0,0)):=by
          have h:=aR (L:=cac R0 (Ia Ih 0 0) (Ia AX ans.length cX) (N:Int)) i3 9 s_1.2;rw[hset]at h;exact h
         have hne:∀k,G<k->k≠G:=λk h=>by omega
         exact a_ rfl 35 _ _ rfl G 9 s_1.2 (Ia AX ans.length cX) rfl rfl hv1 hv2 (by kernel_rfl) (show W.cell? ⟨G,9,Ih⟩=Ic (.slice AX ans.length cX) by rw[aq i3,show 9=8+1 from rfl,dj HR8.1];rfl) (au i3 9) ⟨s_1,[],rfl,rfl,rfl,⟨i1.trans (Fr.cell (S:=λk=>k=ga\/k=G\/Ic k=(Ia AX ans.length cX).ownBlock) (p:=⟨G,9,Ih⟩) (.inr (.inl rfl)) _),bp i2 (p:=⟨G,9,Ih⟩) (by have:=HOr.1;show ga≠G;omega) _,h9,Kd.R_far i4' (p:=⟨G,9,Ih⟩) hne _,λ_ e=>Ix e⟩⟩
       .intro q W hI
        obtain⟨i1,i2,i3,i4,i5⟩:=hI;have hSn:yn w W B M ga G ks (d+1) R0 N q.2 (ans++[d]):=HS7.1.move i1 (λk e=>by
         have:=HOr.1;rcases e with e|e|e
         .omega
         .omega
         .have:=HS7.1.rA.1 k e.symm;omega) HOr.1.1 HBe.1 i2 i3 i4
        have HSn:=MD hSn;clear hSn i1 i2 i3 i4 i5;go_wp2;go_roundw
        case rel=>exact⟨k+1,q.2,by go_num,⟨⟨HK.1,by rw[HNb.1,<-HD.1];exact HSn.1⟩⟩⟩
        case measure=>have:=HK.1;simp[Jj];omega
      .have hkN':¬(k:Int)<(N:Int):=by omega
       obtain rfl:N=k:=by omega
       obtain⟨ans,hans⟩:=ME ((bP ks N a).1);rw[<-hans]at hS;obtain⟨AX,cX,rfl⟩:=Kd.R_slice hS.rA;have HS7:=MD hS;have HAn:=MD hans;clear hk hS hkN HI hans HS HS6;go_wp2_with (first
        |((with_reducible refine ai (N:=51) rfl ?_);refine II rfl 37 _ rfl G rfl 37 _ (0,0) _ HS7.1.c I4 rfl (bv HR8.1) ?_)
        |((with_reducible refine ap (t:=37) (p:=4) rfl ?_);refine an rfl 37 _ _ rfl B (cac R0 (Ia Ih 0 0) (Ia AX ans.length cX) (N:Int)).toArray rfl rfl 37 dP HS7.1.z (bv HR8.1) (caz HR8.1) fN ?_;intro w8 h8 hf8;have H8:=MD h8;have HF8:=MD hf8;clear h8 hf8))
       refine IG (v:=IA (cac R0 (Ia Ih 0 0) (Ia AX ans.length cX) (N:Int)).toArray) (IX rfl _ _ B 37 _ (0,0) _ rfl H8.1 I4 rfl (bv HR8.1)) rfl ⟨_,rfl,?_,Fr.below HS7.1.b HF8.1 (λk hk e=>by have:=HBe.1;omega) HS7.1.b.size⟩;have hc:az f g=⟨R0,[],ans,(N:Int)⟩:=by
        unfold az frN;unfold frK;rw[<-HKs.1,<-HAa.1,<-HN.1,<-HAn.1,HR0.1];unfold mm;simp
       rw[hc];exact⟨Ia Ih 0 0,Ia AX ans.length cX,rfl,HR8.1,RdT.nil _ _ _,(RdT.of_R HS7.1.rA).fr aC HF8.1 (λk cs fr e=>by subst e;rw[HS7.1.z];simp)⟩
theorem D3(f g:List In)(Af Ag:Option Addr)(cf cg:Nat)(fuel:Int)(w:Im)(hf:f.length<=200)(hg:g.length<=200)(hCf:Kd.C kIn w Af f.length f)(hcf:f.length<=cf)(hCg:Kd.C kIn w Ag g.length g)(hcg:g.length<=cg) :
  I9 If 88 #[Ia Af f.length cf,Ia Ag g.length cg,Ib Ie 0,Ib Ie fuel] w λe w'=>∃v,e=Iv v/\CaV w' (az f g) v/\It w.heap.size w w':=by
 have HF:=MD (λW hb=>zM f g Af Ag cf cg W hf hg (Kd.C_below hCf hb) hcf (Kd.C_below hCg hb) hcg);obtain⟨c,hc⟩:=ME (az f g);rw[<-hc]at HF ⊢;clear hf hg hCf hcf hCg hcg hc;obtain⟨w1,hw1⟩:∃w1,w1=w.alloc (Is dP 37):=⟨_,rfl⟩;obtain⟨B,hB⟩:=MF w.heap.size;have H1:=MD (show w1.heap[B]?=Ic (.cells dP 37 (0,0)) by rw[hw1,<-hB];exact Iu w _);have HB1:=MD (show It w.heap.size w w1 by rw[hw1];exact ae (Il _ _) _);have HW1:=MD hw1;have HBe:=MD hB;clear hw1;go_enter Tryz.func88,Tryz.ntmps88;go_upto_region 1 with fail
 refine ar HW1.1.symm ?_;clear hB HW1;go_wp2_with (first
  |(go_at_call 102;refine(HF.1 w1 HB1.1).mono ?_;rintro e w2 ⟨v,rfl,⟨vH,vA,rfl,h8,hH,hA⟩,hb⟩;obtain⟨AH,cH,rfl,zH⟩:=hH;obtain⟨AA,cA,rfl,zA⟩:=hA;have H8:=MD h8;have HH:=MD (show RdT (Kd.int .i64) 2 w2 (Ia AH c.h.length cH) c.h from⟨AH,cH,rfl,zH⟩);have HA:=MD (show RdT (Kd.int .i64) 2 w2 (Ia AA c.ans.length cA) c.ans from⟨AA,cA,rfl,zA⟩);have H2:=MD (ag H1.1 hb);have HB2:=MD (af HB1.1 hb);clear h8 zH zA hb)
  |((with_reducible refine ap (t:=37) (p:=8) rfl ?_);refine an rfl 37 _ _ rfl B (cac c.r (Ia AH c.h.length cH) (Ia AA c.ans.length cA) c.fuel).toArray rfl rfl 37 dP H2.1 (bv H8.1) (caz H8.1) fN ?_;intro w3 h3 hf3;have H3:=MD h3;have HF3:=MD hf3;clear h3 hf3))
 exact IG (v:=IA (cac c.r (Ia AH c.h.length cH) (Ia AA c.ans.length cA) c.fuel).toArray) (IX rfl _ _ B 37 _ (0,0) _ rfl H3.1 I4 rfl (bv H8.1)) rfl ⟨_,rfl,⟨_,_,rfl,H8.1,HH.1.fr aC HF3.1 (λk cs fr e=>by subst e;rw[H2.1];simp),HA.1.fr aC HF3.1 (λk cs fr e=>by subst e;rw[H2.1];simp)⟩,Fr.below HB2.1 HF3.1 (λk hk e=>by have:=HBe.1;omega) HB2.1.size⟩
def iZ(f g:List In)(c:Ca):Bool:=(da f g c).1 != 0
structure yl(w:Im)(f g:List In)(gf gg:Nat)(Af Ag:Option Addr)(cf cg:Nat):Prop where
 bf:w.heap[gf]?=Ic (.cells #[Ia Af f.length cf] 22 (0,0))
 bg:w.heap[gg]?=Ic (.cells #[Ia Ag g.length cg] 22 (0,0))
 cf:Kd.C kIn w Af f.length f
 cg:Kd.C kIn w Ag g.length g
 gl:Gl w
theorem yl.below{w W:Im}{f g:List In}{gf gg:Nat}{Af Ag:Option Addr}{cf cg:Nat}(h:yl w f g gf gg Af Ag cf cg)(hb:It w.heap.size w W):yl W f g gf gg Af Ag cf cg:=⟨ag h.bf hb,ag h.bg hb,Kd.C_below h.cf hb,Kd.C_below h.cg hb,h.gl.below hb⟩
theorem pL(f g:List In)(gf gg:Nat)(Af Ag:Option Addr)(cf cg:Nat)(hcf:f.length<=cf)(hcg:g.length<=cg)(c:Ca)(vC:Io)(w:Im)(h:yl w f g gf gg Af Ag cf cg)(hV:CaV w c vC)(hh:c.h.length<=5000)(ha:c.ans.length<=100000) :
  I9 If 60 #[vC,Iq (Ic ⟨gf,0,Ih⟩),Iq (Ic ⟨gg,0,Ih⟩)] w λe w'=>e=Iv (Iy (iZ f g c))/\It w.heap.size w w':=by
 have hV0:=hV;obtain⟨vH,vA,rfl,h8,_,_⟩:=hV;obtain⟨L,hL⟩:=ME (cac c.r vH vA c.fuel);have hLi:(If.info? 37).map (·.size)=Ic L.toArray.size:=by rw[hL];exact bv h8
 obtain⟨w1,hw1⟩:∃w1,w1=w.alloc (Is L.toArray 37):=⟨_,rfl⟩;obtain⟨B,hB⟩:=MF w.heap.size;have h1:w1.heap[B]?=Ic (.cells L.toArray 37 (0,0)):=by rw[hw1,<-hB];exact Iu w _
 have hb1:It w.heap.size w w1:=by rw[hw1];exact ae (Il _ _) _
 have h':=h.below hb1;have hT:=ix f g Af Ag cf cg c _ w1 h'.gl h'.cf hcf h'.cg hcg (hV0.below hb1) hh ha;rw[<-hL]at hT ⊢;have c1:=(show w1.cell? ⟨gf,0,Ih⟩=Ic (.slice Af f.length cf) by rw[ah h'.bf];rfl);have c2:=(show w1.cell? ⟨gg,0,Ih⟩=Ic (.slice Ag g.length cg) by rw[ah h'.bg];rfl);obtain⟨t,ht⟩:=ME (da f g c);have hb:iZ f g c=(t.1 != 0):=by rw[ht];rfl
 rw[hb];rw[<-ht]at hT;obtain⟨b,hb⟩:=ME ((t.1 != 0));have q:(t.1 != 0)=b:=hb.symm;rw[<-hb];have HT:=MD hT;have HW1:=MD hw1;have H1:=MD h1;have HLi:=MD hLi;have HB1:=MD hb1;clear hV0 hL hLi hw1 h1 hb1 h' hT ht hb h h8 hh ha;go_enter Tryz.func60,Tryz.ntmps60;go_upto_region 1 with fail
 refine ar HW1.1.symm ?_;clear hB HW1;go_wp2_with (first
  |((with_reducible refine ai (N:=10) rfl ?_);refine ay rfl _ (ao rfl rfl (aY (P:=If) H1.1 I4 rfl HLi.1)) ?_)
  |(go_at_call 9;refine HT.1.mono ?_;rintro e w2 ⟨rfl,hb⟩;have HB2:=MD (af HB1.1 hb);clear hb))
 go_ret;exact⟨rfl,HB2.1⟩
theorem RdT.take{α:Type}{d:Kd α}{t:Nat}{W:Im}{A:Option Addr}{c:Nat}{xs:List α}(h:RdT d t W (Ia A xs.length c) xs){n:Nat}(hn:n<=xs.length):RdT d t W (Ia A n c) (xs.take n):=by
 obtain⟨Aq,cq,e,h2,⟨h3,h4,h5⟩,h6⟩:=h;injection e with e1 e2 e3
 subst e1;subst e3;have hl:(xs.take n).length=n:=by simp;omega
 refine⟨A,c,by rw[hl],by omega,⟨rfl,by omega,λh0=>?_⟩,h6⟩;obtain⟨ad,ea,h7⟩:=h5 (by omega);refine⟨ad,ea,λj p hp=>h7 j p ?_⟩;rw[MC (by have:=(Ip.1 hp).1;omega)]at hp;exact hp
def CaB(W:Im)(g:Nat)(c:Ca):Prop:=∃A n B m,W.heap[g]?=Ic (.cells (cac c.r (Ia A c.h.length n) (Ia B c.ans.length m) c.fuel).toArray 37 (0,0))/\c.r.length=8/\RdT (Kd.int .i64) 2 W (Ia A c.h.length n) c.h/\RdT (Kd.int .i64) 2 W (Ia B c.ans.length m) c.ans
theorem CaB.below{W W':Im}{g:Nat}{c:Ca}(h:CaB W g c)(hb:It W.heap.size W W'):CaB W' g c:=by
 obtain⟨A,n,B,m,h1,h2,h3,h4⟩:=h;exact⟨A,n,B,m,ag h1 hb,h2,h3.below hb,h4.below hb⟩
def qY(gf gg:Nat):Io:=.func (.func 60) #[] #[Iq (Ic ⟨gf,0,Ih⟩),Iq (Ic ⟨gg,0,Ih⟩)]
theorem C5(f g:List In)(gf gg gc gt:Nat)(Af Ag:Option Addr)(cf cg:Nat)(hcf:f.length<=cf)(hcg:g.length<=cg)(c:Ca)(n:Int)(w:Im)(h:yl w f g gf gg Af Ag cf cg)(hc:CaB w gc c)(ht:w.heap[gt]?=Ic (.cells #[qY gf gg] 156 (0,0)))(hh:c.h.length<=5000)(ha:c.ans.length<=100000) :
  I9 If 62 #[Ib Ie n,Iq (Ic ⟨gc,0,Ih⟩),Iq (Ic ⟨gt,0,Ih⟩)] w λe w'=>e=Iv (Iy (iZ f g { c with fuel:=n }))/\It w.heap.size w w':=by
 obtain⟨A,k,B,m,hgc,h8,hH,hA⟩:=hc;obtain⟨b,hb⟩:=ME (iZ f g { c with fuel:=n });have HC:=MD (λ(W:Im) (hb:It w.heap.size w W)=>pL f g gf gg Af Ag cf cg hcf hcg { c with fuel:=n } (IA (cac c.r (Ia A c.h.length k) (Ia B c.ans.length m) n).toArray) W (h.below hb) ⟨_,_,rfl,h8,hH.below hb,hA.below hb⟩ hh ha);rw[<-hb]at HC ⊢;unfold qY at ht;have ct:=(show w.cell? ⟨gt,0,Ih⟩=Ic (.func (.func 60) #[] #[Iq (Ic ⟨gf,0,Ih⟩),Iq (Ic ⟨gg,0,Ih⟩)]) by rw[ah ht];rfl);have HGc:=MD hgc;have H8:=MD h8;clear hb h ht hgc h8 hH hA hh ha;go_enter Tryz.func62,Tryz.ntmps62;go_upto_region 2 with(first
  |((with_reducible refine ai (N:=6) rfl ?_);refine ay rfl _ (ao rfl rfl (aY (P:=If) HGc.1 I4 rfl (bv H8.1))) ?_)
  |((with_reducible refine ap (t:=37) (p:=5) rfl ?_);refine an rfl 37 _ _ rfl w.heap.size (cac c.r (Ia A c.h.length k) (Ia B c.ans.length m) c.fuel).toArray rfl rfl 37 dP (Iu w _) (bv H8.1) (caz H8.1) fN ?_;intro w2 h2 hf2;have H2:=MD h2;have HB2:=MD (cw hf2);clear h2 hf2))
 obtain⟨G,hG⟩:=MF w.heap.size;rw[hG]at H2 ⊢;have HG:=MD hG;have c10:=(show w2.cell? ⟨G,10,Ih⟩=Ic (Ib Ie c.fuel) by rw[aq H2.1,show 10=8+2 from rfl,dj H8.1];rfl);have f10:=au H2.1 10;have ct2:=ak HB2.1 ct;clear hG ct;go_upto_region 3 with fail
 obtain⟨w3,hw3⟩:∃w3,w3=w2.setCell ⟨G,10,Ih⟩ (Ib Ie n):=⟨_,rfl⟩;refine ar hw3.symm ?_;have h3:w3.heap[G]?=Ic (.cells (cac c.r (Ia A c.h.length k) (Ia B c.ans.length m) n).toArray 37 (0,0)):=by rw[hw3,aR H2.1,show 10=8+2 from rfl,kI H8.1];rfl
 have hb3:It w.heap.size w w3:=by rw[hw3];exact Fr.below HB2.1 (Fr.cell (S:=λj=>j=G) (p:=⟨G,10,Ih⟩) rfl _) (λk hk e=>by have:=HG.1;omega) HB2.1.size
 have ct3:=(show w3.cell? ⟨gt,0,Ih⟩=Ic (.func (.func 60) #[] #[Iq (Ic ⟨gf,0,Ih⟩),Iq (Ic ⟨gg,0,Ih⟩)])from by
  have hlt:=J8 w2 ⟨gt,0,Ih⟩ ct2;rw[hw3];exact(Fr.cell (S:=λj=>j=G) (a:=w2) (p:=⟨G,10,Ih⟩) rfl (Ib Ie n)).cell_at ct2 (λe=>by
   have e:gt=G:=e;subst e;rw[aq H2.1]at ct2;unfold cac at ct2;rw[Jg (by rw[Jb,H8.1];decide),IK]at ct2;cases hr:c.r[0]? with
   |none=>rw[hr]at ct2;simp at ct2
   |some z=>rw[hr]at ct2;simp at ct2))
 have H3:=MD h3;have HB3:=MD hb3;clear hw3 h3 hb3 c10 f10 ct2;go_wp2_with (first
  |((with_reducible refine ai (N:=10) rfl ?_);refine ay rfl _ (ao rfl rfl (aY (P:=If) H3.1 I4 rfl (bv H8.1))) ?_)
  |(go_at_call 60;refine(HC.1 w3 HB3.1).mono ?_;rintro e w4 ⟨rfl,hb⟩;have HB4:=MD (af HB3.1 hb);clear hb))
 go_ret;exact⟨rfl,HB4.1⟩
theorem C1(f g:List In)(gf gg gc gt:Nat)(Af Ag:Option Addr)(cf cg:Nat)(hcf:f.length<=cf)(hcg:g.length<=cg)(c:Ca)(n:Nat)(hn:n<=c.ans.length)(w:Im)(h:yl w f g gf gg Af Ag cf cg)(hc:CaB w gc c)(ht:w.heap[gt]?=Ic (.cells #[qY gf gg] 156 (0,0)))(hh:c.h.length<=5000)(ha:c.ans.length<=100000) :
  I9 If 63 #[Ib Ie (n:Int),Iq (Ic ⟨gc,0,Ih⟩),Iq (Ic ⟨gt,0,Ih⟩)] w λe w'=>e=Iv (Iy (iZ f g { c with ans:=c.ans.take n }))/\It w.heap.size w w':=by
 obtain⟨A,k,B,m,hgc,h8,hH,hA⟩:=hc;have hcm:c.ans.length<=m:=by obtain⟨_,_,e,h,_⟩:=hA;injection e with _ _ e;omega
 obtain⟨b,hb⟩:=ME (iZ f g { c with ans:=c.ans.take n });have hlt:(c.ans.take n).length=n:=by simp;omega
 have HC:=MD (λ(W:Im) (hb:It w.heap.size w W)=>pL f g gf gg Af Ag cf cg hcf hcg { c with ans:=c.ans.take n } (IA (cac c.r (Ia A c.h.length k) (Ia B n m) c.fuel).toArray) W (h.below hb) ⟨_,_,rfl,h8,hH.below hb,(hA.take hn).below hb⟩ hh (by show(c.ans.take n).length<=_;omega));rw[<-hb]at HC ⊢;unfold qY at ht;have ct:=(show w.cell? ⟨gt,0,Ih⟩=Ic (.func (.func 60) #[] #[Iq (Ic ⟨gf,0,Ih⟩),Iq (Ic ⟨gg,0,Ih⟩)]) by rw[ah ht];rfl);have c9:=(show w.cell? ⟨gc,9,Ih⟩=Ic (.slice B c.ans.length m) by rw[aq hgc,show 9=8+1 from rfl,dj h8];rfl);have HGc:=MD hgc;have H8:=MD h8;have hn':(n:Int)<=(c.ans.length:Int):=by omega
 have hm':(c.ans.length:Int)<=(m:Int):=by omega
 have hnm':(n:Int)<=(m:Int):=by omega
 clear hb h ht hgc h8 hH hA hh ha hlt;go_enter Tryz.func63,Tryz.ntmps63;go_upto_region 2 with(first
  |((with_reducible refine ai (N:=6) rfl ?_);refine ay rfl _ (ao rfl rfl (aY (P:=If) HGc.1 I4 rfl (bv H8.1))) ?_)
  |((with_reducible refine ap (t:=37) (p:=5) rfl ?_);refine an rfl 37 _ _ rfl w.heap.size (cac c.r (Ia A c.h.length k) (Ia B c.ans.length m) c.fuel).toArray rfl rfl 37 dP (Iu w _) (bv H8.1) (caz H8.1) fN ?_;intro w2 h2 hf2;have H2:=MD h2;have HB2:=MD (cw hf2);clear h2 hf2))
 obtain⟨G,hG⟩:=MF w.heap.size;rw[hG]at H2 ⊢;have HG:=MD hG;have d9:=(show w2.cell? ⟨G,9,Ih⟩=Ic (.slice B c.ans.length m) by rw[aq H2.1,show 9=8+1 from rfl,dj H8.1];rfl);have f9:=au H2.1 9;have ct2:=ak HB2.1 ct;have c92:=ak HB2.1 c9;clear hG ct c9;go_upto_region 3 with fail
 obtain⟨w3,hw3⟩:∃w3,w3=w2.setCell ⟨G,9,Ih⟩ (Ia B n m):=⟨_,rfl⟩;refine ar hw3.symm ?_;have h3:w3.heap[G]?=Ic (.cells (cac c.r (Ia A c.h.length k) (Ia B n m) c.fuel).toArray 37 (0,0)):=by rw[hw3,aR H2.1,show 9=8+1 from rfl,kI H8.1];rfl
 have hb3:It w.heap.size w w3:=by rw[hw3];exact Fr.below HB2.1 (Fr.cell (S:=λj=>j=G) (p:=⟨G,9,Ih⟩) rfl _) (λk hk e=>by have:=HG.1;omega) HB2.1.size
 have ct3:=(show w3.cell? ⟨gt,0,Ih⟩=Ic (.func (.func 60) #[] #[Iq (Ic ⟨gf,0,Ih⟩),Iq (Ic ⟨gg,0,Ih⟩)])from by
  rw[hw3];exact(Fr.cell (S:=λj=>j=G) (a:=w2) (p:=⟨G,9,Ih⟩) rfl (Ia B n m)).cell_at ct2 (λe=>by
   have e:gt=G:=e;subst e;rw[aq H2.1]at ct2;unfold cac at ct2;rw[Jg (by rw[Jb,H8.1];decide),IK]at ct2;cases hr:c.r[0]? with
   |none=>rw[hr]at ct2;simp at ct2
   |some z=>rw[hr]at ct2;simp at ct2))
 have H3:=MD h3;have HB3:=MD hb3;clear hw3 h3 hb3 d9 f9 ct2 c92;go_wp2_with (first
  |((with_reducible refine ai (N:=13) rfl ?_);refine ay rfl _ (ao rfl rfl (aY (P:=If) H3.1 I4 rfl (bv H8.1))) ?_)
  |(go_at_call 60;refine(HC.1 w3 HB3.1).mono ?_;rintro e w4 ⟨rfl,hb⟩;have HB4:=MD (af HB3.1 hb);clear hb))
 go_ret;exact⟨rfl,HB4.1⟩
def fT(p:Int->Bool):Nat->Int->Int->Int
 |0,a,_=>a
 |n+1,a,b=>if a<b then(if p (a+(b-a)/2)=Ir then fT p n a (a+(b-a)/2)else fT p n (a+(b-a)/2+1) b)else a
theorem kx(p:Int->Bool):∀(n m:Nat) (a b:Int),(b-a).toNat<=n->(b-a).toNat<=m->fT p n a b=fT p m a b
 |0,0,_,_,_,_=>rfl
 |0,m+1,a,b,h,_=>by rw[fT,fT,if_neg (by omega)]
 |n+1,0,a,b,_,h=>by rw[fT,fT,if_neg (by omega)]
 |n+1,m+1,a,b,h1,h2=>by
  rw[fT,fT];by_cases h:a<b
  .rw[if_pos h,if_pos h]
   by_cases hp:p (a+(b-a)/2)=Ir
   .rw[if_pos hp,if_pos hp]
    exact kx p n m _ _ (by omega) (by omega)
   .rw[if_neg hp,if_neg hp]
    exact kx p n m _ _ (by omega) (by omega)
  .rw[if_neg h,if_neg h]
def iu(p:Int->Bool)(a b:Int):Int:=fT p (b-a).toNat a b
theorem uV{p:Int->Bool}{a b:Int}(h:a<b):iu p a b=if p (a+(b-a)/2)=Ir then iu p a (a+(b-a)/2)else iu p (a+(b-a)/2+1) b:=by
 unfold iu;obtain⟨n,hn⟩:∃n,(b-a).toNat=n+1:=⟨(b-a).toNat-1,by omega⟩;rw[hn,fT,if_pos h];by_cases hp:p (a+(b-a)/2)=Ir
 .rw[if_pos hp,if_pos hp]
  exact kx p _ _ _ _ (by omega) (by omega)
 .rw[if_neg hp,if_neg hp]
  exact kx p _ _ _ _ (by omega) (by omega)
theorem uW{p:Int->Bool}{a:Int}:iu p a a=a:=by
 unfold iu;rw[Int.sub_self];rfl
theorem lw(p:Int->Bool):∀(n:Nat) (a b:Int),a<=b->a<=fT p n a b/\fT p n a b<=b
 |0,a,b,h=>⟨J7 _,h⟩
 |n+1,a,b,h=>by
  rw[fT];by_cases h1:a<b
  .rw[if_pos h1]
   by_cases hp:p (a+(b-a)/2)=Ir
   .rw[if_pos hp]
    have:=lw p n a (a+(b-a)/2) (by omega);omega
   .rw[if_neg hp]
    have:=lw p n (a+(b-a)/2+1) b (by omega);omega
  .rw[if_neg h1]
   omega
theorem pK(p:Int->Bool)(hi:Int)(h0:0<=hi)(h1:hi<=100000)(gc gt:Nat)(w:Im)(hIs:∀W,It w.heap.size w W->∀m,0<=m->m<hi->I9 If 62 #[Ib Ie m,Iq (Ic ⟨gc,0,Ih⟩),Iq (Ic ⟨gt,0,Ih⟩)] W λe w'=>e=Iv (Iy (p m))/\It W.heap.size W w') :
  I9 If 61 #[Ib Ie 0,Ib Ie hi,.func (.func 62) #[] #[Iq (Ic ⟨gc,0,Ih⟩),Iq (Ic ⟨gt,0,Ih⟩)]] w λe w'=>e=Iv (Ib Ie (iu p 0 hi))/\It w.heap.size w w':=by
 have HIs:=MD hIs;have HT:=MD (IE h0 h1);clear hIs h0 h1;go_enter Tryz.func61,Tryz.ntmps61;go_wp2;go_loopw [0,1] (λu v wr=>∃a b:Int,u=Ib Ie a/\v=Ib Ie b/\aa (0<=a/\a<=b/\b<=hi/\iu p a b=iu p 0 hi/\It w.heap.size w wr)) (λu v _=>(Jj v-Jj u).toNat)
 case atStart=>exact⟨0,hi,rfl,rfl,⟨⟨J7 _,HT.1.1,J7 _,rfl,Il _ _⟩⟩⟩
 case round=>
  obtain⟨a,b,rfl,rfl,HI⟩:=hrel;obtain⟨ha,hab,hb,hl,hB⟩:=HI.1;by_cases hlt:a<b
  .have hto:=HT.1
   have hm1:a+(b-a)/2<b:=by omega
   have hm0:0<=a+(b-a)/2:=by omega
   have hba:0<=b-a:=by omega
   have hbb:b<=100000:=by omega
   obtain⟨m,hm⟩:=ME (a+(b-a)/2);have hC:=HIs.1 wr hB m (by omega) (by omega);have hL:=uV (p:=p) hlt;rw[hl,<-hm]at hL;have HM:=MD (show a<=m/\m<b by omega);have HL:=MD hL;have HB:=MD hB;have HBb:=MD hb;obtain⟨y,hy⟩:=ME (p m);rw[<-hy]at hC HL;have HC:=MD hC;have hm':a+(b-a)/2=m:=hm.symm;have hmb:m<=100000:=by omega
   have hm00:0<=m:=by omega
   clear hl hB hb hC hL hy hto HI hm hm1 hm0;cases y with
   |true=>
    go_wp2_with (first|(go_at_call 62;refine HC.1.mono ?_;rintro e w2 ⟨rfl,hb2⟩;have HB2:=MD (af HB.1 hb2);clear hb2));go_roundw
    case rel=>exact⟨a,m,rfl,rfl,⟨⟨ha,HM.1.1,by have:=HM.1;have:=HBb.1;omega,by rw[HL.1];simp,HB2.1⟩⟩⟩
    case measure=>have:=HM.1;simp[Jj];omega
   |false=>
    go_wp2_with (first|(go_at_call 62;refine HC.1.mono ?_;rintro e w2 ⟨rfl,hb2⟩;have HB2:=MD (af HB.1 hb2);clear hb2));go_roundw
    case rel=>exact⟨m+1,b,rfl,rfl,⟨⟨by have:=HM.1;omega,by have:=HM.1;omega,HBb.1,by rw[HL.1];simp,HB2.1⟩⟩⟩
    case measure=>have:=HM.1;simp[Jj];omega
  .obtain rfl:a=b:=by omega
   rw[uW]at hl;have HL:=MD hl;have HB:=MD hB;clear hl hB hb HI;go_wp2;go_ret;exact⟨by rw[<-HL.1];rfl,HB.1⟩
theorem pJ(p:Int->Bool)(hi:Int)(h0:0<=hi)(h1:hi<=100000)(gc gt:Nat)(w:Im)(hIs:∀W,It w.heap.size w W->∀m,0<=m->m<hi->I9 If 63 #[Ib Ie m,Iq (Ic ⟨gc,0,Ih⟩),Iq (Ic ⟨gt,0,Ih⟩)] W λe w'=>e=Iv (Iy (p m))/\It W.heap.size W w') :
  I9 If 61 #[Ib Ie 0,Ib Ie hi,.func (.func 63) #[] #[Iq (Ic ⟨gc,0,Ih⟩),Iq (Ic ⟨gt,0,Ih⟩)]] w λe w'=>e=Iv (Ib Ie (iu p 0 hi))/\It w.heap.size w w':=by
 have HIs:=MD hIs;have HT:=MD (IE h0 h1);clear hIs h0 h1;go_enter Tryz.func61,Tryz.ntmps61;go_wp2;go_loopw [0,1] (λu v wr=>∃a b:Int,u=Ib Ie a/\v=Ib Ie b/\aa (0<=a/\a<=b/\b<=hi/\iu p a b=iu p 0 hi/\It w.heap.size w wr)) (λu v _=>(Jj v-Jj u).toNat)
 case atStart=>exact⟨0,hi,rfl,rfl,⟨⟨J7 _,HT.1.1,J7 _,rfl,Il _ _⟩⟩⟩
 case round=>
  obtain⟨a,b,rfl,rfl,HI⟩:=hrel;obtain⟨ha,hab,hb,hl,hB⟩:=HI.1;by_cases hlt:a<b
  .have hto:=HT.1
   have hm1:a+(b-a)/2<b:=by omega
   have hm0:0<=a+(b-a)/2:=by omega
   have hba:0<=b-a:=by omega
   have hbb:b<=100000:=by omega
   obtain⟨m,hm⟩:=ME (a+(b-a)/2);have hC:=HIs.1 wr hB m (by omega) (by omega);have hL:=uV (p:=p) hlt;rw[hl,<-hm]at hL;have HM:=MD (show a<=m/\m<b by omega);have HL:=MD hL;have HB:=MD hB;have HBb:=MD hb;obtain⟨y,hy⟩:=ME (p m);rw[<-hy]at hC HL;have HC:=MD hC;have hm':a+(b-a)/2=m:=hm.symm;have hmb:m<=100000:=by omega
   have hm00:0<=m:=by omega
   clear hl hB hb hC hL hy hto HI hm hm1 hm0;cases y with
   |true=>
    go_wp2_with (first|(go_at_call 63;refine HC.1.mono ?_;rintro e w2 ⟨rfl,hb2⟩;have HB2:=MD (af HB.1 hb2);clear hb2));go_roundw
    case rel=>exact⟨a,m,rfl,rfl,⟨⟨ha,HM.1.1,by have:=HM.1;have:=HBb.1;omega,by rw[HL.1];simp,HB2.1⟩⟩⟩
    case measure=>have:=HM.1;simp[Jj];omega
   |false=>
    go_wp2_with (first|(go_at_call 63;refine HC.1.mono ?_;rintro e w2 ⟨rfl,hb2⟩;have HB2:=MD (af HB.1 hb2);clear hb2));go_roundw
    case rel=>exact⟨m+1,b,rfl,rfl,⟨⟨by have:=HM.1;omega,by have:=HM.1;omega,HBb.1,by rw[HL.1];simp,HB2.1⟩⟩⟩
    case measure=>have:=HM.1;simp[Jj];omega
  .obtain rfl:a=b:=by omega
   rw[uW]at hl;have HL:=MD hl;have HB:=MD hB;clear hl hB hb HI;go_wp2;go_ret;exact⟨by rw[<-HL.1];rfl,HB.1⟩
end Go.Proofs.YtlinbehijfcelaaGreatDoor.Top
