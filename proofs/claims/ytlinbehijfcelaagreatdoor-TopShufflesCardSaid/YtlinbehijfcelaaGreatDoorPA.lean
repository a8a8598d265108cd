/- Words for the walks: laws of the model, told once. No condition. Begun as texts of the kit's print tool. -/
import Derived.Below
import Derived.Deep.Draws
import Derived.Deep.AppendLies
import Derived.Maps.AppendAt
import Derived.OwnWalk
import Derived.Laws.BytesArg
import Derived.Laws.MakeOwn
import Derived.Laws.OwnMore
import Derived.Deep.OwnRows
import Derived.Tactics
import Derived.Lib.ConvBytes
import Derived.Laws.Slices
import Derived.WalkKit
import Derived.KernelRfl
import Derived.RowKit3
import Derived.Deep.LoopGhost
import Derived.Deep.QuietTactic
import Derived.BigQuiet
import Derived.WideLaws
import Derived.Deep.DeepCutAuto
import Derived.Deep.CutBlock
import Derived.Deep.RegionHeld3
import Derived.Laws.Rows
import Derived.Lib.AppendStr
import Derived.ArgAppend
import Derived.Laws.IdiomCopy
import Derived.RowKit
import Derived.OrdersHeld
import Derived.Laws.BitsLemmas
import Derived.Laws.StructEq
import Derived.Test.YtlinbehijfcelaaGreatDoorProg
import Derived.Deep.WholeRow
import Derived.Laws.CopyOwn
import Derived.Carry
import Derived.ChangeKeysEq
import Derived.Laws.RangeAny
set_option linter.unusedVariables false
set_option linter.unusedSimpArgs false
set_option linter.unusedSectionVars false
set_option maxHeartbeats 8000000
set_option maxRecDepth 100000
open Go renaming IntKind->LP,Operand->Lf,Program->Jn,TypeId->Je,Value->Io,World->Im,bytes->KU,execOp->JJ,getD_set_ne->IL,heap_alloc_new->JZ,loadVar->Le,mem_ready->L0,results->Lg,run_underlying->I2,undef->KG,wpList->Kg,yielded->KH
open Go.RowKit renaming Below->It
open Go.RowKit.Below renaming heap_setCell->Ld,refl->Il
open Nat renaming eq_zero_or_pos->LZ,le_mul_of_pos_right->Mk,le_of_lt->Mv,le_refl->Iz,le_trans->IT,lt_irrefl->Mq,lt_of_lt_of_le->Kw,lt_or_ge->Lx,mul_le_mul_right->Jv,mul_one->JQ,ne_of_gt->LS,succ_mul->Kp
open Option renaming bind_eq_some_iff->L7,map_eq_some_iff->Ks,none->Ih,some->Ic
open Go.World renaming block_lt_of_cell?->J8,cell?->My
open Go.Addr renaming add->Mo
open Go.Value renaming agg->IA,bool->Iy,int->Ib,ownBlock->IQ,pointer->Iq,slice->Ia,tuple->IR
open Array renaming any_eq_true'->Lt,getElem?_eq_none->LB,getElem?_eq_some_iff->IB,length_toList->LJ,toList_setIfInBounds->Mw
open List renaming append_assoc->Kv,append_nil->JS,drop_append->Mx,drop_append_of_le_length->MA,drop_eq_getElem_cons->Jc,drop_of_length_le->Ju,eq_nil_of_length_eq_zero->LV,ext_getElem?->JN,getD_eq_getElem?_getD->Ij,getElem?_append_left->Jg,getElem?_append_right->IW,getElem?_cons_succ->Kc,getElem?_cons_zero->Mn,getElem?_drop->J9,getElem?_eq_getElem->Ig,getElem?_eq_none->I0,getElem?_eq_some_iff->Ip,getElem?_set_ne->JR,getElem?_set_self->Jw,getElem?_take->JV,length_append->IV,length_cons->Jz,length_drop->Kk,length_set->Jq,length_singleton->LU,length_take->Kt,map_cons->Jt,map_nil->La,map_toArray->Mt,mem_append->J0,mem_cons->I7,mem_cons_of_mem->Jm,mem_cons_self->JH,mem_map->JM,mem_singleton->IS,nil_append->Ka,take_append_of_le_length->Kx,take_length->Kh,take_succ_eq_append_getElem->JC
open Prod.mk renaming injEq->IM
open Go.Builtin renaming append_->Kj,firstCells->LI
open Go.Sem renaming run_bind->IJ,run_pure->JO
open Go.Result renaming andThen_ok->I1
open Bool renaming and_eq_true->Js,false->Ik,or_eq_true->Mb,true->Ir
open Go.Obj renaming cells->Is
open Option.some renaming inj->Ii,injEq->Ja
open ByteArray renaming empty->Ji
open Go.Instr renaming sureAddr->Mg
open Go.Region renaming Mode->LC,ready->JA,wanted->Jk
open Go.Op renaming eqFields->Lr,equalIn->Jp
namespace Go.Proofs.YtlinbehijfcelaaGreatDoorW.PrintWords
open Go.RowKit
structure aa(p:Prop):Prop where mk::(out:p)
theorem MD{p:Prop}(h:p):aa p:=⟨h⟩
theorem ME{α:Sort _}(e:α):∃x,x=e:=⟨e,rfl⟩
theorem MF{α:Sort _}(e:α):∃x,e=x:=⟨e,rfl⟩
structure jv(w w':Im):Prop where mk::(out:∃n,w'=w.drewN n)
theorem jv.step{w w':Im}(h:jv w w')(n:Nat):jv w (w'.drewN n):=by
 obtain⟨m,rfl⟩:=h;exact⟨⟨m+n,Im.drewN_drewN ..⟩⟩
theorem jv.grown{w w':Im}(h:jv w w'):Grown w w':=by
 obtain⟨n,rfl⟩:=h
 induction n with
 |zero=>exact Grown.refl _
 |succ n ih=>rw[<-Im.drew_drewN];exact Grown.drew ih
theorem jv.below{w w':Im}(h:jv w w'):It w.heap.size w w':=by
 obtain⟨n,rfl⟩:=h
 induction n with
 |zero=>exact Il _ _
 |succ n ih=>rw[<-Im.drew_drewN];exact ih.drew
def rd(xs:List Int)(i:Int):Int:=xs.getD i.toNat 0
def bt(s:ByteArray)(i:Int):Int:=if h:i.toNat<s.size then((s[i.toNat]'h).toNat:Int)else 0
theorem oX(s:ByteArray)(i:Int):∀h:i.toNat<s.size,((s[i.toNat]'h).toNat:Int)=bt s i:=λh=>by simp[bt,h]
theorem rh(s:ByteArray)(i:Int):0<=bt s i/\bt s i<=255:=by
 unfold bt;split
 .rename_i h
  have:=(s[i.toNat]'h).toNat_lt;omega
 .omega
def fZ(k:LP)(xs:List Int):List Io:=xs.map λx=>.int k x
theorem ae{w W:Im}(h:It w.heap.size w W)(o:Obj):It w.heap.size w (W.alloc o):=h.alloc h.size o
theorem aA{B:Nat}{w W:Im}(h:It B w W):It B w W.drew:=⟨h.os,h.tape,h.output,h.size,h.block⟩
theorem aQ{B:Nat}{w W:Im}(h:It B w W)(n:Nat):It B w (W.drewN n):=⟨h.os,h.tape,h.output,h.size,h.block⟩
theorem zR{B:Nat}{w w1 w2:Im}(h:It B w w1)(hB:B<=w1.heap.size)(k:It w1.heap.size w1 w2):It B w w2:=
 h.trans ⟨k.os,k.tape,k.output,k.size,λi hi=>k.block i (Kw hi hB)⟩
theorem qH{w w1:Im}(h:It w.heap.size w w1)(row:Option Nat):w.grownBy w1 row:=⟨h.os,h.tape,h.output,h.size,λi hi _=>h.block i hi⟩
theorem ak{w w1:Im}(h:It w.heap.size w w1){a:Addr}{v:Io}(hc:w.cell? a=Ic v):w1.cell? a=Ic v:=(h.cell (J8 w a hc)).trans hc
theorem CB(g j:Nat):(⟨g,0,Ih⟩:Addr).add j=⟨g,j,Ih⟩:=by unfold Mo;split<;>simp_all
def dY(w:Im)(k:LP)(A:Option Addr)(n:Nat)(xs:List Int):Prop:=
 xs.length=n/\n<=9223372036854775807/\(0<n->∃ad,A=Ic ad/\∀j,j<n->w.cell? (ad.add j)=Ic (.int k (xs.getD j 0)))
theorem dY.at_{w:Im}{k:LP}{A:Option Addr}{n:Nat}{xs:List Int}(h:dY w k A n xs)(i:Int)(h0:0<=i)(h1:i<n):∃ad,A=Ic ad/\w.cell? (ad.add i.toNat)=Ic (.int k (rd xs i)):=by
 obtain⟨ad,e,hc⟩:=h.2.2 (by omega);exact⟨ad,e,hc _ (by omega)⟩
theorem dY.below{w w1:Im}{k:LP}{A:Option Addr}{n:Nat}{xs:List Int}(h:dY w k A n xs)(hb:It w.heap.size w w1):dY w1 k A n xs:=
 ⟨h.1,h.2.1,λhn=>by
  obtain⟨ad,e,hc⟩:=h.2.2 hn;exact⟨ad,e,λj hj=>ak hb (hc j hj)⟩⟩
theorem EK(W:Im)(base:Nat)(e:Je)(size:Nat):W.ownsRow base e size (Ia Ih 0 0) 0 []:=⟨by simp,.inl ⟨rfl,rfl⟩⟩
theorem jY{w:Im}{base:Nat}{e:Je}{size n:Nat}{v:Io}{xs:List Io}(h:w.ownsRow base e size v n xs)(k:Nat)(hk:v.ownBlock=Ic k):base<=k:=by
 rcases h.2 with⟨rfl,_⟩|⟨g,cap,cur,rfl,hb,_⟩
 .simp[IQ]at hk
 .have:g=k:=by simpa[IQ]using hk
  omega
theorem Di{w:Im}{base:Nat}{e:Je}{size n:Nat}{v:Io}{xs:List Io}(h:w.ownsRow base e size v n xs)(k:Nat)(hk:v.ownBlock=Ic k):k<w.heap.size:=by
 rcases h.2 with⟨rfl,_⟩|⟨g,cap,cur,rfl,hb,hh,_⟩
 .simp[IQ]at hk
 .have:g=k:=by simpa[IQ]using hk
  subst this;exact(IB.1 hh).1
theorem tr{w w1:Im}{base:Nat}{e:Je}{size n:Nat}{v:Io}{xs:List Io}(h:w.ownsRow base e size v n xs)(hb:It w.heap.size w w1):w1.ownsRow base e size v n xs:=
 h.kept (qH hb Ih) (by cases v.ownBlock<;>simp)
theorem BM{w w1:Im}{base:Nat}{e:Je}{size n:Nat}{v:Io}{xs:List Io}(h:w.ownsRow base e size v n xs){row:Option Nat}(hg:w.grownBy w1 row)(hne:v.ownBlock=Ih\/v.ownBlock≠row):w1.ownsRow base e size v n xs:=h.kept hg hne
theorem BL{w:Im}{base n:Nat}{e:Je}{k:LP}{v:Io}{xs:List Int}(h:w.ownsRow base e 1 v n (fZ k xs)):∃A c,v=Ia A n c/\dY w k A n xs:=by
 have hl:xs.length=n:=by have:=h.1;simp[fZ]at this;exact this
 rcases LZ n with h0|h0
 .rcases h.2 with⟨rfl,rfl⟩|⟨g,cap,cur,rfl,_⟩
  .exact⟨Ih,0,rfl,hl,by omega,λhp=>absurd hp (by omega)⟩
  .exact⟨_,cap,rfl,hl,by omega,λhp=>absurd hp (by omega)⟩
 .obtain⟨g,cap,rfl,_,_⟩:=h.form h0
  have hm:n<=9223372036854775807:=by
   rcases h.2 with⟨_,h1⟩|⟨g',cap',cur,he,_,_,h1,h2,_⟩
   .omega
   .simp only[maxLen]at h2
    omega
  refine⟨_,cap,rfl,hl,hm,λ_=>⟨_,rfl,λj hj=>h.cells (g:=g) rfl j _ ?_⟩⟩;simp[fZ,Ig (show j<xs.length by omega),Ij]
theorem qm{P:Jn}{w:Im}{base n:Nat}{e' src dst e:Je}{v:Io}{xs:List Int}(hs:P.underlying src=Ic (.slice e))(he:P.underlying e=Ic (.int .u8))(hd:P.underlying dst=Ic .string)
  (h:w.ownsRow base e' 1 v n (fZ .u8 xs)):(convert src dst v).run P w=.ok (.string (strOfNums xs)) w:=by
 have hl:xs.length=n:=by have:=h.1;simp[fZ]at this;exact this
 rcases h.2 with⟨rfl,rfl⟩|⟨g,cap,cur,rfl,_⟩
 .obtain rfl:xs=[]:=LV hl
  exact run_convert_bytes_nil w src e hs he 0 0 dst hd
 .refine run_convert_bytes_arg w src e hs he g 0 n cap xs hl (λi hi=>?_) dst hd
  have hc:=h.cells (g:=g) rfl i (.int .u8 (xs.getD i 0)) (by simp[fZ,Ig (show i<xs.length by omega),Ij]);have ha:(⟨g,0,Ih⟩:Addr).add i=⟨g,0+i,Ih⟩:=by unfold Mo;split<;>simp_all
  rwa[ha]at hc
section
variable{P:Jn}{ops:Array Oper}{rest:List Oper}{o:Oper}{a:Act}{Q:Exit->Act->Im->Prop}
theorem nY{w0 W:Im}(base:Nat)(hgd:o.guard=Ih)(s x:Lf)(t e:Je)(k:LP)(KU:Nat)
  (ho:o.op=.call { callee:=.builtin .append,args:=#[s,x],argTypes:=#[t,t] })
  (ht:P.underlying t=Ic (.slice e)) (hinfo:(P.info? e).map (λi=>(i.zero,i.size,i.bytes))=Ic (Ic (.int k 0),1,KU)) (hb0:0<KU)
  (v:Io) (xs ys:List Int) (A:Option Addr) (m c:Nat) (hs:a.eval s=v) (hx:a.eval x=Ia A m c)
  (HO:W.ownsRow base e 1 v xs.length (fZ k xs)) (HR:dY W k A m ys) (HB:It base w0 W) (hbase:base<=W.heap.size) (hl:(xs.length+m)*KU<=140737488355328)
  (h:∀v1 w1,w1.ownsRow base e 1 v1 (xs++ys).length (fZ k (xs++ys))->It base w0 w1->W.grownBy w1 v.ownBlock->(v1.ownBlock=v.ownBlock\/∃b,v1.ownBlock=Ic b/\W.heap.size<=b)->Kg P ops Q rest (a.put o.dst v1) w1) :
  Kg P ops Q (o::rest) a W:=by
 obtain⟨i0,hi,hzz⟩:=Ks.1 hinfo;simp only[IM]at hzz;obtain⟨hz0,hz1,hz2⟩:=hzz;have hm:ys.length=m:=HR.1;have hlen:xs.length+m<=140737488355328:=IT (Mk _ hb0) hl;have hrun:∃v1 w1,(Kj #[t,t] o.type #[v,Ia A m c]).run P W=.ok v1 w1/\w1.ownsRow base e 1 v1 (xs++ys).length (fZ k (xs++ys))/\W.grownBy w1 v.ownBlock/\(v1.ownBlock=v.ownBlock\/v1.ownBlock=Ic W.heap.size):=by
  rcases A with _|ad
  .have h0:m=0:=by
    rcases LZ m with h0|h0
    .exact h0
    .obtain⟨ad,h,_⟩:=HR.2.2 h0
     cases h
   subst h0;obtain rfl:ys=[]:=LV hm;refine⟨v,W,?_,by simpa using HO,Im.grownBy.refl W _,.inl rfl⟩;rcases HO.2 with⟨rfl,hn⟩|⟨g,cap,cur,rfl,_,_,hnc,_⟩
   .simp[Kj,I2 ht,sizeOf,typeInfo,hi,Builtin.lenOf,LI]
   .simp[Kj,I2 ht,sizeOf,typeInfo,hi,Builtin.lenOf,LI,hnc,storeCells]
  .have hcells:∀j u,(fZ k ys)[j]?=Ic u->W.cell? (ad.add j)=Ic u:=by
    intro j u hu;have hj:j<ys.length:=by
     rcases Lx j ys.length with h|h
     .exact h
     .simp[fZ,I0 h]at hu
    obtain⟨ad',h',hc⟩:=HR.2.2 (by omega);injection h' with h'
    subst h';have:=hc j (by omega);simp[fZ,Ig hj]at hu;subst hu;rw[this];simp[Ij,Ig hj]
   obtain⟨v1,w1,hr,h2,h3,_,h5⟩:=run_append_own_at (P:=P) W base t o.type e i0 (.int k 0) 1 KU ht hi hz0 hz1 hz2 rfl (by omega) v xs.length (fZ k xs) HO ad m c (fZ k ys) (by simp[fZ,hm]) hcells
    (by intro u hu;simp only[fZ,JM]at hu;obtain⟨q,_,rfl⟩:=hu;rfl) (by simp only[maxLen];omega) hl hbase
   exact⟨v1,w1,hr,by simpa[fZ,hm]using h2,h3,h5⟩
 obtain⟨v1,w1,hr,hown,hg,hat⟩:=hrun;refine wpList_plain hgd λK hK=>?_;unfold Oper.wp JJ;simp only[ho,resolve,invoke,builtin,IJ,JO,I1,Mt,Jt,La,hs,hx,hr];refine hK _ _ (h v1 w1 hown (HB.grown hg hbase (jY HO)) hg ?_);rcases hat with hat|hat
 .exact .inl hat
 .exact .inr ⟨_,hat,Iz _⟩
end
def LeO{α:Type}(a b:Option α):Prop:=∀r,a=Ic r->b=Ic r
theorem LeO.none{α:Type}(b:Option α):LeO Option.none b:=λ_ h=>by cases h
theorem LeO.trans{α:Type}{a b c:Option α}(h:LeO a b)(k:LeO b c):LeO a c:=λr hr=>k r (h r hr)
theorem LeO.bind{α β:Type}{a a':Option α}{f f':α->Option β}(h:LeO a a')(k:∀x,LeO (f x) (f' x)):LeO (a.bind f) (a'.bind f'):=by
 intro r hr;obtain⟨x,hx,hf⟩:=L7.1 hr;exact L7.2 ⟨x,h x hx,k x r hf⟩
theorem LeO.map{α β:Type}{a a':Option α}(f:α->β)(h:LeO a a'):LeO (a.map f) (a'.map f):=by
 intro r hr;obtain⟨x,hx,hf⟩:=Ks.1 hr;exact Ks.2 ⟨x,h x hx,hf⟩
def cx{α:Type}(R:α->List Io->Prop)(size:Nat)(ps:List α)(cs:List Io):Prop:=
 cs.length=ps.length*size/\∀j p,ps[j]?=Ic p->R p ((cs.drop (j*size)).take size)
theorem cx.none{α:Type}(R:α->List Io->Prop)(size:Nat):cx R size [] []:=⟨by simp,λj p h=>by simp at h⟩
theorem cx.snoc{α:Type}{R:α->List Io->Prop}{size:Nat}{ps:List α}{cs c:List Io}{p:α}(h:cx R size ps cs)(hp:R p c)(hc:c.length=size):cx R size (ps++[p]) (cs++c):=by
 refine⟨by rw[IV,h.1,hc,IV,LU,Nat.add_mul,Nat.one_mul],λj q hq=>?_⟩;rcases Lx j ps.length with hj|hj
 .rw[Jg hj]at hq
  have h1:j*size+size<=cs.length:=by rw[h.1,<-Kp];exact Jv _ hj
  have h2:=h.2 j q hq;rw[MA (by omega),Kx (by rw[Kk];omega)];exact h2
 .have hj':j=ps.length:=by
   have:=(Ip.1 hq).1;rw[IV,LU]at this;omega
  subst hj';have hq':p=q:=by simpa using hq
  subst hq';rw[<-h.1,List.drop_left,<-hc,Kh];exact hp
theorem cx.imp_{α:Type}{R R':α->List Io->Prop}{size:Nat}{ps:List α}{cs:List Io}(h:cx R size ps cs)(hR:∀p c,R p c->R' p c):cx R' size ps cs:=⟨h.1,λj p hj=>hR _ _ (h.2 j p hj)⟩
def dX{α:Type}(R:α->List Io->Prop)(size:Nat)(w:Im)(A:Option Addr)(n:Nat)(ps:List α):Prop:=
 ps.length=n/\n<=9223372036854775807/\(0<n->∃ad,A=Ic ad/\∀j p,ps[j]?=Ic p->∃c,c.length=size/\R p c/\∀i u,c[i]?=Ic u->w.cell? (ad.add (j*size+i))=Ic u)
theorem dX.get_{α:Type}{R:α->List Io->Prop}{size:Nat}{w:Im}{A:Option Addr}{n:Nat}{ps:List α}(h:dX R size w A n ps)(d:α)(i:Int)(h0:0<=i)(h1:i<n) :
  ∃ad c,A=Ic ad/\c.length=size/\R (ps.getD i.toNat d) c/\∀j u,c[j]?=Ic u->w.cell? (ad.add (i.toNat*size+j))=Ic u:=by
 obtain⟨ad,e,hc⟩:=h.2.2 (by omega);have hl:i.toNat<ps.length:=by have:=h.1;omega
 obtain⟨c,hs,hr,hcell⟩:=hc i.toNat _ (Ig hl);refine⟨ad,c,e,hs,?_,hcell⟩;rw[Ij,Ig hl];exact hr
theorem dX.imp_{α:Type}{R R':α->List Io->Prop}{size:Nat}{w w1:Im}{A:Option Addr}{n:Nat}{ps:List α}(h:dX R size w A n ps)(hb:It w.heap.size w w1)(hR:∀p c,R p c->R' p c):dX R' size w1 A n ps:=
 ⟨h.1,h.2.1,λhn=>by
  obtain⟨ad,e,hc⟩:=h.2.2 hn;refine⟨ad,e,λj p hj=>?_⟩;obtain⟨c,hs,hr,hcell⟩:=hc j p hj;exact⟨c,hs,hR _ _ hr,λi u hu=>ak hb (hcell i u hu)⟩⟩
theorem rC{α:Type}{R:α->List Io->Prop}{w:Im}{base n size:Nat}{e:Je}{v:Io}{ps:List α}{cs:List Io}(h:w.ownsRow base e size v n cs)(hR:cx R size ps cs)(hn:ps.length=n) :
  ∃A c,v=Ia A n c/\dX R size w A n ps:=by
 rcases LZ n with h0|h0
 .rcases h.2 with⟨rfl,rfl⟩|⟨g,cap,cur,rfl,_⟩
  .exact⟨Ih,0,rfl,hn,by omega,λhp=>absurd hp (by omega)⟩
  .exact⟨_,cap,rfl,hn,by omega,λhp=>absurd hp (by omega)⟩
 .obtain⟨g,cap,rfl,_,_⟩:=h.form h0
  have hm:n<=9223372036854775807:=by
   rcases h.2 with⟨_,h1⟩|⟨g',cap',cur,he,_,_,h1,h2,_⟩
   .omega
   .simp only[maxLen]at h2
    omega
  refine⟨_,cap,rfl,hn,hm,λ_=>⟨_,rfl,λj p hj=>⟨(cs.drop (j*size)).take size,?_,hR.2 j p hj,λi u hu=>?_⟩⟩⟩
  .have hjl:=(Ip.1 hj).1
   have h1:j*size+size<=cs.length:=by rw[hR.1,<-Kp];exact Jv _ hjl
   rw[Kt,Kk];omega
  .refine h.cells (g:=g) rfl _ u ?_
   rw[JV]at hu;split at hu
   .rw[J9]at hu
    exact hu
   .cases hu
theorem ie(ad:Addr)(m j:Nat)(hj:0<j):ad.add (m+j)=⟨(ad.add m).block,(ad.add m).off+j,Ih⟩:=by
 unfold Mo;by_cases hm:m=0
 .subst hm
  simp[LS hj]
 .simp[hm,Nat.add_assoc]
section
variable{P:Jn}{ops:Array Oper}{rest:List Oper}{o:Oper}{a:Act}{Q:Exit->Act->Im->Prop}
theorem jf{w0 W:Im}(base:Nat)(hgd:o.guard=Ih)(s x:Lf)(t e:Je)(z:Io)(size KU:Nat)
  (ho:o.op=.call { callee:=.builtin .append,args:=#[s,x],argTypes:=#[t,t] })
  (ht:P.underlying t=Ic (.slice e)) (hinfo:(P.info? e).map (λi=>(i.zero,i.size,i.bytes))=Ic (Ic z,size,KU)) (hz:z.cells.size=size) (hs0:0<size) (hb0:0<KU)
  (v:Io) (n:Nat) (xs ys:List Io) (hs:a.eval s=v) (hx:a.eval x=Ia (Ic ⟨W.heap.size,0,Ih⟩) 1 1) (hys:ys.length=size) (h1:∀u∈ys,u.oneCell'=Ir)
  (HO:W.ownsRow base e size v n xs) (HB:It base w0 W) (hbase:base<=W.heap.size) (hl:(n+1)*KU<=140737488355328)
  (h:∀v1 w1,w1.ownsRow base e size v1 (n+1) (xs++ys)->It base w0 w1->W.grownBy w1 v.ownBlock->(v1.ownBlock=v.ownBlock\/∃b,v1.ownBlock=Ic b/\W.heap.size<=b)->Kg P ops Q rest (a.put o.dst v1) w1) :
  Kg P ops Q (o::rest) a (W.alloc (Is ys.toArray e)):=by
 obtain⟨i0,hi,hzz⟩:=Ks.1 hinfo;simp only[IM]at hzz;obtain⟨hz0,hz1,hz2⟩:=hzz;have hlen:n+1<=140737488355328:=IT (Mk _ hb0) hl;refine wpList_append_own_at (W.alloc (Is ys.toArray e)) hgd s x t ho base e i0 z size KU ht hi hz0 hz1 hz2 hz hs0 v n xs hs (HO.alloc _) ⟨W.heap.size,0,Ih⟩ 1 1 ys hx (by rw[hys];simp)
  (by simpa using Im.news_of_block (cs:=ys.toArray) (t:=e) (fr:=(0,0)) (JZ W (Is ys.toArray e))) h1 (by simp only[maxLen];omega) hl (by simp;omega) ?_
 intro v1 w1 hown hg _ hat;refine h v1 w1 hown ((HB.alloc hbase _).grown hg (by simp;omega) (jY HO)) (Im.grownBy.trans (Im.grownBy_alloc W _ _) hg) ?_;rcases hat with hat|hat
 .exact .inl hat
 .exact .inr ⟨_,hat,by simp⟩
end
theorem Dg{w:Im}{base:Nat}{e t:Je}{size n g:Nat}{v:Io}{xs:List Io}{cs:Array Io}(h:w.ownsRow base e size v n xs)(hg:w.heap[g]?=Ic (.cells cs t (0,0)))(hne:e≠t):Ic g≠v.ownBlock:=by
 rcases h.2 with⟨rfl,_⟩|⟨g',cap,cur,rfl,_,hh,_⟩
 .simp[IQ]
 .intro he
  have:g=g':=by simpa[IQ]using he
  subst this;rw[hg]at hh;injection hh with hh
  injection hh with _ ht
  exact hne ht.symm
theorem fv{w:Im}{g:Nat}{t:Je}{cs:Array Io}(h:w.heap[g]?=Ic (.cells cs t (0,0)))(i:Nat)(u:Io):(w.setCell ⟨g,i,Ih⟩ u).heap[g]?=Ic (.cells (cs.setIfInBounds i u) t (0,0)):=by
 simp[Im.setCell,Array.getElem?_modify,h]
theorem bp{w:Im}{g:Nat}{t:Je}{cs:Array Io}(h:w.heap[g]?=Ic (.cells cs t (0,0))){p:Addr}(hp:g≠p.block)(u:Io):(w.setCell p u).heap[g]?=Ic (.cells cs t (0,0)):=(Ld w p u g hp).trans h
theorem aj{w:Im}{g:Nat}{o:Obj}(h:w.heap[g]?=Ic o):g<w.heap.size:=(IB.1 h).1
theorem ah{w:Im}{g:Nat}{t:Je}{cs:Array Io}(h:w.heap[g]?=Ic (.cells cs t (0,0)))(i:Nat):w.cell? ⟨g,i,Ih⟩=cs[i]?:=cell_of_row w g i cs t (0,0) h
theorem au{w:Im}{g:Nat}{t:Je}{cs:Array Io}(h:w.heap[g]?=Ic (.cells cs t (0,0)))(i:Nat):w.frozen? ⟨g,i,Ih⟩=Ik:=by simp[Im.frozen?,h]
def fO(w w':Im)(g:Nat)(row:Option Nat):Prop:=w.heap.size<=w'.heap.size/\∀i,i<w.heap.size->i≠g->Ic i≠row->w'.heap[i]?=w.heap[i]?
theorem fO.trans{w w1 w2:Im}{g:Nat}{row row1:Option Nat}(h:fO w w1 g row)(k:fO w1 w2 g row1)(hr:row1=row\/∃b,row1=Ic b/\w.heap.size<=b):fO w w2 g row:=
 ⟨IT h.1 k.1,λi hi hg hn=>by
  refine(k.2 i (Kw hi h.1) hg ?_).trans (h.2 i hi hg hn);rcases hr with rfl|⟨b,rfl,hb⟩
  .exact hn
  .intro e
   injection e with e
   omega⟩
theorem fO.blk{w w1:Im}{g g':Nat}{row:Option Nat}{o:Obj}(h:fO w w1 g row)(hb:w.heap[g']?=Ic o)(hg:g'≠g)(hr:Ic g'≠row):w1.heap[g']?=Ic o:=(h.2 g' (aj hb) hg hr).trans hb
theorem fO.own{w w1:Im}{g:Nat}{row:Option Nat}{base:Nat}{e:Je}{size n:Nat}{v:Io}{xs:List Io}(h:fO w w1 g row)(ho:w.ownsRow base e size v n xs)(hg:v.ownBlock≠Ic g)(hr:v.ownBlock=Ih\/v.ownBlock≠row):w1.ownsRow base e size v n xs:=by
 obtain⟨h1,h2⟩:=ho;refine⟨h1,?_⟩;rcases h2 with h2|⟨b,cap,cur,rfl,hb,hh,r⟩
 .exact .inl h2
 .refine .inr ⟨b,cap,cur,rfl,hb,h.blk hh ?_ ?_,r⟩
  .intro e
   exact hg (by rw[<-e];rfl)
  .rcases hr with hr|hr
   .simp[IQ]at hr
   .exact hr
def Ev{α:Type}(g:Nat->Option α)(r:α):Prop:=∃K,∀k,K<=k->g k=Ic r
theorem Ev.now{α:Type}(r:α):Ev (λ_=>Ic r) r:=⟨0,λ_ _=>rfl⟩
theorem Ev.bind{α β:Type}{g:Nat->Option α}{f:Nat->α->Option β}{a:α}{r:β}(h:Ev g a)(k:Ev (λn=>f n a) r):Ev (λn=>(g n).bind (f n)) r:=by
 obtain⟨K,h⟩:=h;obtain⟨K',k⟩:=k;refine⟨max K K',λn hn=>?_⟩;have h1:=h n (by omega);have h2:=k n (by omega);simp only[h1,Option.bind_some];exact h2
theorem Ev.step{α:Type}{g f:Nat->Option α}{r:α}(h:∀k,g (k+1)=f k)(k:Ev f r):Ev g r:=by
 obtain⟨K,k⟩:=k;refine⟨K+1,λn hn=>?_⟩;obtain⟨m,rfl⟩:∃m,n=m+1:=⟨n-1,by omega⟩;rw[h];exact k m (by omega)
theorem Ev.congr{α:Type}{g f:Nat->Option α}{r:α}(h:∀k,g k=f k)(k:Ev f r):Ev g r:=by
 obtain⟨K,k⟩:=k;exact⟨K,λn hn=>(h n).trans (k n hn)⟩
theorem yS{w:Im}{base base':Nat}{e:Je}{size n:Nat}{v:Io}{xs:List Io}(h:w.ownsRow base e size v n xs)(hb:base'<=base):w.ownsRow base' e size v n xs:=by
 obtain⟨h1,h2⟩:=h;refine⟨h1,?_⟩;rcases h2 with h2|⟨g,cap,cur,rfl,hg,r⟩
 .exact .inl h2
 .exact .inr ⟨g,cap,cur,rfl,IT hb hg,r⟩
section
variable{α:Type}{enc:α->Io}{d:α}
def DQ(enc:α->Io)(xs:List α):List Io:=xs.map enc
def yP(d:α)(xs:List α)(i:Int):α:=xs.getD i.toNat d
theorem vZ(xs:List α):(DQ enc xs).length=xs.length:=by simp[DQ]
def eZ(enc:α->Io)(d:α)(w:Im)(A:Option Addr)(n:Nat)(xs:List α):Prop:=
 xs.length=n/\n<=9223372036854775807/\(0<n->∃ad,A=Ic ad/\∀j,j<n->w.cell? (ad.add j)=Ic (enc (xs.getD j d)))
theorem eZ.at_{w:Im}{A:Option Addr}{n:Nat}{xs:List α}(h:eZ enc d w A n xs)(i:Int)(h0:0<=i)(h1:i<n):∃ad,A=Ic ad/\w.cell? (ad.add i.toNat)=Ic (enc (yP d xs i)):=by
 obtain⟨ad,e,hc⟩:=h.2.2 (by omega);exact⟨ad,e,hc _ (by omega)⟩
theorem eZ.below{w w1:Im}{A:Option Addr}{n:Nat}{xs:List α}(h:eZ enc d w A n xs)(hb:It w.heap.size w w1):eZ enc d w1 A n xs:=
 ⟨h.1,h.2.1,λhn=>by
  obtain⟨ad,e,hc⟩:=h.2.2 hn;exact⟨ad,e,λj hj=>ak hb (hc j hj)⟩⟩
end
theorem aT{w:Im}{g:Nat}{o:Obj}(h:w.heap[g]?=Ic o)(o':Obj):(w.alloc o').heap[g]?=Ic o:=(It.heap_alloc w o' g (aj h)).trans h
theorem ag{w w1:Im}{g:Nat}{o:Obj}(h:w.heap[g]?=Ic o)(hb:It w.heap.size w w1):w1.heap[g]?=Ic o:=(hb.block g (aj h)).trans h
theorem FX{w:Im}{base n m c size:Nat}{e:Je}{A:Option Addr}{xs:List Io}(h:w.ownsRow base e size (Ia A m c) n xs):m<=c:=by
 rcases h.2 with⟨he,_⟩|⟨g,cap,cur,he,_,_,hnc,_⟩
 .injection he with _ h2 h3
  omega
 .injection he with _ h2 h3
  omega
def dk{α:Type}(R:α->List Io->Prop)(e:Je)(size:Nat)(w:Im)(base:Nat)(v:Io)(ps:List α):Prop:=
 ∃inner,w.ownsRow base e size v ps.length inner/\cx R size ps inner
section
variable{α:Type}{R R':α->List Io->Prop}{e:Je}{size:Nat}{w w1:Im}{base:Nat}{v:Io}{ps:List α}
theorem dk.none_(R:α->List Io->Prop)(e:Je)(size:Nat)(w:Im)(base:Nat):dk R e size w base (Ia Ih 0 0) []:=⟨[],EK _ _ _ _,cx.none _ _⟩
theorem dk.imp_(h:dk R e size w base v ps)(hR:∀p c,R p c->R' p c):dk R' e size w base v ps:=by
 obtain⟨inner,ho,hr⟩:=h;exact⟨inner,ho,hr.imp_ hR⟩
theorem dk.below(h:dk R e size w base v ps)(hb:It w.heap.size w w1):dk R e size w1 base v ps:=by
 obtain⟨inner,ho,hr⟩:=h;exact⟨inner,tr ho hb,hr⟩
theorem dk.other(h:dk R e size w base v ps){row:Option Nat}(hg:w.grownBy w1 row)(hne:v.ownBlock=Ih\/v.ownBlock≠row):dk R e size w1 base v ps:=by
 obtain⟨inner,ho,hr⟩:=h;exact⟨inner,BM ho hg hne,hr⟩
theorem dk.keep(h:dk R e size w base v ps){g:Nat}{t:Je}{cells:Array Io}(hb:w.heap[g]?=Ic (.cells cells t (0,0)))(ht:e≠t)(hk:fO w w1 g Ih):dk R e size w1 base v ps:=by
 obtain⟨inner,ho,hr⟩:=h;exact⟨inner,hk.own ho (Ne.symm (Dg ho hb ht)) (by cases v.ownBlock<;>simp),hr⟩
theorem dk.reads(h:dk R e size w base v ps):∃A c,v=Ia A ps.length c/\ps.length<=c/\dX R size w A ps.length ps:=by
 obtain⟨inner,ho,hr⟩:=h;obtain⟨A,c,rfl,hrow⟩:=rC ho hr rfl;exact⟨A,c,rfl,FX ho,hrow⟩
theorem dk.ne_block(h:dk R e size w base v ps){g:Nat}{t:Je}{cells:Array Io}(hb:w.heap[g]?=Ic (.cells cells t (0,0)))(ht:e≠t):Ic g≠v.ownBlock:=by
 obtain⟨inner,ho,hr⟩:=h;exact Dg ho hb ht
theorem dk.lit(W:Im)(base:Nat){inner:List Io}(hr:cx R size ps inner)(hb:base<=W.heap.size)(hm:ps.length<=9223372036854775807) :
  dk R e size (W.alloc (Is inner.toArray e)) base (Ia (Ic ⟨W.heap.size,0,Ih⟩) ps.length ps.length) ps:=by
 have h:=Im.ownsRow_lit (base:=base) (e:=e) (size:=size) W inner.toArray ps.length hb (by simpa[maxLen]using hm) (by simpa using hr.1);exact⟨inner,by simpa using h,hr⟩
end
section
variable{P:Jn}{ops:Array Oper}{rest:List Oper}{o:Oper}{a:Act}{Q:Exit->Act->Im->Prop}{α:Type}{R:α->List Io->Prop}
theorem dk.append{w0 W:Im}(base:Nat)(hgd:o.guard=Ih)(s x:Lf)(t e:Je)(z:Io)(size KU:Nat)
  (ho:o.op=.call { callee:=.builtin .append,args:=#[s,x],argTypes:=#[t,t] })
  (ht:P.underlying t=Ic (.slice e)) (hinfo:(P.info? e).map (λi=>(i.zero,i.size,i.bytes))=Ic (Ic z,size,KU)) (hz:z.cells.size=size) (hs0:0<size) (hb0:0<KU)
  (v:Io) (ps:List α) (p:α) (cs:List Io) (hs:a.eval s=v) (hx:a.eval x=Ia (Ic ⟨W.heap.size,0,Ih⟩) 1 1) (hp:R p cs) (hcs:cs.length=size) (h1:∀u∈cs,u.oneCell'=Ir)
  (HO:dk R e size W base v ps) (HB:It base w0 W) (hbase:base<=W.heap.size) (hl:(ps.length+1)*KU<=140737488355328)
  (h:∀v1 w1,dk R e size w1 base v1 (ps++[p])->It base w0 w1->W.grownBy w1 v.ownBlock->(v1.ownBlock=v.ownBlock\/∃b,v1.ownBlock=Ic b/\W.heap.size<=b)->Kg P ops Q rest (a.put o.dst v1) w1) :
  Kg P ops Q (o::rest) a (W.alloc (Is cs.toArray e)):=by
 obtain⟨inner,hown,hr⟩:=HO;refine jf base hgd s x t e z size KU ho ht hinfo hz hs0 hb0 v ps.length inner cs hs hx hcs h1 hown HB hbase hl ?_;intro v1 w1 hown1 hb1 hg1 hat1;exact h v1 w1 ⟨inner++cs,by rw[IV,LU];exact hown1,hr.snoc hp hcs⟩ hb1 hg1 hat1
end
theorem dX.inner_{α:Type}{R:α->List Io->Prop}{size:Nat}{w:Im}{ad:Addr}{n:Nat}{ps:List α}(h:dX R size w (Ic ad) n ps) :
  ∃inner,cx R size ps inner/\∀j u,inner[j]?=Ic u->w.cell? (ad.add j)=Ic u:=by
 have key:∀m,m<=ps.length->∃inner,cx R size (ps.take m) inner/\∀j u,inner[j]?=Ic u->w.cell? (ad.add j)=Ic u:=by
  intro m
  induction m with
  |zero=>exact λ_=>⟨[],cx.none _ _,λj u hu=>by simp at hu⟩
  |succ m ih=>
   intro hm;obtain⟨inner,hr,hc⟩:=ih (by omega);obtain⟨ad',he,hcell⟩:=h.2.2 (by have:=h.1;omega);injection he with he
   subst he;obtain⟨c,hcl,hp,hcc⟩:=hcell m _ (Ig (show m<ps.length by omega));refine⟨inner++c,?_,λj u hu=>?_⟩
   .rw[JC (show m<ps.length by omega)]
    exact hr.snoc hp hcl
   .have hil:inner.length=m*size:=by rw[hr.1,Kt,Nat.min_eq_left (by omega)]
    rcases Lx j inner.length with hj|hj
    .rw[Jg hj]at hu
     exact hc j u hu
    .rw[IW hj]at hu
     have:=hcc (j-inner.length) u hu
     rwa[hil,Nat.add_sub_cancel' (by omega)]at this
 obtain⟨inner,hr,hc⟩:=key ps.length (Iz _);rw[Kh]at hr;exact⟨inner,hr,hc⟩
structure Kd(α:Type) where
 sz:Nat
 E:List Nat
 K:Im->α->List Io->Prop
 M:Im->Nat->(Nat->Prop)->α->List Io->Prop
 K_len:∀{w x cs},K w x cs->cs.length=sz
 K_one:∀{w x cs},K w x cs->∀u∈cs,u.oneCell'=Ir
 K_below:∀{w w1:Im} {x cs},It w.heap.size w w1->K w x cs->K w1 x cs
 K_of_M:∀{w base ok x cs},M w base ok x cs->K w x cs
 M_mono:∀{w base ok ok' x cs},(∀k,ok k->ok' k)->M w base ok x cs->M w base ok' x cs
 M_bound:∀{w:Im} {base ok x cs},M w base ok x cs->M w base (λk=>ok k/\base<=k/\k<w.heap.size/\∃q,q∈E/\∃cells,w.heap[k]?=Ic (.cells cells q (0,0))) x cs
 M_move:∀{w w1:Im} {base ok x cs},(∀k,ok k->w1.heap[k]?=w.heap[k]?)->M w base ok x cs->M w1 base ok x cs
 M_lower:∀{w base base' ok x cs},base'<=base->M w base ok x cs->M w base' ok x cs
theorem Dh{w w1:Im}{base:Nat}{e:Je}{size n:Nat}{v:Io}{xs:List Io}(h:w.ownsRow base e size v n xs)(hm:∀k,v.ownBlock=Ic k->w1.heap[k]?=w.heap[k]?):w1.ownsRow base e size v n xs:=by
 obtain⟨h1,h2⟩:=h;refine⟨h1,?_⟩;rcases h2 with h2|⟨g,cap,cur,rfl,hg,hh,r⟩
 .exact .inl h2
 .exact .inr ⟨g,cap,cur,rfl,hg,(hm g (by simp[IQ])).trans hh,r⟩
theorem gY{w:Im}{base:Nat}{e:Je}{size n:Nat}{v:Io}{xs:List Io}(h:w.ownsRow base e size v n xs)(k:Nat)(hk:v.ownBlock=Ic k):∃cells,w.heap[k]?=Ic (.cells cells e (0,0)):=by
 rcases h.2 with⟨rfl,_⟩|⟨g,cap,cur,rfl,hg,hh,r⟩
 .simp[IQ]at hk
 .have:g=k:=by simpa[IQ]using hk
  subst this;exact⟨cur,hh⟩
namespace Kd
def C{α:Type}(d:Kd α)(w:Im)(A:Option Addr)(n:Nat)(xs:List α):Prop:=dX (d.K w) d.sz w A n xs
def R{α:Type}(d:Kd α)(e:Nat)(w:Im)(base:Nat)(ok:Nat->Prop)(v:Io)(xs:List α):Prop:=
 (∀k,v.ownBlock=Ic k->ok k)/\dk (d.M w base (λk=>ok k/\Ic k≠v.ownBlock)) e d.sz w base v xs
section
variable{α:Type}{d:Kd α}{e:Nat}{w w1:Im}{base:Nat}{ok ok':Nat->Prop}{v:Io}{xs:List α}
theorem C_below{A:Option Addr}{n:Nat}(h:d.C w A n xs)(hb:It w.heap.size w w1):d.C w1 A n xs:=dX.imp_ h hb (λ_ _ hp=>d.K_below hb hp)
theorem R_nil(d:Kd α)(e:Nat)(w:Im)(base:Nat)(ok:Nat->Prop):d.R e w base ok (Ia Ih 0 0) []:=⟨λk hk=>by simp[IQ]at hk,dk.none_ _ _ _ _ _⟩
theorem R_mono(h:d.R e w base ok v xs)(hok:∀k,ok k->ok' k):d.R e w base ok' v xs:=⟨λk hk=>hok k (h.1 k hk),h.2.imp_ (λ_ _ hp=>d.M_mono (λk hk=>⟨hok k hk.1,hk.2⟩) hp)⟩
theorem R_bound(h:d.R e w base ok v xs):d.R e w base (λk=>ok k/\base<=k/\k<w.heap.size/\∃q,q∈e::d.E/\∃cells,w.heap[k]?=Ic (.cells cells q (0,0))) v xs:=by
 obtain⟨h0,inner,ho,hr⟩:=h;refine⟨λk hk=>?_,inner,ho,hr.imp_ (λ_ _ hp=>d.M_mono (λk hk=>?_) (d.M_bound hp))⟩
 .obtain⟨cells,hc⟩:=gY ho k hk
  exact⟨h0 k hk,jY ho k hk,Di ho k hk,e,JH,cells,hc⟩
 .obtain⟨⟨h1,h2⟩,h3,h4,q,hq,hc⟩:=hk
  exact⟨⟨h1,h3,h4,q,Jm _ hq,hc⟩,h2⟩
theorem rm(h:d.R e w base ok v xs)(hm:∀k,ok k->w1.heap[k]?=w.heap[k]?):d.R e w1 base ok v xs:=by
 obtain⟨h0,inner,ho,hr⟩:=h;exact⟨h0,inner,Dh ho (λk hk=>hm k (h0 k hk)),hr.imp_ (λ_ _ hp=>d.M_move (λk hk=>hm k hk.1) hp)⟩
theorem R_lower{base':Nat}(h:d.R e w base ok v xs)(hb:base'<=base):d.R e w base' ok v xs:=by
 obtain⟨h0,inner,ho,hr⟩:=h;exact⟨h0,inner,yS ho hb,hr.imp_ (λ_ _ hp=>d.M_lower hb hp)⟩
theorem R_step(h:d.R e w base ok v xs)(hm:∀k,ok k->k<w.heap.size->w1.heap[k]?=w.heap[k]?):d.R e w1 base ok v xs:=
 R_mono (rm (R_bound h) (λk hk=>hm k hk.1 hk.2.2.1)) (λ_ hk=>hk.1)
theorem Gu{x:α}{cs:List Io}(h:d.M w base ok x cs)(hm:∀k,ok k->k<w.heap.size->w1.heap[k]?=w.heap[k]?):d.M w1 base ok x cs:=
 d.M_mono (λ_ hk=>hk.1) (d.M_move (λk hk=>hm k hk.1 hk.2.2.1) (d.M_bound h))
theorem R_below(h:d.R e w base ok v xs)(hb:It w.heap.size w w1):d.R e w1 base ok v xs:=R_step h (λk _ hk=>hb.block k hk)
theorem Fx{x:α}{cs:List Io}(h:d.M w base ok x cs)(hb:It w.heap.size w w1):d.M w1 base ok x cs:=Gu h (λk _ hk=>hb.block k hk)
theorem R_far(h:d.R e w base ok v xs){p:Addr}(hok:∀k,ok k->k≠p.block)(u:Io):d.R e (w.setCell p u) base ok v xs:=R_step h (λk ho _=>Ld w p u k (hok k ho))
theorem Fw(h:d.R e w base ok v xs){g t:Nat}{cells:Array Io}(hb:w.heap[g]?=Ic (.cells cells t (0,0)))(ht:∀q,q∈e::d.E->q≠t):d.R e w base (λk=>ok k/\k≠g) v xs:=
 R_mono (R_bound h) (λk hk=>⟨hk.1,by
  obtain⟨_,_,_,q,hq,cells',hc⟩:=hk;rintro rfl;rw[hc]at hb;injection hb with hb
  injection hb with _ hb
  exact ht q hq hb⟩)
theorem R_set(h:d.R e w base ok v xs){g t:Nat}{cells:Array Io}(hb:w.heap[g]?=Ic (.cells cells t (0,0)))(ht:∀q,q∈e::d.E->q≠t)(j:Nat)(u:Io):d.R e (w.setCell ⟨g,j,Ih⟩ u) base ok v xs:=
 R_mono (R_far (p:=⟨g,j,Ih⟩) (Fw h hb ht) (λ_ hk=>hk.2) u) (λ_ hk=>hk.1)
theorem R_reads(h:d.R e w base ok v xs):∃A c,v=Ia A xs.length c/\xs.length<=c/\d.C w A xs.length xs:=by
 obtain⟨A,c,he,hl,hr⟩:=dk.reads h.2;exact⟨A,c,he,hl,hr.imp_ (Il _ _) (λ_ _ hp=>d.K_of_M hp)⟩
theorem R_slice(h:d.R e w base ok v xs):∃A c,v=Ia A xs.length c:=by
 obtain⟨A,c,he,_⟩:=R_reads h;exact⟨A,c,he⟩
theorem R_own(h:d.R e w base ok v xs):∃inner,w.ownsRow base e d.sz v xs.length inner:=by
 obtain⟨_,inner,ho,_⟩:=h;exact⟨inner,ho⟩
theorem R_ne(h:d.R e w base ok v xs){g t:Nat}{cells:Array Io}(hb:w.heap[g]?=Ic (.cells cells t (0,0)))(ht:e≠t):Ic g≠v.ownBlock:=dk.ne_block h.2 hb ht
end
def jL{α:Type}(enc:α->Io)(h1:∀x,(enc x).oneCell'=Ir):Kd α where
 sz:=1
 E:=[]
 K:=λ_ x cs=>cs=[enc x]
 M:=λ_ _ _ x cs=>cs=[enc x]
 K_len:=λh=>by rw[h];rfl
 K_one:=λh u hu=>by
  rw[h]at hu;rw[IS.1 hu];exact h1 _
 K_below:=λ_ h=>h
 K_of_M:=λh=>h
 M_mono:=λ_ h=>h
 M_bound:=λh=>h
 M_move:=λ_ h=>h
 M_lower:=λ_ h=>h
def int(k:LP):Kd Int:=jL (Ib k) (λ_=>rfl)
def bool:Kd Bool:=jL Iy (λ_=>rfl)
def string:Kd ByteArray:=jL Io.string (λ_=>rfl)
def slice{α:Type}(e:Nat)(d:Kd α):Kd (List α) where
 sz:=1
 E:=e::d.E
 K:=λw xs cs=>∃A c,cs=[Ia A xs.length c]/\xs.length<=c/\d.C w A xs.length xs
 M:=λw base ok xs cs=>∃v,cs=[v]/\d.R e w base ok v xs
 K_len:=by
  rintro w x cs ⟨A,c,rfl,_⟩;rfl
 K_one:=by
  rintro w x cs ⟨A,c,rfl,_⟩ u hu;rw[IS.1 hu];rfl
 K_below:=by
  rintro w w1 x cs hb ⟨A,c,rfl,hl,hr⟩;exact⟨A,c,rfl,hl,C_below hr hb⟩
 K_of_M:=by
  rintro w base ok x cs ⟨v,rfl,h⟩;obtain⟨A,c,rfl,hl,hr⟩:=R_reads h;exact⟨A,c,rfl,hl,hr⟩
 M_mono:=by
  rintro w base ok ok' x cs hok ⟨v,rfl,h⟩;exact⟨v,rfl,R_mono h hok⟩
 M_bound:=by
  rintro w base ok x cs ⟨v,rfl,h⟩;exact⟨v,rfl,R_bound h⟩
 M_move:=by
  rintro w w1 base ok x cs hm ⟨v,rfl,h⟩;exact⟨v,rfl,rm h hm⟩
 M_lower:=by
  rintro w base base' ok x cs hb ⟨v,rfl,h⟩;exact⟨v,rfl,R_lower h hb⟩
def pair{α β:Type}(a:Kd α)(b:Kd β):Kd (α×β) where
 sz:=a.sz+b.sz
 E:=a.E++b.E
 K:=λw x cs=>∃c0 c1,cs=c0++c1/\a.K w x.1 c0/\b.K w x.2 c1
 M:=λw base ok x cs=>∃c0 c1,cs=c0++c1/\a.M w base ok x.1 c0/\b.M w base ok x.2 c1
 K_len:=by
  rintro w x cs ⟨c0,c1,rfl,h0,h1⟩;rw[IV,a.K_len h0,b.K_len h1]
 K_one:=by
  rintro w x cs ⟨c0,c1,rfl,h0,h1⟩ u hu;rcases J0.1 hu with hu|hu
  .exact a.K_one h0 u hu
  .exact b.K_one h1 u hu
 K_below:=by
  rintro w w1 x cs hb ⟨c0,c1,rfl,h0,h1⟩;exact⟨c0,c1,rfl,a.K_below hb h0,b.K_below hb h1⟩
 K_of_M:=by
  rintro w base ok x cs ⟨c0,c1,rfl,h0,h1⟩;exact⟨c0,c1,rfl,a.K_of_M h0,b.K_of_M h1⟩
 M_mono:=by
  rintro w base ok ok' x cs hok ⟨c0,c1,rfl,h0,h1⟩;exact⟨c0,c1,rfl,a.M_mono hok h0,b.M_mono hok h1⟩
 M_bound:=by
  rintro w base ok x cs ⟨c0,c1,rfl,h0,h1⟩;refine⟨c0,c1,rfl,a.M_mono ?_ (a.M_bound h0),b.M_mono ?_ (b.M_bound h1)⟩
  .rintro k ⟨h2,h3,h4,q,hq,hc⟩
   exact⟨h2,h3,h4,q,List.mem_append_left _ hq,hc⟩
  .rintro k ⟨h2,h3,h4,q,hq,hc⟩
   exact⟨h2,h3,h4,q,List.mem_append_right _ hq,hc⟩
 M_move:=by
  rintro w w1 base ok x cs hm ⟨c0,c1,rfl,h0,h1⟩;exact⟨c0,c1,rfl,a.M_move hm h0,b.M_move hm h1⟩
 M_lower:=by
  rintro w base base' ok x cs hb ⟨c0,c1,rfl,h0,h1⟩;exact⟨c0,c1,rfl,a.M_lower hb h0,b.M_lower hb h1⟩
def iso{α β:Type}(d:Kd α)(f:β->α):Kd β where
 sz:=d.sz
 E:=d.E
 K:=λw x cs=>d.K w (f x) cs
 M:=λw base ok x cs=>d.M w base ok (f x) cs
 K_len:=d.K_len
 K_one:=d.K_one
 K_below:=d.K_below
 K_of_M:=d.K_of_M
 M_mono:=d.M_mono
 M_bound:=d.M_bound
 M_move:=d.M_move
 M_lower:=d.M_lower
def bot{α:Type}(sz:Nat)(E:List Nat):Kd α where
 sz:=sz
 E:=E
 K:=λ_ _ _=>False
 M:=λ_ _ _ _ _=>False
 K_len:=λh=>h.elim
 K_one:=λh=>h.elim
 K_below:=λ_ h=>h
 K_of_M:=λh=>h
 M_mono:=λ_ h=>h
 M_bound:=λh=>h
 M_move:=λ_ h=>h
 M_lower:=λ_ h=>h
def mQ{α:Type}(F:Kd α->Kd α)(sz:Nat)(E:List Nat):Nat->Kd α
 |0=>bot sz E
 |n+1=>F (mQ F sz E n)
def fix{α:Type}(F:Kd α->Kd α)(sz:Nat)(E:List Nat)(hs:∀n,(mQ F sz E n).sz=sz)(hE:∀n q,q∈(mQ F sz E n).E->q∈E):Kd α where
 sz:=sz
 E:=E
 K:=λw x cs=>∃n,(mQ F sz E n).K w x cs
 M:=λw base ok x cs=>∃n,(mQ F sz E n).M w base ok x cs
 K_len:=by
  rintro w x cs ⟨n,h⟩;rw[(mQ F sz E n).K_len h,hs n]
 K_one:=by
  rintro w x cs ⟨n,h⟩;exact(mQ F sz E n).K_one h
 K_below:=by
  rintro w w1 x cs hb ⟨n,h⟩;exact⟨n,(mQ F sz E n).K_below hb h⟩
 K_of_M:=by
  rintro w base ok x cs ⟨n,h⟩;exact⟨n,(mQ F sz E n).K_of_M h⟩
 M_mono:=by
  rintro w base ok ok' x cs hok ⟨n,h⟩;exact⟨n,(mQ F sz E n).M_mono hok h⟩
 M_bound:=by
  rintro w base ok x cs ⟨n,h⟩;refine⟨n,(mQ F sz E n).M_mono ?_ ((mQ F sz E n).M_bound h)⟩;rintro k ⟨h2,h3,h4,q,hq,hc⟩;exact⟨h2,h3,h4,q,hE n q hq,hc⟩
 M_move:=by
  rintro w w1 base ok x cs hm ⟨n,h⟩;exact⟨n,(mQ F sz E n).M_move hm h⟩
 M_lower:=by
  rintro w base base' ok x cs hb ⟨n,h⟩;exact⟨n,(mQ F sz E n).M_lower hb h⟩
theorem C_get{α:Type}{d:Kd α}{w:Im}{A:Option Addr}{n:Nat}{xs:List α}(h:d.C w A n xs)(z:α)(i:Int)(h0:0<=i)(h1:i<n) :
  ∃ad c,A=Ic ad/\c.length=d.sz/\d.K w (xs.getD i.toNat z) c/\∀j u,c[j]?=Ic u->w.cell? (ad.add (i.toNat*d.sz+j))=Ic u:=dX.get_ h z i h0 h1
theorem R_appended{α:Type}{d:Kd α}{e base:Nat}{ok okp:Nat->Prop}{W w1:Im}{v v1:Io}{xs:List α}{p:α}{inner cs:List Io}(h0:∀k,v.ownBlock=Ic k->ok k)(hr:cx (d.M W base (λk=>ok k/\Ic k≠v.ownBlock)) d.sz xs inner)(hp:d.M W base okp p cs)(hokp:∀k,okp k->ok k/\Ic k≠v.ownBlock)(hfresh:∀k,W.heap.size<=k->ok k)
  (hown:w1.ownsRow base e d.sz v1 (xs.length+1) (inner++cs)) (hg:W.grownBy w1 v.ownBlock) (hat:v1.ownBlock=v.ownBlock\/∃b,v1.ownBlock=Ic b/\W.heap.size<=b):d.R e w1 base ok v1 (xs++[p]):=by
 have hne:∀k,Ic k≠v.ownBlock->k<W.heap.size->Ic k≠v1.ownBlock:=by
  intro k hk hlt;rcases hat with hat|⟨b,hb,hle⟩
  .rw[hat];exact hk
  .rw[hb]
   intro he;injection he with he
   omega
 have step:∀{q:α} {c:List Io} {o:Nat->Prop},d.M W base o q c->(∀k,o k->ok k/\Ic k≠v.ownBlock)->d.M w1 base (λk=>ok k/\Ic k≠v1.ownBlock) q c:=by
  intro q c o hq ho;have h1:=d.M_move (w1:=w1) (λk hk=>hg.block k hk.2.2.1 (ho k hk.1).2) (d.M_bound hq);exact d.M_mono (λk hk=>⟨(ho k hk.1).1,hne k (ho k hk.1).2 hk.2.2.1⟩) h1
 refine⟨λk hk=>?_,inner++cs,by rw[IV,LU];exact hown,?_⟩
 .rcases hat with hat|⟨b,hb,hle⟩
  .exact h0 k (hat▸hk)
  .rw[hb]at hk
   injection hk with hk
   exact hfresh k (by omega)
 .exact(hr.imp_ (λ_ _ hq=>step hq (λ_ hk=>hk))).snoc (step hp hokp) (d.K_len (d.K_of_M hp))
section
variable{P:Jn}{ops:Array Oper}{rest:List Oper}{o:Oper}{a:Act}{Q:Exit->Act->Im->Prop}{α:Type}
theorem R_append(d:Kd α){w0 W:Im}(base:Nat)(hgd:o.guard=Ih)(s x:Lf)(t e:Je)(z:Io)(KU:Nat)
  (ho:o.op=.call { callee:=.builtin .append,args:=#[s,x],argTypes:=#[t,t] })
  (ht:P.underlying t=Ic (.slice e)) (hinfo:(P.info? e).map (λi=>(i.zero,i.size,i.bytes))=Ic (Ic z,d.sz,KU)) (hz:z.cells.size=d.sz) (hs0:0<d.sz) (hb0:0<KU)
  (v:Io) (xs:List α) (p:α) (cs:List Io) (ok okp:Nat->Prop) (hs:a.eval s=v) (hx:a.eval x=Ia (Ic ⟨W.heap.size,0,Ih⟩) 1 1) (hp:d.M W base okp p cs) (hokp:∀k,okp k->ok k/\Ic k≠v.ownBlock) (hfresh:∀k,W.heap.size<=k->ok k)
  (HO:d.R e W base ok v xs) (HB:It base w0 W) (hbase:base<=W.heap.size) (hl:(xs.length+1)*KU<=140737488355328)
  (h:∀v1 w1,d.R e w1 base ok v1 (xs++[p])->It base w0 w1->W.grownBy w1 v.ownBlock->(v1.ownBlock=v.ownBlock\/∃b,v1.ownBlock=Ic b/\W.heap.size<=b)->Kg P ops Q rest (a.put o.dst v1) w1) :
  Kg P ops Q (o::rest) a (W.alloc (Is cs.toArray e)):=by
 obtain⟨h0,inner,hown,hr⟩:=HO;refine jf base hgd s x t e z d.sz KU ho ht hinfo hz hs0 hb0 v xs.length inner cs hs hx (d.K_len (d.K_of_M hp)) (d.K_one (d.K_of_M hp)) hown HB hbase hl ?_;intro v1 w1 hown1 hb1 hg1 hat1;exact h v1 w1 (R_appended h0 hr hp hokp hfresh hown1 hg1 hat1) hb1 hg1 hat1
end
theorem own_of_R{α:Type}{enc:α->Io}{h1:∀x,(enc x).oneCell'=Ir}{e:Nat}{w:Im}{base:Nat}{ok:Nat->Prop}{v:Io}{xs:List α}(h:(jL enc h1).R e w base ok v xs):w.ownsRow base e 1 v xs.length (DQ enc xs):=by
 obtain⟨_,inner,ho,hr⟩:=h;have:inner=DQ enc xs:=by
  apply JN;intro j;rcases Lx j xs.length with hj|hj
  .have h2:=hr.2 j _ (Ig hj)
   have hl:j<inner.length:=by have:=hr.1;simp[jL]at this;omega
   have h3:(inner.drop (j*1)).take 1=[enc xs[j]]:=h2;rw[JQ,Jc hl]at h3;have h4:inner[j]=enc xs[j]:=by
    have h5:=congrArg List.head? h3;rw[List.take_succ_cons]at h5;exact Ii h5
   rw[Ig hl,h4];simp[DQ,Ig hj]
  .have h3:inner.length=xs.length:=by have:=hr.1;simp[jL]at this;omega
   rw[I0 (by omega),I0 (by rw[vZ];omega)]
 rw[<-this];exact ho
theorem C_of_reads{α:Type}{enc:α->Io}{d:α}{h1:∀x,(enc x).oneCell'=Ir}{w:Im}{A:Option Addr}{n:Nat}{xs:List α}(h:eZ enc d w A n xs):(jL enc h1).C w A n xs:=by
 refine⟨h.1,h.2.1,λhn=>?_⟩;obtain⟨ad,e,hc⟩:=h.2.2 hn;refine⟨ad,e,λj p hj=>⟨[enc p],rfl,rfl,λi u hu=>?_⟩⟩;obtain⟨hl,hp⟩:=Ip.1 hj;have h2:=hc j (by have:=h.1;omega);rw[Ij,hj]at h2;cases i with
 |zero=>
  have:enc p=u:=by simpa using hu
  subst this;simpa[jL]using h2
 |succ i=>simp at hu
theorem reads_of_C{α:Type}{enc:α->Io}{d:α}{h1:∀x,(enc x).oneCell'=Ir}{w:Im}{A:Option Addr}{n:Nat}{xs:List α}(h:(jL enc h1).C w A n xs):eZ enc d w A n xs:=by
 refine⟨h.1,h.2.1,λhn=>?_⟩;obtain⟨ad,e,hc⟩:=h.2.2 hn;refine⟨ad,e,λj hj=>?_⟩;have hl:j<xs.length:=by have:=h.1;omega
 obtain⟨c,_,hK,hcell⟩:=hc j _ (Ig hl);have hK':c=[enc xs[j]]:=hK;subst hK';have:=hcell 0 _ rfl;simpa[jL,Ij,Ig hl]using this
end Kd
namespace Kd
structure Mono{α β:Type}(F:Kd α->Kd β):Prop where
 sz:∀d d':Kd α,d.sz=d'.sz->(F d).sz=(F d').sz
 K:∀d d':Kd α,d.sz=d'.sz->(∀w x cs,d.K w x cs->d'.K w x cs)->∀w x cs,(F d).K w x cs->(F d').K w x cs
 M:∀d d':Kd α,d.sz=d'.sz->(∀w base ok x cs,d.M w base ok x cs->d'.M w base ok x cs)->∀w base ok x cs,(F d).M w base ok x cs->(F d').M w base ok x cs
end Kd
namespace Kd
theorem R_after{α:Type}{d:Kd α}{e base:Nat}{ok:Nat->Prop}{W w1:Im}{u v v1:Io}{xs:List α}(h:d.R e W base (λk=>ok k/\Ic k≠v.ownBlock) u xs)(hg:W.grownBy w1 v.ownBlock)(hat:v1.ownBlock=v.ownBlock\/∃b,v1.ownBlock=Ic b/\W.heap.size<=b):d.R e w1 base (λk=>ok k/\Ic k≠v1.ownBlock) u xs:=by
 refine R_mono (rm (R_bound h) (λk hk=>hg.block k hk.2.2.1 hk.1.2)) (λk hk=>⟨hk.1.1,?_⟩);rcases hat with hat|⟨b,hb,hle⟩
 .rw[hat];exact hk.1.2
 .rw[hb]
  intro he;injection he with he
  have:=hk.2.2.1;omega
end Kd
namespace Kd
section
variable{α β:Type}{d:Kd α}{d':Kd β}{e e':Nat}{w w1 W:Im}{base b b':Nat}{ok ok' okv oku:Nat->Prop}{v u:Io}{xs:List α}{ys:List β}
theorem R_drew(h:d.R e w base ok v xs):d.R e w.drew base ok v xs:=R_below h (aA (Il _ _))
theorem C_nil(d:Kd α)(w:Im):d.C w Ih ([]:List α).length []:=⟨rfl,by simp,λh=>absurd h (Mq 0)⟩
theorem C_max{A:Option Addr}{n:Nat}(h:d.C w A n xs):n<=9223372036854775807:=h.2.1
theorem R_reads'{A:Option Addr}{n c:Nat}(h:d.R e w base ok (Ia A n c) xs):n=xs.length/\n<=c/\d.C w A xs.length xs:=by
 obtain⟨A',c',he,hl,hr⟩:=R_reads h;injection he with h1 h2 h3
 subst h1;exact⟨h2,by omega,hr⟩
theorem R_lt(h:d.R e w base ok v xs):∀k,v.ownBlock=Ic k->k<w.heap.size:=by
 obtain⟨inner,ho⟩:=R_own h;exact Di ho
theorem R_base(h:d.R e w base ok v xs):∀k,v.ownBlock=Ic k->base<=k:=by
 obtain⟨inner,ho⟩:=R_own h;exact jY ho
theorem R_away(h:d.R e w base ok v xs){g:Nat}(hok:∀k,ok k->k≠g):Ic g≠v.ownBlock:=λe=>hok g (h.1 g e.symm) rfl
theorem R_form(h:d.R e w base ok v xs)(hp:0<xs.length):∃g cap,v=Ia (Ic ⟨g,0,Ih⟩) xs.length cap/\base<=g/\g<w.heap.size/\∃cells,w.heap[g]?=Ic (.cells cells e (0,0)):=by
 obtain⟨inner,ho⟩:=R_own h;obtain⟨g,cap,he,hb,hl⟩:=ho.form hp;obtain⟨cells,hc⟩:=gY ho g (by rw[he];simp[IQ]);exact⟨g,cap,he,hb,hl,cells,hc⟩
theorem R_over(h:d.R e W b ok u xs)(hv:d'.R e' W b' ok' v ys)(ht:∀q,q∈e::d.E->q≠e')(hg:W.grownBy w1 v.ownBlock):d.R e w1 b ok u xs:=by
 obtain⟨inner,ho⟩:=R_own hv;refine R_mono (rm (R_bound h) (λk hk=>hg.block k hk.2.2.1 (λhe=>?_))) (λ_ hk=>hk.1);obtain⟨_,_,_,q,hq,cells,hc⟩:=hk;obtain⟨cells',hc'⟩:=gY ho k he.symm;rw[hc]at hc';injection hc' with hc'
 injection hc' with _ hc'
 exact ht q hq hc'
end
section
variable{w W:Im}{A:Option Addr}{n:Nat}
theorem at_int{k:LP}{xs:List Int}(h:(Kd.int k).C w A n xs)(i:Int)(h0:0<=i)(h1:i<n):∃ad,A=Ic ad/\w.cell? (ad.add i.toNat)=Ic (.int k (rd xs i)):=
 eZ.at_ (reads_of_C (enc:=Ib k) (d:=(0:Int)) (h1:=λ_=>rfl) h) i h0 h1
theorem at_string{xs:List ByteArray}(h:Kd.string.C w A n xs)(i:Int)(h0:0<=i)(h1:i<n):∃ad,A=Ic ad/\w.cell? (ad.add i.toNat)=Ic (.string (yP Ji xs i)):=
 eZ.at_ (reads_of_C (enc:=Io.string) (d:=Ji) (h1:=λ_=>rfl) h) i h0 h1
variable{α:Type}{enc:α->Io}{h1:∀x,(enc x).oneCell'=Ir}{e base g cap:Nat}{ok:Nat->Prop}{xs:List α}
end
section
variable{P:Jn}{ops:Array Oper}{rest:List Oper}{o:Oper}{a:Act}{Q:Exit->Act->Im->Prop}
theorem event_run{W w1:Im}{v:Io}(hgd:o.guard=Ih)(hrun:(JJ a.eval o).run P W=.ok (.value v) w1)(h:Kg P ops Q rest (a.put o.dst v) w1):Kg P ops Q (o::rest) a W:=by
 refine wpList_plain hgd λK hK=>?_;unfold Oper.wp;rw[hrun];exact hK _ _ h
variable{α:Type}
theorem R_lit(d:Kd α){w0 W:Im}(base e:Nat)(hgd:o.guard=Ih){N:Tmp}(_hd:o.dst=Ic N){xs:List α}{inner:List Io}{ok okp:Nat->Prop}
  (hrun:(JJ a.eval o).run P W=.ok (.value (Ia (Ic ⟨W.heap.size,0,Ih⟩) xs.length xs.length)) (W.alloc (Is inner.toArray e)))
  (hrep:cx (d.M W base okp) d.sz xs inner) (hok:∀k,okp k->ok k) (hfresh:ok W.heap.size) (HB:It base w0 W) (hbase:base<=W.heap.size) (hm:xs.length<=9223372036854775807)
  (h:∀v1 w1,d.R e w1 base ok v1 xs->It base w0 w1->W.grownBy w1 Ih->(∃b,v1.ownBlock=Ic b/\W.heap.size<=b)->Kg P ops Q rest (a.put o.dst v1) w1):Kg P ops Q (o::rest) a W:=by
 refine event_run hgd hrun (h _ _ ⟨λk hk=>?_,inner,?_,?_⟩ (HB.alloc hbase _) (Im.grownBy_alloc W _ Ih) ⟨W.heap.size,by simp[IQ],Iz _⟩)
 .have:W.heap.size=k:=by simpa[IQ]using hk
  subst this;exact hfresh
 .have h2:=Im.ownsRow_lit (base:=base) (e:=e) (size:=d.sz) W inner.toArray xs.length hbase (by simpa[maxLen]using hm) (by simpa using hrep.1)
  simpa using h2
 .refine hrep.imp_ (λp c hp=>d.M_mono (λk hk=>⟨hok k hk.1,λhe=>?_⟩) (Fx (d.M_bound hp) (ae (Il _ _) _)))
  have h3:k=W.heap.size:=by simpa[IQ]using he
  have:=hk.2.2.1;omega
end
end Kd
def Hu(w:Im)(base:Nat)(e:Je)(size:Nat)(v:Io)(n:Nat)(xs:List Io):Prop:=
 xs.length=n*size/\
 ((n=0/\∃A,v=Ia A 0 0/\∀a,A=Ic a->base<=a.block/\∃cur,w.heap[a.block]?=Ic (.cells cur e (0,0)))\/
  ∃g off cap cur,v=Ia (Ic ⟨g,off*size,Ih⟩) n cap/\base<=g/\w.heap[g]?=Ic (.cells cur e (0,0))/\n<=cap/\off+cap<=maxLen/\cur.size=(off+cap)*size/\(cur.toList.drop (off*size)).take (n*size)=xs)
section
variable{w w1:Im}{base n size:Nat}{e:Je}{v:Io}{xs:List Io}
theorem kn{g:Nat}:∀(vs:List Io) (o:Nat) {w:Im} (k:Nat),k≠g->(w.setCells g o vs).heap[k]?=w.heap[k]?
 | [],_,_,_,_=>rfl
 |v::r,o,w,k,hk=>by
  rw[Im.setCells,kn r (o+1) k hk];exact Ld w ⟨g,o,Ih⟩ v k hk
theorem mc(g:Nat):∀(vs:List Io) (o:Nat) (w:Im),(w.setCells g o vs).os=w.os/\(w.setCells g o vs).tape=w.tape/\(w.setCells g o vs).output=w.output/\(w.setCells g o vs).heap.size=w.heap.size
 | [],_,_=>⟨rfl,rfl,rfl,rfl⟩
 |v::r,o,w=>by
  obtain⟨h1,h2,h3,h4⟩:=mc g r (o+1) (w.setCell ⟨g,o,Ih⟩ v);rw[Im.setCells];exact⟨h1,h2,h3,by rw[h4];simp[Im.setCell]⟩
theorem mX{g:Nat}{e:Je}:∀(vs:List Io) (o:Nat) (w:Im) (cur:Array Io),w.heap[g]?=Ic (.cells cur e (0,0))->o+vs.length<=cur.size->
  ∃cur',(w.setCells g o vs).heap[g]?=Ic (.cells cur' e (0,0))/\cur'.size=cur.size/\cur'.toList=cur.toList.take o++vs++cur.toList.drop (o+vs.length)
 | [],o,w,cur,h,_=>⟨cur,h,rfl,by simp⟩
 |v::r,o,w,cur,h,hl=>by
  have h2:=fv h o v;simp only[Jz]at hl;obtain⟨cur',h3,h4,h5⟩:=mX r (o+1) (w.setCell ⟨g,o,Ih⟩ v) _ h2 (by simp;omega);refine⟨cur',h3,by rw[h4];simp,?_⟩;rw[h5,Mw];have ho:o<cur.toList.length:=by rw[LJ];omega
  rw[List.take_set,List.drop_set_of_lt (by omega)];simp only[Jz];rw[show o+1+r.length=o+(r.length+1) by omega];congr 1;rw[JC ho,List.set_append_right _ _ (by rw[Kt];omega)];have ho':o<cur.size:=by omega
  simp[Nat.min_eq_left (Mv ho')]
end
namespace Kd
def Q{α:Type}(d:Kd α)(e:Nat)(w:Im)(base:Nat)(ok:Nat->Prop)(v:Io)(xs:List α):Prop:=
 (∀k,v.ownBlock=Ic k->ok k)/\∃inner,Hu w base e d.sz v xs.length inner/\cx (d.M w base (λk=>ok k/\Ic k≠v.ownBlock)) d.sz xs inner
end Kd
namespace Kd
section
variable{α:Type}{d:Kd α}{e e':Nat}{w w1 W:Im}{base:Nat}{ok:Nat->Prop}{u v:Io}{xs:List α}
theorem R_typed(h:d.R e w base ok v xs):∀k,v.ownBlock=Ic k->∃cells,w.heap[k]?=Ic (.cells cells e (0,0)):=by
 obtain⟨inner,ho⟩:=R_own h;exact λk hk=>gY ho k hk
theorem R_over'(h:d.R e W base ok u xs)(hty:∀k,v.ownBlock=Ic k->∃cells,W.heap[k]?=Ic (.cells cells e' (0,0)))(ht:∀q,q∈e::d.E->q≠e')(hg:W.grownBy w1 v.ownBlock):d.R e w1 base ok u xs:=by
 refine R_mono (rm (R_bound h) (λk hk=>hg.block k hk.2.2.1 (λhe=>?_))) (λ_ hk=>hk.1);obtain⟨_,_,_,q,hq,cells,hc⟩:=hk;obtain⟨cells',hc'⟩:=hty k he.symm;rw[hc]at hc';injection hc' with hc'
 injection hc' with _ hc'
 exact ht q hq hc'
end
end Kd
theorem mY{α:Type}(a seg:List α)(o:Nat)(h:o+seg.length<=a.length)(q:Nat) :
  (a.take o++seg++a.drop (o+seg.length))[q]?=if q<o then a[q]? else if q<o+seg.length then seg[q-o]? else a[q]?:=by
 have hl:(a.take o).length=o:=by rw[Kt];omega
 rw[Kv];by_cases h1:q<o
 .rw[if_pos h1,Jg (by omega),JV,if_pos h1]
 .rw[if_neg h1,IW (by omega),hl]
  by_cases h2:q<o+seg.length
  .rw[if_pos h2,Jg (by omega)]
  .rw[if_neg h2,IW (by omega),J9]
   congr 1;omega
namespace Kd
section
variable{α:Type}{d:Kd α}{e base g n cap:Nat}{ok okp:Nat->Prop}{W:Im}{xs:List α}
theorem R_elem(h:d.R e W base ok (Ia (Ic ⟨g,0,Ih⟩) n cap) xs)(z:α)(i:Int)(h0:0<=i)(h1:i<n) :
  ∃c,c.length=d.sz/\d.M W base (λk=>ok k/\k≠g) (xs.getD i.toNat z) c/\(∀j u,c[j]?=Ic u->W.cell? ⟨g,i.toNat*d.sz+j,Ih⟩=Ic u)/\∀j,W.frozen? ⟨g,i.toNat*d.sz+j,Ih⟩=Ik:=by
 obtain⟨hn,hnc,hC⟩:=R_reads' h;obtain⟨_,inner,ho,hr⟩:=h;have hil:i.toNat<xs.length:=by omega
 have hseg:i.toNat*d.sz+d.sz<=inner.length:=by rw[hr.1,<-Kp];exact Jv _ hil
 have hM:=hr.2 i.toNat _ (Ig hil);refine⟨(inner.drop (i.toNat*d.sz)).take d.sz,by rw[Kt,Kk];omega,?_,λj u hu=>?_,λj=>?_⟩
 .rw[Ij,Ig hil]
  exact d.M_mono (λk hk=>⟨hk.1,λhe=>hk.2 (by rw[he];simp[IQ])⟩) hM
 .rw[JV]at hu
  split at hu
  .rw[J9]at hu
   have:=ho.cells (g:=g) (by simp[IQ]) _ u hu
   rwa[CB]at this
  .cases hu
 .obtain⟨cells,hc⟩:=gY ho g (by simp[IQ])
  exact au hc _
theorem G5(h:d.R e W base ok (Ia (Ic ⟨g,0,Ih⟩) n cap) xs)(i:Int)(h0:0<=i)(h1:i<n){c seg:List Io}{j:Nat}(hcl:c.length=d.sz)(hcc:∀j u,c[j]?=Ic u->W.cell? ⟨g,i.toNat*d.sz+j,Ih⟩=Ic u)
  (hj:j+seg.length<=d.sz) {x':α} (hM:d.M W base okp x' (c.take j++seg++c.drop (j+seg.length))) (hokp:∀k,okp k->ok k/\k≠g) :
  d.R e (W.setCells g (i.toNat*d.sz+j) seg) base ok (Ia (Ic ⟨g,0,Ih⟩) n cap) (xs.set i.toNat x')/\W.grownBy (W.setCells g (i.toNat*d.sz+j) seg) (Ic g):=by
 obtain⟨hn,hnc,_⟩:=R_reads' h;obtain⟨hok,inner,ho,hr⟩:=h;have hil:i.toNat<xs.length:=by omega
 have hseg:i.toNat*d.sz+d.sz<=inner.length:=by rw[hr.1,<-Kp];exact Jv _ hil
 have hin:inner.length=n*d.sz:=by rw[hr.1,hn]
 obtain⟨ho1,ho2⟩:=ho;rcases ho2 with⟨hv,_⟩|⟨g',cap',cur,hv,hb,hh,hnc',hcm,hcs,ht⟩
 .cases hv
 injection hv with ha _ hc
 injection ha with ha
 injection ha with hg
 subst hg;subst hc;have hfit:i.toNat*d.sz+j+seg.length<=cur.size:=by
  have:n*d.sz<=cap*d.sz:=Jv _ hnc;omega
 obtain⟨cur',h3,h4,h5⟩:=mX seg (i.toNat*d.sz+j) W cur hh hfit;obtain⟨s1,s2,s3,s4⟩:=mc g seg (i.toNat*d.sz+j) W;have hfar:∀k,k≠g->(W.setCells g (i.toNat*d.sz+j) seg).heap[k]?=W.heap[k]?:=λk hk=>kn seg _ k hk;have hcin:∀q,q<d.sz->c[q]?=inner[i.toNat*d.sz+q]?:=by
  intro q hq;have hq':q<c.length:=by omega
  have h6:=hcc q _ (Ig hq');rw[cell_of_row W g _ cur e (0,0) hh]at h6;rw[Ig hq',<-h6,<-ht,JV,if_pos (by rw[<-hn];omega),Array.getElem?_toList]
 refine⟨⟨hok,inner.take (i.toNat*d.sz+j)++seg++inner.drop (i.toNat*d.sz+j+seg.length),⟨?_,.inr ⟨g,cap,cur',by rw[Jq,hn],hb,h3,by rw[Jq,<-hn];exact hnc,hcm,by rw[h4,hcs],?_⟩⟩,?_⟩,
  ⟨s1,s2,s3,by rw[s4];exact Iz _,λk _ hk=>hfar k (λhe=>hk (by rw[he]))⟩⟩
 .rw[Jq]
  simp only[IV,Kt,Kk];rw[hr.1]at hseg ⊢;omega
 .rw[Jq,<-hn]
  apply JN;intro q;rw[JV,h5];rw[mY cur.toList seg (i.toNat*d.sz+j) (by rw[LJ];omega) q,mY inner seg (i.toNat*d.sz+j) (by omega) q];have hcur:∀q,q<n*d.sz->cur.toList[q]?=inner[q]?:=by
   intro q hq;rw[<-ht,JV,if_pos (by rw[<-hn];exact hq)]
  by_cases hq:q<n*d.sz
  .rw[if_pos hq,hcur q hq]
  .rw[if_neg hq,if_neg (by omega),if_neg (by omega),I0 (by omega)]
 .refine⟨?_,λm p hm=>?_⟩
  .rw[Jq]
   simp only[IV,Kt,Kk];rw[hr.1]at hseg ⊢;omega
  .have hml:m<xs.length:=by
    have:=(Ip.1 hm).1
    rwa[Jq]at this
   have hmfit:m*d.sz+d.sz<=inner.length:=by rw[hr.1,<-Kp];exact Jv _ hml
   have hgo:Ic g=(Ia (Ic ⟨g,0,Ih⟩) n cap).ownBlock:=by simp[IQ]
   by_cases hmi:m=i.toNat
   .subst hmi
    rw[Jw (by omega)]at hm;injection hm with hm
    subst hm;have hcells:((inner.take (i.toNat*d.sz+j)++seg++inner.drop (i.toNat*d.sz+j+seg.length)).drop (i.toNat*d.sz)).take d.sz=c.take j++seg++c.drop (j+seg.length):=by
     apply JN;intro q;rw[JV,J9,mY inner seg _ (by omega),mY c seg j (by omega) q];by_cases hq:q<d.sz
     .rw[if_pos hq,hcin q hq]
      by_cases hq1:q<j
      .rw[if_pos (by omega),if_pos hq1]
      .rw[if_neg (by omega),if_neg hq1]
       by_cases hq2:q<j+seg.length
       .rw[if_pos (by omega),if_pos hq2]
        congr 1;omega
       .rw[if_neg (by omega),if_neg hq2]
     .rw[if_neg hq,if_neg (by omega),if_neg (by omega),I0 (by omega)]
    rw[hcells];refine d.M_mono (λk hk=>?_) (d.M_move (w1:=W.setCells g (i.toNat*d.sz+j) seg) (λk hk=>hfar k (hokp k hk).2) hM);exact⟨(hokp k hk).1,λhe=>(hokp k hk).2 (by rw[<-hgo]at he;injection he)⟩
   .rw[JR (by omega)]at hm
    have hold:=hr.2 m p hm;have hcells:((inner.take (i.toNat*d.sz+j)++seg++inner.drop (i.toNat*d.sz+j+seg.length)).drop (m*d.sz)).take d.sz=(inner.drop (m*d.sz)).take d.sz:=by
     apply JN;intro q;rw[JV,JV,J9,J9,mY inner seg _ (by omega)];by_cases hq:q<d.sz
     .rw[if_pos hq,if_pos hq]
      rcases Nat.lt_or_gt_of_ne hmi with hlt|hgt
      .have:m*d.sz+d.sz<=i.toNat*d.sz:=by rw[<-Kp];exact Jv _ hlt
       rw[if_pos (by omega)]
      .have:i.toNat*d.sz+d.sz<=m*d.sz:=by rw[<-Kp];exact Jv _ hgt
       rw[if_neg (by omega),if_neg (by omega)]
     .rw[if_neg hq,if_neg hq]
    rw[hcells];refine d.M_move (λk hk=>hfar k (λhe=>hk.2 (by rw[he];exact hgo))) hold
end
end Kd
namespace Kd
theorem uu{α:Type}{R:α->List Io->Prop}{size:Nat}{ps qs:List α}{cs ds:List Io}(h:cx R size ps cs)(h':cx R size qs ds):cx R size (ps++qs) (cs++ds):=by
 refine⟨by rw[IV,IV,h.1,h'.1,Nat.add_mul],λj p hj=>?_⟩;rcases Lx j ps.length with hlt|hge
 .rw[Jg hlt]at hj
  have hle:j*size+size<=cs.length:=by rw[h.1,<-Kp];exact Jv _ hlt
  rw[MA (by omega),Kx (by rw[Kk];omega)];exact h.2 j p hj
 .rw[IW hge]at hj
  have h2:=h'.2 (j-ps.length) p hj;have hle:ps.length*size<=j*size:=Jv _ hge;rw[Mx,List.drop_eq_nil_of_le (by rw[h.1];exact hle),Ka,h.1,<-Nat.sub_mul];exact h2
section
variable{P:Jn}{ops:Array Oper}{rest:List Oper}{o:Oper}{a:Act}{Q:Exit->Act->Im->Prop}{α:Type}
theorem R_append_rows(d:Kd α){Rr:α->List Io->Prop}{w0 W:Im}(base:Nat)(hgd:o.guard=Ih)(s x:Lf)(t e:Je)(z:Io)(KU:Nat)
  (ho:o.op=.call { callee:=.builtin .append,args:=#[s,x],argTypes:=#[t,t] })
  (ht:P.underlying t=Ic (.slice e)) (hinfo:(P.info? e).map (λi=>(i.zero,i.size,i.bytes))=Ic (Ic z,d.sz,KU)) (hz:z.cells.size=d.sz) (hs0:0<d.sz) (hb0:0<KU)
  (v:Io) (xs ys:List α) (A:Option Addr) (m c:Nat) (ok okp:Nat->Prop) (hs:a.eval s=v) (hx:a.eval x=Ia A m c)
  (HO:d.R e W base ok v xs) (HR:dX Rr d.sz W A m ys) (hKM:∀x cs,Rr x cs->d.M W base okp x cs) (hokp:∀k,okp k->ok k/\Ic k≠v.ownBlock) (hfresh:∀k,W.heap.size<=k->ok k)
  (HB:It base w0 W) (hbase:base<=W.heap.size) (hl:(xs.length+m)*KU<=140737488355328)
  (h:∀v1 w1,d.R e w1 base ok v1 (xs++ys)->It base w0 w1->W.grownBy w1 v.ownBlock->(v1.ownBlock=v.ownBlock\/∃b,v1.ownBlock=Ic b/\W.heap.size<=b)->Kg P ops Q rest (a.put o.dst v1) w1) :
  Kg P ops Q (o::rest) a W:=by
 obtain⟨i0,hi,hzz⟩:=Ks.1 hinfo;simp only[IM]at hzz;obtain⟨hz0,hz1,hz2⟩:=hzz;have hm:ys.length=m:=HR.1;have hlen:xs.length+m<=140737488355328:=IT (Mk _ hb0) hl;obtain⟨hok,inner,hown,hr⟩:=HO;have hrun:∃v1 w1,(Kj #[t,t] o.type #[v,Ia A m c]).run P W=.ok v1 w1/\d.R e w1 base ok v1 (xs++ys)/\W.grownBy w1 v.ownBlock/\(v1.ownBlock=v.ownBlock\/∃b,v1.ownBlock=Ic b/\W.heap.size<=b):=by
  rcases A with _|ad
  .have h0:m=0:=by
    rcases LZ m with h0|h0
    .exact h0
    .obtain⟨ad,h,_⟩:=HR.2.2 h0
     cases h
   subst h0;obtain rfl:ys=[]:=LV hm;refine⟨v,W,?_,by rw[JS];exact⟨hok,inner,hown,hr⟩,Im.grownBy.refl W _,.inl rfl⟩;rcases hown.2 with⟨rfl,hn⟩|⟨g,cap,cur,rfl,_,_,hnc,_⟩
   .simp[Kj,I2 ht,sizeOf,typeInfo,hi,Builtin.lenOf,LI]
   .simp[Kj,I2 ht,sizeOf,typeInfo,hi,Builtin.lenOf,LI,hnc,storeCells]
  .obtain⟨news,hnr,hnc⟩:=dX.inner_ HR
   have hnM:cx (d.M W base okp) d.sz ys news:=hnr.imp_ (λp c hp=>hKM p c hp);have hone:∀u∈news,u.oneCell'=Ir:=by
    intro u hu;obtain⟨q,hq,rfl⟩:=List.mem_iff_getElem.1 hu;have hql:q/d.sz<ys.length:=by
     rw[Nat.div_lt_iff_lt_mul hs0];rw[<-hnM.1];exact hq
    have hc:=hnM.2 (q/d.sz) _ (Ig hql);refine d.K_one (d.K_of_M hc) _ ?_;rw[List.mem_iff_getElem?];refine⟨q%d.sz,?_⟩;rw[JV,if_pos (Nat.mod_lt _ hs0),J9,Nat.mul_comm,Nat.div_add_mod,Ig hq]
   obtain⟨v1,w1,hrun,h2,hg,_,hat⟩:=run_append_own_at (P:=P) W base t o.type e i0 z d.sz KU ht hi hz0 hz1 hz2 hz hs0 v xs.length inner hown ad m c news (by rw[hnM.1,hm]) hnc hone (by simp only[maxLen];omega) hl hbase;have hat':v1.ownBlock=v.ownBlock\/∃b,v1.ownBlock=Ic b/\W.heap.size<=b:=by
    rcases hat with hat|hat
    .exact .inl hat
    .exact .inr ⟨_,hat,Iz _⟩
   have hne:∀k,Ic k≠v.ownBlock->k<W.heap.size->Ic k≠v1.ownBlock:=by
    intro k hk hlt;rcases hat' with hat|⟨b,hb,hle⟩
    .rw[hat];exact hk
    .rw[hb]
     intro he;injection he with he
     omega
   have step:∀{q:α} {c:List Io} {o:Nat->Prop},d.M W base o q c->(∀k,o k->ok k/\Ic k≠v.ownBlock)->d.M w1 base (λk=>ok k/\Ic k≠v1.ownBlock) q c:=by
    intro q c o hq ho;have h1:=d.M_move (w1:=w1) (λk hk=>hg.block k hk.2.2.1 (ho k hk.1).2) (d.M_bound hq);exact d.M_mono (λk hk=>⟨(ho k hk.1).1,hne k (ho k hk.1).2 hk.2.2.1⟩) h1
   refine⟨v1,w1,hrun,⟨λk hk=>?_,inner++news,by rw[IV,hm];exact h2,uu (hr.imp_ (λ_ _ hq=>step hq (λ_ hk=>hk))) (hnM.imp_ (λ_ _ hq=>step hq hokp))⟩,hg,hat'⟩;rcases hat' with hat|⟨b,hb,hle⟩
   .exact hok k (hat▸hk)
   .rw[hb]at hk
    injection hk with hk
    exact hfresh k (by omega)
 obtain⟨v1,w1,hr1,h1,hg,hat⟩:=hrun;refine wpList_plain hgd λK hK=>?_;unfold Oper.wp JJ;simp only[ho,resolve,invoke,builtin,IJ,JO,I1,Mt,Jt,La,hs,hx,hr1];exact hK _ _ (h v1 w1 h1 (HB.grown hg hbase (jY hown)) hg hat)
end
end Kd
theorem ry{P:Jn}{w:Im}{g o:Nat}{e:Je}{cur:Array Io}(t:Je)(u:Io)(seg:List Io)(hh:w.heap[g]?=Ic (.cells cur e (0,0)))(hu:u.cells.toList=seg)(ht:(P.info? t).map (·.size)=Ic seg.length)
  (hfit:o+seg.length<=cur.size) (h1:∀q∈seg,q.oneCell'=Ir):(Instr.storeAt t (Iq (Ic ⟨g,o,Ih⟩)) u).run P w=.ok () (w.setCells g o seg):=by
 obtain⟨i,hi,hsz⟩:=Ks.1 ht;have hc:u.cells.size=i.size:=by rw[hsz,<-hu,LJ]
 have hst:=run_storeCells_cells (P:=P) g o seg 0 w (λj hj=>by rw[cell_of_row w g _ cur e (0,0) hh];simp;omega) (λj _=>au hh _) h1;simp only[Nat.add_zero]at hst;simp[Instr.storeAt,Mg,storeVar,sizeOf,typeInfo,hi,hc,hu,hst]
namespace Kd
section
variable{P:Jn}{ops:Array Oper}{rest:List Oper}{o:Oper}{a:Act}{Q:Exit->Act->Im->Prop}{α:Type}
theorem R_store(d:Kd α){w0 W:Im}(base:Nat)(hN:o.dst=Ih)(hgd:o.guard=Ih)(t:Je)(p x:Lf)(ho:o.op=.store t p x)(e:Je){g n cap o':Nat}(i:Int)(j:Nat)(xs:List α)(x':α)(u:Io)(seg c:List Io)(ok okp:Nat->Prop)
  (haddr:a.eval p=Iq (Ic ⟨g,o',Ih⟩)) (hoff:o'=i.toNat*d.sz+j) (hx:a.eval x=u) (hu:u.cells.toList=seg) (ht:(P.info? t).map (·.size)=Ic seg.length) (h1:∀q∈seg,q.oneCell'=Ir)
  (HO:d.R e W base ok (Ia (Ic ⟨g,0,Ih⟩) n cap) xs) (h0:0<=i) (hi:i<n) (hcl:c.length=d.sz) (hcc:∀j u,c[j]?=Ic u->W.cell? ⟨g,i.toNat*d.sz+j,Ih⟩=Ic u)
  (hj:j+seg.length<=d.sz) (hM:d.M W base okp x' (c.take j++seg++c.drop (j+seg.length))) (hokp:∀k,okp k->ok k/\k≠g) (HB:It base w0 W)
  (h:∀w1,d.R e w1 base ok (Ia (Ic ⟨g,0,Ih⟩) n cap) (xs.set i.toNat x')->It base w0 w1->W.grownBy w1 (Ic g)->Kg P ops Q rest a w1):Kg P ops Q (o::rest) a W:=by
 subst hoff;obtain⟨hrow,hg⟩:=G5 HO i h0 hi hcl hcc hj hM hokp;have hbg:base<=g:=R_base HO g (by simp[IQ]);have hnx:n=xs.length:=(R_reads' HO).1;obtain⟨_,inner,hown,hr⟩:=HO;have hil:i.toNat<n:=by omega
 have hB:It base w0 (W.setCells g (i.toNat*d.sz+j) seg):=HB.trans ⟨hg.os,hg.tape,hg.output,hg.size,λk hk=>by
  have hlt:k<W.heap.size\/W.heap.size<=k:=Lx _ _;rcases hlt with hlt|hge
  .exact hg.block k hlt (λhe=>by injection he with he;omega)
  .exact kn seg _ k (by omega)⟩
 refine wpList_plain hgd λK hK=>?_;have hrun:(Instr.storeAt t (Iq (Ic ⟨g,i.toNat*d.sz+j,Ih⟩)) u).run P W=.ok () (W.setCells g (i.toNat*d.sz+j) seg):=by
  rcases hown.2 with⟨hv,_⟩|⟨g',cap',cur,hv,hb,hh,hnc,hcm,hcs,_⟩
  .cases hv
  injection hv with ha _ hc
  injection ha with ha
  injection ha with hg'
  subst hg';subst hc;refine ry t u seg hh hu ht ?_ h1;have h2:i.toNat*d.sz+d.sz<=n*d.sz:=by rw[<-Kp];exact Jv _ hil
  have h3:n*d.sz<=cap*d.sz:=Jv _ (by omega);omega
 unfold Oper.wp JJ;simp only[ho,haddr,hx,IJ,JO,I1,hrun];show K (a.put o.dst KG) _;rw[hN];exact hK a _ (h _ hrow hB hg)
end
end Kd
theorem af{w W w2:Im}(h:It w.heap.size w W)(k:It W.heap.size W w2):It w.heap.size w w2:=zR h h.size k
theorem dY.nil(W:Im)(k:LP):dY W k Ih ([]:List Int).length []:=⟨rfl,by simp,λh=>absurd h (Mq 0)⟩
theorem sg{w W:Im}{g:Nat}(h:fO w W g Ih){a:Addr}{v:Io}(hc:w.cell? a=Ic v)(hne:a.block≠g):W.cell? a=Ic v:=by
 have:=h.2 a.block (J8 w a hc) hne (by simp);simpa[My,this]using hc
theorem sS(a:Addr)(i:Nat):(a.add i).block=a.block:=by unfold Mo;split<;>rfl
theorem eZ.nil{α:Type}(enc:α->Io)(d:α)(W:Im):eZ enc d W Ih ([]:List α).length []:=⟨rfl,by simp,λh=>absurd h (Mq 0)⟩
theorem dY.keep{w W:Im}{k:LP}{A:Option Addr}{n g:Nat}{xs:List Int}(h:dY w k A n xs)(hk:fO w W g Ih)(hf:∀ad,A=Ic ad->0<n->ad.block≠g):dY W k A n xs:=
 ⟨h.1,h.2.1,λhn=>by
  obtain⟨ad,e,hc⟩:=h.2.2 hn;exact⟨ad,e,λj hj=>sg hk (hc j hj) (by rw[sS];exact hf ad e hn)⟩⟩
theorem eZ.keep{α:Type}{enc:α->Io}{d:α}{w W:Im}{A:Option Addr}{n g:Nat}{xs:List α}(h:eZ enc d w A n xs)(hk:fO w W g Ih)(hf:∀ad,A=Ic ad->0<n->ad.block≠g):eZ enc d W A n xs:=
 ⟨h.1,h.2.1,λhn=>by
  obtain⟨ad,e,hc⟩:=h.2.2 hn;exact⟨ad,e,λj hj=>sg hk (hc j hj) (by rw[sS];exact hf ad e hn)⟩⟩
namespace Kd
section
variable{α β:Type}{d:Kd α}{d':Kd β}{e e' base base' n:Nat}{ok ok':Nat->Prop}{w W w1 W1:Im}{v u:Io}{xs:List α}{ys:List β}{A:Option Addr}{c:Nat}
theorem R_apartR(h:d.R e w base ok u xs)(hv:d'.R e' w base' ok' v ys)(ht:∀q,q∈e::d.E->q≠e'):d.R e w base (λk=>ok k/\Ic k≠v.ownBlock) u xs:=by
 refine R_mono (R_bound h) (λk hk=>⟨hk.1,λhe=>?_⟩);obtain⟨q,hq,cells,hc⟩:=hk.2.2.2;obtain⟨inner,ho⟩:=R_own hv;obtain⟨cells',hc'⟩:=gY ho k he.symm;rw[hc]at hc';injection hc' with h1
 injection h1 with _ h2
 exact ht q hq h2
end
end Kd
namespace Kd
section
variable{α:Type}{d:Kd α}{e base g:Nat}{ok:Nat->Prop}{w w1:Im}{v:Io}{xs:List α}{o:Obj}
theorem R_elderB(h:d.R e w base ok v xs)(a:Nat)(ha:w.heap.size<=a):d.R e w base (λk=>ok k/\k≠a) v xs:=R_mono (R_bound h) (λk hk=>⟨hk.1,by have:=hk.2.2.1;omega⟩)
end
end Kd
section
variable{P:Jn}{ops:Array Oper}{rest:List Oper}{o:Oper}{a:Act}{Q:Exit->Act->Im->Prop}{W:Im}
theorem ai{N:Tmp}(_hN:o.dst=Ic N)(h:Kg P ops Q (o::rest) a W):Kg P ops Q (o::rest) a W:=h
theorem ap{t:Je}{p:Tmp}{v:Lf}(_ho:o.op=.store t (.tmp p) v)(h:Kg P ops Q (o::rest) a W):Kg P ops Q (o::rest) a W:=h
end
inductive zW(P:Jn)(tmps:Array Io)(w:Im):List ResultVar->List Io->Prop where
 |nil:zW P tmps w [] []
 |tmp {u:Tmp} {rs:List ResultVar} {vs:List Io} (h:zW P tmps w rs vs):zW P tmps w (.tmp u::rs) (tmps.getD u KG::vs)
 |cell {p:Tmp} {ty:Je} {rs:List ResultVar} {vs:List Io} (g:Nat) (t:Je) (cs:Array Io) (fr:Nat×Nat) (d:TypeDesc)
   (hp:tmps.getD p KG=Iq (Ic ⟨g,0,Ih⟩)) (hg:w.heap[g]?=Ic (.cells cs t fr))
   (hu:P.underlying ty=Ic d) (hd:(match d with|.struct _|.array _ _=>Ir|_=>Ik)=Ir) (hi:(P.info? ty).map (·.size)=Ic cs.size)
   (h:zW P tmps w rs vs):zW P tmps w (.cell p ty::rs) (IA cs::vs)
section
variable{P:Jn}{tmps:Array Io}{w:Im}
theorem CJ{rs:List ResultVar}{vs:List Io}(hv:zW P tmps w rs vs)(f:ResultVar->Sem Io)(hf:∀u,f (.tmp u)=pure (tmps.getD u KG))(hc:∀a t,f (.cell a t)=(do Le t (<-asAddr (tmps.getD a KG)))) :
  (rs.mapM f).run P w=.ok vs w:=by
 induction hv with
 |nil=>simp
 |tmp h ih=>simp[List.mapM_cons,hf,ih]
 |cell g t cs fr d hp hg hu hd hi h ih=>
  rw[List.mapM_cons,hc,hp];simp[asAddr,run_loadVar_row w g t _ cs fr d hg hu hd hi,ih]
theorem aD{fn:Func}{rs:List ResultVar}{vs:List Io}(h:fn.results=rs.toArray)(hl:vs.length≠1)(hv:zW P tmps w rs vs):(Lg fn tmps).run P w=.ok (IR vs.toArray) w:=by
 unfold Lg;rw[h,List.mapM_toArray];simp only[IJ,Sem.run_map];rw[CJ hv]
 .simp[hl]
 .intro u
  rfl
 .intro a t
  rfl
end
end Go.Proofs.YtlinbehijfcelaaGreatDoorW.PrintWords
namespace Go.Proofs.YtlinbehijfcelaaGreatDoorW.PrintLast
section
variable{P:Jn}{ops:Array Oper}{Q:Exit->Act->Im->Prop}{md:LC}{S:Im->Prop}{ds:List Nat}
def Region.reachB(md:LC)(ops:Array Oper)(i:Nat):Nat->Nat->Bool
 |0,_=>Ik
 |fuel+1,d=>match ops[d]? with
  |some o=>o.after.any λe=>Region.binds md e&&(e.on==i||Region.reachB md ops i fuel e.on)
  |none=>Ik
def Region.lastB(md:LC)(ops:Array Oper)(listed:Array Bool)(ds:List Nat)(i:Nat):Bool:=
 ds.all λd=>listed.getD d Ir||Region.reachB md ops i ops.size d
def bH(md:LC)(ops:Array Oper)(listed:Array Bool):Prop:=
 ∀j oj,ops[j]?=Ic oj->listed.getD j Ik=Ir->∀e∈oj.after,Region.binds md e=Ir->listed.getD e.on Ik=Ir
theorem bH.set{listed:Array Bool}{i:Nat}(h:bH md ops listed)(hi:i∈JA md ops listed):bH md ops (listed.setIfInBounds i Ir):=by
 obtain⟨_,oi,hoi,hall⟩:=L0.1 hi;intro j oj hj hl e he hb;by_cases hij:i=j
 .subst hij
  have:oj=oi:=Ii (hj.symm.trans hoi);subst this;exact getD_set_true (hall e he hb)
 .rw[IL Ik hij]at hl
  exact getD_set_true (h j oj hj hl e he hb)
theorem Region.reach_listed{listed:Array Bool}{i:Nat}(hc:bH md ops listed):∀(fuel d:Nat),Region.reachB md ops i fuel d=Ir->listed.getD d Ik=Ir->listed.getD i Ik=Ir
 |0,_,h,_=>by simp[Region.reachB]at h
 |fuel+1,d,h,hl=>by
  unfold Region.reachB at h;cases ho:ops[d]? with
  |none=>rw[ho]at h;simp at h
  |some o=>
   rw[ho]at h;obtain⟨e,he,h1⟩:=Lt.1 h;simp only[Js,Mb,beq_iff_eq]at h1;have hle:=hc d o ho hl e he h1.1;rcases h1.2 with h2|h2
   .rw[<-h2];exact hle
   .exact Region.reach_listed hc fuel e.on h2 hle
theorem Region.reach_not_ready{listed:Array Bool}{i d fuel:Nat}(hc:bH md ops listed)(hr:Region.reachB md ops i fuel d=Ir)(hun:listed.getD i Ir=Ik):d ∉ JA md ops listed:=by
 intro hd;obtain⟨_,o,ho,hall⟩:=L0.1 hd;have hi:listed.getD i Ik=Ir:=by
  cases fuel with
  |zero=>simp[Region.reachB]at hr
  |succ n=>
   unfold Region.reachB at hr;rw[ho]at hr;obtain⟨e,he,h1⟩:=Lt.1 hr;simp only[Js,Mb,beq_iff_eq]at h1;have hle:=hall e he h1.1;rcases h1.2 with h2|h2
   .rw[<-h2];exact hle
   .exact Region.reach_listed hc n e.on h2 hle
 rcases Lx i listed.size with h'|h'
 .simp[h']at hun hi
  rw[hun]at hi;cases hi
 .simp[LB h']at hun
def nR(P:Jn)(md:LC)(ops:Array Oper)(Q:Exit->Act->Im->Prop)(S:Im->Prop)(ds:List Nat):Nat->Array Bool->Act->Im->Prop
 |0,listed,a,w=>JA md ops listed=[]/\Q .normal a w
 |fuel+1,listed,a,w=>
  (JA md ops listed=[]->Q .normal a w)/\
  ∀i∈JA md ops listed,wpOp P ops Q i (λa' w'=>(i ∉ ds->S w->S w')/\nR P md ops Q S ds fuel (listed.setIfInBounds i Ir) a' w') a w
end
section
variable{P:Jn}{ops:Array Oper}{Q:Exit->Act->Im->Prop}{md:LC}{S:Im->Prop}{ds:List Nat}
def kg(P:Jn)(md:LC)(ops:Array Oper)(Q:Exit->Act->Im->Prop)(S:Im->Prop)(ds:List Nat)(fuel:Nat)(listed:Array Bool)(a:Act)(w:Im)(rs:List Nat):Prop:=
 ∀i∈rs,wpOp P ops Q i (λa' w'=>(i ∉ ds->S w->S w')/\nR P md ops Q S ds fuel (listed.setIfInBounds i Ir) a' w') a w
theorem kg.nil{fuel:Nat}{listed:Array Bool}{a:Act}{w:Im}:kg P md ops Q S ds fuel listed a w []:=λ_ h=>by cases h
theorem kg.cons{fuel:Nat}{listed:Array Bool}{a:Act}{w:Im}{i:Nat}{o:Oper}{rs:List Nat}(ho:ops[i]?=Ic o)(hd:i ∉ ds)
  (h:∀K':Act->Im->Prop,Shut (∀a w,S w->(S w->nR P md ops Q S ds fuel (listed.setIfInBounds i Ir) a w)->K' a w)->if Jk o (KH ops a.tmps)=Ir then Oper.wp P o a w K' Q else K' (a.put o.dst KG) w)
  (hs:kg P md ops Q S ds fuel listed a w rs):kg P md ops Q S ds fuel listed a w (i::rs):=λj hj=>by
 rcases I7.1 hj with rfl|hj
 .exact wpOp_step ho (λK' hK=>h K' (λa w hS hW=>hK a w ⟨λ_ _=>hS,hW hS⟩))
 .exact hs j hj
def bk:Act->List (Tmp×Io)->Act
 |a,[]=>a
 |a,(n,v)::r=>bk (a.put (Ic n) v) r
theorem tP{f:FuncId}{fn:Func}(hf:P.funcs[f]?=Ic fn)(hname:(fn.name == "runtime.NumGoroutine")=Ik)(hb:fn.body.isSome=Ir)(args:Array Io)(w:Im):(callFunc f args).run P w=.ok (.enter f args) w:=by
 have h1:fn.name≠ "runtime.NumGoroutine":=by simpa using hname
 obtain⟨c,hc⟩:=Option.isSome_iff_exists.1 hb;simp[callFunc,hf,h1,hc]
theorem GU(n:Int):LP.i64.wrap n=Go.RowKit.wrap64 n:=by unfold Go.RowKit.wrap64;exact LP.wrap_i64 n
end
end Go.Proofs.YtlinbehijfcelaaGreatDoorW.PrintLast
namespace Go.Proofs.YtlinbehijfcelaaGreatDoorW.PrintWords
open Go.RowKit
section
variable{P:Jn}{d:Nat}{xs ys:Array Io}{f:Field}{fs:List Field}{a b:Io}{r s:Bool}{w:Im}
theorem gH(hn:(f.name == "_")=Ik)(ha:(part f.type xs f.offset).run P w=.ok a w)(hb:(part f.type ys f.offset).run P w=.ok b w)(he:(Jp d f.type a b).run P w=.ok r w):(Lr d xs ys [f]).run P w=.ok r w:=by
 have hn':f.name≠ "_":=by simpa using hn
 simp only[Lr,if_pos hn',IJ,ha,hb,he,I1];cases r<;>simp
theorem dW(hn:(f.name == "_")=Ik)(ha:(part f.type xs f.offset).run P w=.ok a w)(hb:(part f.type ys f.offset).run P w=.ok b w)(he:(Jp d f.type a b).run P w=.ok r w)(hr:(Lr d xs ys fs).run P w=.ok s w):(Lr d xs ys (f::fs)).run P w=.ok (r&&s) w:=by
 have hn':f.name≠ "_":=by simpa using hn
 rw[Lr];simp only[if_pos hn',IJ,ha,hb,he,I1];cases r
 .simp
 .simpa using hr
theorem Fb(hn:(f.name == "_")=Ik)(ha:(part f.type xs f.offset).run P w=.ok a w)(hb:(part f.type ys f.offset).run P w=.ok b w)(he:(Jp d f.type a b).run P w=.ok r w)(hr:(Lr d xs ys fs).run P w=.ok Ir w):(Lr d xs ys (f::fs)).run P w=.ok r w:=by
 have h:=dW hn ha hb he hr
 rwa[Bool.and_true]at h
theorem kF{t:Je}{fs:Array Field}(hu:P.underlying t=Ic (.struct fs))(hp:P.stoodInHeld t=Ik)(h:(Lr d xs ys fs.toList).run P w=.ok r w):(Jp (d+1) t (IA xs) (IA ys)).run P w=.ok r w:=by
 have hf:P.fieldsOf t=fs:=by simp[Jn.fieldsOf,hu]
 rw[run_equalIn_struct (P:=P) w d t xs ys (by rw[hf];exact hu) hp,hf];exact h
end
end Go.Proofs.YtlinbehijfcelaaGreatDoorW.PrintWords
namespace Go.Proofs.YtlinbehijfcelaaGreatDoorW.PrintWords
theorem cx.one{α:Type}{R:α->List Io->Prop}{ps:List α}{cs:List Io}{p:α}{v:Io}(hp:R p [v])(h:cx R 1 ps cs):cx R 1 (p::ps) (v::cs):=by
 refine⟨by simp[h.1],λj q hq=>?_⟩;cases j with
 |zero=>
  simp only[Mn,Ja]at hq;subst hq;simpa using hp
 |succ j=>
  simp only[Kc]at hq;have h1:=h.2 j q hq;simpa[JQ]using h1
theorem cx.front{α:Type}{R:α->List Io->Prop}{size:Nat}{ps:List α}{cs c all:List Io}{p:α}(hp:R p c)(hc:c.length=size)(h:cx R size ps cs)(ha:c++cs=all):cx R size (p::ps) all:=by
 subst ha;refine⟨by rw[IV,hc,h.1,Jz,Kp,Nat.add_comm],λj q hq=>?_⟩;cases j with
 |zero=>
  simp only[Mn,Ja]at hq;subst hq;rw[Nat.zero_mul,List.drop_zero,Kx (by omega),List.take_of_length_le (by omega)];exact hp
 |succ j=>
  simp only[Kc]at hq;have h1:=h.2 j q hq;rw[Kp,Mx,Ju (by rw[hc];exact Nat.le_add_left _ _),Ka,hc,Nat.add_sub_cancel];exact h1
theorem cx.c2{α:Type}{R:α->List Io->Prop}{ps:List α}{cs:List Io}{p:α}{va vb:Io}(hp:R p [va,vb])(h:cx R 2 ps cs):cx R 2 (p::ps) (va::vb::cs):=cx.front hp rfl h rfl
theorem cx.c3{α:Type}{R:α->List Io->Prop}{ps:List α}{cs:List Io}{p:α}{va vb vc:Io}(hp:R p [va,vb,vc])(h:cx R 3 ps cs):cx R 3 (p::ps) (va::vb::vc::cs):=cx.front hp rfl h rfl
theorem cx.c4{α:Type}{R:α->List Io->Prop}{ps:List α}{cs:List Io}{p:α}{va vb vc vd:Io}(hp:R p [va,vb,vc,vd])(h:cx R 4 ps cs):cx R 4 (p::ps) (va::vb::vc::vd::cs):=cx.front hp rfl h rfl
theorem cx.c5{α:Type}{R:α->List Io->Prop}{ps:List α}{cs:List Io}{p:α}{va vb vc vd ve:Io}(hp:R p [va,vb,vc,vd,ve])(h:cx R 5 ps cs):cx R 5 (p::ps) (va::vb::vc::vd::ve::cs):=cx.front hp rfl h rfl
theorem cx.c6{α:Type}{R:α->List Io->Prop}{ps:List α}{cs:List Io}{p:α}{va vb vc vd ve vf:Io}(hp:R p [va,vb,vc,vd,ve,vf])(h:cx R 6 ps cs):cx R 6 (p::ps) (va::vb::vc::vd::ve::vf::cs):=cx.front hp rfl h rfl
theorem cx.c7{α:Type}{R:α->List Io->Prop}{ps:List α}{cs:List Io}{p:α}{va vb vc vd ve vf vg:Io}(hp:R p [va,vb,vc,vd,ve,vf,vg])(h:cx R 7 ps cs):cx R 7 (p::ps) (va::vb::vc::vd::ve::vf::vg::cs):=cx.front hp rfl h rfl
theorem cx.c8{α:Type}{R:α->List Io->Prop}{ps:List α}{cs:List Io}{p:α}{va vb vc vd ve vf vg vh:Io}(hp:R p [va,vb,vc,vd,ve,vf,vg,vh])(h:cx R 8 ps cs):cx R 8 (p::ps) (va::vb::vc::vd::ve::vf::vg::vh::cs):=cx.front hp rfl h rfl
theorem cx.c9{α:Type}{R:α->List Io->Prop}{ps:List α}{cs:List Io}{p:α}{va vb vc vd ve vf vg vh vi:Io}(hp:R p [va,vb,vc,vd,ve,vf,vg,vh,vi])(h:cx R 9 ps cs):cx R 9 (p::ps) (va::vb::vc::vd::ve::vf::vg::vh::vi::cs):=cx.front hp rfl h rfl
theorem cx.c10{α:Type}{R:α->List Io->Prop}{ps:List α}{cs:List Io}{p:α}{va vb vc vd ve vf vg vh vi vj:Io}(hp:R p [va,vb,vc,vd,ve,vf,vg,vh,vi,vj])(h:cx R 10 ps cs):cx R 10 (p::ps) (va::vb::vc::vd::ve::vf::vg::vh::vi::vj::cs):=cx.front hp rfl h rfl
end Go.Proofs.YtlinbehijfcelaaGreatDoorW.PrintWords
