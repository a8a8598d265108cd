/- Walks of the program, and what it computes, told plainly. No condition. (UB UC UD UE RC RD UF) -/
import Derived.Below
import Derived.Deep.Draws
import Derived.Deep.AppendLies
import Derived.Maps.AppendAt
import Derived.OwnWalk
import Derived.Laws.BytesArg
import Derived.Laws.MakeOwn
import Derived.Laws.OwnMore
import Derived.Deep.OwnRows
import Derived.Tactics
import Derived.Lib.ConvBytes
import Derived.Laws.Slices
import Derived.WalkKit
import Derived.KernelRfl
import Derived.RowKit3
import Derived.Deep.LoopGhost
import Derived.Deep.QuietTactic
import Derived.BigQuiet
import Derived.WideLaws
import Derived.Deep.DeepCutAuto
import Derived.Deep.CutBlock
import Derived.Deep.RegionHeld3
import Derived.Laws.Rows
import Derived.Lib.AppendStr
import Derived.ArgAppend
import Derived.Laws.IdiomCopy
import Derived.RowKit
import Derived.OrdersHeld
import Derived.Laws.BitsLemmas
import Derived.Laws.StructEq
import Derived.Test.YtlinbehijfcelaaGreatDoorProg
import Derived.Deep.WholeRow
import Derived.Laws.CopyOwn
import Derived.Carry
import Derived.ChangeKeysEq
import Derived.Laws.RangeAny
import Derived.Deep.MidRow
import Derived.Laws.Tables
import Derived.Test.YtlinbehijfcelaaGreatDoorPA
import Derived.Test.YtlinbehijfcelaaGreatDoorPB
import Derived.Test.YtlinbehijfcelaaGreatDoorPC
import Derived.Test.YtlinbehijfcelaaGreatDoorPD
import Derived.Test.YtlinbehijfcelaaGreatDoorPE
set_option linter.unusedVariables false
set_option linter.unusedSimpArgs false
set_option linter.unusedSectionVars false
set_option maxHeartbeats 8000000
set_option maxRecDepth 100000
open Go renaming Calls->I9,Operand->Lf,Program->Jn,TypeId->Je,Value->Io,World->Im,bodyPost_ret->IG,execOp->JJ,getD_set_ne->IL,heap_alloc2_new->L9,heap_alloc_last->Iu,heap_alloc_new->JZ,loadVar->Le,madeCells->Lo,results_cell_row->IX,run_underlying->I2,setRow_heap->JX,undef->KG,wpList->Kg,wpList_load_row->II
open Option renaming bind_eq_some_iff->L7,getD_some->JL,none->Ih,some->Ic
open List renaming all_eq_true->Jd,drop_eq_getElem_cons->Jc,drop_of_length_le->Ju,eq_of_mem_replicate->J5,ext_getElem?->JN,getD_eq_getElem?_getD->Ij,getElem?_append_right->IW,getElem?_cons_succ->Kc,getElem?_drop->J9,getElem?_eq_getElem->Ig,getElem?_eq_none->I0,getElem?_eq_some_iff->Ip,getElem?_map->IK,getElem?_range->KW,getElem?_set_ne->JR,getElem?_set_self->Jw,getElem?_take->JV,getElem?_toArray->KV,getElem_mem->K8,length_append->IV,length_cons->Jz,length_replicate->JP,length_set->Jq,length_singleton->LU,map_cons->Jt,map_nil->La,map_toArray->Mt,mem_append->J0,mem_of_getElem?->Iw,mem_or_eq_of_mem_set->KA,mem_singleton->IS,not_mem_nil->JE,replicate->IF,setIfInBounds_toArray->IP,set_cons_succ->IZ,set_cons_zero->IY,size_toArray->I8
open Option.some renaming inj->Ii
open Go.RowKit renaming Below->It,intOf->Jj,wrap64->JW
open Go.Value renaming agg->IA,bool->Iy,int->Ib,oneCell'->IH,ownBlock->IQ,pointer->Iq,slice->Ia,tuple->IR
open Go.IntKind renaming i64->Ie
open Go.Proofs.Tryz renaming prog->If,underlying116->JD,underlying119->KE,underlying135->IN,underlying151->MB,underlying49->I6
open Go.Obj renaming cells->Is
open Bool renaming false->Ik,true->Ir
open Go.RowKit.Below renaming heap_setCell->Ld,refl->Il
open Go.Ending renaming returned->Iv
open Int renaming tmod->KQ,toNat_natCast->IC
open Go.Act renaming put->KY
open Go.Addr renaming add->Mo
open Array renaming getElem?_eq_some_iff->IB
open Nat renaming le_refl->Iz,le_trans->IT,mul_one->JQ,zero_le->ID
open Go.Sem renaming run_bind->IJ,run_pure->JO
open Go.Result renaming andThen->Jf,andThen_ok->I1
open Go.Instr renaming sureAddr->Mg
open Go.World renaming block_lt_of_cell?->J8,cell?->My
open And renaming intro->IE
open ByteArray renaming size_append->I5
namespace Go.Proofs.YtlinbehijfcelaaGreatDoor.Top
open Go.RowKit Go.Proofs.YtlinbehijfcelaaGreatDoorW.PrintWords Go.Proofs.YtlinbehijfcelaaGreatDoorW.PrintLast
section
structure Mat{α:Type}(d:Kd α)(e t base lo:Nat)(W:Im)(g:Nat)(vs:List Io)(rows:List (List α)):Prop where
 blk:W.heap[g]?=Ic (.cells vs.toArray t (0,0))
 len:vs.length=rows.length
 row:∀(i:Nat) (v:Io) (xs:List α),vs[i]?=Ic v->rows[i]?=Ic xs->Kd.R d e W base (λk=>lo<=k/\k≠g) v xs
 apart:∀(i j:Nat) (v u:Io),vs[i]?=Ic v->vs[j]?=Ic u->i≠j->∀k,v.ownBlock=Ic k->u.ownBlock≠Ic k
theorem Mat.put{α:Type}{d:Kd α}{e t base lo:Nat}{W W1:Im}{g:Nat}{vs:List Io}{rows:List (List α)}(h:Mat d e t base lo W g vs rows)(hE:d.E=[]){i:Nat}{v v1:Io}{xs ys:List α}(hv:vs[i]?=Ic v)(hx:rows[i]?=Ic xs)
  (hR:Kd.R d e W1 base (λk=>lo<=k/\k≠g) v1 ys) (hb:W1.heap[g]?=Ic (.cells (vs.set i v1).toArray t (0,0))) (hfr:Fr (λk=>k=g\/Ic k=v.ownBlock) W W1) (hat:v1.ownBlock=v.ownBlock\/∃b,v1.ownBlock=Ic b/\W.heap.size<=b):Mat d e t base lo W1 g (vs.set i v1) (rows.set i ys):=by
 have hat2:∀(j:Nat) (u:Io),vs[j]?=Ic u->j≠i->∀k,u.ownBlock=Ic k->v1.ownBlock≠Ic k:=by
  intro j u hu hne k hk he;rcases hat with q|⟨b,q,hl⟩
  .rw[q]at he;exact h.apart j i u v hu hv hne k hk he
  .rw[q]at he
   injection he with he
   obtain⟨zs,hz⟩:∃zs,rows[j]?=Ic zs:=⟨_,Ig (by rw[<-h.len];exact(Ip.1 hu).1)⟩;have:=Kd.R_lt (h.row j u zs hu hz) k hk;omega
 refine⟨hb,by rw[Jq,Jq,h.len],λj u zs hu hz=>?_,λj l u z hu hz hne k hk=>?_⟩
 .by_cases hj:j=i
  .subst hj
   rw[Jw (Ip.1 hv).1]at hu;rw[Jw (Ip.1 hx).1]at hz;obtain rfl:=Ii hu;obtain rfl:=Ii hz;exact hR
  .rw[JR (λe=>hj e.symm)]at hu hz
   have hr:=h.row j u zs hu hz;have hr2:Kd.R d e W base (λk=>(lo<=k/\k≠g)/\Ic k≠v.ownBlock) u zs:=by
    refine⟨λk hk=>⟨hr.1 k hk,λq=>h.apart j i u v hu hv hj k hk q.symm⟩,?_⟩;refine hr.2.imp_ (λx cs hm=>?_);refine d.M_mono (λk hk=>?_) (d.M_bound hm);obtain⟨_,_,_,q,hq,_⟩:=hk;rw[hE]at hq;exact absurd hq (JE)
   exact Kd.R_mono (Kd.R_step hr2 (λk hk hlt=>hfr.block k hlt (λhs=>by rcases hs with hs|hs;exact hk.1.2 hs;exact hk.2 hs))) (λk hk=>hk.1)
 .by_cases hj:j=i
  .subst hj
   rw[Jw (Ip.1 hv).1]at hu;obtain rfl:=Ii hu;rw[JR hne]at hz;exact λq=>hat2 l z hz (λe=>hne e.symm) k q hk
  .rw[JR (λe=>hj e.symm)]at hu
   by_cases hl:l=i
   .subst hl
    rw[Jw (Ip.1 hv).1]at hz;obtain rfl:=Ii hz;exact hat2 j u hu hj k hk
   .rw[JR (λe=>hl e.symm)]at hz
    exact h.apart j l u z hu hz hne k hk
theorem Mat.below{α:Type}{d:Kd α}{e t base lo:Nat}{W W1:Im}{g:Nat}{vs:List Io}{rows:List (List α)}(h:Mat d e t base lo W g vs rows)(hb:It W.heap.size W W1):Mat d e t base lo W1 g vs rows:=
 ⟨ag h.blk hb,h.len,λi v xs hv hx=>Kd.R_below (h.row i v xs hv hx) hb,h.apart⟩
theorem Mat.fr{α:Type}{d:Kd α}{e t base lo:Nat}{W W1:Im}{g:Nat}{vs:List Io}{rows:List (List α)}(h:Mat d e t base lo W g vs rows){S:Nat->Prop}(hf:Fr S W W1)(hs:∀k,lo<=k\/k=g->¬S k):Mat d e t base lo W1 g vs rows:=
 ⟨(hf.block g (aj h.blk) (hs g (.inr rfl))).trans h.blk,h.len,λi v xs hv hx=>Kd.R_step (h.row i v xs hv hx) (λk hk hlt=>hf.block k hlt (hs k (.inl hk.1))),h.apart⟩
abbrev bV:=Int×Int
def bV.cells(e:bV):List Io:=[Ib Ie e.1,Ib Ie e.2]
def dw:Kd bV:=Kd.flat 2 bV.cells (λ_=>rfl) (by simp[bV.cells,IH])
theorem EZ:(If.info? 151).map (λi=>(i.zero,i.size,i.bytes))=Ic (Ic (.agg #[Ib Ie 0,Ib Ie 0]),2,16):=by kernel_rfl
theorem jp:(If.info? 151).map (·.size)=Ic 2:=by kernel_rfl
theorem zP{aF:Act}{o:Oper}(x:bV)(W:Im){u:Lf}(ho:o.op=.buildSlice 149 1 #[(0,u)])(hu:aF.eval u=IA #[Ib Ie x.1,Ib Ie x.2]):(JJ aF.eval o).run If W=.ok (.value (Ia (Ic ⟨W.heap.size,0,Ih⟩) 1 1)) (W.alloc (Is #[Ib Ie x.1,Ib Ie x.2] 151)):=by
 unfold JJ;simp only[ho,Mt,Jt,La,hu]
 go_simp
structure rp(W0:Im)(base gt g i:Nat)(ok:Nat->Prop)(vOut vE:Io)(vs:List Io)(es:List bV)(e:bV)(l7 l8 l10:Bool)(s:Io×Io)(W:Im):Prop where
 fr0:Fr (λk=>k=g\/Ic k=vE.ownBlock) W0 W
 ct:W.heap[gt]?=Ic (.cells #[vOut] 122 (0,0))
 cg:W.heap[g]?=Ic (.cells (if l10=Ir then vs.set i s.2 else vs).toArray 149 (0,0))
 bx:l7=Ir->∃k,s.1=Ia (Ic ⟨k,0,Ih⟩) 1 1/\W0.heap.size<=k/\W.heap[k]?=Ic (.cells #[Ib Ie e.1,Ib Ie e.2] 151 (0,0))
 re:Kd.R dw 151 W base ok (if l8=Ir then s.2 else vE) (if l8=Ir then es++[e]else es)
 at_:l8=Ir->s.2.ownBlock=vE.ownBlock\/∃b,s.2.ownBlock=Ic b/\W0.heap.size<=b
section
variable{W0 W W':Im}{base gt g i:Nat}{ok:Nat->Prop}{vOut vE v:Io}{vs:List Io}{es:List bV}{e:bV}{l7 l8 l10:Bool}{s:Io×Io}
theorem rp.box(h:rp W0 base gt g i ok vOut vE vs es e l7 l8 l10 s W):rp W0 base gt g i ok vOut vE vs es e Ir l8 l10 (Ia (Ic ⟨W.heap.size,0,Ih⟩) 1 1,s.2) (W.alloc (Is #[Ib Ie e.1,Ib Ie e.2] 151)):=by
 obtain⟨h0,h1,h2,h3,h4,h5⟩:=h;have hbl:=ae (Il W.heap.size W) (Is #[Ib Ie e.1,Ib Ie e.2] 151 (0,0));exact⟨h0.trans (Fr.of_below hbl),ag h1 hbl,ag h2 hbl,λ_=>⟨_,rfl,h0.size,Iu W _⟩,Kd.R_below h4 hbl,h5⟩
theorem rp.app(h:rp W0 base gt g i ok vOut vE vs es e l7 Ik Ik s W)(r0:Kd.R dw 151 W0 base ok vE es)(hok:∀k,ok k->k≠gt/\k≠g)
  (hR:Kd.R dw 151 W' base ok v (es++[e])) (hg:W.grownBy W' vE.ownBlock) (hat:v.ownBlock=vE.ownBlock\/∃b,v.ownBlock=Ic b/\W.heap.size<=b):rp W0 base gt g i ok vOut vE vs es e l7 Ir Ik (s.1,v) W':=by
 obtain⟨h0,h1,h2,h3,h4,h5⟩:=h;have nt:Ic gt≠vE.ownBlock:=Kd.R_away r0 (λk hk=>(hok k hk).1);have ng:Ic g≠vE.ownBlock:=Kd.R_away r0 (λk hk=>(hok k hk).2);refine⟨h0.trans (Fr.grown hg (λk e=>.inr e)),(hg.block _ (aj h1) nt).trans h1,(hg.block _ (aj h2) ng).trans h2,λe=>?_,hR,λ_=>?_⟩
 .obtain⟨k,e1,e2,e3⟩:=h3 e
  exact⟨k,e1,e2,(hg.block _ (aj e3) (λq=>by have:=Kd.R_lt r0 k q.symm;omega)).trans e3⟩
 .rcases hat with q|⟨b,q,hl⟩
  .exact .inl q
  .exact .inr ⟨b,q,by have:=h0.size;omega⟩
theorem rp.put(h:rp W0 base gt g i ok vOut vE vs es e l7 Ir Ik s W)(hok:∀k,ok k->k≠gt/\k≠g)(hne:gt≠g)(hlt:g<W0.heap.size):rp W0 base gt g i ok vOut vE vs es e l7 Ir Ir s (W.setCell ⟨g,i,Ih⟩ s.2):=by
 obtain⟨h0,h1,h2,h3,h4,h5⟩:=h;refine⟨h0.trans (Fr.cell (p:=⟨g,i,Ih⟩) (.inl rfl) _),bp h1 (p:=⟨g,i,Ih⟩) hne _,aR h2 i s.2,λe=>?_,Kd.R_step h4 (λk hk _=>Ld W ⟨g,i,Ih⟩ _ k (hok k hk).2),h5⟩;obtain⟨k,e1,e2,e3⟩:=h3 e;exact⟨k,e1,e2,bp e3 (p:=⟨g,i,Ih⟩) (by show k≠g;omega) _⟩
end
def eM(rows:List (List bV))(a:Int)(e:bV):List (List bV):=if 0<=a/\a<rows.length then rows.set a.toNat (rows.getD a.toNat []++[e])else rows
end
theorem rU(a:Int)(e:bV)(rows:List (List bV))(vs:List Io)(gt g base lo:Nat)(w:Im)(hM:Mat dw 151 149 base lo w g vs rows)(hct:w.heap[gt]?=Ic (.cells #[Ia (Ic ⟨g,0,Ih⟩) rows.length rows.length] 122 (0,0)))
  (hbase:base<=w.heap.size) (hlo:lo<=w.heap.size) (hgt:gt<lo) (hne:gt≠g) (hsm:∀xs∈rows,xs.length<=1000000) (hrl:rows.length<=1000000) :
  I9 If 83 #[Ib Ie a,IA #[Ib Ie e.1,Ib Ie e.2],Iq (Ic ⟨gt,0,Ih⟩)] w λr w'=>r=Iv (IR #[])/\∃vs',Mat dw 151 149 base lo w' g vs' (eM rows a e)/\Fr (λk=>k=g\/∃v∈vs,Ic k=v.ownBlock) w w':=by
 have c0:=(show w.cell? ⟨gt,0,Ih⟩=Ic (.slice (Ic ⟨g,0,Ih⟩) rows.length rows.length) by rw[ah hct];rfl);have l0:=aj hct;have HM:=MD hM;have HCt:=MD hct;have HSm:=MD hsm;clear hM hct hsm;by_cases h1:0<=a
 .by_cases h2:a<(rows.length:Int)
  .obtain⟨i,rfl⟩:∃i:Nat,a=i:=⟨a.toNat,by omega⟩
   have hi:i<rows.length:=by omega
   obtain⟨es,hx⟩:∃es,rows[i]?=Ic es:=⟨_,Ig hi⟩;obtain⟨vE,hv⟩:∃vE,vs[i]?=Ic vE:=⟨_,Ig (by rw[HM.1.len];exact hi)⟩;have HL:aa (eM rows i e=rows.set i (es++[e])):=⟨by unfold eM;rw[if_pos ⟨h1,h2⟩,IC,Ij,hx];rfl⟩;rw[HL.1];have hes:=HSm.1 es (Iw hx);have HV:=MD hv;have HX:=MD hx;have HES:=MD hes;clear hv hx hes;go_enter Tryz.func83,Tryz.ntmps83;go_upto_region 2 with fail
   obtain⟨W0,hW0⟩:∃W0,W0=w.alloc (Is #[Ib Ie e.1,Ib Ie e.2] 151):=⟨_,rfl⟩;have hB0:It w.heap.size w W0:=by rw[hW0];exact ae (Il _ _) _
   have hT4:W0.heap[w.heap.size]?=Ic (.cells #[Ib Ie e.1,Ib Ie e.2] 151 (0,0)):=by rw[hW0];exact Iu w _
   have hM0:=HM.1.below hB0;have hC0:=ag HCt.1 hB0;have hsz:w.heap.size<W0.heap.size:=aj hT4;rw[show w.alloc (Is #[Ib Ie e.1,Ib Ie e.2] 151)=W0 from hW0.symm];clear hW0;have RE0:=MD (hM0.row i vE es HV.1 HX.1);have BW:=MD hB0;have T4:=MD hT4;have M0:=MD hM0;have C0:=MD hC0;have SZ:=MD hsz;have NE:=MD hne;have GT:=MD hgt;have LO:=MD hlo;have BA:=MD hbase;have hsz149:∀W,(sizeOf 149).run If W=.ok 1 W:=λW=>by kernel_rfl
   have hag122:∀W,(isAgg 122).run If W=.ok Ik W:=λW=>by kernel_rfl
   have hag149:∀W,(isAgg 149).run If W=.ok Ik W:=λW=>by kernel_rfl
   have HS1:=MD hsz149;have HA1:=MD hag122;have HA2:=MD hag149;have HI:=MD hi;clear hsz149 hag122 hag149 hB0 hT4 hM0 hC0 hsz hne hgt hlo hbase hi c0 l0;refine ku (σ:=Io×Io) (λs=>[(13,Ia (Ic ⟨g,0,Ih⟩) rows.length rows.length),(14,Ib Ie (i:Int)),(15,Ia (Ic ⟨g,0,Ih⟩) rows.length rows.length),(16,Ib Ie (i:Int)),(17,Iq (Ic ⟨g,i,Ih⟩)),(18,vE),(19,IA #[Ib Ie e.1,Ib Ie e.2]),(20,s.1),(21,s.2),(22,Iq (Ic ⟨g,i,Ih⟩))])
    (λs L W=>L.size=11/\rp W0 base gt g i (λk=>lo<=k/\k≠g) (Ia (Ic ⟨g,0,Ih⟩) rows.length rows.length) vE vs es e (L.getD 7 Ik) (L.getD 8 Ik) (L.getD 10 Ik) s W) (KG,KG) (by kernel_rfl) (by kernel_rfl) (λ_=>by kernel_rfl) ?_
   intro aF haF;simp only[bk,KY,IP,IZ,IY]at haF;subst haF;refine⟨?_,⟨by simp,⟨Fr.drew,C0.1,M0.1.blk,λe=>absurd e (by decide),Kd.R_drew RE0.1,λe=>absurd e (by decide)⟩⟩,?_⟩
   .intro j o ho s L W hc hr hs
    obtain⟨hL,hst⟩:=hs;have keep:∀j:Nat,j≠7->j≠8->j≠10->(L.setIfInBounds j Ir).size=11/\rp W0 base gt g i (λk=>lo<=k/\k≠g) (Ia (Ic ⟨g,0,Ih⟩) rows.length rows.length) vE vs es e ((L.setIfInBounds j Ir).getD 7 Ik) ((L.setIfInBounds j Ir).getD 8 Ik) ((L.setIfInBounds j Ir).getD 10 Ik) s W:=λj a b c=>by
     rw[IL Ik a,IL Ik b,IL Ik c];exact⟨by simpa using hL,hst⟩
    rcases j with _|_|_|_|_|_|_|_|_|_|_|j
    .obtain rfl:=Ii ho
     exact ax rfl 122 _ rfl ⟨gt,0,Ih⟩ _ rfl (HA1.1 W) (by rw[ah hst.ct];rfl) (de rfl (keep 0 (by decide) (by decide) (by decide)))
    .obtain rfl:=Ii ho
     exact ab rfl (by go_simp) (de rfl (keep 1 (by decide) (by decide) (by decide)))
    .obtain rfl:=Ii ho
     exact ax rfl 122 _ rfl ⟨gt,0,Ih⟩ _ rfl (HA1.1 W) (by rw[ah hst.ct];rfl) (de rfl (keep 2 (by decide) (by decide) (by decide)))
    .obtain rfl:=Ii ho
     exact ab rfl (by go_simp) (de rfl (keep 3 (by decide) (by decide) (by decide)))
    .obtain rfl:=Ii ho
     exact ab rfl (by have z1:=HI.1;have z2:(i:Int)<(rows.length:Int):=(by omega);go_simp) (de rfl (keep 4 (by decide) (by decide) (by decide)))
    .obtain rfl:=Ii ho
     have n10:=jC (j:=10) hc hr (by kernel_rfl);have hcg:=hst.cg;rw[n10]at hcg;exact ax rfl 149 _ rfl ⟨g,i,Ih⟩ _ rfl (HA2.1 W) (by rw[aq hcg];exact HV.1) (de rfl (keep 5 (by decide) (by decide) (by decide)))
    .obtain rfl:=Ii ho
     refine gd rfl 151 _ rfl w.heap.size rfl 151 #[Ib Ie e.1,Ib Ie e.2] (0,0) _ ?_ MB rfl jp (de rfl (keep 6 (by decide) (by decide) (by decide)));refine(hst.fr0.block _ (aj T4.1) ?_).trans T4.1;rintro(q|q)
     .have:=aj HM.1.blk;omega
     .have:=Kd.R_lt (HM.1.row i vE es HV.1 HX.1) _ q.symm;omega
    .obtain rfl:=Ii ho
     refine ab (v:=Ia (Ic ⟨W.heap.size,0,Ih⟩) 1 1) (w':=W.alloc (Is #[Ib Ie e.1,Ib Ie e.2] 151)) rfl (zP e W rfl rfl) (jZ (Ia (Ic ⟨W.heap.size,0,Ih⟩) 1 1,s.2) 20 hr rfl (by kernel_rfl) rfl rfl ⟨by simpa using hL,?_⟩);have ht:(L.setIfInBounds 7 Ir).getD 7 Ik=Ir:=by simp[hL]
     simp only[IL Ik (show(7:Nat)≠8 by decide),IL Ik (show(7:Nat)≠10 by decide),ht];exact hst.box
    .obtain rfl:=Ii ho
     have l7:=kH hc hr 7 (by kernel_rfl) (by rw[hL];decide);have n8:=f_ hr;have n10:=jC (j:=10) hc hr (by kernel_rfl);rw[n8,n10]at hst;obtain⟨kb,e1,e2,e3⟩:=hst.bx l7;refine ki dw base rfl (.tmp 18) (.tmp 20) 149 151 _ 16 rfl Tryz.underlying149 EZ rfl (by decide) (by omega) vE es e [Ib Ie e.1,Ib Ie e.2] (λk=>lo<=k/\k≠g) (λ_=>False) rfl ⟨kb,0,Ih⟩ e1 ?_ rfl (λ_ h=>h.elim) (λk hk=>⟨by have:=hst.fr0.size;have:=SZ.1;have:=LO.1;omega,by have:=hst.fr0.size;have:=aj M0.1.blk;omega⟩) hst.re (by have:=hst.fr0.size;have:=SZ.1;have:=BA.1;omega) (by have:=HES.1;omega) ?_
     .intro q u hq
      have:(⟨kb,0,Ih⟩:Addr).add q=⟨kb,q,Ih⟩:=by unfold Mo;by_cases h0:q=0<;>simp[h0]
      rw[this,ah e3];exact(KV).trans hq
     .intro v1 w1 hR hg hat
      refine jZ (s.1,v1) 21 hr rfl (by kernel_rfl) rfl rfl ⟨by simpa using hL,?_⟩;have ht:(L.setIfInBounds 8 Ir).getD 8 Ik=Ir:=by simp[hL]
      simp only[IL Ik (show(8:Nat)≠7 by decide),IL Ik (show(8:Nat)≠10 by decide),ht,n10];exact hst.app RE0.1 (λk hk=>⟨by have:=GT.1;omega,hk.2⟩) hR hg hat
    .obtain rfl:=Ii ho
     exact ab rfl (by have z1:=HI.1;have z2:(i:Int)<(rows.length:Int):=(by omega);go_simp) (de rfl (keep 9 (by decide) (by decide) (by decide)))
    .obtain rfl:=Ii ho
     have l8:=kH hc hr 8 (by kernel_rfl) (by rw[hL];decide);have ni:=f_ hr;rw[ni,l8]at hst;obtain⟨A,c,he⟩:=Kd.R_slice hst.re;obtain⟨hv1,hv2⟩:=dT _ _ _ _ he;have hcg:=hst.cg;refine a_ rfl 149 _ _ rfl g i s.2 _ rfl rfl hv1 hv2 (HS1.1 W) (by rw[aq hcg];exact HV.1) (au hcg i) (de rfl ⟨by simpa using hL,?_⟩);have ht:(L.setIfInBounds 10 Ir).getD 10 Ik=Ir:=by simp[hL]
     simp only[IL Ik (show(10:Nat)≠7 by decide),IL Ik (show(10:Nat)≠8 by decide),ht,l8];exact hst.put (λk hk=>⟨by have:=GT.1;omega,hk.2⟩) NE.1 (aj M0.1.blk)
    .exact absurd (IB.1 ho).1 (by simp)
   .intro s L W hall hs
    have hst:=hs.2;rw[hall 7 (by simp),hall 8 (by simp),hall 10 (by simp)]at hst;have HSt:=MD hst;clear hst hs hall;dsimp only;go_wp2;refine bodyPost_end (v:=IR #[]) (results_none rfl _ _ _) rfl ⟨rfl,vs.set i s.2,?_,?_⟩
    .exact M0.1.put rfl HV.1 HX.1 HSt.1.re HSt.1.cg HSt.1.fr0 (HSt.1.at_ rfl)
    .exact(Fr.of_below BW.1).trans (HSt.1.fr0.mono (λk _ h=>by rcases h with h|h;exact .inl h;exact .inr ⟨vE,Iw HV.1,h⟩))
  .have HL:aa (eM rows a e=rows):=⟨by unfold eM;rw[if_neg (by omega)]⟩
   rw[HL.1];go_enter Tryz.func83,Tryz.ntmps83;go_wp2;exact bodyPost_end (v:=IR #[]) (results_none rfl _ _ _) rfl ⟨rfl,⟨vs,HM.1.below (ae (Il _ _) _)⟩,Fr.of_below (ae (Il _ _) _)⟩
 .have HL:aa (eM rows a e=rows):=⟨by unfold eM;rw[if_neg (by omega)]⟩
  rw[HL.1];go_enter Tryz.func83,Tryz.ntmps83;go_wp2;exact bodyPost_end (v:=IR #[]) (results_none rfl _ _ _) rfl ⟨rfl,⟨vs,HM.1.below (ae (Il _ _) _)⟩,Fr.of_below (ae (Il _ _) _)⟩
def dV(n:Nat):List aX->Nat->List (List bV)->List (List bV)
 | [],_,rows=>rows
 |o::l,k,rows=>dV n l (k+1) (eM rows o.jt ((n:Int),(k:Int)))
def dr:List aG->Nat->List (List bV)->List (List bV)
 | [],_,rows=>rows
 |x::l,n,rows=>dr l (n+1) (dV n x.outs 0 rows)
def a7(S:bj):List (List bV):=dr S.nodes 0 (eM (IF S.nodes.length []) S.entry.jt (-1,0))
theorem lL(rows:List (List bV))(a:Int)(e:bV):(eM rows a e).length=rows.length:=by
 unfold eM;split<;>simp
theorem jF{rows:List (List bV)}{B:Nat}(h:∀xs∈rows,xs.length<=B)(a:Int)(e:bV):∀xs∈eM rows a e,xs.length<=B+1:=by
 unfold eM;split
 .rename_i hr
  intro xs hx;rcases KA hx with hx|rfl
  .have:=h xs hx;omega
  .rw[IV,Ij,Ig (by omega)]
   have:=h _ (K8 (show a.toNat<rows.length by omega));simp only[JL,LU];omega
 .intro xs hx
  have:=h xs hx;omega
theorem Mat.new{α:Type}(d:Kd α){e t base lo:Nat}{W:Im}{g n:Nat}(h:W.heap[g]?=Ic (.cells (IF n (Ia Ih 0 0)).toArray t (0,0))):Mat d e t base lo W g (IF n (Ia Ih 0 0)) (IF n []):=by
 refine⟨h,by simp,λi v xs hv hx=>?_,λi j v u hv hu hne k hk=>?_⟩
 .obtain rfl:=J5 (Iw hv)
  obtain rfl:=J5 (Iw hx);exact Kd.R_nil _ _ _ _ _
 .obtain rfl:=J5 (Iw hv)
  exact absurd hk (by simp[IQ])
theorem Mat.rd{α:Type}{d:Kd α}{e t base lo:Nat}{W:Im}{g:Nat}{vs:List Io}{rows:List (List α)}(h:Mat d e t base lo W g vs rows)(hm:rows.length<=9223372036854775807):Rd (Kd.slice e d) W (Ia (Ic ⟨g,0,Ih⟩) rows.length rows.length) rows:=by
 refine⟨_,_,rfl,Iz _,rfl,hm,λ_=>⟨_,rfl,λj p hp=>?_⟩⟩;obtain⟨v,hv⟩:∃v,vs[j]?=Ic v:=⟨_,Ig (by rw[h.len];exact(Ip.1 hp).1)⟩;obtain⟨A,c,rfl,hl,hC⟩:=Kd.R_reads (h.row j v p hv hp);refine⟨[Ia A p.length c],rfl,⟨A,c,rfl,hl,hC⟩,λi u hu=>?_⟩;have hi:i=0:=by
  have:=(Ip.1 hu).1;simp at this;exact this
 subst hi;obtain rfl:=Ii hu;have:(⟨g,0,Ih⟩:Addr).add (j*(Kd.slice e d).sz+0)=⟨g,j,Ih⟩:=by
  have hs:(Kd.slice e d).sz=1:=rfl;rw[hs];unfold Mo;by_cases h0:j=0<;>simp[h0]
 rw[this,aq h.blk];exact hv
theorem Mat.own{α:Type}{d:Kd α}{e t base lo:Nat}{W:Im}{g:Nat}{vs:List Io}{rows:List (List α)}(h:Mat d e t base lo W g vs rows)(hm:rows.length<=1000000)(hg:base<=g)(hlo:base<=lo):Kd.R (Kd.slice e d) t W base (λk=>base<=k) (Ia (Ic ⟨g,0,Ih⟩) rows.length rows.length) rows:=by
 refine⟨λk hk=>?_,vs,⟨by rw[h.len];exact(JQ _).symm,.inr ⟨g,rows.length,vs.toArray,rfl,hg,h.blk,Iz _,by simp only[maxLen];omega,?_,?_⟩⟩,by rw[h.len];exact(JQ _).symm,λj p hp=>?_⟩
 .obtain rfl:g=k:=by simpa[IQ]using hk
  exact hg
 .rw[I8,h.len];exact(JQ _).symm
 .rw[show(Kd.slice e d).sz=1 from rfl,JQ,<-h.len];simp
 .obtain⟨v,hv⟩:∃v,vs[j]?=Ic v:=⟨_,Ig (by rw[h.len];exact(Ip.1 hp).1)⟩
  refine⟨v,?_,Kd.R_mono (h.row j v p hv hp) (λk hk=>⟨by omega,by simp[IQ];omega⟩)⟩;rw[show(Kd.slice e d).sz=1 from rfl,JQ];apply JN;intro i;rw[JV,J9];cases i with
  |zero=>rw[if_pos (by omega),Nat.add_zero,hv];rfl
  |succ i=>rw[if_neg (by omega)];rfl
theorem iq(z:Io)(n:Nat):Lo #[z] n=(IF n z).toArray:=by
 refine Array.ext (by simp[Lo]) (λi h1 h2=>?_);simp[Lo,Nat.mod_one]
theorem E4:(If.info? 149).map (λi=>(i.zero,i.size,i.bytes))=Ic (Ic (.slice Ih 0 0),1,24):=by kernel_rfl
theorem lE:(If.info? 142).map (·.size)=Ic 2:=by kernel_rfl
theorem gT{P:Jn}{ops:Array Oper}{o:Oper}{rest:List Oper}{a:Act}{W W':Im}{Q:Exit->Act->Im->Prop}(hgd:o.guard=Ih)(t:Je)(x y:Lf)(ho:o.op=.makeSlice t x y)(vx vy v:Io)(hx:a.eval x=vx)(hy:a.eval y=vy)
  (hrun:(Instr.makeSlice t vx vy).run P W=.ok v W') (h:Kg P ops Q rest (a.put o.dst v) W'):Kg P ops Q (o::rest) a W:=by
 refine dJ hgd _ ?_ h;unfold JJ;simp only[ho,hx,hy,IJ,hrun,I1,JO]
theorem ic(a:Addr)(n m:Nat):(a.add n).add m=a.add (n+m):=by
 unfold Mo;by_cases h1:n=0
 .subst h1;simp
 .by_cases h2:m=0
  .subst h2;simp[h1]
  .have h3:n+m≠0:=by omega
   simp[h1,h2,h3,Nat.add_assoc]
theorem qy{P:Jn}(W:Im)(p:Addr)(ty:Je)(cs:List Io)(d:TypeDesc)(hc:∀j v,cs[j]?=Ic v->W.cell? (p.add j)=Ic v)(hu:P.underlying ty=Ic d)(hd:d.isRow=Ir)(hi:(P.info? ty).map (·.size)=Ic cs.length):(Le ty p).run P W=.ok (IA cs.toArray) W:=by
 have hl:(loadCells p cs.length).run P W=.ok cs.toArray W:=run_loadCells_list (P:=P) W p cs hc;cases hq:P.info? ty with
 |none=>simp[hq]at hi
 |some i=>
  have hs:i.size=cs.length:=by simpa[hq]using hi
  have hagg:(isAgg ty).run P W=.ok Ir W:=by
   unfold isAgg;rw[IJ,I2 hu W];cases d<;>simp_all
  simp[Le,IJ,hagg,sizeOf,typeInfo,hq,hs,hl]
theorem fl{P:Jn}{α:Type}{k:Kd α}{W:Im}{A:Option Addr}{n:Nat}{xs:List α}(hC:Kd.C k W A n xs)(i:Nat)(h1:i<n)(x:α)(hx:xs[i]?=Ic x)(ty:Je){d:TypeDesc}(hu:P.underlying ty=Ic d)(hd:d.isRow=Ir)(hi:(P.info? ty).map (·.size)=Ic k.sz) :
  ∃ad cs,A=Ic ad/\k.K W x cs/\(Le ty (ad.add (i*k.sz))).run P W=.ok (IA cs.toArray) W:=by
 obtain⟨ad,c,e,hl,hK,hc⟩:=b_ hC i h1 x hx;exact⟨ad,c,e,hK,qy W _ ty c d (λj v hj=>by rw[ic];exact hc j v hj) hu hd (by rw[hl];exact hi)⟩
theorem ba{P:Jn}{α:Type}{k:Kd α}{w W:Im}{A:Option Addr}{n:Nat}{xs:List α}(hC:Kd.C k w A n xs)(hb:It w.heap.size w W)(i:Nat)(h1:i<n)(x:α)(hx:xs[i]?=Ic x)(ty:Je){d:TypeDesc}(hu:P.underlying ty=Ic d)(hd:d.isRow=Ir)(hi:(P.info? ty).map (·.size)=Ic k.sz) :
  ∃ad cs,A=Ic ad/\k.K w x cs/\(Le ty (ad.add (i*k.sz))).run P W=.ok (IA cs.toArray) W:=by
 obtain⟨ad,c,e,hl,hK,hc⟩:=b_ hC i h1 x hx;exact⟨ad,c,e,hK,qy W _ ty c d (λj v hj=>by rw[ic];exact ak hb (hc j v hj)) hu hd (by rw[hl];exact hi)⟩
theorem cw{W W':Im}{o:Obj}(hf:Fr (λk=>k=W.heap.size) (W.alloc o) W'):It W.heap.size W W':=Fr.below (ae (Il _ _) o) hf (λk hk h=>by omega) (by simp)
structure WSt(w:Im)(N:Nat)(W:Im)(vs:List Io)(rows:List (List bV)):Prop where
 b:It w.heap.size w W
 gt:W.heap[w.heap.size+1+1]?=Ic (.cells #[Ia (Ic ⟨w.heap.size+1,0,Ih⟩) N N] 122 (0,0))
 m:Mat dw 151 149 w.heap.size (w.heap.size+3) W (w.heap.size+1) vs rows
 len:rows.length=N
theorem WSt.below{w:Im}{N:Nat}{W W':Im}{vs:List Io}{rows:List (List bV)}(h:WSt w N W vs rows)(hb:It W.heap.size W W'):WSt w N W' vs rows:=
 ⟨af h.b hb,ag h.gt hb,h.m.below hb,h.len⟩
theorem WSt.lead{w:Im}{N:Nat}{W W':Im}{vs vs':List Io}{rows:List (List bV)}{a:Int}{e:bV}(h:WSt w N W vs rows)(hm:Mat dw 151 149 w.heap.size (w.heap.size+3) W' (w.heap.size+1) vs' (eM rows a e))(hf:Fr (λk=>k=w.heap.size+1\/∃v∈vs,Ic k=v.ownBlock) W W'):WSt w N W' vs' (eM rows a e):=by
 have key:∀k,k<w.heap.size+3->k≠w.heap.size+1->¬(k=w.heap.size+1\/∃v∈vs,Ic k=v.ownBlock):=by
  rintro k hk hne (q|⟨v,hv,q⟩)
  .exact hne q
  .obtain⟨i,hi,he⟩:=List.mem_iff_getElem.1 hv
   have:=(h.m.row i v _ (by rw[Ig hi,he]) (Ig (by rw[<-h.m.len];exact hi))).1 k q.symm;omega
 exact⟨Fr.below h.b hf (λk hk=>key k (by omega) (by omega)) h.b.size,(hf.block _ (aj h.gt) (key _ (by omega) (by omega))).trans h.gt,hm,by rw[lL];exact h.len⟩
theorem jK(S:bj)(vN:Io)(w:Im)(hN:Rd dK w vN S.nodes)(h200:S.nodes.length<=200)(h2:∀x∈S.nodes,x.outs.length<=2) :
  I9 If 52 #[IA (S.entry.cells++[vN]).toArray] w λe w'=>∃v,e=Iv v/\Kd.R (Kd.slice 151 dw) 149 w' w.heap.size (λk=>w.heap.size<=k) v (a7 S)/\It w.heap.size w w':=by
 obtain⟨A,c,rfl,hlc,hC⟩:=hN;have HC:=MD hC;have H2:=MD h2;have hn200:(S.nodes.length:Int)<=200:=by omega
 have hmk:=run_make_row' (P:=If) 122 149 (Ia Ih 0 0) 24 Tryz.underlying122 E4 rfl .i64 .i64 S.nodes.length (by omega) (by omega);have HMk:=MD hmk;clear hC h2 hmk;go_enter Tryz.func52,Tryz.ntmps52;go_upto_region 1 with fail
 obtain⟨wa,hwa⟩:∃wa,wa=w.alloc (Is (S.entry.cells++[Ia A S.nodes.length c]).toArray 119):=⟨_,rfl⟩;have hBx:wa.heap[w.heap.size]?=Ic (.cells (S.entry.cells++[Ia A S.nodes.length c]).toArray 119 (0,0)):=by rw[hwa];exact JZ w _
 have hBa:It w.heap.size w wa:=by rw[hwa];exact ae (Il _ _) _
 have hsz:wa.heap.size=w.heap.size+1:=by rw[hwa];simp
 refine ar hwa.symm ?_;have c25:=(show wa.cell? ⟨w.heap.size,25,Ih⟩=Ic (.slice A S.nodes.length c) by rw[aq hBx,IW (by rw[aX.len];exact Iz _),aX.len];rfl);have HBx:=MD hBx;have HBa:=MD hBa;clear hwa hBx hBa;go_upto_region 3 with(first
  |((with_reducible refine ai (N:=12) rfl ?_);refine gT rfl 122 _ _ rfl _ _ _ rfl rfl (HMk.1 _) ?_))
 obtain⟨wb,hwb⟩:∃wb,wb=(wa.alloc (Is (Lo #[Ia Ih 0 0] S.nodes.length) 149)).alloc (Is #[Ia (Ic ⟨w.heap.size+1,0,Ih⟩) S.nodes.length S.nodes.length] 122):=⟨_,rfl⟩;have hst:WSt w S.nodes.length wb (IF S.nodes.length (Ia Ih 0 0)) (IF S.nodes.length []):=by
  refine⟨by rw[hwb];exact ae (ae HBa.1 _) _,?_,Mat.new dw ?_,by simp⟩
  .have:=JZ (wa.alloc (Is (Lo #[Ia Ih 0 0] S.nodes.length) 149)) (Is #[Ia (Ic ⟨w.heap.size+1,0,Ih⟩) S.nodes.length S.nodes.length] 122)
   rw[hwb];simpa[hsz]using this
  .have:=aT (JZ wa (Is (Lo #[Ia Ih 0 0] S.nodes.length) 149)) (Is #[Ia (Ic ⟨w.heap.size+1,0,Ih⟩) S.nodes.length S.nodes.length] 122)
   rw[<-iq,hwb,<-hsz];rw[<-hsz]at this;exact this
 have hbx:wb.heap[w.heap.size]?=Ic (.cells (S.entry.cells++[Ia A S.nodes.length c]).toArray 119 (0,0)):=by rw[hwb];exact aT (aT HBx.1 _) _
 have hs3:w.heap.size+3<=wb.heap.size:=by have:=aj hst.gt;omega
 refine ar hwb.symm ?_;have e0:=(show wb.cell? ⟨w.heap.size,0,Ih⟩=Ic (Ib Ie S.entry.jt) by rw[aq hbx];rfl);have HSt:=MD hst;have HBx2:=MD hbx;have HS3:=MD hs3;have HSm:=MD (show ∀xs∈IF S.nodes.length ([]:List bV),xs.length<=0 from λxs hx=>by rw[J5 hx];exact Iz _);clear hwb hst hbx c25 hsz hs3 HBx HBa;go_upto_region 4 with(first
  |(go_at_call 83;refine(rU S.entry.jt (-1,0) _ _ (w.heap.size+1+1) (w.heap.size+1) w.heap.size (w.heap.size+3) wb HSt.1.m (by rw[JP];exact HSt.1.gt) (by have:=HS3.1;omega) HS3.1 (by omega) (by omega) (λxs hx=>by have:=HSm.1 xs hx;omega) (by rw[JP];omega)).mono ?_;rintro e w2 ⟨rfl,vs,hm,hfr⟩;have HS2:=MD (HSt.1.lead hm hfr);have hb2:=(Fr.block hfr w.heap.size (aj HBx2.1) (by rintro(q|⟨v,hv,q⟩);omega;rw[J5 hv]at q;exact absurd q (by simp[IQ]))).trans HBx2.1;have c25:=(show w2.cell? ⟨w.heap.size,25,Ih⟩=Ic (.slice A S.nodes.length c) by rw[aq hb2,IW (by rw[aX.len];exact Iz _),aX.len];rfl);clear hm hfr hb2))
 have hsm2:∀xs∈eM (IF S.nodes.length []) S.entry.jt (-1,0),xs.length<=1:=jF HSm.1 _ _;obtain⟨R1,hR1⟩:∃R1,R1=eM (IF S.nodes.length []) S.entry.jt (-1,0):=⟨_,rfl⟩;have hfin:a7 S=dr (S.nodes.drop 0) 0 R1:=by rw[hR1];rfl
 rw[<-hR1]at hsm2 HS2;have HSm2:=MD hsm2;have HFin:=MD hfin;clear hsm2 hR1 hfin HSm HSt HBx2 e0;go_wp2;go_loopw [23] (λi wr=>∃(n:Nat) (vs:List Io) (rows:List (List bV)),i=Ib Ie n/\aa (n<=S.nodes.length/\WSt w S.nodes.length wr vs rows/\(∀xs∈rows,xs.length<=1+2*n)/\a7 S=dr (S.nodes.drop n) n rows)) (λi _=>S.nodes.length-(Jj i).toNat)
 case atStart=>exact⟨0,vs,R1,rfl,⟨⟨ID _,HS2.1,HSm2.1,HFin.1⟩⟩⟩
 case round=>
  obtain⟨n,vs2,rows,rfl,HL⟩:=hrel;obtain⟨hn,hW,hsm,hfin⟩:=HL.1;by_cases hlt:n<S.nodes.length
  .have hlt':(n:Int)<(S.nodes.length:Int):=by omega
   obtain⟨x,hx⟩:∃x,S.nodes[n]?=Ic x:=⟨_,Ig hlt⟩;obtain⟨ad,cs,rfl,hK,hld⟩:=ba (P:=If) HC.1 hW.b n hlt x hx 142 Tryz.underlying142 rfl lE;obtain⟨vO,rfl,AO,cO,rfl,hlO,hCO⟩:=gD hK;have ho2:=H2.1 x (Iw hx);rw[Jc hlt,(Ip.1 hx).2]at hfin;simp only[dr]at hfin;have HW:=MD hW;have HSm:=MD hsm;have HFi:=MD hfin;have HLd:=MD hld;have HCO:=MD hCO;have hOl:(x.outs.length:Int)<=2:=by omega
   have HLt:=MD hlt;clear hW hsm hfin hld hCO hK hx HL hlt hn;go_upto_region 8 with(first
    |((with_reducible refine ai (N:=27) rfl ?_);refine av rfl 142 _ rfl (ad.add (n*2)) rfl _ HLd.1 ?_))
   have HW1:=MD (HW.1.below (ae (Il _ _) (Is #[Ib Ie x.at_,Ia AO x.outs.length cO] 142)));go_loopw [31] (λj wr=>∃(k:Nat) (vs:List Io) (rows2:List (List bV)),j=Ib Ie k/\aa (k<=x.outs.length/\WSt w S.nodes.length wr vs rows2/\(∀xs∈rows2,xs.length<=1+2*n+k)/\dV n x.outs 0 rows=dV n (x.outs.drop k) k rows2)) (λj _=>x.outs.length-(Jj j).toNat)
   case atStart=>exact⟨0,vs2,rows,rfl,⟨⟨ID _,HW1.1,HSm.1,rfl⟩⟩⟩
   case round=>
    obtain⟨k,vs3,rows3,rfl,HL⟩:=hrel;obtain⟨hk,hW,hsm,hfin⟩:=HL.1;by_cases hkl:k<x.outs.length
    .have hkl':(k:Int)<(x.outs.length:Int):=by omega
     obtain⟨o,ho⟩:∃o,x.outs[k]?=Ic o:=⟨_,Ig hkl⟩;obtain⟨ad2,cs2,rfl,hK2,hld2⟩:=ba (P:=If) HCO.1 hW.b k hkl o ho 116 JD rfl ij;obtain rfl:cs2=o.cells:=hK2;have hfin2:=hfin;rw[Jc hkl,(Ip.1 ho).2]at hfin2;simp only[dV]at hfin2;have HW3:=MD hW;have HSm3:=MD hsm;have HFi3:=MD hfin2;have HLd2:=MD hld2;have HKl:=MD hkl;have hk2:k<=2:=by omega
     have hr3:=MD hW.len;have HNl:=MD (show n<=200 by have:=HLt.1;omega);clear hW hsm hfin hfin2 hld2 ho HL hkl hk;go_wp2_with (first
      |((with_reducible refine ai (N:=35) rfl ?_);refine av rfl 116 _ rfl (ad2.add (k*25)) rfl _ HLd2.1 ?_)
      |((with_reducible refine ap (t:=116) (p:=8) rfl ?_);refine an rfl 116 _ _ rfl wr.heap.size o.cells.toArray rfl rfl 116 (aX.cells ⟨0,bE⟩).toArray (Iu wr _) (dN o) (by simp[aX.len]) (iO o) ?_;intro w6 h6 hf6;have HW6:=MD (HW3.1.below (cw hf6));have c80:=(show w6.cell? ⟨wr.heap.size,0,Ih⟩=Ic (Ib Ie o.jt) by rw[aq h6];rfl);clear h6 hf6)
      |(go_at_call 83;refine(rU o.jt ((n:Int),(k:Int)) _ _ (w.heap.size+1+1) (w.heap.size+1) w.heap.size (w.heap.size+3) w6 HW6.1.m (by rw[hr3.1];exact HW6.1.gt) (by have:=HW6.1.b.size;omega) (by have:=aj HW6.1.gt;omega) (by omega) (by omega) (λxs hx=>by have:=HSm3.1 xs hx;have:=HNl.1;omega) (by rw[hr3.1];omega)).mono ?_;rintro e w7 ⟨rfl,vs7,hm,hfr⟩;have HW7:=MD (HW6.1.lead hm hfr);clear hm hfr))
     go_roundw
     case rel=>exact⟨k+1,vs7,_,by go_num,⟨⟨HKl.1,HW7.1,λxs hx=>by have:=jF HSm3.1 o.jt ((n:Int),(k:Int)) xs hx;omega,HFi3.1⟩⟩⟩
     case measure=>have:=HKl.1;simp[Jj];omega
    .obtain rfl:k=x.outs.length:=by omega
     have hfin2:dV n x.outs 0 rows=rows3:=by rw[hfin,Ju (Iz _)];rfl
     have HW3:=MD hW;have HSm3:=MD hsm;have hfi:=HFi.1;rw[hfin2]at hfi;have HFi3:=MD hfi;clear hW hsm hfin hfin2 hfi HL;go_wp2;go_roundw
     case rel=>exact⟨n+1,vs3,rows3,by go_num,⟨⟨HLt.1,HW3.1,λxs hx=>by have:=HSm3.1 xs hx;omega,HFi3.1⟩⟩⟩
     case measure=>have:=HLt.1;simp[Jj];omega
  .obtain rfl:n=S.nodes.length:=by omega
   have hfin2:a7 S=rows:=by rw[hfin,Ju (Iz _)];rfl
   have gtc:=(show wr.cell? ⟨w.heap.size+1+1,0,Ih⟩=Ic (.slice (Ic ⟨w.heap.size+1,0,Ih⟩) S.nodes.length S.nodes.length) by rw[ah hW.gt];rfl);have HW:=MD hW;have HFi:=MD hfin2;clear hW hsm hfin hfin2 hn;go_wp2;go_ret;refine⟨_,rfl,?_,HW.1.b⟩;have hr:=HW.1.m.own (by rw[HW.1.len];omega) (by omega) (by omega);rw[HW.1.len]at hr;rw[HFi.1];exact hr
theorem Bx(S:bj)(vN:Io)(w:Im)(hN:Rd dK w vN S.nodes)(h200:S.nodes.length<=200)(h2:∀x∈S.nodes,x.outs.length<=2) :
  I9 If 52 #[IA (S.entry.cells++[vN]).toArray] w λe w'=>∃v,e=Iv v/\Rd (Kd.slice 151 dw) w' v (a7 S)/\It w.heap.size w w':=
 (jK S vN w hN h200 h2).mono λe w' ⟨v,h1,h3,h4⟩=>⟨v,h1,Rd.of_R h3,h4⟩
def dR(S:bj)(e:bV):Option aX:=if e.1=-1/\e.2=0 then Ic S.entry else if e.1<0\/e.2<0 then Ih else(S.nodes[e.1.toNat]?).bind λx=>x.outs[e.2.toNat]?
theorem ao{P:Jn}{a:Act}{o:Oper}{W:Im}{ty:Je}{x:Lf}{ad:Addr}{v:Io}(ho:o.op=.load ty x)(hx:a.eval x=Iq (Ic ad))(hrun:(Le ty ad).run P W=.ok v W):(JJ a.eval o).run P W=.ok (.value v) W:=by
 unfold JJ;simp only[ho,hx,Instr.loadAt,Mg,IJ,JO,I1,hrun]
theorem Fr.cell_at{S:Nat->Prop}{W W':Im}(h:Fr S W W'){p:Addr}{v:Io}(hc:W.cell? p=Ic v)(hs:¬S p.block):W'.cell? p=Ic v:=by
 have:=h.block p.block (J8 W p hc) hs;simpa[My,this]using hc
theorem aH{P:Jn}{W:Im}{ty:Je}{p:Addr}{v:Io}(ha:(isAgg ty).run P W=.ok Ik W)(hc:W.cell? p=Ic v):(Le ty p).run P W=.ok v W:=by
 simp[Le,ha,IJ,Jf,hc]
def o6(S:bj)(A:Option Addr)(c:Nat):Io:=IA (S.entry.cells++[Ia A S.nodes.length c]).toArray
structure Hx(w W:Im)(S:bj)(A:Option Addr)(c:Nat)(e:bV):Prop where
 b:It w.heap.size w W
 s:W.heap[w.heap.size]?=Ic (.cells (S.entry.cells++[Ia A S.nodes.length c]).toArray 119 (0,0))
 e:W.heap[w.heap.size+1]?=Ic (.cells #[Ib Ie e.1,Ib Ie e.2] 151 (0,0))
 o:W.heap[w.heap.size+1+1]?=Ic (.cells (aX.cells ⟨0,bE⟩).toArray 116 (0,0))
theorem Hj(w:Im)(S:bj)(A:Option Addr)(c:Nat)(e:bV):Hx w (((w.alloc (Is (S.entry.cells++[Ia A S.nodes.length c]).toArray 119)).alloc (Is #[Ib Ie e.1,Ib Ie e.2] 151)).alloc (Is (aX.cells ⟨0,bE⟩).toArray 116)) S A c e:=by
 have h:=λi o h=>eF w [Is (S.entry.cells++[Ia A S.nodes.length c]).toArray 119,Is #[Ib Ie e.1,Ib Ie e.2] 151,Is (aX.cells ⟨0,bE⟩).toArray 116] i o h;exact⟨ev w [_,_,_],h 0 _ rfl,h 1 _ rfl,h 2 _ rfl⟩
theorem mG{W:Im}{g:Nat}{S:bj}{A:Option Addr}{c:Nat}(h:W.heap[g]?=Ic (.cells (S.entry.cells++[Ia A S.nodes.length c]).toArray 119 (0,0))):(Le 116 ⟨g,0,Ih⟩).run If W=.ok (IA S.entry.cells.toArray) W:=
 cr h 116 0 S.entry.cells (by rw[List.drop_zero,List.take_left'];rfl) _ JD rfl (by rw[aX.len];exact ij)
theorem Eq(S:bj)(A:Option Addr)(c:Nat)(e:bV)(w:Im)(hC:Kd.C dK w A S.nodes.length S.nodes)(hl:S.nodes.length<=200)(o:aX)(ho:dR S e=Ic o) :
  I9 If 99 #[o6 S A c,IA #[Ib Ie e.1,Ib Ie e.2]] w λr w'=>r=Iv (IR #[IA o.cells.toArray,Iy Ir])/\It w.heap.size w w':=by
 unfold o6;have HC:=MD hC;clear hC;go_enter Tryz.func99,Tryz.ntmps99;go_upto_region 1 with fail
 obtain⟨w1,hw1⟩:∃w1,w1=(((w.alloc (Is (S.entry.cells++[Ia A S.nodes.length c]).toArray 119)).alloc (Is #[Ib Ie e.1,Ib Ie e.2] 151)).alloc (Is (aX.cells ⟨0,bE⟩).toArray 116)):=⟨_,rfl⟩;have hW:=Hj w S A c e;rw[<-hw1]at hW;refine ar hw1.symm ?_;have e0:=(show w1.cell? ⟨w.heap.size+1,0,Ih⟩=Ic (Ib Ie e.1) by rw[ah hW.e];rfl);have e1:=(show w1.cell? ⟨w.heap.size+1,1,Ih⟩=Ic (Ib Ie e.2) by rw[ah hW.e];rfl);have c25:=(show w1.cell? ⟨w.heap.size,25,Ih⟩=Ic (.slice A S.nodes.length c) by rw[aq hW.s,IW (by rw[aX.len];exact Iz _),aX.len];rfl);have HW:=MD hW;clear hw1 hW;by_cases h1:e.1=-1/\e.2=0
 .unfold dR at ho
  rw[if_pos h1]at ho;obtain rfl:=Ii ho;have q1:(e.1 == -1)=Ir:=beq_iff_eq.mpr h1.1;have q2:(e.2==0)=Ir:=beq_iff_eq.mpr h1.2;clear h1 ho;go_wp2_with (first
   |((with_reducible refine ai (N:=16) rfl ?_);refine av rfl 116 _ rfl ⟨w.heap.size,0,Ih⟩ rfl _ (mG HW.1.s) ?_)
   |((with_reducible refine ap (t:=116) (p:=4) rfl ?_);refine an rfl 116 _ _ rfl (w.heap.size+1+1) S.entry.cells.toArray rfl rfl 116 (aX.cells ⟨0,bE⟩).toArray HW.1.o (dN _) (by simp[aX.len]) (iO _) ?_;intro w6 h6 hf6;have H6:=MD h6;have F6:=MD hf6;clear h6 hf6))
  exact IG (v:=IR #[IA S.entry.cells.toArray,Iy Ir]) (aD (rs:=[.cell 4 116,.tmp 5]) rfl (by simp) (.cell (w.heap.size+1+1) 116 S.entry.cells.toArray (0,0) _ rfl H6.1 JD rfl (dN _) (.tmp .nil))) rfl ⟨rfl,Fr.below HW.1.b F6.1 (λk hk h=>by omega) HW.1.b.size⟩
 .unfold dR at ho
  rw[if_neg h1]at ho;by_cases h2:e.1<0\/e.2<0
  .rw[if_pos h2]at ho;exact absurd ho (by simp)
  .rw[if_neg h2]at ho
   obtain⟨e1v,e2v⟩:=e;simp only at ho h1 h2 e0 e1;obtain⟨n,rfl⟩:∃n:Nat,e1v=n:=⟨e1v.toNat,by omega⟩;obtain⟨k,rfl⟩:∃k:Nat,e2v=k:=⟨e2v.toNat,by omega⟩;simp only[IC]at ho;obtain⟨x,hx,hko⟩:=L7.1 ho;have hn:=(Ip.1 hx).1;have hk:=(Ip.1 hko).1;obtain⟨ad,cs,rfl,_,hK,hcs⟩:=b_ HC.1 n hn x hx;obtain⟨vO,rfl,AO,cO,rfl,hlO,hCO⟩:=gD hK;obtain⟨ad2,cs2,rfl,hK2,_⟩:=ba (P:=If) hCO (Il _ _) k hk o hko 116 JD rfl ij;have HLd:=MD (λ(W:Im) (hb:It w.heap.size w W)=>ba (P:=If) hCO hb k hk o hko 116 JD rfl ij);have hvo:w.cell? ⟨(ad.add (n*2)).block,(ad.add (n*2)).off+1,Ih⟩=Ic (.slice (Ic ad2) x.outs.length cO):=by
    rw[<-ie _ _ 1 (by omega)];exact hcs 1 _ rfl
   have v1:=ak HW.1.b hvo;have q1:((n:Int) == -1)=Ik:=beq_eq_false_iff_ne.mpr (by omega);have hn':(n:Int)<(S.nodes.length:Int):=by omega
   have hk':(k:Int)<(x.outs.length:Int):=by omega
   have g1:decide ((n:Int)<0)=Ik:=decide_eq_false (by omega);have g2:decide ((S.nodes.length:Int)<=(n:Int))=Ik:=decide_eq_false (by omega);have g2':decide (S.nodes.length<=n)=Ik:=decide_eq_false (by omega);have g3:decide ((k:Int)<0)=Ik:=decide_eq_false (by omega);have g4:decide ((x.outs.length:Int)<=(k:Int))=Ik:=decide_eq_false (by omega);have g4':decide (x.outs.length<=k)=Ik:=decide_eq_false (by omega);have HV:=MD hvo;clear h1 h2 ho hx hko hK hK2 hcs hCO hvo hn hk;go_upto_region 3 with fail
   go_quiet (fail)
   go_upto_region 5 with fail
   have HA117:=MD (show ∀W,(isAgg 117).run If W=.ok Ik W from λW=>by kernel_rfl);have HA3:=MD (show ∀W,(isAgg 3).run If W=.ok Ik W from λW=>by kernel_rfl);have HA140:=MD (show ∀W,(isAgg 140).run If W=.ok Ik W from λW=>by kernel_rfl);have C25:=MD c25;have E0:=MD e0;have E1:=MD e1;have V1:=MD v1;have HN1:=MD hn';have HK1:=MD hk';have VB:aa (¬((ad.add (n*2)).block=w.heap.size+1+1)):=⟨by have:=J8 w _ HV.1;simp only at this;omega⟩;clear c25 e0 e1 v1 hn' hk' g1 g2 g2' g3 g4 g4' q1;refine im [(48,Iq (Ic ⟨w.heap.size,25,Ih⟩)),(49,Ia (Ic ad) S.nodes.length c),(50,Iq (Ic ⟨w.heap.size+1,0,Ih⟩)),(51,Ib Ie (n:Int)),(52,Iq (Ic (ad.add (n*2)))),(53,Iq (Ic ⟨(ad.add (n*2)).block,(ad.add (n*2)).off+1,Ih⟩)),(54,Ia (Ic ad2) x.outs.length cO),(55,Iq (Ic ⟨w.heap.size+1,1,Ih⟩)),(56,Ib Ie (k:Int)),(57,Iq (Ic (ad2.add (k*25)))),(58,IA o.cells.toArray),(5,Iy Ir)]
    (λL W=>L.size=13/\Fr (λk=>k=w.heap.size+1+1) w1 W/\W.heap[w.heap.size+1+1]?=Ic (.cells (if L.getD 11 Ik=Ir then o.cells.toArray else(aX.cells ⟨0,bE⟩).toArray) 116 (0,0))) (by kernel_rfl) (by kernel_rfl) (by kernel_rfl) ?_
   intro aF haF;simp only[bk,KY,IP,IZ,IY]at haF;subst haF;refine⟨?_,⟨by simp,⟨rfl,rfl,rfl,Iz _,λ_ _ _=>rfl⟩,HW.1.o⟩,?_⟩
   .intro j o2 ho L W hc hr hst
    have keep:∀j:Nat,j≠11->(L.setIfInBounds j Ir).size=13/\Fr (λk=>k=w.heap.size+1+1) w1 W/\W.heap[w.heap.size+1+1]?=Ic (.cells (if(L.setIfInBounds j Ir).getD 11 Ik=Ir then o.cells.toArray else(aX.cells ⟨0,bE⟩).toArray) 116 (0,0)):=λj a=>by
     rw[IL Ik a];exact⟨by simpa using hst.1,hst.2.1,hst.2.2⟩
    rcases j with _|_|_|_|_|_|_|_|_|_|_|_|_|j
    .obtain rfl:=Ii ho
     exact aI rfl (by go_simp) rfl (keep 0 (by decide))
    .obtain rfl:=Ii ho
     exact aI rfl (ao rfl rfl (aH (HA117.1 W) (hst.2.1.cell_at C25.1 (by show ¬(w.heap.size=_);omega)))) rfl (keep 1 (by decide))
    .obtain rfl:=Ii ho
     exact aI rfl (by go_simp) rfl (keep 2 (by decide))
    .obtain rfl:=Ii ho
     exact aI rfl (ao rfl rfl (aH (HA3.1 W) (hst.2.1.cell_at E0.1 (by show ¬(w.heap.size+1=_);omega)))) rfl (keep 3 (by decide))
    .obtain rfl:=Ii ho
     exact aI rfl (by have z1:=HN1.1;go_simp) rfl (keep 4 (by decide))
    .obtain rfl:=Ii ho
     exact aI rfl (by go_simp) rfl (keep 5 (by decide))
    .obtain rfl:=Ii ho
     exact aI rfl (ao rfl rfl (aH (HA140.1 W) (hst.2.1.cell_at V1.1 VB.1))) rfl (keep 6 (by decide))
    .obtain rfl:=Ii ho
     exact aI rfl (by go_simp) rfl (keep 7 (by decide))
    .obtain rfl:=Ii ho
     exact aI rfl (ao rfl rfl (aH (HA3.1 W) (hst.2.1.cell_at E1.1 (by show ¬(w.heap.size+1=_);omega)))) rfl (keep 8 (by decide))
    .obtain rfl:=Ii ho
     exact aI rfl (by have z1:=HK1.1;go_simp) rfl (keep 9 (by decide))
    .obtain rfl:=Ii ho
     obtain⟨ad3,cs3,q1,q2,q3⟩:=HLd.1 W (Fr.below HW.1.b hst.2.1 (λk hk h=>by omega) HW.1.b.size);injection q1 with q1
     subst q1;obtain rfl:cs3=o.cells:=q2;exact aI rfl (ao rfl rfl q3) rfl (keep 10 (by decide))
    .obtain rfl:=Ii ho
     have ni:=f_ hr;have hg:=hst.2.2;rw[ni]at hg;refine pD rfl 116 _ _ rfl (w.heap.size+1+1) o.cells.toArray rfl rfl 116 (aX.cells ⟨0,bE⟩).toArray hg (dN _) (by simp[aX.len]) (iO _) rfl ⟨by simpa using hst.1,hst.2.1.trans (Fr.row (S:=λk=>k=w.heap.size+1+1) rfl _),?_⟩;have ht:(L.setIfInBounds 11 Ir).getD 11 Ik=Ir:=by simp[hst.1]
     rw[ht];exact JX _ (w.heap.size+1+1) _ _ 116 _ hg
    .obtain rfl:=Ii ho
     exact aI rfl (by go_simp) rfl (keep 12 (by decide))
    .exact absurd (IB.1 ho).1 (by simp)
   .intro L W hall hs
    have hst:=hs;rw[hall 11 (by simp)]at hst;have HSt:=MD hst;clear hst hs hall
    try dsimp only
    go_wp2;exact IG (v:=IR #[IA o.cells.toArray,Iy Ir]) (aD (rs:=[.cell 4 116,.tmp 5]) rfl (by simp) (.cell (w.heap.size+1+1) 116 o.cells.toArray (0,0) _ rfl HSt.1.2.2 JD rfl (dN _) (.tmp .nil))) rfl ⟨rfl,Fr.below HW.1.b HSt.1.2.1 (λk hk h=>by omega) HW.1.b.size⟩
def sP(op:Int)(s d a b n t:ByteArray):ByteArray:=
 if op=1 then((s++d)++(⟨#[32]⟩:ByteArray))++n
 else if op=2\/op=3\/op=13 then((s++d)++(⟨#[32]⟩:ByteArray))++a
 else if op=14 then((s++a)++(⟨#[32]⟩:ByteArray))++b
 else if op=15 then((((s++d)++(⟨#[32]⟩:ByteArray))++a)++(⟨#[32]⟩:ByteArray))++n
 else if op=16 then s++t
 else if op=17 then((s++a)++(⟨#[32]⟩:ByteArray))++t
 else if op=18 then s++a
 else((((s++d)++(⟨#[32]⟩:ByteArray))++a)++(⟨#[32]⟩:ByteArray))++b
def fE(x:In):ByteArray:=sP x.op (wd x.op++(⟨#[32]⟩:ByteArray)) (lT x.d) (lT x.a) (lT x.b) (nT x.n) (nT x.jt)
theorem Ad(op:Int):(wd op).size<=5:=by
 have h:∀s∈wl,s.size<=5:=by decide
 unfold wd yP;by_cases hi:(op-1).toNat<wl.length
 .rw[Ij,Ig hi]
  exact h _ (K8 _)
 .rw[Ij,I0 (by omega)]
  exact ID _
theorem cP{n:Nat}(h:n<=1000):(n<=9223372036854775807)=True/\decide (n<=9223372036854775807)=Ir/\(9223372036854775807<n)=False:=⟨eq_true (by omega),decide_eq_true (by omega),eq_false (by omega)⟩
theorem yM(x:In)(h:1<=x.op/\x.op<=18)(hd:inI x.d)(ha:inI x.a)(hb:inI x.b)(hn:inI x.n)(ht:inI x.jt)(w:Im) :
  I9 If 32 #[IA x.cells] w λe w'=>e=Iv (.string (fE x))/\It w.heap.size w w':=by
 unfold fE;obtain⟨g,hg⟩:=MF w.heap.size;obtain⟨w1,hw1⟩:∃w1,w1=w.alloc (Is x.cells 49):=⟨_,rfl⟩;have h1:w1.heap[g]?=Ic (.cells #[Ib Ie x.op,Ib Ie x.d,Ib Ie x.a,Ib Ie x.b,Ib Ie x.n,Ib Ie x.jt] 49 (0,0)):=by rw[hw1,<-hg];exact Iu w _
 have H1:=MD h1;have HB1:=MD (show It w.heap.size w w1 by rw[hw1];exact ae (Il _ _) _);have HD:=MD (qC x.d hd);have HA:=MD (qC x.a ha);have HBb:=MD (qC x.b hb);have HN:=MD (m_ x.n hn);have HT:=MD (m_ x.jt ht);have HWd:=MD (CH x.op h);have zd:=lN x.d;have za:=lN x.a;have zb:=lN x.b;have zn:=jD x.n;have zt:=jD x.jt;have zw:=Ad x.op;have hop:=h;obtain⟨op,xd,xa,xb,xn,xt⟩:=x;simp only at *;obtain⟨td,e1⟩:=ME (lT xd);obtain⟨ta,e2⟩:=ME (lT xa);obtain⟨tb,e3⟩:=ME (lT xb);obtain⟨tn,e4⟩:=ME (nT xn);obtain⟨tt,e5⟩:=ME (nT xt);obtain⟨ts,e6⟩:=ME (wd op);rw[<-e1]at HD zd ⊢;rw[<-e2]at HA za ⊢;rw[<-e3]at HBb zb ⊢;rw[<-e4]at HN zn ⊢;rw[<-e5]at HT zt ⊢;rw[<-e6]at HWd zw ⊢;have HW1:=MD hw1;have HG:=MD hg;have HZ:=MD (IE zd (IE za (IE zb (IE zn (IE zt zw)))));have HI3:=MD (show ∀W,(isAgg 3).run If W=.ok Ik W from λW=>by kernel_rfl);have HI2:=MD (show ∀W,(isAgg 2).run If W=.ok Ik W from λW=>by kernel_rfl);clear e1 e2 e3 e4 e5 e6 zd za zb zn zt zw hd ha hb hn ht h h1;have hops:op=1\/op=2\/op=3\/op=13\/op=14\/op=15\/op=16\/op=17\/op=18\/(4<=op/\op<=12):=by omega
 have HOps:=MD hops;clear hops hop;go_enter Tryz.func32,Tryz.ntmps32;go_upto_region 1 with fail
 refine ar (show _=w1 from HW1.1.symm) ?_;clear hw1 HW1;refine im [(9,Iq (Ic ⟨g,1,Ih⟩)),(10,Ib Ie xd),(11,.string td),(12,Iq (Ic ⟨g,2,Ih⟩)),(13,Ib Ie xa),(14,.string ta),(15,Iq (Ic ⟨g,3,Ih⟩)),(16,Ib Ie xb),(17,.string tb),(3,.string td),(4,.string ta),(5,.string tb)]
  (λL W=>Fr (λ_=>False) w1 W) (by kernel_rfl) (by kernel_rfl) (by kernel_rfl) ?_
 intro aF haF;simp only[bk,KY,IP,IZ,IY]at haF;subst haF;refine⟨?_,⟨rfl,rfl,rfl,Iz _,λ_ _ _=>rfl⟩,?_⟩
 .intro j o2 ho L W hc hr hst
  have hB:W.heap[g]?=_:=(hst.block _ (aj H1.1) (λh=>h)).trans H1.1;rcases j with _|_|_|_|_|_|_|_|_|_|_|_|j
  .obtain rfl:=Ii ho
   exact aI rfl (by go_simp) rfl hst
  .obtain rfl:=Ii ho
   exact aI rfl (ao rfl rfl (aH (HI3.1 W) ((ah hB 1).trans rfl))) rfl hst
  .obtain rfl:=Ii ho
   exact iR rfl Tryz.func41 (by kernel_rfl) rfl #[Ib Ie xd] rfl rfl ((HD.1 W).mono (λe w' h=>⟨_,h.1,rfl,hst.trans (Fr.of_below h.2)⟩))
  .obtain rfl:=Ii ho
   exact aI rfl (by go_simp) rfl hst
  .obtain rfl:=Ii ho
   exact aI rfl (ao rfl rfl (aH (HI3.1 W) ((ah hB 2).trans rfl))) rfl hst
  .obtain rfl:=Ii ho
   exact iR rfl Tryz.func41 (by kernel_rfl) rfl #[Ib Ie xa] rfl rfl ((HA.1 W).mono (λe w' h=>⟨_,h.1,rfl,hst.trans (Fr.of_below h.2)⟩))
  .obtain rfl:=Ii ho
   exact aI rfl (by go_simp) rfl hst
  .obtain rfl:=Ii ho
   exact aI rfl (ao rfl rfl (aH (HI3.1 W) ((ah hB 3).trans rfl))) rfl hst
  .obtain rfl:=Ii ho
   exact iR rfl Tryz.func41 (by kernel_rfl) rfl #[Ib Ie xb] rfl rfl ((HBb.1 W).mono (λe w' h=>⟨_,h.1,rfl,hst.trans (Fr.of_below h.2)⟩))
  .obtain rfl:=Ii ho
   exact aI rfl (by go_simp) rfl hst
  .obtain rfl:=Ii ho
   exact aI rfl (by go_simp) rfl hst
  .obtain rfl:=Ii ho
   exact aI rfl (by go_simp) rfl hst
  .exact absurd (IB.1 ho).1 (by simp)
 intro L w2 hall hst;have H2:=MD ((hst.block _ (aj H1.1) (λh=>h)).trans H1.1);have HB2:=MD (Fr.below (S:=λ_=>False) HB1.1 hst (λk hk h=>h) HB1.1.size);clear hst hall HD HA HBb HB1 H1;go_upto_region 2 with fail
 refine im [(18,Iq (Ic ⟨g,4,Ih⟩)),(19,Ib Ie xn),(20,.string tn),(21,Iq (Ic ⟨g,5,Ih⟩)),(22,Ib Ie xt),(23,.string tt),(6,.string tn),(7,.string tt)]
  (λL W=>Fr (λ_=>False) w2 W) (by kernel_rfl) (by kernel_rfl) (by kernel_rfl) ?_
 intro aF haF;simp only[bk,KY,IP,IZ,IY]at haF;subst haF;refine⟨?_,⟨rfl,rfl,rfl,Iz _,λ_ _ _=>rfl⟩,?_⟩
 .intro j o2 ho L W hc hr hst
  have hB:W.heap[g]?=_:=(hst.block _ (aj H2.1) (λh=>h)).trans H2.1;rcases j with _|_|_|_|_|_|_|_|j
  .obtain rfl:=Ii ho
   exact aI rfl (by go_simp) rfl hst
  .obtain rfl:=Ii ho
   exact aI rfl (ao rfl rfl (aH (HI2.1 W) ((ah hB 4).trans rfl))) rfl hst
  .obtain rfl:=Ii ho
   exact iR rfl Tryz.func42 (by kernel_rfl) rfl #[Ib Ie xn] rfl rfl ((HN.1 W).mono (λe w' h=>⟨_,h.1,rfl,hst.trans (Fr.of_below h.2)⟩))
  .obtain rfl:=Ii ho
   exact aI rfl (by go_simp) rfl hst
  .obtain rfl:=Ii ho
   exact aI rfl (ao rfl rfl (aH (HI3.1 W) ((ah hB 5).trans rfl))) rfl hst
  .obtain rfl:=Ii ho
   exact iR rfl Tryz.func42 (by kernel_rfl) rfl #[Ib Ie xt] rfl rfl ((HT.1 W).mono (λe w' h=>⟨_,h.1,rfl,hst.trans (Fr.of_below h.2)⟩))
  .obtain rfl:=Ii ho
   exact aI rfl (by go_simp) rfl hst
  .obtain rfl:=Ii ho
   exact aI rfl (by go_simp) rfl hst
  .exact absurd (IB.1 ho).1 (by simp)
 intro L w3 hall hst;have H3:=MD ((hst.block _ (aj H2.1) (λh=>h)).trans H2.1);have HB3:=MD (Fr.below (S:=λ_=>False) HB2.1 hst (λk hk h=>h) HB2.1.size);clear hst hall HN HT HB2 H2 HI2 HI3;have c0:=(show w3.cell? ⟨g,0,Ih⟩=Ic (Ib Ie op) by rw[ah H3.1];rfl);obtain⟨zd,za,zb,zn,zt,zw⟩:=HZ.1;obtain⟨f01,f02,f03⟩:=cP (n:=ts.size+1) (by omega);rcases HOps.1 with rfl|rfl|rfl|rfl|rfl|rfl|rfl|rfl|rfl|⟨h4,h12⟩
 .obtain⟨f11,f12,f13⟩:=cP (n:=ts.size+1+td.size) (by omega)
  obtain⟨f21,f22,f23⟩:=cP (n:=ts.size+1+td.size+1) (by omega);obtain⟨f31,f32,f33⟩:=cP (n:=ts.size+1+td.size+1+tn.size) (by omega);clear HZ HOps zd za zb zn zt zw;go_wp2_with (go_at_call 43;refine(HWd.1 _).mono ?_;rintro e w4 ⟨rfl,hb4⟩;have c0:=(show w4.cell? ⟨g,0,Ih⟩=Ic (Ib Ie (1)) by rw[ah (ag H3.1 hb4)];rfl);have HB4:=MD (af HB3.1 hb4);clear hb4);go_ret;exact⟨rfl,HB4.1⟩
 .obtain⟨f11,f12,f13⟩:=cP (n:=ts.size+1+td.size) (by omega)
  obtain⟨f21,f22,f23⟩:=cP (n:=ts.size+1+td.size+1) (by omega);obtain⟨f31,f32,f33⟩:=cP (n:=ts.size+1+td.size+1+ta.size) (by omega);clear HZ HOps zd za zb zn zt zw;go_wp2_with (go_at_call 43;refine(HWd.1 _).mono ?_;rintro e w4 ⟨rfl,hb4⟩;have c0:=(show w4.cell? ⟨g,0,Ih⟩=Ic (Ib Ie (2)) by rw[ah (ag H3.1 hb4)];rfl);have HB4:=MD (af HB3.1 hb4);clear hb4);go_ret;exact⟨rfl,HB4.1⟩
 .obtain⟨f11,f12,f13⟩:=cP (n:=ts.size+1+td.size) (by omega)
  obtain⟨f21,f22,f23⟩:=cP (n:=ts.size+1+td.size+1) (by omega);obtain⟨f31,f32,f33⟩:=cP (n:=ts.size+1+td.size+1+ta.size) (by omega);clear HZ HOps zd za zb zn zt zw;go_wp2_with (go_at_call 43;refine(HWd.1 _).mono ?_;rintro e w4 ⟨rfl,hb4⟩;have c0:=(show w4.cell? ⟨g,0,Ih⟩=Ic (Ib Ie (3)) by rw[ah (ag H3.1 hb4)];rfl);have HB4:=MD (af HB3.1 hb4);clear hb4);go_ret;exact⟨rfl,HB4.1⟩
 .obtain⟨f11,f12,f13⟩:=cP (n:=ts.size+1+td.size) (by omega)
  obtain⟨f21,f22,f23⟩:=cP (n:=ts.size+1+td.size+1) (by omega);obtain⟨f31,f32,f33⟩:=cP (n:=ts.size+1+td.size+1+ta.size) (by omega);clear HZ HOps zd za zb zn zt zw;go_wp2_with (go_at_call 43;refine(HWd.1 _).mono ?_;rintro e w4 ⟨rfl,hb4⟩;have c0:=(show w4.cell? ⟨g,0,Ih⟩=Ic (Ib Ie (13)) by rw[ah (ag H3.1 hb4)];rfl);have HB4:=MD (af HB3.1 hb4);clear hb4);go_ret;exact⟨rfl,HB4.1⟩
 .obtain⟨f11,f12,f13⟩:=cP (n:=ts.size+1+ta.size) (by omega)
  obtain⟨f21,f22,f23⟩:=cP (n:=ts.size+1+ta.size+1) (by omega);obtain⟨f31,f32,f33⟩:=cP (n:=ts.size+1+ta.size+1+tb.size) (by omega);clear HZ HOps zd za zb zn zt zw;go_wp2_with (go_at_call 43;refine(HWd.1 _).mono ?_;rintro e w4 ⟨rfl,hb4⟩;have c0:=(show w4.cell? ⟨g,0,Ih⟩=Ic (Ib Ie (14)) by rw[ah (ag H3.1 hb4)];rfl);have HB4:=MD (af HB3.1 hb4);clear hb4);go_ret;exact⟨rfl,HB4.1⟩
 .obtain⟨f11,f12,f13⟩:=cP (n:=ts.size+1+td.size) (by omega)
  obtain⟨f21,f22,f23⟩:=cP (n:=ts.size+1+td.size+1) (by omega);obtain⟨f31,f32,f33⟩:=cP (n:=ts.size+1+td.size+1+ta.size) (by omega);obtain⟨f41,f42,f43⟩:=cP (n:=ts.size+1+td.size+1+ta.size+1) (by omega);obtain⟨f51,f52,f53⟩:=cP (n:=ts.size+1+td.size+1+ta.size+1+tn.size) (by omega);clear HZ HOps zd za zb zn zt zw;go_wp2_with (go_at_call 43;refine(HWd.1 _).mono ?_;rintro e w4 ⟨rfl,hb4⟩;have c0:=(show w4.cell? ⟨g,0,Ih⟩=Ic (Ib Ie (15)) by rw[ah (ag H3.1 hb4)];rfl);have HB4:=MD (af HB3.1 hb4);clear hb4);go_ret;exact⟨rfl,HB4.1⟩
 .obtain⟨f11,f12,f13⟩:=cP (n:=ts.size+1+tt.size) (by omega)
  clear HZ HOps zd za zb zn zt zw;go_wp2_with (go_at_call 43;refine(HWd.1 _).mono ?_;rintro e w4 ⟨rfl,hb4⟩;have c0:=(show w4.cell? ⟨g,0,Ih⟩=Ic (Ib Ie (16)) by rw[ah (ag H3.1 hb4)];rfl);have HB4:=MD (af HB3.1 hb4);clear hb4);go_ret;exact⟨rfl,HB4.1⟩
 .obtain⟨f11,f12,f13⟩:=cP (n:=ts.size+1+ta.size) (by omega)
  obtain⟨f21,f22,f23⟩:=cP (n:=ts.size+1+ta.size+1) (by omega);obtain⟨f31,f32,f33⟩:=cP (n:=ts.size+1+ta.size+1+tt.size) (by omega);clear HZ HOps zd za zb zn zt zw;go_wp2_with (go_at_call 43;refine(HWd.1 _).mono ?_;rintro e w4 ⟨rfl,hb4⟩;have c0:=(show w4.cell? ⟨g,0,Ih⟩=Ic (Ib Ie (17)) by rw[ah (ag H3.1 hb4)];rfl);have HB4:=MD (af HB3.1 hb4);clear hb4);go_ret;exact⟨rfl,HB4.1⟩
 .obtain⟨f11,f12,f13⟩:=cP (n:=ts.size+1+ta.size) (by omega)
  clear HZ HOps zd za zb zn zt zw;go_wp2_with (go_at_call 43;refine(HWd.1 _).mono ?_;rintro e w4 ⟨rfl,hb4⟩;have c0:=(show w4.cell? ⟨g,0,Ih⟩=Ic (Ib Ie (18)) by rw[ah (ag H3.1 hb4)];rfl);have HB4:=MD (af HB3.1 hb4);clear hb4);go_ret;exact⟨rfl,HB4.1⟩
 .obtain⟨f11,f12,f13⟩:=cP (n:=ts.size+1+td.size) (by omega)
  obtain⟨f21,f22,f23⟩:=cP (n:=ts.size+1+td.size+1) (by omega);obtain⟨f31,f32,f33⟩:=cP (n:=ts.size+1+td.size+1+ta.size) (by omega);obtain⟨f41,f42,f43⟩:=cP (n:=ts.size+1+td.size+1+ta.size+1) (by omega);obtain⟨f51,f52,f53⟩:=cP (n:=ts.size+1+td.size+1+ta.size+1+tb.size) (by omega);have q1:(op==1)=Ik:=beq_eq_false_iff_ne.mpr (by omega);have q2:(op==2)=Ik:=beq_eq_false_iff_ne.mpr (by omega);have q3:(op==3)=Ik:=beq_eq_false_iff_ne.mpr (by omega);have q13:(op==13)=Ik:=beq_eq_false_iff_ne.mpr (by omega);have q14:(op==14)=Ik:=beq_eq_false_iff_ne.mpr (by omega);have q15:(op==15)=Ik:=beq_eq_false_iff_ne.mpr (by omega);have q16:(op==16)=Ik:=beq_eq_false_iff_ne.mpr (by omega);have q17:(op==17)=Ik:=beq_eq_false_iff_ne.mpr (by omega);have q18:(op==18)=Ik:=beq_eq_false_iff_ne.mpr (by omega);have HBd:=MD (show sP op (ts++(⟨#[32]⟩:ByteArray)) td ta tb tn tt=(((((ts++(⟨#[32]⟩:ByteArray))++td)++(⟨#[32]⟩:ByteArray))++ta)++(⟨#[32]⟩:ByteArray))++tb by unfold sP;rw[if_neg (by omega),if_neg (by omega),if_neg (by omega),if_neg (by omega),if_neg (by omega),if_neg (by omega),if_neg (by omega)]);have HH:=MD (IE h4 h12);clear h4 h12;clear HZ HOps zd za zb zn zt zw;go_wp2_with (go_at_call 43;refine(HWd.1 _).mono ?_;rintro e w4 ⟨rfl,hb4⟩;have c0:=(show w4.cell? ⟨g,0,Ih⟩=Ic (Ib Ie op) by rw[ah (ag H3.1 hb4)];rfl);have HB4:=MD (af HB3.1 hb4);clear hb4);go_ret;exact⟨by rw[HBd.1];rfl,HB4.1⟩
def gO(s:ByteArray):Prop:=∀b∈s.data.toList,b.toNat<128
theorem gO.asc{s:ByteArray}(h:gO s):Asc s:=by
 intro i hi;have hb:=oX s (i:Int) hi;simp only[IC]at hb;rw[<-hb];have:=h (s[i]'hi) (by
  have e:s[i]'hi=s.data[i]'hi:=rfl;rw[e];exact Array.getElem_mem_toList _)
 omega
theorem gO.app{a b:ByteArray}(ha:gO a)(hb:gO b):gO (a++b):=by
 intro c hc;rw[show(a++b).data=a.data++b.data from ByteArray.data_append,Array.toList_append]at hc;rcases J0.1 hc with hc|hc
 .exact ha c hc
 .exact hb c hc
theorem gO.lit{l:List UInt8}(h:l.all (λb=>decide (b.toNat<128))=Ir):gO ⟨l.toArray⟩:=by
 intro c hc;have:=Jd.1 h c hc;exact of_decide_eq_true this
theorem og(n:Int):gO (lastB n):=by
 intro c hc;unfold lastB at hc;rw[strOfNums_data]at hc;simp only[Jt,La,IS]at hc;subst hc;have h1:-10<KQ n 10:=by
  have:=Int.lt_tmod_of_pos n (b:=10) (by decide);omega
 have h2:KQ n 10<10:=Int.tmod_lt_of_pos n (by decide);have h3:JW (48-KQ n 10)=48-KQ n 10:=by unfold JW;omega
 rw[h3];have h4:((48-KQ n 10)%256).toNat<128:=by omega
 rw[UInt8.toNat_ofNat'];omega
theorem qW:∀(k:Nat) (n:Int),gO (fh k n)
 |0,n=>og n
 |k+1,n=>by
  rw[fh];split
  .exact og n
  .exact(qW k _).app (og n)
theorem tC(n:Int):gO (nT n):=by
 unfold nT;split
 .exact(gO.lit (l:=[45]) rfl).app (qW _ _)
 .exact qW _ _
theorem y7(n:Int):gO (lT n):=by
 unfold lT;split
 .exact(gO.lit (l:=[114]) rfl).app (tC _)
 .exact(gO.lit (l:=[115]) rfl).app (tC _)
theorem FM(op:Int):gO (wd op):=by
 have h:∀s∈wl,gO s:=by
  have h2:wl.all (λs=>s.data.toList.all (λb=>decide (b.toNat<128)))=Ir:=by decide
  intro s hs b hb;exact of_decide_eq_true (Jd.1 (Jd.1 h2 s hs) b hb)
 unfold wd yP;by_cases hi:(op-1).toNat<wl.length
 .rw[Ij,Ig hi]
  exact h _ (K8 _)
 .rw[Ij,I0 (by omega)]
  exact gO.lit (l:=[]) rfl
theorem BU(x:In):gO (fE x):=by
 have hs:gO (wd x.op++(⟨#[32]⟩:ByteArray)):=(FM _).app (gO.lit (l:=[32]) rfl);have h32:gO (⟨#[32]⟩:ByteArray):=gO.lit (l:=[32]) rfl;have hd:=y7 x.d;have ha:=y7 x.a;have hb:=y7 x.b;have hn:=tC x.n;have ht:=tC x.jt;unfold fE sP;split
 .exact((hs.app hd).app h32).app hn
 split
 .exact((hs.app hd).app h32).app ha
 split
 .exact((hs.app ha).app h32).app hb
 split
 .exact((((hs.app hd).app h32).app ha).app h32).app hn
 split
 .exact hs.app ht
 split
 .exact((hs.app ha).app h32).app ht
 split
 .exact hs.app ha
 .exact((((hs.app hd).app h32).app ha).app h32).app hb
theorem qA(x:In):(fE x).size<=100:=by
 have hs:(wd x.op++(⟨#[32]⟩:ByteArray)).size<=6:=by
  rw[I5];have:=Ad x.op;have h:(⟨#[32]⟩:ByteArray).size=1:=rfl;omega
 have h32:(⟨#[32]⟩:ByteArray).size=1:=rfl;have hd:=lN x.d;have ha:=lN x.a;have hb:=lN x.b;have hn:=jD x.n;have ht:=jD x.jt;unfold fE sP
 repeat' split
 all_goals
  simp only[I5]at hs ⊢;omega
def fR:List In->ByteArray->ByteArray
 | [],s=>s
 |x::xs,s=>fR xs ((s++fE x)++(⟨#[10]⟩:ByteArray))
theorem r9:∀(xs:List In) (s:ByteArray),gO s->gO (fR xs s)/\(fR xs s).size<=s.size+101*xs.length
 | [],s,h=>⟨h,by simp[fR]⟩
 |x::xs,s,h=>by
  have h1:gO ((s++fE x)++(⟨#[10]⟩:ByteArray)):=(h.app (BU x)).app (gO.lit (l:=[10]) rfl);have h2:=r9 xs _ h1;refine⟨h2.1,IT h2.2 ?_⟩;rw[I5,I5];have:=qA x;have h3:(⟨#[10]⟩:ByteArray).size=1:=rfl;rw[Jz];omega
structure Prt(x:In):Prop where
 op:1<=x.op/\x.op<=18
 d:inI x.d
 a:inI x.a
 b:inI x.b
 n:inI x.n
 jt:inI x.jt
def prT(f:List In):ByteArray:=fR f ⟨#[]⟩
theorem Dd(f:List In)(h:f.length<=40):Asc (prT f)/\(prT f).size<=20000:=by
 have h1:=r9 f ⟨#[]⟩ (gO.lit (l:=[]) rfl);refine⟨h1.1.asc,IT h1.2 ?_⟩;have:(⟨#[]⟩:ByteArray).size=0:=rfl;omega
theorem pV(f:List In)(A:Option Addr)(c:Nat)(w:Im)(hC:Kd.C kIn w A f.length f)(hc:f.length<=c)(hl:f.length<=40)(hp:∀x∈f,Prt x) :
  I9 If 14 #[Ia A f.length c] w λe w'=>e=Iv (.string (prT f))/\It w.heap.size w w':=by
 obtain⟨R,hR⟩:=ME (prT f);rw[<-hR];have HR:=MD hR;have HC:=MD hC;have HL:=MD hl;have HP:=MD hp;have hl2:(f.length:Int)<=40:=by omega
 clear hR hC hl hp;go_enter Tryz.func14,Tryz.ntmps14;go_wp2;go_loopw [3,4] (λv i wr=>∃(k:Nat) (s:ByteArray),v=.string s/\i=Ib Ie k/\aa (k<=f.length/\R=fR (f.drop k) s/\s.size<=101*k/\It w.heap.size w wr)) (λ_ i _=>f.length-(Jj i).toNat)
 case atStart=>exact⟨0,_,rfl,rfl,⟨ID _,HR.1,Iz _,Il _ _⟩⟩
 case round=>
  obtain⟨k,s,rfl,rfl,HK⟩:=hrel;obtain⟨hk,hr,hs,hb⟩:=HK.1;by_cases hkl:k<f.length
  .have hkl':(k:Int)<(f.length:Int):=by omega
   obtain⟨x,hx⟩:∃x,f[k]?=Ic x:=⟨_,Ig hkl⟩;have hpx:=HP.1 x (Iw hx);have HPr:=MD (yM x hpx.op hpx.d hpx.a hpx.b hpx.n hpx.jt);obtain⟨ad,cs,rfl,hK,hld⟩:=ba (P:=If) HC.1 hb k hkl x hx 49 I6 rfl bU;obtain rfl:cs=[Ib Ie x.op,Ib Ie x.d,Ib Ie x.a,Ib Ie x.b,Ib Ie x.n,Ib Ie x.jt]:=hK;have HLd:=MD (show(Le 49 (ad.add (k*6))).run If wr=.ok (IA #[Ib Ie x.op,Ib Ie x.d,Ib Ie x.a,Ib Ie x.b,Ib Ie x.n,Ib Ie x.jt]) wr from hld);have hdr:f.drop k=x::f.drop (k+1):=by
    rw[Jc hkl];rw[Ig hkl]at hx;rw[Ii hx]
   rw[hdr]at hr;have HRr:=MD hr;have hz:=qA x;obtain⟨t,ht⟩:=ME (fE x);have HTe:=MD ht;have HPr2:=MD (show ∀w,I9 If 32 #[IA #[Ib Ie x.op,Ib Ie x.d,Ib Ie x.a,Ib Ie x.b,Ib Ie x.n,Ib Ie x.jt]] w λe w'=>e=Iv (.string t)/\It w.heap.size w w' by rw[ht];exact HPr.1);rw[<-ht]at hz;obtain⟨f11,f12,f13⟩:(s.size+t.size<=9223372036854775807)=True/\decide (s.size+t.size<=9223372036854775807)=Ir/\(9223372036854775807<s.size+t.size)=False:=by have:=HL.1;exact⟨eq_true (by omega),decide_eq_true (by omega),eq_false (by omega)⟩
   obtain⟨f21,f22,f23⟩:(s.size+t.size+1<=9223372036854775807)=True/\decide (s.size+t.size+1<=9223372036854775807)=Ir/\(9223372036854775807<s.size+t.size+1)=False:=by have:=HL.1;exact⟨eq_true (by omega),decide_eq_true (by omega),eq_false (by omega)⟩
   have HB:=MD hb;have HSz:=MD (show((s++t)++(⟨#[10]⟩:ByteArray)).size<=101*(k+1) by rw[I5,I5];have h3:(⟨#[10]⟩:ByteArray).size=1:=rfl;omega);have HKl:=MD hkl;clear hx hpx HPr hld hdr hr hz ht hb hs hk hkl HK;go_wp2_with (first
    |((with_reducible refine ai (N:=15) rfl ?_);refine av rfl 49 _ rfl (ad.add (k*6)) rfl _ HLd.1 ?_)
    |(go_at_call 32;refine(HPr2.1 _).mono ?_;rintro e w4 ⟨rfl,hb4⟩;have HB4:=MD (af HB.1 hb4);clear hb4))
   go_roundw
   case rel=>exact⟨k+1,_,rfl,by go_num,⟨⟨HKl.1,by rw[HRr.1,fR,HTe.1],HSz.1,HB4.1⟩⟩⟩
   case measure=>have:=HKl.1;simp[Jj];omega
  .obtain rfl:k=f.length:=by omega
   rw[List.drop_length]at hr;have HRr:=MD hr;have HB:=MD hb;clear hr hb hs hk HK hkl;go_wp2;go_ret;exact⟨by rw[HRr.1];rfl,HB.1⟩
theorem Bm(f g:List In)(A B:Option Addr)(c d:Nat)(w:Im)(hC:Kd.C kIn w A f.length f)(hc:f.length<=c)(hl:f.length<=40)(hp:∀x∈f,Prt x)(hC2:Kd.C kIn w B g.length g)(hc2:g.length<=d)(hl2:g.length<=40)(hp2:∀x∈g,Prt x) :
  I9 If 7 #[Ia A f.length c,Ia B g.length d] w λe w'=>e=Iv (IR #[.string (prT f),.string (prT g)])/\It w.heap.size w w':=by
 have H1:=MD (pV f A c w hC hc hl hp);have H2:=MD (λW (hb:It w.heap.size w W)=>pV g B d W (Kd.C_below hC2 hb) hc2 hl2 hp2);clear hC hc hl hp hC2 hc2 hl2 hp2;go_enter Tryz.func7,Tryz.ntmps7;go_wp2_with (first
  |(go_at_call 14;(with_reducible refine H1.1.mono ?_);rintro e w1 ⟨rfl,hb1⟩;have HB1:=MD hb1;clear hb1 H1)
  |(go_at_call 14;(with_reducible refine(H2.1 w1 HB1.1).mono ?_);rintro e w2 ⟨rfl,hb2⟩;have HB2:=MD (af HB1.1 hb2);clear hb2 H2))
 refine IG (v:=IR #[.string (prT f),.string (prT g)]) (aD (rs:=[.tmp 4,.tmp 5]) rfl (by simp) (.tmp (.tmp .nil))) rfl ⟨rfl,HB2.1⟩
structure Src where
 kind:Int
 n:Int
deriving DecidableEq
def Src.cells(s:Src):Array Io:=#[Ib Ie s.kind,Ib Ie s.n]
def Sr.loc:Sr->Int
 |.was l=>l
 |_=>0
def dB(f:List In)(S:bj)(e:bV)(s:Sr):Src:=
 match s with
 |.is n=>⟨2,n⟩
 |s=>if e.1<0 then(if jG s.loc=Ir then⟨1,s.loc⟩else⟨0,0⟩)
  else if(i_ (f.getD ((S.nodes.getD e.1.toNat ⟨0,[]⟩).at_).toNat In.zero)).2=Ir/\(i_ (f.getD ((S.nodes.getD e.1.toNat ⟨0,[]⟩).at_).toNat In.zero)).1=s.loc then⟨3,0⟩else⟨4,s.loc⟩
def dq(f:List In)(S:bj)(e:bV)(l:Nat):Src:=dB f S e (((dR S e).getD ⟨0,[]⟩).t.getD l .no)
theorem D2(o:aX){l:Nat}(hl:l<24):o.cells[1+l]?=Ic (o.t.getD l .no).v:=by
 unfold aX.cells rR;rw[Nat.add_comm,Kc,IK,KW hl];rfl
theorem kG{S:bj}{e:bV}{o:aX}(h:dR S e=Ic o)(hn:¬e.1<0):∃x,S.nodes[e.1.toNat]?=Ic x:=by
 unfold dR at h;split at h
 .rename_i q;omega
 .split at h
  .exact absurd h (by simp)
  .obtain⟨x,hx,_⟩:=L7.1 h
   exact⟨x,hx⟩
structure ByW(w W:Im)(S:bj)(A:Option Addr)(c:Nat)(e:bV):Prop where
 b:It w.heap.size w W
 s:W.heap[w.heap.size]?=Ic (.cells (S.entry.cells++[Ia A S.nodes.length c]).toArray 119 (0,0))
 e:W.heap[w.heap.size+1]?=Ic (.cells #[Ib Ie e.1,Ib Ie e.2] 151 (0,0))
 o:W.heap[w.heap.size+1+1]?=Ic (.cells #[Ib Ie 0,Ib Ie 0] 135 (0,0))
theorem byW(w:Im)(S:bj)(A:Option Addr)(c:Nat)(e:bV):ByW w (((w.alloc (Is (S.entry.cells++[Ia A S.nodes.length c]).toArray 119)).alloc (Is #[Ib Ie e.1,Ib Ie e.2] 151)).alloc (Is #[Ib Ie 0,Ib Ie 0] 135)) S A c e:=by
 have h:=λi o h=>eF w [Is (S.entry.cells++[Ia A S.nodes.length c]).toArray 119,Is #[Ib Ie e.1,Ib Ie e.2] 151,Is #[Ib Ie 0,Ib Ie 0] 135] i o h;exact⟨ev w [_,_,_],h 0 _ rfl,h 1 _ rfl,h 2 _ rfl⟩
theorem ByW.below{w W W':Im}{S:bj}{A:Option Addr}{c:Nat}{e:bV}(h:ByW w W S A c e)(hb:It W.heap.size W W'):ByW w W' S A c e:=
 ⟨af h.b hb,ag h.s hb,ag h.e hb,ag h.o hb⟩
theorem aK:(If.info? 135).map (·.size)=Ic 2:=by kernel_rfl
theorem FN(f:List In)(S:bj)(A Af:Option Addr)(c cf:Nat)(e:bV)(l:Nat)(hl:l<24)(w:Im)(hC:Kd.C dK w A S.nodes.length S.nodes)(h200:S.nodes.length<=200)(hF:Kd.C kIn w Af f.length f)(hat:∀x∈S.nodes,0<=x.at_/\x.at_<f.length)(o:aX)(ho:dR S e=Ic o) :
  I9 If 82 #[Ia Af f.length cf,o6 S A c,IA #[Ib Ie e.1,Ib Ie e.2],Ib Ie (l:Int)] w λr w'=>r=Iv (IA (dq f S e l).cells)/\It w.heap.size w w':=by
 have hby:dq f S e l=dB f S e (o.t.getD l .no):=by unfold dq;rw[ho];rfl
 rw[hby];have HO:=MD (λW (hb:It w.heap.size w W)=>Eq S A c e W (Kd.C_below hC hb) h200 o ho);have HC:=MD hC;have HF:=MD hF;have HAt:=MD hat;have HEd:=MD ho;have HCl:=MD (D2 o hl);have hl':(l:Int)<24:=by omega
 obtain⟨s,hs⟩:∃s,s=o.t.getD l .no:=⟨_,rfl⟩;rw[<-hs]at HCl ⊢;unfold o6 at HO ⊢;clear hC hF hat ho hby hs;go_enter Tryz.func82,Tryz.ntmps82;go_upto_region 1 with fail
 obtain⟨w1,hw1⟩:∃w1,w1=(((w.alloc (Is (S.entry.cells++[Ia A S.nodes.length c]).toArray 119)).alloc (Is #[Ib Ie e.1,Ib Ie e.2] 151)).alloc (Is #[Ib Ie 0,Ib Ie 0] 135)):=⟨_,rfl⟩;have hW:=byW w S A c e;rw[<-hw1]at hW;refine ar hw1.symm ?_;have HW:=MD hW;clear hw1 hW;go_upto_region 2 with(first
  |((with_reducible refine ai (N:=18) rfl ?_);refine II rfl 119 _ rfl w.heap.size rfl 119 (S.entry.cells++[Ia A S.nodes.length c]).toArray (0,0) _ HW.1.s KE rfl (d_ _ _) ?_)
  |((with_reducible refine ai (N:=19) rfl ?_);refine II rfl 151 _ rfl (w.heap.size+1) rfl 151 #[Ib Ie e.1,Ib Ie e.2] (0,0) _ HW.1.e MB rfl jp ?_)
  |(go_at_call 99;refine(HO.1 _ HW.1.b).mono ?_;rintro r w2 ⟨rfl,hb⟩;have HW2:=MD (HW.1.below hb);clear hb)
  |((with_reducible refine ap (t:=116) (p:=9) rfl ?_);refine an rfl 116 _ _ rfl w2.heap.size o.cells.toArray rfl rfl 116 (aX.cells ⟨0,bE⟩).toArray (Iu w2 _) (dN o) (by simp[aX.len]) (iO o) ?_;intro w3 h3 hf3;have HW3:=MD (HW2.1.below (cw hf3));have c1:=(show w3.cell? ⟨w2.heap.size,1+l,Ih⟩=Ic s.v by rw[aq h3];exact HCl.1);have l3:=aj h3;clear h3 hf3))
 have e0:=(show w3.cell? ⟨w.heap.size+1,0,Ih⟩=Ic (Ib Ie e.1) by rw[ah HW3.1.e];rfl);clear HO HCl;cases s with
 |is n=>
  simp only[Sr.v]at c1;have c2:=(show w3.cell? ⟨w2.heap.size,l+1,Ih⟩=Ic (.iface 202 (IA #[Ib Ie n])) by rw[Nat.add_comm];exact c1);have t1:=FA (IA #[Ib Ie n]) w3;go_wp2_with (first
   |((with_reducible refine ap (t:=135) (p:=8) rfl ?_);refine an rfl 135 _ _ rfl (w.heap.size+1+1) #[Ib Ie 2,Ib Ie n] rfl rfl 135 #[Ib Ie 0,Ib Ie 0] (aT HW3.1.o _) aK rfl (by simp[IH]) ?_;intro w8 h8 hf8;have H8:=MD h8;have F8:=MD hf8;clear h8 hf8))
  exact IG (v:=IA #[Ib Ie 2,Ib Ie n]) (IX rfl _ _ (w.heap.size+1+1) 135 #[Ib Ie 2,Ib Ie n] (0,0) _ rfl H8.1 IN rfl aK) rfl ⟨rfl,Fr.below (ae HW3.1.b (Is #[Ib Ie n] 202)) F8.1 (λk hk h=>by omega) ((ae HW3.1.b (Is #[Ib Ie n] 202))).size⟩
 |was loc=>
  simp only[Sr.v]at c1;have c2:=(show w3.cell? ⟨w2.heap.size,l+1,Ih⟩=Ic (.iface 199 (IA #[Ib Ie loc])) by rw[Nat.add_comm];exact c1);have t1:=rS (IA #[Ib Ie loc]) w3;have t2:=λW=>CO (IA #[Ib Ie loc]) W;go_upto_region 6 with fail
  obtain⟨w5,hw5⟩:∃x,x=(w3.alloc (Is #[Ib Ie 0] 202)).alloc (Is #[Ib Ie loc] 199):=⟨_,rfl⟩;have hW5:ByW w w5 S A c e:=by rw[hw5];exact HW3.1.below (ae (ae (Il _ _) _) _)
  have hl5:w5.cell? ⟨w3.heap.size+1,0,Ih⟩=Ic (Ib Ie loc):=by
   have h:=L9 w3 (Is #[Ib Ie 0] 202) (Is #[Ib Ie loc] 199);rw[hw5,ah h];rfl
  refine ar hw5.symm ?_;have e5:=(show w5.cell? ⟨w.heap.size+1,0,Ih⟩=Ic (Ib Ie e.1) by rw[ah hW5.e];rfl);have c25:=(show w5.cell? ⟨w.heap.size,25,Ih⟩=Ic (.slice A S.nodes.length c) by rw[aq hW5.s,IW (by rw[aX.len];exact Iz _),aX.len];rfl);have HW5:=MD hW5;have L5:=MD hl5;clear t1 t2 c1 c2 e0 hw5 hW5;by_cases hneg:e.1<0
  .cases hreg:jG loc with
   |true=>
    have HRes:aa (Iv (IA #[Ib Ie 1,Ib Ie loc])=Iv (IA (dB f S e (Sr.was loc)).cells)):=⟨by simp[dB,Sr.loc,hneg,hreg,Src.cells]⟩;have HC98:=MD (nj loc);rw[hreg]at HC98;clear hreg;go_wp2_with (first
     |(go_at_call 98;refine(HC98.1 _).mono ?_;rintro r w6 ⟨rfl,hd⟩;have HW6:=MD (HW5.1.below (bW hd));have l6:=ak (bW hd) L5.1;clear hd)
     |((with_reducible refine ap (t:=135) (p:=8) rfl ?_);refine an rfl 135 _ _ rfl (w.heap.size+1+1) #[Ib Ie 1,Ib Ie loc] rfl rfl 135 #[Ib Ie 0,Ib Ie 0] (HW6.1.o) aK rfl (by simp[IH]) ?_;intro w8 h8 hf8;have H8:=MD h8;have F8:=MD hf8;clear h8 hf8))
    exact IG (v:=IA #[Ib Ie 1,Ib Ie loc]) (IX rfl _ _ (w.heap.size+1+1) 135 #[Ib Ie 1,Ib Ie loc] (0,0) _ rfl H8.1 IN rfl aK) rfl ⟨HRes.1,Fr.below HW6.1.b F8.1 (λk hk h=>by omega) (HW6.1.b).size⟩
   |false=>
    have HRes:aa (Iv (IA #[Ib Ie 0,Ib Ie 0])=Iv (IA (dB f S e (Sr.was loc)).cells)):=⟨by simp[dB,Sr.loc,hneg,hreg,Src.cells]⟩;have HC98:=MD (nj loc);rw[hreg]at HC98;clear hreg;go_wp2_with (first
     |(go_at_call 98;refine(HC98.1 _).mono ?_;rintro r w6 ⟨rfl,hd⟩;have HW6:=MD (HW5.1.below (bW hd));have l6:=ak (bW hd) L5.1;clear hd)
     |((with_reducible refine ap (t:=135) (p:=8) rfl ?_);refine an rfl 135 _ _ rfl (w.heap.size+1+1) #[Ib Ie 0,Ib Ie 0] rfl rfl 135 #[Ib Ie 0,Ib Ie 0] (HW6.1.o) aK rfl (by simp[IH]) ?_;intro w8 h8 hf8;have H8:=MD h8;have F8:=MD hf8;clear h8 hf8))
    exact IG (v:=IA #[Ib Ie 0,Ib Ie 0]) (IX rfl _ _ (w.heap.size+1+1) 135 #[Ib Ie 0,Ib Ie 0] (0,0) _ rfl H8.1 IN rfl aK) rfl ⟨HRes.1,Fr.below HW6.1.b F8.1 (λk hk h=>by omega) (HW6.1.b).size⟩
  .obtain⟨x,hx⟩:=kG HEd.1 hneg
   obtain⟨n,hn⟩:∃n:Nat,e.1=n:=⟨e.1.toNat,by omega⟩;rw[hn,IC]at hx;have hxa:=HAt.1 x (Iw hx);obtain⟨p,hp⟩:∃p:Nat,x.at_=p:=⟨x.at_.toNat,by omega⟩;have hnl:=(Ip.1 hx).1;obtain⟨ad,cs,rfl,_,hK,hcs⟩:=b_ HC.1 n hnl x hx;obtain⟨vO,rfl,_⟩:=gD hK;have v0:=ak HW5.1.b (hcs 0 _ rfl);rw[Nat.add_zero,hp]at v0;have v0':w5.cell? (ad.add (n*2))=Ic (Ib Ie (p:Int)):=v0;obtain⟨y,hy⟩:∃y,f[p]?=Ic y:=⟨_,Ig (by omega)⟩;obtain⟨ad2,rfl,d0,d1,d2,d3,d4,d5⟩:=nK (Kd.C_below HF.1 HW5.1.b) p (by omega) y hy;have hpf:(p:Int)<(f.length:Int):=by omega
   have hn':(n:Int)<(S.nodes.length:Int):=by omega
   rw[hn]at e5;have hne:¬(n:Int)<0:=by omega
   obtain⟨d,okv,hset⟩:∃d okv,i_ y=(d,okv):=⟨_,_,rfl⟩;have hS:=vm y;rw[hset]at hS;have HS100:=MD hS;have hsrc:dB f S e (Sr.was loc)=if okv=Ir/\d=loc then⟨3,0⟩else⟨4,loc⟩:=by
    have h1:(i_ (f.getD ((S.nodes.getD e.1.toNat ⟨0,[]⟩).at_).toNat In.zero))=(d,okv):=by
     have q1:S.nodes.getD n ⟨0,[]⟩=x:=by simp[Ij,hx]
     have q2:f.getD p In.zero=y:=by simp[Ij,hy]
     rw[hn,IC,q1,hp,IC,q2];exact hset
    unfold dB;simp only[h1,if_neg hneg,Sr.loc]
   have HSrc:=MD hsrc;clear hS hset hsrc hy hxa hK hcs hx hnl v0 hn;by_cases hboth:okv=Ir/\d=loc
   .obtain⟨rfl,hd⟩:=hboth
    have HRes:aa (Iv (IA #[Ib Ie 3,Ib Ie 0])=Iv (IA (dB f S e (Sr.was loc)).cells)):=⟨by rw[HSrc.1,if_pos ⟨rfl,hd⟩];rfl⟩;have qd:(d==loc)=Ir:=beq_iff_eq.mpr hd;clear hd;go_wp2_with (first
     |(go_at_call 100;refine(HS100.1 _).mono ?_;rintro r w6 ⟨rfl,hb⟩;have HW6:=MD (HW5.1.below hb);have l6:=ak hb L5.1;clear hb)
     |((with_reducible refine ap (t:=135) (p:=8) rfl ?_);refine an rfl 135 _ _ rfl (w.heap.size+1+1) #[Ib Ie 3,Ib Ie 0] rfl rfl 135 #[Ib Ie 0,Ib Ie 0] (HW6.1.o) aK rfl (by simp[IH]) ?_;intro w8 h8 hf8;have H8:=MD h8;have F8:=MD hf8;clear h8 hf8))
    exact IG (v:=IA #[Ib Ie 3,Ib Ie 0]) (IX rfl _ _ (w.heap.size+1+1) 135 #[Ib Ie 3,Ib Ie 0] (0,0) _ rfl H8.1 IN rfl aK) rfl ⟨HRes.1,Fr.below HW6.1.b F8.1 (λk hk h=>by omega) (HW6.1.b).size⟩
   .have HRes:aa (Iv (IA #[Ib Ie 4,Ib Ie loc])=Iv (IA (dB f S e (Sr.was loc)).cells)):=⟨by rw[HSrc.1,if_neg hboth];rfl⟩
    cases okv with
    |false=>
     clear hboth;go_wp2_with (first
      |(go_at_call 100;refine(HS100.1 _).mono ?_;rintro r w6 ⟨rfl,hb⟩;have HW6:=MD (HW5.1.below hb);have l6:=ak hb L5.1;clear hb)
      |((with_reducible refine ap (t:=135) (p:=8) rfl ?_);refine an rfl 135 _ _ rfl (w.heap.size+1+1) #[Ib Ie 4,Ib Ie loc] rfl rfl 135 #[Ib Ie 0,Ib Ie 0] (HW6.1.o) aK rfl (by simp[IH]) ?_;intro w8 h8 hf8;have H8:=MD h8;have F8:=MD hf8;clear h8 hf8))
     exact IG (v:=IA #[Ib Ie 4,Ib Ie loc]) (IX rfl _ _ (w.heap.size+1+1) 135 #[Ib Ie 4,Ib Ie loc] (0,0) _ rfl H8.1 IN rfl aK) rfl ⟨HRes.1,Fr.below HW6.1.b F8.1 (λk hk h=>by omega) (HW6.1.b).size⟩
     |true=>
     have qd:(d==loc)=Ik:=beq_eq_false_iff_ne.mpr (λh=>hboth ⟨rfl,h⟩);clear hboth;go_wp2_with (first
      |(go_at_call 100;refine(HS100.1 _).mono ?_;rintro r w6 ⟨rfl,hb⟩;have HW6:=MD (HW5.1.below hb);have l6:=ak hb L5.1;clear hb)
      |((with_reducible refine ap (t:=135) (p:=8) rfl ?_);refine an rfl 135 _ _ rfl (w.heap.size+1+1) #[Ib Ie 4,Ib Ie loc] rfl rfl 135 #[Ib Ie 0,Ib Ie 0] (HW6.1.o) aK rfl (by simp[IH]) ?_;intro w8 h8 hf8;have H8:=MD h8;have F8:=MD hf8;clear h8 hf8))
     exact IG (v:=IA #[Ib Ie 4,Ib Ie loc]) (IX rfl _ _ (w.heap.size+1+1) 135 #[Ib Ie 4,Ib Ie loc] (0,0) _ rfl H8.1 IN rfl aK) rfl ⟨HRes.1,Fr.below HW6.1.b F8.1 (λk hk h=>by omega) (HW6.1.b).size⟩
 |no=>
  simp only[Sr.v]at c1;have c2:=(show w3.cell? ⟨w2.heap.size,l+1,Ih⟩=Ic .nilIface by rw[Nat.add_comm];exact c1);have t1:=uc w3;have t2:=λW=>rT W;go_upto_region 6 with fail
  obtain⟨w5,hw5⟩:∃x,x=(w3.alloc (Is #[Ib Ie 0] 202)).alloc (Is #[Ib Ie 0] 199):=⟨_,rfl⟩;have hW5:ByW w w5 S A c e:=by rw[hw5];exact HW3.1.below (ae (ae (Il _ _) _) _)
  have hl5:w5.cell? ⟨w3.heap.size+1,0,Ih⟩=Ic (Ib Ie 0):=by
   have h:=L9 w3 (Is #[Ib Ie 0] 202) (Is #[Ib Ie 0] 199);rw[hw5,ah h];rfl
  refine ar hw5.symm ?_;have e5:=(show w5.cell? ⟨w.heap.size+1,0,Ih⟩=Ic (Ib Ie e.1) by rw[ah hW5.e];rfl);have c25:=(show w5.cell? ⟨w.heap.size,25,Ih⟩=Ic (.slice A S.nodes.length c) by rw[aq hW5.s,IW (by rw[aX.len];exact Iz _),aX.len];rfl);have HW5:=MD hW5;have L5:=MD hl5;clear t1 t2 c1 c2 e0 hw5 hW5;by_cases hneg:e.1<0
  .cases hreg:jG 0 with
   |true=>
    have HRes:aa (Iv (IA #[Ib Ie 1,Ib Ie 0])=Iv (IA (dB f S e Sr.no).cells)):=⟨by simp[dB,Sr.loc,hneg,hreg,Src.cells]⟩;have HC98:=MD (nj 0);rw[hreg]at HC98;clear hreg;go_wp2_with (first
     |(go_at_call 98;refine(HC98.1 _).mono ?_;rintro r w6 ⟨rfl,hd⟩;have HW6:=MD (HW5.1.below (bW hd));have l6:=ak (bW hd) L5.1;clear hd)
     |((with_reducible refine ap (t:=135) (p:=8) rfl ?_);refine an rfl 135 _ _ rfl (w.heap.size+1+1) #[Ib Ie 1,Ib Ie 0] rfl rfl 135 #[Ib Ie 0,Ib Ie 0] (HW6.1.o) aK rfl (by simp[IH]) ?_;intro w8 h8 hf8;have H8:=MD h8;have F8:=MD hf8;clear h8 hf8))
    exact IG (v:=IA #[Ib Ie 1,Ib Ie 0]) (IX rfl _ _ (w.heap.size+1+1) 135 #[Ib Ie 1,Ib Ie 0] (0,0) _ rfl H8.1 IN rfl aK) rfl ⟨HRes.1,Fr.below HW6.1.b F8.1 (λk hk h=>by omega) (HW6.1.b).size⟩
   |false=>
    have HRes:aa (Iv (IA #[Ib Ie 0,Ib Ie 0])=Iv (IA (dB f S e Sr.no).cells)):=⟨by simp[dB,Sr.loc,hneg,hreg,Src.cells]⟩;have HC98:=MD (nj 0);rw[hreg]at HC98;clear hreg;go_wp2_with (first
     |(go_at_call 98;refine(HC98.1 _).mono ?_;rintro r w6 ⟨rfl,hd⟩;have HW6:=MD (HW5.1.below (bW hd));have l6:=ak (bW hd) L5.1;clear hd)
     |((with_reducible refine ap (t:=135) (p:=8) rfl ?_);refine an rfl 135 _ _ rfl (w.heap.size+1+1) #[Ib Ie 0,Ib Ie 0] rfl rfl 135 #[Ib Ie 0,Ib Ie 0] (HW6.1.o) aK rfl (by simp[IH]) ?_;intro w8 h8 hf8;have H8:=MD h8;have F8:=MD hf8;clear h8 hf8))
    exact IG (v:=IA #[Ib Ie 0,Ib Ie 0]) (IX rfl _ _ (w.heap.size+1+1) 135 #[Ib Ie 0,Ib Ie 0] (0,0) _ rfl H8.1 IN rfl aK) rfl ⟨HRes.1,Fr.below HW6.1.b F8.1 (λk hk h=>by omega) (HW6.1.b).size⟩
  .obtain⟨x,hx⟩:=kG HEd.1 hneg
   obtain⟨n,hn⟩:∃n:Nat,e.1=n:=⟨e.1.toNat,by omega⟩;rw[hn,IC]at hx;have hxa:=HAt.1 x (Iw hx);obtain⟨p,hp⟩:∃p:Nat,x.at_=p:=⟨x.at_.toNat,by omega⟩;have hnl:=(Ip.1 hx).1;obtain⟨ad,cs,rfl,_,hK,hcs⟩:=b_ HC.1 n hnl x hx;obtain⟨vO,rfl,_⟩:=gD hK;have v0:=ak HW5.1.b (hcs 0 _ rfl);rw[Nat.add_zero,hp]at v0;have v0':w5.cell? (ad.add (n*2))=Ic (Ib Ie (p:Int)):=v0;obtain⟨y,hy⟩:∃y,f[p]?=Ic y:=⟨_,Ig (by omega)⟩;obtain⟨ad2,rfl,d0,d1,d2,d3,d4,d5⟩:=nK (Kd.C_below HF.1 HW5.1.b) p (by omega) y hy;have hpf:(p:Int)<(f.length:Int):=by omega
   have hn':(n:Int)<(S.nodes.length:Int):=by omega
   rw[hn]at e5;have hne:¬(n:Int)<0:=by omega
   obtain⟨d,okv,hset⟩:∃d okv,i_ y=(d,okv):=⟨_,_,rfl⟩;have hS:=vm y;rw[hset]at hS;have HS100:=MD hS;have hsrc:dB f S e Sr.no=if okv=Ir/\d=0 then⟨3,0⟩else⟨4,0⟩:=by
    have h1:(i_ (f.getD ((S.nodes.getD e.1.toNat ⟨0,[]⟩).at_).toNat In.zero))=(d,okv):=by
     have q1:S.nodes.getD n ⟨0,[]⟩=x:=by simp[Ij,hx]
     have q2:f.getD p In.zero=y:=by simp[Ij,hy]
     rw[hn,IC,q1,hp,IC,q2];exact hset
    unfold dB;simp only[h1,if_neg hneg,Sr.loc]
   have HSrc:=MD hsrc;clear hS hset hsrc hy hxa hK hcs hx hnl v0 hn;by_cases hboth:okv=Ir/\d=0
   .obtain⟨rfl,hd⟩:=hboth
    have HRes:aa (Iv (IA #[Ib Ie 3,Ib Ie 0])=Iv (IA (dB f S e Sr.no).cells)):=⟨by rw[HSrc.1,if_pos ⟨rfl,hd⟩];rfl⟩;have qd:(d==0)=Ir:=beq_iff_eq.mpr hd;clear hd;go_wp2_with (first
     |(go_at_call 100;refine(HS100.1 _).mono ?_;rintro r w6 ⟨rfl,hb⟩;have HW6:=MD (HW5.1.below hb);have l6:=ak hb L5.1;clear hb)
     |((with_reducible refine ap (t:=135) (p:=8) rfl ?_);refine an rfl 135 _ _ rfl (w.heap.size+1+1) #[Ib Ie 3,Ib Ie 0] rfl rfl 135 #[Ib Ie 0,Ib Ie 0] (HW6.1.o) aK rfl (by simp[IH]) ?_;intro w8 h8 hf8;have H8:=MD h8;have F8:=MD hf8;clear h8 hf8))
    exact IG (v:=IA #[Ib Ie 3,Ib Ie 0]) (IX rfl _ _ (w.heap.size+1+1) 135 #[Ib Ie 3,Ib Ie 0] (0,0) _ rfl H8.1 IN rfl aK) rfl ⟨HRes.1,Fr.below HW6.1.b F8.1 (λk hk h=>by omega) (HW6.1.b).size⟩
   .have HRes:aa (Iv (IA #[Ib Ie 4,Ib Ie 0])=Iv (IA (dB f S e Sr.no).cells)):=⟨by rw[HSrc.1,if_neg hboth];rfl⟩
    cases okv with
    |false=>
     clear hboth;go_wp2_with (first
      |(go_at_call 100;refine(HS100.1 _).mono ?_;rintro r w6 ⟨rfl,hb⟩;have HW6:=MD (HW5.1.below hb);have l6:=ak hb L5.1;clear hb)
      |((with_reducible refine ap (t:=135) (p:=8) rfl ?_);refine an rfl 135 _ _ rfl (w.heap.size+1+1) #[Ib Ie 4,Ib Ie 0] rfl rfl 135 #[Ib Ie 0,Ib Ie 0] (HW6.1.o) aK rfl (by simp[IH]) ?_;intro w8 h8 hf8;have H8:=MD h8;have F8:=MD hf8;clear h8 hf8))
     exact IG (v:=IA #[Ib Ie 4,Ib Ie 0]) (IX rfl _ _ (w.heap.size+1+1) 135 #[Ib Ie 4,Ib Ie 0] (0,0) _ rfl H8.1 IN rfl aK) rfl ⟨HRes.1,Fr.below HW6.1.b F8.1 (λk hk h=>by omega) (HW6.1.b).size⟩
     |true=>
     have qd:(d==0)=Ik:=beq_eq_false_iff_ne.mpr (λh=>hboth ⟨rfl,h⟩);clear hboth;go_wp2_with (first
      |(go_at_call 100;refine(HS100.1 _).mono ?_;rintro r w6 ⟨rfl,hb⟩;have HW6:=MD (HW5.1.below hb);have l6:=ak hb L5.1;clear hb)
      |((with_reducible refine ap (t:=135) (p:=8) rfl ?_);refine an rfl 135 _ _ rfl (w.heap.size+1+1) #[Ib Ie 4,Ib Ie 0] rfl rfl 135 #[Ib Ie 0,Ib Ie 0] (HW6.1.o) aK rfl (by simp[IH]) ?_;intro w8 h8 hf8;have H8:=MD h8;have F8:=MD hf8;clear h8 hf8))
     exact IG (v:=IA #[Ib Ie 4,Ib Ie 0]) (IX rfl _ _ (w.heap.size+1+1) 135 #[Ib Ie 4,Ib Ie 0] (0,0) _ rfl H8.1 IN rfl aK) rfl ⟨HRes.1,Fr.below HW6.1.b F8.1 (λk hk h=>by omega) (HW6.1.b).size⟩
end Go.Proofs.YtlinbehijfcelaaGreatDoor.Top
