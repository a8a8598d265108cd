/- Walks of the program, and what it computes, told plainly. No condition. (TN TO RA RB TP TQ TR TS TSB) -/
import Derived.Below
import Derived.Deep.Draws
import Derived.Deep.AppendLies
import Derived.Maps.AppendAt
import Derived.OwnWalk
import Derived.Laws.BytesArg
import Derived.Laws.MakeOwn
import Derived.Laws.OwnMore
import Derived.Deep.OwnRows
import Derived.Tactics
import Derived.Lib.ConvBytes
import Derived.Laws.Slices
import Derived.WalkKit
import Derived.KernelRfl
import Derived.RowKit3
import Derived.Deep.LoopGhost
import Derived.Deep.QuietTactic
import Derived.BigQuiet
import Derived.WideLaws
import Derived.Deep.DeepCutAuto
import Derived.Deep.CutBlock
import Derived.Deep.RegionHeld3
import Derived.Laws.Rows
import Derived.Lib.AppendStr
import Derived.ArgAppend
import Derived.Laws.IdiomCopy
import Derived.RowKit
import Derived.OrdersHeld
import Derived.Laws.BitsLemmas
import Derived.Laws.StructEq
import Derived.Test.YtlinbehijfcelaaGreatDoorProg
import Derived.Deep.WholeRow
import Derived.Laws.CopyOwn
import Derived.Carry
import Derived.ChangeKeysEq
import Derived.Laws.RangeAny
import Derived.Deep.MidRow
import Derived.Laws.Tables
import Derived.Test.YtlinbehijfcelaaGreatDoorPA
import Derived.Test.YtlinbehijfcelaaGreatDoorPB
import Derived.Test.YtlinbehijfcelaaGreatDoorPC
set_option linter.unusedVariables false
set_option linter.unusedSimpArgs false
set_option linter.unusedSectionVars false
set_option maxHeartbeats 8000000
set_option maxRecDepth 100000
open Go.Value renaming agg->IA,bool->Iy,cells->Mz,int->Ib,pointer->Iq,slice->Ia,tuple->IR
open Go.IntKind renaming i64->Ie
open Go.Proofs.Tryz renaming prog->If,underlying109->Ms,underlying22->Me,underlying49->I6,underlying99->IU
open Option renaming getD_some->JL,none->Ih,some->Ic
open Go renaming Calls->I9,IntKind->LP,Operand->Lf,Program->Jn,TypeId->Je,Value->Io,World->Im,below_setRow->Jl,bodyPost_ret->IG,execOp->JJ,getD_set_ne->IL,heap_alloc_last->Iu,loadVar->Le,setRow_heap->JX,undef->KG,wpList->Kg,wpList_load_row->II,wpList_store_row->I3
open Bool renaming false->Ik,or_eq_true->Mb,true->Ir
open Go.Obj renaming cells->Is
open Go.RowKit.Below renaming heap_setCell->Ld,refl->Il
open List renaming append_assoc->Kv,drop_append_of_le_length->MA,drop_of_length_le->Ju,foldl_cons->Ml,getD_eq_getElem?_getD->Ij,getElem?_append_left->Jg,getElem?_append_right->IW,getElem?_cons_succ->Kc,getElem?_drop->J9,getElem?_eq_getElem->Ig,getElem?_eq_none->I0,getElem?_eq_some_iff->Ip,getElem?_map->IK,getElem?_take_of_lt->MC,getElem?_toArray->KV,getElem_mem->K8,length_cons->Jz,length_map->Jb,length_replicate->JP,length_set->Jq,map_cons->Jt,map_nil->La,map_toArray->Mt,mem_cons->I7,mem_map->JM,mem_of_getElem?->Iw,mem_singleton->IS,not_mem_nil->JE,replicate->IF,setIfInBounds_toArray->IP,set_cons_succ->IZ,set_cons_zero->IY,size_toArray->I8,take_append_of_le_length->Kx
open Go.Ending renaming returned->Iv
open Go.RowKit renaming Below->It,wrap64->JW
open Go.Act renaming put->KY
open Option.some renaming inj->Ii
open Go.Addr renaming add->Mo
open Array renaming getElem?_eq_none->LB,getElem?_eq_some_iff->IB,getElem?_setIfInBounds_ne->Kf
open Prod.mk renaming injEq->IM
open Nat renaming le_refl->Iz,ne_of_gt->LS,zero_le->ID
open Int renaming le_refl->J7,tdiv->Lm,tmod->KQ
open ByteArray renaming empty->Ji,size_append->I5
open Go.Instr renaming fill->Ll,sureAddr->Mg
open Go.Sem renaming run_bind->IJ
open Go.Result renaming andThen->Jf
open Go.World renaming cell?->My
namespace Go.Proofs.YtlinbehijfcelaaGreatDoor.Top
open Go.RowKit Go.Proofs.YtlinbehijfcelaaGreatDoorW.PrintWords Go.Proofs.YtlinbehijfcelaaGreatDoorW.PrintLast
section
theorem FF:(If.info? 3).map (λi=>(i.zero,i.size,i.bytes))=Ic (Ic (Ib Ie 0),1,8):=by kernel_rfl
theorem tG:(If.info? 49).map (λi=>(i.zero,i.size,i.bytes))=Ic (Ic (.agg #[Ib Ie 0,Ib Ie 0,Ib Ie 0,Ib Ie 0,Ib Ie 0,Ib Ie 0]),6,48):=by kernel_rfl
def Hb(g3 g4:Nat)(vf vb:Io)(k:Nat):Prop:=k=g3\/k=g4\/Ic k=vf.ownBlock\/Ic k=vb.ownBlock
structure kN(W0:Im)(base g3 g4:Nat)(ok:Nat->Prop)(vf vb:Io)(f:List In)(bs:List Int)(x:In)(fr:Int)(l2 l3 l6 l7 l8 l9:Bool)(s:Io×Io×Io×Io)(W:Im):Prop where
 fr0:Fr (Hb g3 g4 vf vb) W0 W
 c3:W.heap[g3]?=Ic (.cells #[if l8=Ir then s.2.1 else vf] 22 (0,0))
 c4:W.heap[g4]?=Ic (.cells #[if l9=Ir then s.2.2.2 else vb] 109 (0,0))
 b1:l2=Ir->∃k,s.1=Ia (Ic ⟨k,0,Ih⟩) 1 1/\W0.heap.size<=k/\W.heap[k]?=Ic (.cells x.cells 49 (0,0))
 b2:l6=Ir->∃k,s.2.2.1=Ia (Ic ⟨k,0,Ih⟩) 1 1/\W0.heap.size<=k/\W.heap[k]?=Ic (.cells #[Ib Ie fr] 3 (0,0))
 rf:Kd.R kIn 49 W base ok (if l3=Ir then s.2.1 else vf) (if l3=Ir then f++[x]else f)
 rb:Kd.R (Kd.int .i64) 3 W base ok (if l7=Ir then s.2.2.2 else vb) (if l7=Ir then bs++[fr]else bs)
section
variable{W0 W W':Im}{base g3 g4:Nat}{ok:Nat->Prop}{vf vb v:Io}{f:List In}{bs:List Int}{x:In}{fr:Int}{l2 l3 l6 l7 l8 l9:Bool}{s:Io×Io×Io×Io}
theorem kN.box1(h:kN W0 base g3 g4 ok vf vb f bs x fr l2 l3 l6 l7 l8 l9 s W):kN W0 base g3 g4 ok vf vb f bs x fr Ir l3 l6 l7 l8 l9 (Ia (Ic ⟨W.heap.size,0,Ih⟩) 1 1,s.2.1,s.2.2.1,s.2.2.2) (W.alloc (Is x.cells 49)):=by
 obtain⟨h0,h3,h4,hb1,hb2,hf,hb⟩:=h;have hbl:=ae (Il W.heap.size W) (Is x.cells 49 (0,0));refine⟨h0.trans (Fr.of_below hbl),(hbl.block _ (aj h3)).trans h3,(hbl.block _ (aj h4)).trans h4,λ_=>⟨_,rfl,h0.size,Iu W _⟩,λe=>?_,Kd.R_below hf hbl,Kd.R_below hb hbl⟩;obtain⟨k,e1,e2,e3⟩:=hb2 e;exact⟨k,e1,e2,(hbl.block _ (aj e3)).trans e3⟩
theorem kN.box2(h:kN W0 base g3 g4 ok vf vb f bs x fr l2 l3 l6 l7 l8 l9 s W):kN W0 base g3 g4 ok vf vb f bs x fr l2 l3 Ir l7 l8 l9 (s.1,s.2.1,Ia (Ic ⟨W.heap.size,0,Ih⟩) 1 1,s.2.2.2) (W.alloc (Is #[Ib Ie fr] 3)):=by
 obtain⟨h0,h3,h4,hb1,hb2,hf,hb⟩:=h;have hbl:=ae (Il W.heap.size W) (Is #[Ib Ie fr] 3 (0,0));refine⟨h0.trans (Fr.of_below hbl),(hbl.block _ (aj h3)).trans h3,(hbl.block _ (aj h4)).trans h4,λe=>?_,λ_=>⟨_,rfl,h0.size,Iu W _⟩,Kd.R_below hf hbl,Kd.R_below hb hbl⟩;obtain⟨k,e1,e2,e3⟩:=hb1 e;exact⟨k,e1,e2,(hbl.block _ (aj e3)).trans e3⟩
theorem kN.app1(h:kN W0 base g3 g4 ok vf vb f bs x fr l2 Ik l6 l7 Ik l9 s W)(ho3:∀k,ok k->k≠g3/\k≠g4)(rf0:Kd.R kIn 49 W0 base ok vf f)
  (hR:Kd.R kIn 49 W' base ok v (f++[x])) (hg:W.grownBy W' vf.ownBlock):kN W0 base g3 g4 ok vf vb f bs x fr l2 Ir l6 l7 Ik l9 (s.1,v,s.2.2.1,s.2.2.2) W':=by
 obtain⟨h0,h3,h4,hb1,hb2,hf,hb⟩:=h;have hlt:=Kd.R_lt rf0;have hne:∀k,W0.heap.size<=k->Ic k≠vf.ownBlock:=λk hk e=>by have:=hlt k e.symm;omega
 have n3:Ic g3≠vf.ownBlock:=Kd.R_away rf0 (λk hk=>(ho3 k hk).1);have n4:Ic g4≠vf.ownBlock:=Kd.R_away rf0 (λk hk=>(ho3 k hk).2);refine⟨h0.trans (Fr.grown hg (λk e=>.inr (.inr (.inl e)))),(hg.block _ (aj h3) n3).trans h3,(hg.block _ (aj h4) n4).trans h4,λe=>?_,λe=>?_,hR,?_⟩
 .obtain⟨k,e1,e2,e3⟩:=hb1 e
  exact⟨k,e1,e2,(hg.block _ (aj e3) (hne k e2)).trans e3⟩
 .obtain⟨k,e1,e2,e3⟩:=hb2 e
  exact⟨k,e1,e2,(hg.block _ (aj e3) (hne k e2)).trans e3⟩
 .exact Kd.R_over hb (v:=vf) hf (λq hq=>by have:q=3:=IS.1 hq;omega) hg
theorem kN.app2(h:kN W0 base g3 g4 ok vf vb f bs x fr l2 l3 l6 Ik l8 Ik s W)(ho3:∀k,ok k->k≠g3/\k≠g4)(rb0:Kd.R (Kd.int .i64) 3 W0 base ok vb bs)
  (hR:Kd.R (Kd.int .i64) 3 W' base ok v (bs++[fr])) (hg:W.grownBy W' vb.ownBlock):kN W0 base g3 g4 ok vf vb f bs x fr l2 l3 l6 Ir l8 Ik (s.1,s.2.1,s.2.2.1,v) W':=by
 obtain⟨h0,h3,h4,hb1,hb2,hf,hb⟩:=h;have hlt:=Kd.R_lt rb0;have hne:∀k,W0.heap.size<=k->Ic k≠vb.ownBlock:=λk hk e=>by have:=hlt k e.symm;omega
 have n3:Ic g3≠vb.ownBlock:=Kd.R_away rb0 (λk hk=>(ho3 k hk).1);have n4:Ic g4≠vb.ownBlock:=Kd.R_away rb0 (λk hk=>(ho3 k hk).2);refine⟨h0.trans (Fr.grown hg (λk e=>.inr (.inr (.inr e)))),(hg.block _ (aj h3) n3).trans h3,(hg.block _ (aj h4) n4).trans h4,λe=>?_,λe=>?_,?_,hR⟩
 .obtain⟨k,e1,e2,e3⟩:=hb1 e
  exact⟨k,e1,e2,(hg.block _ (aj e3) (hne k e2)).trans e3⟩
 .obtain⟨k,e1,e2,e3⟩:=hb2 e
  exact⟨k,e1,e2,(hg.block _ (aj e3) (hne k e2)).trans e3⟩
 .exact Kd.R_over hf (v:=vb) hb (λq hq=>by have:q=49:=IS.1 hq;omega) hg
theorem kN.put3(h:kN W0 base g3 g4 ok vf vb f bs x fr l2 Ir l6 l7 Ik l9 s W)(ho3:∀k,ok k->k≠g3/\k≠g4)(h34:g3≠g4)(hlt:g3<W0.heap.size):kN W0 base g3 g4 ok vf vb f bs x fr l2 Ir l6 l7 Ir l9 s (W.setCell ⟨g3,0,Ih⟩ s.2.1):=by
 obtain⟨h0,h3,h4,hb1,hb2,hf,hb⟩:=h;refine⟨h0.trans (Fr.cell (p:=⟨g3,0,Ih⟩) (.inl rfl) _),fv h3 0 s.2.1,bp h4 (p:=⟨g3,0,Ih⟩) (λe=>h34 e.symm) _,λe=>?_,λe=>?_,?_,?_⟩
 .obtain⟨k,e1,e2,e3⟩:=hb1 e
  exact⟨k,e1,e2,bp e3 (p:=⟨g3,0,Ih⟩) (by show k≠g3;omega) _⟩
 .obtain⟨k,e1,e2,e3⟩:=hb2 e
  exact⟨k,e1,e2,bp e3 (p:=⟨g3,0,Ih⟩) (by show k≠g3;omega) _⟩
 .exact Kd.R_step hf (λk hk _=>Ld W ⟨g3,0,Ih⟩ _ k (ho3 k hk).1)
 .exact Kd.R_step hb (λk hk _=>Ld W ⟨g3,0,Ih⟩ _ k (ho3 k hk).1)
theorem kN.put4(h:kN W0 base g3 g4 ok vf vb f bs x fr l2 l3 l6 Ir l8 Ik s W)(ho3:∀k,ok k->k≠g3/\k≠g4)(h34:g3≠g4)(hlt:g4<W0.heap.size):kN W0 base g3 g4 ok vf vb f bs x fr l2 l3 l6 Ir l8 Ir s (W.setCell ⟨g4,0,Ih⟩ s.2.2.2):=by
 obtain⟨h0,h3,h4,hb1,hb2,hf,hb⟩:=h;refine⟨h0.trans (Fr.cell (p:=⟨g4,0,Ih⟩) (.inr (.inl rfl)) _),bp h3 (p:=⟨g4,0,Ih⟩) h34 _,fv h4 0 s.2.2.2,λe=>?_,λe=>?_,?_,?_⟩
 .obtain⟨k,e1,e2,e3⟩:=hb1 e
  exact⟨k,e1,e2,bp e3 (p:=⟨g4,0,Ih⟩) (by show k≠g4;omega) _⟩
 .obtain⟨k,e1,e2,e3⟩:=hb2 e
  exact⟨k,e1,e2,bp e3 (p:=⟨g4,0,Ih⟩) (by show k≠g4;omega) _⟩
 .exact Kd.R_step hf (λk hk _=>Ld W ⟨g4,0,Ih⟩ _ k (ho3 k hk).2)
 .exact Kd.R_step hb (λk hk _=>Ld W ⟨g4,0,Ih⟩ _ k (ho3 k hk).2)
end
theorem dT(v:Io):∀A n c,v=Ia A n c->v.cells=#[v]/\v.oneCell'=Ir:=by rintro A n c rfl;exact⟨rfl,rfl⟩
theorem Cv{aF:Act}{o:Oper}(x:In)(W:Im){u:Lf}(ho:o.op=.buildSlice 22 1 #[(0,u)])(hu:aF.eval u=IA x.cells):(JJ aF.eval o).run If W=.ok (.value (Ia (Ic ⟨W.heap.size,0,Ih⟩) 1 1)) (W.alloc (Is x.cells 49)):=by
 unfold JJ;simp only[ho,Mt,Jt,La,hu];rw[kz]
 go_simp
theorem Ee{aF:Act}{o:Oper}(n:Int)(W:Im){u:Lf}(ho:o.op=.buildSlice 109 1 #[(0,u)])(hu:aF.eval u=Ib Ie n):(JJ aF.eval o).run If W=.ok (.value (Ia (Ic ⟨W.heap.size,0,Ih⟩) 1 1)) (W.alloc (Is #[Ib Ie n] 3)):=by
 unfold JJ;simp only[ho,Mt,Jt,La,hu]
 go_simp
theorem Eh(s:ByteArray)(fr til:Nat)(hft:fr<=til)(hts:til<=s.size)(ha:Asc s)(hs:s.size<=20000)(f:List In)(bs:List Int)(hlf:f.length<=20000)(hlb:bs.length<=20000)(base g1 g2 g3 g4:Nat)(ok:Nat->Prop)(vf vb:Io)(w:Im)(hG:Gl w)
  (h1:w.heap[g1]?=Ic (.cells #[.string s] 9 (0,0))) (h2:w.heap[g2]?=Ic (.cells #[Ib Ie (fr:Int)] 3 (0,0))) (h3:w.heap[g3]?=Ic (.cells #[vf] 22 (0,0))) (h4:w.heap[g4]?=Ic (.cells #[vb] 109 (0,0)))
  (rf:Kd.R kIn 49 w base ok vf f) (rb:Kd.R (Kd.int .i64) 3 w base ok vb bs) (ho3:∀k,ok k->k≠g3/\k≠g4) (ho2:∀k,ok k->k≠g1/\k≠g2) (hfr:∀k,w.heap.size<=k->ok k) (hbase:base<=w.heap.size) (x:In) (e:Int) (hx:dO (s.extract fr til)=(x,e)) :
  I9 If 44 #[Ib Ie (til:Int),Iq (Ic ⟨g1,0,Ih⟩),Iq (Ic ⟨g2,0,Ih⟩),Iq (Ic ⟨g3,0,Ih⟩),Iq (Ic ⟨g4,0,Ih⟩)] w λr w'=>r=Iv (Iy (e==0))/\∃vf' vb',
   w'.heap[g3]?=Ic (.cells #[vf'] 22 (0,0))/\w'.heap[g4]?=Ic (.cells #[vb'] 109 (0,0))/\Kd.R kIn 49 w' base ok vf' (f++[x])/\Kd.R (Kd.int .i64) 3 w' base ok vb' (bs++[(fr:Int)])/\Fr (Hb g3 g4 vf vb) w w':=by
 have h34:g3≠g4:=λe=>by rw[e,h4]at h3;injection h3 with h3;injection h3 with _ h3;exact absurd h3 (by decide)
 have n23:g2≠g3:=λe=>by rw[e,h3]at h2;injection h2 with h2;injection h2 with _ h2;exact absurd h2 (by decide)
 have n24:g2≠g4:=λe=>by rw[e,h4]at h2;injection h2 with h2;injection h2 with _ h2;exact absurd h2 (by decide)
 have N23:=MD n23;have N24:=MD n24;have HO2:=MD ho2;clear n23 n24;have c1:=(show w.cell? ⟨g1,0,Ih⟩=Ic (.string s) by rw[ah h1];rfl);have c2:=(show w.cell? ⟨g2,0,Ih⟩=Ic (Ib Ie (fr:Int)) by rw[ah h2];rfl);have hP:=λw hG=>B0 (s.extract fr til) (ha.extract fr til hts) (by rw[ByteArray.size_extract];omega) w hG;rw[hx]at hP;have HP:=MD hP;have HG:=MD hG;have H2:=MD h2;have H3:=MD h3;have H4:=MD h4;have HRf:=MD rf;have HRb:=MD rb;have HO3:=MD ho3;have HFr:=MD hfr;have HBs:=MD hbase;have H34:=MD h34;have hft':(fr:Int)<=(til:Int):=by omega
 have hts':(til:Int)<=(s.size:Int):=by omega
 clear hP hG h1 h2 h3 h4 rf rb ho3 ho2 hfr hbase h34 hx ha;go_enter Tryz.func44,Tryz.ntmps44;go_upto_region 2 with(first
  |(go_at_call 45;refine(HP.1 _ HG.1).mono ?_;rintro q w2 ⟨rfl,hb⟩;have HB:=MD hb;clear hb)
  |((with_reducible refine ap (t:=49) (p:=7) rfl ?_);refine I3 rfl 49 _ _ rfl w2.heap.size x.cells rfl rfl 49 In.zero.cells (Iu w2 _) bU rfl (lP _) ?_))
 obtain⟨W0,hW0⟩:∃W0,W0=(w2.alloc (Is In.zero.cells 49)).setRow w2.heap.size x.cells:=⟨_,rfl⟩;have BW:aa (It w.heap.size w W0):=⟨by rw[hW0];exact Jl (ae HB.1 _) HB.1.size _⟩;have KX:aa (bq W0 w2.heap.size x):=⟨by rw[hW0];exact JX _ w2.heap.size _ _ 49 _ (Iu w2 _)⟩;have KN:aa (w.heap.size<=w2.heap.size):=⟨HB.1.size⟩;rw[show(w2.alloc (Is #[Ib Ie 0,Ib Ie 0,Ib Ie 0,Ib Ie 0,Ib Ie 0,Ib Ie 0] 49)).setRow w2.heap.size x.cells=W0 from hW0.symm];clear hW0;have C2:aa (W0.heap[g2]?=Ic (.cells #[Ib Ie (fr:Int)] 3 (0,0))):=⟨(BW.1.block _ (aj H2.1)).trans H2.1⟩;have C3:aa (W0.heap[g3]?=Ic (.cells #[vf] 22 (0,0))):=⟨(BW.1.block _ (aj H3.1)).trans H3.1⟩;have C4:aa (W0.heap[g4]?=Ic (.cells #[vb] 109 (0,0))):=⟨(BW.1.block _ (aj H4.1)).trans H4.1⟩;have L3:aa (g3<W0.heap.size):=⟨aj C3.1⟩;have L4:aa (g4<W0.heap.size):=⟨aj C4.1⟩;have RF0:aa (Kd.R kIn 49 W0 base ok vf f):=⟨Kd.R_below HRf.1 BW.1⟩;have RB0:aa (Kd.R (Kd.int .i64) 3 W0 base ok vb bs):=⟨Kd.R_below HRb.1 BW.1⟩;have hsz22:∀W,(sizeOf 22).run If W=.ok 1 W:=λW=>by kernel_rfl
 have hsz109:∀W,(sizeOf 109).run If W=.ok 1 W:=λW=>by kernel_rfl
 have hag22:∀W,(isAgg 22).run If W=.ok Ik W:=λW=>by kernel_rfl
 have hag109:∀W,(isAgg 109).run If W=.ok Ik W:=λW=>by kernel_rfl
 have hag3:∀W,(isAgg 3).run If W=.ok Ik W:=λW=>by kernel_rfl
 have HS1:=MD hsz22;have HS2:=MD hsz109;have HA1:=MD hag22;have HA2:=MD hag109;have HA3:=MD hag3;clear hsz22 hsz109 hag22 hag109 hag3;refine ku (σ:=Io×Io×Io×Io) (λs=>[(17,vf),(18,IA x.cells),(19,s.1),(20,s.2.1),(21,vb),(22,Ib Ie (fr:Int)),(23,s.2.2.1),(24,s.2.2.2)])
  (λs L W=>L.size=10/\kN W0 base g3 g4 ok vf vb f bs x fr (L.getD 2 Ik) (L.getD 3 Ik) (L.getD 6 Ik) (L.getD 7 Ik) (L.getD 8 Ik) (L.getD 9 Ik) s W) (KG,KG,KG,KG) (by kernel_rfl) (by kernel_rfl) (λ_=>by kernel_rfl) ?_
 intro aF haF;simp only[bk,KY,IP,IZ,IY]at haF;subst haF;refine⟨?_,⟨by simp,⟨Fr.drew,C3.1,C4.1,λe=>absurd e (by decide),λe=>absurd e (by decide),Kd.R_drew RF0.1,Kd.R_drew RB0.1⟩⟩,?_⟩
 .intro j o ho s L W hc hr hs
  obtain⟨hL,hst⟩:=hs;rcases j with _|_|_|_|_|_|_|_|_|_|j
  .obtain rfl:=Ii ho
   have n8:=jC (j:=8) hc hr (by kernel_rfl);have h3:=hst.c3;rw[n8]at h3;refine ax rfl 22 _ rfl ⟨g3,0,Ih⟩ vf rfl (HA1.1 W) (by rw[ah h3];rfl) (de rfl ⟨by simpa using hL,?_⟩);simp only[IL Ik (show(0:Nat)≠2 by decide),IL Ik (show(0:Nat)≠3 by decide),IL Ik (show(0:Nat)≠6 by decide),IL Ik (show(0:Nat)≠7 by decide),IL Ik (show(0:Nat)≠8 by decide),IL Ik (show(0:Nat)≠9 by decide)];exact hst
  .obtain rfl:=Ii ho
   refine gd rfl 49 _ rfl w2.heap.size rfl 49 x.cells (0,0) _ ?_ I6 rfl bU (de rfl ⟨by simpa using hL,?_⟩)
   .refine(hst.fr0.block _ (aj KX.1) ?_).trans KX.1
    rintro(e1|e1|e1|e1)
    .have:=aj H3.1;have:=KN.1;omega
    .have:=aj H4.1;have:=KN.1;omega
    .have:=Kd.R_lt HRf.1 _ e1.symm;have:=KN.1;omega
    .have:=Kd.R_lt HRb.1 _ e1.symm;have:=KN.1;omega
   .simp only[IL Ik (show(1:Nat)≠2 by decide),IL Ik (show(1:Nat)≠3 by decide),IL Ik (show(1:Nat)≠6 by decide),IL Ik (show(1:Nat)≠7 by decide),IL Ik (show(1:Nat)≠8 by decide),IL Ik (show(1:Nat)≠9 by decide)]
    exact hst
  .obtain rfl:=Ii ho
   refine ab (v:=Ia (Ic ⟨W.heap.size,0,Ih⟩) 1 1) (w':=W.alloc (Is x.cells 49)) rfl (Cv x W rfl rfl) (jZ (Ia (Ic ⟨W.heap.size,0,Ih⟩) 1 1,s.2.1,s.2.2.1,s.2.2.2) 19 hr rfl (by kernel_rfl) rfl rfl ⟨by simpa using hL,?_⟩);have ht:(L.setIfInBounds 2 Ir).getD 2 Ik=Ir:=by simp[hL]
   simp only[IL Ik (show(2:Nat)≠3 by decide),IL Ik (show(2:Nat)≠6 by decide),IL Ik (show(2:Nat)≠7 by decide),IL Ik (show(2:Nat)≠8 by decide),IL Ik (show(2:Nat)≠9 by decide),ht];exact hst.box1
  .obtain rfl:=Ii ho
   have l2:=kH hc hr 2 (by kernel_rfl) (by rw[hL];decide);have n3:=f_ hr;have n8:=jC (j:=8) hc hr (by kernel_rfl);rw[n3,n8]at hst;obtain⟨kb,e1,e2,e3⟩:=hst.b1 l2;refine ki kIn base rfl (.tmp 17) (.tmp 19) 22 49 _ 48 rfl Me tG rfl (by decide) (by omega) vf f x [Ib Ie x.op,Ib Ie x.d,Ib Ie x.a,Ib Ie x.b,Ib Ie x.n,Ib Ie x.jt] ok (λ_=>False) rfl ⟨kb,0,Ih⟩ e1 ?_ rfl (λ_ h=>h.elim) (λk hk=>HFr.1 k (by have:=hst.fr0.size;have:=BW.1.size;omega)) hst.rf (by have:=HBs.1;have:=hst.fr0.size;have:=BW.1.size;omega) (by omega) ?_
   .intro q u hq
    have:(⟨kb,0,Ih⟩:Addr).add q=⟨kb,q,Ih⟩:=by unfold Mo;by_cases h0:q=0<;>simp[h0]
    rw[this,ah e3];exact(KV).trans hq
   .intro v1 w1 hR hg hat
    refine jZ (s.1,v1,s.2.2.1,s.2.2.2) 20 hr rfl (by kernel_rfl) rfl rfl ⟨by simpa using hL,?_⟩;have ht:(L.setIfInBounds 3 Ir).getD 3 Ik=Ir:=by simp[hL]
    simp only[IL Ik (show(3:Nat)≠2 by decide),IL Ik (show(3:Nat)≠6 by decide),IL Ik (show(3:Nat)≠7 by decide),IL Ik (show(3:Nat)≠8 by decide),IL Ik (show(3:Nat)≠9 by decide),ht,n8];exact hst.app1 HO3.1 RF0.1 hR hg
  .obtain rfl:=Ii ho
   have n9:=jC (j:=9) hc hr (by kernel_rfl);have h4:=hst.c4;rw[n9]at h4;refine ax rfl 109 _ rfl ⟨g4,0,Ih⟩ vb rfl (HA2.1 W) (by rw[ah h4];rfl) (de rfl ⟨by simpa using hL,?_⟩);simp only[IL Ik (show(4:Nat)≠2 by decide),IL Ik (show(4:Nat)≠3 by decide),IL Ik (show(4:Nat)≠6 by decide),IL Ik (show(4:Nat)≠7 by decide),IL Ik (show(4:Nat)≠8 by decide),IL Ik (show(4:Nat)≠9 by decide)];exact hst
  .obtain rfl:=Ii ho
   have h2:W.heap[g2]?=Ic (.cells #[Ib Ie (fr:Int)] 3 (0,0)):=by
    refine(hst.fr0.block _ (aj C2.1) ?_).trans C2.1;rintro(e1|e1|e1|e1)
    .exact N23.1 e1
    .exact N24.1 e1
    .exact Kd.R_away RF0.1 (λk hk=>(HO2.1 k hk).2) e1
    .exact Kd.R_away RB0.1 (λk hk=>(HO2.1 k hk).2) e1
   refine ax rfl 3 _ rfl ⟨g2,0,Ih⟩ (Ib Ie (fr:Int)) rfl (HA3.1 W) (by rw[ah h2];rfl) (de rfl ⟨by simpa using hL,?_⟩);simp only[IL Ik (show(5:Nat)≠2 by decide),IL Ik (show(5:Nat)≠3 by decide),IL Ik (show(5:Nat)≠6 by decide),IL Ik (show(5:Nat)≠7 by decide),IL Ik (show(5:Nat)≠8 by decide),IL Ik (show(5:Nat)≠9 by decide)];exact hst
  .obtain rfl:=Ii ho
   refine ab (v:=Ia (Ic ⟨W.heap.size,0,Ih⟩) 1 1) (w':=W.alloc (Is #[Ib Ie (fr:Int)] 3)) rfl (Ee _ W rfl rfl) (jZ (s.1,s.2.1,Ia (Ic ⟨W.heap.size,0,Ih⟩) 1 1,s.2.2.2) 23 hr rfl (by kernel_rfl) rfl rfl ⟨by simpa using hL,?_⟩);have ht:(L.setIfInBounds 6 Ir).getD 6 Ik=Ir:=by simp[hL]
   simp only[IL Ik (show(6:Nat)≠2 by decide),IL Ik (show(6:Nat)≠3 by decide),IL Ik (show(6:Nat)≠7 by decide),IL Ik (show(6:Nat)≠8 by decide),IL Ik (show(6:Nat)≠9 by decide),ht];exact hst.box2
  .obtain rfl:=Ii ho
   have l6:=kH hc hr 6 (by kernel_rfl) (by rw[hL];decide);have n7:=f_ hr;have n9:=jC (j:=9) hc hr (by kernel_rfl);rw[n7,n9]at hst;obtain⟨kb,e1,e2,e3⟩:=hst.b2 l6;refine ki (Kd.int .i64) base rfl (.tmp 21) (.tmp 23) 109 3 _ 8 rfl Ms FF rfl (by decide) (by omega) vb bs (fr:Int) [Ib Ie (fr:Int)] ok (λ_=>False) rfl ⟨kb,0,Ih⟩ e1 ?_ rfl (λ_ h=>h.elim) (λk hk=>HFr.1 k (by have:=hst.fr0.size;have:=BW.1.size;omega)) hst.rb (by have:=HBs.1;have:=hst.fr0.size;have:=BW.1.size;omega) (by omega) ?_
   .intro q u hq
    have:(⟨kb,0,Ih⟩:Addr).add q=⟨kb,q,Ih⟩:=by unfold Mo;by_cases h0:q=0<;>simp[h0]
    rw[this,ah e3];exact(KV).trans hq
   .intro v1 w1 hR hg hat
    refine jZ (s.1,s.2.1,s.2.2.1,v1) 24 hr rfl (by kernel_rfl) rfl rfl ⟨by simpa using hL,?_⟩;have ht:(L.setIfInBounds 7 Ir).getD 7 Ik=Ir:=by simp[hL]
    simp only[IL Ik (show(7:Nat)≠2 by decide),IL Ik (show(7:Nat)≠3 by decide),IL Ik (show(7:Nat)≠6 by decide),IL Ik (show(7:Nat)≠8 by decide),IL Ik (show(7:Nat)≠9 by decide),ht,n9];exact hst.app2 HO3.1 RB0.1 hR hg
  .obtain rfl:=Ii ho
   have lj:=kH hc hr 3 (by kernel_rfl) (by rw[hL];decide);have ni:=f_ hr;rw[ni,lj]at hst;obtain⟨A,c,he⟩:=Kd.R_slice hst.rf;obtain⟨hv1,hv2⟩:=dT _ _ _ _ he;have hcc:=hst.c3;refine a_ rfl 22 _ _ rfl g3 0 s.2.1 _ rfl rfl hv1 hv2 (HS1.1 W) (by rw[ah hcc];rfl) (au hcc 0) (de rfl ⟨by simpa using hL,?_⟩);have ht:(L.setIfInBounds 8 Ir).getD 8 Ik=Ir:=by simp[hL]
   simp only[IL Ik (show(8:Nat)≠2 by decide),IL Ik (show(8:Nat)≠3 by decide),IL Ik (show(8:Nat)≠6 by decide),IL Ik (show(8:Nat)≠7 by decide),IL Ik (show(8:Nat)≠9 by decide),ht,lj];exact hst.put3 HO3.1 H34.1 L3.1
  .obtain rfl:=Ii ho
   have lj:=kH hc hr 7 (by kernel_rfl) (by rw[hL];decide);have ni:=f_ hr;rw[ni,lj]at hst;obtain⟨A,c,he⟩:=Kd.R_slice hst.rb;obtain⟨hv1,hv2⟩:=dT _ _ _ _ he;have hcc:=hst.c4;refine a_ rfl 109 _ _ rfl g4 0 s.2.2.2 _ rfl rfl hv1 hv2 (HS2.1 W) (by rw[ah hcc];rfl) (au hcc 0) (de rfl ⟨by simpa using hL,?_⟩);have ht:(L.setIfInBounds 9 Ir).getD 9 Ik=Ir:=by simp[hL]
   simp only[IL Ik (show(9:Nat)≠2 by decide),IL Ik (show(9:Nat)≠3 by decide),IL Ik (show(9:Nat)≠6 by decide),IL Ik (show(9:Nat)≠7 by decide),IL Ik (show(9:Nat)≠8 by decide),ht,lj];exact hst.put4 HO3.1 H34.1 L4.1
  .exact absurd (IB.1 ho).1 (by simp)
 .intro s L W hall hs
  have hst:=hs.2;rw[hall 2 (by simp),hall 3 (by simp),hall 6 (by simp),hall 7 (by simp),hall 8 (by simp),hall 9 (by simp)]at hst;have HSt:=MD hst;clear hst hs hall;dsimp only;go_wp2;go_ret;exact⟨rfl,s.2.1,s.2.2.2,HSt.1.c3,HSt.1.c4,HSt.1.rf,HSt.1.rb,(Fr.of_below BW.1).trans HSt.1.fr0⟩
end
def plS(s:ByteArray):Nat->Except Nat (List In×List Int×Nat)
 |0=>.ok ([],[],0)
 |k+1=>match plS s k with
  |.error e=>.error e
  |.ok (f,bs,fr)=>if bt s k=10 then(if(dO (s.extract fr k)).2=0 then .ok (f++[(dO (s.extract fr k)).1],bs++[(fr:Int)],k+1)else .error fr)else .ok (f,bs,fr)
theorem Ao{s:ByteArray}{k:Nat}{e:Nat}(h:plS s k=.error e):∀j,plS s (k+j)=.error e
 |0=>h
 |j+1=>by
  have:=Ao h j;show plS s ((k+j)+1)=_;unfold plS;rw[this]
theorem r_{s:ByteArray}:∀{k:Nat} {f:List In} {bs:List Int} {fr:Nat},plS s k=.ok (f,bs,fr)->f.length<=k/\bs.length=f.length/\fr<=k
 |0,f,bs,fr,h=>by
  simp only[plS,Except.ok.injEq,IM]at h;obtain⟨rfl,rfl,rfl⟩:=h;exact⟨Iz _,rfl,Iz _⟩
 |k+1,f,bs,fr,h=>by
  unfold plS at h;cases hp:plS s k with
  |error e=>rw[hp]at h;simp at h
  |ok r=>
   obtain⟨f0,bs0,fr0⟩:=r;have ih:=r_ hp;rw[hp]at h;simp only at h;split at h
   .split at h
    .simp only[Except.ok.injEq,IM]at h
     obtain⟨rfl,rfl,rfl⟩:=h;simp;omega
    .simp at h
   .simp only[Except.ok.injEq,IM]at h
    obtain⟨rfl,rfl,rfl⟩:=h;omega
def Ei(f:List In)(bs:List Int):Int:=if(cz f).1<(bs.length:Int)then bs.getD (cz f).1.toNat 0 else(cz f).1
def aE(s:ByteArray):List In×Int×Int:=
 match plS s s.size with
 |.error fr=>([],(fr:Int),2)
 |.ok (f,bs,fr)=>if fr<s.size then([],(fr:Int),2)else if(cz f).2=0 then(f,0,0)else([],Ei f bs,(cz f).2)
theorem mn{n:Int}:∀(l:List In) (i:Nat) (r:Int×Int),eu n l i=Ic r->0<=r.1
 | [],_,_,h=>by simp[eu]at h
 |x::l,i,r,h=>by
  unfold eu at h;split at h
  .exact mn l (i+1) r h
  .injection h with h
   subst h;simp
theorem o8(f:List In):0<=(cz f).1:=by
 unfold cz;split
 .exact J7 _
 .split
  .exact J7 _
  .cases h:eu f.length f 0 with
   |some r=>exact mn f 0 r h
   |none=>
    simp only;split
    .simp;omega
    .exact J7 _
def Rd{α:Type}(d:Kd α)(w:Im)(v:Io)(xs:List α):Prop:=∃A c,v=Ia A xs.length c/\xs.length<=c/\Kd.C d w A xs.length xs
theorem Rd.below{α:Type}{d:Kd α}{w w':Im}{v:Io}{xs:List α}(h:Rd d w v xs)(hb:It w.heap.size w w'):Rd d w' v xs:=by
 obtain⟨A,c,h1,h2,h3⟩:=h;exact⟨A,c,h1,h2,Kd.C_below h3 hb⟩
theorem Rd.of_R{α:Type}{d:Kd α}{e:Nat}{w:Im}{base:Nat}{ok:Nat->Prop}{v:Io}{xs:List α}(h:Kd.R d e w base ok v xs):Rd d w v xs:=Kd.R_reads h
theorem Rd.nil{α:Type}(d:Kd α)(w:Im):Rd d w (Ia Ih 0 0) []:=⟨Ih,0,rfl,Iz _,Kd.C_nil d w⟩
def RdT{α:Type}(d:Kd α)(t:Nat)(W:Im)(v:Io)(xs:List α):Prop:=∃A c,v=Ia A xs.length c/\xs.length<=c/\Kd.C d W A xs.length xs/\∀ad,A=Ic ad->∃cs fr,W.heap[ad.block]?=Ic (.cells cs t fr)
theorem RdT.rd{α:Type}{d:Kd α}{t:Nat}{W:Im}{v:Io}{xs:List α}(h:RdT d t W v xs):Rd d W v xs:=by
 obtain⟨A,c,h1,h2,h3,_⟩:=h;exact⟨A,c,h1,h2,h3⟩
theorem RdT.nil{α:Type}(d:Kd α)(t:Nat)(W:Im):RdT d t W (Ia Ih 0 0) []:=⟨Ih,0,rfl,Iz _,Kd.C_nil d W,λ_ h=>by cases h⟩
theorem RdT.below{α:Type}{d:Kd α}{t:Nat}{W W':Im}{v:Io}{xs:List α}(h:RdT d t W v xs)(hb:It W.heap.size W W'):RdT d t W' v xs:=by
 obtain⟨A,c,h1,h2,h3,h4⟩:=h;refine⟨A,c,h1,h2,Kd.C_below h3 hb,λad e=>?_⟩;obtain⟨cs,fr,h5⟩:=h4 ad e;exact⟨cs,fr,ag h5 hb⟩
theorem RdT.of_R{α:Type}{d:Kd α}{e:Nat}{W:Im}{base:Nat}{ok:Nat->Prop}{v:Io}{xs:List α}(h:Kd.R d e W base ok v xs):RdT d e W v xs:=by
 obtain⟨A,c,h1,h2,h3⟩:=Kd.R_reads h;refine⟨A,c,h1,h2,h3,λad ea=>?_⟩;obtain⟨_,inner,ho,_⟩:=h;rcases ho.2 with⟨h4,_⟩|⟨g,cap,cur,h4,hg,hh,r⟩
 .rw[h1,ea]at h4
  injection h4 with h4
  cases h4
 .rw[h1,ea]at h4
  injection h4 with h4
  injection h4 with h4
  subst h4;exact⟨_,_,hh⟩
def Hv(w:Im)(s:ByteArray)(k:Nat)(W:Im):Prop:=
 k<=s.size/\It w.heap.size w W/\W.heap[w.heap.size]?=Ic (.cells #[.string s] 9 (0,0))/\W.heap[w.heap.size+1+1+1+1]?=Ic (.stringIter s k)/\
 ∃(f:List In) (bs:List Int) (fr:Nat) (vf vb:Io),plS s k=.ok (f,bs,fr)/\W.heap[w.heap.size+1]?=Ic (.cells #[vf] 22 (0,0))/\W.heap[w.heap.size+1+1]?=Ic (.cells #[vb] 109 (0,0))/\W.heap[w.heap.size+1+1+1]?=Ic (.cells #[Ib Ie (fr:Int)] 3 (0,0))/\
  Kd.R kIn 49 W w.heap.size (λb=>w.heap.size+5<=b) vf f/\Kd.R (Kd.int .i64) 3 W w.heap.size (λb=>w.heap.size+5<=b) vb bs
theorem Cy(s:ByteArray)(ha:Asc s)(hs:s.size<=20000)(w:Im)(hG:Gl w):I9 If 33 #[.string s] w λe w'=>∃v,e=Iv (IR #[v,Ib Ie (aE s).2.1,Ib Ie (aE s).2.2])/\RdT kIn 49 w' v (aE s).1/\It w.heap.size w w':=by
 have HG:=MD hG;have HA:=MD ha;obtain⟨r,hr⟩:=ME (aE s);rw[<-hr];obtain⟨r1,r2,r3⟩:=r;have HR:=MD hr;clear hG ha hr;have hs':¬(s.size:Int)>20000:=by omega
 go_enter Tryz.func33,Tryz.ntmps33;go_wp2;go_loopw [9,10] (λ_ _ wr=>∃k:Nat,aa (Hv w s k wr)) (λ_ _ wr=>s.size-wr.iterPos (w.heap.size+1+1+1+1))
 case atStart=>
  have h:=λi o h=>eF w [Is #[.string s] 9,Is #[Ia Ih 0 0] 22,Is #[Ia Ih 0 0] 109,Is #[Ib Ie 0] 3,.stringIter s 0] i o h;exact⟨0,⟨⟨ID _,ev w [_,_,_,_,_],h 0 _ rfl,h 4 _ rfl,[],[],0,Ia Ih 0 0,Ia Ih 0 0,rfl,h 1 _ rfl,h 2 _ rfl,h 3 _ rfl,Kd.R_nil _ _ _ _ _,Kd.R_nil _ _ _ _ _⟩⟩⟩
 case round=>
  obtain⟨k,HS⟩:=hrel;obtain⟨hk,hb,h1,hi,f,bs,fr,vf,vb,hp,h3,h4,h2,hf,hbs⟩:=HS.1;obtain⟨bd1,bd2,bd3⟩:=r_ hp;by_cases hlt:k<s.size
  .have hax:=HA.1 k hlt
   have hnx:=λty=>fW (P:=If) wr (w.heap.size+1+1+1+1) s k ty hi hlt hax;obtain⟨w2,hw2⟩:=ME (World.setIter wr (w.heap.size+1+1+1+1) s (k+1));have hoth:∀b,b≠w.heap.size+1+1+1+1->w2.heap[b]?=wr.heap[b]?:=λb hb=>by
    rw[hw2];show(wr.heap.setIfInBounds (w.heap.size+1+1+1+1) (.stringIter s (k+1)))[b]?=_;rw[Kf (λe=>hb e.symm)]
   have HI:aa (w2.heap[w.heap.size+1+1+1+1]?=Ic (.stringIter s (k+1))):=⟨by rw[hw2];exact fj hi _⟩;have HB:aa (It w.heap.size w w2):=⟨by rw[hw2];exact eB hb (by omega) _ _⟩;have H1:aa (w2.heap[w.heap.size]?=Ic (.cells #[.string s] 9 (0,0))):=⟨(hoth _ (by omega)).trans h1⟩;have H2:aa (w2.heap[w.heap.size+1+1+1]?=Ic (.cells #[Ib Ie (fr:Int)] 3 (0,0))):=⟨(hoth _ (by omega)).trans h2⟩;have H3:aa (w2.heap[w.heap.size+1]?=Ic (.cells #[vf] 22 (0,0))):=⟨(hoth _ (by omega)).trans h3⟩;have H4:aa (w2.heap[w.heap.size+1+1]?=Ic (.cells #[vb] 109 (0,0))):=⟨(hoth _ (by omega)).trans h4⟩;have HF:aa (Kd.R kIn 49 w2 w.heap.size (λb=>w.heap.size+5<=b) vf f):=⟨Kd.R_step hf (λb hb _=>hoth b (by omega))⟩;have HBs:aa (Kd.R (Kd.int .i64) 3 w2 w.heap.size (λb=>w.heap.size+5<=b) vb bs):=⟨Kd.R_step hbs (λb hb _=>hoth b (by omega))⟩;rw[<-hw2]at hnx;obtain⟨c,hc⟩:∃c:Int,c=bt s k:=⟨_,rfl⟩;have hst:plS s (k+1)=if bt s k=10 then(if(dO (s.extract fr k)).2=0 then .ok (f++[(dO (s.extract fr k)).1],bs++[(fr:Int)],k+1)else .error fr)else .ok (f,bs,fr):=by
    rw[plS,hp]
   rw[<-hc]at hnx hst;have HI0:=MD hi;have HLk:=MD hlt;have HSt:=MD hst;have HSz:aa (w.heap.size+5<=w2.heap.size):=⟨by have:=aj HI.1;omega⟩;clear hw2 hoth hi h1 h2 h3 h4 hf hbs hb hc hax HS hst hp hk hlt;by_cases c10:c=10
   .obtain⟨x,e,hx⟩:∃x e,dO (s.extract fr k)=(x,e):=⟨_,_,rfl⟩
    have hst2:=HSt.1;rw[if_pos c10,hx]at hst2;subst c10;have HL:=MD (Eh s fr k bd3 (by have:=HLk.1;omega) HA.1 hs f bs (by have:=HLk.1;omega) (by have:=HLk.1;omega) w.heap.size w.heap.size (w.heap.size+1+1+1) (w.heap.size+1) (w.heap.size+1+1) (λb=>w.heap.size+5<=b) vf vb w2 (HG.1.below HB.1) H1.1 H2.1 H3.1 H4.1 HF.1 HBs.1 (λb hb=>⟨by omega,by omega⟩) (λb hb=>⟨by omega,by omega⟩) (λb hb=>by have:=HSz.1;omega) HB.1.size x e hx);have HSt2:=MD hst2;clear hst2 hx;by_cases he:e=0
    .subst he
     have hkb:(k:Int)<=20000:=by have:=HLk.1;omega
     go_wp2_with (first|(go_at_call 44;refine HL.1.mono ?_;rintro q w5 ⟨rfl,vf',vb',k3,k4,kf,kb,hfr⟩;have hkeep:∀b,b<w.heap.size+5->b≠w.heap.size+1->b≠w.heap.size+1+1->w5.heap[b]?=w2.heap[b]?:=(λb h1 h2 h3=>hfr.block b (by have:=HSz.1;omega) (λh=>by rcases h with h|h|h|h;exact h2 h;exact h3 h;exact absurd (HF.1.1 b h.symm) (by omega);exact absurd (HBs.1.1 b h.symm) (by omega)));have J1:=MD ((hkeep _ (by omega) (by omega) (by omega)).trans H1.1);have hj2:=(hkeep _ (by omega) (by omega) (by omega)).trans H2.1;have JI:=MD ((hkeep _ (by omega) (by omega) (by omega)).trans HI.1);have J2:=MD hj2;have J3:=MD k3;have J4:=MD k4;have JF:=MD kf;have JB:=MD kb;have JBl:=MD (Fr.below HB.1 hfr (λb hb h=>by rcases h with h|h|h|h;omega;omega;exact absurd (HF.1.1 b h.symm) (by omega);exact absurd (HBs.1.1 b h.symm) (by omega)) HB.1.size);have jc2:=ah hj2 0;have jf2:=au hj2 0;clear k3 k4 kf kb hfr hkeep hj2));go_roundw
     case rel=>
      have hsc:=fv J2.1 0 (Ib Ie ((k:Int)+1));refine⟨k+1,⟨⟨HLk.1,JBl.1.setCell (by show w.heap.size<=w.heap.size+1+1+1;omega) _,bp J1.1 (by show _≠w.heap.size+1+1+1;omega) _,gE JI.1 (p:=⟨w.heap.size+1+1+1,0,Ih⟩) (by show w.heap.size+1+1+1+1≠w.heap.size+1+1+1;omega) _,_,_,k+1,vf',vb',by simpa using HSt2.1,bp J3.1 (by show _≠w.heap.size+1+1+1;omega) _,bp J4.1 (by show _≠w.heap.size+1+1+1;omega) _,?_,?_,?_⟩⟩⟩
      .have:((k+1:Nat):Int)=(k:Int)+1:=by omega
       rw[this];exact hsc
      .exact Kd.R_far JF.1 (λb hb=>by show b≠w.heap.size+1+1+1;omega) _
      .exact Kd.R_far JB.1 (λb hb=>by show b≠w.heap.size+1+1+1;omega) _
     case measure=>rw[bd (gE JI.1 (p:=⟨w.heap.size+1+1+1,0,Ih⟩) (by show w.heap.size+1+1+1+1≠w.heap.size+1+1+1;omega) _),bd HI0.1];have:=HLk.1;omega
    .have hz:(e==0)=Ik:=beq_eq_false_iff_ne.mpr he
     have hst3:=HSt2.1;simp only[if_neg he]at hst3;have hfin:=Ao hst3 (s.size-(k+1));rw[show k+1+(s.size-(k+1))=s.size by have:=HLk.1;omega]at hfin;have hrr:=HR.1;unfold aE at hrr;rw[hfin]at hrr;simp only[IM]at hrr;obtain⟨rfl,rfl,rfl⟩:=hrr;clear hst3 hfin he;go_upto_region 12 with(first|(go_at_call 44;refine HL.1.mono ?_;rintro q w5 ⟨rfl,vf',vb',k3,k4,kf,kb,hfr⟩;have hkeep:∀b,b<w.heap.size+5->b≠w.heap.size+1->b≠w.heap.size+1+1->w5.heap[b]?=w2.heap[b]?:=(λb h1 h2 h3=>hfr.block b (by have:=HSz.1;omega) (λh=>by rcases h with h|h|h|h;exact h2 h;exact h3 h;exact absurd (HF.1.1 b h.symm) (by omega);exact absurd (HBs.1.1 b h.symm) (by omega)));have J1:=MD ((hkeep _ (by omega) (by omega) (by omega)).trans H1.1);have hj2:=(hkeep _ (by omega) (by omega) (by omega)).trans H2.1;have JI:=MD ((hkeep _ (by omega) (by omega) (by omega)).trans HI.1);have J2:=MD hj2;have J3:=MD k3;have J4:=MD k4;have JF:=MD kf;have JB:=MD kb;have JBl:=MD (Fr.below HB.1 hfr (λb hb h=>by rcases h with h|h|h|h;omega;omega;exact absurd (HF.1.1 b h.symm) (by omega);exact absurd (HBs.1.1 b h.symm) (by omega)) HB.1.size);have jc2:=ah hj2 0;have jf2:=au hj2 0;clear k3 k4 kf kb hfr hkeep hj2))
     go_quiet (fail)
     go_wp2;refine IG (v:=IR #[Ia Ih 0 0,Ib Ie (fr:Int),Ib Ie 2]) (aD (rs:=[.tmp 2,.tmp 3,.tmp 4]) rfl (by simp) (.tmp (.tmp (.tmp .nil)))) rfl ⟨Ia Ih 0 0,rfl,RdT.nil _ _ _,aQ JBl.1 _⟩
   .have hst2:=HSt.1
    rw[if_neg c10]at hst2;have hq:(c != 10)=Ir:=bne_iff_ne.mpr c10;have HSt2:=MD hst2;clear hst2 c10;go_wp2;go_roundw
    case rel=>exact⟨k+1,⟨⟨HLk.1,HB.1,H1.1,HI.1,f,bs,fr,vf,vb,HSt2.1,H3.1,H4.1,H2.1,HF.1,HBs.1⟩⟩⟩
    case measure=>rw[bd HI.1,bd HI0.1];have:=HLk.1;omega
  .have hnx:=λty=>eC (P:=If) wr (w.heap.size+1+1+1+1) s k ty hi hlt
   obtain rfl:k=s.size:=by omega
   have q1:=ah h1 0;have q2:=ah h2 0;have q3:=ah h3 0;have q4:=ah h4 0;obtain⟨Af,cf,rfl,hcf,hCf,hTf⟩:=RdT.of_R hf;have HTf:=MD hTf;clear hTf;obtain⟨Ab,cb,rfl,hcb,hCb⟩:=Kd.R_reads hbs;have hrr:=HR.1;unfold aE at hrr;rw[hp]at hrr;simp only at hrr;have HC:=MD hCf;have HCb:=MD hCb;have HB:=MD hb;have K4:=MD h4;have K3:=MD h3;have HCk:=MD (sQ Af cf f);have hlfb:(bs.length:Int)<=20000:=by omega
   clear hi hb h1 h2 h3 h4 hf hbs hCf hCb HS hp hk hlt;by_cases hfr:fr<s.size
   .rw[if_pos hfr]at hrr
    simp only[IM]at hrr;obtain⟨rfl,rfl,rfl⟩:=hrr;have hfr':(fr:Int)<(s.size:Int):=by omega
    go_upto_region 15 with fail
    go_quiet (fail)
    go_wp2;refine IG (v:=IR #[Ia Ih 0 0,Ib Ie (fr:Int),Ib Ie 2]) (aD (rs:=[.tmp 2,.tmp 3,.tmp 4]) rfl (by simp) (.tmp (.tmp (.tmp .nil)))) rfl ⟨Ia Ih 0 0,rfl,RdT.nil _ _ _,aQ HB.1 _⟩
   .rw[if_neg hfr]at hrr
    have hfr':¬(fr:Int)<(s.size:Int):=by omega
    obtain⟨a,haa⟩:=ME ((cz f).1);obtain⟨b,hbb⟩:=ME ((cz f).2);have hnn:=o8 f;have hat:Ei f bs=if a<(bs.length:Int)then bs.getD a.toNat 0 else a:=by unfold Ei;rw[haa]
    rw[hat]at hrr;rw[<-haa]at hnn;rw[<-hbb]at hrr;rw[<-haa,<-hbb]at HCk;clear haa hbb hat;by_cases hb0:b=0
    .rw[if_pos hb0]at hrr
     simp only[IM]at hrr;obtain⟨rfl,rfl,rfl⟩:=hrr;subst hb0;go_wp2_with (first|(go_at_call 46;refine(HCk.1 _ (HG.1.below HB.1) HC.1 hcf).mono ?_;rintro q w5 ⟨rfl,hb5⟩;have J3:=ah ((hb5.block _ (aj K3.1)).trans K3.1) 0;have HB5:=MD (af HB.1 hb5);have HC5:=MD (RdT.below ⟨Af,cf,rfl,hcf,HC.1,HTf.1⟩ hb5);clear hb5));refine IG (v:=IR #[Ia Af r1.length cf,Ib Ie 0,Ib Ie 0]) (aD (rs:=[.tmp 2,.tmp 3,.tmp 4]) rfl (by simp) (.tmp (.tmp (.tmp .nil)))) rfl ⟨_,rfl,HC5.1,HB5.1⟩
    .rw[if_neg hb0]at hrr
     simp only[IM]at hrr;obtain⟨rfl,hr2,rfl⟩:=hrr;have hb1:(r3==0)=Ik:=beq_eq_false_iff_ne.mpr hb0;have HR2:=MD hr2;clear hr2 hb0;by_cases hab:a<(bs.length:Int)
     .obtain⟨A',e',hcell⟩:=Kd.at_int HCb.1 a hnn hab
      subst e';have hr2':r2=rd bs a:=by rw[HR2.1,if_pos hab];rfl
      subst hr2';have HA':=MD hcell;clear hcell;go_wp2_with (first|(go_at_call 46;refine(HCk.1 _ (HG.1.below HB.1) HC.1 hcf).mono ?_;rintro q w5 ⟨rfl,hb5⟩;have J4:=ah ((hb5.block _ (aj K4.1)).trans K4.1) 0;have HB5:=MD (af HB.1 hb5);obtain⟨A2,e2,hcell⟩:=Kd.at_int (Kd.C_below HCb.1 hb5) a hnn hab;obtain rfl:=Ii e2;clear hb5 e2));refine IG (v:=IR #[Ia Ih 0 0,Ib Ie (rd bs a),Ib Ie r3]) (aD (rs:=[.tmp 2,.tmp 3,.tmp 4]) rfl (by simp) (.tmp (.tmp (.tmp .nil)))) rfl ⟨Ia Ih 0 0,rfl,RdT.nil _ _ _,HB5.1⟩
     .have hr2':r2=a:=by rw[HR2.1,if_neg hab]
      subst hr2';go_wp2_with (first|(go_at_call 46;refine(HCk.1 _ (HG.1.below HB.1) HC.1 hcf).mono ?_;rintro q w5 ⟨rfl,hb5⟩;have J4:=ah ((hb5.block _ (aj K4.1)).trans K4.1) 0;have HB5:=MD (af HB.1 hb5);clear hb5));refine IG (v:=IR #[Ia Ih 0 0,Ib Ie r2,Ib Ie r3]) (aD (rs:=[.tmp 2,.tmp 3,.tmp 4]) rfl (by simp) (.tmp (.tmp (.tmp .nil)))) rfl ⟨Ia Ih 0 0,rfl,RdT.nil _ _ _,HB5.1⟩
def lastB(n:Int):ByteArray:=strOfNums [(JW (48-(KQ n 10)))%256]
def fh:Nat->Int->ByteArray
 |0,n=>lastB n
 |k+1,n=>if n > -10 then lastB n else fh k (JW (Lm n 10))++lastB n
theorem gZ(n:Int):(lastB n).size=1:=strOfNums_size _
theorem kc:∀(k:Nat) (n:Int),(fh k n).size<=k+1
 |0,n=>by rw[fh,gZ];exact Iz _
 |k+1,n=>by
  rw[fh];split
  .rw[gZ];omega
  .rw[I5,gZ]
   have:=kc k (JW (Lm n 10));omega
theorem Bo{n p:Int}(h1:n<=-10)(h2:-9223372036854775808<=n)(hp:-(p*10)<n):JW (Lm n 10)=Lm n 10/\-p<Lm n 10/\-9223372036854775808<=Lm n 10/\Lm n 10<=9223372036854775807:=by
 obtain⟨m,rfl⟩:∃m,n=-m:=⟨-n,by omega⟩;have e:Lm (-m) 10=-(m/10):=by rw[Int.neg_tdiv,Int.tdiv_eq_ediv_of_nonneg (by omega)]
 rw[e];unfold JW;omega
theorem Fg{k:Nat}{n:Int}(h:n > -10):fh k n=lastB n:=by
 cases k with
 |zero=>rfl
 |succ k=>rw[fh,if_pos h]
theorem sy(k:Nat)(n:Int)(w:Im)(c:n > -10):I9 If 74 #[Ib Ie n] w λe w'=>e=Iv (.string (fh k n))/\It w.heap.size w w':=by
 rw[Fg c];have HB:=MD (Il w.heap.size w);obtain⟨y,hy⟩:∃y:List Int,y=[(JW (48-(KQ n 10)))%256]:=⟨_,rfl⟩;have hl:lastB n=strOfNums y:=by rw[hy];rfl
 have Ny:=MD hy;rw[hl];have cb:decide ((-10)<n)=Ir:=decide_eq_true c;clear hy c hl;go_enter Tryz.func74,Tryz.ntmps74;go_wp2_with (first|((with_reducible refine ai (N:=8) rfl ?_);refine Kd.R_lit (Kd.int .u8) _ 5 ?hg (N:=8) ?hd (xs:=([(JW (48-(KQ n 10)))%256]:List Int)) (inner:=[.int .u8 ((JW (48-(KQ n 10)))%256)]) (ok:=λ_=>True) (okp:=λ_=>True) ?hr ?hp (λ_ hk=>hk) trivial (Il _ _) (Iz _) (by simp) ?_;(case hd=>rfl);(case hg=>rfl);(case hr=>(first|(go_simp;done)|(go_simp;rfl)));(case hp=>exact(cx.one (show Kd.M (Kd.int .u8) _ _ _ ((JW (48-(KQ n 10)))%256) [.int .u8 ((JW (48-(KQ n 10)))%256)]from rfl) (cx.none _ _)));intro v102 w3 ho4 hb hg_ hnew_;clear hg_ hnew_;rw[<-Ny.1]at ho4;have HB3:=MD (af HB.1 hb);have HO:=MD ho4;clear hb ho4;have hcv5:=qm (P:=If) Tryz.underlying203 Tryz.underlying5 Tryz.underlying9 (Kd.own_of_R HO.1)));go_ret;exact⟨rfl,HB3.1⟩
theorem zr:∀(k:Nat) (n:Int) (w:Im),k<=25->-(10:Int) ^ (k+1)<n->-9223372036854775808<=n->n<=9223372036854775807->
  I9 If 74 #[Ib Ie n] w λe w'=>e=Iv (.string (fh k n))/\It w.heap.size w w':=by
 intro k
 induction k with
 |zero=>exact λn w _ h _ _=>sy 0 n w (by have h2:-(10:Int)<n:=h;omega)
 |succ k ih=>
  intro n w hk hp h1 h2;by_cases c:n > -10
  .exact sy _ n w c
  .have HB:=MD (Il w.heap.size w)
   obtain⟨y,hy⟩:∃y:List Int,y=[(JW (48-(KQ n 10)))%256]:=⟨_,rfl⟩;have hl:lastB n=strOfNums y:=by rw[hy];rfl
   have Ny:=MD hy;rw[fh,hl];clear hy;rw[if_neg c];have cb:decide ((-10)<n)=Ik:=decide_eq_false c;obtain⟨e1,e2,e3,e4⟩:=Bo (n:=n) (p:=(10:Int) ^ (k+1)) (by omega) h1 (by rw[<-Int.pow_succ];exact hp);have HI:=MD (λW=>ih (JW (Lm n 10)) W (by omega) (by rw[e1];exact e2) (by rw[e1];exact e3) (by rw[e1];exact e4));have hz:=kc k (JW (Lm n 10));obtain⟨t,ht⟩:=ME (fh k (JW (Lm n 10)));rw[<-ht]at HI hz ⊢;have hy1:(strOfNums y).size=1:=by rw[<-hl];exact gZ n
   have c7:t.size+(strOfNums y).size<=9223372036854775807:=by omega
   have c7b0:=eq_true c7;have c7b1:decide (t.size+(strOfNums y).size<=9223372036854775807)=Ir:=decide_eq_true c7;have c7b2:(9223372036854775807<t.size+(strOfNums y).size)=False:=eq_false (Nat.not_lt.2 c7);clear c hp h1 h2 ih hk hl e1 e2 e3 e4 ht hz hy1 c7;go_enter Tryz.func74,Tryz.ntmps74;go_wp2_with (first
    |((with_reducible refine ai (N:=8) rfl ?_);refine Kd.R_lit (Kd.int .u8) _ 5 ?hg (N:=8) ?hd (xs:=([(JW (48-(KQ n 10)))%256]:List Int)) (inner:=[.int .u8 ((JW (48-(KQ n 10)))%256)]) (ok:=λ_=>True) (okp:=λ_=>True) ?hr ?hp (λ_ hk=>hk) trivial (Il _ _) (Iz _) (by simp) ?_;(case hd=>rfl);(case hg=>rfl);(case hr=>(first|(go_simp;done)|(go_simp;rfl)));(case hp=>exact(cx.one (show Kd.M (Kd.int .u8) _ _ _ ((JW (48-(KQ n 10)))%256) [.int .u8 ((JW (48-(KQ n 10)))%256)]from rfl) (cx.none _ _)));intro v102 w3 ho4 hb hg_ hnew_;clear hg_ hnew_;rw[<-Ny.1]at ho4;have HB3:=MD (af HB.1 hb);have HO:=MD ho4;clear hb ho4;have hcv5:=qm (P:=If) Tryz.underlying203 Tryz.underlying5 Tryz.underlying9 (Kd.own_of_R HO.1))
    |(go_at_call 74;refine(HI.1 _).mono ?_;rintro e w4 ⟨rfl,hb4⟩;have HB4:=MD (af HB3.1 hb4);clear hb4))
   go_ret;exact⟨rfl,HB4.1⟩
def inI(n:Int):Prop:=-9223372036854775808<=n/\n<=9223372036854775807
theorem A8(n:Int)(h:inI n)(w:Im):I9 If 74 #[Ib Ie n] w λe w'=>e=Iv (.string (fh 19 n))/\It w.heap.size w w':=
 zr 19 n w (by omega) (by have h1:=h.1;have h2:-(10:Int) ^ (19+1)=-100000000000000000000:=(by decide);omega) h.1 h.2
theorem z_(n:Int):inI (JW n):=by unfold inI JW;omega
def nT(n:Int):ByteArray:=if n<0 then(⟨#[45]⟩:ByteArray)++fh 19 n else fh 19 (JW (-n))
theorem jD(n:Int):(nT n).size<=21:=by
 unfold nT;split
 .rw[I5]
  have:=kc 19 n;have h:(⟨#[45]⟩:ByteArray).size=1:=rfl;omega
 .have:=kc 19 (JW (-n))
  omega
theorem m_(n:Int)(h:inI n)(w:Im):I9 If 42 #[Ib Ie n] w λe w'=>e=Iv (.string (nT n))/\It w.heap.size w w':=by
 unfold nT;by_cases c:n<0
 .rw[if_pos c]
  have cb:decide (n<0)=Ir:=decide_eq_true c;have HD:=MD (A8 n h);have hz:=kc 19 n;obtain⟨t,ht⟩:=ME (fh 19 n);rw[<-ht]at HD hz ⊢;have c4:1+t.size<=9223372036854775807:=by omega
  have c4b0:=eq_true c4;have c4b1:decide (1+t.size<=9223372036854775807)=Ir:=decide_eq_true c4;have c4b2:(9223372036854775807<1+t.size)=False:=eq_false (Nat.not_lt.2 c4);clear c h ht hz c4;go_enter Tryz.func42,Tryz.ntmps42;go_wp2_with (go_at_call 74;refine(HD.1 _).mono ?_;rintro e w4 ⟨rfl,hb4⟩;have HB4:=MD hb4;clear hb4);go_ret;exact⟨rfl,HB4.1⟩
 .rw[if_neg c]
  have cb:decide (n<0)=Ik:=decide_eq_false c;have HD:=MD (A8 _ (z_ (-n)));clear c h;go_enter Tryz.func42,Tryz.ntmps42;go_wp2_with (go_at_call 74;refine(HD.1 _).mono ?_;rintro e w4 ⟨rfl,hb4⟩;have HB4:=MD hb4;clear hb4);go_ret;exact⟨rfl,HB4.1⟩
def lT(n:Int):ByteArray:=if n<8 then(⟨#[114]⟩:ByteArray)++nT n else(⟨#[115]⟩:ByteArray)++nT (JW (n-8))
theorem lN(n:Int):(lT n).size<=22:=by
 unfold lT;split
 .rw[I5]
  have:=jD n;have h:(⟨#[114]⟩:ByteArray).size=1:=rfl;omega
 .rw[I5]
  have:=jD (JW (n-8));have h:(⟨#[115]⟩:ByteArray).size=1:=rfl;omega
theorem qC(n:Int)(h:inI n)(w:Im):I9 If 41 #[Ib Ie n] w λe w'=>e=Iv (.string (lT n))/\It w.heap.size w w':=by
 unfold lT;by_cases c:n<8
 .rw[if_pos c]
  have cb:decide (n<8)=Ir:=decide_eq_true c;have HD:=MD (m_ n h);have hz:=jD n;obtain⟨t,ht⟩:=ME (nT n);rw[<-ht]at HD hz ⊢;have c4:1+t.size<=9223372036854775807:=by omega
  have c4b0:=eq_true c4;have c4b1:decide (1+t.size<=9223372036854775807)=Ir:=decide_eq_true c4;have c4b2:(9223372036854775807<1+t.size)=False:=eq_false (Nat.not_lt.2 c4);clear c h ht hz c4;go_enter Tryz.func41,Tryz.ntmps41;go_wp2_with (go_at_call 42;refine(HD.1 _).mono ?_;rintro e w4 ⟨rfl,hb4⟩;have HB4:=MD hb4;clear hb4);go_ret;exact⟨rfl,HB4.1⟩
 .rw[if_neg c]
  have cb:decide (n<8)=Ik:=decide_eq_false c;have HD:=MD (m_ _ (z_ (n-8)));have hz:=jD (JW (n-8));obtain⟨t,ht⟩:=ME (nT (JW (n-8)));rw[<-ht]at HD hz ⊢;have c4:1+t.size<=9223372036854775807:=by omega
  have c4b0:=eq_true c4;have c4b1:decide (1+t.size<=9223372036854775807)=Ir:=decide_eq_true c4;have c4b2:(9223372036854775807<1+t.size)=False:=eq_false (Nat.not_lt.2 c4);clear c h ht hz c4;go_enter Tryz.func41,Tryz.ntmps41;go_wp2_with (go_at_call 42;refine(HD.1 _).mono ?_;rintro e w4 ⟨rfl,hb4⟩;have HB4:=MD hb4;clear hb4);go_ret;exact⟨rfl,HB4.1⟩
def wl:List ByteArray:=aM.map Prod.fst
def wd(op:Int):ByteArray:=yP Ji wl (op-1)
theorem CH(op:Int)(h:1<=op/\op<=18)(w:Im):I9 If 43 #[Ib Ie op] w λe w'=>e=Iv (.string (wd op))/\It w.heap.size w w':=by
 have hd:wd op=yP Ji wl (op-1):=rfl;rw[hd];obtain⟨j,hj⟩:=MF (op-1);rw[hj];have p1:0<=j:=by omega
 have q1:j<18:=by omega
 have hw:LP.i64.wrap (op-1)=j:=(GU _).trans (by unfold JW;omega);clear hd hj h;go_enter Tryz.func43,Tryz.ntmps43;go_wp2;go_ret;refine⟨?_,ae (Il _ _) _⟩;have hc:j=0\/j=1\/j=2\/j=3\/j=4\/j=5\/j=6\/j=7\/j=8\/j=9\/j=10\/j=11\/j=12\/j=13\/j=14\/j=15\/j=16\/j=17:=by omega
 rcases hc with rfl|rfl|rfl|rfl|rfl|rfl|rfl|rfl|rfl|rfl|rfl|rfl|rfl|rfl|rfl|rfl|rfl|rfl<;>rfl
def fQ(x:In)(f:ByteArray):Nat->List Int
 |0=>[]
 |k+1=>if bt f k=65\/bt f k=66 then fQ x f k++[x.get (ez (bt f k))]else fQ x f k
def ce(x:In):List Int:=if kY x.op=Ik\/x.moves=Ir then []else fQ x (shF x.op) (shF x.op).size
theorem mr(x:In)(f:ByteArray):∀k,(fQ x f k).length<=k
 |0=>Iz _
 |k+1=>by
  have:=mr x f k;unfold fQ;split
  .simp;omega
  .omega
theorem rZ(op:Int):(shF op).size<=3:=by
 unfold shF;split
 .have h3:∀p∈aM,p.2.size<=3:=by decide
  by_cases hi:(op-1).toNat<aM.length
  .rw[Ij,Ig hi]
   exact h3 _ (K8 _)
  .rw[Ij,I0 (by omega)]
   decide
 .decide
theorem oQ(x:In)(w:Im):I9 If 66 #[IA #[Ib Ie x.op,Ib Ie x.d,Ib Ie x.a,Ib Ie x.b,Ib Ie x.n,Ib Ie x.jt]] w λe w'=>e=Iv (Iy x.moves)/\It w.heap.size w w':=j7 x w
def Ht(w:Im)(x:In)(f:ByteArray)(g gi:Nat)(k:Nat)(v:Io)(W:Im):Prop:=
 k<=f.size/\w.heap.size<=gi/\g<gi/\It w.heap.size w W/\bq W g x/\W.heap[gi]?=Ic (.stringIter f k)/\Kd.R (Kd.int .i64) 3 W w.heap.size (λb=>gi<b) v (fQ x f k)
theorem kB(x:In)(w:Im)(hG:Gl w):I9 If 56 #[IA x.cells] w λe w'=>∃v,e=Iv v/\Kd.R (Kd.int .i64) 3 w' w.heap.size (λk=>w.heap.size<=k) v (ce x)/\It w.heap.size w w':=by
 have HG:=MD hG;clear hG;rw[kz];obtain⟨o,ho⟩:=ME (kY x.op);obtain⟨s,hs⟩:=ME (shW x.op);obtain⟨f,hf⟩:=ME (shF x.op);obtain⟨m,hm⟩:=ME x.moves;obtain⟨R,hR⟩:=ME (ce x);have hof:=Dx x.op;rw[<-ho,<-hs,<-hf]at hof;have HOf:=MD hof;have hmv:=oQ x;rw[<-hm]at hmv;have HMv:=MD hmv;have HF:aa (Asc f):=⟨by rw[hf];exact pj _⟩;have HFs:aa (f.size<=3):=⟨by rw[hf];exact rZ _⟩;have hval:R=if o=Ik\/m=Ir then []else fQ x f f.size:=by rw[hR];unfold ce;rw[<-ho,<-hf,<-hm]
 rw[<-hR];have HV:=MD hval;clear hval ho hs hf hm hof hmv hR;go_enter Tryz.func56,Tryz.ntmps56;go_upto_region 2 with(first
   |(go_at_call 85;refine(HOf.1 _ (HG.1.below (ae (Il _ _) _))).mono ?_;rintro e w1 ⟨rfl,hb⟩;have HB1:=MD (af (ae (Il _ _) _) hb);have KI:=MD (show bq w1 w.heap.size x from bq.below (show bq (w.alloc (Is x.cells 49 (0,0))) w.heap.size x from Iu w _) hb);clear hb))
 have KI2:=MD (KI.1.below (ae (Il _ _) (Is #[.string s,.string f] 169 (0,0))));have KS:aa ((w1.alloc (Is #[.string s,.string f] 169 (0,0))).heap[w1.heap.size]?=Ic (.cells #[.string s,.string f] 169 (0,0))):=⟨Iu w1 _⟩;have HB2:=MD (ae HB1.1 (Is #[.string s,.string f] 169 (0,0)));obtain⟨q0,q1,q2,q3,q4,q5⟩:=KI2.1.cells6;cases o with
 |false=>
  obtain rfl:R=[]:=HV.1.trans (if_pos (.inl rfl));go_wp2_with fail;go_ret;exact⟨_,rfl,Kd.R_nil _ _ _ _ _,HB2.1⟩
 |true=>
  cases m with
  |true=>
   obtain rfl:R=[]:=HV.1.trans (if_pos (.inr rfl));go_wp2_with (first|(go_at_call 66;refine(HMv.1 _).mono ?_;rintro e w2 ⟨rfl,hb⟩;have HB3:=MD (af HB2.1 hb);clear hb));go_ret;exact⟨_,rfl,Kd.R_nil _ _ _ _ _,HB3.1⟩
  |false=>
   have hv:R=fQ x f f.size:=HV.1.trans (if_neg (by simp));have HV2:=MD hv;clear hv;go_wp2_with (first|(go_at_call 66;refine(HMv.1 _).mono ?_;rintro e w2 ⟨rfl,hb⟩;have HB3:=MD (af HB2.1 hb);have KI3:=MD (KI2.1.below hb);obtain⟨r0,r1⟩:=nV ((hb.block _ (aj KS.1)).trans KS.1);clear hb));go_loopw [5,7] (λv5 _ wr=>∃k:Nat,aa (Ht w x f w.heap.size w2.heap.size k v5 wr)) (λ_ _ wr=>f.size-wr.iterPos w2.heap.size)
   case atStart=>exact⟨0,⟨⟨ID _,HB3.1.size,aj KI3.1,af HB3.1 (ae (Il _ _) _),KI3.1.below (ae (Il _ _) _),Iu w2 _,Kd.R_nil _ _ _ _ _⟩⟩⟩
   case round=>
    obtain⟨k,HS⟩:=hrel;obtain⟨hk,hgi,hlt2,hb,hx,hi,hR⟩:=HS.1;have HGi:=MD hgi;have HLt:=MD hlt2;by_cases hlt:k<f.size
    .have ha:=HF.1 k hlt
     have hnx:=λty=>fW (P:=If) wr w2.heap.size f k ty hi hlt ha;obtain⟨w3,hw3⟩:=ME (World.setIter wr w2.heap.size f (k+1));have HI:aa (w3.heap[w2.heap.size]?=Ic (.stringIter f (k+1))):=⟨by rw[hw3];exact fj hi _⟩;have HX:aa (bq w3 w.heap.size x):=⟨by rw[hw3];exact jm hx (by omega) _ _⟩;have HB5:aa (It w.heap.size w w3):=⟨by rw[hw3];exact eB hb (by omega) _ _⟩;have HR5:aa (Kd.R (Kd.int .i64) 3 w3 w.heap.size (λb=>w2.heap.size<b) u5 (fQ x f k)):=⟨by
      rw[hw3];exact Kd.R_step hR (λb hb _=>by
       show(wr.heap.setIfInBounds w2.heap.size (.stringIter f (k+1)))[b]?=_;rw[Kf (by omega)])⟩
     rw[<-hw3]at hnx;obtain⟨c,hc⟩:∃c:Int,c=bt f k:=⟨_,rfl⟩;have hst:fQ x f (k+1)=if c=65\/c=66 then fQ x f k++[x.get (ez c)]else fQ x f k:=by rw[hc];rfl
     rw[<-hc]at hnx;have HI0:=MD hi;have HLk:=MD hlt;have HSt:=MD hst;have HLn:=MD (mr x f k);clear hc hw3 hi hx hb ha HS hst hgi hlt2 hk hlt hR;have gf:=HX.1.get (ez c) (nB c);by_cases c6:c=65\/c=66
     .have hs2:=HSt.1
      rw[if_pos c6]at hs2;have HS2:=MD hs2;clear hs2;obtain⟨y,hy⟩:=ME (x.get (ez c));rw[<-hy]at gf HS2;clear hy;rcases c6 with h6|h6
      all_goals
       subst h6;go_wp2_with (first
        |(go_at_call 86;refine(g_ _ _ _).mono ?_;rintro e w' ⟨rfl,rfl⟩)
        |((with_reducible refine a6 (b:=.append) (xs:=#[.tmp 32,.tmp 37]) rfl ?_);at_builtin;refine Kd.R_append (Kd.int .i64) (w0:=w) w.heap.size rfl (.tmp 32) (.tmp 37) 109 3 (Ib Ie 0) 8 rfl Ms FF rfl (by decide) (by omega) u5 (fQ x f k) (y) [Ib Ie y] (λb=>w2.heap.size<b) (λ_=>False) rfl rfl ?aP (λ_ hk=>hk.elim) ?aF ?aO ?aB ?aS ?aL ?_;(case aP=>exact rfl);(case aF=>exact(λb hb=>by have:=aj HI.1;omega));(case aO=>exact HR5.1);(case aB=>exact HB5.1);(case aS=>exact HB5.1.size);(case aL=>have:=HLn.1;have:=HLk.1;have:=HFs.1;omega);intro vap wap ho hb hg hat;have HI3:=MD ((hg.block _ (aj HI.1) (Kd.R_away HR5.1 (λ_ h=>by omega))).trans HI.1);have HX3:=MD (show bq _ _ x from(hg.block _ (aj HX.1) (Kd.R_away HR5.1 (λ_ h=>by have:=HLt.1;omega))).trans HX.1);have HO3:=MD ho;have HB6:=MD hb;clear ho hb hg hat))
       go_roundw
       case rel=>exact⟨k+1,⟨⟨HLk.1,HGi.1,HLt.1,HB6.1,HX3.1,HI3.1,by rw[HS2.1];exact HO3.1⟩⟩⟩
       case measure=>rw[bd HI3.1,bd HI0.1];have:=HLk.1;omega
     .have hs2:=HSt.1
      rw[if_neg c6]at hs2;have HS2:=MD hs2;have e1:(c==65)=Ik:=beq_eq_false_iff_ne.mpr (λe=>c6 (.inl e));have e2:(c==66)=Ik:=beq_eq_false_iff_ne.mpr (λe=>c6 (.inr e));clear hs2 c6;go_wp2;go_roundw
      case rel=>exact⟨k+1,⟨⟨HLk.1,HGi.1,HLt.1,HB5.1,HX.1,HI.1,by rw[HS2.1];exact HR5.1⟩⟩⟩
      case measure=>rw[bd HI.1,bd HI0.1];have:=HLk.1;omega
    .have hnx:=λty=>eC (P:=If) wr w2.heap.size f k ty hi hlt
     obtain rfl:k=f.size:=by omega
     rw[<-HV2.1]at hR;have HBz:=MD hb;have HRz:=MD hR;clear hi hx hb HS hk hgi hlt2 hlt hR;go_wp2;go_ret;exact⟨_,rfl,Kd.R_mono HRz.1 (λk hk=>by have:=HGi.1;omega),HBz.1⟩
theorem DA(x:In)(w:Im)(hG:Gl w):I9 If 56 #[IA x.cells] w λe w'=>∃v,e=Iv v/\Rd (Kd.int .i64) w' v (ce x)/\It w.heap.size w w':=
 (kB x w hG).mono λe w' ⟨v,h1,h3,h4⟩=>⟨v,h1,Rd.of_R h3,h4⟩
def i_(x:In):Int×Bool:=if 4<=x.op/\x.op<=15/\x.op≠14 then(x.d,Ir)else(0,Ik)
theorem vm(x:In)(w:Im):I9 If 100 #[IA x.cells] w λe w'=>e=Iv (IR #[Ib Ie (i_ x).1,Iy (i_ x).2])/\It w.heap.size w w':=by
 rw[kz];unfold i_;by_cases h1:4<=x.op
 .by_cases h2:x.op<=15
  .by_cases h3:x.op=14
   .rw[if_neg (by omega)]
    have q3:(x.op != 14)=Ik:=bne_eq_false_iff_eq.mpr h3;clear h3;go_enter Tryz.func100,Tryz.ntmps100;go_wp2
    go_ret2
    exact⟨rfl,ae (Il _ _) _⟩
   .rw[if_pos ⟨h1,h2,h3⟩]
    have q3:(x.op != 14)=Ir:=bne_iff_ne.mpr h3;clear h3;go_enter Tryz.func100,Tryz.ntmps100;go_wp2
    go_ret2
    exact⟨rfl,ae (Il _ _) _⟩
  .rw[if_neg (by omega)]
   go_enter Tryz.func100,Tryz.ntmps100;go_wp2
   go_ret2
   exact⟨rfl,ae (Il _ _) _⟩
 .rw[if_neg (by omega)]
  go_enter Tryz.func100,Tryz.ntmps100;go_wp2
  go_ret2
  exact⟨rfl,ae (Il _ _) _⟩
theorem cr{P:Jn}{W:Im}{g t:Nat}{L:List Io}(hg:W.heap[g]?=Ic (.cells L.toArray t (0,0)))(ty:Je)(o:Nat)(vs:List Io)(hv:(L.drop o).take vs.length=vs)(d:TypeDesc)(hu:P.underlying ty=Ic d)
  (hd:(match d with|.struct _|.array _ _=>Ir|_=>Ik)=Ir) (hi:(P.info? ty).map (·.size)=Ic vs.length):(Le ty ⟨g,o,Ih⟩).run P W=.ok (IA vs.toArray) W:=by
 refine run_loadVar_mid W g o ty vs d (λj v hj=>?_) hu (by cases d<;>simp_all[TypeDesc.isRow]) hi;rw[ah hg,KV];have hlt:=(Ip.1 hj).1;rw[<-hv,MC hlt,J9]at hj;exact hj
theorem f6{P:Jn}{ops:Array Oper}{rest:List Oper}{o:Oper}{a:Act}{W:Im}{Q:Exit->Act->Im->Prop}(hgd:o.guard=Ih)(ty:Je)(x y:Lf)(ho:o.op=.store ty x y)(g i:Nat)(vs:List Io)
  (hx:a.eval x=Iq (Ic ⟨g,i,Ih⟩)) (hy:a.eval y=IA vs.toArray) (t:Nat) (L:List Io) (hg:W.heap[g]?=Ic (.cells L.toArray t (0,0))) (hi:(P.info? ty).map (·.size)=Ic vs.length) (hl:i+vs.length<=L.length) (h1:∀v∈vs,v.oneCell'=Ir)
  (h:Kg P ops Q rest (a.put o.dst KG) (W.setRow g (L.take i++vs++L.drop (i+vs.length)).toArray)):Kg P ops Q (o::rest) a W:=by
 refine wpList_plain hgd λK hK=>?_;have hr:=run_storeCells_at P g i t vs 0 L.toArray W hg (by simpa using hl) h1;simp only[Nat.add_zero]at hr;have hexec:(JJ a.eval o).run P W=.ok .skip (W.setRow g (L.take i++vs++L.drop (i+vs.length)).toArray):=by
  unfold JJ;cases hq:P.info? ty with
  |none=>simp[hq]at hi
  |some q=>
   have hs:q.size=vs.length:=by simpa[hq]using hi
   simp[ho,hx,hy,Instr.storeAt,Mg,storeVar,sizeOf,typeInfo,hq,hs,Mz,IJ,Jf,hr]
 unfold Oper.wp;rw[hexec];exact hK _ _ h
theorem aR{W:Im}{g t:Nat}{L:List Io}(h:W.heap[g]?=Ic (.cells L.toArray t (0,0)))(i:Nat)(v:Io):(W.setCell ⟨g,i,Ih⟩ v).heap[g]?=Ic (.cells (L.set i v).toArray t (0,0)):=by
 have:=fv h i v;simpa using this
theorem aq{W:Im}{g t:Nat}{L:List Io}(h:W.heap[g]?=Ic (.cells L.toArray t (0,0)))(i:Nat):W.cell? ⟨g,i,Ih⟩=L[i]?:=by
 rw[ah h,KV]
def cL(x:In)(at_:Int):List Int:=if x.op=18 then []else if x.op=17 then [x.jt,at_+1]else [at_+1]
structure PSt where
 at_:Nat
 t:List Sr
 steps:Nat
 met:List Bool
def fol(f:List In)(s:PSt):Option PSt:=
 match f[s.at_]? with
 |none=>Ih
 |some x=>if x.moves=Ik\/s.met.getD s.at_ Ir=Ir then Ih else Ic ⟨if x.op=16 then x.jt.toNat else s.at_+1,dS s.t x,s.steps+1,s.met.set s.at_ Ir⟩
def dM(s:PSt):List Io:=Ib Ie (s.at_:Int)::(s.t.map Sr.v++[Ib Ie (s.steps:Int)])
def dd(W:Im)(g:Nat)(s:PSt):Prop:=W.heap[g]?=Ic (.cells (dM s).toArray 101 (0,0))/\s.t.length=24
def e_(W:Im)(g:Nat)(m:List Bool):Prop:=W.heap[g]?=Ic (.cells (m.map Iy).toArray 162 (0,0))/\m.length=200
theorem FW{s:PSt}(h:s.t.length=24):(dM s).length=26:=by simp[dM,h]
theorem FU{s:PSt}(h:s.t.length=24):((dM s).drop 1).take 24=s.t.map Sr.v:=by
 unfold dM;rw[List.drop_one,List.tail_cons,Kx (by simp[h]),List.take_of_length_le (by simp[h])]
theorem qh{s:PSt}(h:s.t.length=24):(dM s)[25]?=Ic (Ib Ie (s.steps:Int)):=by
 unfold dM;rw[Kc,IW (by simp[h])];simp[h]
theorem FV{s:PSt}(h:s.t.length=24)(t':List Sr)(h':t'.length=24):(dM s).take 1++t'.map Sr.v++(dM s).drop (1+24)=dM ⟨s.at_,t',s.steps,s.met⟩:=by
 unfold dM;rw[List.take_succ_cons,List.take_zero,show 1+24=24+1 from rfl,List.drop_succ_cons,MA (by simp[h]),Ju (by simp[h])];simp
theorem Df{s:PSt}(h:s.t.length=24)(n:Nat):(dM s).set 25 (Ib Ie (n:Int))=dM ⟨s.at_,s.t,n,s.met⟩:=by
 unfold dM;rw[IZ,List.set_append_right _ _ (by simp[h])];simp[h]
theorem EJ(s:PSt)(n:Nat):(dM s).set 0 (Ib Ie (n:Int))=dM ⟨n,s.t,s.steps,s.met⟩:=rfl
theorem EO(m:List Bool)(i:Nat):(m.map Iy).set i (Iy Ir)=(m.set i Ir).map Iy:=by rw[List.map_set]
theorem FT(T:List Sr):∀v∈T.map Sr.v,v.oneCell'=Ir:=by
 intro v hv;obtain⟨s,_,rfl⟩:=JM.1 hv;exact s.one
def iQ(f:List In)(s:PSt)(gp gm:Nat)(w:Im)(e:Ending)(w':Im):Prop:=
 match fol f s with
 |none=>e=Iv (Iy Ik)/\It w.heap.size w w'
 |some s'=>e=Iv (Iy Ir)/\Fr (λk=>k=gp\/k=gm) w w'/\dd w' gp s'/\e_ w' gm s'.met
theorem vv{f:List In}{s:PSt}{x:In}{gp gm:Nat}{w w':Im}{e:Ending}(hx:f[s.at_]?=Ic x)(h:x.moves=Ik\/s.met.getD s.at_ Ir=Ir)(he:e=Iv (Iy Ik))(hb:It w.heap.size w w'):iQ f s gp gm w e w':=by
 unfold iQ fol;rw[hx];simp only[if_pos h];exact⟨he,hb⟩
theorem vu{f:List In}{s:PSt}{x:In}{gp gm:Nat}{w w':Im}{e:Ending}(hx:f[s.at_]?=Ic x)(h1:x.moves=Ir)(h2:s.met.getD s.at_ Ir=Ik){k:Nat}(hk:k=if x.op=16 then x.jt.toNat else s.at_+1)
  (he:e=Iv (Iy Ir)) (hfr:Fr (λk=>k=gp\/k=gm) w w') (hp:dd w' gp ⟨k,dS s.t x,s.steps+1,s.met.set s.at_ Ir⟩) (hm:e_ w' gm (s.met.set s.at_ Ir)):iQ f s gp gm w e w':=by
 unfold iQ fol;rw[hx];have hn:¬(x.moves=Ik\/s.met.getD s.at_ Ir=Ir):=by rw[h1,h2];decide
 simp only[if_neg hn];subst hk;exact⟨he,hfr,hp,hm⟩
theorem y9{t':List Sr}(h:t'.length=24):(If.info? 99).map (·.size)=Ic (t'.map Sr.v).length:=by rw[Jb,h];exact lB
theorem dd.load{w:Im}{g:Nat}{s:PSt}(h:dd w g s):(Le 99 ⟨g,1,Ih⟩).run If w=.ok (IA (aw s.t)) w:=
 cr h.1 99 1 (s.t.map Sr.v) (by rw[Jb,h.2];exact FU h.2) _ IU rfl (y9 h.2)
theorem dd.row{w:Im}{g:Nat}{s:PSt}(h:dd w g s){t':List Sr}(h':t'.length=24):dd (w.setRow g (dM ⟨s.at_,t',s.steps,s.met⟩).toArray) g ⟨s.at_,t',s.steps,s.met⟩:=⟨JX w g _ _ 101 _ h.1,h'⟩
theorem dd.far{w:Im}{g:Nat}{s:PSt}(h:dd w g s){p:Addr}(hp:g≠p.block)(u:Io):dd (w.setCell p u) g s:=⟨bp h.1 hp u,h.2⟩
theorem dd.below{w w':Im}{g:Nat}{s:PSt}(h:dd w g s){B:Nat}(hb:It B w w')(hg:g<B):dd w' g s:=⟨(hb.block g hg).trans h.1,h.2⟩
theorem dd.set25{w:Im}{g:Nat}{s:PSt}(h:dd w g s)(n:Nat):dd (w.setCell ⟨g,25,Ih⟩ (Ib Ie (n:Int))) g ⟨s.at_,s.t,n,s.met⟩:=⟨(aR h.1 25 _).trans (by rw[Df h.2]),h.2⟩
theorem dd.set0{w:Im}{g:Nat}{s:PSt}(h:dd w g s)(n:Nat):dd (w.setCell ⟨g,0,Ih⟩ (Ib Ie (n:Int))) g ⟨n,s.t,s.steps,s.met⟩:=⟨(aR h.1 0 _).trans (by rw[EJ]),h.2⟩
theorem e_.far{w:Im}{g:Nat}{m:List Bool}(h:e_ w g m){p:Addr}(hp:g≠p.block)(u:Io):e_ (w.setCell p u) g m:=⟨bp h.1 hp u,h.2⟩
theorem e_.row{w:Im}{g g':Nat}{m:List Bool}(h:e_ w g m)(hp:g≠g')(cs:Array Io):e_ (w.setRow g' cs) g m:=⟨(setRow_other w g' g cs hp).trans h.1,h.2⟩
theorem e_.below{w w':Im}{g:Nat}{m:List Bool}(h:e_ w g m){B:Nat}(hb:It B w w')(hg:g<B):e_ w' g m:=⟨(hb.block g hg).trans h.1,h.2⟩
theorem e_.put{w:Im}{g:Nat}{m:List Bool}(h:e_ w g m)(i:Nat):e_ (w.setCell ⟨g,i,Ih⟩ (Iy Ir)) g (m.set i Ir):=⟨(aR h.1 i _).trans (by rw[EO]),by rw[Jq];exact h.2⟩
theorem jw{ops:Array Oper}{rest:List Oper}{o:Oper}{a:Act}{W:Im}{Q:Exit->Act->Im->Prop}(hgd:o.guard=Ih)(x y:Lf)(ho:o.op=.store 99 x y)(g:Nat)(s:PSt)(t':List Sr)
  (hx:a.eval x=Iq (Ic ⟨g,1,Ih⟩)) (hy:a.eval y=IA (aw t')) (hp:dd W g s) (h':t'.length=24)
  (h:Kg If ops Q rest (a.put o.dst KG) (W.setRow g (dM ⟨s.at_,t',s.steps,s.met⟩).toArray)):Kg If ops Q (o::rest) a W:=by
 refine f6 hgd 99 x y ho g 1 (t'.map Sr.v) hx hy 101 (dM s) hp.1 (y9 h') (by rw[FW hp.2,Jb,h'];decide) (FT t') ?_;rw[Jb,h',FV hp.2 t' h'];exact h
theorem uE(f:List In)(s:PSt)(gf gp gm:Nat)(A:Option Addr)(c:Nat)(w:Im)(hl:f.length<=200)(hat:s.at_<f.length)(hst:s.steps<=1000)(x:In)(hx:f[s.at_]?=Ic x)(hj:x.op=16->0<=x.jt)
  (hf:w.heap[gf]?=Ic (.cells #[Ia A f.length c] 22 (0,0))) (hC:Kd.C kIn w A f.length f) (hp:dd w gp s) (hm:e_ w gm s.met) :
  I9 If 69 #[Iq (Ic ⟨gf,0,Ih⟩),Iq (Ic ⟨gp,0,Ih⟩),Iq (Ic ⟨gm,0,Ih⟩)] w (iQ f s gp gm w):=by
 have hne:gp≠gm:=λe=>by have h1:=hp.1;have h2:=hm.1;rw[e,h2]at h1;injection h1 with h1;injection h1 with _ h1;exact absurd h1 (by decide)
 obtain⟨p,t,st,m⟩:=s;simp only at hat hst hx hm;have c1:=(show w.cell? ⟨gf,0,Ih⟩=Ic (.slice A f.length c) by rw[ah hf];rfl);have c2:=(show w.cell? ⟨gp,0,Ih⟩=Ic (Ib Ie (p:Int)) by rw[aq hp.1];rfl);obtain⟨ad,rfl,d0,d1,d2,d3,d4,d5⟩:=nK hC p hat x hx;have hpm:m[p]?=Ic (m.getD p Ir):=by rw[Ij,Ig (by rw[hm.2];omega)];rfl
 obtain⟨b,hb⟩:=ME (m.getD p Ir);rw[<-hb]at hpm;have c3:w.cell? ⟨gm,p,Ih⟩=Ic (.bool b):=by rw[aq hm.1,IK,hpm];rfl
 have hp200:(p:Int)<200:=by omega
 have hpl:(p:Int)<(f.length:Int):=by omega
 have L1:=MD (aj hp.1);have L2:=MD (aj hm.1);have HX:=MD hx;have HP:=MD hp;have HM:=MD hm;have HNe:=MD hne;have HBb:=MD hb;have HJ:=MD hj;obtain⟨mv,hmv⟩:=ME x.moves;have hcm:=oQ x;rw[<-hmv]at hcm;have HCm:=MD hcm;have HMv:=MD hmv;have hst':(st:Int)<=1000:=by omega
 clear hf hC hp hm hx hne hb hj hmv hcm hpm hat;cases mv with
 |false=>
  go_enter Tryz.func69,Tryz.ntmps69;go_wp2_with (first|(go_at_call 66;refine(HCm.1 _).mono ?_;rintro e w1 ⟨rfl,hb⟩;have B1:=MD (af (ae (Il w.heap.size w) (Is x.cells 49 (0,0))) hb);have KX:=MD (show bq w1 w.heap.size x from bq.below (show bq (w.alloc (Is x.cells 49 (0,0))) w.heap.size x from Iu w _) hb);have KP:aa (dd w1 gp ⟨p,t,st,m⟩):=⟨(B1.1.block _ L1.1).trans HP.1.1,HP.1.2⟩;have KM:aa (e_ w1 gm m):=⟨(B1.1.block _ L2.1).trans HM.1.1,HM.1.2⟩;have e2:=(B1.1.cell (p:=⟨gp,0,Ih⟩) L1.1).trans c2;have e3:=(B1.1.cell (p:=⟨gm,p,Ih⟩) L2.1).trans c3));go_ret;exact vv HX.1 (.inl HMv.1.symm) rfl B1.1
 |true=>
  cases b with
  |true=>
   go_enter Tryz.func69,Tryz.ntmps69;go_wp2_with (first|(go_at_call 66;refine(HCm.1 _).mono ?_;rintro e w1 ⟨rfl,hb⟩;have B1:=MD (af (ae (Il w.heap.size w) (Is x.cells 49 (0,0))) hb);have KX:=MD (show bq w1 w.heap.size x from bq.below (show bq (w.alloc (Is x.cells 49 (0,0))) w.heap.size x from Iu w _) hb);have KP:aa (dd w1 gp ⟨p,t,st,m⟩):=⟨(B1.1.block _ L1.1).trans HP.1.1,HP.1.2⟩;have KM:aa (e_ w1 gm m):=⟨(B1.1.block _ L2.1).trans HM.1.1,HM.1.2⟩;have e2:=(B1.1.cell (p:=⟨gp,0,Ih⟩) L1.1).trans c2;have e3:=(B1.1.cell (p:=⟨gm,p,Ih⟩) L2.1).trans c3));go_ret;exact vv HX.1 (.inr HBb.1.symm) rfl B1.1
  |false=>
   have HA:=MD (Cm t HP.1.2 x);have HL:=MD (mK x HP.1.2);obtain⟨t',ht'⟩:∃t',t'=dS t x:=⟨_,rfl⟩;rw[<-ht']at HA HL;have HT:=MD ht';clear ht';by_cases h16:x.op=16
   .have q16:(x.op==16)=Ir:=beq_iff_eq.mpr h16
    have J:=MD (HJ.1 h16);have H16:=MD h16;clear h16;go_enter Tryz.func69,Tryz.ntmps69;go_wp2_with (first
     |(go_at_call 66;refine(HCm.1 _).mono ?_;rintro e w1 ⟨rfl,hb⟩;have B1:=MD (af (ae (Il w.heap.size w) (Is x.cells 49 (0,0))) hb);have KX:=MD (show bq w1 w.heap.size x from bq.below (show bq (w.alloc (Is x.cells 49 (0,0))) w.heap.size x from Iu w _) hb);have KP:aa (dd w1 gp ⟨p,t,st,m⟩):=⟨(B1.1.block _ L1.1).trans HP.1.1,HP.1.2⟩;have KM:aa (e_ w1 gm m):=⟨(B1.1.block _ L2.1).trans HM.1.1,HM.1.2⟩;have e2:=(B1.1.cell (p:=⟨gp,0,Ih⟩) L1.1).trans c2;have e3:=(B1.1.cell (p:=⟨gm,p,Ih⟩) L2.1).trans c3;clear hb;have f3:=au KM.1.1 p)
     |((with_reducible refine ai (N:=23) rfl ?_);have Z:=HNe.1;have Z1:=L1.1;have Z2:=L2.1;have KP2:=MD (KP.1.far (p:=⟨gm,p,Ih⟩) Z (Iy Ir));have KM2:=MD (KM.1.put p);have KX2:=MD (KX.1.far (p:=⟨gm,p,Ih⟩) (LS Z2) (Iy Ir));refine av rfl 99 _ rfl ⟨gp,1,Ih⟩ rfl _ KP2.1.load ?_;clear Z Z1 Z2)
     |((with_reducible refine ai (N:=24) rfl ?_);refine II rfl 49 _ rfl w.heap.size rfl 49 x.cells (0,0) _ KX2.1 I6 rfl bU ?_)
     |(go_at_call 70;refine(HA.1 _).mono ?_;rintro e w3 ⟨rfl,hb⟩;have Z1:=L1.1;have Z2:=L2.1;have Z3:=B1.1.size;have B3:=MD hb;have KP3:=MD (KP2.1.below hb (aj KP2.1.1));have KM3:=MD (KM2.1.below hb (aj KM2.1.1));have KX3:=MD (KX2.1.below hb);clear hb Z1 Z2 Z3)
     |((with_reducible refine ap (t:=99) (p:=26) rfl ?_);refine jw rfl _ _ rfl gp ⟨p,t,st,m⟩ t' rfl rfl KP3.1 HL.1 ?_;have Z:=HNe.1;have Z1:=L1.1;have KP4:=MD (KP3.1.row HL.1);have KM4:=MD (KM3.1.row (Ne.symm Z) (dM ⟨p,t',st,m⟩).toArray);have KX4:=MD (KX3.1.row (LS Z1) (dM ⟨p,t',st,m⟩).toArray);have f0:=au KP4.1.1 0;have f25:=au KP4.1.1 25;have g0:=(show My _ ⟨gp,0,Ih⟩=Ic (Ib Ie (p:Int)) by rw[aq KP4.1.1];rfl);have g25:=(show My _ ⟨gp,25,Ih⟩=Ic (Ib Ie (st:Int)) by rw[aq KP4.1.1];exact qh KP4.1.2);have x0:=KX4.1.cells6.1;have x5:=KX4.1.cells6.2.2.2.2.2;have hne0:w.heap.size≠gp:=(LS Z1);clear Z Z1))
    go_ret;refine vu HX.1 HMv.1.symm HBb.1.symm (k:=x.jt.toNat) (by rw[if_pos H16.1]) rfl (((((((Fr.of_below B1.1).trans (Fr.cell (p:=⟨gm,p,Ih⟩) (.inr rfl) _)).trans (Fr.of_below B3.1)).trans (Fr.row (.inl rfl) _)).trans (Fr.cell (p:=⟨gp,25,Ih⟩) (.inl rfl) _)).trans (Fr.cell (p:=⟨gp,0,Ih⟩) (.inl rfl) _)).trans (Fr.cell (p:=⟨gp,0,Ih⟩) (.inl rfl) _)) ?_ (((KM4.1.far (p:=⟨gp,25,Ih⟩) (Ne.symm HNe.1) _).far (p:=⟨gp,0,Ih⟩) (Ne.symm HNe.1) _).far (p:=⟨gp,0,Ih⟩) (Ne.symm HNe.1) _);have hh:=((KP4.1.set25 (st+1)).set0 (p+1)).set0 x.jt.toNat;rw[Int.toNat_of_nonneg J.1,HT.1]at hh;rw[HT.1];exact hh
   .have q16:(x.op==16)=Ik:=beq_eq_false_iff_ne.mpr h16
    have H16:=MD h16;clear h16;go_enter Tryz.func69,Tryz.ntmps69;go_wp2_with (first
     |(go_at_call 66;refine(HCm.1 _).mono ?_;rintro e w1 ⟨rfl,hb⟩;have B1:=MD (af (ae (Il w.heap.size w) (Is x.cells 49 (0,0))) hb);have KX:=MD (show bq w1 w.heap.size x from bq.below (show bq (w.alloc (Is x.cells 49 (0,0))) w.heap.size x from Iu w _) hb);have KP:aa (dd w1 gp ⟨p,t,st,m⟩):=⟨(B1.1.block _ L1.1).trans HP.1.1,HP.1.2⟩;have KM:aa (e_ w1 gm m):=⟨(B1.1.block _ L2.1).trans HM.1.1,HM.1.2⟩;have e2:=(B1.1.cell (p:=⟨gp,0,Ih⟩) L1.1).trans c2;have e3:=(B1.1.cell (p:=⟨gm,p,Ih⟩) L2.1).trans c3;clear hb;have f3:=au KM.1.1 p)
     |((with_reducible refine ai (N:=23) rfl ?_);have Z:=HNe.1;have Z1:=L1.1;have Z2:=L2.1;have KP2:=MD (KP.1.far (p:=⟨gm,p,Ih⟩) Z (Iy Ir));have KM2:=MD (KM.1.put p);have KX2:=MD (KX.1.far (p:=⟨gm,p,Ih⟩) (LS Z2) (Iy Ir));refine av rfl 99 _ rfl ⟨gp,1,Ih⟩ rfl _ KP2.1.load ?_;clear Z Z1 Z2)
     |((with_reducible refine ai (N:=24) rfl ?_);refine II rfl 49 _ rfl w.heap.size rfl 49 x.cells (0,0) _ KX2.1 I6 rfl bU ?_)
     |(go_at_call 70;refine(HA.1 _).mono ?_;rintro e w3 ⟨rfl,hb⟩;have Z1:=L1.1;have Z2:=L2.1;have Z3:=B1.1.size;have B3:=MD hb;have KP3:=MD (KP2.1.below hb (aj KP2.1.1));have KM3:=MD (KM2.1.below hb (aj KM2.1.1));have KX3:=MD (KX2.1.below hb);clear hb Z1 Z2 Z3)
     |((with_reducible refine ap (t:=99) (p:=26) rfl ?_);refine jw rfl _ _ rfl gp ⟨p,t,st,m⟩ t' rfl rfl KP3.1 HL.1 ?_;have Z:=HNe.1;have Z1:=L1.1;have KP4:=MD (KP3.1.row HL.1);have KM4:=MD (KM3.1.row (Ne.symm Z) (dM ⟨p,t',st,m⟩).toArray);have KX4:=MD (KX3.1.row (LS Z1) (dM ⟨p,t',st,m⟩).toArray);have f0:=au KP4.1.1 0;have f25:=au KP4.1.1 25;have g0:=(show My _ ⟨gp,0,Ih⟩=Ic (Ib Ie (p:Int)) by rw[aq KP4.1.1];rfl);have g25:=(show My _ ⟨gp,25,Ih⟩=Ic (Ib Ie (st:Int)) by rw[aq KP4.1.1];exact qh KP4.1.2);have x0:=KX4.1.cells6.1;have x5:=KX4.1.cells6.2.2.2.2.2;have hne0:w.heap.size≠gp:=(LS Z1);clear Z Z1))
    go_ret;refine vu HX.1 HMv.1.symm HBb.1.symm (k:=p+1) (by rw[if_neg H16.1]) rfl ((((((Fr.of_below B1.1).trans (Fr.cell (p:=⟨gm,p,Ih⟩) (.inr rfl) _)).trans (Fr.of_below B3.1)).trans (Fr.row (.inl rfl) _)).trans (Fr.cell (p:=⟨gp,25,Ih⟩) (.inl rfl) _)).trans (Fr.cell (p:=⟨gp,0,Ih⟩) (.inl rfl) _)) ?_ ((KM4.1.far (p:=⟨gp,25,Ih⟩) (Ne.symm HNe.1) _).far (p:=⟨gp,0,Ih⟩) (Ne.symm HNe.1) _);have hh:=(KP4.1.set25 (st+1)).set0 (p+1);rw[HT.1]at hh;rw[HT.1];exact hh
structure CD(n:Int)(x:In):Prop where
 op:1<=x.op/\x.op<=18
 d:0<=x.d/\x.d<=23
 a:0<=x.a/\x.a<=23
 b:0<=x.b/\x.b<=23
 jt:x.op=16\/x.op=17->0<=x.jt/\x.jt<n
 call:x.op=15->0<=x.n/\x.n<=99
theorem GL{n:Int}{x:In}(h:cy x n=0):CD n x:=by
 unfold cy at h;split at h
 .exact absurd h (by decide)
 .rename_i hb
  obtain⟨op,d,a,b,k,jt⟩:=x;have hop:kY op=Ir:=by
   cases ho:kY op with
   |true=>rfl
   |false=>exact absurd (by unfold mz;simp[ho]) hb
  have hop2:1<=op/\op<=18:=of_decide_eq_true hop;have hr:ja ⟨op,d,a,b,k,jt⟩ (shF op)=In.zero:=by
   unfold mz at hb;simp only[Mb,not_or,Bool.not_eq_true,Bool.not_eq_false',decide_eq_true_eq]at hb;exact hb.2.1
  have hc:op=15->0<=k/\k<=99:=by
   intro h15;unfold mz at hb;simp only[Mb,not_or,Bool.not_eq_true,Bool.and_eq_false_imp,Bool.or_eq_false_iff,decide_eq_false_iff_not]at hb;have:=hb.2.2 (by simp[h15]);omega
  have key:∀(l:List Int) (F:ByteArray),shF op=F->bl F 0=l->ib ⟨op,d,a,b,k,jt⟩ n l Ik=0:=by
   intro l F e1 e2;rw[<-e2,<-e1];exact h
  clear h hb hop;obtain⟨o,rfl⟩:∃o:Nat,op=(o:Int):=⟨op.toNat,by omega⟩;have ho:o=1\/o=2\/o=3\/o=4\/o=5\/o=6\/o=7\/o=8\/o=9\/o=10\/o=11\/o=12\/o=13\/o=14\/o=15\/o=16\/o=17\/o=18:=by omega
  rcases ho with rfl|rfl|rfl|rfl|rfl|rfl|rfl|rfl|rfl|rfl|rfl|rfl|rfl|rfl|rfl|rfl|rfl|rfl
  all_goals first
   |have k1:=key [100,78] _ rfl (by decide)
   |have k1:=key [100,97] _ rfl (by decide)
   |have k1:=key [68,65,66] _ rfl (by decide)
   |have k1:=key [68,65] _ rfl (by decide)
   |have k1:=key [65,66] _ rfl (by decide)
   |have k1:=key [68,65,78] _ rfl (by decide)
   |have k1:=key [84] _ rfl (by decide)
   |have k1:=key [65,84] _ rfl (by decide)
   |have k1:=key [65] _ rfl (by decide)
  all_goals
   clear key;simp[ib,ez,In.get,inR,jG]at k1
   first
    |have hr1:(⟨0,0,a,b,0,jt⟩:In)=In.zero:=hr
    |have hr1:(⟨0,0,0,b,k,jt⟩:In)=In.zero:=hr
    |have hr1:(⟨0,0,0,0,k,jt⟩:In)=In.zero:=hr
    |have hr1:(⟨0,d,0,0,k,jt⟩:In)=In.zero:=hr
    |have hr1:(⟨0,0,0,b,0,jt⟩:In)=In.zero:=hr
    |have hr1:(⟨0,d,a,b,k,0⟩:In)=In.zero:=hr
    |have hr1:(⟨0,d,0,b,k,0⟩:In)=In.zero:=hr
    |have hr1:(⟨0,d,0,b,k,jt⟩:In)=In.zero:=hr
   simp only[In.zero,In.mk.injEq]at hr1;clear hr;refine⟨?_,?_,?_,?_,?_,?_⟩<;>simp only[]<;>omega
theorem oU{n:Int}:∀(f:List In) (i:Nat),eu n f i=Ih->∀x∈f,cy x n=0
 | [],_,_,x,hx=>absurd hx (JE)
 |y::f,i,h,x,hx=>by
  unfold eu at h;split at h
  .rename_i h0
   rcases I7.1 hx with rfl|hx
   .exact h0
   .exact oU f (i+1) h x hx
  .exact absurd h (by simp)
theorem oT{n:Int}:∀(f:List In) (i:Nat) (r:Int×Int),eu n f i=Ic r->r.2≠0
 | [],_,r,h=>absurd h (by simp[eu])
 |y::f,i,r,h=>by
  unfold eu at h;split at h
  .exact oT f (i+1) r h
  .rename_i h0
   injection h with h
   subst h;exact h0
structure dQ(f:List In):Prop where
 len:f.length<=200
 pos:0<f.length
 ok:∀(i:Nat) (x:In),f[i]?=Ic x->CD f.length x
 last:eI f=16\/eI f=18
theorem bu{f:List In}(h:bi f=Ir):dQ f:=by
 unfold bi cz at h;by_cases h1:200<f.length
 .rw[if_pos h1]at h;exact absurd h (by decide)
 .rw[if_neg h1]at h
  by_cases h2:f.length=0
  .rw[if_pos h2]at h;exact absurd h (by decide)
  .rw[if_neg h2]at h
   cases hc:eu f.length f 0 with
   |some r=>
    rw[hc]at h;exact absurd (beq_iff_eq.1 h) (oT f 0 r hc)
   |none=>
    rw[hc]at h;simp only at h;refine⟨by omega,by omega,λi x hx=>GL (oU f 0 hc x (Iw hx)),?_⟩;by_cases h3:eI f≠16/\eI f≠18
    .rw[if_pos h3]at h;exact absurd (beq_iff_eq.1 h) (by show ¬(5:Int)=0;decide)
    .omega
theorem dQ.next{f:List In}(h:dQ f){i:Nat}{x:In}(hx:f[i]?=Ic x)(h1:x.op≠16)(h2:x.op≠18):i+1<f.length:=by
 obtain⟨hi,e⟩:=Ip.1 hx;by_cases h3:i=f.length-1
 .have hl:=h.last
  unfold eI at hl;rw[<-h3,Ij,hx]at hl;simp only[JL]at hl;omega
 .omega
def eo:Nat->List In->PSt->PSt
 |0,_,s=>s
 |n+1,f,s=>match fol f s with
  |none=>s
  |some s'=>eo n f s'
def jg(at_:Nat):PSt:=⟨at_,first,0,IF 200 Ik⟩
def iN(f:List In)(at_:Nat):PSt:=eo 201 f (jg at_)
structure iC(f:List In)(at0:Nat)(s:PSt):Prop where
 at_:s.at_<f.length
 t:s.t.length=24
 len:s.met.length=200
 steps:s.steps=s.met.count Ir
 run:eo (201-s.steps) f s=iN f at0
theorem iC.bound{f:List In}{a:Nat}{s:PSt}(h:iC f a s):s.steps<=200:=by
 rw[h.steps,<-h.len];exact List.count_le_length
theorem iC.init{f:List In}{a:Nat}(h:a<f.length):iC f a (jg a):=⟨h,rfl,JP,by simp[jg,List.count_replicate],rfl⟩
theorem po{f:List In}{s s':PSt}(h:fol f s=Ic s'):∃x,f[s.at_]?=Ic x/\x.moves=Ir/\s.met.getD s.at_ Ir=Ik/\s'=⟨if x.op=16 then x.jt.toNat else s.at_+1,dS s.t x,s.steps+1,s.met.set s.at_ Ir⟩:=by
 unfold fol at h;split at h
 .exact absurd h (by simp)
 .rename_i x hx
  split at h
  .exact absurd h (by simp)
  .rename_i hn
   refine⟨x,hx,?_,?_,?_⟩
   .cases hm:x.moves<;>simp[hm]at hn ⊢
   .cases hm:s.met.getD s.at_ Ir with
    |false=>rfl
    |true=>exact absurd (.inr hm) hn
   .injection h with h;exact h.symm
theorem iC.step{f:List In}(hr:dQ f){a:Nat}{s s':PSt}(h:iC f a s)(hs:fol f s=Ic s'):iC f a s':=by
 obtain⟨x,hx,hm,hn,rfl⟩:=po hs;have hok:=hr.ok _ x hx;have hlt:=h.at_;have hl200:=hr.len;have hmet:s.met[s.at_]?=Ic Ik:=by
  rw[Ij]at hn;rw[Ig (by rw[h.len];omega)]at hn ⊢;exact congrArg Ic hn
 obtain⟨hi,hg⟩:=Ip.1 hmet;have hcnt:(s.met.set s.at_ Ir).count Ir=s.met.count Ir+1:=by
  rw[List.count_set hi,hg];simp
 have hb:s.steps+1<=200:=by
  have h2:(s.met.set s.at_ Ir).count Ir<=(s.met.set s.at_ Ir).length:=List.count_le_length;rw[Jq,h.len,hcnt,<-h.steps]at h2;exact h2
 refine⟨?_,mK x h.t,by simpa using h.len,by simp only[hcnt,h.steps],?_⟩
 .simp only
  split
  .rename_i h16
   have:=hok.jt (.inl h16);omega
  .rename_i h16
   refine hr.next hx h16 (λh18=>?_);unfold In.moves at hm;simp[h18]at hm
 .simp only
  have:=h.run;rw[show 201-s.steps=(201-(s.steps+1))+1 by omega,eo,hs]at this;exact this
theorem iC.done{f:List In}{a:Nat}{s:PSt}(h:iC f a s)(hs:fol f s=Ih):s=iN f a:=by
 have:=h.run;have hb:=h.bound;rw[show 201-s.steps=(201-(s.steps+1))+1 by omega,eo,hs]at this;exact this
structure Pth where
 jt:Int
 t:List Sr
 steps:Int
def Pth.cells(p:Pth):List Io:=Ib Ie p.jt::(p.t.map Sr.v++[Ib Ie p.steps])
def bT(f:List In)(a:Nat):Pth:=let s:=iN f a;if s.met.getD s.at_ Ir=Ir then⟨-1,first,0⟩else⟨s.at_,s.t,s.steps⟩
theorem DI(vs:List Io)(off:Nat):∀(k:Nat) (cs:Array Io) (i:Nat),((vs.zipIdx k).foldl (λcs (p:Io×Nat)=>cs.setIfInBounds (off+p.2) p.1) cs)[i]?=if off+k<=i/\i<off+k+vs.length/\i<cs.size then vs[i-(off+k)]? else cs[i]?:=by
 induction vs with
 |nil=>intro k cs i;simp;omega
 |cons v vs ih=>
  intro k cs i;rw[List.zipIdx_cons,Ml,ih];simp only[Array.size_setIfInBounds,Jz];by_cases h1:i=off+k
  .subst h1
   rw[if_neg (by omega)];by_cases h2:off+k<cs.size
   .rw[if_pos (by omega)]
    simp[h2]
   .rw[if_neg (by omega)]
    rw[LB (by simp;omega),LB (by omega)]
  .by_cases h2:off+(k+1)<=i/\i<off+(k+1)+vs.length/\i<cs.size
   .rw[if_pos h2,if_pos (by omega),show i-(off+k)=(i-(off+(k+1)))+1 by omega,Kc]
   .rw[if_neg h2,if_neg (by omega),Kf (by omega)]
theorem vt(vs:List Io)(off:Nat)(cs:List Io)(h:off+vs.length<=cs.length):vs.toArray.zipIdx.foldl (λcs (p:Io×Nat)=>cs.setIfInBounds (off+p.2) p.1) cs.toArray=(cs.take off++vs++cs.drop (off+vs.length)).toArray:=by
 apply Array.ext_getElem?;intro i;have h0:vs.toArray.zipIdx.foldl (λcs (p:Io×Nat)=>cs.setIfInBounds (off+p.2) p.1) cs.toArray=(vs.zipIdx 0).foldl (λcs (p:Io×Nat)=>cs.setIfInBounds (off+p.2) p.1) cs.toArray:=by simp
 rw[h0,DI];simp only[Nat.add_zero,I8,KV];by_cases h1:i<off
 .rw[if_neg (by omega),Kv,Jg (by simp;omega),MC h1]
 .by_cases h2:i<off+vs.length
  .rw[if_pos (by omega),Kv,IW (by simp;omega),Jg (by simp;omega)]
   simp;congr 1;omega
  .rw[if_neg (by omega),IW (by simp;omega),J9]
   congr 1;simp;omega
theorem jq(place:Nat->Option (Nat×Nat))(cs:List Io)(i off size:Nat)(vs:List Io)(rest:List (Nat×Io))(hp:place i=Ic (off,size))(hs:vs.length=size)(hl:off+size<=cs.length) :
  Ll place cs.toArray ((i,IA vs.toArray)::rest)=Ll place (cs.take off++vs++cs.drop (off+vs.length)).toArray rest:=by
 have hc:(Io.agg vs.toArray).cells=vs.toArray:=rfl
 conv=>lhs;unfold Ll
 simp only[hp,hc];rw[if_neg (by simp;omega)];exact congrArg (λz=>Ll place z rest) (vt vs off cs (by omega))
theorem aU{P:Jn}{ops:Array Oper}{rest:List Oper}{o:Oper}{a:Act}{w:Im}{Q:Exit->Act->Im->Prop}(hg:o.guard=Ih)(t:Je)(parts:Array (Nat×Lf))(ho:o.op=.build t parts)(L:List (Nat×Io))(cells:Array Io)
  (hL0:(parts.toList.map λp=>(p.1,a.eval p.2))=L) (hb:P.built t L=Ic cells) (h:Kg P ops Q rest (a.put o.dst (IA cells)) w):Kg P ops Q (o::rest) a w:=by
 have hL:(parts.map λ(i,x)=>(i,a.eval x)).toList=L:=by rw[Array.toList_map];exact hL0
 refine wpList_build hg t parts ho (by rw[hL,hb];rfl) ?_;rw[hL,hb];exact h
theorem yh(n:Int)(T:List Sr)(h:T.length=24):If.built 101 [(0,Ib Ie n),(1,IA (aw T))]=Ic (Pth.cells ⟨n,T,0⟩).toArray:=by
 have h1:If.built 101 [(0,Ib Ie n),(1,IA (aw T))]=Ll (#[(0,1),(1,24),(25,1)][·]?) (Ib Ie n::(bE.map Sr.v++[Ib Ie 0])).toArray [(1,IA (T.map Sr.v).toArray)]:=by rfl
 rw[h1,jq _ _ 1 1 24 (T.map Sr.v) [] rfl (by simp[h]) (by simp[bE])];simp[Ll,Pth.cells,h,bE]
theorem ar{P:Jn}{c:Code}{Q:Exit->Act->Im->Prop}{a:Act}{W W':Im}(h:W=W')(k:Code.wp P c Q a W'):Code.wp P c Q a W:=h▸k
end Go.Proofs.YtlinbehijfcelaaGreatDoor.Top
