/- The answers about a chain of three joinery programs hold: parse, check, decide, print, as the statement says. -/
import Derived.Test.YtlinbehijfcelaaGreatDoorPR
import Derived.ShutString
import Derived.ChangeOld
import Derived.SevenTiedAt
import Derived.Test.YtlinbehijfcelaaGreatDoorTie
import Derived.Test.YtlinbehijfcelaaGreatDoorCards
set_option linter.unusedVariables false
set_option linter.unusedSimpArgs false
set_option linter.unusedSectionVars false
set_option maxHeartbeats 8000000
set_option maxRecDepth 100000
namespace Go.Proofs.YtlinbehijfcelaaGreatDoor.Top
open Go.RowKit Go.Proofs.YtlinbehijfcelaaGreatDoorW.PrintWords Go.Proofs.YtlinbehijfcelaaGreatDoorW.PrintLast
section
open Go.ChangeShapes Go.WideShapes Go.ChangeAt Go.WideElems
theorem own:ownKnob Tryz.prog.godebug=none:=by kernel_rfl
theorem q9:laidOutB Tryz.prog=true:=by kernel_rfl
theorem As (os:Os) (args:Array Value):laidMetH Tryz.prog sA ((World.doorLaid Tryz.prog 400 os).forCall (fun _ _=>0) ⟨#[],args,[]⟩).memory:=
 laidMetH_of_parts3 (fuel:=8) (laidMet_of_run' 8 (by kernel_rfl) (by kernel_rfl)) (by kernel_rfl) (by kernel_rfl)
theorem rq (os:Os) (started:os.Started) (H:Type) (enc:TypeId × Value→H) :
  ReturnsInHanded {} Tryz.checked os 4 .any (fun w args=>(Rows.topChainSpec.pre enc Tryz.prog Tryz.f4 [] false w args∧laidMetH Tryz.prog sA w)∧sizedMet enc Tryz.prog Tryz.f4 (OpenSpec.ofChange Rows.topChainSpec) false w args)
   (Rows.topChainSpec.post enc Tryz.prog Tryz.f4 false true false false):=by
 refine returnsInHanded_of_change_and (C:=Tryz.checked) (X:=fun w _=>laidMetH Tryz.prog sA w) (fun _ _ _ hh h=>h.of_heap hh) own started (by kernel_rfl) Tryz.func4
  (ChangeSpec.witness_shaped (enc:=enc) (C:=Tryz.checked) (os:=os) (X:=fun w _=>laidMetH Tryz.prog sA w) false (World.doorLaid Tryz.prog 400 os) #[.slice none 0 0,.slice none 0 0,.slice none 0 0] 8 rfl (World.shaped_of_RefB (by kernel_rfl) (by kernel_rfl)) (by kernel_rfl) (by kernel_rfl) (by kernel_rfl) (As os _)) ?_
 intro W base args ds gs before hval0 hW _ _ hL _
 have hval:∀ (j:Nat) t v,Tryz.f4.params[j]?=some t→args[j]?=some v→Value.okWide Tryz.prog W .any base t v:=hval0
 have hW':=hW
 obtain⟨p,q,hA0,hV,rfl,hfz,hnd⟩:=hW
 have hA:DataW.TrodAll enc Tryz.prog W 0 (fun _=>true) true Tryz.f4.params.toList args.toList ds p:=hA0
 rw[Tryz.params4] at hA hval
 obtain⟨v0,vs0,d0,ds0,p0,q0,hargs,rfl,rfl,h0,r0⟩:=trodAll_cons hA
 obtain⟨v1,vs1,d1,ds1,p1,q1,rfl,rfl,rfl,h1,r1⟩:=trodAll_cons r0
 obtain⟨v2,vs2,d2,ds2,p2,q2,rfl,rfl,rfl,h2,r2⟩:=trodAll_cons r1
 obtain⟨rfl,rfl,rfl⟩:=trodAll_nil r2
 obtain rfl:args=#[v0,v1,v2]:=by cases args;simp_all
 obtain⟨rfl,rfl⟩:=trodVars_none hV
 obtain⟨a0,len0,cap0,rfl⟩:=okWide_slice Tryz.underlying22 (hval 0 22 v0 rfl rfl)
 obtain⟨a1,len1,cap1,rfl⟩:=okWide_slice Tryz.underlying22 (hval 1 22 v1 rfl rfl)
 obtain⟨a2,fR,cap2,rfl⟩:=okWide_slice Tryz.underlying22 (hval 2 22 v2 rfl rfl)
 have lt0:∀ x∈p0,x.block < W.heap.size:=by obtain⟨m,hm⟩:=h0;exact DataW.trod_lt m _ _ _ hm
 have lt1:∀ x∈p1,x.block < W.heap.size:=by obtain⟨m,hm⟩:=h1;exact DataW.trod_lt m _ _ _ hm
 have lt2:∀ x∈p2,x.block < W.heap.size:=by obtain⟨m,hm⟩:=h2;exact DataW.trod_lt m _ _ _ hm
 obtain⟨l0,rfl,c0,k0,m0,i0⟩:=kY h0
 obtain⟨l1,rfl,c1,k1,m1,i1⟩:=kY h1
 obtain⟨l2,rfl,c2,k2,m2,i2⟩:=kY h2
 have hG:=tW hL
 clear hA0 hval0
 refine(vG l0 l1 l2 a0 a1 a2 cap0 cap1 cap2 W hG c0 k0 c1 k1 c2 k2 m0 m1 m2 i0 i1 i2).mono fun e W' ⟨he,bel⟩=>?_
 subst he
 exact⟨_,rfl,_,_,_,[],_,[],hW',trodAll_mk1 (shut_bool Tryz.underlying4 _),(trodAll_cons_mk (Below.trod q9 (by kernel_rfl) (of_decide_eq_true (by kernel_rfl)) h0 bel lt0) (trodAll_cons_mk (Below.trod q9 (by kernel_rfl) (of_decide_eq_true (by kernel_rfl)) h1 bel lt1) (trodAll_cons_mk (Below.trod q9 (by kernel_rfl) (of_decide_eq_true (by kernel_rfl)) h2 bel lt2) trodAll_mk0))),rfl,bel.frame _,fun h=>by cases h⟩
theorem yS:Rows.TopChainSaid:=
 OpenClaim.holds_of_wide 4 Tryz.f4 rfl rfl rfl rfl rfl rfl rfl ⟨rfl,rfl,rfl,rfl,rfl⟩ rfl rfl rfl rfl rfl (by kernel_rfl) Tryz.func4 (by kernel_rfl)
  (of_decide_eq_true (by kernel_rfl)) (by unfold Func.isWrapper;first | (rw[if_pos (by decide +kernel)];kernel_rfl) | (rw[if_neg (by decide +kernel)];exact⟨rfl,rfl⟩))
  (fun os started H enc _=>rq os started H enc)
end
theorem up:Rows.TopChainCardSaid:=
 Claim7.holds_tied_plain_at .later [] [.data,.data] true (true,"b6de1c6f095477d00eaf5f086792a21800130c680ac54b173d0600cabd9a73ba") true
  yS (fun _ h=>by cases h) (by kernel_rfl) (fun _ h=>by cases h) topChain_row_tie rfl ⟨rfl,rfl⟩ (by kernel_rfl) rfl
  (fun f fn hf hfn=>by
   obtain rfl:f=4:=Option.some.inj ((show Tryz.prog.funcNamed "joinery/joinerytop.TopChain"=some 4 by kernel_rfl).symm.trans hf) |>.symm
   obtain rfl:fn=Tryz.f4:=(Option.some.inj (Tryz.func4.symm.trans hfn)).symm
   exact⟨by kernel_rfl,fun j t ht=>by
    rw[Tryz.params4] at ht
    have hm:t∈[22,22,22]:=by simpa using Array.mem_of_getElem? ht
    have hall:([22,22,22].all fun u=>!Tryz.prog.wantsStandIn u)=true:=by kernel_rfl
    exact(show Tryz.prog.wantsStandIn t=false by simpa using List.all_eq_true.1 hall t hm)⟩)
  (by kernel_rfl)
end Go.Proofs.YtlinbehijfcelaaGreatDoor.Top
namespace Go.Proofs.YtlinbehijfcelaaGreatDoor
theorem topChain_holds : Rows.TopChainCardSaid := Top.up
end Go.Proofs.YtlinbehijfcelaaGreatDoor
#print axioms Go.Proofs.YtlinbehijfcelaaGreatDoor.topChain_holds
