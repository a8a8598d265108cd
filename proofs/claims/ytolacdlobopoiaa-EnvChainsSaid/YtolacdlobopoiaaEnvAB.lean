/- env: the walk of EnvFills -/
import Derived.Test.YtolacdlobopoiaaNum0
import Derived.Test.YtolacdlobopoiaaEnvAA
import Derived.Test.YtolacdlobopoiaaEnvF
namespace Go.Proofs.Ytolacdlobopoiaa.Num
open Go.RowKit Go.Proofs.YtolacdlobopoiaaW.PrintWords Go.Proofs.YtolacdlobopoiaaW.PrintLast Go.Proofs.YtolacdlobopoiaaW.PrintMore
attribute [local go_sem] max2_int min2_int max_two min_two max_three min_three max_four min_four   -- for this text's walks alone
set_option linter.unusedVariables false
set_option linter.unusedSimpArgs false

theorem drawn_below {w w' : World} (h : Drawn0 w w') : Below w.heap.size w w' := by
  obtain ⟨nd, rfl⟩ := h
  exact pw_below_drewN (Below.refl _ _) _
def C68 (w : World) (X : List S68) (v : Value) : Prop := ∃ A c, v = .slice A 24 c ∧ 24 ≤ c ∧ Kd.C k68 w A 24 X
def C90 (w : World) (X : List S90) (v : Value) : Prop := ∃ A c, v = .slice A 24 c ∧ 24 ≤ c ∧ Kd.C k90 w A 24 X
theorem C68_of {w : World} {X : List S68} {v : Value} {base : Nat} {ok : Nat → Prop} (hX : X.length = 24) (h : Kd.R k68 68 w base ok v X) : C68 w X v := by
  have := Kd.R_reads h
  rw [hX] at this
  exact this
theorem C90_of {w : World} {X : List S90} {v : Value} {base : Nat} {ok : Nat → Prop} (hX : X.length = 24) (h : Kd.R k90 90 w base ok v X) : C90 w X v := by
  have := Kd.R_reads h
  rw [hX] at this
  exact this
theorem asS_len {T : List Sr} (h : T.length = 24) : (asS T).length = 24 := by simp [asS, h]
theorem C68.below {w w' : World} {X : List S68} {v : Value} (h : C68 w X v) (hb : Below w.heap.size w w') : C68 w' X v := by
  obtain ⟨A, c, h1, h2, h3⟩ := h
  exact ⟨A, c, h1, h2, Kd.C_below h3 hb⟩
theorem C90.below {w w' : World} {X : List S90} {v : Value} (h : C90 w X v) (hb : Below w.heap.size w w') : C90 w' X v := by
  obtain ⟨A, c, h1, h2, h3⟩ := h
  exact ⟨A, c, h1, h2, Kd.C_below h3 hb⟩
def FiSt (T : List Sr) (Ws F : List S68) (g : Nat) (w : World) (s : Value × Value × Value × Value) (L : Array Bool) (w' : World) : Prop :=
  L.size = 14 ∧ Below w.heap.size w w' ∧ IsTab w' g T ∧ IsW w' (g + 1) Ws ∧ (L.getD 3 false = true → C68 w' F s.1) ∧ (L.getD 5 false = true → C90 w' (asS T) s.2.1) ∧ (L.getD 7 false = true → C68 w' Ws s.2.2.1) ∧ (L.getD 8 false = true → C68 w' F s.2.2.2)
section
variable {T : List Sr} {Ws F : List S68} {g : Nat} {w w1 w2 : World} {s : Value × Value × Value × Value} {L : Array Bool}
theorem FiSt.step {i : Nat} (h : FiSt T Ws F g w s L w1) (n3 : i ≠ 3) (n5 : i ≠ 5) (n7 : i ≠ 7) (n8 : i ≠ 8) (hb : Below w1.heap.size w1 w2) : FiSt T Ws F g w s (L.setIfInBounds i true) w2 := by
  obtain ⟨hL, h1, h2, h3, k3, k5, k7, k8⟩ := h
  refine ⟨by simpa using hL, below_step h1 hb, h2.below hb, h3.below hb, ?_, ?_, ?_, ?_⟩
  · rw [getD_set_ne false n3]; exact fun e => (k3 e).below hb
  · rw [getD_set_ne false n5]; exact fun e => (k5 e).below hb
  · rw [getD_set_ne false n7]; exact fun e => (k7 e).below hb
  · rw [getD_set_ne false n8]; exact fun e => (k8 e).below hb
theorem FiSt.step3 (h : FiSt T Ws F g w s L w1) (v : Value) (hb : Below w1.heap.size w1 w2) (hv : C68 w2 F v) : FiSt T Ws F g w (v, s.2.1, s.2.2.1, s.2.2.2) (L.setIfInBounds 3 true) w2 := by
  obtain ⟨hL, h1, h2, h3, k3, k5, k7, k8⟩ := h
  refine ⟨by simpa using hL, below_step h1 hb, h2.below hb, h3.below hb, fun _ => hv, ?_, ?_, ?_⟩
  · rw [getD_set_ne false (by decide)]; exact fun e => (k5 e).below hb
  · rw [getD_set_ne false (by decide)]; exact fun e => (k7 e).below hb
  · rw [getD_set_ne false (by decide)]; exact fun e => (k8 e).below hb
theorem FiSt.step5 (h : FiSt T Ws F g w s L w1) (v : Value) (hb : Below w1.heap.size w1 w2) (hv : C90 w2 (asS T) v) : FiSt T Ws F g w (s.1, v, s.2.2.1, s.2.2.2) (L.setIfInBounds 5 true) w2 := by
  obtain ⟨hL, h1, h2, h3, k3, k5, k7, k8⟩ := h
  refine ⟨by simpa using hL, below_step h1 hb, h2.below hb, h3.below hb, ?_, fun _ => hv, ?_, ?_⟩
  · rw [getD_set_ne false (by decide)]; exact fun e => (k3 e).below hb
  · rw [getD_set_ne false (by decide)]; exact fun e => (k7 e).below hb
  · rw [getD_set_ne false (by decide)]; exact fun e => (k8 e).below hb
theorem FiSt.step7 (h : FiSt T Ws F g w s L w1) (v : Value) (hb : Below w1.heap.size w1 w2) (hv : C68 w2 Ws v) : FiSt T Ws F g w (s.1, s.2.1, v, s.2.2.2) (L.setIfInBounds 7 true) w2 := by
  obtain ⟨hL, h1, h2, h3, k3, k5, k7, k8⟩ := h
  refine ⟨by simpa using hL, below_step h1 hb, h2.below hb, h3.below hb, ?_, ?_, fun _ => hv, ?_⟩
  · rw [getD_set_ne false (by decide)]; exact fun e => (k3 e).below hb
  · rw [getD_set_ne false (by decide)]; exact fun e => (k5 e).below hb
  · rw [getD_set_ne false (by decide)]; exact fun e => (k8 e).below hb
theorem FiSt.step8 (h : FiSt T Ws F g w s L w1) (v : Value) (hb : Below w1.heap.size w1 w2) (hv : C68 w2 F v) : FiSt T Ws F g w (s.1, s.2.1, s.2.2.1, v) (L.setIfInBounds 8 true) w2 := by
  obtain ⟨hL, h1, h2, h3, k3, k5, k7, k8⟩ := h
  refine ⟨by simpa using hL, below_step h1 hb, h2.below hb, h3.below hb, ?_, ?_, ?_, fun _ => hv⟩
  · rw [getD_set_ne false (by decide)]; exact fun e => (k3 e).below hb
  · rw [getD_set_ne false (by decide)]; exact fun e => (k5 e).below hb
  · rw [getD_set_ne false (by decide)]; exact fun e => (k7 e).below hb
end
/-- What an operation that comes up waits for has come up. -/
theorem done_of {ops : Array Oper} {L : Array Bool} {i : Nat} (hc : ListedClosed .any ops L) (hi : i ∈ Region.ready .any ops L) (j : Nat) (hr : Region.reachB .any ops j ops.size i = true) (hlt : j < L.size) : L.getD j false = true := by
  cases hg : L.getD j true with
  | false => exact absurd hi (Region.reach_not_ready hc hr hg)
  | true => exact getD_true_false hlt hg
set_option maxHeartbeats 1000000 in
set_option maxRecDepth 100000 in
theorem fills_of (A0 : Option Addr) (c0 : Nat) (l0 : List Int) (A1 : Option Addr) (c1 : Nat) (l1 : List Int) (A2 : Option Addr) (c2 : Nat) (l2 : List Bool) (A3 : Option Addr) (c3 : Nat) (l3 : List Int) (T : List Sr) (Ws F : List S68) (lT : T.length = 24) (lW : Ws.length = 24) (lF : F.length = 24) (hF : F = fillT T Ws)
    (w : World)
    (hO : ∀ w1, Below w.heap.size w w1 → Calls Try.prog 41 #[.slice A0 l0.length c0, .slice A1 l1.length c1] w1 fun e w' => e = .returned (.agg (tcells T)) ∧ Below w1.heap.size w1 w')
    (hW : ∀ w1, Below w.heap.size w w1 → Calls Try.prog 43 #[.slice A2 l2.length c2, .slice A3 l3.length c3] w1 fun e w' => e = .returned (.agg (wcells Ws)) ∧ Below w1.heap.size w1 w')
    (hFi : ∀ w, Calls Try.prog 46 #[.agg (tcells T), .agg (wcells Ws)] w fun e w' => e = .returned (.agg (wcells F)) ∧ Below w.heap.size w w')
    : Calls Try.prog 18 #[.slice A0 l0.length c0, .slice A1 l1.length c1, .slice A2 l2.length c2, .slice A3 l3.length c3] w fun e w' => e = .returned (.bool true) ∧ Below w.heap.size w w' := by
  have HO := Aside0.mk hO
  have HW := Aside0.mk hW
  have HF := Aside0.mk hFi
  have HFe := Aside0.mk hF
  have LT := Aside0.mk (tab_size lT)
  have LW := Aside0.mk (wt_size lW)
  have NT : Aside0 ((tcells noes).size = (tcells T).size) := ⟨by rw [tcells_size, tcells_size, lT]; rfl⟩
  have NW : Aside0 ((wcells w0s).size = (wcells Ws).size) := ⟨by rw [wcells_size, wcells_size, w0s_len, lW]⟩
  have QT := Aside0.mk lT
  have QW := Aside0.mk lW
  have QF := Aside0.mk lF
  clear hO hW hFi hF lT lW lF
  go_enter Try.func18, Try.ntmps18
  go_upto_region 2 with (first
      | (go_at_call 41; refine (HO.out _ (Below.refl _ _)).mono ?_; rintro e w1 ⟨rfl, hb⟩; have HB1 := Aside0.mk hb; clear hb)
      | (go_at_call 43; refine (HW.out _ HB1.out).mono ?_; rintro e w2 ⟨rfl, hb⟩; have HB2 := Aside0.mk (below_step HB1.out hb); clear hb)
      | ((with_reducible refine gate_store (t := 57) (p := 9) rfl ?_); refine wpList_store_row rfl 57 _ _ rfl w2.heap.size (tcells T) rfl rfl 57 (tcells noes) (heap_alloc2_old w2 _ _) LT.out NT.out (tcells_one T) ?_; have KT := Aside0.mk (show IsTab (((w2.alloc (.cells (tcells noes) 57)).alloc (.cells (wcells w0s) 69)).setRow w2.heap.size (tcells T)) w2.heap.size T from IsTab.laid (T := noes) (heap_alloc2_old w2 _ _)); have K0 := Aside0.mk (show IsW (((w2.alloc (.cells (tcells noes) 57)).alloc (.cells (wcells w0s) 69)).setRow w2.heap.size (tcells T)) (w2.heap.size + 1) w0s from IsW.row (show IsW ((w2.alloc (.cells (tcells noes) 57)).alloc (.cells (wcells w0s) 69)) (w2.heap.size + 1) w0s from heap_alloc2_new w2 _ _) (by omega) _); have KL := Aside0.mk (below_setRow (below_alloc (below_alloc HB2.out (.cells (tcells noes) 57)) (.cells (wcells w0s) 69)) HB2.out.size (tcells T)))
      | ((with_reducible refine gate_store (t := 69) (p := 10) rfl ?_); refine wpList_store_row rfl 69 _ _ rfl (w2.heap.size + 1) (wcells Ws) rfl rfl 69 (wcells w0s) K0.out LW.out NW.out (wcells_one Ws) ?_; have KW := Aside0.mk (K0.out.laid (M := Ws)); have KT2 := Aside0.mk (KT.out.row (g' := w2.heap.size + 1) (by omega) (wcells Ws)); have KL2 := Aside0.mk (below_setRow (g := w2.heap.size + 1) KL.out (by have := HB2.out.size; omega) (wcells Ws))))
  refine region_detS' (σ := Value × Value × Value × Value) (fun s => [(17, .agg (tcells T)), (18, .agg (wcells Ws)), (19, .agg (wcells F)), (20, s.1), (21, .agg (tcells T)), (22, s.2.1), (23, .agg (wcells Ws)), (24, s.2.2.1), (25, s.2.2.2), (26, .bool true), (27, .bool true), (28, .bool true), (29, .bool true), (8, .bool true)]) (fun s => ⟨#[.slice A0 l0.length c0, .slice A1 l1.length c1, .slice A2 l2.length c2, .slice A3 l3.length c3, undef, undef, undef, undef, .bool true, .pointer (some ⟨w2.heap.size, 0, none⟩), .pointer (some ⟨w2.heap.size + 1, 0, none⟩), .slice A0 l0.length c0, .slice A1 l1.length c1, .agg (tcells T), .slice A2 l2.length c2, .slice A3 l3.length c3, .agg (wcells Ws), .agg (tcells T), .agg (wcells Ws), .agg (wcells F), s.1, .agg (tcells T), s.2.1, .agg (wcells Ws), s.2.2.1, s.2.2.2, .bool true, .bool true, .bool true, .bool true], []⟩) (FiSt T Ws F w2.heap.size w) (undef, undef, undef, undef) (by kernel_rfl) (by kernel_rfl) (fun _ => by kernel_rfl) (fun s => by simp only [putAll, Act.put, List.setIfInBounds_toArray, List.set_cons_succ, List.set_cons_zero]) ?_ ?_ ?_
  · intro i o ho s L W hc hr hs
    have h0 := hs
    obtain ⟨hL, h1, h2, h3, k20, k22, k24, k25⟩ := hs
    rcases i with _ | _ | _ | _ | _ | _ | _ | _ | _ | _ | _ | _ | _ | _ | i
    · obtain rfl := Option.some.inj ho
      exact stepS_load_row rfl 57 _ rfl w2.heap.size rfl 57 (tcells T) (0, 0) _ h2 Try.underlying57 rfl LT.out (next_same rfl (h0.step (by decide) (by decide) (by decide) (by decide) (Below.refl _ _)))
    · obtain rfl := Option.some.inj ho
      exact stepS_load_row rfl 69 _ rfl (w2.heap.size + 1) rfl 69 (wcells Ws) (0, 0) _ h3 Try.underlying69 rfl LW.out (next_same rfl (h0.step (by decide) (by decide) (by decide) (by decide) (Below.refl _ _)))
    · obtain rfl := Option.some.inj ho
      exact stepS_call rfl Try.func46 (by kernel_rfl) rfl #[.agg (tcells T), .agg (wcells Ws)] rfl rfl ((HF.out W).mono fun e w' h => ⟨_, h.1, next_same rfl (h0.step (by decide) (by decide) (by decide) (by decide) h.2)⟩)
    · obtain rfl := Option.some.inj ho
      refine stepS_call rfl Try.func45 (by kernel_rfl) rfl #[.agg (wcells F)] rfl rfl ((env_row F QF.out W).mono fun e w' h => ?_)
      obtain ⟨v, he, hR, hb⟩ := h
      exact ⟨v, he, next_new (v, s.2.1, s.2.2.1, s.2.2.2) 20 hr rfl (by kernel_rfl) rfl rfl (h0.step3 v hb (C68_of QF.out hR))⟩
    · obtain rfl := Option.some.inj ho
      exact stepS_load_row rfl 57 _ rfl w2.heap.size rfl 57 (tcells T) (0, 0) _ h2 Try.underlying57 rfl LT.out (next_same rfl (h0.step (by decide) (by decide) (by decide) (by decide) (Below.refl _ _)))
    · obtain rfl := Option.some.inj ho
      refine stepS_call rfl Try.func48 (by kernel_rfl) rfl #[.agg (tcells T)] rfl rfl ((env_As T QT.out W).mono fun e w' h => ?_)
      obtain ⟨v, he, hR, hb⟩ := h
      exact ⟨v, he, next_new (s.1, v, s.2.2.1, s.2.2.2) 22 hr rfl (by kernel_rfl) rfl rfl (h0.step5 v hb (C90_of (asS_len QT.out) hR))⟩
    · obtain rfl := Option.some.inj ho
      exact stepS_load_row rfl 69 _ rfl (w2.heap.size + 1) rfl 69 (wcells Ws) (0, 0) _ h3 Try.underlying69 rfl LW.out (next_same rfl (h0.step (by decide) (by decide) (by decide) (by decide) (Below.refl _ _)))
    · obtain rfl := Option.some.inj ho
      refine stepS_call rfl Try.func45 (by kernel_rfl) rfl #[.agg (wcells Ws)] rfl rfl ((env_row Ws QW.out W).mono fun e w' h => ?_)
      obtain ⟨v, he, hR, hb⟩ := h
      exact ⟨v, he, next_new (s.1, s.2.1, v, s.2.2.2) 24 hr rfl (by kernel_rfl) rfl rfl (h0.step7 v hb (C68_of QW.out hR))⟩
    · obtain rfl := Option.some.inj ho
      obtain ⟨A4, e4, he4, hc4, hC4⟩ := k22 (done_of hc hr 5 (by kernel_rfl) (by rw [hL]; decide))
      obtain ⟨A5, e5, he5, hc5, hC5⟩ := k24 (done_of hc hr 7 (by kernel_rfl) (by rw [hL]; decide))
      refine stepS_call rfl Try.func47 (by kernel_rfl) rfl #[s.2.1, s.2.2.1] rfl rfl ?_
      rw [he4, he5]
      refine (ref_Fill T QT.out Ws QW.out A4 e4 A5 e5 W hC4 hc4 hC5).mono fun e w' h => ?_
      obtain ⟨v, he, hR, hb⟩ := h
      rw [← HFe.out] at hR
      exact ⟨v, he, next_new (s.1, s.2.1, s.2.2.1, v) 25 hr rfl (by kernel_rfl) rfl rfl (h0.step8 v hb (C68_of QF.out hR))⟩
    · obtain rfl := Option.some.inj ho
      obtain ⟨A4, e4, he4, hc4, hC4⟩ := k20 (done_of hc hr 3 (by kernel_rfl) (by rw [hL]; decide))
      obtain ⟨A5, e5, he5, hc5, hC5⟩ := k25 (done_of hc hr 8 (by kernel_rfl) (by rw [hL]; decide))
      refine stepS_call rfl Try.func44 (by kernel_rfl) rfl #[s.1, s.2.2.2] rfl rfl ?_
      rw [he4, he5]
      have hS := joineryref05_SameWords.calls 25 A4 e4 F A5 e5 F true W (by rw [QF.out]; exact hC4) (by rw [QF.out]; exact hc4) (by rw [QF.out]; exact hC5) (by rw [QF.out]; exact hc5) (same_f F QF.out)
      rw [QF.out] at hS
      exact hS.mono fun e w' h => ⟨_, h.1, next_same rfl (h0.step (by decide) (by decide) (by decide) (by decide) (drawn_below h.2))⟩
    · obtain rfl := Option.some.inj ho
      exact stepS_run (v := .bool true) (w' := W) rfl rfl (next_same rfl (h0.step (by decide) (by decide) (by decide) (by decide) (Below.refl _ _)))
    · obtain rfl := Option.some.inj ho
      exact stepS_call rfl Try.func38 (by kernel_rfl) rfl #[] rfl rfl ((env_knows W).mono fun e w' h => ⟨_, h.1, next_same rfl (h0.step (by decide) (by decide) (by decide) (by decide) h.2)⟩)
    · obtain rfl := Option.some.inj ho
      exact stepS_run (v := .bool true) (w' := W) rfl rfl (next_same rfl (h0.step (by decide) (by decide) (by decide) (by decide) (Below.refl _ _)))
    · obtain rfl := Option.some.inj ho
      exact stepS_run (v := .bool true) (w' := W) rfl rfl (next_same rfl (h0.step (by decide) (by decide) (by decide) (by decide) (Below.refl _ _)))
    · exact absurd (Array.getElem?_eq_some_iff.1 ho).1 (by simp)
  · exact ⟨by simp, below_drew KL2.out, KT2.out, KW.out, fun e => absurd e (by decide), fun e => absurd e (by decide), fun e => absurd e (by decide), fun e => absurd e (by decide)⟩
  · intro s L W hall hs
    obtain ⟨hL, h1, h2, h3, k20, k22, k24, k25⟩ := hs
    have H1 := Aside0.mk h1
    clear h1 h2 h3 k20 k22 k24 k25 hall hL
    go_wp2
    go_ret
    exact ⟨rfl, H1.out⟩
theorem env_Fills (A0 : Option Addr) (c0 : Nat) (l0 : List Int) (A1 : Option Addr) (c1 : Nat) (l1 : List Int) (A2 : Option Addr) (c2 : Nat) (l2 : List Bool) (A3 : Option Addr) (c3 : Nat) (l3 : List Int) (w : World)
    (hr0 : Kd.C (Kd.int .u8) w A0 l0.length l0) (hc0 : l0.length ≤ c0) (hr1 : Kd.C (Kd.int .i64) w A1 l1.length l1) (hc1 : l1.length ≤ c1) (hr2 : Kd.C Kd.bool w A2 l2.length l2) (hc2 : l2.length ≤ c2) (hr3 : Kd.C (Kd.int .i64) w A3 l3.length l3) (hc3 : l3.length ≤ c3) :
    Calls Try.prog 18 #[.slice A0 l0.length c0, .slice A1 l1.length c1, .slice A2 l2.length c2, .slice A3 l3.length c3] w fun e w' => e = .returned (.bool true) ∧ Below w.heap.size w w' := by
  have lO : (ofT l0 l1).length = 24 := ofTo_len _ _ _
  have lW : (woT l2 l3).length = 24 := woTo_len _ _ _
  exact fills_of A0 c0 l0 A1 c1 l1 A2 c2 l2 A3 c3 l3 (ofT l0 l1) (woT l2 l3) (fillT (ofT l0 l1) (woT l2 l3)) lO lW (fillT_len _ _ lO) rfl w
    (fun w1 hb => env_Of A0 c0 l0 A1 c1 l1 w1 (Kd.C_below hr0 hb) hc0 (Kd.C_below hr1 hb) hc1) (fun w1 hb => env_Words A2 c2 l2 A3 c3 l3 w1 (Kd.C_below hr2 hb) hc2 (Kd.C_below hr3 hb) hc3) (fun w => env_Fill _ _ lO lW w)

end Go.Proofs.Ytolacdlobopoiaa.Num
