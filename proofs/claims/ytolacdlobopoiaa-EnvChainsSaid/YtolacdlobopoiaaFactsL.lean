/- What loc's texts are, in plain words: the 24 places' texts, and what a text is read as. No condition but enough rounds. -/
import Derived.Test.YtolacdlobopoiaaNum2
namespace Go.Proofs.Ytolacdlobopoiaa.Pure
open Go.RowKit Go.Proofs.Ytolacdlobopoiaa.Num Go.Proofs.YtolacdlobopoiaaW.PrintWords Go.Proofs.YtolacdlobopoiaaW.PrintLast
set_option linter.unusedVariables false
set_option linter.unusedSimpArgs false

/-- The text of place l. -/
def pt (l : Int) : ByteArray := strOfNums (if l < 8 then [114, 48 + l] else if l < 18 then [115, 40 + l] else [115, 49, 30 + l])

theorem all24 (p : Int → Prop) (h : ∀ n : Fin 24, p (n.val : Int)) (l : Int) (h0 : 0 ≤ l) (h1 : l ≤ 23) : p l := by
  have := h ⟨l.toNat, by omega⟩
  rwa [show ((⟨l.toNat, by omega⟩ : Fin 24).val : Int) = l by simp; omega] at this

theorem bytes_eq {a b : ByteArray} (h : a.data.toList = b.data.toList) : a = b := by
  cases a with | mk x => cases b with | mk y => cases x; cases y; simp at h; rw [h]
theorem toList_iff (a b : ByteArray) : a.toList = b.toList ↔ a = b := by
  rw [ByteArray.toList_eq, ByteArray.toList_eq]
  exact ⟨bytes_eq, fun h => by rw [h]⟩
instance (a b : ByteArray) : Decidable (a = b) := decidable_of_iff (a.data.toList = b.data.toList) ⟨bytes_eq, fun h => by rw [h]⟩

theorem loc_text_in (l : Int) (h0 : 0 ≤ l) (h1 : l ≤ 23) : loc_Text.f l = some (pt l, 0) := by
  refine all24 (fun l => loc_Text.f l = some (pt l, 0)) ?_ l h0 h1
  decide +kernel
theorem right_is (l : Int) : loc_Right.f l = some (decide (0 ≤ l ∧ l ≤ 23)) := by
  unfold loc_Right.f
  by_cases h : l ≥ 0
  · rw [if_pos h]
    congr 1
    rw [decide_eq_decide]
    omega
  · rw [if_neg h]
    congr 1
    exact (decide_eq_false (by omega)).symm
theorem reg_is (l : Int) : loc_Reg.f l = some (decide (0 ≤ l ∧ l ≤ 7)) := by
  unfold loc_Reg.f
  by_cases h : l ≥ 0
  · rw [if_pos h]
    congr 1
    rw [decide_eq_decide]
    omega
  · rw [if_neg h]
    congr 1
    exact (decide_eq_false (by omega)).symm
theorem loc_text_out (l : Int) (h : ¬ (0 ≤ l ∧ l ≤ 23)) : loc_Text.f l = some (⟨#[]⟩, 1) := by
  unfold loc_Text.f
  rw [right_is, decide_eq_false h]
  rfl
theorem text_small (l : Int) (h0 : 0 ≤ l) (h1 : l ≤ 23) : joineryref02_Text.f 4 l = some (pt l) := by
  refine all24 (fun l => joineryref02_Text.f 4 l = some (pt l)) ?_ l h0 h1
  decide +kernel
theorem ref_text_in (l : Int) (h0 : 0 ≤ l) (h1 : l ≤ 23) (k : Nat) (hk : 4 ≤ k) : joineryref02_Text.f k l = some (pt l) :=
  at_rounds (g := fun k => joineryref02_Text.f k l) (joineryref02_Text.mono l) hk (text_small l h0 h1)
theorem knows_is : joinerylaw02_knows.f = some true := by decide +kernel
theorem place_pt (l : Int) (h0 : 0 ≤ l) (h1 : l ≤ 23) : loc_Parse.place (pt l) = some l := by
  refine all24 (fun l => loc_Parse.place (pt l) = some l) ?_ l h0 h1
  decide +kernel
theorem pt_inj {a b : Int} (ha : 0 ≤ a ∧ a ≤ 23) (hb : 0 ≤ b ∧ b ≤ 23) (h : pt a = pt b) : a = b := by
  have h1 := place_pt a ha.1 ha.2
  rw [h, place_pt b hb.1 hb.2] at h1
  exact (Option.some.inj h1).symm

theorem str_bytes (s : ByteArray) : strOfNums (bytesOf s) = s := by
  apply bytes_eq
  rw [strOfNums_data]
  unfold bytesOf
  rw [List.map_map]
  conv => rhs; rw [← List.map_id s.data.toList]
  apply List.map_congr_left
  intro b _
  simp
theorem bytes_two (s : ByteArray) (h : s.size = 2) : s = strOfNums [bt s 0, bt s 1] := by
  have hl := bytesOf_length s
  have h0 := rd_bytesOf s 0
  have h1 := rd_bytesOf s 1
  conv => lhs; rw [← str_bytes s]
  congr 1
  match hb : bytesOf s, hl with
  | [a, b], _ => rw [hb] at h0 h1; simp [rd] at h0 h1; rw [← h0, ← h1]
  | [], e => simp at e; omega
  | [_], e => simp at e; omega
  | _ :: _ :: _ :: _, e => simp at e; omega
theorem bytes_three (s : ByteArray) (h : s.size = 3) : s = strOfNums [bt s 0, bt s 1, bt s 2] := by
  have hl := bytesOf_length s
  have h0 := rd_bytesOf s 0
  have h1 := rd_bytesOf s 1
  have h2 := rd_bytesOf s 2
  conv => lhs; rw [← str_bytes s]
  congr 1
  match hb : bytesOf s, hl with
  | [a, b, c], _ => rw [hb] at h0 h1 h2; simp [rd] at h0 h1 h2; rw [← h0, ← h1, ← h2]
  | [], e => simp at e; omega
  | [_], e => simp at e; omega
  | [_, _], e => simp at e; omega
  | _ :: _ :: _ :: _ :: _, e => simp at e; omega
theorem place_some {s : ByteArray} {l : Int} (h : loc_Parse.place s = some l) : 0 ≤ l ∧ l ≤ 23 ∧ s = pt l := by
  unfold loc_Parse.place at h
  by_cases c1 : s.size = 2 ∧ bt s 0 = 114 ∧ 48 ≤ bt s 1 ∧ bt s 1 ≤ 55
  · rw [if_pos c1] at h
    have e := Option.some.inj h
    refine ⟨by omega, by omega, ?_⟩
    have := bytes_two s c1.1
    unfold pt
    rw [if_pos (by omega), this, c1.2.1, ← e]
    congr 3
    omega
  · rw [if_neg c1] at h
    by_cases c2 : s.size = 2 ∧ bt s 0 = 115 ∧ 48 ≤ bt s 1 ∧ bt s 1 ≤ 57
    · rw [if_pos c2] at h
      have e := Option.some.inj h
      refine ⟨by omega, by omega, ?_⟩
      have := bytes_two s c2.1
      unfold pt
      rw [if_neg (by omega), if_pos (by omega), this, c2.2.1, ← e]
      congr 3
      omega
    · rw [if_neg c2] at h
      by_cases c3 : s.size = 3 ∧ bt s 0 = 115 ∧ bt s 1 = 49 ∧ 48 ≤ bt s 2 ∧ bt s 2 ≤ 53
      · rw [if_pos c3] at h
        have e := Option.some.inj h
        refine ⟨by omega, by omega, ?_⟩
        have := bytes_three s c3.1
        unfold pt
        rw [if_neg (by omega), if_neg (by omega), this, c3.2.1, c3.2.2.1, ← e]
        congr 4
        omega
      · rw [if_neg c3] at h
        cases h
theorem place_iff (s : ByteArray) (l : Int) (hl : 0 ≤ l ∧ l ≤ 23) : pt l = s ↔ loc_Parse.place s = some l :=
  ⟨fun h => by rw [← h]; exact place_pt l hl.1 hl.2, fun h => (place_some h).2.2.symm⟩

theorem ref_parse_l0 (s : ByteArray) (d : Nat) : ∀ (k i : Nat), i ≤ 24 → 24 - i = d → d + 5 ≤ k →
    joineryref02_Parse.l0 k s (i : Int) = some (match loc_Parse.place s with | some l => if (i : Int) ≤ l then (l, true) else (0, false) | none => (0, false)) := by
  induction d with
  | zero =>
    intro k i h1 hd hk
    obtain ⟨k, rfl⟩ : ∃ m, k = m + 1 := ⟨k - 1, by omega⟩
    simp only [joineryref02_Parse.l0]
    rw [if_neg (by omega)]
    cases hp : loc_Parse.place s with
    | none => rfl
    | some l =>
      have := place_some hp
      simp only
      rw [if_neg (by omega)]
  | succ d ih =>
    intro k i h1 hd hk
    obtain ⟨k, rfl⟩ : ∃ m, k = m + 1 := ⟨k - 1, by omega⟩
    simp only [joineryref02_Parse.l0]
    rw [if_pos (by omega), ref_text_in i (by omega) (by omega) k (by omega)]
    simp only [Option.bind_some]
    by_cases e : pt (i : Int) = s
    · rw [if_pos ((toList_iff _ _).mpr e)]
      rw [(place_iff s i (by omega)).mp e]
      simp
    · rw [if_neg (fun h => e ((toList_iff _ _).mp h))]
      have hw : wrap64 ((i : Int) + 1) = ((i + 1 : Nat) : Int) := by unfold wrap64; omega
      rw [hw, ih k (i + 1) (by omega) (by omega) (by omega)]
      cases hp : loc_Parse.place s with
      | none => rfl
      | some l =>
        have hne : l ≠ (i : Int) := fun h => e ((place_iff s i (by omega)).mpr (by rw [hp, h]))
        simp only
        by_cases c : ((i + 1 : Nat) : Int) ≤ l
        · rw [if_pos c, if_pos (by omega)]
        · rw [if_neg c, if_neg (by omega)]
theorem ref_parse_is (s : ByteArray) (k : Nat) (hk : 40 ≤ k) : joineryref02_Parse.f k s = some (match loc_Parse.place s with | some l => (l, true) | none => (0, false)) := by
  unfold joineryref02_Parse.f
  have := ref_parse_l0 s 24 k 0 (by omega) (by omega) (by omega)
  refine Eq.trans this ?_
  cases hp : loc_Parse.place s with
  | none => rfl
  | some l =>
    have := place_some hp
    simp only
    rw [if_pos (by omega)]

end Go.Proofs.Ytolacdlobopoiaa.Pure
