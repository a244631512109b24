-- PRINTED BY print.sh 35421559b90ae4d0a3588c463048766b98c2df88dd9212a6774a882060cdf62d: not written by this session
import Derived.Test.YtlpkgngjofabaaaDoorPSaltUsersx0
namespace Go.Proofs.YtlpkgngjofabaaaDoor.PSaltUsers
open Go.RowKit Go.Proofs.YtlpkgngjofabaaaDoorW.PrintWords Go.Proofs.YtlpkgngjofabaaaDoorW.PrintLast Go.Proofs.YtlpkgngjofabaaaDoorW.PrintMore
attribute [local go_sem] max2_int min2_int max_two min_two max_three min_three max_four min_four   -- for this text's walks alone
set_option linter.unusedVariables false
set_option linter.unusedSimpArgs false

/-! ### chancelref10_seal: function 10 -/
def chancelref10_seal.l0 : Nat → ByteArray → Int → Option (Bool)
  | 0, _, _ => none
  | k + 1, x0, x3 => if x3 < (x0.size : Int) then (if 0 ≤ x3 then (if (bt x0 x3) ≥ 48 then (if (bt x0 x3) ≤ 57 then (chancelref10_seal.l0 k x0 (wrap64 (x3 + 1))) else (if (bt x0 x3) ≥ 97 then (if ((bt x0 x3) ≤ 102) then (chancelref10_seal.l0 k x0 (wrap64 (x3 + 1))) else (some false)) else (some false))) else (if (bt x0 x3) ≥ 97 then (if ((bt x0 x3) ≤ 102) then (chancelref10_seal.l0 k x0 (wrap64 (x3 + 1))) else (some false)) else (some false))) else (none)) else (some ((x0.size : Int) == 64))
def chancelref10_seal.f (k : Nat) (a0 : ByteArray) : Option (Bool) := chancelref10_seal.l0 k a0 0
theorem chancelref10_seal.mono_l : ∀ k, (∀ y0 y1, LeO (chancelref10_seal.l0 k y0 y1) (chancelref10_seal.l0 (k + 1) y0 y1))
  | 0 => fun _ _ r h => by simp [chancelref10_seal.l0] at h
  | k + 1 => by
    have ih0 := chancelref10_seal.mono_l k
    · intro y0 y1
      unfold chancelref10_seal.l0
      repeat' first
      | (with_reducible exact ih0 _ _)
      | (with_reducible exact LeO.refl _)
      | (with_reducible exact LeO.none _)
      | (with_reducible refine LeO.ite ?_ ?_)
      | (with_reducible refine LeO.bind ?_ (fun _ => ?_))
      | exact ih0 _ _
      | exact LeO.none _
      | refine LeO.ite ?_ ?_
      | refine LeO.bind ?_ (fun _ => ?_)
theorem chancelref10_seal.mono : ∀ a0 k, LeO (chancelref10_seal.f k a0) (chancelref10_seal.f (k + 1) a0) := by
  intro a0 k
  have ih0 := chancelref10_seal.mono_l k
  unfold chancelref10_seal.f
  repeat' first
      | (with_reducible exact ih0 _ _)
      | (with_reducible exact LeO.refl _)
      | (with_reducible exact LeO.none _)
      | (with_reducible refine LeO.ite ?_ ?_)
      | (with_reducible refine LeO.bind ?_ (fun _ => ?_))
      | exact ih0 _ _
      | exact LeO.none _
      | refine LeO.ite ?_ ?_
      | refine LeO.bind ?_ (fun _ => ?_)
set_option maxHeartbeats 8000000 in
set_option maxRecDepth 100000 in
theorem chancelref10_seal.calls (k : Nat) (a0 : ByteArray) (r : Bool) (w : World) (h : chancelref10_seal.f k a0 = some r) :
    Calls Tryd.prog 10 #[.string a0] w fun e w' => e = .returned (.bool r) ∧ Drawn0 w w' := by
  have H : (chancelref10_seal.l0 k a0 0) = some r := h
  clear h
  have H' := Aside0.mk H
  clear H
  go_enter Tryd.func10, Tryd.ntmps10
  go_wp2
  go_loopg [3] k (fun kq v3 w' => ∃ (x3_1 : Int), v3 = .int .i64 x3_1 ∧ Aside0 (chancelref10_seal.l0 kq a0 x3_1 = some r) ∧ Aside0 (kq ≤ k) ∧ Drawn0 w w')
  case atStart => exact ⟨(0), (by first | rfl | (simp; done) | (simp [*]; done)), H', ⟨Nat.le_refl _⟩, by repeat (first | exact Drawn0.refl _ | apply Drawn0.step)⟩
  case round =>
    clear H'
    try clear c1
    obtain ⟨x3_1, rfl, HA, HK1, ⟨m1, rfl⟩⟩ := hrel
    cases gk with
    | zero => exact absurd HA.out (by simp [chancelref10_seal.l0])
    | succ k1 =>
      have H := HA.out
      clear HA
      simp only [chancelref10_seal.l0] at H
      by_cases c2 : x3_1 < (a0.size : Int)
      · rw [if_pos c2] at H
        have c2b0 : decide (x3_1 < (a0.size : Int)) = true := decide_eq_true c2
        clear c2
        by_cases c3 : 0 ≤ x3_1
        · rw [if_pos c3] at H
          have c3b0 : decide (0 ≤ x3_1) = true := decide_eq_true c3
          clear c3
          by_cases c5 : (bt a0 x3_1) ≥ 48
          · rw [if_pos c5] at H
            have c5b0 : decide (48 ≤ (bt a0 x3_1)) = true := decide_eq_true c5
            clear c5
            by_cases c7 : (bt a0 x3_1) ≤ 57
            · rw [if_pos c7] at H
              have c7b0 : decide ((bt a0 x3_1) ≤ 57) = true := decide_eq_true c7
              clear c7
              have H' := Aside0.mk H
              clear H
              have p4 : 0 ≤ (x3_1 : Int) := of_decide_eq_true (by first | (with_reducible assumption) | assumption)
              have q4 : x3_1 < (a0.size : Int) := of_decide_eq_true (by first | (with_reducible assumption) | assumption)
              have hx4 := bt_at a0 x3_1
              replace p4 := eq_true p4
              replace q4 := eq_true q4
              have p6 : 0 ≤ (x3_1 : Int) := of_decide_eq_true (by first | (with_reducible assumption) | assumption)
              have q6 : x3_1 < (a0.size : Int) := of_decide_eq_true (by first | (with_reducible assumption) | assumption)
              have hx6 := bt_at a0 x3_1
              replace p6 := eq_true p6
              replace q6 := eq_true q6
              go_wp2
              go_roundg k1
              case measure => have := HK1.out; omega
              case rel => exact ⟨(wrap64 (x3_1 + 1)), (by first | rfl | (simp; done) | (simp [*]; done)), H', ⟨by have := HK1.out; omega⟩, by repeat (first | exact Drawn0.refl _ | apply Drawn0.step)⟩
            · rw [if_neg c7] at H
              have c7b0 : decide ((bt a0 x3_1) ≤ 57) = false := decide_eq_false c7
              clear c7
              by_cases c9 : (bt a0 x3_1) ≥ 97
              · rw [if_pos c9] at H
                have c9b0 : decide (97 ≤ (bt a0 x3_1)) = true := decide_eq_true c9
                clear c9
                by_cases c11 : ((bt a0 x3_1) ≤ 102)
                · rw [if_pos c11] at H
                  have c11b0 : decide ((bt a0 x3_1) ≤ 102) = true := decide_eq_true c11
                  clear c11
                  have H' := Aside0.mk H
                  clear H
                  have p4 : 0 ≤ (x3_1 : Int) := of_decide_eq_true (by first | (with_reducible assumption) | assumption)
                  have q4 : x3_1 < (a0.size : Int) := of_decide_eq_true (by first | (with_reducible assumption) | assumption)
                  have hx4 := bt_at a0 x3_1
                  replace p4 := eq_true p4
                  replace q4 := eq_true q4
                  have p6 : 0 ≤ (x3_1 : Int) := of_decide_eq_true (by first | (with_reducible assumption) | assumption)
                  have q6 : x3_1 < (a0.size : Int) := of_decide_eq_true (by first | (with_reducible assumption) | assumption)
                  have hx6 := bt_at a0 x3_1
                  replace p6 := eq_true p6
                  replace q6 := eq_true q6
                  have p8 : 0 ≤ (x3_1 : Int) := of_decide_eq_true (by first | (with_reducible assumption) | assumption)
                  have q8 : x3_1 < (a0.size : Int) := of_decide_eq_true (by first | (with_reducible assumption) | assumption)
                  have hx8 := bt_at a0 x3_1
                  replace p8 := eq_true p8
                  replace q8 := eq_true q8
                  have p10 : 0 ≤ (x3_1 : Int) := of_decide_eq_true (by first | (with_reducible assumption) | assumption)
                  have q10 : x3_1 < (a0.size : Int) := of_decide_eq_true (by first | (with_reducible assumption) | assumption)
                  have hx10 := bt_at a0 x3_1
                  replace p10 := eq_true p10
                  replace q10 := eq_true q10
                  go_wp2
                  go_roundg k1
                  case measure => have := HK1.out; omega
                  case rel => exact ⟨(wrap64 (x3_1 + 1)), (by first | rfl | (simp; done) | (simp [*]; done)), H', ⟨by have := HK1.out; omega⟩, by repeat (first | exact Drawn0.refl _ | apply Drawn0.step)⟩
                · rw [if_neg c11] at H
                  have c11b0 : decide ((bt a0 x3_1) ≤ 102) = false := decide_eq_false c11
                  clear c11
                  obtain rfl := Option.some.inj H
                  have p4 : 0 ≤ (x3_1 : Int) := of_decide_eq_true (by first | (with_reducible assumption) | assumption)
                  have q4 : x3_1 < (a0.size : Int) := of_decide_eq_true (by first | (with_reducible assumption) | assumption)
                  have hx4 := bt_at a0 x3_1
                  replace p4 := eq_true p4
                  replace q4 := eq_true q4
                  have p6 : 0 ≤ (x3_1 : Int) := of_decide_eq_true (by first | (with_reducible assumption) | assumption)
                  have q6 : x3_1 < (a0.size : Int) := of_decide_eq_true (by first | (with_reducible assumption) | assumption)
                  have hx6 := bt_at a0 x3_1
                  replace p6 := eq_true p6
                  replace q6 := eq_true q6
                  have p8 : 0 ≤ (x3_1 : Int) := of_decide_eq_true (by first | (with_reducible assumption) | assumption)
                  have q8 : x3_1 < (a0.size : Int) := of_decide_eq_true (by first | (with_reducible assumption) | assumption)
                  have hx8 := bt_at a0 x3_1
                  replace p8 := eq_true p8
                  replace q8 := eq_true q8
                  have p10 : 0 ≤ (x3_1 : Int) := of_decide_eq_true (by first | (with_reducible assumption) | assumption)
                  have q10 : x3_1 < (a0.size : Int) := of_decide_eq_true (by first | (with_reducible assumption) | assumption)
                  have hx10 := bt_at a0 x3_1
                  replace p10 := eq_true p10
                  replace q10 := eq_true q10
                  go_wp2
                  go_ret
                  exact ⟨by first | rfl | (simp; done) | (simp [*]; done), by repeat (first | exact Drawn0.refl _ | apply Drawn0.step)⟩
              · rw [if_neg c9] at H
                have c9b0 : decide (97 ≤ (bt a0 x3_1)) = false := decide_eq_false c9
                clear c9
                obtain rfl := Option.some.inj H
                have p4 : 0 ≤ (x3_1 : Int) := of_decide_eq_true (by first | (with_reducible assumption) | assumption)
                have q4 : x3_1 < (a0.size : Int) := of_decide_eq_true (by first | (with_reducible assumption) | assumption)
                have hx4 := bt_at a0 x3_1
                replace p4 := eq_true p4
                replace q4 := eq_true q4
                have p6 : 0 ≤ (x3_1 : Int) := of_decide_eq_true (by first | (with_reducible assumption) | assumption)
                have q6 : x3_1 < (a0.size : Int) := of_decide_eq_true (by first | (with_reducible assumption) | assumption)
                have hx6 := bt_at a0 x3_1
                replace p6 := eq_true p6
                replace q6 := eq_true q6
                have p8 : 0 ≤ (x3_1 : Int) := of_decide_eq_true (by first | (with_reducible assumption) | assumption)
                have q8 : x3_1 < (a0.size : Int) := of_decide_eq_true (by first | (with_reducible assumption) | assumption)
                have hx8 := bt_at a0 x3_1
                replace p8 := eq_true p8
                replace q8 := eq_true q8
                go_wp2
                go_ret
                exact ⟨by first | rfl | (simp; done) | (simp [*]; done), by repeat (first | exact Drawn0.refl _ | apply Drawn0.step)⟩
          · rw [if_neg c5] at H
            have c5b0 : decide (48 ≤ (bt a0 x3_1)) = false := decide_eq_false c5
            clear c5
            by_cases c13 : (bt a0 x3_1) ≥ 97
            · rw [if_pos c13] at H
              have c13b0 : decide (97 ≤ (bt a0 x3_1)) = true := decide_eq_true c13
              clear c13
              by_cases c15 : ((bt a0 x3_1) ≤ 102)
              · rw [if_pos c15] at H
                have c15b0 : decide ((bt a0 x3_1) ≤ 102) = true := decide_eq_true c15
                clear c15
                have H' := Aside0.mk H
                clear H
                have p4 : 0 ≤ (x3_1 : Int) := of_decide_eq_true (by first | (with_reducible assumption) | assumption)
                have q4 : x3_1 < (a0.size : Int) := of_decide_eq_true (by first | (with_reducible assumption) | assumption)
                have hx4 := bt_at a0 x3_1
                replace p4 := eq_true p4
                replace q4 := eq_true q4
                have p12 : 0 ≤ (x3_1 : Int) := of_decide_eq_true (by first | (with_reducible assumption) | assumption)
                have q12 : x3_1 < (a0.size : Int) := of_decide_eq_true (by first | (with_reducible assumption) | assumption)
                have hx12 := bt_at a0 x3_1
                replace p12 := eq_true p12
                replace q12 := eq_true q12
                have p14 : 0 ≤ (x3_1 : Int) := of_decide_eq_true (by first | (with_reducible assumption) | assumption)
                have q14 : x3_1 < (a0.size : Int) := of_decide_eq_true (by first | (with_reducible assumption) | assumption)
                have hx14 := bt_at a0 x3_1
                replace p14 := eq_true p14
                replace q14 := eq_true q14
                go_wp2
                go_roundg k1
                case measure => have := HK1.out; omega
                case rel => exact ⟨(wrap64 (x3_1 + 1)), (by first | rfl | (simp; done) | (simp [*]; done)), H', ⟨by have := HK1.out; omega⟩, by repeat (first | exact Drawn0.refl _ | apply Drawn0.step)⟩
              · rw [if_neg c15] at H
                have c15b0 : decide ((bt a0 x3_1) ≤ 102) = false := decide_eq_false c15
                clear c15
                obtain rfl := Option.some.inj H
                have p4 : 0 ≤ (x3_1 : Int) := of_decide_eq_true (by first | (with_reducible assumption) | assumption)
                have q4 : x3_1 < (a0.size : Int) := of_decide_eq_true (by first | (with_reducible assumption) | assumption)
                have hx4 := bt_at a0 x3_1
                replace p4 := eq_true p4
                replace q4 := eq_true q4
                have p12 : 0 ≤ (x3_1 : Int) := of_decide_eq_true (by first | (with_reducible assumption) | assumption)
                have q12 : x3_1 < (a0.size : Int) := of_decide_eq_true (by first | (with_reducible assumption) | assumption)
                have hx12 := bt_at a0 x3_1
                replace p12 := eq_true p12
                replace q12 := eq_true q12
                have p14 : 0 ≤ (x3_1 : Int) := of_decide_eq_true (by first | (with_reducible assumption) | assumption)
                have q14 : x3_1 < (a0.size : Int) := of_decide_eq_true (by first | (with_reducible assumption) | assumption)
                have hx14 := bt_at a0 x3_1
                replace p14 := eq_true p14
                replace q14 := eq_true q14
                go_wp2
                go_ret
                exact ⟨by first | rfl | (simp; done) | (simp [*]; done), by repeat (first | exact Drawn0.refl _ | apply Drawn0.step)⟩
            · rw [if_neg c13] at H
              have c13b0 : decide (97 ≤ (bt a0 x3_1)) = false := decide_eq_false c13
              clear c13
              obtain rfl := Option.some.inj H
              have p4 : 0 ≤ (x3_1 : Int) := of_decide_eq_true (by first | (with_reducible assumption) | assumption)
              have q4 : x3_1 < (a0.size : Int) := of_decide_eq_true (by first | (with_reducible assumption) | assumption)
              have hx4 := bt_at a0 x3_1
              replace p4 := eq_true p4
              replace q4 := eq_true q4
              have p12 : 0 ≤ (x3_1 : Int) := of_decide_eq_true (by first | (with_reducible assumption) | assumption)
              have q12 : x3_1 < (a0.size : Int) := of_decide_eq_true (by first | (with_reducible assumption) | assumption)
              have hx12 := bt_at a0 x3_1
              replace p12 := eq_true p12
              replace q12 := eq_true q12
              go_wp2
              go_ret
              exact ⟨by first | rfl | (simp; done) | (simp [*]; done), by repeat (first | exact Drawn0.refl _ | apply Drawn0.step)⟩
        · rw [if_neg c3] at H
          exact absurd H (by simp)
      · rw [if_neg c2] at H
        have c2b0 : decide (x3_1 < (a0.size : Int)) = false := decide_eq_false c2
        clear c2
        obtain rfl := Option.some.inj H
        go_wp2
        go_ret
        exact ⟨by first | rfl | (simp; done) | (simp [*]; done), by repeat (first | exact Drawn0.refl _ | apply Drawn0.step)⟩

/-! ### chancelref10_Right: function 7 -/
mutual
def chancelref10_Right.j0 : Nat → List (S26) → Bool → Option (Bool)
  | 0, _, _ => none
  | k + 1, x0, x12 => if x12 = true then (some false) else (chancelref10_Right.l0 k x0 0)
def chancelref10_Right.l0 : Nat → List (S26) → Int → Option (Bool)
  | 0, _, _ => none
  | k + 1, x0, x3 => if x3 < (x0.length : Int) then (if 0 ≤ x3 then (if ((rd_T26 x0 x3).f0).toList = ([] : List UInt8) then (chancelref10_Right.j2 k x0 x3 true) else (if (((rd_T26 x0 x3).f0).size : Int) > 20 then (chancelref10_Right.j2 k x0 x3 true) else (if (((rd_T26 x0 x3).f1).size : Int) > 20 then (chancelref10_Right.j2 k x0 x3 true) else ((chancelref10_seal.f k ((rd_T26 x0 x3).f2)).bind fun t114 => (chancelref10_Right.j2 k x0 x3 (!t114)))))) else (none)) else (some true)
def chancelref10_Right.j2 : Nat → List (S26) → Int → Bool → Option (Bool)
  | 0, _, _, _ => none
  | k + 1, x0, x3, x51 => if x51 = true then (some false) else (chancelref10_Right.l1 k x0 x3 0)
def chancelref10_Right.l1 : Nat → List (S26) → Int → Int → Option (Bool)
  | 0, _, _, _ => none
  | k + 1, x0, x3, x4 => if x4 < x3 then (if 0 ≤ x4 then (if x4 < (x0.length : Int) then (if 0 ≤ x3 then (if x3 < (x0.length : Int) then (if ((rd_T26 x0 x4).f0).toList = ((rd_T26 x0 x3).f0).toList then (some false) else (chancelref10_Right.l1 k x0 x3 (wrap64 (x4 + 1)))) else (none)) else (none)) else (none)) else (none)) else (chancelref10_Right.l0 k x0 (wrap64 (x3 + 1)))
end
def chancelref10_Right.f (k : Nat) (l0 : List (S26)) : Option (Bool) := if (l0.length : Int) < 1 then (chancelref10_Right.j0 k l0 true) else (chancelref10_Right.j0 k l0 (decide ((l0.length : Int) > 8)))
theorem chancelref10_Right.mono_l : ∀ k, (∀ y0 y1, LeO (chancelref10_Right.j0 k y0 y1) (chancelref10_Right.j0 (k + 1) y0 y1)) ∧ (∀ y0 y1, LeO (chancelref10_Right.l0 k y0 y1) (chancelref10_Right.l0 (k + 1) y0 y1)) ∧ (∀ y0 y1 y2, LeO (chancelref10_Right.j2 k y0 y1 y2) (chancelref10_Right.j2 (k + 1) y0 y1 y2)) ∧ (∀ y0 y1 y2, LeO (chancelref10_Right.l1 k y0 y1 y2) (chancelref10_Right.l1 (k + 1) y0 y1 y2))
  | 0 => ⟨fun _ _ r h => by simp [chancelref10_Right.j0] at h, fun _ _ r h => by simp [chancelref10_Right.l0] at h, fun _ _ _ r h => by simp [chancelref10_Right.j2] at h, fun _ _ _ r h => by simp [chancelref10_Right.l1] at h⟩
  | k + 1 => by
    obtain ⟨ih0, ih1, ih2, ih3⟩ := chancelref10_Right.mono_l k
    refine ⟨?_, ?_, ?_, ?_⟩
    · intro y0 y1
      unfold chancelref10_Right.j0
      repeat' first
      | (with_reducible exact ih0 _ _)
      | (with_reducible exact ih1 _ _)
      | (with_reducible exact ih2 _ _ _)
      | (with_reducible exact ih3 _ _ _)
      | (with_reducible exact chancelref10_seal.mono _ _)
      | (with_reducible exact LeO.refl _)
      | (with_reducible exact LeO.none _)
      | (with_reducible refine LeO.ite ?_ ?_)
      | (with_reducible refine LeO.bind ?_ (fun _ => ?_))
      | exact ih0 _ _
      | exact ih1 _ _
      | exact ih2 _ _ _
      | exact ih3 _ _ _
      | exact chancelref10_seal.mono _ _
      | exact LeO.none _
      | refine LeO.ite ?_ ?_
      | refine LeO.bind ?_ (fun _ => ?_)
    · intro y0 y1
      unfold chancelref10_Right.l0
      repeat' first
      | (with_reducible exact ih0 _ _)
      | (with_reducible exact ih1 _ _)
      | (with_reducible exact ih2 _ _ _)
      | (with_reducible exact ih3 _ _ _)
      | (with_reducible exact chancelref10_seal.mono _ _)
      | (with_reducible exact LeO.refl _)
      | (with_reducible exact LeO.none _)
      | (with_reducible refine LeO.ite ?_ ?_)
      | (with_reducible refine LeO.bind ?_ (fun _ => ?_))
      | exact ih0 _ _
      | exact ih1 _ _
      | exact ih2 _ _ _
      | exact ih3 _ _ _
      | exact chancelref10_seal.mono _ _
      | exact LeO.none _
      | refine LeO.ite ?_ ?_
      | refine LeO.bind ?_ (fun _ => ?_)
    · intro y0 y1 y2
      unfold chancelref10_Right.j2
      repeat' first
      | (with_reducible exact ih0 _ _)
      | (with_reducible exact ih1 _ _)
      | (with_reducible exact ih2 _ _ _)
      | (with_reducible exact ih3 _ _ _)
      | (with_reducible exact chancelref10_seal.mono _ _)
      | (with_reducible exact LeO.refl _)
      | (with_reducible exact LeO.none _)
      | (with_reducible refine LeO.ite ?_ ?_)
      | (with_reducible refine LeO.bind ?_ (fun _ => ?_))
      | exact ih0 _ _
      | exact ih1 _ _
      | exact ih2 _ _ _
      | exact ih3 _ _ _
      | exact chancelref10_seal.mono _ _
      | exact LeO.none _
      | refine LeO.ite ?_ ?_
      | refine LeO.bind ?_ (fun _ => ?_)
    · intro y0 y1 y2
      unfold chancelref10_Right.l1
      repeat' first
      | (with_reducible exact ih0 _ _)
      | (with_reducible exact ih1 _ _)
      | (with_reducible exact ih2 _ _ _)
      | (with_reducible exact ih3 _ _ _)
      | (with_reducible exact chancelref10_seal.mono _ _)
      | (with_reducible exact LeO.refl _)
      | (with_reducible exact LeO.none _)
      | (with_reducible refine LeO.ite ?_ ?_)
      | (with_reducible refine LeO.bind ?_ (fun _ => ?_))
      | exact ih0 _ _
      | exact ih1 _ _
      | exact ih2 _ _ _
      | exact ih3 _ _ _
      | exact chancelref10_seal.mono _ _
      | exact LeO.none _
      | refine LeO.ite ?_ ?_
      | refine LeO.bind ?_ (fun _ => ?_)
theorem chancelref10_Right.mono : ∀ a0 k, LeO (chancelref10_Right.f k a0) (chancelref10_Right.f (k + 1) a0) := by
  intro a0 k
  obtain ⟨ih0, ih1, ih2, ih3⟩ := chancelref10_Right.mono_l k
  unfold chancelref10_Right.f
  repeat' first
      | (with_reducible exact ih0 _ _)
      | (with_reducible exact ih1 _ _)
      | (with_reducible exact ih2 _ _ _)
      | (with_reducible exact ih3 _ _ _)
      | (with_reducible exact chancelref10_seal.mono _ _)
      | (with_reducible exact LeO.refl _)
      | (with_reducible exact LeO.none _)
      | (with_reducible refine LeO.ite ?_ ?_)
      | (with_reducible refine LeO.bind ?_ (fun _ => ?_))
      | exact ih0 _ _
      | exact ih1 _ _
      | exact ih2 _ _ _
      | exact ih3 _ _ _
      | exact chancelref10_seal.mono _ _
      | exact LeO.none _
      | refine LeO.ite ?_ ?_
      | refine LeO.bind ?_ (fun _ => ?_)
set_option maxHeartbeats 8000000 in
set_option maxRecDepth 100000 in
theorem chancelref10_Right.calls (k : Nat) (A0 : Option Addr) (c0 : Nat) (l0 : List (S26)) (r : Bool) (w : World) (hr0 : Kd.C k26 w A0 l0.length l0) (hc0 : l0.length ≤ c0) (h : chancelref10_Right.f k l0 = some r) :
    Calls Tryd.prog 7 #[.slice A0 l0.length c0] w fun e w' => e = .returned (.bool r) ∧ Drawn0 w w' := by
  have HR0 := Aside0.mk hr0
  have HC0 := Aside0.mk hc0
  clear hr0 hc0
  have H : (if (l0.length : Int) < 1 then (chancelref10_Right.j0 k l0 true) else (chancelref10_Right.j0 k l0 (decide ((l0.length : Int) > 8)))) = some r := h
  clear h
  have HC2 := Aside0.mk H
  clear H
  go_enter Tryd.func7, Tryd.ntmps7
  go_upto_region 1 with (fail)
  repeat (go_quiet (fail); go_upto_region 1 with (fail))
  go_cut [12] (fun v12 wc => ∃ (kq : Nat) (x12_1 : Bool), v12 = .bool x12_1 ∧ Aside0 (chancelref10_Right.j0 kq l0 x12_1 = some r) ∧ Aside0 (kq ≤ k) ∧ Drawn0 w wc)
  case first =>
    have H := HC2.out
    clear HC2
    by_cases c3 : (l0.length : Int) < 1
    · rw [if_pos c3] at H
      have c3b0 : decide ((l0.length : Int) < 1) = true := decide_eq_true c3
      have c3b1 : decide (l0.length < 1) = true := decide_eq_true (by omega)
      clear c3
      (first | rw [c3b0] | (simp only [i64_w, i32_w]; rw [c3b0]) | skip)
      have H' := Aside0.mk H
      clear H
      go_wp2
      repeat (go_quiet (fail); try go_wp2)
      go_meet
      case rel => exact ⟨_, (true), (by first | rfl | (simp; done) | (simp [*]; done)), H', ⟨by first | omega | exact Nat.le_refl _⟩, by repeat (first | exact Drawn0.refl _ | apply Drawn0.step)⟩
    · rw [if_neg c3] at H
      have c3b0 : decide ((l0.length : Int) < 1) = false := decide_eq_false c3
      have c3b1 : decide (l0.length < 1) = false := decide_eq_false (by omega)
      clear c3
      (first | rw [c3b0] | (simp only [i64_w, i32_w]; rw [c3b0]) | skip)
      have H' := Aside0.mk H
      clear H
      go_wp2
      repeat (go_quiet (fail); try go_wp2)
      go_meet
      case rel => exact ⟨_, (decide ((l0.length : Int) > 8)), (by first | rfl | (simp; done) | (simp [*]; done)), H', ⟨by first | omega | exact Nat.le_refl _⟩, by repeat (first | exact Drawn0.refl _ | apply Drawn0.step)⟩
  case rest =>
    clear HC2
    try clear p2
    try clear c3
    try clear c3b0
    try clear c3b1
    obtain ⟨kq, x12_1, rfl, HA, HJ1, ⟨mc1, rfl⟩⟩ := hcut
    cases kq with
    | zero => exact absurd HA.out (by simp [chancelref10_Right.j0])
    | succ kj1 =>
      have H := HA.out
      clear HA
      simp only [chancelref10_Right.j0] at H
      by_cases c4 : x12_1 = true
      · subst c4
        have H1 : (some false) = some r := by rw [if_pos rfl] at H; exact H
        clear H
        have H := H1
        clear H1
        obtain rfl := Option.some.inj H
        go_wp2
        repeat (go_quiet (fail); try go_wp2)
        go_ret
        exact ⟨by first | rfl | (simp; done) | (simp [*]; done), by repeat (first | exact Drawn0.refl _ | apply Drawn0.step)⟩
      · replace c4 := Bool.eq_false_iff.mpr c4
        subst c4
        have H1 : (chancelref10_Right.l0 kj1 l0 0) = some r := by rw [if_neg (show ¬ (false = true) by decide)] at H; exact H
        clear H
        have H := H1
        clear H1
        have H' := Aside0.mk H
        clear H
        go_wp2
        repeat (go_quiet (fail); try go_wp2)
        go_loopg [3] kj1 (fun kq v3 w' => ∃ (x3_2 : Int), v3 = .int .i64 x3_2 ∧ Aside0 (chancelref10_Right.l0 kq l0 x3_2 = some r) ∧ Aside0 (kq ≤ kj1) ∧ Drawn0 w w')
        case atStart => exact ⟨(0), (by first | rfl | (simp; done) | (simp [*]; done)), H', ⟨Nat.le_refl _⟩, by repeat (first | exact Drawn0.refl _ | apply Drawn0.step)⟩
        case round =>
          clear H'
          try clear c1
          try clear p2
          try clear c3
          try clear c3b0
          try clear c3b1
          try clear c4
          try clear p2
          obtain ⟨x3_2, rfl, HA, HK2, ⟨m2, rfl⟩⟩ := hrel
          cases gk with
          | zero => exact absurd HA.out (by simp [chancelref10_Right.l0])
          | succ k2 =>
            have H := HA.out
            clear HA
            simp only [chancelref10_Right.l0] at H
            by_cases c5 : x3_2 < (l0.length : Int)
            · rw [if_pos c5] at H
              have c5b0 : decide (x3_2 < (l0.length : Int)) = true := decide_eq_true c5
              clear c5
              have HC6 := Aside0.mk H
              clear H
              go_upto_region 6 with (fail)
              repeat (go_quiet (fail); go_upto_region 6 with (fail))
              go_cut [51] (fun v51 wc => ∃ (kq : Nat) (x51_5 : Bool), v51 = .bool x51_5 ∧ Aside0 (chancelref10_Right.j2 kq l0 x3_2 x51_5 = some r) ∧ Aside0 (kq ≤ k2) ∧ Drawn0 w wc)
              case first =>
                have H := HC6.out
                clear HC6
                by_cases c7 : 0 ≤ x3_2
                · rw [if_pos c7] at H
                  have c7b0 : decide (0 ≤ x3_2) = true := decide_eq_true c7
                  clear c7
                  (first | rw [c7b0] | (simp only [i64_w, i32_w]; rw [c7b0]) | skip)
                  by_cases c8 : ((rd_T26 l0 x3_2).f0).toList = ([] : List UInt8)
                  · rw [if_pos c8] at H
                    have c8b0 : (((rd_T26 l0 x3_2).f0).toList == ([] : List UInt8)) = true := beq_iff_eq.mpr c8
                    have c8b1 : (((rd_T26 l0 x3_2).f0).toList != ([] : List UInt8)) = false := bne_eq_false_iff_eq.mpr c8
                    clear c8
                    have H' := Aside0.mk H
                    clear H
                    have p110 : 0 ≤ (x3_2 : Int) := of_decide_eq_true (by first | (with_reducible assumption) | assumption)
                    have q110 : x3_2 < (l0.length : Int) := of_decide_eq_true (by first | (with_reducible assumption) | assumption)
                    obtain ⟨ad110, e110, hx110_0, hx110_1, hx110_2⟩ := at_T26 HR0.out x3_2 p110 q110
                    cases e110
                    replace p110 := eq_true p110
                    replace q110 := eq_true q110
                    go_wp2
                    repeat (go_quiet (fail); try go_wp2)
                    go_meet
                    case rel => exact ⟨_, (true), (by first | rfl | (simp; done) | (simp [*]; done)), H', ⟨by have := HJ1.out; have := HK2.out; first | omega | exact Nat.le_refl _⟩, by repeat (first | exact Drawn0.refl _ | apply Drawn0.step)⟩
                  · rw [if_neg c8] at H
                    have c8b0 : (((rd_T26 l0 x3_2).f0).toList == ([] : List UInt8)) = false := beq_eq_false_iff_ne.mpr c8
                    have c8b1 : (((rd_T26 l0 x3_2).f0).toList != ([] : List UInt8)) = true := bne_iff_ne.mpr c8
                    by_cases c9 : (((rd_T26 l0 x3_2).f0).size : Int) > 20
                    · rw [if_pos c9] at H
                      have c9b0 : decide (20 < (((rd_T26 l0 x3_2).f0).size : Int)) = true := decide_eq_true c9
                      have c9b1 : decide (20 < ((rd_T26 l0 x3_2).f0).size) = true := decide_eq_true (by omega)
                      clear c9
                      have H' := Aside0.mk H
                      clear H
                      have p110 : 0 ≤ (x3_2 : Int) := of_decide_eq_true (by first | (with_reducible assumption) | assumption)
                      have q110 : x3_2 < (l0.length : Int) := of_decide_eq_true (by first | (with_reducible assumption) | assumption)
                      obtain ⟨ad110, e110, hx110_0, hx110_1, hx110_2⟩ := at_T26 HR0.out x3_2 p110 q110
                      cases e110
                      replace p110 := eq_true p110
                      replace q110 := eq_true q110
                      have p111 : 0 ≤ (x3_2 : Int) := of_decide_eq_true (by first | (with_reducible assumption) | assumption)
                      have q111 : x3_2 < (l0.length : Int) := of_decide_eq_true (by first | (with_reducible assumption) | assumption)
                      obtain ⟨ad111, e111, hx111_0, hx111_1, hx111_2⟩ := at_T26 HR0.out x3_2 p111 q111
                      obtain rfl : ad110 = ad111 := (by injection e111)
                      replace p111 := eq_true p111
                      replace q111 := eq_true q111
                      go_wp2
                      repeat (go_quiet (fail); try go_wp2)
                      go_meet
                      case rel => exact ⟨_, (true), (by first | rfl | (simp; done) | (simp [*]; done)), H', ⟨by have := HJ1.out; have := HK2.out; first | omega | exact Nat.le_refl _⟩, by repeat (first | exact Drawn0.refl _ | apply Drawn0.step)⟩
                    · rw [if_neg c9] at H
                      have c9b0 : decide (20 < (((rd_T26 l0 x3_2).f0).size : Int)) = false := decide_eq_false c9
                      have c9b1 : decide (20 < ((rd_T26 l0 x3_2).f0).size) = false := decide_eq_false (by omega)
                      clear c9
                      by_cases c10 : (((rd_T26 l0 x3_2).f1).size : Int) > 20
                      · rw [if_pos c10] at H
                        have c10b0 : decide (20 < (((rd_T26 l0 x3_2).f1).size : Int)) = true := decide_eq_true c10
                        have c10b1 : decide (20 < ((rd_T26 l0 x3_2).f1).size) = true := decide_eq_true (by omega)
                        clear c10
                        have H' := Aside0.mk H
                        clear H
                        have p110 : 0 ≤ (x3_2 : Int) := of_decide_eq_true (by first | (with_reducible assumption) | assumption)
                        have q110 : x3_2 < (l0.length : Int) := of_decide_eq_true (by first | (with_reducible assumption) | assumption)
                        obtain ⟨ad110, e110, hx110_0, hx110_1, hx110_2⟩ := at_T26 HR0.out x3_2 p110 q110
                        cases e110
                        replace p110 := eq_true p110
                        replace q110 := eq_true q110
                        have p111 : 0 ≤ (x3_2 : Int) := of_decide_eq_true (by first | (with_reducible assumption) | assumption)
                        have q111 : x3_2 < (l0.length : Int) := of_decide_eq_true (by first | (with_reducible assumption) | assumption)
                        obtain ⟨ad111, e111, hx111_0, hx111_1, hx111_2⟩ := at_T26 HR0.out x3_2 p111 q111
                        obtain rfl : ad110 = ad111 := (by injection e111)
                        replace p111 := eq_true p111
                        replace q111 := eq_true q111
                        have p112 : 0 ≤ (x3_2 : Int) := of_decide_eq_true (by first | (with_reducible assumption) | assumption)
                        have q112 : x3_2 < (l0.length : Int) := of_decide_eq_true (by first | (with_reducible assumption) | assumption)
                        obtain ⟨ad112, e112, hx112_0, hx112_1, hx112_2⟩ := at_T26 HR0.out x3_2 p112 q112
                        obtain rfl : ad110 = ad112 := (by injection e112)
                        replace p112 := eq_true p112
                        replace q112 := eq_true q112
                        go_wp2
                        repeat (go_quiet (fail); try go_wp2)
                        go_meet
                        case rel => exact ⟨_, (true), (by first | rfl | (simp; done) | (simp [*]; done)), H', ⟨by have := HJ1.out; have := HK2.out; first | omega | exact Nat.le_refl _⟩, by repeat (first | exact Drawn0.refl _ | apply Drawn0.step)⟩
                      · rw [if_neg c10] at H
                        have c10b0 : decide (20 < (((rd_T26 l0 x3_2).f1).size : Int)) = false := decide_eq_false c10
                        have c10b1 : decide (20 < ((rd_T26 l0 x3_2).f1).size) = false := decide_eq_false (by omega)
                        clear c10
                        replace H := Option.bind_eq_some_iff.mp H
                        obtain ⟨t114, A110, H⟩ := H
                        replace H : (chancelref10_Right.j2 k2 l0 x3_2 (!t114)) = some r := H
                        have A11 := Aside0.mk A110
                        clear A110
                        have H' := Aside0.mk H
                        clear H
                        have p110 : 0 ≤ (x3_2 : Int) := of_decide_eq_true (by first | (with_reducible assumption) | assumption)
                        have q110 : x3_2 < (l0.length : Int) := of_decide_eq_true (by first | (with_reducible assumption) | assumption)
                        obtain ⟨ad110, e110, hx110_0, hx110_1, hx110_2⟩ := at_T26 HR0.out x3_2 p110 q110
                        cases e110
                        replace p110 := eq_true p110
                        replace q110 := eq_true q110
                        have p111 : 0 ≤ (x3_2 : Int) := of_decide_eq_true (by first | (with_reducible assumption) | assumption)
                        have q111 : x3_2 < (l0.length : Int) := of_decide_eq_true (by first | (with_reducible assumption) | assumption)
                        obtain ⟨ad111, e111, hx111_0, hx111_1, hx111_2⟩ := at_T26 HR0.out x3_2 p111 q111
                        obtain rfl : ad110 = ad111 := (by injection e111)
                        replace p111 := eq_true p111
                        replace q111 := eq_true q111
                        have p112 : 0 ≤ (x3_2 : Int) := of_decide_eq_true (by first | (with_reducible assumption) | assumption)
                        have q112 : x3_2 < (l0.length : Int) := of_decide_eq_true (by first | (with_reducible assumption) | assumption)
                        obtain ⟨ad112, e112, hx112_0, hx112_1, hx112_2⟩ := at_T26 HR0.out x3_2 p112 q112
                        obtain rfl : ad110 = ad112 := (by injection e112)
                        replace p112 := eq_true p112
                        replace q112 := eq_true q112
                        have p113 : 0 ≤ (x3_2 : Int) := of_decide_eq_true (by first | (with_reducible assumption) | assumption)
                        have q113 : x3_2 < (l0.length : Int) := of_decide_eq_true (by first | (with_reducible assumption) | assumption)
                        obtain ⟨ad113, e113, hx113_0, hx113_1, hx113_2⟩ := at_T26 HR0.out x3_2 p113 q113
                        obtain rfl : ad110 = ad113 := (by injection e113)
                        replace p113 := eq_true p113
                        replace q113 := eq_true q113
                        go_wp2_with (first | (go_at_call 10; (with_reducible refine (chancelref10_seal.calls k2 ((rd_T26 l0 x3_2).f2) t114 _ A11.out).mono ?_); rintro e w' ⟨rfl, ⟨nd, rfl⟩⟩; (try first | exact ⟨rfl, _, World.drewN_drewN _ _ _⟩ | exact ⟨rfl, _, Eq.trans (World.drewN_drewN _ _ _) (congrArg (World.drewN _) (Nat.add_assoc _ _ _))⟩)))
                        repeat (go_quiet (first | (go_at_call 10; (with_reducible refine (chancelref10_seal.calls k2 ((rd_T26 l0 x3_2).f2) t114 _ A11.out).mono ?_); rintro e w' ⟨rfl, ⟨nd, rfl⟩⟩; (try first | exact ⟨rfl, _, World.drewN_drewN _ _ _⟩ | exact ⟨rfl, _, Eq.trans (World.drewN_drewN _ _ _) (congrArg (World.drewN _) (Nat.add_assoc _ _ _))⟩))); try go_wp2_with (first | (go_at_call 10; (with_reducible refine (chancelref10_seal.calls k2 ((rd_T26 l0 x3_2).f2) t114 _ A11.out).mono ?_); rintro e w' ⟨rfl, ⟨nd, rfl⟩⟩; (try first | exact ⟨rfl, _, World.drewN_drewN _ _ _⟩ | exact ⟨rfl, _, Eq.trans (World.drewN_drewN _ _ _) (congrArg (World.drewN _) (Nat.add_assoc _ _ _))⟩))))
                        go_meet
                        case rel => exact ⟨_, (!t114), (by first | rfl | (simp; done) | (simp [*]; done)), H', ⟨by have := HJ1.out; have := HK2.out; first | omega | exact Nat.le_refl _⟩, by repeat (first | exact Drawn0.refl _ | apply Drawn0.step)⟩
                · rw [if_neg c7] at H
                  exact absurd H (by simp)
              case rest =>
                clear HC6
                try clear c1
                try clear p1
                try clear q1
                try clear hx1
                try clear p2
                try clear c3
                try clear c3b0
                try clear c3b1
                try clear c4
                try clear c5
                try clear c5b0
                try clear c7
                try clear c7b0
                try clear c8
                try clear c8b0
                try clear c8b1
                try clear c9
                try clear c9b0
                try clear c9b1
                try clear c10
                try clear c10b0
                try clear c10b1
                try clear p11
                try clear q11
                try clear hx11
                try clear hx110_0
                try clear hx110_1
                try clear hx110_2
                try clear hx111_0
                try clear hx111_1
                try clear hx111_2
                try clear hx112_0
                try clear hx112_1
                try clear hx112_2
                try clear hx113_0
                try clear hx113_1
                try clear hx113_2
                try clear p110
                try clear p111
                try clear p112
                try clear p113
                try clear p2
                try clear q110
                try clear q111
                try clear q112
                try clear q113
                obtain ⟨kq, x51_5, rfl, HA, HJ5, ⟨mc5, rfl⟩⟩ := hcut
                cases kq with
                | zero => exact absurd HA.out (by simp [chancelref10_Right.j2])
                | succ kj5 =>
                  have H := HA.out
                  clear HA
                  simp only [chancelref10_Right.j2] at H
                  by_cases c12 : x51_5 = true
                  · subst c12
                    have H1 : (some false) = some r := by rw [if_pos rfl] at H; exact H
                    clear H
                    have H := H1
                    clear H1
                    obtain rfl := Option.some.inj H
                    go_wp2
                    repeat (go_quiet (fail); try go_wp2)
                    go_ret
                    exact ⟨by first | rfl | (simp; done) | (simp [*]; done), by repeat (first | exact Drawn0.refl _ | apply Drawn0.step)⟩
                  · replace c12 := Bool.eq_false_iff.mpr c12
                    subst c12
                    have H1 : (chancelref10_Right.l1 kj5 l0 x3_2 0) = some r := by rw [if_neg (show ¬ (false = true) by decide)] at H; exact H
                    clear H
                    have H := H1
                    clear H1
                    have H' := Aside0.mk H
                    clear H
                    go_wp2
                    repeat (go_quiet (fail); try go_wp2)
                    go_loopg [4] kj5 (fun kq v4 w' => ∃ (x4_4 : Int), v4 = .int .i64 x4_4 ∧ Aside0 (chancelref10_Right.l1 kq l0 x3_2 x4_4 = some r) ∧ Aside0 (kq ≤ kj5) ∧ Drawn0 w w')
                    case atStart => exact ⟨(0), (by first | rfl | (simp; done) | (simp [*]; done)), H', ⟨Nat.le_refl _⟩, by repeat (first | exact Drawn0.refl _ | apply Drawn0.step)⟩
                    case round =>
                      clear H'
                      try clear c1
                      try clear p1
                      try clear q1
                      try clear hx1
                      try clear p2
                      try clear c3
                      try clear c3b0
                      try clear c3b1
                      try clear c4
                      try clear c5
                      try clear c5b0
                      try clear c7
                      try clear c7b0
                      try clear c8
                      try clear c8b0
                      try clear c8b1
                      try clear c9
                      try clear c9b0
                      try clear c9b1
                      try clear c10
                      try clear c10b0
                      try clear c10b1
                      try clear p11
                      try clear q11
                      try clear hx11
                      try clear c12
                      try clear hx110_0
                      try clear hx110_1
                      try clear hx110_2
                      try clear hx111_0
                      try clear hx111_1
                      try clear hx111_2
                      try clear hx112_0
                      try clear hx112_1
                      try clear hx112_2
                      try clear hx113_0
                      try clear hx113_1
                      try clear hx113_2
                      try clear p1
                      try clear p11
                      try clear p110
                      try clear p111
                      try clear p112
                      try clear p113
                      try clear p2
                      try clear q1
                      try clear q11
                      try clear q110
                      try clear q111
                      try clear q112
                      try clear q113
                      obtain ⟨x4_4, rfl, HA, HK4, ⟨m4, rfl⟩⟩ := hrel
                      cases gk with
                      | zero => exact absurd HA.out (by simp [chancelref10_Right.l1])
                      | succ k4 =>
                        have H := HA.out
                        clear HA
                        simp only [chancelref10_Right.l1] at H
                        by_cases c13 : x4_4 < x3_2
                        · rw [if_pos c13] at H
                          have c13b0 : decide (x4_4 < x3_2) = true := decide_eq_true c13
                          clear c13
                          by_cases c14 : 0 ≤ x4_4
                          · rw [if_pos c14] at H
                            have c14b0 : decide (0 ≤ x4_4) = true := decide_eq_true c14
                            clear c14
                            by_cases c15 : x4_4 < (l0.length : Int)
                            · rw [if_pos c15] at H
                              have c15b0 : decide (x4_4 < (l0.length : Int)) = true := decide_eq_true c15
                              clear c15
                              by_cases c16 : 0 ≤ x3_2
                              · rw [if_pos c16] at H
                                have c16b0 : decide (0 ≤ x3_2) = true := decide_eq_true c16
                                clear c16
                                by_cases c17 : x3_2 < (l0.length : Int)
                                · rw [if_pos c17] at H
                                  have c17b0 : decide (x3_2 < (l0.length : Int)) = true := decide_eq_true c17
                                  clear c17
                                  by_cases c18 : ((rd_T26 l0 x4_4).f0).toList = ((rd_T26 l0 x3_2).f0).toList
                                  · rw [if_pos c18] at H
                                    have c18b0 : (((rd_T26 l0 x4_4).f0).toList == ((rd_T26 l0 x3_2).f0).toList) = true := beq_iff_eq.mpr c18
                                    have c18b1 : (((rd_T26 l0 x4_4).f0).toList != ((rd_T26 l0 x3_2).f0).toList) = false := bne_eq_false_iff_eq.mpr c18
                                    clear c18
                                    obtain rfl := Option.some.inj H
                                    have p115 : 0 ≤ (x4_4 : Int) := of_decide_eq_true (by first | (with_reducible assumption) | assumption)
                                    have q115 : x4_4 < (l0.length : Int) := of_decide_eq_true (by first | (with_reducible assumption) | assumption)
                                    obtain ⟨ad115, e115, hx115_0, hx115_1, hx115_2⟩ := at_T26 HR0.out x4_4 p115 q115
                                    cases e115
                                    replace p115 := eq_true p115
                                    replace q115 := eq_true q115
                                    have p116 : 0 ≤ (x3_2 : Int) := of_decide_eq_true (by first | (with_reducible assumption) | assumption)
                                    have q116 : x3_2 < (l0.length : Int) := of_decide_eq_true (by first | (with_reducible assumption) | assumption)
                                    obtain ⟨ad116, e116, hx116_0, hx116_1, hx116_2⟩ := at_T26 HR0.out x3_2 p116 q116
                                    obtain rfl : ad115 = ad116 := (by injection e116)
                                    replace p116 := eq_true p116
                                    replace q116 := eq_true q116
                                    go_wp2
                                    repeat (go_quiet (fail); try go_wp2)
                                    go_ret
                                    exact ⟨by first | rfl | (simp; done) | (simp [*]; done), by repeat (first | exact Drawn0.refl _ | apply Drawn0.step)⟩
                                  · rw [if_neg c18] at H
                                    have c18b0 : (((rd_T26 l0 x4_4).f0).toList == ((rd_T26 l0 x3_2).f0).toList) = false := beq_eq_false_iff_ne.mpr c18
                                    have c18b1 : (((rd_T26 l0 x4_4).f0).toList != ((rd_T26 l0 x3_2).f0).toList) = true := bne_iff_ne.mpr c18
                                    have H' := Aside0.mk H
                                    clear H
                                    have p115 : 0 ≤ (x4_4 : Int) := of_decide_eq_true (by first | (with_reducible assumption) | assumption)
                                    have q115 : x4_4 < (l0.length : Int) := of_decide_eq_true (by first | (with_reducible assumption) | assumption)
                                    obtain ⟨ad115, e115, hx115_0, hx115_1, hx115_2⟩ := at_T26 HR0.out x4_4 p115 q115
                                    cases e115
                                    replace p115 := eq_true p115
                                    replace q115 := eq_true q115
                                    have p116 : 0 ≤ (x3_2 : Int) := of_decide_eq_true (by first | (with_reducible assumption) | assumption)
                                    have q116 : x3_2 < (l0.length : Int) := of_decide_eq_true (by first | (with_reducible assumption) | assumption)
                                    obtain ⟨ad116, e116, hx116_0, hx116_1, hx116_2⟩ := at_T26 HR0.out x3_2 p116 q116
                                    obtain rfl : ad115 = ad116 := (by injection e116)
                                    replace p116 := eq_true p116
                                    replace q116 := eq_true q116
                                    go_wp2
                                    repeat (go_quiet (fail); try go_wp2)
                                    go_roundg k4
                                    case measure => have := HJ1.out; have := HK2.out; have := HJ5.out; have := HK4.out; omega
                                    case rel => exact ⟨(wrap64 (x4_4 + 1)), (by first | rfl | (simp; done) | (simp [*]; done)), H', ⟨by have := HJ1.out; have := HK2.out; have := HJ5.out; have := HK4.out; omega⟩, by repeat (first | exact Drawn0.refl _ | apply Drawn0.step)⟩
                                · rw [if_neg c17] at H
                                  exact absurd H (by simp)
                              · rw [if_neg c16] at H
                                exact absurd H (by simp)
                            · rw [if_neg c15] at H
                              exact absurd H (by simp)
                          · rw [if_neg c14] at H
                            exact absurd H (by simp)
                        · rw [if_neg c13] at H
                          have c13b0 : decide (x4_4 < x3_2) = false := decide_eq_false c13
                          clear c13
                          have H' := Aside0.mk H
                          clear H
                          go_wp2
                          repeat (go_quiet (fail); try go_wp2)
                          go_roundg k4
                          case measure => have := HJ1.out; have := HK2.out; have := HJ5.out; have := HK4.out; omega
                          case rel => exact ⟨(wrap64 (x3_2 + 1)), (by first | rfl | (simp; done) | (simp [*]; done)), H', ⟨by have := HJ1.out; have := HK2.out; have := HJ5.out; have := HK4.out; omega⟩, by repeat (first | exact Drawn0.refl _ | apply Drawn0.step)⟩
            · rw [if_neg c5] at H
              have c5b0 : decide (x3_2 < (l0.length : Int)) = false := decide_eq_false c5
              clear c5
              obtain rfl := Option.some.inj H
              go_wp2
              repeat (go_quiet (fail); try go_wp2)
              go_ret
              exact ⟨by first | rfl | (simp; done) | (simp [*]; done), by repeat (first | exact Drawn0.refl _ | apply Drawn0.step)⟩

-- NOT PRINTED: function 3 (chancellaw10_SaltUsers)

end Go.Proofs.YtlpkgngjofabaaaDoor.PSaltUsers
