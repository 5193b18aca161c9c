-- Printed by wip/tools/oprint.py, a program of this session.
import Derived.Test.YtpeeneaapmmciaaPOtellsx0
import Derived.Test.YtpeeneaapmmciaaPOtellsx4
namespace Go.Proofs.Ytpeeneaapmmciaa.POtells
open Go.RowKit Go.Proofs.YtpeeneaapmmciaaW.PrintWords Go.Proofs.YtpeeneaapmmciaaW.PrintLast Go.Proofs.YtpeeneaapmmciaaW.PrintMore
attribute [local go_sem] max2_int min2_int max_two min_two max_three min_three max_four min_four   -- for this text's walks alone
set_option linter.unusedVariables false
set_option linter.unusedSimpArgs false

/-! ### confidantref2_Antisymmetric: function 31 -/
mutual
def confidantref2_Antisymmetric.l0 : Nat → List (List Bool) → Int → Option (Bool)
  | 0, _, _ => none
  | k + 1, x0, x3 => if x3 < (x0.length : Int) then ((confidantref2_Square.f k x0).bind fun t153 => (confidantref2_Antisymmetric.j1 k x0 x3 t153)) else (confidantref2_Antisymmetric.j1 k x0 x3 false)
def confidantref2_Antisymmetric.j1 : Nat → List (List Bool) → Int → Bool → Option (Bool)
  | 0, _, _, _ => none
  | k + 1, x0, x3, x12 => if x12 = true then (confidantref2_Antisymmetric.l1 k x0 x3 0) else ((confidantref2_Square.f k x0).bind fun t154 => (some t154))
def confidantref2_Antisymmetric.l1 : Nat → List (List Bool) → Int → Int → Option (Bool)
  | 0, _, _, _ => none
  | k + 1, x0, x3, x4 => if x4 < x3 then (if 0 ≤ x3 then (if x3 < (x0.length : Int) then (if 0 ≤ x4 then (if x4 < ((rd_L2 x0 x3).length : Int) then (if rdOf false (rd_L2 x0 x3) x4 = true then (if x4 < (x0.length : Int) then (if x3 < ((rd_L2 x0 x4).length : Int) then (if rdOf false (rd_L2 x0 x4) x3 = true then (some false) else (confidantref2_Antisymmetric.l1 k x0 x3 (wrap64 (x4 + 1)))) else (none)) else (none)) else (confidantref2_Antisymmetric.l1 k x0 x3 (wrap64 (x4 + 1)))) else (none)) else (none)) else (none)) else (none)) else (confidantref2_Antisymmetric.l0 k x0 (wrap64 (x3 + 1)))
end
def confidantref2_Antisymmetric.f (k : Nat) (l0 : List (List Bool)) : Option (Bool) := confidantref2_Antisymmetric.l0 k l0 0
theorem confidantref2_Antisymmetric.mono_l : ∀ k, (∀ y0 y1, LeO (confidantref2_Antisymmetric.l0 k y0 y1) (confidantref2_Antisymmetric.l0 (k + 1) y0 y1)) ∧ (∀ y0 y1 y2, LeO (confidantref2_Antisymmetric.j1 k y0 y1 y2) (confidantref2_Antisymmetric.j1 (k + 1) y0 y1 y2)) ∧ (∀ y0 y1 y2, LeO (confidantref2_Antisymmetric.l1 k y0 y1 y2) (confidantref2_Antisymmetric.l1 (k + 1) y0 y1 y2))
  | 0 => ⟨fun _ _ r h => by simp [confidantref2_Antisymmetric.l0] at h, fun _ _ _ r h => by simp [confidantref2_Antisymmetric.j1] at h, fun _ _ _ r h => by simp [confidantref2_Antisymmetric.l1] at h⟩
  | k + 1 => by
    obtain ⟨ih0, ih1, ih2⟩ := confidantref2_Antisymmetric.mono_l k
    refine ⟨?_, ?_, ?_⟩
    · intro y0 y1
      unfold confidantref2_Antisymmetric.l0
      repeat' first
      | (with_reducible exact ih0 _ _)
      | (with_reducible exact ih1 _ _ _)
      | (with_reducible exact ih2 _ _ _)
      | (with_reducible exact confidantref2_Square.mono _ _)
      | (with_reducible exact LeO.refl _)
      | (with_reducible exact LeO.none _)
      | (with_reducible refine LeO.ite ?_ ?_)
      | (with_reducible refine LeO.bind ?_ (fun _ => ?_))
      | exact ih0 _ _
      | exact ih1 _ _ _
      | exact ih2 _ _ _
      | exact confidantref2_Square.mono _ _
      | exact LeO.none _
      | refine LeO.ite ?_ ?_
      | refine LeO.bind ?_ (fun _ => ?_)
    · intro y0 y1 y2
      unfold confidantref2_Antisymmetric.j1
      repeat' first
      | (with_reducible exact ih0 _ _)
      | (with_reducible exact ih1 _ _ _)
      | (with_reducible exact ih2 _ _ _)
      | (with_reducible exact confidantref2_Square.mono _ _)
      | (with_reducible exact LeO.refl _)
      | (with_reducible exact LeO.none _)
      | (with_reducible refine LeO.ite ?_ ?_)
      | (with_reducible refine LeO.bind ?_ (fun _ => ?_))
      | exact ih0 _ _
      | exact ih1 _ _ _
      | exact ih2 _ _ _
      | exact confidantref2_Square.mono _ _
      | exact LeO.none _
      | refine LeO.ite ?_ ?_
      | refine LeO.bind ?_ (fun _ => ?_)
    · intro y0 y1 y2
      unfold confidantref2_Antisymmetric.l1
      repeat' first
      | (with_reducible exact ih0 _ _)
      | (with_reducible exact ih1 _ _ _)
      | (with_reducible exact ih2 _ _ _)
      | (with_reducible exact confidantref2_Square.mono _ _)
      | (with_reducible exact LeO.refl _)
      | (with_reducible exact LeO.none _)
      | (with_reducible refine LeO.ite ?_ ?_)
      | (with_reducible refine LeO.bind ?_ (fun _ => ?_))
      | exact ih0 _ _
      | exact ih1 _ _ _
      | exact ih2 _ _ _
      | exact confidantref2_Square.mono _ _
      | exact LeO.none _
      | refine LeO.ite ?_ ?_
      | refine LeO.bind ?_ (fun _ => ?_)
theorem confidantref2_Antisymmetric.mono : ∀ a0 k, LeO (confidantref2_Antisymmetric.f k a0) (confidantref2_Antisymmetric.f (k + 1) a0) := by
  intro a0 k
  obtain ⟨ih0, ih1, ih2⟩ := confidantref2_Antisymmetric.mono_l k
  unfold confidantref2_Antisymmetric.f
  repeat' first
      | (with_reducible exact ih0 _ _)
      | (with_reducible exact ih1 _ _ _)
      | (with_reducible exact ih2 _ _ _)
      | (with_reducible exact confidantref2_Square.mono _ _)
      | (with_reducible exact LeO.refl _)
      | (with_reducible exact LeO.none _)
      | (with_reducible refine LeO.ite ?_ ?_)
      | (with_reducible refine LeO.bind ?_ (fun _ => ?_))
      | exact ih0 _ _
      | exact ih1 _ _ _
      | exact ih2 _ _ _
      | exact confidantref2_Square.mono _ _
      | exact LeO.none _
      | refine LeO.ite ?_ ?_
      | refine LeO.bind ?_ (fun _ => ?_)
set_option maxHeartbeats 8000000 in
set_option maxRecDepth 100000 in
theorem confidantref2_Antisymmetric.calls (k : Nat) (A0 : Option Addr) (c0 : Nat) (l0 : List (List Bool)) (r : Bool) (w : World) (hr0 : Kd.C (Kd.slice 4 Kd.bool) w A0 l0.length l0) (hc0 : l0.length ≤ c0) (h : confidantref2_Antisymmetric.f k l0 = some r) :
    Calls Try.prog 31 #[.slice A0 l0.length c0] w fun e w' => e = .returned (.bool r) ∧ Drawn0 w w' := by
  have HR0 := Aside0.mk hr0
  have HC0 := Aside0.mk hc0
  clear hr0 hc0
  have H : (confidantref2_Antisymmetric.l0 k l0 0) = some r := h
  clear h
  have H' := Aside0.mk H
  clear H
  go_enter Try.func31, Try.ntmps31
  go_wp2
  go_loopg [3] k (fun kq v3 w' => ∃ (x3_1 : Int), v3 = .int .i64 x3_1 ∧ Aside0 (confidantref2_Antisymmetric.l0 kq l0 x3_1 = some r) ∧ Aside0 (kq ≤ k) ∧ Drawn0 w w')
  case atStart => exact ⟨(0), (by first | rfl | (simp; done) | (simp [*]; done)), H', ⟨Nat.le_refl _⟩, by repeat (first | exact Drawn0.refl _ | apply Drawn0.step)⟩
  case round =>
    clear H'
    obtain ⟨x3_1, rfl, HA, HK1, ⟨m1, rfl⟩⟩ := hrel
    cases gk with
    | zero => exact absurd HA.out (by simp [confidantref2_Antisymmetric.l0])
    | succ k1 =>
      have H := HA.out
      clear HA
      simp only [confidantref2_Antisymmetric.l0] at H
      have HC2 := Aside0.mk H
      clear H
      go_upto_region 2 with (fail)
      go_cut [12] (fun v12 wc => ∃ (kq : Nat) (x12_1 : Bool), v12 = .bool x12_1 ∧ Aside0 (confidantref2_Antisymmetric.j1 kq l0 x3_1 x12_1 = some r) ∧ Aside0 (kq ≤ k1) ∧ Drawn0 w wc)
      case first =>
        have H := HC2.out
        clear HC2
        by_cases c3 : x3_1 < (l0.length : Int)
        · rw [if_pos c3] at H
          have c3b0 : decide (x3_1 < (l0.length : Int)) = true := decide_eq_true c3
          clear c3
          (first | rw [c3b0] | (simp only [i64_w, i32_w]; rw [c3b0]) | skip)
          replace H := Option.bind_eq_some_iff.mp H
          obtain ⟨t153, A40, H⟩ := H
          replace H : (confidantref2_Antisymmetric.j1 k1 l0 x3_1 t153) = some r := H
          have A4 := Aside0.mk A40
          clear A40
          have H' := Aside0.mk H
          clear H
          go_wp2_with (first | (go_at_call 27; (with_reducible refine (confidantref2_Square.calls k1 _ _ l0 t153 _ ?side1 ?side2 A4.out).mono ?_); (case side1 => repeat (first | exact HR0.out | (with_reducible refine Kd.C_alloc ?_ _) | (with_reducible refine Kd.C_drewN ?_ _) | (with_reducible refine Kd.C_drew ?_))); (case side2 => exact HC0.out); rintro e w' ⟨rfl, ⟨nd, rfl⟩⟩))
          go_meet
          case rel => exact ⟨_, (t153), (by first | rfl | (simp; done) | (simp [*]; done)), H', ⟨by have := HK1.out; first | omega | exact Nat.le_refl _⟩, by repeat (first | exact Drawn0.refl _ | apply Drawn0.step)⟩
        · rw [if_neg c3] at H
          have c3b0 : decide (x3_1 < (l0.length : Int)) = false := decide_eq_false c3
          clear c3
          (first | rw [c3b0] | (simp only [i64_w, i32_w]; rw [c3b0]) | skip)
          have H' := Aside0.mk H
          clear H
          go_wp2
          go_meet
          case rel => exact ⟨_, (false), (by first | rfl | (simp; done) | (simp [*]; done)), H', ⟨by have := HK1.out; first | omega | exact Nat.le_refl _⟩, by repeat (first | exact Drawn0.refl _ | apply Drawn0.step)⟩
      case rest =>
        clear HC2
        try clear p2
        try clear c3
        try clear c3b0
        obtain ⟨kq, x12_1, rfl, HA, HJ1, ⟨mc1, rfl⟩⟩ := hcut
        cases kq with
        | zero => exact absurd HA.out (by simp [confidantref2_Antisymmetric.j1])
        | succ kj1 =>
          have H := HA.out
          clear HA
          simp only [confidantref2_Antisymmetric.j1] at H
          by_cases c5 : x12_1 = true
          · subst c5
            have H1 : (confidantref2_Antisymmetric.l1 kj1 l0 x3_1 0) = some r := by rw [if_pos rfl] at H; exact H
            clear H
            have H := H1
            clear H1
            have H' := Aside0.mk H
            clear H
            go_wp2
            go_loopg [4] kj1 (fun kq v4 w' => ∃ (x4_3 : Int), v4 = .int .i64 x4_3 ∧ Aside0 (confidantref2_Antisymmetric.l1 kq l0 x3_1 x4_3 = some r) ∧ Aside0 (kq ≤ kj1) ∧ Drawn0 w w')
            case atStart => exact ⟨(0), (by first | rfl | (simp; done) | (simp [*]; done)), H', ⟨Nat.le_refl _⟩, by repeat (first | exact Drawn0.refl _ | apply Drawn0.step)⟩
            case round =>
              clear H'
              try clear c1
              try clear p2
              try clear c3
              try clear c3b0
              try clear c5
              try clear p2
              obtain ⟨x4_3, rfl, HA, HK3, ⟨m3, rfl⟩⟩ := hrel
              cases gk with
              | zero => exact absurd HA.out (by simp [confidantref2_Antisymmetric.l1])
              | succ k3 =>
                have H := HA.out
                clear HA
                simp only [confidantref2_Antisymmetric.l1] at H
                by_cases c6 : x4_3 < x3_1
                · rw [if_pos c6] at H
                  have c6b0 : decide (x4_3 < x3_1) = true := decide_eq_true c6
                  clear c6
                  by_cases c7 : 0 ≤ x3_1
                  · rw [if_pos c7] at H
                    have c7b0 : decide (0 ≤ x3_1) = true := decide_eq_true c7
                    clear c7
                    by_cases c8 : x3_1 < (l0.length : Int)
                    · rw [if_pos c8] at H
                      have c8b0 : decide (x3_1 < (l0.length : Int)) = true := decide_eq_true c8
                      clear c8
                      by_cases c9 : 0 ≤ x4_3
                      · rw [if_pos c9] at H
                        have c9b0 : decide (0 ≤ x4_3) = true := decide_eq_true c9
                        clear c9
                        by_cases c10 : x4_3 < ((rd_L2 l0 x3_1).length : Int)
                        · rw [if_pos c10] at H
                          have c10b0 : decide (x4_3 < ((rd_L2 l0 x3_1).length : Int)) = true := decide_eq_true c10
                          clear c10
                          obtain ⟨bq11, hbq11⟩ : ∃ b_ : Bool, b_ = (rdOf false (rd_L2 l0 x3_1) x4_3) := ⟨_, rfl⟩
                          replace H : (if bq11 = true then (if x4_3 < (l0.length : Int) then (if x3_1 < ((rd_L2 l0 x4_3).length : Int) then (if rdOf false (rd_L2 l0 x4_3) x3_1 = true then (some false) else (confidantref2_Antisymmetric.l1 k3 l0 x3_1 (wrap64 (x4_3 + 1)))) else (none)) else (none)) else (confidantref2_Antisymmetric.l1 k3 l0 x3_1 (wrap64 (x4_3 + 1)))) = some r := by rw [← hbq11] at H; exact H
                          have Nbq11 := Aside0.mk hbq11
                          clear hbq11
                          by_cases c12 : bq11 = true
                          · subst c12
                            have H1 : (if x4_3 < (l0.length : Int) then (if x3_1 < ((rd_L2 l0 x4_3).length : Int) then (if rdOf false (rd_L2 l0 x4_3) x3_1 = true then (some false) else (confidantref2_Antisymmetric.l1 k3 l0 x3_1 (wrap64 (x4_3 + 1)))) else (none)) else (none)) = some r := by rw [if_pos rfl] at H; exact H
                            clear H
                            have H := H1
                            clear H1
                            by_cases c13 : x4_3 < (l0.length : Int)
                            · rw [if_pos c13] at H
                              have c13b0 : decide (x4_3 < (l0.length : Int)) = true := decide_eq_true c13
                              clear c13
                              by_cases c14 : x3_1 < ((rd_L2 l0 x4_3).length : Int)
                              · rw [if_pos c14] at H
                                have c14b0 : decide (x3_1 < ((rd_L2 l0 x4_3).length : Int)) = true := decide_eq_true c14
                                clear c14
                                obtain ⟨bq15, hbq15⟩ : ∃ b_ : Bool, b_ = (rdOf false (rd_L2 l0 x4_3) x3_1) := ⟨_, rfl⟩
                                replace H : (if bq15 = true then (some false) else (confidantref2_Antisymmetric.l1 k3 l0 x3_1 (wrap64 (x4_3 + 1)))) = some r := by rw [← hbq15] at H; exact H
                                have Nbq15 := Aside0.mk hbq15
                                clear hbq15
                                by_cases c16 : bq15 = true
                                · subst c16
                                  have H1 : (some false) = some r := by rw [if_pos rfl] at H; exact H
                                  clear H
                                  have H := H1
                                  clear H1
                                  obtain rfl := Option.some.inj H
                                  have p155 : 0 ≤ (x3_1 : Int) := of_decide_eq_true (by first | (with_reducible assumption) | assumption)
                                  have q155 : x3_1 < (l0.length : Int) := of_decide_eq_true (by first | (with_reducible assumption) | assumption)
                                  obtain ⟨ad155, A155_0, c155_0, e155, hx155_0, hl155_0, hi155_0⟩ := at_L2 HR0.out x3_1 p155 q155
                                  cases e155
                                  have HR155_0 := Aside0.mk hi155_0
                                  have HC155_0 := Aside0.mk hl155_0
                                  clear hi155_0 hl155_0
                                  replace p155 := eq_true p155
                                  replace q155 := eq_true q155
                                  have p156 : 0 ≤ (x4_3 : Int) := of_decide_eq_true (by first | (with_reducible assumption) | assumption)
                                  have q156 : x4_3 < ((rd_L2 l0 x3_1).length : Int) := of_decide_eq_true (by first | (with_reducible assumption) | assumption)
                                  obtain ⟨ad156, e156, hx156_0⟩ := Kd.at_bool HR155_0.out x4_3 p156 q156
                                  (try rw [← Nbq11.out] at hx156_0)
                                  (try rw [← Nbq15.out] at hx156_0)
                                  cases e156
                                  replace p156 := eq_true p156
                                  replace q156 := eq_true q156
                                  have p157 : 0 ≤ (x4_3 : Int) := of_decide_eq_true (by first | (with_reducible assumption) | assumption)
                                  have q157 : x4_3 < (l0.length : Int) := of_decide_eq_true (by first | (with_reducible assumption) | assumption)
                                  obtain ⟨ad157, A157_0, c157_0, e157, hx157_0, hl157_0, hi157_0⟩ := at_L2 HR0.out x4_3 p157 q157
                                  obtain rfl : ad155 = ad157 := (by injection e157)
                                  have HR157_0 := Aside0.mk hi157_0
                                  have HC157_0 := Aside0.mk hl157_0
                                  clear hi157_0 hl157_0
                                  replace p157 := eq_true p157
                                  replace q157 := eq_true q157
                                  have p158 : 0 ≤ (x3_1 : Int) := of_decide_eq_true (by first | (with_reducible assumption) | assumption)
                                  have q158 : x3_1 < ((rd_L2 l0 x4_3).length : Int) := of_decide_eq_true (by first | (with_reducible assumption) | assumption)
                                  obtain ⟨ad158, e158, hx158_0⟩ := Kd.at_bool HR157_0.out x3_1 p158 q158
                                  (try rw [← Nbq11.out] at hx158_0)
                                  (try rw [← Nbq15.out] at hx158_0)
                                  cases e158
                                  replace p158 := eq_true p158
                                  replace q158 := eq_true q158
                                  go_wp2
                                  go_ret
                                  exact ⟨by first | rfl | (simp; done) | (simp [*]; done), by repeat (first | exact Drawn0.refl _ | apply Drawn0.step)⟩
                                · replace c16 := Bool.eq_false_iff.mpr c16
                                  subst c16
                                  have H1 : (confidantref2_Antisymmetric.l1 k3 l0 x3_1 (wrap64 (x4_3 + 1))) = some r := by rw [if_neg (show ¬ (false = true) by decide)] at H; exact H
                                  clear H
                                  have H := H1
                                  clear H1
                                  have H' := Aside0.mk H
                                  clear H
                                  have p155 : 0 ≤ (x3_1 : Int) := of_decide_eq_true (by first | (with_reducible assumption) | assumption)
                                  have q155 : x3_1 < (l0.length : Int) := of_decide_eq_true (by first | (with_reducible assumption) | assumption)
                                  obtain ⟨ad155, A155_0, c155_0, e155, hx155_0, hl155_0, hi155_0⟩ := at_L2 HR0.out x3_1 p155 q155
                                  cases e155
                                  have HR155_0 := Aside0.mk hi155_0
                                  have HC155_0 := Aside0.mk hl155_0
                                  clear hi155_0 hl155_0
                                  replace p155 := eq_true p155
                                  replace q155 := eq_true q155
                                  have p156 : 0 ≤ (x4_3 : Int) := of_decide_eq_true (by first | (with_reducible assumption) | assumption)
                                  have q156 : x4_3 < ((rd_L2 l0 x3_1).length : Int) := of_decide_eq_true (by first | (with_reducible assumption) | assumption)
                                  obtain ⟨ad156, e156, hx156_0⟩ := Kd.at_bool HR155_0.out x4_3 p156 q156
                                  (try rw [← Nbq11.out] at hx156_0)
                                  (try rw [← Nbq15.out] at hx156_0)
                                  cases e156
                                  replace p156 := eq_true p156
                                  replace q156 := eq_true q156
                                  have p157 : 0 ≤ (x4_3 : Int) := of_decide_eq_true (by first | (with_reducible assumption) | assumption)
                                  have q157 : x4_3 < (l0.length : Int) := of_decide_eq_true (by first | (with_reducible assumption) | assumption)
                                  obtain ⟨ad157, A157_0, c157_0, e157, hx157_0, hl157_0, hi157_0⟩ := at_L2 HR0.out x4_3 p157 q157
                                  obtain rfl : ad155 = ad157 := (by injection e157)
                                  have HR157_0 := Aside0.mk hi157_0
                                  have HC157_0 := Aside0.mk hl157_0
                                  clear hi157_0 hl157_0
                                  replace p157 := eq_true p157
                                  replace q157 := eq_true q157
                                  have p158 : 0 ≤ (x3_1 : Int) := of_decide_eq_true (by first | (with_reducible assumption) | assumption)
                                  have q158 : x3_1 < ((rd_L2 l0 x4_3).length : Int) := of_decide_eq_true (by first | (with_reducible assumption) | assumption)
                                  obtain ⟨ad158, e158, hx158_0⟩ := Kd.at_bool HR157_0.out x3_1 p158 q158
                                  (try rw [← Nbq11.out] at hx158_0)
                                  (try rw [← Nbq15.out] at hx158_0)
                                  cases e158
                                  replace p158 := eq_true p158
                                  replace q158 := eq_true q158
                                  go_wp2
                                  go_roundg k3
                                  case measure => have := HK1.out; have := HJ1.out; have := HK3.out; omega
                                  case rel => exact ⟨(wrap64 (x4_3 + 1)), (by first | rfl | (simp; done) | (simp [*]; done)), H', ⟨by have := HK1.out; have := HJ1.out; have := HK3.out; omega⟩, by repeat (first | exact Drawn0.refl _ | apply Drawn0.step)⟩
                              · rw [if_neg c14] at H
                                exact absurd H (by simp)
                            · rw [if_neg c13] at H
                              exact absurd H (by simp)
                          · replace c12 := Bool.eq_false_iff.mpr c12
                            subst c12
                            have H1 : (confidantref2_Antisymmetric.l1 k3 l0 x3_1 (wrap64 (x4_3 + 1))) = some r := by rw [if_neg (show ¬ (false = true) by decide)] at H; exact H
                            clear H
                            have H := H1
                            clear H1
                            have H' := Aside0.mk H
                            clear H
                            have p155 : 0 ≤ (x3_1 : Int) := of_decide_eq_true (by first | (with_reducible assumption) | assumption)
                            have q155 : x3_1 < (l0.length : Int) := of_decide_eq_true (by first | (with_reducible assumption) | assumption)
                            obtain ⟨ad155, A155_0, c155_0, e155, hx155_0, hl155_0, hi155_0⟩ := at_L2 HR0.out x3_1 p155 q155
                            cases e155
                            have HR155_0 := Aside0.mk hi155_0
                            have HC155_0 := Aside0.mk hl155_0
                            clear hi155_0 hl155_0
                            replace p155 := eq_true p155
                            replace q155 := eq_true q155
                            have p156 : 0 ≤ (x4_3 : Int) := of_decide_eq_true (by first | (with_reducible assumption) | assumption)
                            have q156 : x4_3 < ((rd_L2 l0 x3_1).length : Int) := of_decide_eq_true (by first | (with_reducible assumption) | assumption)
                            obtain ⟨ad156, e156, hx156_0⟩ := Kd.at_bool HR155_0.out x4_3 p156 q156
                            (try rw [← Nbq11.out] at hx156_0)
                            cases e156
                            replace p156 := eq_true p156
                            replace q156 := eq_true q156
                            go_wp2
                            go_roundg k3
                            case measure => have := HK1.out; have := HJ1.out; have := HK3.out; omega
                            case rel => exact ⟨(wrap64 (x4_3 + 1)), (by first | rfl | (simp; done) | (simp [*]; done)), H', ⟨by have := HK1.out; have := HJ1.out; have := HK3.out; omega⟩, by repeat (first | exact Drawn0.refl _ | apply Drawn0.step)⟩
                        · rw [if_neg c10] at H
                          exact absurd H (by simp)
                      · rw [if_neg c9] at H
                        exact absurd H (by simp)
                    · rw [if_neg c8] at H
                      exact absurd H (by simp)
                  · rw [if_neg c7] at H
                    exact absurd H (by simp)
                · rw [if_neg c6] at H
                  have c6b0 : decide (x4_3 < x3_1) = false := decide_eq_false c6
                  clear c6
                  have H' := Aside0.mk H
                  clear H
                  go_wp2
                  go_roundg k3
                  case measure => have := HK1.out; have := HJ1.out; have := HK3.out; omega
                  case rel => exact ⟨(wrap64 (x3_1 + 1)), (by first | rfl | (simp; done) | (simp [*]; done)), H', ⟨by have := HK1.out; have := HJ1.out; have := HK3.out; omega⟩, by repeat (first | exact Drawn0.refl _ | apply Drawn0.step)⟩
          · replace c5 := Bool.eq_false_iff.mpr c5
            subst c5
            have H1 : ((confidantref2_Square.f kj1 l0).bind fun t154 => (some t154)) = some r := by rw [if_neg (show ¬ (false = true) by decide)] at H; exact H
            clear H
            have H := H1
            clear H1
            replace H := Option.bind_eq_some_iff.mp H
            obtain ⟨t154, A170, H⟩ := H
            replace H : (some t154) = some r := H
            have A17 := Aside0.mk A170
            clear A170
            obtain rfl := Option.some.inj H
            go_wp2_with (first | ((with_reducible refine gate_callee (f := 27) rfl ?_); refine goesL_ (some 37) rfl rfl Try.func27 (by kernel_rfl) rfl #[.slice A0 l0.length c0] rfl (by (try simp only [List.map_toArray, List.map_cons, List.map_nil]); first | done | rfl | (simp only [List.length_drop, List.length_take]; rfl)) ?_; (with_reducible refine (confidantref2_Square.calls kj1 _ _ l0 t154 _ ?side1 ?side2 A17.out).mono ?_); (case side1 => repeat (first | exact HR0.out | (with_reducible refine Kd.C_alloc ?_ _) | (with_reducible refine Kd.C_drewN ?_ _) | (with_reducible refine Kd.C_drew ?_))); (case side2 => exact HC0.out); rintro e w' ⟨rfl, ⟨nd, rfl⟩⟩; refine ⟨_, rfl, ?_⟩))
            go_ret
            exact ⟨by first | rfl | (simp; done) | (simp [*]; done), by repeat (first | exact Drawn0.refl _ | apply Drawn0.step)⟩

end Go.Proofs.Ytpeeneaapmmciaa.POtells
