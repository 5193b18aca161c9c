-- Printed by wip/tools/oprint.py, a program of this session.
import Derived.Test.YtpeeneaapmmciaaPOtellsx0
import Derived.Test.YtpeeneaapmmciaaPOtellsx4
namespace Go.Proofs.Ytpeeneaapmmciaa.POtells
open Go.RowKit Go.Proofs.YtpeeneaapmmciaaW.PrintWords Go.Proofs.YtpeeneaapmmciaaW.PrintLast Go.Proofs.YtpeeneaapmmciaaW.PrintMore
attribute [local go_sem] max2_int min2_int max_two min_two max_three min_three max_four min_four   -- for this text's walks alone
set_option linter.unusedVariables false
set_option linter.unusedSimpArgs false

/-! ### confidantref2_Transitive: function 33 -/
mutual
def confidantref2_Transitive.l0 : Nat → List (List Bool) → Int → Option (Bool)
  | 0, _, _ => none
  | k + 1, x0, x3 => if x3 < (x0.length : Int) then ((confidantref2_Square.f k x0).bind fun t159 => (confidantref2_Transitive.j1 k x0 x3 t159)) else (confidantref2_Transitive.j1 k x0 x3 false)
def confidantref2_Transitive.j1 : Nat → List (List Bool) → Int → Bool → Option (Bool)
  | 0, _, _, _ => none
  | k + 1, x0, x3, x13 => if x13 = true then (confidantref2_Transitive.l1 k x0 x3 0) else ((confidantref2_Square.f k x0).bind fun t160 => (some t160))
def confidantref2_Transitive.l1 : Nat → List (List Bool) → Int → Int → Option (Bool)
  | 0, _, _, _ => none
  | k + 1, x0, x3, x4 => if x4 < (x0.length : Int) then (confidantref2_Transitive.l2 k x0 x3 x4 0) else (confidantref2_Transitive.l0 k x0 (wrap64 (x3 + 1)))
def confidantref2_Transitive.l2 : Nat → List (List Bool) → Int → Int → Int → Option (Bool)
  | 0, _, _, _, _ => none
  | k + 1, x0, x3, x4, x5 => if x5 < (x0.length : Int) then (if 0 ≤ x3 then (if x3 < (x0.length : Int) then (if 0 ≤ x4 then (if x4 < ((rd_L2 x0 x3).length : Int) then (if rdOf false (rd_L2 x0 x3) x4 = true then (if x4 < (x0.length : Int) then (if 0 ≤ x5 then (if x5 < ((rd_L2 x0 x4).length : Int) then (if rdOf false (rd_L2 x0 x4) x5 = true then (if x5 < ((rd_L2 x0 x3).length : Int) then (if (rdOf false (rd_L2 x0 x3) x5 = true) then (confidantref2_Transitive.l2 k x0 x3 x4 (wrap64 (x5 + 1))) else (some false)) else (none)) else (confidantref2_Transitive.l2 k x0 x3 x4 (wrap64 (x5 + 1)))) else (none)) else (none)) else (none)) else (confidantref2_Transitive.l2 k x0 x3 x4 (wrap64 (x5 + 1)))) else (none)) else (none)) else (none)) else (none)) else (confidantref2_Transitive.l1 k x0 x3 (wrap64 (x4 + 1)))
end
def confidantref2_Transitive.f (k : Nat) (l0 : List (List Bool)) : Option (Bool) := confidantref2_Transitive.l0 k l0 0
theorem confidantref2_Transitive.mono_l : ∀ k, (∀ y0 y1, LeO (confidantref2_Transitive.l0 k y0 y1) (confidantref2_Transitive.l0 (k + 1) y0 y1)) ∧ (∀ y0 y1 y2, LeO (confidantref2_Transitive.j1 k y0 y1 y2) (confidantref2_Transitive.j1 (k + 1) y0 y1 y2)) ∧ (∀ y0 y1 y2, LeO (confidantref2_Transitive.l1 k y0 y1 y2) (confidantref2_Transitive.l1 (k + 1) y0 y1 y2)) ∧ (∀ y0 y1 y2 y3, LeO (confidantref2_Transitive.l2 k y0 y1 y2 y3) (confidantref2_Transitive.l2 (k + 1) y0 y1 y2 y3))
  | 0 => ⟨fun _ _ r h => by simp [confidantref2_Transitive.l0] at h, fun _ _ _ r h => by simp [confidantref2_Transitive.j1] at h, fun _ _ _ r h => by simp [confidantref2_Transitive.l1] at h, fun _ _ _ _ r h => by simp [confidantref2_Transitive.l2] at h⟩
  | k + 1 => by
    obtain ⟨ih0, ih1, ih2, ih3⟩ := confidantref2_Transitive.mono_l k
    refine ⟨?_, ?_, ?_, ?_⟩
    · intro y0 y1
      unfold confidantref2_Transitive.l0
      repeat' first
      | (with_reducible exact ih0 _ _)
      | (with_reducible exact ih1 _ _ _)
      | (with_reducible exact ih2 _ _ _)
      | (with_reducible exact ih3 _ _ _ _)
      | (with_reducible exact confidantref2_Square.mono _ _)
      | (with_reducible exact LeO.refl _)
      | (with_reducible exact LeO.none _)
      | (with_reducible refine LeO.ite ?_ ?_)
      | (with_reducible refine LeO.bind ?_ (fun _ => ?_))
      | exact ih0 _ _
      | exact ih1 _ _ _
      | exact ih2 _ _ _
      | exact ih3 _ _ _ _
      | exact confidantref2_Square.mono _ _
      | exact LeO.none _
      | refine LeO.ite ?_ ?_
      | refine LeO.bind ?_ (fun _ => ?_)
    · intro y0 y1 y2
      unfold confidantref2_Transitive.j1
      repeat' first
      | (with_reducible exact ih0 _ _)
      | (with_reducible exact ih1 _ _ _)
      | (with_reducible exact ih2 _ _ _)
      | (with_reducible exact ih3 _ _ _ _)
      | (with_reducible exact confidantref2_Square.mono _ _)
      | (with_reducible exact LeO.refl _)
      | (with_reducible exact LeO.none _)
      | (with_reducible refine LeO.ite ?_ ?_)
      | (with_reducible refine LeO.bind ?_ (fun _ => ?_))
      | exact ih0 _ _
      | exact ih1 _ _ _
      | exact ih2 _ _ _
      | exact ih3 _ _ _ _
      | exact confidantref2_Square.mono _ _
      | exact LeO.none _
      | refine LeO.ite ?_ ?_
      | refine LeO.bind ?_ (fun _ => ?_)
    · intro y0 y1 y2
      unfold confidantref2_Transitive.l1
      repeat' first
      | (with_reducible exact ih0 _ _)
      | (with_reducible exact ih1 _ _ _)
      | (with_reducible exact ih2 _ _ _)
      | (with_reducible exact ih3 _ _ _ _)
      | (with_reducible exact confidantref2_Square.mono _ _)
      | (with_reducible exact LeO.refl _)
      | (with_reducible exact LeO.none _)
      | (with_reducible refine LeO.ite ?_ ?_)
      | (with_reducible refine LeO.bind ?_ (fun _ => ?_))
      | exact ih0 _ _
      | exact ih1 _ _ _
      | exact ih2 _ _ _
      | exact ih3 _ _ _ _
      | exact confidantref2_Square.mono _ _
      | exact LeO.none _
      | refine LeO.ite ?_ ?_
      | refine LeO.bind ?_ (fun _ => ?_)
    · intro y0 y1 y2 y3
      unfold confidantref2_Transitive.l2
      repeat' first
      | (with_reducible exact ih0 _ _)
      | (with_reducible exact ih1 _ _ _)
      | (with_reducible exact ih2 _ _ _)
      | (with_reducible exact ih3 _ _ _ _)
      | (with_reducible exact confidantref2_Square.mono _ _)
      | (with_reducible exact LeO.refl _)
      | (with_reducible exact LeO.none _)
      | (with_reducible refine LeO.ite ?_ ?_)
      | (with_reducible refine LeO.bind ?_ (fun _ => ?_))
      | exact ih0 _ _
      | exact ih1 _ _ _
      | exact ih2 _ _ _
      | exact ih3 _ _ _ _
      | exact confidantref2_Square.mono _ _
      | exact LeO.none _
      | refine LeO.ite ?_ ?_
      | refine LeO.bind ?_ (fun _ => ?_)
theorem confidantref2_Transitive.mono : ∀ a0 k, LeO (confidantref2_Transitive.f k a0) (confidantref2_Transitive.f (k + 1) a0) := by
  intro a0 k
  obtain ⟨ih0, ih1, ih2, ih3⟩ := confidantref2_Transitive.mono_l k
  unfold confidantref2_Transitive.f
  repeat' first
      | (with_reducible exact ih0 _ _)
      | (with_reducible exact ih1 _ _ _)
      | (with_reducible exact ih2 _ _ _)
      | (with_reducible exact ih3 _ _ _ _)
      | (with_reducible exact confidantref2_Square.mono _ _)
      | (with_reducible exact LeO.refl _)
      | (with_reducible exact LeO.none _)
      | (with_reducible refine LeO.ite ?_ ?_)
      | (with_reducible refine LeO.bind ?_ (fun _ => ?_))
      | exact ih0 _ _
      | exact ih1 _ _ _
      | exact ih2 _ _ _
      | exact ih3 _ _ _ _
      | exact confidantref2_Square.mono _ _
      | exact LeO.none _
      | refine LeO.ite ?_ ?_
      | refine LeO.bind ?_ (fun _ => ?_)
set_option maxHeartbeats 8000000 in
set_option maxRecDepth 100000 in
theorem confidantref2_Transitive.calls (k : Nat) (A0 : Option Addr) (c0 : Nat) (l0 : List (List Bool)) (r : Bool) (w : World) (hr0 : Kd.C (Kd.slice 4 Kd.bool) w A0 l0.length l0) (hc0 : l0.length ≤ c0) (h : confidantref2_Transitive.f k l0 = some r) :
    Calls Try.prog 33 #[.slice A0 l0.length c0] w fun e w' => e = .returned (.bool r) ∧ Drawn0 w w' := by
  have HR0 := Aside0.mk hr0
  have HC0 := Aside0.mk hc0
  clear hr0 hc0
  have H : (confidantref2_Transitive.l0 k l0 0) = some r := h
  clear h
  have H' := Aside0.mk H
  clear H
  go_enter Try.func33, Try.ntmps33
  go_wp2
  go_loopg [3] k (fun kq v3 w' => ∃ (x3_1 : Int), v3 = .int .i64 x3_1 ∧ Aside0 (confidantref2_Transitive.l0 kq l0 x3_1 = some r) ∧ Aside0 (kq ≤ k) ∧ Drawn0 w w')
  case atStart => exact ⟨(0), (by first | rfl | (simp; done) | (simp [*]; done)), H', ⟨Nat.le_refl _⟩, by repeat (first | exact Drawn0.refl _ | apply Drawn0.step)⟩
  case round =>
    clear H'
    obtain ⟨x3_1, rfl, HA, HK1, ⟨m1, rfl⟩⟩ := hrel
    cases gk with
    | zero => exact absurd HA.out (by simp [confidantref2_Transitive.l0])
    | succ k1 =>
      have H := HA.out
      clear HA
      simp only [confidantref2_Transitive.l0] at H
      have HC2 := Aside0.mk H
      clear H
      go_upto_region 2 with (fail)
      go_cut [13] (fun v13 wc => ∃ (kq : Nat) (x13_1 : Bool), v13 = .bool x13_1 ∧ Aside0 (confidantref2_Transitive.j1 kq l0 x3_1 x13_1 = some r) ∧ Aside0 (kq ≤ k1) ∧ Drawn0 w wc)
      case first =>
        have H := HC2.out
        clear HC2
        by_cases c3 : x3_1 < (l0.length : Int)
        · rw [if_pos c3] at H
          have c3b0 : decide (x3_1 < (l0.length : Int)) = true := decide_eq_true c3
          clear c3
          (first | rw [c3b0] | (simp only [i64_w, i32_w]; rw [c3b0]) | skip)
          replace H := Option.bind_eq_some_iff.mp H
          obtain ⟨t159, A40, H⟩ := H
          replace H : (confidantref2_Transitive.j1 k1 l0 x3_1 t159) = some r := H
          have A4 := Aside0.mk A40
          clear A40
          have H' := Aside0.mk H
          clear H
          go_wp2_with (first | (go_at_call 27; (with_reducible refine (confidantref2_Square.calls k1 _ _ l0 t159 _ ?side1 ?side2 A4.out).mono ?_); (case side1 => repeat (first | exact HR0.out | (with_reducible refine Kd.C_alloc ?_ _) | (with_reducible refine Kd.C_drewN ?_ _) | (with_reducible refine Kd.C_drew ?_))); (case side2 => exact HC0.out); rintro e w' ⟨rfl, ⟨nd, rfl⟩⟩))
          go_meet
          case rel => exact ⟨_, (t159), (by first | rfl | (simp; done) | (simp [*]; done)), H', ⟨by have := HK1.out; first | omega | exact Nat.le_refl _⟩, by repeat (first | exact Drawn0.refl _ | apply Drawn0.step)⟩
        · rw [if_neg c3] at H
          have c3b0 : decide (x3_1 < (l0.length : Int)) = false := decide_eq_false c3
          clear c3
          (first | rw [c3b0] | (simp only [i64_w, i32_w]; rw [c3b0]) | skip)
          have H' := Aside0.mk H
          clear H
          go_wp2
          go_meet
          case rel => exact ⟨_, (false), (by first | rfl | (simp; done) | (simp [*]; done)), H', ⟨by have := HK1.out; first | omega | exact Nat.le_refl _⟩, by repeat (first | exact Drawn0.refl _ | apply Drawn0.step)⟩
      case rest =>
        clear HC2
        try clear p2
        try clear c3
        try clear c3b0
        obtain ⟨kq, x13_1, rfl, HA, HJ1, ⟨mc1, rfl⟩⟩ := hcut
        cases kq with
        | zero => exact absurd HA.out (by simp [confidantref2_Transitive.j1])
        | succ kj1 =>
          have H := HA.out
          clear HA
          simp only [confidantref2_Transitive.j1] at H
          by_cases c5 : x13_1 = true
          · subst c5
            have H1 : (confidantref2_Transitive.l1 kj1 l0 x3_1 0) = some r := by rw [if_pos rfl] at H; exact H
            clear H
            have H := H1
            clear H1
            have H' := Aside0.mk H
            clear H
            go_wp2
            go_loopg [4] kj1 (fun kq v4 w' => ∃ (x4_3 : Int), v4 = .int .i64 x4_3 ∧ Aside0 (confidantref2_Transitive.l1 kq l0 x3_1 x4_3 = some r) ∧ Aside0 (kq ≤ kj1) ∧ Drawn0 w w')
            case atStart => exact ⟨(0), (by first | rfl | (simp; done) | (simp [*]; done)), H', ⟨Nat.le_refl _⟩, by repeat (first | exact Drawn0.refl _ | apply Drawn0.step)⟩
            case round =>
              clear H'
              try clear c1
              try clear p2
              try clear c3
              try clear c3b0
              try clear c5
              try clear p2
              obtain ⟨x4_3, rfl, HA, HK3, ⟨m3, rfl⟩⟩ := hrel
              cases gk with
              | zero => exact absurd HA.out (by simp [confidantref2_Transitive.l1])
              | succ k3 =>
                have H := HA.out
                clear HA
                simp only [confidantref2_Transitive.l1] at H
                by_cases c6 : x4_3 < (l0.length : Int)
                · rw [if_pos c6] at H
                  have c6b0 : decide (x4_3 < (l0.length : Int)) = true := decide_eq_true c6
                  clear c6
                  have H' := Aside0.mk H
                  clear H
                  go_wp2
                  go_loopg [5] k3 (fun kq v5 w' => ∃ (x5_4 : Int), v5 = .int .i64 x5_4 ∧ Aside0 (confidantref2_Transitive.l2 kq l0 x3_1 x4_3 x5_4 = some r) ∧ Aside0 (kq ≤ k3) ∧ Drawn0 w w')
                  case atStart => exact ⟨(0), (by first | rfl | (simp; done) | (simp [*]; done)), H', ⟨Nat.le_refl _⟩, by repeat (first | exact Drawn0.refl _ | apply Drawn0.step)⟩
                  case round =>
                    clear H'
                    try clear c1
                    try clear p2
                    try clear c3
                    try clear c3b0
                    try clear c5
                    try clear c6
                    try clear c6b0
                    try clear p2
                    obtain ⟨x5_4, rfl, HA, HK4, ⟨m4, rfl⟩⟩ := hrel
                    cases gk with
                    | zero => exact absurd HA.out (by simp [confidantref2_Transitive.l2])
                    | succ k4 =>
                      have H := HA.out
                      clear HA
                      simp only [confidantref2_Transitive.l2] at H
                      by_cases c7 : x5_4 < (l0.length : Int)
                      · rw [if_pos c7] at H
                        have c7b0 : decide (x5_4 < (l0.length : Int)) = true := decide_eq_true c7
                        clear c7
                        by_cases c8 : 0 ≤ x3_1
                        · rw [if_pos c8] at H
                          have c8b0 : decide (0 ≤ x3_1) = true := decide_eq_true c8
                          clear c8
                          by_cases c9 : x3_1 < (l0.length : Int)
                          · rw [if_pos c9] at H
                            have c9b0 : decide (x3_1 < (l0.length : Int)) = true := decide_eq_true c9
                            clear c9
                            by_cases c10 : 0 ≤ x4_3
                            · rw [if_pos c10] at H
                              have c10b0 : decide (0 ≤ x4_3) = true := decide_eq_true c10
                              clear c10
                              by_cases c11 : x4_3 < ((rd_L2 l0 x3_1).length : Int)
                              · rw [if_pos c11] at H
                                have c11b0 : decide (x4_3 < ((rd_L2 l0 x3_1).length : Int)) = true := decide_eq_true c11
                                clear c11
                                obtain ⟨bq12, hbq12⟩ : ∃ b_ : Bool, b_ = (rdOf false (rd_L2 l0 x3_1) x4_3) := ⟨_, rfl⟩
                                replace H : (if bq12 = true then (if x4_3 < (l0.length : Int) then (if 0 ≤ x5_4 then (if x5_4 < ((rd_L2 l0 x4_3).length : Int) then (if rdOf false (rd_L2 l0 x4_3) x5_4 = true then (if x5_4 < ((rd_L2 l0 x3_1).length : Int) then (if (rdOf false (rd_L2 l0 x3_1) x5_4 = true) then (confidantref2_Transitive.l2 k4 l0 x3_1 x4_3 (wrap64 (x5_4 + 1))) else (some false)) else (none)) else (confidantref2_Transitive.l2 k4 l0 x3_1 x4_3 (wrap64 (x5_4 + 1)))) else (none)) else (none)) else (none)) else (confidantref2_Transitive.l2 k4 l0 x3_1 x4_3 (wrap64 (x5_4 + 1)))) = some r := by rw [← hbq12] at H; exact H
                                have Nbq12 := Aside0.mk hbq12
                                clear hbq12
                                by_cases c13 : bq12 = true
                                · subst c13
                                  have H1 : (if x4_3 < (l0.length : Int) then (if 0 ≤ x5_4 then (if x5_4 < ((rd_L2 l0 x4_3).length : Int) then (if rdOf false (rd_L2 l0 x4_3) x5_4 = true then (if x5_4 < ((rd_L2 l0 x3_1).length : Int) then (if (rdOf false (rd_L2 l0 x3_1) x5_4 = true) then (confidantref2_Transitive.l2 k4 l0 x3_1 x4_3 (wrap64 (x5_4 + 1))) else (some false)) else (none)) else (confidantref2_Transitive.l2 k4 l0 x3_1 x4_3 (wrap64 (x5_4 + 1)))) else (none)) else (none)) else (none)) = some r := by rw [if_pos rfl] at H; exact H
                                  clear H
                                  have H := H1
                                  clear H1
                                  by_cases c14 : x4_3 < (l0.length : Int)
                                  · rw [if_pos c14] at H
                                    have c14b0 : decide (x4_3 < (l0.length : Int)) = true := decide_eq_true c14
                                    clear c14
                                    by_cases c15 : 0 ≤ x5_4
                                    · rw [if_pos c15] at H
                                      have c15b0 : decide (0 ≤ x5_4) = true := decide_eq_true c15
                                      clear c15
                                      by_cases c16 : x5_4 < ((rd_L2 l0 x4_3).length : Int)
                                      · rw [if_pos c16] at H
                                        have c16b0 : decide (x5_4 < ((rd_L2 l0 x4_3).length : Int)) = true := decide_eq_true c16
                                        clear c16
                                        obtain ⟨bq17, hbq17⟩ : ∃ b_ : Bool, b_ = (rdOf false (rd_L2 l0 x4_3) x5_4) := ⟨_, rfl⟩
                                        replace H : (if bq17 = true then (if x5_4 < ((rd_L2 l0 x3_1).length : Int) then (if (rdOf false (rd_L2 l0 x3_1) x5_4 = true) then (confidantref2_Transitive.l2 k4 l0 x3_1 x4_3 (wrap64 (x5_4 + 1))) else (some false)) else (none)) else (confidantref2_Transitive.l2 k4 l0 x3_1 x4_3 (wrap64 (x5_4 + 1)))) = some r := by rw [← hbq17] at H; exact H
                                        have Nbq17 := Aside0.mk hbq17
                                        clear hbq17
                                        by_cases c18 : bq17 = true
                                        · subst c18
                                          have H1 : (if x5_4 < ((rd_L2 l0 x3_1).length : Int) then (if (rdOf false (rd_L2 l0 x3_1) x5_4 = true) then (confidantref2_Transitive.l2 k4 l0 x3_1 x4_3 (wrap64 (x5_4 + 1))) else (some false)) else (none)) = some r := by rw [if_pos rfl] at H; exact H
                                          clear H
                                          have H := H1
                                          clear H1
                                          by_cases c19 : x5_4 < ((rd_L2 l0 x3_1).length : Int)
                                          · rw [if_pos c19] at H
                                            have c19b0 : decide (x5_4 < ((rd_L2 l0 x3_1).length : Int)) = true := decide_eq_true c19
                                            clear c19
                                            obtain ⟨bq20, hbq20⟩ : ∃ b_ : Bool, b_ = (rdOf false (rd_L2 l0 x3_1) x5_4) := ⟨_, rfl⟩
                                            replace H : (if (bq20 = true) then (confidantref2_Transitive.l2 k4 l0 x3_1 x4_3 (wrap64 (x5_4 + 1))) else (some false)) = some r := by rw [← hbq20] at H; exact H
                                            have Nbq20 := Aside0.mk hbq20
                                            clear hbq20
                                            by_cases c21 : (bq20 = true)
                                            · subst c21
                                              have H1 : (confidantref2_Transitive.l2 k4 l0 x3_1 x4_3 (wrap64 (x5_4 + 1))) = some r := by rw [if_pos rfl] at H; exact H
                                              clear H
                                              have H := H1
                                              clear H1
                                              have H' := Aside0.mk H
                                              clear H
                                              have p161 : 0 ≤ (x3_1 : Int) := of_decide_eq_true (by first | (with_reducible assumption) | assumption)
                                              have q161 : x3_1 < (l0.length : Int) := of_decide_eq_true (by first | (with_reducible assumption) | assumption)
                                              obtain ⟨ad161, A161_0, c161_0, e161, hx161_0, hl161_0, hi161_0⟩ := at_L2 HR0.out x3_1 p161 q161
                                              cases e161
                                              have HR161_0 := Aside0.mk hi161_0
                                              have HC161_0 := Aside0.mk hl161_0
                                              clear hi161_0 hl161_0
                                              replace p161 := eq_true p161
                                              replace q161 := eq_true q161
                                              have p162 : 0 ≤ (x4_3 : Int) := of_decide_eq_true (by first | (with_reducible assumption) | assumption)
                                              have q162 : x4_3 < ((rd_L2 l0 x3_1).length : Int) := of_decide_eq_true (by first | (with_reducible assumption) | assumption)
                                              obtain ⟨ad162, e162, hx162_0⟩ := Kd.at_bool HR161_0.out x4_3 p162 q162
                                              (try rw [← Nbq12.out] at hx162_0)
                                              (try rw [← Nbq17.out] at hx162_0)
                                              (try rw [← Nbq20.out] at hx162_0)
                                              cases e162
                                              replace p162 := eq_true p162
                                              replace q162 := eq_true q162
                                              have p163 : 0 ≤ (x4_3 : Int) := of_decide_eq_true (by first | (with_reducible assumption) | assumption)
                                              have q163 : x4_3 < (l0.length : Int) := of_decide_eq_true (by first | (with_reducible assumption) | assumption)
                                              obtain ⟨ad163, A163_0, c163_0, e163, hx163_0, hl163_0, hi163_0⟩ := at_L2 HR0.out x4_3 p163 q163
                                              obtain rfl : ad161 = ad163 := (by injection e163)
                                              have HR163_0 := Aside0.mk hi163_0
                                              have HC163_0 := Aside0.mk hl163_0
                                              clear hi163_0 hl163_0
                                              replace p163 := eq_true p163
                                              replace q163 := eq_true q163
                                              have p164 : 0 ≤ (x5_4 : Int) := of_decide_eq_true (by first | (with_reducible assumption) | assumption)
                                              have q164 : x5_4 < ((rd_L2 l0 x4_3).length : Int) := of_decide_eq_true (by first | (with_reducible assumption) | assumption)
                                              obtain ⟨ad164, e164, hx164_0⟩ := Kd.at_bool HR163_0.out x5_4 p164 q164
                                              (try rw [← Nbq12.out] at hx164_0)
                                              (try rw [← Nbq17.out] at hx164_0)
                                              (try rw [← Nbq20.out] at hx164_0)
                                              cases e164
                                              replace p164 := eq_true p164
                                              replace q164 := eq_true q164
                                              have p165 : 0 ≤ (x3_1 : Int) := of_decide_eq_true (by first | (with_reducible assumption) | assumption)
                                              have q165 : x3_1 < (l0.length : Int) := of_decide_eq_true (by first | (with_reducible assumption) | assumption)
                                              obtain ⟨ad165, A165_0, c165_0, e165, hx165_0, hl165_0, hi165_0⟩ := at_L2 HR0.out x3_1 p165 q165
                                              obtain rfl : ad161 = ad165 := (by injection e165)
                                              have HR165_0 := Aside0.mk hi165_0
                                              have HC165_0 := Aside0.mk hl165_0
                                              clear hi165_0 hl165_0
                                              replace p165 := eq_true p165
                                              replace q165 := eq_true q165
                                              have ea_ := Option.some.inj (hx161_0.symm.trans hx165_0)
                                              injection ea_ with ea_ en_ ec_
                                              subst ea_
                                              subst ec_
                                              clear en_
                                              have p166 : 0 ≤ (x5_4 : Int) := of_decide_eq_true (by first | (with_reducible assumption) | assumption)
                                              have q166 : x5_4 < ((rd_L2 l0 x3_1).length : Int) := of_decide_eq_true (by first | (with_reducible assumption) | assumption)
                                              obtain ⟨ad166, e166, hx166_0⟩ := Kd.at_bool HR165_0.out x5_4 p166 q166
                                              (try rw [← Nbq12.out] at hx166_0)
                                              (try rw [← Nbq17.out] at hx166_0)
                                              (try rw [← Nbq20.out] at hx166_0)
                                              cases e166
                                              replace p166 := eq_true p166
                                              replace q166 := eq_true q166
                                              go_wp2
                                              go_roundg k4
                                              case measure => have := HK1.out; have := HJ1.out; have := HK3.out; have := HK4.out; omega
                                              case rel => exact ⟨(wrap64 (x5_4 + 1)), (by first | rfl | (simp; done) | (simp [*]; done)), H', ⟨by have := HK1.out; have := HJ1.out; have := HK3.out; have := HK4.out; omega⟩, by repeat (first | exact Drawn0.refl _ | apply Drawn0.step)⟩
                                            · replace c21 := Bool.eq_false_iff.mpr c21
                                              subst c21
                                              have H1 : (some false) = some r := by rw [if_neg (show ¬ (false = true) by decide)] at H; exact H
                                              clear H
                                              have H := H1
                                              clear H1
                                              obtain rfl := Option.some.inj H
                                              have p161 : 0 ≤ (x3_1 : Int) := of_decide_eq_true (by first | (with_reducible assumption) | assumption)
                                              have q161 : x3_1 < (l0.length : Int) := of_decide_eq_true (by first | (with_reducible assumption) | assumption)
                                              obtain ⟨ad161, A161_0, c161_0, e161, hx161_0, hl161_0, hi161_0⟩ := at_L2 HR0.out x3_1 p161 q161
                                              cases e161
                                              have HR161_0 := Aside0.mk hi161_0
                                              have HC161_0 := Aside0.mk hl161_0
                                              clear hi161_0 hl161_0
                                              replace p161 := eq_true p161
                                              replace q161 := eq_true q161
                                              have p162 : 0 ≤ (x4_3 : Int) := of_decide_eq_true (by first | (with_reducible assumption) | assumption)
                                              have q162 : x4_3 < ((rd_L2 l0 x3_1).length : Int) := of_decide_eq_true (by first | (with_reducible assumption) | assumption)
                                              obtain ⟨ad162, e162, hx162_0⟩ := Kd.at_bool HR161_0.out x4_3 p162 q162
                                              (try rw [← Nbq12.out] at hx162_0)
                                              (try rw [← Nbq17.out] at hx162_0)
                                              (try rw [← Nbq20.out] at hx162_0)
                                              cases e162
                                              replace p162 := eq_true p162
                                              replace q162 := eq_true q162
                                              have p163 : 0 ≤ (x4_3 : Int) := of_decide_eq_true (by first | (with_reducible assumption) | assumption)
                                              have q163 : x4_3 < (l0.length : Int) := of_decide_eq_true (by first | (with_reducible assumption) | assumption)
                                              obtain ⟨ad163, A163_0, c163_0, e163, hx163_0, hl163_0, hi163_0⟩ := at_L2 HR0.out x4_3 p163 q163
                                              obtain rfl : ad161 = ad163 := (by injection e163)
                                              have HR163_0 := Aside0.mk hi163_0
                                              have HC163_0 := Aside0.mk hl163_0
                                              clear hi163_0 hl163_0
                                              replace p163 := eq_true p163
                                              replace q163 := eq_true q163
                                              have p164 : 0 ≤ (x5_4 : Int) := of_decide_eq_true (by first | (with_reducible assumption) | assumption)
                                              have q164 : x5_4 < ((rd_L2 l0 x4_3).length : Int) := of_decide_eq_true (by first | (with_reducible assumption) | assumption)
                                              obtain ⟨ad164, e164, hx164_0⟩ := Kd.at_bool HR163_0.out x5_4 p164 q164
                                              (try rw [← Nbq12.out] at hx164_0)
                                              (try rw [← Nbq17.out] at hx164_0)
                                              (try rw [← Nbq20.out] at hx164_0)
                                              cases e164
                                              replace p164 := eq_true p164
                                              replace q164 := eq_true q164
                                              have p165 : 0 ≤ (x3_1 : Int) := of_decide_eq_true (by first | (with_reducible assumption) | assumption)
                                              have q165 : x3_1 < (l0.length : Int) := of_decide_eq_true (by first | (with_reducible assumption) | assumption)
                                              obtain ⟨ad165, A165_0, c165_0, e165, hx165_0, hl165_0, hi165_0⟩ := at_L2 HR0.out x3_1 p165 q165
                                              obtain rfl : ad161 = ad165 := (by injection e165)
                                              have HR165_0 := Aside0.mk hi165_0
                                              have HC165_0 := Aside0.mk hl165_0
                                              clear hi165_0 hl165_0
                                              replace p165 := eq_true p165
                                              replace q165 := eq_true q165
                                              have ea_ := Option.some.inj (hx161_0.symm.trans hx165_0)
                                              injection ea_ with ea_ en_ ec_
                                              subst ea_
                                              subst ec_
                                              clear en_
                                              have p166 : 0 ≤ (x5_4 : Int) := of_decide_eq_true (by first | (with_reducible assumption) | assumption)
                                              have q166 : x5_4 < ((rd_L2 l0 x3_1).length : Int) := of_decide_eq_true (by first | (with_reducible assumption) | assumption)
                                              obtain ⟨ad166, e166, hx166_0⟩ := Kd.at_bool HR165_0.out x5_4 p166 q166
                                              (try rw [← Nbq12.out] at hx166_0)
                                              (try rw [← Nbq17.out] at hx166_0)
                                              (try rw [← Nbq20.out] at hx166_0)
                                              cases e166
                                              replace p166 := eq_true p166
                                              replace q166 := eq_true q166
                                              go_wp2
                                              go_ret
                                              exact ⟨by first | rfl | (simp; done) | (simp [*]; done), by repeat (first | exact Drawn0.refl _ | apply Drawn0.step)⟩
                                          · rw [if_neg c19] at H
                                            exact absurd H (by simp)
                                        · replace c18 := Bool.eq_false_iff.mpr c18
                                          subst c18
                                          have H1 : (confidantref2_Transitive.l2 k4 l0 x3_1 x4_3 (wrap64 (x5_4 + 1))) = some r := by rw [if_neg (show ¬ (false = true) by decide)] at H; exact H
                                          clear H
                                          have H := H1
                                          clear H1
                                          have H' := Aside0.mk H
                                          clear H
                                          have p161 : 0 ≤ (x3_1 : Int) := of_decide_eq_true (by first | (with_reducible assumption) | assumption)
                                          have q161 : x3_1 < (l0.length : Int) := of_decide_eq_true (by first | (with_reducible assumption) | assumption)
                                          obtain ⟨ad161, A161_0, c161_0, e161, hx161_0, hl161_0, hi161_0⟩ := at_L2 HR0.out x3_1 p161 q161
                                          cases e161
                                          have HR161_0 := Aside0.mk hi161_0
                                          have HC161_0 := Aside0.mk hl161_0
                                          clear hi161_0 hl161_0
                                          replace p161 := eq_true p161
                                          replace q161 := eq_true q161
                                          have p162 : 0 ≤ (x4_3 : Int) := of_decide_eq_true (by first | (with_reducible assumption) | assumption)
                                          have q162 : x4_3 < ((rd_L2 l0 x3_1).length : Int) := of_decide_eq_true (by first | (with_reducible assumption) | assumption)
                                          obtain ⟨ad162, e162, hx162_0⟩ := Kd.at_bool HR161_0.out x4_3 p162 q162
                                          (try rw [← Nbq12.out] at hx162_0)
                                          (try rw [← Nbq17.out] at hx162_0)
                                          cases e162
                                          replace p162 := eq_true p162
                                          replace q162 := eq_true q162
                                          have p163 : 0 ≤ (x4_3 : Int) := of_decide_eq_true (by first | (with_reducible assumption) | assumption)
                                          have q163 : x4_3 < (l0.length : Int) := of_decide_eq_true (by first | (with_reducible assumption) | assumption)
                                          obtain ⟨ad163, A163_0, c163_0, e163, hx163_0, hl163_0, hi163_0⟩ := at_L2 HR0.out x4_3 p163 q163
                                          obtain rfl : ad161 = ad163 := (by injection e163)
                                          have HR163_0 := Aside0.mk hi163_0
                                          have HC163_0 := Aside0.mk hl163_0
                                          clear hi163_0 hl163_0
                                          replace p163 := eq_true p163
                                          replace q163 := eq_true q163
                                          have p164 : 0 ≤ (x5_4 : Int) := of_decide_eq_true (by first | (with_reducible assumption) | assumption)
                                          have q164 : x5_4 < ((rd_L2 l0 x4_3).length : Int) := of_decide_eq_true (by first | (with_reducible assumption) | assumption)
                                          obtain ⟨ad164, e164, hx164_0⟩ := Kd.at_bool HR163_0.out x5_4 p164 q164
                                          (try rw [← Nbq12.out] at hx164_0)
                                          (try rw [← Nbq17.out] at hx164_0)
                                          cases e164
                                          replace p164 := eq_true p164
                                          replace q164 := eq_true q164
                                          go_wp2
                                          go_roundg k4
                                          case measure => have := HK1.out; have := HJ1.out; have := HK3.out; have := HK4.out; omega
                                          case rel => exact ⟨(wrap64 (x5_4 + 1)), (by first | rfl | (simp; done) | (simp [*]; done)), H', ⟨by have := HK1.out; have := HJ1.out; have := HK3.out; have := HK4.out; omega⟩, by repeat (first | exact Drawn0.refl _ | apply Drawn0.step)⟩
                                      · rw [if_neg c16] at H
                                        exact absurd H (by simp)
                                    · rw [if_neg c15] at H
                                      exact absurd H (by simp)
                                  · rw [if_neg c14] at H
                                    exact absurd H (by simp)
                                · replace c13 := Bool.eq_false_iff.mpr c13
                                  subst c13
                                  have H1 : (confidantref2_Transitive.l2 k4 l0 x3_1 x4_3 (wrap64 (x5_4 + 1))) = some r := by rw [if_neg (show ¬ (false = true) by decide)] at H; exact H
                                  clear H
                                  have H := H1
                                  clear H1
                                  have H' := Aside0.mk H
                                  clear H
                                  have p161 : 0 ≤ (x3_1 : Int) := of_decide_eq_true (by first | (with_reducible assumption) | assumption)
                                  have q161 : x3_1 < (l0.length : Int) := of_decide_eq_true (by first | (with_reducible assumption) | assumption)
                                  obtain ⟨ad161, A161_0, c161_0, e161, hx161_0, hl161_0, hi161_0⟩ := at_L2 HR0.out x3_1 p161 q161
                                  cases e161
                                  have HR161_0 := Aside0.mk hi161_0
                                  have HC161_0 := Aside0.mk hl161_0
                                  clear hi161_0 hl161_0
                                  replace p161 := eq_true p161
                                  replace q161 := eq_true q161
                                  have p162 : 0 ≤ (x4_3 : Int) := of_decide_eq_true (by first | (with_reducible assumption) | assumption)
                                  have q162 : x4_3 < ((rd_L2 l0 x3_1).length : Int) := of_decide_eq_true (by first | (with_reducible assumption) | assumption)
                                  obtain ⟨ad162, e162, hx162_0⟩ := Kd.at_bool HR161_0.out x4_3 p162 q162
                                  (try rw [← Nbq12.out] at hx162_0)
                                  cases e162
                                  replace p162 := eq_true p162
                                  replace q162 := eq_true q162
                                  go_wp2
                                  go_roundg k4
                                  case measure => have := HK1.out; have := HJ1.out; have := HK3.out; have := HK4.out; omega
                                  case rel => exact ⟨(wrap64 (x5_4 + 1)), (by first | rfl | (simp; done) | (simp [*]; done)), H', ⟨by have := HK1.out; have := HJ1.out; have := HK3.out; have := HK4.out; omega⟩, by repeat (first | exact Drawn0.refl _ | apply Drawn0.step)⟩
                              · rw [if_neg c11] at H
                                exact absurd H (by simp)
                            · rw [if_neg c10] at H
                              exact absurd H (by simp)
                          · rw [if_neg c9] at H
                            exact absurd H (by simp)
                        · rw [if_neg c8] at H
                          exact absurd H (by simp)
                      · rw [if_neg c7] at H
                        have c7b0 : decide (x5_4 < (l0.length : Int)) = false := decide_eq_false c7
                        clear c7
                        have H' := Aside0.mk H
                        clear H
                        go_wp2
                        go_roundg k4
                        case measure => have := HK1.out; have := HJ1.out; have := HK3.out; have := HK4.out; omega
                        case rel => exact ⟨(wrap64 (x4_3 + 1)), (by first | rfl | (simp; done) | (simp [*]; done)), H', ⟨by have := HK1.out; have := HJ1.out; have := HK3.out; have := HK4.out; omega⟩, by repeat (first | exact Drawn0.refl _ | apply Drawn0.step)⟩
                · rw [if_neg c6] at H
                  have c6b0 : decide (x4_3 < (l0.length : Int)) = false := decide_eq_false c6
                  clear c6
                  have H' := Aside0.mk H
                  clear H
                  go_wp2
                  go_roundg k3
                  case measure => have := HK1.out; have := HJ1.out; have := HK3.out; omega
                  case rel => exact ⟨(wrap64 (x3_1 + 1)), (by first | rfl | (simp; done) | (simp [*]; done)), H', ⟨by have := HK1.out; have := HJ1.out; have := HK3.out; omega⟩, by repeat (first | exact Drawn0.refl _ | apply Drawn0.step)⟩
          · replace c5 := Bool.eq_false_iff.mpr c5
            subst c5
            have H1 : ((confidantref2_Square.f kj1 l0).bind fun t160 => (some t160)) = some r := by rw [if_neg (show ¬ (false = true) by decide)] at H; exact H
            clear H
            have H := H1
            clear H1
            replace H := Option.bind_eq_some_iff.mp H
            obtain ⟨t160, A220, H⟩ := H
            replace H : (some t160) = some r := H
            have A22 := Aside0.mk A220
            clear A220
            obtain rfl := Option.some.inj H
            go_wp2_with (first | ((with_reducible refine gate_callee (f := 27) rfl ?_); refine goesL_ (some 55) rfl rfl Try.func27 (by kernel_rfl) rfl #[.slice A0 l0.length c0] rfl (by (try simp only [List.map_toArray, List.map_cons, List.map_nil]); first | done | rfl | (simp only [List.length_drop, List.length_take]; rfl)) ?_; (with_reducible refine (confidantref2_Square.calls kj1 _ _ l0 t160 _ ?side1 ?side2 A22.out).mono ?_); (case side1 => repeat (first | exact HR0.out | (with_reducible refine Kd.C_alloc ?_ _) | (with_reducible refine Kd.C_drewN ?_ _) | (with_reducible refine Kd.C_drew ?_))); (case side2 => exact HC0.out); rintro e w' ⟨rfl, ⟨nd, rfl⟩⟩; refine ⟨_, rfl, ?_⟩))
            go_ret
            exact ⟨by first | rfl | (simp; done) | (simp [*]; done), by repeat (first | exact Drawn0.refl _ | apply Drawn0.step)⟩

/-! ### confidantref2_in: function 72 -/
def confidantref2_in.f (k : Nat) (l0 : List (List Bool)) (a1 : Int) : Option (Bool) := (confidantref2_Square.f k l0).bind fun t167 => (if t167 = true then (if a1 ≥ 0 then (some (decide (a1 < (l0.length : Int)))) else (some false)) else (some false))
theorem confidantref2_in.mono : ∀ a0 a1 k, LeO (confidantref2_in.f k a0 a1) (confidantref2_in.f (k + 1) a0 a1) := by
  intro a0 a1 k
  unfold confidantref2_in.f
  repeat' first
      | (with_reducible exact confidantref2_Square.mono _ _)
      | (with_reducible exact LeO.refl _)
      | (with_reducible exact LeO.none _)
      | (with_reducible refine LeO.ite ?_ ?_)
      | (with_reducible refine LeO.bind ?_ (fun _ => ?_))
      | exact confidantref2_Square.mono _ _
      | exact LeO.none _
      | refine LeO.ite ?_ ?_
      | refine LeO.bind ?_ (fun _ => ?_)
set_option maxHeartbeats 8000000 in
set_option maxRecDepth 100000 in
theorem confidantref2_in.calls (k : Nat) (A0 : Option Addr) (c0 : Nat) (l0 : List (List Bool)) (a1 : Int) (r : Bool) (w : World) (hr0 : Kd.C (Kd.slice 4 Kd.bool) w A0 l0.length l0) (hc0 : l0.length ≤ c0) (h : confidantref2_in.f k l0 a1 = some r) :
    Calls Try.prog 72 #[.slice A0 l0.length c0, .int .i64 a1] w fun e w' => e = .returned (.bool r) ∧ Drawn0 w w' := by
  have HR0 := Aside0.mk hr0
  have HC0 := Aside0.mk hc0
  clear hr0 hc0
  have H : ((confidantref2_Square.f k l0).bind fun t167 => (if t167 = true then (if a1 ≥ 0 then (some (decide (a1 < (l0.length : Int)))) else (some false)) else (some false))) = some r := h
  clear h
  replace H := Option.bind_eq_some_iff.mp H
  obtain ⟨t167, A30, H⟩ := H
  replace H : (if t167 = true then (if a1 ≥ 0 then (some (decide (a1 < (l0.length : Int)))) else (some false)) else (some false)) = some r := H
  have A3 := Aside0.mk A30
  clear A30
  by_cases c4 : t167 = true
  · subst c4
    have H1 : (if a1 ≥ 0 then (some (decide (a1 < (l0.length : Int)))) else (some false)) = some r := by rw [if_pos rfl] at H; exact H
    clear H
    have H := H1
    clear H1
    by_cases c5 : a1 ≥ 0
    · rw [if_pos c5] at H
      have c5b0 : decide (0 ≤ a1) = true := decide_eq_true c5
      clear c5
      obtain rfl := Option.some.inj H
      go_enter Try.func72, Try.ntmps72
      go_wp2_with (first | ((with_reducible refine gate_callee (f := 27) rfl ?_); refine goesL_ (some 6) rfl rfl Try.func27 (by kernel_rfl) rfl #[.slice A0 l0.length c0] rfl (by (try simp only [List.map_toArray, List.map_cons, List.map_nil]); first | done | rfl | (simp only [List.length_drop, List.length_take]; rfl)) ?_; (with_reducible refine (confidantref2_Square.calls k _ _ l0 true _ ?side1 ?side2 A3.out).mono ?_); (case side1 => repeat (first | exact HR0.out | (with_reducible refine Kd.C_alloc ?_ _) | (with_reducible refine Kd.C_drewN ?_ _) | (with_reducible refine Kd.C_drew ?_))); (case side2 => exact HC0.out); rintro e w' ⟨rfl, ⟨nd, rfl⟩⟩; refine ⟨_, rfl, ?_⟩))
      go_ret
      exact ⟨by first | rfl | (simp; done) | (simp [*]; done), by repeat (first | exact Drawn0.refl _ | apply Drawn0.step)⟩
    · rw [if_neg c5] at H
      have c5b0 : decide (0 ≤ a1) = false := decide_eq_false c5
      clear c5
      obtain rfl := Option.some.inj H
      go_enter Try.func72, Try.ntmps72
      go_wp2_with (first | ((with_reducible refine gate_callee (f := 27) rfl ?_); refine goesL_ (some 6) rfl rfl Try.func27 (by kernel_rfl) rfl #[.slice A0 l0.length c0] rfl (by (try simp only [List.map_toArray, List.map_cons, List.map_nil]); first | done | rfl | (simp only [List.length_drop, List.length_take]; rfl)) ?_; (with_reducible refine (confidantref2_Square.calls k _ _ l0 true _ ?side1 ?side2 A3.out).mono ?_); (case side1 => repeat (first | exact HR0.out | (with_reducible refine Kd.C_alloc ?_ _) | (with_reducible refine Kd.C_drewN ?_ _) | (with_reducible refine Kd.C_drew ?_))); (case side2 => exact HC0.out); rintro e w' ⟨rfl, ⟨nd, rfl⟩⟩; refine ⟨_, rfl, ?_⟩))
      go_ret
      exact ⟨by first | rfl | (simp; done) | (simp [*]; done), by repeat (first | exact Drawn0.refl _ | apply Drawn0.step)⟩
  · replace c4 := Bool.eq_false_iff.mpr c4
    subst c4
    have H1 : (some false) = some r := by rw [if_neg (show ¬ (false = true) by decide)] at H; exact H
    clear H
    have H := H1
    clear H1
    obtain rfl := Option.some.inj H
    go_enter Try.func72, Try.ntmps72
    go_wp2_with (first | ((with_reducible refine gate_callee (f := 27) rfl ?_); refine goesL_ (some 6) rfl rfl Try.func27 (by kernel_rfl) rfl #[.slice A0 l0.length c0] rfl (by (try simp only [List.map_toArray, List.map_cons, List.map_nil]); first | done | rfl | (simp only [List.length_drop, List.length_take]; rfl)) ?_; (with_reducible refine (confidantref2_Square.calls k _ _ l0 false _ ?side1 ?side2 A3.out).mono ?_); (case side1 => repeat (first | exact HR0.out | (with_reducible refine Kd.C_alloc ?_ _) | (with_reducible refine Kd.C_drewN ?_ _) | (with_reducible refine Kd.C_drew ?_))); (case side2 => exact HC0.out); rintro e w' ⟨rfl, ⟨nd, rfl⟩⟩; refine ⟨_, rfl, ?_⟩))
    go_ret
    exact ⟨by first | rfl | (simp; done) | (simp [*]; done), by repeat (first | exact Drawn0.refl _ | apply Drawn0.step)⟩

end Go.Proofs.Ytpeeneaapmmciaa.POtells
