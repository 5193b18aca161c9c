-- Printed by wip/tools/oprint.py, a program of this session.
import Derived.Test.YtpeeneaapmmciaaPLkeepsx0
import Derived.Test.YtpeeneaapmmciaaPLkeepsx1
import Derived.Test.YtpeeneaapmmciaaPLkeepsx2
import Derived.Test.YtpeeneaapmmciaaPLkeepsx3
import Derived.Test.YtpeeneaapmmciaaPLkeepsx4
import Derived.Test.YtpeeneaapmmciaaPLkeepsx5
import Derived.Test.YtpeeneaapmmciaaPLkeepsx6
import Derived.Test.YtpeeneaapmmciaaPLkeepsx7
namespace Go.Proofs.Ytpeeneaapmmciaa.PLkeeps
open Go.RowKit Go.Proofs.YtpeeneaapmmciaaW.PrintWords Go.Proofs.YtpeeneaapmmciaaW.PrintLast Go.Proofs.YtpeeneaapmmciaaW.PrintMore
attribute [local go_sem] max2_int min2_int max_two min_two max_three min_three max_four min_four   -- for this text's walks alone
set_option linter.unusedVariables false
set_option linter.unusedSimpArgs false

/-! ### confidantref2_Greatest: function 42 -/
mutual
def confidantref2_Greatest.l0 : Nat → List (List Bool) → List Int → Int → Option (Int × Bool)
  | 0, _, _, _ => none
  | k + 1, x0, x1, x6 => if x6 < (x1.length : Int) then ((confidantref2_all.f k x0 x1).bind fun t173 => (confidantref2_Greatest.j1 k x0 x1 x6 t173)) else (confidantref2_Greatest.j1 k x0 x1 x6 false)
def confidantref2_Greatest.j1 : Nat → List (List Bool) → List Int → Int → Bool → Option (Int × Bool)
  | 0, _, _, _, _ => none
  | k + 1, x0, x1, x6, x17 => if x17 = true then (confidantref2_Greatest.l1 k x0 x1 x6 true 0) else (some (0, false))
def confidantref2_Greatest.l1 : Nat → List (List Bool) → List Int → Int → Bool → Int → Option (Int × Bool)
  | 0, _, _, _, _, _ => none
  | k + 1, x0, x1, x6, x7, x8 => if x8 < (x1.length : Int) then (if x7 = true then (if 0 ≤ x8 then (if 0 ≤ (rd x1 x8) then (if (rd x1 x8) < (x0.length : Int) then (if 0 ≤ x6 then (if x6 < (x1.length : Int) then (if 0 ≤ (rd x1 x6) then (if (rd x1 x6) < ((rd_L1 x0 (rd x1 x8)).length : Int) then (confidantref2_Greatest.l1 k x0 x1 x6 (rdOf false (rd_L1 x0 (rd x1 x8)) (rd x1 x6)) (wrap64 (x8 + 1))) else (none)) else (none)) else (none)) else (none)) else (none)) else (none)) else (none)) else (confidantref2_Greatest.l1 k x0 x1 x6 false (wrap64 (x8 + 1)))) else (if x7 = true then (if 0 ≤ x6 then (if x6 < (x1.length : Int) then (some (rd x1 x6, true)) else (none)) else (none)) else (confidantref2_Greatest.l0 k x0 x1 (wrap64 (x6 + 1))))
end
def confidantref2_Greatest.f (k : Nat) (l0 : List (List Bool)) (l1 : List Int) : Option (Int × Bool) := confidantref2_Greatest.l0 k l0 l1 0
theorem confidantref2_Greatest.mono_l : ∀ k, (∀ y0 y1 y2, LeO (confidantref2_Greatest.l0 k y0 y1 y2) (confidantref2_Greatest.l0 (k + 1) y0 y1 y2)) ∧ (∀ y0 y1 y2 y3, LeO (confidantref2_Greatest.j1 k y0 y1 y2 y3) (confidantref2_Greatest.j1 (k + 1) y0 y1 y2 y3)) ∧ (∀ y0 y1 y2 y3 y4, LeO (confidantref2_Greatest.l1 k y0 y1 y2 y3 y4) (confidantref2_Greatest.l1 (k + 1) y0 y1 y2 y3 y4))
  | 0 => ⟨fun _ _ _ r h => by simp [confidantref2_Greatest.l0] at h, fun _ _ _ _ r h => by simp [confidantref2_Greatest.j1] at h, fun _ _ _ _ _ r h => by simp [confidantref2_Greatest.l1] at h⟩
  | k + 1 => by
    obtain ⟨ih0, ih1, ih2⟩ := confidantref2_Greatest.mono_l k
    refine ⟨?_, ?_, ?_⟩
    · intro y0 y1 y2
      unfold confidantref2_Greatest.l0
      repeat' first
      | (with_reducible exact ih0 _ _ _)
      | (with_reducible exact ih1 _ _ _ _)
      | (with_reducible exact ih2 _ _ _ _ _)
      | (with_reducible exact confidantref2_all.mono _ _ _)
      | (with_reducible exact LeO.refl _)
      | (with_reducible exact LeO.none _)
      | (with_reducible refine LeO.ite ?_ ?_)
      | (with_reducible refine LeO.bind ?_ (fun _ => ?_))
      | exact ih0 _ _ _
      | exact ih1 _ _ _ _
      | exact ih2 _ _ _ _ _
      | exact confidantref2_all.mono _ _ _
      | exact LeO.none _
      | refine LeO.ite ?_ ?_
      | refine LeO.bind ?_ (fun _ => ?_)
    · intro y0 y1 y2 y3
      unfold confidantref2_Greatest.j1
      repeat' first
      | (with_reducible exact ih0 _ _ _)
      | (with_reducible exact ih1 _ _ _ _)
      | (with_reducible exact ih2 _ _ _ _ _)
      | (with_reducible exact confidantref2_all.mono _ _ _)
      | (with_reducible exact LeO.refl _)
      | (with_reducible exact LeO.none _)
      | (with_reducible refine LeO.ite ?_ ?_)
      | (with_reducible refine LeO.bind ?_ (fun _ => ?_))
      | exact ih0 _ _ _
      | exact ih1 _ _ _ _
      | exact ih2 _ _ _ _ _
      | exact confidantref2_all.mono _ _ _
      | exact LeO.none _
      | refine LeO.ite ?_ ?_
      | refine LeO.bind ?_ (fun _ => ?_)
    · intro y0 y1 y2 y3 y4
      unfold confidantref2_Greatest.l1
      repeat' first
      | (with_reducible exact ih0 _ _ _)
      | (with_reducible exact ih1 _ _ _ _)
      | (with_reducible exact ih2 _ _ _ _ _)
      | (with_reducible exact confidantref2_all.mono _ _ _)
      | (with_reducible exact LeO.refl _)
      | (with_reducible exact LeO.none _)
      | (with_reducible refine LeO.ite ?_ ?_)
      | (with_reducible refine LeO.bind ?_ (fun _ => ?_))
      | exact ih0 _ _ _
      | exact ih1 _ _ _ _
      | exact ih2 _ _ _ _ _
      | exact confidantref2_all.mono _ _ _
      | exact LeO.none _
      | refine LeO.ite ?_ ?_
      | refine LeO.bind ?_ (fun _ => ?_)
theorem confidantref2_Greatest.mono : ∀ a0 a1 k, LeO (confidantref2_Greatest.f k a0 a1) (confidantref2_Greatest.f (k + 1) a0 a1) := by
  intro a0 a1 k
  obtain ⟨ih0, ih1, ih2⟩ := confidantref2_Greatest.mono_l k
  unfold confidantref2_Greatest.f
  repeat' first
      | (with_reducible exact ih0 _ _ _)
      | (with_reducible exact ih1 _ _ _ _)
      | (with_reducible exact ih2 _ _ _ _ _)
      | (with_reducible exact confidantref2_all.mono _ _ _)
      | (with_reducible exact LeO.refl _)
      | (with_reducible exact LeO.none _)
      | (with_reducible refine LeO.ite ?_ ?_)
      | (with_reducible refine LeO.bind ?_ (fun _ => ?_))
      | exact ih0 _ _ _
      | exact ih1 _ _ _ _
      | exact ih2 _ _ _ _ _
      | exact confidantref2_all.mono _ _ _
      | exact LeO.none _
      | refine LeO.ite ?_ ?_
      | refine LeO.bind ?_ (fun _ => ?_)
set_option maxHeartbeats 8000000 in
set_option maxRecDepth 100000 in
theorem confidantref2_Greatest.calls (k : Nat) (A0 : Option Addr) (c0 : Nat) (l0 : List (List Bool)) (A1 : Option Addr) (c1 : Nat) (l1 : List Int) (r1 : Int) (r2 : Bool) (w : World) (hr0 : Kd.C (Kd.slice 4 Kd.bool) w A0 l0.length l0) (hc0 : l0.length ≤ c0) (hr1 : Kd.C (Kd.int .i64) w A1 l1.length l1) (hc1 : l1.length ≤ c1) (h : confidantref2_Greatest.f k l0 l1 = some (r1, r2)) :
    Calls Try.prog 42 #[.slice A0 l0.length c0, .slice A1 l1.length c1] w fun e w' => e = .returned (.tuple #[.int .i64 r1, .bool r2]) ∧ Drawn0 w w' := by
  have HR0 := Aside0.mk hr0
  have HC0 := Aside0.mk hc0
  clear hr0 hc0
  have HR1 := Aside0.mk hr1
  have HC1 := Aside0.mk hc1
  clear hr1 hc1
  have H : (confidantref2_Greatest.l0 k l0 l1 0) = some (r1, r2) := h
  clear h
  have H' := Aside0.mk H
  clear H
  go_enter Try.func42, Try.ntmps42
  go_wp2
  repeat (go_quiet (fail); try go_wp2)
  go_loopg [6] k (fun kq v6 w' => ∃ (x6_1 : Int), v6 = .int .i64 x6_1 ∧ Aside0 (confidantref2_Greatest.l0 kq l0 l1 x6_1 = some (r1, r2)) ∧ Aside0 (kq ≤ k) ∧ Drawn0 w w')
  case atStart => exact ⟨(0), (by first | rfl | (simp; done) | (simp [*]; done)), H', ⟨Nat.le_refl _⟩, by repeat (first | exact Drawn0.refl _ | apply Drawn0.step)⟩
  case round =>
    clear H'
    try clear c1
    try clear p2
    obtain ⟨x6_1, rfl, HA, HK1, ⟨m1, rfl⟩⟩ := hrel
    cases gk with
    | zero => exact absurd HA.out (by simp [confidantref2_Greatest.l0])
    | succ k1 =>
      have H := HA.out
      clear HA
      simp only [confidantref2_Greatest.l0] at H
      have HC3 := Aside0.mk H
      clear H
      go_upto_region 2 with (fail)
      repeat (go_quiet (fail); go_upto_region 2 with (fail))
      go_cut [17] (fun v17 wc => ∃ (kq : Nat) (x17_2 : Bool), v17 = .bool x17_2 ∧ Aside0 (confidantref2_Greatest.j1 kq l0 l1 x6_1 x17_2 = some (r1, r2)) ∧ Aside0 (kq ≤ k1) ∧ Drawn0 w wc)
      case first =>
        have H := HC3.out
        clear HC3
        by_cases c4 : x6_1 < (l1.length : Int)
        · rw [if_pos c4] at H
          have c4b0 : decide (x6_1 < (l1.length : Int)) = true := decide_eq_true c4
          clear c4
          (first | rw [c4b0] | (simp only [i64_w, i32_w]; rw [c4b0]) | skip)
          replace H := Option.bind_eq_some_iff.mp H
          obtain ⟨t173, A50, H⟩ := H
          replace H : (confidantref2_Greatest.j1 k1 l0 l1 x6_1 t173) = some (r1, r2) := H
          have A5 := Aside0.mk A50
          clear A50
          have H' := Aside0.mk H
          clear H
          go_wp2_with (first | (go_at_call 76; (with_reducible refine (confidantref2_all.calls k1 _ _ l0 _ _ l1 t173 _ ?side1 ?side2 ?side3 ?side4 A5.out).mono ?_); (case side1 => repeat (first | exact HR0.out | (with_reducible refine Kd.C_alloc ?_ _) | (with_reducible refine Kd.C_drewN ?_ _) | (with_reducible refine Kd.C_drew ?_))); (case side2 => exact HC0.out); (case side3 => repeat (first | exact HR1.out | (with_reducible refine Kd.C_alloc ?_ _) | (with_reducible refine Kd.C_drewN ?_ _) | (with_reducible refine Kd.C_drew ?_))); (case side4 => exact HC1.out); rintro e w' ⟨rfl, ⟨nd, rfl⟩⟩; (try first | exact ⟨rfl, _, World.drewN_drewN _ _ _⟩ | exact ⟨rfl, _, Eq.trans (World.drewN_drewN _ _ _) (congrArg (World.drewN _) (Nat.add_assoc _ _ _))⟩)))
          repeat (go_quiet (first | (go_at_call 76; (with_reducible refine (confidantref2_all.calls k1 _ _ l0 _ _ l1 t173 _ ?side1 ?side2 ?side3 ?side4 A5.out).mono ?_); (case side1 => repeat (first | exact HR0.out | (with_reducible refine Kd.C_alloc ?_ _) | (with_reducible refine Kd.C_drewN ?_ _) | (with_reducible refine Kd.C_drew ?_))); (case side2 => exact HC0.out); (case side3 => repeat (first | exact HR1.out | (with_reducible refine Kd.C_alloc ?_ _) | (with_reducible refine Kd.C_drewN ?_ _) | (with_reducible refine Kd.C_drew ?_))); (case side4 => exact HC1.out); rintro e w' ⟨rfl, ⟨nd, rfl⟩⟩; (try first | exact ⟨rfl, _, World.drewN_drewN _ _ _⟩ | exact ⟨rfl, _, Eq.trans (World.drewN_drewN _ _ _) (congrArg (World.drewN _) (Nat.add_assoc _ _ _))⟩))); try go_wp2_with (first | (go_at_call 76; (with_reducible refine (confidantref2_all.calls k1 _ _ l0 _ _ l1 t173 _ ?side1 ?side2 ?side3 ?side4 A5.out).mono ?_); (case side1 => repeat (first | exact HR0.out | (with_reducible refine Kd.C_alloc ?_ _) | (with_reducible refine Kd.C_drewN ?_ _) | (with_reducible refine Kd.C_drew ?_))); (case side2 => exact HC0.out); (case side3 => repeat (first | exact HR1.out | (with_reducible refine Kd.C_alloc ?_ _) | (with_reducible refine Kd.C_drewN ?_ _) | (with_reducible refine Kd.C_drew ?_))); (case side4 => exact HC1.out); rintro e w' ⟨rfl, ⟨nd, rfl⟩⟩; (try first | exact ⟨rfl, _, World.drewN_drewN _ _ _⟩ | exact ⟨rfl, _, Eq.trans (World.drewN_drewN _ _ _) (congrArg (World.drewN _) (Nat.add_assoc _ _ _))⟩))))
          go_meet
          case rel => exact ⟨_, (t173), (by first | rfl | (simp; done) | (simp [*]; done)), H', ⟨by have := HK1.out; first | omega | exact Nat.le_refl _⟩, by repeat (first | exact Drawn0.refl _ | apply Drawn0.step)⟩
        · rw [if_neg c4] at H
          have c4b0 : decide (x6_1 < (l1.length : Int)) = false := decide_eq_false c4
          clear c4
          (first | rw [c4b0] | (simp only [i64_w, i32_w]; rw [c4b0]) | skip)
          have H' := Aside0.mk H
          clear H
          go_wp2
          repeat (go_quiet (fail); try go_wp2)
          go_meet
          case rel => exact ⟨_, (false), (by first | rfl | (simp; done) | (simp [*]; done)), H', ⟨by have := HK1.out; first | omega | exact Nat.le_refl _⟩, by repeat (first | exact Drawn0.refl _ | apply Drawn0.step)⟩
      case rest =>
        clear HC3
        try clear c1
        try clear p2
        try clear c4
        try clear c4b0
        try clear p2
        obtain ⟨kq, x17_2, rfl, HA, HJ2, ⟨mc2, rfl⟩⟩ := hcut
        cases kq with
        | zero => exact absurd HA.out (by simp [confidantref2_Greatest.j1])
        | succ kj2 =>
          have H := HA.out
          clear HA
          simp only [confidantref2_Greatest.j1] at H
          by_cases c6 : x17_2 = true
          · subst c6
            have H1 : (confidantref2_Greatest.l1 kj2 l0 l1 x6_1 true 0) = some (r1, r2) := by rw [if_pos rfl] at H; exact H
            clear H
            have H := H1
            clear H1
            have H' := Aside0.mk H
            clear H
            go_wp2
            repeat (go_quiet (fail); try go_wp2)
            go_loopg [7, 8] kj2 (fun kq v7 v8 w' => ∃ (x7_3 : Bool) (x8_3 : Int), v7 = .bool x7_3 ∧ v8 = .int .i64 x8_3 ∧ Aside0 (confidantref2_Greatest.l1 kq l0 l1 x6_1 x7_3 x8_3 = some (r1, r2)) ∧ Aside0 (kq ≤ kj2) ∧ Drawn0 w w')
            case atStart => exact ⟨(true), (0), (by first | rfl | (simp; done) | (simp [*]; done)), (by first | rfl | (simp; done) | (simp [*]; done)), H', ⟨Nat.le_refl _⟩, by repeat (first | exact Drawn0.refl _ | apply Drawn0.step)⟩
            case round =>
              clear H'
              try clear c1
              try clear c2
              try clear p2
              try clear c4
              try clear c4b0
              try clear c6
              try clear p2
              obtain ⟨x7_3, x8_3, rfl, rfl, HA, HK3, ⟨m3, rfl⟩⟩ := hrel
              cases gk with
              | zero => exact absurd HA.out (by simp [confidantref2_Greatest.l1])
              | succ k3 =>
                have H := HA.out
                clear HA
                simp only [confidantref2_Greatest.l1] at H
                by_cases c7 : x8_3 < (l1.length : Int)
                · rw [if_pos c7] at H
                  have c7b0 : decide (x8_3 < (l1.length : Int)) = true := decide_eq_true c7
                  clear c7
                  by_cases c8 : x7_3 = true
                  · subst c8
                    have H1 : (if 0 ≤ x8_3 then (if 0 ≤ (rd l1 x8_3) then (if (rd l1 x8_3) < (l0.length : Int) then (if 0 ≤ x6_1 then (if x6_1 < (l1.length : Int) then (if 0 ≤ (rd l1 x6_1) then (if (rd l1 x6_1) < ((rd_L1 l0 (rd l1 x8_3)).length : Int) then (confidantref2_Greatest.l1 k3 l0 l1 x6_1 (rdOf false (rd_L1 l0 (rd l1 x8_3)) (rd l1 x6_1)) (wrap64 (x8_3 + 1))) else (none)) else (none)) else (none)) else (none)) else (none)) else (none)) else (none)) = some (r1, r2) := by rw [if_pos rfl] at H; exact H
                    clear H
                    have H := H1
                    clear H1
                    by_cases c9 : 0 ≤ x8_3
                    · rw [if_pos c9] at H
                      have c9b0 : decide (0 ≤ x8_3) = true := decide_eq_true c9
                      clear c9
                      by_cases c10 : 0 ≤ (rd l1 x8_3)
                      · rw [if_pos c10] at H
                        have c10b0 : decide (0 ≤ (rd l1 x8_3)) = true := decide_eq_true c10
                        clear c10
                        by_cases c11 : (rd l1 x8_3) < (l0.length : Int)
                        · rw [if_pos c11] at H
                          have c11b0 : decide ((rd l1 x8_3) < (l0.length : Int)) = true := decide_eq_true c11
                          clear c11
                          by_cases c12 : 0 ≤ x6_1
                          · rw [if_pos c12] at H
                            have c12b0 : decide (0 ≤ x6_1) = true := decide_eq_true c12
                            clear c12
                            by_cases c13 : x6_1 < (l1.length : Int)
                            · rw [if_pos c13] at H
                              have c13b0 : decide (x6_1 < (l1.length : Int)) = true := decide_eq_true c13
                              clear c13
                              by_cases c14 : 0 ≤ (rd l1 x6_1)
                              · rw [if_pos c14] at H
                                have c14b0 : decide (0 ≤ (rd l1 x6_1)) = true := decide_eq_true c14
                                clear c14
                                by_cases c15 : (rd l1 x6_1) < ((rd_L1 l0 (rd l1 x8_3)).length : Int)
                                · rw [if_pos c15] at H
                                  have c15b0 : decide ((rd l1 x6_1) < ((rd_L1 l0 (rd l1 x8_3)).length : Int)) = true := decide_eq_true c15
                                  clear c15
                                  have H' := Aside0.mk H
                                  clear H
                                  have p174 : 0 ≤ (x8_3 : Int) := of_decide_eq_true (by first | (with_reducible assumption) | assumption)
                                  have q174 : x8_3 < (l1.length : Int) := of_decide_eq_true (by first | (with_reducible assumption) | assumption)
                                  obtain ⟨ad174, e174, hx174_0⟩ := Kd.at_int HR1.out x8_3 p174 q174
                                  cases e174
                                  replace p174 := eq_true p174
                                  replace q174 := eq_true q174
                                  have p175 : 0 ≤ ((rd l1 x8_3) : Int) := of_decide_eq_true (by first | (with_reducible assumption) | assumption)
                                  have q175 : (rd l1 x8_3) < (l0.length : Int) := of_decide_eq_true (by first | (with_reducible assumption) | assumption)
                                  obtain ⟨ad175, A175_0, c175_0, e175, hx175_0, hl175_0, hi175_0⟩ := at_L1 HR0.out (rd l1 x8_3) p175 q175
                                  cases e175
                                  have HR175_0 := Aside0.mk hi175_0
                                  have HC175_0 := Aside0.mk hl175_0
                                  clear hi175_0 hl175_0
                                  replace p175 := eq_true p175
                                  replace q175 := eq_true q175
                                  have p176 : 0 ≤ (x6_1 : Int) := of_decide_eq_true (by first | (with_reducible assumption) | assumption)
                                  have q176 : x6_1 < (l1.length : Int) := of_decide_eq_true (by first | (with_reducible assumption) | assumption)
                                  obtain ⟨ad176, e176, hx176_0⟩ := Kd.at_int HR1.out x6_1 p176 q176
                                  obtain rfl : ad174 = ad176 := (by injection e176)
                                  replace p176 := eq_true p176
                                  replace q176 := eq_true q176
                                  have p177 : 0 ≤ ((rd l1 x6_1) : Int) := of_decide_eq_true (by first | (with_reducible assumption) | assumption)
                                  have q177 : (rd l1 x6_1) < ((rd_L1 l0 (rd l1 x8_3)).length : Int) := of_decide_eq_true (by first | (with_reducible assumption) | assumption)
                                  obtain ⟨ad177, e177, hx177_0⟩ := Kd.at_bool HR175_0.out (rd l1 x6_1) p177 q177
                                  cases e177
                                  replace p177 := eq_true p177
                                  replace q177 := eq_true q177
                                  go_wp2
                                  repeat (go_quiet (fail); try go_wp2)
                                  go_roundg k3
                                  case measure => have := HK1.out; have := HJ2.out; have := HK3.out; omega
                                  case rel => exact ⟨(rdOf false (rd_L1 l0 (rd l1 x8_3)) (rd l1 x6_1)), (wrap64 (x8_3 + 1)), (by first | rfl | (simp; done) | (simp [*]; done)), (by first | rfl | (simp; done) | (simp [*]; done)), H', ⟨by have := HK1.out; have := HJ2.out; have := HK3.out; omega⟩, by repeat (first | exact Drawn0.refl _ | apply Drawn0.step)⟩
                                · rw [if_neg c15] at H
                                  exact absurd H (by simp)
                              · rw [if_neg c14] at H
                                exact absurd H (by simp)
                            · rw [if_neg c13] at H
                              exact absurd H (by simp)
                          · rw [if_neg c12] at H
                            exact absurd H (by simp)
                        · rw [if_neg c11] at H
                          exact absurd H (by simp)
                      · rw [if_neg c10] at H
                        exact absurd H (by simp)
                    · rw [if_neg c9] at H
                      exact absurd H (by simp)
                  · replace c8 := Bool.eq_false_iff.mpr c8
                    subst c8
                    have H1 : (confidantref2_Greatest.l1 k3 l0 l1 x6_1 false (wrap64 (x8_3 + 1))) = some (r1, r2) := by rw [if_neg (show ¬ (false = true) by decide)] at H; exact H
                    clear H
                    have H := H1
                    clear H1
                    have H' := Aside0.mk H
                    clear H
                    go_wp2
                    repeat (go_quiet (fail); try go_wp2)
                    go_roundg k3
                    case measure => have := HK1.out; have := HJ2.out; have := HK3.out; omega
                    case rel => exact ⟨(false), (wrap64 (x8_3 + 1)), (by first | rfl | (simp; done) | (simp [*]; done)), (by first | rfl | (simp; done) | (simp [*]; done)), H', ⟨by have := HK1.out; have := HJ2.out; have := HK3.out; omega⟩, by repeat (first | exact Drawn0.refl _ | apply Drawn0.step)⟩
                · rw [if_neg c7] at H
                  have c7b0 : decide (x8_3 < (l1.length : Int)) = false := decide_eq_false c7
                  clear c7
                  by_cases c16 : x7_3 = true
                  · subst c16
                    have H1 : (if 0 ≤ x6_1 then (if x6_1 < (l1.length : Int) then (some (rd l1 x6_1, true)) else (none)) else (none)) = some (r1, r2) := by rw [if_pos rfl] at H; exact H
                    clear H
                    have H := H1
                    clear H1
                    by_cases c17 : 0 ≤ x6_1
                    · rw [if_pos c17] at H
                      have c17b0 : decide (0 ≤ x6_1) = true := decide_eq_true c17
                      clear c17
                      by_cases c18 : x6_1 < (l1.length : Int)
                      · rw [if_pos c18] at H
                        have c18b0 : decide (x6_1 < (l1.length : Int)) = true := decide_eq_true c18
                        clear c18
                        simp only [Option.some.injEq, Prod.mk.injEq] at H
                        obtain ⟨rfl, rfl⟩ := H
                        have p178 : 0 ≤ (x6_1 : Int) := of_decide_eq_true (by first | (with_reducible assumption) | assumption)
                        have q178 : x6_1 < (l1.length : Int) := of_decide_eq_true (by first | (with_reducible assumption) | assumption)
                        obtain ⟨ad178, e178, hx178_0⟩ := Kd.at_int HR1.out x6_1 p178 q178
                        cases e178
                        replace p178 := eq_true p178
                        replace q178 := eq_true q178
                        go_wp2
                        repeat (go_quiet (fail); try go_wp2)
                        go_ret2
                        exact ⟨by first | rfl | (simp; done) | (simp [*]; done), by repeat (first | exact Drawn0.refl _ | apply Drawn0.step)⟩
                      · rw [if_neg c18] at H
                        exact absurd H (by simp)
                    · rw [if_neg c17] at H
                      exact absurd H (by simp)
                  · replace c16 := Bool.eq_false_iff.mpr c16
                    subst c16
                    have H1 : (confidantref2_Greatest.l0 k3 l0 l1 (wrap64 (x6_1 + 1))) = some (r1, r2) := by rw [if_neg (show ¬ (false = true) by decide)] at H; exact H
                    clear H
                    have H := H1
                    clear H1
                    have H' := Aside0.mk H
                    clear H
                    go_wp2
                    repeat (go_quiet (fail); try go_wp2)
                    go_roundg k3
                    case measure => have := HK1.out; have := HJ2.out; have := HK3.out; omega
                    case rel => exact ⟨(wrap64 (x6_1 + 1)), (by first | rfl | (simp; done) | (simp [*]; done)), H', ⟨by have := HK1.out; have := HJ2.out; have := HK3.out; omega⟩, by repeat (first | exact Drawn0.refl _ | apply Drawn0.step)⟩
          · replace c6 := Bool.eq_false_iff.mpr c6
            subst c6
            have H1 : (some (0, false)) = some (r1, r2) := by rw [if_neg (show ¬ (false = true) by decide)] at H; exact H
            clear H
            have H := H1
            clear H1
            simp only [Option.some.injEq, Prod.mk.injEq] at H
            obtain ⟨rfl, rfl⟩ := H
            go_wp2
            repeat (go_quiet (fail); try go_wp2)
            go_ret2
            exact ⟨by first | rfl | (simp; done) | (simp [*]; done), by repeat (first | exact Drawn0.refl _ | apply Drawn0.step)⟩

/-! ### confidantref2_Meet: function 57 -/
def confidantref2_Meet.f (k : Nat) (l0 : List (List Bool)) (a1 : Int) (a2 : Int) : Option (Int) := (confidantref2_Lower.f k l0 a1 a2).bind fun t179 => ((confidantref2_Greatest.f k l0 t179).bind fun bt182 => (if bt182.2 = true then (some bt182.1) else (some (-1))))
theorem confidantref2_Meet.mono : ∀ a0 a1 a2 k, LeO (confidantref2_Meet.f k a0 a1 a2) (confidantref2_Meet.f (k + 1) a0 a1 a2) := by
  intro a0 a1 a2 k
  unfold confidantref2_Meet.f
  repeat' first
      | (with_reducible exact confidantref2_Greatest.mono _ _ _)
      | (with_reducible exact confidantref2_Lower.mono _ _ _ _)
      | (with_reducible exact LeO.refl _)
      | (with_reducible exact LeO.none _)
      | (with_reducible refine LeO.ite ?_ ?_)
      | (with_reducible refine LeO.bind ?_ (fun _ => ?_))
      | exact confidantref2_Greatest.mono _ _ _
      | exact confidantref2_Lower.mono _ _ _ _
      | exact LeO.none _
      | refine LeO.ite ?_ ?_
      | refine LeO.bind ?_ (fun _ => ?_)
set_option maxHeartbeats 8000000 in
set_option maxRecDepth 100000 in
theorem confidantref2_Meet.calls (k : Nat) (A0 : Option Addr) (c0 : Nat) (l0 : List (List Bool)) (a1 : Int) (a2 : Int) (r : Int) (w : World) (hr0 : Kd.C (Kd.slice 4 Kd.bool) w A0 l0.length l0) (hc0 : l0.length ≤ c0) (h : confidantref2_Meet.f k l0 a1 a2 = some r) :
    Calls Try.prog 57 #[.slice A0 l0.length c0, .int .i64 a1, .int .i64 a2] w fun e w' => e = .returned (.int .i64 r) ∧ Below w.heap.size w w' := by
  have HR0 := Aside0.mk hr0
  have HC0 := Aside0.mk hc0
  clear hr0 hc0
  have HB := Aside0.mk (Below.refl w.heap.size w)
  have H : ((confidantref2_Lower.f k l0 a1 a2).bind fun t179 => ((confidantref2_Greatest.f k l0 t179).bind fun bt182 => (if bt182.2 = true then (some bt182.1) else (some (-1))))) = some r := h
  clear h
  replace H := Option.bind_eq_some_iff.mp H
  obtain ⟨t179, A40, H⟩ := H
  replace H : ((confidantref2_Greatest.f k l0 t179).bind fun bt182 => (if bt182.2 = true then (some bt182.1) else (some (-1)))) = some r := H
  have A4 := Aside0.mk A40
  clear A40
  replace H := Option.bind_eq_some_iff.mp H
  obtain ⟨⟨t182, t183⟩, A50, H⟩ := H
  replace H : (if t183 = true then (some t182) else (some (-1))) = some r := H
  have A5 := Aside0.mk A50
  clear A50
  by_cases c6 : t183 = true
  · subst c6
    have H1 : (some t182) = some r := by rw [if_pos rfl] at H; exact H
    clear H
    have H := H1
    clear H1
    obtain rfl := Option.some.inj H
    go_enter Try.func57, Try.ntmps57
    go_wp2_with (first | ((with_reducible refine gate_callee (f := 37) rfl ?_); refine goesL_ (some 14) rfl rfl Try.func37 (by kernel_rfl) rfl #[.slice A0 l0.length c0, .int .i64 a1, .int .i64 a2] rfl (by (try simp only [List.map_toArray, List.map_cons, List.map_nil]); first | done | rfl | (simp only [List.length_drop, List.length_take]; rfl)) ?_; (with_reducible refine (confidantref2_Lower.calls k _ _ l0 a1 a2 t179 _ ?side1 ?side2 A4.out).mono ?_); (case side1 => repeat (first | exact HR0.out | (with_reducible refine Kd.C_alloc ?_ _) | (with_reducible refine Kd.C_drewN ?_ _) | (with_reducible refine Kd.C_drew ?_))); (case side2 => exact HC0.out); rintro e w7 ⟨v180, rfl, ho0, hb⟩; refine ⟨_, rfl, ?_⟩; have n0_ := Aside0.mk (Kd.R_lower ho0 (below_size (by repeat (first | (with_reducible first | exact HB.out | apply below_alloc | apply pw_below_drewN | apply below_drew1) | exact HB.out)))); have n1_ := Aside0.mk (below_step (by repeat (first | (with_reducible first | exact HB.out | apply below_alloc | apply pw_below_drewN | apply below_drew1) | exact HB.out)) hb); clear HB; have HO181 := n0_; have HB := n1_; clear n0_ n1_; (try clear hb); (try clear hb2); (try clear hk); (try clear hi); (try clear ho0); obtain ⟨Ao8, co8, eo8⟩ := Kd.R_slice HO181.out; subst eo8) | ((with_reducible refine gate_callee (f := 42) rfl ?_); refine goesL_ (some 15) rfl rfl Try.func42 (by kernel_rfl) rfl #[.slice A0 l0.length c0, .slice Ao8 t179.length co8] rfl (by (try simp only [List.map_toArray, List.map_cons, List.map_nil]); first | done | rfl | (simp only [List.length_drop, List.length_take]; rfl)) ?_; (with_reducible refine (confidantref2_Greatest.calls k _ _ l0 _ _ t179 t182 true _ ?side1 ?side2 ?side3 ?side4 A5.out).mono ?_); (case side1 => repeat (first | exact (Kd.C_below HR0.out HB.out) | (with_reducible refine Kd.C_alloc ?_ _) | (with_reducible refine Kd.C_drewN ?_ _) | (with_reducible refine Kd.C_drew ?_))); (case side2 => exact HC0.out); (case side3 => repeat (first | exact (Kd.R_reads' HO181.out).2.2 | (with_reducible refine Kd.C_alloc ?_ _) | (with_reducible refine Kd.C_drewN ?_ _) | (with_reducible refine Kd.C_drew ?_))); (case side4 => exact (Kd.R_reads' HO181.out).2.1); rintro e w' ⟨rfl, ⟨nd, rfl⟩⟩; refine ⟨_, rfl, ?_⟩))
    go_ret
    exact ⟨by first | rfl | (simp [errW_none, errW_some] <;> rfl) | (simp [*, errW_none, errW_some] <;> rfl), by repeat (first | (with_reducible first | exact HB.out | apply below_alloc | apply pw_below_drewN | apply below_drew1) | exact HB.out)⟩
  · replace c6 := Bool.eq_false_iff.mpr c6
    subst c6
    have H1 : (some (-1)) = some r := by rw [if_neg (show ¬ (false = true) by decide)] at H; exact H
    clear H
    have H := H1
    clear H1
    obtain rfl := Option.some.inj H
    go_enter Try.func57, Try.ntmps57
    go_wp2_with (first | ((with_reducible refine gate_callee (f := 37) rfl ?_); refine goesL_ (some 14) rfl rfl Try.func37 (by kernel_rfl) rfl #[.slice A0 l0.length c0, .int .i64 a1, .int .i64 a2] rfl (by (try simp only [List.map_toArray, List.map_cons, List.map_nil]); first | done | rfl | (simp only [List.length_drop, List.length_take]; rfl)) ?_; (with_reducible refine (confidantref2_Lower.calls k _ _ l0 a1 a2 t179 _ ?side1 ?side2 A4.out).mono ?_); (case side1 => repeat (first | exact HR0.out | (with_reducible refine Kd.C_alloc ?_ _) | (with_reducible refine Kd.C_drewN ?_ _) | (with_reducible refine Kd.C_drew ?_))); (case side2 => exact HC0.out); rintro e w9 ⟨v180, rfl, ho0, hb⟩; refine ⟨_, rfl, ?_⟩; have n0_ := Aside0.mk (Kd.R_lower ho0 (below_size (by repeat (first | (with_reducible first | exact HB.out | apply below_alloc | apply pw_below_drewN | apply below_drew1) | exact HB.out)))); have n1_ := Aside0.mk (below_step (by repeat (first | (with_reducible first | exact HB.out | apply below_alloc | apply pw_below_drewN | apply below_drew1) | exact HB.out)) hb); clear HB; have HO181 := n0_; have HB := n1_; clear n0_ n1_; (try clear hb); (try clear hb2); (try clear hk); (try clear hi); (try clear ho0); obtain ⟨Ao10, co10, eo10⟩ := Kd.R_slice HO181.out; subst eo10) | ((with_reducible refine gate_callee (f := 42) rfl ?_); refine goesL_ (some 15) rfl rfl Try.func42 (by kernel_rfl) rfl #[.slice A0 l0.length c0, .slice Ao10 t179.length co10] rfl (by (try simp only [List.map_toArray, List.map_cons, List.map_nil]); first | done | rfl | (simp only [List.length_drop, List.length_take]; rfl)) ?_; (with_reducible refine (confidantref2_Greatest.calls k _ _ l0 _ _ t179 t182 false _ ?side1 ?side2 ?side3 ?side4 A5.out).mono ?_); (case side1 => repeat (first | exact (Kd.C_below HR0.out HB.out) | (with_reducible refine Kd.C_alloc ?_ _) | (with_reducible refine Kd.C_drewN ?_ _) | (with_reducible refine Kd.C_drew ?_))); (case side2 => exact HC0.out); (case side3 => repeat (first | exact (Kd.R_reads' HO181.out).2.2 | (with_reducible refine Kd.C_alloc ?_ _) | (with_reducible refine Kd.C_drewN ?_ _) | (with_reducible refine Kd.C_drew ?_))); (case side4 => exact (Kd.R_reads' HO181.out).2.1); rintro e w' ⟨rfl, ⟨nd, rfl⟩⟩; refine ⟨_, rfl, ?_⟩))
    go_ret
    exact ⟨by first | rfl | (simp [errW_none, errW_some] <;> rfl) | (simp [*, errW_none, errW_some] <;> rfl), by repeat (first | (with_reducible first | exact HB.out | apply below_alloc | apply pw_below_drewN | apply below_drew1) | exact HB.out)⟩

/-! ### confidantlaw3_LatticeKeeps: function 12 -/
def m3T : List (List Bool) := tabB 5 5 fun a b => if 1 ≤ a ∧ a < 4 ∧ 1 ≤ b ∧ b < 4 then decide (a = b) else decide (a ≤ b)
def seatT (j : Nat) : List (List Bool) := if j = 0 then chainT 2 else if j = 1 then chainT 3 else if j = 2 ∨ j = 3 then powersT 2 else if j = 4 then m3T else powersT 3
theorem seat_small : ∀ k : Fin 256, confidantseat_Lattice.f 400 (k.val : Int) = some (seatT (k.val % 6)) := by decide +kernel
/-- The laws of lattices, at three labels. -/
def lawsAt (n : Nat) (fl fj fm : Nat → Nat → Int) (top bot a b c : Int) : Bool :=
  (latAt n fj b a (-1) == latAt n fj a b (-1)) && ((latAt n fm b a (-1) == latAt n fm a b (-1)) && ((latAt n fj a a (-1) == a) && ((latAt n fm a a (-1) == a) &&
  ((latAt n fj a (latAt n fm a b (-1)) (-1) == a) && ((latAt n fm a (latAt n fj a b (-1)) (-1) == a) &&
  ((latAt n fj a (latAt n fj b c (-1)) (-1) == latAt n fj (latAt n fj a b (-1)) c (-1)) && ((latAt n fm a (latAt n fm b c (-1)) (-1) == latAt n fm (latAt n fm a b (-1)) c (-1)) &&
  (((latAt n fl a b 0 == 1) == (latAt n fj a b (-1) == b)) && (((latAt n fl a b 0 == 1) == (latAt n fm a b (-1) == a)) && ((latAt n fl bot a 0 == 1) && (latAt n fl a top 0 == 1)))))))))))
def lawsB (q : List (List Bool)) : Bool := (List.range q.length).all fun a => (List.range q.length).all fun b => (List.range q.length).all fun c => lawsAt q.length (leqF q) (joinF q) (meetF q) (topF q q.length) (botF q q.length) a b c
theorem seat_lat : ∀ j : Fin 6, latB (seatT j.val) = true ∧ 2 ≤ (seatT j.val).length ∧ (seatT j.val).length ≤ 8 := by decide +kernel
theorem seat_laws : ∀ j : Fin 6, lawsB (seatT j.val) = true := by decide +kernel
theorem lawsB_at (q : List (List Bool)) (h : lawsB q = true) (a b c : Int) (a0 : 0 ≤ a) (a1 : a < (q.length : Int)) (b0 : 0 ≤ b) (b1 : b < (q.length : Int)) (c0 : 0 ≤ c) (c1 : c < (q.length : Int)) : lawsAt q.length (leqF q) (joinF q) (meetF q) (topF q q.length) (botF q q.length) a b c = true := by
  obtain ⟨x, rfl⟩ := Int.eq_ofNat_of_zero_le a0
  obtain ⟨y, rfl⟩ := Int.eq_ofNat_of_zero_le b0
  obtain ⟨z, rfl⟩ := Int.eq_ofNat_of_zero_le c0
  exact List.all_eq_true.1 (List.all_eq_true.1 (List.all_eq_true.1 h x (List.mem_range.2 (by omega))) y (List.mem_range.2 (by omega))) z (List.mem_range.2 (by omega))
theorem laws_open {n : Nat} {fl fj fm : Nat → Nat → Int} {top bot a b c : Int} (h : lawsAt n fl fj fm top bot a b c = true) : ∃ j m k1 k2 k3 k4, latAt n fj a b (-1) = j ∧ latAt n fm a b (-1) = m ∧ latAt n fj b a (-1) = j ∧ latAt n fm b a (-1) = m ∧ latAt n fj a a (-1) = a ∧ latAt n fm a a (-1) = a ∧ latAt n fj a m (-1) = a ∧ latAt n fm a j (-1) = a ∧ latAt n fj j c (-1) = k1 ∧ latAt n fj b c (-1) = k2 ∧ latAt n fj a k2 (-1) = k1 ∧ latAt n fm m c (-1) = k3 ∧ latAt n fm b c (-1) = k4 ∧ latAt n fm a k4 (-1) = k3 ∧ (latAt n fl a b 0 == 1) = (j == b) ∧ (latAt n fl a b 0 == 1) = (m == a) ∧ (latAt n fl bot a 0 == 1) = true ∧ (latAt n fl a top 0 == 1) = true := by
  unfold lawsAt at h
  generalize latAt n fl = FL at *
  generalize latAt n fj = FJ at *
  generalize latAt n fm = FM at *
  rw [Bool.and_eq_true, Bool.and_eq_true, Bool.and_eq_true, Bool.and_eq_true, Bool.and_eq_true, Bool.and_eq_true, Bool.and_eq_true, Bool.and_eq_true, Bool.and_eq_true, Bool.and_eq_true, Bool.and_eq_true] at h
  obtain ⟨e1, e2, e3, e4, e5, e6, e7, e8, e9, e10, e11, e12⟩ := h
  exact ⟨_, _, _, _, _, _, rfl, rfl, eq_of_beq e1, eq_of_beq e2, eq_of_beq e3, eq_of_beq e4, eq_of_beq e5, eq_of_beq e6, rfl, rfl, eq_of_beq e7, rfl, rfl, eq_of_beq e8, eq_of_beq e9, eq_of_beq e10, e11, e12⟩
theorem seat_facts (a : Int) (h0 : 0 ≤ a) (h1 : a < 256) : ∃ q, confidantseat_Lattice.f 400 a = some q ∧ latB q = true ∧ 2 ≤ q.length ∧ q.length ≤ 8 ∧ lawsB q = true := by
  obtain ⟨x, rfl⟩ := Int.eq_ofNat_of_zero_le h0
  have hx : x < 256 := by omega
  have h6 : x % 6 < 6 := Nat.mod_lt _ (by decide)
  have hs := seat_lat ⟨x % 6, h6⟩
  exact ⟨_, seat_small ⟨x, hx⟩, hs.1, hs.2.1, hs.2.2, seat_laws ⟨x % 6, h6⟩⟩
def refB (q : List (List Bool)) : Bool := (List.range q.length).all fun a => (List.range q.length).all fun b => (confidantref2_Join.f 400 q a b == some (latAt q.length (joinF q) a b (-1))) && (confidantref2_Meet.f 400 q a b == some (latAt q.length (meetF q) a b (-1)))
theorem seat_ref : ∀ j : Fin 6, refB (seatT j.val) = true := by decide +kernel
theorem refB_open (q : List (List Bool)) (h : refB q = true) (a b : Nat) (ha : a < q.length) (hb : b < q.length) : confidantref2_Join.f 400 q a b = some (latAt q.length (joinF q) a b (-1)) ∧ confidantref2_Meet.f 400 q a b = some (latAt q.length (meetF q) a b (-1)) := by
  have := List.all_eq_true.1 (List.all_eq_true.1 h a (List.mem_range.2 ha)) b (List.mem_range.2 hb)
  rw [Bool.and_eq_true] at this
  exact ⟨eq_of_beq this.1, eq_of_beq this.2⟩
theorem seat_facts3 (a : Int) (h0 : 0 ≤ a) (h1 : a < 256) : ∃ q, confidantseat_Lattice.f 400 a = some q ∧ latB q = true ∧ 2 ≤ q.length ∧ q.length ≤ 8 ∧ refB q = true := by
  obtain ⟨x, rfl⟩ := Int.eq_ofNat_of_zero_le h0
  have hx : x < 256 := by omega
  have h6 : x % 6 < 6 := Nat.mod_lt _ (by decide)
  have hs := seat_lat ⟨x % 6, h6⟩
  exact ⟨_, seat_small ⟨x, hx⟩, hs.1, hs.2.1, hs.2.2, seat_ref ⟨x % 6, h6⟩⟩
/-- A lattice whose memory lies at or above base. -/
def IsLatS (base : Nat) (W : World) (g n : Nat) (fl fj fm : Nat → Nat → Int) (top bot : Int) : Prop := base ≤ g ∧ ∃ v1 v2 v3 : Value, W.heap[g]? = some (.cells #[v1, v2, v3, .int .i64 top, .int .i64 bot] 78 (0, 0)) ∧
  Kd.S (Kd.slice 3 (Kd.int .i64)) 23 W base (fun _ => True) v1 (tabI n fl) ∧ Kd.S (Kd.slice 3 (Kd.int .i64)) 23 W base (fun _ => True) v2 (tabI n fj) ∧ Kd.S (Kd.slice 3 (Kd.int .i64)) 23 W base (fun _ => True) v3 (tabI n fm)
theorem Tabs2.isLatS {w wr : World} {q : List (List Bool)} {g : Nat} {t b : Int} (h : Tabs2 w wr q g t b) : IsLatS w.heap.size wr g q.length (leqF q) (joinF q) (meetF q) t b := by
  obtain ⟨_, hg, v1, v2, v3, hh, s1, s2, s3⟩ := h
  exact ⟨hg, v1, v2, v3, hh, s1, s2, s3⟩
theorem IsLatS.below {base : Nat} {W W1 : World} {g n : Nat} {fl fj fm : Nat → Nat → Int} {top bot : Int} (h : IsLatS base W g n fl fj fm top bot) (hb : Below W.heap.size W W1) : IsLatS base W1 g n fl fj fm top bot := by
  obtain ⟨hg, v1, v2, v3, hh, s1, s2, s3⟩ := h
  exact ⟨hg, v1, v2, v3, (hb.block g (blk_lt hh)).trans hh, Kd.S_below s1 hb, Kd.S_below s2 hb, Kd.S_below s3 hb⟩
theorem IsLatS.far {base : Nat} {W : World} {g n : Nat} {fl fj fm : Nat → Nat → Int} {top bot : Int} (h : IsLatS base W g n fl fj fm top bot) (p : Addr) (hp : p.block < base) (u : Value) : IsLatS base (W.setCell p u) g n fl fj fm top bot := by
  obtain ⟨hg, v1, v2, v3, hh, s1, s2, s3⟩ := h
  have hne : ∀ k, base ≤ k → k ≠ p.block := fun k hk => by omega
  exact ⟨hg, v1, v2, v3, (Below.heap_setCell W p u g (hne g hg)).trans hh, Kd.S_mono (Kd.S_far (Kd.S_bound s1) (fun k hk => hne k hk.2.1) u) (fun _ _ => trivial), Kd.S_mono (Kd.S_far (Kd.S_bound s2) (fun k hk => hne k hk.2.1) u) (fun _ _ => trivial), Kd.S_mono (Kd.S_far (Kd.S_bound s3) (fun k hk => hne k hk.2.1) u) (fun _ _ => trivial)⟩
theorem IsLatS.isLat {base : Nat} {W : World} {g n : Nat} {fl fj fm : Nat → Nat → Int} {top bot : Int} (h : IsLatS base W g n fl fj fm top bot) : IsLat W g n fl fj fm top bot := by
  obtain ⟨_, v1, v2, v3, hh, s1, s2, s3⟩ := h
  obtain ⟨A1, c1, rfl, h1, k1⟩ := Kd.S_reads s1
  obtain ⟨A2, c2, rfl, h2, k2⟩ := Kd.S_reads s2
  obtain ⟨A3, c3, rfl, h3, k3⟩ := Kd.S_reads s3
  rw [tabI_len] at hh h1 h2 h3 k1 k2 k3
  simp only [tabI_len] at hh
  exact ⟨A1, c1, A2, c2, A3, c3, hh, h1, h2, h3, k1, k2, k3⟩
/-- A table of the call's own: what is read at two places, and where. -/
theorem tab_place {W : World} {base g n cap : Nat} {ok : Nat → Prop} {q : List (List Bool)} (h : Kd.S (Kd.slice 4 Kd.bool) 36 W base ok (.slice (some ⟨g, 0, none⟩) n cap) q) (a b : Int) (h0 : 0 ≤ a) (h1 : a < (n : Int)) (h2 : 0 ≤ b) (h3 : b < ((rd_L1 q a).length : Int)) :
    ∃ (g2 cap2 : Nat), W.cell? ⟨g, a.toNat, none⟩ = some (.slice (some ⟨g2, 0, none⟩) (rd_L1 q a).length cap2) ∧ W.cell? ⟨g2, b.toNat, none⟩ = some (.bool (at2 q a b)) ∧ W.frozen? ⟨g2, b.toNat, none⟩ = false ∧ ok g2 := by
  obtain ⟨oki, c, hc, hM, hcell, hok, hH⟩ := Kd.S_lend h ([] : List Bool) a h0 h1
  obtain ⟨v0, rfl, hR⟩ := hM
  have hR' : Kd.R Kd.bool 4 W base oki v0 (rd_L1 q a) := hR
  clear hR
  obtain ⟨g2, cap2, rfl, hb, hlt, cells, hcells⟩ := Kd.R_form hR' (by omega)
  obtain ⟨_, _, hC⟩ := Kd.R_reads' hR'
  obtain ⟨ad2, hA, hx⟩ := Kd.at_bool hC b h2 h3
  cases hA
  rw [add_plain] at hx
  refine ⟨g2, cap2, ?_, hx, blk_frozen hcells _, (hok g2 (hR'.1 g2 (by simp [Value.ownBlock]))).1⟩
  have := hcell 0 _ rfl
  rw [show a.toNat * Kd.sz (Kd.slice 4 Kd.bool) + 0 = a.toNat from by show a.toNat * 1 + 0 = _; omega] at this
  exact this
set_option maxRecDepth 100000 in
set_option maxHeartbeats 3200000 in
theorem confidantlaw3_LatticeKeeps.calls (a0 a1 a2 : Int) (w : World) (h0 : 0 ≤ a0 ∧ a0 < 256) (h1 : 0 ≤ a1 ∧ a1 < 256) (h2 : 0 ≤ a2 ∧ a2 < 256) : Calls Try.prog 12 #[.int .u8 a0, .int .u8 a1, .int .u8 a2] w fun e w' => e = .returned (.bool true) ∧ Below w.heap.size w w' := by
  obtain ⟨q, hs, hlat, hn2, hn8, href⟩ := seat_facts3 a0 h0.1 h0.2
  obtain ⟨h10, h11⟩ := h1
  obtain ⟨h20, h21⟩ := h2
  have HSEAT := Aside0.mk hs
  have HLAT := Aside0.mk hlat
  have HSQ : Aside0 (sqB q = true) := ⟨by unfold latB at hlat; rw [Bool.and_eq_true] at hlat; exact hlat.1⟩
  have hn0 : (q.length : Int) ≠ 0 := by omega
  have hq4 : q.length < 4611686018427387904 := by omega
  have HB := Aside0.mk (Below.refl w.heap.size w)
  obtain ⟨a, ha⟩ := Int.eq_ofNat_of_zero_le (Int.emod_nonneg a1 hn0)
  have hal : a < q.length := by have := Int.emod_lt_of_pos a1 (show 0 < (q.length : Int) by omega); omega
  obtain ⟨b, hb⟩ := Int.eq_ofNat_of_zero_le (Int.emod_nonneg a2 hn0)
  have hbl : b < q.length := by have := Int.emod_lt_of_pos a2 (show 0 < (q.length : Int) by omega); omega
  have HA := Aside0.mk ha
  have HBB := Aside0.mk hb
  have HREF := Aside0.mk (refB_open q href a b hal hbl)
  have HROW := Aside0.mk (sq_row q HSQ.out (a : Int) (by omega) (by omega))
  clear hs hlat href h0 ha hb
  go_enter Try.func12, Try.ntmps12
  go_wp2_with fail
  refine (lattice_known_calls _).mono ?_
  rintro e w1 ⟨rfl, hB⟩
  have HB2 := Aside0.mk (below_step (by repeat (first | (with_reducible first | exact HB.out | apply below_alloc | apply pw_below_drewN | apply below_drew1) | exact HB.out)) hB)
  clear HB hB
  have HB := HB2
  clear HB2
  have HW0 := Below.size HB.out
  go_wp2_with fail
  refine (confidantseat_Lattice.calls 400 a0 q _ HSEAT.out).mono ?_
  rintro e w2 ⟨v, rfl, hS, hB⟩
  have HB2 := Aside0.mk (below_step (by repeat (first | (with_reducible first | exact HB.out | apply below_alloc | apply pw_below_drewN | apply below_drew1) | exact HB.out)) hB)
  clear HB hB
  have HB := HB2
  clear HB2
  have HS := Aside0.mk hS
  have HW1 := Aside0.mk HW0
  obtain ⟨gq, c, rfl, -⟩ := Kd.S_form hS (by omega)
  have hc := (Kd.S_reads' hS).2.1
  have hC := (Kd.S_reads' hS).2.2
  clear hS
  go_wp2_with fail
  refine (lattice_New_tabs _ c q _ hC hc hq4).mono ?_
  rintro e w3 ⟨hB, h⟩
  rcases h with ⟨hf, -⟩ | ⟨-, g, hg, rfl, hI⟩
  · rw [HLAT.out] at hf; cases hf
  have hI0 := hI.isLatS
  generalize hfl : leqF q = fl at *
  generalize hfj : joinF q = fj at *
  generalize hfm : meetF q = fm at *
  generalize htop : topF q q.length = top at *
  generalize hbot : botF q q.length = bot at *
  generalize hnn : q.length = n at *
  have HI := Aside0.mk hI0
  have HT := Aside0.mk (Kd.S_below (Kd.S_mono (ok' := fun k => w1.heap.size ≤ k ∧ k < w2.heap.size) (Kd.S_bound HS.out) (fun k hk => ⟨hk.2.1, hk.2.2.1⟩)) hB)
  have HB2 := Aside0.mk (below_step (by repeat (first | (with_reducible first | exact HB.out | apply below_alloc | apply pw_below_drewN | apply below_drew1) | exact HB.out)) hB)
  clear HB hB hI hI0 hC hc hg hq4
  have HB := HB2
  clear HB2
  obtain ⟨j, hj⟩ : ∃ j, latAt n fj (a : Int) (b : Int) (-1) = j := ⟨_, rfl⟩
  obtain ⟨m, hm⟩ : ∃ m, latAt n fm (a : Int) (b : Int) (-1) = m := ⟨_, rfl⟩
  have HRJ := Aside0.mk (HREF.out.1.trans (congrArg some hj))
  have HRM := Aside0.mk (HREF.out.2.trans (congrArg some hm))
  have EJ := Aside0.mk hj
  have EM := Aside0.mk hm
  clear HREF hj hm
  clear hfl hfj hfm htop hbot HLAT HS hnn
  go_upto_region 7 with (fail)
  go_cut [10, 11] (fun v10 v11 wc => v10 = .int .i64 (a : Int) ∧ v11 = .int .i64 (b : Int) ∧ Aside0 (Below w.heap.size w wc) ∧ Aside0 (IsLatS w2.heap.size wc g n fl fj fm top bot) ∧ Aside0 (Kd.S (Kd.slice 4 Kd.bool) 36 wc w1.heap.size (fun k => w1.heap.size ≤ k ∧ k < w2.heap.size) (.slice (some ⟨gq, 0, none⟩) n c) q))
  case first =>
    go_quiet (fail)
    all_goals (try go_wp2)
    all_goals go_meet
    all_goals exact ⟨by rw [HA.out], by rw [HBB.out], ⟨(by repeat (first | (with_reducible first | exact HB.out | apply below_alloc | apply pw_below_drewN | apply below_drew1) | exact HB.out))⟩, ⟨HI.out.below (by repeat (first | exact Below.refl _ _ | apply below_alloc | apply pw_below_drewN | apply below_drew1))⟩, ⟨Kd.S_below HT.out (by repeat (first | exact Below.refl _ _ | apply below_alloc | apply pw_below_drewN | apply below_drew1))⟩⟩
  case rest =>
    clear HI HB HT
    obtain ⟨rfl, rfl, HB, HI, HT⟩ := hcut
    obtain ⟨f0, hf0⟩ : ∃ f0, (latAt n fl (a : Int) (b : Int) 0 == 1) = f0 := ⟨_, rfl⟩
    have E1 := Aside0.mk hf0
    clear hf0
    go_wp2_with fail
    refine (lattice_Flows_calls g n fl fj fm top bot a b _ (HI.out.below (by repeat (first | exact Below.refl _ _ | apply below_alloc | apply pw_below_drewN | apply below_drew1))).isLat).mono ?_
    rw [E1.out]
    rintro e w' ⟨rfl, ⟨nd, rfl⟩⟩
    obtain ⟨g2, cap2, hx, hx2, hz, hge, hgl2⟩ := tab_place HT.out (a : Int) (b : Int) (by omega) (by omega) (by omega) (by rw [HROW.out]; omega)
    rw [HROW.out] at hx
    simp only [Int.toNat_natCast] at hx hx2 hz
    obtain ⟨u0, hu0⟩ : ∃ u0, at2 q (a : Int) (b : Int) = u0 := ⟨_, rfl⟩
    rw [hu0] at hx2
    have HFAR : Aside0 (∀ k : Nat, IsLatS w2.heap.size ((wc.drewN k).setCell ⟨g2, b, none⟩ (.bool (!u0))) g n fl fj fm top bot) := ⟨fun k => (HI.out.below (by repeat (first | exact Below.refl _ _ | apply below_alloc | apply pw_below_drewN | apply below_drew1))).far ⟨g2, b, none⟩ hgl2 (.bool (!u0))⟩
    have HBF : Aside0 (∀ k : Nat, Below w.heap.size w ((wc.drewN k).setCell ⟨g2, b, none⟩ (.bool (!u0)))) := ⟨fun k => below_set (by repeat (first | (with_reducible first | exact HB.out | apply below_alloc | apply pw_below_drewN | apply below_drew1) | exact HB.out)) (Nat.le_trans HW1.out hge)⟩
    clear HT HI HB hu0
    go_upto_region 9 with (fail)
    go_cut [12] (fun v12 wc => v12 = .bool f0 ∧ Aside0 (Below w.heap.size w wc) ∧ Aside0 (IsLat wc g n fl fj fm top bot))
    case first =>
      go_region
      all_goals
        go_wp2
        go_meet
        case rel => exact ⟨rfl, ⟨by repeat (first | exact HBF.out _ | apply below_alloc | apply pw_below_drewN | apply below_drew1)⟩, ⟨(HFAR.out _).isLat.below (by repeat (first | exact Below.refl _ _ | apply below_alloc | apply pw_below_drewN | apply below_drew1))⟩⟩
    case rest =>
      clear HFAR HBF hx hx2 hz
      obtain ⟨rfl, HB, HI⟩ := hcut
      go_wp2_with fail
      refine (confidantseat_Lattice.calls 400 a0 q _ HSEAT.out).mono ?_
      rintro e w8 ⟨v, rfl, hS, hB⟩
      have HI2 := Aside0.mk (HI.out.below (below_step (by repeat (first | exact Below.refl _ _ | apply below_alloc | apply pw_below_drewN | apply below_drew1)) hB))
      have HB2 := Aside0.mk (below_step (by repeat (first | (with_reducible first | exact HB.out | apply below_alloc | apply pw_below_drewN | apply below_drew1) | exact HB.out)) hB)
      clear HI HB hB
      have HI := HI2
      have HB := HB2
      clear HI2 HB2
      obtain ⟨Ap, cp, rfl, hcp, hCp⟩ := Kd.S_reads hS
      have HCP := Aside0.mk hCp
      clear hS hCp
      go_wp2_with fail
      refine (lattice_Flows_calls g n fl fj fm top bot a b _ (HI.out.below (by repeat (first | exact Below.refl _ _ | apply below_alloc | apply pw_below_drewN | apply below_drew1)))).mono ?_
      rw [E1.out]
      rintro e w' ⟨rfl, ⟨nd, rfl⟩⟩
      go_wp2_with fail
      refine (lattice_Join_calls g n fl fj fm top bot a b _ (HI.out.below (by repeat (first | exact Below.refl _ _ | apply below_alloc | apply pw_below_drewN | apply below_drew1)))).mono ?_
      rw [EJ.out]
      rintro e w' ⟨rfl, ⟨nd, rfl⟩⟩
      go_wp2_with fail
      refine (confidantref2_Join.calls 400 Ap cp q (a : Int) (b : Int) j _ (Kd.C_below HCP.out (by repeat (first | exact Below.refl _ _ | apply below_alloc | apply pw_below_drewN | apply below_drew1))) hcp HRJ.out).mono ?_
      rintro e w9 ⟨rfl, hB⟩
      have HCP2 := Aside0.mk (Kd.C_below HCP.out (below_step (by repeat (first | exact Below.refl _ _ | apply below_alloc | apply pw_below_drewN | apply below_drew1)) hB))
      clear HCP
      have HI2 := Aside0.mk (HI.out.below (below_step (by repeat (first | exact Below.refl _ _ | apply below_alloc | apply pw_below_drewN | apply below_drew1)) hB))
      have HB2 := Aside0.mk (below_step (by repeat (first | (with_reducible first | exact HB.out | apply below_alloc | apply pw_below_drewN | apply below_drew1) | exact HB.out)) hB)
      clear HI HB hB
      have HI := HI2
      have HB := HB2
      clear HI2 HB2
      go_wp2_with fail
      refine (lattice_Meet_calls g n fl fj fm top bot a b _ (HI.out.below (by repeat (first | exact Below.refl _ _ | apply below_alloc | apply pw_below_drewN | apply below_drew1)))).mono ?_
      rw [EM.out]
      rintro e w' ⟨rfl, ⟨nd, rfl⟩⟩
      go_wp2_with fail
      refine (confidantref2_Meet.calls 400 Ap cp q (a : Int) (b : Int) m _ (Kd.C_below HCP2.out (by repeat (first | exact Below.refl _ _ | apply below_alloc | apply pw_below_drewN | apply below_drew1))) hcp HRM.out).mono ?_
      rintro e w10 ⟨rfl, hB⟩
      have HI2 := Aside0.mk (HI.out.below (below_step (by repeat (first | exact Below.refl _ _ | apply below_alloc | apply pw_below_drewN | apply below_drew1)) hB))
      have HB2 := Aside0.mk (below_step (by repeat (first | (with_reducible first | exact HB.out | apply below_alloc | apply pw_below_drewN | apply below_drew1) | exact HB.out)) hB)
      clear HI HB hB
      have HI := HI2
      have HB := HB2
      clear HI2 HB2
      go_wp2
      go_ret
      exact ⟨rfl, (by repeat (first | (with_reducible first | exact HB.out | apply below_alloc | apply pw_below_drewN | apply below_drew1) | exact HB.out))⟩
/-- What is owed of plain data: nothing. -/
def confidantlaw3_LatticeKeeps.Pure : Prop := True
theorem lat_u8 {a : Int} (h : (Lit.int .u8 a).wf = true) : 0 ≤ a ∧ a < 256 := by
  have h1 : IntKind.u8.min = 0 := rfl
  have h2 : IntKind.u8.max = 255 := rfl
  simp [Lit.wf] at h; omega
theorem confidantlaw3_LatticeKeeps.walk (_ : confidantlaw3_LatticeKeeps.Pure) (a0 a1 a2 : Int) (w : World) (w0 : (Lit.int .u8 a0).wf = true) (w1 : (Lit.int .u8 a1).wf = true) (w2 : (Lit.int .u8 a2).wf = true) :
    Calls Try.prog 12 #[.int .u8 a0, .int .u8 a1, .int .u8 a2] w fun e w' => e = .returned (.bool true) ∧ Below w.heap.size w w' :=
  confidantlaw3_LatticeKeeps.calls a0 a1 a2 w (lat_u8 w0) (lat_u8 w1) (lat_u8 w2)

end Go.Proofs.Ytpeeneaapmmciaa.PLkeeps
