-- Printed by wip/tools/oprint.py, a program of this session.
import Derived.Test.YtpeeneaapmmciaaPOtellsx0
namespace Go.Proofs.Ytpeeneaapmmciaa.POtells
open Go.RowKit Go.Proofs.YtpeeneaapmmciaaW.PrintWords Go.Proofs.YtpeeneaapmmciaaW.PrintLast Go.Proofs.YtpeeneaapmmciaaW.PrintMore
attribute [local go_sem] max2_int min2_int max_two min_two max_three min_three max_four min_four   -- for this text's walks alone
set_option linter.unusedVariables false
set_option linter.unusedSimpArgs false

/-! ### confidanthelp_Ints: function 20 -/
def confidanthelp_Ints.l0 : Nat → List Int → List Int → Int → Option (Bool)
  | 0, _, _, _ => none
  | k + 1, x0, x1, x5 => if x5 < (x0.length : Int) then (if 0 ≤ x5 then (if x5 < (x1.length : Int) then (if (rd x0 x5) = (rd x1 x5) then (confidanthelp_Ints.l0 k x0 x1 (wrap64 (x5 + 1))) else (some false)) else (none)) else (none)) else (some true)
def confidanthelp_Ints.f (k : Nat) (l0 : List Int) (l1 : List Int) : Option (Bool) := if (l0.length : Int) = (l1.length : Int) then (confidanthelp_Ints.l0 k l0 l1 0) else (some false)
theorem confidanthelp_Ints.mono_l : ∀ k, (∀ y0 y1 y2, LeO (confidanthelp_Ints.l0 k y0 y1 y2) (confidanthelp_Ints.l0 (k + 1) y0 y1 y2))
  | 0 => fun _ _ _ r h => by simp [confidanthelp_Ints.l0] at h
  | k + 1 => by
    have ih0 := confidanthelp_Ints.mono_l k
    · intro y0 y1 y2
      unfold confidanthelp_Ints.l0
      repeat' first
      | (with_reducible exact ih0 _ _ _)
      | (with_reducible exact LeO.refl _)
      | (with_reducible exact LeO.none _)
      | (with_reducible refine LeO.ite ?_ ?_)
      | (with_reducible refine LeO.bind ?_ (fun _ => ?_))
      | exact ih0 _ _ _
      | exact LeO.none _
      | refine LeO.ite ?_ ?_
      | refine LeO.bind ?_ (fun _ => ?_)
theorem confidanthelp_Ints.mono : ∀ a0 a1 k, LeO (confidanthelp_Ints.f k a0 a1) (confidanthelp_Ints.f (k + 1) a0 a1) := by
  intro a0 a1 k
  have ih0 := confidanthelp_Ints.mono_l k
  unfold confidanthelp_Ints.f
  repeat' first
      | (with_reducible exact ih0 _ _ _)
      | (with_reducible exact LeO.refl _)
      | (with_reducible exact LeO.none _)
      | (with_reducible refine LeO.ite ?_ ?_)
      | (with_reducible refine LeO.bind ?_ (fun _ => ?_))
      | exact ih0 _ _ _
      | exact LeO.none _
      | refine LeO.ite ?_ ?_
      | refine LeO.bind ?_ (fun _ => ?_)
set_option maxHeartbeats 8000000 in
set_option maxRecDepth 100000 in
theorem confidanthelp_Ints.calls (k : Nat) (A0 : Option Addr) (c0 : Nat) (l0 : List Int) (A1 : Option Addr) (c1 : Nat) (l1 : List Int) (r : Bool) (w : World) (hr0 : Kd.C (Kd.int .i64) w A0 l0.length l0) (hc0 : l0.length ≤ c0) (hr1 : Kd.C (Kd.int .i64) w A1 l1.length l1) (hc1 : l1.length ≤ c1) (h : confidanthelp_Ints.f k l0 l1 = some r) :
    Calls Try.prog 20 #[.slice A0 l0.length c0, .slice A1 l1.length c1] w fun e w' => e = .returned (.bool r) ∧ Drawn0 w w' := by
  have HR0 := Aside0.mk hr0
  have HC0 := Aside0.mk hc0
  clear hr0 hc0
  have HR1 := Aside0.mk hr1
  have HC1 := Aside0.mk hc1
  clear hr1 hc1
  have H : (if (l0.length : Int) = (l1.length : Int) then (confidanthelp_Ints.l0 k l0 l1 0) else (some false)) = some r := h
  clear h
  by_cases c3 : (l0.length : Int) = (l1.length : Int)
  · rw [if_pos c3] at H
    have c3b0 : ((l0.length : Int) == (l1.length : Int)) = true := beq_iff_eq.mpr c3
    have c3b1 : ((l0.length : Int) != (l1.length : Int)) = false := bne_eq_false_iff_eq.mpr c3
    have c3b2 : (l0.length == l1.length) = true := by first | simpa using c3 | (simp at c3 ⊢; omega)
    clear c3
    have H' := Aside0.mk H
    clear H
    go_enter Try.func20, Try.ntmps20
    go_wp2
    repeat (go_quiet (fail); try go_wp2)
    go_loopg [5] k (fun kq v5 w' => ∃ (x5_1 : Int), v5 = .int .i64 x5_1 ∧ Aside0 (confidanthelp_Ints.l0 kq l0 l1 x5_1 = some r) ∧ Aside0 (kq ≤ k) ∧ Drawn0 w w')
    case atStart => exact ⟨(0), (by first | rfl | (simp; done) | (simp [*]; done)), H', ⟨Nat.le_refl _⟩, by repeat (first | exact Drawn0.refl _ | apply Drawn0.step)⟩
    case round =>
      clear H'
      try clear c1
      try clear c2
      try clear p2
      try clear c3
      try clear c3b0
      try clear c3b1
      try clear c3b2
      obtain ⟨x5_1, rfl, HA, HK1, ⟨m1, rfl⟩⟩ := hrel
      cases gk with
      | zero => exact absurd HA.out (by simp [confidanthelp_Ints.l0])
      | succ k1 =>
        have H := HA.out
        clear HA
        simp only [confidanthelp_Ints.l0] at H
        by_cases c4 : x5_1 < (l0.length : Int)
        · rw [if_pos c4] at H
          have c4b0 : decide (x5_1 < (l0.length : Int)) = true := decide_eq_true c4
          clear c4
          by_cases c5 : 0 ≤ x5_1
          · rw [if_pos c5] at H
            have c5b0 : decide (0 ≤ x5_1) = true := decide_eq_true c5
            clear c5
            by_cases c6 : x5_1 < (l1.length : Int)
            · rw [if_pos c6] at H
              have c6b0 : decide (x5_1 < (l1.length : Int)) = true := decide_eq_true c6
              clear c6
              by_cases c7 : (rd l0 x5_1) = (rd l1 x5_1)
              · rw [if_pos c7] at H
                have c7b0 : ((rd l0 x5_1) == (rd l1 x5_1)) = true := beq_iff_eq.mpr c7
                have c7b1 : ((rd l0 x5_1) != (rd l1 x5_1)) = false := bne_eq_false_iff_eq.mpr c7
                clear c7
                have H' := Aside0.mk H
                clear H
                have p101 : 0 ≤ (x5_1 : Int) := of_decide_eq_true (by first | (with_reducible assumption) | assumption)
                have q101 : x5_1 < (l0.length : Int) := of_decide_eq_true (by first | (with_reducible assumption) | assumption)
                obtain ⟨ad101, e101, hx101_0⟩ := Kd.at_int HR0.out x5_1 p101 q101
                cases e101
                replace p101 := eq_true p101
                replace q101 := eq_true q101
                have p102 : 0 ≤ (x5_1 : Int) := of_decide_eq_true (by first | (with_reducible assumption) | assumption)
                have q102 : x5_1 < (l1.length : Int) := of_decide_eq_true (by first | (with_reducible assumption) | assumption)
                obtain ⟨ad102, e102, hx102_0⟩ := Kd.at_int HR1.out x5_1 p102 q102
                cases e102
                replace p102 := eq_true p102
                replace q102 := eq_true q102
                go_wp2
                repeat (go_quiet (fail); try go_wp2)
                go_roundg k1
                case measure => have := HK1.out; omega
                case rel => exact ⟨(wrap64 (x5_1 + 1)), (by first | rfl | (simp; done) | (simp [*]; done)), H', ⟨by have := HK1.out; omega⟩, by repeat (first | exact Drawn0.refl _ | apply Drawn0.step)⟩
              · rw [if_neg c7] at H
                have c7b0 : ((rd l0 x5_1) == (rd l1 x5_1)) = false := beq_eq_false_iff_ne.mpr c7
                have c7b1 : ((rd l0 x5_1) != (rd l1 x5_1)) = true := bne_iff_ne.mpr c7
                obtain rfl := Option.some.inj H
                have p101 : 0 ≤ (x5_1 : Int) := of_decide_eq_true (by first | (with_reducible assumption) | assumption)
                have q101 : x5_1 < (l0.length : Int) := of_decide_eq_true (by first | (with_reducible assumption) | assumption)
                obtain ⟨ad101, e101, hx101_0⟩ := Kd.at_int HR0.out x5_1 p101 q101
                cases e101
                replace p101 := eq_true p101
                replace q101 := eq_true q101
                have p102 : 0 ≤ (x5_1 : Int) := of_decide_eq_true (by first | (with_reducible assumption) | assumption)
                have q102 : x5_1 < (l1.length : Int) := of_decide_eq_true (by first | (with_reducible assumption) | assumption)
                obtain ⟨ad102, e102, hx102_0⟩ := Kd.at_int HR1.out x5_1 p102 q102
                cases e102
                replace p102 := eq_true p102
                replace q102 := eq_true q102
                go_wp2
                repeat (go_quiet (fail); try go_wp2)
                go_ret
                exact ⟨by first | rfl | (simp; done) | (simp [*]; done), by repeat (first | exact Drawn0.refl _ | apply Drawn0.step)⟩
            · rw [if_neg c6] at H
              exact absurd H (by simp)
          · rw [if_neg c5] at H
            exact absurd H (by simp)
        · rw [if_neg c4] at H
          have c4b0 : decide (x5_1 < (l0.length : Int)) = false := decide_eq_false c4
          clear c4
          obtain rfl := Option.some.inj H
          go_wp2
          repeat (go_quiet (fail); try go_wp2)
          go_ret
          exact ⟨by first | rfl | (simp; done) | (simp [*]; done), by repeat (first | exact Drawn0.refl _ | apply Drawn0.step)⟩
  · rw [if_neg c3] at H
    have c3b0 : ((l0.length : Int) == (l1.length : Int)) = false := beq_eq_false_iff_ne.mpr c3
    have c3b1 : ((l0.length : Int) != (l1.length : Int)) = true := bne_iff_ne.mpr c3
    have c3b2 : (l0.length == l1.length) = false := by first | simpa using c3 | (simp at c3 ⊢; omega)
    obtain rfl := Option.some.inj H
    go_enter Try.func20, Try.ntmps20
    go_wp2
    repeat (go_quiet (fail); try go_wp2)
    go_ret
    exact ⟨by first | rfl | (simp; done) | (simp [*]; done), by repeat (first | exact Drawn0.refl _ | apply Drawn0.step)⟩

/-! ### order_Square: function 26 -/
def order_Square.l0 : Nat → List (List Bool) → List (List Bool) → Int → Int → Option (Bool)
  | 0, _, _, _, _ => none
  | k + 1, x0, x5, x6, x7 => if x7 < x6 then (if 0 ≤ x7 then (if x7 < (x5.length : Int) then (if ((rd_L2 x5 x7).length : Int) = (x0.length : Int) then (order_Square.l0 k x0 x5 x6 (wrap64 (x7 + 1))) else (some false)) else (none)) else (none)) else (if (x0.length : Int) ≥ 1 then (some (decide ((x0.length : Int) ≤ 16))) else (some false))
def order_Square.f (k : Nat) (l0 : List (List Bool)) : Option (Bool) := order_Square.l0 k l0 l0 (l0.length : Int) 0
theorem order_Square.mono_l : ∀ k, (∀ y0 y1 y2 y3, LeO (order_Square.l0 k y0 y1 y2 y3) (order_Square.l0 (k + 1) y0 y1 y2 y3))
  | 0 => fun _ _ _ _ r h => by simp [order_Square.l0] at h
  | k + 1 => by
    have ih0 := order_Square.mono_l k
    · intro y0 y1 y2 y3
      unfold order_Square.l0
      repeat' first
      | (with_reducible exact ih0 _ _ _ _)
      | (with_reducible exact LeO.refl _)
      | (with_reducible exact LeO.none _)
      | (with_reducible refine LeO.ite ?_ ?_)
      | (with_reducible refine LeO.bind ?_ (fun _ => ?_))
      | exact ih0 _ _ _ _
      | exact LeO.none _
      | refine LeO.ite ?_ ?_
      | refine LeO.bind ?_ (fun _ => ?_)
theorem order_Square.mono : ∀ a0 k, LeO (order_Square.f k a0) (order_Square.f (k + 1) a0) := by
  intro a0 k
  have ih0 := order_Square.mono_l k
  unfold order_Square.f
  repeat' first
      | (with_reducible exact ih0 _ _ _ _)
      | (with_reducible exact LeO.refl _)
      | (with_reducible exact LeO.none _)
      | (with_reducible refine LeO.ite ?_ ?_)
      | (with_reducible refine LeO.bind ?_ (fun _ => ?_))
      | exact ih0 _ _ _ _
      | exact LeO.none _
      | refine LeO.ite ?_ ?_
      | refine LeO.bind ?_ (fun _ => ?_)
set_option maxHeartbeats 8000000 in
set_option maxRecDepth 100000 in
theorem order_Square.calls (k : Nat) (A0 : Option Addr) (c0 : Nat) (l0 : List (List Bool)) (r : Bool) (w : World) (hr0 : Kd.C (Kd.slice 4 Kd.bool) w A0 l0.length l0) (hc0 : l0.length ≤ c0) (h : order_Square.f k l0 = some r) :
    Calls Try.prog 26 #[.slice A0 l0.length c0] w fun e w' => e = .returned (.bool r) ∧ Drawn0 w w' := by
  have HR0 := Aside0.mk hr0
  have HC0 := Aside0.mk hc0
  clear hr0 hc0
  have H : (order_Square.l0 k l0 l0 (l0.length : Int) 0) = some r := h
  clear h
  have H' := Aside0.mk H
  clear H
  go_enter Try.func26, Try.ntmps26
  go_wp2
  go_loopg [7] k (fun kq v7 w' => ∃ (x7_1 : Int), v7 = .int .i64 x7_1 ∧ Aside0 (order_Square.l0 kq l0 l0 (l0.length : Int) x7_1 = some r) ∧ Aside0 (kq ≤ k) ∧ Drawn0 w w')
  case atStart => exact ⟨(0), (by first | rfl | (simp; done) | (simp [*]; done)), H', ⟨Nat.le_refl _⟩, by repeat (first | exact Drawn0.refl _ | apply Drawn0.step)⟩
  case round =>
    clear H'
    obtain ⟨x7_1, rfl, HA, HK1, ⟨m1, rfl⟩⟩ := hrel
    cases gk with
    | zero => exact absurd HA.out (by simp [order_Square.l0])
    | succ k1 =>
      have H := HA.out
      clear HA
      simp only [order_Square.l0] at H
      by_cases c2 : x7_1 < (l0.length : Int)
      · rw [if_pos c2] at H
        have c2b0 : decide (x7_1 < (l0.length : Int)) = true := decide_eq_true c2
        clear c2
        by_cases c3 : 0 ≤ x7_1
        · rw [if_pos c3] at H
          have c3b0 : decide (0 ≤ x7_1) = true := decide_eq_true c3
          clear c3
          by_cases c4 : x7_1 < (l0.length : Int)
          · rw [if_pos c4] at H
            have c4b0 : decide (x7_1 < (l0.length : Int)) = true := decide_eq_true c4
            clear c4
            by_cases c5 : ((rd_L2 l0 x7_1).length : Int) = (l0.length : Int)
            · rw [if_pos c5] at H
              have c5b0 : (((rd_L2 l0 x7_1).length : Int) == (l0.length : Int)) = true := beq_iff_eq.mpr c5
              have c5b1 : (((rd_L2 l0 x7_1).length : Int) != (l0.length : Int)) = false := bne_eq_false_iff_eq.mpr c5
              have c5b2 : ((rd_L2 l0 x7_1).length == l0.length) = true := by first | simpa using c5 | (simp at c5 ⊢; omega)
              clear c5
              have H' := Aside0.mk H
              clear H
              have p103 : 0 ≤ (x7_1 : Int) := of_decide_eq_true (by first | (with_reducible assumption) | assumption)
              have q103 : x7_1 < (l0.length : Int) := of_decide_eq_true (by first | (with_reducible assumption) | assumption)
              obtain ⟨ad103, A103_0, c103_0, e103, hx103_0, hl103_0, hi103_0⟩ := at_L2 HR0.out x7_1 p103 q103
              cases e103
              have HR103_0 := Aside0.mk hi103_0
              have HC103_0 := Aside0.mk hl103_0
              clear hi103_0 hl103_0
              replace p103 := eq_true p103
              replace q103 := eq_true q103
              go_wp2
              go_roundg k1
              case measure => have := HK1.out; omega
              case rel => exact ⟨(wrap64 (x7_1 + 1)), (by first | rfl | (simp; done) | (simp [*]; done)), H', ⟨by have := HK1.out; omega⟩, by repeat (first | exact Drawn0.refl _ | apply Drawn0.step)⟩
            · rw [if_neg c5] at H
              have c5b0 : (((rd_L2 l0 x7_1).length : Int) == (l0.length : Int)) = false := beq_eq_false_iff_ne.mpr c5
              have c5b1 : (((rd_L2 l0 x7_1).length : Int) != (l0.length : Int)) = true := bne_iff_ne.mpr c5
              have c5b2 : ((rd_L2 l0 x7_1).length == l0.length) = false := by first | simpa using c5 | (simp at c5 ⊢; omega)
              obtain rfl := Option.some.inj H
              have p103 : 0 ≤ (x7_1 : Int) := of_decide_eq_true (by first | (with_reducible assumption) | assumption)
              have q103 : x7_1 < (l0.length : Int) := of_decide_eq_true (by first | (with_reducible assumption) | assumption)
              obtain ⟨ad103, A103_0, c103_0, e103, hx103_0, hl103_0, hi103_0⟩ := at_L2 HR0.out x7_1 p103 q103
              cases e103
              have HR103_0 := Aside0.mk hi103_0
              have HC103_0 := Aside0.mk hl103_0
              clear hi103_0 hl103_0
              replace p103 := eq_true p103
              replace q103 := eq_true q103
              go_wp2
              go_ret
              exact ⟨by first | rfl | (simp; done) | (simp [*]; done), by repeat (first | exact Drawn0.refl _ | apply Drawn0.step)⟩
          · rw [if_neg c4] at H
            exact absurd H (by simp)
        · rw [if_neg c3] at H
          exact absurd H (by simp)
      · rw [if_neg c2] at H
        have c2b0 : decide (x7_1 < (l0.length : Int)) = false := decide_eq_false c2
        clear c2
        by_cases c6 : (l0.length : Int) ≥ 1
        · rw [if_pos c6] at H
          have c6b0 : decide (1 ≤ (l0.length : Int)) = true := decide_eq_true c6
          have c6b1 : decide (1 ≤ l0.length) = true := decide_eq_true (by omega)
          clear c6
          obtain rfl := Option.some.inj H
          go_wp2
          go_ret
          exact ⟨by first | rfl | (simp; done) | (simp [*]; done), by repeat (first | exact Drawn0.refl _ | apply Drawn0.step)⟩
        · rw [if_neg c6] at H
          have c6b0 : decide (1 ≤ (l0.length : Int)) = false := decide_eq_false c6
          have c6b1 : decide (1 ≤ l0.length) = false := decide_eq_false (by omega)
          clear c6
          obtain rfl := Option.some.inj H
          go_wp2
          go_ret
          exact ⟨by first | rfl | (simp; done) | (simp [*]; done), by repeat (first | exact Drawn0.refl _ | apply Drawn0.step)⟩

/-! ### order_all: function 65 -/
/-- The function's body is there: a call enters it. -/
def Enters (fid : Nat) : Prop := ∀ (args : Array Value) (w : World), (callFunc fid args).run Try.prog w = .ok (.enter fid args) w
theorem enters_of {fid : Nat} {fn : Func} (hf : Try.prog.funcs[fid]? = some fn) (hname : (fn.name == "runtime.NumGoroutine") = false) (hb : fn.body.isNone = false) : Enters fid := fun args w => by
  simp only [beq_eq_false_iff_ne, ne_eq] at hname
  simp [callFunc, go_sem, hf, hname]
  intro h; rw [h] at hb; cases hb
/-- A function value that answers of two numbers in p as g does, in every world that came of w and kept what was there. -/
def Says2 (w : World) (fid : Nat) (caps : Array Value) (p : Int → Prop) (g : Int → Int → Bool) : Prop :=
  ∀ (a b : Int) (w' : World), Below w.heap.size w w' → p a → p b → Calls Try.prog fid (#[.int .i64 a, .int .i64 b] ++ caps) w' fun e w'' => e = .returned (.bool (g a b)) ∧ Drawn0 w' w''
def inB (n : Nat) (a : Int) : Prop := 0 ≤ a ∧ a < (n : Int)
/-- Is it a table? -/
def sqB (q : List (List Bool)) : Bool := decide (1 ≤ q.length) && (decide (q.length ≤ 16) && q.all (fun r => decide (r.length = q.length)))
def at2 (q : List (List Bool)) (a b : Int) : Bool := rdOf false (rd_L2 q a) b
def allB (n : Nat) (g : Int → Int → Bool) : Bool := (List.range n).all fun x => (List.range n).all fun y => g (x : Int) (y : Int)
theorem sq_row (q : List (List Bool)) (h : sqB q = true) (a : Int) (h0 : 0 ≤ a) (h1 : a < (q.length : Int)) : (rd_L2 q a).length = q.length := by
  unfold sqB at h
  simp only [Bool.and_eq_true, List.all_eq_true, decide_eq_true_eq] at h
  obtain ⟨_, _, h⟩ := h
  unfold rd_L2
  have hlt : a.toNat < q.length := by omega
  rw [List.getD_eq_getElem?_getD, List.getElem?_eq_getElem hlt]
  exact h _ (List.getElem_mem hlt)
theorem sq_len (q : List (List Bool)) (h : sqB q = true) : q.length ≤ 16 := by
  unfold sqB at h
  simp only [Bool.and_eq_true, List.all_eq_true, decide_eq_true_eq] at h
  exact h.2.1
theorem sq_l0 (q : List (List Bool)) (hq : q.length < 4611686018427387904) (d : Nat) : ∀ (k i : Nat), i + d = q.length → d < k →
    order_Square.l0 k q q (q.length : Int) i = some ((q.drop i).all (fun r => decide (r.length = q.length)) && (decide (1 ≤ q.length) && decide (q.length ≤ 16))) := by
  induction d with
  | zero =>
    intro k i hi hk
    obtain ⟨k, rfl⟩ : ∃ m, k = m + 1 := ⟨k - 1, by omega⟩
    simp only [order_Square.l0]
    rw [if_neg (by omega), List.drop_of_length_le (by omega), List.all_nil, Bool.true_and]
    by_cases h1 : 1 ≤ q.length
    · rw [if_pos (by omega)]; simp [h1]; try omega
    · rw [if_neg (by omega)]; simp [h1]
  | succ d ih =>
    intro k i hi hk
    obtain ⟨k, rfl⟩ : ∃ m, k = m + 1 := ⟨k - 1, by omega⟩
    have hlt : i < q.length := by omega
    have hr : rd_L2 q (i : Int) = q[i] := by unfold rd_L2; simp [hlt]
    have hd : q.drop i = q[i] :: q.drop (i + 1) := List.drop_eq_getElem_cons hlt
    simp only [order_Square.l0]
    rw [if_pos (by omega), if_pos (by omega), if_pos (by omega), hr, hd, List.all_cons]
    have ew : wrap64 ((i : Int) + 1) = ((i + 1 : Nat) : Int) := by unfold wrap64; omega
    by_cases h : q[i].length = q.length
    · rw [if_pos (by omega), ew, ih k (i + 1) (by omega) (by omega)]; simp [h]
    · rw [if_neg (by omega)]; simp [h]
theorem sq_eq (q : List (List Bool)) (hq : q.length < 4611686018427387904) (k : Nat) (hk : q.length < k) : order_Square.f k q = some (sqB q) := by
  have := sq_l0 q hq q.length k 0 (by omega) hk
  rw [List.drop_zero] at this
  unfold order_Square.f
  refine this.trans ?_
  unfold sqB
  rw [Bool.and_comm, Bool.and_assoc]
theorem ctr_in {n a : Nat} (h : a < n) : inB n (a : Int) := ⟨by omega, by omega⟩
set_option maxHeartbeats 400000 in
theorem order_all_calls (A : Option Addr) (c : Nat) (q : List (List Bool)) (fid : Nat) (caps : Array Value) (g : Int → Int → Bool) (w : World)
    (hr : Kd.C (Kd.slice 4 Kd.bool) w A q.length q) (hc : q.length ≤ c) (hq : q.length < 4611686018427387904) (he : Enters fid)
    (hf : sqB q = true → Says2 w fid caps (inB q.length) g) :
    Calls Try.prog 65 #[.slice A q.length c, .func (.func fid) #[] caps] w fun e w' => e = .returned (.bool (sqB q && allB q.length g)) ∧ Drawn0 w w' := by
  have HR := Aside0.mk hr
  have HC := Aside0.mk hc
  have HS := Aside0.mk (sq_eq q hq (q.length + 1) (Nat.lt_succ_self _))
  have HE := Aside0.mk he
  clear hr hc he
  cases hb : sqB q with
  | false =>
    rw [hb] at HS
    clear hf hb
    go_enter Try.func65, Try.ntmps65
    go_wp2_with (go_at_call 26; (with_reducible refine (order_Square.calls (q.length + 1) _ _ q false _ ?side1 ?side2 HS.out).mono ?_); (case side1 => exact HR.out); (case side2 => exact HC.out); rintro e w' ⟨rfl, ⟨nd, rfl⟩⟩)
    go_ret
    exact ⟨rfl, by repeat (first | exact Drawn0.refl _ | apply Drawn0.step)⟩
  | true =>
    rw [hb] at HS
    have hn := sq_len q hb
    have HF := Aside0.mk (hf hb)
    clear hf hb
    go_enter Try.func65, Try.ntmps65
    go_wp2_with (go_at_call 26; (with_reducible refine (order_Square.calls (q.length + 1) _ _ q true _ ?side1 ?side2 HS.out).mono ?_); (case side1 => exact HR.out); (case side2 => exact HC.out); rintro e w' ⟨rfl, ⟨nd, rfl⟩⟩)
    go_loopw [12] (fun i wr => ∃ a : Nat, a ≤ q.length ∧ i = .int .i64 (a : Int) ∧ Drawn0 w wr ∧ Aside0 (∀ x : Nat, x < a → ∀ y : Nat, y < q.length → g x y = true)) (fun i _ => q.length - (intOf i).toNat)
    case atStart => exact ⟨0, Nat.zero_le _, rfl, by repeat (first | exact Drawn0.refl _ | apply Drawn0.step), ⟨fun x hx => absurd hx (Nat.not_lt_zero _)⟩⟩
    case round =>
      obtain ⟨a, ha, rfl, hd, HG⟩ := hrel
      by_cases hlt : a < q.length
      · go_wp2_with fail
        obtain ⟨wo, rfl⟩ : ∃ wo : World, wo = wr := ⟨_, rfl⟩
        go_loopw [17] (fun i wr => ∃ b : Nat, b ≤ q.length ∧ i = .int .i64 (b : Int) ∧ Drawn0 w wr ∧ Aside0 (∀ y : Nat, y < b → g a y = true)) (fun i _ => q.length - (intOf i).toNat)
        case atStart => exact ⟨0, Nat.zero_le _, rfl, hd, ⟨fun x hx => absurd hx (Nat.not_lt_zero _)⟩⟩
        case round =>
          clear hd
          obtain ⟨b, hb, rfl, hd, HB⟩ := hrel
          by_cases hlt2 : b < q.length
          · have HC := Aside0.mk (HF.out a b wr hd.below (ctr_in hlt) (ctr_in hlt2))
            have he := HE.out
            unfold Enters at he
            cases hg : g a b with
            | true =>
              rw [hg] at HC
              have HGT := Aside0.mk hg
              clear hg
              go_wp2_with ((with_reducible refine HC.out.mono ?_); rintro e w' ⟨rfl, ⟨nd, rfl⟩⟩)
              go_roundw
              case rel => exact ⟨b + 1, by omega, by go_num, by repeat (first | exact hd | apply Drawn0.step), ⟨fun y hy => by
                rcases Nat.lt_or_eq_of_le (Nat.le_of_lt_succ hy) with h | h
                · exact HB.out y h
                · rw [h]; exact HGT.out⟩⟩
              case measure => simp [intOf]; omega
            | false =>
              rw [hg] at HC
              have HGT := Aside0.mk hg
              clear hg
              go_wp2_with ((with_reducible refine HC.out.mono ?_); rintro e w' ⟨rfl, ⟨nd, rfl⟩⟩)
              go_ret
              have hfin : (true && allB q.length g) = false := by
                rw [Bool.true_and]
                apply Bool.eq_false_iff.mpr
                intro h
                have h1 := List.all_eq_true.1 h a (List.mem_range.2 hlt)
                have h2 := List.all_eq_true.1 h1 b (List.mem_range.2 hlt2)
                rw [HGT.out] at h2
                cases h2
              exact ⟨by rw [hfin]; rfl, by repeat (first | exact hd | apply Drawn0.step)⟩
          · have hbe : b = q.length := by omega
            go_wp2
            go_roundw
            case rel => exact ⟨a + 1, by omega, by go_num, by repeat (first | exact hd | apply Drawn0.step), ⟨fun x hx => by
                rcases Nat.lt_or_eq_of_le (Nat.le_of_lt_succ hx) with h | h
                · exact HG.out x h
                · rw [h]; intro y hy; exact HB.out y (by omega)⟩⟩
            case measure => simp [intOf]; omega
      · go_wp2
        go_ret
        have hfin : (true && allB q.length g) = true := by
          rw [Bool.true_and]
          exact List.all_eq_true.2 fun x hx => List.all_eq_true.2 fun y hy => HG.out x (by have := List.mem_range.1 hx; omega) y (List.mem_range.1 hy)
        exact ⟨by rw [hfin]; rfl, by repeat (first | exact hd | apply Drawn0.step)⟩

/-! ### order_Reflexive: function 28 -/
def order_Reflexive.f (l0 : List (List Bool)) : Option (Bool) := if l0.length < 4611686018427387904 then some (sqB l0 && allB l0.length (fun a _ => at2 l0 a a)) else none
set_option maxHeartbeats 400000 in
theorem order_Reflexive1_calls (p : Addr) (A : Option Addr) (c : Nat) (q : List (List Bool)) (a b : Int) (w : World) (hp : w.cell? p = some (.slice A q.length c))
    (hr : Kd.C (Kd.slice 4 Kd.bool) w A q.length q) (h0 : 0 ≤ a) (h1 : a < (q.length : Int)) (h2 : a < ((rd_L2 q a).length : Int)) :
    Calls Try.prog 66 #[.int .i64 a, .int .i64 b, .pointer (some p)] w fun e w' => e = .returned (.bool (at2 q a a)) ∧ Drawn0 w w' := by
  obtain ⟨ad, A0, c0, rfl, hx, hl, hi⟩ := at_L2 hr a h0 h1
  obtain ⟨ad2, hA0, hx2⟩ := Kd.at_bool hi a h0 h2
  subst hA0
  have HX : rdOf false (rd_L2 q a) a = at2 q a a := rfl
  rw [HX] at hx2
  clear HX hr hi
  go_enter Try.func66, Try.ntmps66
  go_wp2
  go_ret
  exact ⟨rfl, by repeat (first | exact Drawn0.refl _ | apply Drawn0.step)⟩
set_option maxHeartbeats 400000 in
theorem order_Reflexive.calls (A0 : Option Addr) (c0 : Nat) (l0 : List (List Bool)) (r : Bool) (w : World) (hr0 : Kd.C (Kd.slice 4 Kd.bool) w A0 l0.length l0) (hc0 : l0.length ≤ c0) (h : order_Reflexive.f l0 = some r) :
    Calls Try.prog 28 #[.slice A0 l0.length c0] w fun e w' => e = .returned (.bool r) ∧ Below w.heap.size w w' := by
  unfold order_Reflexive.f at h
  by_cases hq : l0.length < 4611686018427387904
  · rw [if_pos hq] at h
    obtain rfl := Option.some.inj h
    clear h
    have HC0 := Aside0.mk hc0
    have HR0 := Aside0.mk hr0
    clear hc0 hr0
    go_enter Try.func28, Try.ntmps28
    go_wp2_with fail
    refine (order_all_calls A0 c0 l0 66 #[.pointer (some ⟨w.heap.size, 0, none⟩)] (fun a _ => at2 l0 a a) _ (Kd.C_alloc HR0.out _) HC0.out hq (enters_of Try.func66 (by kernel_rfl) (by kernel_rfl)) ?s3).mono ?_
    case s3 => intro hb a b w' hbel ha hb'; exact calls_of_args rfl (order_Reflexive1_calls ⟨w.heap.size, 0, none⟩ A0 c0 l0 a b w' (pw_cell_below hbel (by simp)) (Kd.C_below (Kd.C_alloc HR0.out _) hbel) ha.1 ha.2 (by rw [sq_row l0 hb a ha.1 ha.2]; exact ha.2))
    rintro e w' ⟨rfl, ⟨nd, rfl⟩⟩
    go_wp2
    go_ret
    exact ⟨rfl, by repeat (first | exact Below.refl _ _ | apply below_alloc | apply pw_below_drewN | apply below_drew1)⟩
  · rw [if_neg hq] at h; cases h

/-! ### order_Antisymmetric: function 30 -/
def order_Antisymmetric.f (l0 : List (List Bool)) : Option (Bool) := if l0.length < 4611686018427387904 then some (sqB l0 && allB l0.length (fun a b => a == b || (!at2 l0 a b || !at2 l0 b a))) else none
/-- What a closure of a table reads of two labels. -/
theorem at2_reads {w : World} {A : Option Addr} {q : List (List Bool)} (hr : Kd.C (Kd.slice 4 Kd.bool) w A q.length q) (a b : Int) (h0 : 0 ≤ a) (h1 : a < (q.length : Int)) (h2 : 0 ≤ b) (h3 : b < ((rd_L2 q a).length : Int)) :
    ∃ ad ad2 c0, A = some ad ∧ w.cell? (ad.add a.toNat) = some (.slice (some ad2) (rd_L2 q a).length c0) ∧ w.cell? (ad2.add b.toNat) = some (.bool (at2 q a b)) := by
  obtain ⟨ad, A0, c0, rfl, hx, hl, hi⟩ := at_L2 hr a h0 h1
  obtain ⟨ad2, hA0, hx2⟩ := Kd.at_bool hi b h2 h3
  subst hA0
  exact ⟨ad, ad2, c0, rfl, hx, hx2⟩
set_option maxHeartbeats 400000 in
theorem order_Antisymmetric1_calls (p : Addr) (A : Option Addr) (c : Nat) (q : List (List Bool)) (a b : Int) (w : World) (hp : w.cell? p = some (.slice A q.length c))
    (hr : Kd.C (Kd.slice 4 Kd.bool) w A q.length q) (h0 : 0 ≤ a) (h1 : a < (q.length : Int)) (h2 : 0 ≤ b) (h3 : b < (q.length : Int)) (h4 : a < ((rd_L2 q b).length : Int)) (h5 : b < ((rd_L2 q a).length : Int)) :
    Calls Try.prog 67 #[.int .i64 a, .int .i64 b, .pointer (some p)] w fun e w' => e = .returned (.bool (a == b || (!at2 q a b || !at2 q b a))) ∧ Drawn0 w w' := by
  obtain ⟨ad, ad2, c0, rfl, hx, hx2⟩ := at2_reads hr a b h0 h1 h2 h5
  obtain ⟨ad', ad3, c1, hA, hy, hy2⟩ := at2_reads hr b a h2 h3 h0 h4
  cases hA
  clear hr
  by_cases hab : a = b
  · subst hab
    have h6 : (a == a) = true := by simp
    go_enter Try.func67, Try.ntmps67
    go_wp2
    go_ret
    exact ⟨by simp, by repeat (first | exact Drawn0.refl _ | apply Drawn0.step)⟩
  · have h6 : (a == b) = false := by simpa using hab
    clear hab
    generalize at2 q a b = x at *
    generalize at2 q b a = y at *
    cases x
    · go_enter Try.func67, Try.ntmps67
      go_wp2
      go_ret
      exact ⟨by simp [h6], by repeat (first | exact Drawn0.refl _ | apply Drawn0.step)⟩
    · go_enter Try.func67, Try.ntmps67
      go_wp2
      go_ret
      exact ⟨by simp [h6], by repeat (first | exact Drawn0.refl _ | apply Drawn0.step)⟩
set_option maxHeartbeats 400000 in
theorem order_Antisymmetric.calls (A0 : Option Addr) (c0 : Nat) (l0 : List (List Bool)) (r : Bool) (w : World) (hr0 : Kd.C (Kd.slice 4 Kd.bool) w A0 l0.length l0) (hc0 : l0.length ≤ c0) (h : order_Antisymmetric.f l0 = some r) :
    Calls Try.prog 30 #[.slice A0 l0.length c0] w fun e w' => e = .returned (.bool r) ∧ Below w.heap.size w w' := by
  unfold order_Antisymmetric.f at h
  by_cases hq : l0.length < 4611686018427387904
  · rw [if_pos hq] at h
    obtain rfl := Option.some.inj h
    clear h
    have HC0 := Aside0.mk hc0
    have HR0 := Aside0.mk hr0
    clear hc0 hr0
    go_enter Try.func30, Try.ntmps30
    go_wp2_with fail
    refine (order_all_calls A0 c0 l0 67 #[.pointer (some ⟨w.heap.size, 0, none⟩)] (fun a b => a == b || (!at2 l0 a b || !at2 l0 b a)) _ (Kd.C_alloc HR0.out _) HC0.out hq (enters_of Try.func67 (by kernel_rfl) (by kernel_rfl)) ?s3).mono ?_
    case s3 => intro hb a b w' hbel ha hb'; exact calls_of_args rfl (order_Antisymmetric1_calls ⟨w.heap.size, 0, none⟩ A0 c0 l0 a b w' (pw_cell_below hbel (by simp)) (Kd.C_below (Kd.C_alloc HR0.out _) hbel) ha.1 ha.2 hb'.1 hb'.2 (by rw [sq_row l0 hb b hb'.1 hb'.2]; exact ha.2) (by rw [sq_row l0 hb a ha.1 ha.2]; exact hb'.2))
    rintro e w' ⟨rfl, ⟨nd, rfl⟩⟩
    go_wp2
    go_ret
    exact ⟨rfl, by repeat (first | exact Below.refl _ _ | apply below_alloc | apply pw_below_drewN | apply below_drew1)⟩
  · rw [if_neg hq] at h; cases h

/-! ### order_Transitive: function 32 -/
def trB (q : List (List Bool)) (a b : Int) : Bool := (List.range q.length).all fun c => !(at2 q a b && (at2 q b (c : Int) && !at2 q a (c : Int)))
def order_Transitive.f (l0 : List (List Bool)) : Option (Bool) := if l0.length < 4611686018427387904 then some (sqB l0 && allB l0.length (fun a b => trB l0 a b)) else none
set_option maxHeartbeats 400000 in
theorem order_Transitive1_calls (p : Addr) (A : Option Addr) (c : Nat) (q : List (List Bool)) (a b : Int) (w : World) (hp : w.cell? p = some (.slice A q.length c))
    (hr : Kd.C (Kd.slice 4 Kd.bool) w A q.length q) (hs : sqB q = true) (h0 : 0 ≤ a) (h1 : a < (q.length : Int)) (h2 : 0 ≤ b) (h3 : b < (q.length : Int)) :
    Calls Try.prog 68 #[.int .i64 a, .int .i64 b, .pointer (some p)] w fun e w' => e = .returned (.bool (trB q a b)) ∧ Drawn0 w w' := by
  have hn := sq_len q hs
  have HS := Aside0.mk hs
  have HR := Aside0.mk hr
  clear hs hr
  go_enter Try.func68, Try.ntmps68
  go_wp2
  go_loopw [9] (fun i wr => ∃ d : Nat, d ≤ q.length ∧ i = .int .i64 (d : Int) ∧ Drawn0 w wr ∧ Aside0 (∀ x : Nat, x < d → (!(at2 q a b && (at2 q b x && !at2 q a x))) = true)) (fun i _ => q.length - (intOf i).toNat)
  case atStart => exact ⟨0, Nat.zero_le _, rfl, by repeat (first | exact Drawn0.refl _ | apply Drawn0.step), ⟨fun x hx => absurd hx (Nat.not_lt_zero _)⟩⟩
  case round =>
    obtain ⟨d, hd0, rfl, ⟨nd, rfl⟩, HG⟩ := hrel
    by_cases hlt : d < q.length
    · have h4 : (0 : Int) ≤ (d : Int) := by omega
      have h5 : ((d : Int)) < (q.length : Int) := by omega
      have ra : b < ((rd_L2 q a).length : Int) := by rw [sq_row q HS.out a h0 h1]; exact h3
      have rb : (d : Int) < ((rd_L2 q b).length : Int) := by rw [sq_row q HS.out b h2 h3]; exact h5
      have rc : (d : Int) < ((rd_L2 q a).length : Int) := by rw [sq_row q HS.out a h0 h1]; exact h5
      obtain ⟨ad, ad2, c0, rfl, hx, hx2⟩ := at2_reads HR.out a b h0 h1 h2 ra
      obtain ⟨ad', ad3, c1, hA, hy, hy2⟩ := at2_reads HR.out b d h2 h3 h4 rb
      cases hA
      obtain ⟨ad', ad4, c2, hA, hz, hz2⟩ := at2_reads HR.out a d h0 h1 h4 rc
      cases hA
      have hzx := hz.symm.trans hx
      simp only [Option.some.injEq, Value.slice.injEq] at hzx
      obtain ⟨rfl, -, rfl⟩ := hzx
      clear hz
      simp only [Int.toNat_natCast] at hy2 hz2
      have HT := Aside0.mk (show (!(at2 q a b && (at2 q b d && !at2 q a d))) = (!(at2 q a b && (at2 q b d && !at2 q a d))) from rfl)
      have hfin : (!(at2 q a b && (at2 q b d && !at2 q a d))) = false → trB q a b = false := fun h => by
        unfold trB
        apply Bool.eq_false_iff.mpr
        intro h'
        have := List.all_eq_true.1 h' d (List.mem_range.2 hlt)
        rw [h] at this; cases this
      have HF := Aside0.mk hfin
      clear hfin HT
      generalize hX : at2 q a b = X at *
      generalize hY : at2 q b d = Y at *
      generalize hZ : at2 q a d = Z at *
      have HX := Aside0.mk hX
      have HY := Aside0.mk hY
      have HZ := Aside0.mk hZ
      clear hX hY hZ
      have step : (!(X && (Y && !Z))) = true → Aside0 (∀ x : Nat, x < d + 1 → (!(X && (at2 q b x && !at2 q a x))) = true) := fun h => ⟨fun x hx => by
        rcases Nat.lt_or_eq_of_le (Nat.le_of_lt_succ hx) with h' | h'
        · exact HG.out x h'
        · subst h'; rw [HY.out, HZ.out]; exact h⟩
      have STEP := Aside0.mk step
      clear step
      rcases X with _ | _
      all_goals rcases Y with _ | _
      all_goals rcases Z with _ | _
      all_goals go_wp2
      all_goals first
        | (go_roundw
           case rel => exact ⟨d + 1, by omega, by go_num, by repeat (first | exact Drawn0.refl _ | apply Drawn0.step), STEP.out rfl⟩
           case measure => simp [intOf]; omega)
        | (go_ret; exact ⟨by rw [HF.out rfl]; rfl, by repeat (first | exact Drawn0.refl _ | apply Drawn0.step)⟩)
    · go_wp2
      go_ret
      have hfin : trB q a b = true := List.all_eq_true.2 fun x hx => HG.out x (by have := List.mem_range.1 hx; omega)
      exact ⟨by rw [hfin]; rfl, by repeat (first | exact Drawn0.refl _ | apply Drawn0.step)⟩
set_option maxHeartbeats 400000 in
theorem order_Transitive.calls (A0 : Option Addr) (c0 : Nat) (l0 : List (List Bool)) (r : Bool) (w : World) (hr0 : Kd.C (Kd.slice 4 Kd.bool) w A0 l0.length l0) (hc0 : l0.length ≤ c0) (h : order_Transitive.f l0 = some r) :
    Calls Try.prog 32 #[.slice A0 l0.length c0] w fun e w' => e = .returned (.bool r) ∧ Below w.heap.size w w' := by
  unfold order_Transitive.f at h
  by_cases hq : l0.length < 4611686018427387904
  · rw [if_pos hq] at h
    obtain rfl := Option.some.inj h
    clear h
    have HC0 := Aside0.mk hc0
    have HR0 := Aside0.mk hr0
    clear hc0 hr0
    go_enter Try.func32, Try.ntmps32
    go_wp2_with fail
    refine (order_all_calls A0 c0 l0 68 #[.pointer (some ⟨w.heap.size, 0, none⟩)] (fun a b => trB l0 a b) _ (Kd.C_alloc HR0.out _) HC0.out hq (enters_of Try.func68 (by kernel_rfl) (by kernel_rfl)) ?s3).mono ?_
    case s3 => intro hb a b w' hbel ha hb'; exact calls_of_args rfl (order_Transitive1_calls ⟨w.heap.size, 0, none⟩ A0 c0 l0 a b w' (pw_cell_below hbel (by simp)) (Kd.C_below (Kd.C_alloc HR0.out _) hbel) hb ha.1 ha.2 hb'.1 hb'.2)
    rintro e w' ⟨rfl, ⟨nd, rfl⟩⟩
    go_wp2
    go_ret
    exact ⟨rfl, by repeat (first | exact Below.refl _ _ | apply below_alloc | apply pw_below_drewN | apply below_drew1)⟩
  · rw [if_neg hq] at h; cases h

/-! ### order_has: function 69 -/
def order_has.l0 : Nat → List (List Bool) → List Int → Int → Int → Option (Bool)
  | 0, _, _, _, _ => none
  | k + 1, x0, x7, x8, x9 => if x9 < x8 then (if 0 ≤ x9 then (if x9 < (x7.length : Int) then (if (rd x7 x9) < 0 then (some false) else (if (rd x7 x9) ≥ (x0.length : Int) then (some false) else (order_has.l0 k x0 x7 x8 (wrap64 (x9 + 1))))) else (none)) else (none)) else ((order_Square.f k x0).bind fun t105 => (some t105))
def order_has.f (k : Nat) (l0 : List (List Bool)) (l1 : List Int) : Option (Bool) := order_has.l0 k l0 l1 (l1.length : Int) 0
theorem order_has.mono_l : ∀ k, (∀ y0 y1 y2 y3, LeO (order_has.l0 k y0 y1 y2 y3) (order_has.l0 (k + 1) y0 y1 y2 y3))
  | 0 => fun _ _ _ _ r h => by simp [order_has.l0] at h
  | k + 1 => by
    have ih0 := order_has.mono_l k
    · intro y0 y1 y2 y3
      unfold order_has.l0
      repeat' first
      | (with_reducible exact ih0 _ _ _ _)
      | (with_reducible exact order_Square.mono _ _)
      | (with_reducible exact LeO.refl _)
      | (with_reducible exact LeO.none _)
      | (with_reducible refine LeO.ite ?_ ?_)
      | (with_reducible refine LeO.bind ?_ (fun _ => ?_))
      | exact ih0 _ _ _ _
      | exact order_Square.mono _ _
      | exact LeO.none _
      | refine LeO.ite ?_ ?_
      | refine LeO.bind ?_ (fun _ => ?_)
theorem order_has.mono : ∀ a0 a1 k, LeO (order_has.f k a0 a1) (order_has.f (k + 1) a0 a1) := by
  intro a0 a1 k
  have ih0 := order_has.mono_l k
  unfold order_has.f
  repeat' first
      | (with_reducible exact ih0 _ _ _ _)
      | (with_reducible exact order_Square.mono _ _)
      | (with_reducible exact LeO.refl _)
      | (with_reducible exact LeO.none _)
      | (with_reducible refine LeO.ite ?_ ?_)
      | (with_reducible refine LeO.bind ?_ (fun _ => ?_))
      | exact ih0 _ _ _ _
      | exact order_Square.mono _ _
      | exact LeO.none _
      | refine LeO.ite ?_ ?_
      | refine LeO.bind ?_ (fun _ => ?_)
set_option maxHeartbeats 8000000 in
set_option maxRecDepth 100000 in
theorem order_has.calls (k : Nat) (A0 : Option Addr) (c0 : Nat) (l0 : List (List Bool)) (A1 : Option Addr) (c1 : Nat) (l1 : List Int) (r : Bool) (w : World) (hr0 : Kd.C (Kd.slice 4 Kd.bool) w A0 l0.length l0) (hc0 : l0.length ≤ c0) (hr1 : Kd.C (Kd.int .i64) w A1 l1.length l1) (hc1 : l1.length ≤ c1) (h : order_has.f k l0 l1 = some r) :
    Calls Try.prog 69 #[.slice A0 l0.length c0, .slice A1 l1.length c1] w fun e w' => e = .returned (.bool r) ∧ Drawn0 w w' := by
  have HR0 := Aside0.mk hr0
  have HC0 := Aside0.mk hc0
  clear hr0 hc0
  have HR1 := Aside0.mk hr1
  have HC1 := Aside0.mk hc1
  clear hr1 hc1
  have H : (order_has.l0 k l0 l1 (l1.length : Int) 0) = some r := h
  clear h
  have H' := Aside0.mk H
  clear H
  go_enter Try.func69, Try.ntmps69
  go_wp2
  go_loopg [9] k (fun kq v9 w' => ∃ (x9_1 : Int), v9 = .int .i64 x9_1 ∧ Aside0 (order_has.l0 kq l0 l1 (l1.length : Int) x9_1 = some r) ∧ Aside0 (kq ≤ k) ∧ Drawn0 w w')
  case atStart => exact ⟨(0), (by first | rfl | (simp; done) | (simp [*]; done)), H', ⟨Nat.le_refl _⟩, by repeat (first | exact Drawn0.refl _ | apply Drawn0.step)⟩
  case round =>
    clear H'
    try clear c1
    try clear p2
    obtain ⟨x9_1, rfl, HA, HK1, ⟨m1, rfl⟩⟩ := hrel
    cases gk with
    | zero => exact absurd HA.out (by simp [order_has.l0])
    | succ k1 =>
      have H := HA.out
      clear HA
      simp only [order_has.l0] at H
      by_cases c3 : x9_1 < (l1.length : Int)
      · rw [if_pos c3] at H
        have c3b0 : decide (x9_1 < (l1.length : Int)) = true := decide_eq_true c3
        clear c3
        by_cases c4 : 0 ≤ x9_1
        · rw [if_pos c4] at H
          have c4b0 : decide (0 ≤ x9_1) = true := decide_eq_true c4
          clear c4
          by_cases c5 : x9_1 < (l1.length : Int)
          · rw [if_pos c5] at H
            have c5b0 : decide (x9_1 < (l1.length : Int)) = true := decide_eq_true c5
            clear c5
            by_cases c6 : (rd l1 x9_1) < 0
            · rw [if_pos c6] at H
              have c6b0 : decide ((rd l1 x9_1) < 0) = true := decide_eq_true c6
              clear c6
              obtain rfl := Option.some.inj H
              have p104 : 0 ≤ (x9_1 : Int) := of_decide_eq_true (by first | (with_reducible assumption) | assumption)
              have q104 : x9_1 < (l1.length : Int) := of_decide_eq_true (by first | (with_reducible assumption) | assumption)
              obtain ⟨ad104, e104, hx104_0⟩ := Kd.at_int HR1.out x9_1 p104 q104
              cases e104
              replace p104 := eq_true p104
              replace q104 := eq_true q104
              go_wp2
              go_ret
              exact ⟨by first | rfl | (simp; done) | (simp [*]; done), by repeat (first | exact Drawn0.refl _ | apply Drawn0.step)⟩
            · rw [if_neg c6] at H
              have c6b0 : decide ((rd l1 x9_1) < 0) = false := decide_eq_false c6
              clear c6
              by_cases c7 : (rd l1 x9_1) ≥ (l0.length : Int)
              · rw [if_pos c7] at H
                have c7b0 : decide ((l0.length : Int) ≤ (rd l1 x9_1)) = true := decide_eq_true c7
                clear c7
                obtain rfl := Option.some.inj H
                have p104 : 0 ≤ (x9_1 : Int) := of_decide_eq_true (by first | (with_reducible assumption) | assumption)
                have q104 : x9_1 < (l1.length : Int) := of_decide_eq_true (by first | (with_reducible assumption) | assumption)
                obtain ⟨ad104, e104, hx104_0⟩ := Kd.at_int HR1.out x9_1 p104 q104
                cases e104
                replace p104 := eq_true p104
                replace q104 := eq_true q104
                go_wp2
                go_ret
                exact ⟨by first | rfl | (simp; done) | (simp [*]; done), by repeat (first | exact Drawn0.refl _ | apply Drawn0.step)⟩
              · rw [if_neg c7] at H
                have c7b0 : decide ((l0.length : Int) ≤ (rd l1 x9_1)) = false := decide_eq_false c7
                clear c7
                have H' := Aside0.mk H
                clear H
                have p104 : 0 ≤ (x9_1 : Int) := of_decide_eq_true (by first | (with_reducible assumption) | assumption)
                have q104 : x9_1 < (l1.length : Int) := of_decide_eq_true (by first | (with_reducible assumption) | assumption)
                obtain ⟨ad104, e104, hx104_0⟩ := Kd.at_int HR1.out x9_1 p104 q104
                cases e104
                replace p104 := eq_true p104
                replace q104 := eq_true q104
                go_wp2
                go_roundg k1
                case measure => have := HK1.out; omega
                case rel => exact ⟨(wrap64 (x9_1 + 1)), (by first | rfl | (simp; done) | (simp [*]; done)), H', ⟨by have := HK1.out; omega⟩, by repeat (first | exact Drawn0.refl _ | apply Drawn0.step)⟩
          · rw [if_neg c5] at H
            exact absurd H (by simp)
        · rw [if_neg c4] at H
          exact absurd H (by simp)
      · rw [if_neg c3] at H
        have c3b0 : decide (x9_1 < (l1.length : Int)) = false := decide_eq_false c3
        clear c3
        replace H := Option.bind_eq_some_iff.mp H
        obtain ⟨t105, A80, H⟩ := H
        replace H : (some t105) = some r := H
        have A8 := Aside0.mk A80
        clear A80
        obtain rfl := Option.some.inj H
        go_wp2_with (first | ((with_reducible refine gate_callee (f := 26) rfl ?_); refine goesL_ (some 23) rfl rfl Try.func26 (by kernel_rfl) rfl #[.slice A0 l0.length c0] rfl (by (try simp only [List.map_toArray, List.map_cons, List.map_nil]); first | done | rfl | (simp only [List.length_drop, List.length_take]; rfl)) ?_; (with_reducible refine (order_Square.calls k1 _ _ l0 t105 _ ?side1 ?side2 A8.out).mono ?_); (case side1 => repeat (first | exact HR0.out | (with_reducible refine Kd.C_alloc ?_ _) | (with_reducible refine Kd.C_drewN ?_ _) | (with_reducible refine Kd.C_drew ?_))); (case side2 => exact HC0.out); rintro e w' ⟨rfl, ⟨nd, rfl⟩⟩; refine ⟨_, rfl, ?_⟩))
        go_ret
        exact ⟨by first | rfl | (simp; done) | (simp [*]; done), by repeat (first | exact Drawn0.refl _ | apply Drawn0.step)⟩

/-! ### order_those: function 70 -/
/-- A function value that answers of a number in p as g does. -/
def Says1 (w : World) (fid : Nat) (caps : Array Value) (p : Int → Prop) (g : Int → Bool) : Prop :=
  ∀ (a : Int) (w' : World), Below w.heap.size w w' → p a → Calls Try.prog fid (#[.int .i64 a] ++ caps) w' fun e w'' => e = .returned (.bool (g a)) ∧ Drawn0 w' w''
/-- The numbers below n of which something is so. -/
def pick (n : Nat) (g : Int → Bool) : List Int := ((List.range n).filter (fun x : Nat => g (x : Int))).map (fun x : Nat => (x : Int))
theorem pick_len (n : Nat) (g : Int → Bool) : (pick n g).length ≤ n := by
  unfold pick
  rw [List.length_map]
  exact Nat.le_trans (List.length_filter_le _ _) (by rw [List.length_range]; exact Nat.le_refl _)
theorem pick_yes (n : Nat) (g : Int → Bool) (h : g (n : Int) = true) : pick (n + 1) g = pick n g ++ [(n : Int)] := by
  unfold pick
  rw [List.range_succ, List.filter_append, List.map_append]
  simp [h]
theorem pick_no (n : Nat) (g : Int → Bool) (h : g (n : Int) = false) : pick (n + 1) g = pick n g := by
  unfold pick
  rw [List.range_succ, List.filter_append, List.map_append]
  simp [h]
set_option maxHeartbeats 400000 in
theorem order_those_calls (A : Option Addr) (c : Nat) (q : List (List Bool)) (fid : Nat) (caps : Array Value) (g : Int → Bool) (w : World)
    (hq : q.length ≤ 4096) (he : Enters fid) (hf : Says1 w fid caps (inB q.length) g) :
    Calls Try.prog 70 #[.slice A q.length c, .func (.func fid) #[] caps] w fun e w' => ∃ v0_ : Value, e = .returned v0_ ∧ Kd.R (Kd.int .i64) 3 w' w.heap.size (fun _ => True) v0_ (pick q.length g) ∧ Below w.heap.size w w' := by
  have HF := Aside0.mk hf
  have HE := Aside0.mk he
  have HB := Aside0.mk (Below.refl w.heap.size w)
  clear hf he
  go_enter Try.func70, Try.ntmps70
  go_wp2
  go_loopw [5, 9] (fun v i wr => ∃ d : Nat, d ≤ q.length ∧ i = .int .i64 (d : Int) ∧ Aside0 (Kd.R (Kd.int .i64) 3 wr w.heap.size (fun _ => True) v (pick d g)) ∧ Aside0 (Below w.heap.size w wr)) (fun _ i _ => q.length - (intOf i).toNat)
  case atStart => exact ⟨0, Nat.zero_le _, rfl, ⟨Kd.R_nil _ _ _ _ _⟩, HB⟩
  case round =>
    clear HB
    obtain ⟨d, hd0, rfl, HO, HB⟩ := hrel
    by_cases hlt : d < q.length
    · have HC := Aside0.mk (HF.out d wr HB.out (ctr_in hlt))
      have he := HE.out
      unfold Enters at he
      cases hg : g d with
      | true =>
        rw [hg] at HC
        have PY := Aside0.mk (pick_yes d g hg)
        have PL := Aside0.mk (pick_len d g)
        clear hg
        go_wp2_with (first | ((with_reducible refine gate_builtin (b := .append) (xs := #[.tmp 15, .tmp 17]) rfl ?_); at_builtin; refine Kd.R_append (Kd.int .i64) (w0 := w) w.heap.size rfl (.tmp 15) (.tmp 17) 23 3 (.int .i64 0) 8 rfl Try.underlying23 info3 rfl (by decide) (by omega) u5 (pick d g) (d : Int) [.int .i64 (d : Int)] (fun _ => True) (fun _ => False) rfl rfl ?aP (fun _ hk => hk.elim) ?aF ?aO ?aB ?aS ?aL ?_; (case aP => exact rfl); (case aB => exact (by repeat (first | (with_reducible first | exact HB.out | apply below_alloc | apply pw_below_drewN | apply below_drew1) | exact HB.out))); (case aF => exact (fun _ _ => trivial)); (case aO => exact (by (with_reducible repeat (first | apply Kd.R_alloc | apply Kd.R_drewN | apply Kd.R_drew)); exact HO.out)); (case aS => exact (below_size (by repeat (first | (with_reducible first | exact HB.out | apply below_alloc | apply pw_below_drewN | apply below_drew1) | exact HB.out)))); (case aL => have := PL.out; omega); intro v128 w12 ho hb hg hat; rw [← PY.out] at ho; have n0_ := Aside0.mk hb; have n1_ := Aside0.mk ho; clear HB HO; have HB := n0_; have HO := n1_; clear n0_ n1_ ho hb hg hat) | ((with_reducible refine HC.out.mono ?_); rintro e w' ⟨rfl, ⟨nd, rfl⟩⟩; clear HC))
        go_roundw
        case rel => exact ⟨d + 1, by omega, by go_num, ⟨by (with_reducible repeat (first | apply Kd.R_alloc | apply Kd.R_drewN | apply Kd.R_drew)); exact HO.out⟩, ⟨by repeat (first | (with_reducible first | exact HB.out | apply below_alloc | apply pw_below_drewN | apply below_drew1) | exact HB.out)⟩⟩
        case measure => simp [intOf]; omega
      | false =>
        rw [hg] at HC
        have PN := Aside0.mk (pick_no d g hg)
        clear hg
        go_wp2_with ((with_reducible refine HC.out.mono ?_); rintro e w' ⟨rfl, ⟨nd, rfl⟩⟩; clear HC)
        go_roundw
        case rel => exact ⟨d + 1, by omega, by go_num, ⟨by rw [PN.out]; (with_reducible repeat (first | apply Kd.R_alloc | apply Kd.R_drewN | apply Kd.R_drew)); exact HO.out⟩, ⟨by repeat (first | (with_reducible first | exact HB.out | apply below_alloc | apply pw_below_drewN | apply below_drew1) | exact HB.out)⟩⟩
        case measure => simp [intOf]; omega
    · have hdq : d = q.length := by omega
      subst hdq
      go_wp2
      go_ret
      exact ⟨_, rfl, by (with_reducible repeat (first | apply Kd.R_alloc | apply Kd.R_drewN | apply Kd.R_drew)); exact HO.out, by repeat (first | (with_reducible first | exact HB.out | apply below_alloc | apply pw_below_drewN | apply below_drew1) | exact HB.out)⟩

end Go.Proofs.Ytpeeneaapmmciaa.POtells
