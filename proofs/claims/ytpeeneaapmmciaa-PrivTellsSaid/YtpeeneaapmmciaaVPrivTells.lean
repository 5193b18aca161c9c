/- PrivTells of layer 4 is true for every input: Right, Has, Of and List answer as the reference does. Conditions: none beside those of the given statement. -/
import Derived.Test.YtpeeneaapmmciaaPPrivTellsx0
import Derived.Test.YtpeeneaapmmciaaPPrivTellsx1
namespace Go.Proofs.Ytpeeneaapmmciaa.PPrivTells
open Go.RowKit Go.Proofs.YtpeeneaapmmciaaW.PrintWords Go.Proofs.YtpeeneaapmmciaaW.PrintLast Go.Proofs.YtpeeneaapmmciaaW.PrintMore
attribute [local go_sem] max2_int min2_int max_two min_two max_three min_three max_four min_four   -- for this text's walks alone
set_option linter.unusedVariables false
set_option linter.unusedSimpArgs false

/-! ### confidantlaw4_PrivTells: function 3 -/
def confidantlaw4_PrivTells.l0 : Nat → Int → Int → List Int → List Int → Int → Option (Bool)
  | 0, _, _, _, _, _ => none
  | k + 1, x0, x1, x2, x7, x8 => if x8 < (x2.length : Int) then (if 0 ≤ x8 then (if x7.length < 17592186044416 then (confidantlaw4_PrivTells.l0 k x0 x1 x2 (x7 ++ [Go.bits .and .i64 (rd x2 x8) 31]) (wrap64 (x8 + 1))) else (none)) else (none)) else ((priv_Right.f x0).bind fun t130 => ((confidantref2_Privs.f x0).bind fun t131 => (if (t130 == t131) = true then ((priv_Has.f x0 x1).bind fun t132 => ((confidantref2_Has.f x0 x1).bind fun t133 => (if (t132 == t133) = true then ((priv_Has.f x0 (Go.bits .and .u32 x1 x0)).bind fun t134 => (if t134 = true then ((priv_Of.f k x2).bind fun t135 => ((confidantref2_PrivsOf.f k x2).bind fun t136 => (if t135 = t136 then ((priv_Of.f k x7).bind fun t137 => ((confidantref2_PrivsOf.f k x7).bind fun t138 => (if t137 = t138 then ((priv_List.f k x0).bind fun t139 => ((confidantref2_List.f k x0).bind fun t142 => ((confidanthelp_Ints.f k t139 t142).bind fun t145 => (if t145 = true then ((priv_List.f k x0).bind fun t146 => ((priv_Of.f k t146).bind fun t149 => (some (t149 == (Go.bits .and .u32 x0 65535))))) else (some false))))) else (some false)))) else (some false)))) else (some false))) else (some false)))) else (some false))))
def confidantlaw4_PrivTells.f (k : Nat) (a0 : Int) (a1 : Int) (l2 : List Int) : Option (Bool) := (confidantlaw4_known.f k).bind fun t125 => (if t125 = true then (if (l2.length : Int) > 30 then (some true) else (confidantlaw4_PrivTells.l0 k a0 a1 l2 ([] : List Int) 0)) else (some false))
theorem confidantlaw4_PrivTells.mono_l : ∀ k, (∀ y0 y1 y2 y3 y4, LeO (confidantlaw4_PrivTells.l0 k y0 y1 y2 y3 y4) (confidantlaw4_PrivTells.l0 (k + 1) y0 y1 y2 y3 y4))
  | 0 => fun _ _ _ _ _ r h => by simp [confidantlaw4_PrivTells.l0] at h
  | k + 1 => by
    have ih0 := confidantlaw4_PrivTells.mono_l k
    · intro y0 y1 y2 y3 y4
      unfold confidantlaw4_PrivTells.l0
      repeat' first
      | (with_reducible exact ih0 _ _ _ _ _)
      | (with_reducible exact confidanthelp_Ints.mono _ _ _)
      | (with_reducible exact confidantlaw4_known.mono _)
      | (with_reducible exact confidantref2_List.mono _ _)
      | (with_reducible exact confidantref2_PrivsOf.mono _ _)
      | (with_reducible exact priv_List.mono _ _)
      | (with_reducible exact priv_Of.mono _ _)
      | (with_reducible exact LeO.refl _)
      | (with_reducible exact LeO.none _)
      | (with_reducible refine LeO.ite ?_ ?_)
      | (with_reducible refine LeO.bind ?_ (fun _ => ?_))
      | exact ih0 _ _ _ _ _
      | exact confidanthelp_Ints.mono _ _ _
      | exact confidantlaw4_known.mono _
      | exact confidantref2_List.mono _ _
      | exact confidantref2_PrivsOf.mono _ _
      | exact priv_List.mono _ _
      | exact priv_Of.mono _ _
      | exact LeO.none _
      | refine LeO.ite ?_ ?_
      | refine LeO.bind ?_ (fun _ => ?_)
theorem confidantlaw4_PrivTells.mono : ∀ a0 a1 a2 k, LeO (confidantlaw4_PrivTells.f k a0 a1 a2) (confidantlaw4_PrivTells.f (k + 1) a0 a1 a2) := by
  intro a0 a1 a2 k
  have ih0 := confidantlaw4_PrivTells.mono_l k
  unfold confidantlaw4_PrivTells.f
  repeat' first
      | (with_reducible exact ih0 _ _ _ _ _)
      | (with_reducible exact confidanthelp_Ints.mono _ _ _)
      | (with_reducible exact confidantlaw4_known.mono _)
      | (with_reducible exact confidantref2_List.mono _ _)
      | (with_reducible exact confidantref2_PrivsOf.mono _ _)
      | (with_reducible exact priv_List.mono _ _)
      | (with_reducible exact priv_Of.mono _ _)
      | (with_reducible exact LeO.refl _)
      | (with_reducible exact LeO.none _)
      | (with_reducible refine LeO.ite ?_ ?_)
      | (with_reducible refine LeO.bind ?_ (fun _ => ?_))
      | exact ih0 _ _ _ _ _
      | exact confidanthelp_Ints.mono _ _ _
      | exact confidantlaw4_known.mono _
      | exact confidantref2_List.mono _ _
      | exact confidantref2_PrivsOf.mono _ _
      | exact priv_List.mono _ _
      | exact priv_Of.mono _ _
      | exact LeO.none _
      | refine LeO.ite ?_ ?_
      | refine LeO.bind ?_ (fun _ => ?_)
set_option maxHeartbeats 8000000 in
set_option maxRecDepth 100000 in
theorem confidantlaw4_PrivTells.calls (k : Nat) (a0 : Int) (a1 : Int) (A2 : Option Addr) (c2 : Nat) (l2 : List Int) (r : Bool) (w : World) (hr2 : Kd.C (Kd.int .i64) w A2 l2.length l2) (hc2 : l2.length ≤ c2) (h : confidantlaw4_PrivTells.f k a0 a1 l2 = some r) (hr : r = true) :
    Calls Try.prog 3 #[.int .u32 a0, .int .u32 a1, .slice A2 l2.length c2] w fun e w' => e = .returned (.bool r) ∧ Below w.heap.size w w' := by
  have HRT := Aside0.mk hr
  clear hr
  have HR2 := Aside0.mk hr2
  have HC2 := Aside0.mk hc2
  clear hr2 hc2
  have HB := Aside0.mk (Below.refl w.heap.size w)
  have H : ((confidantlaw4_known.f k).bind fun t125 => (if t125 = true then (if (l2.length : Int) > 30 then (some true) else (confidantlaw4_PrivTells.l0 k a0 a1 l2 ([] : List Int) 0)) else (some false))) = some r := h
  clear h
  replace H := Option.bind_eq_some_iff.mp H
  obtain ⟨t125, A40, H⟩ := H
  replace H : (if t125 = true then (if (l2.length : Int) > 30 then (some true) else (confidantlaw4_PrivTells.l0 k a0 a1 l2 ([] : List Int) 0)) else (some false)) = some r := H
  have A4 := Aside0.mk A40
  clear A40
  by_cases c5 : t125 = true
  · subst c5
    have H1 : (if (l2.length : Int) > 30 then (some true) else (confidantlaw4_PrivTells.l0 k a0 a1 l2 ([] : List Int) 0)) = some r := by rw [if_pos rfl] at H; exact H
    clear H
    have H := H1
    clear H1
    by_cases c6 : (l2.length : Int) > 30
    · rw [if_pos c6] at H
      have c6b0 : decide (30 < (l2.length : Int)) = true := decide_eq_true c6
      have c6b1 : decide (30 < l2.length) = true := decide_eq_true (by omega)
      clear c6
      obtain rfl := Option.some.inj H
      go_enter Try.func3, Try.ntmps3
      go_wp2_with (first | ((with_reducible refine gate_callee (f := 13) rfl ?_); refine goesL_ (some 9) rfl rfl Try.func13 (by kernel_rfl) rfl #[] rfl (by (try simp only [List.map_toArray, List.map_cons, List.map_nil]); first | done | rfl | (simp only [List.length_drop, List.length_take]; rfl)) ?_; (with_reducible refine (confidantlaw4_known.calls k  true _ A4.out).mono ?_); rintro e w7 ⟨rfl, hb⟩; refine ⟨_, rfl, ?_⟩; have n0_ := Aside0.mk (below_step (by repeat (first | (with_reducible first | exact HB.out | apply below_alloc | apply pw_below_drewN | apply below_drew1) | exact HB.out)) hb); clear HB; have HB := n0_; clear n0_; (try clear hb); (try clear hb2); (try clear hk); (try clear hi)))
      go_ret
      exact ⟨by first | rfl | (simp [errW_none, errW_some] <;> rfl) | (simp [*, errW_none, errW_some] <;> rfl), by repeat (first | (with_reducible first | exact HB.out | apply below_alloc | apply pw_below_drewN | apply below_drew1) | exact HB.out)⟩
    · rw [if_neg c6] at H
      have c6b0 : decide (30 < (l2.length : Int)) = false := decide_eq_false c6
      have c6b1 : decide (30 < l2.length) = false := decide_eq_false (by omega)
      clear c6
      have H' := Aside0.mk H
      clear H
      go_enter Try.func3, Try.ntmps3
      go_wp2_with (first | ((with_reducible refine gate_callee (f := 13) rfl ?_); refine goesL_ (some 9) rfl rfl Try.func13 (by kernel_rfl) rfl #[] rfl (by (try simp only [List.map_toArray, List.map_cons, List.map_nil]); first | done | rfl | (simp only [List.length_drop, List.length_take]; rfl)) ?_; (with_reducible refine (confidantlaw4_known.calls k  true _ A4.out).mono ?_); rintro e w8 ⟨rfl, hb⟩; refine ⟨_, rfl, ?_⟩; have n0_ := Aside0.mk (below_step (by repeat (first | (with_reducible first | exact HB.out | apply below_alloc | apply pw_below_drewN | apply below_drew1) | exact HB.out)) hb); clear HB; have HB := n0_; clear n0_; (try clear hb); (try clear hb2); (try clear hk); (try clear hi)))
      go_loopg [7, 8] k (fun kq v7 v8 w' => ∃ (x7_1 : List Int) (x8_1 : Int), v8 = .int .i64 x8_1 ∧ Aside0 (confidantlaw4_PrivTells.l0 kq a0 a1 l2 x7_1 x8_1 = some r) ∧ Aside0 (kq ≤ k) ∧ Aside0 (Kd.R (Kd.int .i64) 3 w' w.heap.size (fun _ => True) v7 x7_1) ∧ Aside0 (Below w.heap.size w w'))
      case atStart => exact ⟨(([] : List Int)), (0), (by first | rfl | (simp; done) | (simp [*]; done)), H', ⟨Nat.le_refl _⟩, ⟨by first | exact Kd.R_nil _ _ _ _ _ | exact Kd.N_nil _ _ _ _ _ | exact Kd.V_nil _ _ _ _ _ | exact Kd.Q_nil _ _ _ _ _ | exact Kd.S_nil _ _ _ _ _⟩, ⟨by repeat (first | (with_reducible first | exact HB.out | apply below_alloc | apply pw_below_drewN | apply below_drew1) | exact HB.out)⟩⟩
      case round =>
        clear H'
        try clear c1
        try clear c2
        try clear p2
        try clear c3
        try clear c5
        try clear c6
        try clear c6b0
        try clear c6b1
        obtain ⟨x7_1, x8_1, rfl, HA, HK1, HO_7, HB⟩ := hrel
        cases gk with
        | zero => exact absurd HA.out (by simp [confidantlaw4_PrivTells.l0])
        | succ k1 =>
          have H := HA.out
          clear HA
          simp only [confidantlaw4_PrivTells.l0] at H
          by_cases c9 : x8_1 < (l2.length : Int)
          · rw [if_pos c9] at H
            have c9b0 : decide (x8_1 < (l2.length : Int)) = true := decide_eq_true c9
            clear c9
            by_cases c10 : 0 ≤ x8_1
            · rw [if_pos c10] at H
              have c10b0 : decide (0 ≤ x8_1) = true := decide_eq_true c10
              clear c10
              by_cases c11 : x7_1.length < 17592186044416
              · rw [if_pos c11] at H
                have LMc11 := Aside0.mk c11
                clear c11
                obtain ⟨y127, hy127⟩ : ∃ y_ : List Int, y_ = (x7_1 ++ [Go.bits .and .i64 (rd l2 x8_1) 31]) := ⟨_, rfl⟩
                replace H : (confidantlaw4_PrivTells.l0 k1 a0 a1 l2 y127 (wrap64 (x8_1 + 1))) = some r := by first | (rw [hy127]; with_reducible exact H) | (have H2_ := (Option.bind_some _ _).symm.trans H; rw [hy127]; with_reducible exact H2_) | (have H2_ := (Option.bind_some _ _).symm.trans H; with_reducible exact H2_) | with_reducible exact H | (rw [hy127]; exact H) | exact H
                have Ny127 := Aside0.mk hy127
                clear hy127
                have H' := Aside0.mk H
                clear H
                have p126 : 0 ≤ (x8_1 : Int) := of_decide_eq_true (by first | (with_reducible assumption) | assumption)
                have q126 : x8_1 < (l2.length : Int) := of_decide_eq_true (by first | (with_reducible assumption) | assumption)
                obtain ⟨ad126, e126, hx126_0⟩ := Kd.at_int HR2.out x8_1 p126 q126
                cases e126
                replace hx126_0 := (HB.out.cell (World.block_lt_of_cell? w _ hx126_0)).trans hx126_0
                replace p126 := eq_true p126
                replace q126 := eq_true q126
                go_wp2_with (first | ((with_reducible refine gate_builtin (b := .append) (xs := #[.tmp 20, .tmp 26]) rfl ?_); at_builtin; refine Kd.R_append (Kd.int .i64) (w0 := w) w.heap.size rfl (.tmp 20) (.tmp 26) 23 3 (.int .i64 0) 8 rfl Try.underlying23 info3 rfl (by decide) (by omega) u7 x7_1 (Go.bits .and .i64 (rd l2 x8_1) 31) [.int .i64 (Go.bits .and .i64 (rd l2 x8_1) 31)] (fun _ => True) (fun _ => False) rfl rfl ?aP (fun _ hk => hk.elim) ?aF ?aO ?aB ?aS ?aL ?_; (case aP => exact rfl); (case aB => exact (by repeat (first | (with_reducible first | exact HB.out | apply below_alloc | apply pw_below_drewN | apply below_drew1) | exact HB.out))); (case aF => exact (fun _ _ => trivial)); (case aO => exact (by (with_reducible repeat (first | apply Kd.R_alloc | apply Kd.R_drewN | apply Kd.R_drew)); exact HO_7.out)); (case aS => exact (below_size (by repeat (first | (with_reducible first | exact HB.out | apply below_alloc | apply pw_below_drewN | apply below_drew1) | exact HB.out)))); (case aL => have := LMc11.out; omega); intro v128 w12 ho hb hg hat; rw [← Ny127.out] at ho; have n0_ := Aside0.mk (hb); have n1_ := Aside0.mk (ho); clear HB; clear HO_7; have HB := n0_; have HO129 := n1_; clear n0_ n1_; clear ho hb hg hat))
                go_roundg k1
                case measure => have := HK1.out; omega
                case rel => exact ⟨(y127), (wrap64 (x8_1 + 1)), (by first | rfl | (simp; done) | (simp [*]; done)), H', ⟨by have := HK1.out; omega⟩, ⟨by (with_reducible repeat (first | apply Kd.R_alloc | apply Kd.R_drewN | apply Kd.R_drew)); exact HO129.out⟩, ⟨by repeat (first | (with_reducible first | exact HB.out | apply below_alloc | apply pw_below_drewN | apply below_drew1) | exact HB.out)⟩⟩
              · rw [if_neg c11] at H
                exact absurd H (by simp)
            · rw [if_neg c10] at H
              exact absurd H (by simp)
          · rw [if_neg c9] at H
            have c9b0 : decide (x8_1 < (l2.length : Int)) = false := decide_eq_false c9
            clear c9
            replace H := Option.bind_eq_some_iff.mp H
            obtain ⟨t130, A130, H⟩ := H
            replace H : ((confidantref2_Privs.f a0).bind fun t131 => (if (t130 == t131) = true then ((priv_Has.f a0 a1).bind fun t132 => ((confidantref2_Has.f a0 a1).bind fun t133 => (if (t132 == t133) = true then ((priv_Has.f a0 (Go.bits .and .u32 a1 a0)).bind fun t134 => (if t134 = true then ((priv_Of.f k1 l2).bind fun t135 => ((confidantref2_PrivsOf.f k1 l2).bind fun t136 => (if t135 = t136 then ((priv_Of.f k1 x7_1).bind fun t137 => ((confidantref2_PrivsOf.f k1 x7_1).bind fun t138 => (if t137 = t138 then ((priv_List.f k1 a0).bind fun t139 => ((confidantref2_List.f k1 a0).bind fun t142 => ((confidanthelp_Ints.f k1 t139 t142).bind fun t145 => (if t145 = true then ((priv_List.f k1 a0).bind fun t146 => ((priv_Of.f k1 t146).bind fun t149 => (some (t149 == (Go.bits .and .u32 a0 65535))))) else (some false))))) else (some false)))) else (some false)))) else (some false))) else (some false)))) else (some false))) = some r := H
            have A13 := Aside0.mk A130
            clear A130
            replace H := Option.bind_eq_some_iff.mp H
            obtain ⟨t131, A140, H⟩ := H
            replace H : (if (t130 == t131) = true then ((priv_Has.f a0 a1).bind fun t132 => ((confidantref2_Has.f a0 a1).bind fun t133 => (if (t132 == t133) = true then ((priv_Has.f a0 (Go.bits .and .u32 a1 a0)).bind fun t134 => (if t134 = true then ((priv_Of.f k1 l2).bind fun t135 => ((confidantref2_PrivsOf.f k1 l2).bind fun t136 => (if t135 = t136 then ((priv_Of.f k1 x7_1).bind fun t137 => ((confidantref2_PrivsOf.f k1 x7_1).bind fun t138 => (if t137 = t138 then ((priv_List.f k1 a0).bind fun t139 => ((confidantref2_List.f k1 a0).bind fun t142 => ((confidanthelp_Ints.f k1 t139 t142).bind fun t145 => (if t145 = true then ((priv_List.f k1 a0).bind fun t146 => ((priv_Of.f k1 t146).bind fun t149 => (some (t149 == (Go.bits .and .u32 a0 65535))))) else (some false))))) else (some false)))) else (some false)))) else (some false))) else (some false)))) else (some false)) = some r := H
            have A14 := Aside0.mk A140
            clear A140
            by_cases c15 : (t130 == t131) = true
            · rw [if_pos c15] at H
              have c15b0 : (t130 == t131) = true := c15
              (try (have c15b1 : decide (t130 = t131) = true := by simpa using c15))
              (try (have c15b2 : (t130 == t131) = true := by simpa using c15))
              clear c15
              replace H := Option.bind_eq_some_iff.mp H
              obtain ⟨t132, A160, H⟩ := H
              replace H : ((confidantref2_Has.f a0 a1).bind fun t133 => (if (t132 == t133) = true then ((priv_Has.f a0 (Go.bits .and .u32 a1 a0)).bind fun t134 => (if t134 = true then ((priv_Of.f k1 l2).bind fun t135 => ((confidantref2_PrivsOf.f k1 l2).bind fun t136 => (if t135 = t136 then ((priv_Of.f k1 x7_1).bind fun t137 => ((confidantref2_PrivsOf.f k1 x7_1).bind fun t138 => (if t137 = t138 then ((priv_List.f k1 a0).bind fun t139 => ((confidantref2_List.f k1 a0).bind fun t142 => ((confidanthelp_Ints.f k1 t139 t142).bind fun t145 => (if t145 = true then ((priv_List.f k1 a0).bind fun t146 => ((priv_Of.f k1 t146).bind fun t149 => (some (t149 == (Go.bits .and .u32 a0 65535))))) else (some false))))) else (some false)))) else (some false)))) else (some false))) else (some false))) = some r := H
              have A16 := Aside0.mk A160
              clear A160
              replace H := Option.bind_eq_some_iff.mp H
              obtain ⟨t133, A170, H⟩ := H
              replace H : (if (t132 == t133) = true then ((priv_Has.f a0 (Go.bits .and .u32 a1 a0)).bind fun t134 => (if t134 = true then ((priv_Of.f k1 l2).bind fun t135 => ((confidantref2_PrivsOf.f k1 l2).bind fun t136 => (if t135 = t136 then ((priv_Of.f k1 x7_1).bind fun t137 => ((confidantref2_PrivsOf.f k1 x7_1).bind fun t138 => (if t137 = t138 then ((priv_List.f k1 a0).bind fun t139 => ((confidantref2_List.f k1 a0).bind fun t142 => ((confidanthelp_Ints.f k1 t139 t142).bind fun t145 => (if t145 = true then ((priv_List.f k1 a0).bind fun t146 => ((priv_Of.f k1 t146).bind fun t149 => (some (t149 == (Go.bits .and .u32 a0 65535))))) else (some false))))) else (some false)))) else (some false)))) else (some false))) else (some false)) = some r := H
              have A17 := Aside0.mk A170
              clear A170
              by_cases c18 : (t132 == t133) = true
              · rw [if_pos c18] at H
                have c18b0 : (t132 == t133) = true := c18
                (try (have c18b1 : decide (t132 = t133) = true := by simpa using c18))
                (try (have c18b2 : (t132 == t133) = true := by simpa using c18))
                clear c18
                replace H := Option.bind_eq_some_iff.mp H
                obtain ⟨t134, A190, H⟩ := H
                replace H : (if t134 = true then ((priv_Of.f k1 l2).bind fun t135 => ((confidantref2_PrivsOf.f k1 l2).bind fun t136 => (if t135 = t136 then ((priv_Of.f k1 x7_1).bind fun t137 => ((confidantref2_PrivsOf.f k1 x7_1).bind fun t138 => (if t137 = t138 then ((priv_List.f k1 a0).bind fun t139 => ((confidantref2_List.f k1 a0).bind fun t142 => ((confidanthelp_Ints.f k1 t139 t142).bind fun t145 => (if t145 = true then ((priv_List.f k1 a0).bind fun t146 => ((priv_Of.f k1 t146).bind fun t149 => (some (t149 == (Go.bits .and .u32 a0 65535))))) else (some false))))) else (some false)))) else (some false)))) else (some false)) = some r := H
                have A19 := Aside0.mk A190
                clear A190
                by_cases c20 : t134 = true
                · subst c20
                  have H1 : ((priv_Of.f k1 l2).bind fun t135 => ((confidantref2_PrivsOf.f k1 l2).bind fun t136 => (if t135 = t136 then ((priv_Of.f k1 x7_1).bind fun t137 => ((confidantref2_PrivsOf.f k1 x7_1).bind fun t138 => (if t137 = t138 then ((priv_List.f k1 a0).bind fun t139 => ((confidantref2_List.f k1 a0).bind fun t142 => ((confidanthelp_Ints.f k1 t139 t142).bind fun t145 => (if t145 = true then ((priv_List.f k1 a0).bind fun t146 => ((priv_Of.f k1 t146).bind fun t149 => (some (t149 == (Go.bits .and .u32 a0 65535))))) else (some false))))) else (some false)))) else (some false)))) = some r := by rw [if_pos rfl] at H; exact H
                  clear H
                  have H := H1
                  clear H1
                  replace H := Option.bind_eq_some_iff.mp H
                  obtain ⟨t135, A210, H⟩ := H
                  replace H : ((confidantref2_PrivsOf.f k1 l2).bind fun t136 => (if t135 = t136 then ((priv_Of.f k1 x7_1).bind fun t137 => ((confidantref2_PrivsOf.f k1 x7_1).bind fun t138 => (if t137 = t138 then ((priv_List.f k1 a0).bind fun t139 => ((confidantref2_List.f k1 a0).bind fun t142 => ((confidanthelp_Ints.f k1 t139 t142).bind fun t145 => (if t145 = true then ((priv_List.f k1 a0).bind fun t146 => ((priv_Of.f k1 t146).bind fun t149 => (some (t149 == (Go.bits .and .u32 a0 65535))))) else (some false))))) else (some false)))) else (some false))) = some r := H
                  have A21 := Aside0.mk A210
                  clear A210
                  replace H := Option.bind_eq_some_iff.mp H
                  obtain ⟨t136, A220, H⟩ := H
                  replace H : (if t135 = t136 then ((priv_Of.f k1 x7_1).bind fun t137 => ((confidantref2_PrivsOf.f k1 x7_1).bind fun t138 => (if t137 = t138 then ((priv_List.f k1 a0).bind fun t139 => ((confidantref2_List.f k1 a0).bind fun t142 => ((confidanthelp_Ints.f k1 t139 t142).bind fun t145 => (if t145 = true then ((priv_List.f k1 a0).bind fun t146 => ((priv_Of.f k1 t146).bind fun t149 => (some (t149 == (Go.bits .and .u32 a0 65535))))) else (some false))))) else (some false)))) else (some false)) = some r := H
                  have A22 := Aside0.mk A220
                  clear A220
                  by_cases c23 : t135 = t136
                  · rw [if_pos c23] at H
                    have c23b0 : (t135 == t136) = true := beq_iff_eq.mpr c23
                    have c23b1 : (t135 != t136) = false := bne_eq_false_iff_eq.mpr c23
                    clear c23
                    replace H := Option.bind_eq_some_iff.mp H
                    obtain ⟨t137, A240, H⟩ := H
                    replace H : ((confidantref2_PrivsOf.f k1 x7_1).bind fun t138 => (if t137 = t138 then ((priv_List.f k1 a0).bind fun t139 => ((confidantref2_List.f k1 a0).bind fun t142 => ((confidanthelp_Ints.f k1 t139 t142).bind fun t145 => (if t145 = true then ((priv_List.f k1 a0).bind fun t146 => ((priv_Of.f k1 t146).bind fun t149 => (some (t149 == (Go.bits .and .u32 a0 65535))))) else (some false))))) else (some false))) = some r := H
                    have A24 := Aside0.mk A240
                    clear A240
                    replace H := Option.bind_eq_some_iff.mp H
                    obtain ⟨t138, A250, H⟩ := H
                    replace H : (if t137 = t138 then ((priv_List.f k1 a0).bind fun t139 => ((confidantref2_List.f k1 a0).bind fun t142 => ((confidanthelp_Ints.f k1 t139 t142).bind fun t145 => (if t145 = true then ((priv_List.f k1 a0).bind fun t146 => ((priv_Of.f k1 t146).bind fun t149 => (some (t149 == (Go.bits .and .u32 a0 65535))))) else (some false))))) else (some false)) = some r := H
                    have A25 := Aside0.mk A250
                    clear A250
                    by_cases c26 : t137 = t138
                    · rw [if_pos c26] at H
                      have c26b0 : (t137 == t138) = true := beq_iff_eq.mpr c26
                      have c26b1 : (t137 != t138) = false := bne_eq_false_iff_eq.mpr c26
                      clear c26
                      replace H := Option.bind_eq_some_iff.mp H
                      obtain ⟨t139, A270, H⟩ := H
                      replace H : ((confidantref2_List.f k1 a0).bind fun t142 => ((confidanthelp_Ints.f k1 t139 t142).bind fun t145 => (if t145 = true then ((priv_List.f k1 a0).bind fun t146 => ((priv_Of.f k1 t146).bind fun t149 => (some (t149 == (Go.bits .and .u32 a0 65535))))) else (some false)))) = some r := H
                      have A27 := Aside0.mk A270
                      clear A270
                      replace H := Option.bind_eq_some_iff.mp H
                      obtain ⟨t142, A280, H⟩ := H
                      replace H : ((confidanthelp_Ints.f k1 t139 t142).bind fun t145 => (if t145 = true then ((priv_List.f k1 a0).bind fun t146 => ((priv_Of.f k1 t146).bind fun t149 => (some (t149 == (Go.bits .and .u32 a0 65535))))) else (some false))) = some r := H
                      have A28 := Aside0.mk A280
                      clear A280
                      replace H := Option.bind_eq_some_iff.mp H
                      obtain ⟨t145, A290, H⟩ := H
                      replace H : (if t145 = true then ((priv_List.f k1 a0).bind fun t146 => ((priv_Of.f k1 t146).bind fun t149 => (some (t149 == (Go.bits .and .u32 a0 65535))))) else (some false)) = some r := H
                      have A29 := Aside0.mk A290
                      clear A290
                      by_cases c30 : t145 = true
                      · subst c30
                        have H1 : ((priv_List.f k1 a0).bind fun t146 => ((priv_Of.f k1 t146).bind fun t149 => (some (t149 == (Go.bits .and .u32 a0 65535))))) = some r := by rw [if_pos rfl] at H; exact H
                        clear H
                        have H := H1
                        clear H1
                        replace H := Option.bind_eq_some_iff.mp H
                        obtain ⟨t146, A310, H⟩ := H
                        replace H : ((priv_Of.f k1 t146).bind fun t149 => (some (t149 == (Go.bits .and .u32 a0 65535)))) = some r := H
                        have A31 := Aside0.mk A310
                        clear A310
                        replace H := Option.bind_eq_some_iff.mp H
                        obtain ⟨t149, A320, H⟩ := H
                        replace H : (some (t149 == (Go.bits .and .u32 a0 65535))) = some r := H
                        have A32 := Aside0.mk A320
                        clear A320
                        obtain rfl := Option.some.inj H
                        have tokA := Aside0.mk True.intro
                        go_wp2_with (first | ((with_reducible refine gate_callee (f := 14) rfl ?_); refine goesL_ (some 29) rfl rfl Try.func14 (by kernel_rfl) rfl #[.int .u32 a0] rfl (by (try simp only [List.map_toArray, List.map_cons, List.map_nil]); first | done | rfl | (simp only [List.length_drop, List.length_take]; rfl)) ?_; (with_reducible refine (priv_Right.calls a0 t130 _ A13.out).mono ?_); rintro e w' ⟨rfl, ⟨nd, rfl⟩⟩; refine ⟨_, rfl, ?_⟩) | ((with_reducible refine gate_callee (f := 15) rfl ?_); refine goesL_ (some 31) rfl rfl Try.func15 (by kernel_rfl) rfl #[.int .u32 a0] rfl (by (try simp only [List.map_toArray, List.map_cons, List.map_nil]); first | done | rfl | (simp only [List.length_drop, List.length_take]; rfl)) ?_; (with_reducible refine (confidantref2_Privs.calls a0 t131 _ A14.out).mono ?_); rintro e w' ⟨rfl, ⟨nd, rfl⟩⟩; refine ⟨_, rfl, ?_⟩) | (go_at_call 16; (with_reducible refine (priv_Has.calls a0 a1 t132 _ A16.out).mono ?_); rintro e w' ⟨rfl, ⟨nd, rfl⟩⟩) | (go_at_call 17; (with_reducible refine (confidantref2_Has.calls a0 a1 t133 _ A17.out).mono ?_); rintro e w' ⟨rfl, ⟨nd, rfl⟩⟩) | (go_at_call 16; (with_reducible refine (priv_Has.calls a0 (Go.bits .and .u32 a1 a0) true _ A19.out).mono ?_); rintro e w' ⟨rfl, ⟨nd, rfl⟩⟩) | (go_at_call 18; (with_reducible refine (priv_Of.calls k1 _ _ l2 t135 _ ?side1 ?side2 A21.out).mono ?_); (case side1 => repeat (first | exact (Kd.C_below HR2.out (by repeat (first | (with_reducible first | exact HB.out | apply below_alloc | apply pw_below_drewN | apply below_drew1) | exact HB.out))) | (with_reducible refine Kd.C_alloc ?_ _) | (with_reducible refine Kd.C_drewN ?_ _) | (with_reducible refine Kd.C_drew ?_))); (case side2 => exact HC2.out); rintro e w' ⟨rfl, ⟨nd, rfl⟩⟩) | (go_at_call 19; (with_reducible refine (confidantref2_PrivsOf.calls k1 _ _ l2 t136 _ ?side1 ?side2 A22.out).mono ?_); (case side1 => repeat (first | exact (Kd.C_below HR2.out (by repeat (first | (with_reducible first | exact HB.out | apply below_alloc | apply pw_below_drewN | apply below_drew1) | exact HB.out))) | (with_reducible refine Kd.C_alloc ?_ _) | (with_reducible refine Kd.C_drewN ?_ _) | (with_reducible refine Kd.C_drew ?_))); (case side2 => exact HC2.out); rintro e w' ⟨rfl, ⟨nd, rfl⟩⟩; obtain ⟨Ao33, co33, eo33⟩ := Kd.R_slice HO_7.out; subst eo33) | (go_at_call 18; (with_reducible refine (priv_Of.calls k1 _ _ x7_1 t137 _ ?side1 ?side2 A24.out).mono ?_); (case side1 => repeat (first | exact (Kd.R_reads' HO_7.out).2.2 | (with_reducible refine Kd.C_alloc ?_ _) | (with_reducible refine Kd.C_drewN ?_ _) | (with_reducible refine Kd.C_drew ?_))); (case side2 => exact (Kd.R_reads' HO_7.out).2.1); rintro e w' ⟨rfl, ⟨nd, rfl⟩⟩) | (go_at_call 19; (with_reducible refine (confidantref2_PrivsOf.calls k1 _ _ x7_1 t138 _ ?side1 ?side2 A25.out).mono ?_); (case side1 => repeat (first | exact (Kd.R_reads' HO_7.out).2.2 | (with_reducible refine Kd.C_alloc ?_ _) | (with_reducible refine Kd.C_drewN ?_ _) | (with_reducible refine Kd.C_drew ?_))); (case side2 => exact (Kd.R_reads' HO_7.out).2.1); rintro e w' ⟨rfl, ⟨nd, rfl⟩⟩) | (go_at_call 21; have tokB := tokA.out; clear tokA tokB; (with_reducible refine (priv_List.calls k1 a0 t139 _ A27.out).mono ?_); rintro e w34 ⟨v140, rfl, ho0, hb⟩; have n0_ := Aside0.mk (Kd.R_elder' (by (with_reducible repeat (first | apply Kd.R_alloc | apply Kd.R_drewN | apply Kd.R_drew)); exact HO_7.out) (Kd.R_base ho0) hb); have n1_ := Aside0.mk (Kd.R_lower (Kd.R_new' ho0 (Kd.R_lt (by (with_reducible repeat (first | apply Kd.R_alloc | apply Kd.R_drewN | apply Kd.R_drew)); exact HO_7.out))) (below_size (by repeat (first | (with_reducible first | exact HB.out | apply below_alloc | apply pw_below_drewN | apply below_drew1) | exact HB.out)))); have n2_ := Aside0.mk (below_step (by repeat (first | (with_reducible first | exact HB.out | apply below_alloc | apply pw_below_drewN | apply below_drew1) | exact HB.out)) hb); clear HO_7; clear HB; have HO_7 := n0_; have HO141 := n1_; have HB := n2_; clear n0_ n1_ n2_; (try clear hb); (try clear hb2); (try clear hk); (try clear hi); (try clear ho0)) | (go_at_call 22; (with_reducible refine (confidantref2_List.calls k1 a0 t142 _ A28.out).mono ?_); rintro e w35 ⟨v143, rfl, ho0, hb⟩; have n0_ := Aside0.mk (Kd.R_elder' (by (with_reducible repeat (first | apply Kd.R_alloc | apply Kd.R_drewN | apply Kd.R_drew)); exact HO_7.out) (Kd.R_base ho0) hb); have n1_ := Aside0.mk (Kd.R_elder' (by (with_reducible repeat (first | apply Kd.R_alloc | apply Kd.R_drewN | apply Kd.R_drew)); exact HO141.out) (Kd.R_base ho0) hb); have n2_ := Aside0.mk (Kd.R_lower (Kd.R_new' (Kd.R_new' ho0 (Kd.R_lt (by (with_reducible repeat (first | apply Kd.R_alloc | apply Kd.R_drewN | apply Kd.R_drew)); exact HO_7.out))) (Kd.R_lt (by (with_reducible repeat (first | apply Kd.R_alloc | apply Kd.R_drewN | apply Kd.R_drew)); exact HO141.out))) (below_size (by repeat (first | (with_reducible first | exact HB.out | apply below_alloc | apply pw_below_drewN | apply below_drew1) | exact HB.out)))); have n3_ := Aside0.mk (below_step (by repeat (first | (with_reducible first | exact HB.out | apply below_alloc | apply pw_below_drewN | apply below_drew1) | exact HB.out)) hb); clear HO_7; clear HO141; clear HB; have HO_7 := n0_; have HO141 := n1_; have HO144 := n2_; have HB := n3_; clear n0_ n1_ n2_ n3_; (try clear hb); (try clear hb2); (try clear hk); (try clear hi); (try clear ho0); obtain ⟨Ao36, co36, eo36⟩ := Kd.R_slice HO141.out; subst eo36; obtain ⟨Ao37, co37, eo37⟩ := Kd.R_slice HO144.out; subst eo37) | (go_at_call 20; (with_reducible refine (confidanthelp_Ints.calls k1 _ _ t139 _ _ t142 true _ ?side1 ?side2 ?side3 ?side4 A29.out).mono ?_); (case side1 => repeat (first | exact (Kd.R_reads' HO141.out).2.2 | (with_reducible refine Kd.C_alloc ?_ _) | (with_reducible refine Kd.C_drewN ?_ _) | (with_reducible refine Kd.C_drew ?_))); (case side2 => exact (Kd.R_reads' HO141.out).2.1); (case side3 => repeat (first | exact (Kd.R_reads' HO144.out).2.2 | (with_reducible refine Kd.C_alloc ?_ _) | (with_reducible refine Kd.C_drewN ?_ _) | (with_reducible refine Kd.C_drew ?_))); (case side4 => exact (Kd.R_reads' HO144.out).2.1); rintro e w' ⟨rfl, ⟨nd, rfl⟩⟩) | (go_at_call 21; (with_reducible refine (priv_List.calls k1 a0 t146 _ A31.out).mono ?_); rintro e w38 ⟨v147, rfl, ho0, hb⟩; have n0_ := Aside0.mk (Kd.R_elder' (by (with_reducible repeat (first | apply Kd.R_alloc | apply Kd.R_drewN | apply Kd.R_drew)); exact HO_7.out) (Kd.R_base ho0) hb); have n1_ := Aside0.mk (Kd.R_elder' (by (with_reducible repeat (first | apply Kd.R_alloc | apply Kd.R_drewN | apply Kd.R_drew)); exact HO141.out) (Kd.R_base ho0) hb); have n2_ := Aside0.mk (Kd.R_elder' (by (with_reducible repeat (first | apply Kd.R_alloc | apply Kd.R_drewN | apply Kd.R_drew)); exact HO144.out) (Kd.R_base ho0) hb); have n3_ := Aside0.mk (Kd.R_lower (Kd.R_new' (Kd.R_new' (Kd.R_new' ho0 (Kd.R_lt (by (with_reducible repeat (first | apply Kd.R_alloc | apply Kd.R_drewN | apply Kd.R_drew)); exact HO_7.out))) (Kd.R_lt (by (with_reducible repeat (first | apply Kd.R_alloc | apply Kd.R_drewN | apply Kd.R_drew)); exact HO141.out))) (Kd.R_lt (by (with_reducible repeat (first | apply Kd.R_alloc | apply Kd.R_drewN | apply Kd.R_drew)); exact HO144.out))) (below_size (by repeat (first | (with_reducible first | exact HB.out | apply below_alloc | apply pw_below_drewN | apply below_drew1) | exact HB.out)))); have n4_ := Aside0.mk (below_step (by repeat (first | (with_reducible first | exact HB.out | apply below_alloc | apply pw_below_drewN | apply below_drew1) | exact HB.out)) hb); clear HO_7; clear HO141; clear HO144; clear HB; have HO_7 := n0_; have HO141 := n1_; have HO144 := n2_; have HO148 := n3_; have HB := n4_; clear n0_ n1_ n2_ n3_ n4_; (try clear hb); (try clear hb2); (try clear hk); (try clear hi); (try clear ho0); obtain ⟨Ao39, co39, eo39⟩ := Kd.R_slice HO148.out; subst eo39) | (go_at_call 18; (with_reducible refine (priv_Of.calls k1 _ _ t146 t149 _ ?side1 ?side2 A32.out).mono ?_); (case side1 => repeat (first | exact (Kd.R_reads' HO148.out).2.2 | (with_reducible refine Kd.C_alloc ?_ _) | (with_reducible refine Kd.C_drewN ?_ _) | (with_reducible refine Kd.C_drew ?_))); (case side2 => exact (Kd.R_reads' HO148.out).2.1); rintro e w' ⟨rfl, ⟨nd, rfl⟩⟩))
                        go_ret
                        exact ⟨by first | rfl | (simp [errW_none, errW_some] <;> rfl) | (simp [*, errW_none, errW_some] <;> rfl), by repeat (first | (with_reducible first | exact HB.out | apply below_alloc | apply pw_below_drewN | apply below_drew1) | exact HB.out)⟩
                      · replace c30 := Bool.eq_false_iff.mpr c30
                        subst c30
                        have H1 : (some false) = some r := by rw [if_neg (show ¬ (false = true) by decide)] at H; exact H
                        clear H
                        have H := H1
                        clear H1
                        exact absurd ((Option.some.inj H).trans HRT.out) (by decide)
                    · rw [if_neg c26] at H
                      have c26b0 : (t137 == t138) = false := beq_eq_false_iff_ne.mpr c26
                      have c26b1 : (t137 != t138) = true := bne_iff_ne.mpr c26
                      exact absurd ((Option.some.inj H).trans HRT.out) (by decide)
                  · rw [if_neg c23] at H
                    have c23b0 : (t135 == t136) = false := beq_eq_false_iff_ne.mpr c23
                    have c23b1 : (t135 != t136) = true := bne_iff_ne.mpr c23
                    exact absurd ((Option.some.inj H).trans HRT.out) (by decide)
                · replace c20 := Bool.eq_false_iff.mpr c20
                  subst c20
                  have H1 : (some false) = some r := by rw [if_neg (show ¬ (false = true) by decide)] at H; exact H
                  clear H
                  have H := H1
                  clear H1
                  exact absurd ((Option.some.inj H).trans HRT.out) (by decide)
              · rw [if_neg c18] at H
                have c18b0 : (t132 == t133) = false := by simpa using c18
                (try (have c18b1 : decide (t132 = t133) = false := by simpa using c18))
                (try (have c18b2 : (t132 == t133) = false := by simpa using c18))
                (try (have c18b3 : ¬ (t132 = t133) := by simpa using c18))
                clear c18
                exact absurd ((Option.some.inj H).trans HRT.out) (by decide)
            · rw [if_neg c15] at H
              have c15b0 : (t130 == t131) = false := by simpa using c15
              (try (have c15b1 : decide (t130 = t131) = false := by simpa using c15))
              (try (have c15b2 : (t130 == t131) = false := by simpa using c15))
              (try (have c15b3 : ¬ (t130 = t131) := by simpa using c15))
              clear c15
              exact absurd ((Option.some.inj H).trans HRT.out) (by decide)
  · replace c5 := Bool.eq_false_iff.mpr c5
    subst c5
    have H1 : (some false) = some r := by rw [if_neg (show ¬ (false = true) by decide)] at H; exact H
    clear H
    have H := H1
    clear H1
    exact absurd ((Option.some.inj H).trans HRT.out) (by decide)

/-- THE ONE PURE STATEMENT of confidantlaw4_PrivTells: yours. -/
def confidantlaw4_PrivTells.Pure : Prop := ∀ (a0 : Int) (a1 : Int) (l2 : List Int), (Lit.int .u32 a0).wf = true → (Lit.int .u32 a1).wf = true → l2.length ≤ maxLen → l2.length * 8 ≤ 140737488351232 → (∀ x ∈ l2, (Lit.int .i64 x).wf = true) → ∃ k, confidantlaw4_PrivTells.f k a0 a1 l2 = some true
theorem confidantlaw4_PrivTells.walk (P : confidantlaw4_PrivTells.Pure) (a0 : Int) (a1 : Int) (a2 : Option Addr) (len2 cap2 : Nat) (z2 : List Int) (w : World) (w0 : (Lit.int .u32 a0).wf = true) (w1 : (Lit.int .u32 a1).wf = true) (w2 : (a2 = none ∧ len2 = 0 ∧ cap2 = 0 ∧ z2 = []) ∨ ∃ x, a2 = some x ∧ len2 ≤ cap2 ∧ cap2 ≤ maxLen ∧ z2.length = cap2 ∧ (∀ i, i < z2.length → w.cell? (x.add i) = some (.int .i64 (z2.getD i 0))) ∧ ∀ n ∈ z2, (Lit.int .i64 n).wf = true) (y2 : len2 * 8 ≤ 140737488351232) :
    Calls Try.prog 3 #[.int .u32 a0, .int .u32 a1, .slice a2 len2 cap2] w fun e w' => e = .returned (.bool true) ∧ Below w.heap.size w w' := by
  obtain ⟨l2, rfl, hr2, hm2, hw2, hc2⟩ := ReadsInt.ofRowC w2
  obtain ⟨k, h⟩ := P a0 a1 l2 w0 w1 hm2 y2 hw2
  refine (confidantlaw4_PrivTells.calls k a0 a1 _ _ l2 true w (Kd.C_of_reads (d := (0 : Int)) (h1 := fun _ => rfl) hr2) hc2 h rfl).mono ?_
  rintro e w' ⟨rfl, hd⟩
  exact ⟨rfl, hd⟩

end Go.Proofs.Ytpeeneaapmmciaa.PPrivTells
