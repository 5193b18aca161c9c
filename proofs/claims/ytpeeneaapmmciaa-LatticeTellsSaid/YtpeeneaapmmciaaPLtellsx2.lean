-- Printed by wip/tools/oprint.py, a program of this session.
import Derived.Test.YtpeeneaapmmciaaPLtellsx0
import Derived.Test.YtpeeneaapmmciaaPLtellsx1
namespace Go.Proofs.Ytpeeneaapmmciaa.PLtells
open Go.RowKit Go.Proofs.YtpeeneaapmmciaaW.PrintWords Go.Proofs.YtpeeneaapmmciaaW.PrintLast Go.Proofs.YtpeeneaapmmciaaW.PrintMore
attribute [local go_sem] max2_int min2_int max_two min_two max_three min_three max_four min_four   -- for this text's walks alone
set_option linter.unusedVariables false
set_option linter.unusedSimpArgs false

/-! ### order_those: function 70 -/
/-- A function value that answers of a number in p as g does. -/
def Says1 (w : World) (fid : Nat) (caps : Array Value) (p : Int → Prop) (g : Int → Bool) : Prop :=
  ∀ (a : Int) (w' : World), Below w.heap.size w w' → p a → Calls Try.prog fid (#[.int .i64 a] ++ caps) w' fun e w'' => e = .returned (.bool (g a)) ∧ Drawn0 w' w''
/-- The numbers below n of which something is so. -/
def pick (n : Nat) (g : Int → Bool) : List Int := ((List.range n).filter (fun x : Nat => g (x : Int))).map (fun x : Nat => (x : Int))
theorem pick_len (n : Nat) (g : Int → Bool) : (pick n g).length ≤ n := by
  unfold pick
  rw [List.length_map]
  exact Nat.le_trans (List.length_filter_le _ _) (by rw [List.length_range]; exact Nat.le_refl _)
theorem pick_yes (n : Nat) (g : Int → Bool) (h : g (n : Int) = true) : pick (n + 1) g = pick n g ++ [(n : Int)] := by
  unfold pick
  rw [List.range_succ, List.filter_append, List.map_append]
  simp [h]
theorem pick_no (n : Nat) (g : Int → Bool) (h : g (n : Int) = false) : pick (n + 1) g = pick n g := by
  unfold pick
  rw [List.range_succ, List.filter_append, List.map_append]
  simp [h]
set_option maxHeartbeats 400000 in
theorem order_those_calls (A : Option Addr) (c : Nat) (q : List (List Bool)) (fid : Nat) (caps : Array Value) (g : Int → Bool) (w : World)
    (hq : q.length ≤ 4096) (he : Enters fid) (hf : Says1 w fid caps (inB q.length) g) :
    Calls Try.prog 70 #[.slice A q.length c, .func (.func fid) #[] caps] w fun e w' => ∃ v0_ : Value, e = .returned v0_ ∧ Kd.R (Kd.int .i64) 3 w' w.heap.size (fun _ => True) v0_ (pick q.length g) ∧ Below w.heap.size w w' := by
  have HF := Aside0.mk hf
  have HE := Aside0.mk he
  have HB := Aside0.mk (Below.refl w.heap.size w)
  clear hf he
  go_enter Try.func70, Try.ntmps70
  go_wp2
  go_loopw [5, 9] (fun v i wr => ∃ d : Nat, d ≤ q.length ∧ i = .int .i64 (d : Int) ∧ Aside0 (Kd.R (Kd.int .i64) 3 wr w.heap.size (fun _ => True) v (pick d g)) ∧ Aside0 (Below w.heap.size w wr)) (fun _ i _ => q.length - (intOf i).toNat)
  case atStart => exact ⟨0, Nat.zero_le _, rfl, ⟨Kd.R_nil _ _ _ _ _⟩, HB⟩
  case round =>
    clear HB
    obtain ⟨d, hd0, rfl, HO, HB⟩ := hrel
    by_cases hlt : d < q.length
    · have HC := Aside0.mk (HF.out d wr HB.out (ctr_in hlt))
      have he := HE.out
      unfold Enters at he
      cases hg : g d with
      | true =>
        rw [hg] at HC
        have PY := Aside0.mk (pick_yes d g hg)
        have PL := Aside0.mk (pick_len d g)
        clear hg
        go_wp2_with (first | ((with_reducible refine gate_builtin (b := .append) (xs := #[.tmp 15, .tmp 17]) rfl ?_); at_builtin; refine Kd.R_append (Kd.int .i64) (w0 := w) w.heap.size rfl (.tmp 15) (.tmp 17) 23 3 (.int .i64 0) 8 rfl Try.underlying23 info3 rfl (by decide) (by omega) u5 (pick d g) (d : Int) [.int .i64 (d : Int)] (fun _ => True) (fun _ => False) rfl rfl ?aP (fun _ hk => hk.elim) ?aF ?aO ?aB ?aS ?aL ?_; (case aP => exact rfl); (case aB => exact (by repeat (first | (with_reducible first | exact HB.out | apply below_alloc | apply pw_below_drewN | apply below_drew1) | exact HB.out))); (case aF => exact (fun _ _ => trivial)); (case aO => exact (by (with_reducible repeat (first | apply Kd.R_alloc | apply Kd.R_drewN | apply Kd.R_drew)); exact HO.out)); (case aS => exact (below_size (by repeat (first | (with_reducible first | exact HB.out | apply below_alloc | apply pw_below_drewN | apply below_drew1) | exact HB.out)))); (case aL => have := PL.out; omega); intro v128 w12 ho hb hg hat; rw [← PY.out] at ho; have n0_ := Aside0.mk hb; have n1_ := Aside0.mk ho; clear HB HO; have HB := n0_; have HO := n1_; clear n0_ n1_ ho hb hg hat) | ((with_reducible refine HC.out.mono ?_); rintro e w' ⟨rfl, ⟨nd, rfl⟩⟩; clear HC))
        go_roundw
        case rel => exact ⟨d + 1, by omega, by go_num, ⟨by (with_reducible repeat (first | apply Kd.R_alloc | apply Kd.R_drewN | apply Kd.R_drew)); exact HO.out⟩, ⟨by repeat (first | (with_reducible first | exact HB.out | apply below_alloc | apply pw_below_drewN | apply below_drew1) | exact HB.out)⟩⟩
        case measure => simp [intOf]; omega
      | false =>
        rw [hg] at HC
        have PN := Aside0.mk (pick_no d g hg)
        clear hg
        go_wp2_with ((with_reducible refine HC.out.mono ?_); rintro e w' ⟨rfl, ⟨nd, rfl⟩⟩; clear HC)
        go_roundw
        case rel => exact ⟨d + 1, by omega, by go_num, ⟨by rw [PN.out]; (with_reducible repeat (first | apply Kd.R_alloc | apply Kd.R_drewN | apply Kd.R_drew)); exact HO.out⟩, ⟨by repeat (first | (with_reducible first | exact HB.out | apply below_alloc | apply pw_below_drewN | apply below_drew1) | exact HB.out)⟩⟩
        case measure => simp [intOf]; omega
    · have hdq : d = q.length := by omega
      subst hdq
      go_wp2
      go_ret
      exact ⟨_, rfl, by (with_reducible repeat (first | apply Kd.R_alloc | apply Kd.R_drewN | apply Kd.R_drew)); exact HO.out, by repeat (first | (with_reducible first | exact HB.out | apply below_alloc | apply pw_below_drewN | apply below_drew1) | exact HB.out)⟩

/-! ### order_Upper: function 34 -/
theorem has_l0 (q : List (List Bool)) (l : List Int) (k1 : Nat) (hq : q.length < 4611686018427387904) (hk1 : q.length < k1) (hl : l.length < 4611686018427387904) (d : Nat) : ∀ (k i : Nat), i + d = l.length → d + k1 < k →
    order_has.l0 k q l (l.length : Int) i = some ((l.drop i).all (fun a => decide (0 ≤ a ∧ a < (q.length : Int))) && sqB q) := by
  induction d with
  | zero =>
    intro k i hi hk
    obtain ⟨k, rfl⟩ : ∃ m, k = m + 1 := ⟨k - 1, by omega⟩
    simp only [order_has.l0]
    rw [if_neg (by omega), List.drop_of_length_le (by omega), List.all_nil, Bool.true_and, sq_eq q hq k (by omega)]
    rfl
  | succ d ih =>
    intro k i hi hk
    obtain ⟨k, rfl⟩ : ∃ m, k = m + 1 := ⟨k - 1, by omega⟩
    have hlt : i < l.length := by omega
    have hr : rd l (i : Int) = l[i] := by unfold rd; simp [hlt]
    have hd : l.drop i = l[i] :: l.drop (i + 1) := List.drop_eq_getElem_cons hlt
    have ew : wrap64 ((i : Int) + 1) = ((i + 1 : Nat) : Int) := by unfold wrap64; omega
    simp only [order_has.l0]
    rw [if_pos (by omega), if_pos (by omega), if_pos (by omega), hr, hd, List.all_cons]
    by_cases h1 : l[i] < 0
    · rw [if_pos h1]; have : ¬ (0 ≤ l[i] ∧ l[i] < (q.length : Int)) := by omega
      simp [this]
    · rw [if_neg h1]
      by_cases h2 : l[i] ≥ (q.length : Int)
      · rw [if_pos h2]; have : ¬ (0 ≤ l[i] ∧ l[i] < (q.length : Int)) := by omega
        simp [this]
      · rw [if_neg h2, ew, ih k (i + 1) (by omega) (by omega)]; have : (0 ≤ l[i] ∧ l[i] < (q.length : Int)) := by omega
        simp [this]
def inLB (q : List (List Bool)) (l : List Int) : Bool := l.all (fun a => decide (0 ≤ a ∧ a < (q.length : Int))) && sqB q
theorem has_eq (q : List (List Bool)) (l : List Int) (hq : q.length < 4611686018427387904) (hl : l.length < 4611686018427387904) : order_has.f (q.length + l.length + 2) q l = some (inLB q l) := by
  have := has_l0 q l (q.length + 1) hq (by omega) hl l.length (q.length + l.length + 2) 0 (by omega) (by omega)
  rw [List.drop_zero] at this
  exact this
theorem inLB_sq {q : List (List Bool)} {l : List Int} (h : inLB q l = true) : sqB q = true := by
  unfold inLB at h; rw [Bool.and_eq_true] at h; exact h.2
theorem inLB_in {q : List (List Bool)} {l : List Int} (h : inLB q l = true) {a : Int} (ha : a ∈ l) : inB q.length a := by
  unfold inLB at h; rw [Bool.and_eq_true, List.all_eq_true] at h
  have h1 := h.1 a ha
  rw [decide_eq_true_iff] at h1
  exact h1
theorem pair_reads (W : World) (a b : Int) (t g : Nat) (hg : g = W.heap.size) : Kd.C (Kd.int .i64) (W.alloc (.cells #[.int .i64 a, .int .i64 b] t)) (some ⟨g, 0, none⟩) 2 [a, b] := by
  subst hg
  refine Kd.C_of_reads (d := (0 : Int)) (h1 := fun _ => rfl) ⟨rfl, by decide, fun _ => ⟨_, rfl, fun j hj => ?_⟩⟩
  rw [add_plain]
  match j, hj with
  | 0, _ => simp
  | 1, _ => simp
def order_Upper.f (l0 : List (List Bool)) (a1 : Int) (a2 : Int) : Option (List Int) := if l0.length < 4611686018427387904 then some (if inLB l0 [a1, a2] = true then pick l0.length (fun c => at2 l0 a1 c && at2 l0 a2 c) else []) else none
set_option maxHeartbeats 400000 in
theorem order_Upper1_calls (p pa pb : Addr) (A : Option Addr) (c : Nat) (q : List (List Bool)) (a b d : Int) (w : World) (hp : w.cell? p = some (.slice A q.length c)) (hpa : w.cell? pa = some (.int .i64 a)) (hpb : w.cell? pb = some (.int .i64 b))
    (hr : Kd.C (Kd.slice 4 Kd.bool) w A q.length q) (hs : sqB q = true) (h0 : 0 ≤ a) (h1 : a < (q.length : Int)) (h2 : 0 ≤ b) (h3 : b < (q.length : Int)) (h4 : 0 ≤ d) (h5 : d < (q.length : Int)) :
    Calls Try.prog 71 #[.int .i64 d, .pointer (some p), .pointer (some pa), .pointer (some pb)] w fun e w' => e = .returned (.bool (at2 q a d && at2 q b d)) ∧ Drawn0 w w' := by
  have HS := Aside0.mk hs
  have HR := Aside0.mk hr
  clear hs hr
  obtain ⟨ad, ad2, c0, rfl, hx, hx2⟩ := at2_reads HR.out a d h0 h1 h4 (by rw [sq_row q HS.out a h0 h1]; exact h5)
  obtain ⟨ad', ad3, c1, hA, hy, hy2⟩ := at2_reads HR.out b d h2 h3 h4 (by rw [sq_row q HS.out b h2 h3]; exact h5)
  cases hA
  have ra : d < ((rd_L2 q a).length : Int) := by rw [sq_row q HS.out a h0 h1]; exact h5
  have rb : d < ((rd_L2 q b).length : Int) := by rw [sq_row q HS.out b h2 h3]; exact h5
  clear HR HS
  generalize at2 q a d = x at *
  generalize at2 q b d = y at *
  cases x
  all_goals
    go_enter Try.func71, Try.ntmps71
    go_wp2
    go_ret
    exact ⟨by simp, by repeat (first | exact Drawn0.refl _ | apply Drawn0.step)⟩
set_option maxHeartbeats 800000 in
theorem order_Upper.calls (A0 : Option Addr) (c0 : Nat) (l0 : List (List Bool)) (a1 : Int) (a2 : Int) (r : List Int) (w : World) (hr0 : Kd.C (Kd.slice 4 Kd.bool) w A0 l0.length l0) (hc0 : l0.length ≤ c0) (h : order_Upper.f l0 a1 a2 = some r) :
    Calls Try.prog 34 #[.slice A0 l0.length c0, .int .i64 a1, .int .i64 a2] w fun e w' => ∃ v0_ : Value, e = .returned (v0_) ∧ Kd.R (Kd.int .i64) 3 w' w.heap.size (fun _ => True) v0_ r ∧ Below w.heap.size w w' := by
  unfold order_Upper.f at h
  by_cases hq : l0.length < 4611686018427387904
  · rw [if_pos hq] at h
    obtain rfl := Option.some.inj h
    clear h
    have HC0 := Aside0.mk hc0
    have HR0 := Aside0.mk hr0
    have HH := Aside0.mk (has_eq l0 [a1, a2] hq (by simp))
    clear hc0 hr0
    cases hb : inLB l0 [a1, a2] with
    | false =>
      rw [hb] at HH
      clear hb
      go_enter Try.func34, Try.ntmps34
      go_wp2_with fail
      refine (order_has.calls (l0.length + [a1, a2].length + 2) A0 c0 l0 (some ⟨w.heap.size + 1 + 1 + 1, 0, none⟩) 2 [a1, a2] false _ (Kd.C_alloc (Kd.C_alloc (Kd.C_alloc (Kd.C_alloc HR0.out _) _) _) _) HC0.out (by exact pair_reads _ a1 a2 _ _ (by simp)) (by simp) HH.out).mono ?_
      rintro e w' ⟨rfl, ⟨nd, rfl⟩⟩
      go_wp2
      go_ret
      exact ⟨_, rfl, by simp only [Bool.false_eq_true, if_false]; exact Kd.R_nil _ _ _ _ _, by repeat (first | exact Below.refl _ _ | apply below_alloc | apply pw_below_drewN | apply below_drew1)⟩
    | true =>
      rw [hb] at HH
      have hn := sq_len l0 (inLB_sq hb)
      have HI := Aside0.mk hb
      clear hb
      go_enter Try.func34, Try.ntmps34
      go_wp2_with fail
      refine (order_has.calls (l0.length + [a1, a2].length + 2) A0 c0 l0 (some ⟨w.heap.size + 1 + 1 + 1, 0, none⟩) 2 [a1, a2] true _ (Kd.C_alloc (Kd.C_alloc (Kd.C_alloc (Kd.C_alloc HR0.out _) _) _) _) HC0.out (by exact pair_reads _ a1 a2 _ _ (by simp)) (by simp) HH.out).mono ?_
      rintro e w' ⟨rfl, ⟨nd, rfl⟩⟩
      go_wp2_with fail
      refine (order_those_calls A0 c0 l0 71 #[.pointer (some ⟨w.heap.size, 0, none⟩), .pointer (some ⟨w.heap.size + 1, 0, none⟩), .pointer (some ⟨w.heap.size + 1 + 1, 0, none⟩)] (fun c => at2 l0 a1 c && at2 l0 a2 c) _ (by omega) (enters_of Try.func71 (by kernel_rfl) (by kernel_rfl)) ?s3).mono ?_
      case s3 =>
        intro d w' hbel hd
        have ha := inLB_in HI.out (show a1 ∈ [a1, a2] by simp)
        have hb := inLB_in HI.out (show a2 ∈ [a1, a2] by simp)
        exact calls_of_args rfl (order_Upper1_calls ⟨w.heap.size, 0, none⟩ ⟨w.heap.size + 1, 0, none⟩ ⟨w.heap.size + 1 + 1, 0, none⟩ A0 c0 l0 a1 a2 d w' (pw_cell_below hbel (by go_simp)) (pw_cell_below hbel (by go_simp)) (pw_cell_below hbel (by go_simp)) (Kd.C_below (Kd.C_drewN (Kd.C_alloc (Kd.C_alloc (Kd.C_alloc (Kd.C_alloc HR0.out _) _) _) _) _) hbel) (inLB_sq HI.out) ha.1 ha.2 hb.1 hb.2 hd.1 hd.2)
      rintro e w' ⟨v, rfl, ho, hbel⟩
      have HB0 : Below w.heap.size w (((((w.alloc (Obj.cells #[Value.slice A0 l0.length c0] 32)).alloc (Obj.cells #[Value.int IntKind.i64 a1] 3)).alloc (Obj.cells #[Value.int IntKind.i64 a2] 3)).alloc (Obj.cells #[Value.int IntKind.i64 a1, Value.int IntKind.i64 a2] 3)).drewN nd) := by repeat (first | exact Below.refl _ _ | apply below_alloc | apply pw_below_drewN | apply below_drew1)
      have HO := Aside0.mk (Kd.R_lower ho (below_size HB0))
      have HB := Aside0.mk (below_step HB0 hbel)
      clear ho hbel HB0
      go_wp2
      go_ret
      exact ⟨_, rfl, by first | exact HO.out | (rw [if_pos rfl]; exact HO.out), HB.out⟩
  · rw [if_neg hq] at h; cases h

/-! ### order_Lower: function 36 -/
def order_Lower.f (l0 : List (List Bool)) (a1 : Int) (a2 : Int) : Option (List Int) := if l0.length < 4611686018427387904 then some (if inLB l0 [a1, a2] = true then pick l0.length (fun c => at2 l0 c a1 && at2 l0 c a2) else []) else none
set_option maxHeartbeats 400000 in
theorem order_Lower1_calls (p pa pb : Addr) (A : Option Addr) (c : Nat) (q : List (List Bool)) (a b d : Int) (w : World) (hp : w.cell? p = some (.slice A q.length c)) (hpa : w.cell? pa = some (.int .i64 a)) (hpb : w.cell? pb = some (.int .i64 b))
    (hr : Kd.C (Kd.slice 4 Kd.bool) w A q.length q) (hs : sqB q = true) (h0 : 0 ≤ a) (h1 : a < (q.length : Int)) (h2 : 0 ≤ b) (h3 : b < (q.length : Int)) (h4 : 0 ≤ d) (h5 : d < (q.length : Int)) :
    Calls Try.prog 73 #[.int .i64 d, .pointer (some p), .pointer (some pa), .pointer (some pb)] w fun e w' => e = .returned (.bool (at2 q d a && at2 q d b)) ∧ Drawn0 w w' := by
  have HS := Aside0.mk hs
  have HR := Aside0.mk hr
  clear hs hr
  obtain ⟨ad, ad2, c0, rfl, hx, hx2⟩ := at2_reads HR.out d a h4 h5 h0 (by rw [sq_row q HS.out d h4 h5]; exact h1)
  obtain ⟨ad', ad3, c1, hA, hy, hy2⟩ := at2_reads HR.out d b h4 h5 h2 (by rw [sq_row q HS.out d h4 h5]; exact h3)
  cases hA
  have hzx := hy.symm.trans hx
  simp only [Option.some.injEq, Value.slice.injEq] at hzx
  obtain ⟨rfl, -, rfl⟩ := hzx
  clear hy
  have ra : a < ((rd_L2 q d).length : Int) := by rw [sq_row q HS.out d h4 h5]; exact h1
  have rb : b < ((rd_L2 q d).length : Int) := by rw [sq_row q HS.out d h4 h5]; exact h3
  clear HR HS
  generalize at2 q d a = x at *
  generalize at2 q d b = y at *
  cases x
  all_goals
    go_enter Try.func73, Try.ntmps73
    go_wp2
    go_quiet (fail)
    all_goals go_wp2
    all_goals go_ret
    all_goals exact ⟨by simp, by repeat (first | exact Drawn0.refl _ | apply Drawn0.step)⟩
set_option maxHeartbeats 800000 in
theorem order_Lower.calls (A0 : Option Addr) (c0 : Nat) (l0 : List (List Bool)) (a1 : Int) (a2 : Int) (r : List Int) (w : World) (hr0 : Kd.C (Kd.slice 4 Kd.bool) w A0 l0.length l0) (hc0 : l0.length ≤ c0) (h : order_Lower.f l0 a1 a2 = some r) :
    Calls Try.prog 36 #[.slice A0 l0.length c0, .int .i64 a1, .int .i64 a2] w fun e w' => ∃ v0_ : Value, e = .returned (v0_) ∧ Kd.R (Kd.int .i64) 3 w' w.heap.size (fun _ => True) v0_ r ∧ Below w.heap.size w w' := by
  unfold order_Lower.f at h
  by_cases hq : l0.length < 4611686018427387904
  · rw [if_pos hq] at h
    obtain rfl := Option.some.inj h
    clear h
    have HC0 := Aside0.mk hc0
    have HR0 := Aside0.mk hr0
    have HH := Aside0.mk (has_eq l0 [a1, a2] hq (by simp))
    clear hc0 hr0
    cases hb : inLB l0 [a1, a2] with
    | false =>
      rw [hb] at HH
      clear hb
      go_enter Try.func36, Try.ntmps36
      go_wp2_with fail
      refine (order_has.calls (l0.length + [a1, a2].length + 2) A0 c0 l0 (some ⟨w.heap.size + 1 + 1 + 1, 0, none⟩) 2 [a1, a2] false _ (Kd.C_alloc (Kd.C_alloc (Kd.C_alloc (Kd.C_alloc HR0.out _) _) _) _) HC0.out (by exact pair_reads _ a1 a2 _ _ (by simp)) (by simp) HH.out).mono ?_
      rintro e w' ⟨rfl, ⟨nd, rfl⟩⟩
      go_wp2
      go_ret
      exact ⟨_, rfl, by simp only [Bool.false_eq_true, if_false]; exact Kd.R_nil _ _ _ _ _, by repeat (first | exact Below.refl _ _ | apply below_alloc | apply pw_below_drewN | apply below_drew1)⟩
    | true =>
      rw [hb] at HH
      have hn := sq_len l0 (inLB_sq hb)
      have HI := Aside0.mk hb
      clear hb
      go_enter Try.func36, Try.ntmps36
      go_wp2_with fail
      refine (order_has.calls (l0.length + [a1, a2].length + 2) A0 c0 l0 (some ⟨w.heap.size + 1 + 1 + 1, 0, none⟩) 2 [a1, a2] true _ (Kd.C_alloc (Kd.C_alloc (Kd.C_alloc (Kd.C_alloc HR0.out _) _) _) _) HC0.out (by exact pair_reads _ a1 a2 _ _ (by simp)) (by simp) HH.out).mono ?_
      rintro e w' ⟨rfl, ⟨nd, rfl⟩⟩
      go_wp2_with fail
      refine (order_those_calls A0 c0 l0 73 #[.pointer (some ⟨w.heap.size, 0, none⟩), .pointer (some ⟨w.heap.size + 1, 0, none⟩), .pointer (some ⟨w.heap.size + 1 + 1, 0, none⟩)] (fun c => at2 l0 c a1 && at2 l0 c a2) _ (by omega) (enters_of Try.func73 (by kernel_rfl) (by kernel_rfl)) ?s3).mono ?_
      case s3 =>
        intro d w' hbel hd
        have ha := inLB_in HI.out (show a1 ∈ [a1, a2] by simp)
        have hb := inLB_in HI.out (show a2 ∈ [a1, a2] by simp)
        exact calls_of_args rfl (order_Lower1_calls ⟨w.heap.size, 0, none⟩ ⟨w.heap.size + 1, 0, none⟩ ⟨w.heap.size + 1 + 1, 0, none⟩ A0 c0 l0 a1 a2 d w' (pw_cell_below hbel (by go_simp)) (pw_cell_below hbel (by go_simp)) (pw_cell_below hbel (by go_simp)) (Kd.C_below (Kd.C_drewN (Kd.C_alloc (Kd.C_alloc (Kd.C_alloc (Kd.C_alloc HR0.out _) _) _) _) _) hbel) (inLB_sq HI.out) ha.1 ha.2 hb.1 hb.2 hd.1 hd.2)
      rintro e w' ⟨v, rfl, ho, hbel⟩
      have HB0 : Below w.heap.size w (((((w.alloc (Obj.cells #[Value.slice A0 l0.length c0] 32)).alloc (Obj.cells #[Value.int IntKind.i64 a1] 3)).alloc (Obj.cells #[Value.int IntKind.i64 a2] 3)).alloc (Obj.cells #[Value.int IntKind.i64 a1, Value.int IntKind.i64 a2] 3)).drewN nd) := by repeat (first | exact Below.refl _ _ | apply below_alloc | apply pw_below_drewN | apply below_drew1)
      have HO := Aside0.mk (Kd.R_lower ho (below_size HB0))
      have HB := Aside0.mk (below_step HB0 hbel)
      clear ho hbel HB0
      go_wp2
      go_ret
      exact ⟨_, rfl, by first | exact HO.out | (rw [if_pos rfl]; exact HO.out), HB.out⟩
  · rw [if_neg hq] at h; cases h

/-! ### order_first: function 74 -/
/-- The first one of a list that stands so to each of it. -/
def firstB (l : List Int) (g : Int → Int → Bool) : Int × Bool := match l.find? (fun a => l.all (fun b => g a b)) with | some a => (a, true) | none => (0, false)
theorem firstB_yes (l : List Int) (g : Int → Int → Bool) (i : Nat) (hi : i < l.length) (hno : ∀ x : Nat, x < i → (l.all fun b => g (rd l x) b) = false) (h : (l.all fun b => g (rd l i) b) = true) : firstB l g = (rd l i, true) := by
  have hr : rd l (i : Int) = l[i] := by unfold rd; simp [hi]
  have hf : l.find? (fun a => l.all (fun b => g a b)) = some l[i] := by
    rw [List.find?_eq_some_iff_getElem]
    refine ⟨by rw [← hr]; exact h, i, hi, rfl, fun j hj => ?_⟩
    have := hno j hj
    have hr2 : rd l (j : Int) = l[j] := by unfold rd; simp [show j < l.length by omega]
    rw [hr2] at this
    simp [this]
  unfold firstB
  rw [hf, hr]
theorem firstB_no (l : List Int) (g : Int → Int → Bool) (hno : ∀ x : Nat, x < l.length → (l.all fun b => g (rd l x) b) = false) : firstB l g = (0, false) := by
  have hf : l.find? (fun a => l.all (fun b => g a b)) = none := by
    rw [List.find?_eq_none]
    intro x hx
    obtain ⟨j, hj, rfl⟩ := List.getElem_of_mem hx
    have := hno j hj
    have hr2 : rd l (j : Int) = l[j] := by unfold rd; simp [hj]
    rw [hr2] at this
    simp [this]
  unfold firstB
  rw [hf]
theorem all_take (l : List Int) (f : Int → Bool) (j : Nat) (hj : j < l.length) : (l.take (j + 1)).all f = ((l.take j).all f && f (rd l j)) := by
  have hr : rd l (j : Int) = l[j] := by unfold rd; simp [hj]
  rw [List.take_succ_eq_append_getElem hj, List.all_append, hr]
  simp
theorem rd_mem (l : List Int) (j : Nat) (hj : j < l.length) : rd l (j : Int) ∈ l := by
  have hr : rd l (j : Int) = l[j] := by unfold rd; simp [hj]
  rw [hr]; exact List.getElem_mem hj
set_option maxHeartbeats 800000 in
theorem order_first_calls (A : Option Addr) (c : Nat) (l : List Int) (fid : Nat) (caps : Array Value) (p : Int → Prop) (g : Int → Int → Bool) (w : World)
    (hr : Kd.C (Kd.int .i64) w A l.length l) (hl : l.length < 4611686018427387904) (he : Enters fid) (hp : ∀ a ∈ l, p a) (hf : Says2 w fid caps p g) :
    Calls Try.prog 74 #[.slice A l.length c, .func (.func fid) #[] caps] w fun e w' => e = .returned (.tuple #[.int .i64 (firstB l g).1, .bool (firstB l g).2]) ∧ Drawn0 w w' := by
  have HR := Aside0.mk hr
  have HE := Aside0.mk he
  have HP := Aside0.mk hp
  have HF := Aside0.mk hf
  clear hr he hp hf
  go_enter Try.func74, Try.ntmps74
  go_wp2
  go_loopw [13] (fun i wr => ∃ a : Nat, a ≤ l.length ∧ i = .int .i64 (a : Int) ∧ Drawn0 w wr ∧ Aside0 (∀ x : Nat, x < a → (l.all fun b => g (rd l x) b) = false)) (fun i _ => l.length - (intOf i).toNat)
  case atStart => exact ⟨0, Nat.zero_le _, rfl, by repeat (first | exact Drawn0.refl _ | apply Drawn0.step), ⟨fun x hx => absurd hx (Nat.not_lt_zero _)⟩⟩
  case round =>
    obtain ⟨a, ha, rfl, hd, HG⟩ := hrel
    by_cases hlt : a < l.length
    · obtain ⟨n0, rfl⟩ := hd
      obtain ⟨ad, rfl, hx⟩ := Kd.at_int HR.out (a : Int) (by omega) (by omega)
      simp only [Int.toNat_natCast] at hx
      have HPA := Aside0.mk (HP.out _ (rd_mem l a hlt))
      generalize hva : rd l (a : Int) = va at *
      have HVA := Aside0.mk hva
      clear hva
      go_wp2_with fail
      go_loopw [8, 19] (fun o i wr => ∃ b : Nat, b ≤ l.length ∧ i = .int .i64 (b : Int) ∧ Drawn0 w wr ∧ o = .bool ((l.take b).all fun y => g va y)) (fun _ i _ => l.length - (intOf i).toNat)
      case atStart => exact ⟨0, Nat.zero_le _, rfl, by repeat (first | exact Drawn0.refl _ | apply Drawn0.step), by simp⟩
      case round =>
        obtain ⟨b, hb, rfl, ⟨n1, rfl⟩, rfl⟩ := hrel
        by_cases hlt2 : b < l.length
        · obtain ⟨ad', hA, hy⟩ := Kd.at_int HR.out (b : Int) (by omega) (by omega)
          cases hA
          simp only [Int.toNat_natCast] at hy
          have HPB := Aside0.mk (HP.out _ (rd_mem l b hlt2))
          have HT := Aside0.mk (all_take l (fun y => g va y) b hlt2)
          generalize hvb : rd l (b : Int) = vb at *
          generalize ho : ((l.take b).all fun y => g va y) = o at *
          have HC := Aside0.mk (HF.out va vb (w.drewN n1) ((Drawn0.step (Drawn0.refl w) n1).below) HPA.out HPB.out)
          have he := HE.out
          unfold Enters at he
          clear hvb ho
          generalize hg : g va vb = z at *
          clear hg
          have HT' : Aside0 (((l.take (b + 1)).all fun y => g va y) = (o && z)) := ⟨by rw [HT.out]⟩
          clear HT
          cases o with
          | true =>
            go_wp2_with ((with_reducible refine HC.out.mono ?_); rintro e w' ⟨rfl, ⟨nd, rfl⟩⟩)
            go_roundw
            case rel => exact ⟨b + 1, by omega, by go_num, by repeat (first | exact Drawn0.refl _ | apply Drawn0.step), by rw [HT'.out]; simp⟩
            case measure => simp [intOf]; omega
          | false =>
            go_wp2_with ((with_reducible refine HC.out.mono ?_); rintro e w' ⟨rfl, ⟨nd, rfl⟩⟩)
            go_roundw
            case rel => exact ⟨b + 1, by omega, by go_num, by repeat (first | exact Drawn0.refl _ | apply Drawn0.step), by rw [HT'.out]; simp⟩
            case measure => simp [intOf]; omega
        · have hbe : b = l.length := by omega
          have HA : Aside0 (((l.take b).all fun y => g va y) = l.all fun y => g va y) := ⟨by rw [List.take_of_length_le (by omega)]⟩
          generalize hz : ((l.take b).all fun y => g va y) = z at *
          have HZ : Aside0 ((l.all fun y => g (rd l (a : Int)) y) = z) := ⟨by rw [HVA.out]; exact HA.out.symm⟩
          clear hz HA hbe
          cases z with
          | true =>
            have HFI := Aside0.mk (firstB_yes l g a hlt HG.out HZ.out)
            go_wp2
            go_ret2
            exact ⟨by (rw [HFI.out, HVA.out]; try rfl), by repeat (first | exact Drawn0.refl _ | apply Drawn0.step)⟩
          | false =>
            go_wp2
            go_roundw
            case rel => exact ⟨a + 1, by omega, by go_num, by repeat (first | exact Drawn0.refl _ | apply Drawn0.step), ⟨fun x hx => by
              rcases Nat.lt_or_eq_of_le (Nat.le_of_lt_succ hx) with h | h
              · exact HG.out x h
              · subst h; exact HZ.out⟩⟩
            case measure => simp [intOf]; omega
    · have hae : a = l.length := by omega
      subst hae
      have HFI := Aside0.mk (firstB_no l g HG.out)
      go_wp2
      go_ret2
      exact ⟨by (rw [HFI.out]; try rfl), by repeat (first | exact hd | exact Drawn0.refl _ | apply Drawn0.step)⟩

/-! ### order_Least: function 39 -/
def order_Least.f (l0 : List (List Bool)) (l1 : List Int) : Option (Int × Bool) := if l0.length < 4611686018427387904 then (if l1.length < 4611686018427387904 then some (if inLB l0 l1 = true then firstB l1 (fun a b => at2 l0 a b) else (0, false)) else none) else none
set_option maxHeartbeats 400000 in
theorem order_Least1_calls (p : Addr) (A : Option Addr) (c : Nat) (q : List (List Bool)) (a b : Int) (w : World) (hp : w.cell? p = some (.slice A q.length c))
    (hr : Kd.C (Kd.slice 4 Kd.bool) w A q.length q) (h0 : 0 ≤ a) (h1 : a < (q.length : Int)) (h2 : 0 ≤ b) (h3 : b < (q.length : Int)) (h4 : b < ((rd_L2 q a).length : Int)) :
    Calls Try.prog 75 #[.int .i64 a, .int .i64 b, .pointer (some p)] w fun e w' => e = .returned (.bool (at2 q a b)) ∧ Drawn0 w w' := by
  obtain ⟨ad, ad2, c0, rfl, hx, hx2⟩ := at2_reads hr a b h0 h1 h2 h4
  clear hr
  go_enter Try.func75, Try.ntmps75
  go_wp2
  go_ret
  exact ⟨rfl, by repeat (first | exact Drawn0.refl _ | apply Drawn0.step)⟩
set_option maxHeartbeats 800000 in
theorem order_Least.calls (A0 : Option Addr) (c0 : Nat) (l0 : List (List Bool)) (A1 : Option Addr) (c1 : Nat) (l1 : List Int) (r1 : Int) (r2 : Bool) (w : World) (hr0 : Kd.C (Kd.slice 4 Kd.bool) w A0 l0.length l0) (hc0 : l0.length ≤ c0) (hr1 : Kd.C (Kd.int .i64) w A1 l1.length l1) (hc1 : l1.length ≤ c1) (h : order_Least.f l0 l1 = some (r1, r2)) :
    Calls Try.prog 39 #[.slice A0 l0.length c0, .slice A1 l1.length c1] w fun e w' => e = .returned (.tuple #[.int .i64 r1, .bool r2]) ∧ Below w.heap.size w w' := by
  unfold order_Least.f at h
  by_cases hq : l0.length < 4611686018427387904
  · by_cases hl : l1.length < 4611686018427387904
    · rw [if_pos hq, if_pos hl] at h
      have h' := Option.some.inj h
      clear h
      have HC0 := Aside0.mk hc0
      have HC1 := Aside0.mk hc1
      have HR0 := Aside0.mk hr0
      have HR1 := Aside0.mk hr1
      have HH := Aside0.mk (has_eq l0 l1 hq hl)
      clear hc0 hr0 hc1 hr1
      cases hb : inLB l0 l1 with
      | false =>
        rw [hb] at HH h'
        simp only [Bool.false_eq_true, if_false, Prod.mk.injEq] at h'
        obtain ⟨rfl, rfl⟩ := h'
        clear hb
        go_enter Try.func39, Try.ntmps39
        go_wp2_with fail
        refine (order_has.calls (l0.length + l1.length + 2) A0 c0 l0 A1 c1 l1 false _ (Kd.C_alloc HR0.out _) HC0.out (Kd.C_alloc HR1.out _) HC1.out HH.out).mono ?_
        rintro e w' ⟨rfl, ⟨nd, rfl⟩⟩
        go_wp2
        go_ret2
        exact ⟨rfl, by repeat (first | exact Below.refl _ _ | apply below_alloc | apply pw_below_drewN | apply below_drew1)⟩
      | true =>
        rw [hb] at HH h'
        rw [if_pos rfl] at h'
        have HI := Aside0.mk hb
        have HE := Aside0.mk h'
        clear hb h'
        go_enter Try.func39, Try.ntmps39
        go_wp2_with fail
        refine (order_has.calls (l0.length + l1.length + 2) A0 c0 l0 A1 c1 l1 true _ (Kd.C_alloc HR0.out _) HC0.out (Kd.C_alloc HR1.out _) HC1.out HH.out).mono ?_
        rintro e w' ⟨rfl, ⟨nd, rfl⟩⟩
        go_wp2_with fail
        refine (order_first_calls A1 c1 l1 75 #[.pointer (some ⟨w.heap.size, 0, none⟩)] (inB l0.length) (fun a b => at2 l0 a b) _ (Kd.C_drewN (Kd.C_alloc HR1.out _) _) hl (enters_of Try.func75 (by kernel_rfl) (by kernel_rfl)) (fun a ha => inLB_in HI.out ha) ?s3).mono ?_
        case s3 =>
          intro a b w' hbel ha hb'
          exact calls_of_args rfl (order_Least1_calls ⟨w.heap.size, 0, none⟩ A0 c0 l0 a b w' (pw_cell_below hbel (by go_simp)) (Kd.C_below (Kd.C_drewN (Kd.C_alloc HR0.out _) _) hbel) ha.1 ha.2 hb'.1 hb'.2 (by rw [sq_row l0 (inLB_sq HI.out) a ha.1 ha.2]; exact hb'.2))
        rw [HE.out]
        rintro e w' ⟨rfl, ⟨nd2, rfl⟩⟩
        go_wp2
        go_ret2
        exact ⟨rfl, by repeat (first | exact Below.refl _ _ | apply below_alloc | apply pw_below_drewN | apply below_drew1)⟩
    · rw [if_pos hq, if_neg hl] at h; cases h
  · rw [if_neg hq] at h; cases h

/-! ### order_Greatest: function 41 -/
def order_Greatest.f (l0 : List (List Bool)) (l1 : List Int) : Option (Int × Bool) := if l0.length < 4611686018427387904 then (if l1.length < 4611686018427387904 then some (if inLB l0 l1 = true then firstB l1 (fun a b => at2 l0 b a) else (0, false)) else none) else none
set_option maxHeartbeats 400000 in
theorem order_Greatest1_calls (p : Addr) (A : Option Addr) (c : Nat) (q : List (List Bool)) (a b : Int) (w : World) (hp : w.cell? p = some (.slice A q.length c))
    (hr : Kd.C (Kd.slice 4 Kd.bool) w A q.length q) (h0 : 0 ≤ a) (h1 : a < (q.length : Int)) (h2 : 0 ≤ b) (h3 : b < (q.length : Int)) (h4 : a < ((rd_L2 q b).length : Int)) :
    Calls Try.prog 77 #[.int .i64 a, .int .i64 b, .pointer (some p)] w fun e w' => e = .returned (.bool (at2 q b a)) ∧ Drawn0 w w' := by
  obtain ⟨ad, ad2, c0, rfl, hx, hx2⟩ := at2_reads hr b a h2 h3 h0 h4
  clear hr
  go_enter Try.func77, Try.ntmps77
  go_wp2
  go_ret
  exact ⟨rfl, by repeat (first | exact Drawn0.refl _ | apply Drawn0.step)⟩
set_option maxHeartbeats 800000 in
theorem order_Greatest.calls (A0 : Option Addr) (c0 : Nat) (l0 : List (List Bool)) (A1 : Option Addr) (c1 : Nat) (l1 : List Int) (r1 : Int) (r2 : Bool) (w : World) (hr0 : Kd.C (Kd.slice 4 Kd.bool) w A0 l0.length l0) (hc0 : l0.length ≤ c0) (hr1 : Kd.C (Kd.int .i64) w A1 l1.length l1) (hc1 : l1.length ≤ c1) (h : order_Greatest.f l0 l1 = some (r1, r2)) :
    Calls Try.prog 41 #[.slice A0 l0.length c0, .slice A1 l1.length c1] w fun e w' => e = .returned (.tuple #[.int .i64 r1, .bool r2]) ∧ Below w.heap.size w w' := by
  unfold order_Greatest.f at h
  by_cases hq : l0.length < 4611686018427387904
  · by_cases hl : l1.length < 4611686018427387904
    · rw [if_pos hq, if_pos hl] at h
      have h' := Option.some.inj h
      clear h
      have HC0 := Aside0.mk hc0
      have HC1 := Aside0.mk hc1
      have HR0 := Aside0.mk hr0
      have HR1 := Aside0.mk hr1
      have HH := Aside0.mk (has_eq l0 l1 hq hl)
      clear hc0 hr0 hc1 hr1
      cases hb : inLB l0 l1 with
      | false =>
        rw [hb] at HH h'
        simp only [Bool.false_eq_true, if_false, Prod.mk.injEq] at h'
        obtain ⟨rfl, rfl⟩ := h'
        clear hb
        go_enter Try.func41, Try.ntmps41
        go_wp2_with fail
        refine (order_has.calls (l0.length + l1.length + 2) A0 c0 l0 A1 c1 l1 false _ (Kd.C_alloc HR0.out _) HC0.out (Kd.C_alloc HR1.out _) HC1.out HH.out).mono ?_
        rintro e w' ⟨rfl, ⟨nd, rfl⟩⟩
        go_wp2
        go_ret2
        exact ⟨rfl, by repeat (first | exact Below.refl _ _ | apply below_alloc | apply pw_below_drewN | apply below_drew1)⟩
      | true =>
        rw [hb] at HH h'
        rw [if_pos rfl] at h'
        have HI := Aside0.mk hb
        have HE := Aside0.mk h'
        clear hb h'
        go_enter Try.func41, Try.ntmps41
        go_wp2_with fail
        refine (order_has.calls (l0.length + l1.length + 2) A0 c0 l0 A1 c1 l1 true _ (Kd.C_alloc HR0.out _) HC0.out (Kd.C_alloc HR1.out _) HC1.out HH.out).mono ?_
        rintro e w' ⟨rfl, ⟨nd, rfl⟩⟩
        go_wp2_with fail
        refine (order_first_calls A1 c1 l1 77 #[.pointer (some ⟨w.heap.size, 0, none⟩)] (inB l0.length) (fun a b => at2 l0 b a) _ (Kd.C_drewN (Kd.C_alloc HR1.out _) _) hl (enters_of Try.func77 (by kernel_rfl) (by kernel_rfl)) (fun a ha => inLB_in HI.out ha) ?s3).mono ?_
        case s3 =>
          intro a b w' hbel ha hb'
          exact calls_of_args rfl (order_Greatest1_calls ⟨w.heap.size, 0, none⟩ A0 c0 l0 a b w' (pw_cell_below hbel (by go_simp)) (Kd.C_below (Kd.C_drewN (Kd.C_alloc HR0.out _) _) hbel) ha.1 ha.2 hb'.1 hb'.2 (by rw [sq_row l0 (inLB_sq HI.out) b hb'.1 hb'.2]; exact ha.2))
        rw [HE.out]
        rintro e w' ⟨rfl, ⟨nd2, rfl⟩⟩
        go_wp2
        go_ret2
        exact ⟨rfl, by repeat (first | exact Below.refl _ _ | apply below_alloc | apply pw_below_drewN | apply below_drew1)⟩
    · rw [if_pos hq, if_neg hl] at h; cases h
  · rw [if_neg hq] at h; cases h

/-! ### lattice_at: function 79 -/
def lattice_at.f (l0 : List (List Int)) (a1 : Int) (a2 : Int) (a3 : Int) : Option (Int) := if a1 < 0 then (some a3) else (if a2 < 0 then (some a3) else (if a1 ≥ (l0.length : Int) then (some a3) else (if a2 ≥ (l0.length : Int) then (some a3) else (if 0 ≤ a1 then (if a1 < (l0.length : Int) then (if 0 ≤ a2 then (if a2 < ((rd_L4 l0 a1).length : Int) then (some (rd (rd_L4 l0 a1) a2)) else (none)) else (none)) else (none)) else (none)))))
set_option maxHeartbeats 8000000 in
set_option maxRecDepth 100000 in
theorem lattice_at.calls (A0 : Option Addr) (c0 : Nat) (l0 : List (List Int)) (a1 : Int) (a2 : Int) (a3 : Int) (r : Int) (w : World) (hr0 : Kd.C (Kd.slice 3 (Kd.int .i64)) w A0 l0.length l0) (hc0 : l0.length ≤ c0) (h : lattice_at.f l0 a1 a2 a3 = some r) :
    Calls Try.prog 79 #[.slice A0 l0.length c0, .int .i64 a1, .int .i64 a2, .int .i64 a3] w fun e w' => e = .returned (.int .i64 r) ∧ Drawn0 w w' := by
  have HR0 := Aside0.mk hr0
  have HC0 := Aside0.mk hc0
  clear hr0 hc0
  have H : (if a1 < 0 then (some a3) else (if a2 < 0 then (some a3) else (if a1 ≥ (l0.length : Int) then (some a3) else (if a2 ≥ (l0.length : Int) then (some a3) else (if 0 ≤ a1 then (if a1 < (l0.length : Int) then (if 0 ≤ a2 then (if a2 < ((rd_L4 l0 a1).length : Int) then (some (rd (rd_L4 l0 a1) a2)) else (none)) else (none)) else (none)) else (none)))))) = some r := h
  clear h
  by_cases c5 : a1 < 0
  · rw [if_pos c5] at H
    have c5b0 : decide (a1 < 0) = true := decide_eq_true c5
    clear c5
    obtain rfl := Option.some.inj H
    go_enter Try.func79, Try.ntmps79
    go_wp2
    go_ret
    exact ⟨by first | rfl | (simp; done) | (simp [*]; done), by repeat (first | exact Drawn0.refl _ | apply Drawn0.step)⟩
  · rw [if_neg c5] at H
    have c5b0 : decide (a1 < 0) = false := decide_eq_false c5
    clear c5
    by_cases c6 : a2 < 0
    · rw [if_pos c6] at H
      have c6b0 : decide (a2 < 0) = true := decide_eq_true c6
      clear c6
      obtain rfl := Option.some.inj H
      go_enter Try.func79, Try.ntmps79
      go_wp2
      go_ret
      exact ⟨by first | rfl | (simp; done) | (simp [*]; done), by repeat (first | exact Drawn0.refl _ | apply Drawn0.step)⟩
    · rw [if_neg c6] at H
      have c6b0 : decide (a2 < 0) = false := decide_eq_false c6
      clear c6
      by_cases c7 : a1 ≥ (l0.length : Int)
      · rw [if_pos c7] at H
        have c7b0 : decide ((l0.length : Int) ≤ a1) = true := decide_eq_true c7
        clear c7
        obtain rfl := Option.some.inj H
        go_enter Try.func79, Try.ntmps79
        go_wp2
        go_ret
        exact ⟨by first | rfl | (simp; done) | (simp [*]; done), by repeat (first | exact Drawn0.refl _ | apply Drawn0.step)⟩
      · rw [if_neg c7] at H
        have c7b0 : decide ((l0.length : Int) ≤ a1) = false := decide_eq_false c7
        clear c7
        by_cases c8 : a2 ≥ (l0.length : Int)
        · rw [if_pos c8] at H
          have c8b0 : decide ((l0.length : Int) ≤ a2) = true := decide_eq_true c8
          clear c8
          obtain rfl := Option.some.inj H
          go_enter Try.func79, Try.ntmps79
          go_wp2
          go_ret
          exact ⟨by first | rfl | (simp; done) | (simp [*]; done), by repeat (first | exact Drawn0.refl _ | apply Drawn0.step)⟩
        · rw [if_neg c8] at H
          have c8b0 : decide ((l0.length : Int) ≤ a2) = false := decide_eq_false c8
          clear c8
          by_cases c9 : 0 ≤ a1
          · rw [if_pos c9] at H
            have c9b0 : decide (0 ≤ a1) = true := decide_eq_true c9
            clear c9
            by_cases c10 : a1 < (l0.length : Int)
            · rw [if_pos c10] at H
              have c10b0 : decide (a1 < (l0.length : Int)) = true := decide_eq_true c10
              clear c10
              by_cases c11 : 0 ≤ a2
              · rw [if_pos c11] at H
                have c11b0 : decide (0 ≤ a2) = true := decide_eq_true c11
                clear c11
                by_cases c12 : a2 < ((rd_L4 l0 a1).length : Int)
                · rw [if_pos c12] at H
                  have c12b0 : decide (a2 < ((rd_L4 l0 a1).length : Int)) = true := decide_eq_true c12
                  clear c12
                  obtain rfl := Option.some.inj H
                  have p107 : 0 ≤ (a1 : Int) := of_decide_eq_true (by first | (with_reducible assumption) | assumption)
                  have q107 : a1 < (l0.length : Int) := of_decide_eq_true (by first | (with_reducible assumption) | assumption)
                  obtain ⟨ad107, A107_0, c107_0, e107, hx107_0, hl107_0, hi107_0⟩ := at_L4 HR0.out a1 p107 q107
                  cases e107
                  have HR107_0 := Aside0.mk hi107_0
                  have HC107_0 := Aside0.mk hl107_0
                  clear hi107_0 hl107_0
                  replace p107 := eq_true p107
                  replace q107 := eq_true q107
                  have p108 : 0 ≤ (a2 : Int) := of_decide_eq_true (by first | (with_reducible assumption) | assumption)
                  have q108 : a2 < ((rd_L4 l0 a1).length : Int) := of_decide_eq_true (by first | (with_reducible assumption) | assumption)
                  obtain ⟨ad108, e108, hx108_0⟩ := Kd.at_int HR107_0.out a2 p108 q108
                  cases e108
                  replace p108 := eq_true p108
                  replace q108 := eq_true q108
                  go_enter Try.func79, Try.ntmps79
                  go_wp2
                  go_ret
                  exact ⟨by first | rfl | (simp; done) | (simp [*]; done), by repeat (first | exact Drawn0.refl _ | apply Drawn0.step)⟩
                · rw [if_neg c12] at H
                  exact absurd H (by simp)
              · rw [if_neg c11] at H
                exact absurd H (by simp)
            · rw [if_neg c10] at H
              exact absurd H (by simp)
          · rw [if_neg c9] at H
            exact absurd H (by simp)

/-! ### lattice_Lattice_Join: function 54 -/
/-- A square table of numbers. -/
def tabI (n : Nat) (f : Nat → Nat → Int) : List (List Int) := (List.range n).map fun a => (List.range n).map fun b => f a b
theorem tabI_len (n : Nat) (f : Nat → Nat → Int) : (tabI n f).length = n := by simp [tabI]
theorem tabI_row (n : Nat) (f : Nat → Nat → Int) (a : Nat) (ha : a < n) : rd_L4 (tabI n f) (a : Int) = (List.range n).map fun b => f a b := by
  unfold rd_L4 tabI
  simp [ha]
theorem tabI_at (n : Nat) (f : Nat → Nat → Int) (a b : Nat) (ha : a < n) (hb : b < n) : rd (rd_L4 (tabI n f) (a : Int)) (b : Int) = f a b := by
  rw [tabI_row n f a ha]
  unfold rd
  simp [hb]
/-- What a table tells of two numbers. -/
def latAt (n : Nat) (f : Nat → Nat → Int) (a b none : Int) : Int := if 0 ≤ a ∧ a < (n : Int) ∧ 0 ≤ b ∧ b < (n : Int) then f a.toNat b.toNat else none
theorem at_tabI (n : Nat) (f : Nat → Nat → Int) (a b none : Int) : lattice_at.f (tabI n f) a b none = some (latAt n f a b none) := by
  unfold lattice_at.f latAt
  rw [tabI_len]
  by_cases h1 : a < 0
  · rw [if_pos h1, if_neg (by omega)]
  · by_cases h2 : b < 0
    · rw [if_neg h1, if_pos h2, if_neg (by omega)]
    · by_cases h3 : a ≥ (n : Int)
      · rw [if_neg h1, if_neg h2, if_pos h3, if_neg (by omega)]
      · by_cases h4 : b ≥ (n : Int)
        · rw [if_neg h1, if_neg h2, if_neg h3, if_pos h4, if_neg (by omega)]
        · obtain ⟨x, rfl⟩ := Int.eq_ofNat_of_zero_le (by omega : 0 ≤ a)
          obtain ⟨y, rfl⟩ := Int.eq_ofNat_of_zero_le (by omega : 0 ≤ b)
          rw [if_neg h1, if_neg h2, if_neg h3, if_neg h4, if_pos (by omega), if_pos (by omega), if_pos (by omega), if_pos (by rw [tabI_row n f x (by omega), List.length_map, List.length_range]; omega), tabI_at n f x y (by omega) (by omega), if_pos (by omega)]
          rfl
/-- A lattice in memory: its three tables, its top and bottom. -/
def IsLat (W : World) (g n : Nat) (fl fj fm : Nat → Nat → Int) (top bot : Int) : Prop := ∃ A0 c0 A1 c1 A2 c2,
  W.heap[g]? = some (.cells #[.slice A0 n c0, .slice A1 n c1, .slice A2 n c2, .int .i64 top, .int .i64 bot] 78 (0, 0)) ∧ n ≤ c0 ∧ n ≤ c1 ∧ n ≤ c2 ∧
  Kd.C (Kd.slice 3 (Kd.int .i64)) W A0 n (tabI n fl) ∧ Kd.C (Kd.slice 3 (Kd.int .i64)) W A1 n (tabI n fj) ∧ Kd.C (Kd.slice 3 (Kd.int .i64)) W A2 n (tabI n fm)
theorem IsLat.below {W W1 : World} {g n : Nat} {fl fj fm : Nat → Nat → Int} {top bot : Int} (h : IsLat W g n fl fj fm top bot) (hb : Below W.heap.size W W1) : IsLat W1 g n fl fj fm top bot := by
  obtain ⟨A0, c0, A1, c1, A2, c2, hg, h0, h1, h2, hc0, hc1, hc2⟩ := h
  exact ⟨A0, c0, A1, c1, A2, c2, (hb.block g (blk_lt hg)).trans hg, h0, h1, h2, Kd.C_below hc0 hb, Kd.C_below hc1 hb, Kd.C_below hc2 hb⟩
theorem IsLat.drawn {W W1 : World} {g n : Nat} {fl fj fm : Nat → Nat → Int} {top bot : Int} (h : IsLat W g n fl fj fm top bot) (hd : Drawn0 W W1) : IsLat W1 g n fl fj fm top bot := h.below hd.below
theorem IsLat.lt {W : World} {g n : Nat} {fl fj fm : Nat → Nat → Int} {top bot : Int} (h : IsLat W g n fl fj fm top bot) : g < W.heap.size := by
  obtain ⟨A0, c0, A1, c1, A2, c2, hg, _⟩ := h
  exact blk_lt hg
set_option maxHeartbeats 400000 in
theorem lattice_Join_calls (g n : Nat) (fl fj fm : Nat → Nat → Int) (top bot a b : Int) (w : World) (h : IsLat w g n fl fj fm top bot) :
    Calls Try.prog 54 #[.pointer (some ⟨g, 0, none⟩), .int .i64 a, .int .i64 b] w fun e w' => e = .returned (.int .i64 (latAt n fj a b (-1))) ∧ Drawn0 w w' := by
  obtain ⟨A0, c0, A1, c1, A2, c2, hg, h0, h1, h2, hc0, hc1, hc2⟩ := h
  have hcell : w.cell? ⟨g, 1, none⟩ = some (.slice A1 n c1) := by rw [blk_cell hg]; rfl
  have HC := Aside0.mk hc1
  have HL := Aside0.mk h1
  have HA := Aside0.mk (at_tabI n fj a b (-1))
  clear hg hc0 hc1 hc2 h0 h1 h2
  go_enter Try.func54, Try.ntmps54
  go_wp2_with fail
  have hc := lattice_at.calls A1 c1 (tabI n fj) a b (-1) (latAt n fj a b (-1)) w (by rw [tabI_len]; exact HC.out) (by rw [tabI_len]; exact HL.out) HA.out
  rw [tabI_len] at hc
  refine hc.mono ?_
  rintro e w' ⟨rfl, ⟨nd, rfl⟩⟩
  clear hc
  go_wp2
  go_ret
  exact ⟨rfl, by repeat (first | exact Drawn0.refl _ | apply Drawn0.step)⟩
set_option maxHeartbeats 400000 in
theorem lattice_Meet_calls (g n : Nat) (fl fj fm : Nat → Nat → Int) (top bot a b : Int) (w : World) (h : IsLat w g n fl fj fm top bot) :
    Calls Try.prog 56 #[.pointer (some ⟨g, 0, none⟩), .int .i64 a, .int .i64 b] w fun e w' => e = .returned (.int .i64 (latAt n fm a b (-1))) ∧ Drawn0 w w' := by
  obtain ⟨A0, c0, A1, c1, A2, c2, hg, h0, h1, h2, hc0, hc1, hc2⟩ := h
  have hcell : w.cell? ⟨g, 2, none⟩ = some (.slice A2 n c2) := by rw [blk_cell hg]; rfl
  have HC := Aside0.mk hc2
  have HL := Aside0.mk h2
  have HA := Aside0.mk (at_tabI n fm a b (-1))
  clear hg hc0 hc1 hc2 h0 h1 h2
  go_enter Try.func56, Try.ntmps56
  go_wp2_with fail
  have hc := lattice_at.calls A2 c2 (tabI n fm) a b (-1) (latAt n fm a b (-1)) w (by rw [tabI_len]; exact HC.out) (by rw [tabI_len]; exact HL.out) HA.out
  rw [tabI_len] at hc
  refine hc.mono ?_
  rintro e w' ⟨rfl, ⟨nd, rfl⟩⟩
  clear hc
  go_wp2
  go_ret
  exact ⟨rfl, by repeat (first | exact Drawn0.refl _ | apply Drawn0.step)⟩
set_option maxHeartbeats 400000 in
theorem lattice_Flows_calls (g n : Nat) (fl fj fm : Nat → Nat → Int) (top bot a b : Int) (w : World) (h : IsLat w g n fl fj fm top bot) :
    Calls Try.prog 52 #[.pointer (some ⟨g, 0, none⟩), .int .i64 a, .int .i64 b] w fun e w' => e = .returned (.bool (latAt n fl a b 0 == 1)) ∧ Drawn0 w w' := by
  obtain ⟨A0, c0, A1, c1, A2, c2, hg, h0, h1, h2, hc0, hc1, hc2⟩ := h
  have hcell : w.cell? ⟨g, 0, none⟩ = some (.slice A0 n c0) := by rw [blk_cell hg]; rfl
  have HC := Aside0.mk hc0
  have HL := Aside0.mk h0
  have HA := Aside0.mk (at_tabI n fl a b 0)
  clear hg hc0 hc1 hc2 h0 h1 h2
  go_enter Try.func52, Try.ntmps52
  go_wp2_with fail
  have hc := lattice_at.calls A0 c0 (tabI n fl) a b 0 (latAt n fl a b 0) w (by rw [tabI_len]; exact HC.out) (by rw [tabI_len]; exact HL.out) HA.out
  rw [tabI_len] at hc
  refine hc.mono ?_
  rintro e w' ⟨rfl, ⟨nd, rfl⟩⟩
  clear hc
  go_wp2
  go_ret
  exact ⟨rfl, by repeat (first | exact Drawn0.refl _ | apply Drawn0.step)⟩
set_option maxHeartbeats 400000 in
theorem lattice_Len_calls (g n : Nat) (fl fj fm : Nat → Nat → Int) (top bot : Int) (w : World) (h : IsLat w g n fl fj fm top bot) :
    Calls Try.prog 47 #[.pointer (some ⟨g, 0, none⟩)] w fun e w' => e = .returned (.int .i64 (n : Int)) ∧ Drawn0 w w' := by
  obtain ⟨A0, c0, A1, c1, A2, c2, hg, h0, h1, h2, hc0, hc1, hc2⟩ := h
  have hcell : w.cell? ⟨g, 0, none⟩ = some (.slice A0 n c0) := by rw [blk_cell hg]; rfl
  clear hg hc0 hc1 hc2 h0 h1 h2
  go_enter Try.func47, Try.ntmps47
  go_wp2
  go_ret
  exact ⟨rfl, by repeat (first | exact Drawn0.refl _ | apply Drawn0.step)⟩
set_option maxHeartbeats 400000 in
theorem lattice_Bottom_calls (g n : Nat) (fl fj fm : Nat → Nat → Int) (top bot : Int) (w : World) (h : IsLat w g n fl fj fm top bot) :
    Calls Try.prog 48 #[.pointer (some ⟨g, 0, none⟩)] w fun e w' => e = .returned (.int .i64 bot) ∧ Drawn0 w w' := by
  obtain ⟨A0, c0, A1, c1, A2, c2, hg, h0, h1, h2, hc0, hc1, hc2⟩ := h
  have hcell : w.cell? ⟨g, 4, none⟩ = some (.int .i64 bot) := by rw [blk_cell hg]; rfl
  clear hg hc0 hc1 hc2 h0 h1 h2
  go_enter Try.func48, Try.ntmps48
  go_wp2
  go_ret
  exact ⟨rfl, by repeat (first | exact Drawn0.refl _ | apply Drawn0.step)⟩
set_option maxHeartbeats 400000 in
theorem lattice_Top_calls (g n : Nat) (fl fj fm : Nat → Nat → Int) (top bot : Int) (w : World) (h : IsLat w g n fl fj fm top bot) :
    Calls Try.prog 50 #[.pointer (some ⟨g, 0, none⟩)] w fun e w' => e = .returned (.int .i64 top) ∧ Drawn0 w w' := by
  obtain ⟨A0, c0, A1, c1, A2, c2, hg, h0, h1, h2, hc0, hc1, hc2⟩ := h
  have hcell : w.cell? ⟨g, 3, none⟩ = some (.int .i64 top) := by rw [blk_cell hg]; rfl
  clear hg hc0 hc1 hc2 h0 h1 h2
  go_enter Try.func50, Try.ntmps50
  go_wp2
  go_ret
  exact ⟨rfl, by repeat (first | exact Drawn0.refl _ | apply Drawn0.step)⟩

-- NOT PRINTED: function 56 (lattice_Lattice_Meet)

end Go.Proofs.Ytpeeneaapmmciaa.PLtells
