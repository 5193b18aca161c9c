-- Printed by wip/tools/oprint.py, a program of this session.
import Derived.Test.YtpeeneaapmmciaaPOtellsx0
import Derived.Test.YtpeeneaapmmciaaPOtellsx1
namespace Go.Proofs.Ytpeeneaapmmciaa.POtells
open Go.RowKit Go.Proofs.YtpeeneaapmmciaaW.PrintWords Go.Proofs.YtpeeneaapmmciaaW.PrintLast Go.Proofs.YtpeeneaapmmciaaW.PrintMore
attribute [local go_sem] max2_int min2_int max_two min_two max_three min_three max_four min_four   -- for this text's walks alone
set_option linter.unusedVariables false
set_option linter.unusedSimpArgs false

/-! ### order_Upper: function 34 -/
theorem has_l0 (q : List (List Bool)) (l : List Int) (k1 : Nat) (hq : q.length < 4611686018427387904) (hk1 : q.length < k1) (hl : l.length < 4611686018427387904) (d : Nat) : ∀ (k i : Nat), i + d = l.length → d + k1 < k →
    order_has.l0 k q l (l.length : Int) i = some ((l.drop i).all (fun a => decide (0 ≤ a ∧ a < (q.length : Int))) && sqB q) := by
  induction d with
  | zero =>
    intro k i hi hk
    obtain ⟨k, rfl⟩ : ∃ m, k = m + 1 := ⟨k - 1, by omega⟩
    simp only [order_has.l0]
    rw [if_neg (by omega), List.drop_of_length_le (by omega), List.all_nil, Bool.true_and, sq_eq q hq k (by omega)]
    rfl
  | succ d ih =>
    intro k i hi hk
    obtain ⟨k, rfl⟩ : ∃ m, k = m + 1 := ⟨k - 1, by omega⟩
    have hlt : i < l.length := by omega
    have hr : rd l (i : Int) = l[i] := by unfold rd; simp [hlt]
    have hd : l.drop i = l[i] :: l.drop (i + 1) := List.drop_eq_getElem_cons hlt
    have ew : wrap64 ((i : Int) + 1) = ((i + 1 : Nat) : Int) := by unfold wrap64; omega
    simp only [order_has.l0]
    rw [if_pos (by omega), if_pos (by omega), if_pos (by omega), hr, hd, List.all_cons]
    by_cases h1 : l[i] < 0
    · rw [if_pos h1]; have : ¬ (0 ≤ l[i] ∧ l[i] < (q.length : Int)) := by omega
      simp [this]
    · rw [if_neg h1]
      by_cases h2 : l[i] ≥ (q.length : Int)
      · rw [if_pos h2]; have : ¬ (0 ≤ l[i] ∧ l[i] < (q.length : Int)) := by omega
        simp [this]
      · rw [if_neg h2, ew, ih k (i + 1) (by omega) (by omega)]; have : (0 ≤ l[i] ∧ l[i] < (q.length : Int)) := by omega
        simp [this]
def inLB (q : List (List Bool)) (l : List Int) : Bool := l.all (fun a => decide (0 ≤ a ∧ a < (q.length : Int))) && sqB q
theorem has_eq (q : List (List Bool)) (l : List Int) (hq : q.length < 4611686018427387904) (hl : l.length < 4611686018427387904) : order_has.f (q.length + l.length + 2) q l = some (inLB q l) := by
  have := has_l0 q l (q.length + 1) hq (by omega) hl l.length (q.length + l.length + 2) 0 (by omega) (by omega)
  rw [List.drop_zero] at this
  exact this
theorem inLB_sq {q : List (List Bool)} {l : List Int} (h : inLB q l = true) : sqB q = true := by
  unfold inLB at h; rw [Bool.and_eq_true] at h; exact h.2
theorem inLB_in {q : List (List Bool)} {l : List Int} (h : inLB q l = true) {a : Int} (ha : a ∈ l) : inB q.length a := by
  unfold inLB at h; rw [Bool.and_eq_true, List.all_eq_true] at h
  have h1 := h.1 a ha
  rw [decide_eq_true_iff] at h1
  exact h1
theorem pair_reads (W : World) (a b : Int) (t g : Nat) (hg : g = W.heap.size) : Kd.C (Kd.int .i64) (W.alloc (.cells #[.int .i64 a, .int .i64 b] t)) (some ⟨g, 0, none⟩) 2 [a, b] := by
  subst hg
  refine Kd.C_of_reads (d := (0 : Int)) (h1 := fun _ => rfl) ⟨rfl, by decide, fun _ => ⟨_, rfl, fun j hj => ?_⟩⟩
  rw [add_plain]
  match j, hj with
  | 0, _ => simp
  | 1, _ => simp
def order_Upper.f (l0 : List (List Bool)) (a1 : Int) (a2 : Int) : Option (List Int) := if l0.length < 4611686018427387904 then some (if inLB l0 [a1, a2] = true then pick l0.length (fun c => at2 l0 a1 c && at2 l0 a2 c) else []) else none
set_option maxHeartbeats 400000 in
theorem order_Upper1_calls (p pa pb : Addr) (A : Option Addr) (c : Nat) (q : List (List Bool)) (a b d : Int) (w : World) (hp : w.cell? p = some (.slice A q.length c)) (hpa : w.cell? pa = some (.int .i64 a)) (hpb : w.cell? pb = some (.int .i64 b))
    (hr : Kd.C (Kd.slice 4 Kd.bool) w A q.length q) (hs : sqB q = true) (h0 : 0 ≤ a) (h1 : a < (q.length : Int)) (h2 : 0 ≤ b) (h3 : b < (q.length : Int)) (h4 : 0 ≤ d) (h5 : d < (q.length : Int)) :
    Calls Try.prog 71 #[.int .i64 d, .pointer (some p), .pointer (some pa), .pointer (some pb)] w fun e w' => e = .returned (.bool (at2 q a d && at2 q b d)) ∧ Drawn0 w w' := by
  have HS := Aside0.mk hs
  have HR := Aside0.mk hr
  clear hs hr
  obtain ⟨ad, ad2, c0, rfl, hx, hx2⟩ := at2_reads HR.out a d h0 h1 h4 (by rw [sq_row q HS.out a h0 h1]; exact h5)
  obtain ⟨ad', ad3, c1, hA, hy, hy2⟩ := at2_reads HR.out b d h2 h3 h4 (by rw [sq_row q HS.out b h2 h3]; exact h5)
  cases hA
  have ra : d < ((rd_L2 q a).length : Int) := by rw [sq_row q HS.out a h0 h1]; exact h5
  have rb : d < ((rd_L2 q b).length : Int) := by rw [sq_row q HS.out b h2 h3]; exact h5
  clear HR HS
  generalize at2 q a d = x at *
  generalize at2 q b d = y at *
  cases x
  all_goals
    go_enter Try.func71, Try.ntmps71
    go_wp2
    go_ret
    exact ⟨by simp, by repeat (first | exact Drawn0.refl _ | apply Drawn0.step)⟩
set_option maxHeartbeats 800000 in
theorem order_Upper.calls (A0 : Option Addr) (c0 : Nat) (l0 : List (List Bool)) (a1 : Int) (a2 : Int) (r : List Int) (w : World) (hr0 : Kd.C (Kd.slice 4 Kd.bool) w A0 l0.length l0) (hc0 : l0.length ≤ c0) (h : order_Upper.f l0 a1 a2 = some r) :
    Calls Try.prog 34 #[.slice A0 l0.length c0, .int .i64 a1, .int .i64 a2] w fun e w' => ∃ v0_ : Value, e = .returned (v0_) ∧ Kd.R (Kd.int .i64) 3 w' w.heap.size (fun _ => True) v0_ r ∧ Below w.heap.size w w' := by
  unfold order_Upper.f at h
  by_cases hq : l0.length < 4611686018427387904
  · rw [if_pos hq] at h
    obtain rfl := Option.some.inj h
    clear h
    have HC0 := Aside0.mk hc0
    have HR0 := Aside0.mk hr0
    have HH := Aside0.mk (has_eq l0 [a1, a2] hq (by simp))
    clear hc0 hr0
    cases hb : inLB l0 [a1, a2] with
    | false =>
      rw [hb] at HH
      clear hb
      go_enter Try.func34, Try.ntmps34
      go_wp2_with fail
      refine (order_has.calls (l0.length + [a1, a2].length + 2) A0 c0 l0 (some ⟨w.heap.size + 1 + 1 + 1, 0, none⟩) 2 [a1, a2] false _ (Kd.C_alloc (Kd.C_alloc (Kd.C_alloc (Kd.C_alloc HR0.out _) _) _) _) HC0.out (by exact pair_reads _ a1 a2 _ _ (by simp)) (by simp) HH.out).mono ?_
      rintro e w' ⟨rfl, ⟨nd, rfl⟩⟩
      go_wp2
      go_ret
      exact ⟨_, rfl, by simp only [Bool.false_eq_true, if_false]; exact Kd.R_nil _ _ _ _ _, by repeat (first | exact Below.refl _ _ | apply below_alloc | apply pw_below_drewN | apply below_drew1)⟩
    | true =>
      rw [hb] at HH
      have hn := sq_len l0 (inLB_sq hb)
      have HI := Aside0.mk hb
      clear hb
      go_enter Try.func34, Try.ntmps34
      go_wp2_with fail
      refine (order_has.calls (l0.length + [a1, a2].length + 2) A0 c0 l0 (some ⟨w.heap.size + 1 + 1 + 1, 0, none⟩) 2 [a1, a2] true _ (Kd.C_alloc (Kd.C_alloc (Kd.C_alloc (Kd.C_alloc HR0.out _) _) _) _) HC0.out (by exact pair_reads _ a1 a2 _ _ (by simp)) (by simp) HH.out).mono ?_
      rintro e w' ⟨rfl, ⟨nd, rfl⟩⟩
      go_wp2_with fail
      refine (order_those_calls A0 c0 l0 71 #[.pointer (some ⟨w.heap.size, 0, none⟩), .pointer (some ⟨w.heap.size + 1, 0, none⟩), .pointer (some ⟨w.heap.size + 1 + 1, 0, none⟩)] (fun c => at2 l0 a1 c && at2 l0 a2 c) _ (by omega) (enters_of Try.func71 (by kernel_rfl) (by kernel_rfl)) ?s3).mono ?_
      case s3 =>
        intro d w' hbel hd
        have ha := inLB_in HI.out (show a1 ∈ [a1, a2] by simp)
        have hb := inLB_in HI.out (show a2 ∈ [a1, a2] by simp)
        exact calls_of_args rfl (order_Upper1_calls ⟨w.heap.size, 0, none⟩ ⟨w.heap.size + 1, 0, none⟩ ⟨w.heap.size + 1 + 1, 0, none⟩ A0 c0 l0 a1 a2 d w' (pw_cell_below hbel (by go_simp)) (pw_cell_below hbel (by go_simp)) (pw_cell_below hbel (by go_simp)) (Kd.C_below (Kd.C_drewN (Kd.C_alloc (Kd.C_alloc (Kd.C_alloc (Kd.C_alloc HR0.out _) _) _) _) _) hbel) (inLB_sq HI.out) ha.1 ha.2 hb.1 hb.2 hd.1 hd.2)
      rintro e w' ⟨v, rfl, ho, hbel⟩
      have HB0 : Below w.heap.size w (((((w.alloc (Obj.cells #[Value.slice A0 l0.length c0] 32)).alloc (Obj.cells #[Value.int IntKind.i64 a1] 3)).alloc (Obj.cells #[Value.int IntKind.i64 a2] 3)).alloc (Obj.cells #[Value.int IntKind.i64 a1, Value.int IntKind.i64 a2] 3)).drewN nd) := by repeat (first | exact Below.refl _ _ | apply below_alloc | apply pw_below_drewN | apply below_drew1)
      have HO := Aside0.mk (Kd.R_lower ho (below_size HB0))
      have HB := Aside0.mk (below_step HB0 hbel)
      clear ho hbel HB0
      go_wp2
      go_ret
      exact ⟨_, rfl, by first | exact HO.out | (rw [if_pos rfl]; exact HO.out), HB.out⟩
  · rw [if_neg hq] at h; cases h

/-! ### order_Lower: function 36 -/
def order_Lower.f (l0 : List (List Bool)) (a1 : Int) (a2 : Int) : Option (List Int) := if l0.length < 4611686018427387904 then some (if inLB l0 [a1, a2] = true then pick l0.length (fun c => at2 l0 c a1 && at2 l0 c a2) else []) else none
set_option maxHeartbeats 400000 in
theorem order_Lower1_calls (p pa pb : Addr) (A : Option Addr) (c : Nat) (q : List (List Bool)) (a b d : Int) (w : World) (hp : w.cell? p = some (.slice A q.length c)) (hpa : w.cell? pa = some (.int .i64 a)) (hpb : w.cell? pb = some (.int .i64 b))
    (hr : Kd.C (Kd.slice 4 Kd.bool) w A q.length q) (hs : sqB q = true) (h0 : 0 ≤ a) (h1 : a < (q.length : Int)) (h2 : 0 ≤ b) (h3 : b < (q.length : Int)) (h4 : 0 ≤ d) (h5 : d < (q.length : Int)) :
    Calls Try.prog 73 #[.int .i64 d, .pointer (some p), .pointer (some pa), .pointer (some pb)] w fun e w' => e = .returned (.bool (at2 q d a && at2 q d b)) ∧ Drawn0 w w' := by
  have HS := Aside0.mk hs
  have HR := Aside0.mk hr
  clear hs hr
  obtain ⟨ad, ad2, c0, rfl, hx, hx2⟩ := at2_reads HR.out d a h4 h5 h0 (by rw [sq_row q HS.out d h4 h5]; exact h1)
  obtain ⟨ad', ad3, c1, hA, hy, hy2⟩ := at2_reads HR.out d b h4 h5 h2 (by rw [sq_row q HS.out d h4 h5]; exact h3)
  cases hA
  have hzx := hy.symm.trans hx
  simp only [Option.some.injEq, Value.slice.injEq] at hzx
  obtain ⟨rfl, -, rfl⟩ := hzx
  clear hy
  have ra : a < ((rd_L2 q d).length : Int) := by rw [sq_row q HS.out d h4 h5]; exact h1
  have rb : b < ((rd_L2 q d).length : Int) := by rw [sq_row q HS.out d h4 h5]; exact h3
  clear HR HS
  generalize at2 q d a = x at *
  generalize at2 q d b = y at *
  cases x
  all_goals
    go_enter Try.func73, Try.ntmps73
    go_wp2
    go_quiet (fail)
    all_goals go_wp2
    all_goals go_ret
    all_goals exact ⟨by simp, by repeat (first | exact Drawn0.refl _ | apply Drawn0.step)⟩
set_option maxHeartbeats 800000 in
theorem order_Lower.calls (A0 : Option Addr) (c0 : Nat) (l0 : List (List Bool)) (a1 : Int) (a2 : Int) (r : List Int) (w : World) (hr0 : Kd.C (Kd.slice 4 Kd.bool) w A0 l0.length l0) (hc0 : l0.length ≤ c0) (h : order_Lower.f l0 a1 a2 = some r) :
    Calls Try.prog 36 #[.slice A0 l0.length c0, .int .i64 a1, .int .i64 a2] w fun e w' => ∃ v0_ : Value, e = .returned (v0_) ∧ Kd.R (Kd.int .i64) 3 w' w.heap.size (fun _ => True) v0_ r ∧ Below w.heap.size w w' := by
  unfold order_Lower.f at h
  by_cases hq : l0.length < 4611686018427387904
  · rw [if_pos hq] at h
    obtain rfl := Option.some.inj h
    clear h
    have HC0 := Aside0.mk hc0
    have HR0 := Aside0.mk hr0
    have HH := Aside0.mk (has_eq l0 [a1, a2] hq (by simp))
    clear hc0 hr0
    cases hb : inLB l0 [a1, a2] with
    | false =>
      rw [hb] at HH
      clear hb
      go_enter Try.func36, Try.ntmps36
      go_wp2_with fail
      refine (order_has.calls (l0.length + [a1, a2].length + 2) A0 c0 l0 (some ⟨w.heap.size + 1 + 1 + 1, 0, none⟩) 2 [a1, a2] false _ (Kd.C_alloc (Kd.C_alloc (Kd.C_alloc (Kd.C_alloc HR0.out _) _) _) _) HC0.out (by exact pair_reads _ a1 a2 _ _ (by simp)) (by simp) HH.out).mono ?_
      rintro e w' ⟨rfl, ⟨nd, rfl⟩⟩
      go_wp2
      go_ret
      exact ⟨_, rfl, by simp only [Bool.false_eq_true, if_false]; exact Kd.R_nil _ _ _ _ _, by repeat (first | exact Below.refl _ _ | apply below_alloc | apply pw_below_drewN | apply below_drew1)⟩
    | true =>
      rw [hb] at HH
      have hn := sq_len l0 (inLB_sq hb)
      have HI := Aside0.mk hb
      clear hb
      go_enter Try.func36, Try.ntmps36
      go_wp2_with fail
      refine (order_has.calls (l0.length + [a1, a2].length + 2) A0 c0 l0 (some ⟨w.heap.size + 1 + 1 + 1, 0, none⟩) 2 [a1, a2] true _ (Kd.C_alloc (Kd.C_alloc (Kd.C_alloc (Kd.C_alloc HR0.out _) _) _) _) HC0.out (by exact pair_reads _ a1 a2 _ _ (by simp)) (by simp) HH.out).mono ?_
      rintro e w' ⟨rfl, ⟨nd, rfl⟩⟩
      go_wp2_with fail
      refine (order_those_calls A0 c0 l0 73 #[.pointer (some ⟨w.heap.size, 0, none⟩), .pointer (some ⟨w.heap.size + 1, 0, none⟩), .pointer (some ⟨w.heap.size + 1 + 1, 0, none⟩)] (fun c => at2 l0 c a1 && at2 l0 c a2) _ (by omega) (enters_of Try.func73 (by kernel_rfl) (by kernel_rfl)) ?s3).mono ?_
      case s3 =>
        intro d w' hbel hd
        have ha := inLB_in HI.out (show a1 ∈ [a1, a2] by simp)
        have hb := inLB_in HI.out (show a2 ∈ [a1, a2] by simp)
        exact calls_of_args rfl (order_Lower1_calls ⟨w.heap.size, 0, none⟩ ⟨w.heap.size + 1, 0, none⟩ ⟨w.heap.size + 1 + 1, 0, none⟩ A0 c0 l0 a1 a2 d w' (pw_cell_below hbel (by go_simp)) (pw_cell_below hbel (by go_simp)) (pw_cell_below hbel (by go_simp)) (Kd.C_below (Kd.C_drewN (Kd.C_alloc (Kd.C_alloc (Kd.C_alloc (Kd.C_alloc HR0.out _) _) _) _) _) hbel) (inLB_sq HI.out) ha.1 ha.2 hb.1 hb.2 hd.1 hd.2)
      rintro e w' ⟨v, rfl, ho, hbel⟩
      have HB0 : Below w.heap.size w (((((w.alloc (Obj.cells #[Value.slice A0 l0.length c0] 32)).alloc (Obj.cells #[Value.int IntKind.i64 a1] 3)).alloc (Obj.cells #[Value.int IntKind.i64 a2] 3)).alloc (Obj.cells #[Value.int IntKind.i64 a1, Value.int IntKind.i64 a2] 3)).drewN nd) := by repeat (first | exact Below.refl _ _ | apply below_alloc | apply pw_below_drewN | apply below_drew1)
      have HO := Aside0.mk (Kd.R_lower ho (below_size HB0))
      have HB := Aside0.mk (below_step HB0 hbel)
      clear ho hbel HB0
      go_wp2
      go_ret
      exact ⟨_, rfl, by first | exact HO.out | (rw [if_pos rfl]; exact HO.out), HB.out⟩
  · rw [if_neg hq] at h; cases h

/-! ### order_first: function 74 -/
/-- The first one of a list that stands so to each of it. -/
def firstB (l : List Int) (g : Int → Int → Bool) : Int × Bool := match l.find? (fun a => l.all (fun b => g a b)) with | some a => (a, true) | none => (0, false)
theorem firstB_yes (l : List Int) (g : Int → Int → Bool) (i : Nat) (hi : i < l.length) (hno : ∀ x : Nat, x < i → (l.all fun b => g (rd l x) b) = false) (h : (l.all fun b => g (rd l i) b) = true) : firstB l g = (rd l i, true) := by
  have hr : rd l (i : Int) = l[i] := by unfold rd; simp [hi]
  have hf : l.find? (fun a => l.all (fun b => g a b)) = some l[i] := by
    rw [List.find?_eq_some_iff_getElem]
    refine ⟨by rw [← hr]; exact h, i, hi, rfl, fun j hj => ?_⟩
    have := hno j hj
    have hr2 : rd l (j : Int) = l[j] := by unfold rd; simp [show j < l.length by omega]
    rw [hr2] at this
    simp [this]
  unfold firstB
  rw [hf, hr]
theorem firstB_no (l : List Int) (g : Int → Int → Bool) (hno : ∀ x : Nat, x < l.length → (l.all fun b => g (rd l x) b) = false) : firstB l g = (0, false) := by
  have hf : l.find? (fun a => l.all (fun b => g a b)) = none := by
    rw [List.find?_eq_none]
    intro x hx
    obtain ⟨j, hj, rfl⟩ := List.getElem_of_mem hx
    have := hno j hj
    have hr2 : rd l (j : Int) = l[j] := by unfold rd; simp [hj]
    rw [hr2] at this
    simp [this]
  unfold firstB
  rw [hf]
theorem all_take (l : List Int) (f : Int → Bool) (j : Nat) (hj : j < l.length) : (l.take (j + 1)).all f = ((l.take j).all f && f (rd l j)) := by
  have hr : rd l (j : Int) = l[j] := by unfold rd; simp [hj]
  rw [List.take_succ_eq_append_getElem hj, List.all_append, hr]
  simp
theorem rd_mem (l : List Int) (j : Nat) (hj : j < l.length) : rd l (j : Int) ∈ l := by
  have hr : rd l (j : Int) = l[j] := by unfold rd; simp [hj]
  rw [hr]; exact List.getElem_mem hj
set_option maxHeartbeats 800000 in
theorem order_first_calls (A : Option Addr) (c : Nat) (l : List Int) (fid : Nat) (caps : Array Value) (p : Int → Prop) (g : Int → Int → Bool) (w : World)
    (hr : Kd.C (Kd.int .i64) w A l.length l) (hl : l.length < 4611686018427387904) (he : Enters fid) (hp : ∀ a ∈ l, p a) (hf : Says2 w fid caps p g) :
    Calls Try.prog 74 #[.slice A l.length c, .func (.func fid) #[] caps] w fun e w' => e = .returned (.tuple #[.int .i64 (firstB l g).1, .bool (firstB l g).2]) ∧ Drawn0 w w' := by
  have HR := Aside0.mk hr
  have HE := Aside0.mk he
  have HP := Aside0.mk hp
  have HF := Aside0.mk hf
  clear hr he hp hf
  go_enter Try.func74, Try.ntmps74
  go_wp2
  go_loopw [13] (fun i wr => ∃ a : Nat, a ≤ l.length ∧ i = .int .i64 (a : Int) ∧ Drawn0 w wr ∧ Aside0 (∀ x : Nat, x < a → (l.all fun b => g (rd l x) b) = false)) (fun i _ => l.length - (intOf i).toNat)
  case atStart => exact ⟨0, Nat.zero_le _, rfl, by repeat (first | exact Drawn0.refl _ | apply Drawn0.step), ⟨fun x hx => absurd hx (Nat.not_lt_zero _)⟩⟩
  case round =>
    obtain ⟨a, ha, rfl, hd, HG⟩ := hrel
    by_cases hlt : a < l.length
    · obtain ⟨n0, rfl⟩ := hd
      obtain ⟨ad, rfl, hx⟩ := Kd.at_int HR.out (a : Int) (by omega) (by omega)
      simp only [Int.toNat_natCast] at hx
      have HPA := Aside0.mk (HP.out _ (rd_mem l a hlt))
      generalize hva : rd l (a : Int) = va at *
      have HVA := Aside0.mk hva
      clear hva
      go_wp2_with fail
      go_loopw [8, 19] (fun o i wr => ∃ b : Nat, b ≤ l.length ∧ i = .int .i64 (b : Int) ∧ Drawn0 w wr ∧ o = .bool ((l.take b).all fun y => g va y)) (fun _ i _ => l.length - (intOf i).toNat)
      case atStart => exact ⟨0, Nat.zero_le _, rfl, by repeat (first | exact Drawn0.refl _ | apply Drawn0.step), by simp⟩
      case round =>
        obtain ⟨b, hb, rfl, ⟨n1, rfl⟩, rfl⟩ := hrel
        by_cases hlt2 : b < l.length
        · obtain ⟨ad', hA, hy⟩ := Kd.at_int HR.out (b : Int) (by omega) (by omega)
          cases hA
          simp only [Int.toNat_natCast] at hy
          have HPB := Aside0.mk (HP.out _ (rd_mem l b hlt2))
          have HT := Aside0.mk (all_take l (fun y => g va y) b hlt2)
          generalize hvb : rd l (b : Int) = vb at *
          generalize ho : ((l.take b).all fun y => g va y) = o at *
          have HC := Aside0.mk (HF.out va vb (w.drewN n1) ((Drawn0.step (Drawn0.refl w) n1).below) HPA.out HPB.out)
          have he := HE.out
          unfold Enters at he
          clear hvb ho
          generalize hg : g va vb = z at *
          clear hg
          have HT' : Aside0 (((l.take (b + 1)).all fun y => g va y) = (o && z)) := ⟨by rw [HT.out]⟩
          clear HT
          cases o with
          | true =>
            go_wp2_with ((with_reducible refine HC.out.mono ?_); rintro e w' ⟨rfl, ⟨nd, rfl⟩⟩)
            go_roundw
            case rel => exact ⟨b + 1, by omega, by go_num, by repeat (first | exact Drawn0.refl _ | apply Drawn0.step), by rw [HT'.out]; simp⟩
            case measure => simp [intOf]; omega
          | false =>
            go_wp2_with ((with_reducible refine HC.out.mono ?_); rintro e w' ⟨rfl, ⟨nd, rfl⟩⟩)
            go_roundw
            case rel => exact ⟨b + 1, by omega, by go_num, by repeat (first | exact Drawn0.refl _ | apply Drawn0.step), by rw [HT'.out]; simp⟩
            case measure => simp [intOf]; omega
        · have hbe : b = l.length := by omega
          have HA : Aside0 (((l.take b).all fun y => g va y) = l.all fun y => g va y) := ⟨by rw [List.take_of_length_le (by omega)]⟩
          generalize hz : ((l.take b).all fun y => g va y) = z at *
          have HZ : Aside0 ((l.all fun y => g (rd l (a : Int)) y) = z) := ⟨by rw [HVA.out]; exact HA.out.symm⟩
          clear hz HA hbe
          cases z with
          | true =>
            have HFI := Aside0.mk (firstB_yes l g a hlt HG.out HZ.out)
            go_wp2
            go_ret2
            exact ⟨by (rw [HFI.out, HVA.out]; try rfl), by repeat (first | exact Drawn0.refl _ | apply Drawn0.step)⟩
          | false =>
            go_wp2
            go_roundw
            case rel => exact ⟨a + 1, by omega, by go_num, by repeat (first | exact Drawn0.refl _ | apply Drawn0.step), ⟨fun x hx => by
              rcases Nat.lt_or_eq_of_le (Nat.le_of_lt_succ hx) with h | h
              · exact HG.out x h
              · subst h; exact HZ.out⟩⟩
            case measure => simp [intOf]; omega
    · have hae : a = l.length := by omega
      subst hae
      have HFI := Aside0.mk (firstB_no l g HG.out)
      go_wp2
      go_ret2
      exact ⟨by (rw [HFI.out]; try rfl), by repeat (first | exact hd | exact Drawn0.refl _ | apply Drawn0.step)⟩

/-! ### order_Least: function 39 -/
def order_Least.f (l0 : List (List Bool)) (l1 : List Int) : Option (Int × Bool) := if l0.length < 4611686018427387904 then (if l1.length < 4611686018427387904 then some (if inLB l0 l1 = true then firstB l1 (fun a b => at2 l0 a b) else (0, false)) else none) else none
set_option maxHeartbeats 400000 in
theorem order_Least1_calls (p : Addr) (A : Option Addr) (c : Nat) (q : List (List Bool)) (a b : Int) (w : World) (hp : w.cell? p = some (.slice A q.length c))
    (hr : Kd.C (Kd.slice 4 Kd.bool) w A q.length q) (h0 : 0 ≤ a) (h1 : a < (q.length : Int)) (h2 : 0 ≤ b) (h3 : b < (q.length : Int)) (h4 : b < ((rd_L2 q a).length : Int)) :
    Calls Try.prog 75 #[.int .i64 a, .int .i64 b, .pointer (some p)] w fun e w' => e = .returned (.bool (at2 q a b)) ∧ Drawn0 w w' := by
  obtain ⟨ad, ad2, c0, rfl, hx, hx2⟩ := at2_reads hr a b h0 h1 h2 h4
  clear hr
  go_enter Try.func75, Try.ntmps75
  go_wp2
  go_ret
  exact ⟨rfl, by repeat (first | exact Drawn0.refl _ | apply Drawn0.step)⟩
set_option maxHeartbeats 800000 in
theorem order_Least.calls (A0 : Option Addr) (c0 : Nat) (l0 : List (List Bool)) (A1 : Option Addr) (c1 : Nat) (l1 : List Int) (r1 : Int) (r2 : Bool) (w : World) (hr0 : Kd.C (Kd.slice 4 Kd.bool) w A0 l0.length l0) (hc0 : l0.length ≤ c0) (hr1 : Kd.C (Kd.int .i64) w A1 l1.length l1) (hc1 : l1.length ≤ c1) (h : order_Least.f l0 l1 = some (r1, r2)) :
    Calls Try.prog 39 #[.slice A0 l0.length c0, .slice A1 l1.length c1] w fun e w' => e = .returned (.tuple #[.int .i64 r1, .bool r2]) ∧ Below w.heap.size w w' := by
  unfold order_Least.f at h
  by_cases hq : l0.length < 4611686018427387904
  · by_cases hl : l1.length < 4611686018427387904
    · rw [if_pos hq, if_pos hl] at h
      have h' := Option.some.inj h
      clear h
      have HC0 := Aside0.mk hc0
      have HC1 := Aside0.mk hc1
      have HR0 := Aside0.mk hr0
      have HR1 := Aside0.mk hr1
      have HH := Aside0.mk (has_eq l0 l1 hq hl)
      clear hc0 hr0 hc1 hr1
      cases hb : inLB l0 l1 with
      | false =>
        rw [hb] at HH h'
        simp only [Bool.false_eq_true, if_false, Prod.mk.injEq] at h'
        obtain ⟨rfl, rfl⟩ := h'
        clear hb
        go_enter Try.func39, Try.ntmps39
        go_wp2_with fail
        refine (order_has.calls (l0.length + l1.length + 2) A0 c0 l0 A1 c1 l1 false _ (Kd.C_alloc HR0.out _) HC0.out (Kd.C_alloc HR1.out _) HC1.out HH.out).mono ?_
        rintro e w' ⟨rfl, ⟨nd, rfl⟩⟩
        go_wp2
        go_ret2
        exact ⟨rfl, by repeat (first | exact Below.refl _ _ | apply below_alloc | apply pw_below_drewN | apply below_drew1)⟩
      | true =>
        rw [hb] at HH h'
        rw [if_pos rfl] at h'
        have HI := Aside0.mk hb
        have HE := Aside0.mk h'
        clear hb h'
        go_enter Try.func39, Try.ntmps39
        go_wp2_with fail
        refine (order_has.calls (l0.length + l1.length + 2) A0 c0 l0 A1 c1 l1 true _ (Kd.C_alloc HR0.out _) HC0.out (Kd.C_alloc HR1.out _) HC1.out HH.out).mono ?_
        rintro e w' ⟨rfl, ⟨nd, rfl⟩⟩
        go_wp2_with fail
        refine (order_first_calls A1 c1 l1 75 #[.pointer (some ⟨w.heap.size, 0, none⟩)] (inB l0.length) (fun a b => at2 l0 a b) _ (Kd.C_drewN (Kd.C_alloc HR1.out _) _) hl (enters_of Try.func75 (by kernel_rfl) (by kernel_rfl)) (fun a ha => inLB_in HI.out ha) ?s3).mono ?_
        case s3 =>
          intro a b w' hbel ha hb'
          exact calls_of_args rfl (order_Least1_calls ⟨w.heap.size, 0, none⟩ A0 c0 l0 a b w' (pw_cell_below hbel (by go_simp)) (Kd.C_below (Kd.C_drewN (Kd.C_alloc HR0.out _) _) hbel) ha.1 ha.2 hb'.1 hb'.2 (by rw [sq_row l0 (inLB_sq HI.out) a ha.1 ha.2]; exact hb'.2))
        rw [HE.out]
        rintro e w' ⟨rfl, ⟨nd2, rfl⟩⟩
        go_wp2
        go_ret2
        exact ⟨rfl, by repeat (first | exact Below.refl _ _ | apply below_alloc | apply pw_below_drewN | apply below_drew1)⟩
    · rw [if_pos hq, if_neg hl] at h; cases h
  · rw [if_neg hq] at h; cases h

/-! ### order_Greatest: function 41 -/
def order_Greatest.f (l0 : List (List Bool)) (l1 : List Int) : Option (Int × Bool) := if l0.length < 4611686018427387904 then (if l1.length < 4611686018427387904 then some (if inLB l0 l1 = true then firstB l1 (fun a b => at2 l0 b a) else (0, false)) else none) else none
set_option maxHeartbeats 400000 in
theorem order_Greatest1_calls (p : Addr) (A : Option Addr) (c : Nat) (q : List (List Bool)) (a b : Int) (w : World) (hp : w.cell? p = some (.slice A q.length c))
    (hr : Kd.C (Kd.slice 4 Kd.bool) w A q.length q) (h0 : 0 ≤ a) (h1 : a < (q.length : Int)) (h2 : 0 ≤ b) (h3 : b < (q.length : Int)) (h4 : a < ((rd_L2 q b).length : Int)) :
    Calls Try.prog 77 #[.int .i64 a, .int .i64 b, .pointer (some p)] w fun e w' => e = .returned (.bool (at2 q b a)) ∧ Drawn0 w w' := by
  obtain ⟨ad, ad2, c0, rfl, hx, hx2⟩ := at2_reads hr b a h2 h3 h0 h4
  clear hr
  go_enter Try.func77, Try.ntmps77
  go_wp2
  go_ret
  exact ⟨rfl, by repeat (first | exact Drawn0.refl _ | apply Drawn0.step)⟩
set_option maxHeartbeats 800000 in
theorem order_Greatest.calls (A0 : Option Addr) (c0 : Nat) (l0 : List (List Bool)) (A1 : Option Addr) (c1 : Nat) (l1 : List Int) (r1 : Int) (r2 : Bool) (w : World) (hr0 : Kd.C (Kd.slice 4 Kd.bool) w A0 l0.length l0) (hc0 : l0.length ≤ c0) (hr1 : Kd.C (Kd.int .i64) w A1 l1.length l1) (hc1 : l1.length ≤ c1) (h : order_Greatest.f l0 l1 = some (r1, r2)) :
    Calls Try.prog 41 #[.slice A0 l0.length c0, .slice A1 l1.length c1] w fun e w' => e = .returned (.tuple #[.int .i64 r1, .bool r2]) ∧ Below w.heap.size w w' := by
  unfold order_Greatest.f at h
  by_cases hq : l0.length < 4611686018427387904
  · by_cases hl : l1.length < 4611686018427387904
    · rw [if_pos hq, if_pos hl] at h
      have h' := Option.some.inj h
      clear h
      have HC0 := Aside0.mk hc0
      have HC1 := Aside0.mk hc1
      have HR0 := Aside0.mk hr0
      have HR1 := Aside0.mk hr1
      have HH := Aside0.mk (has_eq l0 l1 hq hl)
      clear hc0 hr0 hc1 hr1
      cases hb : inLB l0 l1 with
      | false =>
        rw [hb] at HH h'
        simp only [Bool.false_eq_true, if_false, Prod.mk.injEq] at h'
        obtain ⟨rfl, rfl⟩ := h'
        clear hb
        go_enter Try.func41, Try.ntmps41
        go_wp2_with fail
        refine (order_has.calls (l0.length + l1.length + 2) A0 c0 l0 A1 c1 l1 false _ (Kd.C_alloc HR0.out _) HC0.out (Kd.C_alloc HR1.out _) HC1.out HH.out).mono ?_
        rintro e w' ⟨rfl, ⟨nd, rfl⟩⟩
        go_wp2
        go_ret2
        exact ⟨rfl, by repeat (first | exact Below.refl _ _ | apply below_alloc | apply pw_below_drewN | apply below_drew1)⟩
      | true =>
        rw [hb] at HH h'
        rw [if_pos rfl] at h'
        have HI := Aside0.mk hb
        have HE := Aside0.mk h'
        clear hb h'
        go_enter Try.func41, Try.ntmps41
        go_wp2_with fail
        refine (order_has.calls (l0.length + l1.length + 2) A0 c0 l0 A1 c1 l1 true _ (Kd.C_alloc HR0.out _) HC0.out (Kd.C_alloc HR1.out _) HC1.out HH.out).mono ?_
        rintro e w' ⟨rfl, ⟨nd, rfl⟩⟩
        go_wp2_with fail
        refine (order_first_calls A1 c1 l1 77 #[.pointer (some ⟨w.heap.size, 0, none⟩)] (inB l0.length) (fun a b => at2 l0 b a) _ (Kd.C_drewN (Kd.C_alloc HR1.out _) _) hl (enters_of Try.func77 (by kernel_rfl) (by kernel_rfl)) (fun a ha => inLB_in HI.out ha) ?s3).mono ?_
        case s3 =>
          intro a b w' hbel ha hb'
          exact calls_of_args rfl (order_Greatest1_calls ⟨w.heap.size, 0, none⟩ A0 c0 l0 a b w' (pw_cell_below hbel (by go_simp)) (Kd.C_below (Kd.C_drewN (Kd.C_alloc HR0.out _) _) hbel) ha.1 ha.2 hb'.1 hb'.2 (by rw [sq_row l0 (inLB_sq HI.out) b hb'.1 hb'.2]; exact ha.2))
        rw [HE.out]
        rintro e w' ⟨rfl, ⟨nd2, rfl⟩⟩
        go_wp2
        go_ret2
        exact ⟨rfl, by repeat (first | exact Below.refl _ _ | apply below_alloc | apply pw_below_drewN | apply below_drew1)⟩
    · rw [if_pos hq, if_neg hl] at h; cases h
  · rw [if_neg hq] at h; cases h

/-! ### confidantref2_Powers: function 62 -/
mutual
def confidantref2_Powers.j0 : Nat → Int → Bool → Option ((List (List Bool)))
  | 0, _, _ => none
  | k + 1, x0, x12 => if x12 = true then (some ([] : List (List Bool))) else (confidantref2_Powers.l0 k x0 ([] : List (List Bool)) 0)
def confidantref2_Powers.l0 : Nat → Int → List (List Bool) → Int → Option ((List (List Bool)))
  | 0, _, _, _ => none
  | k + 1, x0, x3, x4 => if 0 ≤ x0 then (if x4 < (shl .i64 1 x0) then (confidantref2_Powers.l1 k x0 x3 x4 ([] : List Bool) 0) else (some x3)) else (none)
def confidantref2_Powers.l1 : Nat → Int → List (List Bool) → Int → List Bool → Int → Option ((List (List Bool)))
  | 0, _, _, _, _, _ => none
  | k + 1, x0, x3, x4, x5, x6 => if 0 ≤ x0 then (if x6 < (shl .i64 1 x0) then (if x5.length < 140737488355328 then (confidantref2_Powers.l1 k x0 x3 x4 (x5 ++ [((Go.bits .and .i64 x4 x6) == x4)]) (wrap64 (x6 + 1))) else (none)) else (if x3.length < 5864062014805 then (confidantref2_Powers.l0 k x0 (x3 ++ [x5]) (wrap64 (x4 + 1))) else (none))) else (none)
end
def confidantref2_Powers.f (k : Nat) (a0 : Int) : Option ((List (List Bool))) := if a0 < 0 then (confidantref2_Powers.j0 k a0 true) else (confidantref2_Powers.j0 k a0 (decide (a0 > 4)))
theorem confidantref2_Powers.mono_l : ∀ k, (∀ y0 y1, LeO (confidantref2_Powers.j0 k y0 y1) (confidantref2_Powers.j0 (k + 1) y0 y1)) ∧ (∀ y0 y1 y2, LeO (confidantref2_Powers.l0 k y0 y1 y2) (confidantref2_Powers.l0 (k + 1) y0 y1 y2)) ∧ (∀ y0 y1 y2 y3 y4, LeO (confidantref2_Powers.l1 k y0 y1 y2 y3 y4) (confidantref2_Powers.l1 (k + 1) y0 y1 y2 y3 y4))
  | 0 => ⟨fun _ _ r h => by simp [confidantref2_Powers.j0] at h, fun _ _ _ r h => by simp [confidantref2_Powers.l0] at h, fun _ _ _ _ _ r h => by simp [confidantref2_Powers.l1] at h⟩
  | k + 1 => by
    obtain ⟨ih0, ih1, ih2⟩ := confidantref2_Powers.mono_l k
    refine ⟨?_, ?_, ?_⟩
    · intro y0 y1
      unfold confidantref2_Powers.j0
      repeat' first
      | (with_reducible exact ih0 _ _)
      | (with_reducible exact ih1 _ _ _)
      | (with_reducible exact ih2 _ _ _ _ _)
      | (with_reducible exact LeO.refl _)
      | (with_reducible exact LeO.none _)
      | (with_reducible refine LeO.ite ?_ ?_)
      | (with_reducible refine LeO.bind ?_ (fun _ => ?_))
      | exact ih0 _ _
      | exact ih1 _ _ _
      | exact ih2 _ _ _ _ _
      | exact LeO.none _
      | refine LeO.ite ?_ ?_
      | refine LeO.bind ?_ (fun _ => ?_)
    · intro y0 y1 y2
      unfold confidantref2_Powers.l0
      repeat' first
      | (with_reducible exact ih0 _ _)
      | (with_reducible exact ih1 _ _ _)
      | (with_reducible exact ih2 _ _ _ _ _)
      | (with_reducible exact LeO.refl _)
      | (with_reducible exact LeO.none _)
      | (with_reducible refine LeO.ite ?_ ?_)
      | (with_reducible refine LeO.bind ?_ (fun _ => ?_))
      | exact ih0 _ _
      | exact ih1 _ _ _
      | exact ih2 _ _ _ _ _
      | exact LeO.none _
      | refine LeO.ite ?_ ?_
      | refine LeO.bind ?_ (fun _ => ?_)
    · intro y0 y1 y2 y3 y4
      unfold confidantref2_Powers.l1
      repeat' first
      | (with_reducible exact ih0 _ _)
      | (with_reducible exact ih1 _ _ _)
      | (with_reducible exact ih2 _ _ _ _ _)
      | (with_reducible exact LeO.refl _)
      | (with_reducible exact LeO.none _)
      | (with_reducible refine LeO.ite ?_ ?_)
      | (with_reducible refine LeO.bind ?_ (fun _ => ?_))
      | exact ih0 _ _
      | exact ih1 _ _ _
      | exact ih2 _ _ _ _ _
      | exact LeO.none _
      | refine LeO.ite ?_ ?_
      | refine LeO.bind ?_ (fun _ => ?_)
theorem confidantref2_Powers.mono : ∀ a0 k, LeO (confidantref2_Powers.f k a0) (confidantref2_Powers.f (k + 1) a0) := by
  intro a0 k
  obtain ⟨ih0, ih1, ih2⟩ := confidantref2_Powers.mono_l k
  unfold confidantref2_Powers.f
  repeat' first
      | (with_reducible exact ih0 _ _)
      | (with_reducible exact ih1 _ _ _)
      | (with_reducible exact ih2 _ _ _ _ _)
      | (with_reducible exact LeO.refl _)
      | (with_reducible exact LeO.none _)
      | (with_reducible refine LeO.ite ?_ ?_)
      | (with_reducible refine LeO.bind ?_ (fun _ => ?_))
      | exact ih0 _ _
      | exact ih1 _ _ _
      | exact ih2 _ _ _ _ _
      | exact LeO.none _
      | refine LeO.ite ?_ ?_
      | refine LeO.bind ?_ (fun _ => ?_)
set_option maxHeartbeats 8000000 in
set_option maxRecDepth 100000 in
theorem confidantref2_Powers.calls (k : Nat) (a0 : Int) (r : List (List Bool)) (w : World) (h : confidantref2_Powers.f k a0 = some r) :
    Calls Try.prog 62 #[.int .i64 a0] w fun e w' => ∃ v0_ : Value, e = .returned (v0_) ∧ Kd.S (Kd.slice 4 Kd.bool) 36 w' w.heap.size (fun _ => True) v0_ r ∧ Below w.heap.size w w' := by
  have HB := Aside0.mk (Below.refl w.heap.size w)
  have H : (if a0 < 0 then (confidantref2_Powers.j0 k a0 true) else (confidantref2_Powers.j0 k a0 (decide (a0 > 4)))) = some r := h
  clear h
  have HC2 := Aside0.mk H
  clear H
  go_enter Try.func62, Try.ntmps62
  go_upto_region 1 with (fail)
  go_cut [12] (fun v12 wc => ∃ (kq : Nat) (x12_1 : Bool), v12 = .bool x12_1 ∧ Aside0 (confidantref2_Powers.j0 kq a0 x12_1 = some r) ∧ Aside0 (kq ≤ k) ∧ Aside0 (Below w.heap.size w wc))
  case first =>
    have H := HC2.out
    clear HC2
    by_cases c3 : a0 < 0
    · rw [if_pos c3] at H
      have c3b0 : decide (a0 < 0) = true := decide_eq_true c3
      clear c3
      (first | rw [c3b0] | (simp only [i64_w, i32_w]; rw [c3b0]) | skip)
      have H' := Aside0.mk H
      clear H
      go_wp2
      go_meet
      case rel => exact ⟨_, (true), (by first | rfl | (simp; done) | (simp [*]; done)), H', ⟨by first | omega | exact Nat.le_refl _⟩, ⟨by repeat (first | (with_reducible first | exact HB.out | apply below_alloc | apply pw_below_drewN | apply below_drew1) | exact HB.out)⟩⟩
    · rw [if_neg c3] at H
      have c3b0 : decide (a0 < 0) = false := decide_eq_false c3
      clear c3
      (first | rw [c3b0] | (simp only [i64_w, i32_w]; rw [c3b0]) | skip)
      have H' := Aside0.mk H
      clear H
      go_wp2
      go_meet
      case rel => exact ⟨_, (decide (a0 > 4)), (by first | rfl | (simp; done) | (simp [*]; done)), H', ⟨by first | omega | exact Nat.le_refl _⟩, ⟨by repeat (first | (with_reducible first | exact HB.out | apply below_alloc | apply pw_below_drewN | apply below_drew1) | exact HB.out)⟩⟩
  case rest =>
    clear HC2
    try clear p2
    try clear c3
    try clear c3b0
    obtain ⟨kq, x12_1, rfl, HA, HJ1, HB⟩ := hcut
    cases kq with
    | zero => exact absurd HA.out (by simp [confidantref2_Powers.j0])
    | succ kj1 =>
      have H := HA.out
      clear HA
      simp only [confidantref2_Powers.j0] at H
      by_cases c4 : x12_1 = true
      · subst c4
        have H1 : (some ([] : List (List Bool))) = some r := by rw [if_pos rfl] at H; exact H
        clear H
        have H := H1
        clear H1
        obtain rfl := Option.some.inj H
        go_wp2
        go_ret
        exact ⟨_, by first | rfl | (simp [errW_none, errW_some] <;> rfl) | (simp [*, errW_none, errW_some] <;> rfl), by first | exact Kd.S_nil _ _ _ _ _ | exact Kd.N_nil _ _ _ _ _ | exact Kd.V_nil _ _ _ _ _ | exact Kd.Q_nil _ _ _ _ _ | exact Kd.R_nil _ _ _ _ _, by repeat (first | (with_reducible first | exact HB.out | apply below_alloc | apply pw_below_drewN | apply below_drew1) | exact HB.out)⟩
      · replace c4 := Bool.eq_false_iff.mpr c4
        subst c4
        have H1 : (confidantref2_Powers.l0 kj1 a0 ([] : List (List Bool)) 0) = some r := by rw [if_neg (show ¬ (false = true) by decide)] at H; exact H
        clear H
        have H := H1
        clear H1
        have H' := Aside0.mk H
        clear H
        go_wp2
        go_loopg [3, 4] kj1 (fun kq v3 v4 w' => ∃ (x3_2 : List (List Bool)) (x4_2 : Int), v4 = .int .i64 x4_2 ∧ Aside0 (confidantref2_Powers.l0 kq a0 x3_2 x4_2 = some r) ∧ Aside0 (kq ≤ kj1) ∧ Aside0 (Kd.S (Kd.slice 4 Kd.bool) 36 w' w.heap.size (fun _ => True) v3 x3_2) ∧ Aside0 (Below w.heap.size w w'))
        case atStart => exact ⟨(([] : List (List Bool))), (0), (by first | rfl | (simp; done) | (simp [*]; done)), H', ⟨Nat.le_refl _⟩, ⟨by first | exact Kd.S_nil _ _ _ _ _ | exact Kd.N_nil _ _ _ _ _ | exact Kd.V_nil _ _ _ _ _ | exact Kd.Q_nil _ _ _ _ _ | exact Kd.R_nil _ _ _ _ _⟩, ⟨by repeat (first | (with_reducible first | exact HB.out | apply below_alloc | apply pw_below_drewN | apply below_drew1) | exact HB.out)⟩⟩
        case round =>
          clear H'
          try clear p2
          try clear c3
          try clear c3b0
          try clear c4
          try clear p2
          obtain ⟨x3_2, x4_2, rfl, HA, HK2, HO_3, HB⟩ := hrel
          cases gk with
          | zero => exact absurd HA.out (by simp [confidantref2_Powers.l0])
          | succ k2 =>
            have H := HA.out
            clear HA
            simp only [confidantref2_Powers.l0] at H
            by_cases c5 : 0 ≤ a0
            · rw [if_pos c5] at H
              have c5b0 := eq_true c5
              have c5b1 : decide (0 ≤ a0) = true := decide_eq_true c5
              clear c5
              obtain ⟨ji6, hji6⟩ : ∃ j_ : Int, (shl .i64 1 a0) = j_ := ⟨_, rfl⟩
              replace H : (if x4_2 < (ji6) then (confidantref2_Powers.l1 k2 a0 x3_2 x4_2 ([] : List Bool) 0) else (some x3_2)) = some r := by first | (rw [hji6] at H; exact H) | (simp only [hji6] at H ⊢; exact H)
              have hji6_ : (IntKind.i64.wrap (1 * 2 ^ min a0.toNat 64)) = ji6 := hji6
              have hji6z : a0 ≤ 64 → (IntKind.i64.wrap (1 * 2 ^ a0.toNat)) = ji6 := shl_small hji6
              have hji6u : (IntKind.i64.wrap (2 ^ min a0.toNat 64)) = ji6 := by have h_ := hji6_; rw [Int.one_mul] at h_; exact h_
              have hji6v : a0 ≤ 64 → (IntKind.i64.wrap (2 ^ a0.toNat)) = ji6 := fun hle_ => by have h_ := hji6z hle_; rw [Int.one_mul] at h_; exact h_
              have hji6y : (wrap64 (1 * 2 ^ min a0.toNat 64)) = ji6 := (i64_w _).symm.trans hji6_
              have hji6x : a0 ≤ 64 → (wrap64 (1 * 2 ^ a0.toNat)) = ji6 := fun h_ => (i64_w _).symm.trans (hji6z h_)
              by_cases c7 : x4_2 < (ji6)
              · rw [if_pos c7] at H
                have c7b0 : decide (x4_2 < (ji6)) = true := decide_eq_true c7
                clear c7
                have H' := Aside0.mk H
                clear H
                go_wp2
                go_loopg [5, 6] k2 (fun kq v5 v6 w' => ∃ (x5_3 : List Bool) (x6_3 : Int), v6 = .int .i64 x6_3 ∧ Aside0 (confidantref2_Powers.l1 kq a0 x3_2 x4_2 x5_3 x6_3 = some r) ∧ Aside0 (kq ≤ k2) ∧ Aside0 (Kd.S (Kd.slice 4 Kd.bool) 36 w' w.heap.size (fun k_ => some k_ ≠ (v5 : Value).ownBlock) u3 x3_2) ∧ Aside0 (Kd.R Kd.bool 4 w' w.heap.size (fun _ => True) v5 x5_3) ∧ Aside0 (Below w.heap.size w w'))
                case atStart => exact ⟨(([] : List Bool)), (0), (by first | rfl | (simp; done) | (simp [*]; done)), H', ⟨Nat.le_refl _⟩, ⟨by (with_reducible repeat (first | apply Kd.S_alloc | apply Kd.S_drewN | apply Kd.S_drew)); exact Kd.S_mono HO_3.out (fun _ hk => (by simp [Value.ownBlock]))⟩, ⟨by first | exact Kd.R_nil _ _ _ _ _ | exact Kd.N_nil _ _ _ _ _ | exact Kd.V_nil _ _ _ _ _ | exact Kd.Q_nil _ _ _ _ _ | exact Kd.S_nil _ _ _ _ _⟩, ⟨by repeat (first | (with_reducible first | exact HB.out | apply below_alloc | apply pw_below_drewN | apply below_drew1) | exact HB.out)⟩⟩
                case round =>
                  clear H'
                  try clear p2
                  try clear c3
                  try clear c3b0
                  try clear c4
                  try clear c5
                  try clear c5b0
                  try clear c5b1
                  try clear c6
                  try clear p6
                  try clear c7
                  try clear c7b0
                  try clear p2
                  obtain ⟨x5_3, x6_3, rfl, HA, HK3, HO_3, HO_5, HB⟩ := hrel
                  cases gk with
                  | zero => exact absurd HA.out (by simp [confidantref2_Powers.l1])
                  | succ k3 =>
                    have H := HA.out
                    clear HA
                    simp only [confidantref2_Powers.l1] at H
                    by_cases c8 : 0 ≤ a0
                    · rw [if_pos c8] at H
                      have c8b0 := eq_true c8
                      have c8b1 : decide (0 ≤ a0) = true := decide_eq_true c8
                      clear c8
                      replace H : (if x6_3 < (ji6) then (if x5_3.length < 140737488355328 then (confidantref2_Powers.l1 k3 a0 x3_2 x4_2 (x5_3 ++ [((Go.bits .and .i64 x4_2 x6_3) == x4_2)]) (wrap64 (x6_3 + 1))) else (none)) else (if x3_2.length < 5864062014805 then (confidantref2_Powers.l0 k3 a0 (x3_2 ++ [x5_3]) (wrap64 (x4_2 + 1))) else (none))) = some r := by first | (rw [hji6] at H; exact H) | (simp only [hji6] at H ⊢; exact H)
                      by_cases c9 : x6_3 < (ji6)
                      · rw [if_pos c9] at H
                        have c9b0 : decide (x6_3 < (ji6)) = true := decide_eq_true c9
                        clear c9
                        by_cases c10 : x5_3.length < 140737488355328
                        · rw [if_pos c10] at H
                          have LMc10 := Aside0.mk c10
                          clear c10
                          obtain ⟨y106, hy106⟩ : ∃ y_ : List Bool, y_ = (x5_3 ++ [((Go.bits .and .i64 x4_2 x6_3) == x4_2)]) := ⟨_, rfl⟩
                          replace H : (confidantref2_Powers.l1 k3 a0 x3_2 x4_2 y106 (wrap64 (x6_3 + 1))) = some r := by first | (rw [hy106]; with_reducible exact H) | (have H2_ := (Option.bind_some _ _).symm.trans H; rw [hy106]; with_reducible exact H2_) | (have H2_ := (Option.bind_some _ _).symm.trans H; with_reducible exact H2_) | with_reducible exact H | (rw [hy106]; exact H) | exact H
                          have Ny106 := Aside0.mk hy106
                          clear hy106
                          have H' := Aside0.mk H
                          clear H
                          go_wp2_with (first | ((with_reducible refine gate_builtin (b := .append) (xs := #[.tmp 25, .tmp 31]) rfl ?_); at_builtin; refine Kd.R_append Kd.bool (w0 := w) w.heap.size rfl (.tmp 25) (.tmp 31) 36 4 (.bool false) 1 rfl Try.underlying36 info4 rfl (by decide) (by omega) u5 x5_3 ((Go.bits .and .i64 x4_2 x6_3) == x4_2) [.bool ((Go.bits .and .i64 x4_2 x6_3) == x4_2)] (fun _ => True) (fun _ => False) rfl rfl ?aP (fun _ hk => hk.elim) ?aF ?aO ?aB ?aS ?aL ?_; (case aP => exact rfl); (case aB => exact (by repeat (first | (with_reducible first | exact HB.out | apply below_alloc | apply pw_below_drewN | apply below_drew1) | exact HB.out))); (case aF => exact (fun _ _ => trivial)); (case aO => exact (by (with_reducible repeat (first | apply Kd.R_alloc | apply Kd.R_drewN | apply Kd.R_drew)); exact HO_5.out)); (case aS => exact (below_size (by repeat (first | (with_reducible first | exact HB.out | apply below_alloc | apply pw_below_drewN | apply below_drew1) | exact HB.out)))); (case aL => have := LMc10.out; omega); intro v107 w11 ho hb hg hat; rw [← Ny106.out] at ho; have n0_ := Aside0.mk (Kd.S_after (ok := (fun _ => True)) (by (with_reducible repeat (first | apply Kd.S_alloc | apply Kd.S_drewN | apply Kd.S_drew)); exact Kd.S_mono HO_3.out (fun _ hk => ⟨trivial, hk⟩)) hg hat); have n1_ := Aside0.mk (hb); have n2_ := Aside0.mk (ho); clear HO_3; clear HB; clear HO_5; have HO_3 := n0_; have HB := n1_; have HO108 := n2_; clear n0_ n1_ n2_; clear ho hb hg hat))
                          go_roundg k3
                          case measure => have := HJ1.out; have := HK2.out; have := HK3.out; omega
                          case rel => exact ⟨(y106), (wrap64 (x6_3 + 1)), (by first | rfl | (simp; done) | (simp [*]; done)), H', ⟨by have := HJ1.out; have := HK2.out; have := HK3.out; omega⟩, ⟨by (with_reducible repeat (first | apply Kd.S_alloc | apply Kd.S_drewN | apply Kd.S_drew)); exact Kd.S_mono HO_3.out (fun _ hk => hk.2)⟩, ⟨by (with_reducible repeat (first | apply Kd.R_alloc | apply Kd.R_drewN | apply Kd.R_drew)); exact HO108.out⟩, ⟨by repeat (first | (with_reducible first | exact HB.out | apply below_alloc | apply pw_below_drewN | apply below_drew1) | exact HB.out)⟩⟩
                        · rw [if_neg c10] at H
                          exact absurd H (by simp)
                      · rw [if_neg c9] at H
                        have c9b0 : decide (x6_3 < (ji6)) = false := decide_eq_false c9
                        clear c9
                        by_cases c12 : x3_2.length < 5864062014805
                        · rw [if_pos c12] at H
                          have LMc12 := Aside0.mk c12
                          clear c12
                          obtain ⟨y109, hy109⟩ : ∃ y_ : List (List Bool), y_ = (x3_2 ++ [x5_3]) := ⟨_, rfl⟩
                          replace H : (confidantref2_Powers.l0 k3 a0 y109 (wrap64 (x4_2 + 1))) = some r := by first | (rw [hy109]; with_reducible exact H) | (have H2_ := (Option.bind_some _ _).symm.trans H; rw [hy109]; with_reducible exact H2_) | (have H2_ := (Option.bind_some _ _).symm.trans H; with_reducible exact H2_) | with_reducible exact H | (rw [hy109]; exact H) | exact H
                          have Ny109 := Aside0.mk hy109
                          clear hy109
                          have H' := Aside0.mk H
                          clear H
                          obtain ⟨Ao14, co14, eo14⟩ := Kd.R_slice HO_5.out
                          subst eo14
                          go_wp2_with (first | ((with_reducible refine gate_builtin (b := .append) (xs := #[.tmp 33, .tmp 35]) rfl ?_); at_builtin; refine Kd.S_append (Kd.slice 4 Kd.bool) (w0 := w) w.heap.size rfl (.tmp 33) (.tmp 35) 32 36 (.slice none 0 0) 24 rfl Try.underlying32 info36 rfl (by decide) (by omega) u3 x3_2 x5_3 [.slice Ao14 x5_3.length co14] (fun _ => True) (fun k_ => some k_ = (.slice Ao14 x5_3.length co14 : Value).ownBlock) rfl rfl ?aP (fun k_ hk_ => ((Kd.R_mono (ok' := fun k_ => ((fun _ => True)) k_ ∧ some k_ ≠ (u3 : Value).ownBlock) (Kd.R_apart' (HO_5.out) (Kd.S_typed HO_3.out) (by decide)) (fun k_ hk => ⟨trivial, hk.2⟩))).1 k_ hk_.symm) ?aF ?aO ?aB ?aS ?aL ?_; (case aP => exact Kd.M_row (Kd.R_mono (Kd.R_tight rfl (Kd.R_mono (ok' := fun k_ => ((fun _ => True)) k_ ∧ some k_ ≠ (u3 : Value).ownBlock) (Kd.R_apart' (HO_5.out) (Kd.S_typed HO_3.out) (by decide)) (fun k_ hk => ⟨trivial, hk.2⟩))) (fun _ h_ => h_))); (case aB => exact (by repeat (first | (with_reducible first | exact HB.out | apply below_alloc | apply pw_below_drewN | apply below_drew1) | exact HB.out))); (case aF => exact (fun _ _ => trivial)); (case aO => exact (by (with_reducible repeat (first | apply Kd.S_alloc | apply Kd.S_drewN | apply Kd.S_drew)); exact Kd.S_mono HO_3.out (fun k_ hk => ⟨trivial, fun e_ => hk e_⟩))); (case aS => exact (below_size (by repeat (first | (with_reducible first | exact HB.out | apply below_alloc | apply pw_below_drewN | apply below_drew1) | exact HB.out)))); (case aL => have := LMc12.out; omega); intro v110 w13 ho hb hg hat; rw [← Ny109.out] at ho; have n0_ := Aside0.mk (hb); have n1_ := Aside0.mk (ho); clear HB; clear HO_3; clear HO_5; have HB := n0_; have HO111 := n1_; clear n0_ n1_; clear ho hb hg hat))
                          go_roundg k3
                          case measure => have := HJ1.out; have := HK2.out; have := HK3.out; omega
                          case rel => exact ⟨(y109), (wrap64 (x4_2 + 1)), (by first | rfl | (simp; done) | (simp [*]; done)), H', ⟨by have := HJ1.out; have := HK2.out; have := HK3.out; omega⟩, ⟨by (with_reducible repeat (first | apply Kd.S_alloc | apply Kd.S_drewN | apply Kd.S_drew)); exact HO111.out⟩, ⟨by repeat (first | (with_reducible first | exact HB.out | apply below_alloc | apply pw_below_drewN | apply below_drew1) | exact HB.out)⟩⟩
                        · rw [if_neg c12] at H
                          exact absurd H (by simp)
                    · rw [if_neg c8] at H
                      exact absurd H (by simp)
              · rw [if_neg c7] at H
                have c7b0 : decide (x4_2 < (ji6)) = false := decide_eq_false c7
                clear c7
                obtain rfl := Option.some.inj H
                go_wp2
                go_ret
                exact ⟨_, by first | rfl | (simp [errW_none, errW_some] <;> rfl) | (simp only [← hji6]; first | rfl | (simp [errW_none, errW_some] <;> rfl)) | (simp [*, errW_none, errW_some] <;> rfl), by (with_reducible repeat (first | apply Kd.S_alloc | apply Kd.S_drewN | apply Kd.S_drew)); exact HO_3.out, by repeat (first | (with_reducible first | exact HB.out | apply below_alloc | apply pw_below_drewN | apply below_drew1) | exact HB.out)⟩
            · rw [if_neg c5] at H
              exact absurd H (by simp)

end Go.Proofs.Ytpeeneaapmmciaa.POtells
