-- Printed by wip/tools/oprint.py, a program of this session.
import Derived.Test.YtpeeneaapmmciaaPLmadex0
import Derived.Test.YtpeeneaapmmciaaPLmadex1
namespace Go.Proofs.Ytpeeneaapmmciaa.PLmade
open Go.RowKit Go.Proofs.YtpeeneaapmmciaaW.PrintWords Go.Proofs.YtpeeneaapmmciaaW.PrintLast Go.Proofs.YtpeeneaapmmciaaW.PrintMore
attribute [local go_sem] max2_int min2_int max_two min_two max_three min_three max_four min_four   -- for this text's walks alone
set_option linter.unusedVariables false
set_option linter.unusedSimpArgs false

/-! ### order_first: function 74 -/
/-- The first one of a list that stands so to each of it. -/
def firstB (l : List Int) (g : Int → Int → Bool) : Int × Bool := match l.find? (fun a => l.all (fun b => g a b)) with | some a => (a, true) | none => (0, false)
theorem firstB_yes (l : List Int) (g : Int → Int → Bool) (i : Nat) (hi : i < l.length) (hno : ∀ x : Nat, x < i → (l.all fun b => g (rd l x) b) = false) (h : (l.all fun b => g (rd l i) b) = true) : firstB l g = (rd l i, true) := by
  have hr : rd l (i : Int) = l[i] := by unfold rd; simp [hi]
  have hf : l.find? (fun a => l.all (fun b => g a b)) = some l[i] := by
    rw [List.find?_eq_some_iff_getElem]
    refine ⟨by rw [← hr]; exact h, i, hi, rfl, fun j hj => ?_⟩
    have := hno j hj
    have hr2 : rd l (j : Int) = l[j] := by unfold rd; simp [show j < l.length by omega]
    rw [hr2] at this
    simp [this]
  unfold firstB
  rw [hf, hr]
theorem firstB_no (l : List Int) (g : Int → Int → Bool) (hno : ∀ x : Nat, x < l.length → (l.all fun b => g (rd l x) b) = false) : firstB l g = (0, false) := by
  have hf : l.find? (fun a => l.all (fun b => g a b)) = none := by
    rw [List.find?_eq_none]
    intro x hx
    obtain ⟨j, hj, rfl⟩ := List.getElem_of_mem hx
    have := hno j hj
    have hr2 : rd l (j : Int) = l[j] := by unfold rd; simp [hj]
    rw [hr2] at this
    simp [this]
  unfold firstB
  rw [hf]
theorem all_take (l : List Int) (f : Int → Bool) (j : Nat) (hj : j < l.length) : (l.take (j + 1)).all f = ((l.take j).all f && f (rd l j)) := by
  have hr : rd l (j : Int) = l[j] := by unfold rd; simp [hj]
  rw [List.take_succ_eq_append_getElem hj, List.all_append, hr]
  simp
theorem rd_mem (l : List Int) (j : Nat) (hj : j < l.length) : rd l (j : Int) ∈ l := by
  have hr : rd l (j : Int) = l[j] := by unfold rd; simp [hj]
  rw [hr]; exact List.getElem_mem hj
set_option maxHeartbeats 800000 in
theorem order_first_calls (A : Option Addr) (c : Nat) (l : List Int) (fid : Nat) (caps : Array Value) (p : Int → Prop) (g : Int → Int → Bool) (w : World)
    (hr : Kd.C (Kd.int .i64) w A l.length l) (hl : l.length < 4611686018427387904) (he : Enters fid) (hp : ∀ a ∈ l, p a) (hf : Says2 w fid caps p g) :
    Calls Try.prog 74 #[.slice A l.length c, .func (.func fid) #[] caps] w fun e w' => e = .returned (.tuple #[.int .i64 (firstB l g).1, .bool (firstB l g).2]) ∧ Drawn0 w w' := by
  have HR := Aside0.mk hr
  have HE := Aside0.mk he
  have HP := Aside0.mk hp
  have HF := Aside0.mk hf
  clear hr he hp hf
  go_enter Try.func74, Try.ntmps74
  go_wp2
  go_loopw [13] (fun i wr => ∃ a : Nat, a ≤ l.length ∧ i = .int .i64 (a : Int) ∧ Drawn0 w wr ∧ Aside0 (∀ x : Nat, x < a → (l.all fun b => g (rd l x) b) = false)) (fun i _ => l.length - (intOf i).toNat)
  case atStart => exact ⟨0, Nat.zero_le _, rfl, by repeat (first | exact Drawn0.refl _ | apply Drawn0.step), ⟨fun x hx => absurd hx (Nat.not_lt_zero _)⟩⟩
  case round =>
    obtain ⟨a, ha, rfl, hd, HG⟩ := hrel
    by_cases hlt : a < l.length
    · obtain ⟨n0, rfl⟩ := hd
      obtain ⟨ad, rfl, hx⟩ := Kd.at_int HR.out (a : Int) (by omega) (by omega)
      simp only [Int.toNat_natCast] at hx
      have HPA := Aside0.mk (HP.out _ (rd_mem l a hlt))
      generalize hva : rd l (a : Int) = va at *
      have HVA := Aside0.mk hva
      clear hva
      go_wp2_with fail
      go_loopw [8, 19] (fun o i wr => ∃ b : Nat, b ≤ l.length ∧ i = .int .i64 (b : Int) ∧ Drawn0 w wr ∧ o = .bool ((l.take b).all fun y => g va y)) (fun _ i _ => l.length - (intOf i).toNat)
      case atStart => exact ⟨0, Nat.zero_le _, rfl, by repeat (first | exact Drawn0.refl _ | apply Drawn0.step), by simp⟩
      case round =>
        obtain ⟨b, hb, rfl, ⟨n1, rfl⟩, rfl⟩ := hrel
        by_cases hlt2 : b < l.length
        · obtain ⟨ad', hA, hy⟩ := Kd.at_int HR.out (b : Int) (by omega) (by omega)
          cases hA
          simp only [Int.toNat_natCast] at hy
          have HPB := Aside0.mk (HP.out _ (rd_mem l b hlt2))
          have HT := Aside0.mk (all_take l (fun y => g va y) b hlt2)
          generalize hvb : rd l (b : Int) = vb at *
          generalize ho : ((l.take b).all fun y => g va y) = o at *
          have HC := Aside0.mk (HF.out va vb (w.drewN n1) ((Drawn0.step (Drawn0.refl w) n1).below) HPA.out HPB.out)
          have he := HE.out
          unfold Enters at he
          clear hvb ho
          generalize hg : g va vb = z at *
          clear hg
          have HT' : Aside0 (((l.take (b + 1)).all fun y => g va y) = (o && z)) := ⟨by rw [HT.out]⟩
          clear HT
          cases o with
          | true =>
            go_wp2_with ((with_reducible refine HC.out.mono ?_); rintro e w' ⟨rfl, ⟨nd, rfl⟩⟩)
            go_roundw
            case rel => exact ⟨b + 1, by omega, by go_num, by repeat (first | exact Drawn0.refl _ | apply Drawn0.step), by rw [HT'.out]; simp⟩
            case measure => simp [intOf]; omega
          | false =>
            go_wp2_with ((with_reducible refine HC.out.mono ?_); rintro e w' ⟨rfl, ⟨nd, rfl⟩⟩)
            go_roundw
            case rel => exact ⟨b + 1, by omega, by go_num, by repeat (first | exact Drawn0.refl _ | apply Drawn0.step), by rw [HT'.out]; simp⟩
            case measure => simp [intOf]; omega
        · have hbe : b = l.length := by omega
          have HA : Aside0 (((l.take b).all fun y => g va y) = l.all fun y => g va y) := ⟨by rw [List.take_of_length_le (by omega)]⟩
          generalize hz : ((l.take b).all fun y => g va y) = z at *
          have HZ : Aside0 ((l.all fun y => g (rd l (a : Int)) y) = z) := ⟨by rw [HVA.out]; exact HA.out.symm⟩
          clear hz HA hbe
          cases z with
          | true =>
            have HFI := Aside0.mk (firstB_yes l g a hlt HG.out HZ.out)
            go_wp2
            go_ret2
            exact ⟨by (rw [HFI.out, HVA.out]; try rfl), by repeat (first | exact Drawn0.refl _ | apply Drawn0.step)⟩
          | false =>
            go_wp2
            go_roundw
            case rel => exact ⟨a + 1, by omega, by go_num, by repeat (first | exact Drawn0.refl _ | apply Drawn0.step), ⟨fun x hx => by
              rcases Nat.lt_or_eq_of_le (Nat.le_of_lt_succ hx) with h | h
              · exact HG.out x h
              · subst h; exact HZ.out⟩⟩
            case measure => simp [intOf]; omega
    · have hae : a = l.length := by omega
      subst hae
      have HFI := Aside0.mk (firstB_no l g HG.out)
      go_wp2
      go_ret2
      exact ⟨by (rw [HFI.out]; try rfl), by repeat (first | exact hd | exact Drawn0.refl _ | apply Drawn0.step)⟩

/-! ### order_Least: function 39 -/
def order_Least.f (l0 : List (List Bool)) (l1 : List Int) : Option (Int × Bool) := if l0.length < 4611686018427387904 then (if l1.length < 4611686018427387904 then some (if inLB l0 l1 = true then firstB l1 (fun a b => at2 l0 a b) else (0, false)) else none) else none
set_option maxHeartbeats 400000 in
theorem order_Least1_calls (p : Addr) (A : Option Addr) (c : Nat) (q : List (List Bool)) (a b : Int) (w : World) (hp : w.cell? p = some (.slice A q.length c))
    (hr : Kd.C (Kd.slice 4 Kd.bool) w A q.length q) (h0 : 0 ≤ a) (h1 : a < (q.length : Int)) (h2 : 0 ≤ b) (h3 : b < (q.length : Int)) (h4 : b < ((rd_L1 q a).length : Int)) :
    Calls Try.prog 75 #[.int .i64 a, .int .i64 b, .pointer (some p)] w fun e w' => e = .returned (.bool (at2 q a b)) ∧ Drawn0 w w' := by
  obtain ⟨ad, ad2, c0, rfl, hx, hx2⟩ := at2_reads hr a b h0 h1 h2 h4
  clear hr
  go_enter Try.func75, Try.ntmps75
  go_wp2
  go_ret
  exact ⟨rfl, by repeat (first | exact Drawn0.refl _ | apply Drawn0.step)⟩
set_option maxHeartbeats 800000 in
theorem order_Least.calls (A0 : Option Addr) (c0 : Nat) (l0 : List (List Bool)) (A1 : Option Addr) (c1 : Nat) (l1 : List Int) (r1 : Int) (r2 : Bool) (w : World) (hr0 : Kd.C (Kd.slice 4 Kd.bool) w A0 l0.length l0) (hc0 : l0.length ≤ c0) (hr1 : Kd.C (Kd.int .i64) w A1 l1.length l1) (hc1 : l1.length ≤ c1) (h : order_Least.f l0 l1 = some (r1, r2)) :
    Calls Try.prog 39 #[.slice A0 l0.length c0, .slice A1 l1.length c1] w fun e w' => e = .returned (.tuple #[.int .i64 r1, .bool r2]) ∧ Below w.heap.size w w' := by
  unfold order_Least.f at h
  by_cases hq : l0.length < 4611686018427387904
  · by_cases hl : l1.length < 4611686018427387904
    · rw [if_pos hq, if_pos hl] at h
      have h' := Option.some.inj h
      clear h
      have HC0 := Aside0.mk hc0
      have HC1 := Aside0.mk hc1
      have HR0 := Aside0.mk hr0
      have HR1 := Aside0.mk hr1
      have HH := Aside0.mk (has_eq l0 l1 hq hl)
      clear hc0 hr0 hc1 hr1
      cases hb : inLB l0 l1 with
      | false =>
        rw [hb] at HH h'
        simp only [Bool.false_eq_true, if_false, Prod.mk.injEq] at h'
        obtain ⟨rfl, rfl⟩ := h'
        clear hb
        go_enter Try.func39, Try.ntmps39
        go_wp2_with fail
        refine (order_has.calls (l0.length + l1.length + 2) A0 c0 l0 A1 c1 l1 false _ (Kd.C_alloc HR0.out _) HC0.out (Kd.C_alloc HR1.out _) HC1.out HH.out).mono ?_
        rintro e w' ⟨rfl, ⟨nd, rfl⟩⟩
        go_wp2
        go_ret2
        exact ⟨rfl, by repeat (first | exact Below.refl _ _ | apply below_alloc | apply pw_below_drewN | apply below_drew1)⟩
      | true =>
        rw [hb] at HH h'
        rw [if_pos rfl] at h'
        have HI := Aside0.mk hb
        have HE := Aside0.mk h'
        clear hb h'
        go_enter Try.func39, Try.ntmps39
        go_wp2_with fail
        refine (order_has.calls (l0.length + l1.length + 2) A0 c0 l0 A1 c1 l1 true _ (Kd.C_alloc HR0.out _) HC0.out (Kd.C_alloc HR1.out _) HC1.out HH.out).mono ?_
        rintro e w' ⟨rfl, ⟨nd, rfl⟩⟩
        go_wp2_with fail
        refine (order_first_calls A1 c1 l1 75 #[.pointer (some ⟨w.heap.size, 0, none⟩)] (inB l0.length) (fun a b => at2 l0 a b) _ (Kd.C_drewN (Kd.C_alloc HR1.out _) _) hl (enters_of Try.func75 (by kernel_rfl) (by kernel_rfl)) (fun a ha => inLB_in HI.out ha) ?s3).mono ?_
        case s3 =>
          intro a b w' hbel ha hb'
          exact calls_of_args rfl (order_Least1_calls ⟨w.heap.size, 0, none⟩ A0 c0 l0 a b w' (pw_cell_below hbel (by go_simp)) (Kd.C_below (Kd.C_drewN (Kd.C_alloc HR0.out _) _) hbel) ha.1 ha.2 hb'.1 hb'.2 (by rw [sq_row l0 (inLB_sq HI.out) a ha.1 ha.2]; exact hb'.2))
        rw [HE.out]
        rintro e w' ⟨rfl, ⟨nd2, rfl⟩⟩
        go_wp2
        go_ret2
        exact ⟨rfl, by repeat (first | exact Below.refl _ _ | apply below_alloc | apply pw_below_drewN | apply below_drew1)⟩
    · rw [if_pos hq, if_neg hl] at h; cases h
  · rw [if_neg hq] at h; cases h

/-! ### order_Greatest: function 41 -/
def order_Greatest.f (l0 : List (List Bool)) (l1 : List Int) : Option (Int × Bool) := if l0.length < 4611686018427387904 then (if l1.length < 4611686018427387904 then some (if inLB l0 l1 = true then firstB l1 (fun a b => at2 l0 b a) else (0, false)) else none) else none
set_option maxHeartbeats 400000 in
theorem order_Greatest1_calls (p : Addr) (A : Option Addr) (c : Nat) (q : List (List Bool)) (a b : Int) (w : World) (hp : w.cell? p = some (.slice A q.length c))
    (hr : Kd.C (Kd.slice 4 Kd.bool) w A q.length q) (h0 : 0 ≤ a) (h1 : a < (q.length : Int)) (h2 : 0 ≤ b) (h3 : b < (q.length : Int)) (h4 : a < ((rd_L1 q b).length : Int)) :
    Calls Try.prog 77 #[.int .i64 a, .int .i64 b, .pointer (some p)] w fun e w' => e = .returned (.bool (at2 q b a)) ∧ Drawn0 w w' := by
  obtain ⟨ad, ad2, c0, rfl, hx, hx2⟩ := at2_reads hr b a h2 h3 h0 h4
  clear hr
  go_enter Try.func77, Try.ntmps77
  go_wp2
  go_ret
  exact ⟨rfl, by repeat (first | exact Drawn0.refl _ | apply Drawn0.step)⟩
set_option maxHeartbeats 800000 in
theorem order_Greatest.calls (A0 : Option Addr) (c0 : Nat) (l0 : List (List Bool)) (A1 : Option Addr) (c1 : Nat) (l1 : List Int) (r1 : Int) (r2 : Bool) (w : World) (hr0 : Kd.C (Kd.slice 4 Kd.bool) w A0 l0.length l0) (hc0 : l0.length ≤ c0) (hr1 : Kd.C (Kd.int .i64) w A1 l1.length l1) (hc1 : l1.length ≤ c1) (h : order_Greatest.f l0 l1 = some (r1, r2)) :
    Calls Try.prog 41 #[.slice A0 l0.length c0, .slice A1 l1.length c1] w fun e w' => e = .returned (.tuple #[.int .i64 r1, .bool r2]) ∧ Below w.heap.size w w' := by
  unfold order_Greatest.f at h
  by_cases hq : l0.length < 4611686018427387904
  · by_cases hl : l1.length < 4611686018427387904
    · rw [if_pos hq, if_pos hl] at h
      have h' := Option.some.inj h
      clear h
      have HC0 := Aside0.mk hc0
      have HC1 := Aside0.mk hc1
      have HR0 := Aside0.mk hr0
      have HR1 := Aside0.mk hr1
      have HH := Aside0.mk (has_eq l0 l1 hq hl)
      clear hc0 hr0 hc1 hr1
      cases hb : inLB l0 l1 with
      | false =>
        rw [hb] at HH h'
        simp only [Bool.false_eq_true, if_false, Prod.mk.injEq] at h'
        obtain ⟨rfl, rfl⟩ := h'
        clear hb
        go_enter Try.func41, Try.ntmps41
        go_wp2_with fail
        refine (order_has.calls (l0.length + l1.length + 2) A0 c0 l0 A1 c1 l1 false _ (Kd.C_alloc HR0.out _) HC0.out (Kd.C_alloc HR1.out _) HC1.out HH.out).mono ?_
        rintro e w' ⟨rfl, ⟨nd, rfl⟩⟩
        go_wp2
        go_ret2
        exact ⟨rfl, by repeat (first | exact Below.refl _ _ | apply below_alloc | apply pw_below_drewN | apply below_drew1)⟩
      | true =>
        rw [hb] at HH h'
        rw [if_pos rfl] at h'
        have HI := Aside0.mk hb
        have HE := Aside0.mk h'
        clear hb h'
        go_enter Try.func41, Try.ntmps41
        go_wp2_with fail
        refine (order_has.calls (l0.length + l1.length + 2) A0 c0 l0 A1 c1 l1 true _ (Kd.C_alloc HR0.out _) HC0.out (Kd.C_alloc HR1.out _) HC1.out HH.out).mono ?_
        rintro e w' ⟨rfl, ⟨nd, rfl⟩⟩
        go_wp2_with fail
        refine (order_first_calls A1 c1 l1 77 #[.pointer (some ⟨w.heap.size, 0, none⟩)] (inB l0.length) (fun a b => at2 l0 b a) _ (Kd.C_drewN (Kd.C_alloc HR1.out _) _) hl (enters_of Try.func77 (by kernel_rfl) (by kernel_rfl)) (fun a ha => inLB_in HI.out ha) ?s3).mono ?_
        case s3 =>
          intro a b w' hbel ha hb'
          exact calls_of_args rfl (order_Greatest1_calls ⟨w.heap.size, 0, none⟩ A0 c0 l0 a b w' (pw_cell_below hbel (by go_simp)) (Kd.C_below (Kd.C_drewN (Kd.C_alloc HR0.out _) _) hbel) ha.1 ha.2 hb'.1 hb'.2 (by rw [sq_row l0 (inLB_sq HI.out) b hb'.1 hb'.2]; exact ha.2))
        rw [HE.out]
        rintro e w' ⟨rfl, ⟨nd2, rfl⟩⟩
        go_wp2
        go_ret2
        exact ⟨rfl, by repeat (first | exact Below.refl _ _ | apply below_alloc | apply pw_below_drewN | apply below_drew1)⟩
    · rw [if_pos hq, if_neg hl] at h; cases h
  · rw [if_neg hq] at h; cases h

/-! ### lattice_at: function 79 -/
def lattice_at.f (l0 : List (List Int)) (a1 : Int) (a2 : Int) (a3 : Int) : Option (Int) := if a1 < 0 then (some a3) else (if a2 < 0 then (some a3) else (if a1 ≥ (l0.length : Int) then (some a3) else (if a2 ≥ (l0.length : Int) then (some a3) else (if 0 ≤ a1 then (if a1 < (l0.length : Int) then (if 0 ≤ a2 then (if a2 < ((rd_L4 l0 a1).length : Int) then (some (rd (rd_L4 l0 a1) a2)) else (none)) else (none)) else (none)) else (none)))))
set_option maxHeartbeats 8000000 in
set_option maxRecDepth 100000 in
theorem lattice_at.calls (A0 : Option Addr) (c0 : Nat) (l0 : List (List Int)) (a1 : Int) (a2 : Int) (a3 : Int) (r : Int) (w : World) (hr0 : Kd.C (Kd.slice 3 (Kd.int .i64)) w A0 l0.length l0) (hc0 : l0.length ≤ c0) (h : lattice_at.f l0 a1 a2 a3 = some r) :
    Calls Try.prog 79 #[.slice A0 l0.length c0, .int .i64 a1, .int .i64 a2, .int .i64 a3] w fun e w' => e = .returned (.int .i64 r) ∧ Drawn0 w w' := by
  have HR0 := Aside0.mk hr0
  have HC0 := Aside0.mk hc0
  clear hr0 hc0
  have H : (if a1 < 0 then (some a3) else (if a2 < 0 then (some a3) else (if a1 ≥ (l0.length : Int) then (some a3) else (if a2 ≥ (l0.length : Int) then (some a3) else (if 0 ≤ a1 then (if a1 < (l0.length : Int) then (if 0 ≤ a2 then (if a2 < ((rd_L4 l0 a1).length : Int) then (some (rd (rd_L4 l0 a1) a2)) else (none)) else (none)) else (none)) else (none)))))) = some r := h
  clear h
  by_cases c5 : a1 < 0
  · rw [if_pos c5] at H
    have c5b0 : decide (a1 < 0) = true := decide_eq_true c5
    clear c5
    obtain rfl := Option.some.inj H
    go_enter Try.func79, Try.ntmps79
    go_wp2
    go_ret
    exact ⟨by first | rfl | (simp; done) | (simp [*]; done), by repeat (first | exact Drawn0.refl _ | apply Drawn0.step)⟩
  · rw [if_neg c5] at H
    have c5b0 : decide (a1 < 0) = false := decide_eq_false c5
    clear c5
    by_cases c6 : a2 < 0
    · rw [if_pos c6] at H
      have c6b0 : decide (a2 < 0) = true := decide_eq_true c6
      clear c6
      obtain rfl := Option.some.inj H
      go_enter Try.func79, Try.ntmps79
      go_wp2
      go_ret
      exact ⟨by first | rfl | (simp; done) | (simp [*]; done), by repeat (first | exact Drawn0.refl _ | apply Drawn0.step)⟩
    · rw [if_neg c6] at H
      have c6b0 : decide (a2 < 0) = false := decide_eq_false c6
      clear c6
      by_cases c7 : a1 ≥ (l0.length : Int)
      · rw [if_pos c7] at H
        have c7b0 : decide ((l0.length : Int) ≤ a1) = true := decide_eq_true c7
        clear c7
        obtain rfl := Option.some.inj H
        go_enter Try.func79, Try.ntmps79
        go_wp2
        go_ret
        exact ⟨by first | rfl | (simp; done) | (simp [*]; done), by repeat (first | exact Drawn0.refl _ | apply Drawn0.step)⟩
      · rw [if_neg c7] at H
        have c7b0 : decide ((l0.length : Int) ≤ a1) = false := decide_eq_false c7
        clear c7
        by_cases c8 : a2 ≥ (l0.length : Int)
        · rw [if_pos c8] at H
          have c8b0 : decide ((l0.length : Int) ≤ a2) = true := decide_eq_true c8
          clear c8
          obtain rfl := Option.some.inj H
          go_enter Try.func79, Try.ntmps79
          go_wp2
          go_ret
          exact ⟨by first | rfl | (simp; done) | (simp [*]; done), by repeat (first | exact Drawn0.refl _ | apply Drawn0.step)⟩
        · rw [if_neg c8] at H
          have c8b0 : decide ((l0.length : Int) ≤ a2) = false := decide_eq_false c8
          clear c8
          by_cases c9 : 0 ≤ a1
          · rw [if_pos c9] at H
            have c9b0 : decide (0 ≤ a1) = true := decide_eq_true c9
            clear c9
            by_cases c10 : a1 < (l0.length : Int)
            · rw [if_pos c10] at H
              have c10b0 : decide (a1 < (l0.length : Int)) = true := decide_eq_true c10
              clear c10
              by_cases c11 : 0 ≤ a2
              · rw [if_pos c11] at H
                have c11b0 : decide (0 ≤ a2) = true := decide_eq_true c11
                clear c11
                by_cases c12 : a2 < ((rd_L4 l0 a1).length : Int)
                · rw [if_pos c12] at H
                  have c12b0 : decide (a2 < ((rd_L4 l0 a1).length : Int)) = true := decide_eq_true c12
                  clear c12
                  obtain rfl := Option.some.inj H
                  have p104 : 0 ≤ (a1 : Int) := of_decide_eq_true (by first | (with_reducible assumption) | assumption)
                  have q104 : a1 < (l0.length : Int) := of_decide_eq_true (by first | (with_reducible assumption) | assumption)
                  obtain ⟨ad104, A104_0, c104_0, e104, hx104_0, hl104_0, hi104_0⟩ := at_L4 HR0.out a1 p104 q104
                  cases e104
                  have HR104_0 := Aside0.mk hi104_0
                  have HC104_0 := Aside0.mk hl104_0
                  clear hi104_0 hl104_0
                  replace p104 := eq_true p104
                  replace q104 := eq_true q104
                  have p105 : 0 ≤ (a2 : Int) := of_decide_eq_true (by first | (with_reducible assumption) | assumption)
                  have q105 : a2 < ((rd_L4 l0 a1).length : Int) := of_decide_eq_true (by first | (with_reducible assumption) | assumption)
                  obtain ⟨ad105, e105, hx105_0⟩ := Kd.at_int HR104_0.out a2 p105 q105
                  cases e105
                  replace p105 := eq_true p105
                  replace q105 := eq_true q105
                  go_enter Try.func79, Try.ntmps79
                  go_wp2
                  go_ret
                  exact ⟨by first | rfl | (simp; done) | (simp [*]; done), by repeat (first | exact Drawn0.refl _ | apply Drawn0.step)⟩
                · rw [if_neg c12] at H
                  exact absurd H (by simp)
              · rw [if_neg c11] at H
                exact absurd H (by simp)
            · rw [if_neg c10] at H
              exact absurd H (by simp)
          · rw [if_neg c9] at H
            exact absurd H (by simp)

/-! ### lattice_Lattice_Join: function 54 -/
/-- A square table of numbers. -/
def tabI (n : Nat) (f : Nat → Nat → Int) : List (List Int) := (List.range n).map fun a => (List.range n).map fun b => f a b
theorem tabI_len (n : Nat) (f : Nat → Nat → Int) : (tabI n f).length = n := by simp [tabI]
theorem tabI_row (n : Nat) (f : Nat → Nat → Int) (a : Nat) (ha : a < n) : rd_L4 (tabI n f) (a : Int) = (List.range n).map fun b => f a b := by
  unfold rd_L4 tabI
  simp [ha]
theorem tabI_at (n : Nat) (f : Nat → Nat → Int) (a b : Nat) (ha : a < n) (hb : b < n) : rd (rd_L4 (tabI n f) (a : Int)) (b : Int) = f a b := by
  rw [tabI_row n f a ha]
  unfold rd
  simp [hb]
/-- What a table tells of two numbers. -/
def latAt (n : Nat) (f : Nat → Nat → Int) (a b none : Int) : Int := if 0 ≤ a ∧ a < (n : Int) ∧ 0 ≤ b ∧ b < (n : Int) then f a.toNat b.toNat else none
theorem at_tabI (n : Nat) (f : Nat → Nat → Int) (a b none : Int) : lattice_at.f (tabI n f) a b none = some (latAt n f a b none) := by
  unfold lattice_at.f latAt
  rw [tabI_len]
  by_cases h1 : a < 0
  · rw [if_pos h1, if_neg (by omega)]
  · by_cases h2 : b < 0
    · rw [if_neg h1, if_pos h2, if_neg (by omega)]
    · by_cases h3 : a ≥ (n : Int)
      · rw [if_neg h1, if_neg h2, if_pos h3, if_neg (by omega)]
      · by_cases h4 : b ≥ (n : Int)
        · rw [if_neg h1, if_neg h2, if_neg h3, if_pos h4, if_neg (by omega)]
        · obtain ⟨x, rfl⟩ := Int.eq_ofNat_of_zero_le (by omega : 0 ≤ a)
          obtain ⟨y, rfl⟩ := Int.eq_ofNat_of_zero_le (by omega : 0 ≤ b)
          rw [if_neg h1, if_neg h2, if_neg h3, if_neg h4, if_pos (by omega), if_pos (by omega), if_pos (by omega), if_pos (by rw [tabI_row n f x (by omega), List.length_map, List.length_range]; omega), tabI_at n f x y (by omega) (by omega), if_pos (by omega)]
          rfl
/-- A lattice in memory: its three tables, its top and bottom. -/
def IsLat (W : World) (g n : Nat) (fl fj fm : Nat → Nat → Int) (top bot : Int) : Prop := ∃ A0 c0 A1 c1 A2 c2,
  W.heap[g]? = some (.cells #[.slice A0 n c0, .slice A1 n c1, .slice A2 n c2, .int .i64 top, .int .i64 bot] 78 (0, 0)) ∧ n ≤ c0 ∧ n ≤ c1 ∧ n ≤ c2 ∧
  Kd.C (Kd.slice 3 (Kd.int .i64)) W A0 n (tabI n fl) ∧ Kd.C (Kd.slice 3 (Kd.int .i64)) W A1 n (tabI n fj) ∧ Kd.C (Kd.slice 3 (Kd.int .i64)) W A2 n (tabI n fm)
theorem IsLat.below {W W1 : World} {g n : Nat} {fl fj fm : Nat → Nat → Int} {top bot : Int} (h : IsLat W g n fl fj fm top bot) (hb : Below W.heap.size W W1) : IsLat W1 g n fl fj fm top bot := by
  obtain ⟨A0, c0, A1, c1, A2, c2, hg, h0, h1, h2, hc0, hc1, hc2⟩ := h
  exact ⟨A0, c0, A1, c1, A2, c2, (hb.block g (blk_lt hg)).trans hg, h0, h1, h2, Kd.C_below hc0 hb, Kd.C_below hc1 hb, Kd.C_below hc2 hb⟩
theorem IsLat.drawn {W W1 : World} {g n : Nat} {fl fj fm : Nat → Nat → Int} {top bot : Int} (h : IsLat W g n fl fj fm top bot) (hd : Drawn0 W W1) : IsLat W1 g n fl fj fm top bot := h.below hd.below
theorem IsLat.lt {W : World} {g n : Nat} {fl fj fm : Nat → Nat → Int} {top bot : Int} (h : IsLat W g n fl fj fm top bot) : g < W.heap.size := by
  obtain ⟨A0, c0, A1, c1, A2, c2, hg, _⟩ := h
  exact blk_lt hg
set_option maxHeartbeats 400000 in
theorem lattice_Join_calls (g n : Nat) (fl fj fm : Nat → Nat → Int) (top bot a b : Int) (w : World) (h : IsLat w g n fl fj fm top bot) :
    Calls Try.prog 54 #[.pointer (some ⟨g, 0, none⟩), .int .i64 a, .int .i64 b] w fun e w' => e = .returned (.int .i64 (latAt n fj a b (-1))) ∧ Drawn0 w w' := by
  obtain ⟨A0, c0, A1, c1, A2, c2, hg, h0, h1, h2, hc0, hc1, hc2⟩ := h
  have hcell : w.cell? ⟨g, 1, none⟩ = some (.slice A1 n c1) := by rw [blk_cell hg]; rfl
  have HC := Aside0.mk hc1
  have HL := Aside0.mk h1
  have HA := Aside0.mk (at_tabI n fj a b (-1))
  clear hg hc0 hc1 hc2 h0 h1 h2
  go_enter Try.func54, Try.ntmps54
  go_wp2_with fail
  have hc := lattice_at.calls A1 c1 (tabI n fj) a b (-1) (latAt n fj a b (-1)) w (by rw [tabI_len]; exact HC.out) (by rw [tabI_len]; exact HL.out) HA.out
  rw [tabI_len] at hc
  refine hc.mono ?_
  rintro e w' ⟨rfl, ⟨nd, rfl⟩⟩
  clear hc
  go_wp2
  go_ret
  exact ⟨rfl, by repeat (first | exact Drawn0.refl _ | apply Drawn0.step)⟩
set_option maxHeartbeats 400000 in
theorem lattice_Meet_calls (g n : Nat) (fl fj fm : Nat → Nat → Int) (top bot a b : Int) (w : World) (h : IsLat w g n fl fj fm top bot) :
    Calls Try.prog 56 #[.pointer (some ⟨g, 0, none⟩), .int .i64 a, .int .i64 b] w fun e w' => e = .returned (.int .i64 (latAt n fm a b (-1))) ∧ Drawn0 w w' := by
  obtain ⟨A0, c0, A1, c1, A2, c2, hg, h0, h1, h2, hc0, hc1, hc2⟩ := h
  have hcell : w.cell? ⟨g, 2, none⟩ = some (.slice A2 n c2) := by rw [blk_cell hg]; rfl
  have HC := Aside0.mk hc2
  have HL := Aside0.mk h2
  have HA := Aside0.mk (at_tabI n fm a b (-1))
  clear hg hc0 hc1 hc2 h0 h1 h2
  go_enter Try.func56, Try.ntmps56
  go_wp2_with fail
  have hc := lattice_at.calls A2 c2 (tabI n fm) a b (-1) (latAt n fm a b (-1)) w (by rw [tabI_len]; exact HC.out) (by rw [tabI_len]; exact HL.out) HA.out
  rw [tabI_len] at hc
  refine hc.mono ?_
  rintro e w' ⟨rfl, ⟨nd, rfl⟩⟩
  clear hc
  go_wp2
  go_ret
  exact ⟨rfl, by repeat (first | exact Drawn0.refl _ | apply Drawn0.step)⟩
set_option maxHeartbeats 400000 in
theorem lattice_Flows_calls (g n : Nat) (fl fj fm : Nat → Nat → Int) (top bot a b : Int) (w : World) (h : IsLat w g n fl fj fm top bot) :
    Calls Try.prog 52 #[.pointer (some ⟨g, 0, none⟩), .int .i64 a, .int .i64 b] w fun e w' => e = .returned (.bool (latAt n fl a b 0 == 1)) ∧ Drawn0 w w' := by
  obtain ⟨A0, c0, A1, c1, A2, c2, hg, h0, h1, h2, hc0, hc1, hc2⟩ := h
  have hcell : w.cell? ⟨g, 0, none⟩ = some (.slice A0 n c0) := by rw [blk_cell hg]; rfl
  have HC := Aside0.mk hc0
  have HL := Aside0.mk h0
  have HA := Aside0.mk (at_tabI n fl a b 0)
  clear hg hc0 hc1 hc2 h0 h1 h2
  go_enter Try.func52, Try.ntmps52
  go_wp2_with fail
  have hc := lattice_at.calls A0 c0 (tabI n fl) a b 0 (latAt n fl a b 0) w (by rw [tabI_len]; exact HC.out) (by rw [tabI_len]; exact HL.out) HA.out
  rw [tabI_len] at hc
  refine hc.mono ?_
  rintro e w' ⟨rfl, ⟨nd, rfl⟩⟩
  clear hc
  go_wp2
  go_ret
  exact ⟨rfl, by repeat (first | exact Drawn0.refl _ | apply Drawn0.step)⟩
set_option maxHeartbeats 400000 in
theorem lattice_Len_calls (g n : Nat) (fl fj fm : Nat → Nat → Int) (top bot : Int) (w : World) (h : IsLat w g n fl fj fm top bot) :
    Calls Try.prog 47 #[.pointer (some ⟨g, 0, none⟩)] w fun e w' => e = .returned (.int .i64 (n : Int)) ∧ Drawn0 w w' := by
  obtain ⟨A0, c0, A1, c1, A2, c2, hg, h0, h1, h2, hc0, hc1, hc2⟩ := h
  have hcell : w.cell? ⟨g, 0, none⟩ = some (.slice A0 n c0) := by rw [blk_cell hg]; rfl
  clear hg hc0 hc1 hc2 h0 h1 h2
  go_enter Try.func47, Try.ntmps47
  go_wp2
  go_ret
  exact ⟨rfl, by repeat (first | exact Drawn0.refl _ | apply Drawn0.step)⟩
set_option maxHeartbeats 400000 in
theorem lattice_Bottom_calls (g n : Nat) (fl fj fm : Nat → Nat → Int) (top bot : Int) (w : World) (h : IsLat w g n fl fj fm top bot) :
    Calls Try.prog 48 #[.pointer (some ⟨g, 0, none⟩)] w fun e w' => e = .returned (.int .i64 bot) ∧ Drawn0 w w' := by
  obtain ⟨A0, c0, A1, c1, A2, c2, hg, h0, h1, h2, hc0, hc1, hc2⟩ := h
  have hcell : w.cell? ⟨g, 4, none⟩ = some (.int .i64 bot) := by rw [blk_cell hg]; rfl
  clear hg hc0 hc1 hc2 h0 h1 h2
  go_enter Try.func48, Try.ntmps48
  go_wp2
  go_ret
  exact ⟨rfl, by repeat (first | exact Drawn0.refl _ | apply Drawn0.step)⟩
set_option maxHeartbeats 400000 in
theorem lattice_Top_calls (g n : Nat) (fl fj fm : Nat → Nat → Int) (top bot : Int) (w : World) (h : IsLat w g n fl fj fm top bot) :
    Calls Try.prog 50 #[.pointer (some ⟨g, 0, none⟩)] w fun e w' => e = .returned (.int .i64 top) ∧ Drawn0 w w' := by
  obtain ⟨A0, c0, A1, c1, A2, c2, hg, h0, h1, h2, hc0, hc1, hc2⟩ := h
  have hcell : w.cell? ⟨g, 3, none⟩ = some (.int .i64 top) := by rw [blk_cell hg]; rfl
  clear hg hc0 hc1 hc2 h0 h1 h2
  go_enter Try.func50, Try.ntmps50
  go_wp2
  go_ret
  exact ⟨rfl, by repeat (first | exact Drawn0.refl _ | apply Drawn0.step)⟩

-- NOT PRINTED: function 56 (lattice_Lattice_Meet)

end Go.Proofs.Ytpeeneaapmmciaa.PLmade
