-- Printed by wip/tools/oprint.py, a program of this session.
import Derived.Test.YtpeeneaapmmciaaPLtellsx0
import Derived.Test.YtpeeneaapmmciaaPLtellsx1
import Derived.Test.YtpeeneaapmmciaaPLtellsx2
import Derived.Test.YtpeeneaapmmciaaPLtellsx3
import Derived.Test.YtpeeneaapmmciaaPLtellsx4
import Derived.Test.YtpeeneaapmmciaaPLtellsx5
import Derived.Test.YtpeeneaapmmciaaPLtellsx6
import Derived.Test.YtpeeneaapmmciaaPLtellsx7
import Derived.Test.YtpeeneaapmmciaaPLtellsx8
import Derived.Test.YtpeeneaapmmciaaPLtellsx9
import Derived.Test.YtpeeneaapmmciaaPLtellsx10
namespace Go.Proofs.Ytpeeneaapmmciaa.PLtells
open Go.RowKit Go.Proofs.YtpeeneaapmmciaaW.PrintWords Go.Proofs.YtpeeneaapmmciaaW.PrintLast Go.Proofs.YtpeeneaapmmciaaW.PrintMore
attribute [local go_sem] max2_int min2_int max_two min_two max_three min_three max_four min_four   -- for this text's walks alone
set_option linter.unusedVariables false
set_option linter.unusedSimpArgs false

/-! ### confidantlaw3_LatticeTells: function 8 -/
theorem r2_wrap (i n : Nat) (h : i < n) (hn : n ≤ 4611686018427387904) : wrap64 ((i : Int) + 1) = ((i + 1 : Nat) : Int) := by unfold wrap64; omega
theorem r2_rd (q : List (List Bool)) (i : Nat) (h : i < q.length) : rd_L2 q (i : Int) = q[i] := by unfold rd_L2; simp [h]
theorem r2_rdi (l : List Int) (i : Nat) (h : i < l.length) : rd l (i : Int) = l[i] := by unfold rd; simp [h]
theorem all_shift (m i : Nat) (g : Nat → Bool) : ((List.range (m + 1)).all fun x => g (i + x)) = (g i && (List.range m).all fun x => g (i + 1 + x)) := by
  rw [List.range_succ_eq_map, List.all_cons, List.all_map]
  simp only [Nat.add_zero]
  congr 1
  congr 1
  funext x
  show g (i + (x + 1)) = g (i + 1 + x)
  congr 1
  omega
theorem r2_sq_l0 (q : List (List Bool)) (hn : q.length ≤ 16) : ∀ (m i k : Nat), i + m = q.length → m < k → confidantref2_Square.l0 k q (i : Int) = some ((List.range m).all fun x => decide ((rd_L2 q ((i + x : Nat) : Int)).length = q.length)) := by
  intro m
  induction m with
  | zero =>
    intro i k hi hk
    obtain ⟨k, rfl⟩ := Nat.exists_eq_succ_of_ne_zero (by omega : k ≠ 0)
    unfold confidantref2_Square.l0
    rw [if_neg (by omega)]
    rfl
  | succ m ih =>
    intro i k hi hk
    obtain ⟨k, rfl⟩ := Nat.exists_eq_succ_of_ne_zero (by omega : k ≠ 0)
    unfold confidantref2_Square.l0
    rw [if_pos (by omega), if_pos (by omega), all_shift m i (fun x => decide ((rd_L2 q (x : Int)).length = q.length))]
    by_cases h : (rd_L2 q (i : Int)).length = q.length
    · rw [if_pos (by omega), r2_wrap i 16 (by omega) (by decide), ih (i + 1) k (by omega) (by omega), decide_eq_true h, Bool.true_and]
    · rw [if_neg (by omega), decide_eq_false h, Bool.false_and]
theorem all_rows (q : List (List Bool)) (p : List Bool → Bool) : ((List.range q.length).all fun x => p (rd_L2 q ((0 + x : Nat) : Int))) = q.all p := by
  rw [Bool.eq_iff_iff, List.all_eq_true, List.all_eq_true]
  constructor
  · intro H r hr
    obtain ⟨i, hi, rfl⟩ := List.mem_iff_getElem.1 hr
    have := H i (List.mem_range.2 hi)
    rw [Nat.zero_add, r2_rd q i hi] at this
    exact this
  · intro H x hx
    have hx := List.mem_range.1 hx
    rw [Nat.zero_add, r2_rd q x hx]
    exact H _ (List.getElem_mem hx)
theorem r2_fuel (n k : Nat) (h : n ≤ k) : ∃ k', k = k' + n := ⟨k - n, by omega⟩
theorem r2_Square (q : List (List Bool)) (k : Nat) (hk : 20 ≤ k) : confidantref2_Square.f k q = some (sqB q) := by
  obtain ⟨k, rfl⟩ := r2_fuel 1 k (by omega)
  unfold confidantref2_Square.f sqB
  by_cases h1 : q.length < 1
  · rw [if_pos (by omega), decide_eq_false (by omega)]
    simp [confidantref2_Square.j0]
  · rw [if_neg (by omega), decide_eq_true (by omega : 1 ≤ q.length)]
    simp only [confidantref2_Square.j0]
    by_cases h2 : q.length > 16
    · rw [if_pos (by simp; omega), decide_eq_false (by omega)]; rfl
    · rw [if_neg (by simp; omega), decide_eq_true (by omega)]
      have h := r2_sq_l0 q (by omega) q.length 0 k (by omega) (by omega)
      rw [all_rows q (fun r => decide (r.length = q.length))] at h
      rw [Bool.true_and, Bool.true_and]
      exact h
theorem all_range0 (n : Nat) (g : Nat → Bool) : ((List.range n).all fun x => g (0 + x)) = (List.range n).all g := by
  congr 1; funext x; rw [Nat.zero_add]
theorem r2_refl_l0 (q : List (List Bool)) (hs : sqB q = true) : ∀ (m i k : Nat), i + m = q.length → 2 * m + 30 ≤ k → confidantref2_Reflexive.l0 k q (i : Int) = some ((List.range m).all fun x => at2 q ((i + x : Nat) : Int) ((i + x : Nat) : Int)) := by
  have h16 := sq_len q hs
  intro m
  induction m with
  | zero =>
    intro i k hi hk
    obtain ⟨k, rfl⟩ := r2_fuel 2 k (by omega)
    rw [confidantref2_Reflexive.l0, if_neg (by omega), confidantref2_Reflexive.j1, if_neg (by decide), r2_Square q k (by omega), hs]
    rfl
  | succ m ih =>
    intro i k hi hk
    obtain ⟨k, rfl⟩ := r2_fuel 2 k (by omega)
    rw [confidantref2_Reflexive.l0, if_pos (by omega), r2_Square q (k + 1) (by omega), hs, Option.bind_some, confidantref2_Reflexive.j1, if_pos rfl, if_pos (by omega), if_pos (by omega), if_pos (by rw [sq_row q hs _ (by omega) (by omega)]; omega), all_shift m i (fun x => at2 q (x : Int) (x : Int))]
    by_cases h : at2 q (i : Int) (i : Int) = true
    · have h' : rdOf false (rd_L2 q (i : Int)) (i : Int) = true := h
      rw [if_pos h', r2_wrap i 16 (by omega) (by decide), ih (i + 1) k (by omega) (by omega), h, Bool.true_and]
    · have h' : ¬ rdOf false (rd_L2 q (i : Int)) (i : Int) = true := h
      rw [if_neg h', Bool.eq_false_iff.2 h, Bool.false_and]
theorem r2_Reflexive (q : List (List Bool)) (k : Nat) (hk : 80 ≤ k) : confidantref2_Reflexive.f k q = some (reflB q) := by
  unfold confidantref2_Reflexive.f reflB
  by_cases hs : sqB q = true
  · have h16 := sq_len q hs
    have h := r2_refl_l0 q hs q.length 0 k (by omega) (by omega)
    rw [all_range0 q.length (fun x => at2 q (x : Int) (x : Int))] at h
    refine Eq.trans h (congrArg some ?_)
    rw [hs, Bool.true_and, Bool.eq_iff_iff]
    unfold allB
    simp only [List.all_eq_true, List.mem_range]
    exact ⟨fun H x hx y _ => H x hx, fun H x hx => H x hx x hx⟩
  · obtain ⟨k, rfl⟩ := r2_fuel 2 k (by omega)
    rw [Bool.eq_false_iff.2 hs, Bool.false_and, confidantref2_Reflexive.l0, r2_Square q (k + 1) (by omega), Bool.eq_false_iff.2 hs, Option.bind_some, ite_self, confidantref2_Reflexive.j1, if_neg (by decide), r2_Square q k (by omega), Bool.eq_false_iff.2 hs]
    rfl
theorem r2_anti_l1 (q : List (List Bool)) (hs : sqB q = true) (a : Nat) (ha : a < q.length) (R : Bool) (K : Nat) (hR : ∀ k, K ≤ k → confidantref2_Antisymmetric.l0 k q ((a + 1 : Nat) : Int) = some R) : ∀ (m i k : Nat), i + m = a → m + 1 + K ≤ k → confidantref2_Antisymmetric.l1 k q (a : Int) (i : Int) = some (((List.range m).all fun x => !(at2 q (a : Int) ((i + x : Nat) : Int) && at2 q ((i + x : Nat) : Int) (a : Int))) && R) := by
  have h16 := sq_len q hs
  intro m
  induction m with
  | zero =>
    intro i k hi hk
    obtain ⟨k, rfl⟩ := r2_fuel 1 k (by omega)
    rw [confidantref2_Antisymmetric.l1, if_neg (by omega), r2_wrap a 16 (by omega) (by decide), hR k (by omega)]
    rfl
  | succ m ih =>
    intro i k hi hk
    obtain ⟨k, rfl⟩ := r2_fuel 1 k (by omega)
    rw [confidantref2_Antisymmetric.l1, if_pos (by omega), if_pos (by omega), if_pos (by omega), if_pos (by omega), if_pos (by rw [sq_row q hs _ (by omega) (by omega)]; omega), all_shift m i (fun x => !(at2 q (a : Int) (x : Int) && at2 q (x : Int) (a : Int)))]
    rw [r2_wrap i 16 (by omega) (by decide), ih (i + 1) k (by omega) (by omega)]
    by_cases h : at2 q (a : Int) (i : Int) = true
    · have h' : rdOf false (rd_L2 q (a : Int)) (i : Int) = true := h
      rw [if_pos h', if_pos (by omega), if_pos (by rw [sq_row q hs _ (by omega) (by omega)]; omega)]
      by_cases h2 : at2 q (i : Int) (a : Int) = true
      · have h2' : rdOf false (rd_L2 q (i : Int)) (a : Int) = true := h2
        rw [if_pos h2', h, h2]; rfl
      · have h2' : ¬ rdOf false (rd_L2 q (i : Int)) (a : Int) = true := h2
        rw [if_neg h2', h, Bool.eq_false_iff.2 h2]; rfl
    · have h' : ¬ rdOf false (rd_L2 q (a : Int)) (i : Int) = true := h
      rw [if_neg h', Bool.eq_false_iff.2 h]; rfl
theorem r2_anti_l0 (q : List (List Bool)) (hs : sqB q = true) : ∀ (m i k : Nat), i + m = q.length → 20 * m + 30 ≤ k → confidantref2_Antisymmetric.l0 k q (i : Int) = some ((List.range m).all fun x => (List.range (i + x)).all fun y => !(at2 q ((i + x : Nat) : Int) (y : Int) && at2 q (y : Int) ((i + x : Nat) : Int))) := by
  have h16 := sq_len q hs
  intro m
  induction m with
  | zero =>
    intro i k hi hk
    obtain ⟨k, rfl⟩ := r2_fuel 2 k (by omega)
    rw [confidantref2_Antisymmetric.l0, if_neg (by omega), confidantref2_Antisymmetric.j1, if_neg (by decide), r2_Square q k (by omega), hs]
    rfl
  | succ m ih =>
    intro i k hi hk
    obtain ⟨k, rfl⟩ := r2_fuel 2 k (by omega)
    rw [confidantref2_Antisymmetric.l0, if_pos (by omega), r2_Square q (k + 1) (by omega), hs, Option.bind_some, confidantref2_Antisymmetric.j1, if_pos rfl, all_shift m i (fun x => (List.range x).all fun y => !(at2 q (x : Int) (y : Int) && at2 q (y : Int) (x : Int)))]
    have h := r2_anti_l1 q hs i (by omega) _ (20 * m + 30) (fun k hk => ih (i + 1) k (by omega) hk) i 0 k (by omega) (by omega)
    rw [all_range0 i (fun y => !(at2 q (i : Int) (y : Int) && at2 q (y : Int) (i : Int)))] at h
    exact h
theorem r2_Antisymmetric (q : List (List Bool)) (k : Nat) (hk : 400 ≤ k) : confidantref2_Antisymmetric.f k q = some (antiB q) := by
  unfold confidantref2_Antisymmetric.f antiB
  by_cases hs : sqB q = true
  · have h16 := sq_len q hs
    have h := r2_anti_l0 q hs q.length 0 k (by omega) (by omega)
    rw [all_range0 q.length (fun x => (List.range x).all fun y => !(at2 q (x : Int) (y : Int) && at2 q (y : Int) (x : Int)))] at h
    refine Eq.trans h (congrArg some ?_)
    rw [hs, Bool.true_and, Bool.eq_iff_iff]
    unfold allB
    simp only [List.all_eq_true, List.mem_range, Bool.or_eq_true, beq_iff_eq, Bool.not_eq_true', Bool.and_eq_false_iff]
    constructor
    · intro H x hx y hy
      rcases Nat.lt_trichotomy x y with h | h | h
      · exact .inr ((H y hy x h).symm)
      · exact .inl (by rw [h])
      · exact .inr (H x hx y h)
    · intro H x hx y hy
      rcases H x hx y (by omega) with h | h
      · omega
      · exact h
  · obtain ⟨k, rfl⟩ := r2_fuel 2 k (by omega)
    rw [Bool.eq_false_iff.2 hs, Bool.false_and, confidantref2_Antisymmetric.l0, r2_Square q (k + 1) (by omega), Bool.eq_false_iff.2 hs, Option.bind_some, ite_self, confidantref2_Antisymmetric.j1, if_neg (by decide), r2_Square q k (by omega), Bool.eq_false_iff.2 hs]
    rfl
theorem r2_tran_l2 (q : List (List Bool)) (hs : sqB q = true) (a b : Nat) (ha : a < q.length) (hb : b < q.length) (R : Bool) (K : Nat) (hR : ∀ k, K ≤ k → confidantref2_Transitive.l1 k q (a : Int) ((b + 1 : Nat) : Int) = some R) : ∀ (m i k : Nat), i + m = q.length → m + 1 + K ≤ k → confidantref2_Transitive.l2 k q (a : Int) (b : Int) (i : Int) = some (((List.range m).all fun x => !(at2 q (a : Int) (b : Int) && (at2 q (b : Int) ((i + x : Nat) : Int) && !at2 q (a : Int) ((i + x : Nat) : Int)))) && R) := by
  have h16 := sq_len q hs
  intro m
  induction m with
  | zero =>
    intro i k hi hk
    obtain ⟨k, rfl⟩ := r2_fuel 1 k (by omega)
    rw [confidantref2_Transitive.l2, if_neg (by omega), r2_wrap b 16 (by omega) (by decide), hR k (by omega)]
    rfl
  | succ m ih =>
    intro i k hi hk
    obtain ⟨k, rfl⟩ := r2_fuel 1 k (by omega)
    rw [confidantref2_Transitive.l2, if_pos (by omega), if_pos (by omega), if_pos (by omega), if_pos (by omega), if_pos (by rw [sq_row q hs _ (by omega) (by omega)]; omega), all_shift m i (fun x => !(at2 q (a : Int) (b : Int) && (at2 q (b : Int) (x : Int) && !at2 q (a : Int) (x : Int))))]
    rw [r2_wrap i 16 (by omega) (by decide), ih (i + 1) k (by omega) (by omega)]
    by_cases h : at2 q (a : Int) (b : Int) = true
    · have h' : rdOf false (rd_L2 q (a : Int)) (b : Int) = true := h
      rw [if_pos h', if_pos (by omega), if_pos (by omega), if_pos (by rw [sq_row q hs _ (by omega) (by omega)]; omega)]
      by_cases h2 : at2 q (b : Int) (i : Int) = true
      · have h2' : rdOf false (rd_L2 q (b : Int)) (i : Int) = true := h2
        rw [if_pos h2', if_pos (by rw [sq_row q hs _ (by omega) (by omega)]; omega)]
        by_cases h3 : at2 q (a : Int) (i : Int) = true
        · have h3' : rdOf false (rd_L2 q (a : Int)) (i : Int) = true := h3
          rw [if_pos h3', h, h2, h3]; rfl
        · have h3' : ¬ rdOf false (rd_L2 q (a : Int)) (i : Int) = true := h3
          rw [if_neg h3', h, h2, Bool.eq_false_iff.2 h3]; rfl
      · have h2' : ¬ rdOf false (rd_L2 q (b : Int)) (i : Int) = true := h2
        rw [if_neg h2', h, Bool.eq_false_iff.2 h2]; rfl
    · have h' : ¬ rdOf false (rd_L2 q (a : Int)) (b : Int) = true := h
      rw [if_neg h', Bool.eq_false_iff.2 h]; rfl
theorem r2_tran_l1 (q : List (List Bool)) (hs : sqB q = true) (a : Nat) (ha : a < q.length) (R : Bool) (K : Nat) (hR : ∀ k, K ≤ k → confidantref2_Transitive.l0 k q ((a + 1 : Nat) : Int) = some R) : ∀ (m i k : Nat), i + m = q.length → 20 * m + 1 + K ≤ k → confidantref2_Transitive.l1 k q (a : Int) (i : Int) = some (((List.range m).all fun x => trB q (a : Int) ((i + x : Nat) : Int)) && R) := by
  have h16 := sq_len q hs
  intro m
  induction m with
  | zero =>
    intro i k hi hk
    obtain ⟨k, rfl⟩ := r2_fuel 1 k (by omega)
    rw [confidantref2_Transitive.l1, if_neg (by omega), r2_wrap a 16 (by omega) (by decide), hR k (by omega)]
    rfl
  | succ m ih =>
    intro i k hi hk
    obtain ⟨k, rfl⟩ := r2_fuel 1 k (by omega)
    rw [confidantref2_Transitive.l1, if_pos (by omega), all_shift m i (fun x => trB q (a : Int) (x : Int))]
    have h := r2_tran_l2 q hs a i ha (by omega) _ (20 * m + 1 + K) (fun k hk => ih (i + 1) k (by omega) hk) q.length 0 k (by omega) (by omega)
    rw [all_range0 q.length (fun x => !(at2 q (a : Int) (i : Int) && (at2 q (i : Int) (x : Int) && !at2 q (a : Int) (x : Int))))] at h
    rw [Bool.and_assoc]
    exact h
theorem r2_tran_l0 (q : List (List Bool)) (hs : sqB q = true) : ∀ (m i k : Nat), i + m = q.length → 330 * m + 30 ≤ k → confidantref2_Transitive.l0 k q (i : Int) = some ((List.range m).all fun x => (List.range q.length).all fun y => trB q ((i + x : Nat) : Int) (y : Int)) := by
  have h16 := sq_len q hs
  intro m
  induction m with
  | zero =>
    intro i k hi hk
    obtain ⟨k, rfl⟩ := r2_fuel 2 k (by omega)
    rw [confidantref2_Transitive.l0, if_neg (by omega), confidantref2_Transitive.j1, if_neg (by decide), r2_Square q k (by omega), hs]
    rfl
  | succ m ih =>
    intro i k hi hk
    obtain ⟨k, rfl⟩ := r2_fuel 2 k (by omega)
    rw [confidantref2_Transitive.l0, if_pos (by omega), r2_Square q (k + 1) (by omega), hs, Option.bind_some, confidantref2_Transitive.j1, if_pos rfl, all_shift m i (fun x => (List.range q.length).all fun y => trB q (x : Int) (y : Int))]
    have h := r2_tran_l1 q hs i (by omega) _ (330 * m + 30) (fun k hk => ih (i + 1) k (by omega) hk) q.length 0 k (by omega) (by omega)
    rw [all_range0 q.length (fun y => trB q (i : Int) (y : Int))] at h
    exact h
theorem r2_Transitive (q : List (List Bool)) (k : Nat) (hk : 6000 ≤ k) : confidantref2_Transitive.f k q = some (tranB q) := by
  unfold confidantref2_Transitive.f tranB
  by_cases hs : sqB q = true
  · have h16 := sq_len q hs
    have h := r2_tran_l0 q hs q.length 0 k (by omega) (by omega)
    rw [all_range0 q.length (fun x => (List.range q.length).all fun y => trB q (x : Int) (y : Int))] at h
    refine Eq.trans h (congrArg some ?_)
    rw [hs, Bool.true_and]
    rfl
  · obtain ⟨k, rfl⟩ := r2_fuel 2 k (by omega)
    rw [Bool.eq_false_iff.2 hs, Bool.false_and, confidantref2_Transitive.l0, r2_Square q (k + 1) (by omega), Bool.eq_false_iff.2 hs, Option.bind_some, ite_self, confidantref2_Transitive.j1, if_neg (by decide), r2_Square q k (by omega), Bool.eq_false_iff.2 hs]
    rfl
def inQ (q : List (List Bool)) (a : Int) : Bool := sqB q && decide (0 ≤ a ∧ a < (q.length : Int))
theorem inQ_iff (q : List (List Bool)) (a : Int) : inQ q a = true ↔ sqB q = true ∧ 0 ≤ a ∧ a < (q.length : Int) := by
  unfold inQ; rw [Bool.and_eq_true, decide_eq_true_eq]
theorem inLB_iff (q : List (List Bool)) (l : List Int) : inLB q l = true ↔ sqB q = true ∧ ∀ a ∈ l, 0 ≤ a ∧ a < (q.length : Int) := by
  unfold inLB; rw [Bool.and_eq_true, List.all_eq_true]; simp only [decide_eq_true_eq]
  exact And.comm
theorem inLB2 (q : List (List Bool)) (a b : Int) : inLB q [a, b] = (inQ q a && inQ q b) := by
  rw [Bool.eq_iff_iff, inLB_iff, Bool.and_eq_true, inQ_iff, inQ_iff]
  simp only [List.mem_cons, List.not_mem_nil, or_false, forall_eq_or_imp, forall_eq]
  exact ⟨fun ⟨h, h1, h2⟩ => ⟨⟨h, h1⟩, h, h2⟩, fun ⟨⟨h, h1⟩, _, h2⟩ => ⟨h, h1, h2⟩⟩
theorem r2_in (q : List (List Bool)) (a : Int) (k : Nat) (hk : 20 ≤ k) : confidantref2_in.f k q a = some (inQ q a) := by
  unfold confidantref2_in.f
  rw [r2_Square q k hk, Option.bind_some]
  by_cases hs : sqB q = true
  · rw [if_pos hs]
    by_cases h0 : 0 ≤ a
    · rw [if_pos h0]; unfold inQ; rw [hs, Bool.true_and]; congr 2; simp [h0]
    · rw [if_neg h0]; unfold inQ; rw [decide_eq_false (by omega), Bool.and_false]
  · rw [if_neg hs]; unfold inQ; rw [Bool.eq_false_iff.2 hs, Bool.false_and]
def pickI (i m : Nat) (g : Int → Bool) : List Int := ((List.range m).filter (fun x : Nat => g ((i + x : Nat) : Int))).map (fun x : Nat => ((i + x : Nat) : Int))
theorem pickI_succ (i m : Nat) (g : Int → Bool) : pickI i (m + 1) g = (if g (i : Int) = true then [(i : Int)] else []) ++ pickI (i + 1) m g := by
  unfold pickI
  rw [List.range_succ_eq_map, List.filter_cons, List.filter_map]
  have e : ((fun x : Nat => g ((i + x : Nat) : Int)) ∘ Nat.succ) = fun x : Nat => g ((i + 1 + x : Nat) : Int) := by funext x; show g ((i + (x + 1) : Nat) : Int) = _; rw [show i + (x + 1) = i + 1 + x by omega]
  rw [e]
  by_cases h : g (i : Int) = true
  · rw [if_pos (by simpa using h), if_pos h, List.map_cons, List.map_map]
    simp only [Nat.add_zero, List.cons_append, List.nil_append]
    congr 1
    apply List.map_congr_left
    intro x _
    show ((i + (x + 1) : Nat) : Int) = _
    rw [show i + (x + 1) = i + 1 + x by omega]
  · rw [if_neg (by simpa using h), if_neg h, List.nil_append, List.map_map]
    apply List.map_congr_left
    intro x _
    show ((i + (x + 1) : Nat) : Int) = _
    rw [show i + (x + 1) = i + 1 + x by omega]
theorem pickI_zero (n : Nat) (g : Int → Bool) : pickI 0 n g = pick n g := by
  unfold pickI pick; simp only [Nat.zero_add]
theorem r2_Upper_l0 (q : List (List Bool)) (hs : sqB q = true) (a b : Int) (a0 : 0 ≤ a) (a1 : a < (q.length : Int)) (b0 : 0 ≤ b) (b1 : b < (q.length : Int)) : ∀ (m i k : Nat) (acc : List Int), i + m = q.length → 2 * m + 30 ≤ k → acc.length ≤ i → confidantref2_Upper.l0 k q a b acc (i : Int) = some (acc ++ pickI i m (fun c => at2 q a c && at2 q b c)) := by
  have h16 := sq_len q hs
  have ha : inQ q a = true := (inQ_iff q a).2 ⟨hs, a0, a1⟩
  have hb : inQ q b = true := (inQ_iff q b).2 ⟨hs, b0, b1⟩
  intro m
  induction m with
  | zero =>
    intro i k acc hi hk hacc
    obtain ⟨k, rfl⟩ := r2_fuel 2 k (by omega)
    rw [confidantref2_Upper.l0, if_neg (by omega), confidantref2_Upper.j1, if_neg (by decide)]
    exact congrArg some (List.append_nil acc).symm
  | succ m ih =>
    intro i k acc hi hk hacc
    obtain ⟨k, rfl⟩ := r2_fuel 2 k (by omega)
    rw [confidantref2_Upper.l0, if_pos (by omega), r2_in q a (k + 1) (by omega), ha, Option.bind_some, if_pos rfl, r2_in q b (k + 1) (by omega), hb, Option.bind_some, confidantref2_Upper.j1, if_pos rfl, if_pos (by omega), if_pos (by omega), if_pos (by omega), if_pos (by rw [sq_row q hs _ (by omega) (by omega)]; omega), r2_wrap i 16 (by omega) (by decide), pickI_succ]
    by_cases h : at2 q a (i : Int) = true
    · have h' : rdOf false (rd_L2 q a) (i : Int) = true := h
      rw [if_pos h', if_pos (by omega), if_pos (by omega), if_pos (by rw [sq_row q hs _ (by omega) (by omega)]; omega)]
      by_cases h2 : at2 q b (i : Int) = true
      · have h2' : rdOf false (rd_L2 q b) (i : Int) = true := h2
        rw [if_pos h2', if_pos (by omega), ih (i + 1) k _ (by omega) (by omega) (by simp; omega), List.append_assoc, h, h2]
        rfl
      · have h2' : ¬ rdOf false (rd_L2 q b) (i : Int) = true := h2
        rw [if_neg h2', ih (i + 1) k _ (by omega) (by omega) (by omega), Bool.eq_false_iff.2 h2, h]
        rfl
    · have h' : ¬ rdOf false (rd_L2 q a) (i : Int) = true := h
      rw [if_neg h', ih (i + 1) k _ (by omega) (by omega) (by omega), Bool.eq_false_iff.2 h]
      rfl
theorem r2_Upper (q : List (List Bool)) (a b : Int) (k : Nat) (hk : 80 ≤ k) : confidantref2_Upper.f k q a b = some (if inLB q [a, b] = true then upL q a b else []) := by
  unfold confidantref2_Upper.f
  by_cases h : inLB q [a, b] = true
  · rw [if_pos h]
    rw [inLB2, Bool.and_eq_true, inQ_iff, inQ_iff] at h
    have h16 := sq_len q h.1.1
    have r := r2_Upper_l0 q h.1.1 a b h.1.2.1 h.1.2.2 h.2.2.1 h.2.2.2 q.length 0 k [] (by omega) (by omega) (by simp)
    rw [pickI_zero, List.nil_append] at r
    exact r
  · rw [if_neg h]
    obtain ⟨k, rfl⟩ := r2_fuel 2 k (by omega)
    rw [inLB2] at h
    have h := Bool.eq_false_iff.2 h
    rw [confidantref2_Upper.l0, r2_in q a (k + 1) (by omega), r2_in q b (k + 1) (by omega), Option.bind_some, Option.bind_some]
    have e : confidantref2_Upper.j1 (k + 1) q a b [] 0 false = some [] := by rw [confidantref2_Upper.j1, if_neg (by decide)]
    rcases Bool.and_eq_false_iff.1 h with h1 | h1
    · simp only [h1, e, Bool.false_eq_true, if_false, ite_self]
    · simp only [h1, e, Bool.false_eq_true, if_false, ite_self]
theorem r2_Lower_l0 (q : List (List Bool)) (hs : sqB q = true) (a b : Int) (a0 : 0 ≤ a) (a1 : a < (q.length : Int)) (b0 : 0 ≤ b) (b1 : b < (q.length : Int)) : ∀ (m i k : Nat) (acc : List Int), i + m = q.length → 2 * m + 30 ≤ k → acc.length ≤ i → confidantref2_Lower.l0 k q a b acc (i : Int) = some (acc ++ pickI i m (fun c => at2 q c a && at2 q c b)) := by
  have h16 := sq_len q hs
  have ha : inQ q a = true := (inQ_iff q a).2 ⟨hs, a0, a1⟩
  have hb : inQ q b = true := (inQ_iff q b).2 ⟨hs, b0, b1⟩
  intro m
  induction m with
  | zero =>
    intro i k acc hi hk hacc
    obtain ⟨k, rfl⟩ := r2_fuel 2 k (by omega)
    rw [confidantref2_Lower.l0, if_neg (by omega), confidantref2_Lower.j1, if_neg (by decide)]
    exact congrArg some (List.append_nil acc).symm
  | succ m ih =>
    intro i k acc hi hk hacc
    obtain ⟨k, rfl⟩ := r2_fuel 2 k (by omega)
    rw [confidantref2_Lower.l0, if_pos (by omega), r2_in q a (k + 1) (by omega), ha, Option.bind_some, if_pos rfl, r2_in q b (k + 1) (by omega), hb, Option.bind_some, confidantref2_Lower.j1, if_pos rfl, if_pos (by omega), if_pos (by omega), if_pos (by omega), if_pos (by rw [sq_row q hs _ (by omega) (by omega)]; omega), r2_wrap i 16 (by omega) (by decide), pickI_succ]
    by_cases h : at2 q (i : Int) a = true
    · have h' : rdOf false (rd_L2 q (i : Int)) a = true := h
      rw [if_pos h', if_pos (by omega), if_pos (by rw [sq_row q hs _ (by omega) (by omega)]; omega)]
      by_cases h2 : at2 q (i : Int) b = true
      · have h2' : rdOf false (rd_L2 q (i : Int)) b = true := h2
        rw [if_pos h2', if_pos (by omega), ih (i + 1) k _ (by omega) (by omega) (by simp; omega), List.append_assoc, h, h2]
        rfl
      · have h2' : ¬ rdOf false (rd_L2 q (i : Int)) b = true := h2
        rw [if_neg h2', ih (i + 1) k _ (by omega) (by omega) (by omega), Bool.eq_false_iff.2 h2, h]
        rfl
    · have h' : ¬ rdOf false (rd_L2 q (i : Int)) a = true := h
      rw [if_neg h', ih (i + 1) k _ (by omega) (by omega) (by omega), Bool.eq_false_iff.2 h]
      rfl
theorem r2_Lower (q : List (List Bool)) (a b : Int) (k : Nat) (hk : 80 ≤ k) : confidantref2_Lower.f k q a b = some (if inLB q [a, b] = true then dnL q a b else []) := by
  unfold confidantref2_Lower.f
  by_cases h : inLB q [a, b] = true
  · rw [if_pos h]
    rw [inLB2, Bool.and_eq_true, inQ_iff, inQ_iff] at h
    have h16 := sq_len q h.1.1
    have r := r2_Lower_l0 q h.1.1 a b h.1.2.1 h.1.2.2 h.2.2.1 h.2.2.2 q.length 0 k [] (by omega) (by omega) (by simp)
    rw [pickI_zero, List.nil_append] at r
    exact r
  · rw [if_neg h]
    obtain ⟨k, rfl⟩ := r2_fuel 2 k (by omega)
    rw [inLB2] at h
    have h := Bool.eq_false_iff.2 h
    rw [confidantref2_Lower.l0, r2_in q a (k + 1) (by omega), r2_in q b (k + 1) (by omega), Option.bind_some, Option.bind_some]
    have e : confidantref2_Lower.j1 (k + 1) q a b [] 0 false = some [] := by rw [confidantref2_Lower.j1, if_neg (by decide)]
    rcases Bool.and_eq_false_iff.1 h with h1 | h1
    · simp only [h1, e, Bool.false_eq_true, if_false, ite_self]
    · simp only [h1, e, Bool.false_eq_true, if_false, ite_self]
theorem r2_all_l0 (q : List (List Bool)) (l : List Int) (hl : l.length ≤ 1000) : ∀ (m i k : Nat), i + m = l.length → m + 30 ≤ k → confidantref2_all.l0 k q l (i : Int) = some (((List.range m).all fun x => inQ q (rd l ((i + x : Nat) : Int))) && decide (0 < l.length)) := by
  intro m
  induction m with
  | zero =>
    intro i k hi hk
    obtain ⟨k, rfl⟩ := r2_fuel 1 k (by omega)
    rw [confidantref2_all.l0, if_neg (by omega)]
    show some _ = some (true && _)
    rw [Bool.true_and]
    congr 1
    rw [decide_eq_decide]
    omega
  | succ m ih =>
    intro i k hi hk
    obtain ⟨k, rfl⟩ := r2_fuel 1 k (by omega)
    rw [confidantref2_all.l0, if_pos (by omega), if_pos (by omega), r2_in q _ k (by omega), Option.bind_some, r2_wrap i 1000 (by omega) (by decide), ih (i + 1) k (by omega) (by omega), all_shift m i (fun x => inQ q (rd l (x : Int)))]
    by_cases h : inQ q (rd l (i : Int)) = true
    · rw [if_pos h, h, Bool.true_and]
    · rw [if_neg h, Bool.eq_false_iff.2 h, Bool.false_and, Bool.false_and]
theorem all_list (l : List Int) (p : Int → Bool) : ((List.range l.length).all fun x => p (rd l (x : Int))) = l.all p := by
  rw [Bool.eq_iff_iff, List.all_eq_true, List.all_eq_true]
  constructor
  · intro H r hr
    obtain ⟨i, hi, rfl⟩ := List.mem_iff_getElem.1 hr
    have := H i (List.mem_range.2 hi)
    rw [r2_rdi l i hi] at this
    exact this
  · intro H x hx
    have hx := List.mem_range.1 hx
    rw [r2_rdi l x hx]
    exact H _ (List.getElem_mem hx)
theorem r2_all (q : List (List Bool)) (l : List Int) (hl : l.length ≤ 1000) (k : Nat) (hk : 30 + l.length ≤ k) : confidantref2_all.f k q l = some (l.all (inQ q) && decide (0 < l.length)) := by
  unfold confidantref2_all.f
  have h := r2_all_l0 q l hl l.length 0 k (by omega) (by omega)
  rw [all_range0 l.length (fun x => inQ q (rd l (x : Int))), all_list l (inQ q)] at h
  exact h
theorem all_inQ (q : List (List Bool)) (l : List Int) (h : l.all (inQ q) = true) (i : Nat) (hi : i < l.length) : sqB q = true ∧ 0 ≤ rd l (i : Int) ∧ rd l (i : Int) < (q.length : Int) := by
  have := List.all_eq_true.1 h _ (List.getElem_mem hi)
  rw [← r2_rdi l i hi] at this
  exact (inQ_iff q _).1 this
def firstD (l d : List Int) (g : Int → Int → Bool) : Int × Bool := match d.find? (fun a => l.all (fun b => g a b)) with | some a => (a, true) | none => (0, false)
theorem firstD_cons (l d : List Int) (a : Int) (g : Int → Int → Bool) : firstD l (a :: d) g = if l.all (fun b => g a b) = true then (a, true) else firstD l d g := by
  unfold firstD; rw [List.find?_cons]
  by_cases h : l.all (fun b => g a b) = true
  · rw [h, if_pos rfl]
  · rw [Bool.eq_false_iff.2 h, if_neg (by decide)]
theorem r2_Least_l1 (q : List (List Bool)) (l : List Int) (hl : l.length ≤ 1000) (hin : l.all (inQ q) = true) (a : Nat) (hal : a < l.length) (R : Int × Bool) (K : Nat) (hR : ∀ k, K ≤ k → confidantref2_Least.l0 k q l ((a + 1 : Nat) : Int) = some R) : ∀ (m i k : Nat) (t : Bool), i + m = l.length → m + 1 + K ≤ k → confidantref2_Least.l1 k q l (a : Int) t (i : Int) = some (if (t && (List.range m).all fun x => at2 q (rd l (a : Int)) (rd l ((i + x : Nat) : Int))) = true then (rd l (a : Int), true) else R) := by
  have ha := all_inQ q l hin a hal
  intro m
  induction m with
  | zero =>
    intro i k t hi hk
    obtain ⟨k, rfl⟩ := r2_fuel 1 k (by omega)
    cases t with
    | true => rw [confidantref2_Least.l1, if_neg (by omega), if_pos rfl, if_pos (by omega), if_pos (by omega)]; rfl
    | false => rw [confidantref2_Least.l1, if_neg (by omega), if_neg (by decide), r2_wrap a 1000 (by omega) (by decide), hR k (by omega)]; rfl
  | succ m ih =>
    intro i k t hi hk
    have hb := all_inQ q l hin i (by omega)
    obtain ⟨k, rfl⟩ := r2_fuel 1 k (by omega)
    cases t with
    | true =>
      rw [confidantref2_Least.l1, if_pos (by omega), if_pos rfl, if_pos (by omega), if_pos (by omega), if_pos ha.2.1, if_pos ha.2.2, if_pos (by omega), if_pos hb.2.1, if_pos (by rw [sq_row q ha.1 _ ha.2.1 ha.2.2]; exact hb.2.2), r2_wrap i 1000 (by omega) (by decide), ih (i + 1) k _ (by omega) (by omega), all_shift m i (fun x => at2 q (rd l (a : Int)) (rd l (x : Int))), Bool.true_and]
      rfl
    | false =>
      rw [confidantref2_Least.l1, if_pos (by omega), if_neg (by decide), r2_wrap i 1000 (by omega) (by decide), ih (i + 1) k _ (by omega) (by omega), Bool.false_and, Bool.false_and]
theorem r2_Least_l0 (q : List (List Bool)) (l : List Int) (hl : l.length ≤ 1000) (hin : l.all (inQ q) = true) (K : Nat) (hK : l.length + 40 ≤ K) : ∀ (m i k : Nat), i + m = l.length → (l.length + 3) * m + K ≤ k → confidantref2_Least.l0 k q l (i : Int) = some (firstD l (l.drop i) (fun x y => at2 q x y)) := by
  intro m
  induction m with
  | zero =>
    intro i k hi hk
    obtain ⟨k, rfl⟩ := r2_fuel 2 k (by omega)
    rw [confidantref2_Least.l0, if_neg (by omega), confidantref2_Least.j1, if_neg (by decide), List.drop_of_length_le (by omega)]
    rfl
  | succ m ih =>
    intro i k hi hk
    rw [Nat.mul_succ] at hk
    obtain ⟨k, rfl⟩ := r2_fuel 2 k (by omega)
    have e : (l.all (inQ q) && decide (0 < l.length)) = true := by rw [hin, decide_eq_true (by omega : 0 < l.length)]; rfl
    rw [confidantref2_Least.l0, if_pos (by omega), r2_all q l hl (k + 1) (by omega), Option.bind_some, e, confidantref2_Least.j1, if_pos rfl]
    have h := r2_Least_l1 q l hl hin i (by omega) _ ((l.length + 3) * m + K) (fun k hk => ih (i + 1) k (by omega) hk) l.length 0 k true (by omega) (by omega)
    rw [all_range0 l.length (fun x => at2 q (rd l (i : Int)) (rd l (x : Int))), all_list l (fun y => at2 q (rd l (i : Int)) y), Bool.true_and] at h
    rw [List.drop_eq_getElem_cons (by omega : i < l.length), firstD_cons, ← r2_rdi l i (by omega)]
    exact h
theorem r2_Least (q : List (List Bool)) (l : List Int) (hl : l.length ≤ 1000) (k : Nat) (hk : (l.length + 3) * l.length + l.length + 40 ≤ k) : confidantref2_Least.f k q l = some (if inLB q l = true then firstB l (fun x y => at2 q x y) else (0, false)) := by
  unfold confidantref2_Least.f
  by_cases hin : l.all (inQ q) = true
  · have h := r2_Least_l0 q l hl hin (l.length + 40) (by omega) l.length 0 k (by omega) (by omega)
    rw [List.drop_zero] at h
    refine Eq.trans h ?_
    by_cases h0 : l.length = 0
    · obtain rfl := List.eq_nil_of_length_eq_zero h0
      show some ((0 : Int), false) = some (if inLB q [] = true then ((0 : Int), false) else (0, false))
      rw [ite_self]
    · rw [if_pos ((inLB_iff q l).2 ⟨(all_inQ q l hin 0 (by omega)).1, fun a ha => ((inQ_iff q a).1 (List.all_eq_true.1 hin a ha)).2⟩)]
      rfl
  · obtain ⟨k, rfl⟩ := r2_fuel 2 k (by omega)
    have e : (l.all (inQ q) && decide (0 < l.length)) = false := by rw [Bool.eq_false_iff.2 hin]; rfl
    rw [confidantref2_Least.l0, r2_all q l hl (k + 1) (by omega), Option.bind_some, e, ite_self, confidantref2_Least.j1, if_neg (by decide)]
    by_cases hs : sqB q = true
    · rw [if_neg (fun h => hin (List.all_eq_true.2 fun a ha => (inQ_iff q a).2 ⟨hs, ((inLB_iff q l).1 h).2 a ha⟩))]
    · rw [if_neg (fun h => hs ((inLB_iff q l).1 h).1)]
theorem r2_Greatest_l1 (q : List (List Bool)) (l : List Int) (hl : l.length ≤ 1000) (hin : l.all (inQ q) = true) (a : Nat) (hal : a < l.length) (R : Int × Bool) (K : Nat) (hR : ∀ k, K ≤ k → confidantref2_Greatest.l0 k q l ((a + 1 : Nat) : Int) = some R) : ∀ (m i k : Nat) (t : Bool), i + m = l.length → m + 1 + K ≤ k → confidantref2_Greatest.l1 k q l (a : Int) t (i : Int) = some (if (t && (List.range m).all fun x => at2 q (rd l ((i + x : Nat) : Int)) (rd l (a : Int))) = true then (rd l (a : Int), true) else R) := by
  have ha := all_inQ q l hin a hal
  intro m
  induction m with
  | zero =>
    intro i k t hi hk
    obtain ⟨k, rfl⟩ := r2_fuel 1 k (by omega)
    cases t with
    | true => rw [confidantref2_Greatest.l1, if_neg (by omega), if_pos rfl, if_pos (by omega), if_pos (by omega)]; rfl
    | false => rw [confidantref2_Greatest.l1, if_neg (by omega), if_neg (by decide), r2_wrap a 1000 (by omega) (by decide), hR k (by omega)]; rfl
  | succ m ih =>
    intro i k t hi hk
    have hb := all_inQ q l hin i (by omega)
    obtain ⟨k, rfl⟩ := r2_fuel 1 k (by omega)
    cases t with
    | true =>
      rw [confidantref2_Greatest.l1, if_pos (by omega), if_pos rfl, if_pos (by omega), if_pos hb.2.1, if_pos hb.2.2, if_pos (by omega), if_pos (by omega), if_pos ha.2.1, if_pos (by rw [sq_row q hb.1 _ hb.2.1 hb.2.2]; exact ha.2.2), r2_wrap i 1000 (by omega) (by decide), ih (i + 1) k _ (by omega) (by omega), all_shift m i (fun x => at2 q (rd l (x : Int)) (rd l (a : Int))), Bool.true_and]
      rfl
    | false =>
      rw [confidantref2_Greatest.l1, if_pos (by omega), if_neg (by decide), r2_wrap i 1000 (by omega) (by decide), ih (i + 1) k _ (by omega) (by omega), Bool.false_and, Bool.false_and]
theorem r2_Greatest_l0 (q : List (List Bool)) (l : List Int) (hl : l.length ≤ 1000) (hin : l.all (inQ q) = true) (K : Nat) (hK : l.length + 40 ≤ K) : ∀ (m i k : Nat), i + m = l.length → (l.length + 3) * m + K ≤ k → confidantref2_Greatest.l0 k q l (i : Int) = some (firstD l (l.drop i) (fun x y => at2 q y x)) := by
  intro m
  induction m with
  | zero =>
    intro i k hi hk
    obtain ⟨k, rfl⟩ := r2_fuel 2 k (by omega)
    rw [confidantref2_Greatest.l0, if_neg (by omega), confidantref2_Greatest.j1, if_neg (by decide), List.drop_of_length_le (by omega)]
    rfl
  | succ m ih =>
    intro i k hi hk
    rw [Nat.mul_succ] at hk
    obtain ⟨k, rfl⟩ := r2_fuel 2 k (by omega)
    have e : (l.all (inQ q) && decide (0 < l.length)) = true := by rw [hin, decide_eq_true (by omega : 0 < l.length)]; rfl
    rw [confidantref2_Greatest.l0, if_pos (by omega), r2_all q l hl (k + 1) (by omega), Option.bind_some, e, confidantref2_Greatest.j1, if_pos rfl]
    have h := r2_Greatest_l1 q l hl hin i (by omega) _ ((l.length + 3) * m + K) (fun k hk => ih (i + 1) k (by omega) hk) l.length 0 k true (by omega) (by omega)
    rw [all_range0 l.length (fun x => at2 q (rd l (x : Int)) (rd l (i : Int))), all_list l (fun y => at2 q y (rd l (i : Int))), Bool.true_and] at h
    rw [List.drop_eq_getElem_cons (by omega : i < l.length), firstD_cons, ← r2_rdi l i (by omega)]
    exact h
theorem r2_Greatest (q : List (List Bool)) (l : List Int) (hl : l.length ≤ 1000) (k : Nat) (hk : (l.length + 3) * l.length + l.length + 40 ≤ k) : confidantref2_Greatest.f k q l = some (if inLB q l = true then firstB l (fun x y => at2 q y x) else (0, false)) := by
  unfold confidantref2_Greatest.f
  by_cases hin : l.all (inQ q) = true
  · have h := r2_Greatest_l0 q l hl hin (l.length + 40) (by omega) l.length 0 k (by omega) (by omega)
    rw [List.drop_zero] at h
    refine Eq.trans h ?_
    by_cases h0 : l.length = 0
    · obtain rfl := List.eq_nil_of_length_eq_zero h0
      show some ((0 : Int), false) = some (if inLB q [] = true then ((0 : Int), false) else (0, false))
      rw [ite_self]
    · rw [if_pos ((inLB_iff q l).2 ⟨(all_inQ q l hin 0 (by omega)).1, fun a ha => ((inQ_iff q a).1 (List.all_eq_true.1 hin a ha)).2⟩)]
      rfl
  · obtain ⟨k, rfl⟩ := r2_fuel 2 k (by omega)
    have e : (l.all (inQ q) && decide (0 < l.length)) = false := by rw [Bool.eq_false_iff.2 hin]; rfl
    rw [confidantref2_Greatest.l0, r2_all q l hl (k + 1) (by omega), Option.bind_some, e, ite_self, confidantref2_Greatest.j1, if_neg (by decide)]
    by_cases hs : sqB q = true
    · rw [if_neg (fun h => hin (List.all_eq_true.2 fun a ha => (inQ_iff q a).2 ⟨hs, ((inLB_iff q l).1 h).2 a ha⟩))]
    · rw [if_neg (fun h => hs ((inLB_iff q l).1 h).1)]
theorem r2_Flows (q : List (List Bool)) (a b : Int) (k : Nat) (hk : 20 ≤ k) : confidantref2_Flows.f k q a b = some (inQ q a && (inQ q b && at2 q a b)) := by
  unfold confidantref2_Flows.f
  rw [r2_in q a k hk, r2_in q b k hk, Option.bind_some, Option.bind_some]
  by_cases ha : inQ q a = true
  · by_cases hb : inQ q b = true
    · have ha' := (inQ_iff q a).1 ha
      have hb' := (inQ_iff q b).1 hb
      rw [if_pos ha, if_pos hb, if_pos ha'.2.1, if_pos ha'.2.2, if_pos hb'.2.1, if_pos (by rw [sq_row q ha'.1 _ ha'.2.1 ha'.2.2]; exact hb'.2.2), ha, hb]
      rfl
    · rw [if_pos ha, if_neg hb, ha, Bool.eq_false_iff.2 hb]; rfl
  · rw [if_neg ha, Bool.eq_false_iff.2 ha]; rfl
theorem pick_mem (n : Nat) (g : Int → Bool) (c : Int) : c ∈ pick n g ↔ (0 ≤ c ∧ c < (n : Int)) ∧ g c = true := by
  unfold pick
  simp only [List.mem_map, List.mem_filter, List.mem_range]
  constructor
  · rintro ⟨x, ⟨h1, h2⟩, rfl⟩; exact ⟨⟨by omega, by omega⟩, h2⟩
  · rintro ⟨⟨h1, h2⟩, h3⟩
    obtain ⟨x, rfl⟩ := Int.eq_ofNat_of_zero_le h1
    exact ⟨x, ⟨by omega, h3⟩, rfl⟩
theorem pick_len_le (n : Nat) (g : Int → Bool) : (pick n g).length ≤ n := by
  unfold pick
  rw [List.length_map]
  exact Nat.le_trans (List.length_filter_le _ _) (by rw [List.length_range]; exact Nat.le_refl n)
theorem inLB_pick (q : List (List Bool)) (hs : sqB q = true) (g : Int → Bool) : inLB q (pick q.length g) = true := (inLB_iff q _).2 ⟨hs, fun a ha => ((pick_mem _ _ _).1 ha).1⟩
theorem r2_sqlen (n m : Nat) (h : m ≤ n) (h16 : n ≤ 16) : (m + 3) * m + m + 40 ≤ 400 := by
  have := Nat.mul_le_mul (by omega : m + 3 ≤ 19) (by omega : m ≤ 16)
  omega
theorem r2_Join (q : List (List Bool)) (a b : Int) (k : Nat) (hk : 400 ≤ k) : confidantref2_Join.f k q a b = some (if inLB q [a, b] = true then (if (lstB q a b).2 = true then (lstB q a b).1 else -1) else -1) := by
  unfold confidantref2_Join.f
  rw [r2_Upper q a b k (by omega), Option.bind_some]
  by_cases h : inLB q [a, b] = true
  · have hs := ((inLB_iff q _).1 h).1
    have h16 := sq_len q hs
    have hl : (upL q a b).length ≤ q.length := pick_len_le _ _
    rw [if_pos h, r2_Least q (upL q a b) (by omega) k (Nat.le_trans (r2_sqlen _ _ hl h16) hk), Option.bind_some, if_pos (show inLB q (upL q a b) = true from inLB_pick q hs _), if_pos h]
    show (if (lstB q a b).2 = true then some (lstB q a b).1 else some (-1)) = _
    by_cases h2 : (lstB q a b).2 = true
    · rw [if_pos h2, if_pos h2]
    · rw [if_neg h2, if_neg h2]
  · rw [if_neg h, r2_Least q [] (by simp) k (by simp; omega), Option.bind_some, if_neg h]
    have e : (if inLB q [] = true then firstB [] (fun x y => at2 q x y) else ((0 : Int), false)) = (0, false) := by
      show (if inLB q [] = true then ((0 : Int), false) else (0, false)) = _
      rw [ite_self]
    rw [e]
    rfl
theorem r2_Meet (q : List (List Bool)) (a b : Int) (k : Nat) (hk : 400 ≤ k) : confidantref2_Meet.f k q a b = some (if inLB q [a, b] = true then (if (gstB q a b).2 = true then (gstB q a b).1 else -1) else -1) := by
  unfold confidantref2_Meet.f
  rw [r2_Lower q a b k (by omega), Option.bind_some]
  by_cases h : inLB q [a, b] = true
  · have hs := ((inLB_iff q _).1 h).1
    have h16 := sq_len q hs
    have hl : (dnL q a b).length ≤ q.length := pick_len_le _ _
    rw [if_pos h, r2_Greatest q (dnL q a b) (by omega) k (Nat.le_trans (r2_sqlen _ _ hl h16) hk), Option.bind_some, if_pos (show inLB q (dnL q a b) = true from inLB_pick q hs _), if_pos h]
    show (if (gstB q a b).2 = true then some (gstB q a b).1 else some (-1)) = _
    by_cases h2 : (gstB q a b).2 = true
    · rw [if_pos h2, if_pos h2]
    · rw [if_neg h2, if_neg h2]
  · rw [if_neg h, r2_Greatest q [] (by simp) k (by simp; omega), Option.bind_some, if_neg h]
    have e : (if inLB q [] = true then firstB [] (fun x y => at2 q y x) else ((0 : Int), false)) = (0, false) := by
      show (if inLB q [] = true then ((0 : Int), false) else (0, false)) = _
      rw [ite_self]
    rw [e]
    rfl
theorem r2_lat_l1 (q : List (List Bool)) (hs : sqB q = true) (a : Nat) (ha : a < q.length) (R : Bool) (K : Nat) (hK : 400 ≤ K) (hR : ∀ k, K ≤ k → confidantref2_Lattice.l0 k q ((a + 1 : Nat) : Int) = some R) : ∀ (m i k : Nat), i + m = q.length → m + 1 + K ≤ k → confidantref2_Lattice.l1 k q (a : Int) (i : Int) = some (((List.range m).all fun x => bothB q (a : Int) ((i + x : Nat) : Int)) && R) := by
  have h16 := sq_len q hs
  intro m
  induction m with
  | zero =>
    intro i k hi hk
    obtain ⟨k, rfl⟩ := r2_fuel 1 k (by omega)
    rw [confidantref2_Lattice.l1, if_neg (by omega), r2_wrap a 16 (by omega) (by decide), hR k (by omega)]
    rfl
  | succ m ih =>
    intro i k hi hk
    obtain ⟨k, rfl⟩ := r2_fuel 1 k (by omega)
    have hin : inLB q [(a : Int), (i : Int)] = true := (inLB_iff q _).2 ⟨hs, by intro c hc; simp at hc; omega⟩
    have hu : (upL q (a : Int) (i : Int)).length ≤ q.length := pick_len_le _ _
    have hd : (dnL q (a : Int) (i : Int)).length ≤ q.length := pick_len_le _ _
    rw [confidantref2_Lattice.l1, if_pos (by omega), r2_Upper q _ _ k (by omega), Option.bind_some, if_pos hin, r2_Least q _ (by omega) k (Nat.le_trans (r2_sqlen _ _ hu h16) (by omega)), Option.bind_some, r2_Lower q _ _ k (by omega), Option.bind_some, if_pos hin, r2_Greatest q _ (by omega) k (Nat.le_trans (r2_sqlen _ _ hd h16) (by omega)), Option.bind_some,
      if_pos (show inLB q (upL q (a : Int) (i : Int)) = true from inLB_pick q hs _), if_pos (show inLB q (dnL q (a : Int) (i : Int)) = true from inLB_pick q hs _), r2_wrap i 16 (by omega) (by decide), ih (i + 1) k (by omega) (by omega), all_shift m i (fun x => bothB q (a : Int) (x : Int))]
    show (if (lstB q (a : Int) (i : Int)).2 = true then (if (gstB q (a : Int) (i : Int)).2 = true then _ else _) else _) = some (((lstB q (a : Int) (i : Int)).2 && (gstB q (a : Int) (i : Int)).2 && _) && _)
    generalize (lstB q (a : Int) (i : Int)).2 = x
    generalize (gstB q (a : Int) (i : Int)).2 = y
    cases x <;> cases y <;> rfl
set_option maxRecDepth 10000 in
theorem r2_lat_l0 (q : List (List Bool)) (hs : sqB q = true) : ∀ (m i k : Nat), i + m = q.length → 20 * m + 400 ≤ k → confidantref2_Lattice.l0 k q (i : Int) = some ((List.range m).all fun x => (List.range q.length).all fun y => bothB q ((i + x : Nat) : Int) (y : Int)) := by
  have h16 := sq_len q hs
  intro m
  induction m with
  | zero =>
    intro i k hi hk
    obtain ⟨k, rfl⟩ := r2_fuel 1 k (by omega)
    rw [confidantref2_Lattice.l0, if_neg (by omega)]
    rfl
  | succ m ih =>
    intro i k hi hk
    obtain ⟨k, rfl⟩ := r2_fuel 1 k (by omega)
    rw [confidantref2_Lattice.l0, if_pos (by omega), all_shift m i (fun x => (List.range q.length).all fun y => bothB q (x : Int) (y : Int))]
    have h := r2_lat_l1 q hs i (by omega) _ (20 * m + 400) (by omega) (fun k hk => ih (i + 1) k (by omega) hk) q.length 0 k (by omega) (by omega)
    rw [all_range0 q.length (fun y => bothB q (i : Int) (y : Int))] at h
    exact h
theorem r2_Lattice (q : List (List Bool)) (k : Nat) (hk : 7000 ≤ k) : confidantref2_Lattice.f k q = some (latB q) := by
  unfold confidantref2_Lattice.f
  rw [r2_Reflexive q k (by omega), r2_Antisymmetric q k (by omega), r2_Transitive q k (by omega)]
  simp only [Option.bind_some]
  obtain ⟨k, rfl⟩ := r2_fuel 1 k (by omega)
  have hno : confidantref2_Lattice.j0 (k + 1) q true = some false := by rw [confidantref2_Lattice.j0, if_pos rfl]
  by_cases hs : sqB q = true
  · by_cases h1 : reflB q = true
    · by_cases h2 : antiB q = true
      · by_cases h3 : tranB q = true
        · have h16 := sq_len q hs
          rw [if_pos h1, if_pos h2, h3, confidantref2_Lattice.j0, if_neg (by decide)]
          have h := r2_lat_l0 q hs q.length 0 k (by omega) (by omega)
          rw [all_range0 q.length (fun x => (List.range q.length).all fun y => bothB q (x : Int) (y : Int))] at h
          unfold latB
          rw [hs, h1, h2, h3, Bool.true_and, Bool.true_and, Bool.true_and, Bool.true_and]
          exact h
        · unfold latB
          rw [if_pos h1, if_pos h2, Bool.eq_false_iff.2 h3, Bool.false_and, Bool.and_false, Bool.and_false, Bool.and_false]
          exact hno
      · unfold latB
        rw [if_pos h1, if_neg h2, Bool.eq_false_iff.2 h2, Bool.false_and, Bool.and_false, Bool.and_false]
        exact hno
    · unfold latB
      rw [if_neg h1, Bool.eq_false_iff.2 h1, Bool.false_and, Bool.and_false]
      exact hno
  · have h1 : reflB q = false := by unfold reflB; rw [Bool.eq_false_iff.2 hs]; rfl
    unfold latB
    rw [h1, Bool.eq_false_iff.2 hs, if_neg (by decide), Bool.false_and]
    exact hno
theorem r2_labels_l0 (q : List (List Bool)) (hq : q.length ≤ 1000) : ∀ (m i k : Nat) (acc : List Int), i + m = q.length → m < k → acc.length ≤ i → confidantref2_labels.l0 k q acc (i : Int) = some (acc ++ pickI i m (fun _ => true)) := by
  intro m
  induction m with
  | zero =>
    intro i k acc hi hk hacc
    obtain ⟨k, rfl⟩ := r2_fuel 1 k (by omega)
    rw [confidantref2_labels.l0, if_neg (by omega)]
    exact congrArg some (List.append_nil acc).symm
  | succ m ih =>
    intro i k acc hi hk hacc
    obtain ⟨k, rfl⟩ := r2_fuel 1 k (by omega)
    rw [confidantref2_labels.l0, if_pos (by omega), if_pos (by omega), r2_wrap i 1000 (by omega) (by decide), ih (i + 1) k _ (by omega) (by omega) (by simp; omega), pickI_succ, List.append_assoc]
    rfl
theorem r2_labels (q : List (List Bool)) (hq : q.length ≤ 1000) (k : Nat) (hk : q.length < k) : confidantref2_labels.f k q = some (pick q.length fun _ => true) := by
  unfold confidantref2_labels.f
  have h := r2_labels_l0 q hq q.length 0 k [] (by omega) hk (by simp)
  rw [pickI_zero, List.nil_append] at h
  exact h
theorem r2_Below_l0 (q : List (List Bool)) (hq : q.length ≤ 1000) (a : Int) : ∀ (m i k : Nat) (acc : List Int), i + m = q.length → m + 30 ≤ k → acc.length ≤ i → confidantref2_Below.l0 k q a acc (i : Int) = some (acc ++ pickI i m (fun x => inQ q x && (inQ q a && at2 q x a))) := by
  intro m
  induction m with
  | zero =>
    intro i k acc hi hk hacc
    obtain ⟨k, rfl⟩ := r2_fuel 1 k (by omega)
    rw [confidantref2_Below.l0, if_neg (by omega)]
    exact congrArg some (List.append_nil acc).symm
  | succ m ih =>
    intro i k acc hi hk hacc
    obtain ⟨k, rfl⟩ := r2_fuel 1 k (by omega)
    rw [confidantref2_Below.l0, if_pos (by omega), r2_Flows q _ _ k (by omega), Option.bind_some, r2_wrap i 1000 (by omega) (by decide), pickI_succ]
    by_cases h : (inQ q (i : Int) && (inQ q a && at2 q (i : Int) a)) = true
    · rw [if_pos h, if_pos (by omega), ih (i + 1) k _ (by omega) (by omega) (by simp; omega), if_pos h, List.append_assoc]
    · rw [if_neg h, ih (i + 1) k _ (by omega) (by omega) (by omega), if_neg h, List.nil_append]
theorem r2_Below (q : List (List Bool)) (hq : q.length ≤ 1000) (a : Int) (k : Nat) (hk : q.length + 30 ≤ k) : confidantref2_Below.f k q a = some (pick q.length fun x => inQ q x && (inQ q a && at2 q x a)) := by
  unfold confidantref2_Below.f
  have h := r2_Below_l0 q hq a q.length 0 k [] (by omega) (by omega) (by simp)
  rw [pickI_zero, List.nil_append] at h
  exact h
theorem firstB_of (l : List Int) (g : Int → Int → Bool) (h : (firstB l g).2 = true) : (firstB l g).1 ∈ l ∧ ∀ b ∈ l, g (firstB l g).1 b = true := by
  unfold firstB at h ⊢
  cases hf : l.find? (fun a => l.all (fun b => g a b)) with
  | none => rw [hf] at h; cases h
  | some a =>
    have h1 := List.find?_some hf
    exact ⟨List.mem_of_find?_eq_some hf, fun b hb => List.all_eq_true.1 h1 b hb⟩
theorem firstB_ex (l : List Int) (g : Int → Int → Bool) (a : Int) (ha : a ∈ l) (h : ∀ b ∈ l, g a b = true) : (firstB l g).2 = true := by
  unfold firstB
  cases hf : l.find? (fun a => l.all (fun b => g a b)) with
  | none => exact absurd (List.all_eq_true.2 h) (List.find?_eq_none.1 hf a ha)
  | some a => rfl
theorem latB_both (q : List (List Bool)) (h : latB q = true) : sqB q = true ∧ antiB q = true ∧ tranB q = true ∧ ∀ a b : Int, 0 ≤ a → a < (q.length : Int) → 0 ≤ b → b < (q.length : Int) → (lstB q a b).2 = true ∧ (gstB q a b).2 = true := by
  unfold latB at h
  simp only [Bool.and_eq_true] at h
  obtain ⟨h1, h2, h3, h4, h5⟩ := h
  refine ⟨h1, h3, h4, fun a b a0 a1 b0 b1 => ?_⟩
  obtain ⟨x, rfl⟩ := Int.eq_ofNat_of_zero_le a0
  obtain ⟨y, rfl⟩ := Int.eq_ofNat_of_zero_le b0
  have := List.all_eq_true.1 (List.all_eq_true.1 h5 x (List.mem_range.2 (by omega))) y (List.mem_range.2 (by omega))
  exact Bool.and_eq_true_iff.1 this
theorem tran_at (q : List (List Bool)) (h : tranB q = true) (a b c : Int) (a0 : 0 ≤ a) (a1 : a < (q.length : Int)) (b0 : 0 ≤ b) (b1 : b < (q.length : Int)) (c0 : 0 ≤ c) (c1 : c < (q.length : Int)) (hab : at2 q a b = true) (hbc : at2 q b c = true) : at2 q a c = true := by
  obtain ⟨x, rfl⟩ := Int.eq_ofNat_of_zero_le a0
  obtain ⟨y, rfl⟩ := Int.eq_ofNat_of_zero_le b0
  obtain ⟨z, rfl⟩ := Int.eq_ofNat_of_zero_le c0
  unfold tranB at h
  have := List.all_eq_true.1 (List.all_eq_true.1 (List.all_eq_true.1 (Bool.and_eq_true_iff.1 h).2 x (List.mem_range.2 (by omega))) y (List.mem_range.2 (by omega))) z (List.mem_range.2 (by omega))
  rw [hab, hbc] at this
  simpa using this
theorem anti_at (q : List (List Bool)) (h : antiB q = true) (a b : Int) (a0 : 0 ≤ a) (a1 : a < (q.length : Int)) (b0 : 0 ≤ b) (b1 : b < (q.length : Int)) (hab : at2 q a b = true) (hba : at2 q b a = true) : a = b := by
  obtain ⟨x, rfl⟩ := Int.eq_ofNat_of_zero_le a0
  obtain ⟨y, rfl⟩ := Int.eq_ofNat_of_zero_le b0
  unfold antiB at h
  have := List.all_eq_true.1 (List.all_eq_true.1 (Bool.and_eq_true_iff.1 h).2 x (List.mem_range.2 (by omega))) y (List.mem_range.2 (by omega))
  have h' : ((x : Int) == (y : Int) || (!at2 q (x : Int) (y : Int) || !at2 q (y : Int) (x : Int))) = true := this
  rw [hab, hba] at h'
  simpa using h'
theorem latAt_in (n : Nat) (f : Nat → Nat → Int) (a b d : Int) (a0 : 0 ≤ a) (a1 : a < (n : Int)) (b0 : 0 ≤ b) (b1 : b < (n : Int)) : latAt n f a b d = f a.toNat b.toNat := by unfold latAt; rw [if_pos ⟨a0, a1, b0, b1⟩]
theorem latAt_join (q : List (List Bool)) (a b d : Int) (a0 : 0 ≤ a) (a1 : a < (q.length : Int)) (b0 : 0 ≤ b) (b1 : b < (q.length : Int)) : latAt q.length (joinF q) a b d = (lstB q a b).1 := by
  rw [latAt_in _ _ _ _ _ a0 a1 b0 b1]; unfold joinF; rw [Int.toNat_of_nonneg a0, Int.toNat_of_nonneg b0]
theorem latAt_meet (q : List (List Bool)) (a b d : Int) (a0 : 0 ≤ a) (a1 : a < (q.length : Int)) (b0 : 0 ≤ b) (b1 : b < (q.length : Int)) : latAt q.length (meetF q) a b d = (gstB q a b).1 := by
  rw [latAt_in _ _ _ _ _ a0 a1 b0 b1]; unfold meetF; rw [Int.toNat_of_nonneg a0, Int.toNat_of_nonneg b0]
theorem latAt_leq (q : List (List Bool)) (a b : Int) (a0 : 0 ≤ a) (a1 : a < (q.length : Int)) (b0 : 0 ≤ b) (b1 : b < (q.length : Int)) : (latAt q.length (leqF q) a b 0 == 1) = at2 q a b := by
  rw [latAt_in _ _ _ _ _ a0 a1 b0 b1]; unfold leqF; rw [Int.toNat_of_nonneg a0, Int.toNat_of_nonneg b0]
  cases at2 q a b <;> rfl
theorem join_in (q : List (List Bool)) (h : latB q = true) (a b : Int) (a0 : 0 ≤ a) (a1 : a < (q.length : Int)) (b0 : 0 ≤ b) (b1 : b < (q.length : Int)) : (0 ≤ (lstB q a b).1 ∧ (lstB q a b).1 < (q.length : Int)) ∧ at2 q a (lstB q a b).1 = true ∧ at2 q b (lstB q a b).1 = true := by
  have h2 := (firstB_of _ _ ((latB_both q h).2.2.2 a b a0 a1 b0 b1).1).1
  have h3 := (pick_mem _ _ _).1 h2
  exact ⟨h3.1, Bool.and_eq_true_iff.1 h3.2⟩
theorem meet_in (q : List (List Bool)) (h : latB q = true) (a b : Int) (a0 : 0 ≤ a) (a1 : a < (q.length : Int)) (b0 : 0 ≤ b) (b1 : b < (q.length : Int)) : (0 ≤ (gstB q a b).1 ∧ (gstB q a b).1 < (q.length : Int)) ∧ at2 q (gstB q a b).1 a = true ∧ at2 q (gstB q a b).1 b = true := by
  have h2 := (firstB_of _ _ ((latB_both q h).2.2.2 a b a0 a1 b0 b1).2).1
  have h3 := (pick_mem _ _ _).1 h2
  exact ⟨h3.1, Bool.and_eq_true_iff.1 h3.2⟩
theorem sq_pos (q : List (List Bool)) (h : sqB q = true) : 1 ≤ q.length := by
  unfold sqB at h
  simp only [Bool.and_eq_true, decide_eq_true_eq] at h
  exact h.1
theorem botF_inv (q : List (List Bool)) (h : latB q = true) : ∀ m : Nat, m ≤ q.length → (0 ≤ botF q m ∧ botF q m < (q.length : Int)) ∧ ∀ j : Nat, j < m → at2 q (botF q m) (j : Int) = true := by
  have hb := latB_both q h
  have h1 := sq_pos q hb.1
  intro m
  induction m with
  | zero => intro _; exact ⟨⟨Int.le_refl 0, by show (0 : Int) < _; omega⟩, fun j hj => absurd hj (Nat.not_lt_zero j)⟩
  | succ m ih =>
    intro hm
    obtain ⟨ih0, ih1⟩ := ih (by omega)
    rw [botF_succ, latAt_meet q _ _ _ ih0.1 ih0.2 (by omega) (by omega)]
    have hm := meet_in q h (botF q m) (m : Int) ih0.1 ih0.2 (by omega) (by omega)
    refine ⟨hm.1, fun j hj => ?_⟩
    by_cases e : j = m
    · subst e; exact hm.2.2
    · exact tran_at q hb.2.2.1 _ _ _ hm.1.1 hm.1.2 ih0.1 ih0.2 (by omega) (by omega) hm.2.1 (ih1 j (by omega))
theorem r2_Bottom (q : List (List Bool)) (h : latB q = true) (k : Nat) (hk : 400 ≤ k) : confidantref2_Bottom.f k q = some (botF q q.length) := by
  have hb := latB_both q h
  have h16 := sq_len q hb.1
  have hi := botF_inv q h q.length (Nat.le_refl _)
  unfold confidantref2_Bottom.f
  have hl : (pick q.length fun _ => true).length ≤ q.length := pick_len_le _ _
  rw [r2_labels q (by omega) k (by omega), Option.bind_some, r2_Least q _ (by omega) k (Nat.le_trans (r2_sqlen _ _ hl h16) hk), Option.bind_some, if_pos (inLB_pick q hb.1 _)]
  congr 1
  have hmem : ∀ c, c ∈ (pick q.length fun _ => true) ↔ 0 ≤ c ∧ c < (q.length : Int) := fun c => by rw [pick_mem]; simp
  have hall : ∀ c, 0 ≤ c ∧ c < (q.length : Int) → at2 q (botF q q.length) c = true := fun c hc => by
    obtain ⟨x, rfl⟩ := Int.eq_ofNat_of_zero_le hc.1
    exact hi.2 x (by omega)
  have hex := firstB_ex (pick q.length fun _ => true) (fun x y => at2 q x y) (botF q q.length) ((hmem _).2 hi.1) (fun b hb => hall b ((hmem b).1 hb))
  have hof := firstB_of _ _ hex
  have hc := (hmem _).1 hof.1
  exact anti_at q hb.2.1 _ _ hc.1 hc.2 hi.1.1 hi.1.2 (hof.2 _ ((hmem _).2 hi.1)) (hall _ hc)
theorem topF_inv (q : List (List Bool)) (h : latB q = true) : ∀ m : Nat, m ≤ q.length → (0 ≤ topF q m ∧ topF q m < (q.length : Int)) ∧ ∀ j : Nat, j < m → at2 q (j : Int) (topF q m) = true := by
  have hb := latB_both q h
  have h1 := sq_pos q hb.1
  intro m
  induction m with
  | zero => intro _; exact ⟨⟨Int.le_refl 0, by show (0 : Int) < _; omega⟩, fun j hj => absurd hj (Nat.not_lt_zero j)⟩
  | succ m ih =>
    intro hm
    obtain ⟨ih0, ih1⟩ := ih (by omega)
    rw [topF_succ, latAt_join q _ _ _ ih0.1 ih0.2 (by omega) (by omega)]
    have hm := join_in q h (topF q m) (m : Int) ih0.1 ih0.2 (by omega) (by omega)
    refine ⟨hm.1, fun j hj => ?_⟩
    by_cases e : j = m
    · subst e; exact hm.2.2
    · exact tran_at q hb.2.2.1 _ _ _ (by omega) (by omega) ih0.1 ih0.2 hm.1.1 hm.1.2 (ih1 j (by omega)) hm.2.1
theorem r2_Top (q : List (List Bool)) (h : latB q = true) (k : Nat) (hk : 400 ≤ k) : confidantref2_Top.f k q = some (topF q q.length) := by
  have hb := latB_both q h
  have h16 := sq_len q hb.1
  have hi := topF_inv q h q.length (Nat.le_refl _)
  unfold confidantref2_Top.f
  have hl : (pick q.length fun _ => true).length ≤ q.length := pick_len_le _ _
  rw [r2_labels q (by omega) k (by omega), Option.bind_some, r2_Greatest q _ (by omega) k (Nat.le_trans (r2_sqlen _ _ hl h16) hk), Option.bind_some, if_pos (inLB_pick q hb.1 _)]
  congr 1
  have hmem : ∀ c, c ∈ (pick q.length fun _ => true) ↔ 0 ≤ c ∧ c < (q.length : Int) := fun c => by rw [pick_mem]; simp
  have hall : ∀ c, 0 ≤ c ∧ c < (q.length : Int) → at2 q c (topF q q.length) = true := fun c hc => by
    obtain ⟨x, rfl⟩ := Int.eq_ofNat_of_zero_le hc.1
    exact hi.2 x (by omega)
  have hex := firstB_ex (pick q.length fun _ => true) (fun x y => at2 q y x) (topF q q.length) ((hmem _).2 hi.1) (fun b hb => hall b ((hmem b).1 hb))
  have hof := firstB_of _ _ hex
  have hc := (hmem _).1 hof.1
  exact anti_at q hb.2.1 _ _ hc.1 hc.2 hi.1.1 hi.1.2 (hall _ hc) (hof.2 _ ((hmem _).2 hi.1))
theorem r2_JoinL (q : List (List Bool)) (h : latB q = true) (a b : Int) (k : Nat) (hk : 400 ≤ k) : confidantref2_Join.f k q a b = some (latAt q.length (joinF q) a b (-1)) := by
  rw [r2_Join q a b k hk]
  congr 1
  by_cases hin : inLB q [a, b] = true
  · have hi := (inLB_iff q _).1 hin
    have ha := hi.2 a (by simp)
    have hb := hi.2 b (by simp)
    rw [if_pos hin, if_pos ((latB_both q h).2.2.2 a b ha.1 ha.2 hb.1 hb.2).1, latAt_join q a b _ ha.1 ha.2 hb.1 hb.2]
  · rw [if_neg hin]
    unfold latAt
    rw [if_neg (fun hx => hin ((inLB_iff q _).2 ⟨(latB_both q h).1, by intro c hc; simp at hc; omega⟩))]
theorem r2_MeetL (q : List (List Bool)) (h : latB q = true) (a b : Int) (k : Nat) (hk : 400 ≤ k) : confidantref2_Meet.f k q a b = some (latAt q.length (meetF q) a b (-1)) := by
  rw [r2_Meet q a b k hk]
  congr 1
  by_cases hin : inLB q [a, b] = true
  · have hi := (inLB_iff q _).1 hin
    have ha := hi.2 a (by simp)
    have hb := hi.2 b (by simp)
    rw [if_pos hin, if_pos ((latB_both q h).2.2.2 a b ha.1 ha.2 hb.1 hb.2).2, latAt_meet q a b _ ha.1 ha.2 hb.1 hb.2]
  · rw [if_neg hin]
    unfold latAt
    rw [if_neg (fun hx => hin ((inLB_iff q _).2 ⟨(latB_both q h).1, by intro c hc; simp at hc; omega⟩))]
theorem flows_lat (q : List (List Bool)) (h : latB q = true) (a b : Int) : (inQ q a && (inQ q b && at2 q a b)) = (latAt q.length (leqF q) a b 0 == 1) := by
  have hs := (latB_both q h).1
  by_cases hin : 0 ≤ a ∧ a < (q.length : Int) ∧ 0 ≤ b ∧ b < (q.length : Int)
  · rw [latAt_leq q a b hin.1 hin.2.1 hin.2.2.1 hin.2.2.2, (inQ_iff q a).2 ⟨hs, hin.1, hin.2.1⟩, (inQ_iff q b).2 ⟨hs, hin.2.2⟩]
    rfl
  · unfold latAt
    rw [if_neg hin]
    have e : (inQ q a && (inQ q b && at2 q a b)) = false := by
      refine Bool.eq_false_iff.2 fun hx => hin ?_
      simp only [Bool.and_eq_true, inQ_iff] at hx
      exact ⟨hx.1.2.1, hx.1.2.2, hx.2.1.2.1, hx.2.1.2.2⟩
    rw [e]
    rfl
theorem r2_FlowsL (q : List (List Bool)) (h : latB q = true) (a b : Int) (k : Nat) (hk : 20 ≤ k) : confidantref2_Flows.f k q a b = some (latAt q.length (leqF q) a b 0 == 1) := by
  rw [r2_Flows q a b k hk, flows_lat q h]
theorem r2_BelowL (q : List (List Bool)) (h : latB q = true) (a : Int) (k : Nat) (hk : 60 ≤ k) : confidantref2_Below.f k q a = some (pick q.length fun x => latAt q.length (leqF q) x a 0 == 1) := by
  have h16 := sq_len q (latB_both q h).1
  rw [r2_Below q (by omega) a k (by omega)]
  have e : (fun x => inQ q x && (inQ q a && at2 q x a)) = fun x => latAt q.length (leqF q) x a 0 == 1 := funext fun x => flows_lat q h x a
  rw [e]
theorem r2_ints_l0 (l : List Int) (hl : l.length ≤ 1000) : ∀ (m i k : Nat), i + m = l.length → m < k → confidanthelp_Ints.l0 k l l (i : Int) = some true := by
  intro m
  induction m with
  | zero =>
    intro i k hi hk
    obtain ⟨k, rfl⟩ := r2_fuel 1 k (by omega)
    rw [confidanthelp_Ints.l0, if_neg (by omega)]
  | succ m ih =>
    intro i k hi hk
    obtain ⟨k, rfl⟩ := r2_fuel 1 k (by omega)
    rw [confidanthelp_Ints.l0, if_pos (by omega), if_pos (by omega), if_pos (by omega), if_pos rfl, r2_wrap i 1000 (by omega) (by decide), ih (i + 1) k (by omega) (by omega)]
theorem r2_Ints (l : List Int) (hl : l.length ≤ 1000) (k : Nat) (hk : l.length < k) : confidanthelp_Ints.f k l l = some true := by
  unfold confidanthelp_Ints.f
  rw [if_pos rfl]
  exact r2_ints_l0 l hl l.length 0 k (by omega) hk
theorem r2_small_l0 (q : List (List Bool)) (hl : q.length ≤ 20) : ∀ (m i k : Nat), i + m = q.length → m < k → ∃ r, confidanthelp_Small.l0 k q (i : Int) = some r := by
  intro m
  induction m with
  | zero =>
    intro i k hi hk
    obtain ⟨k, rfl⟩ := r2_fuel 1 k (by omega)
    exact ⟨true, by rw [confidanthelp_Small.l0, if_neg (by omega)]⟩
  | succ m ih =>
    intro i k hi hk
    obtain ⟨k, rfl⟩ := r2_fuel 1 k (by omega)
    rw [confidanthelp_Small.l0, if_pos (by omega), if_pos (by omega), r2_wrap i 20 (by omega) (by decide)]
    by_cases h : ((rd_L2 q (i : Int)).length : Int) > 20
    · exact ⟨false, by rw [if_pos h]⟩
    · rw [if_neg h]; exact ih (i + 1) k (by omega) (by omega)
theorem r2_Small (q : List (List Bool)) : ∃ r, confidanthelp_Small.f 30 q = some r ∧ (r = true → q.length ≤ 20) := by
  unfold confidanthelp_Small.f
  by_cases h : (q.length : Int) > 20
  · exact ⟨false, by rw [if_pos h], fun h => by cases h⟩
  · obtain ⟨r, hr⟩ := r2_small_l0 q (by omega) q.length 0 30 (by omega) (by omega)
    exact ⟨r, by rw [if_neg h]; exact hr, fun _ => by omega⟩
/-- A value that is a small table. -/
def TabV (W : World) (v : Value) : Prop := ∃ (A : Option Addr) (c : Nat) (q : List (List Bool)), v = .slice A q.length c ∧ q.length ≤ c ∧ q.length ≤ 20 ∧ Kd.C (Kd.slice 4 Kd.bool) W A q.length q
theorem TabV.below {W W1 : World} {v : Value} (h : TabV W v) (hb : Below W.heap.size W W1) : TabV W1 v := by
  obtain ⟨A, c, q, rfl, h1, h2, h3⟩ := h
  exact ⟨A, c, q, rfl, h1, h2, Kd.C_below h3 hb⟩
theorem grid_reads {W : World} {a : Addr} {len cap : Nat} {A : Nat → Option Addr} {L C : Nat → Nat} {B : Nat → Nat → Bool} (hl : len ≤ cap) (hm : cap ≤ maxLen) (h : ∀ r, r < cap → W.cell? (a.add r) = some (.slice (A r) (L r) (C r)) ∧ L r ≤ C r ∧ C r ≤ maxLen ∧ (A r = none → C r = 0) ∧ ∀ a', A r = some a' → ∀ c, c < C r → W.cell? (a'.add c) = some (.bool (B r c))) :
    Kd.C (Kd.slice 4 Kd.bool) W (some a) len ((List.range len).map fun r => (List.range (L r)).map fun c => B r c) := by
  unfold maxLen at hm
  refine ⟨by simp, by omega, fun _ => ⟨a, rfl, fun j p hj => ?_⟩⟩
  have hjl : j < len := by have := (List.getElem?_eq_some_iff.1 hj).1; simpa using this
  obtain ⟨h1, h2, h3, h4, h5⟩ := h j (by omega)
  unfold maxLen at h3
  have hp : p = (List.range (L j)).map fun c => B j c := by
    rw [List.getElem?_map, List.getElem?_range hjl] at hj
    simpa using hj.symm
  subst hp
  refine ⟨[.slice (A j) (L j) (C j)], rfl, ⟨A j, C j, by simp, by simpa using h2, by simp, by simp; omega, fun hn => ?_⟩, fun i u hi => ?_⟩
  · have hn' : 0 < L j := by simpa using hn
    cases hA : A j with
    | none => have := h4 hA; omega
    | some a' =>
      refine ⟨a', rfl, fun k p hk => ?_⟩
      have hkl : k < L j := by have := (List.getElem?_eq_some_iff.1 hk).1; simpa using this
      have hp : p = B j k := by
        rw [List.getElem?_map, List.getElem?_range hkl] at hk
        simpa using hk.symm
      subst hp
      refine ⟨[.bool (B j k)], rfl, rfl, fun i u hi => ?_⟩
      cases i with
      | zero =>
        have : u = .bool (B j k) := by simpa using hi.symm
        subst this
        have := h5 a' hA k (by omega)
        rw [show k * Kd.bool.sz + 0 = k from Nat.mul_one k]
        exact this
      | succ i => simp at hi
  · cases i with
    | zero =>
      have : u = .slice (A j) (L j) (C j) := by simpa using hi.symm
      subst this
      rw [show j * (Kd.slice 4 Kd.bool).sz + 0 = j from Nat.mul_one j]
      exact h1
    | succ i => simp at hi
def m3T : List (List Bool) := tabB 5 5 fun a b => if 1 ≤ a ∧ a < 4 ∧ 1 ≤ b ∧ b < 4 then decide (a = b) else decide (a ≤ b)
def seatT (j : Nat) : List (List Bool) := if j = 0 then chainT 2 else if j = 1 then chainT 3 else if j = 2 ∨ j = 3 then powersT 2 else if j = 4 then m3T else powersT 3
theorem seat_small : ∀ k : Fin 256, confidantseat_Lattice.f 400 (k.val : Int) = some (seatT (k.val % 6)) := by decide +kernel
theorem seat_lat : ∀ j : Fin 6, latB (seatT j.val) = true ∧ 2 ≤ (seatT j.val).length ∧ (seatT j.val).length ≤ 8 := by decide +kernel
theorem seat_facts4 (a : Int) (h0 : 0 ≤ a) (h1 : a < 256) : ∃ q, confidantseat_Lattice.f 400 a = some q ∧ latB q = true ∧ 2 ≤ q.length ∧ q.length ≤ 8 := by
  obtain ⟨x, rfl⟩ := Int.eq_ofNat_of_zero_le h0
  have hx : x < 256 := by omega
  have h6 : x % 6 < 6 := Nat.mod_lt _ (by decide)
  have hs := seat_lat ⟨x % 6, h6⟩
  exact ⟨_, seat_small ⟨x, hx⟩, hs.1, hs.2.1, hs.2.2⟩
theorem blk_below {W W1 : World} (hb : Below W.heap.size W W1) {g : Nat} {o : Obj} (h : W.heap[g]? = some o) : W1.heap[g]? = some o := (hb.block g (blk_lt h)).trans h
/-- A table of the call's own: what is read at two places, and what a store there leaves. -/
theorem tab_at {W : World} {base g n cap : Nat} {ok : Nat → Prop} {q : List (List Bool)} (h : Kd.S (Kd.slice 4 Kd.bool) 36 W base ok (.slice (some ⟨g, 0, none⟩) n cap) q) (a b : Int) (h0 : 0 ≤ a) (h1 : a < (n : Int)) (h2 : 0 ≤ b) (h3 : b < ((rd_L2 q a).length : Int)) :
    ∃ (g2 cap2 : Nat), W.cell? ⟨g, a.toNat, none⟩ = some (.slice (some ⟨g2, 0, none⟩) (rd_L2 q a).length cap2) ∧ W.cell? ⟨g2, b.toNat, none⟩ = some (.bool (at2 q a b)) ∧ W.frozen? ⟨g2, b.toNat, none⟩ = false ∧ base ≤ g2 ∧ g2 < W.heap.size ∧
      ∀ v : Bool, Kd.S (Kd.slice 4 Kd.bool) 36 (W.setCell ⟨g2, b.toNat, none⟩ (.bool v)) base ok (.slice (some ⟨g, 0, none⟩) n cap) (q.set a.toNat ((rd_L2 q a).set b.toNat v)) := by
  obtain ⟨oki, c, hc, hM, hcell, hok, hH⟩ := Kd.S_lend h ([] : List Bool) a h0 h1
  obtain ⟨v0, rfl, hR⟩ := hM
  have hR' : Kd.R Kd.bool 4 W base oki v0 (rd_L2 q a) := hR
  clear hR
  obtain ⟨g2, cap2, rfl, hb, hlt, cells, hcells⟩ := Kd.R_form hR' (by omega)
  obtain ⟨_, _, hC⟩ := Kd.R_reads' hR'
  obtain ⟨ad2, hA, hx⟩ := Kd.at_bool hC b h2 h3
  cases hA
  rw [add_plain] at hx
  refine ⟨g2, cap2, ?_, hx, blk_frozen hcells _, hb, hlt, fun v => ?_⟩
  · have := hcell 0 _ rfl
    rw [show a.toNat * Kd.sz (Kd.slice 4 Kd.bool) + 0 = a.toNat from by show a.toNat * 1 + 0 = _; omega] at this
    exact this
  · obtain ⟨hp, hg⟩ := Kd.R_put (enc := Value.bool) hR' b v
    refine Kd.H_back (Kd.H_grown hH hg (fun k hk => ?_)) (okp := oki) ⟨_, rfl, ?_⟩ (fun _ hk => hk)
    · exact hR'.1 k (by rw [← hk]; simp [Value.ownBlock])
    · have hl : ((rd_L2 q a).set b.toNat v).length = (rd_L2 q a).length := List.length_set ..
      exact hp
def PS (wr : World) (X Y : Int) (W : World) : Prop := Below wr.heap.size wr W ∧ W.heap[wr.heap.size]? = some (.cells #[.int .i64 X, .int .i64 Y] 38 (0, 0)) ∧ W.cell? ⟨wr.heap.size, 0, none⟩ = some (.int .i64 X) ∧ W.cell? ⟨wr.heap.size, 1, none⟩ = some (.int .i64 Y)
theorem PS_below {wr W W1 : World} {X Y : Int} (h : PS wr X Y W) (hb : Below W.heap.size W W1) : PS wr X Y W1 := by
  obtain ⟨h1, h2, _, _⟩ := h
  have h2' := blk_below hb h2
  exact ⟨below_step h1 hb, h2', by rw [blk_cell h2']; rfl, by rw [blk_cell h2']; rfl⟩
theorem PS_drawn {wr W : World} {X Y : Int} (h : PS wr X Y W) (n : Nat) : PS wr X Y (W.drewN n) := PS_below h (pw_below_drewN (Below.refl _ _) n)
theorem PS_as {wr W W1 : World} {X Y : Int} (h : PS wr X Y W) (e1 : W1.heap = W.heap) (e2 : W1.os = W.os) (e3 : W1.tape = W.tape) (e4 : W1.output = W.output) : PS wr X Y W1 := by
  obtain ⟨h1, h2, _, _⟩ := h
  have h2' : W1.heap[wr.heap.size]? = some (.cells #[.int .i64 X, .int .i64 Y] 38 (0, 0)) := by rw [e1]; exact h2
  exact ⟨⟨e2.trans h1.os, e3.trans h1.tape, e4.trans h1.output, by rw [e1]; exact h1.size, fun k hk => by rw [e1]; exact h1.block k hk⟩, h2', by rw [blk_cell h2']; rfl, by rw [blk_cell h2']; rfl⟩
theorem PSB_as {wr W W1 : World} {X Y : Int} (h : PS wr X Y W) (e1 : W1.heap = W.heap) (e2 : W1.os = W.os) (e3 : W1.tape = W.tape) (e4 : W1.output = W.output) : Below wr.heap.size wr W1 := (PS_as h e1 e2 e3 e4).1
theorem PS_belowas {wr W W1 W2 : World} {X Y : Int} (h : PS wr X Y W) (hb : Below W1.heap.size W1 W2) (e1 : W1.heap = W.heap) (e2 : W1.os = W.os) (e3 : W1.tape = W.tape) (e4 : W1.output = W.output) : PS wr X Y W2 := PS_below (PS_as h e1 e2 e3 e4) hb
theorem PS_start (wr : World) (X Y : Int) : PS wr X Y ((wr.alloc (.cells #[.int .i64 X, .int .i64 Y] 38)).drew) := by
  have h : ((wr.alloc (.cells #[.int .i64 X, .int .i64 Y] 38)).drew).heap[wr.heap.size]? = some (.cells #[.int .i64 X, .int .i64 Y] 38 (0, 0)) := heap_new _ _
  exact ⟨(by repeat (first | exact Below.refl _ _ | apply below_alloc | apply pw_below_drewN | apply below_drew1)), h, by rw [blk_cell h]; rfl, by rw [blk_cell h]; rfl⟩
set_option maxRecDepth 100000 in
set_option maxHeartbeats 3200000 in
theorem confidantlaw3_LatticeTells.calls (A : Option Addr) (cA : Nat) (q0 : List (List Bool)) (k x y : Int) (turn : Bool) (a b : Int) (w : World) (hC : Kd.C (Kd.slice 4 Kd.bool) w A q0.length q0) (hcA : q0.length ≤ cA) (hk : 0 ≤ k ∧ k < 256) (hx : 0 ≤ x ∧ x < 256) (hy : 0 ≤ y ∧ y < 256) (ha : -9223372036854775808 ≤ a ∧ a ≤ 9223372036854775807) (hb : -9223372036854775808 ≤ b ∧ b ≤ 9223372036854775807) :
    Calls Try.prog 8 #[.slice A q0.length cA, .int .u8 k, .int .u8 x, .int .u8 y, .bool turn, .int .i64 a, .int .i64 b] w fun e w' => e = .returned (.bool true) ∧ Below w.heap.size w w' := by
  obtain ⟨sm, hsm1, hsm2⟩ := r2_Small q0
  have HSM := Aside0.mk (And.intro hsm1 hsm2)
  obtain ⟨q, hs, hlat, hn2, hn8⟩ := seat_facts4 k hk.1 hk.2
  have HSEAT := Aside0.mk hs
  have HSQ := Aside0.mk (latB_both q hlat).1
  obtain ⟨hx0, hx1⟩ := hx
  obtain ⟨hy0, hy1⟩ := hy
  obtain ⟨ha0, ha1⟩ := ha
  obtain ⟨hb0, hb1⟩ := hb
  have HRAW := Aside0.mk hC
  have HB := Aside0.mk (Below.refl w.heap.size w)
  have hn0 : (q.length : Int) ≠ 0 := by omega
  clear hsm1 hsm2 hs hlat hC hk
  go_enter Try.func8, Try.ntmps8
  go_wp2_with fail
  refine (lattice_known_calls _).mono ?_
  rintro e w1 ⟨rfl, hB⟩
  have HRAW2 := Aside0.mk (Kd.C_below HRAW.out (below_step (by repeat (first | exact Below.refl _ _ | apply below_alloc | apply pw_below_drewN | apply below_drew1)) hB))
  clear HRAW
  have HRAW := HRAW2
  clear HRAW2
  have HB2 := Aside0.mk (below_step (by repeat (first | (with_reducible first | exact HB.out | apply below_alloc | apply pw_below_drewN | apply below_drew1) | exact HB.out)) hB)
  clear HB
  have HB := HB2
  clear HB2
  clear hB
  go_wp2_with fail
  refine (confidanthelp_Small.calls 30 A cA q0 sm _ (Kd.C_below HRAW.out (by repeat (first | exact Below.refl _ _ | apply below_alloc | apply pw_below_drewN | apply below_drew1))) hcA HSM.out.1).mono ?_
  rintro e w' ⟨rfl, ⟨nd, rfl⟩⟩
  cases sm with
  | false =>
    go_wp2
    go_ret
    exact ⟨rfl, (by repeat (first | (with_reducible first | exact HB.out | apply below_alloc | apply pw_below_drewN | apply below_drew1) | exact HB.out))⟩
  | true =>
    have hq020 := HSM.out.2 rfl
    clear HSM
    go_wp2_with fail
    refine (confidantseat_Lattice.calls 400 k q _ HSEAT.out).mono ?_
    rintro e w2 ⟨v, rfl, hS, hB⟩
    have HRAW2 := Aside0.mk (Kd.C_below HRAW.out (below_step (by repeat (first | exact Below.refl _ _ | apply below_alloc | apply pw_below_drewN | apply below_drew1)) hB))
    clear HRAW
    have HRAW := HRAW2
    clear HRAW2
    have HB2 := Aside0.mk (below_step (by repeat (first | (with_reducible first | exact HB.out | apply below_alloc | apply pw_below_drewN | apply below_drew1) | exact HB.out)) hB)
    clear HB
    have HB := HB2
    clear HB2
    clear hB
    obtain ⟨Aq, cq, rfl, hcq, hCq⟩ := Kd.S_reads hS
    have HQ := Aside0.mk hCq
    clear hS hCq
    have HL := Aside0.mk (Below.refl w2.heap.size w2)
    go_wp2_with fail
    refine (confidantseat_Lattice.calls 400 k q _ HSEAT.out).mono ?_
    rintro e w3 ⟨v2, rfl, hS, hB⟩
    have HL2 := Aside0.mk (below_step (by repeat (first | (with_reducible first | exact HL.out | apply below_alloc | apply pw_below_drewN | apply below_drew1) | exact HL.out)) hB)
    clear HL
    have HL := HL2
    clear HL2
    have hS := Kd.S_lower hS (below_size (w := w2) (by repeat (first | exact Below.refl _ _ | apply below_alloc | apply pw_below_drewN | apply below_drew1)))
    clear hB
    obtain ⟨gb, cb, rfl, -⟩ := Kd.S_form hS (by omega)
    have HS := Aside0.mk hS
    clear hS
    have HN20 : q.length ≤ 20 := by omega
    go_upto_if 34 with fail
    go_cut [] (fun wc => Aside0 (Below w2.heap.size w2 wc) ∧ Aside0 (TabV wc (.slice (some ⟨gb, 0, none⟩) q.length cb)))
    case first =>
      cases turn with
      | false =>
        go_wp2
        go_meet
        case rel => exact ⟨⟨(by repeat (first | (with_reducible first | exact HL.out | apply below_alloc | apply pw_below_drewN | apply below_drew1) | exact HL.out))⟩, ⟨by
          obtain ⟨_, h1, h2⟩ := Kd.S_reads' (Kd.S_below HS.out (by repeat (first | exact Below.refl _ _ | apply below_alloc | apply pw_below_drewN | apply below_drew1)))
          exact ⟨_, _, q, rfl, h1, HN20, h2⟩⟩⟩
      | true =>
        obtain ⟨i, hi⟩ := Int.eq_ofNat_of_zero_le (Int.emod_nonneg x hn0)
        have hil : i < q.length := by have := Int.emod_lt_of_pos x (show 0 < (q.length : Int) by omega); omega
        obtain ⟨j, hj⟩ := Int.eq_ofNat_of_zero_le (Int.emod_nonneg y hn0)
        have hjl : j < q.length := by have := Int.emod_lt_of_pos y (show 0 < (q.length : Int) by omega); omega
        have HI := Aside0.mk hi
        have HJ := Aside0.mk hj
        have HROW := Aside0.mk (sq_row q HSQ.out (i : Int) (by omega) (by omega))
        clear hi hj
        go_upto_region 8 with (fail)
        go_cut [17, 18] (fun v17 v18 wc => v17 = .int .i64 (i : Int) ∧ v18 = .int .i64 (j : Int) ∧ Aside0 (Below w2.heap.size w2 wc) ∧ Aside0 (Kd.S (Kd.slice 4 Kd.bool) 36 wc w2.heap.size (fun _ => True) (.slice (some ⟨gb, 0, none⟩) q.length cb) q))
        case first =>
          go_quiet (fail)
          all_goals (try go_wp2)
          all_goals go_meet
          all_goals exact ⟨by rw [HI.out], by rw [HJ.out], ⟨(by repeat (first | (with_reducible first | exact HL.out | apply below_alloc | apply pw_below_drewN | apply below_drew1) | exact HL.out))⟩, ⟨Kd.S_below HS.out (by repeat (first | exact Below.refl _ _ | apply below_alloc | apply pw_below_drewN | apply below_drew1))⟩⟩
        case rest =>
          clear HL HS HI HJ
          obtain ⟨rfl, rfl, HL, HS⟩ := hcut
          obtain ⟨g2, cap2, hx, hx2, hz, hge, hgl2, -⟩ := tab_at HS.out (i : Int) (j : Int) (by omega) (by omega) (by omega) (by rw [HROW.out]; omega)
          have HSET : Aside0 (∀ (k : Nat) (v : Bool), TabV ((wc.drewN k).setCell ⟨g2, j, none⟩ (.bool v)) (.slice (some ⟨gb, 0, none⟩) q.length cb)) := ⟨fun k v => by
            obtain ⟨g3, cap3, e1, _, _, _, _, e6⟩ := tab_at (W := wc.drewN k) (by apply Kd.S_drewN; exact HS.out) (i : Int) (j : Int) (by omega) (by omega) (by omega) (by rw [HROW.out]; omega)
            have e1' : wc.cell? ⟨gb, (i : Int).toNat, none⟩ = some (.slice (some ⟨g3, 0, none⟩) (rd_L2 q (i : Int)).length cap3) := e1
            rw [hx] at e1'
            simp only [Option.some.injEq, Value.slice.injEq, Addr.mk.injEq] at e1'
            obtain ⟨⟨rfl, _⟩, _⟩ := e1'
            have e7 := e6 v
            simp only [Int.toNat_natCast] at e7
            obtain ⟨hl, h1, h2⟩ := Kd.S_reads' e7
            have hl' : (q.set i ((rd_L2 q (i : Int)).set j v)).length = q.length := List.length_set ..
            refine ⟨some ⟨gb, 0, none⟩, cb, q.set i ((rd_L2 q (i : Int)).set j v), ?_, ?_, ?_, h2⟩
            · rw [hl']
            · rw [hl']; exact h1
            · rw [hl']; exact HN20⟩
          rw [HROW.out] at hx
          simp only [Int.toNat_natCast] at hx hx2 hz
          obtain ⟨u0, hu0⟩ : ∃ u0, at2 q (i : Int) (j : Int) = u0 := ⟨_, rfl⟩
          rw [hu0] at hx2
          have HBF : Aside0 (∀ k : Nat, Below w2.heap.size w2 ((wc.drewN k).setCell ⟨g2, j, none⟩ (.bool (!u0)))) := ⟨fun k => below_set (by repeat (first | (with_reducible first | exact HL.out | apply below_alloc | apply pw_below_drewN | apply below_drew1) | exact HL.out)) hge⟩
          clear HS HL hu0
          go_upto_region 9 with (fail)
          go_region
          all_goals
            go_wp2
            go_meet
            case rel => exact ⟨⟨by repeat (first | exact HBF.out _ | apply below_alloc | apply pw_below_drewN | apply below_drew1)⟩, ⟨(HSET.out _ _).below (by repeat (first | exact Below.refl _ _ | apply below_alloc | apply pw_below_drewN | apply below_drew1))⟩⟩
    case rest =>
      clear HL HS
      obtain ⟨HL, HT⟩ := hcut
      have HB3 := Aside0.mk (below_step (by repeat (first | (with_reducible first | exact HB.out | apply below_alloc | apply pw_below_drewN | apply below_drew1) | exact HB.out)) HL.out)
      clear HB
      have HB := HB3
      clear HB3
      have HT0 : Aside0 (TabV wc (.slice A q0.length cA)) := ⟨A, cA, q0, rfl, hcA, hq020, Kd.C_below HRAW.out HL.out⟩
      have HT1 : Aside0 (TabV wc (.slice Aq q.length cq)) := ⟨Aq, cq, q, rfl, hcq, HN20, Kd.C_below HQ.out HL.out⟩
      clear HRAW HQ HSEAT HSQ HL
      obtain ⟨wq, hwq⟩ : ∃ wq : World, wq = wc := ⟨_, rfl⟩
      go_wp2_with fail
      go_loopw [64] (fun i wr => ∃ d : Nat, d ≤ 3 ∧ i = .int .i64 (d : Int) ∧ Aside0 (Below w.heap.size w wr) ∧ Aside0 (wr.heap[wq.heap.size]? = some (.cells #[.slice A q0.length cA, .slice Aq q.length cq, .slice (some ⟨gb, 0, none⟩) q.length cb] 32 (0, 0))) ∧ Aside0 (TabV wr (.slice A q0.length cA)) ∧ Aside0 (TabV wr (.slice Aq q.length cq)) ∧ Aside0 (TabV wr (.slice (some ⟨gb, 0, none⟩) q.length cb))) (fun i _ => 3 - (intOf i).toNat)
      case atStart => exact ⟨0, by omega, rfl, ⟨(by repeat (first | (with_reducible first | exact HB.out | apply below_alloc | apply pw_below_drewN | apply below_drew1) | exact HB.out))⟩, ⟨by rw [hwq]; exact heap_new _ _⟩, ⟨HT0.out.below (by repeat (first | exact Below.refl _ _ | apply below_alloc | apply pw_below_drewN | apply below_drew1))⟩, ⟨HT1.out.below (by repeat (first | exact Below.refl _ _ | apply below_alloc | apply pw_below_drewN | apply below_drew1))⟩, ⟨HT.out.below (by repeat (first | exact Below.refl _ _ | apply below_alloc | apply pw_below_drewN | apply below_drew1))⟩⟩
      case round =>
        clear HB HT0 HT1 HT
        obtain ⟨d, hd, rfl, HB, HG, HT0, HT1, HT2⟩ := hrel
        by_cases hlt : d < 3
        · obtain ⟨v, hv, hT⟩ : ∃ v, wr.cell? ⟨wq.heap.size, d, none⟩ = some v ∧ TabV wr v := by
            rw [blk_cell HG.out]
            rcases (by omega : d = 0 ∨ d = 1 ∨ d = 2) with rfl | rfl | rfl
            · exact ⟨_, rfl, HT0.out⟩
            · exact ⟨_, rfl, HT1.out⟩
            · exact ⟨_, rfl, HT2.out⟩
          obtain ⟨Az, cz, z, rfl, hcz, hz20, hCz⟩ := hT
          rw [hwq] at hv
          have HZ := Aside0.mk hCz
          have HLT := Aside0.mk (r2_Lattice z 7000 (by decide))
          clear hCz
          go_wp2_with fail
          refine (lattice_New_calls Az cz z _ (Kd.C_below HZ.out (by repeat (first | exact Below.refl _ _ | apply below_alloc | apply pw_below_drewN | apply below_drew1))) hcz (by omega)).mono ?_
          rintro e w4 ⟨hB, h⟩
          have HZ2 := Aside0.mk (Kd.C_below HZ.out (below_step (by repeat (first | exact Below.refl _ _ | apply below_alloc | apply pw_below_drewN | apply below_drew1)) hB))
          have HG2 := Aside0.mk (blk_below (below_step (by repeat (first | exact Below.refl _ _ | apply below_alloc | apply pw_below_drewN | apply below_drew1)) hB) HG.out)
          have HT3 := Aside0.mk (And.intro (HT0.out.below (below_step (by repeat (first | exact Below.refl _ _ | apply below_alloc | apply pw_below_drewN | apply below_drew1)) hB)) (And.intro (HT1.out.below (below_step (by repeat (first | exact Below.refl _ _ | apply below_alloc | apply pw_below_drewN | apply below_drew1)) hB)) (HT2.out.below (below_step (by repeat (first | exact Below.refl _ _ | apply below_alloc | apply pw_below_drewN | apply below_drew1)) hB))))
          have HB2 := Aside0.mk (below_step (by repeat (first | (with_reducible first | exact HB.out | apply below_alloc | apply pw_below_drewN | apply below_drew1) | exact HB.out)) hB)
          clear HZ HG HT0 HT1 HT2 HB hv hB
          rcases h with ⟨hf, rfl⟩ | ⟨ht, g, hg, rfl, hI⟩
          · rw [hf] at HLT
            go_wp2_with fail
            refine (confidantref2_Lattice.calls 7000 Az cz z false _ (Kd.C_below HZ2.out (by repeat (first | exact Below.refl _ _ | apply below_alloc | apply pw_below_drewN | apply below_drew1))) hcz HLT.out).mono ?_
            rintro e w5 ⟨rfl, hB⟩
            have HG3 := Aside0.mk (blk_below (below_step (by repeat (first | exact Below.refl _ _ | apply below_alloc | apply pw_below_drewN | apply below_drew1)) hB) HG2.out)
            have HT4 := Aside0.mk (And.intro (HT3.out.1.below (below_step (by repeat (first | exact Below.refl _ _ | apply below_alloc | apply pw_below_drewN | apply below_drew1)) hB)) (And.intro (HT3.out.2.1.below (below_step (by repeat (first | exact Below.refl _ _ | apply below_alloc | apply pw_below_drewN | apply below_drew1)) hB)) (HT3.out.2.2.below (below_step (by repeat (first | exact Below.refl _ _ | apply below_alloc | apply pw_below_drewN | apply below_drew1)) hB))))
            have HB3 := Aside0.mk (below_step (by repeat (first | exact HB2.out | apply below_alloc | apply pw_below_drewN | apply below_drew1)) hB)
            clear HZ2 HG2 HT3 HB2 hB
            go_wp2
            go_roundw
            case rel => exact ⟨d + 1, by omega, by go_num, ⟨by repeat (first | exact HB3.out | apply below_alloc | apply pw_below_drewN | apply below_drew1)⟩, ⟨blk_below (by repeat (first | exact Below.refl _ _ | apply below_alloc | apply pw_below_drewN | apply below_drew1)) HG3.out⟩, ⟨HT4.out.1.below (by repeat (first | exact Below.refl _ _ | apply below_alloc | apply pw_below_drewN | apply below_drew1))⟩, ⟨HT4.out.2.1.below (by repeat (first | exact Below.refl _ _ | apply below_alloc | apply pw_below_drewN | apply below_drew1))⟩, ⟨HT4.out.2.2.below (by repeat (first | exact Below.refl _ _ | apply below_alloc | apply pw_below_drewN | apply below_drew1))⟩⟩
            case measure => simp [intOf]; omega
          · rw [ht] at HLT
            have HZP : 1 ≤ z.length := sq_pos z (latB_both z ht).1
            have HBOT := Aside0.mk (r2_Bottom z ht 400 (by decide))
            have HTOP := Aside0.mk (r2_Top z ht 400 (by decide))
            have HFL := Aside0.mk (fun a b => r2_FlowsL z ht a b 400 (by decide))
            have HJO := Aside0.mk (fun a b => r2_JoinL z ht a b 400 (by decide))
            have HME := Aside0.mk (fun a b => r2_MeetL z ht a b 400 (by decide))
            have HBE := Aside0.mk (fun a => r2_BelowL z ht a 400 (by decide))
            have HI := Aside0.mk hI
            clear hI ht hg
            generalize leqF z = fl at *
            generalize joinF z = fj at *
            generalize meetF z = fm at *
            generalize topF z z.length = top at *
            generalize botF z z.length = bot at *
            go_wp2_with fail
            refine (confidantref2_Lattice.calls 7000 Az cz z true _ (Kd.C_below HZ2.out (by repeat (first | exact Below.refl _ _ | apply below_alloc | apply pw_below_drewN | apply below_drew1))) hcz HLT.out).mono ?_
            rintro e w5 ⟨rfl, hB⟩
            have HZ3 := Aside0.mk (Kd.C_below HZ2.out (below_step (by repeat (first | exact Below.refl _ _ | apply below_alloc | apply pw_below_drewN | apply below_drew1)) hB))
            have HG3 := Aside0.mk (blk_below (below_step (by repeat (first | exact Below.refl _ _ | apply below_alloc | apply pw_below_drewN | apply below_drew1)) hB) HG2.out)
            have HT4 := Aside0.mk (And.intro (HT3.out.1.below (below_step (by repeat (first | exact Below.refl _ _ | apply below_alloc | apply pw_below_drewN | apply below_drew1)) hB)) (And.intro (HT3.out.2.1.below (below_step (by repeat (first | exact Below.refl _ _ | apply below_alloc | apply pw_below_drewN | apply below_drew1)) hB)) (HT3.out.2.2.below (below_step (by repeat (first | exact Below.refl _ _ | apply below_alloc | apply pw_below_drewN | apply below_drew1)) hB))))
            have HB3 := Aside0.mk (below_step (by repeat (first | exact HB2.out | apply below_alloc | apply pw_below_drewN | apply below_drew1)) hB)
            have HI2 := Aside0.mk (HI.out.below (below_step (by repeat (first | exact Below.refl _ _ | apply below_alloc | apply pw_below_drewN | apply below_drew1)) hB))
            clear HZ2 HG2 HT3 HB2 HI hB
            have HZ2 := HZ3
            have HG2 := HG3
            have HT3 := HT4
            have HB2 := HB3
            have HI := HI2
            clear HZ3 HG3 HT4 HB3 HI2
            go_wp2_with fail
            refine (lattice_Len_calls g z.length fl fj fm top bot  _ (HI.out.below (by repeat (first | exact Below.refl _ _ | apply below_alloc | apply pw_below_drewN | apply below_drew1)))).mono ?_
            rintro e w' ⟨rfl, ⟨nd, rfl⟩⟩
            go_wp2_with fail
            refine (lattice_Bottom_calls g z.length fl fj fm top bot  _ (HI.out.below (by repeat (first | exact Below.refl _ _ | apply below_alloc | apply pw_below_drewN | apply below_drew1)))).mono ?_
            rintro e w' ⟨rfl, ⟨nd, rfl⟩⟩
            go_wp2_with fail
            refine (confidantref2_Bottom.calls 400 Az cz z bot _ (Kd.C_below HZ2.out (by repeat (first | exact Below.refl _ _ | apply below_alloc | apply pw_below_drewN | apply below_drew1))) hcz HBOT.out).mono ?_
            rintro e w6 ⟨rfl, hB⟩
            have HZ3 := Aside0.mk (Kd.C_below HZ2.out (below_step (by repeat (first | exact Below.refl _ _ | apply below_alloc | apply pw_below_drewN | apply below_drew1)) hB))
            have HG3 := Aside0.mk (blk_below (below_step (by repeat (first | exact Below.refl _ _ | apply below_alloc | apply pw_below_drewN | apply below_drew1)) hB) HG2.out)
            have HT4 := Aside0.mk (And.intro (HT3.out.1.below (below_step (by repeat (first | exact Below.refl _ _ | apply below_alloc | apply pw_below_drewN | apply below_drew1)) hB)) (And.intro (HT3.out.2.1.below (below_step (by repeat (first | exact Below.refl _ _ | apply below_alloc | apply pw_below_drewN | apply below_drew1)) hB)) (HT3.out.2.2.below (below_step (by repeat (first | exact Below.refl _ _ | apply below_alloc | apply pw_below_drewN | apply below_drew1)) hB))))
            have HB3 := Aside0.mk (below_step (by repeat (first | exact HB2.out | apply below_alloc | apply pw_below_drewN | apply below_drew1)) hB)
            have HI2 := Aside0.mk (HI.out.below (below_step (by repeat (first | exact Below.refl _ _ | apply below_alloc | apply pw_below_drewN | apply below_drew1)) hB))
            clear HZ2 HG2 HT3 HB2 HI hB
            have HZ2 := HZ3
            have HG2 := HG3
            have HT3 := HT4
            have HB2 := HB3
            have HI := HI2
            clear HZ3 HG3 HT4 HB3 HI2
            go_wp2_with fail
            refine (lattice_Top_calls g z.length fl fj fm top bot  _ (HI.out.below (by repeat (first | exact Below.refl _ _ | apply below_alloc | apply pw_below_drewN | apply below_drew1)))).mono ?_
            rintro e w' ⟨rfl, ⟨nd, rfl⟩⟩
            go_wp2_with fail
            refine (confidantref2_Top.calls 400 Az cz z top _ (Kd.C_below HZ2.out (by repeat (first | exact Below.refl _ _ | apply below_alloc | apply pw_below_drewN | apply below_drew1))) hcz HTOP.out).mono ?_
            rintro e w7 ⟨rfl, hB⟩
            have HZ3 := Aside0.mk (Kd.C_below HZ2.out (below_step (by repeat (first | exact Below.refl _ _ | apply below_alloc | apply pw_below_drewN | apply below_drew1)) hB))
            have HG3 := Aside0.mk (blk_below (below_step (by repeat (first | exact Below.refl _ _ | apply below_alloc | apply pw_below_drewN | apply below_drew1)) hB) HG2.out)
            have HT4 := Aside0.mk (And.intro (HT3.out.1.below (below_step (by repeat (first | exact Below.refl _ _ | apply below_alloc | apply pw_below_drewN | apply below_drew1)) hB)) (And.intro (HT3.out.2.1.below (below_step (by repeat (first | exact Below.refl _ _ | apply below_alloc | apply pw_below_drewN | apply below_drew1)) hB)) (HT3.out.2.2.below (below_step (by repeat (first | exact Below.refl _ _ | apply below_alloc | apply pw_below_drewN | apply below_drew1)) hB))))
            have HB3 := Aside0.mk (below_step (by repeat (first | exact HB2.out | apply below_alloc | apply pw_below_drewN | apply below_drew1)) hB)
            have HI2 := Aside0.mk (HI.out.below (below_step (by repeat (first | exact Below.refl _ _ | apply below_alloc | apply pw_below_drewN | apply below_drew1)) hB))
            clear HZ2 HG2 HT3 HB2 HI hB
            have HZ2 := HZ3
            have HG2 := HG3
            have HT3 := HT4
            have HB2 := HB3
            have HI := HI2
            clear HZ3 HG3 HT4 HB3 HI2
            go_upto_region 19 with (fail)
            go_cut [64, 133, 134, 135] from 64 to 195 (fun v64 v133 v134 v135 wc => v64 = .int .i64 (d : Int) ∧ v134 = .int .i64 3 ∧ v135 = .int .i64 0 ∧ ∃ (gp : Nat) (p1 p2 p3 p4 : Int), v133 = .slice (some ⟨gp, 0, none⟩) 3 3 ∧ Aside0 (wc.heap[gp]? = some (.cells #[.int .i64 a, .int .i64 b, .int .i64 p1, .int .i64 p2, .int .i64 p3, .int .i64 p4] 38 (0, 0))) ∧ Aside0 (Below w7.heap.size w7 wc))
            case first =>
              have hz0 : (z.length : Int) ≠ 0 := by omega
              go_region
              all_goals
                go_wp2
                go_meet
                case rel => exact ⟨rfl, rfl, rfl, _, _, _, _, _, rfl, ⟨heap_new _ _⟩, ⟨(by repeat (first | exact Below.refl _ _ | apply below_alloc | apply pw_below_drewN | apply below_drew1))⟩⟩
            case rest =>
              obtain ⟨rfl, rfl, rfl, gp, p1, p2, p3, p4, rfl, HP, HL⟩ := hcut
              have hB := HL.out
              clear HL
              have HZ3 := Aside0.mk (Kd.C_below HZ2.out (below_step (by repeat (first | exact Below.refl _ _ | apply below_alloc | apply pw_below_drewN | apply below_drew1)) hB))
              have HG3 := Aside0.mk (blk_below (below_step (by repeat (first | exact Below.refl _ _ | apply below_alloc | apply pw_below_drewN | apply below_drew1)) hB) HG2.out)
              have HT4 := Aside0.mk (And.intro (HT3.out.1.below (below_step (by repeat (first | exact Below.refl _ _ | apply below_alloc | apply pw_below_drewN | apply below_drew1)) hB)) (And.intro (HT3.out.2.1.below (below_step (by repeat (first | exact Below.refl _ _ | apply below_alloc | apply pw_below_drewN | apply below_drew1)) hB)) (HT3.out.2.2.below (below_step (by repeat (first | exact Below.refl _ _ | apply below_alloc | apply pw_below_drewN | apply below_drew1)) hB))))
              have HB3 := Aside0.mk (below_step (by repeat (first | exact HB2.out | apply below_alloc | apply pw_below_drewN | apply below_drew1)) hB)
              have HI2 := Aside0.mk (HI.out.below (below_step (by repeat (first | exact Below.refl _ _ | apply below_alloc | apply pw_below_drewN | apply below_drew1)) hB))
              clear HZ2 HG2 HT3 HB2 HI hB
              have HZ2 := HZ3
              have HG2 := HG3
              have HT3 := HT4
              have HB2 := HB3
              have HI := HI2
              clear HZ3 HG3 HT4 HB3 HI2
              go_wp2_with fail
              go_loopw [135] (fun i wr => ∃ m : Nat, m ≤ 3 ∧ i = .int .i64 (m : Int) ∧ Aside0 (Below w.heap.size w wr) ∧ Aside0 (wr.heap[wq.heap.size]? = some (.cells #[.slice A q0.length cA, .slice Aq q.length cq, .slice (some ⟨gb, 0, none⟩) q.length cb] 32 (0, 0))) ∧ Aside0 (TabV wr (.slice A q0.length cA) ∧ TabV wr (.slice Aq q.length cq) ∧ TabV wr (.slice (some ⟨gb, 0, none⟩) q.length cb)) ∧ Aside0 (Kd.C (Kd.slice 4 Kd.bool) wr Az z.length z) ∧ Aside0 (IsLat wr g z.length fl fj fm top bot) ∧ Aside0 (wr.heap[gp]? = some (.cells #[.int .i64 a, .int .i64 b, .int .i64 p1, .int .i64 p2, .int .i64 p3, .int .i64 p4] 38 (0, 0)))) (fun i _ => 3 - (intOf i).toNat)
              case atStart => exact ⟨0, by omega, rfl, ⟨HB2.out⟩, ⟨HG2.out⟩, ⟨HT3.out⟩, ⟨HZ2.out⟩, ⟨HI.out⟩, ⟨HP.out⟩⟩
              case round =>
                clear HB2 HG2 HT3 HZ2 HI HP
                obtain ⟨m, hm, rfl, HB2, HG2, HT3, HZ2, HI, HP⟩ := hrel
                by_cases hlm : m < 3
                · obtain ⟨X, Y, hX, hY⟩ : ∃ X Y : Int, wr.cell? ⟨gp, m * 2, none⟩ = some (.int .i64 X) ∧ wr.cell? ⟨gp, m * 2 + 1, none⟩ = some (.int .i64 Y) := by
                    rw [blk_cell HP.out, blk_cell HP.out]
                    rcases (by omega : m = 0 ∨ m = 1 ∨ m = 2) with rfl | rfl | rfl
                    · exact ⟨_, _, rfl, rfl⟩
                    · exact ⟨_, _, rfl, rfl⟩
                    · exact ⟨_, _, rfl, rfl⟩
                  go_upto_region 22 with (fail)
                  go_cut [135, 193] from 135 to 194 (fun v135 v193 wc => v135 = .int .i64 (m : Int) ∧ v193 = .bool false ∧ Aside0 (Below wr.heap.size wr wc))
                  case first =>
                    have HPS := Aside0.mk (PS_start wr X Y)
                    go_region_held3 (fun w' => Below wr.heap.size wr w' ∧ w'.heap[wr.heap.size]? = some (.cells #[.int .i64 X, .int .i64 Y] 38 (0, 0)) ∧ w'.cell? ⟨wr.heap.size, 0, none⟩ = some (.int .i64 X) ∧ w'.cell? ⟨wr.heap.size, 1, none⟩ = some (.int .i64 Y)) (refine PS_as HPS.out ?_ ?_ ?_ ?_ <;> rfl)
                      (first
                        | (go_at_call 52; refine (lattice_Flows_calls g z.length fl fj fm top bot X Y _ (HI.out.below (by refine PSB_as HPS.out ?_ ?_ ?_ ?_ <;> rfl))).mono ?_; rintro e w' ⟨rfl, ⟨nd, rfl⟩⟩; have HPS2 := Aside0.mk (PS_drawn HPS.out nd); clear HPS; have HPS := HPS2; clear HPS2)
                        | (go_at_call 53; refine (confidantref2_Flows.calls 400 Az cz z X Y _ _ (Kd.C_below HZ2.out (by refine PSB_as HPS.out ?_ ?_ ?_ ?_ <;> rfl)) hcz (HFL.out X Y)).mono ?_; rintro e w' ⟨rfl, ⟨nd, rfl⟩⟩; have HPS2 := Aside0.mk (PS_drawn HPS.out nd); clear HPS; have HPS := HPS2; clear HPS2)
                        | (go_at_call 54; refine (lattice_Join_calls g z.length fl fj fm top bot X Y _ (HI.out.below (by refine PSB_as HPS.out ?_ ?_ ?_ ?_ <;> rfl))).mono ?_; rintro e w' ⟨rfl, ⟨nd, rfl⟩⟩; have HPS2 := Aside0.mk (PS_drawn HPS.out nd); clear HPS; have HPS := HPS2; clear HPS2)
                        | (go_at_call 55; refine (confidantref2_Join.calls 400 Az cz z X Y _ _ (Kd.C_below HZ2.out (by refine PSB_as HPS.out ?_ ?_ ?_ ?_ <;> rfl)) hcz (HJO.out X Y)).mono ?_; rintro e w' ⟨rfl, hB⟩; have HPS2 := Aside0.mk (PS_belowas HPS.out hB rfl rfl rfl rfl); clear HPS; have HPS := HPS2; clear HPS2; clear hB)
                        | (go_at_call 56; refine (lattice_Meet_calls g z.length fl fj fm top bot X Y _ (HI.out.below (by refine PSB_as HPS.out ?_ ?_ ?_ ?_ <;> rfl))).mono ?_; rintro e w' ⟨rfl, ⟨nd, rfl⟩⟩; have HPS2 := Aside0.mk (PS_drawn HPS.out nd); clear HPS; have HPS := HPS2; clear HPS2)
                        | (go_at_call 57; refine (confidantref2_Meet.calls 400 Az cz z X Y _ _ (Kd.C_below HZ2.out (by refine PSB_as HPS.out ?_ ?_ ?_ ?_ <;> rfl)) hcz (HME.out X Y)).mono ?_; rintro e w' ⟨rfl, hB⟩; have HPS2 := Aside0.mk (PS_belowas HPS.out hB rfl rfl rfl rfl); clear HPS; have HPS := HPS2; clear HPS2; clear hB)
                        | (go_at_call 58; refine (lattice_Below_calls g z.length fl fj fm top bot X _ (HI.out.below (by refine PSB_as HPS.out ?_ ?_ ?_ ?_ <;> rfl)) (by omega)).mono ?_; rintro e w' ⟨v, rfl, hR, hB⟩; have HPS2 := Aside0.mk (PS_belowas HPS.out hB rfl rfl rfl rfl); clear HPS; have HPS := HPS2; clear HPS2; obtain ⟨A1, c1, rfl, hc1, hC1⟩ := Kd.R_reads hR; clear hR hB)
                        | (go_at_call 59; refine (confidantref2_Below.calls 400 Az cz z X _ _ (Kd.C_below HZ2.out (by refine PSB_as HPS.out ?_ ?_ ?_ ?_ <;> rfl)) hcz (HBE.out X)).mono ?_; rintro e w' ⟨v, rfl, hR, hB⟩; have HPS2 := Aside0.mk (PS_belowas HPS.out hB rfl rfl rfl rfl); clear HPS; have HPS := HPS2; clear HPS2; obtain ⟨A2, c2, rfl, hc2, hC2⟩ := Kd.R_reads hR; have hC3 := Kd.C_below hC1 hB; clear hR hB hC1)
                        | (go_at_call 20; refine (confidanthelp_Ints.calls 400 A1 c1 _ A2 c2 _ true _ hC3 hc1 hC2 hc2 (r2_Ints _ (Nat.le_trans (pick_len_le _ _) (by omega)) 400 (Nat.lt_of_le_of_lt (pick_len_le _ _) (by omega)))).mono ?_; rintro e w' ⟨rfl, ⟨nd, rfl⟩⟩; have HPS2 := Aside0.mk (PS_drawn HPS.out nd); clear HPS; have HPS := HPS2; clear HPS2))
                    all_goals
                      go_wp2
                      go_meet
                      case rel => exact ⟨rfl, rfl, ⟨by refine PSB_as HPS.out ?_ ?_ ?_ ?_ <;> rfl⟩⟩
                  case rest =>
                    obtain ⟨rfl, rfl, HL⟩ := hcut
                    have hB := HL.out
                    have HP2 := Aside0.mk (blk_below hB HP.out)
                    clear HL HP
                    have HZ3 := Aside0.mk (Kd.C_below HZ2.out (below_step (by repeat (first | exact Below.refl _ _ | apply below_alloc | apply pw_below_drewN | apply below_drew1)) hB))
                    have HG3 := Aside0.mk (blk_below (below_step (by repeat (first | exact Below.refl _ _ | apply below_alloc | apply pw_below_drewN | apply below_drew1)) hB) HG2.out)
                    have HT4 := Aside0.mk (And.intro (HT3.out.1.below (below_step (by repeat (first | exact Below.refl _ _ | apply below_alloc | apply pw_below_drewN | apply below_drew1)) hB)) (And.intro (HT3.out.2.1.below (below_step (by repeat (first | exact Below.refl _ _ | apply below_alloc | apply pw_below_drewN | apply below_drew1)) hB)) (HT3.out.2.2.below (below_step (by repeat (first | exact Below.refl _ _ | apply below_alloc | apply pw_below_drewN | apply below_drew1)) hB))))
                    have HB3 := Aside0.mk (below_step (by repeat (first | exact HB2.out | apply below_alloc | apply pw_below_drewN | apply below_drew1)) hB)
                    have HI2 := Aside0.mk (HI.out.below (below_step (by repeat (first | exact Below.refl _ _ | apply below_alloc | apply pw_below_drewN | apply below_drew1)) hB))
                    clear HZ2 HG2 HT3 HB2 HI hB
                    have HZ2 := HZ3
                    have HG2 := HG3
                    have HT3 := HT4
                    have HB2 := HB3
                    have HI := HI2
                    clear HZ3 HG3 HT4 HB3 HI2
                    go_wp2
                    go_roundw
                    case rel => exact ⟨m + 1, by omega, by go_num, ⟨(by repeat (first | exact HB2.out | apply below_alloc | apply pw_below_drewN | apply below_drew1))⟩, ⟨blk_below (by repeat (first | exact Below.refl _ _ | apply below_alloc | apply pw_below_drewN | apply below_drew1)) HG2.out⟩, ⟨HT3.out.1.below (by repeat (first | exact Below.refl _ _ | apply below_alloc | apply pw_below_drewN | apply below_drew1)), HT3.out.2.1.below (by repeat (first | exact Below.refl _ _ | apply below_alloc | apply pw_below_drewN | apply below_drew1)), HT3.out.2.2.below (by repeat (first | exact Below.refl _ _ | apply below_alloc | apply pw_below_drewN | apply below_drew1))⟩, ⟨Kd.C_below HZ2.out (by repeat (first | exact Below.refl _ _ | apply below_alloc | apply pw_below_drewN | apply below_drew1))⟩, ⟨HI.out.below (by repeat (first | exact Below.refl _ _ | apply below_alloc | apply pw_below_drewN | apply below_drew1))⟩, ⟨blk_below (by repeat (first | exact Below.refl _ _ | apply below_alloc | apply pw_below_drewN | apply below_drew1)) HP2.out⟩⟩
                    case measure => simp [intOf]; omega
                · obtain rfl : m = 3 := by omega
                  go_wp2
                  go_roundw
                  case rel => exact ⟨d + 1, by omega, by go_num, ⟨by repeat (first | exact HB2.out | apply below_alloc | apply pw_below_drewN | apply below_drew1)⟩, ⟨blk_below (by repeat (first | exact Below.refl _ _ | apply below_alloc | apply pw_below_drewN | apply below_drew1)) HG2.out⟩, ⟨HT3.out.1.below (by repeat (first | exact Below.refl _ _ | apply below_alloc | apply pw_below_drewN | apply below_drew1))⟩, ⟨HT3.out.2.1.below (by repeat (first | exact Below.refl _ _ | apply below_alloc | apply pw_below_drewN | apply below_drew1))⟩, ⟨HT3.out.2.2.below (by repeat (first | exact Below.refl _ _ | apply below_alloc | apply pw_below_drewN | apply below_drew1))⟩⟩
                  case measure => simp [intOf]; omega
        · obtain rfl : d = 3 := by omega
          go_wp2
          go_ret
          exact ⟨rfl, (by repeat (first | (with_reducible first | exact HB.out | apply below_alloc | apply pw_below_drewN | apply below_drew1) | exact HB.out))⟩
theorem lat_u8 {a : Int} (h : (Lit.int .u8 a).wf = true) : 0 ≤ a ∧ a < 256 := by
  have h1 : IntKind.u8.min = 0 := rfl
  have h2 : IntKind.u8.max = 255 := rfl
  simp [Lit.wf] at h; omega

theorem lat_i64 {a : Int} (h : (Lit.int .i64 a).wf = true) : -9223372036854775808 ≤ a ∧ a ≤ 9223372036854775807 := by
  have h1 : IntKind.i64.min = -9223372036854775808 := rfl
  have h2 : IntKind.i64.max = 9223372036854775807 := rfl
  simp [Lit.wf] at h; omega
theorem confidantlaw3_LatticeTells.row (A : Option Addr) (len cap : Nat) (q0 : List (List Bool)) (k x y : Int) (turn : Bool) (a b : Int) (w : World) (hC : Kd.C (Kd.slice 4 Kd.bool) w A len q0) (hcA : len ≤ cap) (hk : (Lit.int .u8 k).wf = true) (hx : (Lit.int .u8 x).wf = true) (hy : (Lit.int .u8 y).wf = true) (ha : (Lit.int .i64 a).wf = true) (hb : (Lit.int .i64 b).wf = true) :
    Calls Try.prog 8 #[.slice A len cap, .int .u8 k, .int .u8 x, .int .u8 y, .bool turn, .int .i64 a, .int .i64 b] w fun e w' => e = .returned (.bool true) ∧ Below w.heap.size w w' := by
  obtain rfl : q0.length = len := hC.1
  exact confidantlaw3_LatticeTells.calls A cap q0 k x y turn a b w hC hcA (lat_u8 hk) (lat_u8 hx) (lat_u8 hy) (lat_i64 ha) (lat_i64 hb)

end Go.Proofs.Ytpeeneaapmmciaa.PLtells
