-- Printed by wip/tools/oprint.py, a program of this session.
import Derived.Test.YtpeeneaapmmciaaPOtellsx0
import Derived.Test.YtpeeneaapmmciaaPOtellsx1
import Derived.Test.YtpeeneaapmmciaaPOtellsx2
import Derived.Test.YtpeeneaapmmciaaPOtellsx3
import Derived.Test.YtpeeneaapmmciaaPOtellsx4
import Derived.Test.YtpeeneaapmmciaaPOtellsx5
import Derived.Test.YtpeeneaapmmciaaPOtellsx6
import Derived.Test.YtpeeneaapmmciaaPOtellsx7
import Derived.Test.YtpeeneaapmmciaaPOtellsx8
namespace Go.Proofs.Ytpeeneaapmmciaa.POtells
open Go.RowKit Go.Proofs.YtpeeneaapmmciaaW.PrintWords Go.Proofs.YtpeeneaapmmciaaW.PrintLast Go.Proofs.YtpeeneaapmmciaaW.PrintMore
attribute [local go_sem] max2_int min2_int max_two min_two max_three min_three max_four min_four   -- for this text's walks alone
set_option linter.unusedVariables false
set_option linter.unusedSimpArgs false

/-! ### confidantlaw2_OrderTells: function 5 -/
def upL (q : List (List Bool)) (a b : Int) : List Int := pick q.length fun c => at2 q a c && at2 q b c
def dnL (q : List (List Bool)) (a b : Int) : List Int := pick q.length fun c => at2 q c a && at2 q c b
def lstB (q : List (List Bool)) (a b : Int) : Int × Bool := firstB (upL q a b) fun x y => at2 q x y
def gstB (q : List (List Bool)) (a b : Int) : Int × Bool := firstB (dnL q a b) fun x y => at2 q y x
def reflB (q : List (List Bool)) : Bool := sqB q && allB q.length (fun a _ => at2 q a a)
def antiB (q : List (List Bool)) : Bool := sqB q && allB q.length (fun a b => a == b || (!at2 q a b || !at2 q b a))
def tranB (q : List (List Bool)) : Bool := sqB q && allB q.length (fun a b => trB q a b)
theorem r2_wrap (i n : Nat) (h : i < n) (hn : n ≤ 4611686018427387904) : wrap64 ((i : Int) + 1) = ((i + 1 : Nat) : Int) := by unfold wrap64; omega
theorem r2_rd (q : List (List Bool)) (i : Nat) (h : i < q.length) : rd_L2 q (i : Int) = q[i] := by unfold rd_L2; simp [h]
theorem r2_rdi (l : List Int) (i : Nat) (h : i < l.length) : rd l (i : Int) = l[i] := by unfold rd; simp [h]
theorem all_shift (m i : Nat) (g : Nat → Bool) : ((List.range (m + 1)).all fun x => g (i + x)) = (g i && (List.range m).all fun x => g (i + 1 + x)) := by
  rw [List.range_succ_eq_map, List.all_cons, List.all_map]
  simp only [Nat.add_zero]
  congr 1
  congr 1
  funext x
  show g (i + (x + 1)) = g (i + 1 + x)
  congr 1
  omega
theorem r2_sq_l0 (q : List (List Bool)) (hn : q.length ≤ 16) : ∀ (m i k : Nat), i + m = q.length → m < k → confidantref2_Square.l0 k q (i : Int) = some ((List.range m).all fun x => decide ((rd_L2 q ((i + x : Nat) : Int)).length = q.length)) := by
  intro m
  induction m with
  | zero =>
    intro i k hi hk
    obtain ⟨k, rfl⟩ := Nat.exists_eq_succ_of_ne_zero (by omega : k ≠ 0)
    unfold confidantref2_Square.l0
    rw [if_neg (by omega)]
    rfl
  | succ m ih =>
    intro i k hi hk
    obtain ⟨k, rfl⟩ := Nat.exists_eq_succ_of_ne_zero (by omega : k ≠ 0)
    unfold confidantref2_Square.l0
    rw [if_pos (by omega), if_pos (by omega), all_shift m i (fun x => decide ((rd_L2 q (x : Int)).length = q.length))]
    by_cases h : (rd_L2 q (i : Int)).length = q.length
    · rw [if_pos (by omega), r2_wrap i 16 (by omega) (by decide), ih (i + 1) k (by omega) (by omega), decide_eq_true h, Bool.true_and]
    · rw [if_neg (by omega), decide_eq_false h, Bool.false_and]
theorem all_rows (q : List (List Bool)) (p : List Bool → Bool) : ((List.range q.length).all fun x => p (rd_L2 q ((0 + x : Nat) : Int))) = q.all p := by
  rw [Bool.eq_iff_iff, List.all_eq_true, List.all_eq_true]
  constructor
  · intro H r hr
    obtain ⟨i, hi, rfl⟩ := List.mem_iff_getElem.1 hr
    have := H i (List.mem_range.2 hi)
    rw [Nat.zero_add, r2_rd q i hi] at this
    exact this
  · intro H x hx
    have hx := List.mem_range.1 hx
    rw [Nat.zero_add, r2_rd q x hx]
    exact H _ (List.getElem_mem hx)
theorem r2_fuel (n k : Nat) (h : n ≤ k) : ∃ k', k = k' + n := ⟨k - n, by omega⟩
theorem r2_Square (q : List (List Bool)) (k : Nat) (hk : 20 ≤ k) : confidantref2_Square.f k q = some (sqB q) := by
  obtain ⟨k, rfl⟩ := r2_fuel 1 k (by omega)
  unfold confidantref2_Square.f sqB
  by_cases h1 : q.length < 1
  · rw [if_pos (by omega), decide_eq_false (by omega)]
    simp [confidantref2_Square.j0]
  · rw [if_neg (by omega), decide_eq_true (by omega : 1 ≤ q.length)]
    simp only [confidantref2_Square.j0]
    by_cases h2 : q.length > 16
    · rw [if_pos (by simp; omega), decide_eq_false (by omega)]; rfl
    · rw [if_neg (by simp; omega), decide_eq_true (by omega)]
      have h := r2_sq_l0 q (by omega) q.length 0 k (by omega) (by omega)
      rw [all_rows q (fun r => decide (r.length = q.length))] at h
      rw [Bool.true_and, Bool.true_and]
      exact h
theorem all_range0 (n : Nat) (g : Nat → Bool) : ((List.range n).all fun x => g (0 + x)) = (List.range n).all g := by
  congr 1; funext x; rw [Nat.zero_add]
theorem r2_refl_l0 (q : List (List Bool)) (hs : sqB q = true) : ∀ (m i k : Nat), i + m = q.length → 2 * m + 30 ≤ k → confidantref2_Reflexive.l0 k q (i : Int) = some ((List.range m).all fun x => at2 q ((i + x : Nat) : Int) ((i + x : Nat) : Int)) := by
  have h16 := sq_len q hs
  intro m
  induction m with
  | zero =>
    intro i k hi hk
    obtain ⟨k, rfl⟩ := r2_fuel 2 k (by omega)
    rw [confidantref2_Reflexive.l0, if_neg (by omega), confidantref2_Reflexive.j1, if_neg (by decide), r2_Square q k (by omega), hs]
    rfl
  | succ m ih =>
    intro i k hi hk
    obtain ⟨k, rfl⟩ := r2_fuel 2 k (by omega)
    rw [confidantref2_Reflexive.l0, if_pos (by omega), r2_Square q (k + 1) (by omega), hs, Option.bind_some, confidantref2_Reflexive.j1, if_pos rfl, if_pos (by omega), if_pos (by omega), if_pos (by rw [sq_row q hs _ (by omega) (by omega)]; omega), all_shift m i (fun x => at2 q (x : Int) (x : Int))]
    by_cases h : at2 q (i : Int) (i : Int) = true
    · have h' : rdOf false (rd_L2 q (i : Int)) (i : Int) = true := h
      rw [if_pos h', r2_wrap i 16 (by omega) (by decide), ih (i + 1) k (by omega) (by omega), h, Bool.true_and]
    · have h' : ¬ rdOf false (rd_L2 q (i : Int)) (i : Int) = true := h
      rw [if_neg h', Bool.eq_false_iff.2 h, Bool.false_and]
theorem r2_Reflexive (q : List (List Bool)) (k : Nat) (hk : 80 ≤ k) : confidantref2_Reflexive.f k q = some (reflB q) := by
  unfold confidantref2_Reflexive.f reflB
  by_cases hs : sqB q = true
  · have h16 := sq_len q hs
    have h := r2_refl_l0 q hs q.length 0 k (by omega) (by omega)
    rw [all_range0 q.length (fun x => at2 q (x : Int) (x : Int))] at h
    refine Eq.trans h (congrArg some ?_)
    rw [hs, Bool.true_and, Bool.eq_iff_iff]
    unfold allB
    simp only [List.all_eq_true, List.mem_range]
    exact ⟨fun H x hx y _ => H x hx, fun H x hx => H x hx x hx⟩
  · obtain ⟨k, rfl⟩ := r2_fuel 2 k (by omega)
    rw [Bool.eq_false_iff.2 hs, Bool.false_and, confidantref2_Reflexive.l0, r2_Square q (k + 1) (by omega), Bool.eq_false_iff.2 hs, Option.bind_some, ite_self, confidantref2_Reflexive.j1, if_neg (by decide), r2_Square q k (by omega), Bool.eq_false_iff.2 hs]
    rfl
theorem r2_anti_l1 (q : List (List Bool)) (hs : sqB q = true) (a : Nat) (ha : a < q.length) (R : Bool) (K : Nat) (hR : ∀ k, K ≤ k → confidantref2_Antisymmetric.l0 k q ((a + 1 : Nat) : Int) = some R) : ∀ (m i k : Nat), i + m = a → m + 1 + K ≤ k → confidantref2_Antisymmetric.l1 k q (a : Int) (i : Int) = some (((List.range m).all fun x => !(at2 q (a : Int) ((i + x : Nat) : Int) && at2 q ((i + x : Nat) : Int) (a : Int))) && R) := by
  have h16 := sq_len q hs
  intro m
  induction m with
  | zero =>
    intro i k hi hk
    obtain ⟨k, rfl⟩ := r2_fuel 1 k (by omega)
    rw [confidantref2_Antisymmetric.l1, if_neg (by omega), r2_wrap a 16 (by omega) (by decide), hR k (by omega)]
    rfl
  | succ m ih =>
    intro i k hi hk
    obtain ⟨k, rfl⟩ := r2_fuel 1 k (by omega)
    rw [confidantref2_Antisymmetric.l1, if_pos (by omega), if_pos (by omega), if_pos (by omega), if_pos (by omega), if_pos (by rw [sq_row q hs _ (by omega) (by omega)]; omega), all_shift m i (fun x => !(at2 q (a : Int) (x : Int) && at2 q (x : Int) (a : Int)))]
    rw [r2_wrap i 16 (by omega) (by decide), ih (i + 1) k (by omega) (by omega)]
    by_cases h : at2 q (a : Int) (i : Int) = true
    · have h' : rdOf false (rd_L2 q (a : Int)) (i : Int) = true := h
      rw [if_pos h', if_pos (by omega), if_pos (by rw [sq_row q hs _ (by omega) (by omega)]; omega)]
      by_cases h2 : at2 q (i : Int) (a : Int) = true
      · have h2' : rdOf false (rd_L2 q (i : Int)) (a : Int) = true := h2
        rw [if_pos h2', h, h2]; rfl
      · have h2' : ¬ rdOf false (rd_L2 q (i : Int)) (a : Int) = true := h2
        rw [if_neg h2', h, Bool.eq_false_iff.2 h2]; rfl
    · have h' : ¬ rdOf false (rd_L2 q (a : Int)) (i : Int) = true := h
      rw [if_neg h', Bool.eq_false_iff.2 h]; rfl
theorem r2_anti_l0 (q : List (List Bool)) (hs : sqB q = true) : ∀ (m i k : Nat), i + m = q.length → 20 * m + 30 ≤ k → confidantref2_Antisymmetric.l0 k q (i : Int) = some ((List.range m).all fun x => (List.range (i + x)).all fun y => !(at2 q ((i + x : Nat) : Int) (y : Int) && at2 q (y : Int) ((i + x : Nat) : Int))) := by
  have h16 := sq_len q hs
  intro m
  induction m with
  | zero =>
    intro i k hi hk
    obtain ⟨k, rfl⟩ := r2_fuel 2 k (by omega)
    rw [confidantref2_Antisymmetric.l0, if_neg (by omega), confidantref2_Antisymmetric.j1, if_neg (by decide), r2_Square q k (by omega), hs]
    rfl
  | succ m ih =>
    intro i k hi hk
    obtain ⟨k, rfl⟩ := r2_fuel 2 k (by omega)
    rw [confidantref2_Antisymmetric.l0, if_pos (by omega), r2_Square q (k + 1) (by omega), hs, Option.bind_some, confidantref2_Antisymmetric.j1, if_pos rfl, all_shift m i (fun x => (List.range x).all fun y => !(at2 q (x : Int) (y : Int) && at2 q (y : Int) (x : Int)))]
    have h := r2_anti_l1 q hs i (by omega) _ (20 * m + 30) (fun k hk => ih (i + 1) k (by omega) hk) i 0 k (by omega) (by omega)
    rw [all_range0 i (fun y => !(at2 q (i : Int) (y : Int) && at2 q (y : Int) (i : Int)))] at h
    exact h
theorem r2_Antisymmetric (q : List (List Bool)) (k : Nat) (hk : 400 ≤ k) : confidantref2_Antisymmetric.f k q = some (antiB q) := by
  unfold confidantref2_Antisymmetric.f antiB
  by_cases hs : sqB q = true
  · have h16 := sq_len q hs
    have h := r2_anti_l0 q hs q.length 0 k (by omega) (by omega)
    rw [all_range0 q.length (fun x => (List.range x).all fun y => !(at2 q (x : Int) (y : Int) && at2 q (y : Int) (x : Int)))] at h
    refine Eq.trans h (congrArg some ?_)
    rw [hs, Bool.true_and, Bool.eq_iff_iff]
    unfold allB
    simp only [List.all_eq_true, List.mem_range, Bool.or_eq_true, beq_iff_eq, Bool.not_eq_true', Bool.and_eq_false_iff]
    constructor
    · intro H x hx y hy
      rcases Nat.lt_trichotomy x y with h | h | h
      · exact .inr ((H y hy x h).symm)
      · exact .inl (by rw [h])
      · exact .inr (H x hx y h)
    · intro H x hx y hy
      rcases H x hx y (by omega) with h | h
      · omega
      · exact h
  · obtain ⟨k, rfl⟩ := r2_fuel 2 k (by omega)
    rw [Bool.eq_false_iff.2 hs, Bool.false_and, confidantref2_Antisymmetric.l0, r2_Square q (k + 1) (by omega), Bool.eq_false_iff.2 hs, Option.bind_some, ite_self, confidantref2_Antisymmetric.j1, if_neg (by decide), r2_Square q k (by omega), Bool.eq_false_iff.2 hs]
    rfl
theorem r2_tran_l2 (q : List (List Bool)) (hs : sqB q = true) (a b : Nat) (ha : a < q.length) (hb : b < q.length) (R : Bool) (K : Nat) (hR : ∀ k, K ≤ k → confidantref2_Transitive.l1 k q (a : Int) ((b + 1 : Nat) : Int) = some R) : ∀ (m i k : Nat), i + m = q.length → m + 1 + K ≤ k → confidantref2_Transitive.l2 k q (a : Int) (b : Int) (i : Int) = some (((List.range m).all fun x => !(at2 q (a : Int) (b : Int) && (at2 q (b : Int) ((i + x : Nat) : Int) && !at2 q (a : Int) ((i + x : Nat) : Int)))) && R) := by
  have h16 := sq_len q hs
  intro m
  induction m with
  | zero =>
    intro i k hi hk
    obtain ⟨k, rfl⟩ := r2_fuel 1 k (by omega)
    rw [confidantref2_Transitive.l2, if_neg (by omega), r2_wrap b 16 (by omega) (by decide), hR k (by omega)]
    rfl
  | succ m ih =>
    intro i k hi hk
    obtain ⟨k, rfl⟩ := r2_fuel 1 k (by omega)
    rw [confidantref2_Transitive.l2, if_pos (by omega), if_pos (by omega), if_pos (by omega), if_pos (by omega), if_pos (by rw [sq_row q hs _ (by omega) (by omega)]; omega), all_shift m i (fun x => !(at2 q (a : Int) (b : Int) && (at2 q (b : Int) (x : Int) && !at2 q (a : Int) (x : Int))))]
    rw [r2_wrap i 16 (by omega) (by decide), ih (i + 1) k (by omega) (by omega)]
    by_cases h : at2 q (a : Int) (b : Int) = true
    · have h' : rdOf false (rd_L2 q (a : Int)) (b : Int) = true := h
      rw [if_pos h', if_pos (by omega), if_pos (by omega), if_pos (by rw [sq_row q hs _ (by omega) (by omega)]; omega)]
      by_cases h2 : at2 q (b : Int) (i : Int) = true
      · have h2' : rdOf false (rd_L2 q (b : Int)) (i : Int) = true := h2
        rw [if_pos h2', if_pos (by rw [sq_row q hs _ (by omega) (by omega)]; omega)]
        by_cases h3 : at2 q (a : Int) (i : Int) = true
        · have h3' : rdOf false (rd_L2 q (a : Int)) (i : Int) = true := h3
          rw [if_pos h3', h, h2, h3]; rfl
        · have h3' : ¬ rdOf false (rd_L2 q (a : Int)) (i : Int) = true := h3
          rw [if_neg h3', h, h2, Bool.eq_false_iff.2 h3]; rfl
      · have h2' : ¬ rdOf false (rd_L2 q (b : Int)) (i : Int) = true := h2
        rw [if_neg h2', h, Bool.eq_false_iff.2 h2]; rfl
    · have h' : ¬ rdOf false (rd_L2 q (a : Int)) (b : Int) = true := h
      rw [if_neg h', Bool.eq_false_iff.2 h]; rfl
theorem r2_tran_l1 (q : List (List Bool)) (hs : sqB q = true) (a : Nat) (ha : a < q.length) (R : Bool) (K : Nat) (hR : ∀ k, K ≤ k → confidantref2_Transitive.l0 k q ((a + 1 : Nat) : Int) = some R) : ∀ (m i k : Nat), i + m = q.length → 20 * m + 1 + K ≤ k → confidantref2_Transitive.l1 k q (a : Int) (i : Int) = some (((List.range m).all fun x => trB q (a : Int) ((i + x : Nat) : Int)) && R) := by
  have h16 := sq_len q hs
  intro m
  induction m with
  | zero =>
    intro i k hi hk
    obtain ⟨k, rfl⟩ := r2_fuel 1 k (by omega)
    rw [confidantref2_Transitive.l1, if_neg (by omega), r2_wrap a 16 (by omega) (by decide), hR k (by omega)]
    rfl
  | succ m ih =>
    intro i k hi hk
    obtain ⟨k, rfl⟩ := r2_fuel 1 k (by omega)
    rw [confidantref2_Transitive.l1, if_pos (by omega), all_shift m i (fun x => trB q (a : Int) (x : Int))]
    have h := r2_tran_l2 q hs a i ha (by omega) _ (20 * m + 1 + K) (fun k hk => ih (i + 1) k (by omega) hk) q.length 0 k (by omega) (by omega)
    rw [all_range0 q.length (fun x => !(at2 q (a : Int) (i : Int) && (at2 q (i : Int) (x : Int) && !at2 q (a : Int) (x : Int))))] at h
    rw [Bool.and_assoc]
    exact h
theorem r2_tran_l0 (q : List (List Bool)) (hs : sqB q = true) : ∀ (m i k : Nat), i + m = q.length → 330 * m + 30 ≤ k → confidantref2_Transitive.l0 k q (i : Int) = some ((List.range m).all fun x => (List.range q.length).all fun y => trB q ((i + x : Nat) : Int) (y : Int)) := by
  have h16 := sq_len q hs
  intro m
  induction m with
  | zero =>
    intro i k hi hk
    obtain ⟨k, rfl⟩ := r2_fuel 2 k (by omega)
    rw [confidantref2_Transitive.l0, if_neg (by omega), confidantref2_Transitive.j1, if_neg (by decide), r2_Square q k (by omega), hs]
    rfl
  | succ m ih =>
    intro i k hi hk
    obtain ⟨k, rfl⟩ := r2_fuel 2 k (by omega)
    rw [confidantref2_Transitive.l0, if_pos (by omega), r2_Square q (k + 1) (by omega), hs, Option.bind_some, confidantref2_Transitive.j1, if_pos rfl, all_shift m i (fun x => (List.range q.length).all fun y => trB q (x : Int) (y : Int))]
    have h := r2_tran_l1 q hs i (by omega) _ (330 * m + 30) (fun k hk => ih (i + 1) k (by omega) hk) q.length 0 k (by omega) (by omega)
    rw [all_range0 q.length (fun y => trB q (i : Int) (y : Int))] at h
    exact h
theorem r2_Transitive (q : List (List Bool)) (k : Nat) (hk : 6000 ≤ k) : confidantref2_Transitive.f k q = some (tranB q) := by
  unfold confidantref2_Transitive.f tranB
  by_cases hs : sqB q = true
  · have h16 := sq_len q hs
    have h := r2_tran_l0 q hs q.length 0 k (by omega) (by omega)
    rw [all_range0 q.length (fun x => (List.range q.length).all fun y => trB q (x : Int) (y : Int))] at h
    refine Eq.trans h (congrArg some ?_)
    rw [hs, Bool.true_and]
    rfl
  · obtain ⟨k, rfl⟩ := r2_fuel 2 k (by omega)
    rw [Bool.eq_false_iff.2 hs, Bool.false_and, confidantref2_Transitive.l0, r2_Square q (k + 1) (by omega), Bool.eq_false_iff.2 hs, Option.bind_some, ite_self, confidantref2_Transitive.j1, if_neg (by decide), r2_Square q k (by omega), Bool.eq_false_iff.2 hs]
    rfl
def inQ (q : List (List Bool)) (a : Int) : Bool := sqB q && decide (0 ≤ a ∧ a < (q.length : Int))
theorem inQ_iff (q : List (List Bool)) (a : Int) : inQ q a = true ↔ sqB q = true ∧ 0 ≤ a ∧ a < (q.length : Int) := by
  unfold inQ; rw [Bool.and_eq_true, decide_eq_true_eq]
theorem inLB_iff (q : List (List Bool)) (l : List Int) : inLB q l = true ↔ sqB q = true ∧ ∀ a ∈ l, 0 ≤ a ∧ a < (q.length : Int) := by
  unfold inLB; rw [Bool.and_eq_true, List.all_eq_true]; simp only [decide_eq_true_eq]
  exact And.comm
theorem inLB2 (q : List (List Bool)) (a b : Int) : inLB q [a, b] = (inQ q a && inQ q b) := by
  rw [Bool.eq_iff_iff, inLB_iff, Bool.and_eq_true, inQ_iff, inQ_iff]
  simp only [List.mem_cons, List.not_mem_nil, or_false, forall_eq_or_imp, forall_eq]
  exact ⟨fun ⟨h, h1, h2⟩ => ⟨⟨h, h1⟩, h, h2⟩, fun ⟨⟨h, h1⟩, _, h2⟩ => ⟨h, h1, h2⟩⟩
theorem r2_in (q : List (List Bool)) (a : Int) (k : Nat) (hk : 20 ≤ k) : confidantref2_in.f k q a = some (inQ q a) := by
  unfold confidantref2_in.f
  rw [r2_Square q k hk, Option.bind_some]
  by_cases hs : sqB q = true
  · rw [if_pos hs]
    by_cases h0 : 0 ≤ a
    · rw [if_pos h0]; unfold inQ; rw [hs, Bool.true_and]; congr 2; simp [h0]
    · rw [if_neg h0]; unfold inQ; rw [decide_eq_false (by omega), Bool.and_false]
  · rw [if_neg hs]; unfold inQ; rw [Bool.eq_false_iff.2 hs, Bool.false_and]
def pickI (i m : Nat) (g : Int → Bool) : List Int := ((List.range m).filter (fun x : Nat => g ((i + x : Nat) : Int))).map (fun x : Nat => ((i + x : Nat) : Int))
theorem pickI_succ (i m : Nat) (g : Int → Bool) : pickI i (m + 1) g = (if g (i : Int) = true then [(i : Int)] else []) ++ pickI (i + 1) m g := by
  unfold pickI
  rw [List.range_succ_eq_map, List.filter_cons, List.filter_map]
  have e : ((fun x : Nat => g ((i + x : Nat) : Int)) ∘ Nat.succ) = fun x : Nat => g ((i + 1 + x : Nat) : Int) := by funext x; show g ((i + (x + 1) : Nat) : Int) = _; rw [show i + (x + 1) = i + 1 + x by omega]
  rw [e]
  by_cases h : g (i : Int) = true
  · rw [if_pos (by simpa using h), if_pos h, List.map_cons, List.map_map]
    simp only [Nat.add_zero, List.cons_append, List.nil_append]
    congr 1
    apply List.map_congr_left
    intro x _
    show ((i + (x + 1) : Nat) : Int) = _
    rw [show i + (x + 1) = i + 1 + x by omega]
  · rw [if_neg (by simpa using h), if_neg h, List.nil_append, List.map_map]
    apply List.map_congr_left
    intro x _
    show ((i + (x + 1) : Nat) : Int) = _
    rw [show i + (x + 1) = i + 1 + x by omega]
theorem pickI_zero (n : Nat) (g : Int → Bool) : pickI 0 n g = pick n g := by
  unfold pickI pick; simp only [Nat.zero_add]
theorem r2_Upper_l0 (q : List (List Bool)) (hs : sqB q = true) (a b : Int) (a0 : 0 ≤ a) (a1 : a < (q.length : Int)) (b0 : 0 ≤ b) (b1 : b < (q.length : Int)) : ∀ (m i k : Nat) (acc : List Int), i + m = q.length → 2 * m + 30 ≤ k → acc.length ≤ i → confidantref2_Upper.l0 k q a b acc (i : Int) = some (acc ++ pickI i m (fun c => at2 q a c && at2 q b c)) := by
  have h16 := sq_len q hs
  have ha : inQ q a = true := (inQ_iff q a).2 ⟨hs, a0, a1⟩
  have hb : inQ q b = true := (inQ_iff q b).2 ⟨hs, b0, b1⟩
  intro m
  induction m with
  | zero =>
    intro i k acc hi hk hacc
    obtain ⟨k, rfl⟩ := r2_fuel 2 k (by omega)
    rw [confidantref2_Upper.l0, if_neg (by omega), confidantref2_Upper.j1, if_neg (by decide)]
    exact congrArg some (List.append_nil acc).symm
  | succ m ih =>
    intro i k acc hi hk hacc
    obtain ⟨k, rfl⟩ := r2_fuel 2 k (by omega)
    rw [confidantref2_Upper.l0, if_pos (by omega), r2_in q a (k + 1) (by omega), ha, Option.bind_some, if_pos rfl, r2_in q b (k + 1) (by omega), hb, Option.bind_some, confidantref2_Upper.j1, if_pos rfl, if_pos (by omega), if_pos (by omega), if_pos (by omega), if_pos (by rw [sq_row q hs _ (by omega) (by omega)]; omega), r2_wrap i 16 (by omega) (by decide), pickI_succ]
    by_cases h : at2 q a (i : Int) = true
    · have h' : rdOf false (rd_L2 q a) (i : Int) = true := h
      rw [if_pos h', if_pos (by omega), if_pos (by omega), if_pos (by rw [sq_row q hs _ (by omega) (by omega)]; omega)]
      by_cases h2 : at2 q b (i : Int) = true
      · have h2' : rdOf false (rd_L2 q b) (i : Int) = true := h2
        rw [if_pos h2', if_pos (by omega), ih (i + 1) k _ (by omega) (by omega) (by simp; omega), List.append_assoc, h, h2]
        rfl
      · have h2' : ¬ rdOf false (rd_L2 q b) (i : Int) = true := h2
        rw [if_neg h2', ih (i + 1) k _ (by omega) (by omega) (by omega), Bool.eq_false_iff.2 h2, h]
        rfl
    · have h' : ¬ rdOf false (rd_L2 q a) (i : Int) = true := h
      rw [if_neg h', ih (i + 1) k _ (by omega) (by omega) (by omega), Bool.eq_false_iff.2 h]
      rfl
theorem r2_Upper (q : List (List Bool)) (a b : Int) (k : Nat) (hk : 80 ≤ k) : confidantref2_Upper.f k q a b = some (if inLB q [a, b] = true then upL q a b else []) := by
  unfold confidantref2_Upper.f
  by_cases h : inLB q [a, b] = true
  · rw [if_pos h]
    rw [inLB2, Bool.and_eq_true, inQ_iff, inQ_iff] at h
    have h16 := sq_len q h.1.1
    have r := r2_Upper_l0 q h.1.1 a b h.1.2.1 h.1.2.2 h.2.2.1 h.2.2.2 q.length 0 k [] (by omega) (by omega) (by simp)
    rw [pickI_zero, List.nil_append] at r
    exact r
  · rw [if_neg h]
    obtain ⟨k, rfl⟩ := r2_fuel 2 k (by omega)
    rw [inLB2] at h
    have h := Bool.eq_false_iff.2 h
    rw [confidantref2_Upper.l0, r2_in q a (k + 1) (by omega), r2_in q b (k + 1) (by omega), Option.bind_some, Option.bind_some]
    have e : confidantref2_Upper.j1 (k + 1) q a b [] 0 false = some [] := by rw [confidantref2_Upper.j1, if_neg (by decide)]
    rcases Bool.and_eq_false_iff.1 h with h1 | h1
    · simp only [h1, e, Bool.false_eq_true, if_false, ite_self]
    · simp only [h1, e, Bool.false_eq_true, if_false, ite_self]
theorem r2_Lower_l0 (q : List (List Bool)) (hs : sqB q = true) (a b : Int) (a0 : 0 ≤ a) (a1 : a < (q.length : Int)) (b0 : 0 ≤ b) (b1 : b < (q.length : Int)) : ∀ (m i k : Nat) (acc : List Int), i + m = q.length → 2 * m + 30 ≤ k → acc.length ≤ i → confidantref2_Lower.l0 k q a b acc (i : Int) = some (acc ++ pickI i m (fun c => at2 q c a && at2 q c b)) := by
  have h16 := sq_len q hs
  have ha : inQ q a = true := (inQ_iff q a).2 ⟨hs, a0, a1⟩
  have hb : inQ q b = true := (inQ_iff q b).2 ⟨hs, b0, b1⟩
  intro m
  induction m with
  | zero =>
    intro i k acc hi hk hacc
    obtain ⟨k, rfl⟩ := r2_fuel 2 k (by omega)
    rw [confidantref2_Lower.l0, if_neg (by omega), confidantref2_Lower.j1, if_neg (by decide)]
    exact congrArg some (List.append_nil acc).symm
  | succ m ih =>
    intro i k acc hi hk hacc
    obtain ⟨k, rfl⟩ := r2_fuel 2 k (by omega)
    rw [confidantref2_Lower.l0, if_pos (by omega), r2_in q a (k + 1) (by omega), ha, Option.bind_some, if_pos rfl, r2_in q b (k + 1) (by omega), hb, Option.bind_some, confidantref2_Lower.j1, if_pos rfl, if_pos (by omega), if_pos (by omega), if_pos (by omega), if_pos (by rw [sq_row q hs _ (by omega) (by omega)]; omega), r2_wrap i 16 (by omega) (by decide), pickI_succ]
    by_cases h : at2 q (i : Int) a = true
    · have h' : rdOf false (rd_L2 q (i : Int)) a = true := h
      rw [if_pos h', if_pos (by omega), if_pos (by rw [sq_row q hs _ (by omega) (by omega)]; omega)]
      by_cases h2 : at2 q (i : Int) b = true
      · have h2' : rdOf false (rd_L2 q (i : Int)) b = true := h2
        rw [if_pos h2', if_pos (by omega), ih (i + 1) k _ (by omega) (by omega) (by simp; omega), List.append_assoc, h, h2]
        rfl
      · have h2' : ¬ rdOf false (rd_L2 q (i : Int)) b = true := h2
        rw [if_neg h2', ih (i + 1) k _ (by omega) (by omega) (by omega), Bool.eq_false_iff.2 h2, h]
        rfl
    · have h' : ¬ rdOf false (rd_L2 q (i : Int)) a = true := h
      rw [if_neg h', ih (i + 1) k _ (by omega) (by omega) (by omega), Bool.eq_false_iff.2 h]
      rfl
theorem r2_Lower (q : List (List Bool)) (a b : Int) (k : Nat) (hk : 80 ≤ k) : confidantref2_Lower.f k q a b = some (if inLB q [a, b] = true then dnL q a b else []) := by
  unfold confidantref2_Lower.f
  by_cases h : inLB q [a, b] = true
  · rw [if_pos h]
    rw [inLB2, Bool.and_eq_true, inQ_iff, inQ_iff] at h
    have h16 := sq_len q h.1.1
    have r := r2_Lower_l0 q h.1.1 a b h.1.2.1 h.1.2.2 h.2.2.1 h.2.2.2 q.length 0 k [] (by omega) (by omega) (by simp)
    rw [pickI_zero, List.nil_append] at r
    exact r
  · rw [if_neg h]
    obtain ⟨k, rfl⟩ := r2_fuel 2 k (by omega)
    rw [inLB2] at h
    have h := Bool.eq_false_iff.2 h
    rw [confidantref2_Lower.l0, r2_in q a (k + 1) (by omega), r2_in q b (k + 1) (by omega), Option.bind_some, Option.bind_some]
    have e : confidantref2_Lower.j1 (k + 1) q a b [] 0 false = some [] := by rw [confidantref2_Lower.j1, if_neg (by decide)]
    rcases Bool.and_eq_false_iff.1 h with h1 | h1
    · simp only [h1, e, Bool.false_eq_true, if_false, ite_self]
    · simp only [h1, e, Bool.false_eq_true, if_false, ite_self]
theorem r2_all_l0 (q : List (List Bool)) (l : List Int) (hl : l.length ≤ 1000) : ∀ (m i k : Nat), i + m = l.length → m + 30 ≤ k → confidantref2_all.l0 k q l (i : Int) = some (((List.range m).all fun x => inQ q (rd l ((i + x : Nat) : Int))) && decide (0 < l.length)) := by
  intro m
  induction m with
  | zero =>
    intro i k hi hk
    obtain ⟨k, rfl⟩ := r2_fuel 1 k (by omega)
    rw [confidantref2_all.l0, if_neg (by omega)]
    show some _ = some (true && _)
    rw [Bool.true_and]
    congr 1
    rw [decide_eq_decide]
    omega
  | succ m ih =>
    intro i k hi hk
    obtain ⟨k, rfl⟩ := r2_fuel 1 k (by omega)
    rw [confidantref2_all.l0, if_pos (by omega), if_pos (by omega), r2_in q _ k (by omega), Option.bind_some, r2_wrap i 1000 (by omega) (by decide), ih (i + 1) k (by omega) (by omega), all_shift m i (fun x => inQ q (rd l (x : Int)))]
    by_cases h : inQ q (rd l (i : Int)) = true
    · rw [if_pos h, h, Bool.true_and]
    · rw [if_neg h, Bool.eq_false_iff.2 h, Bool.false_and, Bool.false_and]
theorem all_list (l : List Int) (p : Int → Bool) : ((List.range l.length).all fun x => p (rd l (x : Int))) = l.all p := by
  rw [Bool.eq_iff_iff, List.all_eq_true, List.all_eq_true]
  constructor
  · intro H r hr
    obtain ⟨i, hi, rfl⟩ := List.mem_iff_getElem.1 hr
    have := H i (List.mem_range.2 hi)
    rw [r2_rdi l i hi] at this
    exact this
  · intro H x hx
    have hx := List.mem_range.1 hx
    rw [r2_rdi l x hx]
    exact H _ (List.getElem_mem hx)
theorem r2_all (q : List (List Bool)) (l : List Int) (hl : l.length ≤ 1000) (k : Nat) (hk : 30 + l.length ≤ k) : confidantref2_all.f k q l = some (l.all (inQ q) && decide (0 < l.length)) := by
  unfold confidantref2_all.f
  have h := r2_all_l0 q l hl l.length 0 k (by omega) (by omega)
  rw [all_range0 l.length (fun x => inQ q (rd l (x : Int))), all_list l (inQ q)] at h
  exact h
theorem all_inQ (q : List (List Bool)) (l : List Int) (h : l.all (inQ q) = true) (i : Nat) (hi : i < l.length) : sqB q = true ∧ 0 ≤ rd l (i : Int) ∧ rd l (i : Int) < (q.length : Int) := by
  have := List.all_eq_true.1 h _ (List.getElem_mem hi)
  rw [← r2_rdi l i hi] at this
  exact (inQ_iff q _).1 this
def firstD (l d : List Int) (g : Int → Int → Bool) : Int × Bool := match d.find? (fun a => l.all (fun b => g a b)) with | some a => (a, true) | none => (0, false)
theorem firstD_cons (l d : List Int) (a : Int) (g : Int → Int → Bool) : firstD l (a :: d) g = if l.all (fun b => g a b) = true then (a, true) else firstD l d g := by
  unfold firstD; rw [List.find?_cons]
  by_cases h : l.all (fun b => g a b) = true
  · rw [h, if_pos rfl]
  · rw [Bool.eq_false_iff.2 h, if_neg (by decide)]
theorem r2_Least_l1 (q : List (List Bool)) (l : List Int) (hl : l.length ≤ 1000) (hin : l.all (inQ q) = true) (a : Nat) (hal : a < l.length) (R : Int × Bool) (K : Nat) (hR : ∀ k, K ≤ k → confidantref2_Least.l0 k q l ((a + 1 : Nat) : Int) = some R) : ∀ (m i k : Nat) (t : Bool), i + m = l.length → m + 1 + K ≤ k → confidantref2_Least.l1 k q l (a : Int) t (i : Int) = some (if (t && (List.range m).all fun x => at2 q (rd l (a : Int)) (rd l ((i + x : Nat) : Int))) = true then (rd l (a : Int), true) else R) := by
  have ha := all_inQ q l hin a hal
  intro m
  induction m with
  | zero =>
    intro i k t hi hk
    obtain ⟨k, rfl⟩ := r2_fuel 1 k (by omega)
    cases t with
    | true => rw [confidantref2_Least.l1, if_neg (by omega), if_pos rfl, if_pos (by omega), if_pos (by omega)]; rfl
    | false => rw [confidantref2_Least.l1, if_neg (by omega), if_neg (by decide), r2_wrap a 1000 (by omega) (by decide), hR k (by omega)]; rfl
  | succ m ih =>
    intro i k t hi hk
    have hb := all_inQ q l hin i (by omega)
    obtain ⟨k, rfl⟩ := r2_fuel 1 k (by omega)
    cases t with
    | true =>
      rw [confidantref2_Least.l1, if_pos (by omega), if_pos rfl, if_pos (by omega), if_pos (by omega), if_pos ha.2.1, if_pos ha.2.2, if_pos (by omega), if_pos hb.2.1, if_pos (by rw [sq_row q ha.1 _ ha.2.1 ha.2.2]; exact hb.2.2), r2_wrap i 1000 (by omega) (by decide), ih (i + 1) k _ (by omega) (by omega), all_shift m i (fun x => at2 q (rd l (a : Int)) (rd l (x : Int))), Bool.true_and]
      rfl
    | false =>
      rw [confidantref2_Least.l1, if_pos (by omega), if_neg (by decide), r2_wrap i 1000 (by omega) (by decide), ih (i + 1) k _ (by omega) (by omega), Bool.false_and, Bool.false_and]
theorem r2_Least_l0 (q : List (List Bool)) (l : List Int) (hl : l.length ≤ 1000) (hin : l.all (inQ q) = true) (K : Nat) (hK : l.length + 40 ≤ K) : ∀ (m i k : Nat), i + m = l.length → (l.length + 3) * m + K ≤ k → confidantref2_Least.l0 k q l (i : Int) = some (firstD l (l.drop i) (fun x y => at2 q x y)) := by
  intro m
  induction m with
  | zero =>
    intro i k hi hk
    obtain ⟨k, rfl⟩ := r2_fuel 2 k (by omega)
    rw [confidantref2_Least.l0, if_neg (by omega), confidantref2_Least.j1, if_neg (by decide), List.drop_of_length_le (by omega)]
    rfl
  | succ m ih =>
    intro i k hi hk
    rw [Nat.mul_succ] at hk
    obtain ⟨k, rfl⟩ := r2_fuel 2 k (by omega)
    have e : (l.all (inQ q) && decide (0 < l.length)) = true := by rw [hin, decide_eq_true (by omega : 0 < l.length)]; rfl
    rw [confidantref2_Least.l0, if_pos (by omega), r2_all q l hl (k + 1) (by omega), Option.bind_some, e, confidantref2_Least.j1, if_pos rfl]
    have h := r2_Least_l1 q l hl hin i (by omega) _ ((l.length + 3) * m + K) (fun k hk => ih (i + 1) k (by omega) hk) l.length 0 k true (by omega) (by omega)
    rw [all_range0 l.length (fun x => at2 q (rd l (i : Int)) (rd l (x : Int))), all_list l (fun y => at2 q (rd l (i : Int)) y), Bool.true_and] at h
    rw [List.drop_eq_getElem_cons (by omega : i < l.length), firstD_cons, ← r2_rdi l i (by omega)]
    exact h
theorem r2_Least (q : List (List Bool)) (l : List Int) (hl : l.length ≤ 1000) (k : Nat) (hk : (l.length + 3) * l.length + l.length + 40 ≤ k) : confidantref2_Least.f k q l = some (if inLB q l = true then firstB l (fun x y => at2 q x y) else (0, false)) := by
  unfold confidantref2_Least.f
  by_cases hin : l.all (inQ q) = true
  · have h := r2_Least_l0 q l hl hin (l.length + 40) (by omega) l.length 0 k (by omega) (by omega)
    rw [List.drop_zero] at h
    refine Eq.trans h ?_
    by_cases h0 : l.length = 0
    · obtain rfl := List.eq_nil_of_length_eq_zero h0
      show some ((0 : Int), false) = some (if inLB q [] = true then ((0 : Int), false) else (0, false))
      rw [ite_self]
    · rw [if_pos ((inLB_iff q l).2 ⟨(all_inQ q l hin 0 (by omega)).1, fun a ha => ((inQ_iff q a).1 (List.all_eq_true.1 hin a ha)).2⟩)]
      rfl
  · obtain ⟨k, rfl⟩ := r2_fuel 2 k (by omega)
    have e : (l.all (inQ q) && decide (0 < l.length)) = false := by rw [Bool.eq_false_iff.2 hin]; rfl
    rw [confidantref2_Least.l0, r2_all q l hl (k + 1) (by omega), Option.bind_some, e, ite_self, confidantref2_Least.j1, if_neg (by decide)]
    by_cases hs : sqB q = true
    · rw [if_neg (fun h => hin (List.all_eq_true.2 fun a ha => (inQ_iff q a).2 ⟨hs, ((inLB_iff q l).1 h).2 a ha⟩))]
    · rw [if_neg (fun h => hs ((inLB_iff q l).1 h).1)]
theorem r2_Greatest_l1 (q : List (List Bool)) (l : List Int) (hl : l.length ≤ 1000) (hin : l.all (inQ q) = true) (a : Nat) (hal : a < l.length) (R : Int × Bool) (K : Nat) (hR : ∀ k, K ≤ k → confidantref2_Greatest.l0 k q l ((a + 1 : Nat) : Int) = some R) : ∀ (m i k : Nat) (t : Bool), i + m = l.length → m + 1 + K ≤ k → confidantref2_Greatest.l1 k q l (a : Int) t (i : Int) = some (if (t && (List.range m).all fun x => at2 q (rd l ((i + x : Nat) : Int)) (rd l (a : Int))) = true then (rd l (a : Int), true) else R) := by
  have ha := all_inQ q l hin a hal
  intro m
  induction m with
  | zero =>
    intro i k t hi hk
    obtain ⟨k, rfl⟩ := r2_fuel 1 k (by omega)
    cases t with
    | true => rw [confidantref2_Greatest.l1, if_neg (by omega), if_pos rfl, if_pos (by omega), if_pos (by omega)]; rfl
    | false => rw [confidantref2_Greatest.l1, if_neg (by omega), if_neg (by decide), r2_wrap a 1000 (by omega) (by decide), hR k (by omega)]; rfl
  | succ m ih =>
    intro i k t hi hk
    have hb := all_inQ q l hin i (by omega)
    obtain ⟨k, rfl⟩ := r2_fuel 1 k (by omega)
    cases t with
    | true =>
      rw [confidantref2_Greatest.l1, if_pos (by omega), if_pos rfl, if_pos (by omega), if_pos hb.2.1, if_pos hb.2.2, if_pos (by omega), if_pos (by omega), if_pos ha.2.1, if_pos (by rw [sq_row q hb.1 _ hb.2.1 hb.2.2]; exact ha.2.2), r2_wrap i 1000 (by omega) (by decide), ih (i + 1) k _ (by omega) (by omega), all_shift m i (fun x => at2 q (rd l (x : Int)) (rd l (a : Int))), Bool.true_and]
      rfl
    | false =>
      rw [confidantref2_Greatest.l1, if_pos (by omega), if_neg (by decide), r2_wrap i 1000 (by omega) (by decide), ih (i + 1) k _ (by omega) (by omega), Bool.false_and, Bool.false_and]
theorem r2_Greatest_l0 (q : List (List Bool)) (l : List Int) (hl : l.length ≤ 1000) (hin : l.all (inQ q) = true) (K : Nat) (hK : l.length + 40 ≤ K) : ∀ (m i k : Nat), i + m = l.length → (l.length + 3) * m + K ≤ k → confidantref2_Greatest.l0 k q l (i : Int) = some (firstD l (l.drop i) (fun x y => at2 q y x)) := by
  intro m
  induction m with
  | zero =>
    intro i k hi hk
    obtain ⟨k, rfl⟩ := r2_fuel 2 k (by omega)
    rw [confidantref2_Greatest.l0, if_neg (by omega), confidantref2_Greatest.j1, if_neg (by decide), List.drop_of_length_le (by omega)]
    rfl
  | succ m ih =>
    intro i k hi hk
    rw [Nat.mul_succ] at hk
    obtain ⟨k, rfl⟩ := r2_fuel 2 k (by omega)
    have e : (l.all (inQ q) && decide (0 < l.length)) = true := by rw [hin, decide_eq_true (by omega : 0 < l.length)]; rfl
    rw [confidantref2_Greatest.l0, if_pos (by omega), r2_all q l hl (k + 1) (by omega), Option.bind_some, e, confidantref2_Greatest.j1, if_pos rfl]
    have h := r2_Greatest_l1 q l hl hin i (by omega) _ ((l.length + 3) * m + K) (fun k hk => ih (i + 1) k (by omega) hk) l.length 0 k true (by omega) (by omega)
    rw [all_range0 l.length (fun x => at2 q (rd l (x : Int)) (rd l (i : Int))), all_list l (fun y => at2 q y (rd l (i : Int))), Bool.true_and] at h
    rw [List.drop_eq_getElem_cons (by omega : i < l.length), firstD_cons, ← r2_rdi l i (by omega)]
    exact h
theorem r2_Greatest (q : List (List Bool)) (l : List Int) (hl : l.length ≤ 1000) (k : Nat) (hk : (l.length + 3) * l.length + l.length + 40 ≤ k) : confidantref2_Greatest.f k q l = some (if inLB q l = true then firstB l (fun x y => at2 q y x) else (0, false)) := by
  unfold confidantref2_Greatest.f
  by_cases hin : l.all (inQ q) = true
  · have h := r2_Greatest_l0 q l hl hin (l.length + 40) (by omega) l.length 0 k (by omega) (by omega)
    rw [List.drop_zero] at h
    refine Eq.trans h ?_
    by_cases h0 : l.length = 0
    · obtain rfl := List.eq_nil_of_length_eq_zero h0
      show some ((0 : Int), false) = some (if inLB q [] = true then ((0 : Int), false) else (0, false))
      rw [ite_self]
    · rw [if_pos ((inLB_iff q l).2 ⟨(all_inQ q l hin 0 (by omega)).1, fun a ha => ((inQ_iff q a).1 (List.all_eq_true.1 hin a ha)).2⟩)]
      rfl
  · obtain ⟨k, rfl⟩ := r2_fuel 2 k (by omega)
    have e : (l.all (inQ q) && decide (0 < l.length)) = false := by rw [Bool.eq_false_iff.2 hin]; rfl
    rw [confidantref2_Greatest.l0, r2_all q l hl (k + 1) (by omega), Option.bind_some, e, ite_self, confidantref2_Greatest.j1, if_neg (by decide)]
    by_cases hs : sqB q = true
    · rw [if_neg (fun h => hin (List.all_eq_true.2 fun a ha => (inQ_iff q a).2 ⟨hs, ((inLB_iff q l).1 h).2 a ha⟩))]
    · rw [if_neg (fun h => hs ((inLB_iff q l).1 h).1)]
theorem r2_ints_l0 (l : List Int) (hl : l.length ≤ 1000) : ∀ (m i k : Nat), i + m = l.length → m < k → confidanthelp_Ints.l0 k l l (i : Int) = some true := by
  intro m
  induction m with
  | zero =>
    intro i k hi hk
    obtain ⟨k, rfl⟩ := r2_fuel 1 k (by omega)
    rw [confidanthelp_Ints.l0, if_neg (by omega)]
  | succ m ih =>
    intro i k hi hk
    obtain ⟨k, rfl⟩ := r2_fuel 1 k (by omega)
    rw [confidanthelp_Ints.l0, if_pos (by omega), if_pos (by omega), if_pos (by omega), if_pos rfl, r2_wrap i 1000 (by omega) (by decide), ih (i + 1) k (by omega) (by omega)]
theorem r2_Ints (l : List Int) (hl : l.length ≤ 1000) (k : Nat) (hk : l.length < k) : confidanthelp_Ints.f k l l = some true := by
  unfold confidanthelp_Ints.f
  rw [if_pos rfl]
  exact r2_ints_l0 l hl l.length 0 k (by omega) hk
theorem r2_small_l0 (q : List (List Bool)) (hl : q.length ≤ 20) : ∀ (m i k : Nat), i + m = q.length → m < k → ∃ r, confidanthelp_Small.l0 k q (i : Int) = some r := by
  intro m
  induction m with
  | zero =>
    intro i k hi hk
    obtain ⟨k, rfl⟩ := r2_fuel 1 k (by omega)
    exact ⟨true, by rw [confidanthelp_Small.l0, if_neg (by omega)]⟩
  | succ m ih =>
    intro i k hi hk
    obtain ⟨k, rfl⟩ := r2_fuel 1 k (by omega)
    rw [confidanthelp_Small.l0, if_pos (by omega), if_pos (by omega), r2_wrap i 20 (by omega) (by decide)]
    by_cases h : ((rd_L2 q (i : Int)).length : Int) > 20
    · exact ⟨false, by rw [if_pos h]⟩
    · rw [if_neg h]; exact ih (i + 1) k (by omega) (by omega)
theorem r2_Small (q : List (List Bool)) : ∃ r, confidanthelp_Small.f 30 q = some r ∧ (r = true → q.length ≤ 20) := by
  unfold confidanthelp_Small.f
  by_cases h : (q.length : Int) > 20
  · exact ⟨false, by rw [if_pos h], fun h => by cases h⟩
  · obtain ⟨r, hr⟩ := r2_small_l0 q (by omega) q.length 0 30 (by omega) (by omega)
    exact ⟨r, by rw [if_neg h]; exact hr, fun _ => by omega⟩
/-- A value that is a small table. -/
def TabV (W : World) (v : Value) : Prop := ∃ (A : Option Addr) (c : Nat) (q : List (List Bool)), v = .slice A q.length c ∧ q.length ≤ c ∧ q.length ≤ 20 ∧ Kd.C (Kd.slice 4 Kd.bool) W A q.length q
theorem TabV.below {W W1 : World} {v : Value} (h : TabV W v) (hb : Below W.heap.size W W1) : TabV W1 v := by
  obtain ⟨A, c, q, rfl, h1, h2, h3⟩ := h
  exact ⟨A, c, q, rfl, h1, h2, Kd.C_below h3 hb⟩
theorem heap_new (w : World) (o : Obj) : (w.alloc o).heap[w.heap.size]? = some o := by
  show (w.heap.push o)[w.heap.size]? = some o
  simp
theorem blk_below {W W1 : World} (hb : Below W.heap.size W W1) {g : Nat} {o : Obj} (h : W.heap[g]? = some o) : W1.heap[g]? = some o := (hb.block g (blk_lt h)).trans h
theorem grid_reads {W : World} {a : Addr} {len cap : Nat} {A : Nat → Option Addr} {L C : Nat → Nat} {B : Nat → Nat → Bool} (hl : len ≤ cap) (hm : cap ≤ maxLen) (h : ∀ r, r < cap → W.cell? (a.add r) = some (.slice (A r) (L r) (C r)) ∧ L r ≤ C r ∧ C r ≤ maxLen ∧ (A r = none → C r = 0) ∧ ∀ a', A r = some a' → ∀ c, c < C r → W.cell? (a'.add c) = some (.bool (B r c))) :
    Kd.C (Kd.slice 4 Kd.bool) W (some a) len ((List.range len).map fun r => (List.range (L r)).map fun c => B r c) := by
  unfold maxLen at hm
  refine ⟨by simp, by omega, fun _ => ⟨a, rfl, fun j p hj => ?_⟩⟩
  have hjl : j < len := by have := (List.getElem?_eq_some_iff.1 hj).1; simpa using this
  obtain ⟨h1, h2, h3, h4, h5⟩ := h j (by omega)
  unfold maxLen at h3
  have hp : p = (List.range (L j)).map fun c => B j c := by
    rw [List.getElem?_map, List.getElem?_range hjl] at hj
    simpa using hj.symm
  subst hp
  refine ⟨[.slice (A j) (L j) (C j)], rfl, ⟨A j, C j, by simp, by simpa using h2, by simp, by simp; omega, fun hn => ?_⟩, fun i u hi => ?_⟩
  · have hn' : 0 < L j := by simpa using hn
    cases hA : A j with
    | none => have := h4 hA; omega
    | some a' =>
      refine ⟨a', rfl, fun k p hk => ?_⟩
      have hkl : k < L j := by have := (List.getElem?_eq_some_iff.1 hk).1; simpa using this
      have hp : p = B j k := by
        rw [List.getElem?_map, List.getElem?_range hkl] at hk
        simpa using hk.symm
      subst hp
      refine ⟨[.bool (B j k)], rfl, rfl, fun i u hi => ?_⟩
      cases i with
      | zero =>
        have : u = .bool (B j k) := by simpa using hi.symm
        subst this
        have := h5 a' hA k (by omega)
        rw [show k * Kd.bool.sz + 0 = k from Nat.mul_one k]
        exact this
      | succ i => simp at hi
  · cases i with
    | zero =>
      have : u = .slice (A j) (L j) (C j) := by simpa using hi.symm
      subst this
      rw [show j * (Kd.slice 4 Kd.bool).sz + 0 = j from Nat.mul_one j]
      exact h1
    | succ i => simp at hi
theorem ints_reads {W : World} {k : IntKind} {a : Addr} {len cap : Nat} {zs : List Int} (hl : len ≤ cap) (hm : cap ≤ maxLen) (hz : zs.length = cap) (hcell : ∀ i, i < zs.length → W.cell? (a.add i) = some (.int k (zs.getD i 0))) : Kd.C (Kd.int k) W (some a) len (zs.take len) := by
  unfold maxLen at hm
  refine ⟨by rw [List.length_take]; omega, by omega, fun _ => ⟨a, rfl, fun j p hj => ⟨[.int k p], rfl, rfl, fun i u hi => ?_⟩⟩⟩
  have hjl : j < len := by have := (List.getElem?_eq_some_iff.1 hj).1; rw [List.length_take] at this; omega
  cases i with
  | zero =>
    have : u = .int k p := by simpa using hi.symm
    subst this
    rw [List.getElem?_take, if_pos hjl] at hj
    have h := hcell j (by omega)
    rw [List.getD_eq_getElem?_getD, hj] at h
    rw [show j * (Kd.int k).sz + 0 = j from Nat.mul_one j]
    exact h
  | succ i => simp at hi
/-- A table's rows, as values. -/
theorem rows_of {W : World} {A : Option Addr} {n : Nat} {q : List (List Bool)} (h : Kd.C (Kd.slice 4 Kd.bool) W A n q) (hn : 0 < n) : ∃ (ad : Addr) (news : List Value), A = some ad ∧ news.length = n ∧ (∀ j u, news[j]? = some u → W.cell? (ad.add j) = some u) ∧ (∀ u ∈ news, u.oneCell' = true) ∧
    ∀ (j : Nat) (p : List Bool), q[j]? = some p → ∃ A' c', news[j]? = some (Value.slice A' p.length c') ∧ p.length ≤ c' ∧ Kd.C Kd.bool W A' p.length p := by
  obtain ⟨hl, _, h⟩ := h
  obtain ⟨ad, hA, hc⟩ := h hn
  have each : ∀ (j : Nat) (p : List Bool), q[j]? = some p → ∃ A' c', W.cell? (ad.add j) = some (.slice A' p.length c') ∧ p.length ≤ c' ∧ Kd.C Kd.bool W A' p.length p := by
    intro j p hj
    obtain ⟨c, _, ⟨A', c', rfl, h1, h2⟩, h3⟩ := hc j p hj
    have := h3 0 _ rfl
    rw [show j * (Kd.slice 4 Kd.bool).sz + 0 = j from Nat.mul_one j] at this
    exact ⟨A', c', this, h1, h2⟩
  have get : ∀ j, j < n → ((List.range n).map fun j => (W.cell? (ad.add j)).getD (.bool false))[j]? = some ((W.cell? (ad.add j)).getD (.bool false)) := fun j hj => by rw [List.getElem?_map, List.getElem?_range hj]; rfl
  refine ⟨ad, (List.range n).map fun j => (W.cell? (ad.add j)).getD (.bool false), hA, by simp, fun j u hj => ?_, fun u hu => ?_, fun j p hj => ?_⟩
  · have hjl : j < n := by have := (List.getElem?_eq_some_iff.1 hj).1; simpa using this
    obtain ⟨A', c', e, _⟩ := each j _ (List.getElem?_eq_getElem (by omega : j < q.length))
    rw [get j hjl, e] at hj
    rw [e]; exact hj
  · obtain ⟨j, hj, rfl⟩ := List.mem_map.1 hu
    have hjl := List.mem_range.1 hj
    obtain ⟨A', c', e, _⟩ := each j _ (List.getElem?_eq_getElem (by omega : j < q.length))
    simp only [e]
    rfl
  · have hjl : j < n := by have := (List.getElem?_eq_some_iff.1 hj).1; omega
    obtain ⟨A', c', e, h1, h2⟩ := each j p hj
    exact ⟨A', c', by rw [get j hjl, e]; rfl, h1, h2⟩
theorem C_of_rows {W : World} {g n : Nat} {m : List (List Bool)} {news : List Value} (hm : m.length = n) (hn : n ≤ 9223372036854775807) (hcell : ∀ j u, news[j]? = some u → W.cell? ⟨g, j, none⟩ = some u) (hrow : ∀ (j : Nat) (p : List Bool), m[j]? = some p → ∃ A' c', news[j]? = some (Value.slice A' p.length c') ∧ p.length ≤ c' ∧ Kd.C Kd.bool W A' p.length p) :
    Kd.C (Kd.slice 4 Kd.bool) W (some ⟨g, 0, none⟩) n m := by
  refine ⟨hm, hn, fun _ => ⟨_, rfl, fun j p hj => ?_⟩⟩
  obtain ⟨A', c', h1, h2, h3⟩ := hrow j p hj
  refine ⟨_, rfl, ⟨A', c', rfl, h2, h3⟩, fun i u hi => ?_⟩
  cases i with
  | zero =>
    have : u = .slice A' p.length c' := by simpa using hi.symm
    subst this
    rw [show j * (Kd.slice 4 Kd.bool).sz + 0 = j from Nat.mul_one j, add_plain]
    exact hcell j _ h1
  | succ i => simp at hi
theorem C_take {W : World} {A : Option Addr} {n k : Nat} {xs : List Bool} (h : Kd.C Kd.bool W A n xs) (hk : k ≤ n) : Kd.C Kd.bool W A k (xs.take k) := by
  obtain ⟨h1, h2, h3⟩ := h
  refine ⟨by rw [List.length_take]; omega, by omega, fun h0 => ?_⟩
  obtain ⟨ad, hA, hc⟩ := h3 (by omega)
  refine ⟨ad, hA, fun j p hj => hc j p ?_⟩
  have hjl : j < k := by have := (List.getElem?_eq_some_iff.1 hj).1; rw [List.length_take] at this; omega
  rw [List.getElem?_take, if_pos hjl] at hj
  exact hj
/-- A short list of whole numbers. -/
def IntsV (W : World) (v : Value) : Prop := ∃ (A : Option Addr) (c : Nat) (l : List Int), v = .slice A l.length c ∧ l.length ≤ c ∧ l.length ≤ 20 ∧ Kd.C (Kd.int .i64) W A l.length l
theorem IntsV.below {W W1 : World} {v : Value} (h : IntsV W v) (hb : Below W.heap.size W W1) : IntsV W1 v := by
  obtain ⟨A, c, q, rfl, h1, h2, h3⟩ := h
  exact ⟨A, c, q, rfl, h1, h2, Kd.C_below h3 hb⟩
def PS (wr : World) (X Y : Int) (W : World) : Prop := Below wr.heap.size wr W ∧ W.heap[wr.heap.size]? = some (.cells #[.int .i64 X, .int .i64 Y] 38 (0, 0)) ∧ W.cell? ⟨wr.heap.size, 0, none⟩ = some (.int .i64 X) ∧ W.cell? ⟨wr.heap.size, 1, none⟩ = some (.int .i64 Y)
theorem PS_below {wr W W1 : World} {X Y : Int} (h : PS wr X Y W) (hb : Below W.heap.size W W1) : PS wr X Y W1 := by
  obtain ⟨h1, h2, _, _⟩ := h
  have h2' := blk_below hb h2
  exact ⟨below_step h1 hb, h2', by rw [blk_cell h2']; rfl, by rw [blk_cell h2']; rfl⟩
theorem PS_drawn {wr W : World} {X Y : Int} (h : PS wr X Y W) (n : Nat) : PS wr X Y (W.drewN n) := PS_below h (pw_below_drewN (Below.refl _ _) n)
theorem PS_as {wr W W1 : World} {X Y : Int} (h : PS wr X Y W) (e1 : W1.heap = W.heap) (e2 : W1.os = W.os) (e3 : W1.tape = W.tape) (e4 : W1.output = W.output) : PS wr X Y W1 := by
  obtain ⟨h1, h2, _, _⟩ := h
  have h2' : W1.heap[wr.heap.size]? = some (.cells #[.int .i64 X, .int .i64 Y] 38 (0, 0)) := by rw [e1]; exact h2
  exact ⟨⟨e2.trans h1.os, e3.trans h1.tape, e4.trans h1.output, by rw [e1]; exact h1.size, fun k hk => by rw [e1]; exact h1.block k hk⟩, h2', by rw [blk_cell h2']; rfl, by rw [blk_cell h2']; rfl⟩
theorem PSB_as {wr W W1 : World} {X Y : Int} (h : PS wr X Y W) (e1 : W1.heap = W.heap) (e2 : W1.os = W.os) (e3 : W1.tape = W.tape) (e4 : W1.output = W.output) : Below wr.heap.size wr W1 := (PS_as h e1 e2 e3 e4).1
theorem PS_belowas {wr W W1 W2 : World} {X Y : Int} (h : PS wr X Y W) (hb : Below W1.heap.size W1 W2) (e1 : W1.heap = W.heap) (e2 : W1.os = W.os) (e3 : W1.tape = W.tape) (e4 : W1.output = W.output) : PS wr X Y W2 := PS_below (PS_as h e1 e2 e3 e4) hb
theorem PS_start (wr : World) (X Y : Int) : PS wr X Y ((wr.alloc (.cells #[.int .i64 X, .int .i64 Y] 38)).drew) := by
  have h : ((wr.alloc (.cells #[.int .i64 X, .int .i64 Y] 38)).drew).heap[wr.heap.size]? = some (.cells #[.int .i64 X, .int .i64 Y] 38 (0, 0)) := heap_new _ _
  exact ⟨(by repeat (first | exact Below.refl _ _ | apply below_alloc | apply pw_below_drewN | apply below_drew1)), h, by rw [blk_cell h]; rfl, by rw [blk_cell h]; rfl⟩
theorem own_cap {W : World} {base g n cap : Nat} {e : TypeId} {sz : Nat} {xs : List Value} (h : W.ownsRow base e sz (.slice (some ⟨g, 0, none⟩) n cap) n xs) : n ≤ cap := by
  rcases h.2 with ⟨h', _⟩ | ⟨g', cap', cur, h', hb, hg, hnc, hcm, hcs, htake⟩
  · simp at h'
  · simp only [Value.slice.injEq] at h'
    obtain ⟨_, _, rfl⟩ := h'
    exact hnc
/-- A copy of a table's rows is that table. -/
theorem copy_tab {w2 W : World} {base g cap : Nat} {q : List (List Bool)} {news : List Value} (hq : q.length ≤ 20) (hnl : news.length = q.length) (hb : Below w2.heap.size w2 W) (hown : W.ownsRow base 36 1 (.slice (some ⟨g, 0, none⟩) q.length cap) q.length news)
    (hnr : ∀ (j : Nat) (p : List Bool), q[j]? = some p → ∃ A' c', news[j]? = some (Value.slice A' p.length c') ∧ p.length ≤ c' ∧ Kd.C Kd.bool w2 A' p.length p) : TabV W (.slice (some ⟨g, 0, none⟩) q.length cap) := by
  refine ⟨_, cap, q, rfl, own_cap hown, hq, C_of_rows (news := news) rfl (by omega) (fun j u hj => ?_) (fun j p hj => ?_)⟩
  · have hjl : j < news.length := (List.getElem?_eq_some_iff.1 hj).1
    exact (hown.cellAt j (by omega)).trans hj
  · obtain ⟨A', c', e1, e2, e3⟩ := hnr j p hj
    exact ⟨A', c', e1, e2, Kd.C_below e3 hb⟩
/-- .. and with one of its rows cut short, a table still. -/
theorem copy_tab2 {w2 W : World} {base g cap i k c0 : Nat} {A0 : Option Addr} {q : List (List Bool)} {r0 : List Bool} {news : List Value} (hq : q.length ≤ 20) (hnl : news.length = q.length) (hb : Below w2.heap.size w2 W) (hown : W.ownsRow base 36 1 (.slice (some ⟨g, 0, none⟩) q.length cap) q.length (news.set i (.slice A0 k c0)))
    (hnr : ∀ (j : Nat) (p : List Bool), q[j]? = some p → ∃ A' c', news[j]? = some (Value.slice A' p.length c') ∧ p.length ≤ c' ∧ Kd.C Kd.bool w2 A' p.length p) (hi : i < q.length) (h0 : Kd.C Kd.bool w2 A0 r0.length r0) (hk : k ≤ r0.length) (hc : k ≤ c0) : TabV W (.slice (some ⟨g, 0, none⟩) q.length cap) := by
  have hl : (q.set i (r0.take k)).length = q.length := List.length_set ..
  refine ⟨some ⟨g, 0, none⟩, cap, q.set i (r0.take k), by rw [hl], by rw [hl]; exact own_cap hown, by rw [hl]; exact hq, ?_⟩
  rw [hl]
  refine C_of_rows (news := news.set i (.slice A0 k c0)) hl (by omega) (fun j u hj => ?_) (fun j p hj => ?_)
  · have hjl : j < (news.set i (.slice A0 k c0)).length := (List.getElem?_eq_some_iff.1 hj).1
    rw [List.length_set] at hjl
    exact (hown.cellAt j (by omega)).trans hj
  · by_cases e : i = j
    · subst e
      rw [List.getElem?_set_self hi] at hj
      obtain rfl := Option.some.inj hj
      have hl2 : (r0.take k).length = k := by rw [List.length_take]; omega
      refine ⟨A0, c0, ?_, by rw [hl2]; exact hc, ?_⟩
      · rw [List.getElem?_set_self (by omega), hl2]
      · rw [hl2]; exact Kd.C_below (C_take h0 hk) hb
    · rw [List.getElem?_set_ne e] at hj
      obtain ⟨A', c', e1, e2, e3⟩ := hnr j p hj
      exact ⟨A', c', by rw [List.getElem?_set_ne e]; exact e1, e2, Kd.C_below e3 hb⟩
theorem r2_o_sq (q : List (List Bool)) (hq : q.length ≤ 20) : order_Square.f (q.length + 1) q = some (sqB q) ∧ confidantref2_Square.f 100 q = some (sqB q) := ⟨sq_eq q (by omega) (q.length + 1) (Nat.lt_succ_self _), r2_Square q 100 (by decide)⟩
theorem r2_o_refl (q : List (List Bool)) (hq : q.length ≤ 20) : order_Reflexive.f q = some (reflB q) ∧ confidantref2_Reflexive.f 100 q = some (reflB q) := ⟨by unfold order_Reflexive.f; rw [if_pos (by omega)]; rfl, r2_Reflexive q 100 (by decide)⟩
theorem r2_o_anti (q : List (List Bool)) (hq : q.length ≤ 20) : order_Antisymmetric.f q = some (antiB q) ∧ confidantref2_Antisymmetric.f 400 q = some (antiB q) := ⟨by unfold order_Antisymmetric.f; rw [if_pos (by omega)]; rfl, r2_Antisymmetric q 400 (by decide)⟩
theorem r2_o_tran (q : List (List Bool)) (hq : q.length ≤ 20) : order_Transitive.f q = some (tranB q) ∧ confidantref2_Transitive.f 6000 q = some (tranB q) := ⟨by unfold order_Transitive.f; rw [if_pos (by omega)]; rfl, r2_Transitive q 6000 (by decide)⟩
theorem pick_len_le' (n : Nat) (g : Int → Bool) : (pick n g).length ≤ n := by
  unfold pick
  rw [List.length_map]
  exact Nat.le_trans (List.length_filter_le _ _) (by rw [List.length_range]; exact Nat.le_refl n)
theorem r2_o_up (q : List (List Bool)) (hq : q.length ≤ 20) (a b : Int) : ∃ r, order_Upper.f q a b = some r ∧ confidantref2_Upper.f 100 q a b = some r ∧ r.length ≤ 20 := ⟨_, by unfold order_Upper.f; rw [if_pos (by omega)]; rfl, r2_Upper q a b 100 (by decide), by
  by_cases h : inLB q [a, b] = true
  · rw [if_pos h]; exact Nat.le_trans (pick_len_le' _ _) hq
  · rw [if_neg h]; exact Nat.zero_le _⟩
theorem r2_o_low (q : List (List Bool)) (hq : q.length ≤ 20) (a b : Int) : ∃ r, order_Lower.f q a b = some r ∧ confidantref2_Lower.f 100 q a b = some r ∧ r.length ≤ 20 := ⟨_, by unfold order_Lower.f; rw [if_pos (by omega)]; rfl, r2_Lower q a b 100 (by decide), by
  by_cases h : inLB q [a, b] = true
  · rw [if_pos h]; exact Nat.le_trans (pick_len_le' _ _) hq
  · rw [if_neg h]; exact Nat.zero_le _⟩
theorem r2_o_len (m : Nat) (h : m ≤ 20) : (m + 3) * m + m + 40 ≤ 1000 := by
  have := Nat.mul_le_mul (by omega : m + 3 ≤ 23) h
  omega
theorem r2_o_least (q : List (List Bool)) (hq : q.length ≤ 20) (l : List Int) (hl : l.length ≤ 20) : ∃ c d, order_Least.f q l = some (c, d) ∧ confidantref2_Least.f 1000 q l = some (c, d) := by
  obtain ⟨c, d, h⟩ : ∃ c d, (if inLB q l = true then firstB l (fun a b => at2 q a b) else ((0 : Int), false)) = (c, d) := ⟨_, _, rfl⟩
  exact ⟨c, d, by unfold order_Least.f; rw [if_pos (by omega), if_pos (by omega), h], by rw [r2_Least q l (by omega) 1000 (r2_o_len _ hl), h]⟩
theorem r2_o_great (q : List (List Bool)) (hq : q.length ≤ 20) (l : List Int) (hl : l.length ≤ 20) : ∃ c d, order_Greatest.f q l = some (c, d) ∧ confidantref2_Greatest.f 1000 q l = some (c, d) := by
  obtain ⟨c, d, h⟩ : ∃ c d, (if inLB q l = true then firstB l (fun a b => at2 q b a) else ((0 : Int), false)) = (c, d) := ⟨_, _, rfl⟩
  exact ⟨c, d, by unfold order_Greatest.f; rw [if_pos (by omega), if_pos (by omega), h], by rw [r2_Greatest q l (by omega) 1000 (r2_o_len _ hl), h]⟩
theorem place_some (a m : Int) (h : m ≠ 0) : ∃ r, confidanthelp_Place.f a m = some r := by
  unfold confidanthelp_Place.f
  rw [if_neg h]
  by_cases h2 : Int.tmod a m < 0
  · exact ⟨_, by rw [if_pos h2]⟩
  · exact ⟨_, by rw [if_neg h2]⟩
theorem table_some (n : Int) (bits : List Int) (base : Int) (hn : 0 ≤ n ∧ n < 256) (hb : 0 ≤ base ∧ base < 256) : ∃ q, confidantlaw2_table.f n bits base = some q ∧ 1 ≤ q.length ∧ q.length ≤ 6 ∧ ∀ r ∈ q, r.length = q.length := by
  refine ⟨_, by unfold confidantlaw2_table.f; rw [if_pos hn, if_pos hb], ?_⟩
  unfold tabOf
  refine ⟨by simp, by simp; omega, fun r hr => ?_⟩
  obtain ⟨a, _, rfl⟩ := List.mem_map.1 hr
  simp
theorem known2_true : confidantlaw2_known.f 400 = some true := by decide +kernel
theorem infoRB : (Try.prog.info? 36).map (fun i => (i.zero, i.size, i.bytes)) = some (some (.slice none 0 0), 1, 24) := by kernel_rfl
set_option maxRecDepth 100000 in
set_option maxHeartbeats 3200000 in
theorem confidantlaw2_OrderTells.calls (A : Option Addr) (cA : Nat) (q0 : List (List Bool)) (n base : Int) (Ab : Option Addr) (cb : Nat) (bits : List Int) (a b : Int) (Al : Option Addr) (cl : Nat) (l : List Int) (cut : Int) (w : World) (hC : Kd.C (Kd.slice 4 Kd.bool) w A q0.length q0) (hcA : q0.length ≤ cA) (hn : 0 ≤ n ∧ n < 256) (hbase : 0 ≤ base ∧ base < 256) (hCb : Kd.C (Kd.int .u64) w Ab bits.length bits) (hcb : bits.length ≤ cb) (ha : -9223372036854775808 ≤ a ∧ a ≤ 9223372036854775807) (hb : -9223372036854775808 ≤ b ∧ b ≤ 9223372036854775807) (hCl : Kd.C (Kd.int .i64) w Al l.length l) (hcl : l.length ≤ cl) (hcut : 0 ≤ cut ∧ cut < 256) :
    Calls Try.prog 5 #[.slice A q0.length cA, .int .u8 n, .int .u8 base, .slice Ab bits.length cb, .int .i64 a, .int .i64 b, .slice Al l.length cl, .int .u8 cut] w fun e w' => e = .returned (.bool true) ∧ Below w.heap.size w w' := by
  obtain ⟨sm, hsm1, hsm2⟩ := r2_Small q0
  have HSM := Aside0.mk (And.intro hsm1 hsm2)
  obtain ⟨q, htab, hq1, hq6, hqr⟩ := table_some n bits base hn hbase
  have HTAB := Aside0.mk (And.intro htab hqr)
  have HRAW := Aside0.mk hC
  have HBITS := Aside0.mk hCb
  have HLL := Aside0.mk hCl
  have HB := Aside0.mk (Below.refl w.heap.size w)
  obtain ⟨ha0, ha1⟩ := ha
  obtain ⟨hb0, hb1⟩ := hb
  obtain ⟨hc0, hc1⟩ := hcut
  obtain ⟨hbs0, hbs1⟩ := hbase
  clear hsm1 hsm2 htab hqr hC hCb hCl hn
  obtain ⟨iR, hiR, hzR, hsR, hbR⟩ := info_parts infoRB
  go_enter Try.func5, Try.ntmps5
  go_wp2_with fail
  refine (confidantlaw2_known.calls 400 true _ known2_true).mono ?_
  rintro e w1 ⟨rfl, hB⟩
  have HRAW2 := Aside0.mk (Kd.C_below HRAW.out (below_step (by repeat (first | exact Below.refl _ _ | apply below_alloc | apply pw_below_drewN | apply below_drew1)) hB))
  clear HRAW
  have HRAW := HRAW2
  clear HRAW2
  have HBITS2 := Aside0.mk (Kd.C_below HBITS.out (below_step (by repeat (first | exact Below.refl _ _ | apply below_alloc | apply pw_below_drewN | apply below_drew1)) hB))
  clear HBITS
  have HBITS := HBITS2
  clear HBITS2
  have HLL2 := Aside0.mk (Kd.C_below HLL.out (below_step (by repeat (first | exact Below.refl _ _ | apply below_alloc | apply pw_below_drewN | apply below_drew1)) hB))
  clear HLL
  have HLL := HLL2
  clear HLL2
  have HB2 := Aside0.mk (below_step (by repeat (first | (with_reducible first | exact HB.out | apply below_alloc | apply pw_below_drewN | apply below_drew1) | exact HB.out)) hB)
  clear HB
  have HB := HB2
  clear HB2
  clear hB
  go_wp2_with fail
  refine (confidanthelp_Small.calls 30 A cA q0 sm _ (Kd.C_below HRAW.out (by repeat (first | exact Below.refl _ _ | apply below_alloc | apply pw_below_drewN | apply below_drew1))) hcA HSM.out.1).mono ?_
  rintro e w' ⟨rfl, ⟨nd, rfl⟩⟩
  cases sm with
  | false =>
    go_wp2
    go_ret
    exact ⟨rfl, (by repeat (first | (with_reducible first | exact HB.out | apply below_alloc | apply pw_below_drewN | apply below_drew1) | exact HB.out))⟩
  | true =>
    have hq020 := HSM.out.2 rfl
    clear HSM
    by_cases hl10 : (l.length : Int) > 10
    · go_wp2
      go_ret
      exact ⟨rfl, (by repeat (first | (with_reducible first | exact HB.out | apply below_alloc | apply pw_below_drewN | apply below_drew1) | exact HB.out))⟩
    go_wp2_with fail
    refine (confidantlaw2_table.calls n Ab cb bits base q _ (Kd.C_below HBITS.out (by repeat (first | exact Below.refl _ _ | apply below_alloc | apply pw_below_drewN | apply below_drew1))) hcb HTAB.out.1).mono ?_
    rintro e w2 ⟨v, rfl, hS, hB⟩
    have HRAW2 := Aside0.mk (Kd.C_below HRAW.out (below_step (by repeat (first | exact Below.refl _ _ | apply below_alloc | apply pw_below_drewN | apply below_drew1)) hB))
    clear HRAW
    have HRAW := HRAW2
    clear HRAW2
    have HLL2 := Aside0.mk (Kd.C_below HLL.out (below_step (by repeat (first | exact Below.refl _ _ | apply below_alloc | apply pw_below_drewN | apply below_drew1)) hB))
    clear HLL
    have HLL := HLL2
    clear HLL2
    have HB2 := Aside0.mk (below_step (by repeat (first | (with_reducible first | exact HB.out | apply below_alloc | apply pw_below_drewN | apply below_drew1) | exact HB.out)) hB)
    clear HB
    have HB := HB2
    clear HB2
    clear hB HBITS
    obtain ⟨Aq, cq, rfl, hcq, hCq⟩ := Kd.S_reads hS
    have HQ := Aside0.mk hCq
    clear hS hCq
    have HL := Aside0.mk (Below.refl w2.heap.size w2)
    obtain ⟨ad, news, rfl, hnl, hnc, hn1, hnr⟩ := rows_of HQ.out (by omega)
    have HNR := Aside0.mk hnr
    clear hnr
    go_upto_if 53 with (first | ((with_reducible refine gate_builtin (b := .append) (xs := #[.const (.slice none 0 0), .tmp 49]) rfl ?_); at_builtin; refine wpList_append_lies _ rfl (.const (.slice none 0 0)) (.tmp 49) 32 rfl w2.heap.size 36 iR (.slice none 0 0) 1 24 Try.underlying32 hiR hzR hsR hbR rfl (by decide) (.slice none 0 0) 0 [] rfl ⟨rfl, .inl ⟨rfl, rfl⟩⟩ ad q.length cq news rfl (by omega) hnc hn1 (by omega) (by unfold maxLen; omega) (by omega) (by simp) _ rfl ?_; intro gm cm wm hown hgrow hat hgl; rw [Nat.zero_add] at hown ⊢; rw [List.nil_append] at hown))
    have hLm : Below w2.heap.size w2 wm := ⟨hgrow.os, hgrow.tape, hgrow.output, hgrow.size, fun k hk => hgrow.block k hk (by simp [Value.ownBlock])⟩
    have hq20 : q.length ≤ 20 := by omega
    have HTM := Aside0.mk (copy_tab hq20 hnl hLm hown HNR.out)
    obtain ⟨r0, hq0, hr0⟩ : ∃ r0, q[0]? = some r0 ∧ r0.length = q.length := ⟨q[0]'hq1, List.getElem?_eq_getElem hq1, HTAB.out.2 _ (List.getElem_mem _)⟩
    obtain ⟨A0, c0, e0, hc00, hC0⟩ := HNR.out 0 r0 hq0
    obtain ⟨ad0, rfl, -⟩ := hC0.2.2 (by omega)
    have HC0 := Aside0.mk hC0
    have HOWN := Aside0.mk hown
    have HNL := Aside0.mk hnl
    clear HL hnc hn1 hat hgrow hC0
    have HL := Aside0.mk hLm
    have hx0 : wm.cell? ⟨gm, 0, none⟩ = some (.slice (some ad0) q.length c0) := by rw [HOWN.out.cellAt 0 (by omega), e0, hr0]
    rw [hr0] at hc00
    clear hown hnl e0 hLm
    go_cut [] (fun wc => Aside0 (Below w2.heap.size w2 wc) ∧ Aside0 (TabV wc (.slice (some ⟨gm, 0, none⟩) q.length cm)))
    case first =>
      cases hc4 : (cut % 4 == 0) with
      | false =>
        go_wp2
        go_meet
        case rel => exact ⟨⟨(by repeat (first | (with_reducible first | exact HL.out | apply below_alloc | apply pw_below_drewN | apply below_drew1) | exact HL.out))⟩, ⟨HTM.out.below (by repeat (first | exact Below.refl _ _ | apply below_alloc | apply pw_below_drewN | apply below_drew1))⟩⟩
      | true =>
        have hn0 : (q.length : Int) ≠ 0 := by omega
        obtain ⟨i, hi⟩ := Int.eq_ofNat_of_zero_le (Int.emod_nonneg (cut / 4) hn0)
        have hil : i < q.length := by have := Int.emod_lt_of_pos (cut / 4) (show 0 < (q.length : Int) by omega); omega
        obtain ⟨Vi, hVi⟩ : ∃ Vi, wm.cell? ⟨gm, i, none⟩ = some Vi := ⟨_, (HOWN.out.cellAt i (by omega)).trans (List.getElem?_eq_getElem (by rw [HNL.out]; exact hil))⟩
        have hzi : wm.frozen? ⟨gm, i, none⟩ = false := HOWN.out.frozenAt i
        have HSET : Aside0 (∀ (m : Nat), m = q.length - 1 → TabV (wm.setCell ⟨gm, i, none⟩ (.slice (some ad0) m c0)) (.slice (some ⟨gm, 0, none⟩) q.length cm)) := ⟨fun m hm => by
          subst hm
          have ho : wm.ownsRow w2.heap.size 36 1 (.slice (some ⟨gm, 0, none⟩) q.length cm) q.length news := HOWN.out
          have hg2 : w2.heap.size ≤ gm := by
            obtain ⟨g', cap', hv, hb, _⟩ := ho.form (by omega)
            simp only [Value.slice.injEq, Option.some.injEq, Addr.mk.injEq] at hv
            omega
          exact copy_tab2 hq20 HNL.out (below_set (by repeat (first | exact HL.out | apply pw_below_drewN)) hg2) (ho.stored i _).1 HNR.out hil HC0.out (by omega) (by omega)⟩
        have HBF : Aside0 (∀ (v : Value), Below w2.heap.size w2 (wm.setCell ⟨gm, i, none⟩ v)) := ⟨fun v => by
          have hg2 : w2.heap.size ≤ gm := by
            obtain ⟨g', cap', hv, hb, _⟩ := HOWN.out.form (by omega)
            simp only [Value.slice.injEq, Option.some.injEq, Addr.mk.injEq] at hv
            omega
          exact below_set (by repeat (first | (with_reducible first | exact HL.out | apply below_alloc | apply pw_below_drewN | apply below_drew1) | exact HL.out)) hg2⟩
        clear HL HTM
        go_upto_region 8 with (fail)
        go_region
        all_goals
          go_wp2
          go_meet
          case rel => exact ⟨⟨by repeat (first | exact HBF.out _ | apply below_alloc | apply pw_below_drewN | apply below_drew1)⟩, ⟨(HSET.out _ rfl).below (by repeat (first | exact Below.refl _ _ | apply below_alloc | apply pw_below_drewN | apply below_drew1))⟩⟩
    case rest =>
      clear HL HTM hx0 HC0 HOWN HNR
      obtain ⟨HL, HTM⟩ := hcut
      have HB3 := Aside0.mk (below_step (by repeat (first | (with_reducible first | exact HB.out | apply below_alloc | apply pw_below_drewN | apply below_drew1) | exact HB.out)) HL.out)
      clear HB
      have HB := HB3
      clear HB3
      have HT0 : Aside0 (TabV wc (.slice A q0.length cA)) := ⟨A, cA, q0, rfl, hcA, hq020, Kd.C_below HRAW.out HL.out⟩
      have HT1 : Aside0 (TabV wc (.slice (some ad) q.length cq)) := ⟨some ad, cq, q, rfl, hcq, hq20, Kd.C_below HQ.out HL.out⟩
      have HLL2 := Aside0.mk (Kd.C_below HLL.out HL.out)
      clear HRAW HQ HTAB HL HLL HNL
      obtain ⟨wq, hwq⟩ : ∃ wq : World, wq = wc := ⟨_, rfl⟩
      go_wp2_with fail
      go_loopw [74] (fun i wr => ∃ d : Nat, d ≤ 3 ∧ i = .int .i64 (d : Int) ∧ Aside0 (Below w.heap.size w wr) ∧ Aside0 (wr.heap[wq.heap.size]? = some (.cells #[.slice A q0.length cA, .slice (some ad) q.length cq, .slice (some ⟨gm, 0, none⟩) q.length cm] 32 (0, 0))) ∧ Aside0 (TabV wr (.slice A q0.length cA) ∧ TabV wr (.slice (some ad) q.length cq) ∧ TabV wr (.slice (some ⟨gm, 0, none⟩) q.length cm)) ∧ Aside0 (Kd.C (Kd.int .i64) wr Al l.length l)) (fun i _ => 3 - (intOf i).toNat)
      case atStart => exact ⟨0, by omega, rfl, ⟨(by repeat (first | (with_reducible first | exact HB.out | apply below_alloc | apply pw_below_drewN | apply below_drew1) | exact HB.out))⟩, ⟨by rw [hwq]; exact heap_new _ _⟩, ⟨HT0.out.below (by repeat (first | exact Below.refl _ _ | apply below_alloc | apply pw_below_drewN | apply below_drew1)), HT1.out.below (by repeat (first | exact Below.refl _ _ | apply below_alloc | apply pw_below_drewN | apply below_drew1)), HTM.out.below (by repeat (first | exact Below.refl _ _ | apply below_alloc | apply pw_below_drewN | apply below_drew1))⟩, ⟨Kd.C_below HLL2.out (by repeat (first | exact Below.refl _ _ | apply below_alloc | apply pw_below_drewN | apply below_drew1))⟩⟩
      case round =>
        clear HB HT0 HT1 HTM HLL2
        obtain ⟨d, hd, rfl, HB2, HG2, HT3, HLL⟩ := hrel
        by_cases hlt : d < 3
        · obtain ⟨v, hv, hT⟩ : ∃ v, wr.cell? ⟨wq.heap.size, d, none⟩ = some v ∧ TabV wr v := by
            rw [blk_cell HG2.out]
            rcases (by omega : d = 0 ∨ d = 1 ∨ d = 2) with rfl | rfl | rfl
            · exact ⟨_, rfl, HT3.out.1⟩
            · exact ⟨_, rfl, HT3.out.2.1⟩
            · exact ⟨_, rfl, HT3.out.2.2⟩
          obtain ⟨Az, cz, z, rfl, hcz, hz20, hCz⟩ := hT
          rw [hwq] at hv
          have HZ2 := Aside0.mk hCz
          have HSQ := Aside0.mk (r2_o_sq z hz20)
          have HRE := Aside0.mk (r2_o_refl z hz20)
          have HAN := Aside0.mk (r2_o_anti z hz20)
          have HTR := Aside0.mk (r2_o_tran z hz20)
          clear hCz
          go_wp2_with fail
          refine (order_Square.calls (z.length + 1) Az cz z _ _ (Kd.C_below HZ2.out (by repeat (first | exact Below.refl _ _ | apply below_alloc | apply pw_below_drewN | apply below_drew1))) hcz HSQ.out.1).mono ?_
          rintro e w' ⟨rfl, ⟨nd, rfl⟩⟩
          go_wp2_with fail
          refine (confidantref2_Square.calls 100 Az cz z _ _ (Kd.C_below HZ2.out (by repeat (first | exact Below.refl _ _ | apply below_alloc | apply pw_below_drewN | apply below_drew1))) hcz HSQ.out.2).mono ?_
          rintro e w' ⟨rfl, ⟨nd, rfl⟩⟩
          go_wp2_with fail
          refine (order_Reflexive.calls Az cz z _ _ (Kd.C_below HZ2.out (by repeat (first | exact Below.refl _ _ | apply below_alloc | apply pw_below_drewN | apply below_drew1))) hcz HRE.out.1).mono ?_
          rintro e w9 ⟨rfl, hB⟩
          have HZ3 := Aside0.mk (Kd.C_below HZ2.out (below_step (by repeat (first | exact Below.refl _ _ | apply below_alloc | apply pw_below_drewN | apply below_drew1)) hB))
          have HG3 := Aside0.mk (blk_below (below_step (by repeat (first | exact Below.refl _ _ | apply below_alloc | apply pw_below_drewN | apply below_drew1)) hB) HG2.out)
          have HT4 := Aside0.mk (And.intro (HT3.out.1.below (below_step (by repeat (first | exact Below.refl _ _ | apply below_alloc | apply pw_below_drewN | apply below_drew1)) hB)) (And.intro (HT3.out.2.1.below (below_step (by repeat (first | exact Below.refl _ _ | apply below_alloc | apply pw_below_drewN | apply below_drew1)) hB)) (HT3.out.2.2.below (below_step (by repeat (first | exact Below.refl _ _ | apply below_alloc | apply pw_below_drewN | apply below_drew1)) hB))))
          have HB3 := Aside0.mk (below_step (by repeat (first | exact HB2.out | apply below_alloc | apply pw_below_drewN | apply below_drew1)) hB)
          have HLL2 := Aside0.mk (Kd.C_below HLL.out (below_step (by repeat (first | exact Below.refl _ _ | apply below_alloc | apply pw_below_drewN | apply below_drew1)) hB))
          clear HZ2 HG2 HT3 HB2 HLL hB
          have HZ2 := HZ3
          have HG2 := HG3
          have HT3 := HT4
          have HB2 := HB3
          have HLL := HLL2
          clear HZ3 HG3 HT4 HB3 HLL2
          go_wp2_with fail
          refine (confidantref2_Reflexive.calls 100 Az cz z _ _ (Kd.C_below HZ2.out (by repeat (first | exact Below.refl _ _ | apply below_alloc | apply pw_below_drewN | apply below_drew1))) hcz HRE.out.2).mono ?_
          rintro e w' ⟨rfl, ⟨nd, rfl⟩⟩
          go_wp2_with fail
          refine (order_Antisymmetric.calls Az cz z _ _ (Kd.C_below HZ2.out (by repeat (first | exact Below.refl _ _ | apply below_alloc | apply pw_below_drewN | apply below_drew1))) hcz HAN.out.1).mono ?_
          rintro e w9 ⟨rfl, hB⟩
          have HZ3 := Aside0.mk (Kd.C_below HZ2.out (below_step (by repeat (first | exact Below.refl _ _ | apply below_alloc | apply pw_below_drewN | apply below_drew1)) hB))
          have HG3 := Aside0.mk (blk_below (below_step (by repeat (first | exact Below.refl _ _ | apply below_alloc | apply pw_below_drewN | apply below_drew1)) hB) HG2.out)
          have HT4 := Aside0.mk (And.intro (HT3.out.1.below (below_step (by repeat (first | exact Below.refl _ _ | apply below_alloc | apply pw_below_drewN | apply below_drew1)) hB)) (And.intro (HT3.out.2.1.below (below_step (by repeat (first | exact Below.refl _ _ | apply below_alloc | apply pw_below_drewN | apply below_drew1)) hB)) (HT3.out.2.2.below (below_step (by repeat (first | exact Below.refl _ _ | apply below_alloc | apply pw_below_drewN | apply below_drew1)) hB))))
          have HB3 := Aside0.mk (below_step (by repeat (first | exact HB2.out | apply below_alloc | apply pw_below_drewN | apply below_drew1)) hB)
          have HLL2 := Aside0.mk (Kd.C_below HLL.out (below_step (by repeat (first | exact Below.refl _ _ | apply below_alloc | apply pw_below_drewN | apply below_drew1)) hB))
          clear HZ2 HG2 HT3 HB2 HLL hB
          have HZ2 := HZ3
          have HG2 := HG3
          have HT3 := HT4
          have HB2 := HB3
          have HLL := HLL2
          clear HZ3 HG3 HT4 HB3 HLL2
          go_wp2_with fail
          refine (confidantref2_Antisymmetric.calls 400 Az cz z _ _ (Kd.C_below HZ2.out (by repeat (first | exact Below.refl _ _ | apply below_alloc | apply pw_below_drewN | apply below_drew1))) hcz HAN.out.2).mono ?_
          rintro e w' ⟨rfl, ⟨nd, rfl⟩⟩
          go_wp2_with fail
          refine (order_Transitive.calls Az cz z _ _ (Kd.C_below HZ2.out (by repeat (first | exact Below.refl _ _ | apply below_alloc | apply pw_below_drewN | apply below_drew1))) hcz HTR.out.1).mono ?_
          rintro e w9 ⟨rfl, hB⟩
          have HZ3 := Aside0.mk (Kd.C_below HZ2.out (below_step (by repeat (first | exact Below.refl _ _ | apply below_alloc | apply pw_below_drewN | apply below_drew1)) hB))
          have HG3 := Aside0.mk (blk_below (below_step (by repeat (first | exact Below.refl _ _ | apply below_alloc | apply pw_below_drewN | apply below_drew1)) hB) HG2.out)
          have HT4 := Aside0.mk (And.intro (HT3.out.1.below (below_step (by repeat (first | exact Below.refl _ _ | apply below_alloc | apply pw_below_drewN | apply below_drew1)) hB)) (And.intro (HT3.out.2.1.below (below_step (by repeat (first | exact Below.refl _ _ | apply below_alloc | apply pw_below_drewN | apply below_drew1)) hB)) (HT3.out.2.2.below (below_step (by repeat (first | exact Below.refl _ _ | apply below_alloc | apply pw_below_drewN | apply below_drew1)) hB))))
          have HB3 := Aside0.mk (below_step (by repeat (first | exact HB2.out | apply below_alloc | apply pw_below_drewN | apply below_drew1)) hB)
          have HLL2 := Aside0.mk (Kd.C_below HLL.out (below_step (by repeat (first | exact Below.refl _ _ | apply below_alloc | apply pw_below_drewN | apply below_drew1)) hB))
          clear HZ2 HG2 HT3 HB2 HLL hB
          have HZ2 := HZ3
          have HG2 := HG3
          have HT3 := HT4
          have HB2 := HB3
          have HLL := HLL2
          clear HZ3 HG3 HT4 HB3 HLL2
          go_wp2_with fail
          refine (confidantref2_Transitive.calls 6000 Az cz z _ _ (Kd.C_below HZ2.out (by repeat (first | exact Below.refl _ _ | apply below_alloc | apply pw_below_drewN | apply below_drew1))) hcz HTR.out.2).mono ?_
          rintro e w' ⟨rfl, ⟨nd, rfl⟩⟩
          clear HSQ HRE HAN HTR hv
          go_upto_region 14 with (fail)
          go_cut [74, 119, 120, 121] from 74 to 230 (fun v74 v119 v120 v121 wc => v74 = .int .i64 (d : Int) ∧ v120 = .int .i64 3 ∧ v121 = .int .i64 0 ∧ ∃ (gp : Nat) (p1 p2 p3 p4 : Int), v119 = .slice (some ⟨gp, 0, none⟩) 3 3 ∧ Aside0 (wc.heap[gp]? = some (.cells #[.int .i64 a, .int .i64 b, .int .i64 p1, .int .i64 p2, .int .i64 p3, .int .i64 p4] 38 (0, 0))) ∧ Aside0 (Below w9.heap.size w9 wc))
          case first =>
            go_wp2
            go_meet
            case rel => exact ⟨rfl, rfl, rfl, _, _, _, _, _, rfl, ⟨heap_new _ _⟩, ⟨(by repeat (first | exact Below.refl _ _ | apply below_alloc | apply pw_below_drewN | apply below_drew1))⟩⟩
          case rest =>
            obtain ⟨rfl, rfl, rfl, gp, p1, p2, p3, p4, rfl, HP, HL⟩ := hcut
            have hB := HL.out
            clear HL
            have HZ3 := Aside0.mk (Kd.C_below HZ2.out (below_step (by repeat (first | exact Below.refl _ _ | apply below_alloc | apply pw_below_drewN | apply below_drew1)) hB))
            have HG3 := Aside0.mk (blk_below (below_step (by repeat (first | exact Below.refl _ _ | apply below_alloc | apply pw_below_drewN | apply below_drew1)) hB) HG2.out)
            have HT4 := Aside0.mk (And.intro (HT3.out.1.below (below_step (by repeat (first | exact Below.refl _ _ | apply below_alloc | apply pw_below_drewN | apply below_drew1)) hB)) (And.intro (HT3.out.2.1.below (below_step (by repeat (first | exact Below.refl _ _ | apply below_alloc | apply pw_below_drewN | apply below_drew1)) hB)) (HT3.out.2.2.below (below_step (by repeat (first | exact Below.refl _ _ | apply below_alloc | apply pw_below_drewN | apply below_drew1)) hB))))
            have HB3 := Aside0.mk (below_step (by repeat (first | exact HB2.out | apply below_alloc | apply pw_below_drewN | apply below_drew1)) hB)
            have HLL2 := Aside0.mk (Kd.C_below HLL.out (below_step (by repeat (first | exact Below.refl _ _ | apply below_alloc | apply pw_below_drewN | apply below_drew1)) hB))
            clear HZ2 HG2 HT3 HB2 HLL hB
            have HZ2 := HZ3
            have HG2 := HG3
            have HT3 := HT4
            have HB2 := HB3
            have HLL := HLL2
            clear HZ3 HG3 HT4 HB3 HLL2
            go_wp2_with fail
            go_loopw [121] (fun i wr => ∃ m : Nat, m ≤ 3 ∧ i = .int .i64 (m : Int) ∧ Aside0 (Below w.heap.size w wr) ∧ Aside0 (wr.heap[wq.heap.size]? = some (.cells #[.slice A q0.length cA, .slice (some ad) q.length cq, .slice (some ⟨gm, 0, none⟩) q.length cm] 32 (0, 0))) ∧ Aside0 (TabV wr (.slice A q0.length cA) ∧ TabV wr (.slice (some ad) q.length cq) ∧ TabV wr (.slice (some ⟨gm, 0, none⟩) q.length cm)) ∧ Aside0 (Kd.C (Kd.int .i64) wr Al l.length l) ∧ Aside0 (Kd.C (Kd.slice 4 Kd.bool) wr Az z.length z) ∧ Aside0 (wr.heap[gp]? = some (.cells #[.int .i64 a, .int .i64 b, .int .i64 p1, .int .i64 p2, .int .i64 p3, .int .i64 p4] 38 (0, 0)))) (fun i _ => 3 - (intOf i).toNat)
            case atStart => exact ⟨0, by omega, rfl, ⟨HB2.out⟩, ⟨HG2.out⟩, ⟨HT3.out⟩, ⟨HLL.out⟩, ⟨HZ2.out⟩, ⟨HP.out⟩⟩
            case round =>
              clear HB2 HG2 HT3 HZ2 HLL HP
              obtain ⟨m, hm, rfl, HB2, HG2, HT3, HLL, HZ2, HP⟩ := hrel
              by_cases hlm : m < 3
              · obtain ⟨X, Y, hX, hY⟩ : ∃ X Y : Int, wr.cell? ⟨gp, m * 2, none⟩ = some (.int .i64 X) ∧ wr.cell? ⟨gp, m * 2 + 1, none⟩ = some (.int .i64 Y) := by
                  rw [blk_cell HP.out, blk_cell HP.out]
                  rcases (by omega : m = 0 ∨ m = 1 ∨ m = 2) with rfl | rfl | rfl
                  · exact ⟨_, _, rfl, rfl⟩
                  · exact ⟨_, _, rfl, rfl⟩
                  · exact ⟨_, _, rfl, rfl⟩
                obtain ⟨RU, hu1, hu2, hu3⟩ := r2_o_up z hz20 X Y
                obtain ⟨RL, hl1, hl2, hl3⟩ := r2_o_low z hz20 X Y
                have HUP := Aside0.mk (And.intro hu1 hu2)
                have HLO := Aside0.mk (And.intro hl1 hl2)
                clear hu1 hu2 hl1 hl2
                go_upto_region 17 with (fail)
                go_cut [121, 154] from 121 to 155 (fun v121 v154 wc => v121 = .int .i64 (m : Int) ∧ v154 = .bool false ∧ Aside0 (Below wr.heap.size wr wc))
                case first =>
                  have HPS := Aside0.mk (PS_start wr X Y)
                  go_region_held3 (fun w' => Below wr.heap.size wr w' ∧ w'.heap[wr.heap.size]? = some (.cells #[.int .i64 X, .int .i64 Y] 38 (0, 0)) ∧ w'.cell? ⟨wr.heap.size, 0, none⟩ = some (.int .i64 X) ∧ w'.cell? ⟨wr.heap.size, 1, none⟩ = some (.int .i64 Y)) (refine PS_as HPS.out ?_ ?_ ?_ ?_ <;> rfl)
                    (first
                      | (go_at_call 34; refine (order_Upper.calls Az cz z X Y RU _ (Kd.C_below HZ2.out (by refine PSB_as HPS.out ?_ ?_ ?_ ?_ <;> rfl)) hcz HUP.out.1).mono ?_; rintro e w' ⟨v, rfl, hR, hB⟩; have HPS2 := Aside0.mk (PS_belowas HPS.out hB rfl rfl rfl rfl); clear HPS; have HPS := HPS2; clear HPS2; obtain ⟨U1, cU1, rfl, hcU1, hCU1⟩ := Kd.R_reads hR; clear hR hB)
                      | (go_at_call 35; refine (confidantref2_Upper.calls 100 Az cz z X Y RU _ (Kd.C_below HZ2.out (by refine PSB_as HPS.out ?_ ?_ ?_ ?_ <;> rfl)) hcz HUP.out.2).mono ?_; rintro e w' ⟨v, rfl, hR, hB⟩; have HPS2 := Aside0.mk (PS_belowas HPS.out hB rfl rfl rfl rfl); clear HPS; have HPS := HPS2; clear HPS2; obtain ⟨U2, cU2, rfl, hcU2, hCU2⟩ := Kd.R_reads hR; have hCU3 := Kd.C_below hCU1 hB; clear hR hB hCU1)
                      | (go_at_call 20; refine (confidanthelp_Ints.calls 400 U1 cU1 _ U2 cU2 _ true _ hCU3 hcU1 hCU2 hcU2 (r2_Ints _ (by omega) 400 (by omega))).mono ?_; rintro e w' ⟨rfl, ⟨nd, rfl⟩⟩; have HPS2 := Aside0.mk (PS_drawn HPS.out nd); clear HPS; have HPS := HPS2; clear HPS2; clear hCU3 hCU2)
                      | (go_at_call 36; refine (order_Lower.calls Az cz z X Y RL _ (Kd.C_below HZ2.out (by refine PSB_as HPS.out ?_ ?_ ?_ ?_ <;> rfl)) hcz HLO.out.1).mono ?_; rintro e w' ⟨v, rfl, hR, hB⟩; have HPS2 := Aside0.mk (PS_belowas HPS.out hB rfl rfl rfl rfl); clear HPS; have HPS := HPS2; clear HPS2; obtain ⟨L1, cL1, rfl, hcL1, hCL1⟩ := Kd.R_reads hR; clear hR hB)
                      | (go_at_call 37; refine (confidantref2_Lower.calls 100 Az cz z X Y RL _ (Kd.C_below HZ2.out (by refine PSB_as HPS.out ?_ ?_ ?_ ?_ <;> rfl)) hcz HLO.out.2).mono ?_; rintro e w' ⟨v, rfl, hR, hB⟩; have HPS2 := Aside0.mk (PS_belowas HPS.out hB rfl rfl rfl rfl); clear HPS; have HPS := HPS2; clear HPS2; obtain ⟨L2, cL2, rfl, hcL2, hCL2⟩ := Kd.R_reads hR; have hCL3 := Kd.C_below hCL1 hB; clear hR hB hCL1)
                      | (go_at_call 20; refine (confidanthelp_Ints.calls 400 L1 cL1 _ L2 cL2 _ true _ hCL3 hcL1 hCL2 hcL2 (r2_Ints _ (by omega) 400 (by omega))).mono ?_; rintro e w' ⟨rfl, ⟨nd, rfl⟩⟩; have HPS2 := Aside0.mk (PS_drawn HPS.out nd); clear HPS; have HPS := HPS2; clear HPS2; clear hCL3 hCL2))
                  all_goals
                    go_wp2
                    go_meet
                    case rel => exact ⟨rfl, rfl, ⟨by refine PSB_as HPS.out ?_ ?_ ?_ ?_ <;> rfl⟩⟩
                case rest =>
                  obtain ⟨rfl, rfl, HL⟩ := hcut
                  have hB := HL.out
                  have HP2 := Aside0.mk (blk_below hB HP.out)
                  clear HL HP
                  have HZ3 := Aside0.mk (Kd.C_below HZ2.out (below_step (by repeat (first | exact Below.refl _ _ | apply below_alloc | apply pw_below_drewN | apply below_drew1)) hB))
                  have HG3 := Aside0.mk (blk_below (below_step (by repeat (first | exact Below.refl _ _ | apply below_alloc | apply pw_below_drewN | apply below_drew1)) hB) HG2.out)
                  have HT4 := Aside0.mk (And.intro (HT3.out.1.below (below_step (by repeat (first | exact Below.refl _ _ | apply below_alloc | apply pw_below_drewN | apply below_drew1)) hB)) (And.intro (HT3.out.2.1.below (below_step (by repeat (first | exact Below.refl _ _ | apply below_alloc | apply pw_below_drewN | apply below_drew1)) hB)) (HT3.out.2.2.below (below_step (by repeat (first | exact Below.refl _ _ | apply below_alloc | apply pw_below_drewN | apply below_drew1)) hB))))
                  have HB3 := Aside0.mk (below_step (by repeat (first | exact HB2.out | apply below_alloc | apply pw_below_drewN | apply below_drew1)) hB)
                  have HLL2 := Aside0.mk (Kd.C_below HLL.out (below_step (by repeat (first | exact Below.refl _ _ | apply below_alloc | apply pw_below_drewN | apply below_drew1)) hB))
                  clear HZ2 HG2 HT3 HB2 HLL hB
                  have HZ2 := HZ3
                  have HG2 := HG3
                  have HT3 := HT4
                  have HB2 := HB3
                  have HLL := HLL2
                  clear HZ3 HG3 HT4 HB3 HLL2
                  go_wp2
                  go_roundw
                  case rel => exact ⟨m + 1, by omega, by go_num, ⟨(by repeat (first | exact HB2.out | apply below_alloc | apply pw_below_drewN | apply below_drew1))⟩, ⟨blk_below (by repeat (first | exact Below.refl _ _ | apply below_alloc | apply pw_below_drewN | apply below_drew1)) HG2.out⟩, ⟨HT3.out.1.below (by repeat (first | exact Below.refl _ _ | apply below_alloc | apply pw_below_drewN | apply below_drew1)), HT3.out.2.1.below (by repeat (first | exact Below.refl _ _ | apply below_alloc | apply pw_below_drewN | apply below_drew1)), HT3.out.2.2.below (by repeat (first | exact Below.refl _ _ | apply below_alloc | apply pw_below_drewN | apply below_drew1))⟩, ⟨Kd.C_below HLL.out (by repeat (first | exact Below.refl _ _ | apply below_alloc | apply pw_below_drewN | apply below_drew1))⟩, ⟨Kd.C_below HZ2.out (by repeat (first | exact Below.refl _ _ | apply below_alloc | apply pw_below_drewN | apply below_drew1))⟩, ⟨blk_below (by repeat (first | exact Below.refl _ _ | apply below_alloc | apply pw_below_drewN | apply below_drew1)) HP2.out⟩⟩
                  case measure => simp [intOf]; omega
              · obtain rfl : m = 3 := by omega
                clear HP
                obtain ⟨w3, rfl⟩ : ∃ w3 : World, w3 = wr := ⟨_, rfl⟩
                go_wp2_with fail
                go_loopw [23, 24] (fun v23 i wr => ∃ (m : Nat) (ks : List Int), m ≤ l.length ∧ ks.length = m ∧ i = .int .i64 (m : Int) ∧ Aside0 (Kd.R (Kd.int .i64) 3 wr w3.heap.size (fun _ => True) v23 ks) ∧ Aside0 (Below w3.heap.size w3 wr)) (fun _ i _ => l.length - (intOf i).toNat)
                case atStart => exact ⟨0, [], Nat.zero_le _, rfl, rfl, ⟨Kd.R_nil _ _ _ _ _⟩, ⟨(by repeat (first | exact Below.refl _ _ | apply below_alloc | apply pw_below_drewN | apply below_drew1))⟩⟩
                case round =>
                  obtain ⟨m, ks, hm, hks, rfl, HK, HLK⟩ := hrel
                  by_cases hlm : m < l.length
                  · obtain ⟨adl, rfl, hlx⟩ := Kd.at_int (Kd.C_below HLL.out HLK.out) (m : Int) (by omega) (by omega)
                    simp only [Int.toNat_natCast] at hlx
                    obtain ⟨X, hX⟩ : ∃ X, rd l (m : Int) = X := ⟨_, rfl⟩
                    rw [hX] at hlx
                    go_wp2_with fail
                    · obtain ⟨r, hr⟩ := place_some X 1 (by decide)
                      refine (confidanthelp_Place.calls X 1 r _ hr).mono ?_
                      rintro e w' ⟨rfl, ⟨nd, rfl⟩⟩
                      go_wp2_with (first | ((with_reducible refine gate_builtin (b := .append) (xs := #[.tmp 162, .tmp 171]) rfl ?_); at_builtin; refine Kd.R_append (Kd.int .i64) (w0 := w3) w3.heap.size rfl (.tmp 162) (.tmp 171) 23 3 (.int .i64 0) 8 rfl Try.underlying23 info3 rfl (by decide) (by omega) u23 ks r [.int .i64 r] (fun _ => True) (fun _ => False) rfl rfl ?aP (fun _ hk => hk.elim) ?aF ?aO ?aB ?aS ?aL ?_; (case aP => exact rfl); (case aB => exact (by repeat (first | (with_reducible first | exact HLK.out | apply below_alloc | apply pw_below_drewN | apply below_drew1) | exact HLK.out))); (case aF => exact (fun _ _ => trivial)); (case aO => exact (by (with_reducible repeat (first | apply Kd.R_alloc | apply Kd.R_drewN | apply Kd.R_drew)); exact HK.out)); (case aS => exact (below_size (by repeat (first | (with_reducible first | exact HLK.out | apply below_alloc | apply pw_below_drewN | apply below_drew1) | exact HLK.out)))); (case aL => omega); intro v209 w4 ho hb hg hat))
                      go_roundw
                      case rel =>
                        refine ⟨_, _, _, _, _, _, _, _, _, _, _, _, _, _, _, _, _, _, _, ⟨m + 1, ks ++ [r], hlm, by simp [hks], ?_, ⟨ho⟩, ⟨hb⟩⟩, rfl⟩
                        go_num
                      case measure => simp [intOf]; omega
                    · obtain ⟨r, hr⟩ := place_some X (z.length : Int) (by omega)
                      refine (confidanthelp_Place.calls X (z.length : Int) r _ hr).mono ?_
                      rintro e w' ⟨rfl, ⟨nd, rfl⟩⟩
                      go_wp2_with (first | ((with_reducible refine gate_builtin (b := .append) (xs := #[.tmp 162, .tmp 171]) rfl ?_); at_builtin; refine Kd.R_append (Kd.int .i64) (w0 := w3) w3.heap.size rfl (.tmp 162) (.tmp 171) 23 3 (.int .i64 0) 8 rfl Try.underlying23 info3 rfl (by decide) (by omega) u23 ks r [.int .i64 r] (fun _ => True) (fun _ => False) rfl rfl ?aP (fun _ hk => hk.elim) ?aF ?aO ?aB ?aS ?aL ?_; (case aP => exact rfl); (case aB => exact (by repeat (first | (with_reducible first | exact HLK.out | apply below_alloc | apply pw_below_drewN | apply below_drew1) | exact HLK.out))); (case aF => exact (fun _ _ => trivial)); (case aO => exact (by (with_reducible repeat (first | apply Kd.R_alloc | apply Kd.R_drewN | apply Kd.R_drew)); exact HK.out)); (case aS => exact (below_size (by repeat (first | (with_reducible first | exact HLK.out | apply below_alloc | apply pw_below_drewN | apply below_drew1) | exact HLK.out)))); (case aL => omega); intro v209 w4 ho hb hg hat))
                      go_roundw
                      case rel =>
                        refine ⟨_, _, _, _, _, _, _, _, _, _, _, _, _, _, _, _, _, _, _, ⟨m + 1, ks ++ [r], hlm, by simp [hks], ?_, ⟨ho⟩, ⟨hb⟩⟩, rfl⟩
                        go_num
                      case measure => simp [intOf]; omega
                  · obtain rfl : m = l.length := by omega
                    have hB := HLK.out
                    obtain ⟨Ak, ck, rfl, hck, hCk⟩ := Kd.R_reads HK.out
                    clear HK HLK
                    have HZ3 := Aside0.mk (Kd.C_below HZ2.out (below_step (by repeat (first | exact Below.refl _ _ | apply below_alloc | apply pw_below_drewN | apply below_drew1)) hB))
                    have HG3 := Aside0.mk (blk_below (below_step (by repeat (first | exact Below.refl _ _ | apply below_alloc | apply pw_below_drewN | apply below_drew1)) hB) HG2.out)
                    have HT4 := Aside0.mk (And.intro (HT3.out.1.below (below_step (by repeat (first | exact Below.refl _ _ | apply below_alloc | apply pw_below_drewN | apply below_drew1)) hB)) (And.intro (HT3.out.2.1.below (below_step (by repeat (first | exact Below.refl _ _ | apply below_alloc | apply pw_below_drewN | apply below_drew1)) hB)) (HT3.out.2.2.below (below_step (by repeat (first | exact Below.refl _ _ | apply below_alloc | apply pw_below_drewN | apply below_drew1)) hB))))
                    have HB3 := Aside0.mk (below_step (by repeat (first | exact HB2.out | apply below_alloc | apply pw_below_drewN | apply below_drew1)) hB)
                    have HLL2 := Aside0.mk (Kd.C_below HLL.out (below_step (by repeat (first | exact Below.refl _ _ | apply below_alloc | apply pw_below_drewN | apply below_drew1)) hB))
                    clear HZ2 HG2 HT3 HB2 HLL hB
                    have HZ2 := HZ3
                    have HG2 := HG3
                    have HT3 := HT4
                    have HB2 := HB3
                    have HLL := HLL2
                    clear HZ3 HG3 HT4 HB3 HLL2
                    have HKC := Aside0.mk hCk
                    clear hCk
                    go_wp2_with fail
                    generalize Go.bits .and .i64 a 7 = X
                    generalize Go.bits .and .i64 b 7 = Y
                    obtain ⟨RU, hu1, hu2, hu3⟩ := r2_o_up z hz20 X Y
                    refine (order_Upper.calls Az cz z X Y RU _ (Kd.C_below HZ2.out (by repeat (first | exact Below.refl _ _ | apply below_alloc | apply pw_below_drewN | apply below_drew1))) hcz hu1).mono ?_
                    rintro e w9 ⟨v, rfl, hR, hB⟩
                    obtain ⟨Au, cu, rfl, hcu, hCu⟩ := Kd.R_reads hR
                    have HI1 : Aside0 (IntsV w9 (.slice Al l.length cl)) := ⟨Al, cl, l, rfl, hcl, by omega, Kd.C_below HLL.out (below_step (by repeat (first | exact Below.refl _ _ | apply below_alloc | apply pw_below_drewN | apply below_drew1)) hB)⟩
                    have HI2 : Aside0 (IntsV w9 (.slice Ak l.length ck)) := ⟨Ak, ck, ks, by rw [hks], hck, by omega, Kd.C_below HKC.out (below_step (by repeat (first | exact Below.refl _ _ | apply below_alloc | apply pw_below_drewN | apply below_drew1)) hB)⟩
                    have HI3 : Aside0 (IntsV w9 (.slice Au RU.length cu)) := ⟨Au, cu, RU, rfl, hcu, hu3, hCu⟩
                    clear hR hCu HKC
                    have HZ3 := Aside0.mk (Kd.C_below HZ2.out (below_step (by repeat (first | exact Below.refl _ _ | apply below_alloc | apply pw_below_drewN | apply below_drew1)) hB))
                    have HG3 := Aside0.mk (blk_below (below_step (by repeat (first | exact Below.refl _ _ | apply below_alloc | apply pw_below_drewN | apply below_drew1)) hB) HG2.out)
                    have HT4 := Aside0.mk (And.intro (HT3.out.1.below (below_step (by repeat (first | exact Below.refl _ _ | apply below_alloc | apply pw_below_drewN | apply below_drew1)) hB)) (And.intro (HT3.out.2.1.below (below_step (by repeat (first | exact Below.refl _ _ | apply below_alloc | apply pw_below_drewN | apply below_drew1)) hB)) (HT3.out.2.2.below (below_step (by repeat (first | exact Below.refl _ _ | apply below_alloc | apply pw_below_drewN | apply below_drew1)) hB))))
                    have HB3 := Aside0.mk (below_step (by repeat (first | exact HB2.out | apply below_alloc | apply pw_below_drewN | apply below_drew1)) hB)
                    have HLL2 := Aside0.mk (Kd.C_below HLL.out (below_step (by repeat (first | exact Below.refl _ _ | apply below_alloc | apply pw_below_drewN | apply below_drew1)) hB))
                    clear HZ2 HG2 HT3 HB2 HLL hB
                    have HZ2 := HZ3
                    have HG2 := HG3
                    have HT3 := HT4
                    have HB2 := HB3
                    have HLL := HLL2
                    clear HZ3 HG3 HT4 HB3 HLL2
                    obtain ⟨wl, hwl⟩ : ∃ wl : World, wl = w9 := ⟨_, rfl⟩
                    go_wp2_with fail
                    go_loopw [183] (fun i wr => ∃ m : Nat, m ≤ 3 ∧ i = .int .i64 (m : Int) ∧ Aside0 (Below w.heap.size w wr) ∧ Aside0 (wr.heap[wq.heap.size]? = some (.cells #[.slice A q0.length cA, .slice (some ad) q.length cq, .slice (some ⟨gm, 0, none⟩) q.length cm] 32 (0, 0))) ∧ Aside0 (TabV wr (.slice A q0.length cA) ∧ TabV wr (.slice (some ad) q.length cq) ∧ TabV wr (.slice (some ⟨gm, 0, none⟩) q.length cm)) ∧ Aside0 (Kd.C (Kd.int .i64) wr Al l.length l) ∧ Aside0 (Kd.C (Kd.slice 4 Kd.bool) wr Az z.length z) ∧ Aside0 (wr.heap[wl.heap.size]? = some (.cells #[.slice Al l.length cl, .slice Ak l.length ck, .slice Au RU.length cu] 23 (0, 0))) ∧ Aside0 (IntsV wr (.slice Al l.length cl) ∧ IntsV wr (.slice Ak l.length ck) ∧ IntsV wr (.slice Au RU.length cu))) (fun i _ => 3 - (intOf i).toNat)
                    case atStart => exact ⟨0, by omega, rfl, ⟨(by repeat (first | exact HB2.out | apply below_alloc | apply pw_below_drewN | apply below_drew1))⟩, ⟨blk_below (by repeat (first | exact Below.refl _ _ | apply below_alloc | apply pw_below_drewN | apply below_drew1)) HG2.out⟩, ⟨HT3.out.1.below (by repeat (first | exact Below.refl _ _ | apply below_alloc | apply pw_below_drewN | apply below_drew1)), HT3.out.2.1.below (by repeat (first | exact Below.refl _ _ | apply below_alloc | apply pw_below_drewN | apply below_drew1)), HT3.out.2.2.below (by repeat (first | exact Below.refl _ _ | apply below_alloc | apply pw_below_drewN | apply below_drew1))⟩, ⟨Kd.C_below HLL.out (by repeat (first | exact Below.refl _ _ | apply below_alloc | apply pw_below_drewN | apply below_drew1))⟩, ⟨Kd.C_below HZ2.out (by repeat (first | exact Below.refl _ _ | apply below_alloc | apply pw_below_drewN | apply below_drew1))⟩, ⟨by rw [hwl]; exact heap_new _ _⟩, ⟨HI1.out.below (by repeat (first | exact Below.refl _ _ | apply below_alloc | apply pw_below_drewN | apply below_drew1)), HI2.out.below (by repeat (first | exact Below.refl _ _ | apply below_alloc | apply pw_below_drewN | apply below_drew1)), HI3.out.below (by repeat (first | exact Below.refl _ _ | apply below_alloc | apply pw_below_drewN | apply below_drew1))⟩⟩
                    case round =>
                      clear HB2 HG2 HT3 HZ2 HLL HI1 HI2 HI3
                      obtain ⟨m, hm, rfl, HB2, HG2, HT3, HLL, HZ2, HGL, HI3⟩ := hrel
                      by_cases hlm : m < 3
                      · obtain ⟨v, hv, hI⟩ : ∃ v, wr.cell? ⟨wl.heap.size, m, none⟩ = some v ∧ IntsV wr v := by
                          rw [blk_cell HGL.out]
                          rcases (by omega : m = 0 ∨ m = 1 ∨ m = 2) with rfl | rfl | rfl
                          · exact ⟨_, rfl, HI3.out.1⟩
                          · exact ⟨_, rfl, HI3.out.2.1⟩
                          · exact ⟨_, rfl, HI3.out.2.2⟩
                        obtain ⟨Ay, cy, y, rfl, hcy, hy20, hCy⟩ := hI
                        rw [hwl] at hv
                        have HY := Aside0.mk hCy
                        obtain ⟨rc, rd_, hle1, hle2⟩ := r2_o_least z hz20 y hy20
                        obtain ⟨re, rf, hge1, hge2⟩ := r2_o_great z hz20 y hy20
                        have HLE := Aside0.mk (And.intro hle1 hle2)
                        have HGE := Aside0.mk (And.intro hge1 hge2)
                        clear hCy hle1 hle2 hge1 hge2
                        go_wp2_with fail
                        refine (order_Least.calls Az cz z Ay cy y _ _ _ (Kd.C_below HZ2.out (by repeat (first | exact Below.refl _ _ | apply below_alloc | apply pw_below_drewN | apply below_drew1))) hcz (Kd.C_below HY.out (by repeat (first | exact Below.refl _ _ | apply below_alloc | apply pw_below_drewN | apply below_drew1))) hcy HLE.out.1).mono ?_
                        rintro e w9 ⟨rfl, hB⟩
                        have HY2 := Aside0.mk (Kd.C_below HY.out (below_step (by repeat (first | exact Below.refl _ _ | apply below_alloc | apply pw_below_drewN | apply below_drew1)) hB))
                        have HGL2 := Aside0.mk (blk_below (below_step (by repeat (first | exact Below.refl _ _ | apply below_alloc | apply pw_below_drewN | apply below_drew1)) hB) HGL.out)
                        have HI4 := Aside0.mk (And.intro (HI3.out.1.below (below_step (by repeat (first | exact Below.refl _ _ | apply below_alloc | apply pw_below_drewN | apply below_drew1)) hB)) (And.intro (HI3.out.2.1.below (below_step (by repeat (first | exact Below.refl _ _ | apply below_alloc | apply pw_below_drewN | apply below_drew1)) hB)) (HI3.out.2.2.below (below_step (by repeat (first | exact Below.refl _ _ | apply below_alloc | apply pw_below_drewN | apply below_drew1)) hB))))
                        clear HY HGL HI3
                        have HY := HY2
                        have HGL := HGL2
                        have HI3 := HI4
                        clear HY2 HGL2 HI4
                        have HZ3 := Aside0.mk (Kd.C_below HZ2.out (below_step (by repeat (first | exact Below.refl _ _ | apply below_alloc | apply pw_below_drewN | apply below_drew1)) hB))
                        have HG3 := Aside0.mk (blk_below (below_step (by repeat (first | exact Below.refl _ _ | apply below_alloc | apply pw_below_drewN | apply below_drew1)) hB) HG2.out)
                        have HT4 := Aside0.mk (And.intro (HT3.out.1.below (below_step (by repeat (first | exact Below.refl _ _ | apply below_alloc | apply pw_below_drewN | apply below_drew1)) hB)) (And.intro (HT3.out.2.1.below (below_step (by repeat (first | exact Below.refl _ _ | apply below_alloc | apply pw_below_drewN | apply below_drew1)) hB)) (HT3.out.2.2.below (below_step (by repeat (first | exact Below.refl _ _ | apply below_alloc | apply pw_below_drewN | apply below_drew1)) hB))))
                        have HB3 := Aside0.mk (below_step (by repeat (first | exact HB2.out | apply below_alloc | apply pw_below_drewN | apply below_drew1)) hB)
                        have HLL2 := Aside0.mk (Kd.C_below HLL.out (below_step (by repeat (first | exact Below.refl _ _ | apply below_alloc | apply pw_below_drewN | apply below_drew1)) hB))
                        clear HZ2 HG2 HT3 HB2 HLL hB
                        have HZ2 := HZ3
                        have HG2 := HG3
                        have HT3 := HT4
                        have HB2 := HB3
                        have HLL := HLL2
                        clear HZ3 HG3 HT4 HB3 HLL2
                        go_wp2_with fail
                        refine (confidantref2_Least.calls 1000 Az cz z Ay cy y _ _ _ (Kd.C_below HZ2.out (by repeat (first | exact Below.refl _ _ | apply below_alloc | apply pw_below_drewN | apply below_drew1))) hcz (Kd.C_below HY.out (by repeat (first | exact Below.refl _ _ | apply below_alloc | apply pw_below_drewN | apply below_drew1))) hcy HLE.out.2).mono ?_
                        rintro e w' ⟨rfl, ⟨nd, rfl⟩⟩
                        go_wp2_with fail
                        refine (order_Greatest.calls Az cz z Ay cy y _ _ _ (Kd.C_below HZ2.out (by repeat (first | exact Below.refl _ _ | apply below_alloc | apply pw_below_drewN | apply below_drew1))) hcz (Kd.C_below HY.out (by repeat (first | exact Below.refl _ _ | apply below_alloc | apply pw_below_drewN | apply below_drew1))) hcy HGE.out.1).mono ?_
                        rintro e w9 ⟨rfl, hB⟩
                        have HY2 := Aside0.mk (Kd.C_below HY.out (below_step (by repeat (first | exact Below.refl _ _ | apply below_alloc | apply pw_below_drewN | apply below_drew1)) hB))
                        have HGL2 := Aside0.mk (blk_below (below_step (by repeat (first | exact Below.refl _ _ | apply below_alloc | apply pw_below_drewN | apply below_drew1)) hB) HGL.out)
                        have HI4 := Aside0.mk (And.intro (HI3.out.1.below (below_step (by repeat (first | exact Below.refl _ _ | apply below_alloc | apply pw_below_drewN | apply below_drew1)) hB)) (And.intro (HI3.out.2.1.below (below_step (by repeat (first | exact Below.refl _ _ | apply below_alloc | apply pw_below_drewN | apply below_drew1)) hB)) (HI3.out.2.2.below (below_step (by repeat (first | exact Below.refl _ _ | apply below_alloc | apply pw_below_drewN | apply below_drew1)) hB))))
                        clear HY HGL HI3
                        have HY := HY2
                        have HGL := HGL2
                        have HI3 := HI4
                        clear HY2 HGL2 HI4
                        have HZ3 := Aside0.mk (Kd.C_below HZ2.out (below_step (by repeat (first | exact Below.refl _ _ | apply below_alloc | apply pw_below_drewN | apply below_drew1)) hB))
                        have HG3 := Aside0.mk (blk_below (below_step (by repeat (first | exact Below.refl _ _ | apply below_alloc | apply pw_below_drewN | apply below_drew1)) hB) HG2.out)
                        have HT4 := Aside0.mk (And.intro (HT3.out.1.below (below_step (by repeat (first | exact Below.refl _ _ | apply below_alloc | apply pw_below_drewN | apply below_drew1)) hB)) (And.intro (HT3.out.2.1.below (below_step (by repeat (first | exact Below.refl _ _ | apply below_alloc | apply pw_below_drewN | apply below_drew1)) hB)) (HT3.out.2.2.below (below_step (by repeat (first | exact Below.refl _ _ | apply below_alloc | apply pw_below_drewN | apply below_drew1)) hB))))
                        have HB3 := Aside0.mk (below_step (by repeat (first | exact HB2.out | apply below_alloc | apply pw_below_drewN | apply below_drew1)) hB)
                        have HLL2 := Aside0.mk (Kd.C_below HLL.out (below_step (by repeat (first | exact Below.refl _ _ | apply below_alloc | apply pw_below_drewN | apply below_drew1)) hB))
                        clear HZ2 HG2 HT3 HB2 HLL hB
                        have HZ2 := HZ3
                        have HG2 := HG3
                        have HT3 := HT4
                        have HB2 := HB3
                        have HLL := HLL2
                        clear HZ3 HG3 HT4 HB3 HLL2
                        go_wp2_with fail
                        refine (confidantref2_Greatest.calls 1000 Az cz z Ay cy y _ _ _ (Kd.C_below HZ2.out (by repeat (first | exact Below.refl _ _ | apply below_alloc | apply pw_below_drewN | apply below_drew1))) hcz (Kd.C_below HY.out (by repeat (first | exact Below.refl _ _ | apply below_alloc | apply pw_below_drewN | apply below_drew1))) hcy HGE.out.2).mono ?_
                        rintro e w' ⟨rfl, ⟨nd, rfl⟩⟩
                        go_wp2
                        go_roundw
                        case rel => exact ⟨m + 1, by omega, by go_num, ⟨(by repeat (first | exact HB2.out | apply below_alloc | apply pw_below_drewN | apply below_drew1))⟩, ⟨blk_below (by repeat (first | exact Below.refl _ _ | apply below_alloc | apply pw_below_drewN | apply below_drew1)) HG2.out⟩, ⟨HT3.out.1.below (by repeat (first | exact Below.refl _ _ | apply below_alloc | apply pw_below_drewN | apply below_drew1)), HT3.out.2.1.below (by repeat (first | exact Below.refl _ _ | apply below_alloc | apply pw_below_drewN | apply below_drew1)), HT3.out.2.2.below (by repeat (first | exact Below.refl _ _ | apply below_alloc | apply pw_below_drewN | apply below_drew1))⟩, ⟨Kd.C_below HLL.out (by repeat (first | exact Below.refl _ _ | apply below_alloc | apply pw_below_drewN | apply below_drew1))⟩, ⟨Kd.C_below HZ2.out (by repeat (first | exact Below.refl _ _ | apply below_alloc | apply pw_below_drewN | apply below_drew1))⟩, ⟨blk_below (by repeat (first | exact Below.refl _ _ | apply below_alloc | apply pw_below_drewN | apply below_drew1)) HGL.out⟩, ⟨HI3.out.1.below (by repeat (first | exact Below.refl _ _ | apply below_alloc | apply pw_below_drewN | apply below_drew1)), HI3.out.2.1.below (by repeat (first | exact Below.refl _ _ | apply below_alloc | apply pw_below_drewN | apply below_drew1)), HI3.out.2.2.below (by repeat (first | exact Below.refl _ _ | apply below_alloc | apply pw_below_drewN | apply below_drew1))⟩⟩
                        case measure => simp [intOf]; omega
                      · obtain rfl : m = 3 := by omega
                        go_wp2
                        go_roundw
                        case rel => exact ⟨d + 1, by omega, by go_num, ⟨(by repeat (first | exact HB2.out | apply below_alloc | apply pw_below_drewN | apply below_drew1))⟩, ⟨blk_below (by repeat (first | exact Below.refl _ _ | apply below_alloc | apply pw_below_drewN | apply below_drew1)) HG2.out⟩, ⟨HT3.out.1.below (by repeat (first | exact Below.refl _ _ | apply below_alloc | apply pw_below_drewN | apply below_drew1)), HT3.out.2.1.below (by repeat (first | exact Below.refl _ _ | apply below_alloc | apply pw_below_drewN | apply below_drew1)), HT3.out.2.2.below (by repeat (first | exact Below.refl _ _ | apply below_alloc | apply pw_below_drewN | apply below_drew1))⟩, ⟨Kd.C_below HLL.out (by repeat (first | exact Below.refl _ _ | apply below_alloc | apply pw_below_drewN | apply below_drew1))⟩⟩
                        case measure => simp [intOf]; omega
        · obtain rfl : d = 3 := by omega
          go_wp2
          go_ret
          exact ⟨rfl, (by repeat (first | exact HB2.out | apply below_alloc | apply pw_below_drewN | apply below_drew1))⟩
theorem lat_u8 {a : Int} (h : (Lit.int .u8 a).wf = true) : 0 ≤ a ∧ a < 256 := by
  have h1 : IntKind.u8.min = 0 := rfl
  have h2 : IntKind.u8.max = 255 := rfl
  simp [Lit.wf] at h; omega
theorem lat_i64 {a : Int} (h : (Lit.int .i64 a).wf = true) : -9223372036854775808 ≤ a ∧ a ≤ 9223372036854775807 := by
  have h1 : IntKind.i64.min = -9223372036854775808 := rfl
  have h2 : IntKind.i64.max = 9223372036854775807 := rfl
  simp [Lit.wf] at h; omega
theorem confidantlaw2_OrderTells.row (A : Option Addr) (len cap : Nat) (q0 : List (List Bool)) (n base : Int) (Ab : Option Addr) (lb capb : Nat) (bits : List Int) (a b : Int) (Al : Option Addr) (ll capl : Nat) (l : List Int) (cut : Int) (w : World) (hC : Kd.C (Kd.slice 4 Kd.bool) w A len q0) (hcA : len ≤ cap) (hn : (Lit.int .u8 n).wf = true) (hbase : (Lit.int .u8 base).wf = true) (hCb : Kd.C (Kd.int .u64) w Ab lb bits) (hcb : lb ≤ capb) (ha : (Lit.int .i64 a).wf = true) (hb : (Lit.int .i64 b).wf = true) (hCl : Kd.C (Kd.int .i64) w Al ll l) (hcl : ll ≤ capl) (hcut : (Lit.int .u8 cut).wf = true) :
    Calls Try.prog 5 #[.slice A len cap, .int .u8 n, .int .u8 base, .slice Ab lb capb, .int .i64 a, .int .i64 b, .slice Al ll capl, .int .u8 cut] w fun e w' => e = .returned (.bool true) ∧ Below w.heap.size w w' := by
  obtain rfl : q0.length = len := hC.1
  obtain rfl : bits.length = lb := hCb.1
  obtain rfl : l.length = ll := hCl.1
  exact confidantlaw2_OrderTells.calls A cap q0 n base Ab capb bits a b Al capl l cut w hC hcA (lat_u8 hn) (lat_u8 hbase) hCb hcb (lat_i64 ha) (lat_i64 hb) hCl hcl (lat_u8 hcut)

end Go.Proofs.Ytpeeneaapmmciaa.POtells
