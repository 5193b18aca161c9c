/- The pure side of OrderBounds: Upper is in ascending order and above both, a turned table exchanges what is above and below and keeps the three properties. Conditions: none beside the statement's own. -/
import Derived.Test.YtpeeneaapmmciaaPureOrdA
import Derived.Test.YtpeeneaapmmciaaVOrderBounds
namespace Go.Proofs.Ytpeeneaapmmciaa.Pure
open Go.RowKit Go.Proofs.Ytpeeneaapmmciaa.POrd Go.Proofs.YtpeeneaapmmciaaW.PrintWords Go.Proofs.YtpeeneaapmmciaaW.PrintLast Go.Proofs.YtpeeneaapmmciaaW.PrintMore

/-- The functions at a table and at the one that is turned. -/
theorem turn_refl (n : Nat) (f : Nat → Nat → Bool) (h1 : 1 ≤ n) (h2 : n ≤ 16) : order_Reflexive.f (tabOf n fun a b => f b a) = order_Reflexive.f (tabOf n f) := by
  unfold order_Reflexive.f
  rw [tabOf_len, tabOf_len, tab_sq n _ h1 h2, tab_sq n _ h1 h2]
  congr 3
  apply allB_congr
  intro a b ha hb
  rw [tabOf_at n _ a a ha ha, tabOf_at n _ a a ha ha]

theorem turn_anti (n : Nat) (f : Nat → Nat → Bool) (h1 : 1 ≤ n) (h2 : n ≤ 16) : order_Antisymmetric.f (tabOf n fun a b => f b a) = order_Antisymmetric.f (tabOf n f) := by
  unfold order_Antisymmetric.f
  rw [tabOf_len, tabOf_len, tab_sq n _ h1 h2, tab_sq n _ h1 h2]
  congr 3
  apply allB_congr
  intro a b ha hb
  rw [tabOf_at n _ a b ha hb, tabOf_at n _ b a hb ha, tabOf_at n _ a b ha hb, tabOf_at n _ b a hb ha, Bool.or_comm (!f b a)]

theorem trB_iff (n : Nat) (f : Nat → Nat → Bool) (a b : Nat) (ha : a < n) (hb : b < n) : trB (tabOf n f) a b = true ↔ ∀ c : Nat, c < n → (f a b = true → f b c = true → f a c = true) := by
  unfold trB
  rw [List.all_eq_true, tabOf_len]
  constructor
  · intro H c hc
    have := H c (List.mem_range.2 hc)
    rw [tabOf_at n _ a b ha hb, tabOf_at n _ b c hb hc, tabOf_at n _ a c ha hc] at this
    intro h1 h2
    rw [h1, h2] at this
    simpa using this
  · intro H c hc
    have hc := List.mem_range.1 hc
    have := H c hc
    rw [tabOf_at n _ a b ha hb, tabOf_at n _ b c hb hc, tabOf_at n _ a c ha hc]
    cases h1 : f a b
    · rfl
    · cases h2 : f b c
      · rfl
      · rw [this h1 h2]; rfl

theorem turn_trans (n : Nat) (f : Nat → Nat → Bool) (h1 : 1 ≤ n) (h2 : n ≤ 16) : order_Transitive.f (tabOf n fun a b => f b a) = order_Transitive.f (tabOf n f) := by
  unfold order_Transitive.f
  rw [tabOf_len, tabOf_len, tab_sq n _ h1 h2, tab_sq n _ h1 h2]
  congr 3
  rw [Bool.eq_iff_iff, allB_iff, allB_iff]
  constructor
  · intro H a b ha hb
    rw [trB_iff n f a b ha hb]
    intro c hc x y
    exact (trB_iff n _ c b hc hb).1 (H c b hc hb) a ha y x
  · intro H a b ha hb
    rw [trB_iff n _ a b ha hb]
    intro c hc x y
    exact (trB_iff n f c b hc hb).1 (H c b hc hb) a ha y x

/-- What is above a and b. -/
def ups (n : Nat) (f : Nat → Nat → Bool) (a b : Nat) : List Int := pick n fun c => f a c.toNat && f b c.toNat

theorem inLB_two (n : Nat) (f : Nat → Nat → Bool) (h1 : 1 ≤ n) (h2 : n ≤ 16) (a b : Nat) (ha : a < n) (hb : b < n) : inLB (tabOf n f) [(a : Int), (b : Int)] = true := by
  unfold inLB
  rw [tab_sq n f h1 h2, tabOf_len]
  simp
  omega

theorem upper_eq (n : Nat) (f : Nat → Nat → Bool) (h1 : 1 ≤ n) (h2 : n ≤ 16) (a b : Nat) (ha : a < n) (hb : b < n) : order_Upper.f (tabOf n f) a b = some (ups n f a b) := by
  unfold order_Upper.f
  rw [inLB_two n f h1 h2 a b ha hb, tabOf_len, if_pos (by omega), if_pos rfl]
  congr 1
  apply pick_congr
  intro c hc
  rw [tabOf_at n f a c ha hc, tabOf_at n f b c hb hc]
  simp

theorem lower_turn (n : Nat) (f : Nat → Nat → Bool) (h1 : 1 ≤ n) (h2 : n ≤ 16) (a b : Nat) (ha : a < n) (hb : b < n) : order_Lower.f (tabOf n fun x y => f y x) a b = some (ups n f a b) := by
  unfold order_Lower.f
  rw [inLB_two n _ h1 h2 a b ha hb, tabOf_len, if_pos (by omega), if_pos rfl]
  congr 1
  apply pick_congr
  intro c hc
  rw [tabOf_at n _ c a hc ha, tabOf_at n _ c b hc hb]
  simp

theorem ups_comm (n : Nat) (f : Nat → Nat → Bool) (a b : Nat) : ups n f b a = ups n f a b := by
  unfold ups
  apply pick_congr
  intro c _
  rw [Bool.and_comm]

theorem ups_len (n : Nat) (f : Nat → Nat → Bool) (a b : Nat) : (ups n f a b).length ≤ n := pick_len _ _

theorem firstB_congr (l : List Int) (g g' : Int → Int → Bool) (h : ∀ a ∈ l, ∀ b ∈ l, g a b = g' a b) : firstB l g = firstB l g' := by
  have e : l.find? (fun a => l.all (fun b => g a b)) = l.find? (fun a => l.all (fun b => g' a b)) := by
    have aux : ∀ m : List Int, (∀ a ∈ m, a ∈ l) → m.find? (fun a => l.all (fun b => g a b)) = m.find? (fun a => l.all (fun b => g' a b)) := by
      intro m
      induction m with
      | nil => intro _; rfl
      | cons x m ih =>
        intro hm
        have hx : l.all (fun b => g x b) = l.all (fun b => g' x b) := by
          rw [Bool.eq_iff_iff, List.all_eq_true, List.all_eq_true]
          constructor
          · intro H b hb; rw [← h x (hm x (List.mem_cons_self ..)) b hb]; exact H b hb
          · intro H b hb; rw [h x (hm x (List.mem_cons_self ..)) b hb]; exact H b hb
        rw [List.find?_cons, List.find?_cons, hx, ih (fun a ha => hm a (List.mem_cons_of_mem _ ha))]
    exact aux l (fun _ h => h)
  unfold firstB
  rw [e]

theorem least_turn (n : Nat) (f : Nat → Nat → Bool) (h1 : 1 ≤ n) (h2 : n ≤ 16) (a b : Nat) :
    order_Greatest.f (tabOf n fun x y => f y x) (ups n f a b) = order_Least.f (tabOf n f) (ups n f a b) ∧ ∃ r, order_Least.f (tabOf n f) (ups n f a b) = some r := by
  have hl := ups_len n f a b
  have hin : ∀ x ∈ ups n f a b, ∃ c : Nat, x = c ∧ c < n := by
    intro x hx
    obtain ⟨c, hc, hlt, _⟩ := (pick_mem n _ x).1 hx
    exact ⟨c, hc, hlt⟩
  have e : inLB (tabOf n fun x y => f y x) (ups n f a b) = inLB (tabOf n f) (ups n f a b) := by
    unfold inLB
    rw [tab_sq n _ h1 h2, tab_sq n _ h1 h2, tabOf_len, tabOf_len]
  unfold order_Greatest.f order_Least.f
  rw [tabOf_len, tabOf_len, e]
  simp only [if_pos (show n < 4611686018427387904 by omega), if_pos (show (ups n f a b).length < 4611686018427387904 by omega)]
  refine ⟨?_, _, rfl⟩
  congr 2
  apply firstB_congr
  intro x hx y hy
  obtain ⟨c, rfl, hc⟩ := hin x hx
  obtain ⟨d, rfl, hd⟩ := hin y hy
  rw [tabOf_at n _ d c hd hc, tabOf_at n f c d hc hd]

/-- The loop over the bounds, and what follows. -/
theorem bounds_l2 (n : Nat) (f : Nat → Nat → Bool) (h1 : 1 ≤ n) (h2 : n ≤ 16) (a b : Nat) (ha : a < n) (hb : b < n) (d : Nat) :
    ∀ (k i : Nat), i + d = (ups n f a b).length → d + 20 < k → confidantlaw2_OrderBounds.l2 k (tabOf n f) (tabOf n fun x y => f y x) a b (ups n f a b) i = some true := by
  have hl := ups_len n f a b
  induction d with
  | zero =>
    intro k i hi hk
    obtain ⟨k, rfl⟩ : ∃ m, k = m + 1 := ⟨k - 1, by omega⟩
    obtain ⟨hg, r, hr⟩ := least_turn n f h1 h2 a b
    obtain ⟨t1, e1⟩ : ∃ t, order_Reflexive.f (tabOf n f) = some t := by unfold order_Reflexive.f; rw [tabOf_len, if_pos (by omega)]; exact ⟨_, rfl⟩
    obtain ⟨t2, e2⟩ : ∃ t, order_Antisymmetric.f (tabOf n f) = some t := by unfold order_Antisymmetric.f; rw [tabOf_len, if_pos (by omega)]; exact ⟨_, rfl⟩
    obtain ⟨t3, e3⟩ : ∃ t, order_Transitive.f (tabOf n f) = some t := by unfold order_Transitive.f; rw [tabOf_len, if_pos (by omega)]; exact ⟨_, rfl⟩
    simp only [confidantlaw2_OrderBounds.l2]
    rw [if_neg (by omega), hg, hr, lower_turn n f h1 h2 a b ha hb, upper_eq n f h1 h2 b a hb ha, ups_comm n f a b, turn_refl n f h1 h2, turn_anti n f h1 h2, turn_trans n f h1 h2, e1, e2, e3]
    simp only [Option.bind_some, beq_self_eq_true, if_true, ints_self (ups n f a b) (by omega) k (by omega)]
  | succ d ih =>
    intro k i hi hk
    obtain ⟨k, rfl⟩ : ∃ m, k = m + 1 := ⟨k - 1, by omega⟩
    have hlt : i < (ups n f a b).length := by omega
    obtain ⟨c, hc, hcn, hg⟩ := pick_at n (fun c => f a c.toNat && f b c.toNat) i hlt
    have hc' : rd (ups n f a b) (i : Int) = (c : Int) := hc
    simp only [Int.toNat_natCast, Bool.and_eq_true] at hg
    have lrow : ∀ x : Nat, x < n → (rd_L2 (tabOf n f) (x : Int)).length = n := fun x hx => by rw [tabOf_row n f x hx, List.length_map, List.length_range]
    have ga : rdOf false (rd_L2 (tabOf n f) (a : Int)) (c : Int) = true := (tabOf_at n f a c ha hcn).trans hg.1
    have gb : rdOf false (rd_L2 (tabOf n f) (b : Int)) (c : Int) = true := (tabOf_at n f b c hb hcn).trans hg.2
    simp only [confidantlaw2_OrderBounds.l2]
    rw [if_pos (by omega), if_pos (by omega), hc', if_neg (by omega), tabOf_len, if_neg (by omega), if_pos (by omega), if_pos (by omega), if_pos (by omega), lrow a ha, if_pos (by omega), ga, if_pos rfl, if_pos (by omega), if_pos (by omega), lrow b hb, if_pos (by omega), gb, if_pos rfl, wrap_next i n (by omega) (by omega)]
    by_cases h0 : (i : Int) > 0
    · obtain ⟨j, rfl⟩ : ∃ j, i = j + 1 := ⟨i - 1, by omega⟩
      have ew : wrap64 (((j + 1 : Nat) : Int) - 1) = (j : Int) := by unfold wrap64; omega
      have hlt2 := pick_lt n (fun c => f a c.toNat && f b c.toNat) j hlt
      have hlt3 : rd (ups n f a b) (j : Int) < (c : Int) := by
        have : rd (ups n f a b) (j : Int) < rd (ups n f a b) ((j + 1 : Nat) : Int) := hlt2
        rw [hc'] at this; exact this
      rw [if_pos h0, ew, if_pos (by omega), if_pos (by omega), if_neg (by omega)]
      exact ih k (j + 1 + 1) (by omega) (by omega)
    · rw [if_neg h0]
      exact ih k (i + 1) (by omega) (by omega)

/-- A row of the turned table, so far. -/
def turnRow (f : Nat → Nat → Bool) (x : Nat) (m : Nat) : List Bool := (List.range m).map fun y => f y x
def turned (n : Nat) (f : Nat → Nat → Bool) (m : Nat) : List (List Bool) := (List.range m).map fun x => turnRow f x n

theorem bounds_l0 (n : Nat) (f : Nat → Nat → Bool) (h1 : 1 ≤ n) (h2 : n ≤ 16) (y z : Int) (a b : Nat) (ha : a < n) (hb : b < n) (ea : Int.tmod (wrap64 y) (n : Int) = a) (eb : Int.tmod (wrap64 z) (n : Int) = b) (d : Nat) :
    ∀ (k x : Nat), x + d = n → (d + 1) * (n + 5) + 60 < k → confidantlaw2_OrderBounds.l0 k y z (tabOf n f) (turned n f x) x = some true := by
  induction d with
  | zero =>
    intro k x hx hk
    obtain ⟨k, rfl⟩ : ∃ m, k = m + 1 := ⟨k - 1, by omega⟩
    simp only [confidantlaw2_OrderBounds.l0]
    rw [tabOf_len, if_neg (show ¬ ((x : Int) < (n : Int)) by omega), if_neg (show ¬ ((n : Int) = 0) by omega), ea, eb, upper_eq n f h1 h2 a b ha hb]
    simp only [Option.bind_some]
    have et : turned n f x = tabOf n fun u v => f v u := by rw [show x = n by omega]; rfl
    rw [et]
    exact bounds_l2 n f h1 h2 a b ha hb (ups n f a b).length k 0 (by omega) (by have := ups_len n f a b; omega)
  | succ d ih =>
    intro k x hx hk
    have hk' : (d + 1) * (n + 5) + 60 + (n + 5) < k := by
      have : (d + 1 + 1) * (n + 5) = (d + 1) * (n + 5) + (n + 5) := by rw [Nat.succ_mul]
      omega
    obtain ⟨k, rfl⟩ : ∃ m, k = m + 1 := ⟨k - 1, by omega⟩
    simp only [confidantlaw2_OrderBounds.l0]
    rw [tabOf_len, if_pos (by omega)]
    have row : ∀ (e k v : Nat), v + e = n → (d + 1) * (n + 5) + 60 + 1 + e < k → confidantlaw2_OrderBounds.l1 k y z (tabOf n f) (turned n f x) x (turnRow f x v) v = some true := by
      intro e
      induction e with
      | zero =>
        intro k v hv hk
        obtain ⟨k, rfl⟩ : ∃ m, k = m + 1 := ⟨k - 1, by omega⟩
        simp only [confidantlaw2_OrderBounds.l1]
        have hl : (turned n f x).length = x := by simp [turned]
        rw [tabOf_len, if_neg (by omega), if_pos (by omega), wrap_next x n (by omega) (by omega)]
        have et : turned n f x ++ [turnRow f x v] = turned n f (x + 1) := by
          rw [show v = n by omega]; unfold turned; rw [List.range_succ, List.map_append]; rfl
        rw [et]
        exact ih k (x + 1) (by omega) (by omega)
      | succ e ihe =>
        intro k v hv hk
        obtain ⟨k, rfl⟩ : ∃ m, k = m + 1 := ⟨k - 1, by omega⟩
        have lrow : (rd_L2 (tabOf n f) (v : Int)).length = n := by rw [tabOf_row n f v (by omega), List.length_map, List.length_range]
        have hat : rdOf false (rd_L2 (tabOf n f) (v : Int)) (x : Int) = f v x := tabOf_at n f v x (by omega) (by omega)
        have hl : (turnRow f x v).length = v := by simp [turnRow]
        simp only [confidantlaw2_OrderBounds.l1]
        rw [tabOf_len, if_pos (by omega), if_pos (by omega), if_pos (by omega), lrow, if_pos (by omega), if_pos (by omega), hat, wrap_next v n (by omega) (by omega)]
        have et : turnRow f x v ++ [f v x] = turnRow f x (v + 1) := by unfold turnRow; rw [List.range_succ, List.map_append]; rfl
        rw [et]
        exact ihe k (v + 1) (by omega) (by omega)
    have := row n k 0 (by omega) (by omega)
    exact this

theorem OrderBounds : confidantlaw2_OrderBounds.Pure := by
  intro a0 a1 l2 a3 a4 h0 h1 _ _ _ h3 h4
  have h0 := wf_u8 h0
  have h1 := wf_u8 h1
  have h3 := wf_u8 h3
  have h4 := wf_u8 h4
  refine ⟨300, ?_⟩
  have hk : confidantlaw2_known.f 300 = some true := by decide +kernel
  unfold confidantlaw2_OrderBounds.f confidantlaw2_table.f
  rw [hk, if_pos h0, if_pos h1]
  simp only [Option.bind_some, if_true]
  have hn : (a0 % 6).toNat + 1 ≤ 6 := by omega
  have hn1 : 1 ≤ (a0 % 6).toNat + 1 := by omega
  generalize (a0 % 6).toNat + 1 = n at hn hn1 ⊢
  · have hm : ∀ z : Int, 0 ≤ z ∧ z < 256 → ∃ a : Nat, a < n ∧ Int.tmod (wrap64 z) (n : Int) = a := by
      intro z hz
      have e : wrap64 z = z := by unfold wrap64; omega
      rw [e, Int.tmod_eq_emod_of_nonneg hz.1]
      have p1 := Int.emod_nonneg z (show (n : Int) ≠ 0 by omega)
      have p2 := Int.emod_lt_of_pos z (show (0 : Int) < n by omega)
      exact ⟨(z % n).toNat, by omega, by omega⟩
    obtain ⟨a, ha, ea⟩ := hm a3 h3
    obtain ⟨b, hb, eb⟩ := hm a4 h4
    have hmul : (n + 1) * (n + 5) ≤ 7 * 11 := Nat.mul_le_mul (by omega) (by omega)
    exact bounds_l0 n _ hn1 (by omega) a3 a4 a b ha hb ea eb n 300 0 (by omega) (by omega)

end Go.Proofs.Ytpeeneaapmmciaa.Pure
