/- Plain facts on square tables and on what chapter 2's functions answer at them. -/
import Derived.Test.YtpeeneaapmmciaaPOrdx4
namespace Go.Proofs.Ytpeeneaapmmciaa.Pure
open Go.RowKit Go.Proofs.Ytpeeneaapmmciaa.POrd Go.Proofs.YtpeeneaapmmciaaW.PrintWords Go.Proofs.YtpeeneaapmmciaaW.PrintLast Go.Proofs.YtpeeneaapmmciaaW.PrintMore

theorem wrap_next (i n : Nat) (h : i < n) (hn : n ≤ 4611686018427387904) : wrap64 ((i : Int) + 1) = ((i + 1 : Nat) : Int) := by unfold wrap64; omega

theorem allB_congr (n : Nat) (g g' : Int → Int → Bool) (h : ∀ a b : Nat, a < n → b < n → g a b = g' a b) : allB n g = allB n g' := by
  unfold allB
  rw [Bool.eq_iff_iff, List.all_eq_true, List.all_eq_true]
  constructor
  · intro H a ha
    have := H a ha
    rw [List.all_eq_true] at this ⊢
    intro b hb
    rw [← h a b (List.mem_range.1 ha) (List.mem_range.1 hb)]; exact this b hb
  · intro H a ha
    have := H a ha
    rw [List.all_eq_true] at this ⊢
    intro b hb
    rw [h a b (List.mem_range.1 ha) (List.mem_range.1 hb)]; exact this b hb

theorem allB_iff (n : Nat) (g : Int → Int → Bool) : allB n g = true ↔ ∀ a b : Nat, a < n → b < n → g a b = true := by
  unfold allB
  rw [List.all_eq_true]
  constructor
  · intro H a b ha hb
    exact List.all_eq_true.1 (H a (List.mem_range.2 ha)) b (List.mem_range.2 hb)
  · intro H a ha
    exact List.all_eq_true.2 fun b hb => H a b (List.mem_range.1 ha) (List.mem_range.1 hb)

theorem pick_congr (n : Nat) (g g' : Int → Bool) (h : ∀ a : Nat, a < n → g a = g' a) : pick n g = pick n g' := by
  unfold pick
  congr 1
  apply List.filter_congr
  intro x hx
  exact h x (List.mem_range.1 hx)

theorem pick_mem (n : Nat) (g : Int → Bool) (c : Int) : c ∈ pick n g ↔ ∃ x : Nat, c = x ∧ x < n ∧ g x = true := by
  unfold pick
  rw [List.mem_map]
  constructor
  · rintro ⟨x, hx, rfl⟩
    rw [List.mem_filter] at hx
    exact ⟨x, rfl, List.mem_range.1 hx.1, hx.2⟩
  · rintro ⟨x, rfl, hx, hg⟩
    exact ⟨x, List.mem_filter.2 ⟨List.mem_range.2 hx, hg⟩, rfl⟩

theorem rd_get (l : List Int) (i : Nat) (hi : i < l.length) : rd l (i : Int) = l[i] := by unfold rd; simp [hi]

theorem pick_at (n : Nat) (g : Int → Bool) (i : Nat) (hi : i < (pick n g).length) : ∃ x : Nat, rd (pick n g) (i : Int) = x ∧ x < n ∧ g x = true := by
  rw [rd_get _ _ hi]
  exact (pick_mem n g _).1 (List.getElem_mem hi)

theorem pick_sorted (n : Nat) (g : Int → Bool) : (pick n g).Pairwise (· < ·) := by
  unfold pick
  rw [List.pairwise_map]
  refine List.Pairwise.imp ?_ (List.Pairwise.filter _ (List.pairwise_lt_range))
  intro a b h
  omega

theorem pick_lt (n : Nat) (g : Int → Bool) (i : Nat) (hi : i + 1 < (pick n g).length) : rd (pick n g) (i : Int) < rd (pick n g) ((i + 1 : Nat) : Int) := by
  rw [rd_get _ _ (by omega), rd_get _ _ hi]
  exact List.pairwise_iff_getElem.1 (pick_sorted n g) i (i + 1) (by omega) hi (by omega)

theorem tab_sq (n : Nat) (f : Nat → Nat → Bool) (h1 : 1 ≤ n) (h2 : n ≤ 16) : sqB (tabOf n f) = true := by
  unfold sqB
  rw [tabOf_len]
  simp only [Bool.and_eq_true, decide_eq_true_eq, List.all_eq_true]
  refine ⟨h1, h2, fun r hr => ?_⟩
  unfold tabOf at hr
  obtain ⟨a, _, rfl⟩ := List.mem_map.1 hr
  rw [List.length_map, List.length_range]

theorem ints_refl (l : List Int) (hl : l.length ≤ 4611686018427387904) (d : Nat) : ∀ (k i : Nat), i + d = l.length → d < k → confidanthelp_Ints.l0 k l l i = some true := by
  induction d with
  | zero =>
    intro k i hi hk
    obtain ⟨k, rfl⟩ : ∃ m, k = m + 1 := ⟨k - 1, by omega⟩
    simp only [confidanthelp_Ints.l0]; rw [if_neg (by omega)]
  | succ d ih =>
    intro k i hi hk
    obtain ⟨k, rfl⟩ : ∃ m, k = m + 1 := ⟨k - 1, by omega⟩
    simp only [confidanthelp_Ints.l0]
    rw [if_pos (by omega), if_pos (by omega), if_pos (by omega), if_pos trivial, wrap_next i l.length (by omega) hl]
    exact ih k (i + 1) (by omega) (by omega)

theorem ints_self (l : List Int) (hl : l.length ≤ 4611686018427387904) (k : Nat) (hk : l.length < k) : confidanthelp_Ints.f k l l = some true := by
  unfold confidanthelp_Ints.f
  rw [if_pos rfl]
  exact ints_refl l hl l.length k 0 (by omega) hk

theorem wf_u8 {a : Int} (h : (Lit.int .u8 a).wf = true) : 0 ≤ a ∧ a < 256 := by
  have h1 : IntKind.u8.min = 0 := rfl
  have h2 : IntKind.u8.max = 255 := rfl
  simp [Lit.wf] at h; omega

theorem known2 : confidantlaw2_known.f 200 = some true := by decide +kernel

end Go.Proofs.Ytpeeneaapmmciaa.Pure
