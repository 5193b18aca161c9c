/- Contracts of functions of the program, proved in a small separation logic. Conditions: those that each theorem states. -/
import Derived.Test.YtcgjmlapmdbnmaaTPart1
namespace Go.Proofs.Ytcgjmlapmdbnmaa
open Go Go.Sl
set_option maxHeartbeats 4000000
set_option maxRecDepth 100000
set_option linter.unusedVariables false
theorem kidsB_grow {n : Nat} {p : Int} {ks : List Int} (h : kidsB n p ks = true) (hp : 0 ≤ p ∧ p < n) : kidsB ((n + 1 : Nat) : Int) p (ks ++ [(n : Int)]) = true := by
  refine kidsB_true fun k hkl => ?_
  rw [List.length_append] at hkl
  have a1 : rd (ks ++ [(n : Int)]) k = if k < ks.length then rd ks k else n := by
    rw [rd_app _ _ (by omega)]
    by_cases hk2 : k < ks.length
    · rw [if_pos (by omega), if_pos hk2]
    · have hke : k = ks.length := by simp at hkl; omega
      rw [if_neg (by omega), if_neg hk2, show (k : Int) - (ks.length : Int) = 0 by omega]; rfl
  have a2 : k ≠ 0 → rd (ks ++ [(n : Int)]) ((k : Int) - 1) = rd ks ((k : Int) - 1) := fun h0 => by
    rw [rd_app _ _ (by omega), if_pos (by simp at hkl; omega)]
  unfold kidOk
  rw [a1]
  by_cases hk2 : k < ks.length
  · have := kidsB_at h hk2
    rw [if_pos hk2]
    refine decide_eq_true ⟨by omega, by omega, ?_⟩
    by_cases h0 : k = 0
    · exact .inl h0
    · rw [a2 h0]; exact this.2.2
  · rw [if_neg hk2]
    refine decide_eq_true ⟨by omega, by omega, ?_⟩
    by_cases h0 : k = 0
    · exact .inl h0
    · rw [a2 h0]
      have hke : k = ks.length := by simp at hkl; omega
      have := kidsB_at h (k := k - 1) (by omega)
      rw [show ((k - 1 : Nat) : Int) = (k : Int) - 1 by omega] at this
      exact .inr this.2.1
/-- Where the copy of a part stands: n nodes are done, and k kids of the next. -/
structure PartI (T : List TN) (r : Int) (P : List Int) (O : List TN) (n k : Nat) : Prop where
  len : O.length = P.length
  first : rd P 0 = r
  inr : ∀ x, x ∈ P → 0 ≤ x ∧ x < T.length
  gt : ∀ x, x ∈ P → r ≤ x
  nd : P.Nodup
  flat : P = r :: ((P.take n).flatMap (fun p => (rd T p).kids) ++ (rd T (rd P n)).kids.take k)
  node : ∀ m : Nat, m < P.length → (rd O m).kind = (rd T (rd P m)).kind ∧ (rd O m).value = (rd T (rd P m)).value ∧ (rd O m).label = (rd T (rd P m)).label
  kids : ∀ m : Nat, m < P.length → (rd O m).kids.map (fun x => rd P x) = if m < n then (rd T (rd P m)).kids else if m = n then (rd T (rd P m)).kids.take k else []
  ok : ∀ m : Nat, m < P.length → kidsB P.length m (rd O m).kids = true
  cntP : ∀ j : Nat, 1 ≤ j → j < P.length → (allK O).count (j : Int) = 1
theorem PartI.fresh {T : List TN} {labels r : Int} {P : List Int} {O : List TN} {n k : Nat} (hT : TV T labels) (h : PartI T r P O n k) (hn : n < P.length) (hk : k < (rd T (rd P n)).kids.length) :
    (rd P n < rd (rd T (rd P n)).kids k ∧ rd (rd T (rd P n)).kids k < T.length) ∧ rd (rd T (rd P n)).kids k ∉ P := by
  have hpn := rd_mem (xs := P) (i := (n : Int)) (by omega) (by omega)
  have hin := h.inr _ hpn
  have hge := h.gt _ hpn
  obtain ⟨p, hp⟩ : ∃ p : Nat, rd P n = (p : Int) := ⟨(rd P n).toNat, by omega⟩
  have hc := (nodeB_F (hT.node p (by omega))).kids k (by rw [← hp]; exact hk)
  rw [← hp] at hc
  refine ⟨hc, fun hm => ?_⟩
  generalize hcc : rd (rd T (rd P n)).kids k = c at hc hm
  have h1 : (allK T).count c = 1 := by
    have := hT.cnt c.toNat (by omega) (by omega)
    rwa [show ((c.toNat : Nat) : Int) = c by omega] at this
  have h2 := count_flat (fun p => (rd T p).kids) c T.length (P.take (n + 1)) (h.nd.sublist (List.take_sublist _ _)) fun x hx => h.inr x (List.mem_of_mem_take hx)
  rw [← allK_ints, h1, take_rd hn, List.flatMap_append, List.count_append] at h2
  have h3 : (rd T (rd P n)).kids = (rd T (rd P n)).kids.take (k + 1) ++ (rd T (rd P n)).kids.drop (k + 1) := (List.take_append_drop _ _).symm
  rw [take_rd hk, hcc] at h3
  have h4 : (rd T (rd P n)).kids.count c ≥ ((rd T (rd P n)).kids.take k).count c + 1 := by
    conv => lhs; rw [h3]
    rw [List.count_append, List.count_append]
    simp
  have h5 : P.count c = ((P.take n).flatMap fun p => (rd T p).kids).count c + ((rd T (rd P n)).kids.take k).count c := by
    conv => lhs; rw [h.flat]
    rw [List.count_cons_of_ne (by omega), List.count_append]
  have h6 : 1 ≤ P.count c := List.one_le_count_iff.2 hm
  simp only [List.flatMap_cons, List.flatMap_nil, List.append_nil] at h2
  omega
theorem PartI.row {T : List TN} {r : Int} {P : List Int} {O : List TN} {n k : Nat} (h : PartI T r P O n k) (hn : n < P.length) (hk : k = (rd T (rd P n)).kids.length) : PartI T r P O (n + 1) 0 := by
  refine ⟨h.len, h.first, h.inr, h.gt, h.nd, ?_, h.node, fun m hm => ?_, h.ok, h.cntP⟩
  · have e := h.flat
    rw [hk, List.take_length] at e
    rw [List.take_zero, List.append_nil, take_rd hn, List.flatMap_append]
    simp only [List.flatMap_cons, List.flatMap_nil, List.append_nil]
    exact e
  · rw [h.kids m hm]
    by_cases h1 : m < n
    · rw [if_pos h1, if_pos (by omega)]
    rw [if_neg h1]
    by_cases h2 : m = n
    · rw [if_pos h2, if_pos (by omega), h2, hk, List.take_length]
    · rw [if_neg h2, if_neg (by omega), List.take_zero]; split <;> rfl
theorem PartI.start {T : List TN} {r : Int} (hr : 0 ≤ r ∧ r < T.length) : PartI T r [r] [⟨(rd T r).kind, (rd T r).value, (rd T r).label, []⟩] 0 0 := by
  have m0 : ∀ m : Nat, m < [r].length → m = 0 := fun m hm => by simp at hm; omega
  refine ⟨rfl, rfl, fun x hx => ?_, fun x hx => ?_, by simp, by simp, fun m hm => ?_, fun m hm => ?_, fun m hm => ?_, fun j h1 h2 => ?_⟩
  · rw [List.mem_singleton] at hx; subst hx; exact hr
  · rw [List.mem_singleton] at hx; subst hx; omega
  · obtain rfl := m0 m hm; exact ⟨rfl, rfl, rfl⟩
  · obtain rfl := m0 m hm; rfl
  · obtain rfl := m0 m hm; rfl
  · simp at h2; omega
end Go.Proofs.Ytcgjmlapmdbnmaa

