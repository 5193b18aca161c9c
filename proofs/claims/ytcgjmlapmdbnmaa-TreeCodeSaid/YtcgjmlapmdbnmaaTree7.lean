/- Contracts of functions of the program, proved in a small separation logic. Conditions: those that each theorem states. -/
import Derived.Test.YtcgjmlapmdbnmaaTree5
namespace Go.Proofs.Ytcgjmlapmdbnmaa
open Go Go.Sl
set_option maxHeartbeats 4000000
set_option maxRecDepth 100000
set_option linter.unusedVariables false
/-! trees that grow kid by kid stay right -/
def allK (T : List TN) : List Int := T.flatMap (·.kids)
theorem rd_setS {α : Type} [Dfl α] (l : List α) {i j : Int} (y : α) (hi : 0 ≤ i ∧ i < l.length) (hj : 0 ≤ j) : rd (l.set i.toNat y) j = if j = i then y else rd l j := by
  unfold rd
  rw [List.getD_eq_getElem?_getD, List.getD_eq_getElem?_getD, List.getElem?_set]
  by_cases h : j = i
  · subst h; rw [if_pos rfl, if_pos rfl, if_pos (by omega)]; rfl
  · rw [if_neg (by omega), if_neg h]
theorem rd_app {α : Type} [Dfl α] (l m : List α) {j : Int} (h0 : 0 ≤ j) : rd (l ++ m) j = if j < l.length then rd l j else rd m (j - l.length) := by
  unfold rd
  rw [List.getD_eq_getElem?_getD, List.getD_eq_getElem?_getD, List.getD_eq_getElem?_getD, List.getElem?_append]
  by_cases h : j < l.length
  · rw [if_pos h, if_pos (by omega)]
  · rw [if_neg h, if_neg (by omega), show (j - (l.length : Int)).toNat = j.toNat - l.length from by omega]
theorem rd_bump : ∀ (ks l : List Int) (j : Int), (∀ x, x ∈ ks → 0 ≤ x ∧ x < l.length) → 0 ≤ j → j < l.length → rd (bump l ks) j = rd l j + (ks.count j : Nat)
  | [], l, j, h, h0, h1 => by simp [bump]
  | a :: ks, l, j, h, h0, h1 => by
    have ha := h a (by simp)
    have hl : (bump1 l a).length = l.length := by simp [bump1]
    have ih := rd_bump ks (bump1 l a) j (fun x hx => by rw [hl]; exact h x (by simp [hx])) h0 (by rw [hl]; exact h1)
    show rd (bump (bump1 l a) ks) j = _
    rw [ih]
    unfold bump1
    rw [rd_setS l _ ha h0, List.count_cons]
    by_cases e : j = a
    · subst e; rw [if_pos rfl, if_pos (by simp)]; omega
    · rw [if_neg e, if_neg (by simp; exact fun h => e h.symm)]; omega
theorem rd_own (T : List TN) (h : ∀ x, x ∈ allK T → 0 ≤ x ∧ x < T.length) (j : Int) (h0 : 0 ≤ j) (h1 : j < T.length) : ∀ k : Nat, k ≤ T.length → rd (ownK T k) j = ((allK (T.take k)).count j : Nat)
  | 0, _ => by
    show rd (List.replicate T.length (0 : Int)) j = _
    rw [rd_eq (by simp; omega)]; simp [allK]
  | k + 1, hk => by
    rw [ownK_succ T (by omega), rd_bump _ _ _ (fun x hx => ?_) h0 (by rw [ownK_len T k (by omega)]; exact h1), rd_own T h j h0 h1 k (by omega), take_rd (by omega)]
    · unfold allK
      rw [List.flatMap_append, List.count_append]; simp
    · rw [ownK_len T k (by omega)]
      exact h x (List.mem_flatMap.2 ⟨rd T k, rd_mem (by omega) (by omega), hx⟩)
structure TV (T : List TN) (labels : Int) : Prop where
  len : 1 ≤ T.length ∧ T.length ≤ 14
  root : (rd T 0).kind = 2
  kinds : ∀ i : Nat, i < T.length → (rd T i).kind = 1 ∨ (rd T i).kind = 2 ∨ (rd T i).kind = 3
  node : ∀ i : Nat, i < T.length → nodeB T i labels = true
  cnt : ∀ j : Nat, 1 ≤ j → j < T.length → (allK T).count (j : Int) = 1
theorem TV.kin {T : List TN} {labels : Int} (h : TV T labels) : ∀ x, x ∈ allK T → 0 ≤ x ∧ x < T.length := by
  intro x hx
  obtain ⟨n, hn, hx⟩ := List.mem_flatMap.1 hx
  obtain ⟨i, hi, rfl⟩ := List.mem_iff_getElem.1 hn
  obtain ⟨k, hk, rfl⟩ := List.mem_iff_getElem.1 hx
  have F := (nodeB_F (h.node i hi)).kids k (by rw [rd_eq (by simpa using hi)]; simpa using hk)
  rw [rd_eq (xs := T) (by simpa using hi)] at F
  simp only [Int.toNat_natCast] at F
  rw [rd_eq (by simpa using hk)] at F
  simp only [Int.toNat_natCast] at F
  omega
theorem TV.right {T : List TN} {labels : Int} (h : TV T labels) : rightB T labels = true := by
  have hl := h.len
  unfold rightB
  rw [decide_eq_true (show 1 ≤ T.length ∧ T.length ≤ 64 by omega), Bool.true_and]
  rw [show (ints T.length).all (fun i => nodeB T i labels) = true from List.all_eq_true.2 fun i hi => by
    have := ints_mem.1 hi
    have := h.node i.toNat (by omega)
    rwa [show ((i.toNat : Nat) : Int) = i by omega] at this, Bool.true_and]
  refine List.all_eq_true.2 fun x hx => ?_
  obtain ⟨j, hj, rfl⟩ := List.mem_iff_getElem.1 hx
  have hol := ownK_len T T.length (Nat.le_refl _)
  have hj2 : j + 1 < T.length := by simp [hol] at hj; omega
  have := rd_own T h.kin ((j + 1 : Nat) : Int) (by omega) (by omega) T.length (Nat.le_refl _)
  rw [List.take_length, h.cnt (j + 1) (by omega) hj2, rd_eq (by rw [hol]; omega)] at this
  simp only [Int.toNat_natCast] at this
  rw [decide_eq_true_eq, List.getElem_drop]
  simp only [show 1 + j = j + 1 from by omega]
  exact this
def growT (T : List TN) (p : Int) (x : TN) : List TN := T.set p.toNat { rd T p with kids := (rd T p).kids ++ [(T.length : Int)] } ++ [x]
theorem growT_len (T : List TN) (p : Int) (x : TN) : (growT T p x).length = T.length + 1 := by simp [growT]
theorem rd_growT (T : List TN) {p : Int} (x : TN) (hp : 0 ≤ p ∧ p < T.length) {j : Int} (h0 : 0 ≤ j) (h1 : j ≤ T.length) : rd (growT T p x) j = if j = T.length then x else if j = p then { rd T p with kids := (rd T p).kids ++ [(T.length : Int)] } else rd T j := by
  unfold growT
  rw [rd_app _ _ h0, List.length_set]
  by_cases h : j = T.length
  · rw [if_neg (by omega), if_pos h, h, Int.sub_self]; rfl
  · rw [if_pos (by omega), if_neg h, rd_setS T _ hp h0]
theorem kidsB_mono {n m i : Int} (h : n ≤ m) {ks : List Int} (hk : kidsB n i ks = true) : kidsB m i ks = true :=
  kidsB_true fun k hkl => by
    have := kidsB_at hk hkl
    exact decide_eq_true (by omega)
theorem allK_grow (T : List TN) {p : Int} (hp : 0 ≤ p ∧ p < T.length) (x : TN) (hx : x.kids = []) (j : Int) : (allK (growT T p x)).count j = (allK T).count j + (if j = T.length then 1 else 0) := by
  have e1 : T = T.take p.toNat ++ rd T p :: T.drop (p.toNat + 1) := by
    have := (List.take_append_drop p.toNat T).symm
    rw [List.drop_eq_getElem_cons (by omega)] at this
    rw [rd_eq (by omega)]; exact this
  have e2 : ∀ y : TN, T.set p.toNat y = T.take p.toNat ++ y :: T.drop (p.toNat + 1) := fun y => List.set_eq_take_append_cons_drop.trans (by rw [if_pos (by omega)])
  unfold growT allK
  rw [e2]
  conv => rhs; rw [e1]
  simp only [List.flatMap_append, List.flatMap_cons, List.flatMap_nil, List.append_nil, List.count_append, hx]
  rw [← e1]
  have : List.count j [(T.length : Int)] = if j = T.length then 1 else 0 := by
    rw [List.count_singleton]
    by_cases h : j = T.length
    · rw [if_pos h, h]; simp
    · rw [if_neg h, if_neg (by simp; exact fun e => h e.symm)]
  rw [this]; omega
theorem TV.grow {T : List TN} {labels : Int} (h : TV T labels) {p : Int} (hp : 0 ≤ p ∧ p < T.length) {x : TN} (hl : T.length < 14) (hk : (rd T p).kind = 2 ∨ (rd T p).kind = 3) (h8 : (rd T p).kids.length < 8) (hx : x.kids = []) (hxk : x.kind = 1 ∨ x.kind = 2 ∨ x.kind = 3) (hxl : 0 ≤ x.label ∧ x.label < labels) : TV (growT T p x) labels := by
  have hlen := h.len
  refine ⟨by rw [growT_len]; omega, ?_, fun i hi => ?_, fun i hi => ?_, fun j h1 hj => ?_⟩
  · rw [rd_growT T x hp (by omega) (by omega), if_neg (by omega)]
    by_cases e : (0 : Int) = p
    · rw [if_pos e]; show (rd T p).kind = 2; rw [← e]; exact h.root
    · rw [if_neg e]; exact h.root
  · rw [growT_len] at hi
    rw [rd_growT T x hp (by omega) (by omega)]
    split
    · exact hxk
    · split
      · exact .inr hk
      · exact h.kinds i (by omega)
  · rw [growT_len] at hi
    unfold nodeB
    rw [growT_len, rd_growT T x hp (by omega) (by omega)]
    by_cases e : (i : Int) = T.length
    · rw [if_pos e, hx]
      rw [show kidsB ((T.length + 1 : Nat) : Int) i [] = true from rfl, decide_eq_true hxl]
      unfold kindB
      rcases hxk with k | k | k <;> rw [k] <;> rfl
    rw [if_neg e]
    by_cases e2 : (i : Int) = p
    · rw [if_pos e2]
      have hn := h.node i (by omega)
      unfold nodeB at hn
      simp only [Bool.and_eq_true] at hn
      rw [e2] at hn ⊢
      dsimp only
      rw [decide_eq_true (of_decide_eq_true hn.2.1)]
      have hkb : kindB (rd T p).kind (((rd T p).kids ++ [(T.length : Int)]).length : Nat) = true := by
        unfold kindB
        rw [if_neg (by omega), if_pos hk]
        exact decide_eq_true (by simp; omega)
      rw [hkb]
      have : kidsB ((T.length + 1 : Nat) : Int) p ((rd T p).kids ++ [(T.length : Int)]) = true := by
        refine kidsB_true fun k hkl => ?_
        rw [List.length_append] at hkl
        have a1 : rd ((rd T p).kids ++ [(T.length : Int)]) k = if k < (rd T p).kids.length then rd (rd T p).kids k else T.length := by
          rw [rd_app _ _ (by omega)]
          by_cases hk2 : k < (rd T p).kids.length
          · rw [if_pos (by omega), if_pos hk2]
          · have hke : k = (rd T p).kids.length := by simp at hkl; omega
            rw [if_neg (by omega), if_neg hk2, show (k : Int) - ((rd T p).kids.length : Int) = 0 by omega]; rfl
        have a2 : k ≠ 0 → rd ((rd T p).kids ++ [(T.length : Int)]) ((k : Int) - 1) = rd (rd T p).kids ((k : Int) - 1) := fun h0 => by
          rw [rd_app _ _ (by omega), if_pos (by simp at hkl; omega)]
        unfold kidOk
        rw [a1]
        by_cases hk2 : k < (rd T p).kids.length
        · have := kidsB_at hn.1 hk2
          rw [if_pos hk2]
          refine decide_eq_true ⟨by omega, by omega, ?_⟩
          by_cases h0 : k = 0
          · exact .inl h0
          · rw [a2 h0]; exact this.2.2
        · rw [if_neg hk2]
          refine decide_eq_true ⟨by omega, by omega, ?_⟩
          by_cases h0 : k = 0
          · exact .inl h0
          · rw [a2 h0]
            have hke : k = (rd T p).kids.length := by simp at hkl; omega
            have := kidsB_at hn.1 (k := k - 1) (by omega)
            rw [show ((k - 1 : Nat) : Int) = (k : Int) - 1 by omega] at this
            exact .inr this.2.1
      rw [this]; rfl
    · rw [if_neg e2]
      have hn := h.node i (by omega)
      unfold nodeB at hn
      simp only [Bool.and_eq_true] at hn
      rw [kidsB_mono (by omega) hn.1, hn.2.1, hn.2.2]; rfl
  · rw [growT_len] at hj
    rw [allK_grow T hp x hx]
    by_cases e : (j : Int) = T.length
    · rw [if_pos e, e, List.count_eq_zero.2 fun hm => by have := h.kin _ hm; omega]
    · rw [if_neg e, h.cnt j h1 (by omega)]
theorem TV.one (labels : Int) (h : 1 ≤ labels) : TV [⟨2, 0, 0, []⟩] labels := by
  refine ⟨by simp, rfl, fun i hi => ?_, fun i hi => ?_, fun j h1 h2 => by simp at h2; omega⟩
  · have : i = 0 := by simp at hi; omega
    subst this; exact .inr (.inl rfl)
  · have : i = 0 := by simp at hi; omega
    subst this
    unfold nodeB
    show (true && (decide ((0 : Int) ≤ 0 ∧ 0 < labels) && true)) = true
    rw [decide_eq_true (by omega)]; rfl
end Go.Proofs.Ytcgjmlapmdbnmaa

