/- Contracts of functions of the program, proved in a small separation logic. Conditions: those that each theorem states. -/
import Derived.Test.YtcgjmlapmdbnmaaQueue1
namespace Go.Proofs.Ytcgjmlapmdbnmaa
open Go Go.Sl
set_option maxHeartbeats 4000000
set_option maxRecDepth 100000
set_option linter.unusedVariables false
/-! heaps, plainly -/
abbrev nah (x y : QI) : Prop := aheadQ x y = false
theorem nah_iff (x y : QI) : nah x y ↔ ¬ (x.round < y.round ∨ x.round = y.round ∧ (x.task.id < y.task.id ∨ x.task.id = y.task.id ∧ x.seq < y.seq)) := by
  unfold nah aheadQ; exact decide_eq_false_iff_not
theorem nah_trans {x y z : QI} (h : nah x y) (k : nah y z) : nah x z := by
  rw [nah_iff] at *; omega
theorem nah_asym {x y : QI} (h : aheadQ x y = true) : nah y x := by
  have := of_decide_eq_true h
  rw [nah_iff]; omega
def heapOk (q : List QI) (n : Int) : Prop := ∀ i : Int, 0 < i → i < n → nah (rd q i) (rd q ((i - 1) / 2))
def upA (q : List QI) (j : Nat) : List QI :=
  if h : j = 0 then q else if aheadQ (rd q j) (rd q ((j - 1) / 2 : Nat)) then upA (swapL q ((j - 1) / 2 : Nat) j) ((j - 1) / 2) else q
termination_by j
decreasing_by omega
theorem swapL_perm {α : Type} [Dfl α] {l : List α} {i j : Int} (hi : 0 ≤ i ∧ i < l.length) (hj : 0 ≤ j ∧ j < l.length) : (swapL l i j).Perm l := by
  have h1 : i.toNat < l.length := by omega
  have h2 : j.toNat < l.length := by omega
  unfold swapL
  rw [rd_eq h1, rd_eq h2]
  exact List.set_set_perm h1 h2
theorem up_ok : ∀ (j : Nat) (q : List QI), j < q.length → (∀ i : Int, 0 < i → i < q.length → i ≠ j → nah (rd q i) (rd q ((i - 1) / 2))) → (∀ i : Int, 0 < i → i < q.length → (i - 1) / 2 = j → 0 < j → nah (rd q i) (rd q (((j : Int) - 1) / 2))) →
    heapOk (upA q j) q.length ∧ (upA q j).Perm q := by
  intro j
  induction j using Nat.strongRecOn with
  | ind j ih =>
    intro q hj h1 h2
    unfold upA
    by_cases h0 : j = 0
    · rw [dif_pos h0]
      exact ⟨fun i hi hn => h1 i hi hn (by omega), List.Perm.refl _⟩
    rw [dif_neg h0]
    obtain ⟨i, hi⟩ : ∃ i : Nat, i = (j - 1) / 2 := ⟨_, rfl⟩
    rw [← hi]
    have hii : (i : Int) = ((j : Int) - 1) / 2 := by omega
    cases ha : aheadQ (rd q (j : Int)) (rd q (i : Int)) with
    | false =>
      rw [if_neg (by simp)]
      refine ⟨fun k hk hn => ?_, List.Perm.refl _⟩
      by_cases hkj : k = j
      · subst hkj; rw [← hii]; exact ha
      · exact h1 k hk hn hkj
    | true =>
      rw [if_pos rfl]
      have hb : nah (rd q (i : Int)) (rd q (j : Int)) := nah_asym ha
      have hr : ∀ k : Int, 0 ≤ k → rd (swapL q i j) k = if k = j then rd q i else if k = i then rd q j else rd q k := fun k hk => rd_swapL q (by omega) (by omega) hk
      have := ih i (by omega) (swapL q i j) (by rw [swapL_len]; omega) (fun k hk hn hki => by
        rw [swapL_len] at hn
        rw [hr k (by omega), hr ((k - 1) / 2) (by omega)]
        by_cases hkj : k = j
        · subst hkj
          rw [if_pos rfl, if_neg (by omega), if_pos (by omega)]; exact hb
        rw [if_neg hkj, if_neg hki]
        by_cases hp : (k - 1) / 2 = j
        · rw [if_pos hp]; rw [hii]; exact h2 k hk hn hp (by omega)
        rw [if_neg hp]
        by_cases hp2 : (k - 1) / 2 = i
        · rw [if_pos hp2]
          have := h1 k hk hn hkj
          rw [hp2] at this
          exact nah_trans this hb
        rw [if_neg hp2]
        exact h1 k hk hn hkj) (fun k hk hn hp hi0 => by
        rw [swapL_len] at hn
        rw [hr k (by omega), hr (((i : Int) - 1) / 2) (by omega), if_neg (show ¬ ((i : Int) - 1) / 2 = j by omega), if_neg (show ¬ ((i : Int) - 1) / 2 = i by omega)]
        have hii2 := h1 i (by omega) (by omega) (by omega)
        by_cases hkj : k = j
        · rw [if_pos hkj]; exact hii2
        rw [if_neg hkj, if_neg (by omega)]
        have := h1 k hk hn hkj
        rw [hp] at this
        exact nah_trans this hii2)
      rw [swapL_len] at this
      exact ⟨this.1, this.2.trans (swapL_perm (by omega) (by omega))⟩
def kidOf (q : List QI) (i n : Nat) : Nat := if 2 * i + 2 < n ∧ aheadQ (rd q (2 * i + 2 : Nat)) (rd q (2 * i + 1 : Nat)) = true then 2 * i + 2 else 2 * i + 1
def downA (q : List QI) (i n : Nat) : List QI :=
  if h : n ≤ 2 * i + 1 then q else if aheadQ (rd q (kidOf q i n)) (rd q i) then downA (swapL q i (kidOf q i n)) (kidOf q i n) n else q
termination_by n - i
decreasing_by
  unfold kidOf; split <;> omega
theorem down_ok (n : Nat) : ∀ (m i : Nat) (q : List QI), m = n - i → n ≤ q.length → i ≤ n → (∀ k : Int, 0 < k → k < n → (k - 1) / 2 ≠ i → nah (rd q k) (rd q ((k - 1) / 2))) → (∀ k : Int, 0 < k → k < n → (k - 1) / 2 = i → 0 < i → nah (rd q k) (rd q (((i : Int) - 1) / 2))) →
    heapOk (downA q i n) n ∧ (downA q i n).Perm q ∧ ∀ k : Int, n ≤ k → rd (downA q i n) k = rd q k := by
  intro m
  induction m using Nat.strongRecOn with
  | ind m ih =>
    intro i q hm hn hin h1 h2
    unfold downA
    by_cases h0 : n ≤ 2 * i + 1
    · rw [dif_pos h0]
      exact ⟨fun k hk hkn => h1 k hk hkn (by omega), List.Perm.refl _, fun _ _ => rfl⟩
    rw [dif_neg h0]
    have hk1 : kidOf q i n = 2 * i + 1 ∨ kidOf q i n = 2 * i + 2 ∧ 2 * i + 2 < n := by unfold kidOf; split <;> omega
    -- the kid that is chosen is not behind the other one
    have hk2 : ∀ c : Int, 0 < c → c < n → (c - 1) / 2 = i → nah (rd q c) (rd q (kidOf q i n)) := by
      intro c hc hcn hcp
      have hcc : c = 2 * i + 1 ∨ c = 2 * i + 2 := by omega
      unfold kidOf
      split
      · rename_i hx
        rcases hcc with rfl | rfl
        · exact nah_asym hx.2
        · rw [nah_iff]; rw [show ((2 * i + 2 : Nat) : Int) = 2 * (i : Int) + 2 from by omega]; omega
      · rename_i hx
        rcases hcc with rfl | rfl
        · rw [nah_iff]; rw [show ((2 * i + 1 : Nat) : Int) = 2 * (i : Int) + 1 from by omega]; omega
        · have : ¬ aheadQ (rd q (2 * i + 2 : Nat)) (rd q (2 * i + 1 : Nat)) = true := fun h => hx ⟨by omega, h⟩
          rw [show ((2 * i + 2 : Nat) : Int) = 2 * (i : Int) + 2 from by omega] at this
          exact Bool.eq_false_iff.2 this
    generalize hj : kidOf q i n = j at hk1 hk2 ⊢
    have hjp : ((j : Int) - 1) / 2 = i := by omega
    have hjn : j < n := by omega
    cases ha : aheadQ (rd q (j : Int)) (rd q (i : Int)) with
    | false =>
      rw [if_neg (by simp)]
      refine ⟨fun k hk hkn => ?_, List.Perm.refl _, fun _ _ => rfl⟩
      by_cases hp : (k - 1) / 2 = i
      · rw [hp]; exact nah_trans (hk2 k hk hkn hp) ha
      · exact h1 k hk hkn hp
    | true =>
      rw [if_pos rfl]
      have hb : nah (rd q (i : Int)) (rd q (j : Int)) := nah_asym ha
      have hr : ∀ k : Int, 0 ≤ k → rd (swapL q i j) k = if k = j then rd q i else if k = i then rd q j else rd q k := fun k hk => rd_swapL q (by omega) (by omega) hk
      have := ih (n - j) (by omega) j (swapL q i j) rfl (by rw [swapL_len]; omega) (by omega) (fun k hk hkn hp => by
        rw [hr k (by omega), hr ((k - 1) / 2) (by omega), if_neg hp]
        by_cases hkj : k = j
        · subst hkj
          rw [if_pos rfl, if_pos (by omega)]; exact hb
        rw [if_neg hkj]
        by_cases hki : k = i
        · subst hki
          rw [if_pos rfl, if_neg (by omega)]
          exact h2 j (by omega) (by omega) hjp (by omega)
        rw [if_neg hki]
        by_cases hp2 : (k - 1) / 2 = i
        · rw [if_pos hp2]; exact hk2 k hk hkn hp2
        · rw [if_neg hp2]; exact h1 k hk hkn hp2) (fun k hk hkn hp hj0 => by
        rw [hr k (by omega), hr (((j : Int) - 1) / 2) (by omega), if_neg (by omega), if_neg (by omega), if_neg (by omega), if_pos hjp]
        have := h1 k hk hkn (by omega)
        rw [hp] at this
        exact this)
      refine ⟨this.1, this.2.1.trans (swapL_perm (by omega) (by omega)), fun k hk => ?_⟩
      rw [this.2.2 k hk, hr k (by omega), if_neg (by omega), if_neg (by omega)]
theorem root_min {q : List QI} (h : heapOk q q.length) : ∀ k : Nat, k < q.length → nah (rd q k) (rd q 0) := by
  intro k
  induction k using Nat.strongRecOn with
  | ind k ih =>
    intro hk
    by_cases h0 : k = 0
    · subst h0; rw [nah_iff]; simp
    have h1 := h k (by omega) (by omega)
    have h2 := ih ((k - 1) / 2) (by omega) (by omega)
    rw [show (((k - 1) / 2 : Nat) : Int) = ((k : Int) - 1) / 2 from by omega] at h2
    exact nah_trans h1 h2
theorem upA_length (q : List QI) (j : Nat) (h : j < q.length) (h1 : ∀ i : Int, 0 < i → i < q.length → i ≠ j → nah (rd q i) (rd q ((i - 1) / 2))) (h2 : ∀ i : Int, 0 < i → i < q.length → (i - 1) / 2 = j → 0 < j → nah (rd q i) (rd q (((j : Int) - 1) / 2))) : (upA q j).length = q.length := (up_ok j q h h1 h2).2.length_eq
/-- One more at the end. -/
theorem rd_append_lt {α : Type} [Dfl α] (q : List α) (x : α) {i : Int} (h : i.toNat < q.length) : rd (q ++ [x]) i = rd q i := by
  rw [rd_eq (by simp; omega), rd_eq h, List.getElem_append_left]
theorem push_heap {q : List QI} (x : QI) (h : heapOk q q.length) : heapOk (upA (q ++ [x]) q.length) (q.length + 1) ∧ (upA (q ++ [x]) q.length).Perm (x :: q) := by
  have := up_ok q.length (q ++ [x]) (by simp) (fun i h0 h1 hne => by
    simp at h1
    rw [rd_append_lt q x (by omega), rd_append_lt q x (by omega)]
    exact h i h0 (by omega)) (fun i h0 h1 hp hl => by simp at h1; omega)
  rw [show ((q ++ [x]).length : Int) = (q.length : Int) + 1 from by simp] at this
  exact ⟨this.1, this.2.trans (List.perm_append_singleton x q)⟩
theorem rd0_take {α : Type} [Dfl α] (q : List α) {i : Int} {n : Nat} (h0 : 0 ≤ i) (h : i < n) : rd (q.take n) i = rd q i := by
  simp only [rd]
  rw [List.getD_eq_getElem?_getD, List.getD_eq_getElem?_getD, List.getElem?_take_of_lt (by omega)]
/-- The least is taken away. -/
theorem pop_heap {q : List QI} {n : Nat} (hn : q.length = n + 1) (h : heapOk q q.length) :
    ∃ r, downA (swapL q 0 n) 0 n = r ++ [rd q 0] ∧ r.length = n ∧ heapOk r n ∧ (rd q 0 :: r).Perm q := by
  have hr : ∀ k : Int, 0 ≤ k → rd (swapL q 0 n) k = if k = n then rd q 0 else if k = 0 then rd q n else rd q k := fun k hk => rd_swapL q (by omega) (by omega) hk
  have := down_ok n n 0 (swapL q 0 n) rfl (by rw [swapL_len]; omega) (by omega) (fun k hk hkn hp => by
    rw [hr k (by omega), hr ((k - 1) / 2) (by omega), if_neg (by omega), if_neg (by omega), if_neg (by omega), if_neg (by omega)]
    exact h k hk (by omega)) (fun k hk hkn hp h0 => by omega)
  obtain ⟨t1, t2, t3⟩ := this
  generalize downA (swapL q 0 n) 0 n = d at t1 t2 t3 ⊢
  have hdl : d.length = n + 1 := by rw [t2.length_eq, swapL_len, hn]
  have hlast : rd d n = rd q 0 := by rw [t3 n (by omega), hr n (by omega), if_pos rfl]
  have hd : d = d.take n ++ [rd q 0] := by
    have := take_rd (xs := d) (k := n) (by omega)
    rw [hlast, List.take_of_length_le (by omega)] at this
    exact this
  refine ⟨d.take n, hd, by simp; omega, fun i h0 h1 => ?_, ?_⟩
  · rw [rd0_take d (by omega) h1, rd0_take d (by omega) (by omega)]; exact t1 i h0 h1
  · refine (List.perm_append_singleton (rd q 0) (d.take n)).symm.trans ?_
    rw [← hd]
    exact t2.trans (swapL_perm (by omega) (by omega))
/-! the order in which they come out -/
abbrev sortedQ (l : List QI) : Prop := l.Pairwise fun a b => nah b a
def insQ (x : QI) : List QI → List QI
  | [] => [x]
  | y :: l => if aheadQ x y then x :: y :: l else y :: insQ x l
theorem insQ_perm (x : QI) : ∀ l, (insQ x l).Perm (x :: l)
  | [] => List.Perm.refl _
  | y :: l => by
    unfold insQ
    split
    · exact List.Perm.refl _
    · exact ((insQ_perm x l).cons y).trans (List.Perm.swap x y l)
theorem insQ_sorted (x : QI) : ∀ l, sortedQ l → sortedQ (insQ x l)
  | [], _ => by simp [insQ, sortedQ]
  | y :: l, h => by
    obtain ⟨h1, h2⟩ := List.pairwise_cons.1 h
    unfold insQ
    split
    · rename_i hx
      refine List.pairwise_cons.2 ⟨fun z hz => ?_, h⟩
      rcases List.mem_cons.1 hz with rfl | hz
      · exact nah_asym hx
      · exact nah_trans (h1 z hz) (nah_asym hx)
    · rename_i hx
      refine List.pairwise_cons.2 ⟨fun z hz => ?_, insQ_sorted x l h2⟩
      rcases List.mem_cons.1 ((insQ_perm x l).mem_iff.1 hz) with rfl | hz
      · exact Bool.eq_false_iff.2 hx
      · exact h1 z hz
theorem head_root {q : List QI} {a : QI} {l : List QI} (hp : q.Perm (a :: l)) (hs : sortedQ (a :: l)) (hq : ((a :: l).map (·.seq)).Nodup) (h : heapOk q q.length) : rd q 0 = a := by
  have hl : 0 < q.length := by rw [hp.length_eq]; simp
  have hm : rd q 0 ∈ a :: l := hp.mem_iff.1 (rd_mem (by omega) (by omega))
  have ha : a ∈ q := hp.mem_iff.2 (by simp)
  obtain ⟨k, hk, hka⟩ := List.mem_iff_getElem.1 ha
  have h1 : nah a (rd q 0) := by
    have := root_min h k hk
    rwa [rd_eq (by simpa using hk), show q[(k : Int).toNat] = q[k] from by simp, hka] at this
  rcases List.mem_cons.1 hm with h2 | h2
  · exact h2
  · have h3 := (List.pairwise_cons.1 hs).1 _ h2
    rw [nah_iff] at h1 h3
    have : a.seq = (rd q 0).seq := by omega
    rw [List.map_cons, List.nodup_cons] at hq
    exact absurd (List.mem_map.2 ⟨_, h2, this.symm⟩) hq.1
end Go.Proofs.Ytcgjmlapmdbnmaa

