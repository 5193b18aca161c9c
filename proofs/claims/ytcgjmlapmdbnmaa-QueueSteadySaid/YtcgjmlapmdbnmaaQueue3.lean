/- Contracts of functions of the program, proved in a small separation logic. Conditions: those that each theorem states. -/
import Derived.Test.YtcgjmlapmdbnmaaQueue2
namespace Go.Proofs.Ytcgjmlapmdbnmaa
open Go Go.Sl
set_option maxHeartbeats 4000000
set_option maxRecDepth 100000
set_option linter.unusedVariables false
abbrev hpV (p : Nat) : Value := .iface 113 (.pointer (some ⟨p, 0, none⟩))
abbrev hpH (p : Nat) (v : Value) (n : Int) (l : List S_queue_item) (q : List QI) : List HProp := [cel p 111 [v, .int .i64 n], sl e_queue_item v l, rel2 itC l q]
theorem swapL_comm_len {α : Type} [Dfl α] (l : List α) (i j : Int) : ((swapL l i j).length : Int) = l.length := by rw [swapL_len]
-- FN container/heap.up
theorem heap_up (p : Nat) (v : Value) (n : Int) (l : List S_queue_item) (q : List QI) (j : Nat) (hj : j < q.length) (hq : q.length ≤ 1048577) :
    Sp Try.prog 106 [hpV p, .int .i64 j] (hpH p v n l q) (fun _ : List S_queue_item => True) (fun _ => .tuple #[]) (fun l' => hpH p v n l' (upA q j)) := by
  refine Sp.intro (n := 23) Try.func106 rfl rfl fun w0 R => ?_
  dsimp only [List.cons_append, List.nil_append, envOf]
  refine go ?_
  refine Cd.loop (fun z : Nat × List S_queue_item × List QI => z.1 < z.2.2.length ∧ z.2.2.length = q.length ∧ upA z.2.2 z.1 = upA q j) (fun z => z.1) (fun z => [(0, hpV p), (1, .int .i64 z.1)]) (fun z => hpH p v n z.2.1 z.2.2 ++ R) (j, l, q) ⟨hj, rfl, rfl⟩ ?_ ?_ ?_
  · repeat(first|exact Env.le_nil _|(refine Env.le_cons rfl ?_ ?_;first|rfl|(simp;done)|exact congrArg _ (by omega)|rotate_left))
  · exact ent_
  rintro ⟨j, l, q'⟩ ⟨hjq, hl, he⟩
  dsimp only [List.cons_append, List.nil_append] at hjq hl he ⊢
  rw [upA] at he
  by_cases h0 : j = 0
  · subst h0
    rw [dif_pos rfl] at he
    refine go ?_
    refine Ol.eff rfl rfl rfl (Eff.x (Qx.quoT (by omega) (by show in64 ((-1 : Int).tdiv 2); unfold in64; decide)) ?_)
    rw [show (((0 : Nat) : Int) - 1).tdiv 2 = 0 from rfl]
    refine go ?_
    rw [decide_eq_true (show (0 : Int) = ((0 : Nat) : Int) from rfl)]
    refine go ?_
    refine Dn.fin0 rfl fun w hs => ⟨l, rfl, trivial, hs.conv ?_⟩
    rw [← he]
    exact ent_
  rw [dif_neg h0] at he
  obtain ⟨i, hi⟩ : ∃ i : Nat, i = (j - 1) / 2 := ⟨_, rfl⟩
  rw [← hi] at he
  refine go ?_
  rw [show ((j : Int) - 1) / 2 = (i : Int) from by omega]
  refine go ?_
  rw [decide_eq_false (show ¬ (i : Int) = j by omega)]
  refine go ?_
  refine Ol.eff rfl rfl rfl (Eff.invokeV (R := ?_) (items_Less v l q' j i (by omega) (by omega)) ?_ ?_)
  rotate_left
  · exact tkl_
  rintro _ -
  dsimp only [List.cons_append, List.nil_append]
  cases ha : aheadQ (rd q' (j : Int)) (rd q' (i : Int)) with
  | false =>
    rw [ha, if_neg (by simp)] at he
    refine go ?_
    refine Dn.fin0 rfl fun w hs => ⟨l, rfl, trivial, hs.conv ?_⟩
    rw [← he]
    exact ent_
  | true =>
    rw [ha, if_pos rfl] at he
    refine go ?_
    refine Ol.eff rfl rfl rfl (Eff.invokeV (R := ?_) (items_Swap v l q' i j (by omega) (by omega)) ?_ ?_)
    rotate_left
    · exact tkl_
    rintro _ -
    dsimp only [List.cons_append, List.nil_append]
    refine go ?_
    refine Dn.round (i, swapL l i j, swapL q' i j) ⟨by dsimp only; rw [swapL_len]; omega, by dsimp only; rw [swapL_len]; exact hl, he⟩ (by dsimp only; omega) ?_ ?_
    · repeat(first|exact Env.le_nil _|(refine Env.le_cons rfl ?_ ?_;first|rfl|(simp;done)|exact congrArg _ (by omega)|rotate_left))
    · exact ent_
-- FN container/heap.down
theorem heap_down (p : Nat) (v : Value) (n : Int) (l : List S_queue_item) (q : List QI) (i m : Nat) (hi : i ≤ m) (hm : m ≤ q.length) (hq : q.length ≤ 1048577) :
    Sp Try.prog 108 [hpV p, .int .i64 i, .int .i64 m] (hpH p v n l q) (fun _ : List S_queue_item × Bool => True) (fun y => .bool y.2) (fun y => hpH p v n y.1 (downA q i m)) := by
  refine Sp.intro (n := 48) Try.func108 rfl rfl fun w0 R => ?_
  dsimp only [List.cons_append, List.nil_append, envOf]
  refine go ?_
  refine Cd.loop (fun z : Nat × List S_queue_item × List QI => z.1 ≤ m ∧ z.2.2.length = q.length ∧ downA z.2.2 z.1 m = downA q i m) (fun z => m - z.1) (fun z => [(0, hpV p), (1, .int .i64 i), (2, .int .i64 m), (7, .int .i64 z.1)]) (fun z => hpH p v n z.2.1 z.2.2 ++ R) (i, l, q) ⟨hi, rfl, rfl⟩ ?_ ?_ ?_
  · repeat(first|exact Env.le_nil _|(refine Env.le_cons rfl ?_ ?_;first|rfl|(simp;done)|exact congrArg _ (by omega)|rotate_left))
  · exact ent_
  rintro ⟨j, l, q'⟩ ⟨hjq, hl, he⟩
  dsimp only [List.cons_append, List.nil_append] at hjq hl he ⊢
  rw [downA] at he
  refine go ?_
  by_cases h0 : m ≤ 2 * j + 1
  · rw [dif_pos h0] at he
    rw [decide_eq_true (show (m : Int) ≤ 2 * (j : Int) + 1 by omega)]
    refine go ?_
    refine Dn.ret1 rfl rfl fun w hs => ⟨(l, _), rfl, trivial, hs.conv ?_⟩
    rw [← he]
    exact ent_
  rw [dif_neg h0] at he
  rw [decide_eq_false (show ¬ (m : Int) ≤ 2 * (j : Int) + 1 by omega)]
  refine go ?_
  have kb : (decide (2 * j + 2 < m) && aheadQ (rd q' (2 * j + 2 : Nat)) (rd q' (2 * j + 1 : Nat))) = true ↔ kidOf q' j m = 2 * j + 2 := by
    unfold kidOf
    rw [Bool.and_eq_true, decide_eq_true_iff]
    split
    · rename_i h; exact ⟨fun _ => rfl, fun _ => h⟩
    · rename_i h; exact ⟨fun k => absurd k h, fun k => by omega⟩
  refine Ol.cutN (α := Unit) (fun _ => [(0, hpV p), (1, .int .i64 i), (2, .int .i64 m), (7, .int .i64 j), (9, .int .i64 (2 * (j : Int) + 1)), (10, .int .i64 (2 * (j : Int) + 1 + 1)), (33, .bool (decide (2 * j + 2 < m) && aheadQ (rd q' (2 * j + 2 : Nat)) (rd q' (2 * j + 1 : Nat))))]) (fun _ => hpH p v n l q' ++ R) (fun K kk => ?_) ?_
  · by_cases h1 : 2 * j + 2 < m
    · rw [decide_eq_true (show 2 * (j : Int) + 1 + 1 < (m : Int) by omega), decide_eq_true h1, Bool.true_and] at *
      refine go ?_
      refine Ol.eff rfl rfl rfl (Eff.invokeV (R := ?_) (items_Less v l q' (2 * (j : Int) + 1 + 1) (2 * (j : Int) + 1) (by omega) (by omega)) ?_ ?_)
      rotate_left
      · exact tkl_
      rintro _ -
      dsimp only [List.cons_append, List.nil_append]
      refine go ?_
      refine Dn.weak ?_ (by exact ent_) (kk ())
      rw [show ((2 * j + 2 : Nat) : Int) = 2 * (j : Int) + 1 + 1 from by omega, show ((2 * j + 1 : Nat) : Int) = 2 * (j : Int) + 1 from by omega]
      repeat(first|exact Env.le_nil _|(refine Env.le_cons rfl ?_ ?_;first|rfl|(simp;done)|exact congrArg _ (by omega)|rotate_left))
    · rw [decide_eq_false (show ¬ 2 * (j : Int) + 1 + 1 < (m : Int) by omega), decide_eq_false h1, Bool.false_and] at *
      refine go ?_
      refine Dn.weak ?_ (by exact ent_) (kk ())
      repeat(first|exact Env.le_nil _|(refine Env.le_cons rfl ?_ ?_;first|rfl|(simp;done)|exact congrArg _ (by omega)|rotate_left))
  rintro -
  dsimp only [List.cons_append, List.nil_append]
  refine go ?_
  refine Cd.cut (α := Unit) (fun _ => [(0, hpV p), (1, .int .i64 i), (2, .int .i64 m), (7, .int .i64 j), (9, .int .i64 (kidOf q' j m))]) (fun _ => hpH p v n l q' ++ R) (fun K kk => ?_) ?_
  · refine Cd.cond rfl (fun h => ?_) (fun h => ?_)
    · have hk := kb.1 h
      refine go ?_
      refine Dn.weak ?_ (by exact ent_) (kk ())
      rw [hk, show ((2 * j + 2 : Nat) : Int) = 2 * (j : Int) + 1 + 1 from by omega]
      repeat(first|exact Env.le_nil _|(refine Env.le_cons rfl ?_ ?_;first|rfl|(simp;done)|exact congrArg _ (by omega)|rotate_left))
    · have hk : kidOf q' j m = 2 * j + 1 := by
        have : ¬ kidOf q' j m = 2 * j + 2 := fun k => by rw [kb.2 k] at h; simp at h
        unfold kidOf at this ⊢; split <;> simp_all
      refine go ?_
      refine Dn.weak ?_ (by exact ent_) (kk ())
      rw [hk, show ((2 * j + 1 : Nat) : Int) = 2 * (j : Int) + 1 from by omega]
      repeat(first|exact Env.le_nil _|(refine Env.le_cons rfl ?_ ?_;first|rfl|(simp;done)|exact congrArg _ (by omega)|rotate_left))
  rintro -
  dsimp only [List.cons_append, List.nil_append]
  have hk1 : kidOf q' j m = 2 * j + 1 ∨ kidOf q' j m = 2 * j + 2 ∧ 2 * j + 2 < m := by unfold kidOf; split <;> omega
  clear kb
  generalize kidOf q' j m = k at hk1 he ⊢
  refine go ?_
  refine Ol.eff rfl rfl rfl (Eff.invokeV (R := ?_) (items_Less v l q' k j (by omega) (by omega)) ?_ ?_)
  rotate_left
  · exact tkl_
  rintro _ -
  dsimp only [List.cons_append, List.nil_append]
  cases ha : aheadQ (rd q' (k : Int)) (rd q' (j : Int)) with
  | false =>
    rw [ha, if_neg (by simp)] at he
    refine go ?_
    refine Dn.ret1 rfl rfl fun w hs => ⟨(l, _), rfl, trivial, hs.conv ?_⟩
    rw [← he]
    exact ent_
  | true =>
    rw [ha, if_pos rfl] at he
    refine go ?_
    refine Ol.eff rfl rfl rfl (Eff.invokeV (R := ?_) (items_Swap v l q' j k (by omega) (by omega)) ?_ ?_)
    rotate_left
    · exact tkl_
    rintro _ -
    dsimp only [List.cons_append, List.nil_append]
    refine go ?_
    refine Dn.round (k, swapL l j k, swapL q' j k) ⟨by dsimp only; omega, by dsimp only; rw [swapL_len]; exact hl, he⟩ (by dsimp only; omega) ?_ ?_
    · repeat(first|exact Env.le_nil _|(refine Env.le_cons rfl ?_ ?_;first|rfl|(simp;done)|exact congrArg _ (by omega)|rotate_left))
    · exact ent_
-- FN container/heap.Push
theorem heap_Push (p : Nat) (v : Value) (n : Int) (l : List S_queue_item) (q : List QI) (t : S_queue_item) (a : QI) (hq : q.length ≤ 1048576) :
    Sp Try.prog 68 [hpV p, .iface 116 (itV t)] (itC t a :: hpH p v n l q) (fun _ : Value × List S_queue_item => True) (fun _ => .tuple #[]) (fun y => hpH p y.1 n y.2 (upA (q ++ [a]) q.length)) := by
  refine Sp.intro (n := 12) Try.func68 rfl rfl fun w0 R => ?_
  dsimp only [List.cons_append, List.nil_append, envOf]
  refine Cd.know (fun w hw => (itC_eq (Tk.sat (A := itC t a) (by exact tk_) hw)).2.2.2) fun ht => ?_
  first | (with_reducible refine Cd.g ?_; refine Cd.know (fun w_ hw_ => rel2_len (Tk.sat (A := (rel2 itC l q)) (by exact tk_) hw_)) fun hl => ?_) | (with_reducible refine Ol.g ?_; refine Ol.know (fun w_ hw_ => rel2_len (Tk.sat (A := (rel2 itC l q)) (by exact tk_) hw_)) fun hl => ?_) | (with_reducible refine Dn.g ?_; refine Dn.know (fun w_ hw_ => rel2_len (Tk.sat (A := (rel2 itC l q)) (by exact tk_) hw_)) fun hl => ?_)
  refine go ?_
  refine Ol.eff rfl rfl rfl (Eff.invokeP (R := ?_) (items_Push p v n l t ht (by omega)) ?_ ?_)
  rotate_left
  · exact tkl_
  rintro u -
  dsimp only [List.cons_append, List.nil_append]
  refine go ?_
  refine Ol.eff rfl rfl rfl (Eff.invokeV (R := ?_) (items_Len u (l ++ [t])) ?_ ?_)
  rotate_left
  · exact tkl_
  rintro _ -
  dsimp only [List.cons_append, List.nil_append]
  rw [show ((l ++ [t]).length : Int) = (q.length : Int) + 1 from by simp [hl]]
  refine go ?_
  rw [show (q.length : Int) + 1 - 1 = (q.length : Int) from by omega]
  refine Ol.conv (ents.rsnoc (R := itC) (l := l) (q := q) (v := t) (u := a) (by exact tk_) (by exact tk_) (ents.refl _)) ?_
  with_reducible refine Ol.g ?_
  refine Ol.eff rfl rfl rfl (Eff.call (R := ?_) (heap_up p u n (l ++ [t]) (q ++ [a]) q.length (by simp) (by simp; omega)) rfl ?_ ?_)
  rotate_left
  · exact tkl_
  rintro l' -
  dsimp only [List.cons_append, List.nil_append]
  refine go ?_
  refine Dn.fin0 rfl fun w hs => ⟨(u, l'), rfl, trivial, hs.conv (by exact ent_)⟩
-- FN container/heap.Pop
theorem heap_Pop (p : Nat) (v : Value) (n : Int) (l : List S_queue_item) (q r : List QI) (m : Nat) (hq : q.length ≤ 1048576) (hm : q.length = m + 1) (hr : downA (swapL q 0 m) 0 m = r ++ [rd q 0]) (hrl : r.length = m) :
    Sp Try.prog 71 [hpV p] (hpH p v n l q) (fun _ : Value × List S_queue_item × S_queue_item => True) (fun y => .iface 116 (itV y.2.2)) (fun y => itC y.2.2 (rd q 0) :: hpH p y.1 n y.2.1 r) := by
  refine Sp.intro (n := 15) Try.func71 rfl rfl fun w0 R => ?_
  dsimp only [List.cons_append, List.nil_append, envOf]
  first | (with_reducible refine Cd.g ?_; refine Cd.know (fun w_ hw_ => rel2_len (Tk.sat (A := (rel2 itC l q)) (by exact tk_) hw_)) fun hl => ?_) | (with_reducible refine Ol.g ?_; refine Ol.know (fun w_ hw_ => rel2_len (Tk.sat (A := (rel2 itC l q)) (by exact tk_) hw_)) fun hl => ?_) | (with_reducible refine Dn.g ?_; refine Dn.know (fun w_ hw_ => rel2_len (Tk.sat (A := (rel2 itC l q)) (by exact tk_) hw_)) fun hl => ?_)
  refine go ?_
  refine Ol.eff rfl rfl rfl (Eff.invokeV (R := ?_) (items_Len v l) ?_ ?_)
  rotate_left
  · exact tkl_
  rintro _ -
  dsimp only [List.cons_append, List.nil_append]
  rw [hl, hm]
  refine go ?_
  rw [show ((m + 1 : Nat) : Int) - 1 = (m : Int) from by omega]
  refine Ol.eff rfl rfl rfl (Eff.invokeV (R := ?_) (items_Swap v l q 0 m (by omega) (by omega)) ?_ ?_)
  rotate_left
  · exact tkl_
  rintro _ -
  dsimp only [List.cons_append, List.nil_append]
  refine go ?_
  with_reducible refine Ol.g ?_
  refine Ol.eff rfl rfl rfl (Eff.call (R := ?_) (heap_down p v n (swapL l 0 m) (swapL q 0 m) 0 m (by omega) (by rw [swapL_len]; omega) (by rw [swapL_len]; omega)) rfl ?_ ?_)
  rotate_left
  · exact tkl_
  rintro ⟨l', b⟩ -
  dsimp only [List.cons_append, List.nil_append]
  rw [hr]
  first | (with_reducible refine Cd.g ?_; refine Cd.know (fun w_ hw_ => rel2_len (Tk.sat (A := (rel2 itC l' (r ++ [rd q 0]))) (by exact tk_) hw_)) fun hl' => ?_) | (with_reducible refine Ol.g ?_; refine Ol.know (fun w_ hw_ => rel2_len (Tk.sat (A := (rel2 itC l' (r ++ [rd q 0]))) (by exact tk_) hw_)) fun hl' => ?_) | (with_reducible refine Dn.g ?_; refine Dn.know (fun w_ hw_ => rel2_len (Tk.sat (A := (rel2 itC l' (r ++ [rd q 0]))) (by exact tk_) hw_)) fun hl' => ?_)
  rcases List.eq_nil_or_concat l' with h | ⟨l2, t, h⟩
  · subst h; simp at hl'
  rw [List.concat_eq_append] at h
  subst h
  have hl2 : l2.length = m := by simp at hl'; omega
  refine Ol.conv (ents.split (rel2_unsnoc (R := itC)) (by exact tk_)) ?_
  refine Ol.know (fun w hw => (itC_eq (Tk.sat (A := itC t (rd q 0)) (by exact tk_) hw)).2.2.2) fun ht => ?_
  refine go ?_
  refine Ol.eff rfl rfl rfl (Eff.invokeP (R := ?_) (items_Pop p v n l2 t ht (by omega)) ?_ ?_)
  rotate_left
  · exact tkl_
  rintro _ -
  dsimp only [List.cons_append, List.nil_append]
  refine go ?_
  refine Dn.ret1 rfl rfl fun w hs => ⟨(cutV v l2.length, l2, t), rfl, trivial, hs.conv (by exact ent_)⟩
end Go.Proofs.Ytcgjmlapmdbnmaa

