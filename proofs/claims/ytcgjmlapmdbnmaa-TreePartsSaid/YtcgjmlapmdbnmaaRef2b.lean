/- Contracts of functions of the program, proved in a small separation logic. Conditions: those that each theorem states. -/
import Derived.Test.YtcgjmlapmdbnmaaRef2a
namespace Go.Proofs.Ytcgjmlapmdbnmaa
open Go Go.Sl
set_option maxHeartbeats 4000000
set_option maxRecDepth 100000
set_option linter.unusedVariables false
def bestR (q : List (List Bool)) (l : List Int) (F : Int → Int → Bool) : Option Int := if allR q l then l.find? (fun x => l.all fun y => F x y) else none
theorem find_at {l : List Int} {G : Int → Bool} {i : Nat} (h : (l.take i).find? G = none) (hi : i < l.length) (hG : G (rd l i) = true) : l.find? G = some (rd l i) := by
  have e : l = l.take (i + 1) ++ l.drop (i + 1) := (List.take_append_drop _ _).symm
  rw [e, List.find?_append, take_rd hi, List.find?_append, h]
  rw [← take_rd hi, ← e]
  simp [hG]
theorem find_next {l : List Int} {G : Int → Bool} {i : Nat} (h : (l.take i).find? G = none) (hi : i < l.length) (hG : G (rd l i) = false) : (l.take (i + 1)).find? G = none := by
  rw [take_rd hi, List.find?_append, h]; simp [hG]
theorem allR_mem {q : List (List Bool)} {l : List Int} (h : allR q l = true) {a : Int} (ha : a ∈ l) : sqB q = true ∧ 0 ≤ a ∧ a < q.length := by
  unfold allR at h
  rw [Bool.and_eq_true, List.all_eq_true] at h
  exact inR_iff (h.1 a ha)
abbrev leFLeast (q : List (List Bool)) (a b : Int) : Bool := rd (rd q a) b
-- FN confidant/confidantref2.Least
theorem ref2_Least (v : Value) (rows : List Value) (q : List (List Bool)) (hl : rows.length = q.length) (hm : q.length ≤ 140737488355328) (r : Bool) (lv : Value) (l : List Int) (hll : l.length ≤ 140737488355328) :
    Sp Try.prog 97 [v, lv] [slB r (eInt .i64) lv l, rsl eVal v rows, rws true eBool rows q] (fun _ : Unit => True) (fun _ => optV (bestR q l (leFLeast q))) (fun _ => [slB r (eInt .i64) lv l]) := by
  refine Sp.intro (n := 47) Try.func97 rfl rfl fun w0 R => ?_
  dsimp only [List.cons_append, List.nil_append, envOf]
  refine go ?_
  refine Cd.loop (fun i : Nat => i ≤ l.length ∧ (i ≠ 0 → allR q l = true) ∧ (l.take i).find? (fun x => l.all fun y => leFLeast q x y) = none) (fun i => l.length - i) (fun i => [(0, v), (1, lv), (6, .int .i64 i)]) (fun _ => _) 0 ⟨by omega, by simp, by simp⟩ ?_ (ents.refl _) fun i ⟨hi, hi0, hf⟩ => ?_
  · repeat(first|exact Env.le_nil _|(refine Env.le_cons rfl ?_ ?_;first|rfl|(simp;done)|exact congrArg _ (by omega)|rotate_left))
  refine go ?_
  cases h0 : decide ((i : Int) < (l.length : Int)) with
  | false =>
    have g0 := of_decide_eq_false h0
    refine go ?_
    refine Dn.ret2 rfl rfl rfl fun w hs => ⟨(), ?_, trivial, hs.conv (by exact ent_)⟩
    have hil : i = l.length := by omega
    rw [hil, List.take_length] at hf
    unfold bestR; rw [hf]; split <;> rfl
  | true =>
  have g0 := of_decide_eq_true h0
  have hi' : i < l.length := by omega
  refine go ?_
  with_reducible refine Ol.g ?_
  refine Ol.eff rfl rfl rfl (Eff.call (R := ?_) (ref2_all v rows q hl hm r lv l hll) rfl ?_ ?_)
  rotate_left
  · exact tkl_
  rintro _ -
  dsimp only [List.cons_append, List.nil_append]
  cases hA : allR q l with
  | false =>
    refine go ?_
    refine Dn.ret2 rfl rfl rfl fun w hs => ⟨(), ?_, trivial, hs.conv (by exact ent_)⟩
    unfold bestR; rw [hA]; rfl
  | true =>
  refine go ?_
  have mi := allR_mem hA (rd_mem (xs := l) (i := (i : Int)) (by omega) (by omega))
  refine Cd.loop (fun z : Nat × Bool => z.1 ≤ l.length ∧ z.2 = (l.take z.1).all (fun y => leFLeast q (rd l i) y)) (fun z => l.length - z.1) (fun z => [(0, v), (1, lv), (6, .int .i64 i), (7, .bool z.2), (8, .int .i64 z.1)]) (fun _ => _) ⟨0, true⟩ ⟨by simp, by simp⟩ ?_ (ents.refl _) ?_
  · repeat(first|exact Env.le_nil _|(refine Env.le_cons rfl ?_ ?_;first|rfl|(simp;done)|exact congrArg _ (by omega)|rotate_left))
  rintro ⟨k, okb⟩ ⟨hk, hok⟩
  dsimp only at hk hok ⊢
  refine go ?_
  refine Cd.condP rfl (fun h => ?_) (fun h => ?_)
  · have hk' : k < l.length := by omega
    have mk := allR_mem hA (rd_mem (xs := l) (i := (k : Int)) (by omega) (by omega))
    have sr := sq_row mi.1 mi.2.1 mi.2.2
    have sk := sq_row mk.1 mk.2.1 mk.2.2
    have et := take_rd hk'
    refine go ?_
    cases okb with
    | false =>
      refine Cd.drawL (l := [_, _, _, _, _, _, _, _, _, _, _, _, _, _, _, _]) (z := _) [[], [0], [0, 1], [0, 1], [0, 1], [0, 1, 3, 4], [0, 1, 3, 4, 5], [0, 1, 2, 3, 4, 5, 6], [0, 1, 2, 3, 4, 5, 6, 7], [0, 1], [0, 1], [0, 1, 9, 10], [0, 1, 9, 10, 11], [0, 1, 2, 3, 4, 5, 6, 7, 8, 9, 10, 11, 12], [0, 1, 2, 3, 4, 5, 6, 7, 8, 9, 10, 11, 12, 13], [0, 1, 2, 3, 4, 5, 6, 7, 8, 9, 10, 11, 12, 13, 14]] [] [] (td := [(0, .fresh), (1, .fresh), (2, .fresh), (3, .fresh), (4, .fresh), (5, .fresh), (6, .fresh), (7, .fresh), (8, .fresh), (9, .fresh), (10, .fresh), (11, .fresh), (12, .fresh), (13, .fresh), (14, .fresh), (15, .fresh)]) rfl mixed (by kernel_rfl) (by kernel_rfl) (by kernel_rfl) (by decide) (by decide) rfl (by kernel_rfl) ?_
      refine god2 ?_
      refine go ?_
      refine Dn.round ⟨k + 1, false⟩ ⟨by dsimp only; omega, ?_⟩ (by dsimp only; omega) ?_ (by exact ent_)
      · rw [et, List.all_append, ← hok]; rfl
      · repeat(first|exact Env.le_nil _|(refine Env.le_cons rfl ?_ ?_;first|rfl|(simp;done)|exact congrArg _ (by omega)|rotate_left))
    | true =>
      refine Cd.drawL (l := [_, _, _, _, _, _, _, _, _, _, _, _, _, _, _, _]) (z := _) [[], [0], [0, 1], [0, 1], [0, 1], [0, 1, 3, 4], [0, 1, 3, 4, 5], [0, 1, 2, 3, 4, 5, 6], [0, 1, 2, 3, 4, 5, 6, 7], [0, 1], [0, 1], [0, 1, 9, 10], [0, 1, 9, 10, 11], [0, 1, 2, 3, 4, 5, 6, 7, 8, 9, 10, 11, 12], [0, 1, 2, 3, 4, 5, 6, 7, 8, 9, 10, 11, 12, 13], [0, 1, 2, 3, 4, 5, 6, 7, 8, 9, 10, 11, 12, 13, 14]] [] [] (td := [(0, .fresh), (1, .fresh), (2, .fresh), (3, .fresh), (4, .fresh), (5, .fresh), (6, .fresh), (7, .fresh), (8, .fresh), (9, .fresh), (10, .fresh), (11, .fresh), (12, .fresh), (13, .fresh), (14, .fresh), (15, .fresh)]) rfl mixed (by kernel_rfl) (by kernel_rfl) (by kernel_rfl) (by decide) (by decide) rfl (by kernel_rfl) ?_
      refine god2 ?_
      refine go ?_
      refine Dn.round ⟨k + 1, leFLeast q (rd l i) (rd l k)⟩ ⟨by dsimp only; omega, ?_⟩ (by dsimp only; omega) ?_ (by exact ent_)
      · rw [et, List.all_append, ← hok]; simp
      · repeat(first|exact Env.le_nil _|(refine Env.le_cons rfl ?_ ?_;first|rfl|(simp;done)|exact congrArg _ (by omega)|rotate_left))
  · have hkl : k = l.length := by omega
    rw [hkl, List.take_length] at hok
    refine go ?_
    cases okb with
    | true =>
      refine go ?_
      refine Dn.ret2 rfl rfl rfl fun w hs => ⟨(), ?_, trivial, hs.conv (by exact ent_)⟩
      unfold bestR; rw [hA, if_pos rfl, find_at hf hi' hok.symm]; rfl
    | false =>
      refine go ?_
      refine Dn.round (i + 1) ⟨by omega, fun _ => by first | rfl | exact hA, find_next hf hi' hok.symm⟩ (by omega) ?_ (by exact ent_)
      · repeat(first|exact Env.le_nil _|(refine Env.le_cons rfl ?_ ?_;first|rfl|(simp;done)|exact congrArg _ (by omega)|rotate_left))
abbrev leFGreatest (q : List (List Bool)) (a b : Int) : Bool := rd (rd q b) a
-- FN confidant/confidantref2.Greatest
theorem ref2_Greatest (v : Value) (rows : List Value) (q : List (List Bool)) (hl : rows.length = q.length) (hm : q.length ≤ 140737488355328) (r : Bool) (lv : Value) (l : List Int) (hll : l.length ≤ 140737488355328) :
    Sp Try.prog 94 [v, lv] [slB r (eInt .i64) lv l, rsl eVal v rows, rws true eBool rows q] (fun _ : Unit => True) (fun _ => optV (bestR q l (leFGreatest q))) (fun _ => [slB r (eInt .i64) lv l]) := by
  refine Sp.intro (n := 47) Try.func94 rfl rfl fun w0 R => ?_
  dsimp only [List.cons_append, List.nil_append, envOf]
  refine go ?_
  refine Cd.loop (fun i : Nat => i ≤ l.length ∧ (i ≠ 0 → allR q l = true) ∧ (l.take i).find? (fun x => l.all fun y => leFGreatest q x y) = none) (fun i => l.length - i) (fun i => [(0, v), (1, lv), (6, .int .i64 i)]) (fun _ => _) 0 ⟨by omega, by simp, by simp⟩ ?_ (ents.refl _) fun i ⟨hi, hi0, hf⟩ => ?_
  · repeat(first|exact Env.le_nil _|(refine Env.le_cons rfl ?_ ?_;first|rfl|(simp;done)|exact congrArg _ (by omega)|rotate_left))
  refine go ?_
  cases h0 : decide ((i : Int) < (l.length : Int)) with
  | false =>
    have g0 := of_decide_eq_false h0
    refine go ?_
    refine Dn.ret2 rfl rfl rfl fun w hs => ⟨(), ?_, trivial, hs.conv (by exact ent_)⟩
    have hil : i = l.length := by omega
    rw [hil, List.take_length] at hf
    unfold bestR; rw [hf]; split <;> rfl
  | true =>
  have g0 := of_decide_eq_true h0
  have hi' : i < l.length := by omega
  refine go ?_
  with_reducible refine Ol.g ?_
  refine Ol.eff rfl rfl rfl (Eff.call (R := ?_) (ref2_all v rows q hl hm r lv l hll) rfl ?_ ?_)
  rotate_left
  · exact tkl_
  rintro _ -
  dsimp only [List.cons_append, List.nil_append]
  cases hA : allR q l with
  | false =>
    refine go ?_
    refine Dn.ret2 rfl rfl rfl fun w hs => ⟨(), ?_, trivial, hs.conv (by exact ent_)⟩
    unfold bestR; rw [hA]; rfl
  | true =>
  refine go ?_
  have mi := allR_mem hA (rd_mem (xs := l) (i := (i : Int)) (by omega) (by omega))
  refine Cd.loop (fun z : Nat × Bool => z.1 ≤ l.length ∧ z.2 = (l.take z.1).all (fun y => leFGreatest q (rd l i) y)) (fun z => l.length - z.1) (fun z => [(0, v), (1, lv), (6, .int .i64 i), (7, .bool z.2), (8, .int .i64 z.1)]) (fun _ => _) ⟨0, true⟩ ⟨by simp, by simp⟩ ?_ (ents.refl _) ?_
  · repeat(first|exact Env.le_nil _|(refine Env.le_cons rfl ?_ ?_;first|rfl|(simp;done)|exact congrArg _ (by omega)|rotate_left))
  rintro ⟨k, okb⟩ ⟨hk, hok⟩
  dsimp only at hk hok ⊢
  refine go ?_
  refine Cd.condP rfl (fun h => ?_) (fun h => ?_)
  · have hk' : k < l.length := by omega
    have mk := allR_mem hA (rd_mem (xs := l) (i := (k : Int)) (by omega) (by omega))
    have sr := sq_row mi.1 mi.2.1 mi.2.2
    have sk := sq_row mk.1 mk.2.1 mk.2.2
    have et := take_rd hk'
    refine go ?_
    cases okb with
    | false =>
      refine Cd.drawL (l := [_, _, _, _, _, _, _, _, _, _, _, _, _, _, _, _]) (z := _) [[], [0], [0, 1], [0, 1], [0, 1], [0, 1, 3, 4], [0, 1, 3, 4, 5], [0, 1, 2, 3, 4, 5, 6], [0, 1, 2, 3, 4, 5, 6, 7], [0, 1], [0, 1], [0, 1, 9, 10], [0, 1, 9, 10, 11], [0, 1, 2, 3, 4, 5, 6, 7, 8, 9, 10, 11, 12], [0, 1, 2, 3, 4, 5, 6, 7, 8, 9, 10, 11, 12, 13], [0, 1, 2, 3, 4, 5, 6, 7, 8, 9, 10, 11, 12, 13, 14]] [] [] (td := [(0, .fresh), (1, .fresh), (2, .fresh), (3, .fresh), (4, .fresh), (5, .fresh), (6, .fresh), (7, .fresh), (8, .fresh), (9, .fresh), (10, .fresh), (11, .fresh), (12, .fresh), (13, .fresh), (14, .fresh), (15, .fresh)]) rfl mixed (by kernel_rfl) (by kernel_rfl) (by kernel_rfl) (by decide) (by decide) rfl (by kernel_rfl) ?_
      refine god2 ?_
      refine go ?_
      refine Dn.round ⟨k + 1, false⟩ ⟨by dsimp only; omega, ?_⟩ (by dsimp only; omega) ?_ (by exact ent_)
      · rw [et, List.all_append, ← hok]; rfl
      · repeat(first|exact Env.le_nil _|(refine Env.le_cons rfl ?_ ?_;first|rfl|(simp;done)|exact congrArg _ (by omega)|rotate_left))
    | true =>
      refine Cd.drawL (l := [_, _, _, _, _, _, _, _, _, _, _, _, _, _, _, _]) (z := _) [[], [0], [0, 1], [0, 1], [0, 1], [0, 1, 3, 4], [0, 1, 3, 4, 5], [0, 1, 2, 3, 4, 5, 6], [0, 1, 2, 3, 4, 5, 6, 7], [0, 1], [0, 1], [0, 1, 9, 10], [0, 1, 9, 10, 11], [0, 1, 2, 3, 4, 5, 6, 7, 8, 9, 10, 11, 12], [0, 1, 2, 3, 4, 5, 6, 7, 8, 9, 10, 11, 12, 13], [0, 1, 2, 3, 4, 5, 6, 7, 8, 9, 10, 11, 12, 13, 14]] [] [] (td := [(0, .fresh), (1, .fresh), (2, .fresh), (3, .fresh), (4, .fresh), (5, .fresh), (6, .fresh), (7, .fresh), (8, .fresh), (9, .fresh), (10, .fresh), (11, .fresh), (12, .fresh), (13, .fresh), (14, .fresh), (15, .fresh)]) rfl mixed (by kernel_rfl) (by kernel_rfl) (by kernel_rfl) (by decide) (by decide) rfl (by kernel_rfl) ?_
      refine god2 ?_
      refine go ?_
      refine Dn.round ⟨k + 1, leFGreatest q (rd l i) (rd l k)⟩ ⟨by dsimp only; omega, ?_⟩ (by dsimp only; omega) ?_ (by exact ent_)
      · rw [et, List.all_append, ← hok]; simp
      · repeat(first|exact Env.le_nil _|(refine Env.le_cons rfl ?_ ?_;first|rfl|(simp;done)|exact congrArg _ (by omega)|rotate_left))
  · have hkl : k = l.length := by omega
    rw [hkl, List.take_length] at hok
    refine go ?_
    cases okb with
    | true =>
      refine go ?_
      refine Dn.ret2 rfl rfl rfl fun w hs => ⟨(), ?_, trivial, hs.conv (by exact ent_)⟩
      unfold bestR; rw [hA, if_pos rfl, find_at hf hi' hok.symm]; rfl
    | false =>
      refine go ?_
      refine Dn.round (i + 1) ⟨by omega, fun _ => by first | rfl | exact hA, find_next hf hi' hok.symm⟩ (by omega) ?_ (by exact ent_)
      · repeat(first|exact Env.le_nil _|(refine Env.le_cons rfl ?_ ?_;first|rfl|(simp;done)|exact congrArg _ (by omega)|rotate_left))
theorem ints_take {n k : Nat} (h : k ≤ n) : (ints n).take k = ints k := by
  unfold ints
  rw [← List.map_take, List.take_range, Nat.min_eq_left h]
-- FN confidant/confidantref2.labels
theorem ref2_labels (v : Value) (rows : List Value) (hm : rows.length ≤ 1000000) :
    Sp Try.prog 95 [v] [rsl eVal v rows] (fun _ : Value => True) id (fun u => [sl (eInt .i64) u (ints rows.length)]) := by
  refine Sp.intro (n := 16) Try.func95 rfl rfl fun w0 R => ?_
  dsimp only [List.cons_append, List.nil_append, envOf]
  refine go ?_
  refine Cd.loop (fun z : Nat × Value => z.1 ≤ rows.length) (fun z => rows.length - z.1) (fun z => [(0, v), (3, z.2), (4, .int .i64 z.1)]) (fun z => sl (eInt .i64) z.2 (ints z.1) :: rsl eVal v rows :: R) ⟨0, .slice none 0 0⟩ (by simp) ?_ ?_ ?_
  · repeat(first|exact Env.le_nil _|(refine Env.le_cons rfl ?_ ?_;first|rfl|(simp;done)|exact congrArg _ (by omega)|rotate_left))
  · dsimp only
    rw [show ints 0 = [] from rfl]
    exact ent_
  rintro ⟨k, u⟩ hk
  dsimp only at hk ⊢
  have hil := ints_length k
  refine go ?_
  refine Cd.condP rfl (fun h => ?_) (fun h => ?_)
  · refine go ?_;repeat((with_reducible refine Ol.g ?_);(first|refine Ol.eff rfl rfl rfl (Eff.alloc fun _=>?_)|refine Ol.eff rfl rfl rfl (Eff.box fun _=>?_)|refine Ol.eff0 rfl rfl (Eff.store rfl rfl ?_)|refine Ol.eff rfl rfl rfl (Eff.bslice rfl rfl fun _=>?_)|(refine Ol.eff0 rfl rfl (Eff.storeE rfl ?_ ?_);exact pre_)|(refine Ol.eff rfl rfl rfl (Eff.append1 rfl ?_ fun _=>?_);exact pre_));refine go ?_)
    rename_i u'
    refine Dn.round ⟨k + 1, u'⟩ (by dsimp only; omega) (by dsimp only; omega) ?_ ?_
    · repeat(first|exact Env.le_nil _|(refine Env.le_cons rfl ?_ ?_;first|rfl|(simp;done)|exact congrArg _ (by omega)|rotate_left))
    · dsimp only
      rw [ints_succ]
      exact ent_
  · have hke : k = rows.length := by omega
    subst hke
    refine go ?_
    refine Dn.ret1 rfl rfl fun w hs => ⟨u, rfl, trivial, hs.conv (by exact ent_)⟩
def topR (q : List (List Bool)) : Int := (bestR q (ints q.length) (leFGreatest q)).getD 0
-- FN confidant/confidantref2.Top
theorem ref2_Top (v : Value) (rows : List Value) (q : List (List Bool)) (hl : rows.length = q.length) (hm : q.length ≤ 1000000) :
    Sp Try.prog 54 [v] [rsl eVal v rows, rws true eBool rows q] (fun _ : Unit => True) (fun _ => .int .i64 (topR q)) (fun _ => []) := by
  refine Sp.intro (n := 13) Try.func54 rfl rfl fun w0 R => ?_
  dsimp only [List.cons_append, List.nil_append, envOf]
  refine go ?_
  with_reducible refine Ol.g ?_
  refine Ol.eff rfl rfl rfl (Eff.call (R := ?_) (ref2_labels v rows (by omega)) rfl ?_ ?_)
  rotate_left
  · exact tkl_
  rintro u -
  dsimp only [List.cons_append, List.nil_append, id]
  with_reducible refine Ol.g ?_
  refine Ol.eff rfl rfl rfl (Eff.call (R := ?_) (ref2_Greatest v rows q hl (by omega) false u (ints rows.length) (by rw [ints_length]; omega)) rfl ?_ ?_)
  rotate_left
  · exact tkl_
  rintro _ -
  dsimp only [List.cons_append, List.nil_append, optV]
  refine go ?_
  refine Dn.ret1 rfl rfl fun w hs => ⟨(), ?_, by trivial, by first | exact hs | (refine hs.conv ?_; exact ent_)⟩
  rw [hl]; rfl
def botR (q : List (List Bool)) : Int := (bestR q (ints q.length) (leFLeast q)).getD 0
end Go.Proofs.Ytcgjmlapmdbnmaa

