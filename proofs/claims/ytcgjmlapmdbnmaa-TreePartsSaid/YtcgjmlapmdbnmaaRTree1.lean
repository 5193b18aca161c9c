/- Contracts of functions of the program, proved in a small separation logic. Conditions: those that each theorem states. -/
import Derived.Test.YtcgjmlapmdbnmaaTree5
namespace Go.Proofs.Ytcgjmlapmdbnmaa
open Go Go.Sl
set_option maxHeartbeats 4000000
set_option maxRecDepth 100000
set_option linter.unusedVariables false
def lastK (i : Int) (ks : List Int) (k : Nat) : Int := if k = 0 then i else rd ks ((k : Int) - 1)
-- FN confidant/confidantref29.Right
theorem ref29_Right (v : Value) (xs : List S_api_Tree) (T : List TN) (labels : Int) :
    Sp Try.prog 28 [v, .int .i64 labels] [rsl e_api_Tree v xs, rel2 tnC xs T] (fun _ : Unit => True) (fun _ => .bool (rightB T labels)) (fun _ => []) := by
  refine Sp.intro (n := 109) Try.func28 rfl rfl fun w0 R => ?_
  dsimp only [List.cons_append, List.nil_append, envOf]
  first | (with_reducible refine Cd.g ?_; refine Cd.know (fun w_ hw_ => rel2_len (Tk.sat (A := (rel2 tnC xs T)) (by exact tk_) hw_)) fun hl => ?_) | (with_reducible refine Ol.g ?_; refine Ol.know (fun w_ hw_ => rel2_len (Tk.sat (A := (rel2 tnC xs T)) (by exact tk_) hw_)) fun hl => ?_) | (with_reducible refine Dn.g ?_; refine Dn.know (fun w_ hw_ => rel2_len (Tk.sat (A := (rel2 tnC xs T)) (by exact tk_) hw_)) fun hl => ?_)
  refine go ?_
  refine Ol.cutN (α := Unit) (fun _ => [(19, .bool (!decide (1 ≤ T.length ∧ T.length ≤ 64))), (0, v), (1, .int .i64 labels)]) (fun _ => rsl e_api_Tree v xs :: rel2 tnC xs T :: R) (fun K kk => ?_) ?_
  · by_cases g1 : (xs.length : Int) < 1
    · rw [decide_eq_true g1]
      rw [show decide (1 ≤ T.length ∧ T.length ≤ 64) = false from decide_eq_false (by omega)] at kk
      refine go ?_
      exact Dn.weak (by repeat(first|exact Env.le_nil _|(refine Env.le_cons rfl ?_ ?_;first|rfl|(simp;done)|exact congrArg _ (by omega)|rotate_left))) (by exact ent_) (kk ())
    · rw [decide_eq_false g1]
      refine go ?_
      refine Dn.weak ?_ (by exact ent_) (kk ())
      rw [show (!decide (1 ≤ T.length ∧ T.length ≤ 64)) = decide ((xs.length : Int) > 64) from by
        by_cases g4 : (xs.length : Int) > 64
        · rw [decide_eq_true g4, decide_eq_false (by omega)]; rfl
        · rw [decide_eq_false g4, decide_eq_true (by omega)]; rfl]
      repeat(first|exact Env.le_nil _|(refine Env.le_cons rfl ?_ ?_;first|rfl|(simp;done)|exact congrArg _ (by omega)|rotate_left))
  rintro -
  unfold rightB
  cases hle : decide (1 ≤ T.length ∧ T.length ≤ 64) with
  | false =>
    refine go ?_
    refine Dn.ret1 rfl rfl fun w hs => ⟨(), rfl, trivial, hs.conv (by exact ent_)⟩
  | true =>
    have hle2 := of_decide_eq_true hle
    rw [Bool.true_and]
    refine go ?_
    refine Ol.eff rfl rfl rfl (Eff.mkS (x := (0 : Int)) rfl ⟨by omega, by omega, by omega⟩ fun ov => ?_)
    refine go ?_;repeat((with_reducible refine Ol.g ?_);(first|refine Ol.eff rfl rfl rfl (Eff.alloc fun _=>?_)|refine Ol.eff rfl rfl rfl (Eff.box fun _=>?_)|refine Ol.eff0 rfl rfl (Eff.store rfl rfl ?_)|refine Ol.eff rfl rfl rfl (Eff.bslice rfl rfl fun _=>?_)|(refine Ol.eff0 rfl rfl (Eff.storeE rfl ?_ ?_);exact pre_)|(refine Ol.eff rfl rfl rfl (Eff.append1 rfl ?_ fun _=>?_);exact pre_));refine go ?_)
    rw [show ((xs.length : Int)).toNat = T.length from by rw [Int.toNat_natCast, hl]]
    refine Cd.loop (fun z : Nat × List Int => z.1 ≤ T.length ∧ z.2 = ownK T z.1 ∧ (∀ y, y ∈ z.2 → 0 ≤ y ∧ y ≤ 64 * z.1) ∧ ∀ i : Int, 0 ≤ i → i < z.1 → nodeB T i labels = true) (fun z => T.length - z.1) (fun z => [(0, v), (1, .int .i64 labels), (5, ov), (6, .int .i64 z.1)])
      (fun z => rsl e_api_Tree v xs :: rel2 tnC xs T :: sl (eInt .i64) ov z.2 :: R) (0, ownK T 0) ⟨by simp, rfl, fun y hy => by unfold ownK at hy; simp at hy; omega, fun i h0 h1 => by omega⟩ ?_ ?_ ?_
    · repeat(first|exact Env.le_nil _|(refine Env.le_cons rfl ?_ ?_;first|rfl|(simp;done)|exact congrArg _ (by omega)|rotate_left))
    · rw [show ownK T 0 = List.replicate T.length 0 from rfl]
      exact ent_
    rintro ⟨i, o⟩ ⟨h1, h2, h3, h4⟩
    dsimp only at h1 h2 h3 h4 ⊢
    have ho : o.length = T.length := by rw [h2]; exact ownK_len T i h1
    refine go ?_
    refine Cd.condP rfl (fun h => ?_) (fun h => ?_)
    · have hi : i < T.length := by omega
      have no : nodeB T i labels = false → ((ints T.length).all (fun i => nodeB T i labels) && ((ownK T T.length).drop 1).all (fun n => decide (n = 1))) = false := fun e => by
        rw [show (ints T.length).all (fun i => nodeB T i labels) = false from List.all_eq_false.2 ⟨i, ints_mem.2 (by omega), by rw [e]; simp⟩]; rfl
      have ownS := ownK_succ T hi
      refine Cd.conv (Tk.more (p := rel2_pers (fun _ _ => inferInstance) _ _) (A := rel2 tnC xs T) (rel2_gotI (i := i) (by omega) (by omega)) (by exact tk_)) ?_
      first | (with_reducible refine Cd.g ?_; refine Cd.pk (A := (tnC (rd xs i) (rd T i))) rfl (by exact tk_) fun q hq => ?_) | (with_reducible refine Ol.g ?_; refine Ol.pk (A := (tnC (rd xs i) (rd T i))) rfl (by exact tk_) fun q hq => ?_) | (with_reducible refine Dn.g ?_; refine Dn.pk (A := (tnC (rd xs i) (rd T i))) rfl (by exact tk_) fun q hq => ?_)
      dsimp only [List.cons_append, List.nil_append]
      obtain ⟨q1, q2, q3⟩ := hq
      have hnode : nodeB T i labels = (kidsB T.length i (rd T i).kids && (decide (0 ≤ (rd T i).label ∧ (rd T i).label < labels) && kindB (rd T i).kind (rd T i).kids.length)) := rfl
      generalize rd T i = N at q1 q2 q3 hnode ownS ⊢
      obtain ⟨kind, val, lab, ks⟩ := N
      dsimp only at q1 q2 q3 hnode ownS ⊢
      refine go ?_
      rw [q3]
      refine Ol.cutN (α := Unit) (fun _ => [(49, .bool (!decide (0 ≤ lab ∧ lab < labels))), (0, v), (1, .int .i64 labels), (5, ov), (6, .int .i64 i), (7, .int .i64 ks.length)])
        (fun _ => rsl (eInt .i64) (rd xs i).f_Kids ks :: rsl e_api_Tree v xs :: rel2 tnC xs T :: sl (eInt .i64) ov o :: R) (fun K kk => ?_) ?_
      · by_cases g1 : lab < 0
        · rw [decide_eq_true g1]
          rw [show decide (0 ≤ lab ∧ lab < labels) = false from decide_eq_false (by omega)] at kk
          refine go ?_
          exact Dn.weak (by repeat(first|exact Env.le_nil _|(refine Env.le_cons rfl ?_ ?_;first|rfl|(simp;done)|exact congrArg _ (by omega)|rotate_left))) (by exact ent_) (kk ())
        · rw [decide_eq_false g1]
          refine go ?_
          rw [q3]
          refine Dn.weak ?_ (by exact ent_) (kk ())
          rw [show (!decide (0 ≤ lab ∧ lab < labels)) = decide (lab ≥ labels) from by
            by_cases g4 : lab ≥ labels
            · rw [decide_eq_true g4, decide_eq_false (by omega)]; rfl
            · rw [decide_eq_false g4, decide_eq_true (by omega)]; rfl]
          repeat(first|exact Env.le_nil _|(refine Env.le_cons rfl ?_ ?_;first|rfl|(simp;done)|exact congrArg _ (by omega)|rotate_left))
      rintro -
      cases hlab : decide (0 ≤ lab ∧ lab < labels) with
      | false =>
        refine go ?_
        refine Dn.ret1 rfl rfl fun w hs => ⟨(), by rw [no (by rw [hnode, hlab]; simp)], trivial, hs.conv (by exact ent_)⟩
      | true =>
        rw [hlab, Bool.true_and] at hnode
        refine go ?_
        rw [q1]
        refine Cd.cutN (α := { _u : Unit // kindB kind ks.length = true }) (fun _ => [(0, v), (1, .int .i64 labels), (5, ov), (6, .int .i64 i), (7, .int .i64 ks.length)])
          (fun _ => rsl (eInt .i64) (rd xs i).f_Kids ks :: rsl e_api_Tree v xs :: rel2 tnC xs T :: sl (eInt .i64) ov o :: R) (fun K kk kx => ?_) ?_
        · have bad : kindB kind ks.length = false → ((ints T.length).all (fun i => nodeB T i labels) && ((ownK T T.length).drop 1).all (fun n => decide (n = 1))) = false := fun e => no (by rw [hnode, e]; simp)
          by_cases g1 : kind = 1
          · rw [decide_eq_true g1]
            refine go ?_
            refine Cd.condP rfl (fun g2 => ?_) (fun g2 => ?_)
            · refine go ?_
              refine kx _ _ _ (by simp) ?_
              refine go ?_
              refine Dn.ret1 rfl rfl fun w hs => ⟨(), by rw [bad (by unfold kindB; rw [if_pos g1, decide_eq_false (by omega)])], trivial, hs.conv (by exact ent_)⟩
            · refine go ?_
              exact Dn.weak (by repeat(first|exact Env.le_nil _|(refine Env.le_cons rfl ?_ ?_;first|rfl|(simp;done)|exact congrArg _ (by omega)|rotate_left))) (by exact ent_) (kk ⟨(), by unfold kindB; rw [if_pos g1, decide_eq_true (by omega)]⟩)
          rw [decide_eq_false g1]
          refine go ?_
          refine Cd.cut (α := Unit) (fun _ => [(59, .bool (decide (kind = 2 ∨ kind = 3))), (54, .int .i64 kind), (0, v), (1, .int .i64 labels), (5, ov), (6, .int .i64 i), (7, .int .i64 ks.length)])
            (fun _ => rsl (eInt .i64) (rd xs i).f_Kids ks :: rsl e_api_Tree v xs :: rel2 tnC xs T :: sl (eInt .i64) ov o :: R) (fun K2 kk2 => ?_) ?_
          · by_cases g2 : kind = 2
            · rw [decide_eq_true g2]
              rw [decide_eq_true (show kind = 2 ∨ kind = 3 from .inl g2)] at kk2
              refine go ?_
              exact Dn.weak (by repeat(first|exact Env.le_nil _|(refine Env.le_cons rfl ?_ ?_;first|rfl|(simp;done)|exact congrArg _ (by omega)|rotate_left))) (by exact ent_) (kk2 ())
            · rw [decide_eq_false g2]
              refine go ?_
              refine Dn.weak ?_ (by exact ent_) (kk2 ())
              rw [show decide (kind = 2 ∨ kind = 3) = decide (kind = 3) from decide_eq_decide.2 ⟨fun h => h.resolve_left g2, .inr⟩]
              repeat(first|exact Env.le_nil _|(refine Env.le_cons rfl ?_ ?_;first|rfl|(simp;done)|exact congrArg _ (by omega)|rotate_left))
          rintro -
          refine go ?_
          refine Cd.condP rfl (fun g2 => ?_) (fun g2 => ?_)
          · refine go ?_
            refine Cd.condP rfl (fun g3 => ?_) (fun g3 => ?_)
            · refine go ?_
              refine kx _ _ _ (by simp) ?_
              refine go ?_
              refine Dn.ret1 rfl rfl fun w hs => ⟨(), by rw [bad (by unfold kindB; rw [if_neg g1, if_pos g2, decide_eq_false (by omega)])], trivial, hs.conv (by exact ent_)⟩
            · refine go ?_
              exact Dn.weak (by repeat(first|exact Env.le_nil _|(refine Env.le_cons rfl ?_ ?_;first|rfl|(simp;done)|exact congrArg _ (by omega)|rotate_left))) (by exact ent_) (kk ⟨(), by unfold kindB; rw [if_neg g1, if_pos g2, decide_eq_true (by omega)]⟩)
          refine go ?_
          refine Cd.condP rfl (fun g4 => ?_) (fun g4 => ?_)
          · refine go ?_
            refine Cd.condP rfl (fun g3 => ?_) (fun g3 => ?_)
            · refine go ?_
              refine kx _ _ _ (by simp) ?_
              refine go ?_
              refine Dn.ret1 rfl rfl fun w hs => ⟨(), by rw [bad (by unfold kindB; rw [if_neg g1, if_neg g2, if_pos g4, decide_eq_false (by omega)])], trivial, hs.conv (by exact ent_)⟩
            · refine go ?_
              exact Dn.weak (by repeat(first|exact Env.le_nil _|(refine Env.le_cons rfl ?_ ?_;first|rfl|(simp;done)|exact congrArg _ (by omega)|rotate_left))) (by exact ent_) (kk ⟨(), by unfold kindB; rw [if_neg g1, if_neg g2, if_pos g4, decide_eq_true (by omega)]⟩)
          · refine go ?_
            refine kx _ _ _ (by simp) ?_
            refine go ?_
            refine Dn.ret1 rfl rfl fun w hs => ⟨(), by rw [bad (by unfold kindB; rw [if_neg g1, if_neg g2, if_neg g4])], trivial, hs.conv (by exact ent_)⟩
        rintro ⟨-, hkb⟩
        rw [hkb, Bool.and_true] at hnode
        refine go ?_
        refine Cd.loop (fun z : Nat × List Int => z.1 ≤ ks.length ∧ z.1 ≤ 64 ∧ (z.1 = 0 ∨ (i : Int) + z.1 ≤ rd ks ((z.1 : Int) - 1)) ∧ z.2 = bump o (ks.take z.1) ∧ (∀ y, y ∈ z.2 → 0 ≤ y ∧ y ≤ 64 * (i : Int) + z.1) ∧ ∀ j, j < z.1 → kidOk T.length i ks j = true) (fun z => ks.length - z.1) (fun z => [(0, v), (1, .int .i64 labels), (5, ov), (6, .int .i64 i), (7, .int .i64 ks.length), (8, .int .i64 (lastK i ks z.1)), (9, .int .i64 z.1)])
          (fun z => rsl (eInt .i64) (rd xs i).f_Kids ks :: rsl e_api_Tree v xs :: rel2 tnC xs T :: sl (eInt .i64) ov z.2 :: R) (0, o) ⟨by simp, by simp, .inl rfl, rfl, fun y hy => ⟨(h3 y hy).1, by have := (h3 y hy).2; dsimp only; omega⟩, fun j hj => by simp at hj⟩ ?_ ?_ ?_
        · rw [show lastK i ks 0 = i from rfl]
          repeat(first|exact Env.le_nil _|(refine Env.le_cons rfl ?_ ?_;first|rfl|(simp;done)|exact congrArg _ (by omega)|rotate_left))
        · exact ent_
        rintro ⟨k, o'⟩ ⟨j1, j2, j3, j4, j5, j6⟩
        dsimp only at j1 j2 j3 j4 j5 j6 ⊢
        have ho' : o'.length = T.length := by rw [j4, bump_len, ho]
        refine go ?_
        refine Cd.condP rfl (fun hk => ?_) (fun hk => ?_)
        · have hk2 : k < ks.length := by omega
          have hok : kidOk T.length i ks k = decide (lastK i ks k < rd ks k ∧ rd ks k < (xs.length : Int)) := by
            unfold kidOk lastK
            refine decide_eq_decide.2 ?_
            by_cases g : k = 0
            · rw [if_pos g]; omega
            · rw [if_neg g]; omega
          refine go ?_
          refine Ol.cutN (α := Unit) (fun _ => [(90, .bool (!kidOk T.length i ks k)), (0, v), (1, .int .i64 labels), (5, ov), (6, .int .i64 i), (7, .int .i64 ks.length), (9, .int .i64 k), (10, .int .i64 (rd ks k))])
            (fun _ => rsl (eInt .i64) (rd xs i).f_Kids ks :: rsl e_api_Tree v xs :: rel2 tnC xs T :: sl (eInt .i64) ov o' :: R) (fun K kk => ?_) ?_
          · by_cases g1 : rd ks k ≤ lastK i ks k
            · rw [decide_eq_true g1]
              rw [hok, decide_eq_false (by omega)] at kk
              refine go ?_
              exact Dn.weak (by repeat(first|exact Env.le_nil _|(refine Env.le_cons rfl ?_ ?_;first|rfl|(simp;done)|exact congrArg _ (by omega)|rotate_left))) (by exact ent_) (kk ())
            · rw [decide_eq_false g1]
              refine go ?_
              refine Dn.weak ?_ (by exact ent_) (kk ())
              rw [hok, show (!decide (lastK i ks k < rd ks k ∧ rd ks k < (xs.length : Int))) = decide (rd ks k ≥ (xs.length : Int)) from by
                by_cases g4 : rd ks k ≥ (xs.length : Int)
                · rw [decide_eq_true g4, decide_eq_false (by omega)]; rfl
                · rw [decide_eq_false g4, decide_eq_true (by omega)]; rfl]
              repeat(first|exact Env.le_nil _|(refine Env.le_cons rfl ?_ ?_;first|rfl|(simp;done)|exact congrArg _ (by omega)|rotate_left))
          rintro -
          cases hkk : kidOk T.length i ks k with
          | false =>
            refine go ?_
            refine Dn.ret1 rfl rfl fun w hs => ⟨(), by rw [no (by rw [hnode, kidsB_false hk2 hkk])], trivial, hs.conv (by exact ent_)⟩
          | true =>
            have hok2 := of_decide_eq_true hkk
            have hb : 0 ≤ rd o' (rd ks k) ∧ rd o' (rd ks k) ≤ 64 * (i : Int) + k := j5 _ (rd_mem (by omega) (by omega))
            refine go ?_;repeat((with_reducible refine Ol.g ?_);(first|refine Ol.eff rfl rfl rfl (Eff.alloc fun _=>?_)|refine Ol.eff rfl rfl rfl (Eff.box fun _=>?_)|refine Ol.eff0 rfl rfl (Eff.store rfl rfl ?_)|refine Ol.eff rfl rfl rfl (Eff.bslice rfl rfl fun _=>?_)|(refine Ol.eff0 rfl rfl (Eff.storeE rfl ?_ ?_);exact pre_)|(refine Ol.eff rfl rfl rfl (Eff.append1 rfl ?_ fun _=>?_);exact pre_));refine go ?_)
            refine Dn.round (k + 1, bump1 o' (rd ks k)) ⟨by dsimp only; omega, by dsimp only; omega, .inr ?_, ?_, ?_, ?_⟩ (by dsimp only; omega) ?_ (by unfold bump1; exact ent_)
            · dsimp only
              rw [show ((k + 1 : Nat) : Int) - 1 = k by omega]
              omega
            · dsimp only
              rw [bump_take hk2, j4]
            · intro y hy
              dsimp only at hy ⊢
              rcases mem_set hy with rfl | hy
              · omega
              · have := j5 y hy; omega
            · intro j hj
              dsimp only at hj
              rcases Nat.lt_or_eq_of_le (Nat.le_of_lt_succ hj) with hj | rfl
              · exact j6 j hj
              · exact hkk
            · rw [show lastK i ks (k + 1) = rd ks k from by unfold lastK; rw [if_neg (by omega), show ((k + 1 : Nat) : Int) - 1 = k by omega]]
              repeat(first|exact Env.le_nil _|(refine Env.le_cons rfl ?_ ?_;first|rfl|(simp;done)|exact congrArg _ (by omega)|rotate_left))
        · have hkk : k = ks.length := by omega
          rw [hkk, List.take_length] at j4
          have hkb2 : kidsB T.length i ks = true := kidsB_true (by rw [← hkk]; exact j6)
          refine go ?_
          refine Dn.round (i + 1, o') ⟨by dsimp only; omega, ?_, fun y hy => by have := j5 y hy; dsimp only at this ⊢; omega, fun j hj0 hj1 => ?_⟩ (by dsimp only; omega) (by repeat(first|exact Env.le_nil _|(refine Env.le_cons rfl ?_ ?_;first|rfl|(simp;done)|exact congrArg _ (by omega)|rotate_left))) (by exact ent_)
          · dsimp only; rw [ownS, ← h2]; exact j4
          · dsimp only at hj1
            by_cases e : j = i
            · rw [e, hnode, hkb2]
            · exact h4 j hj0 (by omega)
    · have hkk : i = T.length := by omega
      subst hkk
      rw [show (ints T.length).all (fun i => nodeB T i labels) = true from List.all_eq_true.2 fun i hi => h4 i (ints_mem.1 hi).1 (ints_mem.1 hi).2, Bool.true_and, ← h2]
      refine go ?_
      have hdl : (o.drop 1).length = o.length - 1 := List.length_drop
      have hdr : ∀ j : Nat, j < (o.drop 1).length → rd o ((j : Int) + 1) = rd (o.drop 1) (j : Int) := fun j hj => by
        rw [rd_eq (by omega), rd_eq (by omega)]
        simp only [Int.toNat_natCast, List.getElem_drop]
        congr 1; omega
      refine Cd.loop (fun k : Nat => k ≤ (o.drop 1).length ∧ ((o.drop 1).take k).all (fun n => decide (n = 1)) = true) (fun k => (o.drop 1).length - k) (fun k => [(0, v), (5, ov), (11, .int .i64 ((k : Int) + 1))])
        (fun k => rsl e_api_Tree v xs :: sl (eInt .i64) ov o :: R) 0 ⟨by simp, by simp⟩ ?_ ?_ ?_
      · repeat(first|exact Env.le_nil _|(refine Env.le_cons rfl ?_ ?_;first|rfl|(simp;done)|exact congrArg _ (by omega)|rotate_left))
      · exact ent_
      rintro k ⟨hk, hf⟩
      refine go ?_
      refine Cd.condP rfl (fun h => ?_) (fun h => ?_)
      · have hk2 : k < (o.drop 1).length := by omega
        refine go ?_
        rw [hdr k hk2]
        refine Cd.condP rfl (fun h2 => ?_) (fun h2 => ?_)
        · refine go ?_
          refine Dn.ret1 rfl rfl fun w hs => ⟨(), ?_, trivial, hs.conv (by exact ent_)⟩
          rw [show (o.drop 1).all (fun n => decide (n = 1)) = false from List.all_eq_false.2 ⟨_, rd_mem (xs := o.drop 1) (i := k) (by omega) (by omega), by simpa using h2⟩]
        · refine go ?_
          refine Dn.round (k + 1) ⟨by omega, ?_⟩ (by omega) (by repeat(first|exact Env.le_nil _|(refine Env.le_cons rfl ?_ ?_;first|rfl|(simp;done)|exact congrArg _ (by omega)|rotate_left))) (by exact ent_)
          rw [take_rd hk2, List.all_append, hf]
          simp only [List.all_cons, List.all_nil, Bool.and_true, Bool.true_and, decide_eq_true_eq]
          exact Decidable.not_not.1 h2
      · have hkk : k = (o.drop 1).length := by omega
        rw [hkk, List.take_length] at hf
        refine go ?_
        refine Dn.ret1 rfl rfl fun w hs => ⟨(), by rw [hf], trivial, hs.conv (by exact ent_)⟩
end Go.Proofs.Ytcgjmlapmdbnmaa

