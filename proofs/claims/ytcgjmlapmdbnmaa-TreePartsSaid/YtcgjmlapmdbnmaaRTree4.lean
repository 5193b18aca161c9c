/- Contracts of functions of the program, proved in a small separation logic. Conditions: those that each theorem states. -/
import Derived.Test.YtcgjmlapmdbnmaaRTree3
namespace Go.Proofs.Ytcgjmlapmdbnmaa
open Go Go.Sl
set_option maxHeartbeats 4000000
set_option maxRecDepth 100000
set_option linter.unusedVariables false
-- FN confidant/confidantref29.code
theorem ref29_code (v : Value) (xs : List S_api_Tree) (T : List TN) (labels i : Int) (hr : rightB T labels = true) (hl16 : labels ≤ 1000) (hi : 0 ≤ i ∧ i < T.length) :
    Sp Try.prog 61 [v, .int .i64 i] [rsl e_api_Tree v xs, rel2 tnC xs T] (fun _ : Value => True) (fun c => c) (fun c => [sl e_api_Instr c (codeT T (rd T i))]) := by
  have hT := rightB_len hr
  have F := nodeB_F (rightB_node hr hi)
  have fk := F.kids; have fd := F.kind
  have hkid : ∀ k : Nat, k < (rd T i).kids.length → 0 ≤ (rd T (rd (rd T i).kids k)).label ∧ (rd T (rd (rd T i).kids k)).label < labels := fun k hk => by
    have := fk k hk
    exact (nodeB_F (rightB_node hr (by omega))).lab
  unfold codeT
  refine Sp.intro (n := 98) Try.func61 rfl rfl fun w0 R => ?_
  dsimp only [List.cons_append, List.nil_append, envOf]
  first | (with_reducible refine Cd.g ?_; refine Cd.know (fun w_ hw_ => rel2_len (Tk.sat (A := (rel2 tnC xs T)) (by exact tk_) hw_)) fun hl => ?_) | (with_reducible refine Ol.g ?_; refine Ol.know (fun w_ hw_ => rel2_len (Tk.sat (A := (rel2 tnC xs T)) (by exact tk_) hw_)) fun hl => ?_) | (with_reducible refine Dn.g ?_; refine Dn.know (fun w_ hw_ => rel2_len (Tk.sat (A := (rel2 tnC xs T)) (by exact tk_) hw_)) fun hl => ?_)
  refine Cd.conv (Tk.more (p := rel2_pers (fun _ _ => inferInstance) _ _) (A := rel2 tnC xs T) (rel2_gotI (i := i) hi.1 hi.2) (by exact tk_)) ?_
  first | (with_reducible refine Cd.g ?_; refine Cd.pk (A := (tnC (rd xs i) (rd T i))) rfl (by exact tk_) fun q hq => ?_) | (with_reducible refine Ol.g ?_; refine Ol.pk (A := (tnC (rd xs i) (rd T i))) rfl (by exact tk_) fun q hq => ?_) | (with_reducible refine Dn.g ?_; refine Dn.pk (A := (tnC (rd xs i) (rd T i))) rfl (by exact tk_) fun q hq => ?_)
  dsimp only [List.cons_append, List.nil_append]
  obtain ⟨q1, q2, q3⟩ := hq
  generalize rd T i = N at q1 q2 q3 fk fd hkid ⊢
  obtain ⟨kind, val, lab, ks⟩ := N
  dsimp only at q1 q2 q3 fk fd hkid ⊢
  refine go ?_;repeat((with_reducible refine Ol.g ?_);(first|refine Ol.eff rfl rfl rfl (Eff.alloc fun _=>?_)|refine Ol.eff rfl rfl rfl (Eff.box fun _=>?_)|refine Ol.eff0 rfl rfl (Eff.store rfl rfl ?_)|refine Ol.eff rfl rfl rfl (Eff.bslice rfl rfl fun _=>?_)|(refine Ol.eff0 rfl rfl (Eff.storeE rfl ?_ ?_);exact pre_)|(refine Ol.eff rfl rfl rfl (Eff.append1 rfl ?_ fun _=>?_);exact pre_));refine go ?_)
  rename_i c
  rw [q1]
  refine Cd.condP rfl (fun g1 => ?_) (fun g1 => ?_)
  · refine go ?_
    refine Cd.drawL (l := [_, _, _, _, _]) (z := _) [[], [0], [0, 1], [], [0, 1, 2, 3]] [3, 4] [] (td := [(0, .fresh), (1, .fresh), (2, .fresh)]) rfl mixed (by kernel_rfl) (by kernel_rfl) (by kernel_rfl) (by decide) (by decide) rfl (by kernel_rfl) ?_
    refine god2 ?_
    refine Sg2.one (td := [(0, .old), (1, .old), (2, .old)]) rfl (by kernel_rfl) fun F3_ => ?_
    dsimp only [List.cons_append, List.nil_append]
    refine SpOp.eff rfl rfl rfl rfl rfl (Eff.call (R := ?_) (ref29_in 25 0 (by unfold i32B; omega)) rfl ?_ ?_)
    rotate_left
    · exact tkl_
    rintro _ -
    dsimp only [List.cons_append, List.nil_append]
    refine Sn.ok ?_
    refine god2 ?_
    refine Sg2.one (td := []) rfl (by kernel_rfl) fun F4_ => ?_
    dsimp only [List.cons_append, List.nil_append]
    (with_reducible first|refine SpOp.eff rfl rfl rfl rfl rfl (Eff.x (Qx.build rfl) ?_)|refine SpOp.eff rfl rfl rfl rfl rfl (Eff.alloc fun _=>?_)|refine SpOp.eff rfl rfl rfl rfl rfl (Eff.box fun _=>?_)|refine SpOp.eff rfl rfl rfl rfl rfl (Eff.bslice rfl rfl fun _=>?_)|(refine SpOp.eff rfl rfl rfl rfl rfl (Eff.append1 rfl ?_ fun _=>?_);exact pre_)|refine SpOp.eff0 rfl rfl rfl rfl (Eff.store rfl rfl ?_)|(refine SpOp.eff0 rfl rfl rfl rfl (Eff.storeE rfl ?_ ?_);exact pre_))
    rename_i cv
    refine Sn.ok ?_
    refine god2 ?_
    refine go ?_
    refine Dn.ret1 rfl rfl fun w hs => ⟨cv, rfl, trivial, hs.conv ?_⟩
    rw [if_pos g1, ← q2]
    exact ent_
  rw [if_neg g1]
  refine go ?_
  by_cases g2 : (ks.length : Int) = 0
  · rw [decide_eq_true g2]
    refine go ?_
    refine Cd.condP rfl (fun g3 => ?_) (fun g3 => ?_)
    · rw [if_pos ⟨by omega, g3⟩]
      refine go ?_
      with_reducible refine Ol.g ?_
      refine Ol.eff rfl rfl rfl (Eff.call (R := ?_) (ref29_in 1 1 (by unfold i32B; omega)) rfl ?_ ?_)
      rotate_left
      · exact tkl_
      rintro _ -
      dsimp only [List.cons_append, List.nil_append]
      refine go ?_
      with_reducible refine Ol.g ?_
      refine Ol.eff rfl rfl rfl (Eff.call (R := ?_) (ref29_in 25 0 (by unfold i32B; omega)) rfl ?_ ?_)
      rotate_left
      · exact tkl_
      rintro _ -
      dsimp only [List.cons_append, List.nil_append]
      refine go ?_;repeat((with_reducible refine Ol.g ?_);(first|refine Ol.eff rfl rfl rfl (Eff.alloc fun _=>?_)|refine Ol.eff rfl rfl rfl (Eff.box fun _=>?_)|refine Ol.eff0 rfl rfl (Eff.store rfl rfl ?_)|refine Ol.eff rfl rfl rfl (Eff.bslice rfl rfl fun _=>?_)|(refine Ol.eff0 rfl rfl (Eff.storeE rfl ?_ ?_);exact pre_)|(refine Ol.eff rfl rfl rfl (Eff.append1 rfl ?_ fun _=>?_);exact pre_));refine go ?_)
      rename_i cv
      refine Dn.ret1 rfl rfl fun w hs => ⟨cv, rfl, trivial, hs.conv (by exact ent_)⟩
    · rw [if_neg (fun e => g3 e.2), if_pos (by omega)]
      refine go ?_
      rw [decide_eq_true g2]
      refine go ?_
      with_reducible refine Ol.g ?_
      refine Ol.eff rfl rfl rfl (Eff.call (R := ?_) (ref29_in 1 0 (by unfold i32B; omega)) rfl ?_ ?_)
      rotate_left
      · exact tkl_
      rintro _ -
      dsimp only [List.cons_append, List.nil_append]
      refine go ?_
      with_reducible refine Ol.g ?_
      refine Ol.eff rfl rfl rfl (Eff.call (R := ?_) (ref29_in 25 0 (by unfold i32B; omega)) rfl ?_ ?_)
      rotate_left
      · exact tkl_
      rintro _ -
      dsimp only [List.cons_append, List.nil_append]
      refine go ?_;repeat((with_reducible refine Ol.g ?_);(first|refine Ol.eff rfl rfl rfl (Eff.alloc fun _=>?_)|refine Ol.eff rfl rfl rfl (Eff.box fun _=>?_)|refine Ol.eff0 rfl rfl (Eff.store rfl rfl ?_)|refine Ol.eff rfl rfl rfl (Eff.bslice rfl rfl fun _=>?_)|(refine Ol.eff0 rfl rfl (Eff.storeE rfl ?_ ?_);exact pre_)|(refine Ol.eff rfl rfl rfl (Eff.append1 rfl ?_ fun _=>?_);exact pre_));refine go ?_)
      rename_i cv
      refine Dn.ret1 rfl rfl fun w hs => ⟨cv, rfl, trivial, hs.conv (by exact ent_)⟩
  rw [decide_eq_false g2, if_neg (fun e => g2 (by omega)), if_neg (fun e => g2 (by omega))]
  have hk8 : ks.length ≤ 8 := by omega
  refine go ?_
  rw [decide_eq_false g2]
  refine go ?_
  refine Cd.loop (fun z : Nat × Value => z.1 ≤ ks.length) (fun z => ks.length - z.1) (fun z => [(0, v), (5, .pointer (some ⟨c, 0, none⟩)), (6, .int .i64 ks.length), (7, z.2), (8, .int .i64 z.1)])
    (fun z => sl e_api_Instr z.2 (forksT T (ks.take z.1)) :: cel c 56 [.int .i64 kind, .int .i32 (rd xs i).f_Value, .int .i64 (rd xs i).f_Label, (rd xs i).f_Kids] :: rsl (eInt .i64) (rd xs i).f_Kids ks :: rsl e_api_Tree v xs :: rel2 tnC xs T :: R) (0, .slice none 0 0) (by simp) ?_ ?_ ?_
  · repeat(first|exact Env.le_nil _|(refine Env.le_cons rfl ?_ ?_;first|rfl|(simp;done)|exact congrArg _ (by omega)|rotate_left))
  · rw [List.take_zero, show forksT T [] = [] from rfl]
    exact ent_
  rintro ⟨k, v7⟩ hk
  dsimp only at hk ⊢
  have hfl := forksT_len T (ks.take k)
  rw [List.length_take, Nat.min_eq_left hk] at hfl
  refine go ?_
  refine Cd.condP rfl (fun h => ?_) (fun h => ?_)
  · have hk2 : k < ks.length := by omega
    have hkd := fk k hk2
    have hkl := hkid k hk2
    refine Cd.conv (Tk.more (p := rel2_pers (fun _ _ => inferInstance) _ _) (A := rel2 tnC xs T) (rel2_gotI (i := rd ks k) (by omega) (by omega)) (by exact tk_)) ?_
    first | (with_reducible refine Cd.g ?_; refine Cd.pk (A := (tnC (rd xs (rd ks k)) (rd T (rd ks k)))) rfl (by exact tk_) fun q' hq' => ?_) | (with_reducible refine Ol.g ?_; refine Ol.pk (A := (tnC (rd xs (rd ks k)) (rd T (rd ks k)))) rfl (by exact tk_) fun q' hq' => ?_) | (with_reducible refine Dn.g ?_; refine Dn.pk (A := (tnC (rd xs (rd ks k)) (rd T (rd ks k)))) rfl (by exact tk_) fun q' hq' => ?_)
    dsimp only [List.cons_append, List.nil_append]
    have ql := hq'.2.2
    refine go ?_
    refine Cd.drawL (l := [_, _, _, _, _, _, _, _, _, _, _, _, _, _, _, _, _, _, _, _]) (z := _) [[], [], [], [2], [], [2, 3, 4], [2, 3, 4, 5], [1, 2, 3, 4, 5, 6], [1, 2, 3, 4, 5, 6, 7], [1, 2, 3, 4, 5, 6, 7, 8], [1, 2, 3, 4, 5, 6, 7, 8, 9], [1, 2, 3, 4, 5, 6, 7, 8, 9, 10], [], [12], [], [12, 13, 14], [12, 13, 14, 15], [1, 2, 3, 4, 5, 6, 7, 8, 9, 10, 11, 12, 13, 14, 15, 16], [1, 2, 3, 4, 5, 6, 7, 8, 9, 10, 11, 12, 13, 14, 15, 16, 17], [0, 1, 2, 3, 4, 5, 6, 7, 8, 9, 10, 11, 12, 13, 14, 15, 16, 17, 18]] [10, 11, 17, 18, 19] [] (td := [(0, .fresh), (1, .fresh), (2, .fresh), (3, .fresh), (4, .fresh), (5, .fresh), (6, .fresh), (7, .fresh), (8, .fresh), (9, .fresh), (12, .fresh), (13, .fresh), (14, .fresh), (15, .fresh), (16, .fresh)]) rfl mixed (by kernel_rfl) (by kernel_rfl) (by kernel_rfl) (by decide) (by decide) rfl (by kernel_rfl) ?_
    refine god2 ?_
    rw [ql]
    refine Sg2.one (td := [(0, .old), (12, .old), (13, .old), (14, .old), (15, .old), (16, .old)]) rfl (by kernel_rfl) fun F10_ => ?_
    dsimp only [List.cons_append, List.nil_append]
    refine SpOp.eff rfl rfl rfl rfl rfl (Eff.call (R := ?_) (ref29_in 1 (rd T (rd ks k)).label (by unfold i32B; omega)) rfl ?_ ?_)
    rotate_left
    · exact tkl_
    rintro _ -
    dsimp only [List.cons_append, List.nil_append]
    refine Sn.ok ?_
    refine god2 ?_
    refine Sg2.one (td := [(0, .old), (12, .old), (13, .old), (14, .old), (15, .old), (16, .old)]) rfl (by kernel_rfl) fun F11_ => ?_
    dsimp only [List.cons_append, List.nil_append]
    refine SpOp.eff rfl rfl rfl rfl rfl (Eff.call (R := ?_) (ref29_in 1 0 (by unfold i32B; omega)) rfl ?_ ?_)
    rotate_left
    · exact tkl_
    rintro _ -
    dsimp only [List.cons_append, List.nil_append]
    refine Sn.ok ?_
    refine god2 ?_
    refine Sg2.one (td := [(0, .old)]) rfl (by kernel_rfl) fun F17_ => ?_
    dsimp only [List.cons_append, List.nil_append]
    refine SpOp.eff rfl rfl rfl rfl rfl (Eff.call (R := ?_) (ref29_in 20 (rd ks k) (by unfold i32B; omega)) rfl ?_ ?_)
    rotate_left
    · exact tkl_
    rintro _ -
    dsimp only [List.cons_append, List.nil_append]
    refine Sn.ok ?_
    refine god2 ?_
    refine Sg2.one (td := [(0, .old)]) rfl (by kernel_rfl) fun F18_ => ?_
    dsimp only [List.cons_append, List.nil_append]
    (with_reducible first|refine SpOp.eff rfl rfl rfl rfl rfl (Eff.x (Qx.build rfl) ?_)|refine SpOp.eff rfl rfl rfl rfl rfl (Eff.alloc fun _=>?_)|refine SpOp.eff rfl rfl rfl rfl rfl (Eff.box fun _=>?_)|refine SpOp.eff rfl rfl rfl rfl rfl (Eff.bslice rfl rfl fun _=>?_)|(refine SpOp.eff rfl rfl rfl rfl rfl (Eff.append1 rfl ?_ fun _=>?_);exact pre_)|refine SpOp.eff0 rfl rfl rfl rfl (Eff.store rfl rfl ?_)|(refine SpOp.eff0 rfl rfl rfl rfl (Eff.storeE rfl ?_ ?_);exact pre_))
    refine Sn.ok ?_
    refine god2 ?_
    refine Sg2.one (td := []) rfl (by kernel_rfl) fun F19_ => ?_
    dsimp only [List.cons_append, List.nil_append]
    (with_reducible first|refine SpOp.eff rfl rfl rfl rfl rfl (Eff.x (Qx.build rfl) ?_)|refine SpOp.eff rfl rfl rfl rfl rfl (Eff.alloc fun _=>?_)|refine SpOp.eff rfl rfl rfl rfl rfl (Eff.box fun _=>?_)|refine SpOp.eff rfl rfl rfl rfl rfl (Eff.bslice rfl rfl fun _=>?_)|(refine SpOp.eff rfl rfl rfl rfl rfl (Eff.append1 rfl ?_ fun _=>?_);exact pre_)|refine SpOp.eff0 rfl rfl rfl rfl (Eff.store rfl rfl ?_)|(refine SpOp.eff0 rfl rfl rfl rfl (Eff.storeE rfl ?_ ?_);exact pre_))
    rename_i v7'
    refine Sn.ok ?_
    refine god2 ?_
    refine go ?_
    refine Dn.round (k + 1, v7') (by dsimp only; omega) (by dsimp only; omega) (by repeat(first|exact Env.le_nil _|(refine Env.le_cons rfl ?_ ?_;first|rfl|(simp;done)|exact congrArg _ (by omega)|rotate_left))) ?_
    dsimp only
    rw [forksT_succ T hk2]
    unfold forkT
    exact ent_
  have hkk : k = ks.length := by omega
  subst hkk
  rw [List.take_length]
  have hfk : (forksT T ks).length = 3 * ks.length := forksT_len T ks
  refine go ?_
  refine Cd.cut (α := Unit) (fun _ => [(5, .pointer (some ⟨c, 0, none⟩)), (6, .int .i64 ks.length), (7, v7), (9, .int .i64 (if kind = 3 then 6 else 4))])
    (fun _ => cel c 56 [.int .i64 kind, .int .i32 (rd xs i).f_Value, .int .i64 (rd xs i).f_Label, (rd xs i).f_Kids] :: sl e_api_Instr v7 (forksT T ks) :: R) (fun K kk => ?_) ?_
  · refine Cd.condP rfl (fun g3 => ?_) (fun g3 => ?_)
    · refine go ?_
      refine Dn.weak ?_ (by exact ent_) (kk ())
      rw [if_pos g3]
      repeat(first|exact Env.le_nil _|(refine Env.le_cons rfl ?_ ?_;first|rfl|(simp;done)|exact congrArg _ (by omega)|rotate_left))
    · refine go ?_
      refine Dn.weak ?_ (by exact ent_) (kk ())
      rw [if_neg g3]
      repeat(first|exact Env.le_nil _|(refine Env.le_cons rfl ?_ ?_;first|rfl|(simp;done)|exact congrArg _ (by omega)|rotate_left))
  rintro -
  refine go ?_
  refine Cd.cut (α := Unit) (fun _ => [(5, .pointer (some ⟨c, 0, none⟩)), (6, .int .i64 ks.length), (7, v7), (9, .int .i64 (opT kind))])
    (fun _ => sl e_api_Instr v7 (forksT T ks) :: R) (fun K kk => ?_) ?_
  · refine Cd.condP rfl (fun g3 => ?_) (fun g3 => ?_)
    · refine go ?_
      refine Dn.weak ?_ (by exact ent_) (kk ())
      rw [show opT kind = 5 from by unfold opT; rw [if_neg (by omega), if_neg (by omega)]]
      repeat(first|exact Env.le_nil _|(refine Env.le_cons rfl ?_ ?_;first|rfl|(simp;done)|exact congrArg _ (by omega)|rotate_left))
    · refine go ?_
      refine Dn.weak ?_ (by exact ent_) (kk ())
      rw [show opT kind = if kind = 3 then 6 else 4 from by
        unfold opT
        by_cases e : kind = 3
        · rw [if_neg (by omega), if_pos e, if_pos e]
        · rw [if_pos (by omega), if_neg e]]
      repeat(first|exact Env.le_nil _|(refine Env.le_cons rfl ?_ ?_;first|rfl|(simp;done)|exact congrArg _ (by omega)|rotate_left))
  rintro -
  have hop : i32B (opT kind) := by unfold i32B opT; split <;> (try split) <;> omega
  refine go ?_
  with_reducible refine Ol.g ?_
  refine Ol.eff rfl rfl rfl (Eff.call (R := ?_) (ref29_in 21 0 (by unfold i32B; omega)) rfl ?_ ?_)
  rotate_left
  · exact tkl_
  rintro _ -
  dsimp only [List.cons_append, List.nil_append]
  refine go ?_
  with_reducible refine Ol.g ?_
  refine Ol.eff rfl rfl rfl (Eff.call (R := ?_) (ref29_in 13 1 (by unfold i32B; omega)) rfl ?_ ?_)
  rotate_left
  · exact tkl_
  rintro _ -
  dsimp only [List.cons_append, List.nil_append]
  refine go ?_;repeat((with_reducible refine Ol.g ?_);(first|refine Ol.eff rfl rfl rfl (Eff.alloc fun _=>?_)|refine Ol.eff rfl rfl rfl (Eff.box fun _=>?_)|refine Ol.eff0 rfl rfl (Eff.store rfl rfl ?_)|refine Ol.eff rfl rfl rfl (Eff.bslice rfl rfl fun _=>?_)|(refine Ol.eff0 rfl rfl (Eff.storeE rfl ?_ ?_);exact pre_)|(refine Ol.eff rfl rfl rfl (Eff.append1 rfl ?_ fun _=>?_);exact pre_));refine go ?_)
  rename_i v8 v7'
  refine Cd.loop (fun z : Nat × Value => z.1 ≤ ks.length - 1) (fun z => ks.length - 1 - z.1) (fun z => [(6, .int .i64 ks.length), (7, z.2), (9, .int .i64 (opT kind)), (10, .int .i64 ((z.1 : Int) + 1))])
    (fun z => sl e_api_Instr z.2 ((forksT T ks ++ [⟨21, 0⟩, ⟨13, 1⟩]) ++ waitsT kind z.1) :: R) (0, v7') (by simp) ?_ ?_ ?_
  · repeat(first|exact Env.le_nil _|(refine Env.le_cons rfl ?_ ?_;first|rfl|(simp;done)|exact congrArg _ (by omega)|rotate_left))
  · rw [show waitsT kind 0 = [] from rfl, List.append_nil]
    exact ent_
  rintro ⟨j, v9⟩ hj
  dsimp only at hj ⊢
  have hwl := waitsT_len kind j
  refine go ?_
  refine Cd.condP rfl (fun h2 => ?_) (fun h2 => ?_)
  · refine go ?_
    with_reducible refine Ol.g ?_
    refine Ol.eff rfl rfl rfl (Eff.call (R := ?_) (ref29_in 21 0 (by unfold i32B; omega)) rfl ?_ ?_)
    rotate_left
    · exact tkl_
    rintro _ -
    dsimp only [List.cons_append, List.nil_append]
    refine go ?_
    with_reducible refine Ol.g ?_
    refine Ol.eff rfl rfl rfl (Eff.call (R := ?_) (ref29_in 12 1 (by unfold i32B; omega)) rfl ?_ ?_)
    rotate_left
    · exact tkl_
    rintro _ -
    dsimp only [List.cons_append, List.nil_append]
    refine go ?_
    with_reducible refine Ol.g ?_
    refine Ol.eff rfl rfl rfl (Eff.call (R := ?_) (ref29_in (opT kind) 0 (by unfold i32B; omega)) rfl ?_ ?_)
    rotate_left
    · exact tkl_
    rintro _ -
    dsimp only [List.cons_append, List.nil_append]
    refine go ?_
    with_reducible refine Ol.g ?_
    refine Ol.eff rfl rfl rfl (Eff.call (R := ?_) (ref29_in 13 1 (by unfold i32B; omega)) rfl ?_ ?_)
    rotate_left
    · exact tkl_
    rintro _ -
    dsimp only [List.cons_append, List.nil_append]
    refine go ?_;repeat((with_reducible refine Ol.g ?_);(first|refine Ol.eff rfl rfl rfl (Eff.alloc fun _=>?_)|refine Ol.eff rfl rfl rfl (Eff.box fun _=>?_)|refine Ol.eff0 rfl rfl (Eff.store rfl rfl ?_)|refine Ol.eff rfl rfl rfl (Eff.bslice rfl rfl fun _=>?_)|(refine Ol.eff0 rfl rfl (Eff.storeE rfl ?_ ?_);exact pre_)|(refine Ol.eff rfl rfl rfl (Eff.append1 rfl ?_ fun _=>?_);exact pre_));refine go ?_)
    rename_i w1 v9'
    refine Dn.round (j + 1, v9') (by dsimp only; omega) (by dsimp only; omega) (by repeat(first|exact Env.le_nil _|(refine Env.le_cons rfl ?_ ?_;first|rfl|(simp;done)|exact congrArg _ (by omega)|rotate_left))) ?_
    dsimp only
    rw [waitsT_succ, ← List.append_assoc]
    unfold waitT
    exact ent_
  have hjj : j = ks.length - 1 := by omega
  subst hjj
  refine go ?_
  with_reducible refine Ol.g ?_
  refine Ol.eff rfl rfl rfl (Eff.call (R := ?_) (ref29_in 12 1 (by unfold i32B; omega)) rfl ?_ ?_)
  rotate_left
  · exact tkl_
  rintro _ -
  dsimp only [List.cons_append, List.nil_append]
  refine go ?_
  with_reducible refine Ol.g ?_
  refine Ol.eff rfl rfl rfl (Eff.call (R := ?_) (ref29_in 25 0 (by unfold i32B; omega)) rfl ?_ ?_)
  rotate_left
  · exact tkl_
  rintro _ -
  dsimp only [List.cons_append, List.nil_append]
  refine go ?_;repeat((with_reducible refine Ol.g ?_);(first|refine Ol.eff rfl rfl rfl (Eff.alloc fun _=>?_)|refine Ol.eff rfl rfl rfl (Eff.box fun _=>?_)|refine Ol.eff0 rfl rfl (Eff.store rfl rfl ?_)|refine Ol.eff rfl rfl rfl (Eff.bslice rfl rfl fun _=>?_)|(refine Ol.eff0 rfl rfl (Eff.storeE rfl ?_ ?_);exact pre_)|(refine Ol.eff rfl rfl rfl (Eff.append1 rfl ?_ fun _=>?_);exact pre_));refine go ?_)
  rename_i v10 cv
  refine Dn.ret1 rfl rfl fun w hs => ⟨cv, rfl, trivial, hs.conv (by exact ent_)⟩
-- FN confidant/confidantref29.Compile
theorem ref29_Compile (v : Value) (xs : List S_api_Tree) (T : List TN) :
    Sp Try.prog 21 [v] [rsl e_api_Tree v xs, rel2 tnC xs T] (fun y : Value × List Value => True) (fun y => .tuple #[y.1, .bool (rightB T 16)])
      (fun y => match rightB T 16 with | true => [sl eVal y.1 y.2, rws false e_api_Instr y.2 (T.map (codeT T))] | false => [sl eVal y.1 [], rws false e_api_Instr [] []]) := by
  refine Sp.intro (n := 22) Try.func21 rfl rfl fun w0 R => ?_
  dsimp only [List.cons_append, List.nil_append, envOf]
  first | (with_reducible refine Cd.g ?_; refine Cd.know (fun w_ hw_ => rel2_len (Tk.sat (A := (rel2 tnC xs T)) (by exact tk_) hw_)) fun hl => ?_) | (with_reducible refine Ol.g ?_; refine Ol.know (fun w_ hw_ => rel2_len (Tk.sat (A := (rel2 tnC xs T)) (by exact tk_) hw_)) fun hl => ?_) | (with_reducible refine Dn.g ?_; refine Dn.know (fun w_ hw_ => rel2_len (Tk.sat (A := (rel2 tnC xs T)) (by exact tk_) hw_)) fun hl => ?_)
  refine go ?_
  with_reducible refine Ol.g ?_
  refine Ol.eff rfl rfl rfl (Eff.call (R := ?_) (ref29_Right v xs T 16) rfl ?_ ?_)
  rotate_left
  · exact tkl_
  rintro _ -
  dsimp only [List.cons_append, List.nil_append]
  cases hr : rightB T 16 with
  | false =>
    refine go ?_
    refine Dn.ret2 rfl rfl rfl fun w hs => ⟨(.slice none 0 0, []), rfl, trivial, hs.conv (by dsimp only [List.cons_append, List.nil_append]; exact ent_)⟩
  | true =>
    have hT := rightB_len hr
    refine go ?_
    refine Cd.loop (fun z : Nat × Value × List Value => z.1 ≤ T.length ∧ z.2.2.length = z.1) (fun z => T.length - z.1) (fun z => [(0, v), (4, z.2.1), (5, .int .i64 z.1)])
      (fun z => rsl e_api_Tree v xs :: rel2 tnC xs T :: sl eVal z.2.1 z.2.2 :: rws false e_api_Instr z.2.2 ((T.take z.1).map (codeT T)) :: R) (0, .slice none 0 0, []) ⟨by simp, rfl⟩ ?_ ?_ ?_
    · repeat(first|exact Env.le_nil _|(refine Env.le_cons rfl ?_ ?_;first|rfl|(simp;done)|exact congrArg _ (by omega)|rotate_left))
    · rw [List.take_zero, List.map_nil]
      exact ent_
    rintro ⟨k, v4, rows⟩ ⟨hk, hrl⟩
    dsimp only at hk hrl ⊢
    refine go ?_
    refine Cd.condP rfl (fun h => ?_) (fun h => ?_)
    · have hk2 : k < T.length := by omega
      refine go ?_
      with_reducible refine Ol.g ?_
      refine Ol.eff rfl rfl rfl (Eff.call (R := ?_) (ref29_code v xs T 16 k hr (by omega) (by omega)) rfl ?_ ?_)
      rotate_left
      · exact tkl_
      rintro cv -
      dsimp only [List.cons_append, List.nil_append]
      refine go ?_;repeat((with_reducible refine Ol.g ?_);(first|refine Ol.eff rfl rfl rfl (Eff.alloc fun _=>?_)|refine Ol.eff rfl rfl rfl (Eff.box fun _=>?_)|refine Ol.eff0 rfl rfl (Eff.store rfl rfl ?_)|refine Ol.eff rfl rfl rfl (Eff.bslice rfl rfl fun _=>?_)|(refine Ol.eff0 rfl rfl (Eff.storeE rfl ?_ ?_);exact pre_)|(refine Ol.eff rfl rfl rfl (Eff.append1 rfl ?_ fun _=>?_);exact pre_));refine go ?_)
      rename_i u1 v4'
      refine Dn.round (k + 1, v4', rows ++ [cv]) ⟨by dsimp only; omega, by simp [hrl]⟩ (by dsimp only; omega) (by repeat(first|exact Env.le_nil _|(refine Env.le_cons rfl ?_ ?_;first|rfl|(simp;done)|exact congrArg _ (by omega)|rotate_left))) ?_
      dsimp only
      rw [take_rd hk2, List.map_append, List.map_cons, List.map_nil]
      exact ent_
    · have hkk : k = T.length := by omega
      subst hkk
      rw [List.take_length]
      refine go ?_
      refine Dn.ret2 rfl rfl rfl fun w hs => ⟨(v4, rows), rfl, trivial, hs.conv (by dsimp only [List.cons_append, List.nil_append]; exact ent_)⟩
-- FN confidant/confidantref5.SameCode
theorem ref5_SameCode (r r2 : Bool) (u v : Value) (xs ys : List S_api_Instr) (hx : xs.length ≤ 1000000000) (hy : ys.length ≤ 1000000000) :
    Sp Try.prog 64 [u, v] [slB r e_api_Instr u xs, slB r2 e_api_Instr v ys] (fun _ : Unit => True) (fun _ => .bool (decide (xs = ys))) (fun _ => [slB r e_api_Instr u xs, slB r2 e_api_Instr v ys]) := by
  refine Sp.intro (n := 26) Try.func64 rfl rfl fun w0 R => ?_
  dsimp only [List.cons_append, List.nil_append, envOf]
  refine go ?_
  refine Cd.condP rfl (fun h => ?_) (fun h => ?_)
  · refine go ?_
    refine Dn.ret1 rfl rfl fun w hs => ⟨(), ?_, by trivial, by first | exact hs | (refine hs.conv ?_; exact ent_)⟩
    rw [decide_eq_false fun e => by subst e; exact h rfl]
  have hl : xs.length = ys.length := by omega
  refine go ?_
  refine Cd.loop (fun k : Nat => k ≤ xs.length ∧ xs.take k = ys.take k) (fun k => xs.length - k) (fun k => [(0, u), (1, v), (5, .int .i64 k)]) (fun _ => _) 0 ⟨by omega, by simp⟩ ?_ (ents.refl _) fun k ⟨hk, he⟩ => ?_
  · repeat(first|exact Env.le_nil _|(refine Env.le_cons rfl ?_ ?_;first|rfl|(simp;done)|exact congrArg _ (by omega)|rotate_left))
  refine go ?_
  refine Cd.condP rfl (fun h => ?_) (fun h => ?_)
  · have hk' : k < xs.length := by omega
    refine go ?_
    refine Cd.draw2 [[], [], [0, 1], [0, 1, 2], [], [], [4, 5], [4, 5, 6], [0, 1, 2, 3, 4, 5, 6, 7]] [] [] (td := [(0, .fresh), (1, .fresh), (2, .fresh), (3, .fresh), (4, .fresh), (5, .fresh), (6, .fresh), (7, .fresh), (8, .fresh)]) mixed (by kernel_rfl) (by kernel_rfl) (by decide) (by decide) rfl (by kernel_rfl) ?_
    refine god2 ?_
    refine go ?_
    refine Cd.condP rfl (fun h2 => ?_) (fun h2 => ?_)
    · refine go ?_
      refine Dn.ret1 rfl rfl fun w hs => ⟨(), ?_, by trivial, by first | exact hs | (refine hs.conv ?_; exact ent_)⟩
      rw [decide_eq_false fun e => by subst e; exact h2 rfl]
    · refine go ?_
      refine Dn.round (k + 1) ⟨by omega, ?_⟩ (by omega) ?_ (ents.refl _)
      · have h3 : rd xs (k : Int) = rd ys (k : Int) := Decidable.of_not_not h2
        rw [take_rd hk', take_rd (by omega), he, h3]
      · repeat(first|exact Env.le_nil _|(refine Env.le_cons rfl ?_ ?_;first|rfl|(simp;done)|exact congrArg _ (by omega)|rotate_left))
  · have hke : k = xs.length := by omega
    subst hke
    refine go ?_
    refine Dn.ret1 rfl rfl fun w hs => ⟨(), ?_, by trivial, by first | exact hs | (refine hs.conv ?_; exact ent_)⟩
    rw [List.take_length] at he
    rw [decide_eq_true (by rw [he, hl, List.take_length])]
end Go.Proofs.Ytcgjmlapmdbnmaa

