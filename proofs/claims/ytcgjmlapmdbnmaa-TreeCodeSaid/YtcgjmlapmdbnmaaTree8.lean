/- Contracts of functions of the program, proved in a small separation logic. Conditions: those that each theorem states. -/
import Derived.Test.YtcgjmlapmdbnmaaTree7
import Derived.Test.YtcgjmlapmdbnmaaX2
namespace Go.Proofs.Ytcgjmlapmdbnmaa
open Go Go.Sl
set_option maxHeartbeats 4000000
set_option maxRecDepth 100000
set_option linter.unusedVariables false
structure GZ where
  k : Nat
  v : Value
  xs : List S_api_Tree
  T : List TN
abbrev pOk (T : List TN) (p : Int) : Prop := 0 ≤ p ∧ p < T.length ∧ ((rd T p).kind = 2 ∨ (rd T p).kind = 3)
-- FN confidant/confidantseat.Tree
theorem seat_Tree (lv : Value) (l : List Int) (labels : Int) (hb : ∀ x, x ∈ l → 0 ≤ x ∧ x ≤ 255) (hm : l.length ≤ 1000000) (hlb : labels ≤ 1000000) :
    Sp Try.prog 15 [lv, .int .i64 labels] [rsl (eInt .u8) lv l] (fun y : GZ => TV y.T (imax labels 1)) (fun y => y.v) (fun y => [sl e_api_Tree y.v y.xs, rel2 tnC y.xs y.T]) := by
  have hL : 1 ≤ imax labels 1 ∧ imax labels 1 ≤ 1000000 := by unfold imax; split <;> omega
  refine Sp.intro (n := 122) Try.func15 rfl rfl fun w0 R => ?_
  dsimp only [List.cons_append, List.nil_append, envOf]
  refine go ?_;repeat((with_reducible refine Ol.g ?_);(first|refine Ol.eff rfl rfl rfl (Eff.alloc fun _=>?_)|refine Ol.eff rfl rfl rfl (Eff.box fun _=>?_)|refine Ol.eff0 rfl rfl (Eff.store rfl rfl ?_)|refine Ol.eff rfl rfl rfl (Eff.bslice rfl rfl fun _=>?_)|(refine Ol.eff0 rfl rfl (Eff.storeE rfl ?_ ?_);exact pre_)|(refine Ol.eff rfl rfl rfl (Eff.append1 rfl ?_ fun _=>?_);exact pre_));refine go ?_)
  rename_i v0
  refine Cd.loop (fun z : GZ => TV z.T (imax labels 1) ∧ 2 * z.k ≤ l.length + 1) (fun z => l.length + 1 - z.k) (fun z => [(0, lv), (1, .int .i64 labels), (5, z.v), (6, .int .i64 (2 * (z.k : Int)))])
    (fun z => rsl (eInt .u8) lv l :: sl e_api_Tree z.v z.xs :: rel2 tnC z.xs z.T :: R) ⟨0, v0, [⟨2, 0, 0, .slice none 0 0⟩], [⟨2, 0, 0, []⟩]⟩ ⟨TV.one _ hL.1, by simp⟩ ?_ ?_ ?_
  · repeat(first|exact Env.le_nil _|(refine Env.le_cons rfl ?_ ?_;first|rfl|(simp;done)|exact congrArg _ (by omega)|rotate_left))
  · refine ents.cons (by exact tk_) (ents.cons (by exact tk_) (ents.rsnoc (l := []) (q := []) (Tk.pk (A := tnC ⟨2, 0, 0, .slice none 0 0⟩ ⟨2, 0, 0, []⟩) rfl () ⟨rfl, rfl, rfl⟩ (by exact tkl_)) Tk.free (by exact ent_)))
  rintro ⟨k, v, xs, T⟩ ⟨hV, hk⟩
  dsimp only at hV hk ⊢
  have hTl := hV.len
  first | (with_reducible refine Cd.g ?_; refine Cd.know (fun w_ hw_ => rel2_len (Tk.sat (A := (rel2 tnC xs T)) (by exact tk_) hw_)) fun hx => ?_) | (with_reducible refine Ol.g ?_; refine Ol.know (fun w_ hw_ => rel2_len (Tk.sat (A := (rel2 tnC xs T)) (by exact tk_) hw_)) fun hx => ?_) | (with_reducible refine Dn.g ?_; refine Dn.know (fun w_ hw_ => rel2_len (Tk.sat (A := (rel2 tnC xs T)) (by exact tk_) hw_)) fun hx => ?_)
  refine go ?_
  by_cases g1 : 2 * (k : Int) + 1 < (l.length : Int)
  rotate_left
  · rw [decide_eq_false g1]
    refine go ?_
    refine Dn.ret1 rfl rfl fun w hs => ⟨⟨k, v, xs, T⟩, rfl, hV, hs.conv (by exact ent_)⟩
  rw [decide_eq_true g1]
  refine go ?_
  refine Cd.condP rfl (fun g2 => ?_) (fun g2 => ?_)
  rotate_left
  · refine go ?_
    refine Dn.ret1 rfl rfl fun w hs => ⟨⟨k, v, xs, T⟩, rfl, hV, hs.conv (by exact ent_)⟩
  have b1 := hb (rd l (2 * (k : Int))) (rd_mem (by omega) (by omega))
  have b2 := hb (rd l (2 * (k : Int) + 1)) (rd_mem (by omega) (by omega))
  refine go ?_
  obtain ⟨m0, hm0⟩ : ∃ m : Nat, rd l (2 * (k : Int)) % (xs.length : Int) = (m : Int) - 1 ∧ m ≤ T.length := by
    have h0 := Int.emod_nonneg (rd l (2 * (k : Int))) (show (xs.length : Int) ≠ 0 by omega)
    have h1 := Int.emod_lt_of_pos (rd l (2 * (k : Int))) (show 0 < (xs.length : Int) by omega)
    exact ⟨(rd l (2 * (k : Int)) % (xs.length : Int)).toNat + 1, by omega, by omega⟩
  refine Cd.cutX (α := { p : Int // p = -1 ∨ pOk T p }) 2 (fun p => [(0, lv), (1, .int .i64 labels), (5, v), (6, .int .i64 (2 * (k : Int))), (7, .int .i64 p.1)])
    (fun p => rsl (eInt .u8) lv l :: sl e_api_Tree v xs :: rel2 tnC xs T :: R) (fun K kk _ => ?_) ?_
  · refine Cd.loop (fun z : Nat × Int => z.1 ≤ T.length ∧ (z.2 = -1 ∨ pOk T z.2)) (fun z => z.1) (fun z => [(0, lv), (1, .int .i64 labels), (5, v), (6, .int .i64 (2 * (k : Int))), (7, .int .i64 z.2), (8, .int .i64 ((z.1 : Int) - 1))])
      (fun z => rsl (eInt .u8) lv l :: sl e_api_Tree v xs :: rel2 tnC xs T :: R) (m0, -1) ⟨hm0.2, .inl rfl⟩ ?_ ?_ ?_
    · dsimp only; rw [← hm0.1]; repeat(first|exact Env.le_nil _|(refine Env.le_cons rfl ?_ ?_;first|rfl|(simp;done)|exact congrArg _ (by omega)|rotate_left))
    · exact ent_
    rintro ⟨m, p⟩ ⟨hm2, hp⟩
    dsimp only at hm2 hp ⊢
    refine go ?_
    rcases m with _ | m
    · rw [decide_eq_false (show ¬ (((0 : Nat) : Int) - 1 ≥ 0) by omega)]
      refine go ?_
      exact Dn.weak (by repeat(first|exact Env.le_nil _|(refine Env.le_cons rfl ?_ ?_;first|rfl|(simp;done)|exact congrArg _ (by omega)|rotate_left))) (by exact ent_) (kk ⟨p, hp⟩)
    rw [show ((m + 1 : Nat) : Int) - 1 = (m : Int) by omega]
    rw [decide_eq_true (show (m : Int) ≥ 0 by omega)]
    refine go ?_
    refine Cd.condP rfl (fun g3 => ?_) (fun g3 => ?_)
    rotate_left
    · refine go ?_
      exact Dn.weak (by repeat(first|exact Env.le_nil _|(refine Env.le_cons rfl ?_ ?_;first|rfl|(simp;done)|exact congrArg _ (by omega)|rotate_left))) (by exact ent_) (kk ⟨p, hp⟩)
    have hmT : (0 : Int) ≤ (m : Int) ∧ (m : Int) < T.length := by omega
    refine Cd.conv (Tk.more (p := rel2_pers (fun _ _ => inferInstance) _ _) (A := rel2 tnC xs T) (rel2_gotI (i := m) hmT.1 hmT.2) (by exact tk_)) ?_
    first | (with_reducible refine Cd.g ?_; refine Cd.pk (A := (tnC (rd xs m) (rd T m))) rfl (by exact tk_) fun q hq => ?_) | (with_reducible refine Ol.g ?_; refine Ol.pk (A := (tnC (rd xs m) (rd T m))) rfl (by exact tk_) fun q hq => ?_) | (with_reducible refine Dn.g ?_; refine Dn.pk (A := (tnC (rd xs m) (rd T m))) rfl (by exact tk_) fun q hq => ?_)
    dsimp only [List.cons_append, List.nil_append]
    obtain ⟨q1, q2, q3⟩ := hq
    refine go ?_
    rw [q1]
    have none_ : ∀ z : Nat × Int, z = (m, p) → z.1 ≤ T.length ∧ (z.2 = -1 ∨ pOk T z.2) := by rintro _ rfl; exact ⟨by dsimp only; omega, hp⟩
    by_cases e2 : (rd T m).kind = 2
    · rw [decide_eq_true e2]
      refine go ?_
      refine Cd.condP rfl (fun g5 => ?_) (fun g5 => ?_)
      · refine go ?_
        refine Dn.round (m, m) ⟨by dsimp only; omega, .inr ⟨hmT.1, hmT.2, .inl e2⟩⟩ (by dsimp only; omega) (by repeat(first|exact Env.le_nil _|(refine Env.le_cons rfl ?_ ?_;first|rfl|(simp;done)|exact congrArg _ (by omega)|rotate_left))) (by exact ent_)
      · refine go ?_
        refine Dn.round (m, p) (none_ _ rfl) (by dsimp only; omega) (by repeat(first|exact Env.le_nil _|(refine Env.le_cons rfl ?_ ?_;first|rfl|(simp;done)|exact congrArg _ (by omega)|rotate_left))) (by exact ent_)
    · rw [decide_eq_false e2]
      refine go ?_
      rw [q1]
      by_cases e3 : (rd T m).kind = 3
      · rw [decide_eq_true e3]
        refine go ?_
        refine Cd.condP rfl (fun g5 => ?_) (fun g5 => ?_)
        · refine go ?_
          refine Dn.round (m, m) ⟨by dsimp only; omega, .inr ⟨hmT.1, hmT.2, .inr e3⟩⟩ (by dsimp only; omega) (by repeat(first|exact Env.le_nil _|(refine Env.le_cons rfl ?_ ?_;first|rfl|(simp;done)|exact congrArg _ (by omega)|rotate_left))) (by exact ent_)
        · refine go ?_
          refine Dn.round (m, p) (none_ _ rfl) (by dsimp only; omega) (by repeat(first|exact Env.le_nil _|(refine Env.le_cons rfl ?_ ?_;first|rfl|(simp;done)|exact congrArg _ (by omega)|rotate_left))) (by exact ent_)
      · rw [decide_eq_false e3]
        refine go ?_
        refine Dn.round (m, p) (none_ _ rfl) (by dsimp only; omega) (by repeat(first|exact Env.le_nil _|(refine Env.le_cons rfl ?_ ?_;first|rfl|(simp;done)|exact congrArg _ (by omega)|rotate_left))) (by exact ent_)
  rintro ⟨p0, hp0⟩
  dsimp only
  refine go ?_
  refine Cd.cut (α := { p : Int // pOk T p }) (fun p => [(0, lv), (1, .int .i64 labels), (5, v), (6, .int .i64 (2 * (k : Int))), (7, .int .i64 p.1)])
    (fun p => rsl (eInt .u8) lv l :: sl e_api_Tree v xs :: rel2 tnC xs T :: R) (fun K kk => ?_) ?_
  · refine Cd.condP rfl (fun g => ?_) (fun g => ?_)
    · refine go ?_
      exact Dn.weak (by repeat(first|exact Env.le_nil _|(refine Env.le_cons rfl ?_ ?_;first|rfl|(simp;done)|exact congrArg _ (by omega)|rotate_left))) (by exact ent_) (kk ⟨0, by omega, by omega, .inl hV.root⟩)
    · refine go ?_
      exact Dn.weak (by repeat(first|exact Env.le_nil _|(refine Env.le_cons rfl ?_ ?_;first|rfl|(simp;done)|exact congrArg _ (by omega)|rotate_left))) (by exact ent_) (kk ⟨p0, hp0.resolve_left (by omega)⟩)
  rintro ⟨p, hp⟩
  dsimp only
  have hp1 : 0 ≤ p ∧ p < T.length := ⟨hp.1, hp.2.1⟩
  refine Dn.conv (Tk.more (p := rel2_pers (fun _ _ => inferInstance) _ _) (A := rel2 tnC xs T) (rel2_gotI (i := p) hp1.1 hp1.2) (by exact tk_)) ?_
  first | (with_reducible refine Cd.g ?_; refine Cd.pk (A := (tnC (rd xs p) (rd T p))) rfl (by exact tk_) fun q hq => ?_) | (with_reducible refine Ol.g ?_; refine Ol.pk (A := (tnC (rd xs p) (rd T p))) rfl (by exact tk_) fun q hq => ?_) | (with_reducible refine Dn.g ?_; refine Dn.pk (A := (tnC (rd xs p) (rd T p))) rfl (by exact tk_) fun q hq => ?_)
  dsimp only [List.cons_append, List.nil_append]
  refine go ?_
  refine Cd.condP rfl (fun g8 => ?_) (fun g8 => ?_)
  · refine go ?_
    refine Dn.ret1 rfl rfl fun w hs => ⟨⟨k, v, xs, T⟩, rfl, hV, hs.conv (by exact ent_)⟩
  have hks : (rd T p).kids.length < 8 := by omega
  obtain ⟨y, hy⟩ : ∃ y, rd l (2 * (k : Int) + 1) = y := ⟨_, rfl⟩
  have hlab : 0 ≤ y / 3 % imax labels 1 ∧ y / 3 % imax labels 1 < imax labels 1 := ⟨Int.emod_nonneg _ (by omega), Int.emod_lt_of_pos _ (by omega)⟩
  refine go ?_
  refine Cd.draw2 [[], [], [1], [0, 1, 2], [0, 1, 2, 3], [0, 1, 2, 3, 4], [0, 1, 2, 3, 4, 5], [0, 1, 2, 3, 4, 5, 6], [], [], [9], [8, 9, 10], [8, 9, 10, 11], [8, 9, 10, 11, 12], [8, 9, 10, 11, 12, 13], [], [], [16], [15, 16, 17], [15, 16, 17, 18], [15, 16, 17, 18, 19], [15, 16, 17, 18, 19, 20], [], [22], [15, 16, 17, 18, 19, 20, 21, 22, 23], [0, 1, 2, 3, 4, 5, 6, 7, 8, 9, 10, 11, 12, 13, 14, 15, 16, 17, 18, 19, 20, 21, 22, 23, 24], [], [0, 1, 2, 3, 4, 5, 6, 7, 8, 9, 10, 11, 12, 13, 14, 15, 16, 17, 18, 19, 20, 21, 22, 23, 24, 25, 26]] [26, 27] [] (td := [(0, .fresh), (1, .fresh), (2, .fresh), (3, .fresh), (4, .fresh), (5, .fresh), (6, .fresh), (7, .fresh), (8, .fresh), (9, .fresh), (10, .fresh), (11, .fresh), (12, .fresh), (13, .fresh), (14, .fresh), (15, .fresh), (16, .fresh), (17, .fresh), (18, .fresh), (19, .fresh), (20, .fresh), (21, .fresh), (22, .fresh), (23, .fresh), (24, .fresh), (25, .fresh)]) mixed (by kernel_rfl) (by kernel_rfl) (by decide) (by decide) rfl (by kernel_rfl) ?_
  refine god2 ?_
  refine Sg2.one (td := [(0, .old), (1, .old), (2, .old), (3, .old), (4, .old), (5, .old), (6, .old), (7, .old), (8, .old), (9, .old), (10, .old), (11, .old), (12, .old), (13, .old), (14, .old), (15, .old), (16, .old), (17, .old), (18, .old), (19, .old), (20, .old), (21, .old), (22, .old), (23, .old), (24, .old), (25, .old)]) rfl (by kernel_rfl) fun F26_ => ?_
  dsimp only [List.cons_append, List.nil_append]
  (with_reducible first|refine SpOp.eff rfl rfl rfl rfl rfl (Eff.x (Qx.build rfl) ?_)|refine SpOp.eff rfl rfl rfl rfl rfl (Eff.alloc fun _=>?_)|refine SpOp.eff rfl rfl rfl rfl rfl (Eff.box fun _=>?_)|refine SpOp.eff rfl rfl rfl rfl rfl (Eff.bslice rfl rfl fun _=>?_)|(refine SpOp.eff rfl rfl rfl rfl rfl (Eff.append1 rfl ?_ fun _=>?_);exact pre_)|refine SpOp.eff0 rfl rfl rfl rfl (Eff.store rfl rfl ?_)|(refine SpOp.eff0 rfl rfl rfl rfl (Eff.storeE rfl ?_ ?_);exact pre_))
  rename_i c9
  refine Sn.ok ?_
  refine god2 ?_
  refine Sg2.one (td := []) rfl (by kernel_rfl) fun F27_ => ?_
  dsimp only [List.cons_append, List.nil_append]
  (with_reducible first|refine SpOp.eff rfl rfl rfl rfl rfl (Eff.x (Qx.build rfl) ?_)|refine SpOp.eff rfl rfl rfl rfl rfl (Eff.alloc fun _=>?_)|refine SpOp.eff rfl rfl rfl rfl rfl (Eff.box fun _=>?_)|refine SpOp.eff rfl rfl rfl rfl rfl (Eff.bslice rfl rfl fun _=>?_)|(refine SpOp.eff rfl rfl rfl rfl rfl (Eff.append1 rfl ?_ fun _=>?_);exact pre_)|refine SpOp.eff0 rfl rfl rfl rfl (Eff.store rfl rfl ?_)|(refine SpOp.eff0 rfl rfl rfl rfl (Eff.storeE rfl ?_ ?_);exact pre_))
  refine Sn.ok ?_
  refine god2 ?_
  refine go ?_
  rw [hy]
  refine Cd.cut (α := Int) (fun z => [(0, lv), (1, .int .i64 labels), (5, v), (6, .int .i64 (2 * (k : Int))), (7, .int .i64 p), (9, .pointer (some ⟨c9, 0, none⟩))])
    (fun z => cel c9 56 [.int .i64 (y % 3 + 1), .int .i32 z, .int .i64 (y / 3 % imax labels 1), .slice none 0 0] :: rsl (eInt .i64) (rd xs p).f_Kids (rd T p).kids :: rsl (eInt .u8) lv l :: sl e_api_Tree v xs :: rel2 tnC xs T :: R) (fun K kk => ?_) ?_
  · refine Cd.condP rfl (fun g => ?_) (fun g => ?_)
    · refine go ?_;repeat((with_reducible refine Ol.g ?_);(first|refine Ol.eff rfl rfl rfl (Eff.alloc fun _=>?_)|refine Ol.eff rfl rfl rfl (Eff.box fun _=>?_)|refine Ol.eff0 rfl rfl (Eff.store rfl rfl ?_)|refine Ol.eff rfl rfl rfl (Eff.bslice rfl rfl fun _=>?_)|(refine Ol.eff0 rfl rfl (Eff.storeE rfl ?_ ?_);exact pre_)|(refine Ol.eff rfl rfl rfl (Eff.append1 rfl ?_ fun _=>?_);exact pre_));refine go ?_)
      exact Dn.weak (by repeat(first|exact Env.le_nil _|(refine Env.le_cons rfl ?_ ?_;first|rfl|(simp;done)|exact congrArg _ (by omega)|rotate_left))) (by exact ent_) (kk 0)
    · refine go ?_
      exact Dn.weak (by repeat(first|exact Env.le_nil _|(refine Env.le_cons rfl ?_ ?_;first|rfl|(simp;done)|exact congrArg _ (by omega)|rotate_left))) (by exact ent_) (kk _)
  intro val
  refine go ?_
  refine Ol.eff rfl rfl rfl (Eff.appendR rfl ?_ fun u1 => ?_)
  · simp; omega
  rw [List.nil_append]
  refine go ?_;repeat((with_reducible refine Ol.g ?_);(first|refine Ol.eff rfl rfl rfl (Eff.alloc fun _=>?_)|refine Ol.eff rfl rfl rfl (Eff.box fun _=>?_)|refine Ol.eff0 rfl rfl (Eff.store rfl rfl ?_)|refine Ol.eff rfl rfl rfl (Eff.bslice rfl rfl fun _=>?_)|(refine Ol.eff0 rfl rfl (Eff.storeE rfl ?_ ?_);exact pre_)|(refine Ol.eff rfl rfl rfl (Eff.append1 rfl ?_ fun _=>?_);exact pre_));refine go ?_)
  rename_i u2 u3 u4 v'
  first | (with_reducible refine Cd.g ?_; refine Cd.share (A := (sl (eInt .i64) u3 _)) (by exact tk_) ?_) | (with_reducible refine Ol.g ?_; refine Ol.share (A := (sl (eInt .i64) u3 _)) (by exact tk_) ?_) | (with_reducible refine Dn.g ?_; refine Dn.share (A := (sl (eInt .i64) u3 _)) (by exact tk_) ?_)
  rw [hx]
  refine Dn.round ⟨k + 1, v', xs.set p.toNat ⟨(rd xs p).f_Kind, (rd xs p).f_Value, (rd xs p).f_Label, u3⟩ ++ [⟨y % 3 + 1, val, y / 3 % imax labels 1, .slice none 0 0⟩], growT T p ⟨y % 3 + 1, val, y / 3 % imax labels 1, []⟩⟩ ⟨TV.grow hV hp1 (by omega) hp.2.2 hks rfl (show y % 3 + 1 = 1 ∨ y % 3 + 1 = 2 ∨ y % 3 + 1 = 3 by omega) hlab, by dsimp only; omega⟩ (by dsimp only; omega) ?_ ?_
  · repeat(first|exact Env.le_nil _|(refine Env.le_cons rfl ?_ ?_;first|rfl|(simp;done)|exact congrArg _ (by omega)|rotate_left))
  · dsimp only [growT]
    refine ents.trans (ents.rel2set (R := tnC) (l := xs) (q := T) (i := p) (x := ⟨(rd xs p).f_Kind, (rd xs p).f_Value, (rd xs p).f_Label, u3⟩) (y := { rd T p with kids := (rd T p).kids ++ [(T.length : Int)] }) hp1 hx (Tk.pk (A := tnC ⟨(rd xs p).f_Kind, (rd xs p).f_Value, (rd xs p).f_Label, u3⟩ { rd T p with kids := (rd T p).kids ++ [(T.length : Int)] }) rfl () hq (by exact tkl_)) (by exact tk_) (ents.refl _)) ?_
    exact ents.cons (by exact tk_) (ents.cons (by exact tk_) (ents.rsnoc (Tk.pk (A := tnC ⟨y % 3 + 1, val, y / 3 % imax labels 1, .slice none 0 0⟩ ⟨y % 3 + 1, val, y / 3 % imax labels 1, []⟩) rfl () ⟨rfl, rfl, rfl⟩ (by exact tkl_)) (by exact tk_) (by exact ent_)))
end Go.Proofs.Ytcgjmlapmdbnmaa

