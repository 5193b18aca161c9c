/- Contracts of functions of the program, proved in a small separation logic. Conditions: those that each theorem states. -/
import Derived.Test.YtcgjmlapmdbnmaaRTree5
namespace Go.Proofs.Ytcgjmlapmdbnmaa
open Go Go.Sl
set_option maxHeartbeats 4000000
set_option maxRecDepth 100000
set_option linter.unusedVariables false
structure CZ where
  i : Nat
  xs : List S_api_Tree
  T : List TN
  up : List Int
-- FN confidant/confidantseat.Climb
theorem seat_Climb (v : Value) (rows : List Value) (q : List (List Bool)) (hl : rows.length = q.length) (hm : q.length ≤ 1000000) (tv : Value) (xs : List S_api_Tree) (T : List TN) (label : Int) (hT : 1 ≤ T.length ∧ T.length ≤ 64)
    (hk : ∀ i : Nat, i < T.length → (rd T i).kids.length ≤ 1000 ∧ ∀ k : Nat, k < (rd T i).kids.length → 0 ≤ rd (rd T i).kids k ∧ rd (rd T i).kids k < T.length) :
    Sp Try.prog 17 [v, tv, .int .i64 label] [rsl eVal v rows, rws true eBool rows q, rsl e_api_Tree tv xs, rel2 tnC xs T] (fun y : BZ => True) (fun y => y.v) (fun y => [sl e_api_Tree y.v y.xs, rel2 tnC y.xs y.T]) := by
  refine Sp.intro (n := 77) Try.func17 rfl rfl fun w0 R => ?_
  dsimp only [List.cons_append, List.nil_append, envOf]
  first | (with_reducible refine Cd.g ?_; refine Cd.know (fun w_ hw_ => rel2_len (Tk.sat (A := (rel2 tnC xs T)) (by exact tk_) hw_)) fun hx => ?_) | (with_reducible refine Ol.g ?_; refine Ol.know (fun w_ hw_ => rel2_len (Tk.sat (A := (rel2 tnC xs T)) (by exact tk_) hw_)) fun hx => ?_) | (with_reducible refine Dn.g ?_; refine Dn.know (fun w_ hw_ => rel2_len (Tk.sat (A := (rel2 tnC xs T)) (by exact tk_) hw_)) fun hx => ?_)
  refine go ?_
  refine Ol.eff rfl rfl rfl (Eff.appendR rfl ?_ fun u => ?_)
  · simp; omega
  rw [List.nil_append]
  refine go ?_
  refine Ol.eff rfl rfl rfl (Eff.mkS (x := (0 : Int)) rfl ⟨by omega, by omega, by omega⟩ fun w8 => ?_)
  refine go ?_
  rw [show ((xs.length : Int)).toNat = xs.length from Int.toNat_natCast _]
  refine Cd.loop (fun z : CZ => z.i ≤ T.length ∧ z.xs.length = T.length ∧ z.T.length = T.length ∧ z.up.length = T.length) (fun z => T.length - z.i) (fun z => [(0, v), (1, tv), (2, .int .i64 label), (7, u), (8, w8), (9, .int .i64 z.i)])
    (fun z => rsl eVal v rows :: rws true eBool rows q :: rsl e_api_Tree tv xs :: rel2 tnC xs T :: sl e_api_Tree u z.xs :: rel2 tnC z.xs z.T :: sl (eInt .i64) w8 z.up :: R) ⟨0, xs, T, List.replicate xs.length 0⟩ ⟨by simp, hx, rfl, by simp; omega⟩ ?_ ?_ ?_
  · repeat(first|exact Env.le_nil _|(refine Env.le_cons rfl ?_ ?_;first|rfl|(simp;done)|exact congrArg _ (by omega)|rotate_left))
  · exact ent_
  rintro ⟨i, ys, S, up⟩ ⟨hi, hys, hS, hup⟩
  dsimp only at hi hys hS hup ⊢
  refine go ?_
  refine Cd.condP rfl (fun h => ?_) (fun h => ?_)
  rotate_left
  · refine go ?_
    refine Dn.ret1 rfl rfl fun w' hs => ⟨⟨u, ys, S⟩, rfl, trivial, hs.conv (by exact ent_)⟩
  have hi2 : i < T.length := by omega
  have hki := hk i hi2
  refine Cd.conv (Tk.more (p := rel2_pers (fun _ _ => inferInstance) _ _) (A := rel2 tnC xs T) (rel2_gotI (i := i) (by omega) (by omega)) (by exact tk_)) ?_
  first | (with_reducible refine Cd.g ?_; refine Cd.pk (A := (tnC (rd xs i) (rd T i))) rfl (by exact tk_) fun q0 hq0 => ?_) | (with_reducible refine Ol.g ?_; refine Ol.pk (A := (tnC (rd xs i) (rd T i))) rfl (by exact tk_) fun q0 hq0 => ?_) | (with_reducible refine Dn.g ?_; refine Dn.pk (A := (tnC (rd xs i) (rd T i))) rfl (by exact tk_) fun q0 hq0 => ?_)
  dsimp only [List.cons_append, List.nil_append]
  refine Cd.conv (Tk.more (p := rel2_pers (fun _ _ => inferInstance) _ _) (A := rel2 tnC ys S) (rel2_gotI (i := i) (by omega) (by omega)) (by exact tk_)) ?_
  first | (with_reducible refine Cd.g ?_; refine Cd.pk (A := (tnC (rd ys i) (rd S i))) rfl (by exact tk_) fun q1 hq1 => ?_) | (with_reducible refine Ol.g ?_; refine Ol.pk (A := (tnC (rd ys i) (rd S i))) rfl (by exact tk_) fun q1 hq1 => ?_) | (with_reducible refine Dn.g ?_; refine Dn.pk (A := (tnC (rd ys i) (rd S i))) rfl (by exact tk_) fun q1 hq1 => ?_)
  dsimp only [List.cons_append, List.nil_append]
  obtain ⟨p1, p2, p3⟩ := hq1
  refine go ?_
  with_reducible refine Ol.g ?_
  refine Ol.eff rfl rfl rfl (Eff.call (R := ?_) (ref2_Top v rows q hl hm) rfl ?_ ?_)
  rotate_left
  · exact tkl_
  rintro _ -
  dsimp only [List.cons_append, List.nil_append]
  refine go ?_
  refine Cd.cut (α := Int) (fun c => [(0, v), (1, tv), (2, .int .i64 label), (7, u), (8, w8), (9, .int .i64 i), (10, .int .i64 c)])
    (fun _ => rsl (eInt .i64) (rd xs i).f_Kids (rd T i).kids :: rsl (eInt .i64) (rd ys i).f_Kids (rd S i).kids :: rsl eVal v rows :: rws true eBool rows q :: rsl e_api_Tree tv xs :: rel2 tnC xs T :: sl e_api_Tree u ys :: rel2 tnC ys S :: sl (eInt .i64) w8 up :: R) (fun K kk => ?_) ?_
  · refine Cd.condP rfl (fun g => ?_) (fun g => ?_)
    · refine go ?_
      exact Dn.weak (by repeat(first|exact Env.le_nil _|(refine Env.le_cons rfl ?_ ?_;first|rfl|(simp;done)|exact congrArg _ (by omega)|rotate_left))) (by exact ent_) (kk _)
    · refine go ?_
      exact Dn.weak (by repeat(first|exact Env.le_nil _|(refine Env.le_cons rfl ?_ ?_;first|rfl|(simp;done)|exact congrArg _ (by omega)|rotate_left))) (by exact ent_) (kk _)
  intro top
  refine go ?_
  with_reducible refine Ol.g ?_
  refine Ol.eff rfl rfl rfl (Eff.call (R := ?_) (seat_Label24 (rd xs i).f_Label rows.length (by omega)) rfl ?_ ?_)
  rotate_left
  · exact tkl_
  rintro lc -
  dsimp only [List.cons_append, List.nil_append]
  refine go ?_
  with_reducible refine Ol.g ?_
  refine Ol.eff rfl rfl rfl (Eff.call (R := ?_) (ref2_Join v rows q hl hm label lc) rfl ?_ ?_)
  rotate_left
  · exact tkl_
  rintro _ -
  dsimp only [List.cons_append, List.nil_append]
  refine go ?_
  with_reducible refine Ol.g ?_
  refine Ol.eff rfl rfl rfl (Eff.call (R := ?_) (ref2_MeetW v rows q hl hm top (joinR q label lc)) rfl ?_ ?_)
  rotate_left
  · exact tkl_
  rintro c -
  dsimp only [List.cons_append, List.nil_append]
  refine go ?_;repeat((with_reducible refine Ol.g ?_);(first|refine Ol.eff rfl rfl rfl (Eff.alloc fun _=>?_)|refine Ol.eff rfl rfl rfl (Eff.box fun _=>?_)|refine Ol.eff0 rfl rfl (Eff.store rfl rfl ?_)|refine Ol.eff rfl rfl rfl (Eff.bslice rfl rfl fun _=>?_)|(refine Ol.eff0 rfl rfl (Eff.storeE rfl ?_ ?_);exact pre_)|(refine Ol.eff rfl rfl rfl (Eff.append1 rfl ?_ fun _=>?_);exact pre_));refine go ?_)
  refine Cd.cut (α := Int) (fun c2 => [(0, v), (1, tv), (2, .int .i64 label), (7, u), (8, w8), (9, .int .i64 i), (11, .int .i64 c2)])
    (fun _ => rsl (eInt .i64) (rd xs i).f_Kids (rd T i).kids :: rsl eVal v rows :: rws true eBool rows q :: rsl e_api_Tree tv xs :: rel2 tnC xs T :: sl e_api_Tree u (ys.set i ⟨(rd ys i).f_Kind, (rd ys i).f_Value, c, (rd ys i).f_Kids⟩) :: rel2 tnC (ys.set i ⟨(rd ys i).f_Kind, (rd ys i).f_Value, c, (rd ys i).f_Kids⟩) (S.set i ⟨(rd S i).kind, (rd S i).value, c, (rd S i).kids⟩) :: sl (eInt .i64) w8 up :: R) (fun K kk => ?_) ?_
  · have ent : ∀ H : List HProp, ents H (tnC ⟨(rd ys i).f_Kind, (rd ys i).f_Value, c, (rd ys i).f_Kids⟩ ⟨(rd S i).kind, (rd S i).value, c, (rd S i).kids⟩ :: sl e_api_Tree u (ys.set (Int.toNat i) ⟨(rd ys i).f_Kind, (rd ys i).f_Value, c, (rd ys i).f_Kids⟩) :: rel2 tnC ys S :: rsl (eInt .i64) (rd xs i).f_Kids (rd T i).kids :: rsl eVal v rows :: rws true eBool rows q :: rsl e_api_Tree tv xs :: rel2 tnC xs T :: sl (eInt .i64) w8 up :: R) → ents H (rsl (eInt .i64) (rd xs i).f_Kids (rd T i).kids :: rsl eVal v rows :: rws true eBool rows q :: rsl e_api_Tree tv xs :: rel2 tnC xs T :: sl e_api_Tree u (ys.set i ⟨(rd ys i).f_Kind, (rd ys i).f_Value, c, (rd ys i).f_Kids⟩) :: rel2 tnC (ys.set i ⟨(rd ys i).f_Kind, (rd ys i).f_Value, c, (rd ys i).f_Kids⟩) (S.set i ⟨(rd S i).kind, (rd S i).value, c, (rd S i).kids⟩) :: sl (eInt .i64) w8 up :: R) := fun H k => by
      refine (tree_set (i := (i : Int)) (by omega) (by omega) k).trans ?_
      rw [Int.toNat_natCast]
      exact ent_
    refine Cd.condP rfl (fun g => ?_) (fun g => ?_)
    · refine go ?_
      with_reducible refine Ol.g ?_
      refine Ol.eff rfl rfl rfl (Eff.call (R := ?_) (ref2_Top v rows q hl hm) rfl ?_ ?_)
      rotate_left
      · exact tkl_
      rintro _ -
      dsimp only [List.cons_append, List.nil_append]
      refine go ?_
      exact Dn.weak (by repeat(first|exact Env.le_nil _|(refine Env.le_cons rfl ?_ ?_;first|rfl|(simp;done)|exact congrArg _ (by omega)|rotate_left))) (ent _ (ents.cons (Tk.pk (A := tnC _ _) rfl () ⟨p1, p2, rfl⟩ (by exact tkl_)) (by exact ent_))) (kk _)
    · refine go ?_
      exact Dn.weak (by repeat(first|exact Env.le_nil _|(refine Env.le_cons rfl ?_ ?_;first|rfl|(simp;done)|exact congrArg _ (by omega)|rotate_left))) (ent _ (ents.cons (Tk.pk (A := tnC _ _) rfl () ⟨p1, p2, rfl⟩ (by exact tkl_)) (by exact ent_))) (kk _)
  intro c2
  generalize hys2 : ys.set i ⟨(rd ys i).f_Kind, (rd ys i).f_Value, c, (rd ys i).f_Kids⟩ = ys2
  generalize hS2 : S.set i ⟨(rd S i).kind, (rd S i).value, c, (rd S i).kids⟩ = S2
  have hyl : ys2.length = T.length := by rw [← hys2, List.length_set, hys]
  have hSl : S2.length = T.length := by rw [← hS2, List.length_set, hS]
  refine go ?_
  refine Cd.loop (fun z : Nat × List Int => z.1 ≤ (rd T i).kids.length ∧ z.2.length = T.length) (fun z => (rd T i).kids.length - z.1) (fun z => [(0, v), (1, tv), (2, .int .i64 label), (7, u), (8, w8), (9, .int .i64 i), (11, .int .i64 c2), (12, .int .i64 z.1)])
    (fun z => rsl (eInt .i64) (rd xs i).f_Kids (rd T i).kids :: rsl eVal v rows :: rws true eBool rows q :: rsl e_api_Tree tv xs :: rel2 tnC xs T :: sl e_api_Tree u ys2 :: rel2 tnC ys2 S2 :: sl (eInt .i64) w8 z.2 :: R) (0, up) ⟨by simp, hup⟩ ?_ ?_ ?_
  · repeat(first|exact Env.le_nil _|(refine Env.le_cons rfl ?_ ?_;first|rfl|(simp;done)|exact congrArg _ (by omega)|rotate_left))
  · exact ent_
  rintro ⟨k, up2⟩ ⟨hkk, hup2⟩
  dsimp only at hkk hup2 ⊢
  refine go ?_
  refine Cd.condP rfl (fun g => ?_) (fun g => ?_)
  · have hkb := hki.2 k (by omega)
    refine go ?_;repeat((with_reducible refine Ol.g ?_);(first|refine Ol.eff rfl rfl rfl (Eff.alloc fun _=>?_)|refine Ol.eff rfl rfl rfl (Eff.box fun _=>?_)|refine Ol.eff0 rfl rfl (Eff.store rfl rfl ?_)|refine Ol.eff rfl rfl rfl (Eff.bslice rfl rfl fun _=>?_)|(refine Ol.eff0 rfl rfl (Eff.storeE rfl ?_ ?_);exact pre_)|(refine Ol.eff rfl rfl rfl (Eff.append1 rfl ?_ fun _=>?_);exact pre_));refine go ?_)
    refine Dn.round (k + 1, up2.set (rd (rd T i).kids k).toNat c2) ⟨by dsimp only; omega, by simp [hup2]⟩ (by dsimp only; omega) (by repeat(first|exact Env.le_nil _|(refine Env.le_cons rfl ?_ ?_;first|rfl|(simp;done)|exact congrArg _ (by omega)|rotate_left))) (by exact ent_)
  · refine go ?_
    refine Dn.round ⟨i + 1, ys2, S2, up2⟩ ⟨by dsimp only; omega, hyl, hSl, hup2⟩ (by dsimp only; omega) (by repeat(first|exact Env.le_nil _|(refine Env.le_cons rfl ?_ ?_;first|rfl|(simp;done)|exact congrArg _ (by omega)|rotate_left))) (by exact ent_)
end Go.Proofs.Ytcgjmlapmdbnmaa

