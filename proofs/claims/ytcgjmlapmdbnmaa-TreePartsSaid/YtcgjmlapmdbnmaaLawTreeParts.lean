/- Contracts of functions of the program, proved in a small separation logic. Conditions: those that each theorem states. -/
import Derived.Test.YtcgjmlapmdbnmaaTPart5
import Derived.Test.YtcgjmlapmdbnmaaLawTreeTells
namespace Go.Proofs.Ytcgjmlapmdbnmaa
open Go Go.Sl
set_option maxHeartbeats 4000000
set_option maxRecDepth 100000
set_option linter.unusedVariables false
abbrev xsR (a b : Int) (kv : Value) (l : List Int) : List S_api_Tree := ⟨a, 0, b, kv⟩ :: l.map fun x => ⟨1, x, 0, .slice none 0 0⟩
-- FN confidant/confidantlaw29.TreeParts
theorem law_TreeParts (lv : Value) (l : List Int) (labels : Int) (hl : ∀ x, x ∈ l → 0 ≤ x ∧ x ≤ 255) (hlb : 0 ≤ labels ∧ labels ≤ 255) :
    Sp Try.prog 6 [lv, .int .u8 labels] [rsl (eInt .u8) lv l] (fun _ : Unit => True) (fun _ => .bool true) (fun _ => []) := by
  refine Sp.intro (n := 95) Try.func6 rfl rfl fun w0 R => ?_
  dsimp only [List.cons_append, List.nil_append, envOf]
  refine go ?_
  with_reducible refine Ol.g ?_
  refine Ol.eff rfl rfl rfl (Eff.call (R := ?_) law29_known rfl ?_ ?_)
  rotate_left
  · exact tkl_
  rintro _ -
  dsimp only [List.cons_append, List.nil_append]
  refine go ?_
  refine Cd.condP rfl (fun h40 => ?_) (fun h40 => ?_)
  · refine go ?_
    refine Dn.ret1 rfl rfl fun w hs => ⟨(), ?_, by trivial, by first | exact hs | (refine hs.conv ?_; exact ent_)⟩
    rfl
  refine go ?_
  with_reducible refine Ol.g ?_
  refine Ol.eff rfl rfl rfl (Eff.call (R := ?_) (seat_Tree lv l (labels % 16 + 1) hl (by omega) (by omega)) rfl ?_ ?_)
  rotate_left
  · exact tkl_
  rintro ⟨gk, tv, ts, T⟩ hTV
  dsimp only [List.cons_append, List.nil_append] at hTV ⊢
  have hT : TV T 16 := hTV.mono (by unfold imax; split <;> omega)
  clear hTV
  have hTl := hT.len
  first | (with_reducible refine Cd.g ?_; refine Cd.know (fun w_ hw_ => rel2_len (Tk.sat (A := (rel2 tnC ts T)) (by exact tk_) hw_)) fun hx => ?_) | (with_reducible refine Ol.g ?_; refine Ol.know (fun w_ hw_ => rel2_len (Tk.sat (A := (rel2 tnC ts T)) (by exact tk_) hw_)) fun hx => ?_) | (with_reducible refine Dn.g ?_; refine Dn.know (fun w_ hw_ => rel2_len (Tk.sat (A := (rel2 tnC ts T)) (by exact tk_) hw_)) fun hx => ?_)
  first | (with_reducible refine Cd.g ?_; refine Cd.share (A := (sl e_api_Tree tv ts)) (by exact tk_) ?_) | (with_reducible refine Ol.g ?_; refine Ol.share (A := (sl e_api_Tree tv ts)) (by exact tk_) ?_) | (with_reducible refine Dn.g ?_; refine Dn.share (A := (sl e_api_Tree tv ts)) (by exact tk_) ?_)
  refine go ?_
  with_reducible refine Ol.g ?_
  refine Ol.eff rfl rfl rfl (Eff.call (R := ?_) (tell_Value_m tv ts T) rfl ?_ ?_)
  rotate_left
  · exact tkl_
  rintro _ -
  rw [show rightB T 16 = true from hT.right, show valA T = wantS 2 ((rd T 0).kids.map fun c => valT T (T.length - 1) c) from by unfold valA; rw [if_pos hT.right]; exact root_val hT]
  dsimp only [List.cons_append, List.nil_append]
  refine go ?_
  refine Cd.conv (Tk.more (p := rel2_pers (fun _ _ => inferInstance) _ _) (A := rel2 tnC ts T) (rel2_gotI (i := 0) (by omega) (by omega)) (by exact tk_)) ?_
  first | (with_reducible refine Cd.g ?_; refine Cd.pk (A := (tnC (rd ts 0) (rd T 0))) rfl (by exact tk_) fun q0 hq0 => ?_) | (with_reducible refine Ol.g ?_; refine Ol.pk (A := (tnC (rd ts 0) (rd T 0))) rfl (by exact tk_) fun q0 hq0 => ?_) | (with_reducible refine Dn.g ?_; refine Dn.pk (A := (tnC (rd ts 0) (rd T 0))) rfl (by exact tk_) fun q0 hq0 => ?_)
  dsimp only [List.cons_append, List.nil_append]
  refine go ?_
  refine Cd.drawL (l := [_, _, _, _, _, _, _, _, _, _]) (z := _) [[], [0], [0, 1], [0, 1, 2], [], [4], [4, 5], [4, 5, 6], [0, 1, 2, 3, 4, 5, 6, 7], [0, 1, 2, 3, 4, 5, 6, 7, 8]] [9] [] (td := [(0, .fresh), (1, .fresh), (2, .fresh), (3, .fresh), (4, .fresh), (5, .fresh), (6, .fresh), (7, .fresh), (8, .fresh)]) rfl mixed (by kernel_rfl) (by kernel_rfl) (by kernel_rfl) (by decide) (by decide) rfl (by kernel_rfl) ?_
  refine god2 ?_
  refine Sg2.one (td := []) rfl (by kernel_rfl) fun F9_ => ?_
  dsimp only [List.cons_append, List.nil_append]
  (with_reducible first|refine SpOp.eff rfl rfl rfl rfl rfl (Eff.x (Qx.build rfl) ?_)|refine SpOp.eff rfl rfl rfl rfl rfl (Eff.alloc fun _=>?_)|refine SpOp.eff rfl rfl rfl rfl rfl (Eff.box fun _=>?_)|refine SpOp.eff rfl rfl rfl rfl rfl (Eff.bslice rfl rfl fun _=>?_)|(refine SpOp.eff rfl rfl rfl rfl rfl (Eff.append1 rfl ?_ fun _=>?_);exact pre_)|refine SpOp.eff0 rfl rfl rfl rfl (Eff.store rfl rfl ?_)|(refine SpOp.eff0 rfl rfl rfl rfl (Eff.storeE rfl ?_ ?_);exact pre_))
  rename_i u0
  refine Sn.ok ?_
  refine god2 ?_
  refine go ?_
  obtain ⟨p1, p2, p3⟩ := hq0
  have hkin : ∀ k : Nat, k < (rd T 0).kids.length → 1 ≤ rd (rd T 0).kids k ∧ rd (rd T 0).kids k < T.length := fun k hk => by
    have := (nodeB_F (hT.node 0 (by omega))).kids k hk
    rw [show ((0 : Nat) : Int) = 0 from rfl] at this
    omega
  have hk8 : (rd T 0).kids.length ≤ 8 := nodeB_k8 (hT.node 0 (by omega))
  have hlab := (nodeB_F (hT.node 0 (by omega))).lab
  rw [show ((0 : Nat) : Int) = 0 from rfl, ← p3] at hlab
  have hkd : (rd ts 0).f_Kind = 2 := p1.trans hT.root
  have hwk : ∀ k : Nat, k < (rd T 0).kids.length → rd ((rd T 0).kids.map fun c => valT T (T.length - 1) c) k = valT T (T.length - 1) (rd (rd T 0).kids k) := fun k hk => map_rd _ (by omega) (by omega)
  have hwl : ((rd T 0).kids.map fun c => valT T (T.length - 1) c).length = (rd T 0).kids.length := List.length_map _
  generalize ((rd T 0).kids.map fun c => valT T (T.length - 1) c) = ws at hwk hwl ⊢
  rw [hkd]
  obtain ⟨lb, hlbe⟩ : ∃ lb, (rd ts 0).f_Label = lb := ⟨_, rfl⟩
  rw [hlbe] at hlab ⊢
  refine Cd.loop (fun z : SZ => z.k ≤ ws.length) (fun z => ws.length - z.k) (fun z => [(5, tv), (6, .int .i32 (wantS 2 ws)), (8, z.v), (9, .int .i64 z.k)])
    (fun z => sl e_api_Tree z.v (xsR 2 lb z.kv (ws.take z.k)) :: sl (eInt .i64) z.kv (kidsN z.k) :: rsl (eInt .i64) (rd ts 0).f_Kids (rd T 0).kids :: rsl e_api_Tree tv ts :: rel2 tnC ts T :: R) ⟨0, u0, .slice none 0 0⟩ (by simp) ?_ ?_ ?_
  · repeat(first|exact Env.le_nil _|(refine Env.le_cons rfl ?_ ?_;first|rfl|(simp;done)|exact congrArg _ (by omega)|rotate_left))
  · dsimp only
    rw [List.take_zero, show xsR 2 lb (.slice none 0 0) [] = [⟨2, 0, lb, .slice none 0 0⟩] from rfl, show kidsN 0 = [] from rfl]
    exact ent_
  rintro ⟨k, v8, kv⟩ hk2
  dsimp only at hk2 ⊢
  have hkl := kidsN_len k
  refine go ?_
  refine Cd.condP rfl (fun h => ?_) (fun h => ?_)
  · have hk3 : k < (rd T 0).kids.length := by omega
    have hkk := hkin k hk3
    refine go ?_
    with_reducible refine Ol.g ?_
    refine Ol.eff rfl rfl rfl (Eff.call (R := ?_) (law29_part tv ts T 16 (rd (rd T 0).kids k) hT (by omega)) rfl ?_ ?_)
    rotate_left
    · exact tkl_
    rintro ⟨n1, k1, pv, P, ov, xs, O⟩ hI
    dsimp only [List.cons_append, List.nil_append] at hI ⊢
    obtain ⟨hr, hv⟩ := part_val hT hkk hI
    first | (with_reducible refine Cd.g ?_; refine Cd.share (A := (sl e_api_Tree ov xs)) (by exact tk_) ?_) | (with_reducible refine Ol.g ?_; refine Ol.share (A := (sl e_api_Tree ov xs)) (by exact tk_) ?_) | (with_reducible refine Dn.g ?_; refine Dn.share (A := (sl e_api_Tree ov xs)) (by exact tk_) ?_)
    refine go ?_
    with_reducible refine Ol.g ?_
    refine Ol.eff rfl rfl rfl (Eff.call (R := ?_) (tell_Value_m ov xs O) rfl ?_ ?_)
    rotate_left
    · exact tkl_
    rintro _ -
    rw [show rightB O 16 = true from hr, show valA O = rd ws k from by unfold valA; rw [if_pos hr, hv, hwk k hk3]]
    dsimp only [List.cons_append, List.nil_append]
    have hxl : (xsR 2 lb kv (ws.take k)).length = k + 1 := by simp; omega
    refine go ?_
    rw [show (rd (xsR 2 lb kv (ws.take k)) 0) = ⟨2, 0, lb, kv⟩ from rfl]
    have hml : ((ws.take k).map fun x => (⟨1, x, 0, .slice none 0 0⟩ : S_api_Tree)).length = k := by simp; omega
    have hk14 : k ≤ 8 := by omega
    refine go ?_;repeat((with_reducible refine Ol.g ?_);(first|refine Ol.eff rfl rfl rfl (Eff.alloc fun _=>?_)|refine Ol.eff rfl rfl rfl (Eff.box fun _=>?_)|refine Ol.eff0 rfl rfl (Eff.store rfl rfl ?_)|refine Ol.eff rfl rfl rfl (Eff.bslice rfl rfl fun _=>?_)|(refine Ol.eff0 rfl rfl (Eff.storeE rfl ?_ ?_);exact pre_)|(refine Ol.eff rfl rfl rfl (Eff.append1 rfl ?_ fun _=>?_);exact pre_));refine go ?_)
    rename_i w1 kv' w2 v8'
    have hx2 : (xsR 2 lb kv (List.take k ws)).set (Int.toNat 0) ⟨(rd (xsR 2 lb kv (List.take k ws)) 0).f_Kind, (rd (xsR 2 lb kv (List.take k ws)) 0).f_Value, (rd (xsR 2 lb kv (List.take k ws)) 0).f_Label, kv'⟩ ++ [⟨1, rd ws k, 0, .slice none 0 0⟩] = xsR 2 lb kv' (ws.take (k + 1)) := by
      rw [take_rd (by omega)]; unfold xsR; rw [List.map_append]; rfl
    rw [hx2]
    refine Dn.round ⟨k + 1, v8', kv'⟩ (by dsimp only; omega) (by dsimp only; omega) ?_ ?_
    · repeat(first|exact Env.le_nil _|(refine Env.le_cons rfl ?_ ?_;first|rfl|(simp;done)|exact congrArg _ (by omega)|rotate_left))
    · dsimp only
      rw [kidsN_succ]
      exact ent_
  obtain rfl : k = ws.length := by omega
  rw [List.take_length]
  have hr16 := tr_right (lab := lb) hlab (w := ws) (by omega)
  have hval := tr_val lb ws
  first | (with_reducible refine Cd.g ?_; refine Cd.share (A := (sl (eInt .i64) kv (kidsN ws.length))) (by exact tk_) ?_) | (with_reducible refine Ol.g ?_; refine Ol.share (A := (sl (eInt .i64) kv (kidsN ws.length))) (by exact tk_) ?_) | (with_reducible refine Dn.g ?_; refine Dn.share (A := (sl (eInt .i64) kv (kidsN ws.length))) (by exact tk_) ?_)
  first | (with_reducible refine Cd.g ?_; refine Cd.share (A := (sl e_api_Tree v8 _)) (by exact tk_) ?_) | (with_reducible refine Ol.g ?_; refine Ol.share (A := (sl e_api_Tree v8 _)) (by exact tk_) ?_) | (with_reducible refine Dn.g ?_; refine Dn.share (A := (sl e_api_Tree v8 _)) (by exact tk_) ?_)
  refine Cd.conv (H' := rsl e_api_Tree v8 (xsR 2 lb kv ws) :: rel2 tnC (xsR 2 lb kv ws) (TR lb ws) :: R) (ents.cons (by exact tk_) (ents.rcons2 (Tk.pk (A := tnC ⟨2, 0, lb, kv⟩ ⟨2, 0, lb, kidsN ws.length⟩) rfl () ⟨rfl, rfl, rfl⟩ (by exact tkl_)) (ents.trans (show ents _ (R) from by exact ent_) ((leaves_free ws).free _)))) ?_
  generalize xsR 2 lb kv ws = xs
  generalize TR lb ws = U at hr16 hval ⊢
  refine go ?_
  with_reducible refine Ol.g ?_
  refine Ol.eff rfl rfl rfl (Eff.call (R := ?_) (tell_Value_m v8 xs U) rfl ?_ ?_)
  rotate_left
  · exact tkl_
  rintro _ -
  rw [hr16, show valA U = wantS 2 ws from by unfold valA; rw [if_pos hr16, hval]]
  dsimp only [List.cons_append, List.nil_append]
  refine go ?_
  rw [decide_eq_true (show wantS 2 ws = wantS 2 ws from rfl)]
  refine go ?_
  refine Dn.ret1 rfl rfl fun w hs => ⟨(), rfl, trivial, hs.conv (by exact ent_)⟩
end Go.Proofs.Ytcgjmlapmdbnmaa

