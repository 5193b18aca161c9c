/- Contracts of functions of the program, proved in a small separation logic. Conditions: those that each theorem states. -/
import Derived.Test.YtcgjmlapmdbnmaaRImg0
namespace Go.Proofs.Ytcgjmlapmdbnmaa
open Go Go.Sl
set_option maxHeartbeats 4000000
set_option maxRecDepth 100000
set_option linter.unusedVariables false
theorem rws_get {T : Type} {E : Enc T} {rows : List Value} {xss : List (List T)} {i : Int} (h0 : 0 ≤ i) (h : i < xss.length) : went (rws true E rows xss) (slB true E (rd rows i) (rd xss i)) :=
  (went.of (rws_take h0 h)).trans ((went.of (star_comm _ _)).trans (went.right _ _))
def rightT (x : S_api_Instr) : Bool := if argT x.f_Op = 0 then knownT x.f_Op && decide (x.f_Arg = 0) else if argT x.f_Op = 1 then true else decide (0 ≤ x.f_Arg)
theorem rightT_arg {x : S_api_Instr} (h : rightT x = true) (h2 : argT x.f_Op = 2) : 0 ≤ x.f_Arg := by
  unfold rightT at h
  rw [if_neg (by omega), if_neg (by omega)] at h
  exact of_decide_eq_true h
-- FN confidant/confidantref5.Right
theorem ref5_RightI (x : S_api_Instr) : Sp Try.prog 122 [iV x] [] (fun _ : Unit => True) (fun _ => .bool (rightT x)) (fun _ => []) := by
  refine Sp.intro (n := 21) Try.func122 rfl rfl fun w0 R => ?_
  dsimp only [List.cons_append, List.nil_append, envOf]
  refine go ?_;repeat((with_reducible refine Ol.g ?_);(first|refine Ol.eff rfl rfl rfl (Eff.alloc fun _=>?_)|refine Ol.eff rfl rfl rfl (Eff.box fun _=>?_)|refine Ol.eff0 rfl rfl (Eff.store rfl rfl ?_)|refine Ol.eff rfl rfl rfl (Eff.bslice rfl rfl fun _=>?_)|(refine Ol.eff0 rfl rfl (Eff.storeE rfl ?_ ?_);exact pre_)|(refine Ol.eff rfl rfl rfl (Eff.append1 rfl ?_ fun _=>?_);exact pre_));refine go ?_)
  with_reducible refine Ol.g ?_
  refine Ol.eff rfl rfl rfl (Eff.call (R := ?_) (ref5_Arg x.f_Op) rfl ?_ ?_)
  rotate_left
  · exact tkl_
  rintro _ -
  dsimp only [List.cons_append, List.nil_append]
  unfold rightT
  refine go ?_
  refine Cd.condP rfl (fun h => ?_) (fun h => ?_)
  · rw [if_pos h]
    refine go ?_
    with_reducible refine Ol.g ?_
    refine Ol.eff rfl rfl rfl (Eff.call (R := ?_) (ref5_Known x.f_Op) rfl ?_ ?_)
    rotate_left
    · exact tkl_
    rintro _ -
    dsimp only [List.cons_append, List.nil_append]
    cases hk : knownT x.f_Op with
    | false =>
      refine go ?_
      refine Dn.ret1 rfl rfl fun w' hs => ⟨(), rfl, trivial, hs.conv (by exact ent_)⟩
    | true =>
      refine go ?_
      refine Dn.ret1 rfl rfl fun w' hs => ⟨(), rfl, trivial, hs.conv (by exact ent_)⟩
  rw [if_neg h]
  refine go ?_
  refine Cd.condP rfl (fun h1 => ?_) (fun h1 => ?_)
  · rw [if_pos h1]
    refine go ?_
    refine Dn.ret1 rfl rfl fun w' hs => ⟨(), rfl, trivial, hs.conv (by exact ent_)⟩
  rw [if_neg h1]
  refine go ?_
  refine Dn.ret1 rfl rfl fun w' hs => ⟨(), rfl, trivial, hs.conv (by exact ent_)⟩
def withinT (x : S_api_Instr) (code funcs labels gates : Int) : Bool := rightT x && (decide (argT x.f_Op < 2) || decide (x.f_Arg < rd [0, 0, code, 4, labels, funcs, gates] (argT x.f_Op)))
-- FN confidant/confidantref5.within
theorem ref5_within (x : S_api_Instr) (code funcs labels gates : Int) (h32 : 2 ≤ argT x.f_Op → i32B x.f_Arg) : Sp Try.prog 104 [iV x, .int .i64 code, .int .i64 funcs, .int .i64 labels, .int .i64 gates] [] (fun _ : Unit => True) (fun _ => .bool (withinT x code funcs labels gates)) (fun _ => []) := by
  have ha := argT_le x.f_Op
  refine Sp.intro (n := 37) Try.func104 rfl rfl fun w0 R => ?_
  dsimp only [List.cons_append, List.nil_append, envOf]
  refine go ?_;repeat((with_reducible refine Ol.g ?_);(first|refine Ol.eff rfl rfl rfl (Eff.alloc fun _=>?_)|refine Ol.eff rfl rfl rfl (Eff.box fun _=>?_)|refine Ol.eff0 rfl rfl (Eff.store rfl rfl ?_)|refine Ol.eff rfl rfl rfl (Eff.bslice rfl rfl fun _=>?_)|(refine Ol.eff0 rfl rfl (Eff.storeE rfl ?_ ?_);exact pre_)|(refine Ol.eff rfl rfl rfl (Eff.append1 rfl ?_ fun _=>?_);exact pre_));refine go ?_)
  rename_i c mv
  with_reducible refine Ol.g ?_
  refine Ol.eff rfl rfl rfl (Eff.call (R := ?_) (ref5_Arg x.f_Op) rfl ?_ ?_)
  rotate_left
  · exact tkl_
  rintro _ -
  dsimp only [List.cons_append, List.nil_append]
  unfold withinT
  refine go ?_
  refine Cd.drawL (l := [_, _, _, _, _, _, _, _, _, _, _, _, _, _, _, _]) (z := _) [[], [0], [0, 1], [0, 1, 2], [0, 1, 2, 3], [0, 1, 2, 3, 4], [0, 1, 2, 3, 4, 5], [0, 1, 2, 3, 4, 5, 6], [0, 1, 2, 3, 4, 5, 6, 7], [0, 1, 2, 3, 4, 5], [0, 1, 2, 3, 4, 5], [0, 1, 2, 3, 4, 5, 9, 10], [0, 1, 2, 3, 4, 5, 9, 10, 11], [0, 1, 2, 3, 4, 5, 6, 7, 8, 9, 10, 11, 12], [0, 1, 2, 3, 4, 5, 6, 7, 8, 9, 10, 11, 12, 13], [0, 1, 2, 3, 4, 5, 6, 7, 8, 9, 10, 11, 12, 13, 14]] [1] [] (td := [(0, .fresh)]) rfl mixed (by kernel_rfl) (by kernel_rfl) (by kernel_rfl) (by decide) (by decide) rfl (by kernel_rfl) ?_
  refine god2 ?_
  refine Sg2.one (td := [(2, .fresh), (3, .fresh), (4, .fresh), (5, .fresh), (6, .fresh), (7, .fresh), (8, .fresh), (9, .fresh), (10, .fresh), (11, .fresh), (12, .fresh), (13, .fresh), (14, .fresh), (15, .fresh)]) rfl (by kernel_rfl) fun F1_ => ?_
  dsimp only [List.cons_append, List.nil_append]
  refine SpOp.eff rfl rfl rfl rfl rfl (Eff.call (R := ?_) (ref5_RightI x) rfl ?_ ?_)
  rotate_left
  · exact tkl_
  rintro _ -
  dsimp only [List.cons_append, List.nil_append]
  refine Sn.ok ?_
  cases hr : rightT x with
  | false =>
    rw [Bool.false_and]
    refine god2 ?_
    refine go ?_
    refine Dn.ret1 rfl rfl fun w' hs => ⟨(), rfl, trivial, hs.conv (by exact ent_)⟩
  | true =>
    rw [Bool.true_and]
    by_cases g : argT x.f_Op < 2
    · rw [decide_eq_true g, Bool.true_or]
      refine god2 ?_
      rw [decide_eq_true g]
      refine god2 ?_
      refine go ?_
      refine Dn.ret1 rfl rfl fun w' hs => ⟨(), rfl, trivial, hs.conv (by exact ent_)⟩
    · have h33 := h32 (by omega)
      unfold i32B at h33
      rw [decide_eq_false g, Bool.false_or]
      refine god2 ?_
      rw [decide_eq_false g]
      refine god2 ?_
      refine go ?_
      refine Dn.ret1 rfl rfl fun w' hs => ⟨(), rfl, trivial, hs.conv (by exact ent_)⟩
end Go.Proofs.Ytcgjmlapmdbnmaa

