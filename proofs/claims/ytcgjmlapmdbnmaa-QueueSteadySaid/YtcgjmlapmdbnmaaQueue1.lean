/- Contracts of functions of the program, proved in a small separation logic. Conditions: those that each theorem states. -/
import Derived.Test.YtcgjmlapmdbnmaaDeck6
namespace Go.Proofs.Ytcgjmlapmdbnmaa
open Go Go.Sl
set_option maxHeartbeats 4000000
set_option maxRecDepth 100000
set_option linter.unusedVariables false
/-! comparing -/
-- FN cmp.isNaN[int]
theorem isNaN_int (a : Int) : Sp Try.prog 112 [.int .i64 a] [] (fun _ : Unit => True) (fun _ => .bool false) (fun _ => []) := by
  refine Sp.intro (n := 6) Try.func112 rfl rfl fun w0 R => ?_
  dsimp only [List.cons_append, List.nil_append, envOf]
  refine go ?_
  refine Dn.ret1 rfl rfl fun w hs => ⟨(), ?_, by trivial, by first | exact hs | (refine hs.conv ?_; exact ent_)⟩
  simp
-- FN cmp.isNaN[int32]
theorem isNaN_int32 (a : Int) : Sp Try.prog 113 [.int .i32 a] [] (fun _ : Unit => True) (fun _ => .bool false) (fun _ => []) := by
  refine Sp.intro (n := 6) Try.func113 rfl rfl fun w0 R => ?_
  dsimp only [List.cons_append, List.nil_append, envOf]
  refine go ?_
  refine Dn.ret1 rfl rfl fun w hs => ⟨(), ?_, by trivial, by first | exact hs | (refine hs.conv ?_; exact ent_)⟩
  simp
def cmpI (a b : Int) : Int := if a < b then -1 else if b < a then 1 else 0
-- FN cmp.Compare[int]
theorem compare_int (a b : Int) : Sp Try.prog 78 [.int .i64 a, .int .i64 b] [] (fun _ : Unit => True) (fun _ => .int .i64 (cmpI a b)) (fun _ => []) := by
  refine Sp.intro (n := 20) Try.func78 rfl rfl fun w0 R => ?_
  dsimp only [List.cons_append, List.nil_append, envOf]
  refine go ?_
  with_reducible refine Ol.g ?_
  refine Ol.eff rfl rfl rfl (Eff.call (R := ?_) (isNaN_int a) rfl ?_ ?_)
  rotate_left
  · exact tkl_
  rintro _ -
  dsimp only [List.cons_append, List.nil_append]
  refine go ?_
  with_reducible refine Ol.g ?_
  refine Ol.eff rfl rfl rfl (Eff.call (R := ?_) (isNaN_int b) rfl ?_ ?_)
  rotate_left
  · exact tkl_
  rintro _ -
  dsimp only [List.cons_append, List.nil_append]
  refine go ?_
  refine Cd.condP rfl (fun h => ?_) (fun h => ?_)
  · refine go ?_
    refine Dn.ret1 rfl rfl fun w hs => ⟨(), ?_, by trivial, by first | exact hs | (refine hs.conv ?_; exact ent_)⟩
    rw [cmpI, if_pos h]
  refine go ?_
  refine Cd.condP rfl (fun h2 => ?_) (fun h2 => ?_)
  · refine go ?_
    refine Dn.ret1 rfl rfl fun w hs => ⟨(), ?_, by trivial, by first | exact hs | (refine hs.conv ?_; exact ent_)⟩
    rw [cmpI, if_neg h, if_pos h2]
  refine go ?_
  refine Dn.ret1 rfl rfl fun w hs => ⟨(), ?_, by trivial, by first | exact hs | (refine hs.conv ?_; exact ent_)⟩
  rw [cmpI, if_neg h, if_neg h2]
-- FN cmp.Compare[int32]
theorem compare_int32 (a b : Int) : Sp Try.prog 79 [.int .i32 a, .int .i32 b] [] (fun _ : Unit => True) (fun _ => .int .i64 (cmpI a b)) (fun _ => []) := by
  refine Sp.intro (n := 20) Try.func79 rfl rfl fun w0 R => ?_
  dsimp only [List.cons_append, List.nil_append, envOf]
  refine go ?_
  with_reducible refine Ol.g ?_
  refine Ol.eff rfl rfl rfl (Eff.call (R := ?_) (isNaN_int32 a) rfl ?_ ?_)
  rotate_left
  · exact tkl_
  rintro _ -
  dsimp only [List.cons_append, List.nil_append]
  refine go ?_
  with_reducible refine Ol.g ?_
  refine Ol.eff rfl rfl rfl (Eff.call (R := ?_) (isNaN_int32 b) rfl ?_ ?_)
  rotate_left
  · exact tkl_
  rintro _ -
  dsimp only [List.cons_append, List.nil_append]
  refine go ?_
  refine Cd.condP rfl (fun h => ?_) (fun h => ?_)
  · refine go ?_
    refine Dn.ret1 rfl rfl fun w hs => ⟨(), ?_, by trivial, by first | exact hs | (refine hs.conv ?_; exact ent_)⟩
    rw [cmpI, if_pos h]
  refine go ?_
  refine Cd.condP rfl (fun h2 => ?_) (fun h2 => ?_)
  · refine go ?_
    refine Dn.ret1 rfl rfl fun w hs => ⟨(), ?_, by trivial, by first | exact hs | (refine hs.conv ?_; exact ent_)⟩
    rw [cmpI, if_neg h, if_pos h2]
  refine go ?_
  refine Dn.ret1 rfl rfl fun w hs => ⟨(), ?_, by trivial, by first | exact hs | (refine hs.conv ?_; exact ent_)⟩
  rw [cmpI, if_neg h, if_neg h2]
def orNZ : List Int → Int
  | [] => 0
  | a :: l => if a ≠ 0 then a else orNZ l
theorem orNZ_drop (l : List Int) {k : Nat} (h : k < l.length) : orNZ (l.drop k) = if rd l k ≠ 0 then rd l k else orNZ (l.drop (k + 1)) := by
  rw [List.drop_eq_getElem_cons h, rd_eq (by simpa using h)]; rfl
-- FN cmp.Or[int]
theorem or_int (v : Value) (l : List Int) (hl : l.length ≤ 1048576) : Sp Try.prog 77 [v] [sl (eInt .i64) v l] (fun _ : Unit => True) (fun _ => .int .i64 (orNZ l)) (fun _ => [sl (eInt .i64) v l]) := by
  refine Sp.intro (n := 18) Try.func77 rfl rfl fun w0 R => ?_
  dsimp only [List.cons_append, List.nil_append, envOf]
  refine go ?_
  refine Cd.loop (fun k : Nat => k ≤ l.length ∧ orNZ (l.drop k) = orNZ l) (fun k => l.length - k) (fun k => [(3, .int .i64 0), (6, v), (7, .int .i64 l.length), (8, .int .i64 k)]) (fun k => sl (eInt .i64) v l :: R) 0 ⟨by omega, rfl⟩ ?_ ?_ ?_
  · repeat(first|exact Env.le_nil _|(refine Env.le_cons rfl ?_ ?_;first|rfl|(simp;done)|exact congrArg _ (by omega)|rotate_left))
  · exact ent_
  rintro k ⟨hk, he⟩
  refine go ?_
  refine Cd.condP rfl (fun h => ?_) (fun h => ?_)
  · have hk2 : k < l.length := by omega
    rw [orNZ_drop l hk2] at he
    refine go ?_
    refine Cd.condP rfl (fun h2 => ?_) (fun h2 => ?_)
    · rw [if_pos h2] at he
      refine go ?_
      refine Dn.ret1 rfl rfl fun w hs => ⟨(), ?_, by trivial, by first | exact hs | (refine hs.conv ?_; exact ent_)⟩
      rw [he]
    · rw [if_neg h2] at he
      refine go ?_
      refine Dn.round (k + 1) ⟨by omega, he⟩ (by omega) ?_ ?_
      · repeat(first|exact Env.le_nil _|(refine Env.le_cons rfl ?_ ?_;first|rfl|(simp;done)|exact congrArg _ (by omega)|rotate_left))
      · exact ent_
  · have hk2 : k = l.length := by omega
    subst hk2
    rw [List.drop_length] at he
    refine go ?_
    refine Dn.ret1 rfl rfl fun w hs => ⟨(), ?_, by trivial, by first | exact hs | (refine hs.conv ?_; exact ent_)⟩
    rw [← he]; rfl
abbrev enV (e : S_queue_Entry) : Value := .agg #[.int .i64 e.f_Round, .int .i32 e.f_Task.f_Id, .int .i64 e.f_Task.f_Func, .int .i64 e.f_Task.f_Pc, e.f_Task.f_Stack, .int .i32 e.f_Task.f_Vars0, .int .i32 e.f_Task.f_Vars1, .int .i32 e.f_Task.f_Vars2, .int .i32 e.f_Task.f_Vars3, .int .i64 e.f_Task.f_Label, .int .i64 e.f_Task.f_Clear, .int .u32 e.f_Task.f_Privs, .int .i64 e.f_Task.f_Worker]
abbrev itV (t : S_queue_item) : Value := .agg #[.int .i64 t.f_Entry.f_Round, .int .i32 t.f_Entry.f_Task.f_Id, .int .i64 t.f_Entry.f_Task.f_Func, .int .i64 t.f_Entry.f_Task.f_Pc, t.f_Entry.f_Task.f_Stack, .int .i32 t.f_Entry.f_Task.f_Vars0, .int .i32 t.f_Entry.f_Task.f_Vars1, .int .i32 t.f_Entry.f_Task.f_Vars2, .int .i32 t.f_Entry.f_Task.f_Vars3, .int .i64 t.f_Entry.f_Task.f_Label, .int .i64 t.f_Entry.f_Task.f_Clear, .int .u32 t.f_Entry.f_Task.f_Privs, .int .i64 t.f_Entry.f_Task.f_Worker, .int .i64 t.f_seq]
def lessE (r1 i1 r2 i2 : Int) : Bool := decide (r1 < r2 ∨ r1 = r2 ∧ i1 < i2)
theorem lessE_or (r1 i1 r2 i2 : Int) : decide (orNZ [cmpI r1 r2, cmpI i1 i2] < 0) = lessE r1 i1 r2 i2 := by
  unfold lessE orNZ cmpI
  rw [decide_eq_decide]
  simp only [orNZ]
  split <;> split <;> (try split) <;> (try split) <;> omega
-- FN confidant/queue.Less
theorem queue_Less (x y : S_queue_Entry) (hx : One x.f_Task.f_Stack) (hy : One y.f_Task.f_Stack) :
    Sp Try.prog 41 [enV x, enV y] [] (fun _ : Unit => True) (fun _ => .bool (lessE x.f_Round x.f_Task.f_Id y.f_Round y.f_Task.f_Id)) (fun _ => []) := by
  refine Sp.intro (n := 20) Try.func41 rfl rfl fun w0 R => ?_
  dsimp only [List.cons_append, List.nil_append, envOf]
  refine go ?_;repeat((with_reducible refine Ol.g ?_);(first|refine Ol.eff rfl rfl rfl (Eff.alloc fun _=>?_)|refine Ol.eff rfl rfl rfl (Eff.box fun _=>?_)|refine Ol.eff0 rfl rfl (Eff.store rfl rfl ?_)|refine Ol.eff rfl rfl rfl (Eff.bslice rfl rfl fun _=>?_)|(refine Ol.eff0 rfl rfl (Eff.storeE rfl ?_ ?_);exact pre_)|(refine Ol.eff rfl rfl rfl (Eff.append1 rfl ?_ fun _=>?_);exact pre_));refine go ?_)
  refine Cd.drawL (l := [_, _, _, _, _, _, _, _, _, _, _, _, _, _, _]) (z := _) [[], [0], [], [2], [0, 1, 2, 3], [], [5], [5, 6], [], [8], [8, 9], [0, 1, 2, 3, 4, 5, 6, 7, 8, 9, 10], [0, 1, 2, 3, 4, 5, 6, 7, 8, 9, 10, 11], [0, 1, 2, 3, 4, 5, 6, 7, 8, 9, 10, 11, 12], [0, 1, 2, 3, 4, 5, 6, 7, 8, 9, 10, 11, 12, 13]] [4, 11, 12, 13] [] (td := [(0, .fresh), (1, .fresh), (2, .fresh), (3, .fresh), (5, .fresh), (6, .fresh), (7, .fresh), (8, .fresh), (9, .fresh), (10, .fresh)]) rfl mixed (by kernel_rfl) (by kernel_rfl) (by kernel_rfl) (by decide) (by decide) rfl (by kernel_rfl) ?_
  refine god2 ?_
  refine Sg2.one (td := [(5, .old), (6, .old), (7, .old), (8, .old), (9, .old), (10, .old)]) rfl (by kernel_rfl) fun F4_ => ?_
  dsimp only [List.cons_append, List.nil_append]
  refine SpOp.eff rfl rfl rfl rfl rfl (Eff.call (R := ?_) (compare_int x.f_Round y.f_Round) rfl ?_ ?_)
  rotate_left
  · exact tkl_
  rintro _ -
  dsimp only [List.cons_append, List.nil_append]
  refine Sn.ok ?_
  refine god2 ?_
  refine Sg2.one (td := []) rfl (by kernel_rfl) fun F11_ => ?_
  dsimp only [List.cons_append, List.nil_append]
  refine SpOp.eff rfl rfl rfl rfl rfl (Eff.call (R := ?_) (compare_int32 x.f_Task.f_Id y.f_Task.f_Id) rfl ?_ ?_)
  rotate_left
  · exact tkl_
  rintro _ -
  dsimp only [List.cons_append, List.nil_append]
  refine Sn.ok ?_
  refine god2 ?_
  refine Sg2.one (td := []) rfl (by kernel_rfl) fun F12_ => ?_
  dsimp only [List.cons_append, List.nil_append]
  (with_reducible first|refine SpOp.eff rfl rfl rfl rfl rfl (Eff.x (Qx.build rfl) ?_)|refine SpOp.eff rfl rfl rfl rfl rfl (Eff.alloc fun _=>?_)|refine SpOp.eff rfl rfl rfl rfl rfl (Eff.box fun _=>?_)|refine SpOp.eff rfl rfl rfl rfl rfl (Eff.bslice rfl rfl fun _=>?_)|(refine SpOp.eff rfl rfl rfl rfl rfl (Eff.append1 rfl ?_ fun _=>?_);exact pre_)|refine SpOp.eff0 rfl rfl rfl rfl (Eff.store rfl rfl ?_)|(refine SpOp.eff0 rfl rfl rfl rfl (Eff.storeE rfl ?_ ?_);exact pre_))
  rename_i v
  refine Sn.ok ?_
  refine god2 ?_
  refine Sg2.one (td := [(14, .fresh)]) rfl (by kernel_rfl) fun F13_ => ?_
  dsimp only [List.cons_append, List.nil_append]
  refine SpOp.eff rfl rfl rfl rfl rfl (Eff.call (R := ?_) (or_int v [cmpI x.f_Round y.f_Round, cmpI x.f_Task.f_Id y.f_Task.f_Id] (by simp)) rfl ?_ ?_)
  rotate_left
  · exact tkl_
  rintro _ -
  dsimp only [List.cons_append, List.nil_append]
  refine Sn.ok ?_
  refine god2 ?_
  refine go ?_
  refine Dn.ret1 rfl rfl fun w hs => ⟨(), ?_, by trivial, by first | exact hs | (refine hs.conv ?_; exact ent_)⟩
  rw [lessE_or]
def aheadQ (x y : QI) : Bool := decide (x.round < y.round ∨ x.round = y.round ∧ (x.task.id < y.task.id ∨ x.task.id = y.task.id ∧ x.seq < y.seq))
def aheadI (x y : S_queue_item) : Bool := decide (x.f_Entry.f_Round < y.f_Entry.f_Round ∨ x.f_Entry.f_Round = y.f_Entry.f_Round ∧ (x.f_Entry.f_Task.f_Id < y.f_Entry.f_Task.f_Id ∨ x.f_Entry.f_Task.f_Id = y.f_Entry.f_Task.f_Id ∧ x.f_seq < y.f_seq))
-- FN (confidant/queue.item).ahead
theorem item_ahead (x y : S_queue_item) (hx : One x.f_Entry.f_Task.f_Stack) (hy : One y.f_Entry.f_Task.f_Stack) :
    Sp Try.prog 76 [itV x, itV y] [] (fun _ : Unit => True) (fun _ => .bool (aheadI x y)) (fun _ => []) := by
  refine Sp.intro (n := 25) Try.func76 rfl rfl fun w0 R => ?_
  dsimp only [List.cons_append, List.nil_append, envOf]
  refine go ?_;repeat((with_reducible refine Ol.g ?_);(first|refine Ol.eff rfl rfl rfl (Eff.alloc fun _=>?_)|refine Ol.eff rfl rfl rfl (Eff.box fun _=>?_)|refine Ol.eff0 rfl rfl (Eff.store rfl rfl ?_)|refine Ol.eff rfl rfl rfl (Eff.bslice rfl rfl fun _=>?_)|(refine Ol.eff0 rfl rfl (Eff.storeE rfl ?_ ?_);exact pre_)|(refine Ol.eff rfl rfl rfl (Eff.append1 rfl ?_ fun _=>?_);exact pre_));refine go ?_)
  with_reducible refine Ol.g ?_
  refine Ol.eff rfl rfl rfl (Eff.call (R := ?_) (queue_Less x.f_Entry y.f_Entry hx hy) rfl ?_ ?_)
  rotate_left
  · exact tkl_
  rintro _ -
  dsimp only [List.cons_append, List.nil_append]
  cases h1 : lessE x.f_Entry.f_Round x.f_Entry.f_Task.f_Id y.f_Entry.f_Round y.f_Entry.f_Task.f_Id with
  | true =>
    have h1' := of_decide_eq_true h1
    refine go ?_;repeat((with_reducible refine Ol.g ?_);(first|refine Ol.eff rfl rfl rfl (Eff.alloc fun _=>?_)|refine Ol.eff rfl rfl rfl (Eff.box fun _=>?_)|refine Ol.eff0 rfl rfl (Eff.store rfl rfl ?_)|refine Ol.eff rfl rfl rfl (Eff.bslice rfl rfl fun _=>?_)|(refine Ol.eff0 rfl rfl (Eff.storeE rfl ?_ ?_);exact pre_)|(refine Ol.eff rfl rfl rfl (Eff.append1 rfl ?_ fun _=>?_);exact pre_));refine go ?_)
    refine Dn.ret1 rfl rfl fun w hs => ⟨(), ?_, by trivial, by first | exact hs | (refine hs.conv ?_; exact ent_)⟩
    rw [show aheadI x y = true from decide_eq_true (by omega)]
  | false =>
    have h1' := of_decide_eq_false h1
    refine go ?_;repeat((with_reducible refine Ol.g ?_);(first|refine Ol.eff rfl rfl rfl (Eff.alloc fun _=>?_)|refine Ol.eff rfl rfl rfl (Eff.box fun _=>?_)|refine Ol.eff0 rfl rfl (Eff.store rfl rfl ?_)|refine Ol.eff rfl rfl rfl (Eff.bslice rfl rfl fun _=>?_)|(refine Ol.eff0 rfl rfl (Eff.storeE rfl ?_ ?_);exact pre_)|(refine Ol.eff rfl rfl rfl (Eff.append1 rfl ?_ fun _=>?_);exact pre_));refine go ?_)
    with_reducible refine Ol.g ?_
    refine Ol.eff rfl rfl rfl (Eff.call (R := ?_) (queue_Less y.f_Entry x.f_Entry hy hx) rfl ?_ ?_)
    rotate_left
    · exact tkl_
    rintro _ -
    dsimp only [List.cons_append, List.nil_append]
    cases h2 : lessE y.f_Entry.f_Round y.f_Entry.f_Task.f_Id x.f_Entry.f_Round x.f_Entry.f_Task.f_Id with
    | true =>
      have h2' := of_decide_eq_true h2
      refine go ?_;repeat((with_reducible refine Ol.g ?_);(first|refine Ol.eff rfl rfl rfl (Eff.alloc fun _=>?_)|refine Ol.eff rfl rfl rfl (Eff.box fun _=>?_)|refine Ol.eff0 rfl rfl (Eff.store rfl rfl ?_)|refine Ol.eff rfl rfl rfl (Eff.bslice rfl rfl fun _=>?_)|(refine Ol.eff0 rfl rfl (Eff.storeE rfl ?_ ?_);exact pre_)|(refine Ol.eff rfl rfl rfl (Eff.append1 rfl ?_ fun _=>?_);exact pre_));refine go ?_)
      refine Dn.ret1 rfl rfl fun w hs => ⟨(), ?_, by trivial, by first | exact hs | (refine hs.conv ?_; exact ent_)⟩
      rw [show aheadI x y = false from decide_eq_false (by omega)]
    | false =>
      have h2' := of_decide_eq_false h2
      refine go ?_;repeat((with_reducible refine Ol.g ?_);(first|refine Ol.eff rfl rfl rfl (Eff.alloc fun _=>?_)|refine Ol.eff rfl rfl rfl (Eff.box fun _=>?_)|refine Ol.eff0 rfl rfl (Eff.store rfl rfl ?_)|refine Ol.eff rfl rfl rfl (Eff.bslice rfl rfl fun _=>?_)|(refine Ol.eff0 rfl rfl (Eff.storeE rfl ?_ ?_);exact pre_)|(refine Ol.eff rfl rfl rfl (Eff.append1 rfl ?_ fun _=>?_);exact pre_));refine go ?_)
      refine Dn.ret1 rfl rfl fun w hs => ⟨(), ?_, by trivial, by first | exact hs | (refine hs.conv ?_; exact ent_)⟩
      rw [show aheadI x y = decide (x.f_seq < y.f_seq) from decide_eq_decide.2 (by omega)]
-- FN (confidant/queue.items).Len
theorem items_Len (v : Value) (l : List S_queue_item) : Sp Try.prog 162 [v] [sl e_queue_item v l] (fun _ : Unit => True) (fun _ => .int .i64 l.length) (fun _ => [sl e_queue_item v l]) := by
  refine Sp.intro (n := 5) Try.func162 rfl rfl fun w0 R => ?_
  dsimp only [List.cons_append, List.nil_append, envOf]
  refine go ?_
  refine Dn.ret1 rfl rfl fun w hs => ⟨(), ?_, by trivial, by first | exact hs | (refine hs.conv ?_; exact ent_)⟩
  rfl
theorem itC_eq {t : S_queue_item} {y : QI} {w : World} (h : sat w (itC t y)) : t.f_Entry.f_Round = y.round ∧ t.f_seq = y.seq ∧ t.f_Entry.f_Task.f_Id = y.task.id ∧ One t.f_Entry.f_Task.f_Stack := by
  obtain ⟨hh, hl, _, f, g, k, rfl, hp, f2, g2, k2, rfl, ha, _⟩ := h
  have hs : sat w (tkC t.f_Entry.f_Task y.task) := ⟨f2, fun b r o e => hl b r o (Hp.add_right k (Hp.add_left e)), ha⟩
  exact ⟨hp.1, hp.2, congrArg AT.id (tkC_ok hs).1, tkC_one hs⟩
-- FN (confidant/queue.items).Less
theorem items_Less (v : Value) (l : List S_queue_item) (q : List QI) (i j : Int) (hi : 0 ≤ i ∧ i < q.length) (hj : 0 ≤ j ∧ j < q.length) :
    Sp Try.prog 163 [v, .int .i64 i, .int .i64 j] [sl e_queue_item v l, rel2 itC l q] (fun _ : Unit => True) (fun _ => .bool (aheadQ (rd q i) (rd q j))) (fun _ => [sl e_queue_item v l, rel2 itC l q]) := by
  refine Sp.intro (n := 16) Try.func163 rfl rfl fun w0 R => ?_
  dsimp only [List.cons_append, List.nil_append, envOf]
  first | (with_reducible refine Cd.g ?_; refine Cd.know (fun w_ hw_ => rel2_len (Tk.sat (A := (rel2 itC l q)) (by exact tk_) hw_)) fun hl => ?_) | (with_reducible refine Ol.g ?_; refine Ol.know (fun w_ hw_ => rel2_len (Tk.sat (A := (rel2 itC l q)) (by exact tk_) hw_)) fun hl => ?_) | (with_reducible refine Dn.g ?_; refine Dn.know (fun w_ hw_ => rel2_len (Tk.sat (A := (rel2 itC l q)) (by exact tk_) hw_)) fun hl => ?_)
  refine Cd.know (fun w hw => itC_eq (sat.went (rel2_gotI hi.1 hi.2) (Tk.sat (A := rel2 itC l q) (by exact tk_) hw))) fun ki => ?_
  refine Cd.know (fun w hw => itC_eq (sat.went (rel2_gotI hj.1 hj.2) (Tk.sat (A := rel2 itC l q) (by exact tk_) hw))) fun kj => ?_
  obtain ⟨a1, a2, a3, a4⟩ := ki
  obtain ⟨b1, b2, b3, b4⟩ := kj
  refine go ?_
  refine Cd.drawL (l := [_, _, _, _, _, _, _, _, _]) (z := _) [[], [], [0, 1], [0, 1, 2], [], [], [4, 5], [4, 5, 6], [0, 1, 2, 3, 4, 5, 6, 7]] [8] [] (td := [(0, .fresh), (1, .fresh), (2, .fresh), (3, .fresh), (4, .fresh), (5, .fresh), (6, .fresh), (7, .fresh)]) rfl mixed (by kernel_rfl) (by kernel_rfl) (by kernel_rfl) (by decide) (by decide) rfl (by kernel_rfl) ?_
  refine god2 ?_
  refine Sg2.one (td := []) rfl (by kernel_rfl) fun F8_ => ?_
  dsimp only [List.cons_append, List.nil_append]
  refine SpOp.eff rfl rfl rfl rfl rfl (Eff.call (R := ?_) (item_ahead (rd l i) (rd l j) a4 b4) rfl ?_ ?_)
  rotate_left
  · exact tkl_
  rintro _ -
  dsimp only [List.cons_append, List.nil_append]
  refine Sn.ok ?_
  refine god2 ?_
  refine go ?_
  refine Dn.ret1 rfl rfl fun w hs => ⟨(), ?_, by trivial, by first | exact hs | (refine hs.conv ?_; exact ent_)⟩
  unfold aheadI aheadQ
  rw [a1, a2, a3, b1, b2, b3]
def swapL {α : Type} [Dfl α] (l : List α) (i j : Int) : List α := (l.set i.toNat (rd l j)).set j.toNat (rd l i)
theorem swapL_len {α : Type} [Dfl α] (l : List α) (i j : Int) : (swapL l i j).length = l.length := by simp [swapL]
theorem rd_swapL {α : Type} [Dfl α] (l : List α) {i j k : Int} (hi : 0 ≤ i ∧ i < l.length) (hj : 0 ≤ j ∧ j < l.length) (hk : 0 ≤ k) : rd (swapL l i j) k = if k = j then rd l i else if k = i then rd l j else rd l k := by
  unfold swapL
  rw [rd_set _ j k _ (by rw [List.length_set]; exact hj) hk]
  split
  · rfl
  · rw [rd_set _ i k _ hi hk]
theorem rel2_perm {α β : Type} [Dfl α] [Dfl β] {R : α → β → HProp} (hp : ∀ x y, Pers (R x y)) {l : List α} {q : List β} (hl : l.length = q.length) (l' : List α) (q' : List β) (hl' : l'.length = q'.length)
    (h : ∀ k : Int, 0 ≤ k → k < l'.length → ∃ m : Int, 0 ≤ m ∧ m < l.length ∧ rd l' k = rd l m ∧ rd q' k = rd q m) : went (rel2 R l q) (rel2 R l' q') := by
  refine rel2_sub hp (rel2_pers hp l q) l' q' hl' fun p hpm => ?_
  obtain ⟨k, hk, rfl⟩ := List.mem_iff_getElem.1 hpm
  have hk' : k < l'.length := by simp at hk; omega
  obtain ⟨m, h0, h1, e1, e2⟩ := h k (by omega) (by omega)
  have hm : m.toNat < l.length := by omega
  have hm2 : m.toNat < q.length := by omega
  have : (l'.zip q')[k] = (l.zip q)[m.toNat]'(by simp; omega) := by
    rw [List.getElem_zip, List.getElem_zip]
    rw [rd_eq (by simpa using hk'), rd_eq hm] at e1
    rw [rd_eq (by simp; omega), rd_eq hm2] at e2
    simp only [Int.toNat_natCast] at e1 e2
    rw [e1, e2]
  rw [this]
  exact List.getElem_mem _
-- FN (confidant/queue.items).Swap
theorem items_Swap (v : Value) (l : List S_queue_item) (q : List QI) (i j : Int) (hi : 0 ≤ i ∧ i < q.length) (hj : 0 ≤ j ∧ j < q.length) :
    Sp Try.prog 164 [v, .int .i64 i, .int .i64 j] [sl e_queue_item v l, rel2 itC l q] (fun _ : Unit => True) (fun _ => .tuple #[]) (fun _ => [sl e_queue_item v (swapL l i j), rel2 itC (swapL l i j) (swapL q i j)]) := by
  refine Sp.intro (n := 20) Try.func164 rfl rfl fun w0 R => ?_
  dsimp only [List.cons_append, List.nil_append, envOf]
  first | (with_reducible refine Cd.g ?_; refine Cd.know (fun w_ hw_ => rel2_len (Tk.sat (A := (rel2 itC l q)) (by exact tk_) hw_)) fun hl => ?_) | (with_reducible refine Ol.g ?_; refine Ol.know (fun w_ hw_ => rel2_len (Tk.sat (A := (rel2 itC l q)) (by exact tk_) hw_)) fun hl => ?_) | (with_reducible refine Dn.g ?_; refine Dn.know (fun w_ hw_ => rel2_len (Tk.sat (A := (rel2 itC l q)) (by exact tk_) hw_)) fun hl => ?_)
  refine Cd.know (fun w hw => itC_eq (sat.went (rel2_gotI hi.1 hi.2) (Tk.sat (A := rel2 itC l q) (by exact tk_) hw))) fun ki => ?_
  refine Cd.know (fun w hw => itC_eq (sat.went (rel2_gotI hj.1 hj.2) (Tk.sat (A := rel2 itC l q) (by exact tk_) hw))) fun kj => ?_
  have a4 := ki.2.2.2
  have b4 := kj.2.2.2
  clear ki kj
  refine Cd.draw2 [[], [], [], [], [], [], [4, 5], [4, 5, 6], [], [], [8, 9], [8, 9, 10], [0, 1, 4, 5, 6, 7, 8, 9, 10, 11], [0, 1, 4, 5, 6, 7, 8, 9, 10, 11, 12], [0, 1, 2, 3, 4, 5, 6, 7, 8, 9, 10, 11, 12, 13], [0, 1, 2, 3, 4, 5, 6, 7, 8, 9, 10, 11, 12, 13, 14]] [13, 15] [] (td := [(0, .fresh), (1, .fresh), (2, .fresh), (3, .fresh), (4, .fresh), (5, .fresh), (6, .fresh), (7, .fresh), (8, .fresh), (9, .fresh), (10, .fresh), (11, .fresh), (12, .fresh)]) mixed (by kernel_rfl) (by kernel_rfl) (by decide) (by decide) rfl (by kernel_rfl) ?_
  refine god2 ?_
  refine Sg2.one (td := [(2, .old), (3, .old), (14, .fresh)]) rfl (by kernel_rfl) fun F13_ => ?_
  dsimp only [List.cons_append, List.nil_append]
  (with_reducible first|refine SpOp.eff rfl rfl rfl rfl rfl (Eff.x (Qx.build rfl) ?_)|refine SpOp.eff rfl rfl rfl rfl rfl (Eff.alloc fun _=>?_)|refine SpOp.eff rfl rfl rfl rfl rfl (Eff.box fun _=>?_)|refine SpOp.eff rfl rfl rfl rfl rfl (Eff.bslice rfl rfl fun _=>?_)|(refine SpOp.eff rfl rfl rfl rfl rfl (Eff.append1 rfl ?_ fun _=>?_);exact pre_)|refine SpOp.eff0 rfl rfl rfl rfl (Eff.store rfl rfl ?_)|(refine SpOp.eff0 rfl rfl rfl rfl (Eff.storeE rfl ?_ ?_);exact pre_))
  refine Sn.ok ?_
  refine god2 ?_
  refine Sg2.one (td := []) rfl (by kernel_rfl) fun F15_ => ?_
  dsimp only [List.cons_append, List.nil_append]
  (with_reducible first|refine SpOp.eff rfl rfl rfl rfl rfl (Eff.x (Qx.build rfl) ?_)|refine SpOp.eff rfl rfl rfl rfl rfl (Eff.alloc fun _=>?_)|refine SpOp.eff rfl rfl rfl rfl rfl (Eff.box fun _=>?_)|refine SpOp.eff rfl rfl rfl rfl rfl (Eff.bslice rfl rfl fun _=>?_)|(refine SpOp.eff rfl rfl rfl rfl rfl (Eff.append1 rfl ?_ fun _=>?_);exact pre_)|refine SpOp.eff0 rfl rfl rfl rfl (Eff.store rfl rfl ?_)|(refine SpOp.eff0 rfl rfl rfl rfl (Eff.storeE rfl ?_ ?_);exact pre_))
  refine Sn.ok ?_
  refine god2 ?_
  refine go ?_
  refine Dn.fin0 rfl fun w hs => ⟨(), rfl, trivial, hs.conv ?_⟩
  refine ents.cons (show Tk _ (sl e_queue_item v (swapL l i j)) _ from by unfold swapL; exact tk_) (ents.conv1 (A := rel2 itC l q) (rel2_perm (fun _ _ => inferInstance) hl _ _ (by rw [swapL_len, swapL_len, hl]) fun k h0 h1 => ?_) (by exact tk_) (by exact ent_))
  rw [swapL_len] at h1
  rw [rd_swapL l (by omega) (by omega) h0, rd_swapL q hi hj h0]
  by_cases h2 : k = j
  · rw [if_pos h2, if_pos h2]; exact ⟨i, hi.1, by omega, rfl, rfl⟩
  rw [if_neg h2, if_neg h2]
  by_cases h3 : k = i
  · rw [if_pos h3, if_pos h3]; exact ⟨j, hj.1, by omega, rfl, rfl⟩
  rw [if_neg h3, if_neg h3]
  exact ⟨k, h0, h1, rfl, rfl⟩
-- FN (*confidant/queue.items).Push
theorem items_Push (p : Nat) (v : Value) (n : Int) (l : List S_queue_item) (t : S_queue_item) (ht : One t.f_Entry.f_Task.f_Stack) (hl : l.length ≤ 1048576) :
    Sp Try.prog 166 [.pointer (some ⟨p, 0, none⟩), .iface 116 (itV t)] [cel p 111 [v, .int .i64 n], sl e_queue_item v l] (fun _ : Value => True) (fun _ => .tuple #[]) (fun u => [cel p 111 [u, .int .i64 n], sl e_queue_item u (l ++ [t])]) := by
  refine Sp.intro (n := 13) Try.func166 rfl rfl fun w0 R => ?_
  dsimp only [List.cons_append, List.nil_append, envOf]
  refine Cd.draw2 [[], [], [1], [1, 2], [], [4], [4, 5], [1, 2, 3, 4, 5, 6], [0, 1, 2, 3, 4, 5, 6, 7], [0, 1, 2, 3, 4, 5, 6, 7, 8]] [6, 7, 9] [] (td := [(0, .fresh), (1, .fresh), (2, .fresh), (3, .fresh), (4, .fresh), (5, .fresh)]) mixed (by kernel_rfl) (by kernel_rfl) (by decide) (by decide) rfl (by kernel_rfl) ?_
  refine god2 ?_
  refine Sg2.one (td := [(0, .old), (1, .old), (2, .old), (3, .old)]) rfl (by kernel_rfl) fun F6_ => ?_
  dsimp only [List.cons_append, List.nil_append]
  (with_reducible first|refine SpOp.eff rfl rfl rfl rfl rfl (Eff.x (Qx.build rfl) ?_)|refine SpOp.eff rfl rfl rfl rfl rfl (Eff.alloc fun _=>?_)|refine SpOp.eff rfl rfl rfl rfl rfl (Eff.box fun _=>?_)|refine SpOp.eff rfl rfl rfl rfl rfl (Eff.bslice rfl rfl fun _=>?_)|(refine SpOp.eff rfl rfl rfl rfl rfl (Eff.append1 rfl ?_ fun _=>?_);exact pre_)|refine SpOp.eff0 rfl rfl rfl rfl (Eff.store rfl rfl ?_)|(refine SpOp.eff0 rfl rfl rfl rfl (Eff.storeE rfl ?_ ?_);exact pre_))
  refine Sn.ok ?_
  refine god2 ?_
  refine Sg2.one (td := [(0, .old), (8, .fresh)]) rfl (by kernel_rfl) fun F7_ => ?_
  dsimp only [List.cons_append, List.nil_append]
  (with_reducible first|refine SpOp.eff rfl rfl rfl rfl rfl (Eff.x (Qx.build rfl) ?_)|refine SpOp.eff rfl rfl rfl rfl rfl (Eff.alloc fun _=>?_)|refine SpOp.eff rfl rfl rfl rfl rfl (Eff.box fun _=>?_)|refine SpOp.eff rfl rfl rfl rfl rfl (Eff.bslice rfl rfl fun _=>?_)|(refine SpOp.eff rfl rfl rfl rfl rfl (Eff.append1 rfl ?_ fun _=>?_);exact pre_)|refine SpOp.eff0 rfl rfl rfl rfl (Eff.store rfl rfl ?_)|(refine SpOp.eff0 rfl rfl rfl rfl (Eff.storeE rfl ?_ ?_);exact pre_))
  rename_i u
  refine Sn.ok ?_
  refine god2 ?_
  refine Sg2.one (td := []) rfl (by kernel_rfl) fun F9_ => ?_
  dsimp only [List.cons_append, List.nil_append]
  (with_reducible first|refine SpOp.eff rfl rfl rfl rfl rfl (Eff.x (Qx.build rfl) ?_)|refine SpOp.eff rfl rfl rfl rfl rfl (Eff.alloc fun _=>?_)|refine SpOp.eff rfl rfl rfl rfl rfl (Eff.box fun _=>?_)|refine SpOp.eff rfl rfl rfl rfl rfl (Eff.bslice rfl rfl fun _=>?_)|(refine SpOp.eff rfl rfl rfl rfl rfl (Eff.append1 rfl ?_ fun _=>?_);exact pre_)|refine SpOp.eff0 rfl rfl rfl rfl (Eff.store rfl rfl ?_)|(refine SpOp.eff0 rfl rfl rfl rfl (Eff.storeE rfl ?_ ?_);exact pre_))
  refine Sn.ok ?_
  refine god2 ?_
  refine go ?_
  refine Dn.fin0 rfl fun w hs => ⟨u, rfl, trivial, hs⟩
theorem ents_cutE {r : Bool} {T : Type} {E : Enc T} {v : Value} {xs ys : List T} {h : Nat} {H H1 L : List HProp} (t : Tk H (slB r E v xs) H1) (hl : h ≤ xs.length) (e : xs.take h = ys) (k : ents H1 L) : ents H (slB r E (cutV v h) ys :: L) := by
  subst e
  exact ents.cutS t hl k
-- FN (*confidant/queue.items).Pop
theorem items_Pop (p : Nat) (v : Value) (n : Int) (l : List S_queue_item) (t : S_queue_item) (ht : One t.f_Entry.f_Task.f_Stack) (hl : l.length ≤ 1048576) :
    Sp Try.prog 165 [.pointer (some ⟨p, 0, none⟩)] [cel p 111 [v, .int .i64 n], sl e_queue_item v (l ++ [t])] (fun _ : Unit => True) (fun _ => .iface 116 (itV t)) (fun _ => [cel p 111 [cutV v l.length, .int .i64 n], sl e_queue_item (cutV v l.length) l]) := by
  have hlen : ((l ++ [t]).length : Int) - 1 = l.length := by simp
  have hrd : rd (l ++ [t]) (l.length : Int) = t := by rw [rd_eq (by simp)]; simp
  refine Sp.intro (n := 25) Try.func165 rfl rfl fun w0 R => ?_
  dsimp only [List.cons_append, List.nil_append, envOf]
  refine go ?_;repeat((with_reducible refine Ol.g ?_);(first|refine Ol.eff rfl rfl rfl (Eff.alloc fun _=>?_)|refine Ol.eff rfl rfl rfl (Eff.box fun _=>?_)|refine Ol.eff0 rfl rfl (Eff.store rfl rfl ?_)|refine Ol.eff rfl rfl rfl (Eff.bslice rfl rfl fun _=>?_)|(refine Ol.eff0 rfl rfl (Eff.storeE rfl ?_ ?_);exact pre_)|(refine Ol.eff rfl rfl rfl (Eff.append1 rfl ?_ fun _=>?_);exact pre_));refine go ?_)
  rw [hlen]
  refine go ?_;repeat((with_reducible refine Ol.g ?_);(first|refine Ol.eff rfl rfl rfl (Eff.alloc fun _=>?_)|refine Ol.eff rfl rfl rfl (Eff.box fun _=>?_)|refine Ol.eff0 rfl rfl (Eff.store rfl rfl ?_)|refine Ol.eff rfl rfl rfl (Eff.bslice rfl rfl fun _=>?_)|(refine Ol.eff0 rfl rfl (Eff.storeE rfl ?_ ?_);exact pre_)|(refine Ol.eff rfl rfl rfl (Eff.append1 rfl ?_ fun _=>?_);exact pre_));refine go ?_)
  rw [hrd]
  refine go ?_;repeat((with_reducible refine Ol.g ?_);(first|refine Ol.eff rfl rfl rfl (Eff.alloc fun _=>?_)|refine Ol.eff rfl rfl rfl (Eff.box fun _=>?_)|refine Ol.eff0 rfl rfl (Eff.store rfl rfl ?_)|refine Ol.eff rfl rfl rfl (Eff.bslice rfl rfl fun _=>?_)|(refine Ol.eff0 rfl rfl (Eff.storeE rfl ?_ ?_);exact pre_)|(refine Ol.eff rfl rfl rfl (Eff.append1 rfl ?_ fun _=>?_);exact pre_));refine go ?_)
  refine Dn.ret1 rfl rfl fun w hs => ⟨(), rfl, trivial, hs.conv ?_⟩
  rw [show (l.length : Int).toNat = l.length from by simp]
  refine ents.cons (by exact tk_) ?_
  exact ents_cutE (v := v) (xs := l ++ [t]) (h := l.length) (by exact tk_) (by simp) (by simp) (by exact ent_)
end Go.Proofs.Ytcgjmlapmdbnmaa

