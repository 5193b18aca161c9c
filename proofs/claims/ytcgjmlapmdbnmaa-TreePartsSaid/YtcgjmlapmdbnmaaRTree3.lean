/- Contracts of functions of the program, proved in a small separation logic. Conditions: those that each theorem states. -/
import Derived.Test.YtcgjmlapmdbnmaaRTree2
import Derived.Test.YtcgjmlapmdbnmaaTree4
namespace Go.Proofs.Ytcgjmlapmdbnmaa
open Go Go.Sl
set_option maxHeartbeats 4000000
set_option maxRecDepth 100000
set_option linter.unusedVariables false
-- FN confidant/confidantref29.in
theorem ref29_in (op arg : Int) (h : i32B arg) : Sp Try.prog 103 [.int .i64 op, .int .i64 arg] [] (fun _ : Unit => True) (fun _ => iV ⟨op, arg⟩) (fun _ => []) := by
  refine Sp.intro (n := 9) Try.func103 rfl rfl fun w0 R => ?_
  dsimp only [List.cons_append, List.nil_append, envOf]
  refine go ?_;repeat((with_reducible refine Ol.g ?_);(first|refine Ol.eff rfl rfl rfl (Eff.alloc fun _=>?_)|refine Ol.eff rfl rfl rfl (Eff.box fun _=>?_)|refine Ol.eff0 rfl rfl (Eff.store rfl rfl ?_)|refine Ol.eff rfl rfl rfl (Eff.bslice rfl rfl fun _=>?_)|(refine Ol.eff0 rfl rfl (Eff.storeE rfl ?_ ?_);exact pre_)|(refine Ol.eff rfl rfl rfl (Eff.append1 rfl ?_ fun _=>?_);exact pre_));refine go ?_)
  refine Dn.retC rfl rfl trivial fun w' hs => ⟨(), rfl, trivial, hs.conv (by exact ent_)⟩
-- FN confidant/confidantref29.value
theorem ref29_value (v : Value) (xs : List S_api_Tree) (T : List TN) (labels : Int) (hr : rightB T labels = true) : ∀ (m : Nat) (i : Int), 0 ≤ i → i < T.length → T.length ≤ m + i →
    Sp Try.prog 59 [v, .int .i64 i] [rsl e_api_Tree v xs, rel2 tnC xs T] (fun _ : Unit => True) (fun _ => .int .i32 (valT T m i)) (fun _ => [])
  | 0, i, h0, h1, h2 => by omega
  | m + 1, i, h0, h1, h2 => by
    have hn := nodeB_F (rightB_node hr ⟨h0, h1⟩)
    have hT := rightB_len hr
    have hkd := hn.kind
    have ih : ∀ k : Nat, k < (rd T i).kids.length → Sp Try.prog 59 [v, .int .i64 (rd (rd T i).kids k)] [rsl e_api_Tree v xs, rel2 tnC xs T] (fun _ : Unit => True) (fun _ => .int .i32 (valT T m (rd (rd T i).kids k))) (fun _ => []) := fun k hk => by
      have := hn.kids k hk
      exact ref29_value v xs T labels hr m _ (by omega) this.2 (by omega)
    unfold valT
    refine Sp.intro (n := 65) Try.func59 rfl rfl fun w0 R => ?_
    dsimp only [List.cons_append, List.nil_append, envOf]
    first | (with_reducible refine Cd.g ?_; refine Cd.know (fun w_ hw_ => rel2_len (Tk.sat (A := (rel2 tnC xs T)) (by exact tk_) hw_)) fun hl => ?_) | (with_reducible refine Ol.g ?_; refine Ol.know (fun w_ hw_ => rel2_len (Tk.sat (A := (rel2 tnC xs T)) (by exact tk_) hw_)) fun hl => ?_) | (with_reducible refine Dn.g ?_; refine Dn.know (fun w_ hw_ => rel2_len (Tk.sat (A := (rel2 tnC xs T)) (by exact tk_) hw_)) fun hl => ?_)
    refine Cd.conv (Tk.more (p := rel2_pers (fun _ _ => inferInstance) _ _) (A := rel2 tnC xs T) (rel2_gotI (i := i) h0 h1) (by exact tk_)) ?_
    first | (with_reducible refine Cd.g ?_; refine Cd.pk (A := (tnC (rd xs i) (rd T i))) rfl (by exact tk_) fun q hq => ?_) | (with_reducible refine Ol.g ?_; refine Ol.pk (A := (tnC (rd xs i) (rd T i))) rfl (by exact tk_) fun q hq => ?_) | (with_reducible refine Dn.g ?_; refine Dn.pk (A := (tnC (rd xs i) (rd T i))) rfl (by exact tk_) fun q hq => ?_)
    dsimp only [List.cons_append, List.nil_append]
    obtain ⟨q1, q2, q3⟩ := hq
    generalize rd T i = N at q1 q2 q3 ih hkd ⊢
    obtain ⟨kind, val, lab, ks⟩ := N
    dsimp only at q1 q2 q3 ih hkd ⊢
    refine go ?_;repeat((with_reducible refine Ol.g ?_);(first|refine Ol.eff rfl rfl rfl (Eff.alloc fun _=>?_)|refine Ol.eff rfl rfl rfl (Eff.box fun _=>?_)|refine Ol.eff0 rfl rfl (Eff.store rfl rfl ?_)|refine Ol.eff rfl rfl rfl (Eff.bslice rfl rfl fun _=>?_)|(refine Ol.eff0 rfl rfl (Eff.storeE rfl ?_ ?_);exact pre_)|(refine Ol.eff rfl rfl rfl (Eff.append1 rfl ?_ fun _=>?_);exact pre_));refine go ?_)
    rename_i c
    rw [q1]
    refine Cd.condP rfl (fun g1 => ?_) (fun g1 => ?_)
    · refine go ?_
      refine Dn.ret1 rfl rfl fun w hs => ⟨(), by rw [if_pos g1, q2], trivial, hs.conv (by exact ent_)⟩
    rw [if_neg g1]
    refine go ?_
    refine Cd.condP rfl (fun g2 => ?_) (fun g2 => ?_)
    · rw [if_pos g2]
      refine go ?_
      refine Cd.drawL (l := [_, _, _, _, _, _, _, _, _, _, _, _, _]) (z := _) [[], [], [1], [1, 2], [1, 2, 3], [0, 1, 2, 3, 4], [], [], [7], [7, 8], [7, 8, 9], [0, 1, 2, 3, 4, 5, 6, 7, 8, 9, 10], [0, 1, 2, 3, 4, 5, 6, 7, 8, 9, 10, 11]] [5, 11] [] (td := [(0, .fresh), (1, .fresh), (2, .fresh), (3, .fresh), (4, .fresh), (6, .fresh), (7, .fresh), (8, .fresh), (9, .fresh), (10, .fresh)]) rfl mixed (by kernel_rfl) (by kernel_rfl) (by kernel_rfl) (by decide) (by decide) rfl (by kernel_rfl) ?_
      refine god2 ?_
      refine Sg2.one (td := [(6, .old), (7, .old), (8, .old), (9, .old), (10, .old)]) rfl (by kernel_rfl) fun F5_ => ?_
      dsimp only [List.cons_append, List.nil_append]
      refine SpOp.eff rfl rfl rfl rfl rfl (Eff.call (R := ?_) (ih 0 (by omega)) rfl ?_ ?_)
      rotate_left
      · exact tkl_
      rintro _ -
      dsimp only [List.cons_append, List.nil_append]
      refine Sn.ok ?_
      refine god2 ?_
      refine Sg2.one (td := [(12, .fresh)]) rfl (by kernel_rfl) fun F11_ => ?_
      dsimp only [List.cons_append, List.nil_append]
      refine SpOp.eff rfl rfl rfl rfl rfl (Eff.call (R := ?_) (ih 1 (by omega)) rfl ?_ ?_)
      rotate_left
      · exact tkl_
      rintro _ -
      dsimp only [List.cons_append, List.nil_append]
      refine Sn.ok ?_
      refine god2 ?_
      refine go ?_
      refine Dn.ret1 rfl rfl fun w hs => ⟨(), rfl, trivial, hs.conv (by exact ent_)⟩
    rw [if_neg g2]
    refine go ?_
    refine Cd.cut (α := Unit) (fun _ => [(0, v), (5, .pointer (some ⟨c, 0, none⟩)), (6, .int .i32 (one3 kind))])
      (fun _ => cel c 56 [.int .i64 kind, .int .i32 (rd xs i).f_Value, .int .i64 (rd xs i).f_Label, (rd xs i).f_Kids] :: rsl (eInt .i64) (rd xs i).f_Kids ks :: rsl e_api_Tree v xs :: rel2 tnC xs T :: R) (fun K kk => ?_) ?_
    · refine Cd.condP rfl (fun g3 => ?_) (fun g3 => ?_)
      · refine go ?_
        refine Dn.weak ?_ (by exact ent_) (kk ())
        rw [show one3 kind = 1 from if_pos g3]
        repeat(first|exact Env.le_nil _|(refine Env.le_cons rfl ?_ ?_;first|rfl|(simp;done)|exact congrArg _ (by omega)|rotate_left))
      · refine go ?_
        refine Dn.weak ?_ (by exact ent_) (kk ())
        rw [show one3 kind = 0 from if_neg g3]
        repeat(first|exact Env.le_nil _|(refine Env.le_cons rfl ?_ ?_;first|rfl|(simp;done)|exact congrArg _ (by omega)|rotate_left))
    rintro -
    refine go ?_
    refine Cd.loop (fun k : Nat => k ≤ ks.length) (fun k => ks.length - k) (fun k => [(0, v), (5, .pointer (some ⟨c, 0, none⟩)), (6, .int .i32 ((ks.take k).foldl (fun v k => opV kind v (valT T m k)) (one3 kind))), (7, .int .i64 k)])
      (fun k => cel c 56 [.int .i64 kind, .int .i32 (rd xs i).f_Value, .int .i64 (rd xs i).f_Label, (rd xs i).f_Kids] :: rsl (eInt .i64) (rd xs i).f_Kids ks :: rsl e_api_Tree v xs :: rel2 tnC xs T :: R) 0 (by omega) ?_ ?_ ?_
    · rw [List.take_zero, List.foldl_nil]
      repeat(first|exact Env.le_nil _|(refine Env.le_cons rfl ?_ ?_;first|rfl|(simp;done)|exact congrArg _ (by omega)|rotate_left))
    · exact ent_
    intro k hk
    have hk64 : ks.length ≤ 64 := by omega
    refine go ?_
    refine Cd.condP rfl (fun h => ?_) (fun h => ?_)
    · have hk2 : k < ks.length := by omega
      refine go ?_
      refine Cd.condP rfl (fun g3 => ?_) (fun g3 => ?_)
      · refine go ?_
        with_reducible refine Ol.g ?_
        refine Ol.eff rfl rfl rfl (Eff.call (R := ?_) (ih k hk2) rfl ?_ ?_)
        rotate_left
        · exact tkl_
        rintro _ -
        dsimp only [List.cons_append, List.nil_append]
        refine go ?_
        refine Dn.round (k + 1) (by omega) (by omega) ?_ (by exact ent_)
        rw [take_rd hk2, List.foldl_append, List.foldl_cons, List.foldl_nil]
        rw [show ∀ a b : Int, opV kind a b = w32 (a + b) from fun a b => by unfold opV; rw [if_neg (by omega)]]
        repeat(first|exact Env.le_nil _|(refine Env.le_cons rfl ?_ ?_;first|rfl|(simp;done)|exact congrArg _ (by omega)|rotate_left))
      · refine go ?_
        with_reducible refine Ol.g ?_
        refine Ol.eff rfl rfl rfl (Eff.call (R := ?_) (ih k hk2) rfl ?_ ?_)
        rotate_left
        · exact tkl_
        rintro _ -
        dsimp only [List.cons_append, List.nil_append]
        refine go ?_
        refine Dn.round (k + 1) (by omega) (by omega) ?_ (by exact ent_)
        rw [take_rd hk2, List.foldl_append, List.foldl_cons, List.foldl_nil]
        have h3 : kind = 3 := by omega
        rw [show ∀ a b : Int, opV kind a b = w32 (a * b) from fun a b => by unfold opV; rw [if_pos h3]]
        repeat(first|exact Env.le_nil _|(refine Env.le_cons rfl ?_ ?_;first|rfl|(simp;done)|exact congrArg _ (by omega)|rotate_left))
    · have hkk : k = ks.length := by omega
      rw [hkk, List.take_length]
      refine go ?_
      refine Dn.ret1 rfl rfl fun w hs => ⟨(), rfl, trivial, hs.conv (by exact ent_)⟩
-- FN confidant/confidantref29.Value
theorem ref29_Value (v : Value) (xs : List S_api_Tree) (T : List TN) :
    Sp Try.prog 19 [v] [rsl e_api_Tree v xs, rel2 tnC xs T] (fun _ : Unit => True) (fun _ => match rightB T 16 with | true => .tuple #[.int .i32 (valT T T.length 0), .bool true] | false => .tuple #[.int .i32 0, .bool false]) (fun _ => []) := by
  refine Sp.intro (n := 9) Try.func19 rfl rfl fun w0 R => ?_
  dsimp only [List.cons_append, List.nil_append, envOf]
  refine go ?_
  with_reducible refine Ol.g ?_
  refine Ol.eff rfl rfl rfl (Eff.call (R := ?_) (ref29_Right v xs T 16) rfl ?_ ?_)
  rotate_left
  · exact tkl_
  rintro _ -
  dsimp only [List.cons_append, List.nil_append]
  cases hr : rightB T 16 with
  | false =>
    refine go ?_
    refine Dn.ret2 rfl rfl rfl fun w hs => ⟨(), rfl, trivial, hs.conv (by exact ent_)⟩
  | true =>
    have hT := rightB_len hr
    refine go ?_
    with_reducible refine Ol.g ?_
    refine Ol.eff rfl rfl rfl (Eff.call (R := ?_) (ref29_value v xs T 16 hr T.length 0 (by omega) (by omega) (by omega)) rfl ?_ ?_)
    rotate_left
    · exact tkl_
    rintro _ -
    dsimp only [List.cons_append, List.nil_append]
    refine go ?_
    refine Dn.ret2 rfl rfl rfl fun w hs => ⟨(), rfl, trivial, hs.conv (by exact ent_)⟩
-- FN confidant/confidantref29.Tasks
theorem ref29_Tasks (v : Value) (xs : List S_api_Tree) (T : List TN) :
    Sp Try.prog 26 [v] [rsl e_api_Tree v xs, rel2 tnC xs T] (fun _ : Unit => True) (fun _ => .int .i64 (match rightB T 16 with | true => (T.length : Int) | false => 0)) (fun _ => []) := by
  refine Sp.intro (n := 8) Try.func26 rfl rfl fun w0 R => ?_
  dsimp only [List.cons_append, List.nil_append, envOf]
  first | (with_reducible refine Cd.g ?_; refine Cd.know (fun w_ hw_ => rel2_len (Tk.sat (A := (rel2 tnC xs T)) (by exact tk_) hw_)) fun hl => ?_) | (with_reducible refine Ol.g ?_; refine Ol.know (fun w_ hw_ => rel2_len (Tk.sat (A := (rel2 tnC xs T)) (by exact tk_) hw_)) fun hl => ?_) | (with_reducible refine Dn.g ?_; refine Dn.know (fun w_ hw_ => rel2_len (Tk.sat (A := (rel2 tnC xs T)) (by exact tk_) hw_)) fun hl => ?_)
  refine go ?_
  with_reducible refine Ol.g ?_
  refine Ol.eff rfl rfl rfl (Eff.call (R := ?_) (ref29_Right v xs T 16) rfl ?_ ?_)
  rotate_left
  · exact tkl_
  rintro _ -
  dsimp only [List.cons_append, List.nil_append]
  cases hr : rightB T 16 with
  | false =>
    refine go ?_
    refine Dn.ret1 rfl rfl fun w hs => ⟨(), rfl, trivial, hs.conv (by exact ent_)⟩
  | true =>
    refine go ?_
    refine Dn.ret1 rfl rfl fun w hs => ⟨(), by rw [hl], trivial, hs.conv (by exact ent_)⟩
end Go.Proofs.Ytcgjmlapmdbnmaa

