/- Contracts of functions of the program, proved in a small separation logic. Conditions: those that each theorem states. -/
import Derived.Test.YtcgjmlapmdbnmaaTree2
namespace Go.Proofs.Ytcgjmlapmdbnmaa
open Go Go.Sl
set_option maxHeartbeats 4000000
set_option maxRecDepth 100000
set_option linter.unusedVariables false
abbrev w32 (n : Int) : Int := IntKind.i32.wrap n
-- FN (confidant/word.num).sub
theorem word_sub (a b : Int) : Sp Try.prog 118 [.int .i32 a, .int .i32 b] [] (fun _ : Unit => True) (fun _ => .int .i32 (w32 (a - b))) (fun _ => []) := by
  refine Sp.intro (n := 8) Try.func118 rfl rfl fun w0 R => ?_
  dsimp only [List.cons_append, List.nil_append, envOf]
  refine go ?_
  refine Dn.ret1 rfl rfl fun w hs => ⟨(), ?_, by trivial, by first | exact hs | (refine hs.conv ?_; exact ent_)⟩
  rfl
-- FN confidant/word.do
theorem word_doSub (a b : Int) : Sp Try.prog 117 [.func (.func 118) #[] #[], .int .i32 a, .int .i32 b] [] (fun _ : Unit => True) (fun _ => .int .i32 (w32 (a - b))) (fun _ => []) := by
  refine Sp.intro (n := 11) Try.func117 rfl rfl fun w0 R => ?_
  dsimp only [List.cons_append, List.nil_append, envOf]
  refine go ?_
  with_reducible refine Ol.g ?_
  refine Ol.eff rfl rfl rfl (Eff.call (R := ?_) (word_sub a b) rfl ?_ ?_)
  rotate_left
  · exact tkl_
  rintro _ -
  dsimp only [List.cons_append, List.nil_append]
  refine go ?_
  refine Dn.ret1 rfl rfl fun w hs => ⟨(), ?_, by trivial, by first | exact hs | (refine hs.conv ?_; exact ent_)⟩
  rfl
-- FN confidant/word.Sub
theorem word_Sub (a b : Int) : Sp Try.prog 99 [.int .i32 a, .int .i32 b] [] (fun _ : Unit => True) (fun _ => .int .i32 (w32 (a - b))) (fun _ => []) := by
  refine Sp.intro (n := 8) Try.func99 rfl rfl fun w0 R => ?_
  dsimp only [List.cons_append, List.nil_append, envOf]
  refine go ?_
  with_reducible refine Ol.g ?_
  refine Ol.eff rfl rfl rfl (Eff.call (R := ?_) (word_doSub a b) rfl ?_ ?_)
  rotate_left
  · exact tkl_
  rintro _ -
  dsimp only [List.cons_append, List.nil_append]
  refine go ?_
  refine Dn.ret1 rfl rfl fun w hs => ⟨(), ?_, by trivial, by first | exact hs | (refine hs.conv ?_; exact ent_)⟩
  rfl
-- FN (confidant/word.num).add
theorem word_add (a b : Int) : Sp Try.prog 119 [.int .i32 a, .int .i32 b] [] (fun _ : Unit => True) (fun _ => .int .i32 (w32 (a + b))) (fun _ => []) := by
  refine Sp.intro (n := 8) Try.func119 rfl rfl fun w0 R => ?_
  dsimp only [List.cons_append, List.nil_append, envOf]
  refine go ?_
  refine Dn.ret1 rfl rfl fun w hs => ⟨(), ?_, by trivial, by first | exact hs | (refine hs.conv ?_; exact ent_)⟩
  rfl
-- FN confidant/word.do
theorem word_doAdd (a b : Int) : Sp Try.prog 117 [.func (.func 119) #[] #[], .int .i32 a, .int .i32 b] [] (fun _ : Unit => True) (fun _ => .int .i32 (w32 (a + b))) (fun _ => []) := by
  refine Sp.intro (n := 11) Try.func117 rfl rfl fun w0 R => ?_
  dsimp only [List.cons_append, List.nil_append, envOf]
  refine go ?_
  with_reducible refine Ol.g ?_
  refine Ol.eff rfl rfl rfl (Eff.call (R := ?_) (word_add a b) rfl ?_ ?_)
  rotate_left
  · exact tkl_
  rintro _ -
  dsimp only [List.cons_append, List.nil_append]
  refine go ?_
  refine Dn.ret1 rfl rfl fun w hs => ⟨(), ?_, by trivial, by first | exact hs | (refine hs.conv ?_; exact ent_)⟩
  rfl
-- FN confidant/word.Add
theorem word_Add (a b : Int) : Sp Try.prog 100 [.int .i32 a, .int .i32 b] [] (fun _ : Unit => True) (fun _ => .int .i32 (w32 (a + b))) (fun _ => []) := by
  refine Sp.intro (n := 8) Try.func100 rfl rfl fun w0 R => ?_
  dsimp only [List.cons_append, List.nil_append, envOf]
  refine go ?_
  with_reducible refine Ol.g ?_
  refine Ol.eff rfl rfl rfl (Eff.call (R := ?_) (word_doAdd a b) rfl ?_ ?_)
  rotate_left
  · exact tkl_
  rintro _ -
  dsimp only [List.cons_append, List.nil_append]
  refine go ?_
  refine Dn.ret1 rfl rfl fun w hs => ⟨(), ?_, by trivial, by first | exact hs | (refine hs.conv ?_; exact ent_)⟩
  rfl
-- FN (confidant/word.num).mul
theorem word_mul (a b : Int) : Sp Try.prog 120 [.int .i32 a, .int .i32 b] [] (fun _ : Unit => True) (fun _ => .int .i32 (w32 (a * b))) (fun _ => []) := by
  refine Sp.intro (n := 8) Try.func120 rfl rfl fun w0 R => ?_
  dsimp only [List.cons_append, List.nil_append, envOf]
  refine go ?_
  refine Dn.ret1 rfl rfl fun w hs => ⟨(), ?_, by trivial, by first | exact hs | (refine hs.conv ?_; exact ent_)⟩
  rfl
-- FN confidant/word.do
theorem word_doMul (a b : Int) : Sp Try.prog 117 [.func (.func 120) #[] #[], .int .i32 a, .int .i32 b] [] (fun _ : Unit => True) (fun _ => .int .i32 (w32 (a * b))) (fun _ => []) := by
  refine Sp.intro (n := 11) Try.func117 rfl rfl fun w0 R => ?_
  dsimp only [List.cons_append, List.nil_append, envOf]
  refine go ?_
  with_reducible refine Ol.g ?_
  refine Ol.eff rfl rfl rfl (Eff.call (R := ?_) (word_mul a b) rfl ?_ ?_)
  rotate_left
  · exact tkl_
  rintro _ -
  dsimp only [List.cons_append, List.nil_append]
  refine go ?_
  refine Dn.ret1 rfl rfl fun w hs => ⟨(), ?_, by trivial, by first | exact hs | (refine hs.conv ?_; exact ent_)⟩
  rfl
-- FN confidant/word.Mul
theorem word_Mul (a b : Int) : Sp Try.prog 101 [.int .i32 a, .int .i32 b] [] (fun _ : Unit => True) (fun _ => .int .i32 (w32 (a * b))) (fun _ => []) := by
  refine Sp.intro (n := 8) Try.func101 rfl rfl fun w0 R => ?_
  dsimp only [List.cons_append, List.nil_append, envOf]
  refine go ?_
  with_reducible refine Ol.g ?_
  refine Ol.eff rfl rfl rfl (Eff.call (R := ?_) (word_doMul a b) rfl ?_ ?_)
  rotate_left
  · exact tkl_
  rintro _ -
  dsimp only [List.cons_append, List.nil_append]
  refine go ?_
  refine Dn.ret1 rfl rfl fun w hs => ⟨(), ?_, by trivial, by first | exact hs | (refine hs.conv ?_; exact ent_)⟩
  rfl
def opV (kind a b : Int) : Int := if kind = 3 then w32 (a * b) else w32 (a + b)
def one3 (kind : Int) : Int := if kind = 3 then 1 else 0
def valT (T : List TN) : Nat → Int → Int
  | 0, _ => 0
  | m + 1, i => if (rd T i).kind = 1 then (rd T i).value else if (rd T i).kind = 4 then w32 (valT T m (rd (rd T i).kids 0) - valT T m (rd (rd T i).kids 1)) else (rd T i).kids.foldl (fun v k => opV (rd T i).kind v (valT T m k)) (one3 (rd T i).kind)
theorem pair_fn {f : FuncId} [hf : HasF Try.prog f] {F : Int → Int → Int} (h : ∀ a b : Int, Sp Try.prog f [.int .i32 a, .int .i32 b] [] (fun _ : Unit => True) (fun _ => .int .i32 (F a b)) (fun _ => [])) :
    FnV (P := Try.prog) (.func (.func f) #[] #[]) (stars []) (fun p : Int × Int => [.int .i32 p.1, .int .i32 p.2]) (fun _ => True) (fun p => .int .i32 (F p.1 p.2)) := by
  refine ⟨_, _, _, rfl, hf, fun p _ w0 w R hs => ?_⟩
  refine (h p.1 p.2 w0 w R (hs.conv (show ents (stars [] :: R) R from by exact ent_))).mono fun e w' h => ?_
  obtain ⟨v, rfl, x, rfl, _, h5⟩ := h
  exact ⟨_, rfl, (), rfl, trivial, h5.conv (show ents R (stars [] :: R) from by exact ent_)⟩
abbrev trC (t : S_api_Tree) : List Value := [.int .i64 t.f_Kind, .int .i32 t.f_Value, .int .i64 t.f_Label, t.f_Kids]
-- FN confidant/tree.value
theorem tree_value (v : Value) (xs : List S_api_Tree) (T : List TN) (labels : Int) (hr : rightB T labels = true) : ∀ (m : Nat) (i : Int), 0 ≤ i → i < T.length → T.length ≤ m + i →
    Sp Try.prog 58 [v, .int .i64 i] [rsl e_api_Tree v xs, rel2 tnC xs T] (fun _ : Unit => True) (fun _ => .int .i32 (valT T m i)) (fun _ => [])
  | 0, i, h0, h1, h2 => by omega
  | m + 1, i, h0, h1, h2 => by
    have hn := rightB_node hr ⟨h0, h1⟩
    have hT := rightB_len hr
    have ih : ∀ k : Nat, k < (rd T i).kids.length → Sp Try.prog 58 [v, .int .i64 (rd (rd T i).kids k)] [rsl e_api_Tree v xs, rel2 tnC xs T] (fun _ : Unit => True) (fun _ => .int .i32 (valT T m (rd (rd T i).kids k))) (fun _ => []) := fun k hk => by
      unfold nodeB at hn
      simp only [Bool.and_eq_true] at hn
      have := kidsB_at hn.1 hk
      exact tree_value v xs T labels hr m _ (by omega) this.2.1 (by omega)
    have hkl : (rd T i).kids.length ≤ 64 := by
      unfold nodeB kindB at hn
      simp only [Bool.and_eq_true] at hn
      have := hn.2.2
      split at this
      · have := of_decide_eq_true this; omega
      · split at this
        · have := of_decide_eq_true this; omega
        · split at this
          · have := of_decide_eq_true this; omega
          · cases this
    have h4 : (rd T i).kind = 4 → (rd T i).kids.length = 2 := fun e => by
      unfold nodeB kindB at hn
      simp only [Bool.and_eq_true] at hn
      have := hn.2.2
      rw [if_neg (by omega), if_neg (by omega), if_pos e] at this
      have := of_decide_eq_true this; omega
    unfold valT
    refine Sp.intro (n := 53) Try.func58 rfl rfl fun w0 R => ?_
    dsimp only [List.cons_append, List.nil_append, envOf]
    first | (with_reducible refine Cd.g ?_; refine Cd.know (fun w_ hw_ => rel2_len (Tk.sat (A := (rel2 tnC xs T)) (by exact tk_) hw_)) fun hl => ?_) | (with_reducible refine Ol.g ?_; refine Ol.know (fun w_ hw_ => rel2_len (Tk.sat (A := (rel2 tnC xs T)) (by exact tk_) hw_)) fun hl => ?_) | (with_reducible refine Dn.g ?_; refine Dn.know (fun w_ hw_ => rel2_len (Tk.sat (A := (rel2 tnC xs T)) (by exact tk_) hw_)) fun hl => ?_)
    refine Cd.conv (Tk.more (p := rel2_pers (fun _ _ => inferInstance) _ _) (A := rel2 tnC xs T) (rel2_gotI (i := i) h0 h1) (by exact tk_)) ?_
    first | (with_reducible refine Cd.g ?_; refine Cd.pk (A := (tnC (rd xs i) (rd T i))) rfl (by exact tk_) fun q hq => ?_) | (with_reducible refine Ol.g ?_; refine Ol.pk (A := (tnC (rd xs i) (rd T i))) rfl (by exact tk_) fun q hq => ?_) | (with_reducible refine Dn.g ?_; refine Dn.pk (A := (tnC (rd xs i) (rd T i))) rfl (by exact tk_) fun q hq => ?_)
    dsimp only [List.cons_append, List.nil_append]
    obtain ⟨q1, q2, q3⟩ := hq
    generalize rd T i = N at q1 q2 q3 ih hkl h4 ⊢
    obtain ⟨kind, val, lab, ks⟩ := N
    dsimp only at q1 q2 q3 ih hkl h4 ⊢
    refine go ?_;repeat((with_reducible refine Ol.g ?_);(first|refine Ol.eff rfl rfl rfl (Eff.alloc fun _=>?_)|refine Ol.eff rfl rfl rfl (Eff.box fun _=>?_)|refine Ol.eff0 rfl rfl (Eff.store rfl rfl ?_)|refine Ol.eff rfl rfl rfl (Eff.bslice rfl rfl fun _=>?_)|(refine Ol.eff0 rfl rfl (Eff.storeE rfl ?_ ?_);exact pre_)|(refine Ol.eff rfl rfl rfl (Eff.append1 rfl ?_ fun _=>?_);exact pre_));refine go ?_)
    rename_i c
    rw [q1]
    refine Cd.condP rfl (fun g1 => ?_) (fun g1 => ?_)
    · refine go ?_
      refine Dn.ret1 rfl rfl fun w hs => ⟨(), by rw [if_pos g1, q2], trivial, hs.conv (by exact ent_)⟩
    rw [if_neg g1]
    refine go ?_
    refine Cd.condP rfl (fun g2 => ?_) (fun g2 => ?_)
    · have hk2 := h4 g2
      rw [if_pos g2]
      refine go ?_
      refine Cd.drawL (l := [_, _, _, _, _, _, _, _, _, _, _, _, _]) (z := _) [[], [], [1], [1, 2], [1, 2, 3], [0, 1, 2, 3, 4], [], [], [7], [7, 8], [7, 8, 9], [0, 1, 2, 3, 4, 5, 6, 7, 8, 9, 10], [0, 1, 2, 3, 4, 5, 6, 7, 8, 9, 10, 11]] [5, 11, 12] [] (td := [(0, .fresh), (1, .fresh), (2, .fresh), (3, .fresh), (4, .fresh), (6, .fresh), (7, .fresh), (8, .fresh), (9, .fresh), (10, .fresh)]) rfl mixed (by kernel_rfl) (by kernel_rfl) (by kernel_rfl) (by decide) (by decide) rfl (by kernel_rfl) ?_
      refine god2 ?_
      refine Sg2.one (td := [(6, .old), (7, .old), (8, .old), (9, .old), (10, .old)]) rfl (by kernel_rfl) fun F5_ => ?_
      dsimp only [List.cons_append, List.nil_append]
      refine SpOp.eff rfl rfl rfl rfl rfl (Eff.call (R := ?_) (ih 0 (by omega)) rfl ?_ ?_)
      rotate_left
      · exact tkl_
      rintro _ -
      dsimp only [List.cons_append, List.nil_append]
      refine Sn.ok ?_
      refine god2 ?_
      refine Sg2.one (td := []) rfl (by kernel_rfl) fun F11_ => ?_
      dsimp only [List.cons_append, List.nil_append]
      refine SpOp.eff rfl rfl rfl rfl rfl (Eff.call (R := ?_) (ih 1 (by omega)) rfl ?_ ?_)
      rotate_left
      · exact tkl_
      rintro _ -
      dsimp only [List.cons_append, List.nil_append]
      refine Sn.ok ?_
      refine god2 ?_
      refine Sg2.one (td := []) rfl (by kernel_rfl) fun F12_ => ?_
      dsimp only [List.cons_append, List.nil_append]
      refine SpOp.eff rfl rfl rfl rfl rfl (Eff.call (R := ?_) (word_Sub (valT T m (rd ks 0)) (valT T m (rd ks 1))) rfl ?_ ?_)
      rotate_left
      · exact tkl_
      rintro _ -
      dsimp only [List.cons_append, List.nil_append]
      refine Sn.ok ?_
      refine god2 ?_
      refine go ?_
      refine Dn.ret1 rfl rfl fun w hs => ⟨(), rfl, trivial, hs.conv (by exact ent_)⟩
    rw [if_neg g2]
    refine go ?_
    refine Cd.cutN (α := { fv : Value // FnV (P := Try.prog) fv (stars []) (fun p : Int × Int => [.int .i32 p.1, .int .i32 p.2]) (fun _ => True) (fun p => .int .i32 (opV kind p.1 p.2)) }) (fun z => [(0, v), (5, .pointer (some ⟨c, 0, none⟩)), (6, .int .i32 (one3 kind)), (7, z.1)])
      (fun z => cel c 56 [.int .i64 kind, .int .i32 (rd xs i).f_Value, .int .i64 (rd xs i).f_Label, (rd xs i).f_Kids] :: rsl (eInt .i64) (rd xs i).f_Kids ks :: rsl e_api_Tree v xs :: rel2 tnC xs T :: R) (fun K kk _ => ?_) ?_
    · refine Cd.condP rfl (fun g3 => ?_) (fun g3 => ?_)
      · refine go ?_
        refine Dn.weak ?_ (by exact ent_) (kk ⟨.func (.func 101) #[] #[], pair_fn (F := opV kind) fun a b => by unfold opV; rw [if_pos g3]; exact word_Mul a b⟩)
        rw [show one3 kind = 1 from if_pos g3]
        repeat(first|exact Env.le_nil _|(refine Env.le_cons rfl ?_ ?_;first|rfl|(simp;done)|exact congrArg _ (by omega)|rotate_left))
      · refine go ?_
        refine Dn.weak ?_ (by exact ent_) (kk ⟨.func (.func 100) #[] #[], pair_fn (F := opV kind) fun a b => by unfold opV; rw [if_neg g3]; exact word_Add a b⟩)
        rw [show one3 kind = 0 from if_neg g3]
        repeat(first|exact Env.le_nil _|(refine Env.le_cons rfl ?_ ?_;first|rfl|(simp;done)|exact congrArg _ (by omega)|rotate_left))
    rintro ⟨fv, hF⟩
    refine go ?_
    refine Cd.loop (fun k : Nat => k ≤ ks.length) (fun k => ks.length - k) (fun k => [(0, v), (5, .pointer (some ⟨c, 0, none⟩)), (6, .int .i32 ((ks.take k).foldl (fun v k => opV kind v (valT T m k)) (one3 kind))), (7, fv), (39, (rd xs i).f_Kids), (40, .int .i64 ks.length), (41, .int .i64 k)])
      (fun k => rsl (eInt .i64) (rd xs i).f_Kids ks :: rsl e_api_Tree v xs :: rel2 tnC xs T :: R) 0 (by omega) ?_ ?_ ?_
    · rw [List.take_zero, List.foldl_nil]
      repeat(first|exact Env.le_nil _|(refine Env.le_cons rfl ?_ ?_;first|rfl|(simp;done)|exact congrArg _ (by omega)|rotate_left))
    · exact ent_
    intro k hk
    refine go ?_
    refine Cd.condP rfl (fun h => ?_) (fun h => ?_)
    · have hk2 : k < ks.length := by omega
      refine go ?_
      with_reducible refine Ol.g ?_
      refine Ol.eff rfl rfl rfl (Eff.call (R := ?_) (ih k hk2) rfl ?_ ?_)
      rotate_left
      · exact tkl_
      rintro _ -
      dsimp only [List.cons_append, List.nil_append]
      with_reducible refine Ol.g ?_
      refine Ol.eff rfl rfl rfl (Eff.callV (R := ?_) hF ((ks.take k).foldl (fun v k => opV kind v (valT T m k)) (one3 kind), valT T m (rd ks k)) trivial rfl ?_ ?_)
      rotate_left
      · exact tkl_
      dsimp only
      refine go ?_
      refine Dn.round (k + 1) (by omega) (by omega) ?_ (by exact ent_)
      rw [take_rd hk2, List.foldl_append]
      repeat(first|exact Env.le_nil _|(refine Env.le_cons rfl ?_ ?_;first|rfl|(simp;done)|exact congrArg _ (by omega)|rotate_left))
    · have hkk : k = ks.length := by omega
      rw [hkk, List.take_length]
      refine go ?_
      refine Dn.ret1 rfl rfl fun w hs => ⟨(), rfl, trivial, hs.conv (by exact ent_)⟩
end Go.Proofs.Ytcgjmlapmdbnmaa

