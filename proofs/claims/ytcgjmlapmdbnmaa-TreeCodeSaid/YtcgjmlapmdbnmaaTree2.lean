/- Contracts of functions of the program, proved in a small separation logic. Conditions: those that each theorem states. -/
import Derived.Test.YtcgjmlapmdbnmaaTree1
namespace Go.Proofs.Ytcgjmlapmdbnmaa
open Go Go.Sl
set_option maxHeartbeats 4000000
set_option maxRecDepth 100000
set_option linter.unusedVariables false
def ownK (T : List TN) (k : Nat) : List Int := (T.take k).foldl (fun l n => bump l n.kids) (List.replicate T.length 0)
theorem ownK_succ (T : List TN) {k : Nat} (h : k < T.length) : ownK T (k + 1) = bump (ownK T k) (rd T k).kids := by
  unfold ownK; rw [take_rd h, List.foldl_append]; rfl
theorem ownK_len (T : List TN) : ∀ k, k ≤ T.length → (ownK T k).length = T.length
  | 0, _ => by simp [ownK]
  | k + 1, h => by rw [ownK_succ T (by omega), bump_len]; exact ownK_len T k (by omega)
def rightB (T : List TN) (labels : Int) : Bool := decide (1 ≤ T.length ∧ T.length ≤ 64) && ((ints T.length).all (fun i => nodeB T i labels) && ((ownK T T.length).drop 1).all (fun n => decide (n = 1)))
theorem rightB_len {T : List TN} {labels : Int} (h : rightB T labels = true) : 1 ≤ T.length ∧ T.length ≤ 64 := by
  unfold rightB at h; simp only [Bool.and_eq_true] at h; exact of_decide_eq_true h.1
theorem rightB_node {T : List TN} {labels : Int} (h : rightB T labels = true) {i : Int} (h0 : 0 ≤ i ∧ i < T.length) : nodeB T i labels = true := by
  unfold rightB at h; simp only [Bool.and_eq_true] at h; exact List.all_eq_true.1 h.2.1 i (ints_mem.2 h0)
-- FN confidant/tree.Right
theorem tree_Right (v : Value) (xs : List S_api_Tree) (T : List TN) (labels : Int) :
    Sp Try.prog 27 [v, .int .i64 labels] [rsl e_api_Tree v xs, rel2 tnC xs T] (fun _ : Unit => True) (fun _ => .bool (rightB T labels)) (fun _ => []) := by
  refine Sp.intro (n := 42) Try.func27 rfl rfl fun w0 R => ?_
  dsimp only [List.cons_append, List.nil_append, envOf]
  first | (with_reducible refine Cd.g ?_; refine Cd.know (fun w_ hw_ => rel2_len (Tk.sat (A := (rel2 tnC xs T)) (by exact tk_) hw_)) fun hl => ?_) | (with_reducible refine Ol.g ?_; refine Ol.know (fun w_ hw_ => rel2_len (Tk.sat (A := (rel2 tnC xs T)) (by exact tk_) hw_)) fun hl => ?_) | (with_reducible refine Dn.g ?_; refine Dn.know (fun w_ hw_ => rel2_len (Tk.sat (A := (rel2 tnC xs T)) (by exact tk_) hw_)) fun hl => ?_)
  refine go ?_
  refine Ol.cutN (α := Unit) (fun _ => [(16, .bool (!decide (1 ≤ T.length ∧ T.length ≤ 64))), (0, v), (1, .int .i64 labels)]) (fun _ => rsl e_api_Tree v xs :: rel2 tnC xs T :: R) (fun K kk => ?_) ?_
  · by_cases g1 : (xs.length : Int) < 1
    · rw [decide_eq_true g1]
      rw [show decide (1 ≤ T.length ∧ T.length ≤ 64) = false from decide_eq_false (by omega)] at kk
      refine go ?_
      exact Dn.weak (by repeat(first|exact Env.le_nil _|(refine Env.le_cons rfl ?_ ?_;first|rfl|(simp;done)|exact congrArg _ (by omega)|rotate_left))) (by exact ent_) (kk ())
    · rw [decide_eq_false g1]
      refine go ?_
      refine Dn.weak ?_ (by exact ent_) (kk ())
      rw [show (!decide (1 ≤ T.length ∧ T.length ≤ 64)) = decide ((xs.length : Int) > 64) from by
        by_cases g4 : (xs.length : Int) > 64
        · rw [decide_eq_true g4, decide_eq_false (by omega)]; rfl
        · rw [decide_eq_false g4, decide_eq_true (by omega)]; rfl]
      repeat(first|exact Env.le_nil _|(refine Env.le_cons rfl ?_ ?_;first|rfl|(simp;done)|exact congrArg _ (by omega)|rotate_left))
  rintro -
  unfold rightB
  cases hle : decide (1 ≤ T.length ∧ T.length ≤ 64) with
  | false =>
    refine go ?_
    refine Dn.ret1 rfl rfl fun w hs => ⟨(), rfl, trivial, hs.conv (by exact ent_)⟩
  | true =>
    have hle2 := of_decide_eq_true hle
    rw [Bool.true_and]
    refine go ?_
    refine Ol.eff rfl rfl rfl (Eff.mkS (x := (0 : Int)) rfl ⟨by omega, by omega, by omega⟩ fun ov => ?_)
    refine go ?_;repeat((with_reducible refine Ol.g ?_);(first|refine Ol.eff rfl rfl rfl (Eff.alloc fun _=>?_)|refine Ol.eff rfl rfl rfl (Eff.box fun _=>?_)|refine Ol.eff0 rfl rfl (Eff.store rfl rfl ?_)|refine Ol.eff rfl rfl rfl (Eff.bslice rfl rfl fun _=>?_)|(refine Ol.eff0 rfl rfl (Eff.storeE rfl ?_ ?_);exact pre_)|(refine Ol.eff rfl rfl rfl (Eff.append1 rfl ?_ fun _=>?_);exact pre_));refine go ?_)
    rename_i b
    rw [show ((xs.length : Int)).toNat = T.length from by rw [Int.toNat_natCast, hl]]
    refine Cd.loop (fun z : Nat × List Int => z.1 ≤ T.length ∧ z.2 = ownK T z.1 ∧ (∀ y, y ∈ z.2 → 0 ≤ y ∧ y ≤ 64 * z.1) ∧ ∀ i : Int, 0 ≤ i → i < z.1 → nodeB T i labels = true) (fun z => T.length - z.1) (fun z => [(0, v), (1, .int .i64 labels), (5, .pointer (some ⟨b, 0, none⟩)), (21, .int .i64 xs.length), (22, .int .i64 z.1)])
      (fun z => rsl e_api_Tree v xs :: rel2 tnC xs T :: cel b 54 [ov] :: sl (eInt .i64) ov z.2 :: R) (0, ownK T 0) ⟨by simp, rfl, fun y hy => by unfold ownK at hy; simp at hy; omega, fun i h0 h1 => by omega⟩ ?_ ?_ ?_
    · repeat(first|exact Env.le_nil _|(refine Env.le_cons rfl ?_ ?_;first|rfl|(simp;done)|exact congrArg _ (by omega)|rotate_left))
    · rw [show ownK T 0 = List.replicate T.length 0 from rfl]
      exact ent_
    rintro ⟨k, o⟩ ⟨h1, h2, h3, h4⟩
    dsimp only at h1 h2 h3 h4 ⊢
    have ho : o.length = T.length := by rw [h2]; exact ownK_len T k h1
    refine go ?_
    refine Cd.condP rfl (fun h => ?_) (fun h => ?_)
    · have hk : k < T.length := by omega
      refine go ?_
      with_reducible refine Ol.g ?_
      refine Ol.eff rfl rfl rfl (Eff.call (R := ?_) (tree_node v xs T k labels b ov o (64 * k) ⟨by omega, by omega⟩ hle2.2 ho h3 (by omega)) rfl ?_ ?_)
      rotate_left
      · exact tkl_
      rintro o' ⟨p1, p2, p3⟩
      dsimp only [List.cons_append, List.nil_append]
      cases hn : nodeB T k labels with
      | false =>
        refine go ?_
        refine Dn.ret1 rfl rfl fun w hs => ⟨(), ?_, trivial, hs.conv (by exact ent_)⟩
        rw [show (ints T.length).all (fun i => nodeB T i labels) = false from List.all_eq_false.2 ⟨k, ints_mem.2 (by omega), by rw [hn]; simp⟩]
        rfl
      | true =>
        refine go ?_
        refine Dn.round (k + 1, o') ⟨by dsimp only; omega, ?_, fun y hy => by have := p2 y hy; dsimp only; omega, fun i hi0 hi1 => ?_⟩ (by dsimp only; omega) (by repeat(first|exact Env.le_nil _|(refine Env.le_cons rfl ?_ ?_;first|rfl|(simp;done)|exact congrArg _ (by omega)|rotate_left))) (by exact ent_)
        · dsimp only; rw [ownK_succ T hk, ← h2]; exact p3 hn
        · dsimp only at hi1
          by_cases e : i = k
          · rw [e]; exact hn
          · exact h4 i hi0 (by omega)
    · have hkk : k = T.length := by omega
      subst hkk
      rw [show (ints T.length).all (fun i => nodeB T i labels) = true from List.all_eq_true.2 fun i hi => h4 i (ints_mem.1 hi).1 (ints_mem.1 hi).2, Bool.true_and, ← h2]
      refine go ?_
      rw [show Int.toNat 1 = 1 from rfl]
      refine Ol.slc (r := false) (E := eInt .i64) (v := ov) (xs := o) 1 (by exact tk_) (by omega) ?_
      rw [show (eInt IntKind.i64).size = 1 from rfl]
      have hdl : (o.drop 1).length = o.length - 1 := List.length_drop
      refine go ?_
      refine Cd.loop (fun k : Nat => k ≤ (o.drop 1).length ∧ ((o.drop 1).take k).all (fun n => decide (n = 1)) = true) (fun k => (o.drop 1).length - k) (fun k => [(33, slcV ov 1 1), (34, .int .i64 (o.drop 1).length), (35, .int .i64 k)])
        (fun k => sl (eInt .i64) (slcV ov 1 1) (o.drop 1) :: R) 0 ⟨by simp, by simp⟩ ?_ ?_ ?_
      · repeat(first|exact Env.le_nil _|(refine Env.le_cons rfl ?_ ?_;first|rfl|(simp;done)|exact congrArg _ (by omega)|rotate_left))
      · exact ent_
      rintro k ⟨hk, hf⟩
      refine go ?_
      refine Cd.condP rfl (fun h => ?_) (fun h => ?_)
      · have hk2 : k < (o.drop 1).length := by omega
        refine go ?_
        refine Cd.condP rfl (fun h2 => ?_) (fun h2 => ?_)
        · refine go ?_
          refine Dn.ret1 rfl rfl fun w hs => ⟨(), ?_, trivial, hs.conv (by exact ent_)⟩
          rw [show (o.drop 1).all (fun n => decide (n = 1)) = false from List.all_eq_false.2 ⟨_, rd_mem (xs := o.drop 1) (i := k) (by omega) (by omega), by simpa using h2⟩]
        · refine go ?_
          refine Dn.round (k + 1) ⟨by omega, ?_⟩ (by omega) (by repeat(first|exact Env.le_nil _|(refine Env.le_cons rfl ?_ ?_;first|rfl|(simp;done)|exact congrArg _ (by omega)|rotate_left))) (by exact ent_)
          rw [take_rd hk2, List.all_append, hf]
          simp only [List.all_cons, List.all_nil, Bool.and_true, Bool.true_and, decide_eq_true_eq]
          exact Decidable.not_not.1 h2
      · have hkk : k = (o.drop 1).length := by omega
        rw [hkk, List.take_length] at hf
        refine go ?_
        refine Dn.ret1 rfl rfl fun w hs => ⟨(), by rw [hf], trivial, hs.conv (by exact ent_)⟩
end Go.Proofs.Ytcgjmlapmdbnmaa

