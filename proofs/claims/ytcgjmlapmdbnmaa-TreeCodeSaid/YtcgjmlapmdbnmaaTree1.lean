/- Contracts of functions of the program, proved in a small separation logic. Conditions: those that each theorem states. -/
import Derived.Test.YtcgjmlapmdbnmaaLattice4
namespace Go.Proofs.Ytcgjmlapmdbnmaa
open Go Go.Sl
set_option maxHeartbeats 4000000
set_option maxRecDepth 100000
set_option linter.unusedVariables false
/-! trees: plain data -/
structure TN where
  kind : Int
  value : Int
  label : Int
  kids : List Int
  deriving DecidableEq
instance : Dfl TN := ⟨⟨0, 0, 0, []⟩⟩
def tnC (t : S_api_Tree) (n : TN) : HProp := pk (fun _ : Unit => t.f_Kind = n.kind ∧ t.f_Value = n.value ∧ t.f_Label = n.label) (fun _ => [rsl (eInt .i64) t.f_Kids n.kids])
instance (t : S_api_Tree) (n : TN) : Pers (tnC t n) := Pers.ex fun _ => inferInstance
instance (l : List S_api_Tree) (q : List TN) : Pers (rel2 tnC l q) := rel2_pers (fun _ _ => inferInstance) l q
def kidOk (n i : Int) (ks : List Int) (k : Nat) : Bool := decide (i < rd ks k ∧ rd ks k < n ∧ (k = 0 ∨ rd ks ((k : Int) - 1) < rd ks k))
def kidsB (n i : Int) (ks : List Int) : Bool := (List.range ks.length).all (kidOk n i ks)
def kindB (kind n : Int) : Bool := if kind = 1 then decide (n = 0) else if kind = 2 ∨ kind = 3 then decide (n ≤ 8) else if kind = 4 then decide (n = 2) else false
def nodeB (T : List TN) (i labels : Int) : Bool := kidsB T.length i (rd T i).kids && (decide (0 ≤ (rd T i).label ∧ (rd T i).label < labels) && kindB (rd T i).kind (rd T i).kids.length)
def bump1 (l : List Int) (x : Int) : List Int := l.set x.toNat (rd l x + 1)
def bump (l ks : List Int) : List Int := ks.foldl bump1 l
theorem bump_take {l ks : List Int} {k : Nat} (h : k < ks.length) : bump l (ks.take (k + 1)) = bump1 (bump l (ks.take k)) (rd ks k) := by
  unfold bump; rw [take_rd h, List.foldl_append]; rfl
theorem bump_len (l : List Int) : ∀ ks : List Int, (bump l ks).length = l.length := by
  intro ks
  induction ks generalizing l with
  | nil => rfl
  | cons a ks ih => exact (ih (bump1 l a)).trans (by simp [bump1])
theorem mem_set {α : Type} {l : List α} {i : Nat} {x y : α} (h : y ∈ l.set i x) : y = x ∨ y ∈ l := (List.mem_or_eq_of_mem_set h).symm
theorem kidsB_false {n i : Int} {ks : List Int} {k : Nat} (h : k < ks.length) (hk : kidOk n i ks k = false) : kidsB n i ks = false := by
  unfold kidsB
  rw [List.all_eq_false]
  exact ⟨k, List.mem_range.2 h, by rw [hk]; simp⟩
theorem kidsB_true {n i : Int} {ks : List Int} (h : ∀ k, k < ks.length → kidOk n i ks k = true) : kidsB n i ks = true := by
  unfold kidsB
  rw [List.all_eq_true]
  exact fun k hk => h k (List.mem_range.1 hk)
theorem kidsB_at {n i : Int} {ks : List Int} (h : kidsB n i ks = true) {k : Nat} (hk : k < ks.length) : i < rd ks k ∧ rd ks k < n ∧ (k = 0 ∨ rd ks ((k : Int) - 1) < rd ks k) := by
  unfold kidsB at h
  rw [List.all_eq_true] at h
  exact of_decide_eq_true (h k (List.mem_range.2 hk))
-- FN confidant/tree.Right$1
theorem tree_bump (b : Nat) (ov : Value) (o : List Int) (x : Int) (hx : 0 ≤ x ∧ x < o.length) (hb : 0 ≤ rd o x ∧ rd o x ≤ 2000000) :
    Sp Try.prog 66 [.int .i64 x, .pointer (some ⟨b, 0, none⟩)] [cel b 54 [ov], sl (eInt .i64) ov o] (fun _ : Unit => True) (fun _ => .tuple #[]) (fun _ => [cel b 54 [ov], sl (eInt .i64) ov (bump1 o x)]) := by
  refine Sp.intro (n := 9) Try.func66 rfl rfl fun w0 R => ?_
  dsimp only [List.cons_append, List.nil_append, envOf]
  refine go ?_;repeat((with_reducible refine Ol.g ?_);(first|refine Ol.eff rfl rfl rfl (Eff.alloc fun _=>?_)|refine Ol.eff rfl rfl rfl (Eff.box fun _=>?_)|refine Ol.eff0 rfl rfl (Eff.store rfl rfl ?_)|refine Ol.eff rfl rfl rfl (Eff.bslice rfl rfl fun _=>?_)|(refine Ol.eff0 rfl rfl (Eff.storeE rfl ?_ ?_);exact pre_)|(refine Ol.eff rfl rfl rfl (Eff.append1 rfl ?_ fun _=>?_);exact pre_));refine go ?_)
  refine Dn.fin0 rfl fun w hs => ⟨(), rfl, trivial, hs.conv (by unfold bump1; exact ent_)⟩
-- FN confidant/tree.node
theorem tree_node (v : Value) (xs : List S_api_Tree) (T : List TN) (i labels : Int) (b : Nat) (ov : Value) (o : List Int) (M : Int) (hi : 0 ≤ i ∧ i < T.length) (hT : T.length ≤ 64) (ho : o.length = T.length) (hM : ∀ y, y ∈ o → 0 ≤ y ∧ y ≤ M) (hM2 : 0 ≤ M ∧ M ≤ 1000000) :
    Sp Try.prog 65 [v, .int .i64 i, .int .i64 labels, .func (.func 66) #[] #[.pointer (some ⟨b, 0, none⟩)]] [rsl e_api_Tree v xs, rel2 tnC xs T, cel b 54 [ov], sl (eInt .i64) ov o]
      (fun o' : List Int => o'.length = T.length ∧ (∀ y, y ∈ o' → 0 ≤ y ∧ y ≤ M + 64) ∧ (nodeB T i labels = true → o' = bump o (rd T i).kids)) (fun _ => .bool (nodeB T i labels)) (fun o' => [cel b 54 [ov], sl (eInt .i64) ov o']) := by
  refine Sp.intro (n := 92) Try.func65 rfl rfl fun w0 R => ?_
  dsimp only [List.cons_append, List.nil_append, envOf]
  first | (with_reducible refine Cd.g ?_; refine Cd.know (fun w_ hw_ => rel2_len (Tk.sat (A := (rel2 tnC xs T)) (by exact tk_) hw_)) fun hl => ?_) | (with_reducible refine Ol.g ?_; refine Ol.know (fun w_ hw_ => rel2_len (Tk.sat (A := (rel2 tnC xs T)) (by exact tk_) hw_)) fun hl => ?_) | (with_reducible refine Dn.g ?_; refine Dn.know (fun w_ hw_ => rel2_len (Tk.sat (A := (rel2 tnC xs T)) (by exact tk_) hw_)) fun hl => ?_)
  refine Cd.conv (Tk.more (p := rel2_pers (fun _ _ => inferInstance) _ _) (A := rel2 tnC xs T) (rel2_gotI (i := i) hi.1 hi.2) (by exact tk_)) ?_
  first | (with_reducible refine Cd.g ?_; refine Cd.pk (A := (tnC (rd xs i) (rd T i))) rfl (by exact tk_) fun q hq => ?_) | (with_reducible refine Ol.g ?_; refine Ol.pk (A := (tnC (rd xs i) (rd T i))) rfl (by exact tk_) fun q hq => ?_) | (with_reducible refine Dn.g ?_; refine Dn.pk (A := (tnC (rd xs i) (rd T i))) rfl (by exact tk_) fun q hq => ?_)
  dsimp only [List.cons_append, List.nil_append]
  obtain ⟨q1, q2, q3⟩ := hq
  unfold nodeB
  generalize rd T i = N at q1 q2 q3 ⊢
  obtain ⟨kind, val, lab, ks⟩ := N
  dsimp only at q1 q2 q3 ⊢
  refine go ?_;repeat((with_reducible refine Ol.g ?_);(first|refine Ol.eff rfl rfl rfl (Eff.alloc fun _=>?_)|refine Ol.eff rfl rfl rfl (Eff.box fun _=>?_)|refine Ol.eff0 rfl rfl (Eff.store rfl rfl ?_)|refine Ol.eff rfl rfl rfl (Eff.bslice rfl rfl fun _=>?_)|(refine Ol.eff0 rfl rfl (Eff.storeE rfl ?_ ?_);exact pre_)|(refine Ol.eff rfl rfl rfl (Eff.append1 rfl ?_ fun _=>?_);exact pre_));refine go ?_)
  refine Cd.loop (fun z : Nat × List Int => z.1 ≤ ks.length ∧ z.1 ≤ 64 ∧ (z.1 = 0 ∨ i + z.1 ≤ rd ks ((z.1 : Int) - 1)) ∧ z.2 = bump o (ks.take z.1) ∧ (∀ y, y ∈ z.2 → 0 ≤ y ∧ y ≤ M + z.1) ∧ ∀ j, j < z.1 → kidOk T.length i ks j = true) (fun z => ks.length - z.1) (fun z => [(0, v), (1, .int .i64 i), (2, .int .i64 labels), (3, .func (.func 66) #[] #[.pointer (some ⟨b, 0, none⟩)]), (9, .int .i64 ks.length), (22, (rd xs i).f_Kids), (23, .int .i64 ks.length), (24, .int .i64 z.1)])
    (fun z => rsl (eInt .i64) (rd xs i).f_Kids ks :: rsl e_api_Tree v xs :: rel2 tnC xs T :: cel b 54 [ov] :: sl (eInt .i64) ov z.2 :: R) (0, o) ⟨by simp, by simp, .inl rfl, rfl, fun y hy => ⟨(hM y hy).1, by have := (hM y hy).2; dsimp only; omega⟩, fun j hj => by simp at hj⟩ ?_ ?_ ?_
  · repeat(first|exact Env.le_nil _|(refine Env.le_cons rfl ?_ ?_;first|rfl|(simp;done)|exact congrArg _ (by omega)|rotate_left))
  · exact ent_
  rintro ⟨k, o'⟩ ⟨h1, h2, h3, h4, h5, h6⟩
  dsimp only at h1 h2 h3 h4 h5 h6 ⊢
  have ho' : o'.length = T.length := by rw [h4, bump_len, ho]
  refine go ?_
  refine Cd.condP rfl (fun h => ?_) (fun h => ?_)
  · have hk : k < ks.length := by omega
    refine go ?_
    have fail : kidOk T.length i ks k = false → (kidsB T.length i ks && (decide (0 ≤ lab ∧ lab < labels) && kindB kind ks.length)) = false := fun e => by rw [kidsB_false hk e]; rfl
    have lenU : ∀ y, y ∈ o' → 0 ≤ y ∧ y ≤ M + 64 := fun y hy => ⟨(h5 y hy).1, by have := (h5 y hy).2; omega⟩
    refine Ol.cutN (α := Unit) (fun _ => [(54, .bool (!kidOk T.length i ks k)), (0, v), (1, .int .i64 i), (2, .int .i64 labels), (3, .func (.func 66) #[] #[.pointer (some ⟨b, 0, none⟩)]), (9, .int .i64 ks.length), (11, .int .i64 (rd ks k)), (22, (rd xs i).f_Kids), (23, .int .i64 ks.length), (24, .int .i64 k)])
      (fun _ => rsl (eInt .i64) (rd xs i).f_Kids ks :: rsl e_api_Tree v xs :: rel2 tnC xs T :: cel b 54 [ov] :: sl (eInt .i64) ov o' :: R) (fun K kk => ?_) ?_
    · by_cases g1 : rd ks k ≤ i
      · rw [decide_eq_true g1]
        rw [show kidOk T.length i ks k = false from decide_eq_false (by omega)] at kk
        refine go ?_
        exact Dn.weak (by repeat(first|exact Env.le_nil _|(refine Env.le_cons rfl ?_ ?_;first|rfl|(simp;done)|exact congrArg _ (by omega)|rotate_left))) (by exact ent_) (kk ())
      rw [decide_eq_false g1]
      refine go ?_
      by_cases g2 : rd ks k ≥ (xs.length : Int)
      · rw [decide_eq_true g2]
        rw [show kidOk T.length i ks k = false from decide_eq_false (by omega)] at kk
        refine go ?_
        exact Dn.weak (by repeat(first|exact Env.le_nil _|(refine Env.le_cons rfl ?_ ?_;first|rfl|(simp;done)|exact congrArg _ (by omega)|rotate_left))) (by exact ent_) (kk ())
      rw [decide_eq_false g2]
      refine go ?_
      by_cases g3 : (0 : Int) < k
      · rw [decide_eq_true (show (k : Int) > 0 from g3)]
        refine go ?_
        refine Dn.weak ?_ (by exact ent_) (kk ())
        rw [show (!kidOk T.length i ks k) = decide (rd ks k ≤ rd ks ((k : Int) - 1)) from by
          unfold kidOk
          by_cases g4 : rd ks k ≤ rd ks ((k : Int) - 1)
          · rw [decide_eq_true g4, decide_eq_false (by omega)]; rfl
          · rw [decide_eq_false g4, decide_eq_true (by omega)]; rfl]
        repeat(first|exact Env.le_nil _|(refine Env.le_cons rfl ?_ ?_;first|rfl|(simp;done)|exact congrArg _ (by omega)|rotate_left))
      · rw [decide_eq_false (show ¬ (k : Int) > 0 from g3)]
        rw [show kidOk T.length i ks k = true from decide_eq_true (by omega)] at kk
        refine go ?_
        exact Dn.weak (by repeat(first|exact Env.le_nil _|(refine Env.le_cons rfl ?_ ?_;first|rfl|(simp;done)|exact congrArg _ (by omega)|rotate_left))) (by exact ent_) (kk ())
    rintro -
    cases hok : kidOk T.length i ks k with
    | false =>
      rw [fail hok]
      refine go ?_
      refine Dn.ret1 rfl rfl fun w hs => ⟨o', rfl, ⟨ho', lenU, fun h => by cases h⟩, hs.conv (by exact ent_)⟩
    | true =>
      have hok2 := of_decide_eq_true hok
      have hb : 0 ≤ rd o' (rd ks k) ∧ rd o' (rd ks k) ≤ M + k := h5 _ (rd_mem (by omega) (by omega))
      refine go ?_
      with_reducible refine Ol.g ?_
      refine Ol.eff rfl rfl rfl (Eff.call (R := ?_) (tree_bump b ov o' (rd ks k) (by omega) (by omega)) rfl ?_ ?_)
      rotate_left
      · exact tkl_
      rintro _ -
      dsimp only [List.cons_append, List.nil_append]
      refine go ?_
      refine Dn.round (k + 1, bump1 o' (rd ks k)) ⟨by dsimp only; omega, by dsimp only; omega, .inr ?_, ?_, ?_, ?_⟩ (by dsimp only; omega) (by repeat(first|exact Env.le_nil _|(refine Env.le_cons rfl ?_ ?_;first|rfl|(simp;done)|exact congrArg _ (by omega)|rotate_left))) (by exact ent_)
      · dsimp only
        rw [show ((k + 1 : Nat) : Int) - 1 = k by omega]
        omega
      · dsimp only
        rw [bump_take hk, h4]
      · intro y hy
        dsimp only at hy ⊢
        rcases mem_set hy with rfl | hy
        · omega
        · have := h5 y hy; omega
      · intro j hj
        dsimp only at hj
        rcases Nat.lt_or_eq_of_le (Nat.le_of_lt_succ hj) with hj | rfl
        · exact h6 j hj
        · exact hok
  · have hkk : k = ks.length := by omega
    subst hkk
    rw [List.take_length] at h4
    have hkb : kidsB T.length i ks = true := kidsB_true h6
    have lenU : ∀ y, y ∈ o' → 0 ≤ y ∧ y ≤ M + 64 := fun y hy => ⟨(h5 y hy).1, by have := (h5 y hy).2; omega⟩
    rw [hkb, Bool.true_and]
    have fin : ∀ (bb : Bool), o'.length = T.length ∧ (∀ y, y ∈ o' → 0 ≤ y ∧ y ≤ M + 64) ∧ (bb = true → o' = bump o ks) := fun bb => ⟨ho', lenU, fun _ => h4⟩
    refine go ?_
    rw [q3]
    refine Ol.cutN (α := Unit) (fun _ => [(73, .bool (!decide (0 ≤ lab ∧ lab < labels))), (0, v), (1, .int .i64 i), (9, .int .i64 ks.length)])
      (fun _ => rsl (eInt .i64) (rd xs i).f_Kids ks :: rsl e_api_Tree v xs :: rel2 tnC xs T :: cel b 54 [ov] :: sl (eInt .i64) ov o' :: R) (fun K kk => ?_) ?_
    · by_cases g1 : lab < 0
      · rw [decide_eq_true g1]
        rw [show decide (0 ≤ lab ∧ lab < labels) = false from decide_eq_false (by omega)] at kk
        refine go ?_
        exact Dn.weak (by repeat(first|exact Env.le_nil _|(refine Env.le_cons rfl ?_ ?_;first|rfl|(simp;done)|exact congrArg _ (by omega)|rotate_left))) (by exact ent_) (kk ())
      · rw [decide_eq_false g1]
        refine go ?_
        rw [q3]
        refine Dn.weak ?_ (by exact ent_) (kk ())
        rw [show (!decide (0 ≤ lab ∧ lab < labels)) = decide (lab ≥ labels) from by
          by_cases g4 : lab ≥ labels
          · rw [decide_eq_true g4, decide_eq_false (by omega)]; rfl
          · rw [decide_eq_false g4, decide_eq_true (by omega)]; rfl]
        repeat(first|exact Env.le_nil _|(refine Env.le_cons rfl ?_ ?_;first|rfl|(simp;done)|exact congrArg _ (by omega)|rotate_left))
    rintro -
    cases hlab : decide (0 ≤ lab ∧ lab < labels) with
    | false =>
      refine go ?_
      refine Dn.ret1 rfl rfl fun w hs => ⟨o', rfl, fin _, hs.conv (by exact ent_)⟩
    | true =>
      rw [Bool.true_and]
      refine go ?_
      rw [q1]
      refine Cd.condP rfl (fun g1 => ?_) (fun g1 => ?_)
      · refine go ?_
        refine Dn.ret1 rfl rfl fun w hs => ⟨o', by unfold kindB; rw [if_pos g1], fin _, hs.conv (by exact ent_)⟩
      refine go ?_
      by_cases g2 : kind = 2
      · rw [decide_eq_true g2]
        refine go ?_
        refine Dn.ret1 rfl rfl fun w hs => ⟨o', by unfold kindB; rw [if_neg g1, if_pos (.inl g2)], fin _, hs.conv (by exact ent_)⟩
      rw [decide_eq_false g2]
      refine go ?_
      by_cases g3 : kind = 3
      · rw [decide_eq_true g3]
        refine go ?_
        refine Dn.ret1 rfl rfl fun w hs => ⟨o', by unfold kindB; rw [if_neg g1, if_pos (.inr g3)], fin _, hs.conv (by exact ent_)⟩
      rw [decide_eq_false g3]
      refine go ?_
      by_cases g4 : kind = 4
      · rw [decide_eq_true g4]
        refine go ?_
        refine Dn.ret1 rfl rfl fun w hs => ⟨o', by unfold kindB; rw [if_neg g1, if_neg (by omega), if_pos g4], fin _, hs.conv (by exact ent_)⟩
      rw [decide_eq_false g4]
      refine go ?_
      refine Dn.ret1 rfl rfl fun w hs => ⟨o', by unfold kindB; rw [if_neg g1, if_neg (by omega), if_neg g4], fin _, hs.conv (by exact ent_)⟩
end Go.Proofs.Ytcgjmlapmdbnmaa

