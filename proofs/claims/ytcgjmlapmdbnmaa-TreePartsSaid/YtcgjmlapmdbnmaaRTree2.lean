/- Contracts of functions of the program, proved in a small separation logic. Conditions: those that each theorem states. -/
import Derived.Test.YtcgjmlapmdbnmaaRTree1
import Derived.Test.YtcgjmlapmdbnmaaRef2b
namespace Go.Proofs.Ytcgjmlapmdbnmaa
open Go Go.Sl
set_option maxHeartbeats 4000000
set_option maxRecDepth 100000
set_option linter.unusedVariables false
def upR (q : List (List Bool)) (a b : Int) : List Int := match inR q a && inR q b with | true => (ints q.length).filter (upF q a b) | false => []
-- FN confidant/confidantref2.Upper
theorem ref2_Upper (v : Value) (rows : List Value) (q : List (List Bool)) (hl : rows.length = q.length) (hm : q.length ≤ 1000000) (a b : Int) :
    Sp Try.prog 98 [v, .int .i64 a, .int .i64 b] [rsl eVal v rows, rws true eBool rows q] (fun _ : Value => True) (fun u => u) (fun u => [sl (eInt .i64) u (upR q a b)]) := by
  refine Sp.intro (n := 46) Try.func98 rfl rfl fun w0 R => ?_
  dsimp only [List.cons_append, List.nil_append, envOf]
  refine go ?_
  refine Cd.loop (fun z : Nat × Value => z.1 ≤ q.length ∧ (z.1 = 0 ∨ (inR q a && inR q b) = true)) (fun z => q.length - z.1) (fun z => [(0, v), (1, .int .i64 a), (2, .int .i64 b), (7, z.2), (8, .int .i64 z.1)])
    (fun z => rsl eVal v rows :: rws true eBool rows q :: sl (eInt .i64) z.2 ((ints z.1).filter (upF q a b)) :: R) (0, .slice none 0 0) ⟨by simp, .inl rfl⟩ ?_ ?_ ?_
  · repeat(first|exact Env.le_nil _|(refine Env.le_cons rfl ?_ ?_;first|rfl|(simp;done)|exact congrArg _ (by omega)|rotate_left))
  · rw [show (ints 0).filter (upF q a b) = [] from rfl]
    exact ent_
  rintro ⟨k, u⟩ ⟨hk, ho⟩
  dsimp only at hk ho ⊢
  have hfl : ((ints k).filter (upF q a b)).length ≤ k := by
    have := List.length_filter_le (upF q a b) (ints k)
    rwa [ints_length] at this
  refine go ?_
  by_cases g1 : (k : Int) < (rows.length : Int)
  · rw [decide_eq_true g1]
    refine go ?_
    with_reducible refine Ol.g ?_
    refine Ol.eff rfl rfl rfl (Eff.call (R := ?_) (ref2_in v rows q hl (by omega) a) rfl ?_ ?_)
    rotate_left
    · exact tkl_
    rintro _ -
    dsimp only [List.cons_append, List.nil_append]
    cases hA : inR q a with
    | false =>
      have hk0 : k = 0 := ho.resolve_right (by rw [hA]; simp)
      refine go ?_
      refine Dn.ret1 rfl rfl fun w hs => ⟨u, rfl, trivial, hs.conv ?_⟩
      rw [hk0, show (ints 0).filter (upF q a b) = upR q a b from by unfold upR; rw [hA]; rfl]
      exact ent_
    | true =>
    refine go ?_
    with_reducible refine Ol.g ?_
    refine Ol.eff rfl rfl rfl (Eff.call (R := ?_) (ref2_in v rows q hl (by omega) b) rfl ?_ ?_)
    rotate_left
    · exact tkl_
    rintro _ -
    dsimp only [List.cons_append, List.nil_append]
    cases hB : inR q b with
    | false =>
      have hk0 : k = 0 := ho.resolve_right (by rw [hA, hB]; simp)
      refine go ?_
      refine Dn.ret1 rfl rfl fun w hs => ⟨u, rfl, trivial, hs.conv ?_⟩
      rw [hk0, show (ints 0).filter (upF q a b) = upR q a b from by unfold upR; rw [hA, hB]; rfl]
      exact ent_
    | true =>
    have i1 := inR_iff hA
    have i2 := inR_iff hB
    have r1 := sq_row i1.1 i1.2.1 i1.2.2
    have r2 := sq_row i2.1 i2.2.1 i2.2.2
    have hs1 : (ints (k + 1)).filter (upF q a b) = (ints k).filter (upF q a b) ++ (match upF q a b k with | true => [(k : Int)] | false => []) := by
      rw [ints_succ, List.filter_append]
      congr 1
    refine go ?_
    have e : upF q a b k = (rd (rd q a) k && rd (rd q b) k) := rfl
    cases hx : rd (rd q a) (k : Int) with
    | false =>
      rw [hx, Bool.false_and] at e
      rw [e] at hs1
      refine go ?_
      refine Dn.round (k + 1, u) ⟨by dsimp only; omega, .inr rfl⟩ (by dsimp only; omega) (by repeat(first|exact Env.le_nil _|(refine Env.le_cons rfl ?_ ?_;first|rfl|(simp;done)|exact congrArg _ (by omega)|rotate_left))) ?_
      dsimp only; rw [hs1, List.append_nil]; exact ent_
    | true =>
      rw [hx, Bool.true_and] at e
      refine go ?_
      cases hy : rd (rd q b) (k : Int) with
      | false =>
        rw [hy] at e
        rw [e] at hs1
        refine go ?_
        refine Dn.round (k + 1, u) ⟨by dsimp only; omega, .inr rfl⟩ (by dsimp only; omega) (by repeat(first|exact Env.le_nil _|(refine Env.le_cons rfl ?_ ?_;first|rfl|(simp;done)|exact congrArg _ (by omega)|rotate_left))) ?_
        dsimp only; rw [hs1, List.append_nil]; exact ent_
      | true =>
        rw [hy] at e
        rw [e] at hs1
        refine go ?_;repeat((with_reducible refine Ol.g ?_);(first|refine Ol.eff rfl rfl rfl (Eff.alloc fun _=>?_)|refine Ol.eff rfl rfl rfl (Eff.box fun _=>?_)|refine Ol.eff0 rfl rfl (Eff.store rfl rfl ?_)|refine Ol.eff rfl rfl rfl (Eff.bslice rfl rfl fun _=>?_)|(refine Ol.eff0 rfl rfl (Eff.storeE rfl ?_ ?_);exact pre_)|(refine Ol.eff rfl rfl rfl (Eff.append1 rfl ?_ fun _=>?_);exact pre_));refine go ?_)
        rename_i v1 u'
        refine Dn.round (k + 1, u') ⟨by dsimp only; omega, .inr rfl⟩ (by dsimp only; omega) (by repeat(first|exact Env.le_nil _|(refine Env.le_cons rfl ?_ ?_;first|rfl|(simp;done)|exact congrArg _ (by omega)|rotate_left))) ?_
        dsimp only; rw [hs1]; exact ent_
  · rw [decide_eq_false g1]
    have hkq : k = q.length := by omega
    refine go ?_
    refine Dn.ret1 rfl rfl fun w hs => ⟨u, rfl, trivial, hs.conv ?_⟩
    rw [show (ints k).filter (upF q a b) = upR q a b from by
      unfold upR
      rcases ho with h | h
      · have : q.length = 0 := by omega
        rw [h]
        split
        · rw [this]
        · rfl
      · rw [h, hkq]]
    exact ent_
def joinR (q : List (List Bool)) (a b : Int) : Int := (bestR q (upR q a b) (leFLeast q)).getD (-1)
-- FN confidant/confidantref2.Join
theorem ref2_Join (v : Value) (rows : List Value) (q : List (List Bool)) (hl : rows.length = q.length) (hm : q.length ≤ 1000000) (a b : Int) :
    Sp Try.prog 56 [v, .int .i64 a, .int .i64 b] [rsl eVal v rows, rws true eBool rows q] (fun _ : Unit => True) (fun _ => .int .i64 (joinR q a b)) (fun _ => []) := by
  have hul : (upR q a b).length ≤ q.length := by
    unfold upR; split
    · have := List.length_filter_le (upF q a b) (ints q.length)
      rwa [ints_length] at this
    · simp
  refine Sp.intro (n := 21) Try.func56 rfl rfl fun w0 R => ?_
  dsimp only [List.cons_append, List.nil_append, envOf]
  refine go ?_
  with_reducible refine Ol.g ?_
  refine Ol.eff rfl rfl rfl (Eff.call (R := ?_) (ref2_Upper v rows q hl hm a b) rfl ?_ ?_)
  rotate_left
  · exact tkl_
  rintro u -
  dsimp only [List.cons_append, List.nil_append]
  refine go ?_
  with_reducible refine Ol.g ?_
  refine Ol.eff rfl rfl rfl (Eff.call (R := ?_) (ref2_Least v rows q hl (by omega) false u (upR q a b) (by omega)) rfl ?_ ?_)
  rotate_left
  · exact tkl_
  rintro _ -
  dsimp only [List.cons_append, List.nil_append]
  unfold joinR
  cases bestR q (upR q a b) (leFLeast q) with
  | none =>
    unfold optV
    refine go ?_
    refine Dn.ret1 rfl rfl fun w hs => ⟨(), rfl, trivial, hs.conv (by exact ent_)⟩
  | some x =>
    unfold optV
    refine go ?_
    refine Dn.ret1 rfl rfl fun w hs => ⟨(), rfl, trivial, hs.conv (by exact ent_)⟩
def labR (q : List (List Bool)) (T : List TN) (k : Nat) : Int := ((T.take k).drop 1).foldl (fun c n => joinR q c n.label) (rd T 0).label
-- FN confidant/confidantref29.Label
theorem ref29_Label (v : Value) (rows : List Value) (q : List (List Bool)) (hl : rows.length = q.length) (hm : q.length ≤ 1000000) (tv : Value) (xs : List S_api_Tree) (T : List TN) :
    Sp Try.prog 23 [v, tv] [rsl eVal v rows, rws true eBool rows q, rsl e_api_Tree tv xs, rel2 tnC xs T] (fun _ : Unit => True) (fun _ => match rightB T q.length with | true => .tuple #[.int .i64 (labR q T T.length), .bool true] | false => .tuple #[.int .i64 0, .bool false]) (fun _ => []) := by
  refine Sp.intro (n := 32) Try.func23 rfl rfl fun w0 R => ?_
  dsimp only [List.cons_append, List.nil_append, envOf]
  first | (with_reducible refine Cd.g ?_; refine Cd.know (fun w_ hw_ => rel2_len (Tk.sat (A := (rel2 tnC xs T)) (by exact tk_) hw_)) fun hxl => ?_) | (with_reducible refine Ol.g ?_; refine Ol.know (fun w_ hw_ => rel2_len (Tk.sat (A := (rel2 tnC xs T)) (by exact tk_) hw_)) fun hxl => ?_) | (with_reducible refine Dn.g ?_; refine Dn.know (fun w_ hw_ => rel2_len (Tk.sat (A := (rel2 tnC xs T)) (by exact tk_) hw_)) fun hxl => ?_)
  refine go ?_
  rw [hl]
  with_reducible refine Ol.g ?_
  refine Ol.eff rfl rfl rfl (Eff.call (R := ?_) (ref29_Right tv xs T q.length) rfl ?_ ?_)
  rotate_left
  · exact tkl_
  rintro _ -
  dsimp only [List.cons_append, List.nil_append]
  cases hr : rightB T q.length with
  | false =>
    refine go ?_
    refine Dn.ret2 rfl rfl rfl fun w hs => ⟨(), rfl, trivial, hs.conv (by exact ent_)⟩
  | true =>
    have hT := rightB_len hr
    refine Ol.conv (Tk.more (p := rel2_pers (fun _ _ => inferInstance) _ _) (A := rel2 tnC xs T) (rel2_gotI (i := 0) (by omega) (by omega)) (by exact tk_)) ?_
    first | (with_reducible refine Cd.g ?_; refine Cd.pk (A := (tnC (rd xs 0) (rd T 0))) rfl (by exact tk_) fun q0 hq0 => ?_) | (with_reducible refine Ol.g ?_; refine Ol.pk (A := (tnC (rd xs 0) (rd T 0))) rfl (by exact tk_) fun q0 hq0 => ?_) | (with_reducible refine Dn.g ?_; refine Dn.pk (A := (tnC (rd xs 0) (rd T 0))) rfl (by exact tk_) fun q0 hq0 => ?_)
    dsimp only [List.cons_append, List.nil_append]
    refine go ?_
    rw [hq0.2.2]
    refine Cd.loop (fun k : Nat => 1 ≤ k ∧ k ≤ T.length) (fun k => T.length - k) (fun k => [(0, v), (1, tv), (6, .int .i64 (labR q T k)), (7, .int .i64 k)])
      (fun k => rsl eVal v rows :: rws true eBool rows q :: rsl e_api_Tree tv xs :: rel2 tnC xs T :: R) 1 (by omega) ?_ ?_ ?_
    · rw [show labR q T 1 = (rd T 0).label from by unfold labR; rw [List.drop_eq_nil_of_le (by simp; omega)]; rfl]
      repeat(first|exact Env.le_nil _|(refine Env.le_cons rfl ?_ ?_;first|rfl|(simp;done)|exact congrArg _ (by omega)|rotate_left))
    · exact ent_
    rintro k ⟨hk1, hk⟩
    refine go ?_
    refine Cd.condP rfl (fun h => ?_) (fun h => ?_)
    · have hk2 : k < T.length := by omega
      refine Cd.conv (Tk.more (p := rel2_pers (fun _ _ => inferInstance) _ _) (A := rel2 tnC xs T) (rel2_gotI (i := k) (by omega) (by omega)) (by exact tk_)) ?_
      first | (with_reducible refine Cd.g ?_; refine Cd.pk (A := (tnC (rd xs k) (rd T k))) rfl (by exact tk_) fun q1 hq1 => ?_) | (with_reducible refine Ol.g ?_; refine Ol.pk (A := (tnC (rd xs k) (rd T k))) rfl (by exact tk_) fun q1 hq1 => ?_) | (with_reducible refine Dn.g ?_; refine Dn.pk (A := (tnC (rd xs k) (rd T k))) rfl (by exact tk_) fun q1 hq1 => ?_)
      dsimp only [List.cons_append, List.nil_append]
      refine go ?_
      rw [hq1.2.2]
      with_reducible refine Ol.g ?_
      refine Ol.eff rfl rfl rfl (Eff.call (R := ?_) (ref2_Join v rows q hl hm (labR q T k) (rd T k).label) rfl ?_ ?_)
      rotate_left
      · exact tkl_
      rintro _ -
      dsimp only [List.cons_append, List.nil_append]
      refine go ?_
      refine Dn.round (k + 1) (by omega) (by omega) ?_ (by exact ent_)
      rw [show labR q T (k + 1) = joinR q (labR q T k) (rd T k).label from by
        unfold labR
        rw [take_rd hk2, List.drop_append_of_le_length (by simp; omega), List.foldl_append]; rfl]
      repeat(first|exact Env.le_nil _|(refine Env.le_cons rfl ?_ ?_;first|rfl|(simp;done)|exact congrArg _ (by omega)|rotate_left))
    · have hkk : k = T.length := by omega
      subst hkk
      refine go ?_
      refine Dn.ret2 rfl rfl rfl fun w hs => ⟨(), rfl, trivial, hs.conv (by exact ent_)⟩
end Go.Proofs.Ytcgjmlapmdbnmaa

