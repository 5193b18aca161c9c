/- Contracts of functions of the program, proved in a small separation logic. Conditions: those that each theorem states. -/
import Derived.Test.YtcgjmlapmdbnmaaRTree4
import Derived.Test.YtcgjmlapmdbnmaaX2
namespace Go.Proofs.Ytcgjmlapmdbnmaa
open Go Go.Sl
set_option maxHeartbeats 4000000
set_option maxRecDepth 100000
set_option linter.unusedVariables false
theorem rws_get {T : Type} {E : Enc T} {rows : List Value} {xss : List (List T)} {i : Int} (h0 : 0 ≤ i) (h : i < xss.length) : went (rws true E rows xss) (slB true E (rd rows i) (rd xss i)) :=
  (went.of (rws_take h0 h)).trans ((went.of (star_comm _ _)).trans (went.right _ _))
-- FN confidant/confidantref5.Same
theorem ref5_Same (u v : Value) (rows rows2 : List Value) (xss : List (List S_api_Instr)) (hn : xss.length ≤ 1000000) (hx : ∀ x, x ∈ xss → x.length ≤ 1000000) :
    Sp Try.prog 24 [u, v] [sl eVal u rows, rws true e_api_Instr rows xss, sl eVal v rows2, rws true e_api_Instr rows2 xss] (fun _ : Unit => True) (fun _ => .bool true) (fun _ => []) := by
  refine Sp.intro (n := 27) Try.func24 rfl rfl fun w0 R => ?_
  dsimp only [List.cons_append, List.nil_append, envOf]
  first | (with_reducible refine Cd.g ?_; refine Cd.know (fun w_ hw_ => rws_len (Tk.sat (A := (rws true e_api_Instr rows xss)) (by exact tk_) hw_)) fun h1 => ?_) | (with_reducible refine Ol.g ?_; refine Ol.know (fun w_ hw_ => rws_len (Tk.sat (A := (rws true e_api_Instr rows xss)) (by exact tk_) hw_)) fun h1 => ?_) | (with_reducible refine Dn.g ?_; refine Dn.know (fun w_ hw_ => rws_len (Tk.sat (A := (rws true e_api_Instr rows xss)) (by exact tk_) hw_)) fun h1 => ?_)
  first | (with_reducible refine Cd.g ?_; refine Cd.know (fun w_ hw_ => rws_len (Tk.sat (A := (rws true e_api_Instr rows2 xss)) (by exact tk_) hw_)) fun h2 => ?_) | (with_reducible refine Ol.g ?_; refine Ol.know (fun w_ hw_ => rws_len (Tk.sat (A := (rws true e_api_Instr rows2 xss)) (by exact tk_) hw_)) fun h2 => ?_) | (with_reducible refine Dn.g ?_; refine Dn.know (fun w_ hw_ => rws_len (Tk.sat (A := (rws true e_api_Instr rows2 xss)) (by exact tk_) hw_)) fun h2 => ?_)
  refine go ?_
  rw [decide_eq_false (show ¬ (rows.length : Int) ≠ rows2.length by omega)]
  refine go ?_
  refine Cd.loop (fun k : Nat => k ≤ rows.length) (fun k => rows.length - k) (fun k => [(0, u), (1, v), (5, .int .i64 k)]) (fun _ => _) 0 (by omega) ?_ (ents.refl _) fun k hk => ?_
  · repeat(first|exact Env.le_nil _|(refine Env.le_cons rfl ?_ ?_;first|rfl|(simp;done)|exact congrArg _ (by omega)|rotate_left))
  refine go ?_
  refine Cd.condP rfl (fun h => ?_) (fun h => ?_)
  · have hl := hx (rd xss k) (rd_mem (by omega) (by omega))
    refine Cd.conv (Tk.more (p := inferInstance) (A := rws true e_api_Instr rows xss) (rws_get (i := k) (by omega) (by omega)) (by exact tk_)) ?_
    refine Cd.conv (Tk.more (p := inferInstance) (A := rws true e_api_Instr rows2 xss) (rws_get (i := k) (by omega) (by omega)) (by exact tk_)) ?_
    refine go ?_
    refine Cd.draw2 [[], [], [0, 1], [0, 1, 2], [], [], [4, 5], [4, 5, 6], [0, 1, 2, 3, 4, 5, 6, 7], [0, 1, 2, 3, 4, 5, 6, 7, 8]] [8] [] (td := [(0, .fresh), (1, .fresh), (2, .fresh), (3, .fresh), (4, .fresh), (5, .fresh), (6, .fresh), (7, .fresh)]) mixed (by kernel_rfl) (by kernel_rfl) (by decide) (by decide) rfl (by kernel_rfl) ?_
    refine god2 ?_
    refine Sg2.one (td := [(9, .fresh)]) rfl (by kernel_rfl) fun F8_ => ?_
    dsimp only [List.cons_append, List.nil_append]
    refine SpOp.eff rfl rfl rfl rfl rfl (Eff.call (R := ?_) (ref5_SameCode true true (rd rows k) (rd rows2 k) (rd xss k) (rd xss k) (by omega) (by omega)) rfl ?_ ?_)
    rotate_left
    · exact tkl_
    rintro _ -
    dsimp only [List.cons_append, List.nil_append]
    refine Sn.ok ?_
    rw [decide_eq_true (show rd xss k = rd xss k from rfl)]
    refine god2 ?_
    refine go ?_
    refine Dn.round (k + 1) (by omega) (by omega) ?_ (by exact ent_)
    repeat(first|exact Env.le_nil _|(refine Env.le_cons rfl ?_ ?_;first|rfl|(simp;done)|exact congrArg _ (by omega)|rotate_left))
  · refine go ?_
    refine Dn.ret1 rfl rfl fun w' hs => ⟨(), rfl, trivial, hs.conv (by exact ent_)⟩
-- FN confidant/confidanthelp.SmallTree
theorem small_Tree (v : Value) (xs : List S_api_Tree) (T : List TN) :
    Sp Try.prog 12 [v] [rsl e_api_Tree v xs, rel2 tnC xs T] (fun b : Bool => True) (fun b => .bool b) (fun _ => []) := by
  refine Sp.intro (n := 20) Try.func12 rfl rfl fun w0 R => ?_
  dsimp only [List.cons_append, List.nil_append, envOf]
  first | (with_reducible refine Cd.g ?_; refine Cd.know (fun w_ hw_ => rel2_len (Tk.sat (A := (rel2 tnC xs T)) (by exact tk_) hw_)) fun hl => ?_) | (with_reducible refine Ol.g ?_; refine Ol.know (fun w_ hw_ => rel2_len (Tk.sat (A := (rel2 tnC xs T)) (by exact tk_) hw_)) fun hl => ?_) | (with_reducible refine Dn.g ?_; refine Dn.know (fun w_ hw_ => rel2_len (Tk.sat (A := (rel2 tnC xs T)) (by exact tk_) hw_)) fun hl => ?_)
  refine go ?_
  refine Cd.condP rfl (fun h => ?_) (fun h => ?_)
  · refine go ?_
    refine Dn.ret1 rfl rfl fun w' hs => ⟨false, rfl, trivial, hs.conv (by exact ent_)⟩
  refine go ?_
  refine Cd.loop (fun k : Nat => k ≤ T.length) (fun k => T.length - k) (fun k => [(0, v), (3, .int .i64 k)]) (fun _ => rsl e_api_Tree v xs :: rel2 tnC xs T :: R) 0 (by omega) ?_ ?_ ?_
  · repeat(first|exact Env.le_nil _|(refine Env.le_cons rfl ?_ ?_;first|rfl|(simp;done)|exact congrArg _ (by omega)|rotate_left))
  · exact ent_
  intro k hk
  refine go ?_
  refine Cd.condP rfl (fun h => ?_) (fun h => ?_)
  · refine Cd.conv (Tk.more (p := rel2_pers (fun _ _ => inferInstance) _ _) (A := rel2 tnC xs T) (rel2_gotI (i := k) (by omega) (by omega)) (by exact tk_)) ?_
    first | (with_reducible refine Cd.g ?_; refine Cd.pk (A := (tnC (rd xs k) (rd T k))) rfl (by exact tk_) fun q hq => ?_) | (with_reducible refine Ol.g ?_; refine Ol.pk (A := (tnC (rd xs k) (rd T k))) rfl (by exact tk_) fun q hq => ?_) | (with_reducible refine Dn.g ?_; refine Dn.pk (A := (tnC (rd xs k) (rd T k))) rfl (by exact tk_) fun q hq => ?_)
    dsimp only [List.cons_append, List.nil_append]
    refine go ?_
    refine Cd.condP rfl (fun h => ?_) (fun h => ?_)
    · refine go ?_
      refine Dn.ret1 rfl rfl fun w' hs => ⟨false, rfl, trivial, hs.conv (by exact ent_)⟩
    · refine go ?_
      refine Dn.round (k + 1) (by omega) (by omega) (by repeat(first|exact Env.le_nil _|(refine Env.le_cons rfl ?_ ?_;first|rfl|(simp;done)|exact congrArg _ (by omega)|rotate_left))) (by exact ent_)
  · refine go ?_
    refine Dn.ret1 rfl rfl fun w' hs => ⟨true, rfl, trivial, hs.conv (by exact ent_)⟩
/-- Another node in its place. -/
theorem tree_set {v : Value} {xs : List S_api_Tree} {T : List TN} {i : Int} {x : S_api_Tree} {n : TN} {H L : List HProp} (hi : 0 ≤ i ∧ i < T.length) (hl : xs.length = T.length)
    (k : ents H (tnC x n :: sl e_api_Tree v (xs.set i.toNat x) :: rel2 tnC xs T :: L)) : ents H (sl e_api_Tree v (xs.set i.toNat x) :: rel2 tnC (xs.set i.toNat x) (T.set i.toNat n) :: L) :=
  k.trans (ents.cons (Tk.tl (Tk.hd _ _)) (ents.rel2set hi hl (Tk.hd _ _) (Tk.hd _ _) (ents.refl _)))
theorem and3 (w : Int) : 0 ≤ andI .i64 w 3 ∧ andI .i64 w 3 ≤ 3 := by
  unfold andI
  have h : (BitVec.ofInt IntKind.i64.bits w &&& BitVec.ofInt IntKind.i64.bits 3).toNat ≤ 3 := by
    rw [BitVec.toNat_and]
    exact Nat.le_trans Nat.and_le_right (by decide)
  generalize (BitVec.ofInt IntKind.i64.bits w &&& BitVec.ofInt IntKind.i64.bits 3).toNat = n at h
  rw [wrap_in64 (by unfold in64; omega)]
  omega
theorem one_slcS {r : Bool} {T : Type} {E : Enc T} {v : Value} {xs : List T} {w : World} (h : sat w (slB r E v xs)) : ∀ l n : Nat, One (slcV v l n) := by
  intro l n
  obtain ⟨a, len, c, rfl, _⟩ := (slB_in h).slice
  exact ⟨rfl⟩
structure BZ where
  v : Value
  xs : List S_api_Tree
  T : List TN
-- FN confidant/confidantlaw29.bent
theorem law29_bent (v : Value) (xs : List S_api_Tree) (T : List TN) (k what w : Int) (hk : 0 ≤ k ∧ k ≤ 255) (hw : 0 ≤ what ∧ what ≤ 255) (hT : 1 ≤ T.length ∧ T.length ≤ 64) (hkid : ∀ n, n ∈ T → n.kids.length ≤ 1000) :
    Sp Try.prog 16 [v, .int .u8 k, .int .u8 what, .int .i64 w] [rsl e_api_Tree v xs, rel2 tnC xs T] (fun y : BZ => True) (fun y => y.v) (fun y => [sl e_api_Tree y.v y.xs, rel2 tnC y.xs y.T]) := by
  refine Sp.intro (n := 76) Try.func16 rfl rfl fun w0 R => ?_
  dsimp only [List.cons_append, List.nil_append, envOf]
  first | (with_reducible refine Cd.g ?_; refine Cd.know (fun w_ hw_ => rel2_len (Tk.sat (A := (rel2 tnC xs T)) (by exact tk_) hw_)) fun hl => ?_) | (with_reducible refine Ol.g ?_; refine Ol.know (fun w_ hw_ => rel2_len (Tk.sat (A := (rel2 tnC xs T)) (by exact tk_) hw_)) fun hl => ?_) | (with_reducible refine Dn.g ?_; refine Dn.know (fun w_ hw_ => rel2_len (Tk.sat (A := (rel2 tnC xs T)) (by exact tk_) hw_)) fun hl => ?_)
  refine go ?_
  refine Ol.eff rfl rfl rfl (Eff.appendR rfl ?_ fun u => ?_)
  · simp; omega
  rw [List.nil_append]
  refine go ?_
  obtain ⟨i, hi⟩ : ∃ i, k % (xs.length : Int) = i := ⟨_, rfl⟩
  have hi2 : 0 ≤ i ∧ i < T.length := by
    rw [← hi]
    exact ⟨Int.emod_nonneg _ (by omega), by have := Int.emod_lt_of_pos k (show 0 < (xs.length : Int) by omega); omega⟩
  have hki := hkid (rd T i) (rd_mem hi2.1 hi2.2)
  rw [hi]
  refine Cd.conv (Tk.more (p := rel2_pers (fun _ _ => inferInstance) _ _) (A := rel2 tnC xs T) (rel2_gotI (i := i) hi2.1 hi2.2) (by exact tk_)) ?_
  first | (with_reducible refine Cd.g ?_; refine Cd.pk (A := (tnC (rd xs i) (rd T i))) rfl (by exact tk_) fun q hq => ?_) | (with_reducible refine Ol.g ?_; refine Ol.pk (A := (tnC (rd xs i) (rd T i))) rfl (by exact tk_) fun q hq => ?_) | (with_reducible refine Dn.g ?_; refine Dn.pk (A := (tnC (rd xs i) (rd T i))) rfl (by exact tk_) fun q hq => ?_)
  dsimp only [List.cons_append, List.nil_append]
  obtain ⟨q1, q2, q3⟩ := hq
  refine Cd.condP rfl (fun g => ?_) (fun g => ?_)
  · refine go ?_;repeat((with_reducible refine Ol.g ?_);(first|refine Ol.eff rfl rfl rfl (Eff.alloc fun _=>?_)|refine Ol.eff rfl rfl rfl (Eff.box fun _=>?_)|refine Ol.eff0 rfl rfl (Eff.store rfl rfl ?_)|refine Ol.eff rfl rfl rfl (Eff.bslice rfl rfl fun _=>?_)|(refine Ol.eff0 rfl rfl (Eff.storeE rfl ?_ ?_);exact pre_)|(refine Ol.eff rfl rfl rfl (Eff.append1 rfl ?_ fun _=>?_);exact pre_));refine go ?_)
    refine Dn.ret1 rfl rfl fun w' hs => ⟨⟨u, xs.set i.toNat ⟨w, (rd xs i).f_Value, (rd xs i).f_Label, (rd xs i).f_Kids⟩, T.set i.toNat ⟨w, (rd T i).value, (rd T i).label, (rd T i).kids⟩⟩, rfl, trivial, hs.conv (tree_set hi2 hl (ents.cons (Tk.pk (A := tnC _ _) rfl () ⟨rfl, q2, q3⟩ (by exact tkl_)) (by exact ent_)))⟩
  refine go ?_
  refine Cd.condP rfl (fun g => ?_) (fun g => ?_)
  · refine go ?_;repeat((with_reducible refine Ol.g ?_);(first|refine Ol.eff rfl rfl rfl (Eff.alloc fun _=>?_)|refine Ol.eff rfl rfl rfl (Eff.box fun _=>?_)|refine Ol.eff0 rfl rfl (Eff.store rfl rfl ?_)|refine Ol.eff rfl rfl rfl (Eff.bslice rfl rfl fun _=>?_)|(refine Ol.eff0 rfl rfl (Eff.storeE rfl ?_ ?_);exact pre_)|(refine Ol.eff rfl rfl rfl (Eff.append1 rfl ?_ fun _=>?_);exact pre_));refine go ?_)
    refine Dn.ret1 rfl rfl fun w' hs => ⟨⟨u, xs.set i.toNat ⟨(rd xs i).f_Kind, (rd xs i).f_Value, w, (rd xs i).f_Kids⟩, T.set i.toNat ⟨(rd T i).kind, (rd T i).value, w, (rd T i).kids⟩⟩, rfl, trivial, hs.conv (tree_set hi2 hl (ents.cons (Tk.pk (A := tnC _ _) rfl () ⟨q1, q2, rfl⟩ (by exact tkl_)) (by exact ent_)))⟩
  refine go ?_
  refine Cd.condP rfl (fun g => ?_) (fun g => ?_)
  · refine go ?_
    refine Ol.eff rfl rfl rfl (Eff.appendR rfl ?_ fun u1 => ?_)
    · simp; omega
    rw [List.nil_append]
    refine go ?_;repeat((with_reducible refine Ol.g ?_);(first|refine Ol.eff rfl rfl rfl (Eff.alloc fun _=>?_)|refine Ol.eff rfl rfl rfl (Eff.box fun _=>?_)|refine Ol.eff0 rfl rfl (Eff.store rfl rfl ?_)|refine Ol.eff rfl rfl rfl (Eff.bslice rfl rfl fun _=>?_)|(refine Ol.eff0 rfl rfl (Eff.storeE rfl ?_ ?_);exact pre_)|(refine Ol.eff rfl rfl rfl (Eff.append1 rfl ?_ fun _=>?_);exact pre_));refine go ?_)
    rename_i u2 u3
    first | (with_reducible refine Cd.g ?_; refine Cd.share (A := (sl (eInt .i64) u3 _)) (by exact tk_) ?_) | (with_reducible refine Ol.g ?_; refine Ol.share (A := (sl (eInt .i64) u3 _)) (by exact tk_) ?_) | (with_reducible refine Dn.g ?_; refine Dn.share (A := (sl (eInt .i64) u3 _)) (by exact tk_) ?_)
    refine Dn.ret1 rfl rfl fun w' hs => ⟨⟨u, xs.set i.toNat ⟨(rd xs i).f_Kind, (rd xs i).f_Value, (rd xs i).f_Label, u3⟩, T.set i.toNat ⟨(rd T i).kind, (rd T i).value, (rd T i).label, (rd T i).kids ++ [w]⟩⟩, rfl, trivial, hs.conv (tree_set hi2 hl (ents.cons (Tk.pk (A := tnC _ _) rfl () ⟨q1, q2, q3⟩ (by exact tkl_)) (by exact ent_)))⟩
  refine go ?_
  refine Cd.condP rfl (fun g => ?_) (fun g => ?_)
  · refine go ?_
    refine Cd.condP rfl (fun g6 => ?_) (fun g6 => ?_)
    · have hkl : 1 ≤ (rd T i).kids.length := by omega
      first | (with_reducible refine Cd.g ?_; refine Cd.know (fun w_ hw_ => one_slcS (Tk.sat (A := (rsl (eInt .i64) (rd xs i).f_Kids (rd T i).kids)) (by exact tk_) hw_)) fun os => ?_) | (with_reducible refine Ol.g ?_; refine Ol.know (fun w_ hw_ => one_slcS (Tk.sat (A := (rsl (eInt .i64) (rd xs i).f_Kids (rd T i).kids)) (by exact tk_) hw_)) fun os => ?_) | (with_reducible refine Dn.g ?_; refine Dn.know (fun w_ hw_ => one_slcS (Tk.sat (A := (rsl (eInt .i64) (rd xs i).f_Kids (rd T i).kids)) (by exact tk_) hw_)) fun os => ?_)
      have o1 := os (Int.toNat 1) 1
      refine go ?_;repeat((with_reducible refine Ol.g ?_);(first|refine Ol.eff rfl rfl rfl (Eff.alloc fun _=>?_)|refine Ol.eff rfl rfl rfl (Eff.box fun _=>?_)|refine Ol.eff0 rfl rfl (Eff.store rfl rfl ?_)|refine Ol.eff rfl rfl rfl (Eff.bslice rfl rfl fun _=>?_)|(refine Ol.eff0 rfl rfl (Eff.storeE rfl ?_ ?_);exact pre_)|(refine Ol.eff rfl rfl rfl (Eff.append1 rfl ?_ fun _=>?_);exact pre_));refine go ?_)
      refine Dn.ret1 rfl rfl fun w' hs => ⟨⟨u, xs.set i.toNat ⟨(rd xs i).f_Kind, (rd xs i).f_Value, (rd xs i).f_Label, slcV (rd xs i).f_Kids (Int.toNat 1) 1⟩, T.set i.toNat ⟨(rd T i).kind, (rd T i).value, (rd T i).label, (rd T i).kids.drop (Int.toNat 1)⟩⟩, rfl, trivial, hs.conv (tree_set hi2 hl (ents.cons (Tk.pk (A := tnC _ _) rfl () ⟨q1, q2, q3⟩ (TkL.cons (ents.slc (r := true) (E := eInt .i64) (v := (rd xs i).f_Kids) (xs := (rd T i).kids) (l := Int.toNat 1) (by exact tk_) hkl (ents.refl _)) (TkL.nil _))) (by exact ent_)))⟩
    · refine go ?_
      refine Dn.ret1 rfl rfl fun w' hs => ⟨⟨u, xs, T⟩, rfl, trivial, hs.conv (by exact ent_)⟩
  · have h3 := and3 w
    refine go ?_;repeat((with_reducible refine Ol.g ?_);(first|refine Ol.eff rfl rfl rfl (Eff.alloc fun _=>?_)|refine Ol.eff rfl rfl rfl (Eff.box fun _=>?_)|refine Ol.eff0 rfl rfl (Eff.store rfl rfl ?_)|refine Ol.eff rfl rfl rfl (Eff.bslice rfl rfl fun _=>?_)|(refine Ol.eff0 rfl rfl (Eff.storeE rfl ?_ ?_);exact pre_)|(refine Ol.eff rfl rfl rfl (Eff.append1 rfl ?_ fun _=>?_);exact pre_));refine go ?_)
    refine Dn.ret1 rfl rfl fun w' hs => ⟨⟨u, xs.set i.toNat ⟨andI .i64 w 3 + 1, (rd xs i).f_Value, (rd xs i).f_Label, (rd xs i).f_Kids⟩, T.set i.toNat ⟨andI .i64 w 3 + 1, (rd T i).value, (rd T i).label, (rd T i).kids⟩⟩, rfl, trivial, hs.conv (tree_set hi2 hl (ents.cons (Tk.pk (A := tnC _ _) rfl () ⟨rfl, q2, q3⟩ (by exact tkl_)) (by exact ent_)))⟩
-- FN confidant/confidantref2.Lower
theorem ref2_LowerW (v : Value) (rows : List Value) (q : List (List Bool)) (hl : rows.length = q.length) (hm : q.length ≤ 1000000) (a b : Int) :
    Sp Try.prog 96 [v, .int .i64 a, .int .i64 b] [rsl eVal v rows, rws true eBool rows q] (fun y : Value × List Int => y.2.length ≤ q.length) (fun y => y.1) (fun y => [sl (eInt .i64) y.1 y.2]) := by
  refine Sp.intro (n := 46) Try.func96 rfl rfl fun w0 R => ?_
  dsimp only [List.cons_append, List.nil_append, envOf]
  refine go ?_
  refine Cd.loop (fun z : Nat × Value × List Int => z.1 ≤ q.length ∧ z.2.2.length ≤ z.1) (fun z => q.length - z.1) (fun z => [(0, v), (1, .int .i64 a), (2, .int .i64 b), (7, z.2.1), (8, .int .i64 z.1)])
    (fun z => rsl eVal v rows :: rws true eBool rows q :: sl (eInt .i64) z.2.1 z.2.2 :: R) (0, .slice none 0 0, []) ⟨by simp, by simp⟩ ?_ ?_ ?_
  · repeat(first|exact Env.le_nil _|(refine Env.le_cons rfl ?_ ?_;first|rfl|(simp;done)|exact congrArg _ (by omega)|rotate_left))
  · exact ent_
  rintro ⟨k, u, l⟩ ⟨hk, hll⟩
  dsimp only at hk hll ⊢
  refine go ?_
  by_cases g1 : (k : Int) < (rows.length : Int)
  · rw [decide_eq_true g1]
    refine go ?_
    with_reducible refine Ol.g ?_
    refine Ol.eff rfl rfl rfl (Eff.call (R := ?_) (ref2_in v rows q hl (by omega) a) rfl ?_ ?_)
    rotate_left
    · exact tkl_
    rintro _ -
    dsimp only [List.cons_append, List.nil_append]
    cases hA : inR q a with
    | false =>
      refine go ?_
      refine Dn.ret1 rfl rfl fun w hs => ⟨(u, l), rfl, by dsimp only; omega, hs.conv (by exact ent_)⟩
    | true =>
    refine go ?_
    with_reducible refine Ol.g ?_
    refine Ol.eff rfl rfl rfl (Eff.call (R := ?_) (ref2_in v rows q hl (by omega) b) rfl ?_ ?_)
    rotate_left
    · exact tkl_
    rintro _ -
    dsimp only [List.cons_append, List.nil_append]
    cases hB : inR q b with
    | false =>
      refine go ?_
      refine Dn.ret1 rfl rfl fun w hs => ⟨(u, l), rfl, by dsimp only; omega, hs.conv (by exact ent_)⟩
    | true =>
    have i1 := inR_iff hA
    have i2 := inR_iff hB
    have r1 := sq_row i1.1 (a := (k : Int)) (by omega) (by omega)
    refine go ?_
    cases hx : rd (rd q (k : Int)) a with
    | false =>
      refine go ?_
      refine Dn.round (k + 1, u, l) ⟨by dsimp only; omega, by dsimp only; omega⟩ (by dsimp only; omega) (by repeat(first|exact Env.le_nil _|(refine Env.le_cons rfl ?_ ?_;first|rfl|(simp;done)|exact congrArg _ (by omega)|rotate_left))) (by exact ent_)
    | true =>
      refine go ?_
      cases hy : rd (rd q (k : Int)) b with
      | false =>
        refine go ?_
        refine Dn.round (k + 1, u, l) ⟨by dsimp only; omega, by dsimp only; omega⟩ (by dsimp only; omega) (by repeat(first|exact Env.le_nil _|(refine Env.le_cons rfl ?_ ?_;first|rfl|(simp;done)|exact congrArg _ (by omega)|rotate_left))) (by exact ent_)
      | true =>
        refine go ?_;repeat((with_reducible refine Ol.g ?_);(first|refine Ol.eff rfl rfl rfl (Eff.alloc fun _=>?_)|refine Ol.eff rfl rfl rfl (Eff.box fun _=>?_)|refine Ol.eff0 rfl rfl (Eff.store rfl rfl ?_)|refine Ol.eff rfl rfl rfl (Eff.bslice rfl rfl fun _=>?_)|(refine Ol.eff0 rfl rfl (Eff.storeE rfl ?_ ?_);exact pre_)|(refine Ol.eff rfl rfl rfl (Eff.append1 rfl ?_ fun _=>?_);exact pre_));refine go ?_)
        rename_i v1 u'
        refine Dn.round (k + 1, u', l ++ [(k : Int)]) ⟨by dsimp only; omega, by simp; omega⟩ (by dsimp only; omega) (by repeat(first|exact Env.le_nil _|(refine Env.le_cons rfl ?_ ?_;first|rfl|(simp;done)|exact congrArg _ (by omega)|rotate_left))) (by exact ent_)
  · rw [decide_eq_false g1]
    refine go ?_
    refine Dn.ret1 rfl rfl fun w hs => ⟨(u, l), rfl, by dsimp only; omega, hs.conv (by exact ent_)⟩
-- FN confidant/confidantref2.Meet
theorem ref2_MeetW (v : Value) (rows : List Value) (q : List (List Bool)) (hl : rows.length = q.length) (hm : q.length ≤ 1000000) (a b : Int) :
    Sp Try.prog 55 [v, .int .i64 a, .int .i64 b] [rsl eVal v rows, rws true eBool rows q] (fun _ : Int => True) (fun c => .int .i64 c) (fun _ => []) := by
  refine Sp.intro (n := 21) Try.func55 rfl rfl fun w0 R => ?_
  dsimp only [List.cons_append, List.nil_append, envOf]
  refine go ?_
  with_reducible refine Ol.g ?_
  refine Ol.eff rfl rfl rfl (Eff.call (R := ?_) (ref2_LowerW v rows q hl hm a b) rfl ?_ ?_)
  rotate_left
  · exact tkl_
  rintro ⟨u, l⟩ hll
  dsimp only [List.cons_append, List.nil_append] at hll ⊢
  refine go ?_
  with_reducible refine Ol.g ?_
  refine Ol.eff rfl rfl rfl (Eff.call (R := ?_) (ref2_Greatest v rows q hl (by omega) false u l (by omega)) rfl ?_ ?_)
  rotate_left
  · exact tkl_
  rintro _ -
  dsimp only [List.cons_append, List.nil_append]
  cases bestR q l (leFGreatest q) with
  | none =>
    unfold optV
    refine go ?_
    refine Dn.ret1 rfl rfl fun w hs => ⟨_, rfl, trivial, hs.conv (by exact ent_)⟩
  | some x =>
    unfold optV
    refine go ?_
    refine Dn.ret1 rfl rfl fun w hs => ⟨_, rfl, trivial, hs.conv (by exact ent_)⟩
-- FN confidant/confidantseat.confidantref24Label
theorem seat_Label24 (l n : Int) (hn : -1000000 ≤ n ∧ n ≤ 1000000) :
    Sp Try.prog 57 [.int .i64 l, .int .i64 n] [] (fun _ : Int => True) (fun c => .int .i64 c) (fun _ => []) := by
  refine Sp.intro (n := 10) Try.func57 rfl rfl fun w0 R => ?_
  dsimp only [List.cons_append, List.nil_append, envOf]
  refine go ?_
  refine Dn.ret1 rfl rfl fun w hs => ⟨_, rfl, trivial, hs.conv (by exact ent_)⟩
end Go.Proofs.Ytcgjmlapmdbnmaa

