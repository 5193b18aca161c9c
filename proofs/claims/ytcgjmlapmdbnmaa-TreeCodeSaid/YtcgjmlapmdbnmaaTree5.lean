/- Contracts of functions of the program, proved in a small separation logic. Conditions: those that each theorem states. -/
import Derived.Test.YtcgjmlapmdbnmaaTree4
import Derived.Test.YtcgjmlapmdbnmaaRImg1
namespace Go.Proofs.Ytcgjmlapmdbnmaa
open Go Go.Sl
set_option maxHeartbeats 4000000
set_option maxRecDepth 100000
set_option linter.unusedVariables false
-- FN confidant/tree.in
theorem tree_in (op arg : Int) (h : i32B arg) : Sp Try.prog 102 [.int .i64 op, .int .i64 arg] [] (fun _ : Unit => True) (fun _ => iV ⟨op, arg⟩) (fun _ => []) := by
  refine Sp.intro (n := 9) Try.func102 rfl rfl fun w0 R => ?_
  dsimp only [List.cons_append, List.nil_append, envOf]
  refine go ?_;repeat((with_reducible refine Ol.g ?_);(first|refine Ol.eff rfl rfl rfl (Eff.alloc fun _=>?_)|refine Ol.eff rfl rfl rfl (Eff.box fun _=>?_)|refine Ol.eff0 rfl rfl (Eff.store rfl rfl ?_)|refine Ol.eff rfl rfl rfl (Eff.bslice rfl rfl fun _=>?_)|(refine Ol.eff0 rfl rfl (Eff.storeE rfl ?_ ?_);exact pre_)|(refine Ol.eff rfl rfl rfl (Eff.append1 rfl ?_ fun _=>?_);exact pre_));refine go ?_)
  refine Dn.retC rfl rfl trivial fun w' hs => ⟨(), rfl, trivial, hs.conv (by exact ent_)⟩
def opT (kind : Int) : Int := if kind = 2 then 4 else if kind = 3 then 6 else 5
def forkT (T : List TN) (k : Int) : List S_api_Instr := [⟨1, (rd T k).label⟩, ⟨1, 0⟩, ⟨20, k⟩]
def waitT (kind : Int) : List S_api_Instr := [⟨21, 0⟩, ⟨12, 1⟩, ⟨opT kind, 0⟩, ⟨13, 1⟩]
def forksT (T : List TN) (ks : List Int) : List S_api_Instr := ks.flatMap (forkT T)
def waitsT (kind : Int) (n : Nat) : List S_api_Instr := (List.range n).flatMap fun _ => waitT kind
def codeT (T : List TN) (n : TN) : List S_api_Instr :=
  if n.kind = 1 then [⟨1, n.value⟩, ⟨25, 0⟩]
  else if n.kids.length = 0 ∧ n.kind = 3 then [⟨1, 1⟩, ⟨25, 0⟩]
  else if n.kids.length = 0 then [⟨1, 0⟩, ⟨25, 0⟩]
  else (forksT T n.kids ++ [⟨21, 0⟩, ⟨13, 1⟩]) ++ waitsT n.kind (n.kids.length - 1) ++ [⟨12, 1⟩, ⟨25, 0⟩]
theorem forksT_len (T : List TN) : ∀ ks : List Int, (forksT T ks).length = 3 * ks.length
  | [] => rfl
  | a :: ks => by
    have := forksT_len T ks
    unfold forksT at this ⊢
    rw [List.flatMap_cons, List.length_append, this]; simp [forkT]; omega
theorem forksT_succ (T : List TN) {ks : List Int} {k : Nat} (h : k < ks.length) : forksT T (ks.take (k + 1)) = forksT T (ks.take k) ++ forkT T (rd ks k) := by
  unfold forksT; rw [take_rd h, List.flatMap_append]; simp
theorem waitsT_succ (kind : Int) (n : Nat) : waitsT kind (n + 1) = waitsT kind n ++ waitT kind := by
  unfold waitsT; rw [List.range_succ, List.flatMap_append]; simp
theorem waitsT_len (kind : Int) : ∀ n : Nat, (waitsT kind n).length = 4 * n
  | 0 => rfl
  | n + 1 => by rw [waitsT_succ, List.length_append, waitsT_len kind n]; simp [waitT]; omega
structure nodeF (T : List TN) (i labels : Int) : Prop where
  lab : 0 ≤ (rd T i).label ∧ (rd T i).label < labels
  kind : (rd T i).kind = 1 ∧ (rd T i).kids.length = 0 ∨ ((rd T i).kind = 2 ∨ (rd T i).kind = 3) ∧ (rd T i).kids.length ≤ 8 ∨ (rd T i).kind = 4 ∧ (rd T i).kids.length = 2
  kids : ∀ k : Nat, k < (rd T i).kids.length → i < rd (rd T i).kids k ∧ rd (rd T i).kids k < T.length
theorem nodeB_F {T : List TN} {i labels : Int} (h : nodeB T i labels = true) : nodeF T i labels := by
  unfold nodeB at h
  simp only [Bool.and_eq_true] at h
  refine ⟨of_decide_eq_true h.2.1, ?_, fun k hk => by have := kidsB_at h.1 hk; omega⟩
  have := h.2.2
  unfold kindB at this
  split at this
  · have := of_decide_eq_true this; omega
  · split at this
    · have := of_decide_eq_true this; omega
    · split at this
      · have := of_decide_eq_true this; omega
      · cases this
-- FN confidant/tree.code
theorem tree_code (v : Value) (xs : List S_api_Tree) (T : List TN) (labels i : Int) (hr : rightB T labels = true) (hl16 : labels ≤ 1000) (hi : 0 ≤ i ∧ i < T.length) :
    Sp Try.prog 60 [v, .int .i64 i] [rsl e_api_Tree v xs, rel2 tnC xs T] (fun _ : Value => True) (fun c => c) (fun c => [sl e_api_Instr c (codeT T (rd T i))]) := by
  have hT := rightB_len hr
  have F := nodeB_F (rightB_node hr hi)
  have fk := F.kids; have fd := F.kind
  have hkid : ∀ k : Nat, k < (rd T i).kids.length → 0 ≤ (rd T (rd (rd T i).kids k)).label ∧ (rd T (rd (rd T i).kids k)).label < labels := fun k hk => by
    have := fk k hk
    exact (nodeB_F (rightB_node hr (by omega))).lab
  unfold codeT
  refine Sp.intro (n := 94) Try.func60 rfl rfl fun w0 R => ?_
  dsimp only [List.cons_append, List.nil_append, envOf]
  first | (with_reducible refine Cd.g ?_; refine Cd.know (fun w_ hw_ => rel2_len (Tk.sat (A := (rel2 tnC xs T)) (by exact tk_) hw_)) fun hl => ?_) | (with_reducible refine Ol.g ?_; refine Ol.know (fun w_ hw_ => rel2_len (Tk.sat (A := (rel2 tnC xs T)) (by exact tk_) hw_)) fun hl => ?_) | (with_reducible refine Dn.g ?_; refine Dn.know (fun w_ hw_ => rel2_len (Tk.sat (A := (rel2 tnC xs T)) (by exact tk_) hw_)) fun hl => ?_)
  refine Cd.conv (Tk.more (p := rel2_pers (fun _ _ => inferInstance) _ _) (A := rel2 tnC xs T) (rel2_gotI (i := i) hi.1 hi.2) (by exact tk_)) ?_
  first | (with_reducible refine Cd.g ?_; refine Cd.pk (A := (tnC (rd xs i) (rd T i))) rfl (by exact tk_) fun q hq => ?_) | (with_reducible refine Ol.g ?_; refine Ol.pk (A := (tnC (rd xs i) (rd T i))) rfl (by exact tk_) fun q hq => ?_) | (with_reducible refine Dn.g ?_; refine Dn.pk (A := (tnC (rd xs i) (rd T i))) rfl (by exact tk_) fun q hq => ?_)
  dsimp only [List.cons_append, List.nil_append]
  obtain ⟨q1, q2, q3⟩ := hq
  generalize rd T i = N at q1 q2 q3 fk fd hkid ⊢
  obtain ⟨kind, val, lab, ks⟩ := N
  dsimp only at q1 q2 q3 fk fd hkid ⊢
  refine go ?_;repeat((with_reducible refine Ol.g ?_);(first|refine Ol.eff rfl rfl rfl (Eff.alloc fun _=>?_)|refine Ol.eff rfl rfl rfl (Eff.box fun _=>?_)|refine Ol.eff0 rfl rfl (Eff.store rfl rfl ?_)|refine Ol.eff rfl rfl rfl (Eff.bslice rfl rfl fun _=>?_)|(refine Ol.eff0 rfl rfl (Eff.storeE rfl ?_ ?_);exact pre_)|(refine Ol.eff rfl rfl rfl (Eff.append1 rfl ?_ fun _=>?_);exact pre_));refine go ?_)
  rename_i c
  refine Ol.eff rfl rfl rfl (Eff.mkM kInt kInt fun m => ?_)
  refine Ol.eff0 rfl rfl (Eff.mupd (K := kInt) (V := kInt) (k := (2 : Int)) (v := (4 : Int)) ?_)
  refine Ol.eff0 rfl rfl (Eff.mupd (K := kInt) (V := kInt) (k := (3 : Int)) (v := (6 : Int)) ?_)
  refine Ol.eff0 rfl rfl (Eff.mupd (K := kInt) (V := kInt) (k := (4 : Int)) (v := (5 : Int)) ?_)
  refine go ?_
  rw [q1]
  refine Cd.condP rfl (fun g1 => ?_) (fun g1 => ?_)
  · refine go ?_
    refine Cd.drawL (l := [_, _, _, _, _]) (z := _) [[], [0], [0, 1], [], [0, 1, 2, 3]] [3, 4] [] (td := [(0, .fresh), (1, .fresh), (2, .fresh)]) rfl mixed (by kernel_rfl) (by kernel_rfl) (by kernel_rfl) (by decide) (by decide) rfl (by kernel_rfl) ?_
    refine god2 ?_
    refine Sg2.one (td := [(0, .old), (1, .old), (2, .old)]) rfl (by kernel_rfl) fun F3_ => ?_
    dsimp only [List.cons_append, List.nil_append]
    refine SpOp.eff rfl rfl rfl rfl rfl (Eff.call (R := ?_) (tree_in 25 0 (by unfold i32B; omega)) rfl ?_ ?_)
    rotate_left
    · exact tkl_
    rintro _ -
    dsimp only [List.cons_append, List.nil_append]
    refine Sn.ok ?_
    refine god2 ?_
    refine Sg2.one (td := []) rfl (by kernel_rfl) fun F4_ => ?_
    dsimp only [List.cons_append, List.nil_append]
    (with_reducible first|refine SpOp.eff rfl rfl rfl rfl rfl (Eff.x (Qx.build rfl) ?_)|refine SpOp.eff rfl rfl rfl rfl rfl (Eff.alloc fun _=>?_)|refine SpOp.eff rfl rfl rfl rfl rfl (Eff.box fun _=>?_)|refine SpOp.eff rfl rfl rfl rfl rfl (Eff.bslice rfl rfl fun _=>?_)|(refine SpOp.eff rfl rfl rfl rfl rfl (Eff.append1 rfl ?_ fun _=>?_);exact pre_)|refine SpOp.eff0 rfl rfl rfl rfl (Eff.store rfl rfl ?_)|(refine SpOp.eff0 rfl rfl rfl rfl (Eff.storeE rfl ?_ ?_);exact pre_))
    rename_i cv
    refine Sn.ok ?_
    refine god2 ?_
    refine go ?_
    refine Dn.ret1 rfl rfl fun w hs => ⟨cv, rfl, trivial, hs.conv ?_⟩
    rw [if_pos g1, ← q2]
    exact ent_
  rw [if_neg g1]
  refine go ?_
  by_cases g2 : (ks.length : Int) = 0
  · rw [decide_eq_true g2]
    refine go ?_
    refine Cd.condP rfl (fun g3 => ?_) (fun g3 => ?_)
    · rw [if_pos ⟨by omega, g3⟩]
      refine go ?_
      with_reducible refine Ol.g ?_
      refine Ol.eff rfl rfl rfl (Eff.call (R := ?_) (tree_in 1 1 (by unfold i32B; omega)) rfl ?_ ?_)
      rotate_left
      · exact tkl_
      rintro _ -
      dsimp only [List.cons_append, List.nil_append]
      refine go ?_;repeat((with_reducible refine Ol.g ?_);(first|refine Ol.eff rfl rfl rfl (Eff.alloc fun _=>?_)|refine Ol.eff rfl rfl rfl (Eff.box fun _=>?_)|refine Ol.eff0 rfl rfl (Eff.store rfl rfl ?_)|refine Ol.eff rfl rfl rfl (Eff.bslice rfl rfl fun _=>?_)|(refine Ol.eff0 rfl rfl (Eff.storeE rfl ?_ ?_);exact pre_)|(refine Ol.eff rfl rfl rfl (Eff.append1 rfl ?_ fun _=>?_);exact pre_));refine go ?_)
      with_reducible refine Ol.g ?_
      refine Ol.eff rfl rfl rfl (Eff.call (R := ?_) (tree_in 25 0 (by unfold i32B; omega)) rfl ?_ ?_)
      rotate_left
      · exact tkl_
      rintro _ -
      dsimp only [List.cons_append, List.nil_append]
      refine go ?_;repeat((with_reducible refine Ol.g ?_);(first|refine Ol.eff rfl rfl rfl (Eff.alloc fun _=>?_)|refine Ol.eff rfl rfl rfl (Eff.box fun _=>?_)|refine Ol.eff0 rfl rfl (Eff.store rfl rfl ?_)|refine Ol.eff rfl rfl rfl (Eff.bslice rfl rfl fun _=>?_)|(refine Ol.eff0 rfl rfl (Eff.storeE rfl ?_ ?_);exact pre_)|(refine Ol.eff rfl rfl rfl (Eff.append1 rfl ?_ fun _=>?_);exact pre_));refine go ?_)
      rename_i cv
      refine Dn.ret1 rfl rfl fun w hs => ⟨cv, rfl, trivial, hs.conv (by exact ent_)⟩
    · rw [if_neg (fun e => g3 e.2), if_pos (by omega)]
      refine go ?_
      rw [decide_eq_true g2]
      refine go ?_
      with_reducible refine Ol.g ?_
      refine Ol.eff rfl rfl rfl (Eff.call (R := ?_) (tree_in 1 0 (by unfold i32B; omega)) rfl ?_ ?_)
      rotate_left
      · exact tkl_
      rintro _ -
      dsimp only [List.cons_append, List.nil_append]
      refine go ?_;repeat((with_reducible refine Ol.g ?_);(first|refine Ol.eff rfl rfl rfl (Eff.alloc fun _=>?_)|refine Ol.eff rfl rfl rfl (Eff.box fun _=>?_)|refine Ol.eff0 rfl rfl (Eff.store rfl rfl ?_)|refine Ol.eff rfl rfl rfl (Eff.bslice rfl rfl fun _=>?_)|(refine Ol.eff0 rfl rfl (Eff.storeE rfl ?_ ?_);exact pre_)|(refine Ol.eff rfl rfl rfl (Eff.append1 rfl ?_ fun _=>?_);exact pre_));refine go ?_)
      with_reducible refine Ol.g ?_
      refine Ol.eff rfl rfl rfl (Eff.call (R := ?_) (tree_in 25 0 (by unfold i32B; omega)) rfl ?_ ?_)
      rotate_left
      · exact tkl_
      rintro _ -
      dsimp only [List.cons_append, List.nil_append]
      refine go ?_;repeat((with_reducible refine Ol.g ?_);(first|refine Ol.eff rfl rfl rfl (Eff.alloc fun _=>?_)|refine Ol.eff rfl rfl rfl (Eff.box fun _=>?_)|refine Ol.eff0 rfl rfl (Eff.store rfl rfl ?_)|refine Ol.eff rfl rfl rfl (Eff.bslice rfl rfl fun _=>?_)|(refine Ol.eff0 rfl rfl (Eff.storeE rfl ?_ ?_);exact pre_)|(refine Ol.eff rfl rfl rfl (Eff.append1 rfl ?_ fun _=>?_);exact pre_));refine go ?_)
      rename_i cv
      refine Dn.ret1 rfl rfl fun w hs => ⟨cv, rfl, trivial, hs.conv (by exact ent_)⟩
  rw [decide_eq_false g2, if_neg (fun e => g2 (by omega)), if_neg (fun e => g2 (by omega))]
  have hk8 : ks.length ≤ 8 := by omega
  refine go ?_
  rw [decide_eq_false g2]
  refine go ?_
  refine Cd.loop (fun z : Nat × Value => z.1 ≤ ks.length) (fun z => ks.length - z.1) (fun z => [(0, v), (5, .pointer (some ⟨c, 0, none⟩)), (6, m), (7, z.2), (47, (rd xs i).f_Kids), (48, .int .i64 ks.length), (49, .int .i64 z.1)])
    (fun z => sl e_api_Instr z.2 (forksT T (ks.take z.1)) :: mp kInt kInt m (upd (upd (upd (fun x => none) 2 4) 3 6) 4 5) :: cel c 56 [.int .i64 kind, .int .i32 (rd xs i).f_Value, .int .i64 (rd xs i).f_Label, (rd xs i).f_Kids] :: rsl (eInt .i64) (rd xs i).f_Kids ks :: rsl e_api_Tree v xs :: rel2 tnC xs T :: R) (0, .slice none 0 0) (by simp) ?_ ?_ ?_
  · repeat(first|exact Env.le_nil _|(refine Env.le_cons rfl ?_ ?_;first|rfl|(simp;done)|exact congrArg _ (by omega)|rotate_left))
  · rw [List.take_zero, show forksT T [] = [] from rfl]
    exact ent_
  rintro ⟨k, v7⟩ hk
  dsimp only at hk ⊢
  have hfl := forksT_len T (ks.take k)
  rw [List.length_take, Nat.min_eq_left hk] at hfl
  refine go ?_
  refine Cd.condP rfl (fun h => ?_) (fun h => ?_)
  · have hk2 : k < ks.length := by omega
    have hkd := fk k hk2
    have hkl := hkid k hk2
    refine Cd.conv (Tk.more (p := rel2_pers (fun _ _ => inferInstance) _ _) (A := rel2 tnC xs T) (rel2_gotI (i := rd ks k) (by omega) (by omega)) (by exact tk_)) ?_
    first | (with_reducible refine Cd.g ?_; refine Cd.pk (A := (tnC (rd xs (rd ks k)) (rd T (rd ks k)))) rfl (by exact tk_) fun q' hq' => ?_) | (with_reducible refine Ol.g ?_; refine Ol.pk (A := (tnC (rd xs (rd ks k)) (rd T (rd ks k)))) rfl (by exact tk_) fun q' hq' => ?_) | (with_reducible refine Dn.g ?_; refine Dn.pk (A := (tnC (rd xs (rd ks k)) (rd T (rd ks k)))) rfl (by exact tk_) fun q' hq' => ?_)
    dsimp only [List.cons_append, List.nil_append]
    refine go ?_
    rw [hq'.2.2]
    with_reducible refine Ol.g ?_
    refine Ol.eff rfl rfl rfl (Eff.call (R := ?_) (tree_in 1 (rd T (rd ks k)).label (by unfold i32B; omega)) rfl ?_ ?_)
    rotate_left
    · exact tkl_
    rintro _ -
    dsimp only [List.cons_append, List.nil_append]
    refine go ?_
    with_reducible refine Ol.g ?_
    refine Ol.eff rfl rfl rfl (Eff.call (R := ?_) (tree_in 1 0 (by unfold i32B; omega)) rfl ?_ ?_)
    rotate_left
    · exact tkl_
    rintro _ -
    dsimp only [List.cons_append, List.nil_append]
    refine go ?_
    with_reducible refine Ol.g ?_
    refine Ol.eff rfl rfl rfl (Eff.call (R := ?_) (tree_in 20 (rd ks k) (by unfold i32B; omega)) rfl ?_ ?_)
    rotate_left
    · exact tkl_
    rintro _ -
    dsimp only [List.cons_append, List.nil_append]
    refine go ?_;repeat((with_reducible refine Ol.g ?_);(first|refine Ol.eff rfl rfl rfl (Eff.alloc fun _=>?_)|refine Ol.eff rfl rfl rfl (Eff.box fun _=>?_)|refine Ol.eff0 rfl rfl (Eff.store rfl rfl ?_)|refine Ol.eff rfl rfl rfl (Eff.bslice rfl rfl fun _=>?_)|(refine Ol.eff0 rfl rfl (Eff.storeE rfl ?_ ?_);exact pre_)|(refine Ol.eff rfl rfl rfl (Eff.append1 rfl ?_ fun _=>?_);exact pre_));refine go ?_)
    rename_i v8 v7'
    refine Dn.round (k + 1, v7') (by dsimp only; omega) (by dsimp only; omega) (by repeat(first|exact Env.le_nil _|(refine Env.le_cons rfl ?_ ?_;first|rfl|(simp;done)|exact congrArg _ (by omega)|rotate_left))) ?_
    dsimp only
    rw [forksT_succ T hk2]
    unfold forkT
    exact ent_
  have hkk : k = ks.length := by omega
  subst hkk
  rw [List.take_length]
  have hfk : (forksT T ks).length = 3 * ks.length := forksT_len T ks
  refine go ?_
  with_reducible refine Ol.g ?_
  refine Ol.eff rfl rfl rfl (Eff.call (R := ?_) (tree_in 21 0 (by unfold i32B; omega)) rfl ?_ ?_)
  rotate_left
  · exact tkl_
  rintro _ -
  dsimp only [List.cons_append, List.nil_append]
  refine go ?_
  with_reducible refine Ol.g ?_
  refine Ol.eff rfl rfl rfl (Eff.call (R := ?_) (tree_in 13 1 (by unfold i32B; omega)) rfl ?_ ?_)
  rotate_left
  · exact tkl_
  rintro _ -
  dsimp only [List.cons_append, List.nil_append]
  refine go ?_;repeat((with_reducible refine Ol.g ?_);(first|refine Ol.eff rfl rfl rfl (Eff.alloc fun _=>?_)|refine Ol.eff rfl rfl rfl (Eff.box fun _=>?_)|refine Ol.eff0 rfl rfl (Eff.store rfl rfl ?_)|refine Ol.eff rfl rfl rfl (Eff.bslice rfl rfl fun _=>?_)|(refine Ol.eff0 rfl rfl (Eff.storeE rfl ?_ ?_);exact pre_)|(refine Ol.eff rfl rfl rfl (Eff.append1 rfl ?_ fun _=>?_);exact pre_));refine go ?_)
  rename_i v8 v7'
  rw [show Int.toNat 1 = 1 from rfl]
  refine Ol.slc (r := true) (E := eInt .i64) (v := (rd xs i).f_Kids) (xs := ks) 1 (by exact tk_) (by omega) ?_
  rw [show (eInt IntKind.i64).size = 1 from rfl]
  have hdl : (ks.drop 1).length = ks.length - 1 := List.length_drop
  refine go ?_
  have hop : ((upd (upd (upd (fun x => none) 2 4) 3 6) 4 5 : Int → Option Int) kind).getD 0 = opT kind := by
    unfold upd opT
    rcases fd with h | ⟨h | h, _⟩ | h
    · exact absurd h.1 g1
    · subst h; rfl
    · subst h; rfl
    · rw [h.1]; rfl
  refine Cd.loop (fun z : Nat × Value => z.1 ≤ ks.length - 1) (fun z => ks.length - 1 - z.1) (fun z => [(5, .pointer (some ⟨c, 0, none⟩)), (6, m), (7, z.2), (74, .int .i64 (ks.drop 1).length), (75, .int .i64 z.1)])
    (fun z => sl e_api_Instr z.2 ((forksT T ks ++ [⟨21, 0⟩, ⟨13, 1⟩]) ++ waitsT kind z.1) :: mp kInt kInt m (upd (upd (upd (fun x => none) 2 4) 3 6) 4 5) :: cel c 56 [.int .i64 kind, .int .i32 (rd xs i).f_Value, .int .i64 (rd xs i).f_Label, (rd xs i).f_Kids] :: rsl (eInt .i64) (rd xs i).f_Kids ks :: R) (0, v7') (by simp) ?_ ?_ ?_
  · repeat(first|exact Env.le_nil _|(refine Env.le_cons rfl ?_ ?_;first|rfl|(simp;done)|exact congrArg _ (by omega)|rotate_left))
  · rw [show waitsT kind 0 = [] from rfl, List.append_nil]
    exact ent_
  rintro ⟨j, v9⟩ hj
  dsimp only at hj ⊢
  have hwl := waitsT_len kind j
  refine go ?_
  refine Cd.condP rfl (fun h2 => ?_) (fun h2 => ?_)
  · refine go ?_
    refine Cd.drawL (l := [_, _, _, _, _, _, _, _, _, _, _]) (z := _) [[], [], [1], [], [], [4], [3, 4, 5], [1, 2, 3, 4, 5, 6], [1, 2, 3, 4, 5, 6, 7], [1, 2, 3, 4, 5, 6, 7, 8], [0, 1, 2, 3, 4, 5, 6, 7, 8, 9]] [1, 2, 7, 8, 9, 10] [] (td := [(0, .fresh), (3, .fresh), (4, .fresh), (5, .fresh), (6, .fresh)]) rfl mixed (by kernel_rfl) (by kernel_rfl) (by kernel_rfl) (by decide) (by decide) rfl (by kernel_rfl) ?_
    refine god2 ?_
    refine Sg2.one (td := [(0, .old), (3, .old), (4, .old), (5, .old), (6, .old)]) rfl (by kernel_rfl) fun F1_ => ?_
    dsimp only [List.cons_append, List.nil_append]
    refine SpOp.eff rfl rfl rfl rfl rfl (Eff.call (R := ?_) (tree_in 21 0 (by unfold i32B; omega)) rfl ?_ ?_)
    rotate_left
    · exact tkl_
    rintro _ -
    dsimp only [List.cons_append, List.nil_append]
    refine Sn.ok ?_
    refine god2 ?_
    refine Sg2.one (td := [(0, .old), (3, .old), (4, .old), (5, .old), (6, .old)]) rfl (by kernel_rfl) fun F2_ => ?_
    dsimp only [List.cons_append, List.nil_append]
    refine SpOp.eff rfl rfl rfl rfl rfl (Eff.call (R := ?_) (tree_in 12 1 (by unfold i32B; omega)) rfl ?_ ?_)
    rotate_left
    · exact tkl_
    rintro _ -
    dsimp only [List.cons_append, List.nil_append]
    refine Sn.ok ?_
    refine god2 ?_
    rw [hop]
    refine Sg2.one (td := [(0, .old)]) rfl (by kernel_rfl) fun F7_ => ?_
    dsimp only [List.cons_append, List.nil_append]
    refine SpOp.eff rfl rfl rfl rfl rfl (Eff.call (R := ?_) (tree_in (opT kind) 0 (by unfold i32B; omega)) rfl ?_ ?_)
    rotate_left
    · exact tkl_
    rintro _ -
    dsimp only [List.cons_append, List.nil_append]
    refine Sn.ok ?_
    refine god2 ?_
    refine Sg2.one (td := [(0, .old)]) rfl (by kernel_rfl) fun F8_ => ?_
    dsimp only [List.cons_append, List.nil_append]
    refine SpOp.eff rfl rfl rfl rfl rfl (Eff.call (R := ?_) (tree_in 13 1 (by unfold i32B; omega)) rfl ?_ ?_)
    rotate_left
    · exact tkl_
    rintro _ -
    dsimp only [List.cons_append, List.nil_append]
    refine Sn.ok ?_
    refine god2 ?_
    refine Sg2.one (td := [(0, .old)]) rfl (by kernel_rfl) fun F9_ => ?_
    dsimp only [List.cons_append, List.nil_append]
    (with_reducible first|refine SpOp.eff rfl rfl rfl rfl rfl (Eff.x (Qx.build rfl) ?_)|refine SpOp.eff rfl rfl rfl rfl rfl (Eff.alloc fun _=>?_)|refine SpOp.eff rfl rfl rfl rfl rfl (Eff.box fun _=>?_)|refine SpOp.eff rfl rfl rfl rfl rfl (Eff.bslice rfl rfl fun _=>?_)|(refine SpOp.eff rfl rfl rfl rfl rfl (Eff.append1 rfl ?_ fun _=>?_);exact pre_)|refine SpOp.eff0 rfl rfl rfl rfl (Eff.store rfl rfl ?_)|(refine SpOp.eff0 rfl rfl rfl rfl (Eff.storeE rfl ?_ ?_);exact pre_))
    refine Sn.ok ?_
    refine god2 ?_
    refine Sg2.one (td := []) rfl (by kernel_rfl) fun F10_ => ?_
    dsimp only [List.cons_append, List.nil_append]
    (with_reducible first|refine SpOp.eff rfl rfl rfl rfl rfl (Eff.x (Qx.build rfl) ?_)|refine SpOp.eff rfl rfl rfl rfl rfl (Eff.alloc fun _=>?_)|refine SpOp.eff rfl rfl rfl rfl rfl (Eff.box fun _=>?_)|refine SpOp.eff rfl rfl rfl rfl rfl (Eff.bslice rfl rfl fun _=>?_)|(refine SpOp.eff rfl rfl rfl rfl rfl (Eff.append1 rfl ?_ fun _=>?_);exact pre_)|refine SpOp.eff0 rfl rfl rfl rfl (Eff.store rfl rfl ?_)|(refine SpOp.eff0 rfl rfl rfl rfl (Eff.storeE rfl ?_ ?_);exact pre_))
    rename_i v9'
    refine Sn.ok ?_
    refine god2 ?_
    refine go ?_
    refine Dn.round (j + 1, v9') (by dsimp only; omega) (by dsimp only; omega) (by repeat(first|exact Env.le_nil _|(refine Env.le_cons rfl ?_ ?_;first|rfl|(simp;done)|exact congrArg _ (by omega)|rotate_left))) ?_
    dsimp only
    rw [waitsT_succ, ← List.append_assoc]
    unfold waitT
    exact ent_
  have hjj : j = ks.length - 1 := by omega
  subst hjj
  refine go ?_
  with_reducible refine Ol.g ?_
  refine Ol.eff rfl rfl rfl (Eff.call (R := ?_) (tree_in 12 1 (by unfold i32B; omega)) rfl ?_ ?_)
  rotate_left
  · exact tkl_
  rintro _ -
  dsimp only [List.cons_append, List.nil_append]
  refine go ?_
  with_reducible refine Ol.g ?_
  refine Ol.eff rfl rfl rfl (Eff.call (R := ?_) (tree_in 25 0 (by unfold i32B; omega)) rfl ?_ ?_)
  rotate_left
  · exact tkl_
  rintro _ -
  dsimp only [List.cons_append, List.nil_append]
  refine go ?_;repeat((with_reducible refine Ol.g ?_);(first|refine Ol.eff rfl rfl rfl (Eff.alloc fun _=>?_)|refine Ol.eff rfl rfl rfl (Eff.box fun _=>?_)|refine Ol.eff0 rfl rfl (Eff.store rfl rfl ?_)|refine Ol.eff rfl rfl rfl (Eff.bslice rfl rfl fun _=>?_)|(refine Ol.eff0 rfl rfl (Eff.storeE rfl ?_ ?_);exact pre_)|(refine Ol.eff rfl rfl rfl (Eff.append1 rfl ?_ fun _=>?_);exact pre_));refine go ?_)
  rename_i v10 cv
  refine Dn.ret1 rfl rfl fun w hs => ⟨cv, rfl, trivial, hs.conv (by exact ent_)⟩
-- FN confidant/tree.Compile
theorem tree_Compile (v : Value) (xs : List S_api_Tree) (T : List TN) :
    Sp Try.prog 20 [v] [rsl e_api_Tree v xs, rel2 tnC xs T] (fun y : Value × List Value => True) (fun y => .tuple #[y.1, .bool (rightB T 16)])
      (fun y => match rightB T 16 with | true => [sl eVal y.1 y.2, rws false e_api_Instr y.2 (T.map (codeT T))] | false => [sl eVal y.1 [], rws false e_api_Instr [] []]) := by
  refine Sp.intro (n := 22) Try.func20 rfl rfl fun w0 R => ?_
  dsimp only [List.cons_append, List.nil_append, envOf]
  first | (with_reducible refine Cd.g ?_; refine Cd.know (fun w_ hw_ => rel2_len (Tk.sat (A := (rel2 tnC xs T)) (by exact tk_) hw_)) fun hl => ?_) | (with_reducible refine Ol.g ?_; refine Ol.know (fun w_ hw_ => rel2_len (Tk.sat (A := (rel2 tnC xs T)) (by exact tk_) hw_)) fun hl => ?_) | (with_reducible refine Dn.g ?_; refine Dn.know (fun w_ hw_ => rel2_len (Tk.sat (A := (rel2 tnC xs T)) (by exact tk_) hw_)) fun hl => ?_)
  refine go ?_
  with_reducible refine Ol.g ?_
  refine Ol.eff rfl rfl rfl (Eff.call (R := ?_) (tree_Right v xs T 16) rfl ?_ ?_)
  rotate_left
  · exact tkl_
  rintro _ -
  dsimp only [List.cons_append, List.nil_append]
  cases hr : rightB T 16 with
  | false =>
    refine go ?_
    refine Dn.ret2 rfl rfl rfl fun w hs => ⟨(.slice none 0 0, []), rfl, trivial, hs.conv (by dsimp only [List.cons_append, List.nil_append]; exact ent_)⟩
  | true =>
    have hT := rightB_len hr
    refine go ?_
    refine Cd.loop (fun z : Nat × Value × List Value => z.1 ≤ T.length ∧ z.2.2.length = z.1) (fun z => T.length - z.1) (fun z => [(0, v), (4, z.2.1), (10, .int .i64 xs.length), (11, .int .i64 z.1)])
      (fun z => rsl e_api_Tree v xs :: rel2 tnC xs T :: sl eVal z.2.1 z.2.2 :: rws false e_api_Instr z.2.2 ((T.take z.1).map (codeT T)) :: R) (0, .slice none 0 0, []) ⟨by simp, rfl⟩ ?_ ?_ ?_
    · repeat(first|exact Env.le_nil _|(refine Env.le_cons rfl ?_ ?_;first|rfl|(simp;done)|exact congrArg _ (by omega)|rotate_left))
    · rw [List.take_zero, List.map_nil]
      exact ent_
    rintro ⟨k, v4, rows⟩ ⟨hk, hrl⟩
    dsimp only at hk hrl ⊢
    refine go ?_
    refine Cd.condP rfl (fun h => ?_) (fun h => ?_)
    · have hk2 : k < T.length := by omega
      refine go ?_
      with_reducible refine Ol.g ?_
      refine Ol.eff rfl rfl rfl (Eff.call (R := ?_) (tree_code v xs T 16 k hr (by omega) (by omega)) rfl ?_ ?_)
      rotate_left
      · exact tkl_
      rintro cv -
      dsimp only [List.cons_append, List.nil_append]
      refine go ?_;repeat((with_reducible refine Ol.g ?_);(first|refine Ol.eff rfl rfl rfl (Eff.alloc fun _=>?_)|refine Ol.eff rfl rfl rfl (Eff.box fun _=>?_)|refine Ol.eff0 rfl rfl (Eff.store rfl rfl ?_)|refine Ol.eff rfl rfl rfl (Eff.bslice rfl rfl fun _=>?_)|(refine Ol.eff0 rfl rfl (Eff.storeE rfl ?_ ?_);exact pre_)|(refine Ol.eff rfl rfl rfl (Eff.append1 rfl ?_ fun _=>?_);exact pre_));refine go ?_)
      rename_i u1 v4'
      refine Dn.round (k + 1, v4', rows ++ [cv]) ⟨by dsimp only; omega, by simp [hrl]⟩ (by dsimp only; omega) (by repeat(first|exact Env.le_nil _|(refine Env.le_cons rfl ?_ ?_;first|rfl|(simp;done)|exact congrArg _ (by omega)|rotate_left))) ?_
      dsimp only
      rw [take_rd hk2, List.map_append, List.map_cons, List.map_nil]
      exact ent_
    · have hkk : k = T.length := by omega
      subst hkk
      rw [List.take_length]
      refine go ?_
      refine Dn.ret2 rfl rfl rfl fun w hs => ⟨(v4, rows), rfl, trivial, hs.conv (by dsimp only [List.cons_append, List.nil_append]; exact ent_)⟩
end Go.Proofs.Ytcgjmlapmdbnmaa

