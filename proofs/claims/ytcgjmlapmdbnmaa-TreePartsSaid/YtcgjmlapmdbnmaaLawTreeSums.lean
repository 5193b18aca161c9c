/- Contracts of functions of the program, proved in a small separation logic. Conditions: those that each theorem states. -/
import Derived.Test.YtcgjmlapmdbnmaaTree6
import Derived.Test.YtcgjmlapmdbnmaaRTree2
import Derived.Test.YtcgjmlapmdbnmaaRef2c
namespace Go.Proofs.Ytcgjmlapmdbnmaa
open Go Go.Sl
set_option maxHeartbeats 4000000
set_option maxRecDepth 100000
set_option linter.unusedVariables false
/-! which trees may be does not hang on their values -/
def TN.strip (n : TN) : TN := { n with value := 0 }
theorem rd_strip (T : List TN) (i : Int) : rd (T.map TN.strip) i = (rd T i).strip := by
  unfold rd
  rw [List.getD_eq_getElem?_getD, List.getD_eq_getElem?_getD, List.getElem?_map]
  cases T[i.toNat]? <;> rfl
theorem node_strip (T : List TN) (i labels : Int) : nodeB (T.map TN.strip) i labels = nodeB T i labels := by
  unfold nodeB; rw [rd_strip, List.length_map]; rfl
theorem own_strip (T : List TN) (k : Nat) : ownK (T.map TN.strip) k = ownK T k := by
  unfold ownK; rw [← List.map_take, List.foldl_map, List.length_map]; rfl
theorem right_strip (T : List TN) (labels : Int) : rightB (T.map TN.strip) labels = rightB T labels := by
  unfold rightB; rw [own_strip, List.length_map]; simp only [node_strip]
def kidsN (n : Nat) : List Int := (ints n).map (· + 1)
theorem kidsN_succ (n : Nat) : kidsN (n + 1) = kidsN n ++ [(n : Int) + 1] := by simp [kidsN, ints_succ]
theorem kidsN_len (n : Nat) : (kidsN n).length = n := by simp [kidsN, ints_length]
def TS (kd : Int) (l : List Int) : List TN := ⟨kd, 0, 0, kidsN l.length⟩ :: l.map fun x => ⟨1, x, 0, []⟩
theorem ts_dec : ∀ n : Fin 9, rightB (⟨2, 0, 0, kidsN n⟩ :: List.replicate n ⟨1, 0, 0, []⟩) 16 = true ∧ rightB (⟨3, 0, 0, kidsN n⟩ :: List.replicate n ⟨1, 0, 0, []⟩) 16 = true ∧ rightB (⟨2, 0, 0, kidsN n⟩ :: List.replicate n ⟨1, 0, 0, []⟩) 1 = true ∧ rightB (⟨3, 0, 0, kidsN n⟩ :: List.replicate n ⟨1, 0, 0, []⟩) 1 = true := by decide +kernel
theorem ts_right {kd : Int} (hk : kd = 2 ∨ kd = 3) {l : List Int} (hl : l.length ≤ 8) {n : Int} (hn : n = 16 ∨ n = 1) : rightB (TS kd l) n = true := by
  have h := ts_dec ⟨l.length, by omega⟩
  rw [← right_strip]
  have e : (TS kd l).map TN.strip = ⟨kd, 0, 0, kidsN l.length⟩ :: List.replicate l.length ⟨1, 0, 0, []⟩ := by
    unfold TS
    rw [List.map_cons, List.map_map, ← List.map_const']
    rfl
  rw [e]
  obtain ⟨h1, h2, h3, h4⟩ := h
  rcases hk with rfl | rfl <;> rcases hn with rfl | rfl <;> assumption
def wantS (kd : Int) (l : List Int) : Int := l.foldl (fun v x => opV kd v x) (one3 kd)
theorem ts_val {kd : Int} (hk : kd = 2 ∨ kd = 3) (l : List Int) : valT (TS kd l) (TS kd l).length 0 = wantS kd l := by
  have hlen : (TS kd l).length = l.length + 1 := by simp [TS]
  rw [hlen]
  unfold valT
  have h0 : rd (TS kd l) 0 = ⟨kd, 0, 0, kidsN l.length⟩ := rfl
  rw [h0, if_neg (show ¬ kd = 1 by omega), if_neg (show ¬ kd = 4 by omega)]
  dsimp only
  have hv : ∀ j : Nat, j < l.length → valT (TS kd l) l.length ((j : Int) + 1) = rd l j := fun j hj => by
    obtain ⟨m, hm⟩ : ∃ m, l.length = m + 1 := ⟨l.length - 1, by omega⟩
    have hr : rd (TS kd l) ((j : Int) + 1) = ⟨1, rd l j, 0, []⟩ := by
      rw [rd_eq (by rw [hlen]; omega), rd_eq (by omega)]
      simp only [TS, show ((j : Int) + 1).toNat = j + 1 from by omega, List.getElem_cons_succ, List.getElem_map, Int.toNat_natCast]
    conv => lhs; rw [hm]
    unfold valT
    rw [hr, if_pos rfl]
  have key : ∀ k, k ≤ l.length → (kidsN k).foldl (fun v x => opV kd v (valT (TS kd l) l.length x)) (one3 kd) = (l.take k).foldl (fun v x => opV kd v x) (one3 kd) := by
    intro k
    induction k with
    | zero => intro _; rfl
    | succ k ih =>
      intro hk2
      rw [kidsN_succ, List.foldl_append, ih (by omega), take_rd (by omega), List.foldl_append]
      simp only [List.foldl_cons, List.foldl_nil]
      rw [hv k (by omega)]
  have := key l.length (Nat.le_refl _)
  rw [List.take_length] at this
  exact this
theorem ts_lab (kd : Int) (l : List Int) : ∀ k, k ≤ (TS kd l).length → labR (tabT 1 1 leI) (TS kd l) k = 0 := by
  have hj : joinR (tabT 1 1 leI) 0 0 = 0 := by decide +kernel
  have hlen : (TS kd l).length = l.length + 1 := by simp [TS]
  intro k
  induction k with
  | zero => intro _; rfl
  | succ k ih =>
    intro hk
    unfold labR at ih ⊢
    rw [take_rd (by omega)]
    by_cases hk0 : k = 0
    · subst hk0; rfl
    rw [List.drop_append_of_le_length (by simp; omega), List.foldl_append, ih (by omega)]
    have hr : (rd (TS kd l) (k : Int)).label = 0 := by
      rw [rd_eq (by omega)]
      obtain ⟨j, rfl⟩ : ∃ j, k = j + 1 := ⟨k - 1, by omega⟩
      simp [TS]
    show joinR (tabT 1 1 leI) 0 (rd (TS kd l) (k : Int)).label = 0
    rw [hr, hj]
theorem went1 (B : HProp) : went B (stars [B]) := (went.of (emp_star B)).trans (went.of (star_comm emp B))
theorem went1' (B : HProp) : went (stars [B]) B := (went.of (star_comm B emp)).trans (went.right _ _)
theorem leaf_free (x : Int) : Free (tnC ⟨1, x, 0, .slice none 0 0⟩ ⟨1, x, 0, []⟩) :=
  ⟨fun B => (went1 B).trans (went.trans (show went (stars [B]) (star (tnC ⟨1, x, 0, .slice none 0 0⟩ ⟨1, x, 0, []⟩) (stars [B])) from Tk.pk (A := tnC ⟨1, x, 0, .slice none 0 0⟩ ⟨1, x, 0, []⟩) rfl () ⟨rfl, rfl, rfl⟩ (TkL.cons Tk.free (TkL.nil _))) (went.star (went.refl _) (went1' B)))⟩
theorem leaves_free : ∀ l : List Int, Free (rel2 tnC (l.map fun x => ⟨1, x, 0, .slice none 0 0⟩) (l.map fun x => ⟨1, x, 0, []⟩))
  | [] => ⟨fun B => rel2_nil B⟩
  | a :: l => ⟨fun B => ((leaves_free l).free B).trans (((leaf_free a).free _).trans ((went.of (star_assoc' _ _ _)).trans (went.star rel2_cons (went.refl B))))⟩
abbrev xsS (kd : Int) (kv : Value) (l : List Int) : List S_api_Tree := ⟨kd, 0, 0, kv⟩ :: l.map fun x => ⟨1, x, 0, .slice none 0 0⟩
structure SZ where
  k : Nat
  v : Value
  kv : Value
-- FN confidant/confidantlaw29.TreeSums
theorem law_TreeSums (lv : Value) (l : List Int) (kind : Int) (hk : 0 ≤ kind ∧ kind ≤ 255) :
    Sp Try.prog 5 [lv, .int .u8 kind] [rsl (eInt .i32) lv l] (fun _ : Unit => True) (fun _ => .bool true) (fun _ => []) := by
  refine Sp.intro (n := 91) Try.func5 rfl rfl fun w0 R => ?_
  dsimp only [List.cons_append, List.nil_append, envOf]
  refine go ?_
  with_reducible refine Ol.g ?_
  refine Ol.eff rfl rfl rfl (Eff.call (R := ?_) law29_known rfl ?_ ?_)
  rotate_left
  · exact tkl_
  rintro _ -
  dsimp only [List.cons_append, List.nil_append]
  refine go ?_
  refine Cd.condP rfl (fun h8 => ?_) (fun h8 => ?_)
  · refine go ?_
    refine Dn.ret1 rfl rfl fun w hs => ⟨(), ?_, by trivial, by first | exact hs | (refine hs.conv ?_; exact ent_)⟩
    rfl
  have hl8 : l.length ≤ 8 := by omega
  refine go ?_;repeat((with_reducible refine Ol.g ?_);(first|refine Ol.eff rfl rfl rfl (Eff.alloc fun _=>?_)|refine Ol.eff rfl rfl rfl (Eff.box fun _=>?_)|refine Ol.eff0 rfl rfl (Eff.store rfl rfl ?_)|refine Ol.eff rfl rfl rfl (Eff.bslice rfl rfl fun _=>?_)|(refine Ol.eff0 rfl rfl (Eff.storeE rfl ?_ ?_);exact pre_)|(refine Ol.eff rfl rfl rfl (Eff.append1 rfl ?_ fun _=>?_);exact pre_));refine go ?_)
  rename_i v1 v2
  obtain ⟨b, hb⟩ : ∃ b : Int, kind % 2 = b := ⟨_, rfl⟩
  have hb2 : b = 0 ∨ b = 1 := by omega
  have hkd : (2 + b = 2 ∨ 2 + b = 3) := by omega
  rw [hb, show rd ([2, 3] : List Int) b = 2 + b from by rcases hb2 with rfl | rfl <;> rfl]
  have h13 : one3 (2 + b) = b := by rcases hb2 with rfl | rfl <;> rfl
  refine Cd.loop (fun z : SZ => z.k ≤ l.length) (fun z => l.length - z.k) (fun z => [(0, lv), (1, .int .u8 kind), (5, z.v), (6, .int .i32 (wantS (2 + b) (l.take z.k))), (7, .int .i64 z.k)])
    (fun z => rsl (eInt .i32) lv l :: sl e_api_Tree z.v (xsS (2 + b) z.kv (l.take z.k)) :: sl (eInt .i64) z.kv (kidsN z.k) :: R) ⟨0, v2, .slice none 0 0⟩ (by simp) ?_ ?_ ?_
  · dsimp only
    rw [List.take_zero, show wantS (2 + b) [] = b from h13]
    repeat(first|exact Env.le_nil _|(refine Env.le_cons rfl ?_ ?_;first|rfl|(simp;done)|exact congrArg _ (by omega)|rotate_left))
  · dsimp only
    rw [List.take_zero, show xsS (2 + b) (.slice none 0 0) [] = [⟨2 + b, 0, 0, .slice none 0 0⟩] from rfl, show kidsN 0 = [] from rfl]
    exact ent_
  rintro ⟨k, v5, kv⟩ hk2
  dsimp only at hk2 ⊢
  have hkl := kidsN_len k
  refine go ?_
  refine Cd.condP rfl (fun h => ?_) (fun h => ?_)
  · have hk3 : k < l.length := by omega
    have hxl : (xsS (2 + b) kv (l.take k)).length = k + 1 := by simp; omega
    refine go ?_
    rw [show (rd (xsS (2 + b) kv (l.take k)) 0) = ⟨2 + b, 0, 0, kv⟩ from rfl]
    have hml : ((l.take k).map fun x => (⟨1, x, 0, .slice none 0 0⟩ : S_api_Tree)).length = k := by simp; omega
    refine go ?_;repeat((with_reducible refine Ol.g ?_);(first|refine Ol.eff rfl rfl rfl (Eff.alloc fun _=>?_)|refine Ol.eff rfl rfl rfl (Eff.box fun _=>?_)|refine Ol.eff0 rfl rfl (Eff.store rfl rfl ?_)|refine Ol.eff rfl rfl rfl (Eff.bslice rfl rfl fun _=>?_)|(refine Ol.eff0 rfl rfl (Eff.storeE rfl ?_ ?_);exact pre_)|(refine Ol.eff rfl rfl rfl (Eff.append1 rfl ?_ fun _=>?_);exact pre_));refine go ?_)
    rename_i w1 kv' w2 v5'
    rw [hb]
    have hw : wantS (2 + b) (l.take (k + 1)) = opV (2 + b) (wantS (2 + b) (l.take k)) (rd l k) := by unfold wantS; rw [take_rd hk3, List.foldl_append]; rfl
    have hx : (xsS (2 + b) kv (List.take k l)).set (Int.toNat 0) ⟨(rd (xsS (2 + b) kv (List.take k l)) 0).f_Kind, (rd (xsS (2 + b) kv (List.take k l)) 0).f_Value, (rd (xsS (2 + b) kv (List.take k l)) 0).f_Label, kv'⟩ ++ [⟨1, rd l k, 0, .slice none 0 0⟩] = xsS (2 + b) kv' (l.take (k + 1)) := by
      rw [take_rd hk3]; unfold xsS; rw [List.map_append]; rfl
    rw [hx]
    refine Cd.condP rfl (fun g => ?_) (fun g => ?_)
    · refine go ?_
      refine Dn.round ⟨k + 1, v5', kv'⟩ (by dsimp only; omega) (by dsimp only; omega) ?_ ?_
      · dsimp only
        rw [hw, show opV (2 + b) (wantS (2 + b) (l.take k)) (rd l k) = IntKind.i32.wrap (wantS (2 + b) (l.take k) + rd l k) from by unfold opV; rw [if_neg (by omega)]]
        repeat(first|exact Env.le_nil _|(refine Env.le_cons rfl ?_ ?_;first|rfl|(simp;done)|exact congrArg _ (by omega)|rotate_left))
      · dsimp only
        rw [kidsN_succ]
        exact ent_
    · refine go ?_
      refine Dn.round ⟨k + 1, v5', kv'⟩ (by dsimp only; omega) (by dsimp only; omega) ?_ ?_
      · dsimp only
        rw [hw, show opV (2 + b) (wantS (2 + b) (l.take k)) (rd l k) = IntKind.i32.wrap (wantS (2 + b) (l.take k) * rd l k) from by unfold opV; rw [if_pos (by omega)]]
        repeat(first|exact Env.le_nil _|(refine Env.le_cons rfl ?_ ?_;first|rfl|(simp;done)|exact congrArg _ (by omega)|rotate_left))
      · dsimp only
        rw [kidsN_succ]
        exact ent_
  have hkk : k = l.length := by omega
  subst hkk
  rw [List.take_length]
  have hr16 := ts_right hkd hl8 (n := 16) (.inl rfl)
  have hr1 := ts_right hkd hl8 (n := 1) (.inr rfl)
  have hval := ts_val hkd l
  have hlab := ts_lab (2 + b) l (TS (2 + b) l).length (Nat.le_refl _)
  first | (with_reducible refine Cd.g ?_; refine Cd.share (A := (sl (eInt .i64) kv (kidsN l.length))) (by exact tk_) ?_) | (with_reducible refine Ol.g ?_; refine Ol.share (A := (sl (eInt .i64) kv (kidsN l.length))) (by exact tk_) ?_) | (with_reducible refine Dn.g ?_; refine Dn.share (A := (sl (eInt .i64) kv (kidsN l.length))) (by exact tk_) ?_)
  first | (with_reducible refine Cd.g ?_; refine Cd.share (A := (sl e_api_Tree v5 _)) (by exact tk_) ?_) | (with_reducible refine Ol.g ?_; refine Ol.share (A := (sl e_api_Tree v5 _)) (by exact tk_) ?_) | (with_reducible refine Dn.g ?_; refine Dn.share (A := (sl e_api_Tree v5 _)) (by exact tk_) ?_)
  refine Cd.conv (H' := rsl e_api_Tree v5 (xsS (2 + b) kv l) :: rel2 tnC (xsS (2 + b) kv l) (TS (2 + b) l) :: rsl (eInt .i32) lv l :: R) (ents.cons (by exact tk_) (ents.rcons2 (Tk.pk (A := tnC ⟨2 + b, 0, 0, kv⟩ ⟨2 + b, 0, 0, kidsN l.length⟩) rfl () ⟨rfl, rfl, rfl⟩ (by exact tkl_)) (ents.trans (show ents _ (rsl (eInt .i32) lv l :: R) from by exact ent_) ((leaves_free l).free _)))) ?_
  generalize xsS (2 + b) kv l = xs
  generalize TS (2 + b) l = T at hr16 hr1 hval hlab ⊢
  refine go ?_
  with_reducible refine Ol.g ?_
  refine Ol.eff rfl rfl rfl (Eff.call (R := ?_) (tree_Value v5 xs T) rfl ?_ ?_)
  rotate_left
  · exact tkl_
  rintro _ -
  dsimp only [List.cons_append, List.nil_append]
  rw [hr16, hval]
  refine go ?_
  with_reducible refine Ol.g ?_
  refine Ol.eff rfl rfl rfl (Eff.call (R := ?_) (ref2_Chain 1 ⟨by omega, by omega⟩) rfl ?_ ?_)
  rotate_left
  · exact tkl_
  rintro ⟨v, lrows⟩ -
  dsimp only [List.cons_append, List.nil_append]
  first | (with_reducible refine Cd.g ?_; refine Cd.know (fun w_ hw_ => rws_len (Tk.sat (A := (rws false eBool lrows (tabT 1 1 leI))) (by exact tk_) hw_)) fun hl => ?_) | (with_reducible refine Ol.g ?_; refine Ol.know (fun w_ hw_ => rws_len (Tk.sat (A := (rws false eBool lrows (tabT 1 1 leI))) (by exact tk_) hw_)) fun hl => ?_) | (with_reducible refine Dn.g ?_; refine Dn.know (fun w_ hw_ => rws_len (Tk.sat (A := (rws false eBool lrows (tabT 1 1 leI))) (by exact tk_) hw_)) fun hl => ?_)
  first | (with_reducible refine Cd.g ?_; refine Cd.share (A := (sl eVal v lrows)) (by exact tk_) ?_) | (with_reducible refine Ol.g ?_; refine Ol.share (A := (sl eVal v lrows)) (by exact tk_) ?_) | (with_reducible refine Dn.g ?_; refine Dn.share (A := (sl eVal v lrows)) (by exact tk_) ?_)
  first | (with_reducible refine Cd.g ?_; refine Cd.share (A := (rws false eBool lrows (tabT 1 1 leI))) (by exact tk_) ?_) | (with_reducible refine Ol.g ?_; refine Ol.share (A := (rws false eBool lrows (tabT 1 1 leI))) (by exact tk_) ?_) | (with_reducible refine Dn.g ?_; refine Dn.share (A := (rws false eBool lrows (tabT 1 1 leI))) (by exact tk_) ?_)
  refine go ?_
  with_reducible refine Ol.g ?_
  refine Ol.eff rfl rfl rfl (Eff.call (R := ?_) (ref29_Label v lrows (tabT 1 1 leI) hl (by show 1 ≤ _; omega) v5 xs T) rfl ?_ ?_)
  rotate_left
  · exact tkl_
  rintro _ -
  dsimp only [List.cons_append, List.nil_append]
  rw [show rightB T ((tabT 1 1 leI).length : Nat) = true from hr1, hlab]
  refine go ?_
  rw [decide_eq_true (show wantS (2 + b) l = wantS (2 + b) l from rfl)]
  refine go ?_
  refine Dn.ret1 rfl rfl fun w hs => ⟨(), rfl, trivial, hs.conv (by exact ent_)⟩
end Go.Proofs.Ytcgjmlapmdbnmaa

