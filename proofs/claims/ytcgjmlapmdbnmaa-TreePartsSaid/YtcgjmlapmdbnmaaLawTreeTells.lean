/- Contracts of functions of the program, proved in a small separation logic. Conditions: those that each theorem states. -/
import Derived.Test.YtcgjmlapmdbnmaaTTell1
import Derived.Test.YtcgjmlapmdbnmaaRef2c
import Derived.Test.YtcgjmlapmdbnmaaTree6
namespace Go.Proofs.Ytcgjmlapmdbnmaa
open Go Go.Sl
set_option maxHeartbeats 4000000
set_option maxRecDepth 100000
set_option linter.unusedVariables false
theorem lat_sq3 {q : List (List Bool)} (h : latOk q = true) : sqB q = true := by
  unfold latOk ordOk at h
  simp only [Bool.and_eq_true] at h
  exact h.1.1
theorem neb (b : Bool) : (!(b == b)) = false := by cases b <;> rfl
def rrT (b : Bool) (rows : List Value) : List Value := match b with | true => rows | false => []
def ccT (b : Bool) (T : List TN) : List (List S_api_Instr) := match b with | true => T.map (codeT T) | false => []
theorem nodeB_kids8 {T : List TN} {i labels : Int} (h : nodeB T i labels = true) : (rd T i).kids.length ≤ 8 := by
  unfold nodeB at h
  simp only [Bool.and_eq_true] at h
  have h2 := h.2.2
  unfold kindB at h2
  split at h2
  · have := of_decide_eq_true h2; omega
  split at h2
  · have := of_decide_eq_true h2; omega
  split at h2
  · have := of_decide_eq_true h2; omega
  · cases h2
theorem codeT_len8 (T : List TN) (n : TN) (h : n.kids.length ≤ 8) : (codeT T n).length ≤ 1000000 := by
  unfold codeT
  split
  · simp
  split
  · simp
  split
  · simp
  simp only [List.length_append, forksT_len, waitsT_len, List.length_cons, List.length_nil]
  omega
theorem ccT_len (T : List TN) : (ccT (rightB T 16) T).length ≤ 64 ∧ ∀ x, x ∈ ccT (rightB T 16) T → x.length ≤ 1000000 := by
  cases h : rightB T 16 with
  | false => exact ⟨by simp [ccT], fun x hx => by simp [ccT] at hx⟩
  | true =>
    have hl := rightB_len h
    refine ⟨by simp [ccT]; omega, fun x hx => ?_⟩
    obtain ⟨n, hn, rfl⟩ := List.mem_map.1 hx
    obtain ⟨i, hi, rfl⟩ := List.mem_iff_getElem.1 hn
    have hk := nodeB_kids8 (rightB_node h (i := (i : Int)) ⟨by omega, by omega⟩)
    rw [rd_eq (by omega)] at hk
    simp only [Int.toNat_natCast] at hk
    exact codeT_len8 T _ hk
def valA (T : List TN) : Int := if rightB T 16 = true then valT T T.length 0 else 0
def tskA (T : List TN) : Int := if rightB T 16 = true then (T.length : Int) else 0
def labA (q : List (List Bool)) (T : List TN) : Int := if rightB T q.length = true then labR q T T.length else 0
theorem tell_Value_m (v : Value) (xs : List S_api_Tree) (T : List TN) :
    Sp Try.prog 18 [v] [rsl e_api_Tree v xs, rel2 tnC xs T] (fun _ : Unit => True) (fun _ => .tuple #[.int .i32 (valA T), .bool (rightB T 16)]) (fun _ => []) := by
  have h := tree_Value v xs T
  cases hr : rightB T 16 with
  | true => simp only [hr] at h; simp only [valA, tskA, rrT, ccT, hr, if_true]; exact h
  | false => simp only [hr] at h; simp only [valA, tskA, rrT, ccT, hr, Bool.false_eq_true, if_false]; exact h
theorem tell_Tasks_m (v : Value) (xs : List S_api_Tree) (T : List TN) :
    Sp Try.prog 25 [v] [rsl e_api_Tree v xs, rel2 tnC xs T] (fun _ : Unit => True) (fun _ => .int .i64 (tskA T)) (fun _ => []) := by
  have h := tree_Tasks v xs T
  cases hr : rightB T 16 with
  | true => simp only [hr] at h; simp only [valA, tskA, rrT, ccT, hr, if_true]; exact h
  | false => simp only [hr] at h; simp only [valA, tskA, rrT, ccT, hr, Bool.false_eq_true, if_false]; exact h
theorem tell_Compile_m (v : Value) (xs : List S_api_Tree) (T : List TN) :
    Sp Try.prog 20 [v] [rsl e_api_Tree v xs, rel2 tnC xs T] (fun y : Value × List Value => True) (fun y => .tuple #[y.1, .bool (rightB T 16)]) (fun y => [sl eVal y.1 (rrT (rightB T 16) y.2), rws false e_api_Instr (rrT (rightB T 16) y.2) (ccT (rightB T 16) T)]) := by
  have h := tree_Compile v xs T
  cases hr : rightB T 16 with
  | true => simp only [hr] at h; simp only [valA, tskA, rrT, ccT, hr, if_true]; exact h
  | false => simp only [hr] at h; simp only [valA, tskA, rrT, ccT, hr, Bool.false_eq_true, if_false]; exact h
theorem tell_Value_r (v : Value) (xs : List S_api_Tree) (T : List TN) :
    Sp Try.prog 19 [v] [rsl e_api_Tree v xs, rel2 tnC xs T] (fun _ : Unit => True) (fun _ => .tuple #[.int .i32 (valA T), .bool (rightB T 16)]) (fun _ => []) := by
  have h := ref29_Value v xs T
  cases hr : rightB T 16 with
  | true => simp only [hr] at h; simp only [valA, tskA, rrT, ccT, hr, if_true]; exact h
  | false => simp only [hr] at h; simp only [valA, tskA, rrT, ccT, hr, Bool.false_eq_true, if_false]; exact h
theorem tell_Tasks_r (v : Value) (xs : List S_api_Tree) (T : List TN) :
    Sp Try.prog 26 [v] [rsl e_api_Tree v xs, rel2 tnC xs T] (fun _ : Unit => True) (fun _ => .int .i64 (tskA T)) (fun _ => []) := by
  have h := ref29_Tasks v xs T
  cases hr : rightB T 16 with
  | true => simp only [hr] at h; simp only [valA, tskA, rrT, ccT, hr, if_true]; exact h
  | false => simp only [hr] at h; simp only [valA, tskA, rrT, ccT, hr, Bool.false_eq_true, if_false]; exact h
theorem tell_Compile_r (v : Value) (xs : List S_api_Tree) (T : List TN) :
    Sp Try.prog 21 [v] [rsl e_api_Tree v xs, rel2 tnC xs T] (fun y : Value × List Value => True) (fun y => .tuple #[y.1, .bool (rightB T 16)]) (fun y => [sl eVal y.1 (rrT (rightB T 16) y.2), rws false e_api_Instr (rrT (rightB T 16) y.2) (ccT (rightB T 16) T)]) := by
  have h := ref29_Compile v xs T
  cases hr : rightB T 16 with
  | true => simp only [hr] at h; simp only [valA, tskA, rrT, ccT, hr, if_true]; exact h
  | false => simp only [hr] at h; simp only [valA, tskA, rrT, ccT, hr, Bool.false_eq_true, if_false]; exact h
theorem tell_Label_r (v : Value) (rows : List Value) (q : List (List Bool)) (hl : rows.length = q.length) (hm : q.length ≤ 1000000) (tv : Value) (xs : List S_api_Tree) (T : List TN) :
    Sp Try.prog 23 [v, tv] [rsl eVal v rows, rws true eBool rows q, rsl e_api_Tree tv xs, rel2 tnC xs T] (fun _ : Unit => True) (fun _ => .tuple #[.int .i64 (labA q T), .bool (rightB T q.length)]) (fun _ => []) := by
  have h := ref29_Label v rows q hl hm tv xs T
  cases hr : rightB T q.length with
  | true => simp only [hr] at h; simp only [labA, hr, if_true]; exact h
  | false => simp only [hr] at h; simp only [labA, hr, Bool.false_eq_true, if_false]; exact h
theorem tell_Label_m (p : Nat) (V : LatV) (q : List (List Bool)) (hV : isLat q V) (hk : labOkB q = true) (tv : Value) (xs : List S_api_Tree) (T : List TN) :
    Sp Try.prog 22 [.pointer (some ⟨p, 0, none⟩), tv] [lat p V, rsl e_api_Tree tv xs, rel2 tnC xs T] (fun _ : Unit => True) (fun _ => .tuple #[.int .i64 (labA q T), .bool (rightB T q.length)]) (fun _ => []) := by
  have h := tree_Label p V hV.ok tv xs T
  rw [show V.leq.length = q.length from by rw [hV.leq, rowsL_length]] at h
  cases hr : rightB T q.length with
  | true =>
    have e : labT V T T.length = labR q T T.length := lab_same hV hk (fun n hn => by
      obtain ⟨i, hi, rfl⟩ := List.mem_iff_getElem.1 hn
      have := (nodeB_F (rightB_node hr (i := (i : Int)) ⟨by omega, by omega⟩)).lab
      rw [rd_eq (by omega)] at this
      simpa using this) (rightB_len hr).1
    simp only [hr, e] at h; simp only [labA, hr, if_true]; exact h
  | false => simp only [hr] at h; simp only [labA, hr, Bool.false_eq_true, if_false]; exact h
-- FN confidant/confidantlaw29.TreeTells
theorem law_TreeTells (v0 v1 : Value) (xs : List S_api_Tree) (T : List TN) (l : List Int) (labels k what v kind : Int) (hl : ∀ x, x ∈ l → 0 ≤ x ∧ x ≤ 255) (hlab : 0 ≤ labels ∧ labels ≤ 255) (hk : 0 ≤ k ∧ k ≤ 255) (hw : 0 ≤ what ∧ what ≤ 255) (hv : in64 v) (hkd : 0 ≤ kind ∧ kind ≤ 255) :
    Sp Try.prog 3 [v0, v1, .int .u8 labels, .int .u8 k, .int .u8 what, .int .i64 v, .int .u8 kind] [rsl e_api_Tree v0 xs, rel2 tnC xs T, rsl (eInt .u8) v1 l] (fun _ : Unit => True) (fun _ => .bool true) (fun _ => []) := by
  refine Sp.intro (n := 175) Try.func3 rfl rfl fun w0 R => ?_
  dsimp only [List.cons_append, List.nil_append, envOf]
  refine go ?_
  with_reducible refine Ol.g ?_
  refine Ol.eff rfl rfl rfl (Eff.call (R := ?_) law29_known rfl ?_ ?_)
  rotate_left
  · exact tkl_
  rintro _ -
  dsimp only [List.cons_append, List.nil_append]
  refine go ?_
  with_reducible refine Ol.g ?_
  refine Ol.eff rfl rfl rfl (Eff.call (R := ?_) (small_Tree v0 xs T) rfl ?_ ?_)
  rotate_left
  · exact tkl_
  rintro (_ | _) -
  · dsimp only [List.cons_append, List.nil_append]
    refine go ?_
    refine Dn.ret1 rfl rfl fun w hs => ⟨(), ?_, by trivial, by first | exact hs | (refine hs.conv ?_; exact ent_)⟩
    rfl
  dsimp only [List.cons_append, List.nil_append]
  refine go ?_
  refine Cd.condP rfl (fun h40 => ?_) (fun h40 => ?_)
  · refine go ?_
    refine Dn.ret1 rfl rfl fun w hs => ⟨(), ?_, by trivial, by first | exact hs | (refine hs.conv ?_; exact ent_)⟩
    rfl
  refine go ?_
  with_reducible refine Ol.g ?_
  refine Ol.eff rfl rfl rfl (Eff.call (R := ?_) (seat_Lattice kind hkd) rfl ?_ ?_)
  rotate_left
  · exact tkl_
  rintro ⟨qv, rows⟩ -
  dsimp only [List.cons_append, List.nil_append]
  have hlok := seat_ok (kind % 6)
  have hlab2 := lab_ok (kind % 6)
  generalize seatR (kind % 6) = q at hlok hlab2
  have hsq := lat_sq3 hlok
  have hle := sq_le hsq
  first | (with_reducible refine Cd.g ?_; refine Cd.know (fun w_ hw_ => rws_len (Tk.sat (A := (rws false eBool rows q)) (by exact tk_) hw_)) fun hrl => ?_) | (with_reducible refine Ol.g ?_; refine Ol.know (fun w_ hw_ => rws_len (Tk.sat (A := (rws false eBool rows q)) (by exact tk_) hw_)) fun hrl => ?_) | (with_reducible refine Dn.g ?_; refine Dn.know (fun w_ hw_ => rws_len (Tk.sat (A := (rws false eBool rows q)) (by exact tk_) hw_)) fun hrl => ?_)
  first | (with_reducible refine Cd.g ?_; refine Cd.share (A := (sl eVal qv rows)) (by exact tk_) ?_) | (with_reducible refine Ol.g ?_; refine Ol.share (A := (sl eVal qv rows)) (by exact tk_) ?_) | (with_reducible refine Dn.g ?_; refine Dn.share (A := (sl eVal qv rows)) (by exact tk_) ?_)
  first | (with_reducible refine Cd.g ?_; refine Cd.share (A := (rws false eBool rows q)) (by exact tk_) ?_) | (with_reducible refine Ol.g ?_; refine Ol.share (A := (rws false eBool rows q)) (by exact tk_) ?_) | (with_reducible refine Dn.g ?_; refine Dn.share (A := (rws false eBool rows q)) (by exact tk_) ?_)
  refine go ?_
  with_reducible refine Ol.g ?_
  refine Ol.eff rfl rfl rfl (Eff.call (R := ?_) (lattice_New qv rows q hrl (by omega)) rfl ?_ ?_)
  rotate_left
  · exact tkl_
  rintro (_ | ⟨lp, V⟩) hx
  · exact absurd hx (by show ¬ latOk _ = false; rw [hlok]; simp)
  have hV : isLat q V := hx.2
  dsimp only [newV, newH, List.cons_append, List.nil_append]
  refine go ?_
  with_reducible refine Ol.g ?_
  refine Ol.eff rfl rfl rfl (Eff.call (R := ?_) (seat_Tree v1 l (labels % 18) hl (by omega) (by omega)) rfl ?_ ?_)
  rotate_left
  · exact tkl_
  rintro ⟨gk, tv, ts, S⟩ hTV
  dsimp only [List.cons_append, List.nil_append] at hTV ⊢
  first | (with_reducible refine Cd.g ?_; refine Cd.share (A := (sl e_api_Tree tv ts)) (by exact tk_) ?_) | (with_reducible refine Ol.g ?_; refine Ol.share (A := (sl e_api_Tree tv ts)) (by exact tk_) ?_) | (with_reducible refine Dn.g ?_; refine Dn.share (A := (sl e_api_Tree tv ts)) (by exact tk_) ?_)
  have hSl := hTV.len
  have hkid : ∀ n, n ∈ S → n.kids.length ≤ 1000 := fun n hn => by
    obtain ⟨i, hi, rfl⟩ := List.mem_iff_getElem.1 hn
    have := nodeB_kids8 (hTV.node i hi)
    rw [rd_eq (by omega)] at this
    simp only [Int.toNat_natCast] at this
    omega
  have hkin : ∀ i : Nat, i < S.length → (rd S i).kids.length ≤ 1000 ∧ ∀ k : Nat, k < (rd S i).kids.length → 0 ≤ rd (rd S i).kids k ∧ rd (rd S i).kids k < S.length := fun i hi =>
    ⟨by have := nodeB_kids8 (hTV.node i hi); omega, fun k hk => by have := (nodeB_F (hTV.node i hi)).kids k hk; omega⟩
  refine go ?_
  refine Cd.draw2 [[], [], [], [], [], [], [2, 3, 4, 5], [], [], [], [], [10], [2, 3, 4, 5, 6, 7, 8, 9, 10, 11], [], [], [], [15], [], [17], [15, 16, 17, 18], [2, 3, 4, 5, 6, 7, 8, 9, 10, 11, 12, 13, 14, 15, 16, 17, 18, 19], [0, 1, 2, 3, 4, 5, 6, 7, 8, 9, 10, 11, 12, 13, 14, 15, 16, 17, 18, 19, 20], [0, 1, 2, 3, 4, 5, 6, 7, 8, 9, 10, 11, 12, 13, 14, 15, 16, 17, 18, 19, 20, 21], []] [6, 12, 20, 21] [] (td := [(0, .fresh), (1, .fresh), (2, .fresh), (3, .fresh), (4, .fresh), (5, .fresh), (7, .fresh), (8, .fresh), (9, .fresh), (10, .fresh), (11, .fresh), (13, .fresh), (14, .fresh), (15, .fresh), (16, .fresh), (17, .fresh), (18, .fresh), (19, .fresh), (23, .fresh)]) mixed (by kernel_rfl) (by kernel_rfl) (by decide) (by decide) rfl (by kernel_rfl) ?_
  refine god2 ?_
  refine Sg2.one (td := [(0, .old), (1, .old), (7, .old), (8, .old), (9, .old), (10, .old), (11, .old), (13, .old), (14, .old), (15, .old), (16, .old), (17, .old), (18, .old), (19, .old), (23, .old)]) rfl (by kernel_rfl) fun F6_ => ?_
  dsimp only [List.cons_append, List.nil_append]
  refine SpOp.eff rfl rfl rfl rfl rfl (Eff.call (R := ?_) (law29_bent tv ts S k what v hk hw (by omega) hkid) rfl ?_ ?_)
  rotate_left
  · exact tkl_
  rintro ⟨tv2, ts2, S2⟩ -
  dsimp only [List.cons_append, List.nil_append]
  refine Sn.ok ?_
  refine god2 ?_
  refine Sg2.one (td := [(0, .old), (1, .old), (13, .old), (14, .old), (15, .old), (16, .old), (17, .old), (18, .old), (19, .old), (23, .old)]) rfl (by kernel_rfl) fun F12_ => ?_
  dsimp only [List.cons_append, List.nil_append]
  refine SpOp.eff rfl rfl rfl rfl rfl (Eff.call (R := ?_) (law29_bent tv ts S k what (andI .i64 v 15) hk hw (by omega) hkid) rfl ?_ ?_)
  rotate_left
  · exact tkl_
  rintro ⟨tv3, ts3, S3⟩ -
  dsimp only [List.cons_append, List.nil_append]
  refine Sn.ok ?_
  refine god2 ?_
  refine Sg2.one (td := [(0, .old), (1, .old), (23, .old)]) rfl (by kernel_rfl) fun F20_ => ?_
  dsimp only [List.cons_append, List.nil_append]
  refine SpOp.eff rfl rfl rfl rfl rfl (Eff.call (R := ?_) (seat_Climb qv rows q hrl (by omega) tv ts S (k % rows.length) (by omega) hkin) rfl ?_ ?_)
  rotate_left
  · exact tkl_
  rintro ⟨tv4, ts4, S4⟩ -
  dsimp only [List.cons_append, List.nil_append]
  refine Sn.ok ?_
  refine god2 ?_
  refine Sg2.one (td := [(22, .fresh), (23, .old)]) rfl (by kernel_rfl) fun F21_ => ?_
  dsimp only [List.cons_append, List.nil_append]
  (with_reducible first|refine SpOp.eff rfl rfl rfl rfl rfl (Eff.x (Qx.build rfl) ?_)|refine SpOp.eff rfl rfl rfl rfl rfl (Eff.alloc fun _=>?_)|refine SpOp.eff rfl rfl rfl rfl rfl (Eff.box fun _=>?_)|refine SpOp.eff rfl rfl rfl rfl rfl (Eff.bslice rfl rfl fun _=>?_)|(refine SpOp.eff rfl rfl rfl rfl rfl (Eff.append1 rfl ?_ fun _=>?_);exact pre_)|refine SpOp.eff0 rfl rfl rfl rfl (Eff.store rfl rfl ?_)|(refine SpOp.eff0 rfl rfl rfl rfl (Eff.storeE rfl ?_ ?_);exact pre_))
  rename_i vt
  refine Sn.ok ?_
  refine god2 ?_
  refine go ?_
  first | (with_reducible refine Cd.g ?_; refine Cd.share (A := (sl e_api_Tree tv2 ts2)) (by exact tk_) ?_) | (with_reducible refine Ol.g ?_; refine Ol.share (A := (sl e_api_Tree tv2 ts2)) (by exact tk_) ?_) | (with_reducible refine Dn.g ?_; refine Dn.share (A := (sl e_api_Tree tv2 ts2)) (by exact tk_) ?_)
  first | (with_reducible refine Cd.g ?_; refine Cd.share (A := (sl e_api_Tree tv3 ts3)) (by exact tk_) ?_) | (with_reducible refine Ol.g ?_; refine Ol.share (A := (sl e_api_Tree tv3 ts3)) (by exact tk_) ?_) | (with_reducible refine Dn.g ?_; refine Dn.share (A := (sl e_api_Tree tv3 ts3)) (by exact tk_) ?_)
  first | (with_reducible refine Cd.g ?_; refine Cd.share (A := (sl e_api_Tree tv4 ts4)) (by exact tk_) ?_) | (with_reducible refine Ol.g ?_; refine Ol.share (A := (sl e_api_Tree tv4 ts4)) (by exact tk_) ?_) | (with_reducible refine Dn.g ?_; refine Dn.share (A := (sl e_api_Tree tv4 ts4)) (by exact tk_) ?_)
  refine Cd.loop (fun i : Nat => i ≤ 5) (fun i => 5 - i) (fun i => [(2, .int .u8 labels), (5, .int .i64 v), (15, qv), (16, .pointer (some ⟨lp, 0, none⟩)), (78, vt), (79, .int .i64 (([v0, tv, tv2, tv3, tv4] : List Value).length : Nat)), (80, .int .i64 i)])
    (fun _ => sl eVal vt [v0, tv, tv2, tv3, tv4] :: rsl e_api_Tree tv4 ts4 :: rel2 tnC ts4 S4 :: rsl e_api_Tree tv3 ts3 :: rel2 tnC ts3 S3 :: rsl e_api_Tree tv2 ts2 :: rel2 tnC ts2 S2 :: rsl e_api_Tree tv ts :: rel2 tnC ts S :: lat lp V :: rws true eBool rows q :: rsl eVal qv rows :: rsl e_api_Tree v0 xs :: rel2 tnC xs T :: rsl (eInt .u8) v1 l :: R) 0 (by omega) ?_ ?_ fun i hi => ?_
  · repeat(first|exact Env.le_nil _|(refine Env.le_cons rfl ?_ ?_;first|rfl|(simp;done)|exact congrArg _ (by omega)|rotate_left))
  · exact ent_
  refine go ?_
  refine Cd.condP rfl (fun h => ?_) (fun h => ?_)
  rotate_left
  · refine go ?_
    refine Dn.ret1 rfl rfl fun w' hs => ⟨(), rfl, trivial, hs.conv (by exact ent_)⟩
  have hi5 : i < 5 := by
    have : (([v0, tv, tv2, tv3, tv4] : List Value).length : Nat) = 5 := rfl
    omega
  obtain ⟨ys, U, hH⟩ : ∃ ys U, ents (sl eVal vt [v0, tv, tv2, tv3, tv4] :: rsl e_api_Tree tv4 ts4 :: rel2 tnC ts4 S4 :: rsl e_api_Tree tv3 ts3 :: rel2 tnC ts3 S3 :: rsl e_api_Tree tv2 ts2 :: rel2 tnC ts2 S2 :: rsl e_api_Tree tv ts :: rel2 tnC ts S :: lat lp V :: rws true eBool rows q :: rsl eVal qv rows :: rsl e_api_Tree v0 xs :: rel2 tnC xs T :: rsl (eInt .u8) v1 l :: R) (rsl e_api_Tree (rd [v0, tv, tv2, tv3, tv4] (i : Int)) ys :: rel2 tnC ys U :: sl eVal vt [v0, tv, tv2, tv3, tv4] :: rsl e_api_Tree tv4 ts4 :: rel2 tnC ts4 S4 :: rsl e_api_Tree tv3 ts3 :: rel2 tnC ts3 S3 :: rsl e_api_Tree tv2 ts2 :: rel2 tnC ts2 S2 :: rsl e_api_Tree tv ts :: rel2 tnC ts S :: lat lp V :: rws true eBool rows q :: rsl eVal qv rows :: rsl e_api_Tree v0 xs :: rel2 tnC xs T :: rsl (eInt .u8) v1 l :: R) := by
    have hc : i = 0 ∨ i = 1 ∨ i = 2 ∨ i = 3 ∨ i = 4 := by omega
    rcases hc with rfl | rfl | rfl | rfl | rfl
    · refine ⟨xs, T, ?_⟩
      rw [show rd [v0, tv, tv2, tv3, tv4] _ = v0 from rfl]
      exact ents.trans (Tk.more (A := rel2 tnC xs T) (went.refl _) (by exact tk_)) (ents.trans (Tk.more (A := rsl e_api_Tree v0 xs) (went.refl _) (by exact tk_)) (by exact ent_))
    · refine ⟨ts, S, ?_⟩
      rw [show rd [v0, tv, tv2, tv3, tv4] _ = tv from rfl]
      exact ents.trans (Tk.more (A := rel2 tnC ts S) (went.refl _) (by exact tk_)) (ents.trans (Tk.more (A := rsl e_api_Tree tv ts) (went.refl _) (by exact tk_)) (by exact ent_))
    · refine ⟨ts2, S2, ?_⟩
      rw [show rd [v0, tv, tv2, tv3, tv4] _ = tv2 from rfl]
      exact ents.trans (Tk.more (A := rel2 tnC ts2 S2) (went.refl _) (by exact tk_)) (ents.trans (Tk.more (A := rsl e_api_Tree tv2 ts2) (went.refl _) (by exact tk_)) (by exact ent_))
    · refine ⟨ts3, S3, ?_⟩
      rw [show rd [v0, tv, tv2, tv3, tv4] _ = tv3 from rfl]
      exact ents.trans (Tk.more (A := rel2 tnC ts3 S3) (went.refl _) (by exact tk_)) (ents.trans (Tk.more (A := rsl e_api_Tree tv3 ts3) (went.refl _) (by exact tk_)) (by exact ent_))
    · refine ⟨ts4, S4, ?_⟩
      rw [show rd [v0, tv, tv2, tv3, tv4] _ = tv4 from rfl]
      exact ents.trans (Tk.more (A := rel2 tnC ts4 S4) (went.refl _) (by exact tk_)) (ents.trans (Tk.more (A := rsl e_api_Tree tv4 ts4) (went.refl _) (by exact tk_)) (by exact ent_))
  refine Cd.conv hH ?_
  refine go ?_
  generalize hyv : rd [v0, tv, tv2, tv3, tv4] (i : Int) = y
  obtain ⟨hcl, hcx⟩ := ccT_len U
  with_reducible refine Ol.g ?_
  refine Ol.eff rfl rfl rfl (Eff.call (R := ?_) (tell_Value_m y ys U) rfl ?_ ?_)
  rotate_left
  · exact tkl_
  rintro _ -
  dsimp only [List.cons_append, List.nil_append]
  refine go ?_
  with_reducible refine Ol.g ?_
  refine Ol.eff rfl rfl rfl (Eff.call (R := ?_) (tell_Value_r y ys U) rfl ?_ ?_)
  rotate_left
  · exact tkl_
  rintro _ -
  dsimp only [List.cons_append, List.nil_append]
  refine go ?_
  with_reducible refine Ol.g ?_
  refine Ol.eff rfl rfl rfl (Eff.call (R := ?_) (tell_Compile_m y ys U) rfl ?_ ?_)
  rotate_left
  · exact tkl_
  rintro ⟨m1, rs1⟩ -
  dsimp only [List.cons_append, List.nil_append]
  first | (with_reducible refine Cd.g ?_; refine Cd.share (A := (rws false e_api_Instr _ _)) (by exact tk_) ?_) | (with_reducible refine Ol.g ?_; refine Ol.share (A := (rws false e_api_Instr _ _)) (by exact tk_) ?_) | (with_reducible refine Dn.g ?_; refine Dn.share (A := (rws false e_api_Instr _ _)) (by exact tk_) ?_)
  refine go ?_
  with_reducible refine Ol.g ?_
  refine Ol.eff rfl rfl rfl (Eff.call (R := ?_) (tell_Compile_r y ys U) rfl ?_ ?_)
  rotate_left
  · exact tkl_
  rintro ⟨m2, rs2⟩ -
  dsimp only [List.cons_append, List.nil_append]
  first | (with_reducible refine Cd.g ?_; refine Cd.share (A := (rws false e_api_Instr _ _)) (by exact tk_) ?_) | (with_reducible refine Ol.g ?_; refine Ol.share (A := (rws false e_api_Instr _ _)) (by exact tk_) ?_) | (with_reducible refine Dn.g ?_; refine Dn.share (A := (rws false e_api_Instr _ _)) (by exact tk_) ?_)
  refine go ?_
  with_reducible refine Ol.g ?_
  refine Ol.eff rfl rfl rfl (Eff.call (R := ?_) (tell_Label_m lp V q hV hlab2 y ys U) rfl ?_ ?_)
  rotate_left
  · exact tkl_
  rintro _ -
  dsimp only [List.cons_append, List.nil_append]
  refine go ?_
  with_reducible refine Ol.g ?_
  refine Ol.eff rfl rfl rfl (Eff.call (R := ?_) (tell_Label_r qv rows q hrl (by omega) y ys U) rfl ?_ ?_)
  rotate_left
  · exact tkl_
  rintro _ -
  dsimp only [List.cons_append, List.nil_append]
  refine go ?_
  rw [decide_eq_false (show ¬ valA U ≠ valA U from fun h => h rfl)]
  refine go ?_
  rw [neb]
  refine go ?_
  rw [neb]
  refine go ?_
  with_reducible refine Ol.g ?_
  refine Ol.eff rfl rfl rfl (Eff.call (R := ?_) (ref5_Same m1 m2 (rrT (rightB U 16) rs1) (rrT (rightB U 16) rs2) (ccT (rightB U 16) U) (by omega) hcx) rfl ?_ ?_)
  rotate_left
  · exact tkl_
  rintro _ -
  dsimp only [List.cons_append, List.nil_append]
  refine go ?_
  rw [decide_eq_false (show ¬ labA q U ≠ labA q U from fun h => h rfl)]
  refine go ?_
  rw [neb]
  refine go ?_
  with_reducible refine Ol.g ?_
  refine Ol.eff rfl rfl rfl (Eff.call (R := ?_) (tell_Tasks_m y ys U) rfl ?_ ?_)
  rotate_left
  · exact tkl_
  rintro _ -
  dsimp only [List.cons_append, List.nil_append]
  refine go ?_
  with_reducible refine Ol.g ?_
  refine Ol.eff rfl rfl rfl (Eff.call (R := ?_) (tell_Tasks_r y ys U) rfl ?_ ?_)
  rotate_left
  · exact tkl_
  rintro _ -
  dsimp only [List.cons_append, List.nil_append]
  refine go ?_
  rw [decide_eq_false (show ¬ tskA U ≠ tskA U from fun h => h rfl)]
  refine go ?_
  with_reducible refine Ol.g ?_
  refine Ol.eff rfl rfl rfl (Eff.call (R := ?_) (tree_Right y ys U (labels % 18)) rfl ?_ ?_)
  rotate_left
  · exact tkl_
  rintro _ -
  dsimp only [List.cons_append, List.nil_append]
  refine go ?_
  with_reducible refine Ol.g ?_
  refine Ol.eff rfl rfl rfl (Eff.call (R := ?_) (ref29_Right y ys U (labels % 18)) rfl ?_ ?_)
  rotate_left
  · exact tkl_
  rintro _ -
  dsimp only [List.cons_append, List.nil_append]
  refine go ?_
  rw [neb]
  refine go ?_
  with_reducible refine Ol.g ?_
  refine Ol.eff rfl rfl rfl (Eff.call (R := ?_) (tree_Right y ys U v) rfl ?_ ?_)
  rotate_left
  · exact tkl_
  rintro _ -
  dsimp only [List.cons_append, List.nil_append]
  refine go ?_
  with_reducible refine Ol.g ?_
  refine Ol.eff rfl rfl rfl (Eff.call (R := ?_) (ref29_Right y ys U v) rfl ?_ ?_)
  rotate_left
  · exact tkl_
  rintro _ -
  dsimp only [List.cons_append, List.nil_append]
  refine go ?_
  rw [neb]
  refine go ?_
  refine Dn.round (i + 1) (by omega) (by omega) ?_ (by exact ent_)
  repeat(first|exact Env.le_nil _|(refine Env.le_cons rfl ?_ ?_;first|rfl|(simp;done)|exact congrArg _ (by omega)|rotate_left))
/-! the given trees as plain data -/
theorem okS_node {w : World} {x : S_api_Tree} (h : ok_api_Tree w x) : ∃ n : TN, tnC x n (allT w) := by
  obtain ⟨_, _, _, ks, h1, _⟩ := h
  refine ⟨⟨x.f_Kind, x.f_Value, x.f_Label, ks⟩, (), allT_stars fun A hA => ?_⟩
  rcases List.mem_cons.1 hA with rfl | hA
  · exact ⟨rfl, rfl, rfl⟩
  · rw [List.mem_singleton] at hA; subst hA; exact h1
theorem okS_tree {w : World} : ∀ xs : List S_api_Tree, (∀ x, x ∈ xs → ok_api_Tree w x) → ∃ T, rel2 tnC xs T (allT w)
  | [], _ => ⟨[], allT w, allT w, allT_ok w, allT_add w, rfl, trivial⟩
  | x :: xs, h => by
    obtain ⟨n, hn⟩ := okS_node (h x List.mem_cons_self)
    obtain ⟨T, f, g, k, e, hl, hr⟩ := okS_tree xs fun y hy => h y (List.mem_cons_of_mem _ hy)
    have hl' : xs.length = T.length := hl
    refine ⟨n :: T, allT w, allT w, allT_ok w, allT_add w, by simp [hl'], ⟨allT w, g, ?_, ?_, hn, hr⟩⟩
    · intro b x y hx hy
      have hy' : allT w b = some y := by rw [e]; exact Hp.add_right k hy
      rw [hx] at hy'
      exact ⟨Option.some.inj hy', (allT_ok w b x x hx hx).2⟩
    · funext b
      cases hb : allT w b with
      | none =>
        rw [Hp.add_none hb]
        cases hg : g b with
        | none => rfl
        | some y => have : allT w b = some y := by rw [e]; exact Hp.add_right k hg
                    rw [hb] at this; cases this
      | some y => rw [Hp.add_left hb]
end Go.Proofs.Ytcgjmlapmdbnmaa

