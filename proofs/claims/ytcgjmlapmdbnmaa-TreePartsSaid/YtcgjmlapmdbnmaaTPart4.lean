/- Contracts of functions of the program, proved in a small separation logic. Conditions: those that each theorem states. -/
import Derived.Test.YtcgjmlapmdbnmaaTPart3
import Derived.Test.YtcgjmlapmdbnmaaX2
namespace Go.Proofs.Ytcgjmlapmdbnmaa
open Go Go.Sl
set_option maxHeartbeats 4000000
set_option maxRecDepth 100000
set_option linter.unusedVariables false
/-- A node whose kids' slice is its own. -/
def tnO (t : S_api_Tree) (n : TN) : HProp := pk (fun _ : Unit => t.f_Kind = n.kind ∧ t.f_Value = n.value ∧ t.f_Label = n.label) (fun _ => [sl (eInt .i64) t.f_Kids n.kids])
theorem Share.ex {α : Sort _} {f g : α → HProp} (S : ∀ x, Share (f x) (g x)) : Share (ex f) (ex g) :=
  ⟨fun h ⟨x, hx⟩ => by
    obtain ⟨h', s, a, fr⟩ := (S x).own h hx
    exact ⟨h', s, ⟨x, a⟩, fr⟩, fun h ⟨x, hx⟩ fr => ⟨x, (S x).to h hx fr⟩⟩
instance tnO_share (t : S_api_Tree) (n : TN) : Share (tnO t n) (tnC t n) := Share.ex fun _ => Share.cons _ _ _ _
instance tnO_share2 (l : List S_api_Tree) (q : List TN) : Share (rel2 tnO l q) (rel2 tnC l q) := by
  have h1 : Share (fun _ => l.length = q.length : HProp) (fun _ => l.length = q.length) := Share.prop _
  have h2 : ∀ z : List (S_api_Tree × TN), Share (stars (z.map fun p => tnO p.1 p.2)) (stars (z.map fun p => tnC p.1 p.2)) := by
    intro z
    induction z with
    | nil => exact Share.emp
    | cons a z ih =>
      have := tnO_share a.1 a.2
      exact Share.star _ _ _ _
  have := h2 (l.zip q)
  exact Share.star _ _ _ _
theorem ents.relsetH {α β : Type} [Dfl α] [Dfl β] {R : α → β → HProp} {l : List α} {q : List β} {i : Int} {x : α} {y : β} {H H1 H2 L : List HProp} (h : 0 ≤ i ∧ i < q.length) (hl : l.length = q.length) (t : Tk H (R x y) H1) (t2 : Tk H1 (rel2H R i.toNat l q) H2) (k : ents H2 L) : ents H (rel2 R (l.set i.toNat x) (q.set i.toNat y) :: L) := by
  rw [← rel2H_set (x := x)] at t2
  have e : rd (l.set i.toNat x) i = x := by rw [rd_eq (by simp; omega)]; simp
  exact ents.relput h.1 (by rw [e]; exact t) t2 k
theorem nodeB_k8 {T : List TN} {i labels : Int} (h : nodeB T i labels = true) : (rd T i).kids.length ≤ 8 := by
  unfold nodeB at h
  simp only [Bool.and_eq_true] at h
  have h2 := h.2.2
  unfold kindB at h2
  split at h2
  · have := of_decide_eq_true h2; omega
  split at h2
  · have := of_decide_eq_true h2; omega
  split at h2
  · have := of_decide_eq_true h2; omega
  · cases h2
structure PZ where
  n : Nat
  k : Nat
  pv : Value
  P : List Int
  ov : Value
  xs : List S_api_Tree
  O : List TN
-- FN confidant/confidantlaw29.part
theorem law29_part (tv : Value) (ts : List S_api_Tree) (T : List TN) (labels r : Int) (hT : TV T labels) (hr : 0 ≤ r ∧ r < T.length) :
    Sp Try.prog 31 [tv, .int .i64 r] [rsl e_api_Tree tv ts, rel2 tnC ts T] (fun z : PZ => PartI T r z.P z.O z.P.length 0) (fun z => z.ov) (fun z => [sl e_api_Tree z.ov z.xs, rel2 tnC z.xs z.O]) := by
  have hTl := hT.len
  refine Sp.intro (n := 96) Try.func31 rfl rfl fun w0 R => ?_
  dsimp only [List.cons_append, List.nil_append, envOf]
  first | (with_reducible refine Cd.g ?_; refine Cd.know (fun w_ hw_ => rel2_len (Tk.sat (A := (rel2 tnC ts T)) (by exact tk_) hw_)) fun hx => ?_) | (with_reducible refine Ol.g ?_; refine Ol.know (fun w_ hw_ => rel2_len (Tk.sat (A := (rel2 tnC ts T)) (by exact tk_) hw_)) fun hx => ?_) | (with_reducible refine Dn.g ?_; refine Dn.know (fun w_ hw_ => rel2_len (Tk.sat (A := (rel2 tnC ts T)) (by exact tk_) hw_)) fun hx => ?_)
  refine go ?_
  refine Ol.eff rfl rfl rfl (Eff.bslice rfl rfl fun pv0 => ?_)
  refine Ol.conv (Tk.more (p := rel2_pers (fun _ _ => inferInstance) _ _) (A := rel2 tnC ts T) (rel2_gotI (i := r) hr.1 hr.2) (by exact tk_)) ?_
  first | (with_reducible refine Cd.g ?_; refine Cd.pk (A := (tnC (rd ts r) (rd T r))) rfl (by exact tk_) fun q0 hq0 => ?_) | (with_reducible refine Ol.g ?_; refine Ol.pk (A := (tnC (rd ts r) (rd T r))) rfl (by exact tk_) fun q0 hq0 => ?_) | (with_reducible refine Dn.g ?_; refine Dn.pk (A := (tnC (rd ts r) (rd T r))) rfl (by exact tk_) fun q0 hq0 => ?_)
  dsimp only [List.cons_append, List.nil_append]
  refine go ?_
  refine Cd.drawL (l := [_, _, _, _, _, _, _, _, _, _, _, _, _, _, _, _, _]) (z := _) [[], [], [0, 1], [0, 1, 2], [0, 1, 2, 3], [], [], [5, 6], [5, 6, 7], [5, 6, 7, 8], [], [], [10, 11], [10, 11, 12], [10, 11, 12, 13], [0, 1, 2, 3, 4, 5, 6, 7, 8, 9, 10, 11, 12, 13, 14], [0, 1, 2, 3, 4, 5, 6, 7, 8, 9, 10, 11, 12, 13, 14, 15]] [16] [] (td := [(0, .fresh), (1, .fresh), (2, .fresh), (3, .fresh), (4, .fresh), (5, .fresh), (6, .fresh), (7, .fresh), (8, .fresh), (9, .fresh), (10, .fresh), (11, .fresh), (12, .fresh), (13, .fresh), (14, .fresh), (15, .fresh)]) rfl mixed (by kernel_rfl) (by kernel_rfl) (by kernel_rfl) (by decide) (by decide) rfl (by kernel_rfl) ?_
  refine god2 ?_
  refine Sg2.one (td := []) rfl (by kernel_rfl) fun F16_ => ?_
  dsimp only [List.cons_append, List.nil_append]
  (with_reducible first|refine SpOp.eff rfl rfl rfl rfl rfl (Eff.x (Qx.build rfl) ?_)|refine SpOp.eff rfl rfl rfl rfl rfl (Eff.alloc fun _=>?_)|refine SpOp.eff rfl rfl rfl rfl rfl (Eff.box fun _=>?_)|refine SpOp.eff rfl rfl rfl rfl rfl (Eff.bslice rfl rfl fun _=>?_)|(refine SpOp.eff rfl rfl rfl rfl rfl (Eff.append1 rfl ?_ fun _=>?_);exact pre_)|refine SpOp.eff0 rfl rfl rfl rfl (Eff.store rfl rfl ?_)|(refine SpOp.eff0 rfl rfl rfl rfl (Eff.storeE rfl ?_ ?_);exact pre_))
  rename_i ov0
  refine Sn.ok ?_
  refine god2 ?_
  refine go ?_
  refine Cd.loop (fun z : PZ => PartI T r z.P z.O z.n 0 ∧ z.n ≤ z.P.length ∧ z.xs.length = z.O.length) (fun z => T.length - z.n) (fun z => [(0, tv), (5, z.pv), (6, z.ov), (7, .int .i64 z.n)])
    (fun z => sl (eInt .i64) z.pv z.P :: sl e_api_Tree z.ov z.xs :: rel2 tnO z.xs z.O :: rsl e_api_Tree tv ts :: rel2 tnC ts T :: R) ⟨0, 0, pv0, [r], ov0, [⟨(rd ts r).f_Kind, (rd ts r).f_Value, (rd ts r).f_Label, .slice none 0 0⟩], [⟨(rd T r).kind, (rd T r).value, (rd T r).label, []⟩]⟩ ⟨PartI.start hr, by simp, rfl⟩ ?_ ?_ ?_
  · repeat(first|exact Env.le_nil _|(refine Env.le_cons rfl ?_ ?_;first|rfl|(simp;done)|exact congrArg _ (by omega)|rotate_left))
  · exact ents.cons (by exact tk_) (ents.cons (by exact tk_) (ents.rsnoc (l := []) (q := []) (Tk.pk (A := tnO ⟨(rd ts r).f_Kind, (rd ts r).f_Value, (rd ts r).f_Label, .slice none 0 0⟩ ⟨(rd T r).kind, (rd T r).value, (rd T r).label, []⟩) rfl () hq0 (by exact tkl_)) Tk.free (by exact ent_)))
  rintro ⟨n, k0, pv, P, ov, xs, O⟩ ⟨hI, hn, hxl⟩
  dsimp only at hI hn hxl ⊢
  have hsh := hI.short
  refine go ?_
  refine Cd.condP rfl (fun h => ?_) (fun h => ?_)
  rotate_left
  · have hnn : n = P.length := by omega
    refine go ?_
    first | (with_reducible refine Cd.g ?_; refine Cd.share (A := (rel2 tnO xs O)) (by exact tk_) ?_) | (with_reducible refine Ol.g ?_; refine Ol.share (A := (rel2 tnO xs O)) (by exact tk_) ?_) | (with_reducible refine Dn.g ?_; refine Dn.share (A := (rel2 tnO xs O)) (by exact tk_) ?_)
    refine go ?_
    refine Dn.ret1 rfl rfl fun w hs => ⟨⟨n, 0, pv, P, ov, xs, O⟩, rfl, by subst hnn; exact hI, hs.conv (by exact ent_)⟩
  have hn2 : n < P.length := by omega
  refine go ?_
  refine Cd.cutX (α := { z : PZ // PartI T r z.P z.O (n + 1) 0 ∧ n + 1 ≤ z.P.length ∧ z.xs.length = z.O.length }) 2 (fun z => [(0, tv), (5, z.1.pv), (6, z.1.ov), (7, .int .i64 n)])
    (fun z => sl (eInt .i64) z.1.pv z.1.P :: sl e_api_Tree z.1.ov z.1.xs :: rel2 tnO z.1.xs z.1.O :: rsl e_api_Tree tv ts :: rel2 tnC ts T :: R) (fun K kk _ => ?_) ?_
  rotate_left
  · rintro ⟨⟨n', k', pv', P', ov', xs', O'⟩, hI', hn', hx'⟩
    dsimp only at hI' hn' hx' ⊢
    refine go ?_
    refine Dn.round ⟨n + 1, 0, pv', P', ov', xs', O'⟩ ⟨hI', hn', hx'⟩ (by dsimp only; omega) ?_ (by exact ent_)
    repeat(first|exact Env.le_nil _|(refine Env.le_cons rfl ?_ ?_;first|rfl|(simp;done)|exact congrArg _ (by omega)|rotate_left))
  refine Cd.loop (fun z : PZ => PartI T r z.P z.O n z.k ∧ n < z.P.length ∧ z.k ≤ (rd T (rd z.P n)).kids.length ∧ z.xs.length = z.O.length) (fun z => 8 - z.k) (fun z => [(0, tv), (5, z.pv), (6, z.ov), (7, .int .i64 n), (8, .int .i64 z.k)])
    (fun z => sl (eInt .i64) z.pv z.P :: sl e_api_Tree z.ov z.xs :: rel2 tnO z.xs z.O :: rsl e_api_Tree tv ts :: rel2 tnC ts T :: R) ⟨n, 0, pv, P, ov, xs, O⟩ ⟨hI, hn2, by simp, hxl⟩ ?_ ?_ ?_
  · repeat(first|exact Env.le_nil _|(refine Env.le_cons rfl ?_ ?_;first|rfl|(simp;done)|exact congrArg _ (by omega)|rotate_left))
  · exact ent_
  clear hI hn hxl hsh h hn2
  rintro ⟨n1, k, pv, P, ov, xs, O⟩ ⟨hI, hn, hk, hxl⟩
  dsimp only at hI hn hk hxl ⊢
  have hsh := hI.short
  have hPn := hI.inr _ (rd_mem (xs := P) (i := (n : Int)) (by omega) (by omega))
  have hk8 : (rd T (rd P n)).kids.length ≤ 8 := by
    obtain ⟨p, hp⟩ : ∃ p : Nat, rd P n = (p : Int) := ⟨(rd P n).toNat, by omega⟩
    rw [hp]; exact nodeB_k8 (hT.node p (by omega))
  have hOl := hI.len
  refine Cd.conv (Tk.more (p := rel2_pers (fun _ _ => inferInstance) _ _) (A := rel2 tnC ts T) (rel2_gotI (i := rd P n) hPn.1 hPn.2) (by exact tk_)) ?_
  first | (with_reducible refine Cd.g ?_; refine Cd.pk (A := (tnC (rd ts (rd P n)) (rd T (rd P n)))) rfl (by exact tk_) fun q1 hq1 => ?_) | (with_reducible refine Ol.g ?_; refine Ol.pk (A := (tnC (rd ts (rd P n)) (rd T (rd P n)))) rfl (by exact tk_) fun q1 hq1 => ?_) | (with_reducible refine Dn.g ?_; refine Dn.pk (A := (tnC (rd ts (rd P n)) (rd T (rd P n)))) rfl (by exact tk_) fun q1 hq1 => ?_)
  dsimp only [List.cons_append, List.nil_append]
  refine go ?_
  refine Cd.condP rfl (fun g => ?_) (fun g => ?_)
  rotate_left
  · refine go ?_
    exact Dn.weak (by repeat(first|exact Env.le_nil _|(refine Env.le_cons rfl ?_ ?_;first|rfl|(simp;done)|exact congrArg _ (by omega)|rotate_left))) (by exact ent_) (kk ⟨⟨n, 0, pv, P, ov, xs, O⟩, hI.row hn (by omega), by dsimp only; omega, hxl⟩)
  have hk2 : k < (rd T (rd P n)).kids.length := by omega
  obtain ⟨c, hc⟩ : ∃ c, rd (rd T (rd P n)).kids k = c := ⟨_, rfl⟩
  have hcf := (hI.fresh hT hn hk2).1
  rw [hc] at hcf
  have hcT : 0 ≤ c ∧ c < T.length := by omega
  refine Cd.conv (Tk.more (p := rel2_pers (fun _ _ => inferInstance) _ _) (A := rel2 tnC ts T) (rel2_gotI (i := c) hcT.1 hcT.2) (by exact tk_)) ?_
  first | (with_reducible refine Cd.g ?_; refine Cd.pk (A := (tnC (rd ts c) (rd T c))) rfl (by exact tk_) fun q2 hq2 => ?_) | (with_reducible refine Ol.g ?_; refine Ol.pk (A := (tnC (rd ts c) (rd T c))) rfl (by exact tk_) fun q2 hq2 => ?_) | (with_reducible refine Dn.g ?_; refine Dn.pk (A := (tnC (rd ts c) (rd T c))) rfl (by exact tk_) fun q2 hq2 => ?_)
  dsimp only [List.cons_append, List.nil_append]
  refine Cd.conv (ents.split (A := rel2 tnO xs O) (went.of (rel2_take (i := (n : Int)) (by omega) (by omega))) (by exact tk_)) ?_
  first | (with_reducible refine Cd.g ?_; refine Cd.pk (A := (tnO (rd xs n) (rd O n))) rfl (by exact tk_) fun q3 hq3 => ?_) | (with_reducible refine Ol.g ?_; refine Ol.pk (A := (tnO (rd xs n) (rd O n))) rfl (by exact tk_) fun q3 hq3 => ?_) | (with_reducible refine Dn.g ?_; refine Dn.pk (A := (tnO (rd xs n) (rd O n))) rfl (by exact tk_) fun q3 hq3 => ?_)
  dsimp only [List.cons_append, List.nil_append]
  refine go ?_
  rw [hc]
  have hkl : (rd O n).kids.length ≤ 8 := by
    have h1 := congrArg List.length (hI.kids n hn)
    rw [if_neg (by omega), if_pos rfl, List.length_map, List.length_take] at h1
    omega
  have hP14 : P.length ≤ 14 := by omega
  have hx14 : xs.length ≤ 14 := by omega
  refine go ?_;repeat((with_reducible refine Ol.g ?_);(first|refine Ol.eff rfl rfl rfl (Eff.alloc fun _=>?_)|refine Ol.eff rfl rfl rfl (Eff.box fun _=>?_)|refine Ol.eff0 rfl rfl (Eff.store rfl rfl ?_)|refine Ol.eff rfl rfl rfl (Eff.bslice rfl rfl fun _=>?_)|(refine Ol.eff0 rfl rfl (Eff.storeE rfl ?_ ?_);exact pre_)|(refine Ol.eff rfl rfl rfl (Eff.append1 rfl ?_ fun _=>?_);exact pre_));refine go ?_)
  rename_i w1 u3 w2 pv2
  refine Cd.drawL (l := [_, _, _, _, _, _, _, _, _, _, _, _, _, _, _, _, _, _, _]) (z := _) [[], [], [], [1, 2], [1, 2, 3], [1, 2, 3, 4], [], [], [6, 7], [6, 7, 8], [6, 7, 8, 9], [], [], [11, 12], [11, 12, 13], [11, 12, 13, 14], [1, 2, 3, 4, 5, 6, 7, 8, 9, 10, 11, 12, 13, 14, 15], [1, 2, 3, 4, 5, 6, 7, 8, 9, 10, 11, 12, 13, 14, 15, 16], [0, 1, 2, 3, 4, 5, 6, 7, 8, 9, 10, 11, 12, 13, 14, 15, 16, 17]] [17, 18] [] (td := [(0, .fresh), (1, .fresh), (2, .fresh), (3, .fresh), (4, .fresh), (5, .fresh), (6, .fresh), (7, .fresh), (8, .fresh), (9, .fresh), (10, .fresh), (11, .fresh), (12, .fresh), (13, .fresh), (14, .fresh), (15, .fresh), (16, .fresh)]) rfl mixed (by kernel_rfl) (by kernel_rfl) (by kernel_rfl) (by decide) (by decide) rfl (by kernel_rfl) ?_
  refine god2 ?_
  refine Sg2.one (td := [(0, .old)]) rfl (by kernel_rfl) fun F17_ => ?_
  dsimp only [List.cons_append, List.nil_append]
  (with_reducible first|refine SpOp.eff rfl rfl rfl rfl rfl (Eff.x (Qx.build rfl) ?_)|refine SpOp.eff rfl rfl rfl rfl rfl (Eff.alloc fun _=>?_)|refine SpOp.eff rfl rfl rfl rfl rfl (Eff.box fun _=>?_)|refine SpOp.eff rfl rfl rfl rfl rfl (Eff.bslice rfl rfl fun _=>?_)|(refine SpOp.eff rfl rfl rfl rfl rfl (Eff.append1 rfl ?_ fun _=>?_);exact pre_)|refine SpOp.eff0 rfl rfl rfl rfl (Eff.store rfl rfl ?_)|(refine SpOp.eff0 rfl rfl rfl rfl (Eff.storeE rfl ?_ ?_);exact pre_))
  refine Sn.ok ?_
  refine god2 ?_
  refine Sg2.one (td := []) rfl (by kernel_rfl) fun F18_ => ?_
  dsimp only [List.cons_append, List.nil_append]
  (with_reducible first|refine SpOp.eff rfl rfl rfl rfl rfl (Eff.x (Qx.build rfl) ?_)|refine SpOp.eff rfl rfl rfl rfl rfl (Eff.alloc fun _=>?_)|refine SpOp.eff rfl rfl rfl rfl rfl (Eff.box fun _=>?_)|refine SpOp.eff rfl rfl rfl rfl rfl (Eff.bslice rfl rfl fun _=>?_)|(refine SpOp.eff rfl rfl rfl rfl rfl (Eff.append1 rfl ?_ fun _=>?_);exact pre_)|refine SpOp.eff0 rfl rfl rfl rfl (Eff.store rfl rfl ?_)|(refine SpOp.eff0 rfl rfl rfl rfl (Eff.storeE rfl ?_ ?_);exact pre_))
  rename_i ov'
  refine Sn.ok ?_
  refine god2 ?_
  refine go ?_
  rw [hxl]
  have hrdn : rd (P ++ [c]) (n : Int) = rd P n := by rw [rd_app _ _ (by omega), if_pos (by omega)]
  refine Dn.round ⟨n, k + 1, pv2, P ++ [c], ov', xs.set (n : Int).toNat ⟨(rd xs n).f_Kind, (rd xs n).f_Value, (rd xs n).f_Label, u3⟩ ++ [⟨(rd ts c).f_Kind, (rd ts c).f_Value, (rd ts c).f_Label, .slice none 0 0⟩], growT O n ⟨(rd T c).kind, (rd T c).value, (rd T c).label, []⟩⟩
    ⟨hI.step hT hn hk2 hc, by simp; omega, by dsimp only; rw [hrdn]; omega, by simp [growT, hxl]⟩ (by dsimp only; omega) ?_ ?_
  · repeat(first|exact Env.le_nil _|(refine Env.le_cons rfl ?_ ?_;first|rfl|(simp;done)|exact congrArg _ (by omega)|rotate_left))
  · dsimp only [growT]
    refine ents.trans (ents.relsetH (R := tnO) (l := xs) (q := O) (i := (n : Int)) (x := ⟨(rd xs n).f_Kind, (rd xs n).f_Value, (rd xs n).f_Label, u3⟩) (y := { rd O n with kids := (rd O n).kids ++ [(O.length : Int)] }) (by omega) hxl (Tk.pk (A := tnO ⟨(rd xs n).f_Kind, (rd xs n).f_Value, (rd xs n).f_Label, u3⟩ { rd O n with kids := (rd O n).kids ++ [(O.length : Int)] }) rfl () hq3 (by exact tkl_)) (by exact tk_) (ents.refl _)) ?_
    exact ents.cons (by exact tk_) (ents.cons (by exact tk_) (ents.rsnoc (Tk.pk (A := tnO ⟨(rd ts c).f_Kind, (rd ts c).f_Value, (rd ts c).f_Label, .slice none 0 0⟩ ⟨(rd T c).kind, (rd T c).value, (rd T c).label, []⟩) rfl () hq2 (by exact tkl_)) (by exact tk_) (by exact ent_)))
end Go.Proofs.Ytcgjmlapmdbnmaa

