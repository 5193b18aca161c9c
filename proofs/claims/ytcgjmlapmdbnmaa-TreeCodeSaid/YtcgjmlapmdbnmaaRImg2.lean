/- Contracts of functions of the program, proved in a small separation logic. Conditions: those that each theorem states. -/
import Derived.Test.YtcgjmlapmdbnmaaRImg1
import Derived.Test.YtcgjmlapmdbnmaaTree1
namespace Go.Proofs.Ytcgjmlapmdbnmaa
open Go Go.Sl
set_option maxHeartbeats 4000000
set_option maxRecDepth 100000
set_option linter.unusedVariables false
/-! the reference's walk through a function's code: plain -/
structure WS where
  depth : List Int
  bad : List Bool
  work : List Int
def jumpW (n : Nat) (i d : Int) (s : WS) (j : Int) : WS :=
  if (n : Int) ≤ j then ⟨s.depth, s.bad.set i.toNat true, s.work⟩
  else if rd s.depth j < 0 then ⟨s.depth.set j.toNat d, s.bad, s.work ++ [j]⟩
  else if rd s.depth j ≠ d then ⟨s.depth, s.bad.set j.toNat true, s.work⟩ else s
def nextW (x : S_api_Instr) (i : Int) : List Int := (if endsT x.f_Op = false ∧ x.f_Op ≠ 10 then [i + 1] else []) ++ (if argT x.f_Op = 2 then [x.f_Arg] else [])
def badW (s : WS) (i : Int) : WS := ⟨s.depth, s.bad.set i.toNat true, s.work⟩
def stepW (f : List S_api_Instr) (s : WS) (k : Nat) : WS :=
  if rd s.depth (rd s.work k) - popsT (rd f (rd s.work k)).f_Op < 0 then badW s (rd s.work k)
  else if 32 < rd s.depth (rd s.work k) - popsT (rd f (rd s.work k)).f_Op + pushT (rd f (rd s.work k)).f_Op then badW s (rd s.work k)
  else (nextW (rd f (rd s.work k)) (rd s.work k)).foldl (jumpW f.length (rd s.work k) (rd s.depth (rd s.work k) - popsT (rd f (rd s.work k)).f_Op + pushT (rd f (rd s.work k)).f_Op)) s
def runW (f : List S_api_Instr) : Nat → Nat → WS → WS
  | 0, _, s => s
  | m + 1, k, s => if k < s.work.length then runW f m (k + 1) (stepW f s k) else s
def startW (n : Nat) : WS := ⟨(List.replicate n (-1)).set (Int.toNat 0) 0, List.replicate n false, [0]⟩
def walkT (f : List S_api_Instr) : WS := if f.length = 0 then ⟨[], [], []⟩ else runW f f.length 0 (startW f.length)
structure invW (n : Nat) (s : WS) : Prop where
  dl : s.depth.length = n
  bl : s.bad.length = n
  wl : s.work.length + s.depth.countP (fun x => decide (x < 0)) = n
  db : ∀ x, x ∈ s.depth → -1 ≤ x ∧ x ≤ 32
  wb : ∀ x, x ∈ s.work → 0 ≤ x ∧ x < n
theorem rd_mem' {α : Type} [Dfl α] {l : List α} {i : Int} (h0 : 0 ≤ i) (h : i < l.length) : rd l i ∈ l := rd_mem h0 h
theorem invW.badW {n : Nat} {s : WS} (h : invW n s) (i : Int) : invW n (badW s i) := ⟨h.dl, by simp [Go.Proofs.Ytcgjmlapmdbnmaa.badW, h.bl], h.wl, h.db, h.wb⟩
theorem invW.jump {n : Nat} {s : WS} (h : invW n s) {i d j : Int} (hd : 0 ≤ d ∧ d ≤ 32) (hj : 0 ≤ j) : invW n (jumpW n i d s j) := by
  unfold jumpW
  split
  · exact h.badW i
  split
  · rename_i h1 h2
    have hj2 : j.toNat < s.depth.length := by rw [h.dl]; omega
    have e : rd s.depth j = s.depth[j.toNat] := rd_eq (by omega)
    refine ⟨by simp [h.dl], h.bl, ?_, fun x hx => ?_, fun x hx => ?_⟩
    · have hc := List.countP_set (p := fun x : Int => decide (x < 0)) (l := s.depth) (i := j.toNat) (a := d) hj2
      have hp : 0 < s.depth.countP (fun x => decide (x < 0)) := List.countP_pos_iff.2 ⟨_, List.getElem_mem hj2, decide_eq_true (by rw [← e]; exact h2)⟩
      rw [if_pos (by rw [← e]; exact decide_eq_true h2), if_neg (by simp; omega)] at hc
      have := h.wl
      simp only [List.length_append, List.length_cons, List.length_nil]
      omega
    · rcases List.mem_or_eq_of_mem_set hx with hx | rfl
      · exact h.db x hx
      · omega
    · rcases List.mem_append.1 hx with hx | hx
      · exact h.wb x hx
      · simp at hx; subst hx; omega
  split
  · exact h.badW j
  · exact h
theorem invW.fold {n : Nat} {i d : Int} (hd : 0 ≤ d ∧ d ≤ 32) : ∀ (l : List Int) {s : WS} (h : invW n s) (hl : ∀ j, j ∈ l → 0 ≤ j), invW n (l.foldl (jumpW n i d) s)
  | [], _, h, _ => h
  | a :: l, _, h, hl => invW.fold hd l (h.jump hd (hl a (List.mem_cons_self ..))) fun j hj => hl j (List.mem_cons_of_mem _ hj)
theorem startW_inv {n : Nat} (h : 0 < n) : invW n (startW n) := by
  obtain ⟨m, rfl⟩ : ∃ m, n = m + 1 := ⟨n - 1, by omega⟩
  refine ⟨by simp [startW], by simp [startW], ?_, fun x hx => ?_, fun x hx => ?_⟩
  · simp only [startW, Int.toNat_zero, List.replicate_succ, List.set_cons_zero, List.length_cons, List.length_nil]
    rw [List.countP_cons, List.countP_replicate]
    simp; omega
  · simp only [startW] at hx
    rcases List.mem_or_eq_of_mem_set hx with hx | rfl
    · have := List.eq_of_mem_replicate hx; omega
    · omega
  · simp [startW] at hx; omega
theorem runW_done {f : List S_api_Instr} : ∀ (m k : Nat) (s : WS) (_h : ¬ k < s.work.length), runW f m k s = s
  | 0, _, _, _ => rfl
  | m + 1, k, s, h => by unfold runW; rw [if_neg h]
theorem jumpW_wl (n : Nat) (i d : Int) (s : WS) (j : Int) : s.work.length ≤ (jumpW n i d s j).work.length := by
  unfold jumpW; (repeat' split) <;> simp
theorem foldW_wl (n : Nat) (i d : Int) : ∀ (l : List Int) (s : WS), s.work.length ≤ (l.foldl (jumpW n i d) s).work.length
  | [], _ => Nat.le_refl _
  | a :: l, s => Nat.le_trans (jumpW_wl n i d s a) (foldW_wl n i d l _)
theorem nextW_mem {x : S_api_Instr} {i j : Int} (hi : 0 ≤ i ∧ i ≤ 1000) (ha : argT x.f_Op = 2 → 0 ≤ x.f_Arg ∧ x.f_Arg ≤ 2147483647) (h : j ∈ nextW x i) : 0 ≤ j ∧ j ≤ 2147483647 := by
  unfold nextW at h
  rcases List.mem_append.1 h with h | h
  · split at h
    · simp at h; omega
    · simp at h
  · split at h
    · rename_i h2; simp at h; subst h; exact ha h2
    · simp at h
theorem nextW_len (x : S_api_Instr) (i : Int) : (nextW x i).length ≤ 2 := by
  unfold nextW; (repeat' split) <;> simp
theorem rep_set {α : Type} (a b : α) {n k : Nat} (h : k < n) : (List.replicate k a ++ List.replicate (n - k) b).set ((k : Int)).toNat a = List.replicate (k + 1) a ++ List.replicate (n - (k + 1)) b := by
  rw [Int.toNat_natCast]
  obtain ⟨m, hm⟩ : ∃ m, n - k = m + 1 := ⟨n - k - 1, by omega⟩
  rw [hm, show n - (k + 1) = m from by omega, List.replicate_succ, List.set_append_right _ _ (by simp)]
  simp [List.replicate_succ']
structure WL where
  k : Nat
  s : WS
  wv : Value
-- FN confidant/confidantref5.walk
theorem ref5_walk (v : Value) (f : List S_api_Instr) (hf : f.length ≤ 512) (ha : ∀ x, x ∈ f → argT x.f_Op = 2 → 0 ≤ x.f_Arg ∧ x.f_Arg ≤ 2147483647) :
    Sp Try.prog 105 [v] [rsl e_api_Instr v f] (fun y : Value × Value => True) (fun y => .tuple #[y.1, y.2]) (fun y => [sl (eInt .i64) y.1 (walkT f).depth, sl eBool y.2 (walkT f).bad]) := by
  refine Sp.intro (n := 156) Try.func105 rfl rfl fun w0 R => ?_
  dsimp only [List.cons_append, List.nil_append, envOf]
  refine go ?_
  refine Ol.eff rfl rfl rfl (Eff.mkS (x := (0 : Int)) rfl ⟨by omega, by omega, by omega⟩ fun dv => ?_)
  refine go ?_
  refine Ol.eff rfl rfl rfl (Eff.mkS (x := false) rfl ⟨by omega, by omega, by omega⟩ fun bv => ?_)
  refine go ?_
  rw [Int.toNat_natCast]
  refine Cd.loop (fun k : Nat => k ≤ f.length) (fun k => f.length - k) (fun k => [(0, v), (4, dv), (5, bv), (6, .int .i64 k)])
    (fun k => rsl e_api_Instr v f :: sl (eInt .i64) dv (List.replicate k (-1) ++ List.replicate (f.length - k) 0) :: sl eBool bv (List.replicate f.length false) :: R) 0 (by omega) ?_ ?_ ?_
  · repeat(first|exact Env.le_nil _|(refine Env.le_cons rfl ?_ ?_;first|rfl|(simp;done)|exact congrArg _ (by omega)|rotate_left))
  · rw [List.replicate_zero, List.nil_append, Nat.sub_zero]
    exact ent_
  intro k hk
  refine go ?_
  refine Cd.condP rfl (fun h => ?_) (fun h => ?_)
  · have hk2 : k < f.length := by omega
    have hrl : (List.replicate k (-1 : Int) ++ List.replicate (f.length - k) 0).length = f.length := by simp; omega
    refine go ?_;repeat((with_reducible refine Ol.g ?_);(first|refine Ol.eff rfl rfl rfl (Eff.alloc fun _=>?_)|refine Ol.eff rfl rfl rfl (Eff.box fun _=>?_)|refine Ol.eff0 rfl rfl (Eff.store rfl rfl ?_)|refine Ol.eff rfl rfl rfl (Eff.bslice rfl rfl fun _=>?_)|(refine Ol.eff0 rfl rfl (Eff.storeE rfl ?_ ?_);exact pre_)|(refine Ol.eff rfl rfl rfl (Eff.append1 rfl ?_ fun _=>?_);exact pre_));refine go ?_)
    refine Dn.round (k + 1) (by omega) (by omega) (by repeat(first|exact Env.le_nil _|(refine Env.le_cons rfl ?_ ?_;first|rfl|(simp;done)|exact congrArg _ (by omega)|rotate_left))) ?_
    rw [← rep_set (-1) 0 hk2]
    exact ent_
  obtain rfl : k = f.length := by omega
  rw [Nat.sub_self, List.replicate_zero, List.append_nil]
  have hl1 : (List.replicate f.length (-1 : Int)).length = f.length := List.length_replicate
  have hl2 : (List.replicate f.length false).length = f.length := List.length_replicate
  refine go ?_
  refine Cd.condP rfl (fun h0 => ?_) (fun h0 => ?_)
  · have hw : walkT f = ⟨[], [], []⟩ := by unfold walkT; rw [if_pos (by omega)]
    rw [hw, show f.length = 0 from by omega]
    refine go ?_
    refine Dn.ret2 rfl rfl rfl fun w hs => ⟨(dv, bv), rfl, trivial, hs.conv (by dsimp only [List.replicate_zero]; exact ent_)⟩
  have hn : 0 < f.length := by omega
  have hw : walkT f = runW f f.length 0 (startW f.length) := by unfold walkT; rw [if_neg (by omega)]
  rw [hw]
  refine go ?_;repeat((with_reducible refine Ol.g ?_);(first|refine Ol.eff rfl rfl rfl (Eff.alloc fun _=>?_)|refine Ol.eff rfl rfl rfl (Eff.box fun _=>?_)|refine Ol.eff0 rfl rfl (Eff.store rfl rfl ?_)|refine Ol.eff rfl rfl rfl (Eff.bslice rfl rfl fun _=>?_)|(refine Ol.eff0 rfl rfl (Eff.storeE rfl ?_ ?_);exact pre_)|(refine Ol.eff rfl rfl rfl (Eff.append1 rfl ?_ fun _=>?_);exact pre_));refine go ?_)
  rename_i u1
  refine Cd.loop (fun z : WL => invW f.length z.s ∧ z.k ≤ z.s.work.length ∧ runW f (f.length - z.k) z.k z.s = runW f f.length 0 (startW f.length)) (fun z => f.length - z.k) (fun z => [(0, v), (4, dv), (5, bv), (7, z.wv), (8, .int .i64 z.k)])
    (fun z => rsl e_api_Instr v f :: sl (eInt .i64) dv z.s.depth :: sl eBool bv z.s.bad :: sl (eInt .i64) z.wv z.s.work :: R) ⟨0, startW f.length, u1⟩ ⟨startW_inv hn, by simp, rfl⟩ ?_ ?_ ?_
  · repeat(first|exact Env.le_nil _|(refine Env.le_cons rfl ?_ ?_;first|rfl|(simp;done)|exact congrArg _ (by omega)|rotate_left))
  · dsimp only [startW]
    exact ent_
  rintro ⟨k, s, wv⟩ ⟨hI, hk, hrun⟩
  dsimp only at hI hk hrun ⊢
  have hwl := hI.wl
  have hdl := hI.dl
  have hbl := hI.bl
  refine go ?_
  refine Cd.condP rfl (fun h => ?_) (fun h => ?_)
  rotate_left
  · rw [runW_done _ _ _ (by omega)] at hrun
    rw [← hrun]
    refine go ?_
    refine Dn.ret2 rfl rfl rfl fun w hs => ⟨(dv, bv), rfl, trivial, hs.conv (by exact ent_)⟩
  have hk2 : k < s.work.length := by omega
  have hi := hI.wb (rd s.work k) (rd_mem (by omega) (by omega))
  have hd := hI.db (rd s.depth (rd s.work k)) (rd_mem (by omega) (by omega))
  have hp := popsT_le (rd f (rd s.work k)).f_Op
  have hq := pushT_le (rd f (rd s.work k)).f_Op
  have hkn : k < f.length := by omega
  have hrun2 : runW f (f.length - (k + 1)) (k + 1) (stepW f s k) = runW f f.length 0 (startW f.length) := by
    rw [← hrun]
    conv => rhs; rw [show f.length - k = (f.length - (k + 1)) + 1 from by omega]; unfold runW
    rw [if_pos hk2]
  have hst : stepW f s k = if rd s.depth (rd s.work k) - popsT (rd f (rd s.work k)).f_Op < 0 then badW s (rd s.work k)
    else if 32 < rd s.depth (rd s.work k) - popsT (rd f (rd s.work k)).f_Op + pushT (rd f (rd s.work k)).f_Op then badW s (rd s.work k)
    else (nextW (rd f (rd s.work k)) (rd s.work k)).foldl (jumpW f.length (rd s.work k) (rd s.depth (rd s.work k) - popsT (rd f (rd s.work k)).f_Op + pushT (rd f (rd s.work k)).f_Op)) s := rfl
  have hbad : invW f.length (badW s (rd s.work k)) := hI.badW _
  refine go ?_
  refine Cd.drawL (l := [_, _, _, _, _, _, _, _, _, _, _]) (z := _) [[], [], [0, 1], [0, 1, 2], [], [], [4, 5], [4, 5, 6], [4, 5, 6, 7], [4, 5, 6, 7, 8], [0, 1, 2, 3, 4, 5, 6, 7, 8, 9]] [9] [] (td := [(0, .fresh), (1, .fresh), (2, .fresh), (3, .fresh), (4, .fresh), (5, .fresh), (6, .fresh), (7, .fresh), (8, .fresh)]) rfl mixed (by kernel_rfl) (by kernel_rfl) (by kernel_rfl) (by decide) (by decide) rfl (by kernel_rfl) ?_
  refine god2 ?_
  refine Sg2.one (td := [(0, .old), (1, .old), (2, .old), (3, .old), (10, .fresh)]) rfl (by kernel_rfl) fun F9_ => ?_
  dsimp only [List.cons_append, List.nil_append]
  refine SpOp.eff rfl rfl rfl rfl rfl (Eff.call (R := ?_) (ref5_Pops (rd f (rd s.work k)).f_Op) rfl ?_ ?_)
  rotate_left
  · exact tkl_
  rintro _ -
  dsimp only [List.cons_append, List.nil_append]
  refine Sn.ok ?_
  refine god2 ?_
  refine go ?_
  refine Cd.condP rfl (fun g1 => ?_) (fun g1 => ?_)
  · rw [if_pos g1] at hst
    rw [hst] at hrun2
    refine go ?_;repeat((with_reducible refine Ol.g ?_);(first|refine Ol.eff rfl rfl rfl (Eff.alloc fun _=>?_)|refine Ol.eff rfl rfl rfl (Eff.box fun _=>?_)|refine Ol.eff0 rfl rfl (Eff.store rfl rfl ?_)|refine Ol.eff rfl rfl rfl (Eff.bslice rfl rfl fun _=>?_)|(refine Ol.eff0 rfl rfl (Eff.storeE rfl ?_ ?_);exact pre_)|(refine Ol.eff rfl rfl rfl (Eff.append1 rfl ?_ fun _=>?_);exact pre_));refine go ?_)
    refine Dn.round ⟨k + 1, badW s (rd s.work k), wv⟩ ⟨hbad, by dsimp only [badW]; omega, hrun2⟩ (by dsimp only; omega) (by repeat(first|exact Env.le_nil _|(refine Env.le_cons rfl ?_ ?_;first|rfl|(simp;done)|exact congrArg _ (by omega)|rotate_left))) ?_
    dsimp only [badW]
    exact ent_
  rw [if_neg g1] at hst
  refine go ?_
  with_reducible refine Ol.g ?_
  refine Ol.eff rfl rfl rfl (Eff.call (R := ?_) (ref5_Pushes (rd f (rd s.work k)).f_Op) rfl ?_ ?_)
  rotate_left
  · exact tkl_
  rintro _ -
  dsimp only [List.cons_append, List.nil_append]
  refine go ?_
  refine Cd.condP rfl (fun g2 => ?_) (fun g2 => ?_)
  · rw [if_pos g2] at hst
    rw [hst] at hrun2
    refine go ?_;repeat((with_reducible refine Ol.g ?_);(first|refine Ol.eff rfl rfl rfl (Eff.alloc fun _=>?_)|refine Ol.eff rfl rfl rfl (Eff.box fun _=>?_)|refine Ol.eff0 rfl rfl (Eff.store rfl rfl ?_)|refine Ol.eff rfl rfl rfl (Eff.bslice rfl rfl fun _=>?_)|(refine Ol.eff0 rfl rfl (Eff.storeE rfl ?_ ?_);exact pre_)|(refine Ol.eff rfl rfl rfl (Eff.append1 rfl ?_ fun _=>?_);exact pre_));refine go ?_)
    refine Dn.round ⟨k + 1, badW s (rd s.work k), wv⟩ ⟨hbad, by dsimp only [badW]; omega, hrun2⟩ (by dsimp only; omega) (by repeat(first|exact Env.le_nil _|(refine Env.le_cons rfl ?_ ?_;first|rfl|(simp;done)|exact congrArg _ (by omega)|rotate_left))) ?_
    dsimp only [badW]
    exact ent_
  rw [if_neg (by omega)] at hst
  have harg := ha (rd f (rd s.work k)) (rd_mem (by omega) (by omega))
  obtain ⟨i, hie⟩ : ∃ i, rd s.work k = i := ⟨_, rfl⟩
  rw [hie] at hi hd hp hq hst hbad g1 g2 harg ⊢
  obtain ⟨d, hde⟩ : ∃ d, rd s.depth i - popsT (rd f i).f_Op + pushT (rd f i).f_Op = d := ⟨_, rfl⟩
  rw [hde] at hst g2 ⊢
  have hdd : 0 ≤ d ∧ d ≤ 32 := by omega
  clear hrun hde hd hp hq g1
  refine go ?_
  with_reducible refine Ol.g ?_
  refine Ol.eff rfl rfl rfl (Eff.call (R := ?_) (ref5_Ends (rd f i).f_Op) rfl ?_ ?_)
  rotate_left
  · exact tkl_
  rintro _ -
  dsimp only [List.cons_append, List.nil_append]
  refine Ol.cutN (α := Unit) (fun _ => [(90, .bool (decide (endsT (rd f i).f_Op = false ∧ (rd f i).f_Op ≠ 10))), (0, v), (4, dv), (5, bv), (7, wv), (8, .int .i64 k), (9, .int .i64 i), (10, .int .i64 d), (11, .slice none 0 0)])
    (fun _ => rsl e_api_Instr v f :: sl (eInt .i64) dv s.depth :: sl eBool bv s.bad :: sl (eInt .i64) wv s.work :: R) (fun K kk => ?_) ?_
  · cases he : endsT (rd f i).f_Op with
    | true =>
      rw [he] at kk
      refine go ?_
      refine Dn.weak ?_ (by exact ent_) (kk ())
      rw [show decide (true = false ∧ (rd f i).f_Op ≠ 10) = false from by simp]
      repeat(first|exact Env.le_nil _|(refine Env.le_cons rfl ?_ ?_;first|rfl|(simp;done)|exact congrArg _ (by omega)|rotate_left))
    | false =>
      rw [he] at kk
      refine go ?_
      refine Dn.weak ?_ (by exact ent_) (kk ())
      rw [show decide (false = false ∧ (rd f i).f_Op ≠ 10) = decide ((rd f i).f_Op ≠ 10) from by simp]
      repeat(first|exact Env.le_nil _|(refine Env.le_cons rfl ?_ ?_;first|rfl|(simp;done)|exact congrArg _ (by omega)|rotate_left))
  rintro -
  refine go ?_
  refine Cd.cutN (α := Value) (fun u => [(0, v), (4, dv), (5, bv), (7, wv), (8, .int .i64 k), (9, .int .i64 i), (10, .int .i64 d), (11, u)])
    (fun u => sl (eInt .i64) u (if endsT (rd f i).f_Op = false ∧ (rd f i).f_Op ≠ 10 then [i + 1] else []) :: rsl e_api_Instr v f :: sl (eInt .i64) dv s.depth :: sl eBool bv s.bad :: sl (eInt .i64) wv s.work :: R) (fun K kk _ => ?_) ?_
  · refine Cd.condP rfl (fun g => ?_) (fun g => ?_)
    · refine go ?_;repeat((with_reducible refine Ol.g ?_);(first|refine Ol.eff rfl rfl rfl (Eff.alloc fun _=>?_)|refine Ol.eff rfl rfl rfl (Eff.box fun _=>?_)|refine Ol.eff0 rfl rfl (Eff.store rfl rfl ?_)|refine Ol.eff rfl rfl rfl (Eff.bslice rfl rfl fun _=>?_)|(refine Ol.eff0 rfl rfl (Eff.storeE rfl ?_ ?_);exact pre_)|(refine Ol.eff rfl rfl rfl (Eff.append1 rfl ?_ fun _=>?_);exact pre_));refine go ?_)
      rename_i u2 u3
      refine Dn.weak (by repeat(first|exact Env.le_nil _|(refine Env.le_cons rfl ?_ ?_;first|rfl|(simp;done)|exact congrArg _ (by omega)|rotate_left))) ?_ (kk u3)
      rw [if_pos g]
      dsimp only [List.nil_append]
      exact ent_
    · refine go ?_
      refine Dn.weak (by repeat(first|exact Env.le_nil _|(refine Env.le_cons rfl ?_ ?_;first|rfl|(simp;done)|exact congrArg _ (by omega)|rotate_left))) ?_ (kk (.slice none 0 0))
      rw [if_neg g]
      exact ent_
  intro nv1
  have hn1 : (if endsT (rd f i).f_Op = false ∧ (rd f i).f_Op ≠ 10 then [i + 1] else []).length ≤ 1 := by split <;> simp
  have hnxm := fun j => nextW_mem (x := rd f i) (i := i) (j := j) (by omega) harg
  have hnxl := nextW_len (rd f i) i
  have hnx : nextW (rd f i) i = (if endsT (rd f i).f_Op = false ∧ (rd f i).f_Op ≠ 10 then [i + 1] else []) ++ (if argT (rd f i).f_Op = 2 then [(rd f i).f_Arg] else []) := rfl
  generalize (if endsT (rd f i).f_Op = false ∧ (rd f i).f_Op ≠ 10 then [i + 1] else []) = n1 at hn1 hnx ⊢
  refine go ?_
  with_reducible refine Ol.g ?_
  refine Ol.eff rfl rfl rfl (Eff.call (R := ?_) (ref5_Arg (rd f i).f_Op) rfl ?_ ?_)
  rotate_left
  · exact tkl_
  rintro _ -
  dsimp only [List.cons_append, List.nil_append]
  refine go ?_
  refine Cd.cutN (α := Value) (fun u => [(0, v), (4, dv), (5, bv), (7, wv), (8, .int .i64 k), (9, .int .i64 i), (10, .int .i64 d), (11, u)])
    (fun u => sl (eInt .i64) u (nextW (rd f i) i) :: rsl e_api_Instr v f :: sl (eInt .i64) dv s.depth :: sl eBool bv s.bad :: sl (eInt .i64) wv s.work :: R) (fun K kk _ => ?_) ?_
  · refine Cd.condP rfl (fun g => ?_) (fun g => ?_)
    · have hga := harg g
      refine go ?_;repeat((with_reducible refine Ol.g ?_);(first|refine Ol.eff rfl rfl rfl (Eff.alloc fun _=>?_)|refine Ol.eff rfl rfl rfl (Eff.box fun _=>?_)|refine Ol.eff0 rfl rfl (Eff.store rfl rfl ?_)|refine Ol.eff rfl rfl rfl (Eff.bslice rfl rfl fun _=>?_)|(refine Ol.eff0 rfl rfl (Eff.storeE rfl ?_ ?_);exact pre_)|(refine Ol.eff rfl rfl rfl (Eff.append1 rfl ?_ fun _=>?_);exact pre_));refine go ?_)
      rename_i u2 u3
      refine Dn.weak (by repeat(first|exact Env.le_nil _|(refine Env.le_cons rfl ?_ ?_;first|rfl|(simp;done)|exact congrArg _ (by omega)|rotate_left))) ?_ (kk u3)
      rw [hnx, if_pos g]
      exact ent_
    · refine go ?_
      refine Dn.weak (by repeat(first|exact Env.le_nil _|(refine Env.le_cons rfl ?_ ?_;first|rfl|(simp;done)|exact congrArg _ (by omega)|rotate_left))) ?_ (kk nv1)
      rw [hnx, if_neg g, List.append_nil]
      exact ent_
  intro nv
  clear hnx hn1
  generalize nextW (rd f i) i = nx at hst hnxm hnxl ⊢
  refine go ?_
  refine Cd.loop (fun z : WL => z.k ≤ nx.length ∧ z.s = (nx.take z.k).foldl (jumpW f.length i d) s) (fun z => nx.length - z.k) (fun z => [(0, v), (4, dv), (5, bv), (7, z.wv), (8, .int .i64 k), (9, .int .i64 i), (10, .int .i64 d), (11, nv), (12, .int .i64 z.k)])
    (fun z => sl (eInt .i64) nv nx :: rsl e_api_Instr v f :: sl (eInt .i64) dv z.s.depth :: sl eBool bv z.s.bad :: sl (eInt .i64) z.wv z.s.work :: R) ⟨0, s, wv⟩ ⟨by simp, by simp⟩ ?_ ?_ ?_
  · repeat(first|exact Env.le_nil _|(refine Env.le_cons rfl ?_ ?_;first|rfl|(simp;done)|exact congrArg _ (by omega)|rotate_left))
  · exact ent_
  rintro ⟨m, s', wv'⟩ ⟨hm, hs'⟩
  dsimp only at hm hs' ⊢
  have hI' : invW f.length s' := by rw [hs']; exact invW.fold hdd _ hI fun j hj => (hnxm j (List.mem_of_mem_take hj)).1
  have hwl' := hI'.wl
  have hdl' := hI'.dl
  have hbl' := hI'.bl
  have hww : s.work.length ≤ s'.work.length := by rw [hs']; exact foldW_wl _ _ _ _ _
  refine go ?_
  refine Cd.condP rfl (fun g3 => ?_) (fun g3 => ?_)
  rotate_left
  · obtain rfl : m = nx.length := by omega
    rw [List.take_length] at hs'
    rw [← hs'] at hst
    refine go ?_
    refine Dn.round ⟨k + 1, s', wv'⟩ ⟨hI', by dsimp only; omega, by rw [← hst]; exact hrun2⟩ (by dsimp only; omega) (by repeat(first|exact Env.le_nil _|(refine Env.le_cons rfl ?_ ?_;first|rfl|(simp;done)|exact congrArg _ (by omega)|rotate_left))) ?_
    dsimp only
    exact ent_
  have hm2 : m < nx.length := by omega
  have hj := hnxm (rd nx m) (rd_mem (by omega) (by omega))
  have hjs : (nx.take (m + 1)).foldl (jumpW f.length i d) s = jumpW f.length i d s' (rd nx m) := by
    rw [take_rd hm2, List.foldl_append, ← hs']; rfl
  have hjw : jumpW f.length i d s' (rd nx m) = if (f.length : Int) ≤ rd nx m then ⟨s'.depth, s'.bad.set i.toNat true, s'.work⟩ else if rd s'.depth (rd nx m) < 0 then ⟨s'.depth.set (rd nx m).toNat d, s'.bad, s'.work ++ [rd nx m]⟩ else if rd s'.depth (rd nx m) ≠ d then ⟨s'.depth, s'.bad.set (rd nx m).toNat true, s'.work⟩ else s' := rfl
  refine go ?_
  refine Cd.condP rfl (fun g4 => ?_) (fun g4 => ?_)
  · rw [if_pos (by omega)] at hjw
    refine go ?_;repeat((with_reducible refine Ol.g ?_);(first|refine Ol.eff rfl rfl rfl (Eff.alloc fun _=>?_)|refine Ol.eff rfl rfl rfl (Eff.box fun _=>?_)|refine Ol.eff0 rfl rfl (Eff.store rfl rfl ?_)|refine Ol.eff rfl rfl rfl (Eff.bslice rfl rfl fun _=>?_)|(refine Ol.eff0 rfl rfl (Eff.storeE rfl ?_ ?_);exact pre_)|(refine Ol.eff rfl rfl rfl (Eff.append1 rfl ?_ fun _=>?_);exact pre_));refine go ?_)
    refine Dn.round ⟨m + 1, ⟨s'.depth, s'.bad.set i.toNat true, s'.work⟩, wv'⟩ ⟨by dsimp only; omega, by rw [hjs, hjw]⟩ (by dsimp only; omega) (by repeat(first|exact Env.le_nil _|(refine Env.le_cons rfl ?_ ?_;first|rfl|(simp;done)|exact congrArg _ (by omega)|rotate_left))) ?_
    dsimp only
    exact ent_
  rw [if_neg (by omega)] at hjw
  have hdj := hI'.db (rd s'.depth (rd nx m)) (rd_mem (by omega) (by omega))
  refine go ?_
  refine Cd.condP rfl (fun g5 => ?_) (fun g5 => ?_)
  · rw [if_pos g5] at hjw
    refine go ?_;repeat((with_reducible refine Ol.g ?_);(first|refine Ol.eff rfl rfl rfl (Eff.alloc fun _=>?_)|refine Ol.eff rfl rfl rfl (Eff.box fun _=>?_)|refine Ol.eff0 rfl rfl (Eff.store rfl rfl ?_)|refine Ol.eff rfl rfl rfl (Eff.bslice rfl rfl fun _=>?_)|(refine Ol.eff0 rfl rfl (Eff.storeE rfl ?_ ?_);exact pre_)|(refine Ol.eff rfl rfl rfl (Eff.append1 rfl ?_ fun _=>?_);exact pre_));refine go ?_)
    rename_i u5 wv2
    refine Dn.round ⟨m + 1, ⟨s'.depth.set (rd nx m).toNat d, s'.bad, s'.work ++ [rd nx m]⟩, wv2⟩ ⟨by dsimp only; omega, by rw [hjs, hjw]⟩ (by dsimp only; omega) (by repeat(first|exact Env.le_nil _|(refine Env.le_cons rfl ?_ ?_;first|rfl|(simp;done)|exact congrArg _ (by omega)|rotate_left))) ?_
    dsimp only
    exact ent_
  rw [if_neg g5] at hjw
  refine go ?_
  refine Cd.condP rfl (fun g6 => ?_) (fun g6 => ?_)
  · rw [if_pos g6] at hjw
    refine go ?_;repeat((with_reducible refine Ol.g ?_);(first|refine Ol.eff rfl rfl rfl (Eff.alloc fun _=>?_)|refine Ol.eff rfl rfl rfl (Eff.box fun _=>?_)|refine Ol.eff0 rfl rfl (Eff.store rfl rfl ?_)|refine Ol.eff rfl rfl rfl (Eff.bslice rfl rfl fun _=>?_)|(refine Ol.eff0 rfl rfl (Eff.storeE rfl ?_ ?_);exact pre_)|(refine Ol.eff rfl rfl rfl (Eff.append1 rfl ?_ fun _=>?_);exact pre_));refine go ?_)
    refine Dn.round ⟨m + 1, ⟨s'.depth, s'.bad.set (rd nx m).toNat true, s'.work⟩, wv'⟩ ⟨by dsimp only; omega, by rw [hjs, hjw]⟩ (by dsimp only; omega) (by repeat(first|exact Env.le_nil _|(refine Env.le_cons rfl ?_ ?_;first|rfl|(simp;done)|exact congrArg _ (by omega)|rotate_left))) ?_
    dsimp only
    exact ent_
  · rw [if_neg g6] at hjw
    refine go ?_
    refine Dn.round ⟨m + 1, s', wv'⟩ ⟨by dsimp only; omega, by rw [hjs, hjw]⟩ (by dsimp only; omega) (by repeat(first|exact Env.le_nil _|(refine Env.le_cons rfl ?_ ?_;first|rfl|(simp;done)|exact congrArg _ (by omega)|rotate_left))) ?_
    dsimp only
    exact ent_
end Go.Proofs.Ytcgjmlapmdbnmaa

