/- Contracts of functions of the program, proved in a small separation logic. Conditions: those that each theorem states. -/
import Derived.Test.YtefmjphokgnobaaLaw21
import Derived.Test.YtefmjphokgnobaaGateP
namespace Go.Proofs.Ytefmjphokgnobaa
open Go Go.Sl
set_option maxHeartbeats 8000000
set_option maxRecDepth 100000
set_option linter.unusedVariables false
theorem chain_ok3 : latOk (tabT 3 3 leI) = true := by decide +kernel
/-- What waits after i rounds. -/
def orW (l : List Int) (i : Nat) : List S_gate_wait := (ints i).map fun j => ⟨rd l j % 3, j, 0⟩
theorem orW_succ (l : List Int) (i : Nat) : orW l (i + 1) = orW l i ++ [⟨rd l i % 3, i, 0⟩] := by unfold orW; rw [ints_succ, List.map_append]; rfl
theorem orW_length (l : List Int) (i : Nat) : (orW l i).length = i := by simp [orW, ints_length]
def orWant (l : List Int) (i : Nat) (n : Int) : List Int := ((orW l i).filter fun w => decide (w.f_gate = n)).map (·.f_v)
theorem orWant_succ (l : List Int) (i : Nat) (n : Int) : orWant l (i + 1) n = if rd l i % 3 = n then orWant l i n ++ [(i : Int)] else orWant l i n := by
  unfold orWant
  rw [orW_succ, List.filter_append, List.map_append]
  by_cases h : rd l i % 3 = n
  · rw [if_pos h]; simp [h]
  · rw [if_neg h]; simp [h]
theorem orWant_length (l : List Int) (i : Nat) (n : Int) : (orWant l i n).length ≤ i := by
  unfold orWant
  rw [List.length_map]
  exact Nat.le_trans (List.length_filter_le _ _) (by rw [orW_length]; exact Nat.le_refl _)
abbrev orG : List S_api_Gate := [⟨2, 0, 0, 100⟩, ⟨2, 1, 0, 100⟩, ⟨2, 0, 0, 100⟩]
structure orI (l : List Int) (lp : Nat) (x : Nat × GS × List Value) : Prop where
  fl : x.2.1.fl = flV (some lp)
  gates : x.2.1.gates = orG
  waits : x.2.1.waits = orW l x.1
  outs : x.2.1.outs = [[], [], []]
  seq : x.2.1.seq = fun _ => none
  cnt : ∀ k t : Int, 0 ≤ cnt x.2.1 k t ∧ cnt x.2.1 k t ≤ x.1
  len : x.2.2.length = 3
abbrev orT (l : List Int) (i : Nat) : List (List Int) := [orWant l i 0, orWant l i 1, orWant l i 2]
theorem want_mem {l : List Int} {i : Nat} {w : S_gate_wait} (h : w ∈ orW l i) : 0 ≤ w.f_gate ∧ w.f_gate < 3 ∧ 0 ≤ w.f_v ∧ w.f_v < i := by
  unfold orW at h
  obtain ⟨j, hj, rfl⟩ := List.mem_map.1 h
  have := ints_mem.1 hj
  dsimp only
  omega
theorem ints_sorted (n : Nat) : (ints n).Pairwise (· < ·) := by
  induction n with
  | zero => exact List.Pairwise.nil
  | succ n ih =>
    rw [ints_succ, List.pairwise_append]
    refine ⟨ih, List.pairwise_singleton _ _, fun a ha b hb => ?_⟩
    simp at hb; subst hb
    exact (ints_mem.1 ha).2
theorem orW_sorted (l : List Int) (n : Nat) : (orW l n).Pairwise (fun a b => a.f_v < b.f_v) := by
  unfold orW
  rw [List.pairwise_map]
  exact (ints_sorted n).imp fun h => h
/-- Who waits for 0. -/
def orY (l : List Int) (n : Nat) : List S_gate_wait := (orW l n).filter fun w => !decide (w.f_gate = 1)
theorem orY_sorted (l : List Int) (n : Nat) : (orY l n).Pairwise (fun a b => a.f_v < b.f_v) := (orW_sorted l n).filter _
theorem orY_mem {l : List Int} {n : Nat} {w : S_gate_wait} (h : w ∈ orY l n) : w ∈ orW l n ∧ w.f_gate ≠ 1 := by
  unfold orY at h
  rw [List.mem_filter] at h
  exact ⟨h.1, by simpa using h.2⟩
theorem orY_want (l : List Int) (n : Nat) (g : Int) (hg : g ≠ 1) : ((orY l n).filter fun w => decide (w.f_gate = g)).map (·.f_v) = orWant l n g := by
  unfold orY orWant
  rw [List.filter_filter]
  congr 1
  refine List.filter_congr fun w _ => ?_
  by_cases h : w.f_gate = g
  · subst h; simp [hg]
  · simp [h]
theorem orY_length (l : List Int) (n : Nat) : (orY l n).length = (orWant l n 0).length + (orWant l n 2).length := by
  have h : ∀ ws : List S_gate_wait, (∀ w, w ∈ ws → 0 ≤ w.f_gate ∧ w.f_gate < 3) → (ws.filter fun w => !decide (w.f_gate = 1)).length = (ws.filter fun w => decide (w.f_gate = 0)).length + (ws.filter fun w => decide (w.f_gate = 2)).length := by
    intro ws
    induction ws with
    | nil => intro _; rfl
    | cons w ws ih =>
      intro h
      have h1 := h w (by simp)
      have h2 := ih fun v hv => h v (by simp [hv])
      have : w.f_gate = 0 ∨ w.f_gate = 1 ∨ w.f_gate = 2 := by omega
      rcases this with e | e | e <;> simp [List.filter_cons, e] <;> omega
  unfold orY orWant
  rw [List.length_map, List.length_map]
  exact h _ fun w hw => ⟨(want_mem hw).1, (want_mem hw).2.1⟩
/-- The next of those that are alike. -/
theorem filter_next {T : Type} (p : T → Bool) : ∀ (l : List T) (i : Nat) (x : T), l[i]? = some x → p x = true → (l.filter p)[((l.take i).filter p).length]? = some x
  | [], i, x, h, _ => by simp at h
  | y :: l, 0, x, h, hp => by simp at h; subst h; simp [List.filter_cons, hp]
  | y :: l, i + 1, x, h, hp => by
    have := filter_next p l i x (by simpa using h) hp
    by_cases hy : p y = true
    · simp [List.filter_cons, hy]; simpa using this
    · simp only [Bool.not_eq_true] at hy
      simp [List.filter_cons, hy]; simpa using this
def orAt (l : List Int) (n i : Nat) (g : Int) : Int := (((orY l n).take i).filter fun w => decide (w.f_gate = g)).length
theorem orAt_succ (l : List Int) (n i : Nat) (h : i < (orY l n).length) (g : Int) : orAt l n (i + 1) g = if (rd (orY l n) i).f_gate = g then orAt l n i g + 1 else orAt l n i g := by
  unfold orAt
  rw [take_rd h, List.filter_append]
  by_cases e : (rd (orY l n) i).f_gate = g
  · rw [if_pos e]; simp [e]
  · rw [if_neg e]; simp [e]
-- FN confidant/confidantlaw21.GateOrders
theorem law_GateOrders (a b : Int) (lv : Value) (l : List Int) (ha : 0 ≤ a ∧ a ≤ 255) (hb : 0 ≤ b ∧ b ≤ 255) (hl : ∀ x, x ∈ l → 0 ≤ x ∧ x ≤ 255) (hm : l.length ≤ 9223372036854775807) :
    Sp Try.prog 6 [lv, .int .u8 a, .int .u8 b] [rsl (eInt .u8) lv l] (fun _ : Unit => True) (fun _ => .bool true) (fun _ => []) := by
  refine Sp.intro (n := 219) Try.func6 rfl rfl fun w0 R => ?_
  dsimp only [List.cons_append, List.nil_append, envOf]
  refine go ?_
  refine Ol.eff rfl rfl rfl (Eff.call (R := ?_) law21_known rfl ?_ ?_)
  rotate_left
  · exact tkl_
  rintro _ -
  dsimp only [List.cons_append, List.nil_append]
  refine go ?_
  refine Cd.condP rfl (fun h => ?_) (fun h => ?_)
  · refine go ?_
    refine Dn.ret1 rfl rfl fun w hs => ⟨(), ?_, by trivial, by first | exact hs | (refine hs.conv ?_; exact ent_)⟩
    rfl
  have hl30 : l.length ≤ 30 := by omega
  refine go ?_
  refine Ol.eff rfl rfl rfl (Eff.call (R := ?_) (lattice_Chain 3 ⟨by omega, by omega⟩) rfl ?_ ?_)
  rotate_left
  · exact tkl_
  rintro ⟨v, rows⟩ -
  dsimp only [List.cons_append, List.nil_append]
  refine Ol.know (fun w hw => rws_len (Tk.sat (A := (rws false eBool rows (tabT 3 3 leI))) (by exact tk_) hw)) fun hrl => ?_
  refine Ol.share (A := (sl eVal v rows)) (by exact tk_) ?_
  refine Ol.share (A := (rws false eBool rows (tabT 3 3 leI))) (by exact tk_) ?_
  refine Ol.eff rfl rfl rfl (Eff.call (R := ?_) (lattice_New v rows (tabT 3 3 leI) hrl (by rw [tabT_length]; omega)) rfl ?_ ?_)
  rotate_left
  · exact tkl_
  rintro (_ | ⟨lp, V⟩) hx
  · exact absurd hx (by show ¬ latOk _ = false; rw [chain_ok3]; simp)
  have hV : isLat (tabT 3 3 leI) V := hx.2
  dsimp only [newV, newH, List.cons_append, List.nil_append]
  repeat(first|(with_reducible refine Ol.g ?_;first|(refine Ol.q rfl rfl rfl ?_ ?_;(first|exact True.intro|omega|(unfold in64;omega)|(simp only [List.length_append,List.length_cons,List.length_nil,List.length_set];omega)))|with_reducible refine Ol.nil ?_|refine Ol.skip rfl rfl ?_|refine Ol.eff rfl rfl rfl (Eff.x (Qx.build rfl) ?_)|refine Ol.skip0 rfl ?_|(refine Ol.ga ?_;dsimp only [List.append])|refine Ol.eff rfl rfl rfl (Eff.alloc fun _ => ?_)|refine Ol.eff rfl rfl rfl (Eff.box fun _ => ?_)|refine Ol.eff0 rfl rfl (Eff.store rfl rfl ?_)|refine Ol.eff rfl rfl rfl (Eff.bslice rfl rfl fun _ => ?_)|(refine Ol.eff0 rfl rfl (Eff.storeE rfl ?_ ?_);(first|exact True.intro|omega|(unfold in64;omega)|(simp only [List.length_append,List.length_cons,List.length_nil,List.length_set];omega)))|(refine Ol.eff rfl rfl rfl (Eff.append1 rfl ?_ fun _ => ?_);(first|exact True.intro|omega|(unfold in64;omega)|(simp only [List.length_append,List.length_cons,List.length_nil,List.length_set];omega))))|(with_reducible refine Cd.g ?_;first|with_reducible refine Cd.seq ?_|with_reducible refine Cd.region ?_|with_reducible refine Cd.skip ?_|with_reducible refine Cd.ret ?_|with_reducible refine Cd.block ?_|with_reducible refine Cd.exit ?_|(with_reducible refine Cd.condg ?_;first|refine Cd.cond_t rfl ?_|refine Cd.cond_f rfl ?_))|(with_reducible refine Dn.g ?_;first|with_reducible refine Dn.then ?_|with_reducible refine Dn.ret_then ?_|with_reducible refine Dn.ret_block ?_|with_reducible refine Dn.block ?_|with_reducible refine Dn.exit_then ?_|with_reducible refine Dn.exit_at ?_|with_reducible refine Dn.exit_by rfl ?_))
  refine Ol.eff rfl rfl rfl (Eff.call (R := ?_) (gate_New (some lp) false _ orG (by simp)) rfl ?_ ?_)
  rotate_left
  · exact tkl_
  rintro ⟨p, s⟩ hs
  dsimp only [List.cons_append, List.nil_append]
  refine go ?_
  refine Ol.eff rfl rfl rfl (Eff.alloc fun c => ?_)
  refine Ol.arr eVal 3 (List.replicate 3 (.slice none 0 0)) (Tk.hd _ _) rfl rfl rfl ?_
  refine go ?_
  refine Ol.eff rfl rfl rfl (Eff.alloc fun d => ?_)
  refine Ol.arr (eInt .i64) 3 (List.replicate 3 0) (Tk.hd _ _) rfl rfl rfl ?_
  refine go ?_
  refine Cd.loop (fun x : Nat × GS × List Value => x.1 ≤ l.length ∧ orI l lp x) (fun x => l.length - x.1) (fun x => [(0, lv), (1, .int .u8 a), (2, .int .u8 b), (9, .pointer (some ⟨p, 0, none⟩)), (10, .pointer (some ⟨c, 0, none⟩)), (11, .pointer (some ⟨d, 0, none⟩)), (12, .int .i64 x.1)]) (fun x => arr (eInt .i64) d 3 (List.replicate 3 0) :: arr eVal c 3 x.2.2 :: rws false (eInt .i32) x.2.2 (orT l x.1) :: lat lp V :: rsl (eInt .u8) lv l :: gateH p x.2.1 ++ R) ⟨0, s, List.replicate 3 (.slice none 0 0)⟩ ?_ ?_ ?_ ?_
  · refine ⟨by simp, ⟨hs.fl, hs.gates, hs.waits, hs.outs, hs.seq, fun k t => ?_, rfl⟩⟩
    have n6 : s.asked = fun _ => none := hs.asked
    simp [cnt, n6]
  · repeat(first|exact Env.le_nil _|(refine Env.le_cons rfl ?_ ?_;first|rfl|(simp;done)|exact congrArg _ (by omega)|rotate_left))
  · dsimp only
    rw [show orT l 0 = List.replicate 3 [] from rfl]
    exact ent_
  rintro ⟨i, s, rs⟩ ⟨hi, I⟩
  dsimp only [List.cons_append, List.nil_append] at hi ⊢
  refine go ?_
  refine Cd.condP rfl (fun h => ?_) (fun h => ?_)
  · have hi' : i < l.length := by omega
    have hx := hl _ (rd_mem (xs := l) (i := (i : Int)) (by omega) (by omega))
    have I1 := I.len; have I3 := I.cnt; have I2 := I.waits; have I6 := I.outs; have I7 := I.seq
    have I4 := I.fl; have I5 := I.gates
    dsimp only at I1 I2 I3 I4 I5 I6 I7
    have hFV : FnV (P := Try.prog) s.fl (lat lp V) pairV2 (fun _ => True) (fun x => .bool (flowsB V x.1 x.2)) := by rw [I4]; exact flows_FnV lp V hV.ok
    have hmay : askOk (flowsB V) s (rd l i % 3) (rd l i / 3 % 3) 0 = true := by
      have hF : flowsB V (rd l i / 3 % 3) 2 = true := by
        rw [flowsB_eq hV (by rw [tabT_length]; omega) (by rw [tabT_length]; omega), tabT_rd (by omega) (by omega)]; exact decide_eq_true (by omega)
      have hp : privHas 0 0 = true := by decide
      have hc := I3 (rd l i % 3) (rd l i / 3 % 3)
      unfold askOk
      rw [I5]
      have hg : rd orG (rd l i % 3) = ⟨2, 0, 0, 100⟩ ∨ rd orG (rd l i % 3) = ⟨2, 1, 0, 100⟩ := by
        have : rd l i % 3 = 0 ∨ rd l i % 3 = 1 ∨ rd l i % 3 = 2 := by omega
        rcases this with h | h | h <;> rw [h] <;> simp [rd]
      rcases hg with h | h <;> rw [h] <;> simp [hF, hp] <;> omega
    have hu : ∀ i : Int, 0 ≤ i → i < s.gates.length → u32 (rd s.gates i).f_Need := by
      intro i h0 h1
      have := rd_mem h0 h1
      rw [I5] at this ⊢
      simp at this
      rcases this with h | h | h <;> rw [h] <;> exact ⟨by decide, by decide⟩
    have hil : i ≤ 30 := by omega
    refine go ?_
    refine Ol.eff rfl rfl rfl (Eff.call (R := ?_) (gate_AskT p s (flowsB V) (lat lp V) hFV (rd l i % 3) (rd l i / 3 % 3) 0 i 0 hu (by rw [I2, orW_length]; omega) (by have := I3 (rd l i % 3) (rd l i / 3 % 3); omega) hmay) rfl ?_ ?_)
    rotate_left
    · exact tkl_
    rintro wv -
    dsimp only [List.cons_append, List.nil_append]
    refine go ?_
    have hT : (orT l i).length = 3 := rfl
    refine Ol.row (r := false) (E := eInt .i32) (rows := rs) (xss := orT l i) (rd l i % 3) (by exact tk_) ⟨by omega, by rw [hT]; omega⟩ ?_
    have hlen : (rd (orT l i) (rd l i % 3)).length ≤ 30 := rd_len (m := 30) (xss := orT l i) (fun r hr => by
      have := orWant_length l i
      simp at hr
      rcases hr with h | h | h <;> rw [h] <;> have := this 0 <;> have := orWant_length l i 1 <;> have := orWant_length l i 2 <;> omega) _
    repeat(first|(with_reducible refine Ol.g ?_;first|(refine Ol.q rfl rfl rfl ?_ ?_;(first|exact True.intro|omega|(unfold in64;omega)|(simp only [List.length_append,List.length_cons,List.length_nil,List.length_set];omega)))|with_reducible refine Ol.nil ?_|refine Ol.skip rfl rfl ?_|refine Ol.eff rfl rfl rfl (Eff.x (Qx.build rfl) ?_)|refine Ol.skip0 rfl ?_|(refine Ol.ga ?_;dsimp only [List.append])|refine Ol.eff rfl rfl rfl (Eff.alloc fun _ => ?_)|refine Ol.eff rfl rfl rfl (Eff.box fun _ => ?_)|refine Ol.eff0 rfl rfl (Eff.store rfl rfl ?_)|refine Ol.eff rfl rfl rfl (Eff.bslice rfl rfl fun _ => ?_)|(refine Ol.eff0 rfl rfl (Eff.storeE rfl ?_ ?_);(first|exact True.intro|omega|(unfold in64;omega)|(simp only [List.length_append,List.length_cons,List.length_nil,List.length_set];omega)))|(refine Ol.eff rfl rfl rfl (Eff.append1 rfl ?_ fun _ => ?_);(first|exact True.intro|omega|(unfold in64;omega)|(simp only [List.length_append,List.length_cons,List.length_nil,List.length_set];omega))))|(with_reducible refine Cd.g ?_;first|with_reducible refine Cd.seq ?_|with_reducible refine Cd.region ?_|with_reducible refine Cd.skip ?_|with_reducible refine Cd.ret ?_|with_reducible refine Cd.block ?_|with_reducible refine Cd.exit ?_|(with_reducible refine Cd.condg ?_;first|refine Cd.cond_t rfl ?_|refine Cd.cond_f rfl ?_))|(with_reducible refine Dn.g ?_;first|with_reducible refine Dn.then ?_|with_reducible refine Dn.ret_then ?_|with_reducible refine Dn.ret_block ?_|with_reducible refine Dn.block ?_|with_reducible refine Dn.exit_then ?_|with_reducible refine Dn.exit_at ?_|with_reducible refine Dn.exit_by rfl ?_))
    rename_i u'
    have hnx : orT l (i + 1) = (orT l i).set (rd l i % 3).toNat (rd (orT l i) (rd l i % 3) ++ [(i : Int)]) := by
      unfold orT
      rw [orWant_succ, orWant_succ, orWant_succ]
      have : rd l i % 3 = 0 ∨ rd l i % 3 = 1 ∨ rd l i % 3 = 2 := by omega
      rcases this with h | h | h <;> rw [h] <;> simp [rd]
    refine Dn.round ⟨i + 1, askS s (rd l i % 3) (rd l i / 3 % 3) i 0 wv, rs.set (rd l i % 3).toNat u'⟩ ⟨by dsimp only; omega, ⟨I4, I5, ?_, I6, I7, fun k t => ?_, by simp [I1]⟩⟩ (by dsimp only; omega) ?_ ?_
    · dsimp only
      rw [I2, orW_succ]
    · have := I3 k t
      have h0 := I3 (rd l i % 3) (rd l i / 3 % 3)
      dsimp only
      simp only [cnt, upd] at this h0 ⊢
      split
      · simp; omega
      · omega
    · repeat(first|exact Env.le_nil _|(refine Env.le_cons rfl ?_ ?_;first|rfl|(simp;done)|exact congrArg _ (by omega)|rotate_left))
    · dsimp only
      rw [hnx]
      exact ent_
  · have hil : i = l.length := by omega
    subst hil
    refine go ?_
    have N30 : l.length ≤ 30 := by omega
    have I1 := I.len; have I3 := I.cnt; have I2 := I.waits; have I6 := I.outs; have I7 := I.seq
    have I4 := I.fl; have I5 := I.gates
    dsimp only at I1 I2 I3 I4 I5 I6 I7
    have hlW := orW_length l l.length
    have hgs : gsOk s 100 := by
      refine ⟨by rw [I2, hlW]; omega, fun w hw => ?_, by rw [I6, I5]; rfl, fun r hr => ?_, fun t => by rw [I7]; simp, fun g hg => ?_⟩
      · rw [I2] at hw; have := want_mem hw; rw [I5]; simp; omega
      · rw [I6] at hr; simp at hr; subst hr; simp
      · rw [I5] at hg; simp at hg; rcases hg with h | h | h <;> rw [h] <;> exact ⟨by decide, by decide⟩
    have hgo : ∀ w, w ∈ s.waits → 0 ≤ w.f_gate ∧ w.f_gate < s.outs.length := fun w hw => by
      rw [I2] at hw; have := want_mem hw; rw [I6]; simp; omega
    have to1 : ∀ w, w ∈ orW l l.length → toF orG 1 w = decide (w.f_gate = 1) ∧ toF orG 0 w = !decide (w.f_gate = 1) := fun w hw => by
      have := want_mem hw
      have : w.f_gate = 0 ∨ w.f_gate = 1 ∨ w.f_gate = 2 := by omega
      rcases this with h | h | h <;> simp [toF, h, rd]
    obtain ⟨o1, ho1⟩ : ∃ o, openK s 1 a s.waits.length = o := ⟨_, rfl⟩
    have E1 := openK_eq s 1 a hgo s.waits.length (Nat.le_refl _)
    obtain ⟨e1, e2, e3, e4, e5, e6⟩ := E1
    rw [ho1] at e1 e2 e3 e4 e5 e6
    rw [List.take_length] at e1 e2 e3 e6
    have w1 : s.waits.filter (toF s.gates 1) = (orW l l.length).filter fun w => decide (w.f_gate = 1) := by
      rw [I2, I5]; exact List.filter_congr fun w hw => (to1 w hw).1
    have w2 : (s.waits.filter fun w => !toF s.gates 1 w) = orY l l.length := by
      rw [I2, I5]; exact List.filter_congr fun w hw => by rw [(to1 w hw).1]
    rw [w1] at e1 e3 e6
    rw [w2] at e2
    have hn0 : ∀ g : Int, g = 0 ∨ g = 1 ∨ g = 2 → rd s.outs g = [] := fun g hg => by rw [I6]; rcases hg with h | h | h <;> rw [h] <;> rfl
    have f1 : ∀ g : Int, g = 0 ∨ g = 1 ∨ g = 2 → rd o1.outs g = if g = 1 then orWant l l.length 1 else [] := fun g hg => by
      rw [e6 g (by omega) (by rw [I6]; simp; omega), hn0 g hg, List.nil_append, List.filter_filter]
      by_cases h1 : g = 1
      · subst h1; rw [if_pos rfl]; unfold orWant; congr 1
        exact List.filter_congr fun w _ => by simp
      · rw [if_neg h1]
        rw [List.filter_eq_nil_iff.2 fun w _ => by simp; omega]; rfl
    refine Ol.eff rfl rfl rfl (Eff.call (R := ?_) (gate_OpenO p s 100 (by omega) hgs 1 a o1 ho1) rfl ?_ ?_)
    rotate_left
    · exact tkl_
    rintro ⟨x1, wv1, or1⟩ hgs1
    dsimp only [List.cons_append, List.nil_append] at hgs1 ⊢
    refine go ?_
    have hgo1 : ∀ w, w ∈ o1.rest → 0 ≤ w.f_gate ∧ w.f_gate < o1.outs.length := fun w hw => by
      rw [e2] at hw; have := want_mem (orY_mem hw).1; rw [e5, I6]; simp; omega
    obtain ⟨o2, ho2⟩ : ∃ o, openK (opG s o1 wv1 or1) 0 b (opG s o1 wv1 or1).waits.length = o := ⟨_, rfl⟩
    have E2 := openK_eq (opG s o1 wv1 or1) 0 b hgo1 (opG s o1 wv1 or1).waits.length (Nat.le_refl _)
    obtain ⟨g1, g2, g3, g4, g5, g6⟩ := E2
    rw [ho2] at g1 g2 g3 g4 g5 g6
    rw [List.take_length] at g1 g2 g3 g6
    dsimp only at g1 g2 g3 g4 g5 g6
    have w3 : o1.rest.filter (toF s.gates 0) = orY l l.length := by
      rw [e2, I5]; exact List.filter_eq_self.2 fun w hw => by rw [(to1 w (orY_mem hw).1).2]; simp [(orY_mem hw).2]
    have w4 : (o1.rest.filter fun w => !toF s.gates 0 w) = [] := by
      rw [e2, I5]; exact List.filter_eq_nil_iff.2 fun w hw => by rw [(to1 w (orY_mem hw).1).2]; simp [(orY_mem hw).2]
    rw [w3] at g1 g3 g6
    rw [w4] at g2
    rw [e4 0 (by omega), I7] at g1
    dsimp only [Option.getD] at g1
    have f2 : ∀ g : Int, g = 0 ∨ g = 1 ∨ g = 2 → rd o2.outs g = orWant l l.length g := fun g hg => by
      rw [g6 g (by omega) (by rw [e5, I6]; simp; omega), f1 g hg]
      by_cases h1 : g = 1
      · subst h1; rw [if_pos rfl]
        unfold orY
        rw [List.filter_filter, List.filter_eq_nil_iff.2 fun w _ => by simp]; simp
      · rw [if_neg h1, List.nil_append]; exact orY_want l l.length g h1
    refine Ol.eff rfl rfl rfl (Eff.call (R := ?_) (gate_OpenO p (opG s o1 wv1 or1) (2 * 100) (by omega) hgs1 0 b o2 ho2) rfl ?_ ?_)
    rotate_left
    · exact tkl_
    rintro ⟨x2, wv2, or2⟩ hgs2
    dsimp only [List.cons_append, List.nil_append] at hgs2 ⊢
    refine go ?_
    have hTT : ∀ g : Int, g = 0 ∨ g = 1 ∨ g = 2 → rd (orT l l.length) g = orWant l l.length g := fun g hg => by rcases hg with h | h | h <;> rw [h] <;> rfl
    have L1 : o1.recs.length = (orWant l l.length 1).length := by rw [e1, recsOf_length]; unfold orWant; rw [List.length_map]
    have L2 : o2.recs.length = (orWant l l.length 0).length + (orWant l l.length 2).length := by rw [g1, recsOf_length]; exact orY_length l l.length
    have b0 : (rd (orT l l.length) 0).length ≤ 30 := by rw [hTT 0 (by omega)]; exact Nat.le_trans (orWant_length _ _ _) N30
    have b2 : (rd (orT l l.length) 2).length ≤ 30 := by rw [hTT 2 (by omega)]; exact Nat.le_trans (orWant_length _ _ _) N30
    have hrl2 : o2.recs.length ≤ 60 := by rw [L2]; have := orWant_length l l.length 0; have := orWant_length l l.length 2; omega
    rw [show decide ((o1.recs.length : Int) ≠ ((rd (orT l l.length) 1).length : Int)) = false from decide_eq_false (by rw [hTT 1 (by omega), L1]; simp)]
    refine go ?_
    rw [show decide ((o2.recs.length : Int) ≠ (((rd (orT l l.length) 0).length : Int) + ((rd (orT l l.length) 2).length : Int))) = false from decide_eq_false (by rw [hTT 0 (by omega), hTT 2 (by omega), L2]; simp)]
    refine go ?_
    refine Ol.eff rfl rfl rfl (Eff.call (R := ?_) (gate_OpenO p (opG (opG s o1 wv1 or1) o2 wv2 or2) (2 * (2 * 100)) (by omega) hgs2 2 9 ⟨[], [], o2.seq, o2.outs⟩ (by simp [openK, g2])) rfl ?_ ?_)
    rotate_left
    · exact tkl_
    rintro ⟨x3, wv3, or3⟩ -
    dsimp only [List.cons_append, List.nil_append]
    refine go ?_
    have hYs := orY_sorted l l.length
    have hYl : o2.recs.length = (orY l l.length).length := by rw [g1, recsOf_length]
    refine Cd.loop (fun z : Nat × List Int => z.1 ≤ o2.recs.length ∧ z.2.length = 3 ∧ ∀ g : Int, g = 0 ∨ g = 1 ∨ g = 2 → rd z.2 g = orAt l l.length z.1 g) (fun z => o2.recs.length - z.1) (fun z => [(2, .int .u8 b), (9, .pointer (some ⟨p, 0, none⟩)), (10, .pointer (some ⟨c, 0, none⟩)), (11, .pointer (some ⟨d, 0, none⟩)), (15, x2), (16, .int .i64 z.1)]) (fun z => sl e_api_Record x2 o2.recs :: arr (eInt .i64) d 3 z.2 :: arr eVal c 3 rs :: rws false (eInt .i32) rs (orT l l.length) :: lat lp V :: rsl (eInt .u8) lv l :: gateH p (opG s ⟨[], [], o2.seq, o2.outs⟩ wv3 or3) ++ R) ⟨0, List.replicate 3 0⟩ ?_ ?_ ?_ ?_
    · refine ⟨by simp, rfl, fun g hg => ?_⟩
      rcases hg with h | h | h <;> rw [h] <;> rfl
    · repeat(first|exact Env.le_nil _|(refine Env.le_cons rfl ?_ ?_;first|rfl|(simp;done)|exact congrArg _ (by omega)|rotate_left))
    · exact ent_
    rintro ⟨i, ats⟩ ⟨hi, ha3, hat⟩
    dsimp only [List.cons_append, List.nil_append] at hi ha3 hat ⊢
    refine go ?_
    refine Cd.condP rfl (fun h => ?_) (fun h => ?_)
    · have hi' : i < (orY l l.length).length := by omega
      have hr := recsOf_rd 0 b (orY l l.length) 0 i hi'
      rw [← g1, Int.zero_add] at hr
      have hwm := orY_mem (rd_mem (xs := orY l l.length) (i := (i : Int)) (by omega) (by omega))
      have hwb := want_mem hwm.1
      have hg : (rd (orY l l.length) (i : Int)).f_gate = 0 ∨ (rd (orY l l.length) (i : Int)).f_gate = 2 := by have := hwm.2; omega
      have hnext : (orWant l l.length (rd (orY l l.length) (i : Int)).f_gate)[(orAt l l.length i (rd (orY l l.length) (i : Int)).f_gate).toNat]? = some (rd (orY l l.length) (i : Int)).f_v := by
        have h1 := filter_next (fun w => decide (w.f_gate = (rd (orY l l.length) (i : Int)).f_gate)) (orY l l.length) i (rd (orY l l.length) (i : Int)) (by rw [rd_eq (by simpa using hi')]; simp) (by simp)
        rw [← orY_want l l.length _ hwm.2, List.getElem?_map]
        unfold orAt
        rw [Int.toNat_natCast, h1]; rfl
      have hsucc := orAt_succ l l.length i hi'
      have hprev : 0 < i → (rd o2.recs ((i : Int) - 1)).f_Value < (rd (orY l l.length) (i : Int)).f_v := fun h0 => by
        have hp := recsOf_rd 0 b (orY l l.length) 0 (i - 1) (by omega)
        rw [← g1, show (((i - 1 : Nat) : Int)) = (i : Int) - 1 from by omega] at hp
        rw [hp]
        have := List.pairwise_iff_getElem.1 hYs (i - 1) i (by omega) hi' (by omega)
        rw [rd_eq (xs := orY l l.length) (i := (i : Int)) (by rw [Int.toNat_natCast]; exact hi'), rd_eq (by omega)]
        simpa [show ((i : Int) - 1).toNat = i - 1 from by omega] using this
      have hgat := hat (rd (orY l l.length) (i : Int)).f_gate (by omega)
      have hgT := hTT (rd (orY l l.length) (i : Int)).f_gate (by omega)
      generalize hgg : (rd (orY l l.length) (i : Int)).f_gate = g at hr hg hnext hsucc hgat hgT
      generalize hvv : (rd (orY l l.length) (i : Int)).f_v = v at hr hnext hprev
      have hlt : (orAt l l.length i g).toNat < (orWant l l.length g).length := (List.getElem?_eq_some_iff.1 hnext).1
      have hnn : 0 ≤ orAt l l.length i g := by unfold orAt; omega
      have hwant : rd (orWant l l.length g) (orAt l l.length i g) = v := by rw [rd_eq hlt]; rw [List.getElem?_eq_getElem hlt] at hnext; exact Option.some.inj hnext
      have hltI : rd ats g < ((rd (orT l l.length) g).length : Int) := by rw [hgat, hgT]; omega
      have hbI : (rd (orT l l.length) g).length ≤ 30 := by rw [hgT]; exact Nat.le_trans (orWant_length _ _ _) N30
      have hnnI : 0 ≤ rd ats g := by rw [hgat]; exact hnn
      refine go ?_
      rw [hr]
      dsimp only
      refine Cd.cut (α := Unit) (fun _ => [(2, .int .u8 b), (9, .pointer (some ⟨p, 0, none⟩)), (10, .pointer (some ⟨c, 0, none⟩)), (11, .pointer (some ⟨d, 0, none⟩)), (15, x2), (16, .int .i64 i), (17, .int .i64 g), (183, .bool false)]) (fun _ => sl e_api_Record x2 o2.recs :: arr (eInt .i64) d 3 ats :: arr eVal c 3 rs :: rws false (eInt .i32) rs (orT l l.length) :: lat lp V :: rsl (eInt .u8) lv l :: gateH p (opG s ⟨[], [], o2.seq, o2.outs⟩ wv3 or3) ++ R) (fun K kk => ?_) ?_
      · refine Cd.draw2 [[], [0], [0, 1], [0, 1, 2], [0, 1, 2, 3], [0, 1, 2, 3, 4], [0, 1, 2, 3, 4, 5], [0, 1, 2, 3, 4, 5, 6], [0, 1, 2, 3, 4, 5, 6], [0, 1, 2, 3, 4, 5, 6, 7, 8], [0, 1, 2, 3, 4, 5, 6, 7, 8, 9], [0, 1, 2, 3, 4, 5, 6, 7, 8, 9, 10], [0, 1, 2, 3, 4, 5, 6], [0, 1, 2, 3, 4, 5, 6, 7, 8, 9, 10, 11, 12], [0, 1, 2, 3, 4, 5, 6, 7, 8, 9, 10, 11, 12, 13], [0, 1, 2, 3, 4, 5, 6, 7, 8, 9, 10, 11, 12, 13, 14], [0, 1, 2, 3, 4, 5, 6, 7, 8, 9, 10, 11, 12, 13, 14, 15], [0, 1, 2, 3, 4, 5, 6, 7, 8, 9, 10, 11, 12, 13, 14, 15], [0, 1, 2, 3, 4, 5, 6, 7, 8, 9, 10, 11, 12, 13, 14, 15, 16, 17], [0, 1, 2, 3, 4, 5, 6, 7, 8, 9, 10, 11, 12, 13, 14, 15, 16, 17, 18], [0, 1, 2, 3, 4, 5, 6, 7, 8, 9, 10, 11, 12, 13, 14, 15, 16, 17, 18, 19], [0, 1, 2, 3, 4, 5, 6, 7, 8, 9, 10, 11, 12, 13, 14, 15], [0, 1, 2, 3, 4, 5, 6, 7, 8, 9, 10, 11, 12, 13, 14, 15, 21], [0, 1, 2, 3, 4, 5, 6, 7, 8, 9, 10, 11, 12, 13, 14, 15, 16, 17, 18, 19, 20, 21, 22], [0, 1, 2, 3, 4, 5, 6, 7, 8, 9, 10, 11, 12, 13, 14, 15, 16, 17, 18, 19, 20, 21, 22, 23], [0, 1, 2, 3, 4, 5, 6, 7, 8, 9, 10, 11, 12, 13, 14, 15, 16, 17, 18, 19, 20, 21, 22, 23, 24], [0, 1, 2, 3, 4, 5, 6, 7, 8, 9, 10, 11, 12, 13, 14, 15, 16, 17, 18, 19, 20, 21, 22, 23, 24, 25], [0, 1, 2, 3, 4, 5, 6, 7, 8, 9, 10, 11, 12, 13, 14, 15, 16, 17, 18, 19, 20, 21, 22, 23, 24, 25, 26], [0, 1, 2, 3, 4, 5, 6, 7, 8, 9, 10, 11, 12, 13, 14, 15, 16, 17, 18, 19, 20, 21, 22, 23, 24, 25, 26, 27], [0, 1, 2, 3, 4, 5, 6, 7, 8, 9, 10, 11, 12, 13, 14, 15, 16, 17, 18, 19, 20, 21, 22, 23, 24, 25, 26, 27, 28], [0, 1, 2, 3, 4, 5, 6, 7, 8, 9, 10, 11, 12, 13, 14, 15, 16, 17, 18, 19, 20, 21, 22, 23, 24, 25, 26, 27, 28], [0, 1, 2, 3, 4, 5, 6, 7, 8, 9, 10, 11, 12, 13, 14, 15, 16, 17, 18, 19, 20, 21, 22, 23, 24, 25, 26, 27, 28, 29, 30], [0, 1, 2, 3, 4, 5, 6, 7, 8, 9, 10, 11, 12, 13, 14, 15, 16, 17, 18, 19, 20, 21, 22, 23, 24, 25, 26, 27, 28, 29, 30, 31], [0, 1, 2, 3, 4, 5, 6, 7, 8, 9, 10, 11, 12, 13, 14, 15, 16, 17, 18, 19, 20, 21, 22, 23, 24, 25, 26, 27, 28, 29, 30, 31, 32], [0, 1, 2, 3, 4, 5, 6, 7, 8, 9, 10, 11, 12, 13, 14, 15, 16, 17, 18, 19, 20, 21, 22, 23, 24, 25, 26, 27, 28], [0, 1, 2, 3, 4, 5, 6, 7, 8, 9, 10, 11, 12, 13, 14, 15, 16, 17, 18, 19, 20, 21, 22, 23, 24, 25, 26, 27, 28], [0, 1, 2, 3, 4, 5, 6, 7, 8, 9, 10, 11, 12, 13, 14, 15, 16, 17, 18, 19, 20, 21, 22, 23, 24, 25, 26, 27, 28, 35], [0, 1, 2, 3, 4, 5, 6, 7, 8, 9, 10, 11, 12, 13, 14, 15, 16, 17, 18, 19, 20, 21, 22, 23, 24, 25, 26, 27, 28, 34, 35, 36], [0, 1, 2, 3, 4, 5, 6, 7, 8, 9, 10, 11, 12, 13, 14, 15, 16, 17, 18, 19, 20, 21, 22, 23, 24, 25, 26, 27, 28, 34, 35, 36, 37], [0, 1, 2, 3, 4, 5, 6, 7, 8, 9, 10, 11, 12, 13, 14, 15, 16, 17, 18, 19, 20, 21, 22, 23, 24, 25, 26, 27, 28, 34, 35, 36, 37, 38], [0, 1, 2, 3, 4, 5, 6, 7, 8, 9, 10, 11, 12, 13, 14, 15, 16, 17, 18, 19, 20, 21, 22, 23, 24, 25, 26, 27, 28, 29, 30, 31, 32, 33, 34, 35, 36, 37, 38, 39], [0, 1, 2, 3, 4, 5, 6, 7, 8, 9, 10, 11, 12, 13, 14, 15, 16, 17, 18, 19, 20, 21, 22, 23, 24, 25, 26, 27, 28, 29, 30, 31, 32, 33, 34, 35, 36, 37, 38, 39, 40], [0, 1, 2, 3, 4, 5, 6, 7, 8, 9, 10, 11, 12, 13, 14, 15, 16, 17, 18, 19, 20, 21, 22, 23, 24, 25, 26, 27, 28, 29, 30, 31, 32, 33, 34, 35, 36, 37, 38, 39, 40, 41], [0, 1, 2, 3, 4, 5, 6, 7, 8, 9, 10, 11, 12, 13, 14, 15, 16, 17, 18, 19, 20, 21, 22, 23, 24, 25, 26, 27, 28, 29, 30, 31, 32, 33, 34, 35, 36, 37, 38, 39, 40, 41, 42], [0, 1, 2, 3, 4, 5, 6, 7, 8, 9, 10, 11, 12, 13, 14, 15, 16, 17, 18, 19, 20, 21, 22, 23, 24, 25, 26, 27, 28, 29, 30, 31, 32, 33, 34, 35, 36, 37, 38, 39, 40, 41, 42, 43], [0, 1, 2, 3, 4, 5, 6, 7, 8, 9, 10, 11, 12, 13, 14, 15, 16, 17, 18, 19, 20, 21, 22, 23, 24, 25, 26, 27, 28, 29, 30, 31, 32, 33, 34, 35, 36, 37, 38, 39, 40, 41, 42, 43, 44], [0, 1, 2, 3, 4, 5, 6, 7, 8, 9, 10, 11, 12, 13, 14, 15, 16, 17, 18, 19, 20, 21, 22, 23, 24, 25, 26, 27, 28, 29, 30, 31, 32, 33, 34, 35, 36, 37, 38, 39, 40, 41, 42, 43, 44, 45], [0, 1, 2, 3, 4, 5, 6, 7, 8, 9, 10, 11, 12, 13, 14, 15, 16, 17, 18, 19, 20, 21, 22, 23, 24, 25, 26, 27, 28, 29, 30, 31, 32, 33, 34, 35, 36, 37, 38, 39, 40, 41, 42, 43], [0, 1, 2, 3, 4, 5, 6, 7, 8, 9, 10, 11, 12, 13, 14, 15, 16, 17, 18, 19, 20, 21, 22, 23, 24, 25, 26, 27, 28, 29, 30, 31, 32, 33, 34, 35, 36, 37, 38, 39, 40, 41, 42, 43, 47], [0, 1, 2, 3, 4, 5, 6, 7, 8, 9, 10, 11, 12, 13, 14, 15, 16, 17, 18, 19, 20, 21, 22, 23, 24, 25, 26, 27, 28, 29, 30, 31, 32, 33, 34, 35, 36, 37, 38, 39, 40, 41, 42, 43, 47, 48], [0, 1, 2, 3, 4, 5, 6, 7, 8, 9, 10, 11, 12, 13, 14, 15, 16, 17, 18, 19, 20, 21, 22, 23, 24, 25, 26, 27, 28, 29, 30, 31, 32, 33, 34, 35, 36, 37, 38, 39, 40, 41, 42, 43, 47, 48, 49], [0, 1, 2, 3, 4, 5, 6, 7, 8, 9, 10, 11, 12, 13, 14, 15, 16, 17, 18, 19, 20, 21, 22, 23, 24, 25, 26, 27, 28, 29, 30, 31, 32, 33, 34, 35, 36, 37, 38, 39, 40, 41, 42, 43, 44, 45, 46, 47, 48, 49, 50], [0, 1, 2, 3, 4, 5, 6, 7, 8, 9, 10, 11, 12, 13, 14, 15, 16, 17, 18, 19, 20, 21, 22, 23, 24, 25, 26, 27, 28, 29, 30, 31, 32, 33, 34, 35, 36, 37, 38, 39, 40, 41, 42, 43, 44, 45, 46, 47, 48, 49, 50, 51], [0, 1, 2, 3, 4, 5, 6, 7, 8, 9, 10, 11, 12, 13, 14, 15, 16, 17, 18, 19, 20, 21, 22, 23, 24, 25, 26, 27, 28, 29, 30, 31, 32, 33, 34, 35, 36, 37, 38, 39, 40, 41, 42, 43, 44, 45, 46, 47, 48, 49, 50, 51, 52], [0, 1, 2, 3, 4, 5, 6, 7, 8, 9, 10, 11, 12, 13, 14, 15, 16, 17, 18, 19, 20, 21, 22, 23, 24, 25, 26, 27, 28, 29, 30, 31, 32, 33, 34, 35, 36, 37, 38, 39, 40, 41, 42, 43, 44, 45, 46, 47, 48, 49, 50, 51, 52, 53], [0, 1, 2, 3, 4, 5, 6, 7, 8, 9, 10, 11, 12, 13, 14, 15, 16, 17, 18, 19, 20, 21, 22, 23, 24, 25, 26, 27, 28, 29, 30, 31, 32, 33, 34, 35, 36, 37, 38, 39, 40, 41, 42, 43, 44, 45, 46, 47, 48, 49, 50, 51, 52, 53, 54], [0, 1, 2, 3, 4, 5, 6, 7, 8, 9, 10, 11, 12, 13, 14, 15, 16, 17, 18, 19, 20, 21, 22, 23, 24, 25, 26, 27, 28, 29, 30, 31, 32, 33, 34, 35, 36, 37, 38, 39, 40, 41, 42, 43, 44, 45, 46, 47, 48, 49, 50, 51, 52, 53, 54, 55], [0, 1, 2, 3, 4, 5, 6, 7, 8, 9, 10, 11, 12, 13, 14, 15, 16, 17, 18, 19, 20, 21, 22, 23, 24, 25, 26, 27, 28, 29, 30, 31, 32, 33, 34, 35, 36, 37, 38, 39, 40, 41, 42, 43, 44, 45, 46, 47, 48, 49, 50, 51, 52, 53], [0, 1, 2, 3, 4, 5, 6, 7, 8, 9, 10, 11, 12, 13, 14, 15, 16, 17, 18, 19, 20, 21, 22, 23, 24, 25, 26, 27, 28, 29, 30, 31, 32, 33, 34, 35, 36, 37, 38, 39, 40, 41, 42, 43, 44, 45, 46, 47, 48, 49, 50, 51, 52, 53, 57], [0, 1, 2, 3, 4, 5, 6, 7, 8, 9, 10, 11, 12, 13, 14, 15, 16, 17, 18, 19, 20, 21, 22, 23, 24, 25, 26, 27, 28, 29, 30, 31, 32, 33, 34, 35, 36, 37, 38, 39, 40, 41, 42, 43, 44, 45, 46, 47, 48, 49, 50, 51, 52, 53, 57, 58], [0, 1, 2, 3, 4, 5, 6, 7, 8, 9, 10, 11, 12, 13, 14, 15, 16, 17, 18, 19, 20, 21, 22, 23, 24, 25, 26, 27, 28, 29, 30, 31, 32, 33, 34, 35, 36, 37, 38, 39, 40, 41, 42, 43, 44, 45, 46, 47, 48, 49, 50, 51, 52, 53, 54, 55, 56, 57, 58, 59], [0, 1, 2, 3, 4, 5, 6, 7, 8, 9, 10, 11, 12, 13, 14, 15, 16, 17, 18, 19, 20, 21, 22, 23, 24, 25, 26, 27, 28, 29, 30, 31, 32, 33, 34, 35, 36, 37, 38, 39, 40, 41, 42, 43, 44, 45, 46, 47, 48, 49, 50, 51, 52, 53, 54, 55, 56, 57, 58, 59, 60], [0, 1, 2, 3, 4, 5, 6, 7, 8, 9, 10, 11, 12, 13, 14, 15, 16, 17, 18, 19, 20, 21, 22, 23, 24, 25, 26, 27, 28, 29, 30, 31, 32, 33, 34, 35, 36, 37, 38, 39, 40, 41, 42, 43, 44, 45, 46, 47, 48, 49, 50, 51, 52, 53], [0, 1, 2, 3, 4, 5, 6, 7, 8, 9, 10, 11, 12, 13, 14, 15, 16, 17, 18, 19, 20, 21, 22, 23, 24, 25, 26, 27, 28, 29, 30, 31, 32, 33, 34, 35, 36, 37, 38, 39, 40, 41, 42, 43, 44, 45, 46, 47, 48, 49, 50, 51, 52, 53], [0, 1, 2, 3, 4, 5, 6, 7, 8, 9, 10, 11, 12, 13, 14, 15, 16, 17, 18, 19, 20, 21, 22, 23, 24, 25, 26, 27, 28, 29, 30, 31, 32, 33, 34, 35, 36, 37, 38, 39, 40, 41, 42, 43, 44, 45, 46, 47, 48, 49, 50, 51, 52, 53, 62, 63], [0, 1, 2, 3, 4, 5, 6, 7, 8, 9, 10, 11, 12, 13, 14, 15, 16, 17, 18, 19, 20, 21, 22, 23, 24, 25, 26, 27, 28, 29, 30, 31, 32, 33, 34, 35, 36, 37, 38, 39, 40, 41, 42, 43, 44, 45, 46, 47, 48, 49, 50, 51, 52, 53, 62, 63, 64], [0, 1, 2, 3, 4, 5, 6, 7, 8, 9, 10, 11, 12, 13, 14, 15, 16, 17, 18, 19, 20, 21, 22, 23, 24, 25, 26, 27, 28, 29, 30, 31, 32, 33, 34, 35, 36, 37, 38, 39, 40, 41, 42, 43, 44, 45, 46, 47, 48, 49, 50, 51, 52, 53, 62, 63, 64, 65], [0, 1, 2, 3, 4, 5, 6, 7, 8, 9, 10, 11, 12, 13, 14, 15, 16, 17, 18, 19, 20, 21, 22, 23, 24, 25, 26, 27, 28, 29, 30, 31, 32, 33, 34, 35, 36, 37, 38, 39, 40, 41, 42, 43, 44, 45, 46, 47, 48, 49, 50, 51, 52, 53, 54, 55, 56, 57, 58, 59, 60, 61, 62, 63, 64, 65, 66], [0, 1, 2, 3, 4, 5, 6, 7, 8, 9, 10, 11, 12, 13, 14, 15, 16, 17, 18, 19, 20, 21, 22, 23, 24, 25, 26, 27, 28, 29, 30, 31, 32, 33, 34, 35, 36, 37, 38, 39, 40, 41, 42, 43, 44, 45, 46, 47, 48, 49, 50, 51, 52, 53, 54, 55, 56, 57, 58, 59, 60, 61, 62, 63, 64, 65, 66, 67]] [] [] (td := [(0, .fresh), (1, .fresh), (2, .fresh), (3, .fresh), (4, .fresh), (5, .fresh), (6, .fresh), (7, .fresh), (8, .fresh), (9, .fresh), (10, .fresh), (11, .fresh), (12, .fresh), (13, .fresh), (14, .fresh), (15, .fresh), (16, .fresh), (17, .fresh), (18, .fresh), (19, .fresh), (20, .fresh), (21, .fresh), (22, .fresh), (23, .fresh), (24, .fresh), (25, .fresh), (26, .fresh), (27, .fresh), (28, .fresh), (29, .fresh), (30, .fresh), (31, .fresh), (32, .fresh), (33, .fresh), (34, .fresh), (35, .fresh), (36, .fresh), (37, .fresh), (38, .fresh), (39, .fresh), (40, .fresh), (41, .fresh), (42, .fresh), (43, .fresh), (44, .fresh), (45, .fresh), (46, .fresh), (47, .fresh), (48, .fresh), (49, .fresh), (50, .fresh), (51, .fresh), (52, .fresh), (53, .fresh), (54, .fresh), (55, .fresh), (56, .fresh), (57, .fresh), (58, .fresh), (59, .fresh), (60, .fresh), (61, .fresh), (62, .fresh), (63, .fresh), (64, .fresh), (65, .fresh), (66, .fresh), (67, .fresh), (68, .fresh)]) mixed (by kernel_rfl) (by kernel_rfl) (by decide) (by decide) rfl (by kernel_rfl) ?_
        refine god2 ?_
        rcases hg with rfl | rfl
        · rw [show decide ((0 : Int) ≠ 0) = false from by simp]
          refine god2 ?_
          rw [hr]
          dsimp only
          rw [show decide ((i : Int) ≠ (i : Int)) = false from by simp]
          refine god2 ?_
          rw [hr]
          dsimp only
          rw [show decide (b ≠ b) = false from by simp]
          refine god2 ?_
          cases hP : decide (0 < (i : Int)) with
          | true =>
            have hp0 := hprev (by have := of_decide_eq_true hP; omega)
            have hp1 := of_decide_eq_true hP
            refine god2 ?_
            rw [hr]
            dsimp only
            rw [show decide (v ≤ (rd o2.recs ((i : Int) - 1)).f_Value) = false from decide_eq_false (by omega)]
            refine god2 ?_
            rw [show decide (((rd (orT l l.length) 0).length : Int) ≤ rd ats 0) = false from decide_eq_false (by omega)]
            refine god2 ?_
            rw [hr]
            dsimp only
            rw [show decide (rd (rd (orT l l.length) 0) (rd ats 0) ≠ v) = false from decide_eq_false (by rw [hgat, hgT, hwant]; simp)]
            refine god2 ?_
            refine go ?_
            exact Dn.weak (by repeat(first|exact Env.le_nil _|(refine Env.le_cons rfl ?_ ?_;first|rfl|(simp;done)|exact congrArg _ (by omega)|rotate_left))) (by exact ent_) (kk ())
          | false =>
            refine god2 ?_
            rw [show decide (((rd (orT l l.length) 0).length : Int) ≤ rd ats 0) = false from decide_eq_false (by omega)]
            refine god2 ?_
            rw [hr]
            dsimp only
            rw [show decide (rd (rd (orT l l.length) 0) (rd ats 0) ≠ v) = false from decide_eq_false (by rw [hgat, hgT, hwant]; simp)]
            refine god2 ?_
            refine go ?_
            exact Dn.weak (by repeat(first|exact Env.le_nil _|(refine Env.le_cons rfl ?_ ?_;first|rfl|(simp;done)|exact congrArg _ (by omega)|rotate_left))) (by exact ent_) (kk ())
        · rw [show decide ((2 : Int) ≠ 0) = true from by simp]
          refine god2 ?_
          rw [show decide ((2 : Int) ≠ 2) = false from by simp]
          refine god2 ?_
          rw [hr]
          dsimp only
          rw [show decide ((i : Int) ≠ (i : Int)) = false from by simp]
          refine god2 ?_
          rw [hr]
          dsimp only
          rw [show decide (b ≠ b) = false from by simp]
          refine god2 ?_
          cases hP : decide (0 < (i : Int)) with
          | true =>
            have hp0 := hprev (by have := of_decide_eq_true hP; omega)
            have hp1 := of_decide_eq_true hP
            refine god2 ?_
            rw [hr]
            dsimp only
            rw [show decide (v ≤ (rd o2.recs ((i : Int) - 1)).f_Value) = false from decide_eq_false (by omega)]
            refine god2 ?_
            rw [show decide (((rd (orT l l.length) 2).length : Int) ≤ rd ats 2) = false from decide_eq_false (by omega)]
            refine god2 ?_
            rw [hr]
            dsimp only
            rw [show decide (rd (rd (orT l l.length) 2) (rd ats 2) ≠ v) = false from decide_eq_false (by rw [hgat, hgT, hwant]; simp)]
            refine god2 ?_
            refine go ?_
            exact Dn.weak (by repeat(first|exact Env.le_nil _|(refine Env.le_cons rfl ?_ ?_;first|rfl|(simp;done)|exact congrArg _ (by omega)|rotate_left))) (by exact ent_) (kk ())
          | false =>
            refine god2 ?_
            rw [show decide (((rd (orT l l.length) 2).length : Int) ≤ rd ats 2) = false from decide_eq_false (by omega)]
            refine god2 ?_
            rw [hr]
            dsimp only
            rw [show decide (rd (rd (orT l l.length) 2) (rd ats 2) ≠ v) = false from decide_eq_false (by rw [hgat, hgT, hwant]; simp)]
            refine god2 ?_
            refine go ?_
            exact Dn.weak (by repeat(first|exact Env.le_nil _|(refine Env.le_cons rfl ?_ ?_;first|rfl|(simp;done)|exact congrArg _ (by omega)|rotate_left))) (by exact ent_) (kk ())
      rintro -
      dsimp only [List.cons_append, List.nil_append]
      refine go ?_
      refine Ol.eff0 rfl rfl (Eff.storeE rfl ?_ ?_)
      · omega
      refine go ?_
      refine Dn.round ⟨i + 1, ats.set g.toNat (rd ats g + 1)⟩ ⟨by dsimp only; omega, by simp [ha3], fun g' hg' => ?_⟩ (by dsimp only; omega) ?_ ?_
      · dsimp only
        rw [rd_set ats g g' _ (by omega) (by omega), hsucc g']
        by_cases he : g' = g
        · rw [if_pos he, if_pos he.symm, hgat, he]
        · rw [if_neg he, if_neg (fun h => he h.symm), hat g' hg']
      · repeat(first|exact Env.le_nil _|(refine Env.le_cons rfl ?_ ?_;first|rfl|(simp;done)|exact congrArg _ (by omega)|rotate_left))
      · exact ent_
    · have hie : i = o2.recs.length := by omega
      clear hat ha3
      refine go ?_
      have f2' : ∀ g : Int, g = 0 ∨ g = 1 ∨ g = 2 → rd o2.outs g = orWant l l.length g := f2
      have hol : o2.outs.length = 3 := by rw [g5, e5, I6]; rfl
      refine Cd.loop (fun z : Nat × GS => z.1 ≤ 3 ∧ z.2.gates = orG ∧ z.2.outs.length = 3 ∧ ∀ g : Int, 0 ≤ g → g < 3 → rd z.2.outs g = if g < z.1 then [] else orWant l l.length g) (fun z => 3 - z.1) (fun z => [(9, .pointer (some ⟨p, 0, none⟩)), (10, .pointer (some ⟨c, 0, none⟩)), (18, .int .i64 z.1)]) (fun z => arr eVal c 3 rs :: rws false (eInt .i32) rs (orT l l.length) :: gateH p z.2 ++ R) ⟨0, opG s ⟨[], [], o2.seq, o2.outs⟩ wv3 or3⟩ ?_ ?_ ?_ ?_
      · refine ⟨by simp, I5, hol, fun g h0 h1 => ?_⟩
        rw [if_neg (by simp; omega)]
        exact f2' g (by omega)
      · repeat(first|exact Env.le_nil _|(refine Env.le_cons rfl ?_ ?_;first|rfl|(simp;done)|exact congrArg _ (by omega)|rotate_left))
      · exact ent_
      rintro ⟨n, S⟩ ⟨hn, hSg, hSl, hSo⟩
      dsimp only [List.cons_append, List.nil_append] at hn hSg hSl hSo ⊢
      refine go ?_
      refine Cd.condP rfl (fun h => ?_) (fun h => ?_)
      · have hn3 : n < 3 := by omega
        have hTn := hTT (n : Int) (by omega)
        have hWl : (rd (orT l l.length) (n : Int)).length ≤ 30 := by rw [hTn]; exact Nat.le_trans (orWant_length _ _ _) N30
        refine go ?_
        refine Cd.loop (fun z : Nat × GS => z.1 ≤ (orWant l l.length n).length ∧ z.2.gates = orG ∧ z.2.outs.length = 3 ∧ ∀ g : Int, 0 ≤ g → g < 3 → rd z.2.outs g = if g < n then [] else if g = n then (orWant l l.length n).drop z.1 else orWant l l.length g) (fun z => (orWant l l.length n).length - z.1) (fun z => [(9, .pointer (some ⟨p, 0, none⟩)), (10, .pointer (some ⟨c, 0, none⟩)), (18, .int .i64 n), (19, .int .i64 z.1)]) (fun z => arr eVal c 3 rs :: rws false (eInt .i32) rs (orT l l.length) :: gateH p z.2 ++ R) ⟨0, S⟩ ?_ ?_ ?_ ?_
        · refine ⟨by simp, hSg, hSl, fun g h0 h1 => ?_⟩
          rw [hSo g h0 h1]
          by_cases h2 : g < (n : Int)
          · rw [if_pos h2, if_pos h2]
          · rw [if_neg h2, if_neg h2]
            by_cases h3 : g = (n : Int)
            · rw [if_pos h3, h3]; rfl
            · rw [if_neg h3]
        · repeat(first|exact Env.le_nil _|(refine Env.le_cons rfl ?_ ?_;first|rfl|(simp;done)|exact congrArg _ (by omega)|rotate_left))
        · exact ent_
        rintro ⟨i, T⟩ ⟨hi, hTg, hTl, hTo⟩
        dsimp only [List.cons_append, List.nil_append] at hi hTg hTl hTo ⊢
        refine go ?_
        refine Cd.condP rfl (fun h2 => ?_) (fun h2 => ?_)
        · rw [hTn] at h2
          have hi2 : i < (orWant l l.length n).length := by omega
          have hi3 : (i : Int) < ((rd (orT l l.length) (n : Int)).length : Int) := by rw [hTn]; exact h2
          have hout : rd T.outs (n : Int) = (orWant l l.length n).drop i := by rw [hTo n (by omega) (by omega), if_neg (by omega), if_pos rfl]
          have htk : takeOk T (n : Int) = true := by
            unfold takeOk
            rw [hTg, hout, decide_eq_true (by simp; omega), decide_eq_false (by simp; omega)]; rfl
          have hv : rd (rd T.outs (n : Int)) 0 = rd (rd (orT l l.length) (n : Int)) i := by
            rw [hout, hTn, rd_eq (by simp; omega), rd_eq (by simpa using hi2)]; simp
          refine go ?_
          refine Ol.eff rfl rfl rfl (Eff.call (R := ?_) (gate_TakeT p T (by rw [hTl, hTg]; rfl) (n : Int) htk) rfl ?_ ?_)
          rotate_left
          · exact tkl_
          rintro _ -
          dsimp only [List.cons_append, List.nil_append]
          refine go ?_
          rw [show decide (rd (rd T.outs (n : Int)) 0 ≠ rd (rd (orT l l.length) (n : Int)) i) = false from decide_eq_false (by rw [hv]; simp)]
          refine go ?_
          refine Dn.round ⟨i + 1, takeS T n⟩ ⟨by dsimp only; omega, hTg, by simp [hTl], fun g h0 h1 => ?_⟩ (by dsimp only; omega) ?_ ?_
          · dsimp only
            rw [rd_set T.outs (n : Int) g _ (by omega) h0, hout]
            by_cases h3 : g = (n : Int)
            · rw [if_pos h3, if_neg (by omega), if_pos h3, List.drop_drop]
            · rw [if_neg h3, hTo g h0 h1, if_neg h3, if_neg h3]
          · repeat(first|exact Env.le_nil _|(refine Env.le_cons rfl ?_ ?_;first|rfl|(simp;done)|exact congrArg _ (by omega)|rotate_left))
          · exact ent_
        · rw [hTn] at h2
          have hie2 : i = (orWant l l.length n).length := by omega
          refine go ?_
          refine Dn.round ⟨n + 1, T⟩ ⟨by dsimp only; omega, hTg, hTl, fun g h0 h1 => ?_⟩ (by dsimp only; omega) ?_ ?_
          · dsimp only
            rw [hTo g h0 h1]
            by_cases h3 : g < (n : Int)
            · rw [if_pos h3, if_pos (by omega)]
            · rw [if_neg h3]
              by_cases h4 : g = (n : Int)
              · rw [if_pos h4, if_pos (by omega), hie2, List.drop_length]
              · rw [if_neg h4, if_neg (by omega)]
          · repeat(first|exact Env.le_nil _|(refine Env.le_cons rfl ?_ ?_;first|rfl|(simp;done)|exact congrArg _ (by omega)|rotate_left))
          · exact ent_
      · refine go ?_
        refine Dn.ret1 rfl rfl fun w hs => ⟨(), ?_, by trivial, by first | exact hs | (refine hs.conv ?_; exact ent_)⟩
        rfl
end Go.Proofs.Ytefmjphokgnobaa

