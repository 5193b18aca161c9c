/- Contracts of functions of the program, proved in a small separation logic. Conditions: those that each theorem states. -/
import Derived.Test.YtefmjphokgnobaaLaw21
import Derived.Test.YtefmjphokgnobaaGateP
import Derived.Test.YtefmjphokgnobaaSeat1
namespace Go.Proofs.Ytefmjphokgnobaa
open Go Go.Sl
set_option maxHeartbeats 8000000
set_option maxRecDepth 100000
set_option linter.unusedVariables false
theorem lat_sq {q : List (List Bool)} (h : latOk q = true) : sqB q = true := by
  unfold latOk ordOk at h
  simp only [Bool.and_eq_true] at h
  exact h.1.1
theorem seat_top (r : Int) : 0 ≤ topR (seatR r) ∧ topR (seatR r) < ((seatR r).length : Int) := by
  unfold seatR
  split
  · decide +kernel
  split
  · decide +kernel
  split
  · decide +kernel
  split
  · decide +kernel
  · decide +kernel
theorem and48 (x y : Int) (hx : 0 ≤ x ∧ x < 4) (hy : 0 ≤ y ∧ y < 4) : andI .u32 x y = andI .u8 x y := by
  have h1 : x = 0 ∨ x = 1 ∨ x = 2 ∨ x = 3 := by omega
  have h2 : y = 0 ∨ y = 1 ∨ y = 2 ∨ y = 3 := by omega
  rcases h1 with h | h | h | h <;> rcases h2 with g | g | g | g <;> rw [h, g] <;> decide
def dwMay (q : List (List Bool)) (nd from_ : Int) (l : List Int) (j : Int) : Bool := rd (rd q (rd l j % (q.length : Int))) from_ && decide (andI .u8 (rd l j / 8 % 4) nd = nd)
def dwJ (q : List (List Bool)) (nd from_ : Int) (l : List Int) (i : Nat) : List Int := (ints i).filter (dwMay q nd from_ l)
theorem dwJ_succ (q : List (List Bool)) (nd from_ : Int) (l : List Int) (i : Nat) : dwJ q nd from_ l (i + 1) = if dwMay q nd from_ l i = true then dwJ q nd from_ l i ++ [(i : Int)] else dwJ q nd from_ l i := by
  unfold dwJ
  rw [ints_succ, List.filter_append]
  by_cases h : dwMay q nd from_ l i = true
  · rw [if_pos h]; simp [h]
  · rw [if_neg h]; simp [h]
theorem dwJ_length (q : List (List Bool)) (nd from_ : Int) (l : List Int) (i : Nat) : (dwJ q nd from_ l i).length ≤ i := by
  unfold dwJ
  exact Nat.le_trans (List.length_filter_le _ _) (by rw [ints_length]; exact Nat.le_refl _)
abbrev dwG (from_ to nd : Int) : List S_api_Gate := [⟨from_, to, nd, 100⟩]
def dwW (js : List Int) : List S_gate_wait := js.map fun j => ⟨0, j, j⟩
structure dwI (q : List (List Bool)) (nd from_ to : Int) (l : List Int) (lp : Nat) (i : Nat) (s : GS) : Prop where
  fl : s.fl = flV (some lp)
  gates : s.gates = dwG from_ to nd
  waits : s.waits = dwW (dwJ q nd from_ l i)
  outs : s.outs = [[]]
  seq : s.seq = fun _ => none
  cnt : ∀ t : Int, 0 ≤ cnt s 0 t ∧ cnt s 0 t ≤ i
-- FN confidant/confidantlaw21.GateDown
theorem law_GateDown (kd need : Int) (lv : Value) (l : List Int) (hkd : 0 ≤ kd ∧ kd ≤ 255) (hnd : 0 ≤ need ∧ need ≤ 255) (hl : ∀ x, x ∈ l → 0 ≤ x ∧ x ≤ 255) (hm : l.length ≤ 9223372036854775807) :
    Sp Try.prog 5 [.int .u8 kd, .int .u8 need, lv] [rsl (eInt .u8) lv l] (fun _ : Unit => True) (fun _ => .bool true) (fun _ => []) := by
  refine Sp.intro (n := 182) Try.func5 rfl rfl fun w0 R => ?_
  dsimp only [List.cons_append, List.nil_append, envOf]
  refine go ?_
  refine Ol.eff rfl rfl rfl (Eff.call (R := ?_) law21_known rfl ?_ ?_)
  rotate_left
  · exact tkl_
  rintro _ -
  dsimp only [List.cons_append, List.nil_append]
  refine go ?_
  refine Cd.condP rfl (fun h => ?_) (fun h => ?_)
  · refine go ?_
    refine Dn.ret1 rfl rfl fun w hs => ⟨(), ?_, by trivial, by first | exact hs | (refine hs.conv ?_; exact ent_)⟩
    rfl
  have hl30 : l.length ≤ 30 := by omega
  refine go ?_
  refine Ol.eff rfl rfl rfl (Eff.call (R := ?_) (seat_Lattice kd hkd) rfl ?_ ?_)
  rotate_left
  · exact tkl_
  rintro ⟨v, rows⟩ -
  dsimp only [List.cons_append, List.nil_append]
  have hlok := seat_ok (kd % 6)
  have htop := seat_top (kd % 6)
  generalize seatR (kd % 6) = q at hlok htop
  have hsq := lat_sq hlok
  have hle := sq_le hsq
  refine Ol.know (fun w hw => rws_len (Tk.sat (A := (rws false eBool rows q)) (by exact tk_) hw)) fun hrl => ?_
  refine Ol.share (A := (sl eVal v rows)) (by exact tk_) ?_
  refine Ol.share (A := (rws false eBool rows q)) (by exact tk_) ?_
  refine go ?_
  refine Ol.eff rfl rfl rfl (Eff.call (R := ?_) (lattice_New v rows q hrl (by omega)) rfl ?_ ?_)
  rotate_left
  · exact tkl_
  rintro (_ | ⟨lp, V⟩) hx
  · exact absurd hx (by show ¬ latOk _ = false; rw [hlok]; simp)
  have hV : isLat q V := hx.2
  dsimp only [newV, newH, List.cons_append, List.nil_append]
  refine go ?_
  refine Ol.eff rfl rfl rfl (Eff.call (R := ?_) (ref2_Top v rows q hrl (by omega)) rfl ?_ ?_)
  rotate_left
  · exact tkl_
  rintro _ -
  dsimp only [List.cons_append, List.nil_append]
  refine go ?_
  refine Ol.eff rfl rfl rfl (Eff.call (R := ?_) (ref2_Bottom v rows q hrl (by omega)) rfl ?_ ?_)
  rotate_left
  · exact tkl_
  rintro _ -
  dsimp only [List.cons_append, List.nil_append]
  refine go ?_
  refine Cd.cut (α := { f : Int // 0 ≤ f ∧ f < (q.length : Int) }) (fun f => [(1, .int .u8 need), (2, lv), (7, v), (8, .pointer (some ⟨lp, 0, none⟩)), (10, .int .i64 f.1), (11, .int .i64 (botR q))]) (fun _ => lat lp V :: rsl (eInt .u8) lv l :: rsl eVal v rows :: rws true eBool rows q :: R) (fun K kk => ?_) ?_
  · refine Cd.condP rfl (fun h4 => ?_) (fun h4 => ?_)
    · refine go ?_
      have hb := Int.emod_nonneg need (show ((rows.length : Int)) ≠ 0 by omega)
      have hb2 := Int.emod_lt_of_pos need (show (0 : Int) < (rows.length : Int) by omega)
      exact Dn.weak (by repeat(first|exact Env.le_nil _|(refine Env.le_cons rfl ?_ ?_;first|rfl|(simp;done)|exact congrArg _ (by omega)|rotate_left))) (by exact ent_) (kk ⟨need % (rows.length : Int), by omega⟩)
    · refine go ?_
      exact Dn.weak (by repeat(first|exact Env.le_nil _|(refine Env.le_cons rfl ?_ ?_;first|rfl|(simp;done)|exact congrArg _ (by omega)|rotate_left))) (by exact ent_) (kk ⟨topR q, htop⟩)
  rintro ⟨fr, hfr⟩
  dsimp only [List.cons_append, List.nil_append]
  clear htop
  generalize botR q = to
  obtain ⟨nd, hnd4⟩ : ∃ n, n = need % 4 := ⟨_, rfl⟩
  have hnd' : 0 ≤ nd ∧ nd < 4 := by omega
  repeat(first|(with_reducible refine Ol.g ?_;first|(refine Ol.q rfl rfl rfl ?_ ?_;(first|exact True.intro|omega|(unfold in64;omega)|(simp only [List.length_append,List.length_cons,List.length_nil,List.length_set];omega)))|with_reducible refine Ol.nil ?_|refine Ol.skip rfl rfl ?_|refine Ol.eff rfl rfl rfl (Eff.x (Qx.build rfl) ?_)|refine Ol.skip0 rfl ?_|(refine Ol.ga ?_;dsimp only [List.append])|refine Ol.eff rfl rfl rfl (Eff.alloc fun _ => ?_)|refine Ol.eff rfl rfl rfl (Eff.box fun _ => ?_)|refine Ol.eff0 rfl rfl (Eff.store rfl rfl ?_)|refine Ol.eff rfl rfl rfl (Eff.bslice rfl rfl fun _ => ?_)|(refine Ol.eff0 rfl rfl (Eff.storeE rfl ?_ ?_);(first|exact True.intro|omega|(unfold in64;omega)|(simp only [List.length_append,List.length_cons,List.length_nil,List.length_set];omega)))|(refine Ol.eff rfl rfl rfl (Eff.append1 rfl ?_ fun _ => ?_);(first|exact True.intro|omega|(unfold in64;omega)|(simp only [List.length_append,List.length_cons,List.length_nil,List.length_set];omega))))|(with_reducible refine Cd.g ?_;first|with_reducible refine Cd.seq ?_|with_reducible refine Cd.region ?_|with_reducible refine Cd.skip ?_|with_reducible refine Cd.ret ?_|with_reducible refine Cd.block ?_|with_reducible refine Cd.exit ?_|(with_reducible refine Cd.condg ?_;first|refine Cd.cond_t rfl ?_|refine Cd.cond_f rfl ?_))|(with_reducible refine Dn.g ?_;first|with_reducible refine Dn.then ?_|with_reducible refine Dn.ret_then ?_|with_reducible refine Dn.ret_block ?_|with_reducible refine Dn.block ?_|with_reducible refine Dn.exit_then ?_|with_reducible refine Dn.exit_at ?_|with_reducible refine Dn.exit_by rfl ?_))
  rw [← hnd4]
  subst hnd4
  refine Ol.eff rfl rfl rfl (Eff.call (R := ?_) (gate_New (some lp) false _ (dwG fr to (need % 4)) (by simp)) rfl ?_ ?_)
  rotate_left
  · exact tkl_
  rintro ⟨p, s⟩ hs
  dsimp only [List.cons_append, List.nil_append]
  refine go ?_
  refine Cd.loop (fun x : Nat × GS × Value => x.1 ≤ l.length ∧ dwI q (need % 4) fr to l lp x.1 x.2.1) (fun x => l.length - x.1) (fun x => [(1, .int .u8 need), (2, lv), (7, v), (10, .int .i64 fr), (11, .int .i64 to), (12, .pointer (some ⟨p, 0, none⟩)), (13, x.2.2), (14, .int .i64 x.1)]) (fun x => sl (eInt .i32) x.2.2 (dwJ q (need % 4) fr l x.1) :: lat lp V :: rsl (eInt .u8) lv l :: rsl eVal v rows :: rws true eBool rows q :: gateH p x.2.1 ++ R) ⟨0, s, .slice none 0 0⟩ ?_ ?_ ?_ ?_
  · have n6 : s.asked = fun _ => none := hs.asked
    exact ⟨by simp, hs.fl, hs.gates, hs.waits, hs.outs, hs.seq, fun t => by simp [cnt, n6]⟩
  · repeat(first|exact Env.le_nil _|(refine Env.le_cons rfl ?_ ?_;first|rfl|(simp;done)|exact congrArg _ (by omega)|rotate_left))
  · dsimp only
    rw [show dwJ q (need % 4) fr l 0 = [] from rfl]
    exact ent_
  rintro ⟨i, s, wv⟩ ⟨hi, I⟩
  dsimp only [List.cons_append, List.nil_append] at hi I ⊢
  obtain ⟨I1, I2, I3, I4, I5, I6⟩ := I
  have hJl := dwJ_length q (need % 4) fr l i
  refine go ?_
  refine Cd.condP rfl (fun h => ?_) (fun h => ?_)
  · have hi' : i < l.length := by omega
    have hx := hl _ (rd_mem (xs := l) (i := (i : Int)) (by omega) (by omega))
    have hb := Int.emod_nonneg (rd l i) (show ((rows.length : Int)) ≠ 0 by omega)
    have hb2 := Int.emod_lt_of_pos (rd l i) (show (0 : Int) < (rows.length : Int) by omega)
    have hrow := sq_row hsq hb (by omega)
    have hdm : dwMay q (need % 4) fr l i = (rd (rd q (rd l i % (rows.length : Int))) fr && decide (andI .u8 (rd l i / 8 % 4) (need % 4) = need % 4)) := by unfold dwMay; rw [hrl]
    have h4 : 0 ≤ rd l i / 8 % 4 ∧ rd l i / 8 % 4 < 4 := by omega
    have hil : i ≤ 30 := by omega
    refine go ?_
    refine Ol.cut (α := Unit) (fun _ => [(1, .int .u8 need), (2, lv), (7, v), (10, .int .i64 fr), (11, .int .i64 to), (12, .pointer (some ⟨p, 0, none⟩)), (13, wv), (14, .int .i64 i), (15, .int .i64 (rd l i % (rows.length : Int))), (16, .bool (dwMay q (need % 4) fr l i))]) (fun _ => sl (eInt .i32) wv (dwJ q (need % 4) fr l i) :: lat lp V :: rsl (eInt .u8) lv l :: rsl eVal v rows :: rws true eBool rows q :: gateH p s ++ R) (fun K kk => ?_) ?_
    · cases hA : rd (rd q (rd l i % (rows.length : Int))) fr with
      | false =>
        refine go ?_
        rw [hdm, hA] at kk
        exact Dn.weak (by repeat(first|exact Env.le_nil _|(refine Env.le_cons rfl ?_ ?_;first|rfl|(simp;done)|exact congrArg _ (by omega)|rotate_left))) (by exact ent_) (kk ())
      | true =>
        refine go ?_
        rw [hdm, hA] at kk
        exact Dn.weak (by repeat(first|exact Env.le_nil _|(refine Env.le_cons rfl ?_ ?_;first|rfl|(simp;done)|exact congrArg _ (by omega)|rotate_left))) (by exact ent_) (kk ())
    rintro -
    dsimp only [List.cons_append, List.nil_append]
    have hFV : FnV (P := Try.prog) s.fl (lat lp V) pairV2 (fun _ => True) (fun x => .bool (flowsB V x.1 x.2)) := by rw [I1]; exact flows_FnV lp V hV.ok
    have hu : ∀ i : Int, 0 ≤ i → i < s.gates.length → u32 (rd s.gates i).f_Need := by
      intro i h0 h1
      have := rd_mem h0 h1
      rw [I2] at this ⊢
      simp at this
      rw [this]; exact ⟨by dsimp only; omega, by dsimp only; omega⟩
    have hmay : askOk (flowsB V) s 0 (rd l i % (rows.length : Int)) (rd l i / 8 % 4) = dwMay q (need % 4) fr l i := by
      have hc := I6 (rd l i % (rows.length : Int))
      unfold askOk
      rw [I2, hdm, show rd (dwG fr to (need % 4)) 0 = ⟨fr, to, need % 4, 100⟩ from rfl, flowsB_eq hV ⟨hb, by omega⟩ hfr]
      unfold privHas
      rw [and48 _ _ h4 hnd', decide_eq_false (show ¬ ((100 : Int) ≤ cnt s 0 (rd l i % (rows.length : Int))) by omega)]
      simp
    have hwl : s.waits.length ≤ 30 := by rw [I3]; unfold dwW; rw [List.length_map]; omega
    have hc0 := I6 (rd l i % (rows.length : Int))
    have hsc := dwJ_succ q (need % 4) fr l i
    cases hmv : dwMay q (need % 4) fr l i with
    | false =>
      rw [hmv] at hmay
      rw [hmv, if_neg (by simp)] at hsc
      refine go ?_
      refine Ol.eff rfl rfl rfl (Eff.call (R := ?_) (gate_AskF p s (flowsB V) (lat lp V) hFV 0 (rd l i % (rows.length : Int)) (rd l i / 8 % 4) i i hu (by omega) (by omega) hmay) rfl ?_ ?_)
      rotate_left
      · exact tkl_
      rintro _ -
      dsimp only [List.cons_append, List.nil_append]
      refine go ?_
      refine Dn.round ⟨i + 1, s, wv⟩ ⟨by dsimp only; omega, ⟨I1, I2, by dsimp only; rw [hsc]; exact I3, I4, I5, fun t => by have := I6 t; dsimp only; omega⟩⟩ (by dsimp only; omega) ?_ ?_
      · repeat(first|exact Env.le_nil _|(refine Env.le_cons rfl ?_ ?_;first|rfl|(simp;done)|exact congrArg _ (by omega)|rotate_left))
      · dsimp only
        rw [hsc]
        exact ent_
    | true =>
      rw [hmv] at hmay
      rw [hmv, if_pos rfl] at hsc
      refine go ?_
      refine Ol.eff rfl rfl rfl (Eff.call (R := ?_) (gate_AskT p s (flowsB V) (lat lp V) hFV 0 (rd l i % (rows.length : Int)) (rd l i / 8 % 4) i i hu (by omega) (by omega) hmay) rfl ?_ ?_)
      rotate_left
      · exact tkl_
      rintro gw -
      dsimp only [List.cons_append, List.nil_append]
      repeat(first|(with_reducible refine Ol.g ?_;first|(refine Ol.q rfl rfl rfl ?_ ?_;(first|exact True.intro|omega|(unfold in64;omega)|(simp only [List.length_append,List.length_cons,List.length_nil,List.length_set];omega)))|with_reducible refine Ol.nil ?_|refine Ol.skip rfl rfl ?_|refine Ol.eff rfl rfl rfl (Eff.x (Qx.build rfl) ?_)|refine Ol.skip0 rfl ?_|(refine Ol.ga ?_;dsimp only [List.append])|refine Ol.eff rfl rfl rfl (Eff.alloc fun _ => ?_)|refine Ol.eff rfl rfl rfl (Eff.box fun _ => ?_)|refine Ol.eff0 rfl rfl (Eff.store rfl rfl ?_)|refine Ol.eff rfl rfl rfl (Eff.bslice rfl rfl fun _ => ?_)|(refine Ol.eff0 rfl rfl (Eff.storeE rfl ?_ ?_);(first|exact True.intro|omega|(unfold in64;omega)|(simp only [List.length_append,List.length_cons,List.length_nil,List.length_set];omega)))|(refine Ol.eff rfl rfl rfl (Eff.append1 rfl ?_ fun _ => ?_);(first|exact True.intro|omega|(unfold in64;omega)|(simp only [List.length_append,List.length_cons,List.length_nil,List.length_set];omega))))|(with_reducible refine Cd.g ?_;first|with_reducible refine Cd.seq ?_|with_reducible refine Cd.region ?_|with_reducible refine Cd.skip ?_|with_reducible refine Cd.ret ?_|with_reducible refine Cd.block ?_|with_reducible refine Cd.exit ?_|(with_reducible refine Cd.condg ?_;first|refine Cd.cond_t rfl ?_|refine Cd.cond_f rfl ?_))|(with_reducible refine Dn.g ?_;first|with_reducible refine Dn.then ?_|with_reducible refine Dn.ret_then ?_|with_reducible refine Dn.ret_block ?_|with_reducible refine Dn.block ?_|with_reducible refine Dn.exit_then ?_|with_reducible refine Dn.exit_at ?_|with_reducible refine Dn.exit_by rfl ?_))
      rename_i wv'
      refine Dn.round ⟨i + 1, askS s 0 (rd l i % (rows.length : Int)) i i gw, wv'⟩ ⟨by dsimp only; omega, ⟨I1, I2, ?_, I4, I5, fun t => ?_⟩⟩ (by dsimp only; omega) ?_ ?_
      · dsimp only
        rw [hsc, I3]; simp [dwW]
      · have := I6 t
        dsimp only
        simp only [cnt, upd] at this hc0 ⊢
        split
        · simp; omega
        · omega
      · repeat(first|exact Env.le_nil _|(refine Env.le_cons rfl ?_ ?_;first|rfl|(simp;done)|exact congrArg _ (by omega)|rotate_left))
      · dsimp only
        rw [hsc]
        exact ent_
  · have hie : i = l.length := by omega
    subst hie
    obtain ⟨J, hJ⟩ : ∃ J, J = dwJ q (need % 4) fr l l.length := ⟨_, rfl⟩
    rw [← hJ] at I3 hJl ⊢
    have hgs : gsOk s 100 := by
      refine ⟨by rw [I3]; unfold dwW; rw [List.length_map]; omega, fun w hw => ?_, by rw [I4, I2]; rfl, fun r hr => ?_, fun t => by rw [I5]; simp, fun g hg => ?_⟩
      · rw [I3] at hw; obtain ⟨j, _, rfl⟩ := List.mem_map.1 hw; rw [I2]; simp
      · rw [I4] at hr; simp at hr; subst hr; simp
      · rw [I2] at hg; simp at hg; rw [hg]; exact ⟨by dsimp only; omega, by dsimp only; omega⟩
    have hgo : ∀ w, w ∈ s.waits → 0 ≤ w.f_gate ∧ w.f_gate < s.outs.length := fun w hw => by
      rw [I3] at hw; obtain ⟨j, _, rfl⟩ := List.mem_map.1 hw; rw [I4]; simp
    have hto : ∀ w, w ∈ dwW J → toF (dwG fr to (need % 4)) to w = true := fun w hw => by
      obtain ⟨j, _, rfl⟩ := List.mem_map.1 hw; simp [toF, rd]
    obtain ⟨o1, ho1⟩ : ∃ o, openK s to 7 s.waits.length = o := ⟨_, rfl⟩
    have E1 := openK_eq s to 7 hgo s.waits.length (Nat.le_refl _)
    obtain ⟨e1, e2, e3, e4, e5, e6⟩ := E1
    rw [ho1] at e1 e2 e3 e4 e5 e6
    rw [List.take_length] at e1 e2 e3 e6
    have w1 : s.waits.filter (toF s.gates to) = dwW J := by rw [I3, I2]; exact List.filter_eq_self.2 hto
    have w2 : (s.waits.filter fun w => !toF s.gates to w) = [] := by rw [I3, I2]; exact List.filter_eq_nil_iff.2 fun w hw => by rw [hto w hw]; simp
    rw [w1] at e1 e6
    rw [w2] at e2
    rw [I5] at e1
    dsimp only [Option.getD] at e1
    have hlJ : (dwW J).length = J.length := by simp [dwW]
    have L1 : o1.recs.length = J.length := by rw [e1, recsOf_length, hlJ]
    have f1 : rd o1.outs 0 = J := by
      rw [e6 0 (by omega) (by rw [I4]; simp), I4, List.filter_eq_self.2 fun w hw => by obtain ⟨j, _, rfl⟩ := List.mem_map.1 hw; simp]
      simp [rd, dwW, Function.comp_def]
    refine go ?_
    refine Ol.eff rfl rfl rfl (Eff.call (R := ?_) (gate_OpenO p s 100 (by omega) hgs to 7 o1 ho1) rfl ?_ ?_)
    rotate_left
    · exact tkl_
    rintro ⟨x1, wv1, or1⟩ hgs1
    dsimp only [List.cons_append, List.nil_append] at hgs1 ⊢
    refine go ?_
    rw [show decide ((o1.recs.length : Int) ≠ (J.length : Int)) = false from decide_eq_false (by rw [L1]; simp)]
    refine go ?_
    refine Ol.eff rfl rfl rfl (Eff.call (R := ?_) (gate_OpenO p (opG s o1 wv1 or1) (2 * 100) (by omega) hgs1 to 8 ⟨[], [], o1.seq, o1.outs⟩ (by simp [openK, e2])) rfl ?_ ?_)
    rotate_left
    · exact tkl_
    rintro ⟨x2, wv2, or2⟩ -
    dsimp only [List.cons_append, List.nil_append]
    refine go ?_
    refine Cd.loop (fun z : Nat × GS => z.1 ≤ J.length ∧ z.2.gates = dwG fr to (need % 4) ∧ z.2.outs.length = 1 ∧ rd z.2.outs 0 = J.drop z.1) (fun z => J.length - z.1) (fun z => [(12, .pointer (some ⟨p, 0, none⟩)), (13, wv), (17, x1), (18, .int .i64 z.1)]) (fun z => sl e_api_Record x1 o1.recs :: sl (eInt .i32) wv J :: gateH p z.2 ++ R) ⟨0, opG s ⟨[], [], o1.seq, o1.outs⟩ wv2 or2⟩ ⟨by simp, I2, by rw [e5, I4]; rfl, f1⟩ ?_ ?_ ?_
    · repeat(first|exact Env.le_nil _|(refine Env.le_cons rfl ?_ ?_;first|rfl|(simp;done)|exact congrArg _ (by omega)|rotate_left))
    · exact ent_
    rintro ⟨i, S⟩ ⟨hi2, hSg, hSl, hSo⟩
    dsimp only [List.cons_append, List.nil_append] at hi2 hSg hSl hSo ⊢
    refine go ?_
    refine Cd.condP rfl (fun h2 => ?_) (fun h2 => ?_)
    · have hi3 : i < J.length := by omega
      have hr := recsOf_rd to 7 (dwW J) 0 i (by rw [hlJ]; exact hi3)
      rw [← e1, Int.zero_add] at hr
      have hJi : (rd (dwW J) (i : Int)).f_v = rd J i := by
        unfold dwW; rw [rd_eq (by simpa using hi3), rd_eq (by simpa using hi3)]; simp
      have htk : takeOk S 0 = true := by
        unfold takeOk
        rw [hSg, hSo]; simp; omega
      have hv : rd (rd S.outs 0) 0 = rd J i := by
        rw [hSo, rd_eq (by simp; omega), rd_eq (by simpa using hi3)]; simp
      refine go ?_
      refine Ol.eff rfl rfl rfl (Eff.call (R := ?_) (gate_TakeT p S (by rw [hSl, hSg]; rfl) 0 htk) rfl ?_ ?_)
      rotate_left
      · exact tkl_
      rintro _ -
      dsimp only [List.cons_append, List.nil_append]
      rw [hv]
      refine go ?_
      rw [show decide (rd J i ≠ rd J i) = false from by simp]
      refine go ?_
      rw [hr, hJi]
      dsimp only
      rw [show decide (rd J i ≠ rd J i) = false from by simp]
      refine go ?_
      rw [hr]
      dsimp only
      rw [show decide ((i : Int) ≠ i) = false from by simp]
      refine go ?_
      rw [hr]
      dsimp only
      rw [show decide ((7 : Int) ≠ 7) = false from by simp]
      refine go ?_
      refine Dn.round ⟨i + 1, takeS S 0⟩ ⟨by dsimp only; omega, hSg, by simp [hSl], ?_⟩ (by dsimp only; omega) ?_ ?_
      · dsimp only
        rw [rd_set S.outs 0 0 _ (by omega) (by omega), if_pos rfl, hSo, List.drop_drop]
      · repeat(first|exact Env.le_nil _|(refine Env.le_cons rfl ?_ ?_;first|rfl|(simp;done)|exact congrArg _ (by omega)|rotate_left))
      · exact ent_
    · have hie : i = J.length := by omega
      have htk : takeOk S 0 = false := by
        unfold takeOk
        rw [hSo, hie, List.drop_length]; simp
      refine go ?_
      refine Ol.eff rfl rfl rfl (Eff.call (R := ?_) (gate_TakeF p S (by rw [hSl, hSg]; rfl) 0 htk) rfl ?_ ?_)
      rotate_left
      · exact tkl_
      rintro _ -
      dsimp only [List.cons_append, List.nil_append]
      refine go ?_
      refine Dn.ret1 rfl rfl fun w hs => ⟨(), ?_, by trivial, by first | exact hs | (refine hs.conv ?_; exact ent_)⟩
      rfl
end Go.Proofs.Ytefmjphokgnobaa

