/- Contracts of functions of the program, proved in a small separation logic. Conditions: those that each theorem states. -/
import Derived.Test.YtefmjphokgnobaaLaw21
namespace Go.Proofs.Ytefmjphokgnobaa
open Go Go.Sl
set_option maxHeartbeats 4000000
set_option maxRecDepth 100000
set_option linter.unusedVariables false
theorem chain_ok4 : latOk (tabT 4 4 leI) = true := by decide +kernel
structure quI (lp : Nat) (q : Int) (x : Nat × GS × List Int) : Prop where
  fl : x.2.1.fl = flV (some lp)
  gates : x.2.1.gates = [⟨3, 0, 0, q⟩, ⟨1, 0, 0, q⟩]
  waits : x.2.1.waits.length ≤ x.1
  len : x.2.2.length = 8
  cnt : ∀ k l : Int, 0 ≤ k → k < 2 → 0 ≤ l → l < 4 → cnt x.2.1 k l = rd x.2.2 (k * 4 + l)
  bd : ∀ j : Int, 0 ≤ rd x.2.2 j ∧ rd x.2.2 j ≤ x.1
-- FN confidant/confidantlaw21.GateQuotas
theorem law_GateQuotas (a : Int) (lv : Value) (l : List Int) (ha : 0 ≤ a ∧ a ≤ 255) (hl : ∀ x, x ∈ l → 0 ≤ x ∧ x ≤ 255) (hm : l.length ≤ 9223372036854775807) :
    Sp Try.prog 7 [.int .u8 a, lv] [rsl (eInt .u8) lv l] (fun _ : Unit => True) (fun _ => .bool true) (fun _ => []) := by
  refine Sp.intro (n := 95) Try.func7 rfl rfl fun w0 R => ?_
  dsimp only [List.cons_append, List.nil_append, envOf]
  refine go ?_
  refine Ol.eff rfl rfl rfl (Eff.call (R := ?_) law21_known rfl ?_ ?_)
  rotate_left
  · exact tkl_
  rintro _ -
  dsimp only [List.cons_append, List.nil_append]
  refine go ?_
  refine Cd.condP rfl (fun h => ?_) (fun h => ?_)
  · refine go ?_
    refine Dn.ret1 rfl rfl fun w hs => ⟨(), ?_, by trivial, by first | exact hs | (refine hs.conv ?_; exact ent_)⟩
    rfl
  have hl40 : l.length ≤ 40 := by omega
  refine go ?_
  refine Ol.eff rfl rfl rfl (Eff.call (R := ?_) (lattice_Chain 4 ⟨by omega, by omega⟩) rfl ?_ ?_)
  rotate_left
  · exact tkl_
  rintro ⟨v, rows⟩ -
  dsimp only [List.cons_append, List.nil_append]
  refine Ol.know (fun w hw => rws_len (Tk.sat (A := (rws false eBool rows (tabT 4 4 leI))) (by exact tk_) hw)) fun hrl => ?_
  refine Ol.share (A := (sl eVal v rows)) (by exact tk_) ?_
  refine Ol.share (A := (rws false eBool rows (tabT 4 4 leI))) (by exact tk_) ?_
  refine Ol.eff rfl rfl rfl (Eff.call (R := ?_) (lattice_New v rows (tabT 4 4 leI) hrl (by rw [tabT_length]; omega)) rfl ?_ ?_)
  rotate_left
  · exact tkl_
  rintro (_ | ⟨lp, V⟩) hx
  · exact absurd hx (by show ¬ latOk _ = false; rw [chain_ok4]; simp)
  have hV : isLat (tabT 4 4 leI) V := hx.2
  dsimp only [newV, newH, List.cons_append, List.nil_append]
  repeat(first|(with_reducible refine Ol.g ?_;first|(refine Ol.q rfl rfl rfl ?_ ?_;(first|exact True.intro|omega|(unfold in64;omega)|(simp only [List.length_append,List.length_cons,List.length_nil,List.length_set];omega)))|with_reducible refine Ol.nil ?_|refine Ol.skip rfl rfl ?_|refine Ol.eff rfl rfl rfl (Eff.x (Qx.build rfl) ?_)|refine Ol.skip0 rfl ?_|(refine Ol.ga ?_;dsimp only [List.append])|refine Ol.eff rfl rfl rfl (Eff.alloc fun _ => ?_)|refine Ol.eff rfl rfl rfl (Eff.box fun _ => ?_)|refine Ol.eff0 rfl rfl (Eff.store rfl rfl ?_)|refine Ol.eff rfl rfl rfl (Eff.bslice rfl rfl fun _ => ?_)|(refine Ol.eff0 rfl rfl (Eff.storeE rfl ?_ ?_);(first|exact True.intro|omega|(unfold in64;omega)|(simp only [List.length_append,List.length_cons,List.length_nil,List.length_set];omega)))|(refine Ol.eff rfl rfl rfl (Eff.append1 rfl ?_ fun _ => ?_);(first|exact True.intro|omega|(unfold in64;omega)|(simp only [List.length_append,List.length_cons,List.length_nil,List.length_set];omega))))|(with_reducible refine Cd.g ?_;first|with_reducible refine Cd.seq ?_|with_reducible refine Cd.region ?_|with_reducible refine Cd.skip ?_|with_reducible refine Cd.ret ?_|with_reducible refine Cd.block ?_|with_reducible refine Cd.exit ?_|(with_reducible refine Cd.condg ?_;first|refine Cd.cond_t rfl ?_|refine Cd.cond_f rfl ?_))|(with_reducible refine Dn.g ?_;first|with_reducible refine Dn.then ?_|with_reducible refine Dn.ret_then ?_|with_reducible refine Dn.ret_block ?_|with_reducible refine Dn.block ?_|with_reducible refine Dn.exit_then ?_|with_reducible refine Dn.exit_at ?_|with_reducible refine Dn.exit_by rfl ?_))
  refine Ol.eff rfl rfl rfl (Eff.call (R := ?_) (gate_New (some lp) false _ [⟨3, 0, 0, a % 5⟩, ⟨1, 0, 0, a % 5⟩] (by simp)) rfl ?_ ?_)
  rotate_left
  · exact tkl_
  rintro ⟨p, s⟩ hs
  dsimp only [List.cons_append, List.nil_append]
  refine go ?_
  refine Ol.eff rfl rfl rfl (Eff.alloc fun c => ?_)
  refine Ol.arr (eInt .i64) 8 (List.replicate 8 0) (Tk.hd _ _) rfl rfl rfl ?_
  refine go ?_
  refine Cd.loop (fun x : Nat × GS × List Int => x.1 ≤ l.length ∧ quI lp (a % 5) x) (fun x => l.length - x.1) (fun x => [(0, .int .u8 a), (1, lv), (7, .pointer (some ⟨p, 0, none⟩)), (8, .pointer (some ⟨c, 0, none⟩)), (9, .int .i64 x.1)]) (fun x => arr (eInt .i64) c 8 x.2.2 :: lat lp V :: rsl (eInt .u8) lv l :: gateH p x.2.1 ++ R) ⟨0, s, List.replicate 8 0⟩ ?_ ?_ ?_ ?_
  · refine ⟨by simp, ⟨hs.fl, hs.gates, by rw [hs.waits]; simp, rfl, fun k l h1 h2 h3 h4 => ?_, fun j => ?_⟩⟩
    · have n6 : s.asked = fun _ => none := hs.asked
      simp only [cnt, n6]
      rcases rd_or (List.replicate 8 (0 : Int)) (k * 4 + l) with h | h
      · rw [List.eq_of_mem_replicate h]; rfl
      · rw [h]; rfl
    · rcases rd_or (List.replicate 8 (0 : Int)) j with h | h
      · rw [List.eq_of_mem_replicate h]; simp
      · rw [h]; simp [Dfl.d]
  · repeat(first|exact Env.le_nil _|(refine Env.le_cons rfl ?_ ?_;first|rfl|(simp;done)|exact congrArg _ (by omega)|rotate_left))
  · exact ent_
  rintro ⟨i, s, xs⟩ ⟨hi, I⟩
  dsimp only [List.cons_append, List.nil_append] at hi ⊢
  refine go ?_
  refine Cd.condP rfl (fun h => ?_) (fun h => ?_)
  · have hi' : i < l.length := by omega
    have hx := hl _ (rd_mem (xs := l) (i := (i : Int)) (by omega) (by omega))
    refine go ?_
    refine Cd.forget 10 rfl ?_
    refine Cd.drawL (l := [_, _, _, _, _, _, _, _, _, _, _, _, _, _]) (z := _) [[], [], [0, 1], [0, 1, 2], [0, 1, 2, 3], [0, 1, 2, 3, 4], [], [], [6, 7], [6, 7, 8], [6, 7, 8, 9], [6, 7, 8, 9, 10], [6, 7, 8, 9, 10, 11], [0, 1, 2, 3, 4, 5]] [] [] (td := [(0, .fresh), (1, .fresh), (2, .fresh), (3, .fresh), (4, .fresh), (5, .fresh), (6, .fresh), (7, .fresh), (8, .fresh), (9, .fresh), (10, .fresh), (11, .fresh), (12, .fresh), (13, .fresh)]) rfl mixed (by kernel_rfl) (by kernel_rfl) (by kernel_rfl) (by decide) (by decide) rfl (by kernel_rfl) ?_
    refine god2 ?_
    generalize rd l i = y at hx
    have hk : ∃ k, k = y % 2 := ⟨_, rfl⟩
    obtain ⟨k, hk⟩ := hk
    have ht : ∃ t, t = y / 2 % 4 := ⟨_, rfl⟩
    obtain ⟨t, ht⟩ := ht
    rw [← hk, ← ht]
    have k1 : 0 ≤ k ∧ k < 2 := by omega
    have t1 : 0 ≤ t ∧ t < 4 := by omega
    clear hk ht hx
    have I1 := I.len; have I2 := I.bd; have I3 := I.cnt k t k1.1 k1.2 t1.1 t1.2
    have I4 := I.fl; have I5 := I.gates; have I6 := I.waits
    dsimp only at I1 I2 I3 I4 I5 I6
    have b1 := I2 (k * 4 + t)
    refine Dn.then ?_
    refine Cd.seq ?_
    refine Cd.cut (α := Unit) (fun _ => [(0, .int .u8 a), (1, lv), (7, .pointer (some ⟨p, 0, none⟩)), (8, .pointer (some ⟨c, 0, none⟩)), (9, .int .i64 i), (10, .int .i64 k), (11, .int .i64 t), (12, .bool (decide (rd xs (k * 4 + t) < a % 5) && (decide (k = 0) || decide (t ≤ 1))))]) (fun _ => arr (eInt .i64) c 8 xs :: lat lp V :: rsl (eInt .u8) lv l :: gateH p s ++ R) (fun K kk => ?_) ?_
    · refine go ?_
      cases h1 : decide (rd xs (k * 4 + t) < a % 5) with
      | false =>
        refine go ?_
        rw [h1] at kk
        exact Dn.weak (by repeat(first|exact Env.le_nil _|(refine Env.le_cons rfl ?_ ?_;first|rfl|(simp;done)|exact congrArg _ (by omega)|rotate_left))) (by exact ent_) (kk ())
      | true =>
      refine go ?_
      cases h2 : decide (k = 0) with
      | true =>
        refine go ?_
        rw [h1, h2] at kk
        exact Dn.weak (by repeat(first|exact Env.le_nil _|(refine Env.le_cons rfl ?_ ?_;first|rfl|(simp;done)|exact congrArg _ (by omega)|rotate_left))) (by exact ent_) (kk ())
      | false =>
        refine go ?_
        rw [h1, h2] at kk
        exact Dn.weak (by repeat(first|exact Env.le_nil _|(refine Env.le_cons rfl ?_ ?_;first|rfl|(simp;done)|exact congrArg _ (by omega)|rotate_left))) (by exact ent_) (kk ())
    rintro -
    dsimp only [List.cons_append, List.nil_append]
    have hFV : FnV (P := Try.prog) s.fl (lat lp V) pairV2 (fun _ => True) (fun x => .bool (flowsB V x.1 x.2)) := by rw [I4]; exact flows_FnV lp V hV.ok
    have hu : ∀ i : Int, 0 ≤ i → i < s.gates.length → u32 (rd s.gates i).f_Need := by
      intro i h0 h1
      have := rd_mem h0 h1
      rw [I5] at this ⊢
      simp at this
      have e : (rd [(⟨3, 0, 0, a % 5⟩ : S_api_Gate), ⟨1, 0, 0, a % 5⟩] i).f_Need = 0 := by rcases this with h | h <;> rw [h]
      rw [e]; exact ⟨by decide, by decide⟩
    have hmay : askOk (flowsB V) s k t 0 = (decide (rd xs (k * 4 + t) < a % 5) && (decide (k = 0) || decide (t ≤ 1))) := by
      have hF : ∀ f : Int, 0 ≤ f ∧ f < 4 → flowsB V t f = decide (t ≤ f) := fun f hf => by
        rw [flowsB_eq hV (by rw [tabT_length]; omega) (by rw [tabT_length]; omega), tabT_rd t1 hf]; rfl
      have hp : privHas 0 0 = true := by decide
      unfold askOk
      rw [I5, I3]
      rcases (show k = 0 ∨ k = 1 by omega) with rfl | rfl
      · simp [rd, hF 3 (by omega), hp, show t ≤ 3 by omega]; rw [Bool.eq_iff_iff]; simp
      · simp [rd, hF 1 (by omega), hp]; rw [Bool.eq_iff_iff]; simp; omega
    generalize hmv : (decide (rd xs (k * 4 + t) < a % 5) && (decide (k = 0) || decide (t ≤ 1))) = may at hmay
    cases may with
    | false =>
      refine go ?_
      refine Ol.eff rfl rfl rfl (Eff.call (R := ?_) (gate_AskF p s (flowsB V) (lat lp V) hFV k t 0 1 1 hu (by omega) (by omega) hmay) rfl ?_ ?_)
      rotate_left
      · exact tkl_
      rintro _ -
      dsimp only [List.cons_append, List.nil_append]
      refine go ?_
      refine Cd.draw2 [[], [], [], [0, 1, 2], [], [], [4], [4, 5, 6], [4, 5, 6, 7], [0, 1, 2, 3, 4, 5, 6, 7, 8]] [3] [] (td := [(0, .fresh), (1, .fresh), (2, .fresh), (4, .fresh), (5, .fresh), (6, .fresh), (7, .fresh), (8, .fresh)]) mixed (by kernel_rfl) (by kernel_rfl) (by decide) (by decide) rfl (by kernel_rfl) ?_
      refine god2 ?_
      refine Sg2.one (td := [(4, .old), (5, .old), (6, .old), (7, .old), (8, .old), (9, .fresh)]) rfl (by kernel_rfl) fun F3_ => ?_
      dsimp only [List.cons_append, List.nil_append]
      refine SpOp.eff rfl rfl rfl rfl rfl (Eff.call (R := ?_) (gate_Asked p s k t) rfl ?_ ?_)
      rotate_left
      · exact tkl_
      rintro _ -
      dsimp only [List.cons_append, List.nil_append]
      refine Sn.ok ?_
      refine god2 ?_
      refine go ?_
      refine Cd.condP rfl (fun h5 => absurd I3 h5) (fun _ => ?_)
      refine go ?_
      refine Dn.round ⟨i + 1, s, xs⟩ ⟨by dsimp only; omega, ⟨I4, I5, by dsimp only; omega, I1, I.cnt, fun j => by have := I2 j; dsimp only; omega⟩⟩ (by dsimp only; omega) ?_ ?_
      · repeat(first|exact Env.le_nil _|(refine Env.le_cons rfl ?_ ?_;first|rfl|(simp;done)|exact congrArg _ (by omega)|rotate_left))
      · exact ent_
    | true =>
      refine go ?_
      refine Ol.eff rfl rfl rfl (Eff.call (R := ?_) (gate_AskT p s (flowsB V) (lat lp V) hFV k t 0 1 1 hu (by omega) (by omega) hmay) rfl ?_ ?_)
      rotate_left
      · exact tkl_
      rintro wv -
      dsimp only [List.cons_append, List.nil_append]
      refine go ?_
      refine Cd.draw2 [[], [], [0], [0, 1, 2], [0, 1, 2, 3], [0, 1, 2, 3, 4], [0], [0, 1, 2, 3, 4, 5, 6], [0, 1, 2, 3, 4, 5, 6, 7]] [8] [] (td := [(0, .fresh), (1, .fresh), (2, .fresh), (3, .fresh), (4, .fresh), (5, .fresh), (6, .fresh), (7, .fresh)]) mixed (by kernel_rfl) (by kernel_rfl) (by decide) (by decide) rfl (by kernel_rfl) ?_
      refine god2 ?_
      refine Sg2.one (td := []) rfl (by kernel_rfl) fun F8_ => ?_
      dsimp only [List.cons_append, List.nil_append]
      refine SpOp.eff0 rfl rfl rfl rfl (Eff.storeE rfl ?_ ?_)
      · omega
      refine Sn.ok ?_
      refine god2 ?_
      refine go ?_
      refine Cd.draw2 [[], [], [], [0, 1, 2], [], [], [4], [4, 5, 6], [4, 5, 6, 7], [0, 1, 2, 3, 4, 5, 6, 7, 8]] [3] [] (td := [(0, .fresh), (1, .fresh), (2, .fresh), (4, .fresh), (5, .fresh), (6, .fresh), (7, .fresh), (8, .fresh)]) mixed (by kernel_rfl) (by kernel_rfl) (by decide) (by decide) rfl (by kernel_rfl) ?_
      refine god2 ?_
      refine Sg2.one (td := [(4, .old), (5, .old), (6, .old), (7, .old), (8, .old), (9, .fresh)]) rfl (by kernel_rfl) fun F3_ => ?_
      dsimp only [List.cons_append, List.nil_append]
      refine SpOp.eff rfl rfl rfl rfl rfl (Eff.call (R := ?_) (gate_Asked p (askS s k t 1 1 wv) k t) rfl ?_ ?_)
      rotate_left
      · exact tkl_
      rintro _ -
      dsimp only [List.cons_append, List.nil_append]
      refine Sn.ok ?_
      have hset : ∀ j : Int, 0 ≤ j → rd (xs.set (k * 4 + t).toNat (rd xs (k * 4 + t) + 1)) j = if j = k * 4 + t then rd xs (k * 4 + t) + 1 else rd xs j := fun j hj => rd_set xs (k * 4 + t) j _ (by omega) hj
      have hcnt : ∀ k' l' : Int, 0 ≤ k' → k' < 2 → 0 ≤ l' → l' < 4 → cnt (askS s k t 1 1 wv) k' l' = rd (xs.set (k * 4 + t).toNat (rd xs (k * 4 + t) + 1)) (k' * 4 + l') := by
        intro k' l' h1 h2 h3 h4
        rw [hset _ (by omega)]
        have hc := I.cnt k' l' h1 h2 h3 h4
        dsimp only at hc
        simp only [cnt, upd] at hc I3 ⊢
        by_cases he : k' = k ∧ l' = t
        · obtain ⟨rfl, rfl⟩ := he
          rw [if_pos rfl, if_pos rfl]; simp; omega
        · rw [if_neg (by simp; omega), if_neg (by omega)]; exact hc
      refine god2 ?_
      refine go ?_
      refine Cd.condP rfl (fun h5 => absurd (hcnt k t k1.1 k1.2 t1.1 t1.2) h5) (fun _ => ?_)
      refine go ?_
      refine Dn.round ⟨i + 1, askS s k t 1 1 wv, xs.set (k * 4 + t).toNat (rd xs (k * 4 + t) + 1)⟩ ⟨by dsimp only; omega, ⟨I4, I5, by simp; omega, by simp [I1], hcnt, fun j => ?_⟩⟩ (by dsimp only; omega) ?_ ?_
      · dsimp only
        have hb := I2 (k * 4 + t)
        by_cases hj : 0 ≤ j
        · rw [hset j hj]; have := I2 j; split <;> omega
        · rw [rd_neg _ j (by omega), hset 0 (by omega)]; have := I2 0; split <;> omega
      · repeat(first|exact Env.le_nil _|(refine Env.le_cons rfl ?_ ?_;first|rfl|(simp;done)|exact congrArg _ (by omega)|rotate_left))
      · exact ent_
  · refine go ?_
    refine Dn.ret1 rfl rfl fun w hs => ⟨(), ?_, by trivial, by first | exact hs | (refine hs.conv ?_; exact ent_)⟩
    rfl
end Go.Proofs.Ytefmjphokgnobaa

