/- Contracts of functions of the program, proved in a small separation logic. Conditions: those that each theorem states. -/
import Derived.Test.YtihmbmoeedojoaaDeck11
namespace Go.Proofs.Ytihmbmoeedojoaa
open Go Go.Sl
set_option maxHeartbeats 4000000
set_option maxRecDepth 100000
set_option linter.unusedVariables false
abbrev aC (l : List Int) (i : Int) : AT := ⟨i, 0, 0, [], 0, 0, 0, 0, 0, 0, 0, rd l i / 4 % 2⟩
abbrev qi (l : List Int) (i : Int) : QI := ⟨rd l i % 4, aC l i, i⟩
def SQ (l : List Int) : Nat → List QI
  | 0 => []
  | j + 1 => insQ (qi l j) (SQ l j)
theorem SQ_perm (l : List Int) : ∀ j, (SQ l j).Perm ((ints j).map (qi l))
  | 0 => List.Perm.refl _
  | j + 1 => by
    rw [ints_succ, List.map_append]
    exact (insQ_perm _ _).trans (((SQ_perm l j).cons _).trans (List.perm_append_singleton _ _).symm)
theorem SQ_len (l : List Int) (j : Nat) : (SQ l j).length = j := by rw [(SQ_perm l j).length_eq]; simp [ints_length]
theorem SQ_sorted (l : List Int) : ∀ j, sortedQ (SQ l j)
  | 0 => List.Pairwise.nil
  | j + 1 => insQ_sorted _ _ (SQ_sorted l j)
theorem SQ_mem {l : List Int} {j : Nat} {y : QI} (h : y ∈ SQ l j) : ∃ i : Int, 0 ≤ i ∧ i < j ∧ y = qi l i := by
  obtain ⟨i, hi, rfl⟩ := List.mem_map.1 ((SQ_perm l j).mem_iff.1 h)
  have := ints_mem.1 hi
  exact ⟨i, this.1, this.2, rfl⟩
theorem SQ_nd (l : List Int) (j : Nat) : ((SQ l j).map (·.seq)).Nodup := by
  refine ((SQ_perm l j).map _).nodup_iff.2 ?_
  rw [List.map_map, show ((fun x : QI => x.seq) ∘ qi l) = id from rfl, List.map_id]
  unfold ints
  exact List.Pairwise.map _ (fun a b h => by omega) List.nodup_range
/-- The one ahead is no later; of one round, it has the lesser number. -/
theorem SQ_two (l : List Int) {j : Nat} {i : Nat} (h : i + 1 < j) {a b : Int} (ha : rd (SQ l j) (i : Int) = qi l a) (hb : rd (SQ l j) ((i + 1 : Nat) : Int) = qi l b) : rd l a % 4 ≤ rd l b % 4 ∧ (rd l a % 4 = rd l b % 4 → a < b) := by
  have hl := SQ_len l j
  have h1 := List.pairwise_iff_getElem.1 (SQ_sorted l j) i (i + 1) (by omega) (by omega) (by omega)
  have h2 := List.pairwise_iff_getElem.1 (List.pairwise_map.1 (SQ_nd l j)) i (i + 1) (by omega) (by omega) (by omega)
  rw [rd_eq (by rw [hl]; omega)] at ha hb
  simp only [Int.toNat_natCast] at ha hb
  rw [ha, hb] at h1 h2
  rw [nah_iff] at h1
  dsimp only at h1 h2
  omega
abbrev DC (k : Nat) (q0 q1 : List AT) : DK := ⟨3, false, 0, [⟨k, q0, zA, false⟩, ⟨k, q1, zA, false⟩], ⟨[], 1⟩⟩
theorem pu_C0 (r : Int) (k : Nat) (q0 q1 : List AT) (ev : List S_api_Event) (ov : List AT) (a : AT) (h : a.worker = 0) :
    puStep r 7 ⟨DC k q0 q1, ev, ov⟩ a = ⟨DC k (if q0.length < k then q0 ++ [a] else q0) q1, ev ++ [evOf 3 r 7 a], if q0.length < k then ov else ov ++ [a]⟩ := by
  unfold puStep
  dsimp only
  rw [show (DC k q0 q1).home a.worker = 0 from by rw [h]; rfl]
  have e : (DC k q0 q1).pushB 0 = decide (q0.length < k) := rfl
  rw [e]
  by_cases hq : q0.length < k
  · rw [if_pos hq, if_pos hq, decide_eq_true hq]
    show PU.mk ((DC k q0 q1).setH 0 ((⟨k, q0, zA, false⟩ : Hand).push a)) _ _ = _
    unfold Hand.push; dsimp only; rw [if_pos hq]; rfl
  · rw [if_neg hq, if_neg hq, decide_eq_false hq]
    show PU.mk ((DC k q0 q1).setH 0 ((⟨k, q0, zA, false⟩ : Hand).push a)) _ _ = _
    unfold Hand.push; dsimp only; rw [if_neg hq]; rfl
theorem pu_C1 (r : Int) (k : Nat) (q0 q1 : List AT) (ev : List S_api_Event) (ov : List AT) (a : AT) (h : a.worker = 1) :
    puStep r 7 ⟨DC k q0 q1, ev, ov⟩ a = ⟨DC k q0 (if q1.length < k then q1 ++ [a] else q1), ev ++ [evOf 3 r 7 a], if q1.length < k then ov else ov ++ [a]⟩ := by
  unfold puStep
  dsimp only
  rw [show (DC k q0 q1).home a.worker = 1 from by rw [h]; rfl]
  have e : (DC k q0 q1).pushB 1 = decide (q1.length < k) := rfl
  rw [e]
  by_cases hq : q1.length < k
  · rw [if_pos hq, if_pos hq, decide_eq_true hq]
    show PU.mk ((DC k q0 q1).setH 1 ((⟨k, q1, zA, false⟩ : Hand).push a)) _ _ = _
    unfold Hand.push; dsimp only; rw [if_pos hq]; rfl
  · rw [if_neg hq, if_neg hq, decide_eq_false hq]
    show PU.mk ((DC k q0 q1).setH 1 ((⟨k, q1, zA, false⟩ : Hand).push a)) _ _ = _
    unfold Hand.push; dsimp only; rw [if_neg hq]; rfl
theorem pu_pre (r kind : Int) (d : DK) (L : List AT) (i : Nat) : ∀ j, i + j ≤ L.length → ∃ e s, (puK r kind d L (i + j)).ev = (puK r kind d L i).ev ++ e ∧ (puK r kind d L (i + j)).over = (puK r kind d L i).over ++ s
  | 0, _ => ⟨[], [], by simp, by simp⟩
  | j + 1, h => by
    obtain ⟨e, s, h1, h2⟩ := pu_pre r kind d L i j (by omega)
    rw [show i + (j + 1) = (i + j) + 1 from by omega, puK_succ r kind d L (by omega)]
    generalize rd L ((i + j : Nat) : Int) = a
    generalize puK r kind d L (i + j) = u at h1 h2 ⊢
    unfold puStep
    dsimp only
    rw [h1, h2]
    cases u.d.pushB (u.d.home a.worker)
    · exact ⟨e ++ [evOf u.d.label r kind a], s ++ [a], by simp, by simp⟩
    · exact ⟨e ++ [evOf u.d.label r kind a], s, by simp, rfl⟩
structure COk (k j : Nat) (u : PU) (q0 q1 : List AT) : Prop where
  d : u.d = DC k q0 q1
  e : u.ev.length = j
  n : q0.length + q1.length + u.over.length = j
  m : q0.length ≤ k ∧ q1.length ≤ k
theorem C_ok (r : Int) (k : Nat) (L : List AT) (hw : ∀ a, a ∈ L → a.worker = 0 ∨ a.worker = 1) : ∀ j, j ≤ L.length → ∃ q0 q1, COk k j (puK r 7 (DC k [] []) L j) q0 q1
  | 0, _ => ⟨[], [], rfl, rfl, rfl, ⟨by simp, by simp⟩⟩
  | j + 1, hj => by
    obtain ⟨q0, q1, h1, h2, h3, h4⟩ := C_ok r k L hw j (by omega)
    rw [puK_succ r 7 _ L (by omega)]
    have hwj := hw _ (rd_mem (xs := L) (i := j) (by omega) (by omega))
    generalize puK r 7 (DC k [] []) L j = u at h1 h2 h3 ⊢
    obtain ⟨d, ev, ov⟩ := u
    dsimp only at h1 h2 h3
    subst h1
    rcases hwj with hwj | hwj
    · rw [pu_C0 r k q0 q1 ev ov _ hwj]
      exact ⟨_, _, rfl, by simp; omega, by dsimp only; split <;> simp <;> omega, by split <;> (try simp) <;> omega, h4.2⟩
    · rw [pu_C1 r k q0 q1 ev ov _ hwj]
      exact ⟨_, _, rfl, by simp; omega, by dsimp only; split <;> simp <;> omega, h4.1, by split <;> (try simp) <;> omega⟩
-- FN confidant/confidantlaw24.DeckComes
theorem law_DeckComes (v : Value) (l : List Int) (room r : Int) (hl : ∀ x, x ∈ l → 0 ≤ x ∧ x ≤ 255) (hm : l.length ≤ 9223372036854775807) (hr : 0 ≤ room ∧ room ≤ 255) (hrr : 0 ≤ r ∧ r ≤ 255) :
    Sp Try.prog 9 [v, .int .u8 room, .int .u8 r] [rsl (eInt .u8) v l] (fun _ : Unit => True) (fun _ => .bool true) (fun _ => []) := by
  obtain ⟨k, hk2⟩ : ∃ k : Nat, (k : Int) = room % 6 + 1 := ⟨(room % 6 + 1).toNat, by omega⟩
  have hr2 : ∀ i : Int, 0 ≤ i → i < l.length → 0 ≤ rd l i ∧ rd l i ≤ 255 := fun i h0 h1 => hl _ (rd_mem h0 h1)
  refine Sp.intro (n := 220) Try.func9 rfl rfl fun w0 R => ?_
  dsimp only [List.cons_append, List.nil_append, envOf]
  repeat(first|(with_reducible refine Ol.g ?_;first|(refine Ol.q rfl rfl rfl ?_ ?_;(first|exact True.intro|omega|(unfold in64;omega)|(simp only [List.length_append,List.length_cons,List.length_nil,List.length_set];omega)))|with_reducible refine Ol.nil ?_|refine Ol.skip rfl rfl ?_|refine Ol.eff rfl rfl rfl (Eff.x (Qx.build rfl) ?_)|refine Ol.skip0 rfl ?_|(refine Ol.ga ?_;dsimp only [List.append])|refine Ol.eff rfl rfl rfl (Eff.alloc fun _ => ?_)|refine Ol.eff rfl rfl rfl (Eff.box fun _ => ?_)|refine Ol.eff0 rfl rfl (Eff.store rfl rfl ?_)|refine Ol.eff rfl rfl rfl (Eff.bslice rfl rfl fun _ => ?_)|(refine Ol.eff0 rfl rfl (Eff.storeE rfl ?_ ?_);(first|exact True.intro|omega|(unfold in64;omega)|(simp only [List.length_append,List.length_cons,List.length_nil,List.length_set];omega)))|(refine Ol.eff rfl rfl rfl (Eff.append1 rfl ?_ fun _ => ?_);(first|exact True.intro|omega|(unfold in64;omega)|(simp only [List.length_append,List.length_cons,List.length_nil,List.length_set];omega))))|(with_reducible refine Cd.g ?_;first|with_reducible refine Cd.seq ?_|with_reducible refine Cd.region ?_|with_reducible refine Cd.skip ?_|with_reducible refine Cd.ret ?_|with_reducible refine Cd.block ?_|with_reducible refine Cd.exit ?_|(with_reducible refine Cd.condg ?_;first|refine Cd.cond_t rfl ?_|refine Cd.cond_f rfl ?_))|(with_reducible refine Dn.g ?_;first|with_reducible refine Dn.then ?_|with_reducible refine Dn.ret_then ?_|with_reducible refine Dn.ret_block ?_|with_reducible refine Dn.block ?_|with_reducible refine Dn.exit_then ?_|with_reducible refine Dn.exit_at ?_|with_reducible refine Dn.exit_by rfl ?_))
  with_reducible refine Ol.g ?_
  refine Ol.eff rfl rfl rfl (Eff.call (R := ?_) known24 rfl ?_ ?_)
  rotate_left
  · exact tkl_
  rintro _ -
  dsimp only [List.cons_append, List.nil_append]
  repeat(first|(with_reducible refine Ol.g ?_;first|(refine Ol.q rfl rfl rfl ?_ ?_;(first|exact True.intro|omega|(unfold in64;omega)|(simp only [List.length_append,List.length_cons,List.length_nil,List.length_set];omega)))|with_reducible refine Ol.nil ?_|refine Ol.skip rfl rfl ?_|refine Ol.eff rfl rfl rfl (Eff.x (Qx.build rfl) ?_)|refine Ol.skip0 rfl ?_|(refine Ol.ga ?_;dsimp only [List.append])|refine Ol.eff rfl rfl rfl (Eff.alloc fun _ => ?_)|refine Ol.eff rfl rfl rfl (Eff.box fun _ => ?_)|refine Ol.eff0 rfl rfl (Eff.store rfl rfl ?_)|refine Ol.eff rfl rfl rfl (Eff.bslice rfl rfl fun _ => ?_)|(refine Ol.eff0 rfl rfl (Eff.storeE rfl ?_ ?_);(first|exact True.intro|omega|(unfold in64;omega)|(simp only [List.length_append,List.length_cons,List.length_nil,List.length_set];omega)))|(refine Ol.eff rfl rfl rfl (Eff.append1 rfl ?_ fun _ => ?_);(first|exact True.intro|omega|(unfold in64;omega)|(simp only [List.length_append,List.length_cons,List.length_nil,List.length_set];omega))))|(with_reducible refine Cd.g ?_;first|with_reducible refine Cd.seq ?_|with_reducible refine Cd.region ?_|with_reducible refine Cd.skip ?_|with_reducible refine Cd.ret ?_|with_reducible refine Cd.block ?_|with_reducible refine Cd.exit ?_|(with_reducible refine Cd.condg ?_;first|refine Cd.cond_t rfl ?_|refine Cd.cond_f rfl ?_))|(with_reducible refine Dn.g ?_;first|with_reducible refine Dn.then ?_|with_reducible refine Dn.ret_then ?_|with_reducible refine Dn.ret_block ?_|with_reducible refine Dn.block ?_|with_reducible refine Dn.exit_then ?_|with_reducible refine Dn.exit_at ?_|with_reducible refine Dn.exit_by rfl ?_))
  refine Cd.condP rfl (fun h => ?_) (fun h12 => ?_)
  · refine go ?_
    refine Dn.ret1 rfl rfl fun w hs => ⟨(), ?_, by trivial, by first | exact hs | (refine hs.conv ?_; exact ent_)⟩
    rfl
  have hl12 : l.length ≤ 30 := by omega
  repeat(first|(with_reducible refine Ol.g ?_;first|(refine Ol.q rfl rfl rfl ?_ ?_;(first|exact True.intro|omega|(unfold in64;omega)|(simp only [List.length_append,List.length_cons,List.length_nil,List.length_set];omega)))|with_reducible refine Ol.nil ?_|refine Ol.skip rfl rfl ?_|refine Ol.eff rfl rfl rfl (Eff.x (Qx.build rfl) ?_)|refine Ol.skip0 rfl ?_|(refine Ol.ga ?_;dsimp only [List.append])|refine Ol.eff rfl rfl rfl (Eff.alloc fun _ => ?_)|refine Ol.eff rfl rfl rfl (Eff.box fun _ => ?_)|refine Ol.eff0 rfl rfl (Eff.store rfl rfl ?_)|refine Ol.eff rfl rfl rfl (Eff.bslice rfl rfl fun _ => ?_)|(refine Ol.eff0 rfl rfl (Eff.storeE rfl ?_ ?_);(first|exact True.intro|omega|(unfold in64;omega)|(simp only [List.length_append,List.length_cons,List.length_nil,List.length_set];omega)))|(refine Ol.eff rfl rfl rfl (Eff.append1 rfl ?_ fun _ => ?_);(first|exact True.intro|omega|(unfold in64;omega)|(simp only [List.length_append,List.length_cons,List.length_nil,List.length_set];omega))))|(with_reducible refine Cd.g ?_;first|with_reducible refine Cd.seq ?_|with_reducible refine Cd.region ?_|with_reducible refine Cd.skip ?_|with_reducible refine Cd.ret ?_|with_reducible refine Cd.block ?_|with_reducible refine Cd.exit ?_|(with_reducible refine Cd.condg ?_;first|refine Cd.cond_t rfl ?_|refine Cd.cond_f rfl ?_))|(with_reducible refine Dn.g ?_;first|with_reducible refine Dn.then ?_|with_reducible refine Dn.ret_then ?_|with_reducible refine Dn.ret_block ?_|with_reducible refine Dn.block ?_|with_reducible refine Dn.exit_then ?_|with_reducible refine Dn.exit_at ?_|with_reducible refine Dn.exit_by rfl ?_))
  rw [← hk2]
  with_reducible refine Ol.g ?_
  refine Ol.eff rfl rfl rfl (Eff.call (R := ?_) (deck_New false 3 2 ⟨k, false, 0, 0, 0, .slice none 0 0, .slice none 0 0, 0⟩ ⟨rfl⟩ ⟨rfl⟩ [] ⟨by simp, by simp⟩) rfl ?_ ?_)
  rotate_left
  · exact tkl_
  rintro ⟨p, x⟩ -
  dsimp only [List.cons_append, List.nil_append]
  rw [show newDK 3 2 ⟨k, false, 0, 0, 0, .slice none 0 0, .slice none 0 0, 0⟩ [] = DC k [] [] from by
    show (⟨3, false, 0, [⟨(imin (imax (k : Int) 1) 64).toNat, [], zA, false⟩, ⟨(imin (imax (k : Int) 1) 64).toNat, [], zA, false⟩], ⟨[], 1⟩⟩ : DK) = _
    rw [show (imin (imax (k : Int) 1) 64).toNat = k from by unfold imin imax; split <;> split <;> omega]]
  refine Ol.conv (H' := rsl (eInt .u8) v l :: deckH p x (DC k [] []) :: queueS x.qp (SQ l 0) (0 : Nat) :: parkH x.pp [] :: R) (ents.cons (by exact tk_) (ents.cons (by exact tk_) (queueS_nil (by exact ent_)))) ?_
  repeat(first|(with_reducible refine Ol.g ?_;first|(refine Ol.q rfl rfl rfl ?_ ?_;(first|exact True.intro|omega|(unfold in64;omega)|(simp only [List.length_append,List.length_cons,List.length_nil,List.length_set];omega)))|with_reducible refine Ol.nil ?_|refine Ol.skip rfl rfl ?_|refine Ol.eff rfl rfl rfl (Eff.x (Qx.build rfl) ?_)|refine Ol.skip0 rfl ?_|(refine Ol.ga ?_;dsimp only [List.append])|refine Ol.eff rfl rfl rfl (Eff.alloc fun _ => ?_)|refine Ol.eff rfl rfl rfl (Eff.box fun _ => ?_)|refine Ol.eff0 rfl rfl (Eff.store rfl rfl ?_)|refine Ol.eff rfl rfl rfl (Eff.bslice rfl rfl fun _ => ?_)|(refine Ol.eff0 rfl rfl (Eff.storeE rfl ?_ ?_);(first|exact True.intro|omega|(unfold in64;omega)|(simp only [List.length_append,List.length_cons,List.length_nil,List.length_set];omega)))|(refine Ol.eff rfl rfl rfl (Eff.append1 rfl ?_ fun _ => ?_);(first|exact True.intro|omega|(unfold in64;omega)|(simp only [List.length_append,List.length_cons,List.length_nil,List.length_set];omega))))|(with_reducible refine Cd.g ?_;first|with_reducible refine Cd.seq ?_|with_reducible refine Cd.region ?_|with_reducible refine Cd.skip ?_|with_reducible refine Cd.ret ?_|with_reducible refine Cd.block ?_|with_reducible refine Cd.exit ?_|(with_reducible refine Cd.condg ?_;first|refine Cd.cond_t rfl ?_|refine Cd.cond_f rfl ?_))|(with_reducible refine Dn.g ?_;first|with_reducible refine Dn.then ?_|with_reducible refine Dn.ret_then ?_|with_reducible refine Dn.ret_block ?_|with_reducible refine Dn.block ?_|with_reducible refine Dn.exit_then ?_|with_reducible refine Dn.exit_at ?_|with_reducible refine Dn.exit_by rfl ?_))
  refine Cd.loop (fun j : Nat => j ≤ l.length) (fun j => l.length - j) (fun j => [(0, v), (2, .int .u8 r), (7, .int .i64 k), (8, .pointer (some ⟨p, 0, none⟩)), (9, .int .i64 j)]) (fun j => rsl (eInt .u8) v l :: deckH p x (DC k [] []) :: queueS x.qp (SQ l j) j :: parkH x.pp [] :: R) 0 (by omega) ?_ ?_ ?_
  · repeat(first|exact Env.le_nil _|(refine Env.le_cons rfl ?_ ?_;first|rfl|(simp;done)|exact congrArg _ (by omega)|rotate_left))
  · exact ent_
  rintro j hj
  refine go ?_
  refine Cd.condP rfl (fun h => ?_) (fun h => ?_)
  · have hj2 : j < l.length := by omega
    have hrj := hr2 j (by omega) (by omega)
    refine go ?_
    refine Cd.draw2 [[], [], [], [1, 2], [1, 2, 3], [1, 2, 3, 4], [1, 2, 3, 4, 5], [], [7], [], [], [9, 10], [9, 10, 11], [9, 10, 11, 12], [9, 10, 11, 12, 13], [9, 10, 11, 12, 13, 14], [7, 8, 9, 10, 11, 12, 13, 14, 15], [0, 1, 2, 3, 4, 5, 6, 7, 8, 9, 10, 11, 12, 13, 14, 15, 16]] [17] [] (td := [(0, .fresh), (1, .fresh), (2, .fresh), (3, .fresh), (4, .fresh), (5, .fresh), (6, .fresh), (7, .fresh), (8, .fresh), (9, .fresh), (10, .fresh), (11, .fresh), (12, .fresh), (13, .fresh), (14, .fresh), (15, .fresh), (16, .fresh)]) mixed (by kernel_rfl) (by kernel_rfl) (by decide) (by decide) rfl (by kernel_rfl) ?_
    refine god2 ?_
    refine Sg2.one (td := []) rfl (by kernel_rfl) fun F17_ => ?_
    dsimp only [List.cons_append, List.nil_append]
    refine SpOp.eff rfl rfl rfl rfl rfl (Eff.call (R := ?_) (deck_Come p x (DC k [] []) (SQ l j) j (rd l j % 4) ⟨j, 0, 0, .slice none 0 0, 0, 0, 0, 0, 0, 0, 0, rd l j / 4 % 2⟩ (aC l j) (by omega) (by rw [SQ_len]; omega)) rfl ?_ ?_)
    rotate_left
    · exact tkl_
    rintro _ -
    dsimp only [List.cons_append, List.nil_append]
    refine Sn.ok ?_
    refine god2 ?_
    refine go ?_
    refine Dn.round (j + 1) (by omega) (by omega) ?_ ?_
    · repeat(first|exact Env.le_nil _|(refine Env.le_cons rfl ?_ ?_;first|rfl|(simp;done)|exact congrArg _ (by omega)|rotate_left))
    · rw [show SQ l (j + 1) = insQ ⟨rd l j % 4, aC l j, j⟩ (SQ l j) from rfl, show ((j + 1 : Nat) : Int) = (j : Int) + 1 from by omega]
      exact ent_
  have hjn : j = l.length := by omega
  subst hjn
  have hSl := SQ_len l l.length
  repeat(first|(with_reducible refine Ol.g ?_;first|(refine Ol.q rfl rfl rfl ?_ ?_;(first|exact True.intro|omega|(unfold in64;omega)|(simp only [List.length_append,List.length_cons,List.length_nil,List.length_set];omega)))|with_reducible refine Ol.nil ?_|refine Ol.skip rfl rfl ?_|refine Ol.eff rfl rfl rfl (Eff.x (Qx.build rfl) ?_)|refine Ol.skip0 rfl ?_|(refine Ol.ga ?_;dsimp only [List.append])|refine Ol.eff rfl rfl rfl (Eff.alloc fun _ => ?_)|refine Ol.eff rfl rfl rfl (Eff.box fun _ => ?_)|refine Ol.eff0 rfl rfl (Eff.store rfl rfl ?_)|refine Ol.eff rfl rfl rfl (Eff.bslice rfl rfl fun _ => ?_)|(refine Ol.eff0 rfl rfl (Eff.storeE rfl ?_ ?_);(first|exact True.intro|omega|(unfold in64;omega)|(simp only [List.length_append,List.length_cons,List.length_nil,List.length_set];omega)))|(refine Ol.eff rfl rfl rfl (Eff.append1 rfl ?_ fun _ => ?_);(first|exact True.intro|omega|(unfold in64;omega)|(simp only [List.length_append,List.length_cons,List.length_nil,List.length_set];omega))))|(with_reducible refine Cd.g ?_;first|with_reducible refine Cd.seq ?_|with_reducible refine Cd.region ?_|with_reducible refine Cd.skip ?_|with_reducible refine Cd.ret ?_|with_reducible refine Cd.block ?_|with_reducible refine Cd.exit ?_|(with_reducible refine Cd.condg ?_;first|refine Cd.cond_t rfl ?_|refine Cd.cond_f rfl ?_))|(with_reducible refine Dn.g ?_;first|with_reducible refine Dn.then ?_|with_reducible refine Dn.ret_then ?_|with_reducible refine Dn.ret_block ?_|with_reducible refine Dn.block ?_|with_reducible refine Dn.exit_then ?_|with_reducible refine Dn.exit_at ?_|with_reducible refine Dn.exit_by rfl ?_))
  with_reducible refine Ol.g ?_
  refine Ol.eff rfl rfl rfl (Eff.call (R := ?_) (deck_LiveS p x (DC k [] []) (SQ l l.length) (l.length : Nat) []) rfl ?_ ?_)
  rotate_left
  · exact tkl_
  rintro _ -
  dsimp only [List.cons_append, List.nil_append]
  rw [show (((SQ l l.length).length : Int) + ([] : List WT).length + (liveK (DC k [] []).hands (DC k [] []).hands.length : Nat)) = l.length from by rw [hSl]; simp [liveK, Hand.live]]
  repeat(first|(with_reducible refine Ol.g ?_;first|(refine Ol.q rfl rfl rfl ?_ ?_;(first|exact True.intro|omega|(unfold in64;omega)|(simp only [List.length_append,List.length_cons,List.length_nil,List.length_set];omega)))|with_reducible refine Ol.nil ?_|refine Ol.skip rfl rfl ?_|refine Ol.eff rfl rfl rfl (Eff.x (Qx.build rfl) ?_)|refine Ol.skip0 rfl ?_|(refine Ol.ga ?_;dsimp only [List.append])|refine Ol.eff rfl rfl rfl (Eff.alloc fun _ => ?_)|refine Ol.eff rfl rfl rfl (Eff.box fun _ => ?_)|refine Ol.eff0 rfl rfl (Eff.store rfl rfl ?_)|refine Ol.eff rfl rfl rfl (Eff.bslice rfl rfl fun _ => ?_)|(refine Ol.eff0 rfl rfl (Eff.storeE rfl ?_ ?_);(first|exact True.intro|omega|(unfold in64;omega)|(simp only [List.length_append,List.length_cons,List.length_nil,List.length_set];omega)))|(refine Ol.eff rfl rfl rfl (Eff.append1 rfl ?_ fun _ => ?_);(first|exact True.intro|omega|(unfold in64;omega)|(simp only [List.length_append,List.length_cons,List.length_nil,List.length_set];omega))))|(with_reducible refine Cd.g ?_;first|with_reducible refine Cd.seq ?_|with_reducible refine Cd.region ?_|with_reducible refine Cd.skip ?_|with_reducible refine Cd.ret ?_|with_reducible refine Cd.block ?_|with_reducible refine Cd.exit ?_|(with_reducible refine Cd.condg ?_;first|refine Cd.cond_t rfl ?_|refine Cd.cond_f rfl ?_))|(with_reducible refine Dn.g ?_;first|with_reducible refine Dn.then ?_|with_reducible refine Dn.ret_then ?_|with_reducible refine Dn.ret_block ?_|with_reducible refine Dn.block ?_|with_reducible refine Dn.exit_then ?_|with_reducible refine Dn.exit_at ?_|with_reducible refine Dn.exit_by rfl ?_))
  rw [show decide ((l.length : Int) ≠ (l.length : Int)) = false from by simp]
  repeat(first|(with_reducible refine Ol.g ?_;first|(refine Ol.q rfl rfl rfl ?_ ?_;(first|exact True.intro|omega|(unfold in64;omega)|(simp only [List.length_append,List.length_cons,List.length_nil,List.length_set];omega)))|with_reducible refine Ol.nil ?_|refine Ol.skip rfl rfl ?_|refine Ol.eff rfl rfl rfl (Eff.x (Qx.build rfl) ?_)|refine Ol.skip0 rfl ?_|(refine Ol.ga ?_;dsimp only [List.append])|refine Ol.eff rfl rfl rfl (Eff.alloc fun _ => ?_)|refine Ol.eff rfl rfl rfl (Eff.box fun _ => ?_)|refine Ol.eff0 rfl rfl (Eff.store rfl rfl ?_)|refine Ol.eff rfl rfl rfl (Eff.bslice rfl rfl fun _ => ?_)|(refine Ol.eff0 rfl rfl (Eff.storeE rfl ?_ ?_);(first|exact True.intro|omega|(unfold in64;omega)|(simp only [List.length_append,List.length_cons,List.length_nil,List.length_set];omega)))|(refine Ol.eff rfl rfl rfl (Eff.append1 rfl ?_ fun _ => ?_);(first|exact True.intro|omega|(unfold in64;omega)|(simp only [List.length_append,List.length_cons,List.length_nil,List.length_set];omega))))|(with_reducible refine Cd.g ?_;first|with_reducible refine Cd.seq ?_|with_reducible refine Cd.region ?_|with_reducible refine Cd.skip ?_|with_reducible refine Cd.ret ?_|with_reducible refine Cd.block ?_|with_reducible refine Cd.exit ?_|(with_reducible refine Cd.condg ?_;first|refine Cd.cond_t rfl ?_|refine Cd.cond_f rfl ?_))|(with_reducible refine Dn.g ?_;first|with_reducible refine Dn.then ?_|with_reducible refine Dn.ret_then ?_|with_reducible refine Dn.ret_block ?_|with_reducible refine Dn.block ?_|with_reducible refine Dn.exit_then ?_|with_reducible refine Dn.exit_at ?_|with_reducible refine Dn.exit_by rfl ?_))
  with_reducible refine Ol.g ?_
  refine Ol.eff rfl rfl rfl (Eff.call (R := ?_) (deck_Enter p x (DC k [] []) (SQ l l.length) (l.length : Nat) r (by rw [hSl]; omega)) rfl ?_ ?_)
  rotate_left
  · exact tkl_
  rintro ⟨_, ve, vo, to⟩ -
  dsimp only [List.cons_append, List.nil_append]
  unfold DK.enter
  have hLl : ((SQ l l.length).map (·.task)).length = l.length := by simp [hSl]
  have hLr : ∀ i : Nat, i < l.length → ∃ m : Int, 0 ≤ m ∧ m < l.length ∧ rd (SQ l l.length) (i : Int) = qi l m ∧ rd ((SQ l l.length).map (·.task)) (i : Int) = aC l m := fun i hi => by
    obtain ⟨m, h0, h1, e⟩ := SQ_mem (rd_mem (xs := SQ l l.length) (i := i) (by omega) (by omega))
    refine ⟨m, h0, h1, e, ?_⟩
    rw [rd_eq (by simp [hSl]; omega), List.getElem_map, ← rd_eq (by rw [hSl]; omega), e]
  have hLw : ∀ a, a ∈ (SQ l l.length).map (·.task) → a.worker = 0 ∨ a.worker = 1 := by
    intro a ha
    obtain ⟨y, hy, rfl⟩ := List.mem_map.1 ha
    obtain ⟨m, h0, h1, rfl⟩ := SQ_mem hy
    dsimp only; omega
  generalize hL : (SQ l l.length).map (·.task) = L at hLl hLr hLw ⊢
  obtain ⟨Q0, Q1, O1, O2, O3, O4⟩ := C_ok r k L hLw L.length (Nat.le_refl _)
  first | (with_reducible refine Cd.g ?_; refine Cd.know (fun w hw => rel2_len (Tk.sat (A := (rel2 tkC to _)) (by exact tk_) hw)) fun hto => ?_) | (with_reducible refine Ol.g ?_; refine Ol.know (fun w hw => rel2_len (Tk.sat (A := (rel2 tkC to _)) (by exact tk_) hw)) fun hto => ?_) | (with_reducible refine Dn.g ?_; refine Dn.know (fun w hw => rel2_len (Tk.sat (A := (rel2 tkC to _)) (by exact tk_) hw)) fun hto => ?_)
  rw [O1]
  repeat(first|(with_reducible refine Ol.g ?_;first|(refine Ol.q rfl rfl rfl ?_ ?_;(first|exact True.intro|omega|(unfold in64;omega)|(simp only [List.length_append,List.length_cons,List.length_nil,List.length_set];omega)))|with_reducible refine Ol.nil ?_|refine Ol.skip rfl rfl ?_|refine Ol.eff rfl rfl rfl (Eff.x (Qx.build rfl) ?_)|refine Ol.skip0 rfl ?_|(refine Ol.ga ?_;dsimp only [List.append])|refine Ol.eff rfl rfl rfl (Eff.alloc fun _ => ?_)|refine Ol.eff rfl rfl rfl (Eff.box fun _ => ?_)|refine Ol.eff0 rfl rfl (Eff.store rfl rfl ?_)|refine Ol.eff rfl rfl rfl (Eff.bslice rfl rfl fun _ => ?_)|(refine Ol.eff0 rfl rfl (Eff.storeE rfl ?_ ?_);(first|exact True.intro|omega|(unfold in64;omega)|(simp only [List.length_append,List.length_cons,List.length_nil,List.length_set];omega)))|(refine Ol.eff rfl rfl rfl (Eff.append1 rfl ?_ fun _ => ?_);(first|exact True.intro|omega|(unfold in64;omega)|(simp only [List.length_append,List.length_cons,List.length_nil,List.length_set];omega))))|(with_reducible refine Cd.g ?_;first|with_reducible refine Cd.seq ?_|with_reducible refine Cd.region ?_|with_reducible refine Cd.skip ?_|with_reducible refine Cd.ret ?_|with_reducible refine Cd.block ?_|with_reducible refine Cd.exit ?_|(with_reducible refine Cd.condg ?_;first|refine Cd.cond_t rfl ?_|refine Cd.cond_f rfl ?_))|(with_reducible refine Dn.g ?_;first|with_reducible refine Dn.then ?_|with_reducible refine Dn.ret_then ?_|with_reducible refine Dn.ret_block ?_|with_reducible refine Dn.block ?_|with_reducible refine Dn.exit_then ?_|with_reducible refine Dn.exit_at ?_|with_reducible refine Dn.exit_by rfl ?_))
  rw [O2, hLl, show decide ((l.length : Int) ≠ (l.length : Int)) = false from by simp]
  repeat(first|(with_reducible refine Ol.g ?_;first|(refine Ol.q rfl rfl rfl ?_ ?_;(first|exact True.intro|omega|(unfold in64;omega)|(simp only [List.length_append,List.length_cons,List.length_nil,List.length_set];omega)))|with_reducible refine Ol.nil ?_|refine Ol.skip rfl rfl ?_|refine Ol.eff rfl rfl rfl (Eff.x (Qx.build rfl) ?_)|refine Ol.skip0 rfl ?_|(refine Ol.ga ?_;dsimp only [List.append])|refine Ol.eff rfl rfl rfl (Eff.alloc fun _ => ?_)|refine Ol.eff rfl rfl rfl (Eff.box fun _ => ?_)|refine Ol.eff0 rfl rfl (Eff.store rfl rfl ?_)|refine Ol.eff rfl rfl rfl (Eff.bslice rfl rfl fun _ => ?_)|(refine Ol.eff0 rfl rfl (Eff.storeE rfl ?_ ?_);(first|exact True.intro|omega|(unfold in64;omega)|(simp only [List.length_append,List.length_cons,List.length_nil,List.length_set];omega)))|(refine Ol.eff rfl rfl rfl (Eff.append1 rfl ?_ fun _ => ?_);(first|exact True.intro|omega|(unfold in64;omega)|(simp only [List.length_append,List.length_cons,List.length_nil,List.length_set];omega))))|(with_reducible refine Cd.g ?_;first|with_reducible refine Cd.seq ?_|with_reducible refine Cd.region ?_|with_reducible refine Cd.skip ?_|with_reducible refine Cd.ret ?_|with_reducible refine Cd.block ?_|with_reducible refine Cd.exit ?_|(with_reducible refine Cd.condg ?_;first|refine Cd.cond_t rfl ?_|refine Cd.cond_f rfl ?_))|(with_reducible refine Dn.g ?_;first|with_reducible refine Dn.then ?_|with_reducible refine Dn.ret_then ?_|with_reducible refine Dn.ret_block ?_|with_reducible refine Dn.block ?_|with_reducible refine Dn.exit_then ?_|with_reducible refine Dn.exit_at ?_|with_reducible refine Dn.exit_by rfl ?_))
  rw [hLl] at O1 O2 O3 hto
  with_reducible refine Ol.g ?_
  refine Ol.eff rfl rfl rfl (Eff.call (R := ?_) (deck_LiveS p x (DC k Q0 Q1) [] (l.length : Nat) []) rfl ?_ ?_)
  rotate_left
  · exact tkl_
  rintro _ -
  dsimp only [List.cons_append, List.nil_append]
  rw [show ((([] : List QI).length : Int) + ([] : List WT).length + (liveK (DC k Q0 Q1).hands (DC k Q0 Q1).hands.length : Nat)) = (l.length : Int) - to.length from by rw [hto]; simp [liveK, Hand.live]; omega]
  have htol : to.length ≤ 30 := by omega
  repeat(first|(with_reducible refine Ol.g ?_;first|(refine Ol.q rfl rfl rfl ?_ ?_;(first|exact True.intro|omega|(unfold in64;omega)|(simp only [List.length_append,List.length_cons,List.length_nil,List.length_set];omega)))|with_reducible refine Ol.nil ?_|refine Ol.skip rfl rfl ?_|refine Ol.eff rfl rfl rfl (Eff.x (Qx.build rfl) ?_)|refine Ol.skip0 rfl ?_|(refine Ol.ga ?_;dsimp only [List.append])|refine Ol.eff rfl rfl rfl (Eff.alloc fun _ => ?_)|refine Ol.eff rfl rfl rfl (Eff.box fun _ => ?_)|refine Ol.eff0 rfl rfl (Eff.store rfl rfl ?_)|refine Ol.eff rfl rfl rfl (Eff.bslice rfl rfl fun _ => ?_)|(refine Ol.eff0 rfl rfl (Eff.storeE rfl ?_ ?_);(first|exact True.intro|omega|(unfold in64;omega)|(simp only [List.length_append,List.length_cons,List.length_nil,List.length_set];omega)))|(refine Ol.eff rfl rfl rfl (Eff.append1 rfl ?_ fun _ => ?_);(first|exact True.intro|omega|(unfold in64;omega)|(simp only [List.length_append,List.length_cons,List.length_nil,List.length_set];omega))))|(with_reducible refine Cd.g ?_;first|with_reducible refine Cd.seq ?_|with_reducible refine Cd.region ?_|with_reducible refine Cd.skip ?_|with_reducible refine Cd.ret ?_|with_reducible refine Cd.block ?_|with_reducible refine Cd.exit ?_|(with_reducible refine Cd.condg ?_;first|refine Cd.cond_t rfl ?_|refine Cd.cond_f rfl ?_))|(with_reducible refine Dn.g ?_;first|with_reducible refine Dn.then ?_|with_reducible refine Dn.ret_then ?_|with_reducible refine Dn.ret_block ?_|with_reducible refine Dn.block ?_|with_reducible refine Dn.exit_then ?_|with_reducible refine Dn.exit_at ?_|with_reducible refine Dn.exit_by rfl ?_))
  rw [show decide ((l.length : Int) - to.length ≠ (l.length : Int) - to.length) = false from by simp]
  repeat(first|(with_reducible refine Ol.g ?_;first|(refine Ol.q rfl rfl rfl ?_ ?_;(first|exact True.intro|omega|(unfold in64;omega)|(simp only [List.length_append,List.length_cons,List.length_nil,List.length_set];omega)))|with_reducible refine Ol.nil ?_|refine Ol.skip rfl rfl ?_|refine Ol.eff rfl rfl rfl (Eff.x (Qx.build rfl) ?_)|refine Ol.skip0 rfl ?_|(refine Ol.ga ?_;dsimp only [List.append])|refine Ol.eff rfl rfl rfl (Eff.alloc fun _ => ?_)|refine Ol.eff rfl rfl rfl (Eff.box fun _ => ?_)|refine Ol.eff0 rfl rfl (Eff.store rfl rfl ?_)|refine Ol.eff rfl rfl rfl (Eff.bslice rfl rfl fun _ => ?_)|(refine Ol.eff0 rfl rfl (Eff.storeE rfl ?_ ?_);(first|exact True.intro|omega|(unfold in64;omega)|(simp only [List.length_append,List.length_cons,List.length_nil,List.length_set];omega)))|(refine Ol.eff rfl rfl rfl (Eff.append1 rfl ?_ fun _ => ?_);(first|exact True.intro|omega|(unfold in64;omega)|(simp only [List.length_append,List.length_cons,List.length_nil,List.length_set];omega))))|(with_reducible refine Cd.g ?_;first|with_reducible refine Cd.seq ?_|with_reducible refine Cd.region ?_|with_reducible refine Cd.skip ?_|with_reducible refine Cd.ret ?_|with_reducible refine Cd.block ?_|with_reducible refine Cd.exit ?_|(with_reducible refine Cd.condg ?_;first|refine Cd.cond_t rfl ?_|refine Cd.cond_f rfl ?_))|(with_reducible refine Dn.g ?_;first|with_reducible refine Dn.then ?_|with_reducible refine Dn.ret_then ?_|with_reducible refine Dn.ret_block ?_|with_reducible refine Dn.block ?_|with_reducible refine Dn.exit_then ?_|with_reducible refine Dn.exit_at ?_|with_reducible refine Dn.exit_by rfl ?_))
  rename_i c
  refine Cd.arr (eInt .i64) 2 [0, 0] (Tk.hd _ _) rfl rfl rfl ?_
  refine Cd.loop (fun z : Nat × List AT × List AT => z.1 ≤ l.length ∧ COk k z.1 (puK r 7 (DC k [] []) L z.1) z.2.1 z.2.2) (fun z => l.length - z.1) (fun z => [(0, v), (2, .int .u8 r), (7, .int .i64 k), (8, .pointer (some ⟨p, 0, none⟩)), (10, ve), (11, vo), (12, .pointer (some ⟨c, 0, none⟩)), (13, .int .i64 (puK r 7 (DC k [] []) L z.1).over.length), (14, .int .i64 z.1)])
    (fun z => arr (eInt .i64) c 2 [(z.2.1.length : Int), (z.2.2.length : Int)] :: rsl (eInt .u8) v l :: deckH p x (DC k Q0 Q1) :: queueS x.qp [] (l.length : Nat) :: parkH x.pp [] :: sl e_api_Event ve (puK r 7 (DC k [] []) L l.length).ev :: sl e_api_Task vo to :: rel2 tkC to (puK r 7 (DC k [] []) L l.length).over :: R) (0, [], []) ⟨by simp, ⟨rfl, rfl, rfl, by simp, by simp⟩⟩ ?_ ?_ ?_
  · repeat(first|exact Env.le_nil _|(refine Env.le_cons rfl ?_ ?_;first|rfl|(simp;done)|exact congrArg _ (by omega)|rotate_left))
  · exact ents.cons (show Tk _ (arr (eInt .i64) c 2 [0, 0]) _ from by exact tk_) (by exact ent_)
  rintro ⟨i, q0, q1⟩ ⟨hi, u1, u2, u3, u4⟩
  dsimp only at hi u1 u2 u3 u4 ⊢
  refine go ?_
  rw [O2]
  refine Cd.condP rfl (fun h => ?_) (fun h => ?_)
  · have hi2 : i < l.length := by omega
    obtain ⟨m, hm0, hm1, hSm, hLm⟩ := hLr i hi2
    have hrm := hr2 m hm0 hm1
    have us := puK_succ r 7 (DC k [] []) L (k := i) (by omega)
    rw [hLm] at us
    have hw : rd l m / 4 % 2 = 0 ∨ rd l m / 4 % 2 = 1 := by omega
    obtain ⟨es, s, hr1, hs1⟩ := pu_pre r 7 (DC k [] []) L (i + 1) (l.length - (i + 1)) (by omega)
    rw [show i + 1 + (l.length - (i + 1)) = l.length from by omega] at hr1 hs1
    have hevs : ∀ j : Nat, j < l.length → ∀ a, rd L (j : Int) = a → rd (puK r 7 (DC k [] []) L l.length).ev (j : Int) = evOf 3 r 7 a := by
      intro j hj a ha
      obtain ⟨es, s, g1, g2⟩ := pu_pre r 7 (DC k [] []) L (j + 1) (l.length - (j + 1)) (by omega)
      rw [show j + 1 + (l.length - (j + 1)) = l.length from by omega] at g1
      obtain ⟨_, _, v1, v2, _, _⟩ := C_ok r k L hLw j (by omega)
      rw [g1, puK_succ r 7 (DC k [] []) L (k := j) (by omega), ha]
      unfold puStep
      dsimp only
      rw [rd_eq (by simp [v2])]
      simp [v2, v1]
    have hre := hevs i hi2 _ hLm
    generalize hU : puK r 7 (DC k [] []) L i = U at us u1 u2 u3 ⊢
    obtain ⟨d, ev, ov⟩ := U
    dsimp only at u1 u2 u3 ⊢
    subst u1
    refine go ?_
    rw [hre, show evOf 3 r 7 (aC l m) = ⟨r, 3, 7, rd l m / 4 % 2, m, 0, 0⟩ from rfl]
    dsimp only
    refine go ?_
    rw [hre, show evOf 3 r 7 (aC l m) = ⟨r, 3, 7, rd l m / 4 % 2, m, 0, 0⟩ from rfl]
    dsimp only
    refine go ?_
    rw [hre, show evOf 3 r 7 (aC l m) = ⟨r, 3, 7, rd l m / 4 % 2, m, 0, 0⟩ from rfl]
    dsimp only
    rw [show decide (r ≠ r) = false from by simp]
    refine go ?_
    rw [hre, show evOf 3 r 7 (aC l m) = ⟨r, 3, 7, rd l m / 4 % 2, m, 0, 0⟩ from rfl]
    dsimp only
    refine go ?_
    rw [decide_eq_false (show ¬ m < 0 by omega)]
    refine go ?_
    rw [decide_eq_false (show ¬ (l.length : Int) ≤ m by omega)]
    refine go ?_
    refine Cd.cut (α := Unit) (fun _ => [(0, v), (2, .int .u8 r), (7, .int .i64 k), (8, .pointer (some ⟨p, 0, none⟩)), (10, ve), (11, vo), (12, .pointer (some ⟨c, 0, none⟩)), (13, .int .i64 ov.length), (14, .int .i64 i), (15, .int .i64 m), (16, .int .i64 (rd l m / 4 % 2))]) (fun _ => arr (eInt .i64) c 2 [(q0.length : Int), (q1.length : Int)] :: rsl (eInt .u8) v l :: deckH p x (DC k Q0 Q1) :: queueS x.qp [] (l.length : Nat) :: parkH x.pp [] :: sl e_api_Event ve (puK r 7 (DC k [] []) L l.length).ev :: sl e_api_Task vo to :: rel2 tkC to (puK r 7 (DC k [] []) L l.length).over :: R) (fun K kk => ?_) ?_
    · refine Cd.condP rfl (fun h3 => ?_) (fun h3 => ?_)
      · obtain ⟨i2, rfl⟩ : ∃ i2, i = i2 + 1 := ⟨i - 1, by omega⟩
        obtain ⟨m2, hn0, hn1, hSn, hLn⟩ := hLr i2 (by omega)
        have hrn := hr2 m2 hn0 hn1
        have htw := SQ_two l (j := l.length) (i := i2) (by omega) hSn hSm
        have hre2 := hevs i2 (by omega) _ hLn
        refine go ?_
        rw [show ((i2 + 1 : Nat) : Int) - 1 = (i2 : Int) from by omega]
        refine go ?_
        rw [hre2, show evOf 3 r 7 (aC l m2) = ⟨r, 3, 7, rd l m2 / 4 % 2, m2, 0, 0⟩ from rfl]
        dsimp only
        refine go ?_
        refine Cd.draw2 [[], [], [0, 1], [0, 1, 2], [0, 1, 2, 3], [], [], [5, 6], [5, 6, 7], [5, 6, 7, 8], [0, 1, 2, 3, 4, 5, 6, 7, 8, 9], [0, 1, 2, 3, 4, 5, 6, 7, 8, 9, 10], [0, 1, 2, 3, 4, 5, 6, 7, 8, 9, 10, 11], [0, 1, 2, 3, 4, 5, 6, 7, 8, 9, 10, 11], [0, 1, 2, 3, 4, 5, 6, 7, 8, 9, 10, 11, 12, 13], [0, 1, 2, 3, 4, 5, 6, 7, 8, 9, 10, 11, 12, 13, 14], [0, 1, 2, 3, 4, 5, 6, 7, 8, 9, 10, 11, 12, 13, 14, 15], [0, 1, 2, 3, 4, 5, 6, 7, 8, 9, 10, 11], [0, 1, 2, 3, 4, 5, 6, 7, 8, 9, 10, 11], [0, 1, 2, 3, 4, 5, 6, 7, 8, 9, 10, 11, 17, 18], [0, 1, 2, 3, 4, 5, 6, 7, 8, 9, 10, 11, 17, 18, 19], [0, 1, 2, 3, 4, 5, 6, 7, 8, 9, 10, 11, 17, 18, 19, 20], [0, 1, 2, 3, 4, 5, 6, 7, 8, 9, 10, 11, 12, 13, 14, 15, 16, 17, 18, 19, 20, 21], [0, 1, 2, 3, 4, 5, 6, 7, 8, 9, 10, 11, 12, 13, 14, 15, 16, 17, 18, 19, 20, 21, 22], [0, 1, 2, 3, 4, 5, 6, 7, 8, 9, 10, 11, 12, 13, 14, 15, 16, 17, 18, 19, 20, 21, 22, 23], [0, 1, 2, 3, 4, 5, 6, 7, 8, 9, 10, 11, 12, 13, 14, 15, 16, 17, 18, 19, 20, 21, 22, 23], [0, 1, 2, 3, 4, 5, 6, 7, 8, 9, 10, 11, 12, 13, 14, 15, 16, 17, 18, 19, 20, 21, 22, 23, 24, 25], [0, 1, 2, 3, 4, 5, 6, 7, 8, 9, 10, 11, 12, 13, 14, 15, 16, 17, 18, 19, 20, 21, 22, 23, 24, 25, 26], [0, 1, 2, 3, 4, 5, 6, 7, 8, 9, 10, 11, 12, 13, 14, 15, 16, 17, 18, 19, 20, 21, 22, 23, 24, 25, 26, 27]] [] [] (td := [(0, .fresh), (1, .fresh), (2, .fresh), (3, .fresh), (4, .fresh), (5, .fresh), (6, .fresh), (7, .fresh), (8, .fresh), (9, .fresh), (10, .fresh), (11, .fresh), (12, .fresh), (13, .fresh), (14, .fresh), (15, .fresh), (16, .fresh), (17, .fresh), (18, .fresh), (19, .fresh), (20, .fresh), (21, .fresh), (22, .fresh), (23, .fresh), (24, .fresh), (25, .fresh), (26, .fresh), (27, .fresh), (28, .fresh)]) mixed (by kernel_rfl) (by kernel_rfl) (by decide) (by decide) rfl (by kernel_rfl) ?_
        refine god2 ?_
        rw [decide_eq_false (show ¬ rd l m % 4 < rd l m2 % 4 by omega)]
        refine god2 ?_
        by_cases he : rd l m2 % 4 = rd l m % 4
        · rw [decide_eq_true he]
          refine god2 ?_
          refine go ?_
          rw [decide_eq_false (show ¬ m ≤ m2 by have := htw.2 he; omega)]
          refine go ?_
          exact Dn.weak (by repeat(first|exact Env.le_nil _|(refine Env.le_cons rfl ?_ ?_;first|rfl|(simp;done)|exact congrArg _ (by omega)|rotate_left))) (by exact ent_) (kk ())
        · rw [decide_eq_false he]
          refine god2 ?_
          refine go ?_
          exact Dn.weak (by repeat(first|exact Env.le_nil _|(refine Env.le_cons rfl ?_ ?_;first|rfl|(simp;done)|exact congrArg _ (by omega)|rotate_left))) (by exact ent_) (kk ())
      · refine go ?_
        exact Dn.weak (by repeat(first|exact Env.le_nil _|(refine Env.le_cons rfl ?_ ?_;first|rfl|(simp;done)|exact congrArg _ (by omega)|rotate_left))) (by exact ent_) (kk ())
    rintro -
    refine go ?_
    rcases hw with hw | hw
    · rw [hw]
      have uu := pu_C0 r k q0 q1 ev ov (aC l m) hw
      rw [uu] at us
      refine go ?_
      rw [show rd [(q0.length : Int), (q1.length : Int)] 0 = q0.length from rfl]
      refine Cd.condP rfl (fun hq => ?_) (fun hq => ?_)
      · have hq2 : ¬ q0.length < k := by omega
        rw [if_neg hq2, if_neg hq2] at us
        have hov : (puK r 7 (DC k [] []) L (i + 1)).over = ov ++ [aC l m] := by rw [us]
        rw [hov] at hs1
        have hro : rd (puK r 7 (DC k [] []) L l.length).over (ov.length : Int) = aC l m := by
          rw [hs1, rd_eq (by simp)]; simp
        have hol : ov.length < (puK r 7 (DC k [] []) L l.length).over.length := by rw [hs1]; simp
        refine Cd.conv (Tk.more (p := rel2_pers (fun _ _ => inferInstance) _ _) (A := rel2 tkC to (puK r 7 (DC k [] []) L l.length).over) (rel2_gotI (i := (ov.length : Int)) (by omega) (by omega)) (by exact tk_)) ?_
        rw [hro]
        first | (with_reducible refine Cd.g ?_; refine Cd.know (fun w hw => tkC_ok (Tk.sat (A := (tkC (rd to (ov.length : Int)) _)) (by exact tk_) hw)) fun hta => ?_) | (with_reducible refine Ol.g ?_; refine Ol.know (fun w hw => tkC_ok (Tk.sat (A := (tkC (rd to (ov.length : Int)) _)) (by exact tk_) hw)) fun hta => ?_) | (with_reducible refine Dn.g ?_; refine Dn.know (fun w hw => tkC_ok (Tk.sat (A := (tkC (rd to (ov.length : Int)) _)) (by exact tk_) hw)) fun hta => ?_)
        have eid : (rd to (ov.length : Int)).f_Id = m := congrArg AT.id hta.1
        refine go ?_
        rw [decide_eq_false (show ¬ (to.length : Int) ≤ (ov.length : Int) by omega)]
        refine go ?_
        rw [eid]
        refine go ?_
        rw [show decide (m ≠ m) = false from by simp]
        refine go ?_
        have hok : COk k (i + 1) (puK r 7 (DC k [] []) L (i + 1)) q0 q1 := by
          rw [us]
          refine ⟨rfl, by simp; omega, by simp; omega, u4⟩
        refine Dn.round (i + 1, q0, q1) ⟨by dsimp only; omega, hok⟩ (by dsimp only; omega) ?_ ?_
        · rw [us]; dsimp only; rw [show ((ov ++ [aC l m]).length : Int) = ov.length + 1 from by simp]; repeat(first|exact Env.le_nil _|(refine Env.le_cons rfl ?_ ?_;first|rfl|(simp;done)|exact congrArg _ (by omega)|rotate_left))
        · exact ent_
      · have hq2 : q0.length < k := by omega
        rw [if_pos hq2, if_pos hq2] at us
        repeat(first|(with_reducible refine Ol.g ?_;first|(refine Ol.q rfl rfl rfl ?_ ?_;(first|exact True.intro|omega|(unfold in64;omega)|(simp only [List.length_append,List.length_cons,List.length_nil,List.length_set];omega)))|with_reducible refine Ol.nil ?_|refine Ol.skip rfl rfl ?_|refine Ol.eff rfl rfl rfl (Eff.x (Qx.build rfl) ?_)|refine Ol.skip0 rfl ?_|(refine Ol.ga ?_;dsimp only [List.append])|refine Ol.eff rfl rfl rfl (Eff.alloc fun _ => ?_)|refine Ol.eff rfl rfl rfl (Eff.box fun _ => ?_)|refine Ol.eff0 rfl rfl (Eff.store rfl rfl ?_)|refine Ol.eff rfl rfl rfl (Eff.bslice rfl rfl fun _ => ?_)|(refine Ol.eff0 rfl rfl (Eff.storeE rfl ?_ ?_);(first|exact True.intro|omega|(unfold in64;omega)|(simp only [List.length_append,List.length_cons,List.length_nil,List.length_set];omega)))|(refine Ol.eff rfl rfl rfl (Eff.append1 rfl ?_ fun _ => ?_);(first|exact True.intro|omega|(unfold in64;omega)|(simp only [List.length_append,List.length_cons,List.length_nil,List.length_set];omega))))|(with_reducible refine Cd.g ?_;first|with_reducible refine Cd.seq ?_|with_reducible refine Cd.region ?_|with_reducible refine Cd.skip ?_|with_reducible refine Cd.ret ?_|with_reducible refine Cd.block ?_|with_reducible refine Cd.exit ?_|(with_reducible refine Cd.condg ?_;first|refine Cd.cond_t rfl ?_|refine Cd.cond_f rfl ?_))|(with_reducible refine Dn.g ?_;first|with_reducible refine Dn.then ?_|with_reducible refine Dn.ret_then ?_|with_reducible refine Dn.ret_block ?_|with_reducible refine Dn.block ?_|with_reducible refine Dn.exit_then ?_|with_reducible refine Dn.exit_at ?_|with_reducible refine Dn.exit_by rfl ?_))
        rw [show rd [(q0.length : Int), (q1.length : Int)] 0 = q0.length from rfl]
        repeat(first|(with_reducible refine Ol.g ?_;first|(refine Ol.q rfl rfl rfl ?_ ?_;(first|exact True.intro|omega|(unfold in64;omega)|(simp only [List.length_append,List.length_cons,List.length_nil,List.length_set];omega)))|with_reducible refine Ol.nil ?_|refine Ol.skip rfl rfl ?_|refine Ol.eff rfl rfl rfl (Eff.x (Qx.build rfl) ?_)|refine Ol.skip0 rfl ?_|(refine Ol.ga ?_;dsimp only [List.append])|refine Ol.eff rfl rfl rfl (Eff.alloc fun _ => ?_)|refine Ol.eff rfl rfl rfl (Eff.box fun _ => ?_)|refine Ol.eff0 rfl rfl (Eff.store rfl rfl ?_)|refine Ol.eff rfl rfl rfl (Eff.bslice rfl rfl fun _ => ?_)|(refine Ol.eff0 rfl rfl (Eff.storeE rfl ?_ ?_);(first|exact True.intro|omega|(unfold in64;omega)|(simp only [List.length_append,List.length_cons,List.length_nil,List.length_set];omega)))|(refine Ol.eff rfl rfl rfl (Eff.append1 rfl ?_ fun _ => ?_);(first|exact True.intro|omega|(unfold in64;omega)|(simp only [List.length_append,List.length_cons,List.length_nil,List.length_set];omega))))|(with_reducible refine Cd.g ?_;first|with_reducible refine Cd.seq ?_|with_reducible refine Cd.region ?_|with_reducible refine Cd.skip ?_|with_reducible refine Cd.ret ?_|with_reducible refine Cd.block ?_|with_reducible refine Cd.exit ?_|(with_reducible refine Cd.condg ?_;first|refine Cd.cond_t rfl ?_|refine Cd.cond_f rfl ?_))|(with_reducible refine Dn.g ?_;first|with_reducible refine Dn.then ?_|with_reducible refine Dn.ret_then ?_|with_reducible refine Dn.ret_block ?_|with_reducible refine Dn.block ?_|with_reducible refine Dn.exit_then ?_|with_reducible refine Dn.exit_at ?_|with_reducible refine Dn.exit_by rfl ?_))
        have hok : COk k (i + 1) (puK r 7 (DC k [] []) L (i + 1)) (q0 ++ [aC l m]) (q1) := by
          rw [us]
          refine ⟨rfl, by simp; omega, by simp; omega, by simp; omega⟩
        refine Dn.round (i + 1, q0 ++ [aC l m], q1) ⟨by dsimp only; omega, hok⟩ (by dsimp only; omega) ?_ ?_
        · rw [us]; repeat(first|exact Env.le_nil _|(refine Env.le_cons rfl ?_ ?_;first|rfl|(simp;done)|exact congrArg _ (by omega)|rotate_left))
        · dsimp only
          rw [show List.set [(q0.length : Int), (q1.length : Int)] (Int.toNat 0) ((q0.length : Int) + 1) = [(q0.length : Int) + 1, (q1.length : Int)] from rfl, show (((q0 ++ [aC l m]).length : Nat) : Int) = (q0.length : Int) + 1 from by simp]
          exact ent_
    · rw [hw]
      have uu := pu_C1 r k q0 q1 ev ov (aC l m) hw
      rw [uu] at us
      refine go ?_
      rw [show rd [(q0.length : Int), (q1.length : Int)] 1 = q1.length from rfl]
      refine Cd.condP rfl (fun hq => ?_) (fun hq => ?_)
      · have hq2 : ¬ q1.length < k := by omega
        rw [if_neg hq2, if_neg hq2] at us
        have hov : (puK r 7 (DC k [] []) L (i + 1)).over = ov ++ [aC l m] := by rw [us]
        rw [hov] at hs1
        have hro : rd (puK r 7 (DC k [] []) L l.length).over (ov.length : Int) = aC l m := by
          rw [hs1, rd_eq (by simp)]; simp
        have hol : ov.length < (puK r 7 (DC k [] []) L l.length).over.length := by rw [hs1]; simp
        refine Cd.conv (Tk.more (p := rel2_pers (fun _ _ => inferInstance) _ _) (A := rel2 tkC to (puK r 7 (DC k [] []) L l.length).over) (rel2_gotI (i := (ov.length : Int)) (by omega) (by omega)) (by exact tk_)) ?_
        rw [hro]
        first | (with_reducible refine Cd.g ?_; refine Cd.know (fun w hw => tkC_ok (Tk.sat (A := (tkC (rd to (ov.length : Int)) _)) (by exact tk_) hw)) fun hta => ?_) | (with_reducible refine Ol.g ?_; refine Ol.know (fun w hw => tkC_ok (Tk.sat (A := (tkC (rd to (ov.length : Int)) _)) (by exact tk_) hw)) fun hta => ?_) | (with_reducible refine Dn.g ?_; refine Dn.know (fun w hw => tkC_ok (Tk.sat (A := (tkC (rd to (ov.length : Int)) _)) (by exact tk_) hw)) fun hta => ?_)
        have eid : (rd to (ov.length : Int)).f_Id = m := congrArg AT.id hta.1
        refine go ?_
        rw [decide_eq_false (show ¬ (to.length : Int) ≤ (ov.length : Int) by omega)]
        refine go ?_
        rw [eid]
        refine go ?_
        rw [show decide (m ≠ m) = false from by simp]
        refine go ?_
        have hok : COk k (i + 1) (puK r 7 (DC k [] []) L (i + 1)) q0 q1 := by
          rw [us]
          refine ⟨rfl, by simp; omega, by simp; omega, u4⟩
        refine Dn.round (i + 1, q0, q1) ⟨by dsimp only; omega, hok⟩ (by dsimp only; omega) ?_ ?_
        · rw [us]; dsimp only; rw [show ((ov ++ [aC l m]).length : Int) = ov.length + 1 from by simp]; repeat(first|exact Env.le_nil _|(refine Env.le_cons rfl ?_ ?_;first|rfl|(simp;done)|exact congrArg _ (by omega)|rotate_left))
        · exact ent_
      · have hq2 : q1.length < k := by omega
        rw [if_pos hq2, if_pos hq2] at us
        repeat(first|(with_reducible refine Ol.g ?_;first|(refine Ol.q rfl rfl rfl ?_ ?_;(first|exact True.intro|omega|(unfold in64;omega)|(simp only [List.length_append,List.length_cons,List.length_nil,List.length_set];omega)))|with_reducible refine Ol.nil ?_|refine Ol.skip rfl rfl ?_|refine Ol.eff rfl rfl rfl (Eff.x (Qx.build rfl) ?_)|refine Ol.skip0 rfl ?_|(refine Ol.ga ?_;dsimp only [List.append])|refine Ol.eff rfl rfl rfl (Eff.alloc fun _ => ?_)|refine Ol.eff rfl rfl rfl (Eff.box fun _ => ?_)|refine Ol.eff0 rfl rfl (Eff.store rfl rfl ?_)|refine Ol.eff rfl rfl rfl (Eff.bslice rfl rfl fun _ => ?_)|(refine Ol.eff0 rfl rfl (Eff.storeE rfl ?_ ?_);(first|exact True.intro|omega|(unfold in64;omega)|(simp only [List.length_append,List.length_cons,List.length_nil,List.length_set];omega)))|(refine Ol.eff rfl rfl rfl (Eff.append1 rfl ?_ fun _ => ?_);(first|exact True.intro|omega|(unfold in64;omega)|(simp only [List.length_append,List.length_cons,List.length_nil,List.length_set];omega))))|(with_reducible refine Cd.g ?_;first|with_reducible refine Cd.seq ?_|with_reducible refine Cd.region ?_|with_reducible refine Cd.skip ?_|with_reducible refine Cd.ret ?_|with_reducible refine Cd.block ?_|with_reducible refine Cd.exit ?_|(with_reducible refine Cd.condg ?_;first|refine Cd.cond_t rfl ?_|refine Cd.cond_f rfl ?_))|(with_reducible refine Dn.g ?_;first|with_reducible refine Dn.then ?_|with_reducible refine Dn.ret_then ?_|with_reducible refine Dn.ret_block ?_|with_reducible refine Dn.block ?_|with_reducible refine Dn.exit_then ?_|with_reducible refine Dn.exit_at ?_|with_reducible refine Dn.exit_by rfl ?_))
        rw [show rd [(q0.length : Int), (q1.length : Int)] 1 = q1.length from rfl]
        repeat(first|(with_reducible refine Ol.g ?_;first|(refine Ol.q rfl rfl rfl ?_ ?_;(first|exact True.intro|omega|(unfold in64;omega)|(simp only [List.length_append,List.length_cons,List.length_nil,List.length_set];omega)))|with_reducible refine Ol.nil ?_|refine Ol.skip rfl rfl ?_|refine Ol.eff rfl rfl rfl (Eff.x (Qx.build rfl) ?_)|refine Ol.skip0 rfl ?_|(refine Ol.ga ?_;dsimp only [List.append])|refine Ol.eff rfl rfl rfl (Eff.alloc fun _ => ?_)|refine Ol.eff rfl rfl rfl (Eff.box fun _ => ?_)|refine Ol.eff0 rfl rfl (Eff.store rfl rfl ?_)|refine Ol.eff rfl rfl rfl (Eff.bslice rfl rfl fun _ => ?_)|(refine Ol.eff0 rfl rfl (Eff.storeE rfl ?_ ?_);(first|exact True.intro|omega|(unfold in64;omega)|(simp only [List.length_append,List.length_cons,List.length_nil,List.length_set];omega)))|(refine Ol.eff rfl rfl rfl (Eff.append1 rfl ?_ fun _ => ?_);(first|exact True.intro|omega|(unfold in64;omega)|(simp only [List.length_append,List.length_cons,List.length_nil,List.length_set];omega))))|(with_reducible refine Cd.g ?_;first|with_reducible refine Cd.seq ?_|with_reducible refine Cd.region ?_|with_reducible refine Cd.skip ?_|with_reducible refine Cd.ret ?_|with_reducible refine Cd.block ?_|with_reducible refine Cd.exit ?_|(with_reducible refine Cd.condg ?_;first|refine Cd.cond_t rfl ?_|refine Cd.cond_f rfl ?_))|(with_reducible refine Dn.g ?_;first|with_reducible refine Dn.then ?_|with_reducible refine Dn.ret_then ?_|with_reducible refine Dn.ret_block ?_|with_reducible refine Dn.block ?_|with_reducible refine Dn.exit_then ?_|with_reducible refine Dn.exit_at ?_|with_reducible refine Dn.exit_by rfl ?_))
        have hok : COk k (i + 1) (puK r 7 (DC k [] []) L (i + 1)) (q0) (q1 ++ [aC l m]) := by
          rw [us]
          refine ⟨rfl, by simp; omega, by simp; omega, by simp; omega⟩
        refine Dn.round (i + 1, q0, q1 ++ [aC l m]) ⟨by dsimp only; omega, hok⟩ (by dsimp only; omega) ?_ ?_
        · rw [us]; repeat(first|exact Env.le_nil _|(refine Env.le_cons rfl ?_ ?_;first|rfl|(simp;done)|exact congrArg _ (by omega)|rotate_left))
        · dsimp only
          rw [show List.set [(q0.length : Int), (q1.length : Int)] (Int.toNat 1) ((q1.length : Int) + 1) = [(q0.length : Int), (q1.length : Int) + 1] from rfl, show (((q1 ++ [aC l m]).length : Nat) : Int) = (q1.length : Int) + 1 from by simp]
          exact ent_
  · have hil : i = l.length := by omega
    subst hil
    have hq0 : q0 = Q0 := by have := u1.symm.trans O1; injection this with _ _ _ h _; injection h with h1 _; injection h1
    have hq1 : q1 = Q1 := by have := u1.symm.trans O1; injection this with _ _ _ h _; injection h with _ h1; injection h1 with h2 _; injection h2
    subst hq0; subst hq1
    refine go ?_
    have r0 : rd [(q0.length : Int), (q1.length : Int)] 0 = q0.length := rfl
    have r1 : rd [(q0.length : Int), (q1.length : Int)] 1 = q1.length := rfl
    refine Cd.drawL (l := [_, _, _, _, _, _, _, _, _, _, _, _, _, _, _, _, _, _, _, _, _, _]) (z := _) [[], [], [1], [0, 1, 2], [0, 1, 2, 3], [0, 1, 2, 3, 4], [0, 1, 2, 3, 4, 5], [0, 1, 2, 3, 4], [0, 1, 2, 3, 4], [0, 1, 2, 3, 4, 8], [0, 1, 2, 3, 4, 7, 8, 9], [0, 1, 2, 3, 4, 5, 6, 7, 8, 9, 10], [0, 1, 2, 3, 4, 5, 6, 7, 8, 9, 10, 11], [0, 1, 2, 3, 4, 5, 6, 7, 8, 9, 10, 11, 12], [0, 1, 2, 3, 4, 5, 6, 7, 8, 9, 10, 11, 12, 13], [0, 1, 2, 3, 4, 5, 6, 7, 8, 9, 10, 11, 12, 13, 14], [0, 1, 2, 3, 4, 5, 6, 7, 8, 9, 10, 11, 12, 13], [0, 1, 2, 3, 4, 5, 6, 7, 8, 9, 10, 11, 12, 13], [0, 1, 2, 3, 4, 5, 6, 7, 8, 9, 10, 11, 12, 13, 17], [0, 1, 2, 3, 4, 5, 6, 7, 8, 9, 10, 11, 12, 13, 16, 17, 18], [0, 1, 2, 3, 4, 5, 6, 7, 8, 9, 10, 11, 12, 13, 14, 15, 16, 17, 18, 19], [0, 1, 2, 3, 4, 5, 6, 7, 8, 9, 10, 11, 12, 13, 14, 15, 16, 17, 18, 19, 20]] [6, 15] [] (td := [(0, .fresh), (1, .fresh), (2, .fresh), (3, .fresh), (4, .fresh), (5, .fresh), (7, .fresh), (8, .fresh), (9, .fresh), (10, .fresh)]) rfl mixed (by kernel_rfl) (by kernel_rfl) (by kernel_rfl) (by decide) (by decide) rfl (by kernel_rfl) ?_
    refine god2 ?_
    rw [hto, decide_eq_true (show ((puK r 7 (DC k [] []) L l.length).over.length : Int) = (puK r 7 (DC k [] []) L l.length).over.length from rfl)]
    refine god2 ?_
    refine Sg2.one (td := [(7, .old), (8, .old), (9, .old), (10, .old), (11, .fresh), (12, .fresh), (13, .fresh), (14, .fresh), (16, .fresh), (17, .fresh), (18, .fresh), (19, .fresh)]) rfl (by kernel_rfl) fun F6_ => ?_
    dsimp only [List.cons_append, List.nil_append]
    refine SpOp.eff rfl rfl rfl rfl rfl (Eff.call (R := ?_) (deck_Room p x (DC k q0 q1) 0) rfl ?_ ?_)
    rotate_left
    · exact tkl_
    rintro _ -
    dsimp only [List.cons_append, List.nil_append]
    refine Sn.ok ?_
    refine god2 ?_
    rw [decide_eq_true (show (DC k q0 q1).room 0 = (k : Int) - rd [(q0.length : Int), (q1.length : Int)] 0 from rfl)]
    refine god2 ?_
    refine Sg2.one (td := [(16, .old), (17, .old), (18, .old), (19, .old), (20, .fresh), (21, .fresh)]) rfl (by kernel_rfl) fun F15_ => ?_
    dsimp only [List.cons_append, List.nil_append]
    refine SpOp.eff rfl rfl rfl rfl rfl (Eff.call (R := ?_) (deck_Room p x (DC k q0 q1) 1) rfl ?_ ?_)
    rotate_left
    · exact tkl_
    rintro _ -
    dsimp only [List.cons_append, List.nil_append]
    refine Sn.ok ?_
    refine god2 ?_
    refine go ?_
    refine Dn.ret1 rfl rfl fun w hs => ⟨(), ?_, by trivial, by first | exact hs | (refine hs.conv ?_; exact ent_)⟩
    rw [show (DC k q0 q1).room 1 = (k : Int) - rd [(q0.length : Int), (q1.length : Int)] 1 from rfl]
    simp
end Go.Proofs.Ytihmbmoeedojoaa

