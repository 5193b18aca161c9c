/- Contracts of functions of the program, proved in a small separation logic. Conditions: those that each theorem states. -/
import Derived.Test.YtihmbmoeedojoaaDeck10
namespace Go.Proofs.Ytihmbmoeedojoaa
open Go Go.Sl
set_option maxHeartbeats 4000000
set_option maxRecDepth 100000
set_option linter.unusedVariables false
def bitW (kept i : Int) : Bool := decide (andI .u16 (shrI .u16 kept i) 1 = 1)
theorem bit01 (a : Int) : andI .u16 a 1 = 0 ∨ andI .u16 a 1 = 1 := by
  have := andI_nat (k := .u16) (a := a) (b := 1) (by omega) (fun x h0 h1 => IntWalk.u16_in x (by omega)) (by decide)
  omega
abbrev aW (l : List Int) (i : Int) : AT := ⟨i, 0, 0, [], 0, 0, 0, 0, 0, 0, 0, rd l i % 2⟩
def wsW (l : List Int) (k : Nat) : List WT := (ints k).map fun i => ⟨aW l i, i⟩
def fuW (kept : Int) (k : Nat) : List S_api_Future := (ints k).map fun i => if bitW kept i then ⟨0, 2, 0, 9⟩ else ⟨0, 0, 0, 0⟩
abbrev FW (kept : Int) (k : Nat) : FS := ⟨[fuW kept k], [12]⟩
def wkW (kept : Int) (k : Nat) : List Int := (ints k).filter (bitW kept)
def stW (kept : Int) (k : Nat) : List Int := (ints k).filter fun i => !bitW kept i
theorem wsW_len (l : List Int) (k : Nat) : (wsW l k).length = k := by simp [wsW, ints_length]
theorem wsW_succ (l : List Int) (k : Nat) : wsW l (k + 1) = wsW l k ++ [⟨aW l k, k⟩] := by simp [wsW, ints_succ]
theorem fuW_len (kept : Int) (k : Nat) : (fuW kept k).length = k := by simp [fuW, ints_length]
theorem fuW_succ (kept : Int) (k : Nat) : fuW kept (k + 1) = fuW kept k ++ [if bitW kept k then ⟨0, 2, 0, 9⟩ else ⟨0, 0, 0, 0⟩] := by simp [fuW, ints_succ]
theorem rd_ints {T : Type} [Dfl T] (f : Int → T) (n : Nat) {i : Int} (h0 : 0 ≤ i) (h1 : i < n) : rd ((ints n).map f) i = f i := by
  rw [rd_eq (by simp [ints_length]; omega)]
  simp [ints]
  congr 1; omega
theorem wkW_succ (kept : Int) (k : Nat) : wkW kept (k + 1) = if bitW kept k then wkW kept k ++ [(k : Int)] else wkW kept k := by
  unfold wkW; rw [ints_succ, List.filter_append]; cases h : bitW kept k <;> simp [h]
theorem stW_succ (kept : Int) (k : Nat) : stW kept (k + 1) = if bitW kept k then stW kept k else stW kept k ++ [(k : Int)] := by
  unfold stW; rw [ints_succ, List.filter_append]; cases h : bitW kept k <;> simp [h]
theorem cntW (kept : Int) : ∀ k, (wkW kept k).length + (stW kept k).length = k
  | 0 => rfl
  | k + 1 => by
    have := cntW kept k
    rw [wkW_succ, stW_succ]; split <;> simp <;> omega
theorem done_W (kept : Int) (n : Nat) {i : Int} (h0 : 0 ≤ i) (h1 : i < n) (hn : n ≤ 12) : (FW kept n).doneB i = bitW kept i := by
  have e0 : i / 65536 = 0 := by omega
  have e1 : i % 65536 = i := by omega
  have hb : (FW kept n).inB i = true := decide_eq_true ⟨h0, by rw [e0]; show (0 : Int) < 1; omega, by rw [e0, e1]; show i < ((fuW kept n).length : Int); rw [fuW_len]; exact h1⟩
  unfold FS.doneB
  rw [hb]
  have e : (FW kept n).get i = if bitW kept i then ⟨0, 2, 0, 9⟩ else ⟨0, 0, 0, 0⟩ := by
    unfold FS.get; rw [e0, e1]; exact rd_ints _ n h0 h1
  rw [e]
  cases bitW kept i <;> rfl
theorem lk_W (kept : Int) (l : List Int) (n : Nat) (hn : n ≤ 12) : ∀ k, k ≤ n → lkK (FW kept n) 100 (wsW l n) k = ⟨(wkW kept k).map (aW l), [], (stW kept k).map fun i => ⟨aW l i, i⟩, 100 - k⟩
  | 0, _ => rfl
  | k + 1, h => by
    rw [lkK_succ _ _ _ (by rw [wsW_len]; omega), lk_W kept l n hn k (by omega)]
    rw [show rd (wsW l n) (k : Int) = ⟨aW l k, k⟩ from rd_ints _ n (by omega) (by omega)]
    unfold lkStep
    dsimp only
    rw [done_W kept n (by omega) (by omega) hn, if_neg (by omega), wkW_succ, stW_succ]
    cases hb : bitW kept k
    · rw [if_neg (by simp), if_neg (by simp), if_neg (by simp)]; simp; omega
    · rw [if_pos rfl, if_pos rfl, if_pos rfl]; simp; omega
abbrev DW (k : Nat) (fu : Int) (q0 q1 : List AT) : DK := ⟨1, false, fu, [⟨k, q0, zA, false⟩, ⟨k, q1, zA, false⟩], ⟨[], 1⟩⟩
theorem pu_W0 (k : Nat) (fu : Int) (q0 q1 : List AT) (ev : List S_api_Event) (ov : List AT) (a : AT) (h : a.worker = 0) :
    puStep 6 5 ⟨DW k fu q0 q1, ev, ov⟩ a = ⟨DW k fu (if q0.length < k then q0 ++ [a] else q0) q1, ev ++ [evOf 1 6 5 a], if q0.length < k then ov else ov ++ [a]⟩ := by
  unfold puStep
  dsimp only
  rw [show (DW k fu q0 q1).home a.worker = 0 from by rw [h]; rfl]
  have e : (DW k fu q0 q1).pushB 0 = decide (q0.length < k) := rfl
  rw [e]
  by_cases hq : q0.length < k
  · rw [if_pos hq, if_pos hq, decide_eq_true hq]
    show PU.mk ((DW k fu q0 q1).setH 0 ((⟨k, q0, zA, false⟩ : Hand).push a)) _ _ = _
    unfold Hand.push; dsimp only; rw [if_pos hq]; rfl
  · rw [if_neg hq, if_neg hq, decide_eq_false hq]
    show PU.mk ((DW k fu q0 q1).setH 0 ((⟨k, q0, zA, false⟩ : Hand).push a)) _ _ = _
    unfold Hand.push; dsimp only; rw [if_neg hq]; rfl
theorem pu_W1 (k : Nat) (fu : Int) (q0 q1 : List AT) (ev : List S_api_Event) (ov : List AT) (a : AT) (h : a.worker = 1) :
    puStep 6 5 ⟨DW k fu q0 q1, ev, ov⟩ a = ⟨DW k fu q0 (if q1.length < k then q1 ++ [a] else q1), ev ++ [evOf 1 6 5 a], if q1.length < k then ov else ov ++ [a]⟩ := by
  unfold puStep
  dsimp only
  rw [show (DW k fu q0 q1).home a.worker = 1 from by rw [h]; rfl]
  have e : (DW k fu q0 q1).pushB 1 = decide (q1.length < k) := rfl
  rw [e]
  by_cases hq : q1.length < k
  · rw [if_pos hq, if_pos hq, decide_eq_true hq]
    show PU.mk ((DW k fu q0 q1).setH 1 ((⟨k, q1, zA, false⟩ : Hand).push a)) _ _ = _
    unfold Hand.push; dsimp only; rw [if_pos hq]; rfl
  · rw [if_neg hq, if_neg hq, decide_eq_false hq]
    show PU.mk ((DW k fu q0 q1).setH 1 ((⟨k, q1, zA, false⟩ : Hand).push a)) _ _ = _
    unfold Hand.push; dsimp only; rw [if_neg hq]; rfl
/-- What stands when the first tasks have been looked at. -/
def UW (kept : Int) (l : List Int) (k : Nat) (fu : Int) (j : Nat) : PU := ((wkW kept j).map (aW l)).foldl (puStep 6 5) ⟨DW k fu [] [], [], []⟩
theorem UW_succ (kept : Int) (l : List Int) (k : Nat) (fu : Int) (j : Nat) : UW kept l k fu (j + 1) = if bitW kept j then puStep 6 5 (UW kept l k fu j) (aW l j) else UW kept l k fu j := by
  unfold UW; rw [wkW_succ]; split
  · rw [List.map_append, List.foldl_append]; rfl
  · rfl
structure UOk (kept : Int) (k : Nat) (fu : Int) (j : Nat) (u : PU) (q0 q1 : List AT) : Prop where
  d : u.d = DW k fu q0 q1
  e : u.ev.length = (wkW kept j).length
  n : q0.length + q1.length + u.over.length = (wkW kept j).length
theorem U_ok (kept : Int) (l : List Int) (k : Nat) (fu : Int) : ∀ j, ∃ q0 q1, UOk kept k fu j (UW kept l k fu j) q0 q1
  | 0 => ⟨[], [], rfl, rfl, rfl⟩
  | j + 1 => by
    obtain ⟨q0, q1, h1, h2, h3⟩ := U_ok kept l k fu j
    rw [UW_succ]
    by_cases hb : bitW kept j = true
    · rw [if_pos hb]
      generalize UW kept l k fu j = u at h1 h2 h3 ⊢
      obtain ⟨d, ev, ov⟩ := u
      dsimp only at h1 h2 h3
      subst h1
      have hw : rd l (j : Int) % 2 = 0 ∨ rd l (j : Int) % 2 = 1 := by omega
      have hk : (wkW kept (j + 1)).length = (wkW kept j).length + 1 := by rw [wkW_succ, if_pos hb]; simp
      rcases hw with hw | hw
      · rw [pu_W0 k fu q0 q1 ev ov (aW l j) hw]
        exact ⟨_, _, rfl, by simp; omega, by rw [hk]; dsimp only; split <;> simp <;> omega⟩
      · rw [pu_W1 k fu q0 q1 ev ov (aW l j) hw]
        exact ⟨_, _, rfl, by simp; omega, by rw [hk]; dsimp only; split <;> simp <;> omega⟩
    · rw [if_neg hb]
      have hk : wkW kept (j + 1) = wkW kept j := by rw [wkW_succ, if_neg hb]
      exact ⟨q0, q1, h1, by rw [hk]; exact h2, by rw [hk]; exact h3⟩
theorem UW_pre (kept : Int) (l : List Int) (k : Nat) (fu : Int) (i : Nat) : ∀ j, ∃ r s, (UW kept l k fu (i + j)).ev = (UW kept l k fu i).ev ++ r ∧ (UW kept l k fu (i + j)).over = (UW kept l k fu i).over ++ s
  | 0 => ⟨[], [], by simp, by simp⟩
  | j + 1 => by
    obtain ⟨r, s, h1, h2⟩ := UW_pre kept l k fu i j
    rw [show i + (j + 1) = (i + j) + 1 from by omega, UW_succ]
    split
    · generalize aW l ((i + j : Nat) : Int) = a
      generalize UW kept l k fu (i + j) = u at h1 h2 ⊢
      unfold puStep
      dsimp only
      rw [h1, h2]
      cases u.d.pushB (u.d.home a.worker)
      · exact ⟨r ++ [evOf u.d.label 6 5 a], s ++ [a], by simp, by simp⟩
      · exact ⟨r ++ [evOf u.d.label 6 5 a], s, by simp, rfl⟩
    · exact ⟨r, s, h1, h2⟩
theorem wake_W (kept : Int) (l : List Int) (k n : Nat) (hn : n ≤ 12) : (DW k 100 [] []).wake (wsW l n) (FW kept n) 6 = ⟨(UW kept l k (100 - n) n).d, (stW kept n).map (fun i => ⟨aW l i, i⟩), (UW kept l k (100 - n) n).ev, (UW kept l k (100 - n) n).over, []⟩ := by
  unfold DK.wake
  dsimp only
  rw [wsW_len, lk_W kept l n hn n (Nat.le_refl _)]
  dsimp only
  unfold puK UW
  rw [List.take_of_length_le (Nat.le_refl _)]
  rfl
-- FN confidant/confidantlaw24.DeckWakes
theorem law_DeckWakes (v : Value) (l : List Int) (kept room : Int) (hl : ∀ x, x ∈ l → 0 ≤ x ∧ x ≤ 255) (hm : l.length ≤ 9223372036854775807) (hk : 0 ≤ kept ∧ kept ≤ 65535) (hr : 0 ≤ room ∧ room ≤ 255) :
    Sp Try.prog 8 [v, .int .u16 kept, .int .u8 room] [rsl (eInt .u8) v l] (fun _ : Unit => True) (fun _ => .bool true) (fun _ => []) := by
  obtain ⟨k, hk2⟩ : ∃ k : Nat, (k : Int) = room % 8 + 1 := ⟨(room % 8 + 1).toNat, by omega⟩
  have hr2 : ∀ i : Int, 0 ≤ i → i < l.length → 0 ≤ rd l i ∧ rd l i ≤ 255 := fun i h0 h1 => hl _ (rd_mem h0 h1)
  refine Sp.intro (n := 165) Try.func8 rfl rfl fun w0 R => ?_
  dsimp only [List.cons_append, List.nil_append, envOf]
  repeat(first|(with_reducible refine Ol.g ?_;first|(refine Ol.q rfl rfl rfl ?_ ?_;(first|exact True.intro|omega|(unfold in64;omega)|(simp only [List.length_append,List.length_cons,List.length_nil,List.length_set];omega)))|with_reducible refine Ol.nil ?_|refine Ol.skip rfl rfl ?_|refine Ol.eff rfl rfl rfl (Eff.x (Qx.build rfl) ?_)|refine Ol.skip0 rfl ?_|(refine Ol.ga ?_;dsimp only [List.append])|refine Ol.eff rfl rfl rfl (Eff.alloc fun _ => ?_)|refine Ol.eff rfl rfl rfl (Eff.box fun _ => ?_)|refine Ol.eff0 rfl rfl (Eff.store rfl rfl ?_)|refine Ol.eff rfl rfl rfl (Eff.bslice rfl rfl fun _ => ?_)|(refine Ol.eff0 rfl rfl (Eff.storeE rfl ?_ ?_);(first|exact True.intro|omega|(unfold in64;omega)|(simp only [List.length_append,List.length_cons,List.length_nil,List.length_set];omega)))|(refine Ol.eff rfl rfl rfl (Eff.append1 rfl ?_ fun _ => ?_);(first|exact True.intro|omega|(unfold in64;omega)|(simp only [List.length_append,List.length_cons,List.length_nil,List.length_set];omega))))|(with_reducible refine Cd.g ?_;first|with_reducible refine Cd.seq ?_|with_reducible refine Cd.region ?_|with_reducible refine Cd.skip ?_|with_reducible refine Cd.ret ?_|with_reducible refine Cd.block ?_|with_reducible refine Cd.exit ?_|(with_reducible refine Cd.condg ?_;first|refine Cd.cond_t rfl ?_|refine Cd.cond_f rfl ?_))|(with_reducible refine Dn.g ?_;first|with_reducible refine Dn.then ?_|with_reducible refine Dn.ret_then ?_|with_reducible refine Dn.ret_block ?_|with_reducible refine Dn.block ?_|with_reducible refine Dn.exit_then ?_|with_reducible refine Dn.exit_at ?_|with_reducible refine Dn.exit_by rfl ?_))
  with_reducible refine Ol.g ?_
  refine Ol.eff rfl rfl rfl (Eff.call (R := ?_) known24 rfl ?_ ?_)
  rotate_left
  · exact tkl_
  rintro _ -
  dsimp only [List.cons_append, List.nil_append]
  repeat(first|(with_reducible refine Ol.g ?_;first|(refine Ol.q rfl rfl rfl ?_ ?_;(first|exact True.intro|omega|(unfold in64;omega)|(simp only [List.length_append,List.length_cons,List.length_nil,List.length_set];omega)))|with_reducible refine Ol.nil ?_|refine Ol.skip rfl rfl ?_|refine Ol.eff rfl rfl rfl (Eff.x (Qx.build rfl) ?_)|refine Ol.skip0 rfl ?_|(refine Ol.ga ?_;dsimp only [List.append])|refine Ol.eff rfl rfl rfl (Eff.alloc fun _ => ?_)|refine Ol.eff rfl rfl rfl (Eff.box fun _ => ?_)|refine Ol.eff0 rfl rfl (Eff.store rfl rfl ?_)|refine Ol.eff rfl rfl rfl (Eff.bslice rfl rfl fun _ => ?_)|(refine Ol.eff0 rfl rfl (Eff.storeE rfl ?_ ?_);(first|exact True.intro|omega|(unfold in64;omega)|(simp only [List.length_append,List.length_cons,List.length_nil,List.length_set];omega)))|(refine Ol.eff rfl rfl rfl (Eff.append1 rfl ?_ fun _ => ?_);(first|exact True.intro|omega|(unfold in64;omega)|(simp only [List.length_append,List.length_cons,List.length_nil,List.length_set];omega))))|(with_reducible refine Cd.g ?_;first|with_reducible refine Cd.seq ?_|with_reducible refine Cd.region ?_|with_reducible refine Cd.skip ?_|with_reducible refine Cd.ret ?_|with_reducible refine Cd.block ?_|with_reducible refine Cd.exit ?_|(with_reducible refine Cd.condg ?_;first|refine Cd.cond_t rfl ?_|refine Cd.cond_f rfl ?_))|(with_reducible refine Dn.g ?_;first|with_reducible refine Dn.then ?_|with_reducible refine Dn.ret_then ?_|with_reducible refine Dn.ret_block ?_|with_reducible refine Dn.block ?_|with_reducible refine Dn.exit_then ?_|with_reducible refine Dn.exit_at ?_|with_reducible refine Dn.exit_by rfl ?_))
  refine Cd.condP rfl (fun h => ?_) (fun h12 => ?_)
  · refine go ?_
    refine Dn.ret1 rfl rfl fun w hs => ⟨(), ?_, by trivial, by first | exact hs | (refine hs.conv ?_; exact ent_)⟩
    rfl
  have hl12 : l.length ≤ 12 := by omega
  repeat(first|(with_reducible refine Ol.g ?_;first|(refine Ol.q rfl rfl rfl ?_ ?_;(first|exact True.intro|omega|(unfold in64;omega)|(simp only [List.length_append,List.length_cons,List.length_nil,List.length_set];omega)))|with_reducible refine Ol.nil ?_|refine Ol.skip rfl rfl ?_|refine Ol.eff rfl rfl rfl (Eff.x (Qx.build rfl) ?_)|refine Ol.skip0 rfl ?_|(refine Ol.ga ?_;dsimp only [List.append])|refine Ol.eff rfl rfl rfl (Eff.alloc fun _ => ?_)|refine Ol.eff rfl rfl rfl (Eff.box fun _ => ?_)|refine Ol.eff0 rfl rfl (Eff.store rfl rfl ?_)|refine Ol.eff rfl rfl rfl (Eff.bslice rfl rfl fun _ => ?_)|(refine Ol.eff0 rfl rfl (Eff.storeE rfl ?_ ?_);(first|exact True.intro|omega|(unfold in64;omega)|(simp only [List.length_append,List.length_cons,List.length_nil,List.length_set];omega)))|(refine Ol.eff rfl rfl rfl (Eff.append1 rfl ?_ fun _ => ?_);(first|exact True.intro|omega|(unfold in64;omega)|(simp only [List.length_append,List.length_cons,List.length_nil,List.length_set];omega))))|(with_reducible refine Cd.g ?_;first|with_reducible refine Cd.seq ?_|with_reducible refine Cd.region ?_|with_reducible refine Cd.skip ?_|with_reducible refine Cd.ret ?_|with_reducible refine Cd.block ?_|with_reducible refine Cd.exit ?_|(with_reducible refine Cd.condg ?_;first|refine Cd.cond_t rfl ?_|refine Cd.cond_f rfl ?_))|(with_reducible refine Dn.g ?_;first|with_reducible refine Dn.then ?_|with_reducible refine Dn.ret_then ?_|with_reducible refine Dn.ret_block ?_|with_reducible refine Dn.block ?_|with_reducible refine Dn.exit_then ?_|with_reducible refine Dn.exit_at ?_|with_reducible refine Dn.exit_by rfl ?_))
  rw [← hk2]
  with_reducible refine Ol.g ?_
  refine Ol.eff rfl rfl rfl (Eff.call (R := ?_) (deck_New false 1 2 ⟨k, false, 100, 0, 0, .slice none 0 0, .slice none 0 0, 0⟩ ⟨rfl⟩ ⟨rfl⟩ [] ⟨by simp, by simp⟩) rfl ?_ ?_)
  rotate_left
  · exact tkl_
  rintro ⟨p, x⟩ -
  dsimp only [List.cons_append, List.nil_append]
  rw [show newDK 1 2 ⟨k, false, 100, 0, 0, .slice none 0 0, .slice none 0 0, 0⟩ [] = DW k 100 [] [] from by
    show (⟨1, false, 100, [⟨(imin (imax (k : Int) 1) 64).toNat, [], zA, false⟩, ⟨(imin (imax (k : Int) 1) 64).toNat, [], zA, false⟩], ⟨[], 1⟩⟩ : DK) = _
    rw [show (imin (imax (k : Int) 1) 64).toNat = k from by unfold imin imax; split <;> split <;> omega]]
  repeat(first|(with_reducible refine Ol.g ?_;first|(refine Ol.q rfl rfl rfl ?_ ?_;(first|exact True.intro|omega|(unfold in64;omega)|(simp only [List.length_append,List.length_cons,List.length_nil,List.length_set];omega)))|with_reducible refine Ol.nil ?_|refine Ol.skip rfl rfl ?_|refine Ol.eff rfl rfl rfl (Eff.x (Qx.build rfl) ?_)|refine Ol.skip0 rfl ?_|(refine Ol.ga ?_;dsimp only [List.append])|refine Ol.eff rfl rfl rfl (Eff.alloc fun _ => ?_)|refine Ol.eff rfl rfl rfl (Eff.box fun _ => ?_)|refine Ol.eff0 rfl rfl (Eff.store rfl rfl ?_)|refine Ol.eff rfl rfl rfl (Eff.bslice rfl rfl fun _ => ?_)|(refine Ol.eff0 rfl rfl (Eff.storeE rfl ?_ ?_);(first|exact True.intro|omega|(unfold in64;omega)|(simp only [List.length_append,List.length_cons,List.length_nil,List.length_set];omega)))|(refine Ol.eff rfl rfl rfl (Eff.append1 rfl ?_ fun _ => ?_);(first|exact True.intro|omega|(unfold in64;omega)|(simp only [List.length_append,List.length_cons,List.length_nil,List.length_set];omega))))|(with_reducible refine Cd.g ?_;first|with_reducible refine Cd.seq ?_|with_reducible refine Cd.region ?_|with_reducible refine Cd.skip ?_|with_reducible refine Cd.ret ?_|with_reducible refine Cd.block ?_|with_reducible refine Cd.exit ?_|(with_reducible refine Cd.condg ?_;first|refine Cd.cond_t rfl ?_|refine Cd.cond_f rfl ?_))|(with_reducible refine Dn.g ?_;first|with_reducible refine Dn.then ?_|with_reducible refine Dn.ret_then ?_|with_reducible refine Dn.ret_block ?_|with_reducible refine Dn.block ?_|with_reducible refine Dn.exit_then ?_|with_reducible refine Dn.exit_at ?_|with_reducible refine Dn.exit_by rfl ?_))
  rename_i vq
  with_reducible refine Ol.g ?_
  refine Ol.eff rfl rfl rfl (Eff.call (R := ?_) (fut_New false vq [12]) rfl ?_ ?_)
  rotate_left
  · exact tkl_
  rintro fp -
  dsimp only [List.cons_append, List.nil_append]
  rw [show newFS ([12] : List Int) (min ([12] : List Int).length 16) = FW kept 0 from rfl]
  repeat(first|(with_reducible refine Ol.g ?_;first|(refine Ol.q rfl rfl rfl ?_ ?_;(first|exact True.intro|omega|(unfold in64;omega)|(simp only [List.length_append,List.length_cons,List.length_nil,List.length_set];omega)))|with_reducible refine Ol.nil ?_|refine Ol.skip rfl rfl ?_|refine Ol.eff rfl rfl rfl (Eff.x (Qx.build rfl) ?_)|refine Ol.skip0 rfl ?_|(refine Ol.ga ?_;dsimp only [List.append])|refine Ol.eff rfl rfl rfl (Eff.alloc fun _ => ?_)|refine Ol.eff rfl rfl rfl (Eff.box fun _ => ?_)|refine Ol.eff0 rfl rfl (Eff.store rfl rfl ?_)|refine Ol.eff rfl rfl rfl (Eff.bslice rfl rfl fun _ => ?_)|(refine Ol.eff0 rfl rfl (Eff.storeE rfl ?_ ?_);(first|exact True.intro|omega|(unfold in64;omega)|(simp only [List.length_append,List.length_cons,List.length_nil,List.length_set];omega)))|(refine Ol.eff rfl rfl rfl (Eff.append1 rfl ?_ fun _ => ?_);(first|exact True.intro|omega|(unfold in64;omega)|(simp only [List.length_append,List.length_cons,List.length_nil,List.length_set];omega))))|(with_reducible refine Cd.g ?_;first|with_reducible refine Cd.seq ?_|with_reducible refine Cd.region ?_|with_reducible refine Cd.skip ?_|with_reducible refine Cd.ret ?_|with_reducible refine Cd.block ?_|with_reducible refine Cd.exit ?_|(with_reducible refine Cd.condg ?_;first|refine Cd.cond_t rfl ?_|refine Cd.cond_f rfl ?_))|(with_reducible refine Dn.g ?_;first|with_reducible refine Dn.then ?_|with_reducible refine Dn.ret_then ?_|with_reducible refine Dn.ret_block ?_|with_reducible refine Dn.block ?_|with_reducible refine Dn.exit_then ?_|with_reducible refine Dn.exit_at ?_|with_reducible refine Dn.exit_by rfl ?_))
  refine Cd.loop (fun j : Nat => j ≤ l.length) (fun j => l.length - j) (fun j => [(0, v), (1, .int .u16 kept), (7, .int .i64 k), (8, .pointer (some ⟨p, 0, none⟩)), (9, .pointer (some ⟨fp, 0, none⟩)), (10, .int .i64 j)]) (fun j => rsl (eInt .u8) v l :: deckH p x (DW k 100 [] []) :: queueH x.qp [] 0 :: parkH x.pp (wsW l j) :: futC fp (FW kept j) :: R) 0 (by omega) ?_ ?_ ?_
  · repeat(first|exact Env.le_nil _|(refine Env.le_cons rfl ?_ ?_;first|rfl|(simp;done)|exact congrArg _ (by omega)|rotate_left))
  · rw [show wsW l 0 = [] from rfl]
    exact ent_
  rintro j hj
  refine go ?_
  refine Cd.condP rfl (fun h => ?_) (fun h => ?_)
  · have hj2 : j < l.length := by omega
    have hrj := hr2 j (by omega) (by omega)
    repeat(first|(with_reducible refine Ol.g ?_;first|(refine Ol.q rfl rfl rfl ?_ ?_;(first|exact True.intro|omega|(unfold in64;omega)|(simp only [List.length_append,List.length_cons,List.length_nil,List.length_set];omega)))|with_reducible refine Ol.nil ?_|refine Ol.skip rfl rfl ?_|refine Ol.eff rfl rfl rfl (Eff.x (Qx.build rfl) ?_)|refine Ol.skip0 rfl ?_|(refine Ol.ga ?_;dsimp only [List.append])|refine Ol.eff rfl rfl rfl (Eff.alloc fun _ => ?_)|refine Ol.eff rfl rfl rfl (Eff.box fun _ => ?_)|refine Ol.eff0 rfl rfl (Eff.store rfl rfl ?_)|refine Ol.eff rfl rfl rfl (Eff.bslice rfl rfl fun _ => ?_)|(refine Ol.eff0 rfl rfl (Eff.storeE rfl ?_ ?_);(first|exact True.intro|omega|(unfold in64;omega)|(simp only [List.length_append,List.length_cons,List.length_nil,List.length_set];omega)))|(refine Ol.eff rfl rfl rfl (Eff.append1 rfl ?_ fun _ => ?_);(first|exact True.intro|omega|(unfold in64;omega)|(simp only [List.length_append,List.length_cons,List.length_nil,List.length_set];omega))))|(with_reducible refine Cd.g ?_;first|with_reducible refine Cd.seq ?_|with_reducible refine Cd.region ?_|with_reducible refine Cd.skip ?_|with_reducible refine Cd.ret ?_|with_reducible refine Cd.block ?_|with_reducible refine Cd.exit ?_|(with_reducible refine Cd.condg ?_;first|refine Cd.cond_t rfl ?_|refine Cd.cond_f rfl ?_))|(with_reducible refine Dn.g ?_;first|with_reducible refine Dn.then ?_|with_reducible refine Dn.ret_then ?_|with_reducible refine Dn.ret_block ?_|with_reducible refine Dn.block ?_|with_reducible refine Dn.exit_then ?_|with_reducible refine Dn.exit_at ?_|with_reducible refine Dn.exit_by rfl ?_))
    with_reducible refine Ol.g ?_
    refine Ol.eff rfl rfl rfl (Eff.call (R := ?_) (fut_Make fp (FW kept j) 0 0) rfl ?_ ?_)
    rotate_left
    · exact tkl_
    rintro _ -
    dsimp only [List.cons_append, List.nil_append]
    have eb : (FW kept j).makeB 0 = true := decide_eq_true ⟨by omega, by show (0 : Int) < 1; omega, by show ((fuW kept j).length : Int) < 12; rw [fuW_len]; omega⟩
    rw [show (FW kept j).makeId 0 = j from by unfold FS.makeId; rw [eb]; show (0 : Int) * 65536 + ((fuW kept j).length : Int) = j; rw [fuW_len]; omega, show (FW kept j).make 0 0 = ⟨[fuW kept j ++ [⟨0, 0, 0, 0⟩]], [12]⟩ from by unfold FS.make; rw [eb]; rfl, eb]
    repeat(first|(with_reducible refine Ol.g ?_;first|(refine Ol.q rfl rfl rfl ?_ ?_;(first|exact True.intro|omega|(unfold in64;omega)|(simp only [List.length_append,List.length_cons,List.length_nil,List.length_set];omega)))|with_reducible refine Ol.nil ?_|refine Ol.skip rfl rfl ?_|refine Ol.eff rfl rfl rfl (Eff.x (Qx.build rfl) ?_)|refine Ol.skip0 rfl ?_|(refine Ol.ga ?_;dsimp only [List.append])|refine Ol.eff rfl rfl rfl (Eff.alloc fun _ => ?_)|refine Ol.eff rfl rfl rfl (Eff.box fun _ => ?_)|refine Ol.eff0 rfl rfl (Eff.store rfl rfl ?_)|refine Ol.eff rfl rfl rfl (Eff.bslice rfl rfl fun _ => ?_)|(refine Ol.eff0 rfl rfl (Eff.storeE rfl ?_ ?_);(first|exact True.intro|omega|(unfold in64;omega)|(simp only [List.length_append,List.length_cons,List.length_nil,List.length_set];omega)))|(refine Ol.eff rfl rfl rfl (Eff.append1 rfl ?_ fun _ => ?_);(first|exact True.intro|omega|(unfold in64;omega)|(simp only [List.length_append,List.length_cons,List.length_nil,List.length_set];omega))))|(with_reducible refine Cd.g ?_;first|with_reducible refine Cd.seq ?_|with_reducible refine Cd.region ?_|with_reducible refine Cd.skip ?_|with_reducible refine Cd.ret ?_|with_reducible refine Cd.block ?_|with_reducible refine Cd.exit ?_|(with_reducible refine Cd.condg ?_;first|refine Cd.cond_t rfl ?_|refine Cd.cond_f rfl ?_))|(with_reducible refine Dn.g ?_;first|with_reducible refine Dn.then ?_|with_reducible refine Dn.ret_then ?_|with_reducible refine Dn.ret_block ?_|with_reducible refine Dn.block ?_|with_reducible refine Dn.exit_then ?_|with_reducible refine Dn.exit_at ?_|with_reducible refine Dn.exit_by rfl ?_))
    with_reducible refine Ol.g ?_
    refine Ol.eff rfl rfl rfl (Eff.call (R := ?_) (deck_Wait p x (DW k 100 [] []) (wsW l j) ⟨j, 0, 0, .slice none 0 0, 0, 0, 0, 0, 0, 0, 0, rd l j % 2⟩ (aW l j) j (by rw [wsW_len]; omega)) rfl ?_ ?_)
    rotate_left
    · exact tkl_
    rintro _ -
    dsimp only [List.cons_append, List.nil_append]
    rw [← wsW_succ]
    repeat(first|(with_reducible refine Ol.g ?_;first|(refine Ol.q rfl rfl rfl ?_ ?_;(first|exact True.intro|omega|(unfold in64;omega)|(simp only [List.length_append,List.length_cons,List.length_nil,List.length_set];omega)))|with_reducible refine Ol.nil ?_|refine Ol.skip rfl rfl ?_|refine Ol.eff rfl rfl rfl (Eff.x (Qx.build rfl) ?_)|refine Ol.skip0 rfl ?_|(refine Ol.ga ?_;dsimp only [List.append])|refine Ol.eff rfl rfl rfl (Eff.alloc fun _ => ?_)|refine Ol.eff rfl rfl rfl (Eff.box fun _ => ?_)|refine Ol.eff0 rfl rfl (Eff.store rfl rfl ?_)|refine Ol.eff rfl rfl rfl (Eff.bslice rfl rfl fun _ => ?_)|(refine Ol.eff0 rfl rfl (Eff.storeE rfl ?_ ?_);(first|exact True.intro|omega|(unfold in64;omega)|(simp only [List.length_append,List.length_cons,List.length_nil,List.length_set];omega)))|(refine Ol.eff rfl rfl rfl (Eff.append1 rfl ?_ fun _ => ?_);(first|exact True.intro|omega|(unfold in64;omega)|(simp only [List.length_append,List.length_cons,List.length_nil,List.length_set];omega))))|(with_reducible refine Cd.g ?_;first|with_reducible refine Cd.seq ?_|with_reducible refine Cd.region ?_|with_reducible refine Cd.skip ?_|with_reducible refine Cd.ret ?_|with_reducible refine Cd.block ?_|with_reducible refine Cd.exit ?_|(with_reducible refine Cd.condg ?_;first|refine Cd.cond_t rfl ?_|refine Cd.cond_f rfl ?_))|(with_reducible refine Dn.g ?_;first|with_reducible refine Dn.then ?_|with_reducible refine Dn.ret_then ?_|with_reducible refine Dn.ret_block ?_|with_reducible refine Dn.block ?_|with_reducible refine Dn.exit_then ?_|with_reducible refine Dn.exit_at ?_|with_reducible refine Dn.exit_by rfl ?_))
    refine Cd.condP rfl (fun hb => ?_) (fun hb => ?_)
    · have hbb : bitW kept j = true := decide_eq_true hb
      repeat(first|(with_reducible refine Ol.g ?_;first|(refine Ol.q rfl rfl rfl ?_ ?_;(first|exact True.intro|omega|(unfold in64;omega)|(simp only [List.length_append,List.length_cons,List.length_nil,List.length_set];omega)))|with_reducible refine Ol.nil ?_|refine Ol.skip rfl rfl ?_|refine Ol.eff rfl rfl rfl (Eff.x (Qx.build rfl) ?_)|refine Ol.skip0 rfl ?_|(refine Ol.ga ?_;dsimp only [List.append])|refine Ol.eff rfl rfl rfl (Eff.alloc fun _ => ?_)|refine Ol.eff rfl rfl rfl (Eff.box fun _ => ?_)|refine Ol.eff0 rfl rfl (Eff.store rfl rfl ?_)|refine Ol.eff rfl rfl rfl (Eff.bslice rfl rfl fun _ => ?_)|(refine Ol.eff0 rfl rfl (Eff.storeE rfl ?_ ?_);(first|exact True.intro|omega|(unfold in64;omega)|(simp only [List.length_append,List.length_cons,List.length_nil,List.length_set];omega)))|(refine Ol.eff rfl rfl rfl (Eff.append1 rfl ?_ fun _ => ?_);(first|exact True.intro|omega|(unfold in64;omega)|(simp only [List.length_append,List.length_cons,List.length_nil,List.length_set];omega))))|(with_reducible refine Cd.g ?_;first|with_reducible refine Cd.seq ?_|with_reducible refine Cd.region ?_|with_reducible refine Cd.skip ?_|with_reducible refine Cd.ret ?_|with_reducible refine Cd.block ?_|with_reducible refine Cd.exit ?_|(with_reducible refine Cd.condg ?_;first|refine Cd.cond_t rfl ?_|refine Cd.cond_f rfl ?_))|(with_reducible refine Dn.g ?_;first|with_reducible refine Dn.then ?_|with_reducible refine Dn.ret_then ?_|with_reducible refine Dn.ret_block ?_|with_reducible refine Dn.block ?_|with_reducible refine Dn.exit_then ?_|with_reducible refine Dn.exit_at ?_|with_reducible refine Dn.exit_by rfl ?_))
      with_reducible refine Ol.g ?_
      refine Ol.eff rfl rfl rfl (Eff.call (R := ?_) (fut_Break fp ⟨[fuW kept j ++ [⟨0, 0, 0, 0⟩]], [12]⟩ j 9 (by omega)) rfl ?_ ?_)
      rotate_left
      · exact tkl_
      rintro _ -
      dsimp only [List.cons_append, List.nil_append]
      have e0 : (j : Int) / 65536 = 0 := by omega
      have e1 : (j : Int) % 65536 = j := by omega
      have hget : rd (fuW kept j ++ [(⟨0, 0, 0, 0⟩ : S_api_Future)]) (j : Int) = ⟨0, 0, 0, 0⟩ := by
        rw [rd_eq (by simp [fuW_len])]; simp [fuW_len]
      have hin : (⟨[fuW kept j ++ [⟨0, 0, 0, 0⟩]], [12]⟩ : FS).inB j = true := decide_eq_true ⟨by omega, by rw [e0]; show (0 : Int) < 1; omega, by rw [e0, e1]; show (j : Int) < ((fuW kept j ++ [(⟨0, 0, 0, 0⟩ : S_api_Future)]).length : Int); simp [fuW_len]; omega⟩
      have hgt : (⟨[fuW kept j ++ [⟨0, 0, 0, 0⟩]], [12]⟩ : FS).get j = ⟨0, 0, 0, 0⟩ := by unfold FS.get; rw [e0, e1]; exact hget
      have hop : (⟨[fuW kept j ++ [⟨0, 0, 0, 0⟩]], [12]⟩ : FS).openB j = true := by unfold FS.openB; rw [hin, hgt]; rfl
      have hch : (⟨[fuW kept j ++ [⟨0, 0, 0, 0⟩]], [12]⟩ : FS).change j ⟨2, 0, 9⟩ = FW kept (j + 1) := by
        unfold FS.change; rw [hop, hgt]; unfold FS.set; rw [e0, e1]
        show (⟨[List.set (fuW kept j ++ [(⟨0, 0, 0, 0⟩ : S_api_Future)]) (j : Int).toNat ⟨0, 2, 0, 9⟩], [12]⟩ : FS) = _
        unfold FW
        have hset : ∀ z y : S_api_Future, List.set (fuW kept j ++ [z]) (j : Int).toNat y = fuW kept j ++ [y] := fun z y => by
          rw [show (j : Int).toNat = (fuW kept j).length from by rw [fuW_len]; omega]; simp
        rw [fuW_succ, if_pos hbb, hset]
      rw [hop, hch]
      repeat(first|(with_reducible refine Ol.g ?_;first|(refine Ol.q rfl rfl rfl ?_ ?_;(first|exact True.intro|omega|(unfold in64;omega)|(simp only [List.length_append,List.length_cons,List.length_nil,List.length_set];omega)))|with_reducible refine Ol.nil ?_|refine Ol.skip rfl rfl ?_|refine Ol.eff rfl rfl rfl (Eff.x (Qx.build rfl) ?_)|refine Ol.skip0 rfl ?_|(refine Ol.ga ?_;dsimp only [List.append])|refine Ol.eff rfl rfl rfl (Eff.alloc fun _ => ?_)|refine Ol.eff rfl rfl rfl (Eff.box fun _ => ?_)|refine Ol.eff0 rfl rfl (Eff.store rfl rfl ?_)|refine Ol.eff rfl rfl rfl (Eff.bslice rfl rfl fun _ => ?_)|(refine Ol.eff0 rfl rfl (Eff.storeE rfl ?_ ?_);(first|exact True.intro|omega|(unfold in64;omega)|(simp only [List.length_append,List.length_cons,List.length_nil,List.length_set];omega)))|(refine Ol.eff rfl rfl rfl (Eff.append1 rfl ?_ fun _ => ?_);(first|exact True.intro|omega|(unfold in64;omega)|(simp only [List.length_append,List.length_cons,List.length_nil,List.length_set];omega))))|(with_reducible refine Cd.g ?_;first|with_reducible refine Cd.seq ?_|with_reducible refine Cd.region ?_|with_reducible refine Cd.skip ?_|with_reducible refine Cd.ret ?_|with_reducible refine Cd.block ?_|with_reducible refine Cd.exit ?_|(with_reducible refine Cd.condg ?_;first|refine Cd.cond_t rfl ?_|refine Cd.cond_f rfl ?_))|(with_reducible refine Dn.g ?_;first|with_reducible refine Dn.then ?_|with_reducible refine Dn.ret_then ?_|with_reducible refine Dn.ret_block ?_|with_reducible refine Dn.block ?_|with_reducible refine Dn.exit_then ?_|with_reducible refine Dn.exit_at ?_|with_reducible refine Dn.exit_by rfl ?_))
      refine Dn.round (j + 1) (by omega) (by omega) ?_ ?_
      · repeat(first|exact Env.le_nil _|(refine Env.le_cons rfl ?_ ?_;first|rfl|(simp;done)|exact congrArg _ (by omega)|rotate_left))
      · exact ent_
    · have hbb : bitW kept j = false := decide_eq_false hb
      rw [show (⟨[fuW kept j ++ [⟨0, 0, 0, 0⟩]], [12]⟩ : FS) = FW kept (j + 1) from by unfold FW; rw [fuW_succ, hbb]; rfl]
      repeat(first|(with_reducible refine Ol.g ?_;first|(refine Ol.q rfl rfl rfl ?_ ?_;(first|exact True.intro|omega|(unfold in64;omega)|(simp only [List.length_append,List.length_cons,List.length_nil,List.length_set];omega)))|with_reducible refine Ol.nil ?_|refine Ol.skip rfl rfl ?_|refine Ol.eff rfl rfl rfl (Eff.x (Qx.build rfl) ?_)|refine Ol.skip0 rfl ?_|(refine Ol.ga ?_;dsimp only [List.append])|refine Ol.eff rfl rfl rfl (Eff.alloc fun _ => ?_)|refine Ol.eff rfl rfl rfl (Eff.box fun _ => ?_)|refine Ol.eff0 rfl rfl (Eff.store rfl rfl ?_)|refine Ol.eff rfl rfl rfl (Eff.bslice rfl rfl fun _ => ?_)|(refine Ol.eff0 rfl rfl (Eff.storeE rfl ?_ ?_);(first|exact True.intro|omega|(unfold in64;omega)|(simp only [List.length_append,List.length_cons,List.length_nil,List.length_set];omega)))|(refine Ol.eff rfl rfl rfl (Eff.append1 rfl ?_ fun _ => ?_);(first|exact True.intro|omega|(unfold in64;omega)|(simp only [List.length_append,List.length_cons,List.length_nil,List.length_set];omega))))|(with_reducible refine Cd.g ?_;first|with_reducible refine Cd.seq ?_|with_reducible refine Cd.region ?_|with_reducible refine Cd.skip ?_|with_reducible refine Cd.ret ?_|with_reducible refine Cd.block ?_|with_reducible refine Cd.exit ?_|(with_reducible refine Cd.condg ?_;first|refine Cd.cond_t rfl ?_|refine Cd.cond_f rfl ?_))|(with_reducible refine Dn.g ?_;first|with_reducible refine Dn.then ?_|with_reducible refine Dn.ret_then ?_|with_reducible refine Dn.ret_block ?_|with_reducible refine Dn.block ?_|with_reducible refine Dn.exit_then ?_|with_reducible refine Dn.exit_at ?_|with_reducible refine Dn.exit_by rfl ?_))
      refine Dn.round (j + 1) (by omega) (by omega) ?_ ?_
      · repeat(first|exact Env.le_nil _|(refine Env.le_cons rfl ?_ ?_;first|rfl|(simp;done)|exact congrArg _ (by omega)|rotate_left))
      · exact ent_
  have hjn : j = l.length := by omega
  subst hjn
  repeat(first|(with_reducible refine Ol.g ?_;first|(refine Ol.q rfl rfl rfl ?_ ?_;(first|exact True.intro|omega|(unfold in64;omega)|(simp only [List.length_append,List.length_cons,List.length_nil,List.length_set];omega)))|with_reducible refine Ol.nil ?_|refine Ol.skip rfl rfl ?_|refine Ol.eff rfl rfl rfl (Eff.x (Qx.build rfl) ?_)|refine Ol.skip0 rfl ?_|(refine Ol.ga ?_;dsimp only [List.append])|refine Ol.eff rfl rfl rfl (Eff.alloc fun _ => ?_)|refine Ol.eff rfl rfl rfl (Eff.box fun _ => ?_)|refine Ol.eff0 rfl rfl (Eff.store rfl rfl ?_)|refine Ol.eff rfl rfl rfl (Eff.bslice rfl rfl fun _ => ?_)|(refine Ol.eff0 rfl rfl (Eff.storeE rfl ?_ ?_);(first|exact True.intro|omega|(unfold in64;omega)|(simp only [List.length_append,List.length_cons,List.length_nil,List.length_set];omega)))|(refine Ol.eff rfl rfl rfl (Eff.append1 rfl ?_ fun _ => ?_);(first|exact True.intro|omega|(unfold in64;omega)|(simp only [List.length_append,List.length_cons,List.length_nil,List.length_set];omega))))|(with_reducible refine Cd.g ?_;first|with_reducible refine Cd.seq ?_|with_reducible refine Cd.region ?_|with_reducible refine Cd.skip ?_|with_reducible refine Cd.ret ?_|with_reducible refine Cd.block ?_|with_reducible refine Cd.exit ?_|(with_reducible refine Cd.condg ?_;first|refine Cd.cond_t rfl ?_|refine Cd.cond_f rfl ?_))|(with_reducible refine Dn.g ?_;first|with_reducible refine Dn.then ?_|with_reducible refine Dn.ret_then ?_|with_reducible refine Dn.ret_block ?_|with_reducible refine Dn.block ?_|with_reducible refine Dn.exit_then ?_|with_reducible refine Dn.exit_at ?_|with_reducible refine Dn.exit_by rfl ?_))
  with_reducible refine Ol.g ?_
  refine Ol.eff rfl rfl rfl (Eff.call (R := ?_) (deck_Wake p fp x (DW k 100 [] []) (wsW l l.length) (FW kept l.length) 6 (by dsimp only; omega) (by intro w hw; simp only [wsW, List.mem_map] at hw; obtain ⟨a, ha, rfl⟩ := hw; have := ints_mem.1 ha; dsimp only; omega) (by rw [wsW_len]; omega)) rfl ?_ ?_)
  rotate_left
  · exact tkl_
  rintro ⟨ve, vo, to, vs, ts⟩ -
  dsimp only [List.cons_append, List.nil_append]
  rw [wake_W kept l k l.length hl12]
  dsimp only
  generalize hfu : (100 : Int) - (l.length : Int) = fu
  first | (with_reducible refine Cd.g ?_; refine Cd.know (fun w hw => rel2_len (Tk.sat (A := (rel2 tkC to _)) (by exact tk_) hw)) fun hto => ?_) | (with_reducible refine Ol.g ?_; refine Ol.know (fun w hw => rel2_len (Tk.sat (A := (rel2 tkC to _)) (by exact tk_) hw)) fun hto => ?_) | (with_reducible refine Dn.g ?_; refine Dn.know (fun w hw => rel2_len (Tk.sat (A := (rel2 tkC to _)) (by exact tk_) hw)) fun hto => ?_)
  first | (with_reducible refine Cd.g ?_; refine Cd.know (fun w hw => rel2_len (Tk.sat (A := (rel2 tkC ts _)) (by exact tk_) hw)) fun hts => ?_) | (with_reducible refine Ol.g ?_; refine Ol.know (fun w hw => rel2_len (Tk.sat (A := (rel2 tkC ts _)) (by exact tk_) hw)) fun hts => ?_) | (with_reducible refine Dn.g ?_; refine Dn.know (fun w hw => rel2_len (Tk.sat (A := (rel2 tkC ts _)) (by exact tk_) hw)) fun hts => ?_)
  repeat(first|(with_reducible refine Ol.g ?_;first|(refine Ol.q rfl rfl rfl ?_ ?_;(first|exact True.intro|omega|(unfold in64;omega)|(simp only [List.length_append,List.length_cons,List.length_nil,List.length_set];omega)))|with_reducible refine Ol.nil ?_|refine Ol.skip rfl rfl ?_|refine Ol.eff rfl rfl rfl (Eff.x (Qx.build rfl) ?_)|refine Ol.skip0 rfl ?_|(refine Ol.ga ?_;dsimp only [List.append])|refine Ol.eff rfl rfl rfl (Eff.alloc fun _ => ?_)|refine Ol.eff rfl rfl rfl (Eff.box fun _ => ?_)|refine Ol.eff0 rfl rfl (Eff.store rfl rfl ?_)|refine Ol.eff rfl rfl rfl (Eff.bslice rfl rfl fun _ => ?_)|(refine Ol.eff0 rfl rfl (Eff.storeE rfl ?_ ?_);(first|exact True.intro|omega|(unfold in64;omega)|(simp only [List.length_append,List.length_cons,List.length_nil,List.length_set];omega)))|(refine Ol.eff rfl rfl rfl (Eff.append1 rfl ?_ fun _ => ?_);(first|exact True.intro|omega|(unfold in64;omega)|(simp only [List.length_append,List.length_cons,List.length_nil,List.length_set];omega))))|(with_reducible refine Cd.g ?_;first|with_reducible refine Cd.seq ?_|with_reducible refine Cd.region ?_|with_reducible refine Cd.skip ?_|with_reducible refine Cd.ret ?_|with_reducible refine Cd.block ?_|with_reducible refine Cd.exit ?_|(with_reducible refine Cd.condg ?_;first|refine Cd.cond_t rfl ?_|refine Cd.cond_f rfl ?_))|(with_reducible refine Dn.g ?_;first|with_reducible refine Dn.then ?_|with_reducible refine Dn.ret_then ?_|with_reducible refine Dn.ret_block ?_|with_reducible refine Dn.block ?_|with_reducible refine Dn.exit_then ?_|with_reducible refine Dn.exit_at ?_|with_reducible refine Dn.exit_by rfl ?_))
  rename_i c
  refine Cd.arr (eInt .i64) 2 [0, 0] (Tk.hd _ _) rfl rfl rfl ?_
  obtain ⟨Q0, Q1, O1, O2, O3⟩ := U_ok kept l k fu l.length
  have hcn := cntW kept l.length
  rw [O1]
  refine Cd.loop (fun z : Nat × List AT × List AT => z.1 ≤ l.length ∧ UOk kept k fu z.1 (UW kept l k fu z.1) z.2.1 z.2.2) (fun z => l.length - z.1) (fun z => [(0, v), (1, .int .u16 kept), (7, .int .i64 k), (8, .pointer (some ⟨p, 0, none⟩)), (13, ve), (14, vo), (15, vs), (16, .int .i64 (UW kept l k fu z.1).ev.length), (17, .int .i64 (UW kept l k fu z.1).over.length), (18, .pointer (some ⟨c, 0, none⟩)), (19, .int .i64 z.1)])
    (fun z => arr (eInt .i64) c 2 [(z.2.1.length : Int), (z.2.2.length : Int)] :: rsl (eInt .u8) v l :: deckH p x (DW k fu Q0 Q1) :: queueH x.qp [] 0 :: parkH x.pp ((stW kept l.length).map fun i => ⟨aW l i, i⟩) :: sl e_api_Event ve (UW kept l k fu l.length).ev :: sl e_api_Task vo to :: rel2 tkC to (UW kept l k fu l.length).over :: sl e_api_Task vs ts :: R) (0, [], []) ⟨by simp, ⟨rfl, rfl, rfl⟩⟩ ?_ ?_ ?_
  · repeat(first|exact Env.le_nil _|(refine Env.le_cons rfl ?_ ?_;first|rfl|(simp;done)|exact congrArg _ (by omega)|rotate_left))
  · exact ents.cons (show Tk _ (arr (eInt .i64) c 2 [0, 0]) _ from by exact tk_) (by exact ent_)
  rintro ⟨j, q0, q1⟩ ⟨hj, u1, u2, u3⟩
  dsimp only at hj u1 u2 u3 ⊢
  have hcj := cntW kept j
  refine go ?_
  refine Cd.condP rfl (fun h => ?_) (fun h => ?_)
  · have hj2 : j < l.length := by omega
    have hrj := hr2 j (by omega) (by omega)
    have us := UW_succ kept l k fu j
    have hw : rd l (j : Int) % 2 = 0 ∨ rd l (j : Int) % 2 = 1 := by omega
    refine go ?_
    refine Cd.condP rfl (fun hb => ?_) (fun hb => ?_)
    · have hbb : bitW kept j = false := decide_eq_false (by rw [hb]; omega)
      rw [hbb, if_neg (by simp)] at us
      have hk3 : wkW kept (j + 1) = wkW kept j := by rw [wkW_succ, if_neg (by rw [hbb]; simp)]
      repeat(first|(with_reducible refine Ol.g ?_;first|(refine Ol.q rfl rfl rfl ?_ ?_;(first|exact True.intro|omega|(unfold in64;omega)|(simp only [List.length_append,List.length_cons,List.length_nil,List.length_set];omega)))|with_reducible refine Ol.nil ?_|refine Ol.skip rfl rfl ?_|refine Ol.eff rfl rfl rfl (Eff.x (Qx.build rfl) ?_)|refine Ol.skip0 rfl ?_|(refine Ol.ga ?_;dsimp only [List.append])|refine Ol.eff rfl rfl rfl (Eff.alloc fun _ => ?_)|refine Ol.eff rfl rfl rfl (Eff.box fun _ => ?_)|refine Ol.eff0 rfl rfl (Eff.store rfl rfl ?_)|refine Ol.eff rfl rfl rfl (Eff.bslice rfl rfl fun _ => ?_)|(refine Ol.eff0 rfl rfl (Eff.storeE rfl ?_ ?_);(first|exact True.intro|omega|(unfold in64;omega)|(simp only [List.length_append,List.length_cons,List.length_nil,List.length_set];omega)))|(refine Ol.eff rfl rfl rfl (Eff.append1 rfl ?_ fun _ => ?_);(first|exact True.intro|omega|(unfold in64;omega)|(simp only [List.length_append,List.length_cons,List.length_nil,List.length_set];omega))))|(with_reducible refine Cd.g ?_;first|with_reducible refine Cd.seq ?_|with_reducible refine Cd.region ?_|with_reducible refine Cd.skip ?_|with_reducible refine Cd.ret ?_|with_reducible refine Cd.block ?_|with_reducible refine Cd.exit ?_|(with_reducible refine Cd.condg ?_;first|refine Cd.cond_t rfl ?_|refine Cd.cond_f rfl ?_))|(with_reducible refine Dn.g ?_;first|with_reducible refine Dn.then ?_|with_reducible refine Dn.ret_then ?_|with_reducible refine Dn.ret_block ?_|with_reducible refine Dn.block ?_|with_reducible refine Dn.exit_then ?_|with_reducible refine Dn.exit_at ?_|with_reducible refine Dn.exit_by rfl ?_))
      refine Dn.round (j + 1, q0, q1) ⟨by dsimp only; omega, by rw [us]; exact ⟨u1, by rw [hk3]; exact u2, by rw [hk3]; exact u3⟩⟩ (by dsimp only; omega) ?_ ?_
      · rw [us]; repeat(first|exact Env.le_nil _|(refine Env.le_cons rfl ?_ ?_;first|rfl|(simp;done)|exact congrArg _ (by omega)|rotate_left))
      · exact ent_
    · have hbb : bitW kept j = true := decide_eq_true ((bit01 _).resolve_left hb)
      rw [if_pos hbb] at us
      have hk3 : (wkW kept (j + 1)).length = (wkW kept j).length + 1 := by rw [wkW_succ, if_pos hbb]; simp
      obtain ⟨r, s, hr1, hs1⟩ := UW_pre kept l k fu (j + 1) (l.length - (j + 1))
      rw [show j + 1 + (l.length - (j + 1)) = l.length from by omega] at hr1 hs1
      generalize hU : UW kept l k fu j = U at us u1 u2 u3 ⊢
      obtain ⟨d, ev, ov⟩ := U
      dsimp only at u1 u2 u3 ⊢
      subst u1
      have hev : (UW kept l k fu (j + 1)).ev = ev ++ [evOf 1 6 5 (aW l j)] := by rw [us]; rfl
      rw [hev] at hr1
      have hre : rd (UW kept l k fu l.length).ev (ev.length : Int) = ⟨6, 1, 5, rd l j % 2, j, 0, 0⟩ := by
        rw [hr1, rd_eq (by simp)]; simp; rfl
      have hel : ev.length < (UW kept l k fu l.length).ev.length := by rw [hr1]; simp
      have hEl : (UW kept l k fu l.length).ev.length ≤ 12 := by rw [O2]; omega
      refine go ?_
      rw [decide_eq_false (show ¬ ((UW kept l k fu l.length).ev.length : Int) ≤ (ev.length : Int) by omega)]
      refine go ?_
      rw [hre]
      refine go ?_
      rw [show decide ((⟨6, 1, 5, rd l j % 2, j, 0, 0⟩ : S_api_Event) ≠ ⟨6, 1, 5, rd l j % 2, j, 0, 0⟩) = false from by simp]
      refine go ?_
      rcases hw with hw | hw
      · rw [hw]
        have uu := pu_W0 k fu q0 q1 ev ov (aW l j) hw
        rw [uu] at us
        refine go ?_
        rw [show rd [(q0.length : Int), (q1.length : Int)] 0 = q0.length from rfl]
        refine Cd.condP rfl (fun hq => ?_) (fun hq => ?_)
        · have hq2 : q0.length < k := by omega
          rw [if_pos hq2, if_pos hq2] at us
          repeat(first|(with_reducible refine Ol.g ?_;first|(refine Ol.q rfl rfl rfl ?_ ?_;(first|exact True.intro|omega|(unfold in64;omega)|(simp only [List.length_append,List.length_cons,List.length_nil,List.length_set];omega)))|with_reducible refine Ol.nil ?_|refine Ol.skip rfl rfl ?_|refine Ol.eff rfl rfl rfl (Eff.x (Qx.build rfl) ?_)|refine Ol.skip0 rfl ?_|(refine Ol.ga ?_;dsimp only [List.append])|refine Ol.eff rfl rfl rfl (Eff.alloc fun _ => ?_)|refine Ol.eff rfl rfl rfl (Eff.box fun _ => ?_)|refine Ol.eff0 rfl rfl (Eff.store rfl rfl ?_)|refine Ol.eff rfl rfl rfl (Eff.bslice rfl rfl fun _ => ?_)|(refine Ol.eff0 rfl rfl (Eff.storeE rfl ?_ ?_);(first|exact True.intro|omega|(unfold in64;omega)|(simp only [List.length_append,List.length_cons,List.length_nil,List.length_set];omega)))|(refine Ol.eff rfl rfl rfl (Eff.append1 rfl ?_ fun _ => ?_);(first|exact True.intro|omega|(unfold in64;omega)|(simp only [List.length_append,List.length_cons,List.length_nil,List.length_set];omega))))|(with_reducible refine Cd.g ?_;first|with_reducible refine Cd.seq ?_|with_reducible refine Cd.region ?_|with_reducible refine Cd.skip ?_|with_reducible refine Cd.ret ?_|with_reducible refine Cd.block ?_|with_reducible refine Cd.exit ?_|(with_reducible refine Cd.condg ?_;first|refine Cd.cond_t rfl ?_|refine Cd.cond_f rfl ?_))|(with_reducible refine Dn.g ?_;first|with_reducible refine Dn.then ?_|with_reducible refine Dn.ret_then ?_|with_reducible refine Dn.ret_block ?_|with_reducible refine Dn.block ?_|with_reducible refine Dn.exit_then ?_|with_reducible refine Dn.exit_at ?_|with_reducible refine Dn.exit_by rfl ?_))
          rw [show rd [(q0.length : Int), (q1.length : Int)] 0 = q0.length from rfl]
          repeat(first|(with_reducible refine Ol.g ?_;first|(refine Ol.q rfl rfl rfl ?_ ?_;(first|exact True.intro|omega|(unfold in64;omega)|(simp only [List.length_append,List.length_cons,List.length_nil,List.length_set];omega)))|with_reducible refine Ol.nil ?_|refine Ol.skip rfl rfl ?_|refine Ol.eff rfl rfl rfl (Eff.x (Qx.build rfl) ?_)|refine Ol.skip0 rfl ?_|(refine Ol.ga ?_;dsimp only [List.append])|refine Ol.eff rfl rfl rfl (Eff.alloc fun _ => ?_)|refine Ol.eff rfl rfl rfl (Eff.box fun _ => ?_)|refine Ol.eff0 rfl rfl (Eff.store rfl rfl ?_)|refine Ol.eff rfl rfl rfl (Eff.bslice rfl rfl fun _ => ?_)|(refine Ol.eff0 rfl rfl (Eff.storeE rfl ?_ ?_);(first|exact True.intro|omega|(unfold in64;omega)|(simp only [List.length_append,List.length_cons,List.length_nil,List.length_set];omega)))|(refine Ol.eff rfl rfl rfl (Eff.append1 rfl ?_ fun _ => ?_);(first|exact True.intro|omega|(unfold in64;omega)|(simp only [List.length_append,List.length_cons,List.length_nil,List.length_set];omega))))|(with_reducible refine Cd.g ?_;first|with_reducible refine Cd.seq ?_|with_reducible refine Cd.region ?_|with_reducible refine Cd.skip ?_|with_reducible refine Cd.ret ?_|with_reducible refine Cd.block ?_|with_reducible refine Cd.exit ?_|(with_reducible refine Cd.condg ?_;first|refine Cd.cond_t rfl ?_|refine Cd.cond_f rfl ?_))|(with_reducible refine Dn.g ?_;first|with_reducible refine Dn.then ?_|with_reducible refine Dn.ret_then ?_|with_reducible refine Dn.ret_block ?_|with_reducible refine Dn.block ?_|with_reducible refine Dn.exit_then ?_|with_reducible refine Dn.exit_at ?_|with_reducible refine Dn.exit_by rfl ?_))
          have hok : UOk kept k fu (j + 1) (UW kept l k fu (j + 1)) (q0 ++ [aW l j]) (q1) := by
            rw [us]
            refine ⟨rfl, by rw [hk3]; simp; omega, by rw [hk3]; simp; omega⟩
          refine Dn.round (j + 1, q0 ++ [aW l j], q1) ⟨by dsimp only; omega, hok⟩ (by dsimp only; omega) ?_ ?_
          · rw [us]; dsimp only; rw [show ((ev ++ [evOf 1 6 5 (aW l j)]).length : Int) = ev.length + 1 from by simp]; repeat(first|exact Env.le_nil _|(refine Env.le_cons rfl ?_ ?_;first|rfl|(simp;done)|exact congrArg _ (by omega)|rotate_left))
          · dsimp only
            rw [show List.set [(q0.length : Int), (q1.length : Int)] (Int.toNat 0) ((q0.length : Int) + 1) = [(q0.length : Int) + 1, (q1.length : Int)] from rfl, show (((q0 ++ [aW l j]).length : Nat) : Int) = (q0.length : Int) + 1 from by simp]
            exact ent_
        · have hq2 : ¬ q0.length < k := by omega
          rw [if_neg hq2, if_neg hq2] at us
          have hov : (UW kept l k fu (j + 1)).over = ov ++ [aW l j] := by rw [us]
          rw [hov] at hs1
          have hro : rd (UW kept l k fu l.length).over (ov.length : Int) = aW l j := by
            rw [hs1, rd_eq (by simp)]; simp
          have hol : ov.length < (UW kept l k fu l.length).over.length := by rw [hs1]; simp
          refine Cd.conv (Tk.more (p := rel2_pers (fun _ _ => inferInstance) _ _) (A := rel2 tkC to (UW kept l k fu l.length).over) (rel2_gotI (i := (ov.length : Int)) (by omega) (by omega)) (by exact tk_)) ?_
          rw [hro]
          first | (with_reducible refine Cd.g ?_; refine Cd.know (fun w hw => tkC_ok (Tk.sat (A := (tkC (rd to (ov.length : Int)) _)) (by exact tk_) hw)) fun hta => ?_) | (with_reducible refine Ol.g ?_; refine Ol.know (fun w hw => tkC_ok (Tk.sat (A := (tkC (rd to (ov.length : Int)) _)) (by exact tk_) hw)) fun hta => ?_) | (with_reducible refine Dn.g ?_; refine Dn.know (fun w hw => tkC_ok (Tk.sat (A := (tkC (rd to (ov.length : Int)) _)) (by exact tk_) hw)) fun hta => ?_)
          have eid : (rd to (ov.length : Int)).f_Id = j := congrArg AT.id hta.1
          refine go ?_
          rw [decide_eq_false (show ¬ (to.length : Int) ≤ (ov.length : Int) by omega)]
          refine go ?_
          rw [eid]
          refine go ?_
          rw [show decide ((j : Int) ≠ (j : Int)) = false from by simp]
          refine go ?_
          have hok : UOk kept k fu (j + 1) (UW kept l k fu (j + 1)) (q0) (q1) := by
            rw [us]
            refine ⟨rfl, by rw [hk3]; simp; omega, by rw [hk3]; simp; omega⟩
          refine Dn.round (j + 1, q0, q1) ⟨by dsimp only; omega, hok⟩ (by dsimp only; omega) ?_ ?_
          · rw [us]; dsimp only; rw [show ((ev ++ [evOf 1 6 5 (aW l j)]).length : Int) = ev.length + 1 from by simp, show ((ov ++ [aW l j]).length : Int) = ov.length + 1 from by simp]; repeat(first|exact Env.le_nil _|(refine Env.le_cons rfl ?_ ?_;first|rfl|(simp;done)|exact congrArg _ (by omega)|rotate_left))
          · exact ent_
      · rw [hw]
        have uu := pu_W1 k fu q0 q1 ev ov (aW l j) hw
        rw [uu] at us
        refine go ?_
        rw [show rd [(q0.length : Int), (q1.length : Int)] 1 = q1.length from rfl]
        refine Cd.condP rfl (fun hq => ?_) (fun hq => ?_)
        · have hq2 : q1.length < k := by omega
          rw [if_pos hq2, if_pos hq2] at us
          repeat(first|(with_reducible refine Ol.g ?_;first|(refine Ol.q rfl rfl rfl ?_ ?_;(first|exact True.intro|omega|(unfold in64;omega)|(simp only [List.length_append,List.length_cons,List.length_nil,List.length_set];omega)))|with_reducible refine Ol.nil ?_|refine Ol.skip rfl rfl ?_|refine Ol.eff rfl rfl rfl (Eff.x (Qx.build rfl) ?_)|refine Ol.skip0 rfl ?_|(refine Ol.ga ?_;dsimp only [List.append])|refine Ol.eff rfl rfl rfl (Eff.alloc fun _ => ?_)|refine Ol.eff rfl rfl rfl (Eff.box fun _ => ?_)|refine Ol.eff0 rfl rfl (Eff.store rfl rfl ?_)|refine Ol.eff rfl rfl rfl (Eff.bslice rfl rfl fun _ => ?_)|(refine Ol.eff0 rfl rfl (Eff.storeE rfl ?_ ?_);(first|exact True.intro|omega|(unfold in64;omega)|(simp only [List.length_append,List.length_cons,List.length_nil,List.length_set];omega)))|(refine Ol.eff rfl rfl rfl (Eff.append1 rfl ?_ fun _ => ?_);(first|exact True.intro|omega|(unfold in64;omega)|(simp only [List.length_append,List.length_cons,List.length_nil,List.length_set];omega))))|(with_reducible refine Cd.g ?_;first|with_reducible refine Cd.seq ?_|with_reducible refine Cd.region ?_|with_reducible refine Cd.skip ?_|with_reducible refine Cd.ret ?_|with_reducible refine Cd.block ?_|with_reducible refine Cd.exit ?_|(with_reducible refine Cd.condg ?_;first|refine Cd.cond_t rfl ?_|refine Cd.cond_f rfl ?_))|(with_reducible refine Dn.g ?_;first|with_reducible refine Dn.then ?_|with_reducible refine Dn.ret_then ?_|with_reducible refine Dn.ret_block ?_|with_reducible refine Dn.block ?_|with_reducible refine Dn.exit_then ?_|with_reducible refine Dn.exit_at ?_|with_reducible refine Dn.exit_by rfl ?_))
          rw [show rd [(q0.length : Int), (q1.length : Int)] 1 = q1.length from rfl]
          repeat(first|(with_reducible refine Ol.g ?_;first|(refine Ol.q rfl rfl rfl ?_ ?_;(first|exact True.intro|omega|(unfold in64;omega)|(simp only [List.length_append,List.length_cons,List.length_nil,List.length_set];omega)))|with_reducible refine Ol.nil ?_|refine Ol.skip rfl rfl ?_|refine Ol.eff rfl rfl rfl (Eff.x (Qx.build rfl) ?_)|refine Ol.skip0 rfl ?_|(refine Ol.ga ?_;dsimp only [List.append])|refine Ol.eff rfl rfl rfl (Eff.alloc fun _ => ?_)|refine Ol.eff rfl rfl rfl (Eff.box fun _ => ?_)|refine Ol.eff0 rfl rfl (Eff.store rfl rfl ?_)|refine Ol.eff rfl rfl rfl (Eff.bslice rfl rfl fun _ => ?_)|(refine Ol.eff0 rfl rfl (Eff.storeE rfl ?_ ?_);(first|exact True.intro|omega|(unfold in64;omega)|(simp only [List.length_append,List.length_cons,List.length_nil,List.length_set];omega)))|(refine Ol.eff rfl rfl rfl (Eff.append1 rfl ?_ fun _ => ?_);(first|exact True.intro|omega|(unfold in64;omega)|(simp only [List.length_append,List.length_cons,List.length_nil,List.length_set];omega))))|(with_reducible refine Cd.g ?_;first|with_reducible refine Cd.seq ?_|with_reducible refine Cd.region ?_|with_reducible refine Cd.skip ?_|with_reducible refine Cd.ret ?_|with_reducible refine Cd.block ?_|with_reducible refine Cd.exit ?_|(with_reducible refine Cd.condg ?_;first|refine Cd.cond_t rfl ?_|refine Cd.cond_f rfl ?_))|(with_reducible refine Dn.g ?_;first|with_reducible refine Dn.then ?_|with_reducible refine Dn.ret_then ?_|with_reducible refine Dn.ret_block ?_|with_reducible refine Dn.block ?_|with_reducible refine Dn.exit_then ?_|with_reducible refine Dn.exit_at ?_|with_reducible refine Dn.exit_by rfl ?_))
          have hok : UOk kept k fu (j + 1) (UW kept l k fu (j + 1)) (q0) (q1 ++ [aW l j]) := by
            rw [us]
            refine ⟨rfl, by rw [hk3]; simp; omega, by rw [hk3]; simp; omega⟩
          refine Dn.round (j + 1, q0, q1 ++ [aW l j]) ⟨by dsimp only; omega, hok⟩ (by dsimp only; omega) ?_ ?_
          · rw [us]; dsimp only; rw [show ((ev ++ [evOf 1 6 5 (aW l j)]).length : Int) = ev.length + 1 from by simp]; repeat(first|exact Env.le_nil _|(refine Env.le_cons rfl ?_ ?_;first|rfl|(simp;done)|exact congrArg _ (by omega)|rotate_left))
          · dsimp only
            rw [show List.set [(q0.length : Int), (q1.length : Int)] (Int.toNat 1) ((q1.length : Int) + 1) = [(q0.length : Int), (q1.length : Int) + 1] from rfl, show (((q1 ++ [aW l j]).length : Nat) : Int) = (q1.length : Int) + 1 from by simp]
            exact ent_
        · have hq2 : ¬ q1.length < k := by omega
          rw [if_neg hq2, if_neg hq2] at us
          have hov : (UW kept l k fu (j + 1)).over = ov ++ [aW l j] := by rw [us]
          rw [hov] at hs1
          have hro : rd (UW kept l k fu l.length).over (ov.length : Int) = aW l j := by
            rw [hs1, rd_eq (by simp)]; simp
          have hol : ov.length < (UW kept l k fu l.length).over.length := by rw [hs1]; simp
          refine Cd.conv (Tk.more (p := rel2_pers (fun _ _ => inferInstance) _ _) (A := rel2 tkC to (UW kept l k fu l.length).over) (rel2_gotI (i := (ov.length : Int)) (by omega) (by omega)) (by exact tk_)) ?_
          rw [hro]
          first | (with_reducible refine Cd.g ?_; refine Cd.know (fun w hw => tkC_ok (Tk.sat (A := (tkC (rd to (ov.length : Int)) _)) (by exact tk_) hw)) fun hta => ?_) | (with_reducible refine Ol.g ?_; refine Ol.know (fun w hw => tkC_ok (Tk.sat (A := (tkC (rd to (ov.length : Int)) _)) (by exact tk_) hw)) fun hta => ?_) | (with_reducible refine Dn.g ?_; refine Dn.know (fun w hw => tkC_ok (Tk.sat (A := (tkC (rd to (ov.length : Int)) _)) (by exact tk_) hw)) fun hta => ?_)
          have eid : (rd to (ov.length : Int)).f_Id = j := congrArg AT.id hta.1
          refine go ?_
          rw [decide_eq_false (show ¬ (to.length : Int) ≤ (ov.length : Int) by omega)]
          refine go ?_
          rw [eid]
          refine go ?_
          rw [show decide ((j : Int) ≠ (j : Int)) = false from by simp]
          refine go ?_
          have hok : UOk kept k fu (j + 1) (UW kept l k fu (j + 1)) (q0) (q1) := by
            rw [us]
            refine ⟨rfl, by rw [hk3]; simp; omega, by rw [hk3]; simp; omega⟩
          refine Dn.round (j + 1, q0, q1) ⟨by dsimp only; omega, hok⟩ (by dsimp only; omega) ?_ ?_
          · rw [us]; dsimp only; rw [show ((ev ++ [evOf 1 6 5 (aW l j)]).length : Int) = ev.length + 1 from by simp, show ((ov ++ [aW l j]).length : Int) = ov.length + 1 from by simp]; repeat(first|exact Env.le_nil _|(refine Env.le_cons rfl ?_ ?_;first|rfl|(simp;done)|exact congrArg _ (by omega)|rotate_left))
          · exact ent_
  · have hjl : j = l.length := by omega
    subst hjl
    refine go ?_
    rw [decide_eq_true (show ((UW kept l k fu l.length).ev.length : Int) = (UW kept l k fu l.length).ev.length from rfl)]
    refine go ?_
    rw [hto, decide_eq_true (show ((UW kept l k fu l.length).over.length : Int) = (UW kept l k fu l.length).over.length from rfl)]
    refine go ?_
    rw [hts]
    refine go ?_
    with_reducible refine Ol.g ?_
    refine Ol.eff rfl rfl rfl (Eff.call (R := ?_) (deck_Fuel p x (DW k fu Q0 Q1)) rfl ?_ ?_)
    rotate_left
    · exact tkl_
    rintro _ -
    dsimp only [List.cons_append, List.nil_append]
    refine go ?_
    rw [hfu, decide_eq_true (show fu = fu from rfl)]
    refine go ?_
    with_reducible refine Ol.g ?_
    refine Ol.eff rfl rfl rfl (Eff.call (R := ?_) (deck_Live p x (DW k fu Q0 Q1) [] 0 ((stW kept l.length).map fun i => ⟨aW l i, i⟩)) rfl ?_ ?_)
    rotate_left
    · exact tkl_
    rintro _ -
    dsimp only [List.cons_append, List.nil_append]
    refine go ?_
    refine Dn.ret1 rfl rfl fun w hs => ⟨(), ?_, by trivial, by first | exact hs | (refine hs.conv ?_; exact ent_)⟩
    simp [liveK, Hand.live]
    omega
end Go.Proofs.Ytihmbmoeedojoaa

