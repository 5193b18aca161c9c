-- Printed by wip/tools/oprint.py, a program of this session.
import Derived.Test.YtpeeneaapmmciaaPOtellsx0
import Derived.Test.YtpeeneaapmmciaaPOtellsx1
import Derived.Test.YtpeeneaapmmciaaPOtellsx3
namespace Go.Proofs.Ytpeeneaapmmciaa.POtells
open Go.RowKit Go.Proofs.YtpeeneaapmmciaaW.PrintWords Go.Proofs.YtpeeneaapmmciaaW.PrintLast Go.Proofs.YtpeeneaapmmciaaW.PrintMore
attribute [local go_sem] max2_int min2_int max_two min_two max_three min_three max_four min_four   -- for this text's walks alone
set_option linter.unusedVariables false
set_option linter.unusedSimpArgs false

/-! ### confidantlaw2_table: function 25 -/
/-- A square table. -/
def tabOf (n : Nat) (f : Nat → Nat → Bool) : List (List Bool) := (List.range n).map fun a => (List.range n).map fun b => f a b
theorem tabOf_len (n : Nat) (f : Nat → Nat → Bool) : (tabOf n f).length = n := by simp [tabOf]
theorem tabOf_row (n : Nat) (f : Nat → Nat → Bool) (a : Nat) (ha : a < n) : rd_L2 (tabOf n f) (a : Int) = (List.range n).map fun b => f a b := by
  unfold rd_L2 tabOf
  simp [ha]
theorem tabOf_at (n : Nat) (f : Nat → Nat → Bool) (a b : Nat) (ha : a < n) (hb : b < n) : at2 (tabOf n f) (a : Int) (b : Int) = f a b := by
  unfold at2
  rw [tabOf_row n f a ha]
  unfold rdOf
  simp [hb]
theorem tabOf_set (n : Nat) (f : Nat → Nat → Bool) (a b : Nat) (ha : a < n) (hb : b < n) (v : Bool) :
    (tabOf n f).set (a : Int).toNat ((rd_L2 (tabOf n f) (a : Int)).set (b : Int).toNat v) = tabOf n (fun x y => if x = a ∧ y = b then v else f x y) := by
  rw [tabOf_row n f a ha]
  simp only [Int.toNat_natCast]
  unfold tabOf
  apply List.ext_getElem
  · simp
  · intro x h1 h2
    simp only [List.length_set, List.length_map, List.length_range] at h1
    rw [List.getElem_set]
    by_cases hx : a = x
    · subst hx
      simp only [if_true, List.getElem_map, List.getElem_range]
      apply List.ext_getElem
      · simp
      · intro y h3 h4
        simp only [List.length_set, List.length_map, List.length_range] at h3
        rw [List.getElem_set]
        simp only [List.getElem_map, List.getElem_range]
        by_cases hy : b = y
        · subst hy; simp
        · rw [if_neg hy, if_neg (fun h => hy h.2.symm)]
    · rw [if_neg hx]
      simp only [List.getElem_map, List.getElem_range]
      apply List.map_congr_left
      intro y _
      rw [if_neg (fun h => hx h.1.symm)]
theorem tabOf_congr (n : Nat) (f g : Nat → Nat → Bool) (h : ∀ a b, a < n → b < n → f a b = g a b) : tabOf n f = tabOf n g := by
  unfold tabOf
  apply List.map_congr_left
  intro a ha
  apply List.map_congr_left
  intro b hb
  exact h a b (List.mem_range.1 ha) (List.mem_range.1 hb)
/-- A table of the call's own: what is read at two places, and what a store there leaves. -/
theorem tab_at {W : World} {base g n cap : Nat} {ok : Nat → Prop} {q : List (List Bool)} (h : Kd.S (Kd.slice 4 Kd.bool) 36 W base ok (.slice (some ⟨g, 0, none⟩) n cap) q) (a b : Int) (h0 : 0 ≤ a) (h1 : a < (n : Int)) (h2 : 0 ≤ b) (h3 : b < ((rd_L2 q a).length : Int)) :
    ∃ (g2 cap2 : Nat), W.cell? ⟨g, a.toNat, none⟩ = some (.slice (some ⟨g2, 0, none⟩) (rd_L2 q a).length cap2) ∧ W.cell? ⟨g2, b.toNat, none⟩ = some (.bool (at2 q a b)) ∧ W.frozen? ⟨g2, b.toNat, none⟩ = false ∧ base ≤ g2 ∧ g2 < W.heap.size ∧
      ∀ v : Bool, Kd.S (Kd.slice 4 Kd.bool) 36 (W.setCell ⟨g2, b.toNat, none⟩ (.bool v)) base ok (.slice (some ⟨g, 0, none⟩) n cap) (q.set a.toNat ((rd_L2 q a).set b.toNat v)) := by
  obtain ⟨oki, c, hc, hM, hcell, hok, hH⟩ := Kd.S_lend h ([] : List Bool) a h0 h1
  obtain ⟨v0, rfl, hR⟩ := hM
  have hR' : Kd.R Kd.bool 4 W base oki v0 (rd_L2 q a) := hR
  clear hR
  obtain ⟨g2, cap2, rfl, hb, hlt, cells, hcells⟩ := Kd.R_form hR' (by omega)
  obtain ⟨_, _, hC⟩ := Kd.R_reads' hR'
  obtain ⟨ad2, hA, hx⟩ := Kd.at_bool hC b h2 h3
  cases hA
  rw [add_plain] at hx
  refine ⟨g2, cap2, ?_, hx, blk_frozen hcells _, hb, hlt, fun v => ?_⟩
  · have := hcell 0 _ rfl
    rw [show a.toNat * Kd.sz (Kd.slice 4 Kd.bool) + 0 = a.toNat from by show a.toNat * 1 + 0 = _; omega] at this
    exact this
  · obtain ⟨hp, hg⟩ := Kd.R_put (enc := Value.bool) hR' b v
    refine Kd.H_back (Kd.H_grown hH hg (fun k hk => ?_)) (okp := oki) ⟨_, rfl, ?_⟩ (fun _ hk => hk)
    · exact hR'.1 k (by rw [← hk]; simp [Value.ownBlock])
    · have hl : ((rd_L2 q a).set b.toNat v).length = (rd_L2 q a).length := List.length_set ..
      exact hp
def flipB (bits : List Int) (a b : Nat) : Bool := decide (a < bits.length) && (Go.bits .and .u64 (rd bits (a : Int) / 2 ^ (3 * b)) 7 == 7)
def tab0 (base : Int) (a b : Nat) : Bool := if base % 3 = 1 then ((a : Int) == (b : Int)) else decide (a ≤ b)
def confidantlaw2_table.f (a0 : Int) (l1 : List Int) (a2 : Int) : Option (List (List Bool)) := if 0 ≤ a0 ∧ a0 < 256 then (if 0 ≤ a2 ∧ a2 < 256 then some (tabOf ((a0 % 6).toNat + 1) fun a b => tab0 a2 a b != flipB l1 a b) else none) else none
theorem chain_small : ∀ n : Fin 17, 1 ≤ n.val → confidantref2_Chain.f 400 (n.val : Int) = some (tabOf n.val fun a b => decide (a ≤ b)) := by decide +kernel
theorem chain_eq (n : Nat) (h : 1 ≤ n) (h2 : n ≤ 16) : confidantref2_Chain.f 400 (n : Int) = some (tabOf n fun a b => decide (a ≤ b)) := chain_small ⟨n, by omega⟩ h
/-- The loops' fact: the cells ahead of (a, b), row by row, are told by f, the others by f0. -/
def mixed (f f0 : Nat → Nat → Bool) (a b : Nat) (x y : Nat) : Bool := if x < a ∨ (x = a ∧ y < b) then f x y else f0 x y
theorem mixed_start (f f0 : Nat → Nat → Bool) : mixed f f0 0 0 = f0 := by
  funext x y; unfold mixed; rw [if_neg (by omega)]
theorem mixed_step (n : Nat) (f f0 : Nat → Nat → Bool) (a b : Nat) : tabOf n (fun x y => if x = a ∧ y = b then f a b else mixed f f0 a b x y) = tabOf n (mixed f f0 a (b + 1)) := by
  apply tabOf_congr
  intro x y _ _
  unfold mixed
  by_cases h : x = a ∧ y = b
  · obtain ⟨rfl, rfl⟩ := h; rw [if_pos ⟨rfl, rfl⟩, if_pos (by omega)]
  · rw [if_neg h]
    by_cases h2 : x < a ∨ (x = a ∧ y < b)
    · rw [if_pos h2, if_pos (by omega)]
    · rw [if_neg h2, if_neg (by omega)]
theorem mixed_row (n : Nat) (f f0 : Nat → Nat → Bool) (a : Nat) : tabOf n (mixed f f0 a n) = tabOf n (mixed f f0 (a + 1) 0) := by
  apply tabOf_congr
  intro x y _ hy
  unfold mixed
  by_cases h2 : x < a ∨ (x = a ∧ y < n)
  · rw [if_pos h2, if_pos (by omega)]
  · rw [if_neg h2, if_neg (by omega)]
theorem mixed_end (n : Nat) (f f0 : Nat → Nat → Bool) (a : Nat) (h : n ≤ a) : tabOf n (mixed f f0 a 0) = tabOf n f := by
  apply tabOf_congr
  intro x y hx _
  unfold mixed
  rw [if_pos (by omega)]
theorem mixed_end2 (n : Nat) (bits : List Int) (f0 : Nat → Nat → Bool) (a : Nat) (h : bits.length ≤ a) : tabOf n (mixed (fun a b => f0 a b != flipB bits a b) f0 a 0) = tabOf n (fun a b => f0 a b != flipB bits a b) := by
  apply tabOf_congr
  intro x y hx _
  unfold mixed
  by_cases h2 : x < a ∨ (x = a ∧ y < 0)
  · rw [if_pos h2]
  · rw [if_neg h2]
    have : flipB bits x y = false := by unfold flipB; rw [decide_eq_false (by omega)]; rfl
    rw [this]; simp
set_option maxHeartbeats 800000 in
theorem confidantlaw2_table.calls (a0 : Int) (A1 : Option Addr) (c1 : Nat) (l1 : List Int) (a2 : Int) (r : List (List Bool)) (w : World) (hr1 : Kd.C (Kd.int .u64) w A1 l1.length l1) (hc1 : l1.length ≤ c1) (h : confidantlaw2_table.f a0 l1 a2 = some r) :
    Calls Try.prog 25 #[.int .u8 a0, .slice A1 l1.length c1, .int .u8 a2] w fun e w' => ∃ v0_ : Value, e = .returned (v0_) ∧ Kd.S (Kd.slice 4 Kd.bool) 36 w' w.heap.size (fun _ => True) v0_ r ∧ Below w.heap.size w w' := by
  unfold confidantlaw2_table.f at h
  by_cases h0 : 0 ≤ a0 ∧ a0 < 256
  · by_cases h2 : 0 ≤ a2 ∧ a2 < 256
    · rw [if_pos h0, if_pos h2] at h
      obtain rfl := Option.some.inj h
      clear h
      obtain ⟨h0, h01⟩ := h0
      obtain ⟨h2, h21⟩ := h2
      obtain ⟨m, hm⟩ : ∃ m : Nat, (a0 % 6).toNat + 1 = m := ⟨_, rfl⟩
      have hm1 : 1 ≤ m := by omega
      have hm6 : m ≤ 6 := by omega
      have EM : Aside0 (a0 % 6 + 1 = (m : Int)) := ⟨by omega⟩
      rw [hm]
      clear hm
      generalize hF : (fun a b => tab0 a2 a b != flipB l1 a b) = F
      have HFF := Aside0.mk hF
      clear hF
      have HR := Aside0.mk hr1
      clear hr1
      go_enter Try.func25, Try.ntmps25
      go_wp2_with fail
      rw [EM.out]
      clear h0 h01
      refine (confidantref2_Chain.calls 400 (m : Int) _ _ (chain_eq m hm1 (by omega))).mono ?_
      rintro e w1 ⟨v0, rfl, hs, hb⟩
      obtain ⟨g, cap, rfl, -, hg⟩ := Kd.S_form hs (by rw [tabOf_len]; omega)
      rw [tabOf_len] at hs
      simp only [tabOf_len]
      have HB := Aside0.mk hb
      have HS := Aside0.mk hs
      have hgl := hg.1
      clear hs hb hg
      -- the first two loops
      have M0 := Aside0.mk (congrArg (tabOf m) (mixed_start F (tab0 a2)))
      by_cases hb3 : a2 % 3 = 1
      · have hb3' : ((a2 % 3) == 1) = true := by simpa using hb3
        have HB3 := Aside0.mk hb3
        clear hb3
        go_wp2
        have C0 := congrArg (tabOf m) (mixed_start (fun a b => ((a : Int) == (b : Int))) (fun a b => decide (a ≤ b)))
        rw [← C0] at HS
        clear C0
        go_loopw [9] (fun i wr => ∃ a : Nat, a ≤ m ∧ i = .int .i64 (a : Int) ∧ Aside0 (Kd.S (Kd.slice 4 Kd.bool) 36 wr w.heap.size (fun _ => True) (.slice (some ⟨g, 0, none⟩) m cap) (tabOf m (mixed (fun a b => ((a : Int) == (b : Int))) (fun a b => decide (a ≤ b)) a 0))) ∧ Aside0 (Below w.heap.size w wr)) (fun i _ => m - (intOf i).toNat)
        case atStart => exact ⟨0, Nat.zero_le _, rfl, HS, HB⟩
        case round =>
          clear HS HB
          obtain ⟨a, ha, rfl, HS, HB⟩ := hrel
          by_cases hlt : a < m
          · go_wp2_with fail
            go_loopw [10] (fun i wr => ∃ b : Nat, b ≤ m ∧ i = .int .i64 (b : Int) ∧ Aside0 (Kd.S (Kd.slice 4 Kd.bool) 36 wr w.heap.size (fun _ => True) (.slice (some ⟨g, 0, none⟩) m cap) (tabOf m (mixed (fun a b => ((a : Int) == (b : Int))) (fun a b => decide (a ≤ b)) a b))) ∧ Aside0 (Below w.heap.size w wr)) (fun i _ => m - (intOf i).toNat)
            case atStart => exact ⟨0, Nat.zero_le _, rfl, HS, HB⟩
            case round =>
              clear HS HB
              obtain ⟨b, hb, rfl, HS, HB⟩ := hrel
              by_cases hlt2 : b < m
              · obtain ⟨g2, cap2, hx, hx2, hz, hge, hgl2, hput⟩ := tab_at HS.out (a : Int) (b : Int) (by omega) (by omega) (by omega) (by rw [tabOf_row m _ a hlt, List.length_map, List.length_range]; omega)
                rw [tabOf_row m _ a hlt, List.length_map, List.length_range] at hx
                have hput' := hput ((a : Int) == (b : Int))
                rw [tabOf_set m _ a b hlt hlt2, mixed_step m (fun a b => ((a : Int) == (b : Int)))] at hput'
                have HP := Aside0.mk hput'
                simp only [Int.toNat_natCast] at hx hx2 hz HP
                clear hput hput' HS
                go_wp2
                go_roundw
                case rel => exact ⟨b + 1, by omega, by go_num, HP, ⟨below_set HB.out hge⟩⟩
                case measure => simp [intOf]; omega
              · have hbe : b = m := by omega
                subst hbe
                go_wp2
                go_roundw
                case rel => exact ⟨a + 1, by omega, by go_num, ⟨by rw [← mixed_row]; exact HS.out⟩, HB⟩
                case measure => simp [intOf]; omega
          · have HS2 : Aside0 (Kd.S (Kd.slice 4 Kd.bool) 36 wr w.heap.size (fun _ => True) (.slice (some ⟨g, 0, none⟩) m cap) (tabOf m (tab0 a2))) := ⟨by
              have e1 := mixed_end m (fun (a b : Nat) => ((a : Int) == (b : Int))) (fun a b => decide (a ≤ b)) a (by omega)
              have e2 : tab0 a2 = (fun (a b : Nat) => ((a : Int) == (b : Int))) := by funext x y; unfold tab0; rw [if_pos HB3.out]
              rw [e2, ← e1]; exact HS.out⟩
            clear HS
            go_wp2
            rw [← M0.out] at HS2
            go_loopw [11] (fun i wr => ∃ a : Nat, a ≤ m ∧ i = .int .i64 (a : Int) ∧ Aside0 (Kd.S (Kd.slice 4 Kd.bool) 36 wr w.heap.size (fun _ => True) (.slice (some ⟨g, 0, none⟩) m cap) (tabOf m (mixed F (tab0 a2) a 0))) ∧ Aside0 (Below w.heap.size w wr)) (fun i _ => m - (intOf i).toNat)
            case atStart => exact ⟨0, Nat.zero_le _, rfl, HS2, HB⟩
            case round =>
              clear HS2 HB
              obtain ⟨a, ha, rfl, HS, HB⟩ := hrel
              by_cases hlt : a < m
              · by_cases hlb : a < l1.length
                · obtain ⟨ad, hA, hq⟩ := Kd.at_int (Kd.C_below HR.out HB.out) (a : Int) (by omega) (by omega)
                  have HA := Aside0.mk hA
                  simp only [Int.toNat_natCast] at hq
                  clear hA
                  go_wp2_with fail
                  go_loopw [12] (fun i wr => ∃ b : Nat, b ≤ m ∧ i = .int .i64 (b : Int) ∧ Aside0 (Kd.S (Kd.slice 4 Kd.bool) 36 wr w.heap.size (fun _ => True) (.slice (some ⟨g, 0, none⟩) m cap) (tabOf m (mixed F (tab0 a2) a b))) ∧ Aside0 (Below w.heap.size w wr)) (fun i _ => m - (intOf i).toNat)
                  case atStart => exact ⟨0, Nat.zero_le _, rfl, HS, HB⟩
                  case round =>
                    clear HS HB hq
                    obtain ⟨b, hb, rfl, HS, HB⟩ := hrel
                    by_cases hlt2 : b < m
                    · obtain ⟨ad', hA, hq⟩ := Kd.at_int (Kd.C_below HR.out HB.out) (a : Int) (by omega) (by omega)
                      obtain ⟨g2, cap2, hx, hx2, hz, hge, hgl2, hput⟩ := tab_at HS.out (a : Int) (b : Int) (by omega) (by omega) (by omega) (by rw [tabOf_row m _ a hlt, List.length_map, List.length_range]; omega)
                      rw [tabOf_row m _ a hlt, List.length_map, List.length_range] at hx
                      rw [tabOf_at m _ a b hlt hlt2] at hx2
                      have hmx : mixed F (tab0 a2) a b a b = tab0 a2 a b := by unfold mixed; rw [if_neg (by omega)]
                      rw [hmx] at hx2
                      clear hmx
                      simp only [Int.toNat_natCast] at hx hx2 hz hq
                      subst hA
                      generalize hv : tab0 a2 a b = v at *
                      generalize hu : rd l1 (a : Int) = u at *
                      cases hfl : (Go.bits .and .u64 (u / 2 ^ (3 * b)) 7 == 7) with
                      | true =>
                        have hput' := hput (!v)
                        have hF : F a b = !v := by rw [← HFF.out]; show (tab0 a2 a b != flipB l1 a b) = !v; unfold flipB; rw [hu, hfl, hv, decide_eq_true hlb]; simp
                        rw [tabOf_set m _ a b hlt hlt2, ← hF, mixed_step m F] at hput'
                        rw [hF] at hput'
                        have HP := Aside0.mk hput'
                        have HU := Aside0.mk hu
                        have HV := Aside0.mk hv
                        simp only [Int.toNat_natCast] at HP
                        clear hput hput' HS hF hu hv
                        go_wp2
                        go_region
                        all_goals
                          go_wp2
                          go_roundw
                          case rel => exact ⟨b + 1, by omega, by go_num, ⟨by (with_reducible repeat (first | apply Kd.S_alloc | apply Kd.S_drewN | apply Kd.S_drew)); exact HP.out⟩, ⟨by repeat (first | exact below_set HB.out hge | apply below_alloc | apply pw_below_drewN | apply below_drew1)⟩⟩
                          case measure => simp [intOf]; omega
                      | false =>
                        have hF : F a b = v := by rw [← HFF.out]; show (tab0 a2 a b != flipB l1 a b) = v; unfold flipB; rw [hu, hfl, hv, decide_eq_true hlb]; simp
                        have HN : Aside0 (tabOf m (mixed F (tab0 a2) a (b + 1)) = tabOf m (mixed F (tab0 a2) a b)) := ⟨by
                          rw [← mixed_step m F]
                          apply tabOf_congr
                          intro x y _ _
                          by_cases h : x = a ∧ y = b
                          · rw [if_pos h, hF]; obtain ⟨rfl, rfl⟩ := h; unfold mixed; rw [if_neg (by omega), hv]
                          · rw [if_neg h]⟩
                        clear hput hF hu hv
                        go_wp2
                        go_roundw
                        case rel => exact ⟨b + 1, by omega, by go_num, ⟨by rw [HN.out]; exact HS.out⟩, HB⟩
                        case measure => simp [intOf]; omega
                    · have hbe : b = m := by omega
                      subst hbe
                      go_wp2
                      go_roundw
                      case rel => exact ⟨a + 1, by omega, by go_num, ⟨by rw [← mixed_row]; exact HS.out⟩, HB⟩
                      case measure => simp [intOf]; omega
                · have hfin : tabOf m (mixed F (tab0 a2) a 0) = tabOf m F := by rw [← HFF.out]; exact mixed_end2 m l1 (tab0 a2) a (by omega)
                  rw [hfin] at HS
                  clear hfin
                  go_wp2
                  go_ret
                  exact ⟨_, rfl, HS.out, HB.out⟩
              · have hfin : tabOf m (mixed F (tab0 a2) a 0) = tabOf m F := mixed_end m F (tab0 a2) a (by omega)
                rw [hfin] at HS
                clear hfin
                go_wp2
                go_ret
                exact ⟨_, rfl, HS.out, HB.out⟩
      · have HS2 : Aside0 (Kd.S (Kd.slice 4 Kd.bool) 36 w1 w.heap.size (fun _ => True) (.slice (some ⟨g, 0, none⟩) m cap) (tabOf m (tab0 a2))) := ⟨by
          have e2 : tab0 a2 = (fun a b => decide (a ≤ b)) := by funext x y; unfold tab0; rw [if_neg hb3]
          rw [e2]; exact HS.out⟩
        have hb3' : ((a2 % 3) == 1) = false := by simpa using hb3
        clear HS hb3
        go_wp2
        rw [← M0.out] at HS2
        go_loopw [11] (fun i wr => ∃ a : Nat, a ≤ m ∧ i = .int .i64 (a : Int) ∧ Aside0 (Kd.S (Kd.slice 4 Kd.bool) 36 wr w.heap.size (fun _ => True) (.slice (some ⟨g, 0, none⟩) m cap) (tabOf m (mixed F (tab0 a2) a 0))) ∧ Aside0 (Below w.heap.size w wr)) (fun i _ => m - (intOf i).toNat)
        case atStart => exact ⟨0, Nat.zero_le _, rfl, HS2, HB⟩
        case round =>
          clear HS2 HB
          obtain ⟨a, ha, rfl, HS, HB⟩ := hrel
          by_cases hlt : a < m
          · by_cases hlb : a < l1.length
            · obtain ⟨ad, hA, hq⟩ := Kd.at_int (Kd.C_below HR.out HB.out) (a : Int) (by omega) (by omega)
              have HA := Aside0.mk hA
              simp only [Int.toNat_natCast] at hq
              clear hA
              go_wp2_with fail
              go_loopw [12] (fun i wr => ∃ b : Nat, b ≤ m ∧ i = .int .i64 (b : Int) ∧ Aside0 (Kd.S (Kd.slice 4 Kd.bool) 36 wr w.heap.size (fun _ => True) (.slice (some ⟨g, 0, none⟩) m cap) (tabOf m (mixed F (tab0 a2) a b))) ∧ Aside0 (Below w.heap.size w wr)) (fun i _ => m - (intOf i).toNat)
              case atStart => exact ⟨0, Nat.zero_le _, rfl, HS, HB⟩
              case round =>
                clear HS HB hq
                obtain ⟨b, hb, rfl, HS, HB⟩ := hrel
                by_cases hlt2 : b < m
                · obtain ⟨ad', hA, hq⟩ := Kd.at_int (Kd.C_below HR.out HB.out) (a : Int) (by omega) (by omega)
                  obtain ⟨g2, cap2, hx, hx2, hz, hge, hgl2, hput⟩ := tab_at HS.out (a : Int) (b : Int) (by omega) (by omega) (by omega) (by rw [tabOf_row m _ a hlt, List.length_map, List.length_range]; omega)
                  rw [tabOf_row m _ a hlt, List.length_map, List.length_range] at hx
                  rw [tabOf_at m _ a b hlt hlt2] at hx2
                  have hmx : mixed F (tab0 a2) a b a b = tab0 a2 a b := by unfold mixed; rw [if_neg (by omega)]
                  rw [hmx] at hx2
                  clear hmx
                  simp only [Int.toNat_natCast] at hx hx2 hz hq
                  subst hA
                  generalize hv : tab0 a2 a b = v at *
                  generalize hu : rd l1 (a : Int) = u at *
                  cases hfl : (Go.bits .and .u64 (u / 2 ^ (3 * b)) 7 == 7) with
                  | true =>
                    have hput' := hput (!v)
                    have hF : F a b = !v := by rw [← HFF.out]; show (tab0 a2 a b != flipB l1 a b) = !v; unfold flipB; rw [hu, hfl, hv, decide_eq_true hlb]; simp
                    rw [tabOf_set m _ a b hlt hlt2, ← hF, mixed_step m F] at hput'
                    rw [hF] at hput'
                    have HP := Aside0.mk hput'
                    have HU := Aside0.mk hu
                    have HV := Aside0.mk hv
                    simp only [Int.toNat_natCast] at HP
                    clear hput hput' HS hF hu hv
                    go_wp2
                    go_region
                    all_goals
                      go_wp2
                      go_roundw
                      case rel => exact ⟨b + 1, by omega, by go_num, ⟨by (with_reducible repeat (first | apply Kd.S_alloc | apply Kd.S_drewN | apply Kd.S_drew)); exact HP.out⟩, ⟨by repeat (first | exact below_set HB.out hge | apply below_alloc | apply pw_below_drewN | apply below_drew1)⟩⟩
                      case measure => simp [intOf]; omega
                  | false =>
                    have hF : F a b = v := by rw [← HFF.out]; show (tab0 a2 a b != flipB l1 a b) = v; unfold flipB; rw [hu, hfl, hv, decide_eq_true hlb]; simp
                    have HN : Aside0 (tabOf m (mixed F (tab0 a2) a (b + 1)) = tabOf m (mixed F (tab0 a2) a b)) := ⟨by
                      rw [← mixed_step m F]
                      apply tabOf_congr
                      intro x y _ _
                      by_cases h : x = a ∧ y = b
                      · rw [if_pos h, hF]; obtain ⟨rfl, rfl⟩ := h; unfold mixed; rw [if_neg (by omega), hv]
                      · rw [if_neg h]⟩
                    clear hput hF hu hv
                    go_wp2
                    go_roundw
                    case rel => exact ⟨b + 1, by omega, by go_num, ⟨by rw [HN.out]; exact HS.out⟩, HB⟩
                    case measure => simp [intOf]; omega
                · have hbe : b = m := by omega
                  subst hbe
                  go_wp2
                  go_roundw
                  case rel => exact ⟨a + 1, by omega, by go_num, ⟨by rw [← mixed_row]; exact HS.out⟩, HB⟩
                  case measure => simp [intOf]; omega
            · have hfin : tabOf m (mixed F (tab0 a2) a 0) = tabOf m F := by rw [← HFF.out]; exact mixed_end2 m l1 (tab0 a2) a (by omega)
              rw [hfin] at HS
              clear hfin
              go_wp2
              go_ret
              exact ⟨_, rfl, HS.out, HB.out⟩
          · have hfin : tabOf m (mixed F (tab0 a2) a 0) = tabOf m F := mixed_end m F (tab0 a2) a (by omega)
            rw [hfin] at HS
            clear hfin
            go_wp2
            go_ret
            exact ⟨_, rfl, HS.out, HB.out⟩
    · rw [if_pos h0, if_neg h2] at h; cases h
  · rw [if_neg h0] at h; cases h

/-! ### confidantref2_Square: function 27 -/
mutual
def confidantref2_Square.j0 : Nat → List (List Bool) → Bool → Option (Bool)
  | 0, _, _ => none
  | k + 1, x0, x11 => if x11 = true then (some false) else (confidantref2_Square.l0 k x0 0)
def confidantref2_Square.l0 : Nat → List (List Bool) → Int → Option (Bool)
  | 0, _, _ => none
  | k + 1, x0, x3 => if x3 < (x0.length : Int) then (if 0 ≤ x3 then (if ((rd_L2 x0 x3).length : Int) = (x0.length : Int) then (confidantref2_Square.l0 k x0 (wrap64 (x3 + 1))) else (some false)) else (none)) else (some true)
end
def confidantref2_Square.f (k : Nat) (l0 : List (List Bool)) : Option (Bool) := if (l0.length : Int) < 1 then (confidantref2_Square.j0 k l0 true) else (confidantref2_Square.j0 k l0 (decide ((l0.length : Int) > 16)))
theorem confidantref2_Square.mono_l : ∀ k, (∀ y0 y1, LeO (confidantref2_Square.j0 k y0 y1) (confidantref2_Square.j0 (k + 1) y0 y1)) ∧ (∀ y0 y1, LeO (confidantref2_Square.l0 k y0 y1) (confidantref2_Square.l0 (k + 1) y0 y1))
  | 0 => ⟨fun _ _ r h => by simp [confidantref2_Square.j0] at h, fun _ _ r h => by simp [confidantref2_Square.l0] at h⟩
  | k + 1 => by
    obtain ⟨ih0, ih1⟩ := confidantref2_Square.mono_l k
    refine ⟨?_, ?_⟩
    · intro y0 y1
      unfold confidantref2_Square.j0
      repeat' first
      | (with_reducible exact ih0 _ _)
      | (with_reducible exact ih1 _ _)
      | (with_reducible exact LeO.refl _)
      | (with_reducible exact LeO.none _)
      | (with_reducible refine LeO.ite ?_ ?_)
      | (with_reducible refine LeO.bind ?_ (fun _ => ?_))
      | exact ih0 _ _
      | exact ih1 _ _
      | exact LeO.none _
      | refine LeO.ite ?_ ?_
      | refine LeO.bind ?_ (fun _ => ?_)
    · intro y0 y1
      unfold confidantref2_Square.l0
      repeat' first
      | (with_reducible exact ih0 _ _)
      | (with_reducible exact ih1 _ _)
      | (with_reducible exact LeO.refl _)
      | (with_reducible exact LeO.none _)
      | (with_reducible refine LeO.ite ?_ ?_)
      | (with_reducible refine LeO.bind ?_ (fun _ => ?_))
      | exact ih0 _ _
      | exact ih1 _ _
      | exact LeO.none _
      | refine LeO.ite ?_ ?_
      | refine LeO.bind ?_ (fun _ => ?_)
theorem confidantref2_Square.mono : ∀ a0 k, LeO (confidantref2_Square.f k a0) (confidantref2_Square.f (k + 1) a0) := by
  intro a0 k
  obtain ⟨ih0, ih1⟩ := confidantref2_Square.mono_l k
  unfold confidantref2_Square.f
  repeat' first
      | (with_reducible exact ih0 _ _)
      | (with_reducible exact ih1 _ _)
      | (with_reducible exact LeO.refl _)
      | (with_reducible exact LeO.none _)
      | (with_reducible refine LeO.ite ?_ ?_)
      | (with_reducible refine LeO.bind ?_ (fun _ => ?_))
      | exact ih0 _ _
      | exact ih1 _ _
      | exact LeO.none _
      | refine LeO.ite ?_ ?_
      | refine LeO.bind ?_ (fun _ => ?_)
set_option maxHeartbeats 8000000 in
set_option maxRecDepth 100000 in
theorem confidantref2_Square.calls (k : Nat) (A0 : Option Addr) (c0 : Nat) (l0 : List (List Bool)) (r : Bool) (w : World) (hr0 : Kd.C (Kd.slice 4 Kd.bool) w A0 l0.length l0) (hc0 : l0.length ≤ c0) (h : confidantref2_Square.f k l0 = some r) :
    Calls Try.prog 27 #[.slice A0 l0.length c0] w fun e w' => e = .returned (.bool r) ∧ Drawn0 w w' := by
  have HR0 := Aside0.mk hr0
  have HC0 := Aside0.mk hc0
  clear hr0 hc0
  have H : (if (l0.length : Int) < 1 then (confidantref2_Square.j0 k l0 true) else (confidantref2_Square.j0 k l0 (decide ((l0.length : Int) > 16)))) = some r := h
  clear h
  have HC2 := Aside0.mk H
  clear H
  go_enter Try.func27, Try.ntmps27
  go_upto_region 1 with (fail)
  go_cut [11] (fun v11 wc => ∃ (kq : Nat) (x11_1 : Bool), v11 = .bool x11_1 ∧ Aside0 (confidantref2_Square.j0 kq l0 x11_1 = some r) ∧ Aside0 (kq ≤ k) ∧ Drawn0 w wc)
  case first =>
    have H := HC2.out
    clear HC2
    by_cases c3 : (l0.length : Int) < 1
    · rw [if_pos c3] at H
      have c3b0 : decide ((l0.length : Int) < 1) = true := decide_eq_true c3
      have c3b1 : decide (l0.length < 1) = true := decide_eq_true (by omega)
      clear c3
      (first | rw [c3b0] | (simp only [i64_w, i32_w]; rw [c3b0]) | skip)
      have H' := Aside0.mk H
      clear H
      go_wp2
      go_meet
      case rel => exact ⟨_, (true), (by first | rfl | (simp; done) | (simp [*]; done)), H', ⟨by first | omega | exact Nat.le_refl _⟩, by repeat (first | exact Drawn0.refl _ | apply Drawn0.step)⟩
    · rw [if_neg c3] at H
      have c3b0 : decide ((l0.length : Int) < 1) = false := decide_eq_false c3
      have c3b1 : decide (l0.length < 1) = false := decide_eq_false (by omega)
      clear c3
      (first | rw [c3b0] | (simp only [i64_w, i32_w]; rw [c3b0]) | skip)
      have H' := Aside0.mk H
      clear H
      go_wp2
      go_meet
      case rel => exact ⟨_, (decide ((l0.length : Int) > 16)), (by first | rfl | (simp; done) | (simp [*]; done)), H', ⟨by first | omega | exact Nat.le_refl _⟩, by repeat (first | exact Drawn0.refl _ | apply Drawn0.step)⟩
  case rest =>
    clear HC2
    try clear c2
    try clear p2
    try clear c3
    try clear c3b0
    try clear c3b1
    obtain ⟨kq, x11_1, rfl, HA, HJ1, ⟨mc1, rfl⟩⟩ := hcut
    cases kq with
    | zero => exact absurd HA.out (by simp [confidantref2_Square.j0])
    | succ kj1 =>
      have H := HA.out
      clear HA
      simp only [confidantref2_Square.j0] at H
      by_cases c4 : x11_1 = true
      · subst c4
        have H1 : (some false) = some r := by rw [if_pos rfl] at H; exact H
        clear H
        have H := H1
        clear H1
        obtain rfl := Option.some.inj H
        go_wp2
        go_ret
        exact ⟨by first | rfl | (simp; done) | (simp [*]; done), by repeat (first | exact Drawn0.refl _ | apply Drawn0.step)⟩
      · replace c4 := Bool.eq_false_iff.mpr c4
        subst c4
        have H1 : (confidantref2_Square.l0 kj1 l0 0) = some r := by rw [if_neg (show ¬ (false = true) by decide)] at H; exact H
        clear H
        have H := H1
        clear H1
        have H' := Aside0.mk H
        clear H
        go_wp2
        go_loopg [3] kj1 (fun kq v3 w' => ∃ (x3_2 : Int), v3 = .int .i64 x3_2 ∧ Aside0 (confidantref2_Square.l0 kq l0 x3_2 = some r) ∧ Aside0 (kq ≤ kj1) ∧ Drawn0 w w')
        case atStart => exact ⟨(0), (by first | rfl | (simp; done) | (simp [*]; done)), H', ⟨Nat.le_refl _⟩, by repeat (first | exact Drawn0.refl _ | apply Drawn0.step)⟩
        case round =>
          clear H'
          try clear c1
          try clear c2
          try clear p2
          try clear c3
          try clear c3b0
          try clear c3b1
          try clear c4
          try clear p2
          obtain ⟨x3_2, rfl, HA, HK2, ⟨m2, rfl⟩⟩ := hrel
          cases gk with
          | zero => exact absurd HA.out (by simp [confidantref2_Square.l0])
          | succ k2 =>
            have H := HA.out
            clear HA
            simp only [confidantref2_Square.l0] at H
            by_cases c5 : x3_2 < (l0.length : Int)
            · rw [if_pos c5] at H
              have c5b0 : decide (x3_2 < (l0.length : Int)) = true := decide_eq_true c5
              clear c5
              by_cases c6 : 0 ≤ x3_2
              · rw [if_pos c6] at H
                have c6b0 : decide (0 ≤ x3_2) = true := decide_eq_true c6
                clear c6
                by_cases c7 : ((rd_L2 l0 x3_2).length : Int) = (l0.length : Int)
                · rw [if_pos c7] at H
                  have c7b0 : (((rd_L2 l0 x3_2).length : Int) == (l0.length : Int)) = true := beq_iff_eq.mpr c7
                  have c7b1 : (((rd_L2 l0 x3_2).length : Int) != (l0.length : Int)) = false := bne_eq_false_iff_eq.mpr c7
                  have c7b2 : ((rd_L2 l0 x3_2).length == l0.length) = true := by first | simpa using c7 | (simp at c7 ⊢; omega)
                  clear c7
                  have H' := Aside0.mk H
                  clear H
                  have p148 : 0 ≤ (x3_2 : Int) := of_decide_eq_true (by first | (with_reducible assumption) | assumption)
                  have q148 : x3_2 < (l0.length : Int) := of_decide_eq_true (by first | (with_reducible assumption) | assumption)
                  obtain ⟨ad148, A148_0, c148_0, e148, hx148_0, hl148_0, hi148_0⟩ := at_L2 HR0.out x3_2 p148 q148
                  cases e148
                  have HR148_0 := Aside0.mk hi148_0
                  have HC148_0 := Aside0.mk hl148_0
                  clear hi148_0 hl148_0
                  replace p148 := eq_true p148
                  replace q148 := eq_true q148
                  go_wp2
                  go_roundg k2
                  case measure => have := HJ1.out; have := HK2.out; omega
                  case rel => exact ⟨(wrap64 (x3_2 + 1)), (by first | rfl | (simp; done) | (simp [*]; done)), H', ⟨by have := HJ1.out; have := HK2.out; omega⟩, by repeat (first | exact Drawn0.refl _ | apply Drawn0.step)⟩
                · rw [if_neg c7] at H
                  have c7b0 : (((rd_L2 l0 x3_2).length : Int) == (l0.length : Int)) = false := beq_eq_false_iff_ne.mpr c7
                  have c7b1 : (((rd_L2 l0 x3_2).length : Int) != (l0.length : Int)) = true := bne_iff_ne.mpr c7
                  have c7b2 : ((rd_L2 l0 x3_2).length == l0.length) = false := by first | simpa using c7 | (simp at c7 ⊢; omega)
                  obtain rfl := Option.some.inj H
                  have p148 : 0 ≤ (x3_2 : Int) := of_decide_eq_true (by first | (with_reducible assumption) | assumption)
                  have q148 : x3_2 < (l0.length : Int) := of_decide_eq_true (by first | (with_reducible assumption) | assumption)
                  obtain ⟨ad148, A148_0, c148_0, e148, hx148_0, hl148_0, hi148_0⟩ := at_L2 HR0.out x3_2 p148 q148
                  cases e148
                  have HR148_0 := Aside0.mk hi148_0
                  have HC148_0 := Aside0.mk hl148_0
                  clear hi148_0 hl148_0
                  replace p148 := eq_true p148
                  replace q148 := eq_true q148
                  go_wp2
                  go_ret
                  exact ⟨by first | rfl | (simp; done) | (simp [*]; done), by repeat (first | exact Drawn0.refl _ | apply Drawn0.step)⟩
              · rw [if_neg c6] at H
                exact absurd H (by simp)
            · rw [if_neg c5] at H
              have c5b0 : decide (x3_2 < (l0.length : Int)) = false := decide_eq_false c5
              clear c5
              obtain rfl := Option.some.inj H
              go_wp2
              go_ret
              exact ⟨by first | rfl | (simp; done) | (simp [*]; done), by repeat (first | exact Drawn0.refl _ | apply Drawn0.step)⟩

/-! ### confidantref2_Reflexive: function 29 -/
mutual
def confidantref2_Reflexive.l0 : Nat → List (List Bool) → Int → Option (Bool)
  | 0, _, _ => none
  | k + 1, x0, x3 => if x3 < (x0.length : Int) then ((confidantref2_Square.f k x0).bind fun t149 => (confidantref2_Reflexive.j1 k x0 x3 t149)) else (confidantref2_Reflexive.j1 k x0 x3 false)
def confidantref2_Reflexive.j1 : Nat → List (List Bool) → Int → Bool → Option (Bool)
  | 0, _, _, _ => none
  | k + 1, x0, x3, x11 => if x11 = true then (if 0 ≤ x3 then (if x3 < (x0.length : Int) then (if x3 < ((rd_L2 x0 x3).length : Int) then (if (rdOf false (rd_L2 x0 x3) x3 = true) then (confidantref2_Reflexive.l0 k x0 (wrap64 (x3 + 1))) else (some false)) else (none)) else (none)) else (none)) else ((confidantref2_Square.f k x0).bind fun t152 => (some t152))
end
def confidantref2_Reflexive.f (k : Nat) (l0 : List (List Bool)) : Option (Bool) := confidantref2_Reflexive.l0 k l0 0
theorem confidantref2_Reflexive.mono_l : ∀ k, (∀ y0 y1, LeO (confidantref2_Reflexive.l0 k y0 y1) (confidantref2_Reflexive.l0 (k + 1) y0 y1)) ∧ (∀ y0 y1 y2, LeO (confidantref2_Reflexive.j1 k y0 y1 y2) (confidantref2_Reflexive.j1 (k + 1) y0 y1 y2))
  | 0 => ⟨fun _ _ r h => by simp [confidantref2_Reflexive.l0] at h, fun _ _ _ r h => by simp [confidantref2_Reflexive.j1] at h⟩
  | k + 1 => by
    obtain ⟨ih0, ih1⟩ := confidantref2_Reflexive.mono_l k
    refine ⟨?_, ?_⟩
    · intro y0 y1
      unfold confidantref2_Reflexive.l0
      repeat' first
      | (with_reducible exact ih0 _ _)
      | (with_reducible exact ih1 _ _ _)
      | (with_reducible exact confidantref2_Square.mono _ _)
      | (with_reducible exact LeO.refl _)
      | (with_reducible exact LeO.none _)
      | (with_reducible refine LeO.ite ?_ ?_)
      | (with_reducible refine LeO.bind ?_ (fun _ => ?_))
      | exact ih0 _ _
      | exact ih1 _ _ _
      | exact confidantref2_Square.mono _ _
      | exact LeO.none _
      | refine LeO.ite ?_ ?_
      | refine LeO.bind ?_ (fun _ => ?_)
    · intro y0 y1 y2
      unfold confidantref2_Reflexive.j1
      repeat' first
      | (with_reducible exact ih0 _ _)
      | (with_reducible exact ih1 _ _ _)
      | (with_reducible exact confidantref2_Square.mono _ _)
      | (with_reducible exact LeO.refl _)
      | (with_reducible exact LeO.none _)
      | (with_reducible refine LeO.ite ?_ ?_)
      | (with_reducible refine LeO.bind ?_ (fun _ => ?_))
      | exact ih0 _ _
      | exact ih1 _ _ _
      | exact confidantref2_Square.mono _ _
      | exact LeO.none _
      | refine LeO.ite ?_ ?_
      | refine LeO.bind ?_ (fun _ => ?_)
theorem confidantref2_Reflexive.mono : ∀ a0 k, LeO (confidantref2_Reflexive.f k a0) (confidantref2_Reflexive.f (k + 1) a0) := by
  intro a0 k
  obtain ⟨ih0, ih1⟩ := confidantref2_Reflexive.mono_l k
  unfold confidantref2_Reflexive.f
  repeat' first
      | (with_reducible exact ih0 _ _)
      | (with_reducible exact ih1 _ _ _)
      | (with_reducible exact confidantref2_Square.mono _ _)
      | (with_reducible exact LeO.refl _)
      | (with_reducible exact LeO.none _)
      | (with_reducible refine LeO.ite ?_ ?_)
      | (with_reducible refine LeO.bind ?_ (fun _ => ?_))
      | exact ih0 _ _
      | exact ih1 _ _ _
      | exact confidantref2_Square.mono _ _
      | exact LeO.none _
      | refine LeO.ite ?_ ?_
      | refine LeO.bind ?_ (fun _ => ?_)
set_option maxHeartbeats 8000000 in
set_option maxRecDepth 100000 in
theorem confidantref2_Reflexive.calls (k : Nat) (A0 : Option Addr) (c0 : Nat) (l0 : List (List Bool)) (r : Bool) (w : World) (hr0 : Kd.C (Kd.slice 4 Kd.bool) w A0 l0.length l0) (hc0 : l0.length ≤ c0) (h : confidantref2_Reflexive.f k l0 = some r) :
    Calls Try.prog 29 #[.slice A0 l0.length c0] w fun e w' => e = .returned (.bool r) ∧ Drawn0 w w' := by
  have HR0 := Aside0.mk hr0
  have HC0 := Aside0.mk hc0
  clear hr0 hc0
  have H : (confidantref2_Reflexive.l0 k l0 0) = some r := h
  clear h
  have H' := Aside0.mk H
  clear H
  go_enter Try.func29, Try.ntmps29
  go_wp2
  go_loopg [3] k (fun kq v3 w' => ∃ (x3_1 : Int), v3 = .int .i64 x3_1 ∧ Aside0 (confidantref2_Reflexive.l0 kq l0 x3_1 = some r) ∧ Aside0 (kq ≤ k) ∧ Drawn0 w w')
  case atStart => exact ⟨(0), (by first | rfl | (simp; done) | (simp [*]; done)), H', ⟨Nat.le_refl _⟩, by repeat (first | exact Drawn0.refl _ | apply Drawn0.step)⟩
  case round =>
    clear H'
    obtain ⟨x3_1, rfl, HA, HK1, ⟨m1, rfl⟩⟩ := hrel
    cases gk with
    | zero => exact absurd HA.out (by simp [confidantref2_Reflexive.l0])
    | succ k1 =>
      have H := HA.out
      clear HA
      simp only [confidantref2_Reflexive.l0] at H
      have HC2 := Aside0.mk H
      clear H
      go_upto_region 2 with (fail)
      go_cut [11] (fun v11 wc => ∃ (kq : Nat) (x11_1 : Bool), v11 = .bool x11_1 ∧ Aside0 (confidantref2_Reflexive.j1 kq l0 x3_1 x11_1 = some r) ∧ Aside0 (kq ≤ k1) ∧ Drawn0 w wc)
      case first =>
        have H := HC2.out
        clear HC2
        by_cases c3 : x3_1 < (l0.length : Int)
        · rw [if_pos c3] at H
          have c3b0 : decide (x3_1 < (l0.length : Int)) = true := decide_eq_true c3
          clear c3
          (first | rw [c3b0] | (simp only [i64_w, i32_w]; rw [c3b0]) | skip)
          replace H := Option.bind_eq_some_iff.mp H
          obtain ⟨t149, A40, H⟩ := H
          replace H : (confidantref2_Reflexive.j1 k1 l0 x3_1 t149) = some r := H
          have A4 := Aside0.mk A40
          clear A40
          have H' := Aside0.mk H
          clear H
          go_wp2_with (first | (go_at_call 27; (with_reducible refine (confidantref2_Square.calls k1 _ _ l0 t149 _ ?side1 ?side2 A4.out).mono ?_); (case side1 => repeat (first | exact HR0.out | (with_reducible refine Kd.C_alloc ?_ _) | (with_reducible refine Kd.C_drewN ?_ _) | (with_reducible refine Kd.C_drew ?_))); (case side2 => exact HC0.out); rintro e w' ⟨rfl, ⟨nd, rfl⟩⟩))
          go_meet
          case rel => exact ⟨_, (t149), (by first | rfl | (simp; done) | (simp [*]; done)), H', ⟨by have := HK1.out; first | omega | exact Nat.le_refl _⟩, by repeat (first | exact Drawn0.refl _ | apply Drawn0.step)⟩
        · rw [if_neg c3] at H
          have c3b0 : decide (x3_1 < (l0.length : Int)) = false := decide_eq_false c3
          clear c3
          (first | rw [c3b0] | (simp only [i64_w, i32_w]; rw [c3b0]) | skip)
          have H' := Aside0.mk H
          clear H
          go_wp2
          go_meet
          case rel => exact ⟨_, (false), (by first | rfl | (simp; done) | (simp [*]; done)), H', ⟨by have := HK1.out; first | omega | exact Nat.le_refl _⟩, by repeat (first | exact Drawn0.refl _ | apply Drawn0.step)⟩
      case rest =>
        clear HC2
        try clear c2
        try clear p2
        try clear c3
        try clear c3b0
        obtain ⟨kq, x11_1, rfl, HA, HJ1, ⟨mc1, rfl⟩⟩ := hcut
        cases kq with
        | zero => exact absurd HA.out (by simp [confidantref2_Reflexive.j1])
        | succ kj1 =>
          have H := HA.out
          clear HA
          simp only [confidantref2_Reflexive.j1] at H
          by_cases c5 : x11_1 = true
          · subst c5
            have H1 : (if 0 ≤ x3_1 then (if x3_1 < (l0.length : Int) then (if x3_1 < ((rd_L2 l0 x3_1).length : Int) then (if (rdOf false (rd_L2 l0 x3_1) x3_1 = true) then (confidantref2_Reflexive.l0 kj1 l0 (wrap64 (x3_1 + 1))) else (some false)) else (none)) else (none)) else (none)) = some r := by rw [if_pos rfl] at H; exact H
            clear H
            have H := H1
            clear H1
            by_cases c6 : 0 ≤ x3_1
            · rw [if_pos c6] at H
              have c6b0 : decide (0 ≤ x3_1) = true := decide_eq_true c6
              clear c6
              by_cases c7 : x3_1 < (l0.length : Int)
              · rw [if_pos c7] at H
                have c7b0 : decide (x3_1 < (l0.length : Int)) = true := decide_eq_true c7
                clear c7
                by_cases c8 : x3_1 < ((rd_L2 l0 x3_1).length : Int)
                · rw [if_pos c8] at H
                  have c8b0 : decide (x3_1 < ((rd_L2 l0 x3_1).length : Int)) = true := decide_eq_true c8
                  clear c8
                  obtain ⟨bq9, hbq9⟩ : ∃ b_ : Bool, b_ = (rdOf false (rd_L2 l0 x3_1) x3_1) := ⟨_, rfl⟩
                  replace H : (if (bq9 = true) then (confidantref2_Reflexive.l0 kj1 l0 (wrap64 (x3_1 + 1))) else (some false)) = some r := by rw [← hbq9] at H; exact H
                  have Nbq9 := Aside0.mk hbq9
                  clear hbq9
                  by_cases c10 : (bq9 = true)
                  · subst c10
                    have H1 : (confidantref2_Reflexive.l0 kj1 l0 (wrap64 (x3_1 + 1))) = some r := by rw [if_pos rfl] at H; exact H
                    clear H
                    have H := H1
                    clear H1
                    have H' := Aside0.mk H
                    clear H
                    have p150 : 0 ≤ (x3_1 : Int) := of_decide_eq_true (by first | (with_reducible assumption) | assumption)
                    have q150 : x3_1 < (l0.length : Int) := of_decide_eq_true (by first | (with_reducible assumption) | assumption)
                    obtain ⟨ad150, A150_0, c150_0, e150, hx150_0, hl150_0, hi150_0⟩ := at_L2 HR0.out x3_1 p150 q150
                    cases e150
                    have HR150_0 := Aside0.mk hi150_0
                    have HC150_0 := Aside0.mk hl150_0
                    clear hi150_0 hl150_0
                    replace p150 := eq_true p150
                    replace q150 := eq_true q150
                    have p151 : 0 ≤ (x3_1 : Int) := of_decide_eq_true (by first | (with_reducible assumption) | assumption)
                    have q151 : x3_1 < ((rd_L2 l0 x3_1).length : Int) := of_decide_eq_true (by first | (with_reducible assumption) | assumption)
                    obtain ⟨ad151, e151, hx151_0⟩ := Kd.at_bool HR150_0.out x3_1 p151 q151
                    (try rw [← Nbq9.out] at hx151_0)
                    cases e151
                    replace p151 := eq_true p151
                    replace q151 := eq_true q151
                    go_wp2
                    go_roundg kj1
                    case measure => have := HK1.out; have := HJ1.out; omega
                    case rel => exact ⟨(wrap64 (x3_1 + 1)), (by first | rfl | (simp; done) | (simp [*]; done)), H', ⟨by have := HK1.out; have := HJ1.out; omega⟩, by repeat (first | exact Drawn0.refl _ | apply Drawn0.step)⟩
                  · replace c10 := Bool.eq_false_iff.mpr c10
                    subst c10
                    have H1 : (some false) = some r := by rw [if_neg (show ¬ (false = true) by decide)] at H; exact H
                    clear H
                    have H := H1
                    clear H1
                    obtain rfl := Option.some.inj H
                    have p150 : 0 ≤ (x3_1 : Int) := of_decide_eq_true (by first | (with_reducible assumption) | assumption)
                    have q150 : x3_1 < (l0.length : Int) := of_decide_eq_true (by first | (with_reducible assumption) | assumption)
                    obtain ⟨ad150, A150_0, c150_0, e150, hx150_0, hl150_0, hi150_0⟩ := at_L2 HR0.out x3_1 p150 q150
                    cases e150
                    have HR150_0 := Aside0.mk hi150_0
                    have HC150_0 := Aside0.mk hl150_0
                    clear hi150_0 hl150_0
                    replace p150 := eq_true p150
                    replace q150 := eq_true q150
                    have p151 : 0 ≤ (x3_1 : Int) := of_decide_eq_true (by first | (with_reducible assumption) | assumption)
                    have q151 : x3_1 < ((rd_L2 l0 x3_1).length : Int) := of_decide_eq_true (by first | (with_reducible assumption) | assumption)
                    obtain ⟨ad151, e151, hx151_0⟩ := Kd.at_bool HR150_0.out x3_1 p151 q151
                    (try rw [← Nbq9.out] at hx151_0)
                    cases e151
                    replace p151 := eq_true p151
                    replace q151 := eq_true q151
                    go_wp2
                    go_ret
                    exact ⟨by first | rfl | (simp; done) | (simp [*]; done), by repeat (first | exact Drawn0.refl _ | apply Drawn0.step)⟩
                · rw [if_neg c8] at H
                  exact absurd H (by simp)
              · rw [if_neg c7] at H
                exact absurd H (by simp)
            · rw [if_neg c6] at H
              exact absurd H (by simp)
          · replace c5 := Bool.eq_false_iff.mpr c5
            subst c5
            have H1 : ((confidantref2_Square.f kj1 l0).bind fun t152 => (some t152)) = some r := by rw [if_neg (show ¬ (false = true) by decide)] at H; exact H
            clear H
            have H := H1
            clear H1
            replace H := Option.bind_eq_some_iff.mp H
            obtain ⟨t152, A110, H⟩ := H
            replace H : (some t152) = some r := H
            have A11 := Aside0.mk A110
            clear A110
            obtain rfl := Option.some.inj H
            go_wp2_with (first | ((with_reducible refine gate_callee (f := 27) rfl ?_); refine goesL_ (some 23) rfl rfl Try.func27 (by kernel_rfl) rfl #[.slice A0 l0.length c0] rfl (by (try simp only [List.map_toArray, List.map_cons, List.map_nil]); first | done | rfl | (simp only [List.length_drop, List.length_take]; rfl)) ?_; (with_reducible refine (confidantref2_Square.calls kj1 _ _ l0 t152 _ ?side1 ?side2 A11.out).mono ?_); (case side1 => repeat (first | exact HR0.out | (with_reducible refine Kd.C_alloc ?_ _) | (with_reducible refine Kd.C_drewN ?_ _) | (with_reducible refine Kd.C_drew ?_))); (case side2 => exact HC0.out); rintro e w' ⟨rfl, ⟨nd, rfl⟩⟩; refine ⟨_, rfl, ?_⟩))
            go_ret
            exact ⟨by first | rfl | (simp; done) | (simp [*]; done), by repeat (first | exact Drawn0.refl _ | apply Drawn0.step)⟩

end Go.Proofs.Ytpeeneaapmmciaa.POtells
