-- Printed by wip/tools/oprint.py, a program of this session.
import Derived.Test.YtpeeneaapmmciaaPLmadex0
import Derived.Test.YtpeeneaapmmciaaPLmadex3
import Derived.Test.YtpeeneaapmmciaaPLmadex4
import Derived.Test.YtpeeneaapmmciaaPLmadex5
namespace Go.Proofs.Ytpeeneaapmmciaa.PLmade
open Go.RowKit Go.Proofs.YtpeeneaapmmciaaW.PrintWords Go.Proofs.YtpeeneaapmmciaaW.PrintLast Go.Proofs.YtpeeneaapmmciaaW.PrintMore
attribute [local go_sem] max2_int min2_int max_two min_two max_three min_three max_four min_four   -- for this text's walks alone
set_option linter.unusedVariables false
set_option linter.unusedSimpArgs false

/-! ### confidantlaw3_LatticeMade: function 10 -/
theorem made_p0 : ∀ j : Fin 5, confidantref2_Powers.f 400 j.val = some (powersT j.val) ∧ confidantref2_SameTables.f 400 (powersT j.val) (powersT j.val) = some true ∧ latB (powersT j.val) = true ∧ (powersT j.val).length ≤ 16 := by decide +kernel
theorem made_c0 : ∀ j : Fin 17, confidantref2_Chain.f 400 j.val = some (chainT j.val) ∧ confidantref2_SameTables.f 400 (chainT j.val) (chainT j.val) = some true ∧ latB (chainT j.val) = decide (1 ≤ j.val) ∧ (chainT j.val).length ≤ 16 := by decide +kernel
theorem made_nil : confidantref2_SameTables.f 400 [] [] = some true := by decide +kernel
theorem made_p (x : Int) : confidantref2_Powers.f 400 x = some (powersT x) ∧ confidantref2_SameTables.f 400 (powersT x) (powersT x) = some true := by
  by_cases h : 0 ≤ x ∧ x ≤ 4
  · obtain ⟨y, rfl⟩ := Int.eq_ofNat_of_zero_le h.1
    exact ⟨(made_p0 ⟨y, by omega⟩).1, (made_p0 ⟨y, by omega⟩).2.1⟩
  · have e : powersT x = [] := by unfold powersT; rw [if_neg h]
    rw [e]
    refine ⟨?_, made_nil⟩
    unfold confidantref2_Powers.f
    by_cases h0 : x < 0
    · rw [if_pos h0]; simp [confidantref2_Powers.j0]
    · rw [if_neg h0, decide_eq_true (by omega)]; simp [confidantref2_Powers.j0]
theorem made_c (x : Int) : confidantref2_Chain.f 400 x = some (chainT x) ∧ confidantref2_SameTables.f 400 (chainT x) (chainT x) = some true := by
  by_cases h : 1 ≤ x ∧ x ≤ 16
  · obtain ⟨y, rfl⟩ := Int.eq_ofNat_of_zero_le (by omega : 0 ≤ x)
    exact ⟨(made_c0 ⟨y, by omega⟩).1, (made_c0 ⟨y, by omega⟩).2.1⟩
  · have e : chainT x = [] := by unfold chainT; rw [if_neg h]
    rw [e]
    refine ⟨?_, made_nil⟩
    unfold confidantref2_Chain.f
    by_cases h0 : x < 1
    · rw [if_pos h0]; simp [confidantref2_Chain.j0]
    · rw [if_neg h0, decide_eq_true (by omega)]; simp [confidantref2_Chain.j0]
theorem blk_below {W W1 : World} (hb : Below W.heap.size W W1) {g : Nat} {o : Obj} (h : W.heap[g]? = some o) : W1.heap[g]? = some o := (hb.block g (blk_lt h)).trans h
set_option maxRecDepth 100000 in
set_option maxHeartbeats 3200000 in
theorem confidantlaw3_LatticeMade.calls (a0 a1 : Int) (w : World) (h0 : -9223372036854775808 ≤ a0 ∧ a0 ≤ 9223372036854775807) (h1 : 0 ≤ a1 ∧ a1 < 256) : Calls Try.prog 10 #[.int .i64 a0, .int .u8 a1] w fun e w' => e = .returned (.bool true) ∧ Below w.heap.size w w' := by
  obtain ⟨h00, h01⟩ := h0
  obtain ⟨h10, h11⟩ := h1
  have HB := Aside0.mk (Below.refl w.heap.size w)
  by_cases hb1 : a0 > 1000
  · go_enter Try.func10, Try.ntmps10
    go_wp2_with fail
    refine (lattice_known_calls _).mono ?_
    rintro e w1 ⟨rfl, hB⟩
    have HB2 := Aside0.mk (below_step (by repeat (first | (with_reducible first | exact HB.out | apply below_alloc | apply pw_below_drewN | apply below_drew1) | exact HB.out)) hB)
    clear HB hB
    have HB := HB2
    clear HB2
    go_wp2
    go_ret
    exact ⟨rfl, (by repeat (first | (with_reducible first | exact HB.out | apply below_alloc | apply pw_below_drewN | apply below_drew1) | exact HB.out))⟩
  by_cases hb2 : a0 < -1000
  · go_enter Try.func10, Try.ntmps10
    go_wp2_with fail
    refine (lattice_known_calls _).mono ?_
    rintro e w1 ⟨rfl, hB⟩
    have HB2 := Aside0.mk (below_step (by repeat (first | (with_reducible first | exact HB.out | apply below_alloc | apply pw_below_drewN | apply below_drew1) | exact HB.out)) hB)
    clear HB hB
    have HB := HB2
    clear HB2
    go_wp2
    go_ret
    exact ⟨rfl, (by repeat (first | (with_reducible first | exact HB.out | apply below_alloc | apply pw_below_drewN | apply below_drew1) | exact HB.out))⟩
  have HP5 : Aside0 (latB (powersT (a1 % 5)) = true ∧ (powersT (a1 % 5)).length < 4611686018427387904) := ⟨by
    obtain ⟨y, hy⟩ := Int.eq_ofNat_of_zero_le (by omega : 0 ≤ a1 % 5)
    rw [hy]
    have h := made_p0 ⟨y, by omega⟩
    exact ⟨h.2.2.1, Nat.lt_of_le_of_lt h.2.2.2 (by decide)⟩⟩
  have HC16 : Aside0 (latB (chainT (a1 % 16 + 1)) = true ∧ (chainT (a1 % 16 + 1)).length < 4611686018427387904) := ⟨by
    obtain ⟨y, hy⟩ := Int.eq_ofNat_of_zero_le (by omega : 0 ≤ a1 % 16 + 1)
    rw [hy]
    have h := made_c0 ⟨y, by omega⟩
    exact ⟨h.2.2.1.trans (decide_eq_true (show 1 ≤ y by omega)), Nat.lt_of_le_of_lt h.2.2.2 (by decide)⟩⟩
  obtain ⟨k20, hk20⟩ : ∃ k20, a1 % 20 = k20 := ⟨_, rfl⟩
  have hk20b : 0 ≤ k20 ∧ k20 < 20 := by omega
  have HK := Aside0.mk hk20
  clear hk20
  go_enter Try.func10, Try.ntmps10
  go_wp2_with fail
  refine (lattice_known_calls _).mono ?_
  rintro e w1 ⟨rfl, hB⟩
  have HB2 := Aside0.mk (below_step (by repeat (first | (with_reducible first | exact HB.out | apply below_alloc | apply pw_below_drewN | apply below_drew1) | exact HB.out)) hB)
  clear HB hB
  have HB := HB2
  clear HB2
  obtain ⟨wq, hwq⟩ : ∃ wq : World, wq = w1 := ⟨_, rfl⟩
  go_wp2_with fail
  rw [HK.out]
  go_loopw [25] (fun i wr => ∃ d : Nat, d ≤ 3 ∧ i = .int .i64 (d : Int) ∧ Aside0 (Below w.heap.size w wr) ∧ Aside0 (wr.heap[wq.heap.size]? = some (.cells #[.int .i64 a0, .int .i64 k20, .int .i64 (-1)] 3 (0, 0)))) (fun i _ => 3 - (intOf i).toNat)
  case atStart => exact ⟨0, by omega, rfl, ⟨(by repeat (first | (with_reducible first | exact HB.out | apply below_alloc | apply pw_below_drewN | apply below_drew1) | exact HB.out))⟩, ⟨by rw [hwq]; exact heap_new _ _⟩⟩
  case round =>
    clear HB
    obtain ⟨d, hd, rfl, HB, HG⟩ := hrel
    by_cases hlt : d < 3
    · obtain ⟨x, hx⟩ : ∃ x, wr.cell? ⟨wq.heap.size, d, none⟩ = some (.int .i64 x) := by
        rw [blk_cell HG.out]
        rcases (by omega : d = 0 ∨ d = 1 ∨ d = 2) with rfl | rfl | rfl
        · exact ⟨_, rfl⟩
        · exact ⟨_, rfl⟩
        · exact ⟨_, rfl⟩
      rw [hwq] at hx HG
      have HMP := Aside0.mk (made_p x)
      have HMC := Aside0.mk (made_c x)
      go_wp2_with fail
      refine (lattice_Powers_calls x _).mono ?_
      rintro e w4 ⟨v, rfl, hS, hB⟩
      obtain ⟨A1, c1, rfl, hc1, hC1⟩ := Kd.S_reads hS
      have HC1 := Aside0.mk hC1
      clear hS hC1
      have HG2 := Aside0.mk ((blk_below (below_step (by repeat (first | exact Below.refl _ _ | apply below_alloc | apply pw_below_drewN | apply below_drew1)) hB) HG.out))
      clear HG
      have HG := HG2
      clear HG2
      have HB2 := Aside0.mk (below_step (by repeat (first | (with_reducible first | exact HB.out | apply below_alloc | apply pw_below_drewN | apply below_drew1) | exact HB.out)) hB)
      clear HB hB
      have HB := HB2
      clear HB2
      go_wp2_with fail
      refine (confidantref2_Powers.calls 400 x _ _ HMP.out.1).mono ?_
      rintro e w5 ⟨v, rfl, hS, hB⟩
      obtain ⟨A2, c2, rfl, hc2, hC2⟩ := Kd.S_reads hS
      have HC2 := Aside0.mk hC2
      clear hS hC2
      have HG2 := Aside0.mk ((blk_below (below_step (by repeat (first | exact Below.refl _ _ | apply below_alloc | apply pw_below_drewN | apply below_drew1)) hB) HG.out))
      clear HG
      have HG := HG2
      clear HG2
      have HC12 := Aside0.mk (Kd.C_below HC1.out (below_step (by repeat (first | exact Below.refl _ _ | apply below_alloc | apply pw_below_drewN | apply below_drew1)) hB))
      clear HC1
      have HC1 := HC12
      clear HC12
      have HB2 := Aside0.mk (below_step (by repeat (first | (with_reducible first | exact HB.out | apply below_alloc | apply pw_below_drewN | apply below_drew1) | exact HB.out)) hB)
      clear HB hB
      have HB := HB2
      clear HB2
      go_wp2_with fail
      refine (confidantref2_SameTables.calls 400 A1 c1 _ A2 c2 _ true _ (Kd.C_below HC1.out (by repeat (first | exact Below.refl _ _ | apply below_alloc | apply pw_below_drewN | apply below_drew1))) hc1 (Kd.C_below HC2.out (by repeat (first | exact Below.refl _ _ | apply below_alloc | apply pw_below_drewN | apply below_drew1))) hc2 HMP.out.2).mono ?_
      rintro e w' ⟨rfl, ⟨nd, rfl⟩⟩
      clear HC1 HC2 hc1 hc2
      go_wp2_with fail
      refine (lattice_Chain_calls x _).mono ?_
      rintro e w4 ⟨v, rfl, hS, hB⟩
      obtain ⟨A1, c1, rfl, hc1, hC1⟩ := Kd.S_reads hS
      have HC1 := Aside0.mk hC1
      clear hS hC1
      have HG2 := Aside0.mk ((blk_below (below_step (by repeat (first | exact Below.refl _ _ | apply below_alloc | apply pw_below_drewN | apply below_drew1)) hB) HG.out))
      clear HG
      have HG := HG2
      clear HG2
      have HB2 := Aside0.mk (below_step (by repeat (first | (with_reducible first | exact HB.out | apply below_alloc | apply pw_below_drewN | apply below_drew1) | exact HB.out)) hB)
      clear HB hB
      have HB := HB2
      clear HB2
      go_wp2_with fail
      refine (confidantref2_Chain.calls 400 x _ _ HMC.out.1).mono ?_
      rintro e w5 ⟨v, rfl, hS, hB⟩
      obtain ⟨A2, c2, rfl, hc2, hC2⟩ := Kd.S_reads hS
      have HC2 := Aside0.mk hC2
      clear hS hC2
      have HG2 := Aside0.mk ((blk_below (below_step (by repeat (first | exact Below.refl _ _ | apply below_alloc | apply pw_below_drewN | apply below_drew1)) hB) HG.out))
      clear HG
      have HG := HG2
      clear HG2
      have HC12 := Aside0.mk (Kd.C_below HC1.out (below_step (by repeat (first | exact Below.refl _ _ | apply below_alloc | apply pw_below_drewN | apply below_drew1)) hB))
      clear HC1
      have HC1 := HC12
      clear HC12
      have HB2 := Aside0.mk (below_step (by repeat (first | (with_reducible first | exact HB.out | apply below_alloc | apply pw_below_drewN | apply below_drew1) | exact HB.out)) hB)
      clear HB hB
      have HB := HB2
      clear HB2
      go_wp2_with fail
      refine (confidantref2_SameTables.calls 400 A1 c1 _ A2 c2 _ true _ (Kd.C_below HC1.out (by repeat (first | exact Below.refl _ _ | apply below_alloc | apply pw_below_drewN | apply below_drew1))) hc1 (Kd.C_below HC2.out (by repeat (first | exact Below.refl _ _ | apply below_alloc | apply pw_below_drewN | apply below_drew1))) hc2 HMC.out.2).mono ?_
      rintro e w' ⟨rfl, ⟨nd, rfl⟩⟩
      clear HC1 HC2 hc1 hc2
      go_wp2
      go_roundw
      case rel => exact ⟨d + 1, by omega, by go_num, ⟨(by repeat (first | (with_reducible first | exact HB.out | apply below_alloc | apply pw_below_drewN | apply below_drew1) | exact HB.out))⟩, ⟨by rw [hwq]; exact blk_below (by repeat (first | exact Below.refl _ _ | apply below_alloc | apply pw_below_drewN | apply below_drew1)) HG.out⟩⟩
      case measure => simp [intOf]; omega
    · obtain rfl : d = 3 := by omega
      go_wp2_with fail
      refine (lattice_Powers_calls (a1 % 5) _).mono ?_
      rintro e w4 ⟨v, rfl, hS, hB⟩
      obtain ⟨A1, c1, rfl, hc1, hC1⟩ := Kd.S_reads hS
      clear hS
      have HB2 := Aside0.mk (below_step (by repeat (first | (with_reducible first | exact HB.out | apply below_alloc | apply pw_below_drewN | apply below_drew1) | exact HB.out)) hB)
      clear HB hB
      have HB := HB2
      clear HB2
      go_wp2_with fail
      refine (lattice_New_calls A1 c1 _ _ hC1 hc1 HP5.out.2).mono ?_
      rintro e w5 ⟨hB, h⟩
      rcases h with ⟨hf, -⟩ | ⟨-, g, hg, rfl, hI⟩
      · rw [HP5.out.1] at hf; cases hf
      clear hI hg hC1 hc1
      have HB2 := Aside0.mk (below_step (by repeat (first | (with_reducible first | exact HB.out | apply below_alloc | apply pw_below_drewN | apply below_drew1) | exact HB.out)) hB)
      clear HB hB
      have HB := HB2
      clear HB2
      go_wp2_with fail
      refine (lattice_Chain_calls (a1 % 16 + 1) _).mono ?_
      rintro e w4 ⟨v, rfl, hS, hB⟩
      obtain ⟨A1, c1, rfl, hc1, hC1⟩ := Kd.S_reads hS
      clear hS
      have HB2 := Aside0.mk (below_step (by repeat (first | (with_reducible first | exact HB.out | apply below_alloc | apply pw_below_drewN | apply below_drew1) | exact HB.out)) hB)
      clear HB hB
      have HB := HB2
      clear HB2
      go_wp2_with fail
      refine (lattice_New_calls A1 c1 _ _ hC1 hc1 HC16.out.2).mono ?_
      rintro e w5 ⟨hB, h⟩
      rcases h with ⟨hf, -⟩ | ⟨-, g, hg, rfl, hI⟩
      · rw [HC16.out.1] at hf; cases hf
      clear hI hg hC1 hc1
      have HB2 := Aside0.mk (below_step (by repeat (first | (with_reducible first | exact HB.out | apply below_alloc | apply pw_below_drewN | apply below_drew1) | exact HB.out)) hB)
      clear HB hB
      have HB := HB2
      clear HB2
      go_wp2
      go_ret
      exact ⟨rfl, (by repeat (first | (with_reducible first | exact HB.out | apply below_alloc | apply pw_below_drewN | apply below_drew1) | exact HB.out))⟩
/-- What is owed of plain data: nothing. -/
def confidantlaw3_LatticeMade.Pure : Prop := True
theorem lat_u8 {a : Int} (h : (Lit.int .u8 a).wf = true) : 0 ≤ a ∧ a < 256 := by
  have h1 : IntKind.u8.min = 0 := rfl
  have h2 : IntKind.u8.max = 255 := rfl
  simp [Lit.wf] at h; omega
theorem lat_i64 {a : Int} (h : (Lit.int .i64 a).wf = true) : -9223372036854775808 ≤ a ∧ a ≤ 9223372036854775807 := by
  have h1 : IntKind.i64.min = -9223372036854775808 := rfl
  have h2 : IntKind.i64.max = 9223372036854775807 := rfl
  simp [Lit.wf] at h; omega
theorem confidantlaw3_LatticeMade.walk (_ : confidantlaw3_LatticeMade.Pure) (a0 a1 : Int) (w : World) (w0 : (Lit.int .i64 a0).wf = true) (w1 : (Lit.int .u8 a1).wf = true) :
    Calls Try.prog 10 #[.int .i64 a0, .int .u8 a1] w fun e w' => e = .returned (.bool true) ∧ Below w.heap.size w w' :=
  confidantlaw3_LatticeMade.calls a0 a1 w (lat_i64 w0) (lat_u8 w1)

end Go.Proofs.Ytpeeneaapmmciaa.PLmade
