-- Printed by wip/tools/oprint.py, a program of this session.
import Derived.Test.YtpeeneaapmmciaaPLbelowx0
import Derived.Test.YtpeeneaapmmciaaPLbelowx1
import Derived.Test.YtpeeneaapmmciaaPLbelowx2
import Derived.Test.YtpeeneaapmmciaaPLbelowx3
import Derived.Test.YtpeeneaapmmciaaPLbelowx4
import Derived.Test.YtpeeneaapmmciaaPLbelowx5
namespace Go.Proofs.Ytpeeneaapmmciaa.PLbelow
open Go.RowKit Go.Proofs.YtpeeneaapmmciaaW.PrintWords Go.Proofs.YtpeeneaapmmciaaW.PrintLast Go.Proofs.YtpeeneaapmmciaaW.PrintMore
attribute [local go_sem] max2_int min2_int max_two min_two max_three min_three max_four min_four   -- for this text's walks alone
set_option linter.unusedVariables false
set_option linter.unusedSimpArgs false

/-! ### confidantlaw3_LatticeBelow: function 11 -/
def m3T : List (List Bool) := tabB 5 5 fun a b => if 1 ≤ a ∧ a < 4 ∧ 1 ≤ b ∧ b < 4 then decide (a = b) else decide (a ≤ b)
def seatT (j : Nat) : List (List Bool) := if j = 0 then chainT 2 else if j = 1 then chainT 3 else if j = 2 ∨ j = 3 then powersT 2 else if j = 4 then m3T else powersT 3
theorem seat_small : ∀ k : Fin 256, confidantseat_Lattice.f 400 (k.val : Int) = some (seatT (k.val % 6)) := by decide +kernel
/-- The laws of lattices, at three labels. -/
def lawsAt (n : Nat) (fl fj fm : Nat → Nat → Int) (top bot a b c : Int) : Bool :=
  (latAt n fj b a (-1) == latAt n fj a b (-1)) && ((latAt n fm b a (-1) == latAt n fm a b (-1)) && ((latAt n fj a a (-1) == a) && ((latAt n fm a a (-1) == a) &&
  ((latAt n fj a (latAt n fm a b (-1)) (-1) == a) && ((latAt n fm a (latAt n fj a b (-1)) (-1) == a) &&
  ((latAt n fj a (latAt n fj b c (-1)) (-1) == latAt n fj (latAt n fj a b (-1)) c (-1)) && ((latAt n fm a (latAt n fm b c (-1)) (-1) == latAt n fm (latAt n fm a b (-1)) c (-1)) &&
  (((latAt n fl a b 0 == 1) == (latAt n fj a b (-1) == b)) && (((latAt n fl a b 0 == 1) == (latAt n fm a b (-1) == a)) && ((latAt n fl bot a 0 == 1) && (latAt n fl a top 0 == 1)))))))))))
def lawsB (q : List (List Bool)) : Bool := (List.range q.length).all fun a => (List.range q.length).all fun b => (List.range q.length).all fun c => lawsAt q.length (leqF q) (joinF q) (meetF q) (topF q q.length) (botF q q.length) a b c
theorem seat_lat : ∀ j : Fin 6, latB (seatT j.val) = true ∧ 2 ≤ (seatT j.val).length ∧ (seatT j.val).length ≤ 8 := by decide +kernel
theorem seat_laws : ∀ j : Fin 6, lawsB (seatT j.val) = true := by decide +kernel
theorem lawsB_at (q : List (List Bool)) (h : lawsB q = true) (a b c : Int) (a0 : 0 ≤ a) (a1 : a < (q.length : Int)) (b0 : 0 ≤ b) (b1 : b < (q.length : Int)) (c0 : 0 ≤ c) (c1 : c < (q.length : Int)) : lawsAt q.length (leqF q) (joinF q) (meetF q) (topF q q.length) (botF q q.length) a b c = true := by
  obtain ⟨x, rfl⟩ := Int.eq_ofNat_of_zero_le a0
  obtain ⟨y, rfl⟩ := Int.eq_ofNat_of_zero_le b0
  obtain ⟨z, rfl⟩ := Int.eq_ofNat_of_zero_le c0
  exact List.all_eq_true.1 (List.all_eq_true.1 (List.all_eq_true.1 h x (List.mem_range.2 (by omega))) y (List.mem_range.2 (by omega))) z (List.mem_range.2 (by omega))
theorem laws_open {n : Nat} {fl fj fm : Nat → Nat → Int} {top bot a b c : Int} (h : lawsAt n fl fj fm top bot a b c = true) : ∃ j m k1 k2 k3 k4, latAt n fj a b (-1) = j ∧ latAt n fm a b (-1) = m ∧ latAt n fj b a (-1) = j ∧ latAt n fm b a (-1) = m ∧ latAt n fj a a (-1) = a ∧ latAt n fm a a (-1) = a ∧ latAt n fj a m (-1) = a ∧ latAt n fm a j (-1) = a ∧ latAt n fj j c (-1) = k1 ∧ latAt n fj b c (-1) = k2 ∧ latAt n fj a k2 (-1) = k1 ∧ latAt n fm m c (-1) = k3 ∧ latAt n fm b c (-1) = k4 ∧ latAt n fm a k4 (-1) = k3 ∧ (latAt n fl a b 0 == 1) = (j == b) ∧ (latAt n fl a b 0 == 1) = (m == a) ∧ (latAt n fl bot a 0 == 1) = true ∧ (latAt n fl a top 0 == 1) = true := by
  unfold lawsAt at h
  generalize latAt n fl = FL at *
  generalize latAt n fj = FJ at *
  generalize latAt n fm = FM at *
  rw [Bool.and_eq_true, Bool.and_eq_true, Bool.and_eq_true, Bool.and_eq_true, Bool.and_eq_true, Bool.and_eq_true, Bool.and_eq_true, Bool.and_eq_true, Bool.and_eq_true, Bool.and_eq_true, Bool.and_eq_true] at h
  obtain ⟨e1, e2, e3, e4, e5, e6, e7, e8, e9, e10, e11, e12⟩ := h
  exact ⟨_, _, _, _, _, _, rfl, rfl, eq_of_beq e1, eq_of_beq e2, eq_of_beq e3, eq_of_beq e4, eq_of_beq e5, eq_of_beq e6, rfl, rfl, eq_of_beq e7, rfl, rfl, eq_of_beq e8, eq_of_beq e9, eq_of_beq e10, e11, e12⟩
theorem seat_facts (a : Int) (h0 : 0 ≤ a) (h1 : a < 256) : ∃ q, confidantseat_Lattice.f 400 a = some q ∧ latB q = true ∧ 2 ≤ q.length ∧ q.length ≤ 8 ∧ lawsB q = true := by
  obtain ⟨x, rfl⟩ := Int.eq_ofNat_of_zero_le h0
  have hx : x < 256 := by omega
  have h6 : x % 6 < 6 := Nat.mod_lt _ (by decide)
  have hs := seat_lat ⟨x % 6, h6⟩
  exact ⟨_, seat_small ⟨x, hx⟩, hs.1, hs.2.1, hs.2.2, seat_laws ⟨x % 6, h6⟩⟩
theorem pick_split (n d : Nat) (g : Int → Bool) (h : d < n) (hg : g (d : Int) = true) : ∃ r, pick n g = pick d g ++ (d : Int) :: r := by
  induction n with
  | zero => omega
  | succ m ih =>
    rcases Nat.lt_or_eq_of_le (Nat.le_of_lt_succ h) with h1 | rfl
    · obtain ⟨r, hr⟩ := ih h1
      cases hm : g (m : Int) with
      | true => exact ⟨r ++ [(m : Int)], by rw [pick_yes m g hm, hr]; simp⟩
      | false => exact ⟨r, by rw [pick_no m g hm, hr]⟩
    · exact ⟨[], by rw [pick_yes d g hg]⟩
theorem pick_at (n d : Nat) (g : Int → Bool) (h : d < n) (hg : g (d : Int) = true) : (pick d g).length < (pick n g).length ∧ rd (pick n g) ((pick d g).length : Int) = (d : Int) := by
  obtain ⟨r, hr⟩ := pick_split n d g h hg
  rw [hr]
  refine ⟨by simp, ?_⟩
  unfold rd
  simp
def belB (q : List (List Bool)) : Bool := ((List.range q.length).all fun a => (latAt q.length (leqF q) a a 0 == 1) && (List.range q.length).all fun c => (latAt q.length (joinF q) a c (-1) == (a : Int)) == (latAt q.length (leqF q) c a 0 == 1)) &&
  (((pick q.length fun x => latAt q.length (leqF q) x (topF q q.length) 0 == 1).length == q.length) && ((pick q.length fun x => latAt q.length (leqF q) x (botF q q.length) 0 == 1).length == 1))
theorem seat_bel : ∀ j : Fin 6, belB (seatT j.val) = true := by decide +kernel
theorem belB_open (q : List (List Bool)) (h : belB q = true) : (∀ a : Nat, a < q.length → (latAt q.length (leqF q) a a 0 == 1) = true ∧ ∀ c : Nat, c < q.length → (latAt q.length (joinF q) a c (-1) == (a : Int)) = (latAt q.length (leqF q) c a 0 == 1)) ∧ (pick q.length fun x => latAt q.length (leqF q) x (topF q q.length) 0 == 1).length = q.length ∧ (pick q.length fun x => latAt q.length (leqF q) x (botF q q.length) 0 == 1).length = 1 := by
  unfold belB at h
  rw [Bool.and_eq_true, Bool.and_eq_true] at h
  obtain ⟨h1, h2, h3⟩ := h
  refine ⟨fun a ha => ?_, eq_of_beq h2, eq_of_beq h3⟩
  have := List.all_eq_true.1 h1 a (List.mem_range.2 ha)
  rw [Bool.and_eq_true] at this
  exact ⟨this.1, fun c hc => eq_of_beq (List.all_eq_true.1 this.2 c (List.mem_range.2 hc))⟩
theorem seat_facts2 (a : Int) (h0 : 0 ≤ a) (h1 : a < 256) : ∃ q, confidantseat_Lattice.f 400 a = some q ∧ latB q = true ∧ 2 ≤ q.length ∧ q.length ≤ 8 ∧ belB q = true := by
  obtain ⟨x, rfl⟩ := Int.eq_ofNat_of_zero_le h0
  have hx : x < 256 := by omega
  have h6 : x % 6 < 6 := Nat.mod_lt _ (by decide)
  have hs := seat_lat ⟨x % 6, h6⟩
  exact ⟨_, seat_small ⟨x, hx⟩, hs.1, hs.2.1, hs.2.2, seat_bel ⟨x % 6, h6⟩⟩
theorem neq_nil {P : Program} (w : World) (t e : TypeId) (a : Option Addr) (l c : Nat) (h : P.underlying t = some (.slice e)) : (binOp .neq t (.slice a l c) (.slice none 0 0)).run P w = .ok (.bool (!a.isNone)) w := by
  simp only [binOp]
  simp [Op.equal, Op.maxDepth, eqlIn_nil w 9999 t e a l c h]
set_option maxRecDepth 100000 in
set_option maxHeartbeats 3200000 in
theorem confidantlaw3_LatticeBelow.calls (a0 a1 : Int) (w : World) (h0 : 0 ≤ a0 ∧ a0 < 256) (h1 : 0 ≤ a1 ∧ a1 < 256) : Calls Try.prog 11 #[.int .u8 a0, .int .u8 a1] w fun e w' => e = .returned (.bool true) ∧ Below w.heap.size w w' := by
  obtain ⟨q, hs, hlat, hn2, hn8, hbel⟩ := seat_facts2 a0 h0.1 h0.2
  obtain ⟨h10, h11⟩ := h1
  have HSEAT := Aside0.mk hs
  have HLAT := Aside0.mk hlat
  have hn0 : (q.length : Int) ≠ 0 := by omega
  have hq4 : q.length < 4611686018427387904 := by omega
  have HB := Aside0.mk (Below.refl w.heap.size w)
  obtain ⟨hb1, hb2, hb3⟩ := belB_open q hbel
  have HBA := Aside0.mk hb1
  have HTOP := Aside0.mk hb2
  have HBOT := Aside0.mk hb3
  obtain ⟨a, ha⟩ := Int.eq_ofNat_of_zero_le (Int.emod_nonneg a1 hn0)
  have hal : a < q.length := by have := Int.emod_lt_of_pos a1 (show 0 < (q.length : Int) by omega); omega
  have HA := Aside0.mk ha
  clear hs hlat hbel h0 hb1 hb2 hb3 ha
  go_enter Try.func11, Try.ntmps11
  go_wp2_with fail
  refine (lattice_known_calls _).mono ?_
  rintro e w1 ⟨rfl, hB⟩
  have HB2 := Aside0.mk (below_step (by repeat (first | (with_reducible first | exact HB.out | apply below_alloc | apply pw_below_drewN | apply below_drew1) | exact HB.out)) hB)
  clear HB hB
  have HB := HB2
  clear HB2
  go_wp2_with fail
  refine (confidantseat_Lattice.calls 400 a0 q _ HSEAT.out).mono ?_
  rintro e w2 ⟨v, rfl, hS, hB⟩
  have HB2 := Aside0.mk (below_step (by repeat (first | (with_reducible first | exact HB.out | apply below_alloc | apply pw_below_drewN | apply below_drew1) | exact HB.out)) hB)
  clear HB hB
  have HB := HB2
  clear HB2
  have HS := Aside0.mk hS
  obtain ⟨A, c, rfl, hc, hC⟩ := Kd.S_reads hS
  clear hS
  go_wp2_with fail
  refine (lattice_New_calls A c q _ hC hc hq4).mono ?_
  rintro e w3 ⟨hB, h⟩
  rcases h with ⟨hf, -⟩ | ⟨-, g, hg, rfl, hI⟩
  · rw [HLAT.out] at hf; cases hf
  generalize hfl : leqF q = fl at *
  generalize hfj : joinF q = fj at *
  generalize hfm : meetF q = fm at *
  generalize htop : topF q q.length = top at *
  generalize hbot : botF q q.length = bot at *
  generalize hnn : q.length = n at *
  have HI := Aside0.mk hI
  have HB2 := Aside0.mk (below_step (by repeat (first | (with_reducible first | exact HB.out | apply below_alloc | apply pw_below_drewN | apply below_drew1) | exact HB.out)) hB)
  clear HB hB hI hC hc hg hq4
  have HB := HB2
  clear HB2
  clear hfl hfj hfm htop hbot HLAT HSEAT HS hnn
  obtain ⟨hGa, hJ⟩ := HBA.out a hal
  have HJ := Aside0.mk hJ
  have HGA := Aside0.mk hGa
  clear HBA hJ hGa
  obtain ⟨G, hG⟩ : ∃ G : Int → Bool, G = fun x => latAt n fl x (a : Int) 0 == 1 := ⟨_, rfl⟩
  have HG := Aside0.mk hG
  clear hG
  go_wp2_with fail
  rw [HA.out]
  refine (lattice_Below_calls g n fl fj fm top bot (a : Int) _ (HI.out.below (by repeat (first | exact Below.refl _ _ | apply below_alloc | apply pw_below_drewN | apply below_drew1))) (by omega)).mono ?_
  rw [← HG.out]
  rintro e w4 ⟨v, rfl, hR, hB⟩
  obtain ⟨Ab, cb, rfl⟩ := Kd.R_slice hR
  have HR := Aside0.mk (Kd.R_reads' hR).2.2
  clear hR
  have HI2 := Aside0.mk (HI.out.below (below_step (by repeat (first | exact Below.refl _ _ | apply below_alloc | apply pw_below_drewN | apply below_drew1)) hB))
  have HB2 := Aside0.mk (below_step (by repeat (first | (with_reducible first | exact HB.out | apply below_alloc | apply pw_below_drewN | apply below_drew1) | exact HB.out)) hB)
  clear HI HB hB
  have HI := HI2
  have HB := HB2
  clear HI2 HB2
  obtain ⟨L, hL⟩ : ∃ L, (pick n G).length = L := ⟨_, rfl⟩
  rw [hL] at HR
  rw [hL]
  have HL := Aside0.mk hL
  clear hL
  go_wp2_with fail
  go_loopw [10, 11] (fun v10 v11 wr => ∃ d : Nat, d ≤ n ∧ v11 = .int .i64 (d : Int) ∧ v10 = .int .i64 ((pick d G).length : Int) ∧ Aside0 (Below w.heap.size w wr) ∧ Aside0 (IsLat wr g n fl fj fm top bot) ∧ Aside0 (Kd.C (Kd.int .i64) wr Ab L (pick n G))) (fun _ i _ => n - (intOf i).toNat)
  case atStart => exact ⟨0, Nat.zero_le _, rfl, rfl, HB, HI, HR⟩
  case round =>
    clear HB HI HR
    obtain ⟨d, hd, rfl, rfl, HB, HI, HR⟩ := hrel
    by_cases hlt : d < n
    · have hGd : (latAt n fj (a : Int) (d : Int) (-1) == (a : Int)) = G d := by rw [HJ.out d hlt, HG.out]
      have HPL := Aside0.mk (pick_len d G)
      obtain ⟨x, hx⟩ : ∃ x, latAt n fj (a : Int) (d : Int) (-1) = x := ⟨_, rfl⟩
      rw [hx] at hGd
      have HX := Aside0.mk hx
      clear hx
      cases hg : G d with
      | true =>
        rw [hg] at hGd
        obtain rfl := eq_of_beq hGd
        obtain ⟨hp1, hp2⟩ := pick_at n d G hlt hg
        have PY := Aside0.mk (pick_yes d G hg)
        obtain ⟨p, hp⟩ : ∃ p, (pick d G).length = p := ⟨_, rfl⟩
        have HPP := Aside0.mk (show (pick (d + 1) G).length = p + 1 by rw [PY.out, List.length_append, hp]; rfl)
        rw [hp] at hp1 hp2 HPL
        rw [HL.out] at hp1
        rw [hp]
        clear hg hGd PY hp
        have hPL := HPL.out
        go_wp2_with fail
        refine (lattice_Join_calls g n fl fj fm top bot (a : Int) (d : Int) _ (HI.out.below (by repeat (first | exact Below.refl _ _ | apply below_alloc | apply pw_below_drewN | apply below_drew1)))).mono ?_
        rw [HX.out]
        rintro e w5 ⟨rfl, ⟨nd, rfl⟩⟩
        obtain ⟨ad, rfl, hcell⟩ := Kd.at_int (Kd.C_drewN HR.out nd) (p : Int) (by omega) (by omega)
        rw [hp2] at hcell
        simp only [Int.toNat_natCast] at hcell
        clear hp2
        go_wp2
        go_roundw
        case rel => exact ⟨d + 1, by omega, by go_num, by rw [HPP.out]; go_num, ⟨(by repeat (first | (with_reducible first | exact HB.out | apply below_alloc | apply pw_below_drewN | apply below_drew1) | exact HB.out))⟩, ⟨HI.out.below (by repeat (first | exact Below.refl _ _ | apply below_alloc | apply pw_below_drewN | apply below_drew1))⟩, ⟨Kd.C_below HR.out (by repeat (first | exact Below.refl _ _ | apply below_alloc | apply pw_below_drewN | apply below_drew1))⟩⟩
        case measure => simp [intOf]; omega
      | false =>
        rw [hg] at hGd
        have PN := Aside0.mk (pick_no d G hg)
        clear hg
        go_wp2_with fail
        refine (lattice_Join_calls g n fl fj fm top bot (a : Int) (d : Int) _ (HI.out.below (by repeat (first | exact Below.refl _ _ | apply below_alloc | apply pw_below_drewN | apply below_drew1)))).mono ?_
        rw [HX.out]
        rintro e w5 ⟨rfl, ⟨nd, rfl⟩⟩
        have hGd2 : ¬ x = (a : Int) := by simpa using hGd
        go_wp2
        go_roundw
        case rel => exact ⟨d + 1, by omega, by go_num, by rw [PN.out], ⟨(by repeat (first | (with_reducible first | exact HB.out | apply below_alloc | apply pw_below_drewN | apply below_drew1) | exact HB.out))⟩, ⟨HI.out.below (by repeat (first | exact Below.refl _ _ | apply below_alloc | apply pw_below_drewN | apply below_drew1))⟩, ⟨Kd.C_below HR.out (by repeat (first | exact Below.refl _ _ | apply below_alloc | apply pw_below_drewN | apply below_drew1))⟩⟩
        case measure => simp [intOf]; omega
    · obtain rfl : d = n := by omega
      have hL1 : 1 ≤ L := by
        obtain ⟨h1, _⟩ := pick_at d a G hal (by rw [HG.out]; exact HGA.out)
        rw [HL.out] at h1
        omega
      rw [HL.out]
      have hN : ∀ (w : World) (ad : Addr) (n c : Nat), (binOp .neq 23 (.slice (some ad) n c) (.slice none 0 0)).run Try.prog w = .ok (.bool true) w := fun w ad n c => neq_nil w _ _ (some ad) n c Try.underlying23
      go_wp2_with fail
      refine (lattice_Top_calls g d fl fj fm top bot  _ (HI.out.below (by repeat (first | exact Below.refl _ _ | apply below_alloc | apply pw_below_drewN | apply below_drew1)))).mono ?_
      rintro e w' ⟨rfl, ⟨nd, rfl⟩⟩
      go_wp2_with fail
      refine (lattice_Below_calls g d fl fj fm top bot top _ (HI.out.below (by repeat (first | exact Below.refl _ _ | apply below_alloc | apply pw_below_drewN | apply below_drew1))) (by omega)).mono ?_
      rintro e w9 ⟨v, rfl, hR, hB⟩
      obtain ⟨adt, ct, rfl⟩ := Kd.R_slice1 hR (by rw [HTOP.out]; omega)
      rw [HTOP.out]
      clear hR
      have HI2 := Aside0.mk (HI.out.below (below_step (by repeat (first | exact Below.refl _ _ | apply below_alloc | apply pw_below_drewN | apply below_drew1)) hB))
      have HB2 := Aside0.mk (below_step (by repeat (first | (with_reducible first | exact HB.out | apply below_alloc | apply pw_below_drewN | apply below_drew1) | exact HB.out)) hB)
      clear HI HB hB
      have HI := HI2
      have HB := HB2
      clear HI2 HB2
      go_wp2_with fail
      refine (lattice_Top_calls g d fl fj fm top bot  _ (HI.out.below (by repeat (first | exact Below.refl _ _ | apply below_alloc | apply pw_below_drewN | apply below_drew1)))).mono ?_
      rintro e w' ⟨rfl, ⟨nd, rfl⟩⟩
      go_wp2_with fail
      refine (lattice_Below_calls g d fl fj fm top bot top _ (HI.out.below (by repeat (first | exact Below.refl _ _ | apply below_alloc | apply pw_below_drewN | apply below_drew1))) (by omega)).mono ?_
      rintro e w9 ⟨v, rfl, hR, hB⟩
      obtain ⟨Au, cu, rfl⟩ := Kd.R_slice hR
      rw [HTOP.out]
      clear hR
      have HI2 := Aside0.mk (HI.out.below (below_step (by repeat (first | exact Below.refl _ _ | apply below_alloc | apply pw_below_drewN | apply below_drew1)) hB))
      have HB2 := Aside0.mk (below_step (by repeat (first | (with_reducible first | exact HB.out | apply below_alloc | apply pw_below_drewN | apply below_drew1) | exact HB.out)) hB)
      clear HI HB hB
      have HI := HI2
      have HB := HB2
      clear HI2 HB2
      go_wp2_with fail
      refine (lattice_Bottom_calls g d fl fj fm top bot  _ (HI.out.below (by repeat (first | exact Below.refl _ _ | apply below_alloc | apply pw_below_drewN | apply below_drew1)))).mono ?_
      rintro e w' ⟨rfl, ⟨nd, rfl⟩⟩
      go_wp2_with fail
      refine (lattice_Below_calls g d fl fj fm top bot bot _ (HI.out.below (by repeat (first | exact Below.refl _ _ | apply below_alloc | apply pw_below_drewN | apply below_drew1))) (by omega)).mono ?_
      rintro e w9 ⟨v, rfl, hR, hB⟩
      obtain ⟨Av, cv, rfl⟩ := Kd.R_slice hR
      rw [HBOT.out]
      clear hR
      have HI2 := Aside0.mk (HI.out.below (below_step (by repeat (first | exact Below.refl _ _ | apply below_alloc | apply pw_below_drewN | apply below_drew1)) hB))
      have HB2 := Aside0.mk (below_step (by repeat (first | (with_reducible first | exact HB.out | apply below_alloc | apply pw_below_drewN | apply below_drew1) | exact HB.out)) hB)
      clear HI HB hB
      have HI := HI2
      have HB := HB2
      clear HI2 HB2
      go_wp2
      go_ret
      exact ⟨rfl, (by repeat (first | (with_reducible first | exact HB.out | apply below_alloc | apply pw_below_drewN | apply below_drew1) | exact HB.out))⟩
/-- What is owed of plain data: nothing. -/
def confidantlaw3_LatticeBelow.Pure : Prop := True
theorem lat_u8 {a : Int} (h : (Lit.int .u8 a).wf = true) : 0 ≤ a ∧ a < 256 := by
  have h1 : IntKind.u8.min = 0 := rfl
  have h2 : IntKind.u8.max = 255 := rfl
  simp [Lit.wf] at h; omega
theorem confidantlaw3_LatticeBelow.walk (_ : confidantlaw3_LatticeBelow.Pure) (a0 a1 : Int) (w : World) (w0 : (Lit.int .u8 a0).wf = true) (w1 : (Lit.int .u8 a1).wf = true) :
    Calls Try.prog 11 #[.int .u8 a0, .int .u8 a1] w fun e w' => e = .returned (.bool true) ∧ Below w.heap.size w w' :=
  confidantlaw3_LatticeBelow.calls a0 a1 w (lat_u8 w0) (lat_u8 w1)

end Go.Proofs.Ytpeeneaapmmciaa.PLbelow
