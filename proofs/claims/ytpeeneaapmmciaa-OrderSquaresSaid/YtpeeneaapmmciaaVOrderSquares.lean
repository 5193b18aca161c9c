/- The walk of OrderSquares and of what it calls, out of a printed text and of our own texts. -/
import Derived.Test.YtpeeneaapmmciaaPOsqx0
import Derived.Test.YtpeeneaapmmciaaPOsqx1
import Derived.Test.YtpeeneaapmmciaaPOsqx2
namespace Go.Proofs.Ytpeeneaapmmciaa.POsq
open Go.RowKit Go.Proofs.YtpeeneaapmmciaaW.PrintWords Go.Proofs.YtpeeneaapmmciaaW.PrintLast Go.Proofs.YtpeeneaapmmciaaW.PrintMore
attribute [local go_sem] max2_int min2_int max_two min_two max_three min_three max_four min_four   -- for this text's walks alone
set_option linter.unusedVariables false
set_option linter.unusedSimpArgs false

/-! ### confidantlaw2_OrderSquares: function 7 -/
theorem infoB : (Try.prog.info? 4).map (fun i => (i.zero, i.size, i.bytes)) = some (some (.bool false), 1, 1) := by kernel_rfl
theorem infoR : (Try.prog.info? 36).map (fun i => (i.zero, i.size, i.bytes)) = some (some (.slice none 0 0), 1, 24) := by kernel_rfl
def rowLen (rows : List Int) (r : Int) : Int := (rows.length : Int) + r % 8 / 7
def rowsQ (rows : List Int) (i : Nat) : List (List Bool) := (rows.take i).map fun r => List.replicate (rowLen rows r).toNat false
def rowsOk (rows : List Int) (i : Nat) : Bool := (decide (1 ≤ rows.length) && decide (rows.length ≤ 16)) && (rows.take i).all fun r => rowLen rows r == (rows.length : Int)
theorem rowsQ_len (rows : List Int) (i : Nat) : (rowsQ rows i).length ≤ rows.length := by unfold rowsQ; rw [List.length_map, List.length_take]; omega
set_option maxHeartbeats 1600000 in
theorem confidantlaw2_OrderSquares.calls (A0 : Option Addr) (c0 : Nat) (l0 : List Int) (a1 : Int) (w : World) (hr0 : Kd.C (Kd.int .u8) w A0 l0.length l0) (hwf : ∀ x ∈ l0, 0 ≤ x ∧ x < 256) (h1 : 0 ≤ a1 ∧ a1 < 256) (hk : confidantlaw2_known.f 300 = some true)
    (hpure : l0.length ≤ 20 → order_Square.f 300 (rowsQ l0 l0.length) = some (rowsOk l0 l0.length) ∧ order_Square.f 300 (List.replicate (a1 % 20).toNat (List.replicate (a1 % 20).toNat false)) = some (decide (1 ≤ a1 % 20) && decide (a1 % 20 ≤ 16)) ∧
    (rowsOk l0 l0.length = false → order_Transitive.f (rowsQ l0 l0.length) = some false ∧ order_Reflexive.f (rowsQ l0 l0.length) = some false ∧ order_Antisymmetric.f (rowsQ l0 l0.length) = some false)) :
    Calls Try.prog 7 #[.slice A0 l0.length c0, .int .u8 a1] w fun e w' => e = .returned (.bool true) ∧ Below w.heap.size w w' := by
  obtain ⟨h10, h11⟩ := h1
  have HR := Aside0.mk hr0
  have HW := Aside0.mk hwf
  have HK := Aside0.mk hk
  have HPU := Aside0.mk hpure
  clear hr0 hwf hk hpure
  by_cases hlen : l0.length ≤ 20
  · obtain ⟨hsq, hss, ht⟩ := HPU.out hlen
    have HSQ := Aside0.mk hsq
    have HSS := Aside0.mk hss
    have HT := Aside0.mk ht
    clear hsq hss ht HPU
    by_cases hA : 1 ≤ l0.length
    all_goals by_cases hB : l0.length ≤ 16
    all_goals try (exfalso; omega)
    all_goals
      go_enter Try.func7, Try.ntmps7
      go_wp2_with fail
      refine (confidantlaw2_known.calls 300 true _ HK.out).mono ?_
      rintro e w1 ⟨rfl, hb⟩
      have HB := Aside0.mk hb
      clear hb
      go_wp2_with fail
      go_loopw [5, 7, 8] (fun v o i wr => ∃ a : Nat, a ≤ l0.length ∧ i = .int .i64 (a : Int) ∧ o = .bool (rowsOk l0 a) ∧ Aside0 (Kd.S (Kd.slice 4 Kd.bool) 36 wr w.heap.size (fun _ => True) v (rowsQ l0 a)) ∧ Aside0 (Below w.heap.size w wr)) (fun _ _ i _ => l0.length - (intOf i).toNat)
      case atStart => exact ⟨0, Nat.zero_le _, rfl, by (congr 1; rw [Bool.eq_iff_iff]; simp [rowsOk]; try omega), ⟨Kd.S_nil _ _ _ _ _⟩, HB⟩
      case round =>
        clear HB
        obtain ⟨a, ha, rfl, rfl, HO, HB⟩ := hrel
        by_cases hlt : a < l0.length
        all_goals try (exfalso; omega)
        try
          case pos =>
              obtain ⟨ad, rfl, hx⟩ := Kd.at_int (Kd.C_below HR.out HB.out) (a : Int) (by omega) (by omega)
              simp only [Int.toNat_natCast] at hx
              obtain ⟨hv0, hv1⟩ := HW.out _ (rd_mem l0 a hlt)
              have HL := Aside0.mk (rowsQ_len l0 a)
              have HQ : Aside0 (rowsQ l0 (a + 1) = rowsQ l0 a ++ [List.replicate (rowLen l0 (rd l0 a)).toNat false]) := ⟨by
                unfold rowsQ
                rw [List.take_succ_eq_append_getElem hlt, List.map_append]
                have hr : rd l0 (a : Int) = l0[a] := by unfold rd; simp [hlt]
                rw [hr]; rfl⟩
              have HK1 : Aside0 (rowsOk l0 (a + 1) = (rowsOk l0 a && (rowLen l0 (rd l0 a) == (l0.length : Int)))) := ⟨by
                unfold rowsOk
                rw [List.take_succ_eq_append_getElem hlt, List.all_append, Bool.and_assoc (_ && _)]
                have hr : rd l0 (a : Int) = l0[a] := by unfold rd; simp [hlt]
                rw [hr]; simp⟩
              generalize hu : rd l0 (a : Int) = u at *
              clear hu
              have hl1 : 1 ≤ l0.length := by omega
              unfold rowLen at HQ HK1
              generalize rowsOk l0 a = okk at *
              cases okk
              all_goals
                go_wp2_with (first | ((with_reducible refine gate_dst (N := 42) rfl ?_); at_make; refine Kd.R_make Kd.bool (w0 := w) w.heap.size 4 rfl (N := 42) rfl 36 (.tmp 41) (.tmp 41) rfl ((l0.length : Int) + u % 8 / 7) rfl rfl Try.underlying36 (.bool false) 1 infoB rfl (by decide) (by decide) false (ok := fun _ => True) (okp := fun _ => False) rfl (fun _ h => h.elim) trivial ?m1 ?m2 (by repeat (first | (with_reducible first | exact HB.out | apply below_alloc | apply pw_below_drewN | apply below_drew1) | exact HB.out)) (below_size (by repeat (first | (with_reducible first | exact HB.out | apply below_alloc | apply pw_below_drewN | apply below_drew1) | exact HB.out))) ?_; (case m1 => omega); (case m2 => omega); intro v1_ w1_ ho_ hb_ hg_ hn_; obtain ⟨ym_, hym_⟩ : ∃ y_ : List Bool, y_ = List.replicate ((l0.length : Int) + u % 8 / 7).toNat false := ⟨_, rfl⟩; rw [← hym_] at ho_; have HYM := Aside0.mk hym_; clear hym_; have HLT := Aside0.mk (Kd.S_lt HO.out); have hgw_ := (Below.refl wr.heap.size wr).grown hg_ (Nat.le_refl _) (fun k h => by cases h); obtain ⟨Am_, cm_, em_⟩ := Kd.R_slice ho_; subst em_; have hge_ : ∀ k, (Value.slice Am_ ym_.length cm_).ownBlock = some k → wr.heap.size ≤ k := (fun k hk => by obtain ⟨b_, e1_, e2_⟩ := hn_; rw [hk] at e1_; cases e1_; exact e2_); have HGE := Aside0.mk hge_; have HOq := Aside0.mk (Kd.S_elder' HO.out hge_ hgw_); have HM := Aside0.mk ho_; have HB1 := Aside0.mk hb_; clear HB HO ho_ hb_ hg_ hn_ hgw_ hge_; have HB := HB1; clear HB1) | ((with_reducible refine gate_builtin (b := .append) (xs := #[.tmp 40, .tmp 43]) rfl ?_); at_builtin; refine Kd.S_append (Kd.slice 4 Kd.bool) (w0 := w) w.heap.size rfl (.tmp 40) (.tmp 43) 32 36 (.slice none 0 0) 24 rfl Try.underlying32 infoR rfl (by decide) (by omega) u5 (rowsQ l0 a) ym_ [.slice Am_ ym_.length cm_] (fun _ => True) (fun k_ => some k_ = (.slice Am_ ym_.length cm_ : Value).ownBlock) rfl rfl ?aP (fun k_ hk_ => ⟨trivial, fun e_ => absurd (HGE.out k_ hk_.symm) (Nat.not_le_of_lt (HLT.out k_ e_.symm))⟩) (fun _ _ => trivial) ?aO ?aB ?aS ?aL ?_; (case aP => exact Kd.M_row (Kd.R_mono (Kd.R_tight rfl HM.out) (fun _ h_ => h_))); (case aO => exact Kd.S_mono HOq.out (fun k_ hk => ⟨trivial, fun e_ => hk.2 e_⟩)); (case aB => exact (by repeat (first | (with_reducible first | exact HB.out | apply below_alloc | apply pw_below_drewN | apply below_drew1) | exact HB.out))); (case aS => exact (below_size (by repeat (first | (with_reducible first | exact HB.out | apply below_alloc | apply pw_below_drewN | apply below_drew1) | exact HB.out)))); (case aL => have := HL.out; omega); intro v2_ w2_ ho_ hb_ hg_ hat_; rw [HYM.out] at ho_; have HO2 := Aside0.mk ho_; have HB1 := Aside0.mk hb_; clear HB HOq HM HLT HGE HYM ho_ hb_ hg_ hat_; have HB := HB1; have HO := HO2; clear HB1 HO2))
                go_roundw
                case rel => exact ⟨a + 1, by omega, by go_num, by rw [HK1.out]; simp, ⟨by rw [HQ.out]; exact HO.out⟩, HB⟩
                case measure => simp [intOf]; omega
        case neg =>
          have hae : a = l0.length := by omega
          subst hae
          have hBl := HB.out
          obtain ⟨Aq, cq, rfl⟩ := Kd.S_slice HO.out
          have HQ := Aside0.mk (Kd.S_reads' HO.out)
          clear HO
          obtain ⟨w2, rfl⟩ : ∃ w2 : World, w2 = wr := ⟨_, rfl⟩
          have HB2 := Aside0.mk hBl
          clear hBl HB
          have HB := Aside0.mk (Below.refl w2.heap.size w2)
          generalize hok : rowsOk l0 l0.length = okk at *
          clear hok
          have hm0 : 0 ≤ a1 % 20 := by omega
          have hm1 : a1 % 20 ≤ 19 := by omega
          go_wp2_with fail
          go_loopw [6, 10] (fun v i wr => ∃ b : Nat, (b : Int) ≤ a1 % 20 ∧ i = .int .i64 (b : Int) ∧ Aside0 (Kd.S (Kd.slice 4 Kd.bool) 36 wr w2.heap.size (fun _ => True) v (List.replicate b (List.replicate (a1 % 20).toNat false))) ∧ Aside0 (Below w2.heap.size w2 wr)) (fun _ i _ => (a1 % 20).toNat - (intOf i).toNat)
          case atStart => exact ⟨0, by omega, rfl, ⟨Kd.S_nil _ _ _ _ _⟩, HB⟩
          case round =>
            clear HB
            obtain ⟨b, hb, rfl, HO, HB⟩ := hrel
            by_cases hlt : (b : Int) < a1 % 20
            · have HL : Aside0 ((List.replicate b (List.replicate (a1 % 20).toNat false)).length ≤ 20) := ⟨by rw [List.length_replicate]; omega⟩
              go_wp2_with (first | ((with_reducible refine gate_dst (N := 63) rfl ?_); at_make; refine Kd.R_make Kd.bool (w0 := w2) w2.heap.size 4 rfl (N := 63) rfl 36 (.tmp 62) (.tmp 62) rfl (a1 % 20) rfl rfl Try.underlying36 (.bool false) 1 infoB rfl (by decide) (by decide) false (ok := fun _ => True) (okp := fun _ => False) rfl (fun _ h => h.elim) trivial ?m1 ?m2 (by repeat (first | (with_reducible first | exact HB.out | apply below_alloc | apply pw_below_drewN | apply below_drew1) | exact HB.out)) (below_size (by repeat (first | (with_reducible first | exact HB.out | apply below_alloc | apply pw_below_drewN | apply below_drew1) | exact HB.out))) ?_; (case m1 => omega); (case m2 => omega); intro v1_ w1_ ho_ hb_ hg_ hn_; obtain ⟨ym_, hym_⟩ : ∃ y_ : List Bool, y_ = List.replicate (a1 % 20).toNat false := ⟨_, rfl⟩; rw [← hym_] at ho_; have HYM := Aside0.mk hym_; clear hym_; have HLT := Aside0.mk (Kd.S_lt HO.out); have hgw_ := (Below.refl wr.heap.size wr).grown hg_ (Nat.le_refl _) (fun k h => by cases h); obtain ⟨Am_, cm_, em_⟩ := Kd.R_slice ho_; subst em_; have hge_ : ∀ k, (Value.slice Am_ ym_.length cm_).ownBlock = some k → wr.heap.size ≤ k := (fun k hk => by obtain ⟨b_, e1_, e2_⟩ := hn_; rw [hk] at e1_; cases e1_; exact e2_); have HGE := Aside0.mk hge_; have HOq := Aside0.mk (Kd.S_elder' HO.out hge_ hgw_); have HM := Aside0.mk ho_; have HB1 := Aside0.mk hb_; clear HB HO ho_ hb_ hg_ hn_ hgw_ hge_; have HB := HB1; clear HB1) | ((with_reducible refine gate_builtin (b := .append) (xs := #[.tmp 59, .tmp 64]) rfl ?_); at_builtin; refine Kd.S_append (Kd.slice 4 Kd.bool) (w0 := w2) w2.heap.size rfl (.tmp 59) (.tmp 64) 32 36 (.slice none 0 0) 24 rfl Try.underlying32 infoR rfl (by decide) (by omega) u6 (List.replicate b (List.replicate (a1 % 20).toNat false)) ym_ [.slice Am_ ym_.length cm_] (fun _ => True) (fun k_ => some k_ = (.slice Am_ ym_.length cm_ : Value).ownBlock) rfl rfl ?aP (fun k_ hk_ => ⟨trivial, fun e_ => absurd (HGE.out k_ hk_.symm) (Nat.not_le_of_lt (HLT.out k_ e_.symm))⟩) (fun _ _ => trivial) ?aO ?aB ?aS ?aL ?_; (case aP => exact Kd.M_row (Kd.R_mono (Kd.R_tight rfl HM.out) (fun _ h_ => h_))); (case aO => exact Kd.S_mono HOq.out (fun k_ hk => ⟨trivial, fun e_ => hk.2 e_⟩)); (case aB => exact (by repeat (first | (with_reducible first | exact HB.out | apply below_alloc | apply pw_below_drewN | apply below_drew1) | exact HB.out))); (case aS => exact (below_size (by repeat (first | (with_reducible first | exact HB.out | apply below_alloc | apply pw_below_drewN | apply below_drew1) | exact HB.out)))); (case aL => have := HL.out; omega); intro v2_ w2_ ho_ hb_ hg_ hat_; rw [HYM.out] at ho_; have HO2 := Aside0.mk ho_; have HB1 := Aside0.mk hb_; clear HB HOq HM HLT HGE HYM ho_ hb_ hg_ hat_; have HB := HB1; have HO := HO2; clear HB1 HO2))
              go_roundw
              case rel => exact ⟨b + 1, by omega, by go_num, ⟨by rw [List.replicate_succ']; exact HO.out⟩, HB⟩
              case measure => simp [intOf]; omega
            · have hbe : b = (a1 % 20).toNat := by omega
              subst hbe
              obtain ⟨As, cs, rfl⟩ := Kd.S_slice HO.out
              have HS := Aside0.mk (Kd.S_reads' HO.out)
              clear HO
              generalize hss0 : List.replicate (a1 % 20).toNat (List.replicate (a1 % 20).toNat false) = ss at *
              clear hss0
              by_cases hq1 : 1 ≤ a1 % 20
              all_goals by_cases hq2 : a1 % 20 ≤ 16
              all_goals try (exfalso; omega)
              all_goals
                have HSS2 := HSS.out
                simp only [hq1, hq2, decide_true, decide_false, Bool.and_true, Bool.and_false, Bool.false_and, Bool.true_and, Bool.and_self] at HSS2
                clear HSS
                have HSS := Aside0.mk HSS2
                clear HSS2
                cases okk
                · have HTT := Aside0.mk (HT.out rfl)
                  clear HT
                  go_wp2_with (first | (go_at_call 26; (with_reducible refine (order_Square.calls 300 Aq cq (rowsQ l0 l0.length) false _ ?s1 ?s2 HSQ.out).mono ?_); (case s1 => repeat (first | exact Kd.C_below HQ.out.2.2 HB.out | (with_reducible refine Kd.C_alloc ?_ _) | (with_reducible refine Kd.C_drewN ?_ _) | (with_reducible refine Kd.C_drew ?_))); (case s2 => exact HQ.out.2.1); rintro e w' ⟨rfl, ⟨nd, rfl⟩⟩) | (go_at_call 26; (with_reducible refine (order_Square.calls 300 As cs ss _ _ ?s1 ?s2 HSS.out).mono ?_); (case s1 => repeat (first | exact HS.out.2.2 | (with_reducible refine Kd.C_alloc ?_ _) | (with_reducible refine Kd.C_drewN ?_ _) | (with_reducible refine Kd.C_drew ?_))); (case s2 => exact HS.out.2.1); rintro e w' ⟨rfl, ⟨nd, rfl⟩⟩) | (go_at_call 32; (with_reducible refine (order_Transitive.calls Aq cq (rowsQ l0 l0.length) false _ ?s1 ?s2 HTT.out.1).mono ?_); (case s1 => repeat (first | exact Kd.C_below HQ.out.2.2 HB.out | (with_reducible refine Kd.C_alloc ?_ _) | (with_reducible refine Kd.C_drewN ?_ _) | (with_reducible refine Kd.C_drew ?_))); (case s2 => exact HQ.out.2.1); rintro e w3_ ⟨rfl, hb_⟩; have HB3 := Aside0.mk (below_step (by repeat (first | (with_reducible first | exact HB.out | apply below_alloc | apply pw_below_drewN | apply below_drew1) | exact HB.out)) hb_); clear HB hb_; have HB := HB3; clear HB3) | (go_at_call 28; (with_reducible refine (order_Reflexive.calls Aq cq (rowsQ l0 l0.length) false _ ?s1 ?s2 HTT.out.2.1).mono ?_); (case s1 => repeat (first | exact Kd.C_below HQ.out.2.2 HB.out | (with_reducible refine Kd.C_alloc ?_ _) | (with_reducible refine Kd.C_drewN ?_ _) | (with_reducible refine Kd.C_drew ?_))); (case s2 => exact HQ.out.2.1); rintro e w3_ ⟨rfl, hb_⟩; have HB3 := Aside0.mk (below_step (by repeat (first | (with_reducible first | exact HB.out | apply below_alloc | apply pw_below_drewN | apply below_drew1) | exact HB.out)) hb_); clear HB hb_; have HB := HB3; clear HB3) | (go_at_call 30; (with_reducible refine (order_Antisymmetric.calls Aq cq (rowsQ l0 l0.length) false _ ?s1 ?s2 HTT.out.2.2).mono ?_); (case s1 => repeat (first | exact Kd.C_below HQ.out.2.2 HB.out | (with_reducible refine Kd.C_alloc ?_ _) | (with_reducible refine Kd.C_drewN ?_ _) | (with_reducible refine Kd.C_drew ?_))); (case s2 => exact HQ.out.2.1); rintro e w3_ ⟨rfl, hb_⟩; have HB3 := Aside0.mk (below_step (by repeat (first | (with_reducible first | exact HB.out | apply below_alloc | apply pw_below_drewN | apply below_drew1) | exact HB.out)) hb_); clear HB hb_; have HB := HB3; clear HB3))
                  repeat (go_quiet (first | (go_at_call 26; (with_reducible refine (order_Square.calls 300 Aq cq (rowsQ l0 l0.length) false _ ?s1 ?s2 HSQ.out).mono ?_); (case s1 => repeat (first | exact Kd.C_below HQ.out.2.2 HB.out | (with_reducible refine Kd.C_alloc ?_ _) | (with_reducible refine Kd.C_drewN ?_ _) | (with_reducible refine Kd.C_drew ?_))); (case s2 => exact HQ.out.2.1); rintro e w' ⟨rfl, ⟨nd, rfl⟩⟩) | (go_at_call 26; (with_reducible refine (order_Square.calls 300 As cs ss _ _ ?s1 ?s2 HSS.out).mono ?_); (case s1 => repeat (first | exact HS.out.2.2 | (with_reducible refine Kd.C_alloc ?_ _) | (with_reducible refine Kd.C_drewN ?_ _) | (with_reducible refine Kd.C_drew ?_))); (case s2 => exact HS.out.2.1); rintro e w' ⟨rfl, ⟨nd, rfl⟩⟩) | (go_at_call 32; (with_reducible refine (order_Transitive.calls Aq cq (rowsQ l0 l0.length) false _ ?s1 ?s2 HTT.out.1).mono ?_); (case s1 => repeat (first | exact Kd.C_below HQ.out.2.2 HB.out | (with_reducible refine Kd.C_alloc ?_ _) | (with_reducible refine Kd.C_drewN ?_ _) | (with_reducible refine Kd.C_drew ?_))); (case s2 => exact HQ.out.2.1); rintro e w3_ ⟨rfl, hb_⟩; have HB3 := Aside0.mk (below_step (by repeat (first | (with_reducible first | exact HB.out | apply below_alloc | apply pw_below_drewN | apply below_drew1) | exact HB.out)) hb_); clear HB hb_; have HB := HB3; clear HB3) | (go_at_call 28; (with_reducible refine (order_Reflexive.calls Aq cq (rowsQ l0 l0.length) false _ ?s1 ?s2 HTT.out.2.1).mono ?_); (case s1 => repeat (first | exact Kd.C_below HQ.out.2.2 HB.out | (with_reducible refine Kd.C_alloc ?_ _) | (with_reducible refine Kd.C_drewN ?_ _) | (with_reducible refine Kd.C_drew ?_))); (case s2 => exact HQ.out.2.1); rintro e w3_ ⟨rfl, hb_⟩; have HB3 := Aside0.mk (below_step (by repeat (first | (with_reducible first | exact HB.out | apply below_alloc | apply pw_below_drewN | apply below_drew1) | exact HB.out)) hb_); clear HB hb_; have HB := HB3; clear HB3) | (go_at_call 30; (with_reducible refine (order_Antisymmetric.calls Aq cq (rowsQ l0 l0.length) false _ ?s1 ?s2 HTT.out.2.2).mono ?_); (case s1 => repeat (first | exact Kd.C_below HQ.out.2.2 HB.out | (with_reducible refine Kd.C_alloc ?_ _) | (with_reducible refine Kd.C_drewN ?_ _) | (with_reducible refine Kd.C_drew ?_))); (case s2 => exact HQ.out.2.1); rintro e w3_ ⟨rfl, hb_⟩; have HB3 := Aside0.mk (below_step (by repeat (first | (with_reducible first | exact HB.out | apply below_alloc | apply pw_below_drewN | apply below_drew1) | exact HB.out)) hb_); clear HB hb_; have HB := HB3; clear HB3)))
                  all_goals (try go_wp2)
                  all_goals go_ret
                  all_goals exact ⟨by first | (simp; done) | (simp; omega), below_step HB2.out (by repeat (first | (with_reducible first | exact HB.out | apply below_alloc | apply pw_below_drewN | apply below_drew1) | exact HB.out))⟩
                · go_wp2_with (first | (go_at_call 26; (with_reducible refine (order_Square.calls 300 Aq cq (rowsQ l0 l0.length) true _ ?s1 ?s2 HSQ.out).mono ?_); (case s1 => repeat (first | exact Kd.C_below HQ.out.2.2 HB.out | (with_reducible refine Kd.C_alloc ?_ _) | (with_reducible refine Kd.C_drewN ?_ _) | (with_reducible refine Kd.C_drew ?_))); (case s2 => exact HQ.out.2.1); rintro e w' ⟨rfl, ⟨nd, rfl⟩⟩) | (go_at_call 26; (with_reducible refine (order_Square.calls 300 As cs ss _ _ ?s1 ?s2 HSS.out).mono ?_); (case s1 => repeat (first | exact HS.out.2.2 | (with_reducible refine Kd.C_alloc ?_ _) | (with_reducible refine Kd.C_drewN ?_ _) | (with_reducible refine Kd.C_drew ?_))); (case s2 => exact HS.out.2.1); rintro e w' ⟨rfl, ⟨nd, rfl⟩⟩))
                  repeat (go_quiet (first | (go_at_call 26; (with_reducible refine (order_Square.calls 300 Aq cq (rowsQ l0 l0.length) true _ ?s1 ?s2 HSQ.out).mono ?_); (case s1 => repeat (first | exact Kd.C_below HQ.out.2.2 HB.out | (with_reducible refine Kd.C_alloc ?_ _) | (with_reducible refine Kd.C_drewN ?_ _) | (with_reducible refine Kd.C_drew ?_))); (case s2 => exact HQ.out.2.1); rintro e w' ⟨rfl, ⟨nd, rfl⟩⟩) | (go_at_call 26; (with_reducible refine (order_Square.calls 300 As cs ss _ _ ?s1 ?s2 HSS.out).mono ?_); (case s1 => repeat (first | exact HS.out.2.2 | (with_reducible refine Kd.C_alloc ?_ _) | (with_reducible refine Kd.C_drewN ?_ _) | (with_reducible refine Kd.C_drew ?_))); (case s2 => exact HS.out.2.1); rintro e w' ⟨rfl, ⟨nd, rfl⟩⟩)))
                  all_goals (try go_wp2)
                  all_goals go_ret
                  all_goals exact ⟨by first | (simp; done) | (simp; omega), below_step HB2.out (by repeat (first | (with_reducible first | exact HB.out | apply below_alloc | apply pw_below_drewN | apply below_drew1) | exact HB.out))⟩
  · have hlen' : 20 < l0.length := by omega
    go_enter Try.func7, Try.ntmps7
    go_wp2_with fail
    refine (confidantlaw2_known.calls 300 true _ HK.out).mono ?_
    rintro e w1 ⟨rfl, hb⟩
    go_wp2
    go_ret
    exact ⟨rfl, hb⟩
/-- What is owed of plain lists. -/
def confidantlaw2_OrderSquares.Pure : Prop := confidantlaw2_known.f 300 = some true ∧ ∀ (l0 : List Int) (a1 : Int), l0.length ≤ 20 → (∀ x ∈ l0, 0 ≤ x ∧ x < 256) → 0 ≤ a1 → a1 < 256 →
    order_Square.f 300 (rowsQ l0 l0.length) = some (rowsOk l0 l0.length) ∧ order_Square.f 300 (List.replicate (a1 % 20).toNat (List.replicate (a1 % 20).toNat false)) = some (decide (1 ≤ a1 % 20) && decide (a1 % 20 ≤ 16)) ∧
    (rowsOk l0 l0.length = false → order_Transitive.f (rowsQ l0 l0.length) = some false ∧ order_Reflexive.f (rowsQ l0 l0.length) = some false ∧ order_Antisymmetric.f (rowsQ l0 l0.length) = some false)
theorem u8_wf {a : Int} (h : (Lit.int .u8 a).wf = true) : 0 ≤ a ∧ a < 256 := by
  have h1 : IntKind.u8.min = 0 := rfl
  have h2 : IntKind.u8.max = 255 := rfl
  simp [Lit.wf] at h; omega
theorem confidantlaw2_OrderSquares.walk (P : confidantlaw2_OrderSquares.Pure) (a0 : Option Addr) (len0 cap0 : Nat) (z0 : List Int) (a1 : Int) (w : World) (w0 : (a0 = none ∧ len0 = 0 ∧ cap0 = 0 ∧ z0 = []) ∨ ∃ x, a0 = some x ∧ len0 ≤ cap0 ∧ cap0 ≤ maxLen ∧ z0.length = cap0 ∧ (∀ i, i < z0.length → w.cell? (x.add i) = some (.int .u8 (z0.getD i 0))) ∧ ∀ n ∈ z0, (Lit.int .u8 n).wf = true) (y0 : len0 * 1 ≤ 140737488351232) (w1 : (Lit.int .u8 a1).wf = true) :
    Calls Try.prog 7 #[.slice a0 len0 cap0, .int .u8 a1] w fun e w' => e = .returned (.bool true) ∧ Below w.heap.size w w' := by
  obtain ⟨l0, rfl, hr0, hm0, hw0, hc0⟩ := ReadsInt.ofRowC w0
  have hu := u8_wf w1
  exact confidantlaw2_OrderSquares.calls _ _ l0 a1 w (Kd.C_of_reads (d := (0 : Int)) (h1 := fun _ => rfl) hr0) (fun x hx => u8_wf (hw0 x hx)) hu P.1 (fun hl => P.2 l0 a1 hl (fun x hx => u8_wf (hw0 x hx)) hu.1 hu.2)

end Go.Proofs.Ytpeeneaapmmciaa.POsq
