/- TreeTells: Right, Value, Compile, Tasks and Label return the documented results for given, valid and modified trees. Conditions: none beside the statement's own. -/
import Derived.Test.YtcgjmlapmdbnmaaRows
import Derived.Test.YtcgjmlapmdbnmaaLawTreeTells
import Derived.WalkKit
import Derived.ProofKit
import Derived.OpenShut
import Derived.ShutString
import Derived.ChangeOld
import Derived.Below
import Derived.SizedLaws
namespace Go.Proofs.Ytcgjmlapmdbnmaa.treeTells
open Go.ChangeShapes Go.WideShapes Go.ChangeAt Go.RowKit Go.Sl
open Go.ChangeMaps (open_string shut_string)
set_option linter.unusedVariables false
set_option maxHeartbeats 4000000
theorem own : ownKnob Try.prog.godebug = none := by kernel_rfl
theorem laidOut : laidOutB Try.prog = true := by kernel_rfl
set_option maxRecDepth 100000 in
theorem lifted (os : Os) (started : os.Started) (H : Type) (enc : TypeId × Value → H) :
    ReturnsInHanded {} Try.checked os 3 .any (Rows.treeTellsSpec.pre6 enc Try.prog Try.f3 Rows.treeTellsRow.domain false) (Rows.treeTellsSpec.post enc Try.prog Try.f3 false true false false) := by
  refine returnsInHanded_of_change_sized (C := Try.checked) own started (by kernel_rfl) Try.func3
    (ChangeSpec.witness6 (enc := enc) (C := Try.checked) false ⟨#[], #[.slice none 0 0, .slice none 0 0, .int .u8 0, .int .u8 0, .int .u8 0, .int .i64 0, .int .u8 0], []⟩ 8 (by kernel_rfl) (by kernel_rfl) (by kernel_rfl) (by kernel_rfl)) ?_
  intro W base args ds gs before hval0 hW hcnd hsz0 _
  have hval : ∀ (j : Nat) t v, Try.f3.params[j]? = some t → args[j]? = some v → Value.okWide Try.prog W .any base t v := hval0
  have hW' := hW
  obtain ⟨p, q, hA0, hV, rfl, hfz, hnd⟩ := hW
  have hA : DataW.TrodAll enc Try.prog W 0 (fun _ => true) true Try.f3.params.toList args.toList ds p := hA0
  rw [Try.params3] at hA hval
  obtain ⟨v0, vs0, d0, ds0, p0, q0, hargs, rfl, rfl, h0, r0⟩ := trodAll_cons hA
  obtain ⟨v1, vs1, d1, ds1, p1, q1, rfl, rfl, rfl, h1, r1⟩ := trodAll_cons r0
  obtain ⟨v2, vs2, d2, ds2, p2, q2, rfl, rfl, rfl, h2, r2⟩ := trodAll_cons r1
  obtain ⟨v3, vs3, d3, ds3, p3, q3, rfl, rfl, rfl, h3, r3⟩ := trodAll_cons r2
  obtain ⟨v4, vs4, d4, ds4, p4, q4, rfl, rfl, rfl, h4, r4⟩ := trodAll_cons r3
  obtain ⟨v5, vs5, d5, ds5, p5, q5, rfl, rfl, rfl, h5, r5⟩ := trodAll_cons r4
  obtain ⟨v6, vs6, d6, ds6, p6, q6, rfl, rfl, rfl, h6, r6⟩ := trodAll_cons r5
  obtain ⟨rfl, rfl, rfl⟩ := trodAll_nil r6
  obtain rfl : args = #[v0, v1, v2, v3, v4, v5, v6] := by cases args; simp_all
  obtain ⟨rfl, rfl⟩ := trodVars_none hV
  have t0 := h0
  have lt0 : ∀ x ∈ p0, x.block < W.heap.size := by obtain ⟨m, hm⟩ := t0; exact DataW.trod_lt m _ _ _ hm
  obtain ⟨fu0, h0⟩ := h0
  obtain ⟨ad0, ln0, cp0, ev0⟩ := okWide_slice Try.underlying22 (hval 0 22 v0 rfl rfl)
  obtain ⟨a0, ea0, k0, _⟩ := Rd.rd (P := Try.prog) (t := 22) h0
  have eb0 : a0 = v0 := by rw [ev0] at ea0 ⊢; exact (List.cons.inj ea0).1.symm
  subst eb0; clear ev0 ea0
  have t1 := h1
  have lt1 : ∀ x ∈ p1, x.block < W.heap.size := by obtain ⟨m, hm⟩ := t1; exact DataW.trod_lt m _ _ _ hm
  obtain ⟨fu1, h1⟩ := h1
  obtain ⟨ad1, ln1, cp1, ev1⟩ := okWide_slice Try.underlying23 (hval 1 23 v1 rfl rfl)
  obtain ⟨a1, ea1, k1, _⟩ := Rd.rd (P := Try.prog) (t := 23) h1
  have eb1 : a1 = v1 := by rw [ev1] at ea1 ⊢; exact (List.cons.inj ea1).1.symm
  subst eb1; clear ev1 ea1
  obtain ⟨a2, rfl, rfl, rfl, w2⟩ := open_int Try.underlying5 (hval 2 5 v2 rfl rfl) h2
  have k2 : okI .u8 W a2 := by simpa [okI, Lit.wf] using w2
  obtain ⟨a3, rfl, rfl, rfl, w3⟩ := open_int Try.underlying5 (hval 3 5 v3 rfl rfl) h3
  have k3 : okI .u8 W a3 := by simpa [okI, Lit.wf] using w3
  obtain ⟨a4, rfl, rfl, rfl, w4⟩ := open_int Try.underlying5 (hval 4 5 v4 rfl rfl) h4
  have k4 : okI .u8 W a4 := by simpa [okI, Lit.wf] using w4
  obtain ⟨a5, rfl, rfl, rfl, w5⟩ := open_int Try.underlying3 (hval 5 3 v5 rfl rfl) h5
  have k5 : okI .i64 W a5 := by simpa [okI, Lit.wf] using w5
  obtain ⟨a6, rfl, rfl, rfl, w6⟩ := open_int Try.underlying5 (hval 6 5 v6 rfl rfl) h6
  have k6 : okI .u8 W a6 := by simpa [okI, Lit.wf] using w6
  clear hA0 hval0 hval hsz0
  obtain ⟨xs, hs0, hx0, hm0⟩ := k0
  obtain ⟨T, hT⟩ := okS_tree xs hx0
  obtain ⟨l, hs1, hl1, hm1⟩ := k1
  refine (Sp.run (law_TreeTells a0 a1 xs T l a2 a3 a4 a5 a6 (fun x hx => okI_u8 (hl1 x hx)) (okI_u8 k2) (okI_u8 k3) (okI_u8 k4) (okI_i64 k5) (okI_u8 k6)) W (fun A hA => by simp at hA; rcases hA with rfl | rfl | rfl; exact hs0; exact hT; exact hs1)).mono fun e W' hh => ?_
  obtain ⟨_, he, _, bel⟩ := hh
  subst he
  exact ⟨_, rfl, _, _, _, [], _, [], hW', trodAll_mk1 (shut_bool Try.underlying4 _), (trodAll_cons_mk (Below.trod laidOut (by kernel_rfl) (of_decide_eq_true (by kernel_rfl)) t0 bel lt0) (trodAll_cons_mk (Below.trod laidOut (by kernel_rfl) (of_decide_eq_true (by kernel_rfl)) t1 bel lt1) (trodAll_cons_mk (shut_int Try.underlying5 w2) (trodAll_cons_mk (shut_int Try.underlying5 w3) (trodAll_cons_mk (shut_int Try.underlying5 w4) (trodAll_cons_mk (shut_int Try.underlying3 w5) (trodAll_cons_mk (shut_int Try.underlying5 w6) trodAll_mk0))))))), rfl, bel.frame _, fun h => by cases h⟩
theorem over : Rows.treeTellsRow.holds Try.pinned (OpenSpec.ofChange Rows.treeTellsSpec) :=
  OpenClaim.holds_of_wide 3 Try.f3 rfl rfl rfl rfl rfl rfl rfl ⟨rfl, rfl, rfl, rfl, rfl⟩ rfl rfl rfl rfl rfl (by kernel_rfl) Try.func3 (by kernel_rfl)
    (of_decide_eq_true (by kernel_rfl)) (by unfold Func.isWrapper; first | (rw [if_pos (by decide +kernel)]; kernel_rfl) | (rw [if_neg (by decide +kernel)]; exact ⟨rfl, rfl⟩))
    (fun os started H enc _ => lifted os started H enc)
theorem proved : Rows.TreeTellsSaid := over
#print axioms proved
end Go.Proofs.Ytcgjmlapmdbnmaa.treeTells
namespace Go.Proofs.Ytcgjmlapmdbnmaa
/-- The row, under a short name, for the claim. -/
theorem treeTells_holds : Rows.TreeTellsSaid := treeTells.proved
end Go.Proofs.Ytcgjmlapmdbnmaa
