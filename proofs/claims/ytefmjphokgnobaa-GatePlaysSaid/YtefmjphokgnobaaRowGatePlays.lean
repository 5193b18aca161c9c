/- GatePlays: for every sequence of calls the results and the records are the reference's. Conditions: none beside the statement's own. -/
import Derived.Test.YtefmjphokgnobaaRows
import Derived.Test.YtefmjphokgnobaaLawGatePlays
import Derived.WalkKit
import Derived.ProofKit
import Derived.OpenShut
import Derived.ShutString
import Derived.ChangeOld
import Derived.Below
import Derived.SizedLaws
namespace Go.Proofs.Ytefmjphokgnobaa.gatePlays
open Go.ChangeShapes Go.WideShapes Go.ChangeAt Go.RowKit Go.Sl
open Go.ChangeMaps (open_string shut_string)
set_option linter.unusedVariables false
set_option maxHeartbeats 4000000
theorem own : ownKnob Try.prog.godebug = none := by kernel_rfl
theorem laidOut : laidOutB Try.prog = true := by kernel_rfl
set_option maxRecDepth 100000 in
theorem lifted (os : Os) (started : os.Started) (H : Type) (enc : TypeId × Value → H) :
    ReturnsInHanded {} Try.checked os 3 .any (Rows.gatePlaysSpec.pre6 enc Try.prog Try.f3 Rows.gatePlaysRow.domain false) (Rows.gatePlaysSpec.post enc Try.prog Try.f3 false true false false) := by
  refine returnsInHanded_of_change_sized (C := Try.checked) own started (by kernel_rfl) Try.func3
    (ChangeSpec.witness6 (enc := enc) (C := Try.checked) false ⟨#[], #[.int .u8 0, .slice none 0 0, .slice none 0 0], []⟩ 8 (by kernel_rfl) (by kernel_rfl) (by kernel_rfl) (by kernel_rfl)) ?_
  intro W base args ds gs before hval0 hW hcnd hsz0 _
  have hval : ∀ (j : Nat) t v, Try.f3.params[j]? = some t → args[j]? = some v → Value.okWide Try.prog W .any base t v := hval0
  have hW' := hW
  obtain ⟨p, q, hA0, hV, rfl, hfz, hnd⟩ := hW
  have hA : DataW.TrodAll enc Try.prog W 0 (fun _ => true) true Try.f3.params.toList args.toList ds p := hA0
  rw [Try.params3] at hA hval
  obtain ⟨v0, vs0, d0, ds0, p0, q0, hargs, rfl, rfl, h0, r0⟩ := trodAll_cons hA
  obtain ⟨v1, vs1, d1, ds1, p1, q1, rfl, rfl, rfl, h1, r1⟩ := trodAll_cons r0
  obtain ⟨v2, vs2, d2, ds2, p2, q2, rfl, rfl, rfl, h2, r2⟩ := trodAll_cons r1
  obtain ⟨rfl, rfl, rfl⟩ := trodAll_nil r2
  obtain rfl : args = #[v0, v1, v2] := by cases args; simp_all
  obtain ⟨rfl, rfl⟩ := trodVars_none hV
  obtain ⟨a0, rfl, rfl, rfl, w0⟩ := open_int Try.underlying5 (hval 0 5 v0 rfl rfl) h0
  have k0 : okI .u8 W a0 := by simpa [okI, Lit.wf] using w0
  have t1 := h1
  have lt1 : ∀ x ∈ p1, x.block < W.heap.size := by obtain ⟨m, hm⟩ := t1; exact DataW.trod_lt m _ _ _ hm
  obtain ⟨fu1, h1⟩ := h1
  obtain ⟨ad1, ln1, cp1, ev1⟩ := okWide_slice Try.underlying22 (hval 1 22 v1 rfl rfl)
  obtain ⟨a1, ea1, k1, _⟩ := Rd.rd (P := Try.prog) (t := 22) h1
  have eb1 : a1 = v1 := by rw [ev1] at ea1 ⊢; exact (List.cons.inj ea1).1.symm
  subst eb1; clear ev1 ea1
  have t2 := h2
  have lt2 : ∀ x ∈ p2, x.block < W.heap.size := by obtain ⟨m, hm⟩ := t2; exact DataW.trod_lt m _ _ _ hm
  obtain ⟨fu2, h2⟩ := h2
  obtain ⟨ad2, ln2, cp2, ev2⟩ := okWide_slice Try.underlying23 (hval 2 23 v2 rfl rfl)
  obtain ⟨a2, ea2, k2, _⟩ := Rd.rd (P := Try.prog) (t := 23) h2
  have eb2 : a2 = v2 := by rw [ev2] at ea2 ⊢; exact (List.cons.inj ea2).1.symm
  subst eb2; clear ev2 ea2
  clear hA0 hval0 hval hsz0
  obtain ⟨gl, hs1, hg1, hgm1⟩ := k1
  obtain ⟨l, hs2, hl2, hm2⟩ := k2
  refine (Sp.run (law_GatePlays a0 a1 a2 gl l (okI_u8 k0) (fun x hx => ⟨okI_u8 (hg1 x hx).1, okI_u8 (hg1 x hx).2.1, okI_u8 (hg1 x hx).2.2.1, okI_u8 (hg1 x hx).2.2.2⟩) hgm1 (fun x hx => ⟨okI_u8 (hl2 x hx).1, okI_u8 (hl2 x hx).2.1, okI_u8 (hl2 x hx).2.2.1, okI_u8 (hl2 x hx).2.2.2.1⟩) hm2) W (fun A hA => by simp at hA; rcases hA with rfl | rfl; exact hs1; exact hs2)).mono fun e W' hh => ?_
  obtain ⟨_, he, _, bel⟩ := hh
  subst he
  exact ⟨_, rfl, _, _, _, [], _, [], hW', trodAll_mk1 (shut_bool Try.underlying4 _), (trodAll_cons_mk (shut_int Try.underlying5 w0) (trodAll_cons_mk (Below.trod laidOut (by kernel_rfl) (of_decide_eq_true (by kernel_rfl)) t1 bel lt1) (trodAll_cons_mk (Below.trod laidOut (by kernel_rfl) (of_decide_eq_true (by kernel_rfl)) t2 bel lt2) trodAll_mk0))), rfl, bel.frame _, fun h => by cases h⟩
theorem over : Rows.gatePlaysRow.holds Try.pinned (OpenSpec.ofChange Rows.gatePlaysSpec) :=
  OpenClaim.holds_of_wide 3 Try.f3 rfl rfl rfl rfl rfl rfl rfl ⟨rfl, rfl, rfl, rfl, rfl⟩ rfl rfl rfl rfl rfl (by kernel_rfl) Try.func3 (by kernel_rfl)
    (of_decide_eq_true (by kernel_rfl)) (by unfold Func.isWrapper; first | (rw [if_pos (by decide +kernel)]; kernel_rfl) | (rw [if_neg (by decide +kernel)]; exact ⟨rfl, rfl⟩))
    (fun os started H enc _ => lifted os started H enc)
theorem proved : Rows.GatePlaysSaid := over
#print axioms proved
end Go.Proofs.Ytefmjphokgnobaa.gatePlays
namespace Go.Proofs.Ytefmjphokgnobaa
/-- The row, under a short name, for the claim. -/
theorem gatePlays_holds : Rows.GatePlaysSaid := gatePlays.proved
end Go.Proofs.Ytefmjphokgnobaa
