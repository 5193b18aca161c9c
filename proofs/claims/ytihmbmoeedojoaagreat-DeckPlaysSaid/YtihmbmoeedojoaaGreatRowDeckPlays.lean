/- DeckPlays: for every sequence of operations the results, the events and the state of a deck are the documented ones. Conditions: none beside the statement's own. -/
import Derived.Test.YtihmbmoeedojoaaGreatRows
import Derived.Test.YtihmbmoeedojoaaGreatLawDeckPlays
import Derived.WalkKit
import Derived.ProofKit
import Derived.OpenShut
import Derived.ShutString
import Derived.ChangeOld
import Derived.Below
import Derived.SizedLaws
namespace Go.Proofs.YtihmbmoeedojoaaGreat.deckPlays
open Go.ChangeShapes Go.WideShapes Go.ChangeAt Go.RowKit Go.Sl
open Go.ChangeMaps (open_string shut_string)
set_option linter.unusedVariables false
set_option maxHeartbeats 4000000
theorem own : ownKnob Tryz.prog.godebug = none := by kernel_rfl
theorem laidOut : laidOutB Tryz.prog = true := by kernel_rfl
set_option maxRecDepth 100000 in
theorem lifted (os : Os) (started : os.Started) (H : Type) (enc : TypeId × Value → H) :
    ReturnsInHanded {} Tryz.checked os 3 .any (Rows.deckPlaysSpec.pre6 enc Tryz.prog Tryz.f3 Rows.deckPlaysRow.domain false) (Rows.deckPlaysSpec.post enc Tryz.prog Tryz.f3 false true false false) := by
  refine returnsInHanded_of_change_sized (C := Tryz.checked) own started (by kernel_rfl) Tryz.func3
    (ChangeSpec.witness6 (enc := enc) (C := Tryz.checked) false ⟨#[], #[.int .u8 0, .int .u8 0, .int .u8 0, .int .u8 0, .int .u8 0, .slice none 0 0], []⟩ 8 (by kernel_rfl) (by kernel_rfl) (by kernel_rfl) (by kernel_rfl)) ?_
  intro W base args ds gs before hval0 hW hcnd hsz0 _
  have hval : ∀ (j : Nat) t v, Tryz.f3.params[j]? = some t → args[j]? = some v → Value.okWide Tryz.prog W .any base t v := hval0
  have hW' := hW
  obtain ⟨p, q, hA0, hV, rfl, hfz, hnd⟩ := hW
  have hA : DataW.TrodAll enc Tryz.prog W 0 (fun _ => true) true Tryz.f3.params.toList args.toList ds p := hA0
  rw [Tryz.params3] at hA hval
  obtain ⟨v0, vs0, d0, ds0, p0, q0, hargs, rfl, rfl, h0, r0⟩ := trodAll_cons hA
  obtain ⟨v1, vs1, d1, ds1, p1, q1, rfl, rfl, rfl, h1, r1⟩ := trodAll_cons r0
  obtain ⟨v2, vs2, d2, ds2, p2, q2, rfl, rfl, rfl, h2, r2⟩ := trodAll_cons r1
  obtain ⟨v3, vs3, d3, ds3, p3, q3, rfl, rfl, rfl, h3, r3⟩ := trodAll_cons r2
  obtain ⟨v4, vs4, d4, ds4, p4, q4, rfl, rfl, rfl, h4, r4⟩ := trodAll_cons r3
  obtain ⟨v5, vs5, d5, ds5, p5, q5, rfl, rfl, rfl, h5, r5⟩ := trodAll_cons r4
  obtain ⟨rfl, rfl, rfl⟩ := trodAll_nil r5
  obtain rfl : args = #[v0, v1, v2, v3, v4, v5] := by cases args; simp_all
  obtain ⟨rfl, rfl⟩ := trodVars_none hV
  obtain ⟨a0, rfl, rfl, rfl, w0⟩ := open_int Tryz.underlying5 (hval 0 5 v0 rfl rfl) h0
  have k0 : okI .u8 W a0 := by simpa [okI, Lit.wf] using w0
  obtain ⟨a1, rfl, rfl, rfl, w1⟩ := open_int Tryz.underlying5 (hval 1 5 v1 rfl rfl) h1
  have k1 : okI .u8 W a1 := by simpa [okI, Lit.wf] using w1
  obtain ⟨a2, rfl, rfl, rfl, w2⟩ := open_int Tryz.underlying5 (hval 2 5 v2 rfl rfl) h2
  have k2 : okI .u8 W a2 := by simpa [okI, Lit.wf] using w2
  obtain ⟨a3, rfl, rfl, rfl, w3⟩ := open_int Tryz.underlying5 (hval 3 5 v3 rfl rfl) h3
  have k3 : okI .u8 W a3 := by simpa [okI, Lit.wf] using w3
  obtain ⟨a4, rfl, rfl, rfl, w4⟩ := open_int Tryz.underlying5 (hval 4 5 v4 rfl rfl) h4
  have k4 : okI .u8 W a4 := by simpa [okI, Lit.wf] using w4
  have t5 := h5
  have lt5 : ∀ x ∈ p5, x.block < W.heap.size := by obtain ⟨m, hm⟩ := t5; exact DataW.trod_lt m _ _ _ hm
  obtain ⟨fu5, h5⟩ := h5
  obtain ⟨ad5, ln5, cp5, ev5⟩ := okWide_slice Tryz.underlying22 (hval 5 22 v5 rfl rfl)
  obtain ⟨a5, ea5, k5, _⟩ := Rd.rd (P := Tryz.prog) (t := 22) h5
  have eb5 : a5 = v5 := by rw [ev5] at ea5 ⊢; exact (List.cons.inj ea5).1.symm
  subst eb5; clear ev5 ea5
  clear hA0 hval0 hval hsz0
  obtain ⟨l, hs5, hl5, hm5⟩ := k5
  refine (Sp.run (law_DeckPlays a0 a1 a2 a3 a4 a5 l (okI_u8 k0) (okI_u8 k1) (okI_u8 k2) (okI_u8 k3) (okI_u8 k4) (fun x hx => ⟨okI_u8 (hl5 x hx).1, okI_u8 (hl5 x hx).2.1, okI_u8 (hl5 x hx).2.2.1, okI_u8 (hl5 x hx).2.2.2⟩) (by have := hm5; unfold maxLen at this; omega)) W (fun A hA => by simp at hA; subst hA; exact hs5)).mono fun e W' hh => ?_
  obtain ⟨_, he, _, bel⟩ := hh
  subst he
  exact ⟨_, rfl, _, _, _, [], _, [], hW', trodAll_mk1 (shut_bool Tryz.underlying4 _), (trodAll_cons_mk (shut_int Tryz.underlying5 w0) (trodAll_cons_mk (shut_int Tryz.underlying5 w1) (trodAll_cons_mk (shut_int Tryz.underlying5 w2) (trodAll_cons_mk (shut_int Tryz.underlying5 w3) (trodAll_cons_mk (shut_int Tryz.underlying5 w4) (trodAll_cons_mk (Below.trod laidOut (by kernel_rfl) (of_decide_eq_true (by kernel_rfl)) t5 bel lt5) trodAll_mk0)))))), rfl, bel.frame _, fun h => by cases h⟩
theorem over : Rows.deckPlaysRow.holds Tryz.pinned (OpenSpec.ofChange Rows.deckPlaysSpec) :=
  OpenClaim.holds_of_wide 3 Tryz.f3 rfl rfl rfl rfl rfl rfl rfl ⟨rfl, rfl, rfl, rfl, rfl⟩ rfl rfl rfl rfl rfl (by kernel_rfl) Tryz.func3 (by kernel_rfl)
    (of_decide_eq_true (by kernel_rfl)) (by unfold Func.isWrapper; first | (rw [if_pos (by decide +kernel)]; kernel_rfl) | (rw [if_neg (by decide +kernel)]; exact ⟨rfl, rfl⟩))
    (fun os started H enc _ => lifted os started H enc)
theorem proved : Rows.DeckPlaysSaid := over
#print axioms proved
end Go.Proofs.YtihmbmoeedojoaaGreat.deckPlays
namespace Go.Proofs.YtihmbmoeedojoaaGreat
/-- The row, under a short name, for the claim. -/
theorem deckPlays_holds : Rows.DeckPlaysSaid := deckPlays.proved
end Go.Proofs.YtihmbmoeedojoaaGreat
