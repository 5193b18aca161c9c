/- Contracts of functions of the program, proved in a small separation logic. Conditions: those that each theorem states. -/
import Derived.Test.YtihmbmoeedojoaaGreatRDeck4
namespace Go.Proofs.YtihmbmoeedojoaaGreat
open Go Go.Sl
set_option maxHeartbeats 4000000
set_option maxRecDepth 100000
set_option linter.unusedVariables false
theorem drop_rd {α : Type} [Dfl α] {l : List α} {k : Nat} (h : k < l.length) : l.drop k = rd l k :: l.drop (k + 1) := by rw [rd_eq (by simpa using h)]; simp
-- FN (*confidant/confidantref24.Deck).Find
theorem deck24_Find (p : Nat) (d : DK) (l : List QI) (ws : List WT) (w round : Int) :
    Sp Tryz.prog 28 [.pointer (some ⟨p, 0, none⟩), .int .i64 w, .int .i64 round] [deckR p d l ws] (fun _ : S_api_Task × Value => True) (fun y => .tuple #[tV y.1, y.2, .bool (d.find w round).ok]) (fun y => [deckR p (d.find w round).d l ws, tkC y.1 (d.find w round).a, sl e_api_Event y.2 (d.find w round).ev]) := by
  refine Sp.intro (n := 168) Tryz.func28 rfl rfl fun w0 R => ?_
  dsimp only [List.cons_append, List.nil_append, envOf]
  first | (with_reducible refine Cd.g ?_; refine Cd.pk (A := (deckR p d l ws)) rfl (by exact tk_) fun y hy => ?_) | (with_reducible refine Ol.g ?_; refine Ol.pk (A := (deckR p d l ws)) rfl (by exact tk_) fun y hy => ?_) | (with_reducible refine Dn.g ?_; refine Dn.pk (A := (deckR p d l ws)) rfl (by exact tk_) fun y hy => ?_)
  dsimp only [List.cons_append, List.nil_append]
  have hrs := hy.rs; have h8 := hy.h8; have h1 := hy.h1; have hht := hy.hts
  refine go ?_;repeat((with_reducible refine Ol.g ?_);(first|refine Ol.eff rfl rfl rfl (Eff.alloc fun _=>?_)|refine Ol.eff rfl rfl rfl (Eff.box fun _=>?_)|refine Ol.eff0 rfl rfl (Eff.store rfl rfl ?_)|refine Ol.eff rfl rfl rfl (Eff.bslice rfl rfl fun _=>?_)|(refine Ol.eff0 rfl rfl (Eff.storeE rfl ?_ ?_);exact pre_)|(refine Ol.eff rfl rfl rfl (Eff.append1 rfl ?_ fun _=>?_);exact pre_));refine go ?_)
  rename_i c
  with_reducible refine Ol.g ?_
  refine Ol.eff rfl rfl rfl (Eff.call (R := ?_) (deck24_worker p y d w hy.rs) rfl ?_ ?_)
  rotate_left
  · exact tkl_
  rintro _ -
  dsimp only [List.cons_append, List.nil_append]
  cases hb : d.hasB w with
  | false =>
    have e : d.find w round = ⟨d, zA, [], false⟩ := by unfold DK.find; rw [hb]
    rw [e]
    refine go ?_;repeat((with_reducible refine Ol.g ?_);(first|refine Ol.eff rfl rfl rfl (Eff.alloc fun _=>?_)|refine Ol.eff rfl rfl rfl (Eff.box fun _=>?_)|refine Ol.eff0 rfl rfl (Eff.store rfl rfl ?_)|refine Ol.eff rfl rfl rfl (Eff.bslice rfl rfl fun _=>?_)|(refine Ol.eff0 rfl rfl (Eff.storeE rfl ?_ ?_);exact pre_)|(refine Ol.eff rfl rfl rfl (Eff.append1 rfl ?_ fun _=>?_);exact pre_));refine go ?_)
    refine Dn.retC2 rfl rfl trivial rfl rfl fun w' hs => ⟨(zT, .slice none 0 0), rfl, trivial, hs.conv (ents.pk y hy (by dsimp only [List.cons_append, List.nil_append]; exact ent_))⟩
  | true =>
  have hw : 0 ≤ w ∧ w < (d.hands.length : Int) := of_decide_eq_true hb
  refine Ol.rel (R := rgC) (l := y.rs) (q := d.hands.map hRQ) w (by exact tk_) (by simpa using hw) ?_
  rw [rd_map hRQ hw]
  refine Ol.conv (H' := ring15C (rd y.rs w) (rd d.hands w).room (rd d.hands w).q :: _) (ents.refl _) ?_
  refine go ?_;repeat((with_reducible refine Ol.g ?_);(first|refine Ol.eff rfl rfl rfl (Eff.alloc fun _=>?_)|refine Ol.eff rfl rfl rfl (Eff.box fun _=>?_)|refine Ol.eff0 rfl rfl (Eff.store rfl rfl ?_)|refine Ol.eff rfl rfl rfl (Eff.bslice rfl rfl fun _=>?_)|(refine Ol.eff0 rfl rfl (Eff.storeE rfl ?_ ?_);exact pre_)|(refine Ol.eff rfl rfl rfl (Eff.append1 rfl ?_ fun _=>?_);exact pre_));refine go ?_)
  with_reducible refine Ol.g ?_
  refine Ol.eff rfl rfl rfl (Eff.call (R := ?_) (ring15_Pop (rd y.rs w) (rd d.hands w).room (rd d.hands w).q) rfl ?_ ?_)
  rotate_left
  · exact tkl_
  rintro t -
  dsimp only [List.cons_append, List.nil_append]
  refine go ?_;repeat((with_reducible refine Ol.g ?_);(first|refine Ol.eff rfl rfl rfl (Eff.alloc fun _=>?_)|refine Ol.eff rfl rfl rfl (Eff.box fun _=>?_)|refine Ol.eff0 rfl rfl (Eff.store rfl rfl ?_)|refine Ol.eff rfl rfl rfl (Eff.bslice rfl rfl fun _=>?_)|(refine Ol.eff0 rfl rfl (Eff.storeE rfl ?_ ?_);exact pre_)|(refine Ol.eff rfl rfl rfl (Eff.append1 rfl ?_ fun _=>?_);exact pre_));refine go ?_)
  rename_i c2
  rcases hq : (rd d.hands w).q with _ | ⟨a, q⟩
  rotate_left
  · refine Cd.cond_t rfl ?_
    refine Cd.conv (H' := deckR p (d.setH w { d.hand w with q := (a :: q).dropLast }) l ws :: tkC t ((a :: q).getLastD zA) :: cel c 45 (tC zT) :: cel c2 45 (tC t) :: sl e_api_Event (.slice none 0 0) [] :: R) (deckR_q hy hw (by exact ent_)) ?_
    refine go ?_
    with_reducible refine Ol.g ?_
    refine Ol.eff rfl rfl rfl (Eff.call (R := ?_) (deck24_take p (d.setH w { d.hand w with q := (a :: q).dropLast }) l ws w round t ((a :: q).getLastD zA) (.slice none 0 0) [] (by unfold DK.setH; simpa using hw) (by simp)) rfl ?_ ?_)
    rotate_left
    · exact tkl_
    rintro ⟨t1, v1⟩ -
    dsimp only [List.cons_append, List.nil_append]
    refine go ?_;repeat((with_reducible refine Ol.g ?_);(first|refine Ol.eff rfl rfl rfl (Eff.alloc fun _=>?_)|refine Ol.eff rfl rfl rfl (Eff.box fun _=>?_)|refine Ol.eff0 rfl rfl (Eff.store rfl rfl ?_)|refine Ol.eff rfl rfl rfl (Eff.bslice rfl rfl fun _=>?_)|(refine Ol.eff0 rfl rfl (Eff.storeE rfl ?_ ?_);exact pre_)|(refine Ol.eff rfl rfl rfl (Eff.append1 rfl ?_ fun _=>?_);exact pre_));refine go ?_)
    have e : d.find w round = (d.setH w { d.hand w with q := (a :: q).dropLast }).foundIn w round ((a :: q).getLastD zA) [] := by unfold DK.find DK.hand; rw [hb, hq]
    rw [e]
    refine Dn.retC2 rfl rfl trivial rfl rfl fun w' hs => ⟨(t1, v1), rfl, trivial, hs.conv (by unfold DK.foundIn; exact ent_)⟩
  · refine Cd.cond_f rfl ?_
    refine Cd.conv (H' := partsR p y d l ws ++ (cel c 45 (tC zT) :: cel c2 45 (tC t) :: R)) ?_ ?_
    · dsimp only [List.cons_append, List.nil_append]
      refine ents.cons (by exact tk_) (ents.cons (by exact tk_) (rgs_back hw ?_))
      rw [hq, List.dropLast_nil]
      exact ent_
    dsimp only [List.cons_append, List.nil_append]
    refine go ?_
    with_reducible refine Ol.g ?_
    refine Ol.eff rfl rfl rfl (Eff.call (R := ?_) (deck24_others p y d w hy.rs hy.h8) rfl ?_ ?_)
    rotate_left
    · exact tkl_
    rintro _ -
    dsimp only [List.cons_append, List.nil_append]
    cases ho : d.othersB w with
    | false =>
      have e : d.find w round = ⟨d, zA, [], false⟩ := by unfold DK.find DK.hand; rw [hb, hq, ho]
      rw [e]
      refine go ?_;repeat((with_reducible refine Ol.g ?_);(first|refine Ol.eff rfl rfl rfl (Eff.alloc fun _=>?_)|refine Ol.eff rfl rfl rfl (Eff.box fun _=>?_)|refine Ol.eff0 rfl rfl (Eff.store rfl rfl ?_)|refine Ol.eff rfl rfl rfl (Eff.bslice rfl rfl fun _=>?_)|(refine Ol.eff0 rfl rfl (Eff.storeE rfl ?_ ?_);exact pre_)|(refine Ol.eff rfl rfl rfl (Eff.append1 rfl ?_ fun _=>?_);exact pre_));refine go ?_)
      refine Dn.retC2 rfl rfl trivial rfl rfl fun w' hs => ⟨(zT, .slice none 0 0), rfl, trivial, hs.conv (ents.pk y hy (by dsimp only [List.cons_append, List.nil_append]; exact ent_))⟩
    | true =>
    refine go ?_
    refine Cd.drawL (l := [_, _, _, _, _, _, _, _, _]) (z := _) [[], [0], [0, 1], [0, 1, 2], [], [4], [4, 5], [4, 5, 6], [0, 1, 2, 3, 4, 5, 6, 7]] [8] [] (td := [(0, .fresh), (1, .fresh), (2, .fresh), (3, .fresh), (4, .fresh), (5, .fresh), (6, .fresh), (7, .fresh)]) rfl mixed (by kernel_rfl) (by kernel_rfl) (by kernel_rfl) (by decide) (by decide) rfl (by kernel_rfl) ?_
    refine god2 ?_
    refine Sg2.one (td := []) rfl (by kernel_rfl) fun F8_ => ?_
    dsimp only [List.cons_append, List.nil_append]
    refine SpOp.eff rfl rfl rfl rfl rfl (Eff.call (R := ?_) (picks15_Next true y.pk d.picks y.rs.length (by omega)) rfl ?_ ?_)
    rotate_left
    · exact tkl_
    rintro _ hv
    dsimp only [List.cons_append, List.nil_append]
    refine Sn.ok ?_
    refine god2 ?_
    refine go ?_
    have e : d.find w round = if d.picks.val d.hands.length = w ∨ (d.hand (d.picks.val d.hands.length)).q = [] then ⟨d.pickN, zA, [⟨round, d.label, 3, w, 0, d.picks.val d.hands.length, 0⟩], false⟩ else d.pickN.steal w (d.picks.val d.hands.length) round := by unfold DK.find; rw [hb, ho]; unfold DK.hand; rw [hq]
    rw [hrs] at hv
    rw [hrs, e]
    generalize hvv : d.picks.val d.hands.length = v at hv ⊢
    have hv8 : v < 8 := by omega
    refine Ol.cut (α := Unit) (fun _ => [(0, .pointer (some ⟨p, 0, none⟩)), (1, .int .i64 w), (2, .int .i64 round), (6, .pointer (some ⟨c, 0, none⟩)), (9, .pointer (some ⟨c2, 0, none⟩)), (11, .int .i64 v), (75, .bool (decide (v = w ∨ (d.hand v).q = [])))])
      (fun _ => cel p 59 (drL y d) :: sl ePtr y.vr y.rs :: rel2 rgC y.rs (d.hands.map hRQ) :: sl e_api_Task y.vh y.hts :: rel2 heldC y.hts (d.hands.map hHF) :: sl eBool y.vb (d.hands.map hFu) :: sl e_confidantref15_Entry y.vi y.es :: rel2 enC y.es l :: sl e_confidantref15_Waiting y.vp y.wts :: rel2 w15C y.wts ws :: picks15C true y.pk (d.picks.next d.hands.length) :: cel c 45 (tC zT) :: cel c2 45 (tC t) :: R) (fun K2 kk2 => ?_) ?_
    · by_cases hvw : v = w
      · rw [decide_eq_true hvw]
        refine go ?_
        refine Dn.weak ?_ (by exact ent_) (kk2 ())
        rw [decide_eq_true (show v = w ∨ (d.hand v).q = [] from .inl hvw)]
        repeat(first|exact Env.le_nil _|(refine Env.le_cons rfl ?_ ?_;first|rfl|(simp;done)|exact congrArg _ (by omega)|rotate_left))
      · rw [decide_eq_false hvw]
        refine Ol.rel (R := rgC) (l := y.rs) (q := d.hands.map hRQ) v (by exact tk_) (by simpa using hv) ?_
        rw [rd_map hRQ hv]
        refine Ol.conv (H' := ring15C (rd y.rs v) (rd d.hands v).room (rd d.hands v).q :: _) (ents.refl _) ?_
        first | (with_reducible refine Cd.g ?_; refine Cd.pk (A := (ring15C (rd y.rs v) (rd d.hands v).room (rd d.hands v).q)) rfl (by exact tk_) fun z2 hz2 => ?_) | (with_reducible refine Ol.g ?_; refine Ol.pk (A := (ring15C (rd y.rs v) (rd d.hands v).room (rd d.hands v).q)) rfl (by exact tk_) fun z2 hz2 => ?_) | (with_reducible refine Dn.g ?_; refine Dn.pk (A := (ring15C (rd y.rs v) (rd d.hands v).room (rd d.hands v).q)) rfl (by exact tk_) fun z2 hz2 => ?_)
        dsimp only [List.cons_append, List.nil_append]
        refine go ?_
        refine Dn.weak ?_ (ents.cons (by exact tk_) (ents.cons (by exact tk_) (rgs_back hv (ents.pk z2 hz2 (by dsimp only [List.cons_append, List.nil_append]; exact ent_))))) (kk2 ())
        rw [show decide (v = w ∨ (d.hand v).q = []) = decide ((z2.2.length : Int) = 0) from by
          rw [decide_eq_decide]; unfold DK.hand
          constructor
          · rintro (h | h)
            · exact absurd h hvw
            · rw [hz2.1, h]; rfl
          · intro h; exact .inr (List.length_eq_zero_iff.1 (by have := hz2.1; omega))]
        repeat(first|exact Env.le_nil _|(refine Env.le_cons rfl ?_ ?_;first|rfl|(simp;done)|exact congrArg _ (by omega)|rotate_left))
    rintro -
    refine Dn.then ?_
    refine Cd.condP rfl (fun h => ?_) (fun h => ?_)
    · rw [if_pos h]
      refine go ?_
      with_reducible refine Ol.g ?_
      refine Ol.eff rfl rfl rfl (Eff.call (R := ?_) (deck24_event p y d round 3 w 0) rfl ?_ ?_)
      rotate_left
      · exact tkl_
      rintro _ -
      dsimp only [List.cons_append, List.nil_append]
      refine go ?_;repeat((with_reducible refine Ol.g ?_);(first|refine Ol.eff rfl rfl rfl (Eff.alloc fun _=>?_)|refine Ol.eff rfl rfl rfl (Eff.box fun _=>?_)|refine Ol.eff0 rfl rfl (Eff.store rfl rfl ?_)|refine Ol.eff rfl rfl rfl (Eff.bslice rfl rfl fun _=>?_)|(refine Ol.eff0 rfl rfl (Eff.storeE rfl ?_ ?_);exact pre_)|(refine Ol.eff rfl rfl rfl (Eff.append1 rfl ?_ fun _=>?_);exact pre_));refine go ?_)
      rename_i c3
      refine Cd.forget 7 rfl ?_
      refine Cd.drawL (l := [_, _, _, _, _]) (z := _) [[], [], [1], [0], [0, 1, 2, 3]] [3, 2, 4] [2] (td := [(0, .fresh), (1, .fresh), (2, .flt)]) rfl mixed (by kernel_rfl) (by kernel_rfl) (by kernel_rfl) (by decide) (by decide) rfl (by kernel_rfl) ?_
      refine god2 ?_
      refine Sg2.one (td := [(1, .old)]) rfl (by kernel_rfl) fun F3_ => ?_
      dsimp only [List.cons_append, List.nil_append]
      (with_reducible first|refine SpOp.eff rfl rfl rfl rfl rfl (Eff.x (Qx.build rfl) ?_)|refine SpOp.eff rfl rfl rfl rfl rfl (Eff.alloc fun _=>?_)|refine SpOp.eff rfl rfl rfl rfl rfl (Eff.box fun _=>?_)|refine SpOp.eff rfl rfl rfl rfl rfl (Eff.bslice rfl rfl fun _=>?_)|(refine SpOp.eff rfl rfl rfl rfl rfl (Eff.append1 rfl ?_ fun _=>?_);exact pre_)|refine SpOp.eff0 rfl rfl rfl rfl (Eff.store rfl rfl ?_)|(refine SpOp.eff0 rfl rfl rfl rfl (Eff.storeE rfl ?_ ?_);exact pre_))
      refine Sn.ok ?_
      refine god2 ?_
      refine Sg2.flt (td := []) rfl rfl rfl rfl (by kernel_rfl) fun _ => ?_
      refine god2 ?_
      refine Sg2.one (td := []) rfl (by kernel_rfl) fun F4_ => ?_
      dsimp only [List.cons_append, List.nil_append]
      refine SpOp.eff rfl rfl rfl rfl rfl (Eff.q trivial ?_)
      refine Sn.ok ?_
      refine god2 ?_
      refine go ?_
      refine Dn.retC2 rfl rfl trivial rfl rfl fun w' hs => ⟨(zT, _), rfl, trivial, hs.conv (ents.pk y ⟨hy.rs, hy.hts, hy.h1, hy.h8, hy.es, hy.lb, hy.wts, hy.wb⟩ ?_)⟩
      dsimp only [DK.pickN, List.cons_append, List.nil_append]
      exact ent_
    rw [if_neg h]
    obtain ⟨hvw, hne⟩ := not_or.1 h
    obtain ⟨a, q, hqv⟩ : ∃ a q, (rd d.hands v).q = a :: q := by
      cases hh : (rd d.hands v).q with
      | nil => exact absurd hh hne
      | cons a q => exact ⟨a, q, rfl⟩
    refine Cd.rel (R := rgC) (l := y.rs) (q := d.hands.map hRQ) v (by exact tk_) (by simpa using hv) ?_
    rw [rd_map hRQ hv]
    refine Cd.conv (H' := ring15C (rd y.rs v) (rd d.hands v).room (rd d.hands v).q :: _) (ents.refl _) ?_
    rw [hqv]
    first | (with_reducible refine Cd.g ?_; refine Cd.pk (A := (ring15C (rd y.rs v) (rd d.hands v).room (a :: q))) rfl (by exact tk_) fun z2 hz2 => ?_) | (with_reducible refine Ol.g ?_; refine Ol.pk (A := (ring15C (rd y.rs v) (rd d.hands v).room (a :: q))) rfl (by exact tk_) fun z2 hz2 => ?_) | (with_reducible refine Dn.g ?_; refine Dn.pk (A := (ring15C (rd y.rs v) (rd d.hands v).room (a :: q))) rfl (by exact tk_) fun z2 hz2 => ?_)
    dsimp only [List.cons_append, List.nil_append]
    have hq64 : q.length ≤ 63 := by have := hz2.2; simp at this; omega
    obtain ⟨m, hm⟩ : ∃ m, d.take (a :: q).length = m + 1 := ⟨d.take (a :: q).length - 1, by unfold DK.take; split <;> simp <;> omega⟩
    have hm64 : m ≤ q.length := by unfold DK.take at hm; split at hm <;> simp at hm <;> omega
    refine go ?_
    refine Cd.cut (α := Unit) (fun _ => [(0, .pointer (some ⟨p, 0, none⟩)), (1, .int .i64 w), (2, .int .i64 round), (6, .pointer (some ⟨c, 0, none⟩)), (11, .int .i64 v), (13, .int .i64 (m + 1 : Nat))])
      (fun _ => ring15C (rd y.rs v) (rd d.hands v).room (a :: q) :: rel2H rgC v.toNat y.rs (d.hands.map hRQ) :: cel p 59 (drL y d) :: sl ePtr y.vr y.rs :: sl e_api_Task y.vh y.hts :: rel2 heldC y.hts (d.hands.map hHF) :: sl eBool y.vb (d.hands.map hFu) :: sl e_confidantref15_Entry y.vi y.es :: rel2 enC y.es l :: sl e_confidantref15_Waiting y.vp y.wts :: rel2 w15C y.wts ws :: picks15C true y.pk (d.picks.next d.hands.length) :: cel c 45 (tC zT) :: R) (fun K kk => ?_) ?_
    · cases hh : d.half with
      | true =>
        refine go ?_
        refine Dn.weak ?_ (ents.pk z2 hz2 (by dsimp only [List.cons_append, List.nil_append]; exact ent_)) (kk ())
        have e1 : (((m + 1 : Nat)) : Int) = ((z2.2.length : Int) + 1) / 2 := by
          rw [← hm]; unfold DK.take; rw [hh, if_pos rfl, hz2.1]; omega
        rw [e1]
        repeat(first|exact Env.le_nil _|(refine Env.le_cons rfl ?_ ?_;first|rfl|(simp;done)|exact congrArg _ (by omega)|rotate_left))
      | false =>
        refine go ?_
        refine Dn.weak ?_ (ents.pk z2 hz2 (by dsimp only [List.cons_append, List.nil_append]; exact ent_)) (kk ())
        have e1 : (((m + 1 : Nat)) : Int) = 1 := by
          rw [← hm]; unfold DK.take; rw [hh]; rfl
        rw [e1]
        repeat(first|exact Env.le_nil _|(refine Env.le_cons rfl ?_ ?_;first|rfl|(simp;done)|exact congrArg _ (by omega)|rotate_left))
    rintro -
    refine go ?_
    refine Cd.loop (fun z : Nat × Value × List S_api_Task => z.1 ≤ m + 1 ∧ z.2.2.length = z.1) (fun z => m + 1 - z.1) (fun z => [(0, .pointer (some ⟨p, 0, none⟩)), (1, .int .i64 w), (2, .int .i64 round), (6, .pointer (some ⟨c, 0, none⟩)), (11, .int .i64 v), (13, .int .i64 (m + 1 : Nat)), (14, z.2.1), (15, .int .i64 z.1)])
      (fun z => ring15C (rd y.rs v) (rd d.hands v).room ((a :: q).drop z.1) :: sl e_api_Task z.2.1 z.2.2 :: rel2 tkC z.2.2 (((a :: q).take z.1).map fun x => setW x w) :: rel2H rgC v.toNat y.rs (d.hands.map hRQ) :: cel p 59 (drL y d) :: sl ePtr y.vr y.rs :: sl e_api_Task y.vh y.hts :: rel2 heldC y.hts (d.hands.map hHF) :: sl eBool y.vb (d.hands.map hFu) :: sl e_confidantref15_Entry y.vi y.es :: rel2 enC y.es l :: sl e_confidantref15_Waiting y.vp y.wts :: rel2 w15C y.wts ws :: picks15C true y.pk (d.picks.next d.hands.length) :: cel c 45 (tC zT) :: R) ⟨0, .slice none 0 0, []⟩ ⟨by simp, rfl⟩ ?_ ?_ ?_
    · repeat(first|exact Env.le_nil _|(refine Env.le_cons rfl ?_ ?_;first|rfl|(simp;done)|exact congrArg _ (by omega)|rotate_left))
    · rw [List.drop_zero, List.take_zero, List.map_nil]
      exact ent_
    rintro ⟨k, vl, ts⟩ ⟨hk, hl⟩
    dsimp only at hk hl ⊢
    refine go ?_
    refine Cd.condP rfl (fun h3 => ?_) (fun h3 => ?_)
    · have hk' : k < (a :: q).length := by simp; omega
      have e1 : (a :: q).drop k = rd (a :: q) k :: (a :: q).drop (k + 1) := drop_rd hk'
      rw [e1]
      refine go ?_;repeat((with_reducible refine Ol.g ?_);(first|refine Ol.eff rfl rfl rfl (Eff.alloc fun _=>?_)|refine Ol.eff rfl rfl rfl (Eff.box fun _=>?_)|refine Ol.eff0 rfl rfl (Eff.store rfl rfl ?_)|refine Ol.eff rfl rfl rfl (Eff.bslice rfl rfl fun _=>?_)|(refine Ol.eff0 rfl rfl (Eff.storeE rfl ?_ ?_);exact pre_)|(refine Ol.eff rfl rfl rfl (Eff.append1 rfl ?_ fun _=>?_);exact pre_));refine go ?_)
      with_reducible refine Ol.g ?_
      refine Ol.eff rfl rfl rfl (Eff.call (R := ?_) (ring15_Steal (rd y.rs v) (rd d.hands v).room (rd (a :: q) k) ((a :: q).drop (k + 1))) rfl ?_ ?_)
      rotate_left
      · exact tkl_
      rintro t2 -
      dsimp only [List.cons_append, List.nil_append]
      refine go ?_;repeat((with_reducible refine Ol.g ?_);(first|refine Ol.eff rfl rfl rfl (Eff.alloc fun _=>?_)|refine Ol.eff rfl rfl rfl (Eff.box fun _=>?_)|refine Ol.eff0 rfl rfl (Eff.store rfl rfl ?_)|refine Ol.eff rfl rfl rfl (Eff.bslice rfl rfl fun _=>?_)|(refine Ol.eff0 rfl rfl (Eff.storeE rfl ?_ ?_);exact pre_)|(refine Ol.eff rfl rfl rfl (Eff.append1 rfl ?_ fun _=>?_);exact pre_));refine go ?_)
      rename_i c4 vl'
      refine Dn.round ⟨k + 1, vl', ts ++ [tW t2 w]⟩ ⟨by dsimp only; omega, by simp [hl]⟩ (by dsimp only; omega) ?_ ?_
      · repeat(first|exact Env.le_nil _|(refine Env.le_cons rfl ?_ ?_;first|rfl|(simp;done)|exact congrArg _ (by omega)|rotate_left))
      · dsimp only
        rw [take_rd hk', List.map_append, List.map_cons, List.map_nil]
        refine ents.trans (Tk.more (A := tkC t2 (rd (a :: q) k)) (tkC_W w) (by exact tk_)) ?_
        exact ent_
    have hkm : k = m + 1 := by omega
    subst hkm
    rw [List.drop_succ_cons, List.take_succ_cons, List.map_cons]
    obtain ⟨t0, ts, rfl⟩ : ∃ t0 ts0, ts = t0 :: ts0 := by
      cases ts with
      | nil => simp at hl
      | cons t0 ts => exact ⟨t0, ts, rfl⟩
    have hl3 : ts.length = (q.take m).length := by simp at hl ⊢; omega
    have hl64 : ts.length ≤ 63 := by rw [hl3, List.length_take]; omega
    have hlm : (t0 :: ts).length = m + 1 := hl
    have hlm2 : ts.length = m := by simpa using hlm
    refine Cd.conv (ents.split (rel2_uncons (R := tkC)) (by exact tk_)) ?_
    first | (with_reducible refine Cd.g ?_; refine Cd.know (fun w_ hw_ => tkC_ok (Tk.sat (A := (tkC t0 (setW a w))) (by exact tk_) hw_)) fun hta => ?_) | (with_reducible refine Ol.g ?_; refine Ol.know (fun w_ hw_ => tkC_ok (Tk.sat (A := (tkC t0 (setW a w))) (by exact tk_) hw_)) fun hta => ?_) | (with_reducible refine Dn.g ?_; refine Dn.know (fun w_ hw_ => tkC_ok (Tk.sat (A := (tkC t0 (setW a w))) (by exact tk_) hw_)) fun hta => ?_)
    have eid : t0.f_Id = a.id := congrArg AT.id hta.1
    generalize hqm : q.take m = qs at hl3
    refine go ?_
    rw [show rd (t0 :: ts) 0 = t0 from rfl]
    with_reducible refine Ol.g ?_
    refine Ol.eff rfl rfl rfl (Eff.call (R := ?_) (deck24_event p y d round 2 w t0.f_Id) rfl ?_ ?_)
    rotate_left
    · exact tkl_
    rintro _ -
    dsimp only [List.cons_append, List.nil_append]
    have hnz : v.toNat ≠ w.toNat := fun h => hvw (by omega)
    have hm63 : ((m + 1 : Nat) : Int) ≤ 64 := by omega
    refine go ?_;repeat((with_reducible refine Ol.g ?_);(first|refine Ol.eff rfl rfl rfl (Eff.alloc fun _=>?_)|refine Ol.eff rfl rfl rfl (Eff.box fun _=>?_)|refine Ol.eff0 rfl rfl (Eff.store rfl rfl ?_)|refine Ol.eff rfl rfl rfl (Eff.bslice rfl rfl fun _=>?_)|(refine Ol.eff0 rfl rfl (Eff.storeE rfl ?_ ?_);exact pre_)|(refine Ol.eff rfl rfl rfl (Eff.append1 rfl ?_ fun _=>?_);exact pre_));refine go ?_)
    rename_i c4
    have hrw : rd (d.hands.set v.toNat { rd d.hands v with q := q.drop m }) w = rd d.hands w := rd_set_ne hnz
    refine Cd.conv (H' := cel c4 81 [.int .i64 round, .int .i64 d.label, .int .i64 2, .int .i64 w, .int .i32 t0.f_Id, .int .i32 v, .int .i32 (m + 1 : Nat)] :: sl e_api_Task vl (t0 :: ts) :: tkC t0 (setW a w) :: rel2 tkC ts (qs.map fun x => setW x w) :: cel p 59 (drL y d) :: sl ePtr y.vr y.rs :: rel2 rgC y.rs ((d.hands.set v.toNat { rd d.hands v with q := q.drop m }).map hRQ) :: sl e_api_Task y.vh y.hts :: rel2 heldC y.hts (d.hands.map hHF) :: sl eBool y.vb (d.hands.map hFu) :: sl e_confidantref15_Entry y.vi y.es :: rel2 enC y.es l :: sl e_confidantref15_Waiting y.vp y.wts :: rel2 w15C y.wts ws :: picks15C true y.pk (d.picks.next d.hands.length) :: cel c 45 (tC zT) :: R) ?_ ?_
    · refine ents.cons (by exact tk_) (ents.cons (by exact tk_) (ents.cons (by exact tk_) (ents.cons (by exact tk_) (ents.cons (by exact tk_) (ents.cons (by exact tk_) (rgs_put hv.1 (by dsimp only; exact ent_)))))))
    refine Cd.rel (R := rgC) (l := y.rs) (q := (d.hands.set v.toNat { rd d.hands v with q := q.drop m }).map hRQ) w (by exact tk_) (by simpa using hw) ?_
    rw [rd_map hRQ (by rw [List.length_set]; exact hw), hrw]
    refine Cd.conv (H' := ring15C (rd y.rs w) (rd d.hands w).room (rd d.hands w).q :: _) (ents.refl _) ?_
    have hpl : ∀ (h : Hand) (l : List AT), (pushAll h w l).room = h.room ∧ (pushAll h w l).held = h.held ∧ (pushAll h w l).full = h.full := by
      intro h l
      induction l generalizing h with
      | nil => exact ⟨rfl, rfl, rfl⟩
      | cons a l ih => exact ⟨(ih _).1, (ih _).2.1, (ih _).2.2⟩
    refine Cd.loop (fun j : Nat => j ≤ ts.length) (fun j => ts.length - j) (fun j => [(0, .pointer (some ⟨p, 0, none⟩)), (1, .int .i64 w), (2, .int .i64 round), (6, .pointer (some ⟨c, 0, none⟩)), (13, .int .i64 (m + 1 : Nat)), (14, vl), (18, .pointer (some ⟨c4, 0, none⟩)), (19, .int .i64 (j + 1 : Nat))])
      (fun j => ring15C (rd y.rs w) (rd d.hands w).room (pushAll (rd d.hands w) w (qs.take j)).q :: rel2H rgC w.toNat y.rs ((d.hands.set v.toNat { rd d.hands v with q := q.drop m }).map hRQ) :: cel c4 81 [.int .i64 round, .int .i64 d.label, .int .i64 2, .int .i64 w, .int .i32 t0.f_Id, .int .i32 v, .int .i32 (m + 1 : Nat)] :: sl e_api_Task vl (t0 :: ts) :: tkC t0 (setW a w) :: rel2 tkC ts (qs.map fun x => setW x w) :: cel p 59 (drL y d) :: sl ePtr y.vr y.rs :: sl e_api_Task y.vh y.hts :: rel2 heldC y.hts (d.hands.map hHF) :: sl eBool y.vb (d.hands.map hFu) :: sl e_confidantref15_Entry y.vi y.es :: rel2 enC y.es l :: sl e_confidantref15_Waiting y.vp y.wts :: rel2 w15C y.wts ws :: picks15C true y.pk (d.picks.next d.hands.length) :: cel c 45 (tC zT) :: R) 0 (by omega) ?_ ?_ ?_
    · repeat(first|exact Env.le_nil _|(refine Env.le_cons rfl ?_ ?_;first|rfl|(simp;done)|exact congrArg _ (by omega)|rotate_left))
    · rw [List.take_zero, show (pushAll (rd d.hands w) w []).q = (rd d.hands w).q from rfl]
      exact ent_
    rintro j hj
    refine go ?_
    refine Cd.condP rfl (fun h2 => ?_) (fun h2 => ?_)
    · have hj2 : j < qs.length := by omega
      have hj3 : rd (t0 :: ts) ((j + 1 : Nat) : Int) = rd ts j := by
        rw [rd_eq (by simp; omega), rd_eq (by omega)]; simp
      have hjb : ((j + 1 : Nat) : Int) < ((t0 :: ts).length : Int) := by simp; omega
      have hw4 : w < (y.rs.length : Int) := by omega
      refine Cd.conv (Tk.more (p := rel2_pers (fun _ _ => inferInstance) _ _) (A := rel2 tkC ts (qs.map fun x => setW x w)) (rel2_gotI (i := j) (by omega) (by simp; omega)) (by exact tk_)) ?_
      rw [rd_map (fun x => setW x w) (show 0 ≤ (j : Int) ∧ (j : Int) < qs.length by omega)]
      rw [← hj3]
      refine go ?_
      refine Cd.draw2 [[], [0], [0, 1], [0, 1, 2], [], [0, 1, 2, 3, 4], [0, 1, 2, 3, 4, 5], [], [], [7, 8], [7, 8, 9], [0, 1, 2, 3, 4, 5, 6, 7, 8, 9, 10]] [11] [] (td := [(0, .fresh), (1, .fresh), (2, .fresh), (3, .fresh), (4, .fresh), (5, .fresh), (6, .fresh), (7, .fresh), (8, .fresh), (9, .fresh), (10, .fresh)]) mixed (by kernel_rfl) (by kernel_rfl) (by decide) (by decide) rfl (by kernel_rfl) ?_
      refine god2 ?_
      refine Sg2.one (td := []) rfl (by kernel_rfl) fun F11_ => ?_
      dsimp only [List.cons_append, List.nil_append]
      refine SpOp.eff rfl rfl rfl rfl rfl (Eff.call (R := ?_) (ring15_Push (rd y.rs w) (rd d.hands w).room (pushAll (rd d.hands w) w (qs.take j)).q (rd (t0 :: ts) ((j + 1 : Nat) : Int)) (setW (rd qs j) w)) rfl ?_ ?_)
      rotate_left
      · exact tkl_
      rintro _ -
      dsimp only [List.cons_append, List.nil_append]
      refine Sn.ok ?_
      refine god2 ?_
      refine go ?_
      refine Dn.round (j + 1) (by omega) (by omega) ?_ ?_
      · repeat(first|exact Env.le_nil _|(refine Env.le_cons rfl ?_ ?_;first|rfl|(simp;done)|exact congrArg _ (by omega)|rotate_left))
      · rw [take_rd hj2]
        rw [show (pushAll (rd d.hands w) w (qs.take j ++ [rd qs j])).q = if (pushAll (rd d.hands w) w (qs.take j)).q.length < (rd d.hands w).room then (pushAll (rd d.hands w) w (qs.take j)).q ++ [setW (rd qs j) w] else (pushAll (rd d.hands w) w (qs.take j)).q from by
          rw [← (hpl (rd d.hands w) (qs.take j)).1]; unfold pushAll; rw [List.foldl_append]; rfl]
        exact ent_
    have hjl : j = ts.length := by omega
    have hqs : qs.take j = qs := by rw [hjl, hl3]; exact List.take_length
    rw [hqs]
    have hw1 : 0 ≤ w ∧ w < (((d.pickN.setH v { rd d.hands v with q := q.drop m }).hands.length : Nat) : Int) := by unfold DK.setH DK.pickN; simpa using hw
    refine Cd.conv (H' := deckR p ((d.pickN.setH v { rd d.hands v with q := q.drop m }).setH w (pushAll (rd d.hands w) w qs)) l ws :: cel c4 81 [.int .i64 round, .int .i64 d.label, .int .i64 2, .int .i64 w, .int .i32 t0.f_Id, .int .i32 v, .int .i32 (m + 1 : Nat)] :: sl e_api_Task vl (t0 :: ts) :: tkC t0 (setW a w) :: cel c 45 (tC zT) :: R) ?_ ?_
    · have e5 : pushAll (rd d.hands w) w qs = { (d.pickN.setH v { rd d.hands v with q := q.drop m }).hand w with q := (pushAll (rd d.hands w) w qs).q } := by
        rw [show (d.pickN.setH v { rd d.hands v with q := q.drop m }).hand w = rd d.hands w from hrw]
        obtain ⟨k1, k2, k3⟩ := hpl (rd d.hands w) qs
        have hx : ∀ x y : Hand, x.room = y.room → x.held = y.held → x.full = y.full → x = { y with q := x.q } := fun x y a b c => by
          cases x; cases y; simp_all
        exact hx _ _ k1 k2 k3
      rw [e5]
      refine deckR_q (y := y) (d := (d.pickN.setH v { rd d.hands v with q := q.drop m })) ⟨by unfold DK.setH DK.pickN; simp [hy.rs], by unfold DK.setH DK.pickN; simp [hy.hts], by unfold DK.setH DK.pickN; simp [hy.h1], by unfold DK.setH DK.pickN; simp [hy.h8], hy.es, hy.lb, hy.wts, hy.wb⟩ hw1 ?_
      rw [show rd (d.pickN.setH v { rd d.hands v with q := q.drop m }).hands w = rd d.hands w from hrw, show (d.pickN.setH v { rd d.hands v with q := q.drop m }).hands.map hHF = d.hands.map hHF from map_set_same hHF hv rfl, show (d.pickN.setH v { rd d.hands v with q := q.drop m }).hands.map hFu = d.hands.map hFu from map_set_same hFu hv rfl]
      dsimp only [DK.setH, DK.pickN]
      exact ent_
    have hst : d.pickN.steal w v round = ((d.pickN.setH v { rd d.hands v with q := q.drop m }).setH w (pushAll (rd d.hands w) w qs)).foundIn w round a [⟨round, d.label, 2, w, t0.f_Id, v, (m + 1 : Nat)⟩] := by
      unfold DK.steal
      have e1 : d.pickN.hand v = rd d.hands v := rfl
      have e2 : d.pickN.hand w = rd d.hands w := rfl
      have e3 : d.pickN.take (a :: q).length = m + 1 := hm
      dsimp only
      rw [e1, e2, hqv, e3, List.drop_succ_cons, List.take_succ_cons, hqm]
      unfold stealE
      rw [show rd (a :: qs) 0 = a from rfl, ← eid, show ((a :: qs).length : Int) = ((m + 1 : Nat) : Int) from by simp; omega]
      rfl
    refine go ?_
    rw [show tkC t0 (setW a w) = tkC (rd (t0 :: ts) 0) (setW a w) from rfl]
    refine Cd.forget 7 rfl ?_
    refine Cd.drawL (l := [_, _, _, _, _, _, _, _, _, _, _, _, _, _]) (z := _) [[], [], [], [], [3], [3, 4], [], [6], [0, 1, 2, 3, 4, 5, 6, 7], [0, 1, 2, 3, 4, 5, 6, 7, 8], [0, 1, 2, 3, 4, 5, 6, 7, 8], [0, 1, 2, 3, 4, 5, 6, 7, 8], [0, 1, 2, 3, 4, 5, 6, 7, 8, 9, 10, 11], [0, 1, 2, 3, 4, 5, 6, 7, 8, 9, 10, 11, 12]] [7, 8, 12] [] (td := [(0, .fresh), (1, .fresh), (2, .fresh), (3, .fresh), (4, .fresh), (5, .fresh), (6, .fresh)]) rfl mixed (by kernel_rfl) (by kernel_rfl) (by kernel_rfl) (by decide) (by decide) rfl (by kernel_rfl) ?_
    refine god2 ?_
    refine Sg2.one (td := [(0, .old), (1, .old), (2, .old), (3, .old), (4, .old), (5, .old)]) rfl (by kernel_rfl) fun F7_ => ?_
    dsimp only [List.cons_append, List.nil_append]
    (with_reducible first|refine SpOp.eff rfl rfl rfl rfl rfl (Eff.x (Qx.build rfl) ?_)|refine SpOp.eff rfl rfl rfl rfl rfl (Eff.alloc fun _=>?_)|refine SpOp.eff rfl rfl rfl rfl rfl (Eff.box fun _=>?_)|refine SpOp.eff rfl rfl rfl rfl rfl (Eff.bslice rfl rfl fun _=>?_)|(refine SpOp.eff rfl rfl rfl rfl rfl (Eff.append1 rfl ?_ fun _=>?_);exact pre_)|refine SpOp.eff0 rfl rfl rfl rfl (Eff.store rfl rfl ?_)|(refine SpOp.eff0 rfl rfl rfl rfl (Eff.storeE rfl ?_ ?_);exact pre_))
    rename_i ve
    refine Sn.ok ?_
    refine god2 ?_
    refine Sg2.one (td := [(9, .fresh), (10, .fresh), (11, .fresh)]) rfl (by kernel_rfl) fun F8_ => ?_
    dsimp only [List.cons_append, List.nil_append]
    refine SpOp.eff rfl rfl rfl rfl rfl (Eff.call (R := ?_) (deck24_take p ((d.pickN.setH v { rd d.hands v with q := q.drop m }).setH w (pushAll (rd d.hands w) w qs)) l ws w round (rd (t0 :: ts) 0) (setW a w) ve [⟨round, d.label, 2, w, t0.f_Id, v, (m + 1 : Nat)⟩] (by unfold DK.setH at hw1 ⊢; simpa using hw1) (by simp)) rfl ?_ ?_)
    rotate_left
    · exact tkl_
    rintro ⟨t1, v1⟩ -
    dsimp only [List.cons_append, List.nil_append]
    refine Sn.ok ?_
    refine god2 ?_
    refine Sg2.one (td := [(13, .fresh)]) rfl (by kernel_rfl) fun F12_ => ?_
    dsimp only [List.cons_append, List.nil_append]
    (with_reducible first|refine SpOp.eff rfl rfl rfl rfl rfl (Eff.x (Qx.build rfl) ?_)|refine SpOp.eff rfl rfl rfl rfl rfl (Eff.alloc fun _=>?_)|refine SpOp.eff rfl rfl rfl rfl rfl (Eff.box fun _=>?_)|refine SpOp.eff rfl rfl rfl rfl rfl (Eff.bslice rfl rfl fun _=>?_)|(refine SpOp.eff rfl rfl rfl rfl rfl (Eff.append1 rfl ?_ fun _=>?_);exact pre_)|refine SpOp.eff0 rfl rfl rfl rfl (Eff.store rfl rfl ?_)|(refine SpOp.eff0 rfl rfl rfl rfl (Eff.storeE rfl ?_ ?_);exact pre_))
    refine Sn.ok ?_
    refine god2 ?_
    refine go ?_
    rw [hst]
    refine Dn.retC2 rfl rfl trivial rfl rfl fun w' hs => ⟨(t1, v1), rfl, trivial, hs.conv (show ents _ (deckR p (((d.pickN.setH v { rd d.hands v with q := q.drop m }).setH w (pushAll (rd d.hands w) w qs)).hold w (setW (setW a w) w)) l ws :: tkC t1 (setW (setW a w) w) :: sl e_api_Event v1 ([⟨round, d.label, 2, w, t0.f_Id, v, (m + 1 : Nat)⟩] ++ [evOf ((d.pickN.setH v { rd d.hands v with q := q.drop m }).setH w (pushAll (rd d.hands w) w qs)).label round 1 (setW (setW a w) w)]) :: R) from by exact ent_)⟩
end Go.Proofs.YtihmbmoeedojoaaGreat

