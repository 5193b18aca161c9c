/- Contracts of functions of the program, proved in a small separation logic. Conditions: those that each theorem states. -/
import Derived.Test.YtihmbmoeedojoaaGreatRDeck12
namespace Go.Proofs.YtihmbmoeedojoaaGreat
open Go Go.Sl
set_option maxHeartbeats 4000000
set_option maxRecDepth 100000
set_option linter.unusedVariables false
-- FN confidant/confidantlaw24.alike
theorem law24_alike (p q : Nat) (x : DX) (d : DK) (l : List QI) (n : Int) (ws : List WT) (h8 : 1 ≤ d.hands.length ∧ d.hands.length ≤ 8) :
    Sp Tryz.prog 32 [.pointer (some ⟨p, 0, none⟩), .pointer (some ⟨q, 0, none⟩)] [deckH p x d, queueS x.qp l n, parkH x.pp ws, deckR q d l ws] (fun _ : Unit => True) (fun _ => .bool true) (fun _ => [deckH p x d, queueS x.qp l n, parkH x.pp ws, deckR q d l ws]) := by
  refine Sp.intro (n := 108) Tryz.func32 rfl rfl fun w0 R => ?_
  dsimp only [List.cons_append, List.nil_append, envOf]
  refine go ?_
  refine Cd.loop (fun k : Nat => k ≤ 10) (fun k => 10 - k) (fun k => [(0, .pointer (some ⟨p, 0, none⟩)), (1, .pointer (some ⟨q, 0, none⟩)), (5, .int .i64 ((k : Int) - 1))]) (fun k => deckH p x d :: queueS x.qp l n :: parkH x.pp ws :: deckR q d l ws :: R) 0 (by omega) ?_ ?_ ?_
  · repeat(first|exact Env.le_nil _|(refine Env.le_cons rfl ?_ ?_;first|rfl|(simp;done)|exact congrArg _ (by omega)|rotate_left))
  · exact ent_
  intro k hk
  refine go ?_
  refine Cd.condP rfl (fun h => ?_) (fun h => ?_)
  rotate_left
  · first | (with_reducible refine Cd.g ?_; refine Cd.pk (A := (deckR q d l ws)) rfl (by exact tk_) fun y hy => ?_) | (with_reducible refine Ol.g ?_; refine Ol.pk (A := (deckR q d l ws)) rfl (by exact tk_) fun y hy => ?_) | (with_reducible refine Dn.g ?_; refine Dn.pk (A := (deckR q d l ws)) rfl (by exact tk_) fun y hy => ?_)
    dsimp only [List.cons_append, List.nil_append]
    refine go ?_
    refine Cd.drawL (l := [_, _, _, _, _, _, _, _, _, _, _, _, _, _]) (z := _) [[], [0], [], [2], [2, 3], [2, 3, 4], [0, 1, 2, 3, 4, 5], [0, 1, 2, 3, 4, 5, 6], [0, 1, 2, 3, 4, 5, 6, 7], [0, 1, 2, 3, 4, 5, 6, 7, 8], [0, 1, 2, 3, 4, 5, 6, 7], [0, 1, 2, 3, 4, 5, 6, 7, 8, 9, 10], [0, 1, 2, 3, 4, 5, 6, 7, 8, 9, 10, 11], [0, 1, 2, 3, 4, 5, 6, 7, 8, 9, 10, 11, 12]] [1, 9, 11] [] (td := [(0, .fresh), (2, .fresh), (3, .fresh), (4, .fresh), (5, .fresh)]) rfl mixed (by kernel_rfl) (by kernel_rfl) (by kernel_rfl) (by decide) (by decide) rfl (by kernel_rfl) ?_
    refine god2 ?_
    refine Sg2.one (td := [(2, .old), (3, .old), (4, .old), (5, .old), (6, .fresh), (7, .fresh), (8, .fresh), (10, .fresh)]) rfl (by kernel_rfl) fun F1_ => ?_
    dsimp only [List.cons_append, List.nil_append]
    refine SpOp.eff rfl rfl rfl rfl rfl (Eff.call (R := ?_) (deck_Fuel p x d) rfl ?_ ?_)
    rotate_left
    · exact tkl_
    rintro _ -
    dsimp only [List.cons_append, List.nil_append]
    refine Sn.ok ?_
    refine god2 ?_
    rw [decide_eq_true (show d.fuel = d.fuel from rfl)]
    refine god2 ?_
    refine Sg2.one (td := [(10, .old)]) rfl (by kernel_rfl) fun F9_ => ?_
    dsimp only [List.cons_append, List.nil_append]
    refine SpOp.eff rfl rfl rfl rfl rfl (Eff.call (R := ?_) (deck_LiveS p x d l n ws) rfl ?_ ?_)
    rotate_left
    · exact tkl_
    rintro _ -
    dsimp only [List.cons_append, List.nil_append]
    refine Sn.ok ?_
    refine god2 ?_
    refine Sg2.one (td := [(12, .fresh), (13, .fresh)]) rfl (by kernel_rfl) fun F11_ => ?_
    dsimp only [List.cons_append, List.nil_append]
    refine SpOp.eff rfl rfl rfl rfl rfl (Eff.call (R := ?_) (deck24_Live q d l ws) rfl ?_ ?_)
    rotate_left
    · exact TkL.cons (Tk.pk (A := deckR q d l ws) rfl y hy (by exact tkl_)) (TkL.nil _)
    rintro _ -
    dsimp only [List.cons_append, List.nil_append]
    refine Sn.ok ?_
    refine god2 ?_
    refine go ?_
    refine Dn.ret1 rfl rfl fun w' hs => ⟨(), ?_, trivial, hs.conv (by exact ent_)⟩
    rw [decide_eq_true rfl]
  generalize hi : (k : Int) - 1 = i at h ⊢
  have hi2 : -1 ≤ i ∧ i ≤ 8 := by omega
  refine go ?_
  with_reducible refine Ol.g ?_
  refine Ol.eff rfl rfl rfl (Eff.call (R := ?_) (deck_Held p x d i) rfl ?_ ?_)
  rotate_left
  · exact tkl_
  rintro t -
  dsimp only [List.cons_append, List.nil_append]
  refine go ?_;repeat((with_reducible refine Ol.g ?_);(first|refine Ol.eff rfl rfl rfl (Eff.alloc fun _=>?_)|refine Ol.eff rfl rfl rfl (Eff.box fun _=>?_)|refine Ol.eff0 rfl rfl (Eff.store rfl rfl ?_)|refine Ol.eff rfl rfl rfl (Eff.bslice rfl rfl fun _=>?_)|(refine Ol.eff0 rfl rfl (Eff.storeE rfl ?_ ?_);exact pre_)|(refine Ol.eff rfl rfl rfl (Eff.append1 rfl ?_ fun _=>?_);exact pre_));refine go ?_)
  rename_i c
  first | (with_reducible refine Cd.g ?_; refine Cd.pk (A := (deckR q d l ws)) rfl (by exact tk_) fun y hy => ?_) | (with_reducible refine Ol.g ?_; refine Ol.pk (A := (deckR q d l ws)) rfl (by exact tk_) fun y hy => ?_) | (with_reducible refine Dn.g ?_; refine Dn.pk (A := (deckR q d l ws)) rfl (by exact tk_) fun y hy => ?_)
  dsimp only [List.cons_append, List.nil_append]
  have hrs := hy.rs; have hht := hy.hts
  have hfl : (d.hands.map hFu).length = d.hands.length := List.length_map _
  refine Ol.cutN (α := Unit) (fun _ => [(0, .pointer (some ⟨p, 0, none⟩)), (1, .pointer (some ⟨q, 0, none⟩)), (5, .int .i64 i), (6, .pointer (some ⟨c, 0, none⟩)), (7, .bool (d.heldB i)), (8, .bool (d.heldB i))])
    (fun _ => cel c 45 (tC t) :: tkC t (d.heldA i) :: deckH p x d :: queueS x.qp l n :: parkH x.pp ws :: partsR q y d l ws ++ R) (fun K kk => ?_) ?_
  · dsimp only [List.cons_append, List.nil_append] at kk
    by_cases h0 : 0 ≤ i
    · rw [decide_eq_true (show i ≥ 0 from h0)]
      refine go ?_
      by_cases h1 : i < (y.rs.length : Int)
      · rw [decide_eq_true h1]
        have hb : d.hasB i = true := decide_eq_true (by omega)
        refine go ?_
        rw [rd_map hFu (by omega), show hFu (rd d.hands i) = d.heldB i from by unfold DK.heldB DK.hand; rw [hb]; rfl]
        exact Dn.weak (by repeat(first|exact Env.le_nil _|(refine Env.le_cons rfl ?_ ?_;first|rfl|(simp;done)|exact congrArg _ (by omega)|rotate_left))) (by exact ent_) (kk ())
      · rw [decide_eq_false h1]
        refine go ?_
        have e : d.heldB i = false := by unfold DK.heldB DK.hasB; rw [decide_eq_false (by omega)]; rfl
        rw [e] at kk ⊢
        exact Dn.weak (by repeat(first|exact Env.le_nil _|(refine Env.le_cons rfl ?_ ?_;first|rfl|(simp;done)|exact congrArg _ (by omega)|rotate_left))) (by exact ent_) (kk ())
    · rw [decide_eq_false (show ¬ i ≥ 0 from h0)]
      refine go ?_
      have e : d.heldB i = false := by unfold DK.heldB DK.hasB; rw [decide_eq_false (by omega)]; rfl
      rw [e] at kk ⊢
      exact Dn.weak (by repeat(first|exact Env.le_nil _|(refine Env.le_cons rfl ?_ ?_;first|rfl|(simp;done)|exact congrArg _ (by omega)|rotate_left))) (by exact ent_) (kk ())
  rintro -
  dsimp only [List.cons_append, List.nil_append]
  refine go ?_
  refine Cd.cutN (α := Unit) (fun _ => [(0, .pointer (some ⟨p, 0, none⟩)), (1, .pointer (some ⟨q, 0, none⟩)), (5, .int .i64 i), (56, .bool false)])
    (fun _ => deckH p x d :: queueS x.qp l n :: parkH x.pp ws :: partsR q y d l ws ++ R) (fun K kk _ => ?_) ?_
  · dsimp only [List.cons_append, List.nil_append] at kk
    cases hh : d.heldB i with
    | false =>
      refine Cd.draw2 [[], [], [0, 1], [0, 1, 2], [0, 1, 2, 3], [0, 1, 2, 3, 4], [0, 1, 2, 3, 4, 5], [0, 1, 2, 3, 4, 5], [0, 1, 2, 3, 4, 5, 7], [0, 1, 2, 3, 4, 5, 7, 8], [0, 1, 2, 3, 4, 5, 7, 8, 9], [0, 1, 2, 3, 4, 5], [0, 1, 2, 3, 4, 5, 7, 8, 9, 10, 11], [0, 1, 2, 3, 4, 5, 7, 8, 9, 10, 11, 12], [0, 1, 2, 3, 4, 5, 6, 7, 8, 9, 10, 11, 12, 13], [0, 1, 2, 3, 4, 5, 6, 7, 8, 9, 10, 11, 12, 13, 14], [0, 1, 2, 3, 4, 5, 6, 7, 8, 9, 10, 11, 12, 13, 14, 15], [0, 1, 2, 3, 4, 5, 6, 7, 8, 9, 10, 11, 12, 13, 14, 15, 16]] [14] [] (td := [(0, .fresh), (1, .fresh), (2, .fresh), (3, .fresh), (4, .fresh), (5, .fresh), (6, .fresh), (7, .fresh), (8, .fresh), (9, .fresh), (10, .fresh), (11, .fresh), (12, .fresh), (13, .fresh)]) mixed (by kernel_rfl) (by kernel_rfl) (by decide) (by decide) rfl (by kernel_rfl) ?_
      refine god2 ?_
      refine Sg2.one (td := [(15, .fresh), (16, .fresh), (17, .fresh)]) rfl (by kernel_rfl) fun F14_ => ?_
      dsimp only [List.cons_append, List.nil_append]
      refine SpOp.skip rfl rfl rfl rfl (Sn.ok ?_)
      refine god2 ?_
      refine go ?_
      exact Dn.weak (by repeat(first|exact Env.le_nil _|(refine Env.le_cons rfl ?_ ?_;first|rfl|(simp;done)|exact congrArg _ (by omega)|rotate_left))) (by exact ent_) (kk ())
    | true =>
      have hbi : d.hasB i = true ∧ (d.hand i).full = true := by unfold DK.heldB at hh; simpa using hh
      have hw : 0 ≤ i ∧ i < (d.hands.length : Int) := of_decide_eq_true hbi.1
      have hA : d.heldA i = (rd d.hands i).held := by unfold DK.heldA; rw [hh]; rfl
      refine Cd.conv (Tk.more (p := rel2_pers (fun _ _ => inferInstance) _ _) (A := rel2 heldC y.hts (d.hands.map hHF)) (rel2_gotI (i := i) hw.1 (by simpa using hw.2)) (by exact tk_)) ?_
      rw [rd_map hHF hw]
      refine Cd.conv (H' := heldC (rd y.hts i) ((rd d.hands i).held, (rd d.hands i).full) :: _) (ents.refl _) ?_
      first | (with_reducible refine Cd.g ?_; refine Cd.pk (A := (heldC (rd y.hts i) ((rd d.hands i).held, (rd d.hands i).full))) rfl (by exact tk_) fun a ha => ?_) | (with_reducible refine Ol.g ?_; refine Ol.pk (A := (heldC (rd y.hts i) ((rd d.hands i).held, (rd d.hands i).full))) rfl (by exact tk_) fun a ha => ?_) | (with_reducible refine Dn.g ?_; refine Dn.pk (A := (heldC (rd y.hts i) ((rd d.hands i).held, (rd d.hands i).full))) rfl (by exact tk_) fun a ha => ?_)
      dsimp only [List.cons_append, List.nil_append]
      have haa : a = d.heldA i := by rw [hA]; exact ha hbi.2
      subst haa
      refine Cd.draw2 [[], [], [0, 1], [0, 1, 2], [0, 1, 2, 3], [0, 1, 2, 3, 4], [0, 1, 2, 3, 4, 5], [0, 1, 2, 3, 4, 5], [0, 1, 2, 3, 4, 5, 7], [0, 1, 2, 3, 4, 5, 7, 8], [0, 1, 2, 3, 4, 5, 7, 8, 9], [0, 1, 2, 3, 4, 5], [0, 1, 2, 3, 4, 5, 7, 8, 9, 10, 11], [0, 1, 2, 3, 4, 5, 7, 8, 9, 10, 11, 12], [0, 1, 2, 3, 4, 5, 6, 7, 8, 9, 10, 11, 12, 13], [0, 1, 2, 3, 4, 5, 6, 7, 8, 9, 10, 11, 12, 13, 14], [0, 1, 2, 3, 4, 5, 6, 7, 8, 9, 10, 11, 12, 13, 14, 15], [0, 1, 2, 3, 4, 5, 6, 7, 8, 9, 10, 11, 12, 13, 14, 15, 16]] [14] [] (td := [(0, .fresh), (1, .fresh), (2, .fresh), (3, .fresh), (4, .fresh), (5, .fresh), (6, .fresh), (7, .fresh), (8, .fresh), (9, .fresh), (10, .fresh), (11, .fresh), (12, .fresh), (13, .fresh)]) mixed (by kernel_rfl) (by kernel_rfl) (by decide) (by decide) rfl (by kernel_rfl) ?_
      refine god2 ?_
      refine Sg2.one (td := [(15, .fresh), (16, .fresh), (17, .fresh)]) rfl (by kernel_rfl) fun F14_ => ?_
      dsimp only [List.cons_append, List.nil_append]
      refine SpOp.eff rfl rfl rfl rfl rfl (Eff.call (R := ?_) (ref9_Same t (rd y.hts i) (d.heldA i)) rfl ?_ ?_)
      rotate_left
      · exact tkl_
      rintro _ -
      dsimp only [List.cons_append, List.nil_append]
      refine Sn.ok ?_
      refine god2 ?_
      refine go ?_
      exact Dn.weak (by repeat(first|exact Env.le_nil _|(refine Env.le_cons rfl ?_ ?_;first|rfl|(simp;done)|exact congrArg _ (by omega)|rotate_left))) (by exact ent_) (kk ())
  rintro -
  dsimp only [List.cons_append, List.nil_append]
  refine go ?_
  by_cases hw : 0 ≤ i ∧ i < (d.hands.length : Int)
  · have hb : d.hasB i = true := decide_eq_true hw
    rw [decide_eq_true (show i ≥ 0 from hw.1)]
    refine go ?_
    rw [decide_eq_true (show i < (y.rs.length : Int) by omega)]
    refine Cd.rel (R := rgC) (l := y.rs) (q := d.hands.map hRQ) i (by exact tk_) (by simpa using hw) ?_
    rw [rd_map hRQ hw]
    refine Cd.conv (H' := ring15C (rd y.rs i) (rd d.hands i).room (rd d.hands i).q :: _) (ents.refl _) ?_
    first | (with_reducible refine Cd.g ?_; refine Cd.pk (A := (ring15C (rd y.rs i) (rd d.hands i).room (rd d.hands i).q)) rfl (by exact tk_) fun z hz => ?_) | (with_reducible refine Ol.g ?_; refine Ol.pk (A := (ring15C (rd y.rs i) (rd d.hands i).room (rd d.hands i).q)) rfl (by exact tk_) fun z hz => ?_) | (with_reducible refine Dn.g ?_; refine Dn.pk (A := (ring15C (rd y.rs i) (rd d.hands i).room (rd d.hands i).q)) rfl (by exact tk_) fun z hz => ?_)
    dsimp only [List.cons_append, List.nil_append]
    have hz1 := hz.2
    refine go ?_
    refine Cd.drawL (l := [_, _, _, _, _, _, _, _, _, _, _, _, _, _, _, _, _, _, _, _, _, _]) (z := _) [[], [0], [0, 1], [0, 1, 2], [], [0, 1, 2, 3, 4], [0, 1, 2, 3, 4, 5], [0, 1, 2, 3, 4, 5, 6], [0, 1, 2, 3, 4, 5, 6, 7], [0, 1, 2, 3, 4, 5, 6, 7, 8], [], [10], [10, 11], [10, 11, 12], [], [10, 11, 12, 13, 14], [10, 11, 12, 13, 14, 15], [10, 11, 12, 13, 14, 15, 16], [10, 11, 12, 13, 14, 15, 16, 17], [10, 11, 12, 13, 14, 15, 16, 17, 18], [10, 11, 12, 13, 14, 15, 16, 17, 18, 19], [0, 1, 2, 3, 4, 5, 6, 7, 8, 9, 10, 11, 12, 13, 14, 15, 16, 17, 18, 19, 20]] [] [] (td := [(0, .fresh), (1, .fresh), (2, .fresh), (3, .fresh), (4, .fresh), (5, .fresh), (6, .fresh), (7, .fresh), (8, .fresh), (9, .fresh), (10, .fresh), (11, .fresh), (12, .fresh), (13, .fresh), (14, .fresh), (15, .fresh), (16, .fresh), (17, .fresh), (18, .fresh), (19, .fresh), (20, .fresh), (21, .fresh)]) rfl mixed (by kernel_rfl) (by kernel_rfl) (by kernel_rfl) (by decide) (by decide) rfl (by kernel_rfl) ?_
    refine god2 ?_
    refine go ?_
    with_reducible refine Ol.g ?_
    refine Ol.eff rfl rfl rfl (Eff.call (R := ?_) (deck_Room p x d i) rfl ?_ ?_)
    rotate_left
    · exact tkl_
    rintro _ -
    dsimp only [List.cons_append, List.nil_append]
    refine go ?_
    rw [decide_eq_false (show ¬ d.room i ≠ ((rd d.hands i).room : Int) - (z.2.length : Int) by unfold DK.room DK.hand; rw [hb, hz.1]; exact fun h => h rfl)]
    refine go ?_
    refine Dn.round (k + 1) (by omega) (by omega) ?_ ?_
    · rw [show ((k + 1 : Nat) : Int) - 1 = i + 1 by omega]
      repeat(first|exact Env.le_nil _|(refine Env.le_cons rfl ?_ ?_;first|rfl|(simp;done)|exact congrArg _ (by omega)|rotate_left))
    · exact ents.cons (by exact tk_) (ents.cons (by exact tk_) (ents.cons (by exact tk_) (ents.pk y hy (by
        dsimp only [List.cons_append, List.nil_append]
        exact ents.cons (by exact tk_) (ents.cons (by exact tk_) (rgs_back hw (ents.pk z hz (by dsimp only [List.cons_append, List.nil_append]; exact ent_))))))))
  · have hb : d.hasB i = false := decide_eq_false hw
    have fin : d.room i = 0 := by unfold DK.room; rw [hb]
    by_cases h0 : 0 ≤ i
    · rw [decide_eq_true (show i ≥ 0 from h0)]
      refine go ?_
      rw [decide_eq_false (show ¬ i < (y.rs.length : Int) by omega)]
      refine go ?_
      with_reducible refine Ol.g ?_
      refine Ol.eff rfl rfl rfl (Eff.call (R := ?_) (deck_Room p x d i) rfl ?_ ?_)
      rotate_left
      · exact tkl_
      rintro _ -
      dsimp only [List.cons_append, List.nil_append]
      rw [fin]
      refine go ?_
      refine Dn.round (k + 1) (by omega) (by omega) ?_ ?_
      · rw [show ((k + 1 : Nat) : Int) - 1 = i + 1 by omega]
        repeat(first|exact Env.le_nil _|(refine Env.le_cons rfl ?_ ?_;first|rfl|(simp;done)|exact congrArg _ (by omega)|rotate_left))
      · exact ents.cons (by exact tk_) (ents.cons (by exact tk_) (ents.cons (by exact tk_) (ents.pk y hy (by dsimp only [List.cons_append, List.nil_append]; exact ent_))))
    · rw [decide_eq_false (show ¬ i ≥ 0 from h0)]
      refine go ?_
      with_reducible refine Ol.g ?_
      refine Ol.eff rfl rfl rfl (Eff.call (R := ?_) (deck_Room p x d i) rfl ?_ ?_)
      rotate_left
      · exact tkl_
      rintro _ -
      dsimp only [List.cons_append, List.nil_append]
      rw [fin]
      refine go ?_
      refine Dn.round (k + 1) (by omega) (by omega) ?_ ?_
      · rw [show ((k + 1 : Nat) : Int) - 1 = i + 1 by omega]
        repeat(first|exact Env.le_nil _|(refine Env.le_cons rfl ?_ ?_;first|rfl|(simp;done)|exact congrArg _ (by omega)|rotate_left))
      · exact ents.cons (by exact tk_) (ents.cons (by exact tk_) (ents.cons (by exact tk_) (ents.pk y hy (by dsimp only [List.cons_append, List.nil_append]; exact ent_))))
end Go.Proofs.YtihmbmoeedojoaaGreat

