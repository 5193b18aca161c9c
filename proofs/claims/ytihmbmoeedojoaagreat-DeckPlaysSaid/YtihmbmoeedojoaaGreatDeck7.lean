/- Contracts of functions of the program, proved in a small separation logic. Conditions: those that each theorem states. -/
import Derived.Test.YtihmbmoeedojoaaGreatDeck6
namespace Go.Proofs.YtihmbmoeedojoaaGreat
open Go Go.Sl
set_option maxHeartbeats 4000000
set_option maxRecDepth 100000
set_option linter.unusedVariables false
/-! what Find does -/
def setW (a : AT) (w : Int) : AT := { a with worker := w }
abbrev tW (t : S_api_Task) (w : Int) : S_api_Task := ⟨t.f_Id, t.f_Func, t.f_Pc, t.f_Stack, t.f_Vars0, t.f_Vars1, t.f_Vars2, t.f_Vars3, t.f_Label, t.f_Clear, t.f_Privs, w⟩
theorem tkC_W {t : S_api_Task} {a : AT} (w : Int) : went (tkC t a) (tkC (tW t w) (setW a w)) := by
  rintro h ⟨x, hx⟩
  obtain ⟨f, g, k, rfl, hp, hg⟩ := hx
  exact ⟨_, fun _ _ e => e, (), f, g, k, rfl, ⟨by have := hp.1; unfold taskOf setW at *; rw [← this], ⟨hp.2.st, hp.2.pc⟩⟩, hg⟩
structure FR where
  d : DK
  a : AT
  ev : List S_api_Event
  ok : Bool
def stealE (d : DK) (w round v : Int) (l : List AT) : S_api_Event := ⟨round, d.label, 2, w, (rd l 0).id, v, l.length⟩
theorem hold_label (d : DK) (w : Int) (a : AT) : (d.hold w a).label = d.label := by unfold DK.hold; split <;> rfl
def DK.foundIn (d : DK) (w round : Int) (a : AT) (es : List S_api_Event) : FR := ⟨d.hold w (setW a w), setW a w, es ++ [evOf d.label round 1 (setW a w)], true⟩
def pushAll (h : Hand) (w : Int) (l : List AT) : Hand := l.foldl (fun h a => h.push (setW a w)) h
def DK.steal (d : DK) (w v round : Int) : FR :=
  let q := (d.hand v).q
  let l := q.take (d.take q.length)
  ((d.setH v { d.hand v with q := q.drop (d.take q.length) }).setH w (pushAll (d.hand w) w (l.drop 1))).foundIn w round (rd l 0) [stealE d w round v l]
def DK.pickN (d : DK) : DK := { d with picks := d.picks.next d.hands.length }
def DK.find (d : DK) (w round : Int) : FR :=
  match d.hasB w, (d.hand w).q, d.othersB w with
  | false, _, _ => ⟨d, zA, [], false⟩
  | true, a :: q, _ => (d.setH w { d.hand w with q := (a :: q).dropLast }).foundIn w round ((a :: q).getLastD zA) []
  | true, [], false => ⟨d, zA, [], false⟩
  | true, [], true =>
    let v := d.picks.val d.hands.length
    if v = w ∨ (d.hand v).q = [] then ⟨d.pickN, zA, [⟨round, d.label, 3, w, 0, v, 0⟩], false⟩ else d.pickN.steal w v round
theorem hands_put {bs : List Nat} {hs : List Hand} {k : Int} {h : Hand} (h0 : 0 ≤ k) (z : Nat × S_api_Task) {H L : List HProp}
    (kk : ents H (cel (rd bs k) 99 (handL z.1 z.2 h.full) :: ringC z.1 h.room h.q :: tkC z.2 h.held :: rel2H handC k.toNat bs hs :: L)) : ents H (rel2 handC bs (hs.set k.toNat h) :: L) := by
  refine ents.trans kk ?_
  refine ents.trans (ents.pk (p := fun _ : Nat × S_api_Task => True) (L := fun y => [cel (rd bs k) 99 (handL y.1 y.2 h.full), ringC y.1 h.room h.q, tkC y.2 h.held]) (R := rel2H handC k.toNat bs hs :: L) z trivial (by dsimp only [List.cons_append, List.nil_append]; exact ent_)) ?_
  refine (show ents (handC (rd bs k) h :: rel2H handC k.toNat bs hs :: L) _ from ?_)
  exact ents.relput h0 (Tk.hd _ _) (Tk.hd _ _) (by exact ent_)
theorem rd_set_ne {α : Type} [Dfl α] {l : List α} {i j : Int} {y : α} (h : i.toNat ≠ j.toNat) : rd (l.set i.toNat y) j = rd l j := by
  simp only [rd]; rw [List.getD_eq_getElem?_getD, List.getD_eq_getElem?_getD, List.getElem?_set_ne h]
-- FN (*confidant/deck.Deck).Find
theorem deck_Find (p : Nat) (x : DX) (d : DK) (w round : Int) :
    Sp Tryz.prog 27 [.pointer (some ⟨p, 0, none⟩), .int .i64 w, .int .i64 round] [deckH p x d] (fun _ : S_api_Task × Value => True) (fun y => .tuple #[tV y.1, y.2, .bool (d.find w round).ok]) (fun y => [deckH p x (d.find w round).d, tkC y.1 (d.find w round).a, sl e_api_Event y.2 (d.find w round).ev]) := by
  refine Sp.intro (n := 137) Tryz.func27 rfl rfl fun w0 R => ?_
  dsimp only [List.cons_append, List.nil_append, envOf]
  first | (with_reducible refine Cd.g ?_; refine Cd.pk (A := (deckH p x d)) rfl (by exact tk_) fun u hd => ?_) | (with_reducible refine Ol.g ?_; refine Ol.pk (A := (deckH p x d)) rfl (by exact tk_) fun u hd => ?_) | (with_reducible refine Dn.g ?_; refine Dn.pk (A := (deckH p x d)) rfl (by exact tk_) fun u hd => ?_)
  dsimp only [List.cons_append, List.nil_append]
  refine go ?_;repeat((with_reducible refine Ol.g ?_);(first|refine Ol.eff rfl rfl rfl (Eff.alloc fun _=>?_)|refine Ol.eff rfl rfl rfl (Eff.box fun _=>?_)|refine Ol.eff0 rfl rfl (Eff.store rfl rfl ?_)|refine Ol.eff rfl rfl rfl (Eff.bslice rfl rfl fun _=>?_)|(refine Ol.eff0 rfl rfl (Eff.storeE rfl ?_ ?_);exact pre_)|(refine Ol.eff rfl rfl rfl (Eff.append1 rfl ?_ fun _=>?_);exact pre_));refine go ?_)
  rename_i c
  with_reducible refine Ol.g ?_
  refine Ol.eff rfl rfl rfl (Eff.call (R := ?_) (deck_has p x d w hd) rfl ?_ ?_)
  rotate_left
  · exact tkl_
  rintro _ -
  dsimp only [List.cons_append, List.nil_append]
  cases hb : d.hasB w with
  | false =>
    have e : d.find w round = ⟨d, zA, [], false⟩ := by unfold DK.find; rw [hb]
    rw [e]
    refine go ?_;repeat((with_reducible refine Ol.g ?_);(first|refine Ol.eff rfl rfl rfl (Eff.alloc fun _=>?_)|refine Ol.eff rfl rfl rfl (Eff.box fun _=>?_)|refine Ol.eff0 rfl rfl (Eff.store rfl rfl ?_)|refine Ol.eff rfl rfl rfl (Eff.bslice rfl rfl fun _=>?_)|(refine Ol.eff0 rfl rfl (Eff.storeE rfl ?_ ?_);exact pre_)|(refine Ol.eff rfl rfl rfl (Eff.append1 rfl ?_ fun _=>?_);exact pre_));refine go ?_)
    refine Dn.retC2 rfl rfl trivial rfl rfl fun w' hs => ⟨(zT, .slice none 0 0), rfl, trivial, hs.conv (ents.pk () hd (by dsimp only [List.cons_append, List.nil_append]; exact ent_))⟩
  | true =>
  have hw : 0 ≤ w ∧ w < (d.hands.length : Int) := of_decide_eq_true hb
  have hw2 : w < (x.bs.length : Int) := by rw [← hd.1]; exact hw.2
  refine Ol.rel (R := handC) (l := x.bs) (q := d.hands) w (by exact tk_) hw ?_
  first | (with_reducible refine Cd.g ?_; refine Cd.pk (A := (handC (rd x.bs w) (rd d.hands w))) rfl (by exact tk_) fun z hz => ?_) | (with_reducible refine Ol.g ?_; refine Ol.pk (A := (handC (rd x.bs w) (rd d.hands w))) rfl (by exact tk_) fun z hz => ?_) | (with_reducible refine Dn.g ?_; refine Dn.pk (A := (handC (rd x.bs w) (rd d.hands w))) rfl (by exact tk_) fun z hz => ?_)
  dsimp only [List.cons_append, List.nil_append]
  refine go ?_;repeat((with_reducible refine Ol.g ?_);(first|refine Ol.eff rfl rfl rfl (Eff.alloc fun _=>?_)|refine Ol.eff rfl rfl rfl (Eff.box fun _=>?_)|refine Ol.eff0 rfl rfl (Eff.store rfl rfl ?_)|refine Ol.eff rfl rfl rfl (Eff.bslice rfl rfl fun _=>?_)|(refine Ol.eff0 rfl rfl (Eff.storeE rfl ?_ ?_);exact pre_)|(refine Ol.eff rfl rfl rfl (Eff.append1 rfl ?_ fun _=>?_);exact pre_));refine go ?_)
  with_reducible refine Ol.g ?_
  refine Ol.eff rfl rfl rfl (Eff.call (R := ?_) (ring_Pop z.1 (rd d.hands w).room (rd d.hands w).q) rfl ?_ ?_)
  rotate_left
  · exact tkl_
  rintro t -
  dsimp only [List.cons_append, List.nil_append]
  refine go ?_;repeat((with_reducible refine Ol.g ?_);(first|refine Ol.eff rfl rfl rfl (Eff.alloc fun _=>?_)|refine Ol.eff rfl rfl rfl (Eff.box fun _=>?_)|refine Ol.eff0 rfl rfl (Eff.store rfl rfl ?_)|refine Ol.eff rfl rfl rfl (Eff.bslice rfl rfl fun _=>?_)|(refine Ol.eff0 rfl rfl (Eff.storeE rfl ?_ ?_);exact pre_)|(refine Ol.eff rfl rfl rfl (Eff.append1 rfl ?_ fun _=>?_);exact pre_));refine go ?_)
  rename_i c2
  refine Cd.cut (α := { y : S_api_Task × AT × Value × List S_api_Event × DK // y.2.2.2.2.foundIn w round y.2.1 y.2.2.2.1 = d.find w round ∧ y.2.2.2.1.length ≤ 1 }) (fun y => [(0, .pointer (some ⟨p, 0, none⟩)), (1, .int .i64 w), (2, .int .i64 round), (6, .pointer (some ⟨c, 0, none⟩)), (9, y.1.2.2.1), (11, .pointer (some ⟨c2, 0, none⟩))])
    (fun y => cel c 45 (tC zT) :: cel c2 45 (tC y.1.1) :: tkC y.1.1 y.1.2.1 :: sl e_api_Event y.1.2.2.1 y.1.2.2.2.1 :: deckH p x y.1.2.2.2.2 :: R) (fun K kk => ?_) ?_
  · rcases hq : (rd d.hands w).q with _ | ⟨a, q⟩
    · refine Cd.cond_t rfl ?_
      refine Cd.conv (H' := [cel p 94 (deckL x d), sl ePtr x.vh x.bs, rel2 handC x.bs d.hands, picksC x.pk d.picks, cel c 45 (tC zT), cel c2 45 (tC t)] ++ R) ?_ ?_
      · dsimp only [List.cons_append, List.nil_append]
        refine ents.cons (by exact tk_) (ents.cons (by exact tk_) (hands_back hw.1 hw.2 z ?_))
        rw [hq, List.dropLast_nil]
        exact ent_
      dsimp only [List.cons_append, List.nil_append]
      refine go ?_
      with_reducible refine Ol.g ?_
      refine Ol.eff rfl rfl rfl (Eff.call (R := ?_) (deck_others p x d w hd) rfl ?_ ?_)
      rotate_left
      · exact tkl_
      rintro _ -
      dsimp only [List.cons_append, List.nil_append]
      cases ho : d.othersB w with
      | false =>
        have e : d.find w round = ⟨d, zA, [], false⟩ := by unfold DK.find DK.hand; rw [hb, hq, ho]
        rw [e]
        refine go ?_;repeat((with_reducible refine Ol.g ?_);(first|refine Ol.eff rfl rfl rfl (Eff.alloc fun _=>?_)|refine Ol.eff rfl rfl rfl (Eff.box fun _=>?_)|refine Ol.eff0 rfl rfl (Eff.store rfl rfl ?_)|refine Ol.eff rfl rfl rfl (Eff.bslice rfl rfl fun _=>?_)|(refine Ol.eff0 rfl rfl (Eff.storeE rfl ?_ ?_);exact pre_)|(refine Ol.eff rfl rfl rfl (Eff.append1 rfl ?_ fun _=>?_);exact pre_));refine go ?_)
        refine Dn.retC2 rfl rfl trivial rfl rfl fun w' hs => ⟨(zT, .slice none 0 0), rfl, trivial, hs.conv (ents.pk () hd (by dsimp only [List.cons_append, List.nil_append]; exact ent_))⟩
      | true =>
      refine go ?_
      refine Cd.drawL (l := [_, _, _, _, _, _, _, _, _, _]) (z := _) [[], [0], [0, 1], [0, 1, 2], [], [4], [4, 5], [4, 5, 6], [4, 5, 6, 7], [0, 1, 2, 3, 4, 5, 6, 7, 8]] [9] [] (td := [(0, .fresh), (1, .fresh), (2, .fresh), (3, .fresh), (4, .fresh), (5, .fresh), (6, .fresh), (7, .fresh), (8, .fresh)]) rfl mixed (by kernel_rfl) (by kernel_rfl) (by kernel_rfl) (by decide) (by decide) rfl (by kernel_rfl) ?_
      refine god2 ?_
      refine Sg2.one (td := []) rfl (by kernel_rfl) fun F9_ => ?_
      dsimp only [List.cons_append, List.nil_append]
      refine SpOp.eff rfl rfl rfl rfl rfl (Eff.call (R := ?_) (picks_Next x.pk d.picks x.bs.length (by omega)) rfl ?_ ?_)
      rotate_left
      · exact tkl_
      rintro _ hv
      dsimp only [List.cons_append, List.nil_append]
      refine Sn.ok ?_
      refine god2 ?_
      refine go ?_
      have e : d.find w round = if d.picks.val d.hands.length = w ∨ (d.hand (d.picks.val d.hands.length)).q = [] then ⟨d.pickN, zA, [⟨round, d.label, 3, w, 0, d.picks.val d.hands.length, 0⟩], false⟩ else d.pickN.steal w (d.picks.val d.hands.length) round := by unfold DK.find; rw [hb, ho]; unfold DK.hand; rw [hq]
      rw [← hd.1] at hv
      rw [← hd.1, e]
      generalize hvv : d.picks.val d.hands.length = v at hv ⊢
      have hvb : v < (x.bs.length : Int) := by rw [← hd.1]; exact hv.2
      refine Ol.cut (α := Unit) (fun _ => [(0, .pointer (some ⟨p, 0, none⟩)), (1, .int .i64 w), (2, .int .i64 round), (6, .pointer (some ⟨c, 0, none⟩)), (9, .slice none 0 0), (10, .pointer (some ⟨rd x.bs w, 0, none⟩)), (11, .pointer (some ⟨c2, 0, none⟩)), (13, .int .i64 v), (14, .pointer (some ⟨rd x.bs v, 0, none⟩)), (72, .bool (decide (v = w ∨ (d.hand v).q = [])))])
        (fun _ => cel p 94 (deckL x d) :: sl ePtr x.vh x.bs :: rel2 handC x.bs d.hands :: picksC x.pk (d.picks.next d.hands.length) :: cel c 45 (tC zT) :: cel c2 45 (tC t) :: R) (fun K2 kk2 => ?_) ?_
      · by_cases hvw : v = w
        · rw [decide_eq_true hvw]
          refine go ?_
          refine Dn.weak ?_ (by exact ent_) (kk2 ())
          rw [decide_eq_true (show v = w ∨ (d.hand v).q = [] from .inl hvw)]
          repeat(first|exact Env.le_nil _|(refine Env.le_cons rfl ?_ ?_;first|rfl|(simp;done)|exact congrArg _ (by omega)|rotate_left))
        · rw [decide_eq_false hvw]
          refine Ol.rel (R := handC) (l := x.bs) (q := d.hands) v (by exact tk_) hv ?_
          first | (with_reducible refine Cd.g ?_; refine Cd.pk (A := (handC (rd x.bs v) (rd d.hands v))) rfl (by exact tk_) fun z2 hz2 => ?_) | (with_reducible refine Ol.g ?_; refine Ol.pk (A := (handC (rd x.bs v) (rd d.hands v))) rfl (by exact tk_) fun z2 hz2 => ?_) | (with_reducible refine Dn.g ?_; refine Dn.pk (A := (handC (rd x.bs v) (rd d.hands v))) rfl (by exact tk_) fun z2 hz2 => ?_)
          dsimp only [List.cons_append, List.nil_append]
          refine go ?_
          with_reducible refine Ol.g ?_
          refine Ol.eff rfl rfl rfl (Eff.call (R := ?_) (ring_LenC z2.1 (rd d.hands v).room (rd d.hands v).q) rfl ?_ ?_)
          rotate_left
          · exact tkl_
          rintro _ -
          dsimp only [List.cons_append, List.nil_append]
          refine go ?_
          refine Dn.weak ?_ (ents.cons (by exact tk_) (ents.cons (by exact tk_) (hands_back hv.1 hv.2 z2 (by exact ent_)))) (kk2 ())
          rw [show decide (v = w ∨ (d.hand v).q = []) = decide (((rd d.hands v).q.length : Int) = 0) from by
            rw [decide_eq_decide]; unfold DK.hand
            constructor
            · rintro (h | h)
              · exact absurd h hvw
              · rw [h]; rfl
            · intro h; exact .inr (List.length_eq_zero_iff.1 (by omega))]
          repeat(first|exact Env.le_nil _|(refine Env.le_cons rfl ?_ ?_;first|rfl|(simp;done)|exact congrArg _ (by omega)|rotate_left))
      rintro -
      refine Dn.then ?_
      refine Cd.condP rfl (fun h => ?_) (fun h => ?_)
      · rw [if_pos h]
        refine go ?_
        refine Cd.forget 7 rfl ?_
        refine Cd.drawL (l := [_, _, _, _, _, _, _, _, _, _, _, _, _]) (z := _) [[], [], [], [2], [2, 3], [2, 3, 4], [], [], [7], [1, 2, 3, 4, 5, 6, 7, 8], [1, 2, 3, 4, 5, 6, 7, 8, 9], [0], [0, 1, 2, 3, 4, 5, 6, 7, 8, 9, 10, 11]] [11, 10, 12] [10] (td := [(0, .fresh), (1, .fresh), (2, .fresh), (3, .fresh), (4, .fresh), (5, .fresh), (6, .fresh), (7, .fresh), (8, .fresh), (9, .fresh), (10, .flt)]) rfl mixed (by kernel_rfl) (by kernel_rfl) (by kernel_rfl) (by decide) (by decide) rfl (by kernel_rfl) ?_
        refine god2 ?_
        refine Sg2.one (td := [(1, .old), (2, .old), (3, .old), (4, .old), (5, .old), (6, .old), (7, .old), (8, .old), (9, .old)]) rfl (by kernel_rfl) fun F11_ => ?_
        dsimp only [List.cons_append, List.nil_append]
        (with_reducible first|refine SpOp.eff rfl rfl rfl rfl rfl (Eff.x (Qx.build rfl) ?_)|refine SpOp.eff rfl rfl rfl rfl rfl (Eff.alloc fun _=>?_)|refine SpOp.eff rfl rfl rfl rfl rfl (Eff.box fun _=>?_)|refine SpOp.eff rfl rfl rfl rfl rfl (Eff.bslice rfl rfl fun _=>?_)|(refine SpOp.eff rfl rfl rfl rfl rfl (Eff.append1 rfl ?_ fun _=>?_);exact pre_)|refine SpOp.eff0 rfl rfl rfl rfl (Eff.store rfl rfl ?_)|(refine SpOp.eff0 rfl rfl rfl rfl (Eff.storeE rfl ?_ ?_);exact pre_))
        refine Sn.ok ?_
        refine god2 ?_
        refine Sg2.flt (td := []) rfl rfl rfl rfl (by kernel_rfl) fun _ => ?_
        refine god2 ?_
        refine Sg2.one (td := []) rfl (by kernel_rfl) fun F12_ => ?_
        dsimp only [List.cons_append, List.nil_append]
        refine SpOp.eff rfl rfl rfl rfl rfl (Eff.q trivial ?_)
        refine Sn.ok ?_
        refine god2 ?_
        refine go ?_
        refine Dn.retC2 rfl rfl trivial rfl rfl fun w' hs => ⟨(zT, _), rfl, trivial, hs.conv (ents.pk () hd ?_)⟩
        rw [show d.pickN.picks = d.picks.next d.hands.length from rfl]
        dsimp only [List.cons_append, List.nil_append]
        refine (show ents _ (cel p 94 (deckL x d) :: sl ePtr x.vh x.bs :: rel2 handC x.bs d.hands :: picksC x.pk (d.picks.next d.hands.length) :: tkC zT zA :: sl e_api_Event _ [⟨round, d.label, 3, w, 0, v, 0⟩] :: R) from ?_)
        exact ent_
      rw [if_neg h]
      obtain ⟨hvw, hne⟩ := not_or.1 h
      obtain ⟨a, q, hqv⟩ : ∃ a q, (rd d.hands v).q = a :: q := by
        cases hh : (rd d.hands v).q with
        | nil => exact absurd hh hne
        | cons a q => exact ⟨a, q, rfl⟩
      refine Cd.rel (R := handC) (l := x.bs) (q := d.hands) v (by exact tk_) hv ?_
      first | (with_reducible refine Cd.g ?_; refine Cd.pk (A := (handC (rd x.bs v) (rd d.hands v))) rfl (by exact tk_) fun z2 hz2 => ?_) | (with_reducible refine Ol.g ?_; refine Ol.pk (A := (handC (rd x.bs v) (rd d.hands v))) rfl (by exact tk_) fun z2 hz2 => ?_) | (with_reducible refine Dn.g ?_; refine Dn.pk (A := (handC (rd x.bs v) (rd d.hands v))) rfl (by exact tk_) fun z2 hz2 => ?_)
      dsimp only [List.cons_append, List.nil_append]
      rw [hqv]
      refine go ?_
      with_reducible refine Ol.g ?_
      refine Ol.eff rfl rfl rfl (Eff.call (R := ?_) (deck_stolen p (rd x.bs v) z2.1 (rd d.hands v).room x d z2.2 (rd d.hands v).full a q) rfl ?_ ?_)
      rotate_left
      · exact tkl_
      rintro ⟨vl, ts0⟩ hq64
      obtain ⟨m, hm⟩ : ∃ m, d.take (a :: q).length = m + 1 := ⟨d.take (a :: q).length - 1, by unfold DK.take; split <;> simp <;> omega⟩
      rw [hm]
      rw [List.drop_succ_cons, List.take_succ_cons]
      dsimp only [List.cons_append, List.nil_append]
      first | (with_reducible refine Cd.g ?_; refine Cd.know (fun w_ hw_ => rel2_len (Tk.sat (A := (rel2 tkC ts0 _)) (by exact tk_) hw_)) fun hl2 => ?_) | (with_reducible refine Ol.g ?_; refine Ol.know (fun w_ hw_ => rel2_len (Tk.sat (A := (rel2 tkC ts0 _)) (by exact tk_) hw_)) fun hl2 => ?_) | (with_reducible refine Dn.g ?_; refine Dn.know (fun w_ hw_ => rel2_len (Tk.sat (A := (rel2 tkC ts0 _)) (by exact tk_) hw_)) fun hl2 => ?_)
      obtain ⟨t0, ts, rfl⟩ : ∃ t0 ts, ts0 = t0 :: ts := by
        cases ts0 with
        | nil => simp at hl2
        | cons t0 ts => exact ⟨t0, ts, rfl⟩
      have hl3 : ts.length = (q.take m).length := by simpa using hl2
      have hl64 : ts.length ≤ 63 := by rw [hl3, List.length_take]; omega
      refine Ol.conv (ents.split (rel2_uncons (R := tkC)) (by exact tk_)) ?_
      first | (with_reducible refine Cd.g ?_; refine Cd.know (fun w_ hw_ => tkC_ok (Tk.sat (A := (tkC t0 a)) (by exact tk_) hw_)) fun hta => ?_) | (with_reducible refine Ol.g ?_; refine Ol.know (fun w_ hw_ => tkC_ok (Tk.sat (A := (tkC t0 a)) (by exact tk_) hw_)) fun hta => ?_) | (with_reducible refine Dn.g ?_; refine Dn.know (fun w_ hw_ => tkC_ok (Tk.sat (A := (tkC t0 a)) (by exact tk_) hw_)) fun hta => ?_)
      have eid : t0.f_Id = a.id := congrArg AT.id hta.1
      generalize hqm : q.take m = qs at hl3
      refine go ?_;repeat((with_reducible refine Ol.g ?_);(first|refine Ol.eff rfl rfl rfl (Eff.alloc fun _=>?_)|refine Ol.eff rfl rfl rfl (Eff.box fun _=>?_)|refine Ol.eff0 rfl rfl (Eff.store rfl rfl ?_)|refine Ol.eff rfl rfl rfl (Eff.bslice rfl rfl fun _=>?_)|(refine Ol.eff0 rfl rfl (Eff.storeE rfl ?_ ?_);exact pre_)|(refine Ol.eff rfl rfl rfl (Eff.append1 rfl ?_ fun _=>?_);exact pre_));refine go ?_)
      rw [show rd (t0 :: ts) 0 = t0 from rfl]
      refine go ?_;repeat((with_reducible refine Ol.g ?_);(first|refine Ol.eff rfl rfl rfl (Eff.alloc fun _=>?_)|refine Ol.eff rfl rfl rfl (Eff.box fun _=>?_)|refine Ol.eff0 rfl rfl (Eff.store rfl rfl ?_)|refine Ol.eff rfl rfl rfl (Eff.bslice rfl rfl fun _=>?_)|(refine Ol.eff0 rfl rfl (Eff.storeE rfl ?_ ?_);exact pre_)|(refine Ol.eff rfl rfl rfl (Eff.append1 rfl ?_ fun _=>?_);exact pre_));refine go ?_)
      refine Cd.drawL (l := [_, _, _, _, _, _, _, _, _, _, _, _, _, _, _, _, _]) (z := _) [[], [], [], [2], [2, 3], [2, 3, 4], [], [], [7], [], [9], [], [11], [11, 12], [1, 2, 3, 4, 5, 6, 7, 8, 9, 10, 11, 12, 13], [1, 2, 3, 4, 5, 6, 7, 8, 9, 10, 11, 12, 13, 14], [0, 1, 2, 3, 4, 5, 6, 7, 8, 9, 10, 11, 12, 13, 14, 15]] [15, 16] [] (td := [(0, .fresh), (1, .fresh), (2, .fresh), (3, .fresh), (4, .fresh), (5, .fresh), (6, .fresh), (7, .fresh), (8, .fresh), (9, .fresh), (10, .fresh), (11, .fresh), (12, .fresh), (13, .fresh), (14, .fresh)]) rfl mixed (by kernel_rfl) (by kernel_rfl) (by kernel_rfl) (by decide) (by decide) rfl (by kernel_rfl) ?_
      refine god2 ?_
      refine Sg2.one (td := [(0, .old)]) rfl (by kernel_rfl) fun F15_ => ?_
      dsimp only [List.cons_append, List.nil_append]
      (with_reducible first|refine SpOp.eff rfl rfl rfl rfl rfl (Eff.x (Qx.build rfl) ?_)|refine SpOp.eff rfl rfl rfl rfl rfl (Eff.alloc fun _=>?_)|refine SpOp.eff rfl rfl rfl rfl rfl (Eff.box fun _=>?_)|refine SpOp.eff rfl rfl rfl rfl rfl (Eff.bslice rfl rfl fun _=>?_)|(refine SpOp.eff rfl rfl rfl rfl rfl (Eff.append1 rfl ?_ fun _=>?_);exact pre_)|refine SpOp.eff0 rfl rfl rfl rfl (Eff.store rfl rfl ?_)|(refine SpOp.eff0 rfl rfl rfl rfl (Eff.storeE rfl ?_ ?_);exact pre_))
      refine Sn.ok ?_
      refine god2 ?_
      refine Sg2.one (td := []) rfl (by kernel_rfl) fun F16_ => ?_
      dsimp only [List.cons_append, List.nil_append]
      (with_reducible first|refine SpOp.eff rfl rfl rfl rfl rfl (Eff.x (Qx.build rfl) ?_)|refine SpOp.eff rfl rfl rfl rfl rfl (Eff.alloc fun _=>?_)|refine SpOp.eff rfl rfl rfl rfl rfl (Eff.box fun _=>?_)|refine SpOp.eff rfl rfl rfl rfl rfl (Eff.bslice rfl rfl fun _=>?_)|(refine SpOp.eff rfl rfl rfl rfl rfl (Eff.append1 rfl ?_ fun _=>?_);exact pre_)|refine SpOp.eff0 rfl rfl rfl rfl (Eff.store rfl rfl ?_)|(refine SpOp.eff0 rfl rfl rfl rfl (Eff.storeE rfl ?_ ?_);exact pre_))
      rename_i ve
      refine Sn.ok ?_
      refine god2 ?_
      refine go ?_
      refine Ol.slc (r := false) (E := e_api_Task) (v := vl) (xs := t0 :: ts) 1 (by exact tk_) (by simp) ?_
      rw [show (t0 :: ts).drop 1 = ts from rfl, show e_api_Task.size = 12 from rfl, show Int.toNat 1 = 1 from rfl]
      refine go ?_
      have hnz : v.toNat ≠ w.toNat := fun h => hvw (by omega)
      have hrw : rd (d.hands.set v.toNat { rd d.hands v with q := q.drop m }) w = rd d.hands w := rd_set_ne hnz
      refine Cd.conv (H' := [slB false e_api_Task (slcV vl 1 12) ts, sl e_api_Event ve [⟨round, d.label, 2, w, t0.f_Id, v, (t0 :: ts).length⟩], cel c2 45 (tC t0), tkC t0 a, rel2 tkC ts qs, cel p 94 (deckL x d), sl ePtr x.vh x.bs, picksC x.pk (d.picks.next d.hands.length), cel c 45 (tC zT), rel2 handC x.bs (d.hands.set v.toNat { rd d.hands v with q := q.drop m })] ++ R) ?_ ?_
      · dsimp only [List.cons_append, List.nil_append]
        refine ents.cons (by exact tk_) (ents.cons (by exact tk_) (ents.cons (by exact tk_) (ents.cons (by exact tk_) (ents.cons (by exact tk_) (ents.cons (by exact tk_) (ents.cons (by exact tk_) (ents.cons (by exact tk_) (ents.cons (by exact tk_) (hands_put hv.1 z2 (by dsimp only; exact ent_))))))))))
      dsimp only [List.cons_append, List.nil_append]
      refine Cd.rel (R := handC) (l := x.bs) (q := d.hands.set v.toNat { rd d.hands v with q := q.drop m }) w (by exact tk_) (by rw [List.length_set]; exact hw) ?_
      rw [hrw]
      first | (with_reducible refine Cd.g ?_; refine Cd.pk (A := (handC (rd x.bs w) (rd d.hands w))) rfl (by exact tk_) fun z3 hz3 => ?_) | (with_reducible refine Ol.g ?_; refine Ol.pk (A := (handC (rd x.bs w) (rd d.hands w))) rfl (by exact tk_) fun z3 hz3 => ?_) | (with_reducible refine Dn.g ?_; refine Dn.pk (A := (handC (rd x.bs w) (rd d.hands w))) rfl (by exact tk_) fun z3 hz3 => ?_)
      dsimp only [List.cons_append, List.nil_append]
      rw [hq]
      have hpl : ∀ (h : Hand) (l : List AT), (pushAll h w l).room = h.room ∧ (pushAll h w l).held = h.held ∧ (pushAll h w l).full = h.full := by
        intro h l
        induction l generalizing h with
        | nil => exact ⟨rfl, rfl, rfl⟩
        | cons a l ih => exact ⟨(ih _).1, (ih _).2.1, (ih _).2.2⟩
      refine Cd.loop (fun j : Nat => j ≤ ts.length) (fun j => ts.length - j) (fun j => [(0, .pointer (some ⟨p, 0, none⟩)), (1, .int .i64 w), (2, .int .i64 round), (6, .pointer (some ⟨c, 0, none⟩)), (9, ve), (10, .pointer (some ⟨rd x.bs w, 0, none⟩)), (11, .pointer (some ⟨c2, 0, none⟩)), (108, slcV vl 1 12), (109, .int .i64 ts.length), (110, .int .i64 j)])
        (fun j => cel (rd x.bs w) 99 (handL z3.1 z3.2 (rd d.hands w).full) :: ringC z3.1 (rd d.hands w).room (pushAll (rd d.hands w) w (qs.take j)).q :: tkC z3.2 (rd d.hands w).held :: rel2H handC w.toNat x.bs (d.hands.set v.toNat { rd d.hands v with q := q.drop m }) :: slB false e_api_Task (slcV vl 1 12) ts :: sl e_api_Event ve [⟨round, d.label, 2, w, t0.f_Id, v, (t0 :: ts).length⟩] :: cel c2 45 (tC t0) :: tkC t0 a :: rel2 tkC ts qs :: cel p 94 (deckL x d) :: sl ePtr x.vh x.bs :: picksC x.pk (d.picks.next d.hands.length) :: cel c 45 (tC zT) :: R) 0 (by omega) ?_ ?_ ?_
      · repeat(first|exact Env.le_nil _|(refine Env.le_cons rfl ?_ ?_;first|rfl|(simp;done)|exact congrArg _ (by omega)|rotate_left))
      · rw [List.take_zero, show (pushAll (rd d.hands w) w []).q = [] from hq]
        exact ent_
      rintro j hj
      refine go ?_
      refine Cd.condP rfl (fun h2 => ?_) (fun h2 => ?_)
      · have hj2 : j < qs.length := by omega
        refine Cd.conv (Tk.more (p := rel2_pers (fun _ _ => inferInstance) _ _) (A := rel2 tkC ts qs) (rel2_gotI (i := j) (by omega) (by omega)) (by exact tk_)) ?_
        refine go ?_;repeat((with_reducible refine Ol.g ?_);(first|refine Ol.eff rfl rfl rfl (Eff.alloc fun _=>?_)|refine Ol.eff rfl rfl rfl (Eff.box fun _=>?_)|refine Ol.eff0 rfl rfl (Eff.store rfl rfl ?_)|refine Ol.eff rfl rfl rfl (Eff.bslice rfl rfl fun _=>?_)|(refine Ol.eff0 rfl rfl (Eff.storeE rfl ?_ ?_);exact pre_)|(refine Ol.eff rfl rfl rfl (Eff.append1 rfl ?_ fun _=>?_);exact pre_));refine go ?_)
        refine Cd.conv (Tk.more (A := tkC (rd ts j) (rd qs j)) (tkC_W w) (by exact tk_)) ?_
        refine Cd.draw2 [[], [0], [0, 1], [0, 1, 2], [], [0, 1, 2, 3, 4]] [5] [] (td := [(0, .fresh), (1, .fresh), (2, .fresh), (3, .fresh), (4, .fresh)]) mixed (by kernel_rfl) (by kernel_rfl) (by decide) (by decide) rfl (by kernel_rfl) ?_
        refine god2 ?_
        refine Sg2.one (td := []) rfl (by kernel_rfl) fun F5_ => ?_
        dsimp only [List.cons_append, List.nil_append]
        refine SpOp.eff rfl rfl rfl rfl rfl (Eff.call (R := ?_) (ring_Push z3.1 (rd d.hands w).room (pushAll (rd d.hands w) w (qs.take j)).q (tW (rd ts j) w) (setW (rd qs j) w)) rfl ?_ ?_)
        rotate_left
        · exact tkl_
        rintro _ -
        dsimp only [List.cons_append, List.nil_append]
        refine Sn.ok ?_
        refine god2 ?_
        refine go ?_
        refine Dn.round (j + 1) (by omega) (by omega) ?_ ?_
        · repeat(first|exact Env.le_nil _|(refine Env.le_cons rfl ?_ ?_;first|rfl|(simp;done)|exact congrArg _ (by omega)|rotate_left))
        · rw [take_rd hj2]
          rw [show (pushAll (rd d.hands w) w (qs.take j ++ [rd qs j])).q = if (pushAll (rd d.hands w) w (qs.take j)).q.length < (rd d.hands w).room then (pushAll (rd d.hands w) w (qs.take j)).q ++ [setW (rd qs j) w] else (pushAll (rd d.hands w) w (qs.take j)).q from by
            rw [← (hpl (rd d.hands w) (qs.take j)).1]; unfold pushAll; rw [List.foldl_append]; rfl]
          exact ent_
      refine go ?_
      have hjl : j = ts.length := by omega
      have hqs : qs.take j = qs := by rw [hjl, hl3]; exact List.take_length
      rw [hqs]
      have hpk : ∀ i, rd d.pickN.hands i = rd d.hands i := fun i => rfl
      have hln : (d.hand v).q.length = q.length + 1 := by unfold DK.hand; rw [hqv]; simp
      have hst : d.pickN.steal w v round = ((d.pickN.setH v { rd d.hands v with q := q.drop m }).setH w (pushAll (rd d.hands w) w qs)).foundIn w round a [⟨round, d.label, 2, w, t0.f_Id, v, (t0 :: ts).length⟩] := by
        unfold DK.steal
        have e1 : d.pickN.hand v = rd d.hands v := rfl
        have e2 : d.pickN.hand w = rd d.hands w := rfl
        have e3 : d.pickN.take (a :: q).length = m + 1 := hm
        dsimp only
        rw [e1, e2, hqv, e3, List.drop_succ_cons, List.take_succ_cons, hqm]
        unfold stealE
        rw [show rd (a :: qs) 0 = a from rfl, ← eid, show ((a :: qs).length : Int) = ((t0 :: ts).length : Int) from by simp [hl3]]
        rfl
      refine Dn.weak (by repeat(first|exact Env.le_nil _|(refine Env.le_cons rfl ?_ ?_;first|rfl|(simp;done)|exact congrArg _ (by omega)|rotate_left))) ?_ (kk ⟨(t0, a, ve, [⟨round, d.label, 2, w, t0.f_Id, v, (t0 :: ts).length⟩], (d.pickN.setH v { rd d.hands v with q := q.drop m }).setH w (pushAll (rd d.hands w) w qs)), ?_, by simp⟩)
      · dsimp only
        refine ents.cons (by exact tk_) (ents.cons (by exact tk_) (ents.cons (by exact tk_) (ents.cons (by exact tk_) ?_)))
        refine deckH_put (d := d.pickN.setH v { rd d.hands v with q := q.drop m }) ⟨by unfold DK.setH DK.pickN; simp [hd.1], hd.2⟩ hw.1 z3 ?_
        rw [(hpl _ _).1, (hpl _ _).2.1, (hpl _ _).2.2]
        refine (show ents _ (cel p 94 (deckL x d) :: sl ePtr x.vh x.bs :: cel (rd x.bs w) 99 (handL z3.1 z3.2 (rd d.hands w).full) :: ringC z3.1 (rd d.hands w).room (pushAll (rd d.hands w) w qs).q :: tkC z3.2 (rd d.hands w).held :: rel2H handC w.toNat x.bs (d.hands.set v.toNat { rd d.hands v with q := q.drop m }) :: picksC x.pk (d.picks.next d.hands.length) :: R) from ?_)
        exact ent_
      · dsimp only
        rw [← hst, e, hvv, if_neg h]
    · refine Cd.cond_f rfl ?_
      refine go ?_
      refine Dn.weak (by repeat(first|exact Env.le_nil _|(refine Env.le_cons rfl ?_ ?_;first|rfl|(simp;done)|exact congrArg _ (by omega)|rotate_left))) ?_ (kk ⟨(t, (a :: q).getLastD zA, .slice none 0 0, [], d.setH w { d.hand w with q := (a :: q).dropLast }), ?_, by simp⟩)
      · dsimp only
        refine ents.cons (by exact tk_) (ents.cons (by exact tk_) (ents.cons (by exact tk_) (ents.cons (by exact tk_) ?_)))
        exact deckH_put hd hw.1 z (by dsimp only [DK.hand]; exact ent_)
      · dsimp only
        unfold DK.find DK.hand; rw [hb, hq]
  rintro ⟨⟨t1, a1, ve, es, d1⟩, hf, he⟩
  dsimp only at hf he ⊢
  rw [← hf]
  refine go ?_;repeat((with_reducible refine Ol.g ?_);(first|refine Ol.eff rfl rfl rfl (Eff.alloc fun _=>?_)|refine Ol.eff rfl rfl rfl (Eff.box fun _=>?_)|refine Ol.eff0 rfl rfl (Eff.store rfl rfl ?_)|refine Ol.eff rfl rfl rfl (Eff.bslice rfl rfl fun _=>?_)|(refine Ol.eff0 rfl rfl (Eff.storeE rfl ?_ ?_);exact pre_)|(refine Ol.eff rfl rfl rfl (Eff.append1 rfl ?_ fun _=>?_);exact pre_));refine go ?_)
  refine Ol.conv (Tk.more (A := tkC t1 a1) (tkC_W w) (by exact tk_)) ?_
  with_reducible refine Ol.g ?_
  refine Ol.eff rfl rfl rfl (Eff.call (R := ?_) (deck_Hold p x d1 w (tW t1 w) (setW a1 w)) rfl ?_ ?_)
  rotate_left
  · exact tkl_
  rintro _ -
  dsimp only [List.cons_append, List.nil_append]
  refine go ?_
  first | (with_reducible refine Cd.g ?_; refine Cd.pk (A := (deckH p x (d1.hold w (setW a1 w)))) rfl (by exact tk_) fun u hd2 => ?_) | (with_reducible refine Ol.g ?_; refine Ol.pk (A := (deckH p x (d1.hold w (setW a1 w)))) rfl (by exact tk_) fun u hd2 => ?_) | (with_reducible refine Dn.g ?_; refine Dn.pk (A := (deckH p x (d1.hold w (setW a1 w)))) rfl (by exact tk_) fun u hd2 => ?_)
  dsimp only [List.cons_append, List.nil_append]
  refine Cd.forget 7 rfl ?_
  refine Cd.drawL (l := [_, _, _, _, _, _, _, _, _, _]) (z := _) [[], [], [], [], [], [2, 3, 4], [2, 3, 4, 5], [1, 2, 3, 4, 5, 6], [0, 1, 2, 3, 4, 5, 6, 7], [0, 1, 2, 3, 4, 5, 6, 7, 8]] [5, 6, 7, 8] [] (td := [(0, .fresh), (1, .fresh), (2, .fresh), (3, .fresh), (4, .fresh)]) rfl mixed (by kernel_rfl) (by kernel_rfl) (by kernel_rfl) (by decide) (by decide) rfl (by kernel_rfl) ?_
  refine god2 ?_
  refine Sg2.one (td := [(0, .old), (1, .old)]) rfl (by kernel_rfl) fun F5_ => ?_
  dsimp only [List.cons_append, List.nil_append]
  refine SpOp.eff rfl rfl rfl rfl rfl (Eff.call (R := ?_) (deck_event p x (d1.hold w (setW a1 w)) round 1 (tW t1 w) (setW a1 w)) rfl ?_ ?_)
  rotate_left
  · exact tkl_
  rintro _ -
  dsimp only [List.cons_append, List.nil_append]
  refine Sn.ok ?_
  rw [hold_label]
  refine god2 ?_
  refine Sg2.one (td := [(0, .old), (1, .old)]) rfl (by kernel_rfl) fun F6_ => ?_
  dsimp only [List.cons_append, List.nil_append]
  (with_reducible first|refine SpOp.eff rfl rfl rfl rfl rfl (Eff.x (Qx.build rfl) ?_)|refine SpOp.eff rfl rfl rfl rfl rfl (Eff.alloc fun _=>?_)|refine SpOp.eff rfl rfl rfl rfl rfl (Eff.box fun _=>?_)|refine SpOp.eff rfl rfl rfl rfl rfl (Eff.bslice rfl rfl fun _=>?_)|(refine SpOp.eff rfl rfl rfl rfl rfl (Eff.append1 rfl ?_ fun _=>?_);exact pre_)|refine SpOp.eff0 rfl rfl rfl rfl (Eff.store rfl rfl ?_)|(refine SpOp.eff0 rfl rfl rfl rfl (Eff.storeE rfl ?_ ?_);exact pre_))
  refine Sn.ok ?_
  refine god2 ?_
  refine Sg2.one (td := [(0, .old)]) rfl (by kernel_rfl) fun F7_ => ?_
  dsimp only [List.cons_append, List.nil_append]
  (with_reducible first|refine SpOp.eff rfl rfl rfl rfl rfl (Eff.x (Qx.build rfl) ?_)|refine SpOp.eff rfl rfl rfl rfl rfl (Eff.alloc fun _=>?_)|refine SpOp.eff rfl rfl rfl rfl rfl (Eff.box fun _=>?_)|refine SpOp.eff rfl rfl rfl rfl rfl (Eff.bslice rfl rfl fun _=>?_)|(refine SpOp.eff rfl rfl rfl rfl rfl (Eff.append1 rfl ?_ fun _=>?_);exact pre_)|refine SpOp.eff0 rfl rfl rfl rfl (Eff.store rfl rfl ?_)|(refine SpOp.eff0 rfl rfl rfl rfl (Eff.storeE rfl ?_ ?_);exact pre_))
  rename_i ve2
  refine Sn.ok ?_
  refine god2 ?_
  refine Sg2.one (td := [(9, .fresh)]) rfl (by kernel_rfl) fun F8_ => ?_
  dsimp only [List.cons_append, List.nil_append]
  (with_reducible first|refine SpOp.eff rfl rfl rfl rfl rfl (Eff.x (Qx.build rfl) ?_)|refine SpOp.eff rfl rfl rfl rfl rfl (Eff.alloc fun _=>?_)|refine SpOp.eff rfl rfl rfl rfl rfl (Eff.box fun _=>?_)|refine SpOp.eff rfl rfl rfl rfl rfl (Eff.bslice rfl rfl fun _=>?_)|(refine SpOp.eff rfl rfl rfl rfl rfl (Eff.append1 rfl ?_ fun _=>?_);exact pre_)|refine SpOp.eff0 rfl rfl rfl rfl (Eff.store rfl rfl ?_)|(refine SpOp.eff0 rfl rfl rfl rfl (Eff.storeE rfl ?_ ?_);exact pre_))
  refine Sn.ok ?_
  refine god2 ?_
  refine go ?_
  refine Dn.retC2 rfl rfl trivial rfl rfl fun w' hs => ⟨(tW t1 w, ve2), rfl, trivial, hs.conv ?_⟩
  unfold DK.foundIn
  exact ents.pk () hd2 (by dsimp only [List.cons_append, List.nil_append]; exact ent_)
end Go.Proofs.YtihmbmoeedojoaaGreat

