/- Contracts of functions of the program, proved in a small separation logic. Conditions: those that each theorem states. -/
import Derived.Test.YtihmbmoeedojoaaGreatRDeck2
import Derived.Test.YtihmbmoeedojoaaGreatDeck11
namespace Go.Proofs.YtihmbmoeedojoaaGreat
open Go Go.Sl
set_option maxHeartbeats 4000000
set_option maxRecDepth 100000
set_option linter.unusedVariables false
/-! the reference's deck over the same plain deck, queue and waiting list -/
abbrev hRQ (h : Hand) : Nat × List AT := (h.room, h.q)
abbrev hHF (h : Hand) : AT × Bool := (h.held, h.full)
abbrev hFu (h : Hand) : Bool := h.full
abbrev rgC (r : Nat) (z : Nat × List AT) : HProp := ring15C r z.1 z.2
def heldC (t : S_api_Task) (z : AT × Bool) : HProp := pk (fun a : AT => z.2 = true → a = z.1) (fun a => [tkC t a])
def enC (t : S_confidantref15_Entry) (z : QI) : HProp := pk (fun _ : Unit => t.f_Round = z.round) (fun _ => [tkC t.f_Task z.task])
def w15C (t : S_confidantref15_Waiting) (z : WT) : HProp := pk (fun _ : Unit => t.f_Future = z.fut) (fun _ => [tkC t.f_Task z.task])
instance (t : S_api_Task) (z : AT × Bool) : Pers (heldC t z) := Pers.ex fun _ => inferInstance
instance (t : S_confidantref15_Entry) (z : QI) : Pers (enC t z) := Pers.ex fun _ => inferInstance
instance (t : S_confidantref15_Waiting) (z : WT) : Pers (w15C t z) := Pers.ex fun _ => inferInstance
structure DY where
  vr : Value
  rs : List Nat
  vh : Value
  hts : List S_api_Task
  vb : Value
  vi : Value
  es : List S_confidantref15_Entry
  vp : Value
  wts : List S_confidantref15_Waiting
  pk : Nat
abbrev drL (y : DY) (d : DK) : List Value := [.int .i64 d.label, .int .i64 y.rs.length, .bool d.half, .int .i64 d.fuel, y.vr, y.vh, y.vb, y.vi, y.vp, .pointer (some ⟨y.pk, 0, none⟩)]
structure yOk (y : DY) (d : DK) (l : List QI) (ws : List WT) : Prop where
  rs : y.rs.length = d.hands.length
  hts : y.hts.length = d.hands.length
  h1 : 1 ≤ d.hands.length
  h8 : d.hands.length ≤ 8
  es : y.es.length = l.length
  lb : l.length ≤ 1048576
  wts : y.wts.length = ws.length
  wb : ws.length ≤ 1048576
abbrev partsR (p : Nat) (y : DY) (d : DK) (l : List QI) (ws : List WT) : List HProp := [cel p 59 (drL y d), sl ePtr y.vr y.rs, rel2 rgC y.rs (d.hands.map hRQ), sl e_api_Task y.vh y.hts, rel2 heldC y.hts (d.hands.map hHF), sl eBool y.vb (d.hands.map hFu), sl e_confidantref15_Entry y.vi y.es, rel2 enC y.es l, sl e_confidantref15_Waiting y.vp y.wts, rel2 w15C y.wts ws, picks15C true y.pk d.picks]
def deckR (p : Nat) (d : DK) (l : List QI) (ws : List WT) : HProp := pk (fun y : DY => yOk y d l ws) (fun y => partsR p y d l ws)
theorem rd_map {α β : Type} [Dfl α] [Dfl β] (f : α → β) {xs : List α} {i : Int} (h : 0 ≤ i ∧ i < xs.length) : rd (xs.map f) i = f (rd xs i) := by
  rw [rd_eq (by rw [List.length_map]; omega), rd_eq (by omega), List.getElem_map]
theorem map_set_same {α β : Type} [Dfl α] (f : α → β) {xs : List α} {i : Int} {y : α} (h : 0 ≤ i ∧ i < xs.length) (e : f y = f (rd xs i)) : (xs.set i.toNat y).map f = xs.map f := by
  rw [List.map_set, e, rd_eq (by omega), ← List.getElem_map f (h := by rw [List.length_map]; omega)]
  exact List.set_getElem_self _
theorem ents.relsame {α β : Type} [Dfl α] [Dfl β] {R : α → β → HProp} {l : List α} {q : List β} {i : Int} {y : β} {H H1 H2 L : List HProp} (h0 : 0 ≤ i) (h1 : i < q.length) (e : rd q i = y) (t : Tk H (R (rd l i) y) H1) (t2 : Tk H1 (rel2H R i.toNat l q) H2) (k : ents H2 L) : ents H (rel2 R l q :: L) := by
  subst e
  exact ents.relback h0 h1 t t2 k
-- FN (*confidant/confidantref24.Deck).worker
theorem deck24_worker (p : Nat) (y : DY) (d : DK) (w : Int) (hy : y.rs.length = d.hands.length) :
    Sp Tryz.prog 49 [.pointer (some ⟨p, 0, none⟩), .int .i64 w] [cel p 59 (drL y d)] (fun _ : Unit => True) (fun _ => .bool (d.hasB w)) (fun _ => [cel p 59 (drL y d)]) := by
  have e : d.hasB w = decide (0 ≤ w ∧ w < (y.rs.length : Int)) := by unfold DK.hasB; rw [hy]
  rw [e]
  refine Sp.intro (n := 15) Tryz.func49 rfl rfl fun w0 R => ?_
  dsimp only [List.cons_append, List.nil_append, envOf]
  refine go ?_
  by_cases h : (0 : Int) ≤ w
  · rw [decide_eq_true h]
    refine go ?_
    refine Dn.ret1 rfl rfl fun w' hs => ⟨(), by simp [h], trivial, hs⟩
  · rw [decide_eq_false h]
    refine go ?_
    refine Dn.ret1 rfl rfl fun w' hs => ⟨(), by simp [h], trivial, hs⟩
-- FN (*confidant/confidantref24.Deck).home
theorem deck24_home (p : Nat) (y : DY) (d : DK) (t : S_api_Task) (a : AT) (hy : y.rs.length = d.hands.length) :
    Sp Tryz.prog 58 [.pointer (some ⟨p, 0, none⟩), tV t] [cel p 59 (drL y d), tkC t a] (fun _ : Unit => True) (fun _ => .int .i64 (d.home a.worker)) (fun _ => [cel p 59 (drL y d)]) := by
  refine Sp.intro (n := 11) Tryz.func58 rfl rfl fun w0 R => ?_
  dsimp only [List.cons_append, List.nil_append, envOf]
  first | (with_reducible refine Cd.g ?_; refine Cd.know (fun w_ hw_ => tkC_ok (Tk.sat (A := (tkC t a)) (by exact tk_) hw_)) fun ha => ?_) | (with_reducible refine Ol.g ?_; refine Ol.know (fun w_ hw_ => tkC_ok (Tk.sat (A := (tkC t a)) (by exact tk_) hw_)) fun ha => ?_) | (with_reducible refine Dn.g ?_; refine Dn.know (fun w_ hw_ => tkC_ok (Tk.sat (A := (tkC t a)) (by exact tk_) hw_)) fun ha => ?_)
  have e1 : t.f_Worker = a.worker := congrArg AT.worker ha.1
  refine go ?_;repeat((with_reducible refine Ol.g ?_);(first|refine Ol.eff rfl rfl rfl (Eff.alloc fun _=>?_)|refine Ol.eff rfl rfl rfl (Eff.box fun _=>?_)|refine Ol.eff0 rfl rfl (Eff.store rfl rfl ?_)|refine Ol.eff rfl rfl rfl (Eff.bslice rfl rfl fun _=>?_)|(refine Ol.eff0 rfl rfl (Eff.storeE rfl ?_ ?_);exact pre_)|(refine Ol.eff rfl rfl rfl (Eff.append1 rfl ?_ fun _=>?_);exact pre_));refine go ?_)
  rename_i c
  with_reducible refine Ol.g ?_
  refine Ol.eff rfl rfl rfl (Eff.call (R := ?_) (deck24_worker p y d t.f_Worker hy) rfl ?_ ?_)
  rotate_left
  · exact tkl_
  rintro _ -
  dsimp only [List.cons_append, List.nil_append]
  rw [e1]
  cases hb : d.hasB a.worker with
  | false =>
    refine go ?_
    refine Dn.ret1 rfl rfl fun w' hs => ⟨(), by unfold DK.home; rw [hb], trivial, hs.conv (by exact ent_)⟩
  | true =>
    refine go ?_
    refine Dn.ret1 rfl rfl fun w' hs => ⟨(), by unfold DK.home; rw [hb], trivial, hs.conv (by exact ent_)⟩
-- FN (*confidant/confidantref24.Deck).event
theorem deck24_event (p : Nat) (y : DY) (d : DK) (round kind w id : Int) :
    Sp Tryz.prog 57 [.pointer (some ⟨p, 0, none⟩), .int .i64 round, .int .i64 kind, .int .i64 w, .int .i32 id] [cel p 59 (drL y d)] (fun _ : Unit => True) (fun _ => evV ⟨round, d.label, kind, w, id, 0, 0⟩) (fun _ => [cel p 59 (drL y d)]) := by
  refine Sp.intro (n := 20) Tryz.func57 rfl rfl fun w0 R => ?_
  dsimp only [List.cons_append, List.nil_append, envOf]
  refine go ?_;repeat((with_reducible refine Ol.g ?_);(first|refine Ol.eff rfl rfl rfl (Eff.alloc fun _=>?_)|refine Ol.eff rfl rfl rfl (Eff.box fun _=>?_)|refine Ol.eff0 rfl rfl (Eff.store rfl rfl ?_)|refine Ol.eff rfl rfl rfl (Eff.bslice rfl rfl fun _=>?_)|(refine Ol.eff0 rfl rfl (Eff.storeE rfl ?_ ?_);exact pre_)|(refine Ol.eff rfl rfl rfl (Eff.append1 rfl ?_ fun _=>?_);exact pre_));refine go ?_)
  rename_i c
  refine Dn.retC rfl rfl trivial fun w' hs => ⟨(), rfl, trivial, hs.conv (by exact ent_)⟩
-- FN (*confidant/confidantref24.Deck).Burn
theorem deck24_Burn (p : Nat) (d : DK) (l : List QI) (ws : List WT) (hf : 0 ≤ d.fuel ∧ d.fuel ≤ 9223372036854775807) :
    Sp Tryz.prog 18 [.pointer (some ⟨p, 0, none⟩)] [deckR p d l ws] (fun _ : Unit => True) (fun _ => .bool (decide (0 < d.fuel))) (fun _ => [deckR p (d.setF (if 0 < d.fuel then d.fuel - 1 else d.fuel)) l ws]) := by
  refine Sp.intro (n := 15) Tryz.func18 rfl rfl fun w0 R => ?_
  dsimp only [List.cons_append, List.nil_append, envOf]
  first | (with_reducible refine Cd.g ?_; refine Cd.pk (A := (deckR p d l ws)) rfl (by exact tk_) fun y hy => ?_) | (with_reducible refine Ol.g ?_; refine Ol.pk (A := (deckR p d l ws)) rfl (by exact tk_) fun y hy => ?_) | (with_reducible refine Dn.g ?_; refine Dn.pk (A := (deckR p d l ws)) rfl (by exact tk_) fun y hy => ?_)
  dsimp only [List.cons_append, List.nil_append]
  refine go ?_;repeat((with_reducible refine Ol.g ?_);(first|refine Ol.eff rfl rfl rfl (Eff.alloc fun _=>?_)|refine Ol.eff rfl rfl rfl (Eff.box fun _=>?_)|refine Ol.eff0 rfl rfl (Eff.store rfl rfl ?_)|refine Ol.eff rfl rfl rfl (Eff.bslice rfl rfl fun _=>?_)|(refine Ol.eff0 rfl rfl (Eff.storeE rfl ?_ ?_);exact pre_)|(refine Ol.eff rfl rfl rfl (Eff.append1 rfl ?_ fun _=>?_);exact pre_));refine go ?_)
  refine Cd.condP rfl (fun h => ?_) (fun h => ?_)
  · refine go ?_;repeat((with_reducible refine Ol.g ?_);(first|refine Ol.eff rfl rfl rfl (Eff.alloc fun _=>?_)|refine Ol.eff rfl rfl rfl (Eff.box fun _=>?_)|refine Ol.eff0 rfl rfl (Eff.store rfl rfl ?_)|refine Ol.eff rfl rfl rfl (Eff.bslice rfl rfl fun _=>?_)|(refine Ol.eff0 rfl rfl (Eff.storeE rfl ?_ ?_);exact pre_)|(refine Ol.eff rfl rfl rfl (Eff.append1 rfl ?_ fun _=>?_);exact pre_));refine go ?_)
    refine Dn.ret1 rfl rfl fun w' hs => ⟨(), by rw [decide_eq_false (by omega)], trivial, hs.conv ?_⟩
    rw [if_neg (by omega)]
    exact ents.pk y hy (by dsimp only [DK.setF, List.cons_append, List.nil_append]; exact ent_)
  · refine go ?_;repeat((with_reducible refine Ol.g ?_);(first|refine Ol.eff rfl rfl rfl (Eff.alloc fun _=>?_)|refine Ol.eff rfl rfl rfl (Eff.box fun _=>?_)|refine Ol.eff0 rfl rfl (Eff.store rfl rfl ?_)|refine Ol.eff rfl rfl rfl (Eff.bslice rfl rfl fun _=>?_)|(refine Ol.eff0 rfl rfl (Eff.storeE rfl ?_ ?_);exact pre_)|(refine Ol.eff rfl rfl rfl (Eff.append1 rfl ?_ fun _=>?_);exact pre_));refine go ?_)
    refine Dn.ret1 rfl rfl fun w' hs => ⟨(), by rw [decide_eq_true (by omega)], trivial, hs.conv ?_⟩
    rw [if_pos (by omega)]
    exact ents.pk y ⟨hy.rs, hy.hts, hy.h1, hy.h8, hy.es, hy.lb, hy.wts, hy.wb⟩ (by dsimp only [DK.setF, List.cons_append, List.nil_append]; exact ent_)
theorem deckR_q {p : Nat} {y : DY} {d : DK} {l : List QI} {ws : List WT} (hy : yOk y d l ws) {w : Int} (hw : 0 ≤ w ∧ w < (d.hands.length : Int)) {q : List AT} {H L : List HProp}
    (k : ents H (cel p 59 (drL y d) :: sl ePtr y.vr y.rs :: ring15C (rd y.rs w) (rd d.hands w).room q :: rel2H rgC w.toNat y.rs (d.hands.map hRQ) :: sl e_api_Task y.vh y.hts :: rel2 heldC y.hts (d.hands.map hHF) :: sl eBool y.vb (d.hands.map hFu) :: sl e_confidantref15_Entry y.vi y.es :: rel2 enC y.es l :: sl e_confidantref15_Waiting y.vp y.wts :: rel2 w15C y.wts ws :: picks15C true y.pk d.picks :: L)) :
    ents H (deckR p (d.setH w { d.hand w with q := q }) l ws :: L) := by
  refine ents.trans k (ents.pk y ⟨by unfold DK.setH; simp [hy.rs], by unfold DK.setH; simp [hy.hts], by unfold DK.setH; simp [hy.h1], by unfold DK.setH; simp [hy.h8], hy.es, hy.lb, hy.wts, hy.wb⟩ ?_)
  dsimp only [DK.setH, List.cons_append, List.nil_append]
  rw [map_set_same hHF hw (y := { d.hand w with q := q }) rfl, map_set_same hFu hw (y := { d.hand w with q := q }) rfl, List.map_set, show hRQ { d.hand w with q := q } = ((rd d.hands w).room, q) from rfl]
  exact ents.cons (by exact tk_) (ents.cons (by exact tk_) (ents.relput hw.1 (by exact tk_) (by exact tk_) (by exact ent_)))
-- FN (*confidant/confidantref24.Deck).Push
theorem deck24_Push (p : Nat) (d : DK) (l : List QI) (ws : List WT) (w : Int) (t : S_api_Task) (a : AT) :
    Sp Tryz.prog 13 [.pointer (some ⟨p, 0, none⟩), .int .i64 w, tV t] [deckR p d l ws, tkC t a] (fun _ : Unit => True) (fun _ => .bool (d.pushB w)) (fun _ => [deckR p (d.push w a) l ws]) := by
  refine Sp.intro (n := 21) Tryz.func13 rfl rfl fun w0 R => ?_
  dsimp only [List.cons_append, List.nil_append, envOf]
  first | (with_reducible refine Cd.g ?_; refine Cd.pk (A := (deckR p d l ws)) rfl (by exact tk_) fun y hy => ?_) | (with_reducible refine Ol.g ?_; refine Ol.pk (A := (deckR p d l ws)) rfl (by exact tk_) fun y hy => ?_) | (with_reducible refine Dn.g ?_; refine Dn.pk (A := (deckR p d l ws)) rfl (by exact tk_) fun y hy => ?_)
  dsimp only [List.cons_append, List.nil_append]
  refine go ?_;repeat((with_reducible refine Ol.g ?_);(first|refine Ol.eff rfl rfl rfl (Eff.alloc fun _=>?_)|refine Ol.eff rfl rfl rfl (Eff.box fun _=>?_)|refine Ol.eff0 rfl rfl (Eff.store rfl rfl ?_)|refine Ol.eff rfl rfl rfl (Eff.bslice rfl rfl fun _=>?_)|(refine Ol.eff0 rfl rfl (Eff.storeE rfl ?_ ?_);exact pre_)|(refine Ol.eff rfl rfl rfl (Eff.append1 rfl ?_ fun _=>?_);exact pre_));refine go ?_)
  rename_i c
  cases hb : d.hasB w with
  | false =>
    refine Cd.drawL (l := [_, _, _, _, _, _, _, _, _, _, _, _, _, _]) (z := _) [[], [], [0, 1], [0, 1, 2], [0, 1, 2, 3], [0, 1, 2, 3, 4], [0, 1, 2, 3, 4, 5], [0, 1, 2, 3, 4, 5, 6], [0, 1, 2, 3], [0, 1, 2, 3, 4, 5, 6, 7, 8], [0, 1, 2, 3, 4, 5, 6, 7, 8, 9], [0, 1, 2, 3], [0, 1, 2, 3, 4, 5, 6, 7, 8, 9, 10, 11], [0, 1, 2, 3, 4, 5, 6, 7, 8, 9, 10, 11, 12]] [2, 12] [] (td := [(0, .fresh), (1, .fresh)]) rfl mixed (by kernel_rfl) (by kernel_rfl) (by kernel_rfl) (by decide) (by decide) rfl (by kernel_rfl) ?_
    refine god2 ?_
    refine Sg2.one (td := [(3, .fresh), (4, .fresh), (5, .fresh), (6, .fresh), (7, .fresh), (8, .fresh), (9, .fresh), (10, .fresh), (11, .fresh)]) rfl (by kernel_rfl) fun F2_ => ?_
    dsimp only [List.cons_append, List.nil_append]
    refine SpOp.eff rfl rfl rfl rfl rfl (Eff.call (R := ?_) (deck24_worker p y d w hy.rs) rfl ?_ ?_)
    rotate_left
    · exact tkl_
    rintro _ -
    dsimp only [List.cons_append, List.nil_append]
    refine Sn.ok ?_
    rw [hb]
    refine god2 ?_
    refine Sg2.one (td := [(13, .fresh)]) rfl (by kernel_rfl) fun F12_ => ?_
    dsimp only [List.cons_append, List.nil_append]
    refine SpOp.skip rfl rfl rfl rfl (Sn.ok ?_)
    refine god2 ?_
    refine go ?_
    refine Dn.ret1 rfl rfl fun w' hs => ⟨(), by unfold DK.pushB; rw [hb]; rfl, trivial, hs.conv ?_⟩
    unfold DK.push; rw [hb]
    exact ents.pk y hy (by dsimp only [List.cons_append, List.nil_append]; exact ent_)
  | true =>
    have hw : 0 ≤ w ∧ w < (d.hands.length : Int) := of_decide_eq_true hb
    have hrs := hy.rs
    refine Cd.rel (R := rgC) (l := y.rs) (q := d.hands.map hRQ) w (by exact tk_) (by simpa using hw) ?_
    rw [rd_map hRQ hw]
    refine Cd.drawL (l := [_, _, _, _, _, _, _, _, _, _, _, _, _, _]) (z := _) [[], [], [0, 1], [0, 1, 2], [0, 1, 2, 3], [0, 1, 2, 3, 4], [0, 1, 2, 3, 4, 5], [0, 1, 2, 3, 4, 5, 6], [0, 1, 2, 3], [0, 1, 2, 3, 4, 5, 6, 7, 8], [0, 1, 2, 3, 4, 5, 6, 7, 8, 9], [0, 1, 2, 3], [0, 1, 2, 3, 4, 5, 6, 7, 8, 9, 10, 11], [0, 1, 2, 3, 4, 5, 6, 7, 8, 9, 10, 11, 12]] [2, 12] [] (td := [(0, .fresh), (1, .fresh)]) rfl mixed (by kernel_rfl) (by kernel_rfl) (by kernel_rfl) (by decide) (by decide) rfl (by kernel_rfl) ?_
    refine god2 ?_
    refine Sg2.one (td := [(3, .fresh), (4, .fresh), (5, .fresh), (6, .fresh), (7, .fresh), (8, .fresh), (9, .fresh), (10, .fresh), (11, .fresh)]) rfl (by kernel_rfl) fun F2_ => ?_
    dsimp only [List.cons_append, List.nil_append]
    refine SpOp.eff rfl rfl rfl rfl rfl (Eff.call (R := ?_) (deck24_worker p y d w hy.rs) rfl ?_ ?_)
    rotate_left
    · exact tkl_
    rintro _ -
    dsimp only [List.cons_append, List.nil_append]
    refine Sn.ok ?_
    rw [hb]
    refine god2 ?_
    refine Sg2.one (td := [(13, .fresh)]) rfl (by kernel_rfl) fun F12_ => ?_
    dsimp only [List.cons_append, List.nil_append]
    refine SpOp.eff rfl rfl rfl rfl rfl (Eff.call (R := ?_) (ring15_Push (rd y.rs w) (rd d.hands w).room (rd d.hands w).q t a) rfl ?_ ?_)
    rotate_left
    · exact tkl_
    rintro _ -
    dsimp only [List.cons_append, List.nil_append]
    refine Sn.ok ?_
    refine god2 ?_
    refine go ?_
    refine Dn.ret1 rfl rfl fun w' hs => ⟨(), by unfold DK.pushB; rw [hb]; rfl, trivial, hs.conv ?_⟩
    unfold DK.push; rw [hb]
    refine deckR_q hy hw (q := if (rd d.hands w).q.length < (rd d.hands w).room then (rd d.hands w).q ++ [a] else (rd d.hands w).q) ?_
    exact ent_
end Go.Proofs.YtihmbmoeedojoaaGreat

