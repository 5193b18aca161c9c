/- Contracts of functions of the program, proved in a small separation logic. Conditions: those that each theorem states. -/
import Derived.Test.YtihmbmoeedojoaaGreatDeck3
namespace Go.Proofs.YtihmbmoeedojoaaGreat
open Go Go.Sl
set_option maxHeartbeats 4000000
set_option maxRecDepth 100000
set_option linter.unusedVariables false
/-! A label's deck: its hands, who comes, who waits, its picks. -/
structure Hand where
  room : Nat
  q : List AT
  held : AT
  full : Bool
instance : Dfl Hand := ⟨⟨0, [], zA, false⟩⟩
abbrev handL (r : Nat) (t : S_api_Task) (full : Bool) : List Value := [.pointer (some ⟨r, 0, none⟩), .int .i32 t.f_Id, .int .i64 t.f_Func, .int .i64 t.f_Pc, t.f_Stack, .int .i32 t.f_Vars0, .int .i32 t.f_Vars1, .int .i32 t.f_Vars2, .int .i32 t.f_Vars3, .int .i64 t.f_Label, .int .i64 t.f_Clear, .int .u32 t.f_Privs, .int .i64 t.f_Worker, .bool full]
def handC (b : Nat) (h : Hand) : HProp := pk (fun x : Nat × S_api_Task => True) (fun x => [cel b 99 (handL x.1 x.2 h.full), ringC x.1 h.room h.q, tkC x.2 h.held])
/-- What stays as it is. -/
structure DX where
  vh : Value
  bs : List Nat
  qp : Nat
  pp : Nat
  pk : Nat
structure DK where
  label : Int
  half : Bool
  fuel : Int
  hands : List Hand
  picks : PS
abbrev deckL (x : DX) (d : DK) : List Value := [.int .i64 d.label, .bool d.half, .int .i64 d.fuel, x.vh, .pointer (some ⟨x.qp, 0, none⟩), .pointer (some ⟨x.pp, 0, none⟩), .func (.func 40) #[.pointer (some ⟨x.pk, 0, none⟩)] #[]]
/-- The deck but for who comes and who waits. -/
def deckH (p : Nat) (x : DX) (d : DK) : HProp := pk (fun _ : Unit => d.hands.length = x.bs.length ∧ 1 ≤ x.bs.length ∧ x.bs.length ≤ 8) (fun _ => [cel p 94 (deckL x d), sl ePtr x.vh x.bs, rel2 handC x.bs d.hands, picksC x.pk d.picks])
abbrev dOk (x : DX) (d : DK) : Prop := d.hands.length = x.bs.length ∧ 1 ≤ x.bs.length ∧ x.bs.length ≤ 8
def DK.hasB (d : DK) (w : Int) : Bool := decide (0 ≤ w ∧ w < (d.hands.length : Int))
def DK.hand (d : DK) (w : Int) : Hand := rd d.hands w
def DK.setH (d : DK) (w : Int) (h : Hand) : DK := { d with hands := d.hands.set w.toNat h }
/-- The deck's parts, when its hand is looked at. -/
abbrev partsH (p : Nat) (x : DX) (d : DK) : List HProp := [cel p 94 (deckL x d), sl ePtr x.vh x.bs, rel2 handC x.bs d.hands, picksC x.pk d.picks]
theorem deckH_put {p : Nat} {x : DX} {d : DK} {w : Int} {h : Hand} {H L : List HProp} (hd : dOk x d) (hw : 0 ≤ w) (z : Nat × S_api_Task)
    (k : ents H (cel p 94 (deckL x d) :: sl ePtr x.vh x.bs :: cel (rd x.bs w) 99 (handL z.1 z.2 h.full) :: ringC z.1 h.room h.q :: tkC z.2 h.held :: rel2H handC w.toNat x.bs d.hands :: picksC x.pk d.picks :: L)) :
    ents H (deckH p x (d.setH w h) :: L) := by
  refine ents.trans k ?_
  refine ents.trans (ents.pk (p := fun _ : Nat × S_api_Task => True) (L := fun y => [cel (rd x.bs w) 99 (handL y.1 y.2 h.full), ringC y.1 h.room h.q, tkC y.2 h.held]) (R := cel p 94 (deckL x d) :: sl ePtr x.vh x.bs :: rel2H handC w.toNat x.bs d.hands :: picksC x.pk d.picks :: L) z trivial (by dsimp only [List.cons_append, List.nil_append]; exact ent_)) ?_
  refine ents.pk () ⟨by unfold DK.setH; simp [hd.1], hd.2⟩ ?_
  dsimp only [DK.setH, List.cons_append, List.nil_append]
  refine (show ents (handC (rd x.bs w) h :: cel p 94 (deckL x d) :: sl ePtr x.vh x.bs :: rel2H handC w.toNat x.bs d.hands :: picksC x.pk d.picks :: L) _ from ?_)
  exact ents.cons (by exact tk_) (ents.cons (by exact tk_) (ents.relput hw (Tk.hd _ _) (Tk.hd _ _) (by exact ent_)))
theorem deckH_back {p : Nat} {x : DX} {d : DK} {w : Int} {H L : List HProp} (hd : dOk x d) (hw : 0 ≤ w ∧ w < (d.hands.length : Int)) (z : Nat × S_api_Task)
    (k : ents H (cel p 94 (deckL x d) :: sl ePtr x.vh x.bs :: cel (rd x.bs w) 99 (handL z.1 z.2 (rd d.hands w).full) :: ringC z.1 (rd d.hands w).room (rd d.hands w).q :: tkC z.2 (rd d.hands w).held :: rel2H handC w.toNat x.bs d.hands :: picksC x.pk d.picks :: L)) :
    ents H (deckH p x d :: L) := by
  have := deckH_put (h := rd d.hands w) hd hw.1 z k
  rwa [show d.setH w (rd d.hands w) = d from by
    unfold DK.setH; rw [show d.hands.set w.toNat (rd d.hands w) = d.hands from by rw [rd_eq (by omega)]; exact List.set_getElem_self _]] at this
-- FN (*confidant/deck.Deck).has
theorem deck_has (p : Nat) (x : DX) (d : DK) (w : Int) (hd : dOk x d) :
    Sp Tryz.prog 47 [.pointer (some ⟨p, 0, none⟩), .int .i64 w] [cel p 94 (deckL x d), sl ePtr x.vh x.bs] (fun _ : Unit => True) (fun _ => .bool (d.hasB w)) (fun _ => [cel p 94 (deckL x d), sl ePtr x.vh x.bs]) := by
  have e : d.hasB w = decide (0 ≤ w ∧ w < (x.bs.length : Int)) := by unfold DK.hasB; rw [hd.1]
  rw [e]
  refine Sp.intro (n := 16) Tryz.func47 rfl rfl fun w0 R => ?_
  dsimp only [List.cons_append, List.nil_append, envOf]
  refine go ?_
  by_cases h : (0 : Int) ≤ w
  · rw [decide_eq_true h]
    refine go ?_
    refine Dn.ret1 rfl rfl fun w hs => ⟨(), by simp [h], trivial, hs⟩
  · rw [decide_eq_false h]
    refine go ?_
    refine Dn.ret1 rfl rfl fun w hs => ⟨(), by simp [h], trivial, hs⟩
-- FN confidant/deck.copied
theorem deck_copy (t : S_api_Task) (a : AT) :
    Sp Tryz.prog 75 [tV t] [tkC t a] (fun _ : S_api_Task => True) (fun u => tV u) (fun u => [tkC u a]) := by
  refine Sp.intro (n := 11) Tryz.func75 rfl rfl fun w0 R => ?_
  dsimp only [List.cons_append, List.nil_append, envOf]
  first | (with_reducible refine Cd.g ?_; refine Cd.pk (A := (tkC t a)) rfl (by exact tk_) fun x hx => ?_) | (with_reducible refine Ol.g ?_; refine Ol.pk (A := (tkC t a)) rfl (by exact tk_) fun x hx => ?_) | (with_reducible refine Dn.g ?_; refine Dn.pk (A := (tkC t a)) rfl (by exact tk_) fun x hx => ?_)
  dsimp only [List.cons_append, List.nil_append]
  have ho := hx.2; have hpc := ho.pc; have e1 : t.f_Pc = a.pc := congrArg AT.pc hx.1
  refine go ?_;repeat((with_reducible refine Ol.g ?_);(first|refine Ol.eff rfl rfl rfl (Eff.alloc fun _=>?_)|refine Ol.eff rfl rfl rfl (Eff.box fun _=>?_)|refine Ol.eff0 rfl rfl (Eff.store rfl rfl ?_)|refine Ol.eff rfl rfl rfl (Eff.bslice rfl rfl fun _=>?_)|(refine Ol.eff0 rfl rfl (Eff.storeE rfl ?_ ?_);exact pre_)|(refine Ol.eff rfl rfl rfl (Eff.append1 rfl ?_ fun _=>?_);exact pre_));refine go ?_)
  with_reducible refine Ol.g ?_
  refine Ol.eff rfl rfl rfl (Eff.call (R := ?_) (task_Drop0 true t a.stack ho.st (by rw [e1]; unfold in64; omega)) rfl ?_ ?_)
  rotate_left
  · exact tkl_
  rintro v' -
  dsimp only [List.cons_append, List.nil_append]
  first | (with_reducible refine Cd.g ?_; refine Cd.know (fun w_ hw_ => one_sl (Tk.sat (A := (sl (eInt .i32) v' _)) (by exact tk_) hw_)) fun o1 => ?_) | (with_reducible refine Ol.g ?_; refine Ol.know (fun w_ hw_ => one_sl (Tk.sat (A := (sl (eInt .i32) v' _)) (by exact tk_) hw_)) fun o1 => ?_) | (with_reducible refine Dn.g ?_; refine Dn.know (fun w_ hw_ => one_sl (Tk.sat (A := (sl (eInt .i32) v' _)) (by exact tk_) hw_)) fun o1 => ?_)
  first | (with_reducible refine Cd.g ?_; refine Cd.share (A := (sl (eInt .i32) v' _)) (by exact tk_) ?_) | (with_reducible refine Ol.g ?_; refine Ol.share (A := (sl (eInt .i32) v' _)) (by exact tk_) ?_) | (with_reducible refine Dn.g ?_; refine Dn.share (A := (sl (eInt .i32) v' _)) (by exact tk_) ?_)
  refine go ?_;repeat((with_reducible refine Ol.g ?_);(first|refine Ol.eff rfl rfl rfl (Eff.alloc fun _=>?_)|refine Ol.eff rfl rfl rfl (Eff.box fun _=>?_)|refine Ol.eff0 rfl rfl (Eff.store rfl rfl ?_)|refine Ol.eff rfl rfl rfl (Eff.bslice rfl rfl fun _=>?_)|(refine Ol.eff0 rfl rfl (Eff.storeE rfl ?_ ?_);exact pre_)|(refine Ol.eff rfl rfl rfl (Eff.append1 rfl ?_ fun _=>?_);exact pre_));refine go ?_)
  refine Dn.retC rfl rfl trivial fun w hs => ⟨⟨t.f_Id, t.f_Func, t.f_Pc, v', t.f_Vars0, t.f_Vars1, t.f_Vars2, t.f_Vars3, t.f_Label, t.f_Clear, t.f_Privs, t.f_Worker⟩, rfl, trivial, hs.conv (ents.pk () ⟨hx.1, hx.2⟩ (show ents _ (slB true (eInt .i32) v' a.stack :: R) from by exact ent_))⟩
def DK.pushB (d : DK) (w : Int) : Bool := d.hasB w && decide ((d.hand w).q.length < (d.hand w).room)
def Hand.push (h : Hand) (a : AT) : Hand := { h with q := if h.q.length < h.room then h.q ++ [a] else h.q }
def DK.push (d : DK) (w : Int) (a : AT) : DK := match d.hasB w with | true => d.setH w ((d.hand w).push a) | false => d
-- FN (*confidant/deck.Deck).Push
theorem deck_Push (p : Nat) (x : DX) (d : DK) (w : Int) (t : S_api_Task) (a : AT) :
    Sp Tryz.prog 12 [.pointer (some ⟨p, 0, none⟩), .int .i64 w, tV t] [deckH p x d, tkC t a] (fun _ : Unit => True) (fun _ => .bool (d.pushB w)) (fun _ => [deckH p x (d.push w a)]) := by
  refine Sp.intro (n := 24) Tryz.func12 rfl rfl fun w0 R => ?_
  dsimp only [List.cons_append, List.nil_append, envOf]
  first | (with_reducible refine Cd.g ?_; refine Cd.pk (A := (deckH p x d)) rfl (by exact tk_) fun u hd => ?_) | (with_reducible refine Ol.g ?_; refine Ol.pk (A := (deckH p x d)) rfl (by exact tk_) fun u hd => ?_) | (with_reducible refine Dn.g ?_; refine Dn.pk (A := (deckH p x d)) rfl (by exact tk_) fun u hd => ?_)
  dsimp only [List.cons_append, List.nil_append]
  refine go ?_;repeat((with_reducible refine Ol.g ?_);(first|refine Ol.eff rfl rfl rfl (Eff.alloc fun _=>?_)|refine Ol.eff rfl rfl rfl (Eff.box fun _=>?_)|refine Ol.eff0 rfl rfl (Eff.store rfl rfl ?_)|refine Ol.eff rfl rfl rfl (Eff.bslice rfl rfl fun _=>?_)|(refine Ol.eff0 rfl rfl (Eff.storeE rfl ?_ ?_);exact pre_)|(refine Ol.eff rfl rfl rfl (Eff.append1 rfl ?_ fun _=>?_);exact pre_));refine go ?_)
  rename_i c
  cases hb : d.hasB w with
  | false =>
    refine Cd.drawL (l := [_, _, _, _, _, _, _, _, _, _, _, _, _, _, _, _, _]) (z := _) [[], [], [0, 1], [0, 1, 2], [0, 1, 2, 3], [0, 1, 2, 3, 4], [0, 1, 2, 3, 4, 5], [0, 1, 2, 3, 4, 5, 6], [0, 1, 2, 3], [0, 1, 2, 3, 4, 5, 6, 7, 8], [0, 1, 2, 3, 4, 5, 6, 7, 8, 9], [0, 1, 2, 3, 4, 5, 6, 7, 8, 9, 10], [0, 1, 2, 3, 4, 5, 6, 7, 8, 9, 10, 11], [0, 1, 2, 3, 4, 5, 6, 7, 8, 9, 10, 11, 12], [0, 1, 2, 3], [0, 1, 2, 3, 4, 5, 6, 7, 8, 9, 10, 11, 12, 13, 14], [0, 1, 2, 3, 4, 5, 6, 7, 8, 9, 10, 11, 12, 13, 14, 15]] [2, 15] [] (td := [(0, .fresh), (1, .fresh)]) rfl mixed (by kernel_rfl) (by kernel_rfl) (by kernel_rfl) (by decide) (by decide) rfl (by kernel_rfl) ?_
    refine god2 ?_
    refine Sg2.one (td := [(3, .fresh), (4, .fresh), (5, .fresh), (6, .fresh), (7, .fresh), (8, .fresh), (9, .fresh), (10, .fresh), (11, .fresh), (12, .fresh), (13, .fresh), (14, .fresh)]) rfl (by kernel_rfl) fun F2_ => ?_
    dsimp only [List.cons_append, List.nil_append]
    refine SpOp.eff rfl rfl rfl rfl rfl (Eff.call (R := ?_) (deck_has p x d w hd) rfl ?_ ?_)
    rotate_left
    · exact tkl_
    rintro _ -
    dsimp only [List.cons_append, List.nil_append]
    refine Sn.ok ?_
    rw [hb]
    refine god2 ?_
    refine Sg2.one (td := [(16, .fresh)]) rfl (by kernel_rfl) fun F15_ => ?_
    dsimp only [List.cons_append, List.nil_append]
    refine SpOp.skip rfl rfl rfl rfl (Sn.ok ?_)
    refine god2 ?_
    refine go ?_
    refine Dn.ret1 rfl rfl fun w hs => ⟨(), by unfold DK.pushB; rw [hb]; rfl, trivial, hs.conv ?_⟩
    unfold DK.push; rw [hb]
    exact ents.pk () hd (by exact ent_)
  | true =>
    have hw : 0 ≤ w ∧ w < (d.hands.length : Int) := of_decide_eq_true hb
    have hw2 : w < (x.bs.length : Int) := by rw [← hd.1]; exact hw.2
    refine Cd.rel (R := handC) (l := x.bs) (q := d.hands) w (by exact tk_) hw ?_
    first | (with_reducible refine Cd.g ?_; refine Cd.pk (A := (handC (rd x.bs w) (rd d.hands w))) rfl (by exact tk_) fun z hz => ?_) | (with_reducible refine Ol.g ?_; refine Ol.pk (A := (handC (rd x.bs w) (rd d.hands w))) rfl (by exact tk_) fun z hz => ?_) | (with_reducible refine Dn.g ?_; refine Dn.pk (A := (handC (rd x.bs w) (rd d.hands w))) rfl (by exact tk_) fun z hz => ?_)
    dsimp only [List.cons_append, List.nil_append]
    refine Cd.drawL (l := [_, _, _, _, _, _, _, _, _, _, _, _, _, _, _, _, _]) (z := _) [[], [], [0, 1], [0, 1, 2], [0, 1, 2, 3], [0, 1, 2, 3, 4], [0, 1, 2, 3, 4, 5], [0, 1, 2, 3, 4, 5, 6], [0, 1, 2, 3], [0, 1, 2, 3, 4, 5, 6, 7, 8], [0, 1, 2, 3, 4, 5, 6, 7, 8, 9], [0, 1, 2, 3, 4, 5, 6, 7, 8, 9, 10], [0, 1, 2, 3, 4, 5, 6, 7, 8, 9, 10, 11], [0, 1, 2, 3, 4, 5, 6, 7, 8, 9, 10, 11, 12], [0, 1, 2, 3], [0, 1, 2, 3, 4, 5, 6, 7, 8, 9, 10, 11, 12, 13, 14], [0, 1, 2, 3, 4, 5, 6, 7, 8, 9, 10, 11, 12, 13, 14, 15]] [2, 15] [] (td := [(0, .fresh), (1, .fresh)]) rfl mixed (by kernel_rfl) (by kernel_rfl) (by kernel_rfl) (by decide) (by decide) rfl (by kernel_rfl) ?_
    refine god2 ?_
    refine Sg2.one (td := [(3, .fresh), (4, .fresh), (5, .fresh), (6, .fresh), (7, .fresh), (8, .fresh), (9, .fresh), (10, .fresh), (11, .fresh), (12, .fresh), (13, .fresh), (14, .fresh)]) rfl (by kernel_rfl) fun F2_ => ?_
    dsimp only [List.cons_append, List.nil_append]
    refine SpOp.eff rfl rfl rfl rfl rfl (Eff.call (R := ?_) (deck_has p x d w hd) rfl ?_ ?_)
    rotate_left
    · exact tkl_
    rintro _ -
    dsimp only [List.cons_append, List.nil_append]
    refine Sn.ok ?_
    rw [hb]
    refine god2 ?_
    refine Sg2.one (td := [(16, .fresh)]) rfl (by kernel_rfl) fun F15_ => ?_
    dsimp only [List.cons_append, List.nil_append]
    refine SpOp.eff rfl rfl rfl rfl rfl (Eff.call (R := ?_) (ring_Push z.1 (rd d.hands w).room (rd d.hands w).q t a) rfl ?_ ?_)
    rotate_left
    · exact tkl_
    rintro _ -
    dsimp only [List.cons_append, List.nil_append]
    refine Sn.ok ?_
    refine god2 ?_
    refine go ?_
    refine Dn.ret1 rfl rfl fun w hs => ⟨(), by unfold DK.pushB; rw [hb]; rfl, trivial, hs.conv ?_⟩
    unfold DK.push; rw [hb]
    exact deckH_put hd hw.1 z (by dsimp only [Hand.push, DK.hand]; exact ent_)
-- FN (*confidant/deck.Deck).Room
def DK.room (d : DK) (w : Int) : Int := match d.hasB w with | true => ((d.hand w).room : Int) - (d.hand w).q.length | false => 0
theorem deck_Room (p : Nat) (x : DX) (d : DK) (w : Int) :
    Sp Tryz.prog 35 [.pointer (some ⟨p, 0, none⟩), .int .i64 w] [deckH p x d] (fun _ : Unit => True) (fun _ => .int .i64 (d.room w)) (fun _ => [deckH p x d]) := by
  refine Sp.intro (n := 32) Tryz.func35 rfl rfl fun w0 R => ?_
  dsimp only [List.cons_append, List.nil_append, envOf]
  first | (with_reducible refine Cd.g ?_; refine Cd.pk (A := (deckH p x d)) rfl (by exact tk_) fun u hd => ?_) | (with_reducible refine Ol.g ?_; refine Ol.pk (A := (deckH p x d)) rfl (by exact tk_) fun u hd => ?_) | (with_reducible refine Dn.g ?_; refine Dn.pk (A := (deckH p x d)) rfl (by exact tk_) fun u hd => ?_)
  dsimp only [List.cons_append, List.nil_append]
  refine go ?_;repeat((with_reducible refine Ol.g ?_);(first|refine Ol.eff rfl rfl rfl (Eff.alloc fun _=>?_)|refine Ol.eff rfl rfl rfl (Eff.box fun _=>?_)|refine Ol.eff0 rfl rfl (Eff.store rfl rfl ?_)|refine Ol.eff rfl rfl rfl (Eff.bslice rfl rfl fun _=>?_)|(refine Ol.eff0 rfl rfl (Eff.storeE rfl ?_ ?_);exact pre_)|(refine Ol.eff rfl rfl rfl (Eff.append1 rfl ?_ fun _=>?_);exact pre_));refine go ?_)
  with_reducible refine Ol.g ?_
  refine Ol.eff rfl rfl rfl (Eff.call (R := ?_) (deck_has p x d w hd) rfl ?_ ?_)
  rotate_left
  · exact tkl_
  rintro _ -
  dsimp only [List.cons_append, List.nil_append]
  cases hb : d.hasB w with
  | false =>
    refine go ?_
    refine Dn.ret1 rfl rfl fun w hs => ⟨(), by unfold DK.room; rw [hb], trivial, hs.conv (ents.pk () hd (by exact ent_))⟩
  | true =>
    have hw : 0 ≤ w ∧ w < (d.hands.length : Int) := of_decide_eq_true hb
    have hw2 : w < (x.bs.length : Int) := by rw [← hd.1]; exact hw.2
    refine go ?_
    refine Cd.rel (R := handC) (l := x.bs) (q := d.hands) w (by exact tk_) hw ?_
    first | (with_reducible refine Cd.g ?_; refine Cd.pk (A := (handC (rd x.bs w) (rd d.hands w))) rfl (by exact tk_) fun z hz => ?_) | (with_reducible refine Ol.g ?_; refine Ol.pk (A := (handC (rd x.bs w) (rd d.hands w))) rfl (by exact tk_) fun z hz => ?_) | (with_reducible refine Dn.g ?_; refine Dn.pk (A := (handC (rd x.bs w) (rd d.hands w))) rfl (by exact tk_) fun z hz => ?_)
    dsimp only [List.cons_append, List.nil_append]
    refine Cd.drawL (l := [_, _, _, _, _, _, _, _, _, _, _, _, _, _, _, _, _, _, _, _, _, _, _]) (z := _) [[], [0], [0, 1], [0, 1, 2], [], [0, 1, 2, 3, 4], [0, 1, 2, 3, 4, 5], [0, 1, 2, 3, 4, 5, 6], [0, 1, 2, 3, 4, 5, 6, 7], [0, 1, 2, 3, 4, 5, 6, 7, 8], [0, 1, 2, 3, 4, 5, 6, 7, 8, 9], [], [11], [11, 12], [11, 12, 13], [], [11, 12, 13, 14, 15], [11, 12, 13, 14, 15, 16], [11, 12, 13, 14, 15, 16, 17], [11, 12, 13, 14, 15, 16, 17, 18], [11, 12, 13, 14, 15, 16, 17, 18, 19], [0, 1, 2, 3, 4, 5, 6, 7, 8, 9, 10, 11, 12, 13, 14, 15, 16, 17, 18, 19, 20], [0, 1, 2, 3, 4, 5, 6, 7, 8, 9, 10, 11, 12, 13, 14, 15, 16, 17, 18, 19, 20, 21]] [10, 21] [] (td := [(0, .fresh), (1, .fresh), (2, .fresh), (3, .fresh), (4, .fresh), (5, .fresh), (6, .fresh), (7, .fresh), (8, .fresh), (9, .fresh), (11, .fresh), (12, .fresh), (13, .fresh), (14, .fresh), (15, .fresh), (16, .fresh), (17, .fresh), (18, .fresh), (19, .fresh), (20, .fresh)]) rfl mixed (by kernel_rfl) (by kernel_rfl) (by kernel_rfl) (by decide) (by decide) rfl (by kernel_rfl) ?_
    refine god2 ?_
    refine Sg2.one (td := [(11, .old), (12, .old), (13, .old), (14, .old), (15, .old), (16, .old), (17, .old), (18, .old), (19, .old), (20, .old)]) rfl (by kernel_rfl) fun F10_ => ?_
    dsimp only [List.cons_append, List.nil_append]
    refine SpOp.eff rfl rfl rfl rfl rfl (Eff.call (R := ?_) (ring_RoomC z.1 (rd d.hands w).room (rd d.hands w).q) rfl ?_ ?_)
    rotate_left
    · exact tkl_
    rintro _ hr
    dsimp only [List.cons_append, List.nil_append]
    refine Sn.ok ?_
    refine god2 ?_
    refine Sg2.one (td := [(22, .fresh)]) rfl (by kernel_rfl) fun F21_ => ?_
    dsimp only [List.cons_append, List.nil_append]
    refine SpOp.eff rfl rfl rfl rfl rfl (Eff.call (R := ?_) (ring_LenC z.1 (rd d.hands w).room (rd d.hands w).q) rfl ?_ ?_)
    rotate_left
    · exact tkl_
    rintro _ -
    dsimp only [List.cons_append, List.nil_append]
    refine Sn.ok ?_
    refine god2 ?_
    refine go ?_
    refine Dn.ret1 rfl rfl fun w hs => ⟨(), by unfold DK.room; rw [hb]; rfl, trivial, hs.conv (deckH_back hd hw z (by exact ent_))⟩
-- FN (*confidant/deck.Deck).Drop
def DK.drop (d : DK) (w : Int) : DK := match d.hasB w with | true => d.setH w { d.hand w with held := zA, full := false } | false => d
theorem deck_Drop (p : Nat) (x : DX) (d : DK) (w : Int) :
    Sp Tryz.prog 31 [.pointer (some ⟨p, 0, none⟩), .int .i64 w] [deckH p x d] (fun _ : Unit => True) (fun _ => .tuple #[]) (fun _ => [deckH p x (d.drop w)]) := by
  refine Sp.intro (n := 26) Tryz.func31 rfl rfl fun w0 R => ?_
  dsimp only [List.cons_append, List.nil_append, envOf]
  first | (with_reducible refine Cd.g ?_; refine Cd.pk (A := (deckH p x d)) rfl (by exact tk_) fun u hd => ?_) | (with_reducible refine Ol.g ?_; refine Ol.pk (A := (deckH p x d)) rfl (by exact tk_) fun u hd => ?_) | (with_reducible refine Dn.g ?_; refine Dn.pk (A := (deckH p x d)) rfl (by exact tk_) fun u hd => ?_)
  dsimp only [List.cons_append, List.nil_append]
  refine go ?_;repeat((with_reducible refine Ol.g ?_);(first|refine Ol.eff rfl rfl rfl (Eff.alloc fun _=>?_)|refine Ol.eff rfl rfl rfl (Eff.box fun _=>?_)|refine Ol.eff0 rfl rfl (Eff.store rfl rfl ?_)|refine Ol.eff rfl rfl rfl (Eff.bslice rfl rfl fun _=>?_)|(refine Ol.eff0 rfl rfl (Eff.storeE rfl ?_ ?_);exact pre_)|(refine Ol.eff rfl rfl rfl (Eff.append1 rfl ?_ fun _=>?_);exact pre_));refine go ?_)
  with_reducible refine Ol.g ?_
  refine Ol.eff rfl rfl rfl (Eff.call (R := ?_) (deck_has p x d w hd) rfl ?_ ?_)
  rotate_left
  · exact tkl_
  rintro _ -
  dsimp only [List.cons_append, List.nil_append]
  cases hb : d.hasB w with
  | false =>
    refine go ?_
    refine Dn.fin0 rfl fun w hs => ⟨(), rfl, trivial, hs.conv ?_⟩
    unfold DK.drop; rw [hb]
    exact ents.pk () hd (by exact ent_)
  | true =>
    have hw : 0 ≤ w ∧ w < (d.hands.length : Int) := of_decide_eq_true hb
    have hw2 : w < (x.bs.length : Int) := by rw [← hd.1]; exact hw.2
    refine go ?_
    refine Cd.rel (R := handC) (l := x.bs) (q := d.hands) w (by exact tk_) hw ?_
    first | (with_reducible refine Cd.g ?_; refine Cd.pk (A := (handC (rd x.bs w) (rd d.hands w))) rfl (by exact tk_) fun z hz => ?_) | (with_reducible refine Ol.g ?_; refine Ol.pk (A := (handC (rd x.bs w) (rd d.hands w))) rfl (by exact tk_) fun z hz => ?_) | (with_reducible refine Dn.g ?_; refine Dn.pk (A := (handC (rd x.bs w) (rd d.hands w))) rfl (by exact tk_) fun z hz => ?_)
    dsimp only [List.cons_append, List.nil_append]
    refine Cd.draw2 [[], [0], [0, 1], [0, 1, 2], [], [0, 1, 2, 3, 4], [0, 1, 2, 3, 4, 5], [], [7], [7, 8], [7, 8, 9], [], [7, 8, 9, 10, 11], [7, 8, 9, 10, 11, 12], [], [0, 1, 2, 3, 4, 5, 6, 7, 8, 9, 10, 11, 12, 13, 14], [0, 1, 2, 3, 4, 5, 6, 7, 8, 9, 10, 11, 12, 13, 14, 15], [0, 1, 2, 3, 4, 5, 6, 7, 8, 9, 10, 11, 12, 13, 14, 15, 16], [0, 1, 2, 3, 4, 5, 6, 7, 8, 9, 10, 11, 12, 13, 14, 15, 16, 17], [0, 1, 2, 3, 4, 5, 6, 7, 8, 9, 10, 11, 12, 13, 14, 15, 16, 17, 18], [0, 1, 2, 3, 4, 5, 6, 7, 8, 9, 10, 11, 12, 13, 14, 15, 16, 17, 18, 19]] [17, 20] [] (td := [(0, .fresh), (1, .fresh), (2, .fresh), (3, .fresh), (4, .fresh), (5, .fresh), (6, .fresh), (7, .fresh), (8, .fresh), (9, .fresh), (10, .fresh), (11, .fresh), (12, .fresh), (13, .fresh), (14, .fresh), (15, .fresh), (16, .fresh)]) mixed (by kernel_rfl) (by kernel_rfl) (by decide) (by decide) rfl (by kernel_rfl) ?_
    refine god2 ?_
    refine Sg2.one (td := [(18, .fresh), (19, .fresh)]) rfl (by kernel_rfl) fun F17_ => ?_
    dsimp only [List.cons_append, List.nil_append]
    (with_reducible first|refine SpOp.eff rfl rfl rfl rfl rfl (Eff.x (Qx.build rfl) ?_)|refine SpOp.eff rfl rfl rfl rfl rfl (Eff.alloc fun _=>?_)|refine SpOp.eff rfl rfl rfl rfl rfl (Eff.box fun _=>?_)|refine SpOp.eff rfl rfl rfl rfl rfl (Eff.bslice rfl rfl fun _=>?_)|(refine SpOp.eff rfl rfl rfl rfl rfl (Eff.append1 rfl ?_ fun _=>?_);exact pre_)|refine SpOp.eff0 rfl rfl rfl rfl (Eff.store rfl rfl ?_)|(refine SpOp.eff0 rfl rfl rfl rfl (Eff.storeE rfl ?_ ?_);exact pre_))
    refine Sn.ok ?_
    refine god2 ?_
    refine Sg2.one (td := []) rfl (by kernel_rfl) fun F20_ => ?_
    dsimp only [List.cons_append, List.nil_append]
    (with_reducible first|refine SpOp.eff rfl rfl rfl rfl rfl (Eff.x (Qx.build rfl) ?_)|refine SpOp.eff rfl rfl rfl rfl rfl (Eff.alloc fun _=>?_)|refine SpOp.eff rfl rfl rfl rfl rfl (Eff.box fun _=>?_)|refine SpOp.eff rfl rfl rfl rfl rfl (Eff.bslice rfl rfl fun _=>?_)|(refine SpOp.eff rfl rfl rfl rfl rfl (Eff.append1 rfl ?_ fun _=>?_);exact pre_)|refine SpOp.eff0 rfl rfl rfl rfl (Eff.store rfl rfl ?_)|(refine SpOp.eff0 rfl rfl rfl rfl (Eff.storeE rfl ?_ ?_);exact pre_))
    refine Sn.ok ?_
    refine god2 ?_
    refine go ?_
    refine Dn.fin0 rfl fun w hs => ⟨(), rfl, trivial, hs.conv ?_⟩
    unfold DK.drop; rw [hb]
    exact deckH_put hd hw.1 (z.1, zT) (by dsimp only [DK.hand]; exact ent_)
-- FN (*confidant/deck.Deck).Hold
def DK.hold (d : DK) (w : Int) (a : AT) : DK := match d.hasB w with | true => d.setH w { d.hand w with held := a, full := true } | false => d
theorem deck_Hold (p : Nat) (x : DX) (d : DK) (w : Int) (t : S_api_Task) (a : AT) :
    Sp Tryz.prog 30 [.pointer (some ⟨p, 0, none⟩), .int .i64 w, tV t] [deckH p x d, tkC t a] (fun _ : Unit => True) (fun _ => .tuple #[]) (fun _ => [deckH p x (d.hold w a)]) := by
  refine Sp.intro (n := 29) Tryz.func30 rfl rfl fun w0 R => ?_
  dsimp only [List.cons_append, List.nil_append, envOf]
  first | (with_reducible refine Cd.g ?_; refine Cd.pk (A := (deckH p x d)) rfl (by exact tk_) fun u hd => ?_) | (with_reducible refine Ol.g ?_; refine Ol.pk (A := (deckH p x d)) rfl (by exact tk_) fun u hd => ?_) | (with_reducible refine Dn.g ?_; refine Dn.pk (A := (deckH p x d)) rfl (by exact tk_) fun u hd => ?_)
  dsimp only [List.cons_append, List.nil_append]
  refine go ?_;repeat((with_reducible refine Ol.g ?_);(first|refine Ol.eff rfl rfl rfl (Eff.alloc fun _=>?_)|refine Ol.eff rfl rfl rfl (Eff.box fun _=>?_)|refine Ol.eff0 rfl rfl (Eff.store rfl rfl ?_)|refine Ol.eff rfl rfl rfl (Eff.bslice rfl rfl fun _=>?_)|(refine Ol.eff0 rfl rfl (Eff.storeE rfl ?_ ?_);exact pre_)|(refine Ol.eff rfl rfl rfl (Eff.append1 rfl ?_ fun _=>?_);exact pre_));refine go ?_)
  rename_i c
  with_reducible refine Ol.g ?_
  refine Ol.eff rfl rfl rfl (Eff.call (R := ?_) (deck_has p x d w hd) rfl ?_ ?_)
  rotate_left
  · exact tkl_
  rintro _ -
  dsimp only [List.cons_append, List.nil_append]
  cases hb : d.hasB w with
  | false =>
    refine go ?_
    refine Dn.fin0 rfl fun w hs => ⟨(), rfl, trivial, hs.conv ?_⟩
    unfold DK.hold; rw [hb]
    exact ents.pk () hd (by exact ent_)
  | true =>
    have hw : 0 ≤ w ∧ w < (d.hands.length : Int) := of_decide_eq_true hb
    have hw2 : w < (x.bs.length : Int) := by rw [← hd.1]; exact hw.2
    refine go ?_
    refine Cd.rel (R := handC) (l := x.bs) (q := d.hands) w (by exact tk_) hw ?_
    first | (with_reducible refine Cd.g ?_; refine Cd.pk (A := (handC (rd x.bs w) (rd d.hands w))) rfl (by exact tk_) fun z hz => ?_) | (with_reducible refine Ol.g ?_; refine Ol.pk (A := (handC (rd x.bs w) (rd d.hands w))) rfl (by exact tk_) fun z hz => ?_) | (with_reducible refine Dn.g ?_; refine Dn.pk (A := (handC (rd x.bs w) (rd d.hands w))) rfl (by exact tk_) fun z hz => ?_)
    dsimp only [List.cons_append, List.nil_append]
    refine Cd.draw2 [[], [0], [0, 1], [0, 1, 2], [], [0, 1, 2, 3, 4], [0, 1, 2, 3, 4, 5], [], [7], [7, 8], [7, 8, 9], [], [7, 8, 9, 10, 11], [7, 8, 9, 10, 11, 12], [], [14], [0, 1, 2, 3, 4, 5, 6, 7, 8, 9, 10, 11, 12, 13, 14, 15], [0, 1, 2, 3, 4, 5, 6, 7, 8, 9, 10, 11, 12, 13, 14, 15, 16], [0, 1, 2, 3, 4, 5, 6, 7, 8, 9, 10, 11, 12, 13, 14, 15, 16, 17], [0, 1, 2, 3, 4, 5, 6, 7, 8, 9, 10, 11, 12, 13, 14, 15, 16, 17, 18], [0, 1, 2, 3, 4, 5, 6, 7, 8, 9, 10, 11, 12, 13, 14, 15, 16, 17, 18, 19], [0, 1, 2, 3, 4, 5, 6, 7, 8, 9, 10, 11, 12, 13, 14, 15, 16, 17, 18, 19, 20]] [15, 18, 21] [] (td := [(0, .fresh), (1, .fresh), (2, .fresh), (3, .fresh), (4, .fresh), (5, .fresh), (6, .fresh), (7, .fresh), (8, .fresh), (9, .fresh), (10, .fresh), (11, .fresh), (12, .fresh), (13, .fresh), (14, .fresh)]) mixed (by kernel_rfl) (by kernel_rfl) (by decide) (by decide) rfl (by kernel_rfl) ?_
    refine god2 ?_
    refine Sg2.one (td := [(0, .old), (1, .old), (2, .old), (3, .old), (4, .old), (5, .old), (6, .old), (7, .old), (8, .old), (9, .old), (10, .old), (11, .old), (12, .old), (13, .old), (16, .fresh), (17, .fresh)]) rfl (by kernel_rfl) fun F15_ => ?_
    dsimp only [List.cons_append, List.nil_append]
    refine SpOp.eff rfl rfl rfl rfl rfl (Eff.call (R := ?_) (deck_copy t a) rfl ?_ ?_)
    rotate_left
    · exact tkl_
    rintro u -
    dsimp only [List.cons_append, List.nil_append]
    refine Sn.ok ?_
    refine god2 ?_
    refine Sg2.one (td := [(19, .fresh), (20, .fresh)]) rfl (by kernel_rfl) fun F18_ => ?_
    dsimp only [List.cons_append, List.nil_append]
    (with_reducible first|refine SpOp.eff rfl rfl rfl rfl rfl (Eff.x (Qx.build rfl) ?_)|refine SpOp.eff rfl rfl rfl rfl rfl (Eff.alloc fun _=>?_)|refine SpOp.eff rfl rfl rfl rfl rfl (Eff.box fun _=>?_)|refine SpOp.eff rfl rfl rfl rfl rfl (Eff.bslice rfl rfl fun _=>?_)|(refine SpOp.eff rfl rfl rfl rfl rfl (Eff.append1 rfl ?_ fun _=>?_);exact pre_)|refine SpOp.eff0 rfl rfl rfl rfl (Eff.store rfl rfl ?_)|(refine SpOp.eff0 rfl rfl rfl rfl (Eff.storeE rfl ?_ ?_);exact pre_))
    refine Sn.ok ?_
    refine god2 ?_
    refine Sg2.one (td := []) rfl (by kernel_rfl) fun F21_ => ?_
    dsimp only [List.cons_append, List.nil_append]
    (with_reducible first|refine SpOp.eff rfl rfl rfl rfl rfl (Eff.x (Qx.build rfl) ?_)|refine SpOp.eff rfl rfl rfl rfl rfl (Eff.alloc fun _=>?_)|refine SpOp.eff rfl rfl rfl rfl rfl (Eff.box fun _=>?_)|refine SpOp.eff rfl rfl rfl rfl rfl (Eff.bslice rfl rfl fun _=>?_)|(refine SpOp.eff rfl rfl rfl rfl rfl (Eff.append1 rfl ?_ fun _=>?_);exact pre_)|refine SpOp.eff0 rfl rfl rfl rfl (Eff.store rfl rfl ?_)|(refine SpOp.eff0 rfl rfl rfl rfl (Eff.storeE rfl ?_ ?_);exact pre_))
    refine Sn.ok ?_
    refine god2 ?_
    refine go ?_
    refine Dn.fin0 rfl fun w hs => ⟨(), rfl, trivial, hs.conv ?_⟩
    unfold DK.hold; rw [hb]
    exact deckH_put hd hw.1 (z.1, u) (by dsimp only [DK.hand]; exact ent_)
-- FN (*confidant/deck.Deck).Held
def DK.heldB (d : DK) (w : Int) : Bool := d.hasB w && (d.hand w).full
def DK.heldA (d : DK) (w : Int) : AT := match d.heldB w with | true => (d.hand w).held | false => zA
theorem deck_Held (p : Nat) (x : DX) (d : DK) (w : Int) :
    Sp Tryz.prog 33 [.pointer (some ⟨p, 0, none⟩), .int .i64 w] [deckH p x d] (fun _ : S_api_Task => True) (fun t => .tuple #[tV t, .bool (d.heldB w)]) (fun t => [deckH p x d, tkC t (d.heldA w)]) := by
  refine Sp.intro (n := 35) Tryz.func33 rfl rfl fun w0 R => ?_
  dsimp only [List.cons_append, List.nil_append, envOf]
  first | (with_reducible refine Cd.g ?_; refine Cd.pk (A := (deckH p x d)) rfl (by exact tk_) fun u hd => ?_) | (with_reducible refine Ol.g ?_; refine Ol.pk (A := (deckH p x d)) rfl (by exact tk_) fun u hd => ?_) | (with_reducible refine Dn.g ?_; refine Dn.pk (A := (deckH p x d)) rfl (by exact tk_) fun u hd => ?_)
  dsimp only [List.cons_append, List.nil_append]
  refine go ?_;repeat((with_reducible refine Ol.g ?_);(first|refine Ol.eff rfl rfl rfl (Eff.alloc fun _=>?_)|refine Ol.eff rfl rfl rfl (Eff.box fun _=>?_)|refine Ol.eff0 rfl rfl (Eff.store rfl rfl ?_)|refine Ol.eff rfl rfl rfl (Eff.bslice rfl rfl fun _=>?_)|(refine Ol.eff0 rfl rfl (Eff.storeE rfl ?_ ?_);exact pre_)|(refine Ol.eff rfl rfl rfl (Eff.append1 rfl ?_ fun _=>?_);exact pre_));refine go ?_)
  rename_i c
  with_reducible refine Ol.g ?_
  refine Ol.eff rfl rfl rfl (Eff.call (R := ?_) (deck_has p x d w hd) rfl ?_ ?_)
  rotate_left
  · exact tkl_
  rintro _ -
  dsimp only [List.cons_append, List.nil_append]
  cases hb : d.hasB w with
  | false =>
    have e1 : d.heldB w = false := by unfold DK.heldB; rw [hb]; rfl
    have e2 : d.heldA w = zA := by unfold DK.heldA; rw [e1]
    rw [e1, e2]
    refine go ?_;repeat((with_reducible refine Ol.g ?_);(first|refine Ol.eff rfl rfl rfl (Eff.alloc fun _=>?_)|refine Ol.eff rfl rfl rfl (Eff.box fun _=>?_)|refine Ol.eff0 rfl rfl (Eff.store rfl rfl ?_)|refine Ol.eff rfl rfl rfl (Eff.bslice rfl rfl fun _=>?_)|(refine Ol.eff0 rfl rfl (Eff.storeE rfl ?_ ?_);exact pre_)|(refine Ol.eff rfl rfl rfl (Eff.append1 rfl ?_ fun _=>?_);exact pre_));refine go ?_)
    refine Dn.retC1 rfl rfl trivial rfl fun w hs => ⟨zT, rfl, trivial, hs.conv (ents.pk () hd ?_)⟩
    exact ent_
  | true =>
    have hw : 0 ≤ w ∧ w < (d.hands.length : Int) := of_decide_eq_true hb
    have hw2 : w < (x.bs.length : Int) := by rw [← hd.1]; exact hw.2
    refine Ol.rel (R := handC) (l := x.bs) (q := d.hands) w (by exact tk_) hw ?_
    first | (with_reducible refine Cd.g ?_; refine Cd.pk (A := (handC (rd x.bs w) (rd d.hands w))) rfl (by exact tk_) fun z hz => ?_) | (with_reducible refine Ol.g ?_; refine Ol.pk (A := (handC (rd x.bs w) (rd d.hands w))) rfl (by exact tk_) fun z hz => ?_) | (with_reducible refine Dn.g ?_; refine Dn.pk (A := (handC (rd x.bs w) (rd d.hands w))) rfl (by exact tk_) fun z hz => ?_)
    dsimp only [List.cons_append, List.nil_append]
    cases hf : (rd d.hands w).full with
    | false =>
      have e1 : d.heldB w = false := by unfold DK.heldB DK.hand; rw [hb, hf]; rfl
      have e2 : d.heldA w = zA := by unfold DK.heldA; rw [e1]
      rw [e1, e2]
      refine go ?_;repeat((with_reducible refine Ol.g ?_);(first|refine Ol.eff rfl rfl rfl (Eff.alloc fun _=>?_)|refine Ol.eff rfl rfl rfl (Eff.box fun _=>?_)|refine Ol.eff0 rfl rfl (Eff.store rfl rfl ?_)|refine Ol.eff rfl rfl rfl (Eff.bslice rfl rfl fun _=>?_)|(refine Ol.eff0 rfl rfl (Eff.storeE rfl ?_ ?_);exact pre_)|(refine Ol.eff rfl rfl rfl (Eff.append1 rfl ?_ fun _=>?_);exact pre_));refine go ?_)
      refine Dn.retC1 rfl rfl trivial rfl fun w hs => ⟨zT, rfl, trivial, hs.conv (deckH_back hd hw z ?_)⟩
      rw [hf]
      exact ent_
    | true =>
      have e1 : d.heldB w = true := by unfold DK.heldB DK.hand; rw [hb, hf]; rfl
      have e2 : d.heldA w = (rd d.hands w).held := by unfold DK.heldA; rw [e1]; rfl
      rw [e1, e2]
      refine go ?_;repeat((with_reducible refine Ol.g ?_);(first|refine Ol.eff rfl rfl rfl (Eff.alloc fun _=>?_)|refine Ol.eff rfl rfl rfl (Eff.box fun _=>?_)|refine Ol.eff0 rfl rfl (Eff.store rfl rfl ?_)|refine Ol.eff rfl rfl rfl (Eff.bslice rfl rfl fun _=>?_)|(refine Ol.eff0 rfl rfl (Eff.storeE rfl ?_ ?_);exact pre_)|(refine Ol.eff rfl rfl rfl (Eff.append1 rfl ?_ fun _=>?_);exact pre_));refine go ?_)
      with_reducible refine Ol.g ?_
      refine Ol.eff rfl rfl rfl (Eff.call (R := ?_) (deck_copy z.2 (rd d.hands w).held) rfl ?_ ?_)
      rotate_left
      · exact tkl_
      rintro u -
      dsimp only [List.cons_append, List.nil_append]
      refine go ?_;repeat((with_reducible refine Ol.g ?_);(first|refine Ol.eff rfl rfl rfl (Eff.alloc fun _=>?_)|refine Ol.eff rfl rfl rfl (Eff.box fun _=>?_)|refine Ol.eff0 rfl rfl (Eff.store rfl rfl ?_)|refine Ol.eff rfl rfl rfl (Eff.bslice rfl rfl fun _=>?_)|(refine Ol.eff0 rfl rfl (Eff.storeE rfl ?_ ?_);exact pre_)|(refine Ol.eff rfl rfl rfl (Eff.append1 rfl ?_ fun _=>?_);exact pre_));refine go ?_)
      refine Dn.retC1 rfl rfl trivial rfl fun w hs => ⟨u, rfl, trivial, hs.conv (deckH_back hd hw z ?_)⟩
      rw [hf]
      exact ent_
end Go.Proofs.YtihmbmoeedojoaaGreat

