/- Contracts of functions of the program, proved in a small separation logic. Conditions: those that each theorem states. -/
import Derived.Test.YtihmbmoeedojoaaGreatRDeck3
namespace Go.Proofs.YtihmbmoeedojoaaGreat
open Go Go.Sl
set_option maxHeartbeats 4000000
set_option maxRecDepth 100000
set_option linter.unusedVariables false
theorem rgs_back {rs : List Nat} {hs : List Hand} {k : Int} (h : 0 ≤ k ∧ k < (hs.length : Int)) {H L : List HProp}
    (kk : ents H (ring15C (rd rs k) (rd hs k).room (rd hs k).q :: rel2H rgC k.toNat rs (hs.map hRQ) :: L)) : ents H (rel2 rgC rs (hs.map hRQ) :: L) :=
  kk.trans (ents.relsame h.1 (by simpa using h.2) (rd_map hRQ h) (Tk.hd _ _) (Tk.hd _ _) (ents.refl _))
theorem rgs_put {rs : List Nat} {hs : List Hand} {k : Int} {z : Hand} (h : 0 ≤ k) {H L : List HProp}
    (kk : ents H (ring15C (rd rs k) z.room z.q :: rel2H rgC k.toNat rs (hs.map hRQ) :: L)) : ents H (rel2 rgC rs ((hs.set k.toNat z).map hRQ) :: L) := by
  rw [List.map_set]
  exact kk.trans (ents.relput (y := hRQ z) h (Tk.hd _ _) (Tk.hd _ _) (ents.refl _))
theorem zip_set_far {α β : Type} (l : List α) (q : List β) (i : Nat) (x : α) (h : ¬ i < q.length) : (l.set i x).zip q = l.zip q := by
  induction l generalizing q i with
  | nil => simp
  | cons a l ih =>
    cases q with
    | nil => simp
    | cons b q =>
      cases i with
      | zero => simp at h
      | succ i => simp [ih q i (by simpa using h)]
theorem rel2H_set {α β : Type} [Dfl β] {R : α → β → HProp} {l : List α} {q : List β} {i : Nat} {x : α} : rel2H R i (l.set i x) q = rel2H R i l q := by
  unfold rel2H
  congr 1
  · funext _; simp
  · by_cases h : i < q.length
    · have e : q.set i (rd q i) = q := by rw [rd_eq (by simpa using h)]; exact List.set_getElem_self _
      have := zip_set l q i x (rd q i)
      rw [e] at this
      rw [this, List.map_set, List.eraseIdx_set_eq]
    · rw [zip_set_far l q i x h]
theorem rel2_setw {α β : Type} [Dfl α] [Dfl β] {R : α → β → HProp} {l : List α} {q : List β} {i : Int} {x : α} {y : β} (h : 0 ≤ i ∧ i < q.length) (hl : l.length = q.length) : went (star (R x y) (rel2 R l q)) (rel2 R (l.set i.toNat x) (q.set i.toNat y)) := by
  refine went.trans (went.star (went.refl _) ((went.of (rel2_take h.1 h.2)).trans (went.right _ _))) ?_
  rw [← rel2H_set (x := x)]
  have e : rd (l.set i.toNat x) i = x := by rw [rd_eq (by simp; omega)]; simp
  have := rel2_put (R := R) (l := l.set i.toNat x) (q := q) (i := i) (y := y) h.1
  rw [e] at this; exact went.of this
/-- Another pair in its place. -/
theorem ents.rel2set {α β : Type} [Dfl α] [Dfl β] {R : α → β → HProp} {l : List α} {q : List β} {i : Int} {x : α} {y : β} {H H1 H2 L : List HProp} (h : 0 ≤ i ∧ i < q.length) (hl : l.length = q.length) (t : Tk H (R x y) H1) (t2 : Tk H1 (rel2 R l q) H2) (k : ents H2 L) : ents H (rel2 R (l.set i.toNat x) (q.set i.toNat y) :: L) :=
  went.trans t (went.trans (went.star (went.refl _) t2) (went.trans (went.of (star_assoc' _ _ _)) (went.star (rel2_setw h hl) k)))
-- FN (*confidant/confidantref24.Deck).others
theorem deck24_others (p : Nat) (y : DY) (d : DK) (w : Int) (hy : y.rs.length = d.hands.length) (h8 : d.hands.length ≤ 8) :
    Sp Tryz.prog 71 [.pointer (some ⟨p, 0, none⟩), .int .i64 w] [cel p 59 (drL y d), sl ePtr y.vr y.rs, rel2 rgC y.rs (d.hands.map hRQ)] (fun _ : Unit => True) (fun _ => .bool (d.othersB w)) (fun _ => [cel p 59 (drL y d), sl ePtr y.vr y.rs, rel2 rgC y.rs (d.hands.map hRQ)]) := by
  refine Sp.intro (n := 31) Tryz.func71 rfl rfl fun w0 R => ?_
  dsimp only [List.cons_append, List.nil_append, envOf]
  refine go ?_
  refine Cd.loop (fun k : Nat => k ≤ y.rs.length ∧ ((ints k).any fun i => decide (i ≠ w) && decide (0 < (rd d.hands i).q.length)) = false) (fun k => y.rs.length - k) (fun k => [(0, .pointer (some ⟨p, 0, none⟩)), (1, .int .i64 w), (5, .int .i64 k)]) (fun k => cel p 59 (drL y d) :: sl ePtr y.vr y.rs :: rel2 rgC y.rs (d.hands.map hRQ) :: R) 0 ⟨by simp, rfl⟩ ?_ ?_ ?_
  · repeat(first|exact Env.le_nil _|(refine Env.le_cons rfl ?_ ?_;first|rfl|(simp;done)|exact congrArg _ (by omega)|rotate_left))
  · exact ent_
  rintro k ⟨hk, hf⟩
  refine go ?_
  refine Cd.condP rfl (fun h => ?_) (fun h => ?_)
  · have hk' : (0 : Int) ≤ k ∧ (k : Int) < d.hands.length := by omega
    have hk8 : (k : Int) < 8 := by omega
    refine Cd.rel (R := rgC) (l := y.rs) (q := d.hands.map hRQ) k (by exact tk_) (by simpa using hk') ?_
    rw [rd_map hRQ hk']
    refine Cd.conv (H' := ring15C (rd y.rs k) (rd d.hands k).room (rd d.hands k).q :: _) (ents.refl _) ?_
    first | (with_reducible refine Cd.g ?_; refine Cd.pk (A := (ring15C (rd y.rs k) (rd d.hands k).room (rd d.hands k).q)) rfl (by exact tk_) fun z hz => ?_) | (with_reducible refine Ol.g ?_; refine Ol.pk (A := (ring15C (rd y.rs k) (rd d.hands k).room (rd d.hands k).q)) rfl (by exact tk_) fun z hz => ?_) | (with_reducible refine Dn.g ?_; refine Dn.pk (A := (ring15C (rd y.rs k) (rd d.hands k).room (rd d.hands k).q)) rfl (by exact tk_) fun z hz => ?_)
    dsimp only [List.cons_append, List.nil_append]
    refine go ?_
    by_cases hw : (k : Int) = w
    · rw [decide_eq_false (show ¬ ((k : Int) ≠ w) from fun h => h hw)]
      refine go ?_
      refine Dn.round (k + 1) ⟨by omega, ?_⟩ (by omega) ?_ ?_
      · rw [ints_succ, List.any_append, hf]; simp [hw]
      · repeat(first|exact Env.le_nil _|(refine Env.le_cons rfl ?_ ?_;first|rfl|(simp;done)|exact congrArg _ (by omega)|rotate_left))
      · exact ents.cons (by exact tk_) (ents.cons (by exact tk_) (rgs_back hk' (ents.pk z hz (by dsimp only [List.cons_append, List.nil_append]; exact ent_))))
    · rw [decide_eq_true hw]
      refine go ?_
      refine Cd.condP rfl (fun h2 => ?_) (fun h2 => ?_)
      · refine go ?_
        refine Dn.ret1 rfl rfl fun w' hs => ⟨(), ?_, trivial, hs.conv (ents.cons (by exact tk_) (ents.cons (by exact tk_) (rgs_back hk' (ents.pk z hz (by dsimp only [List.cons_append, List.nil_append]; exact ent_)))))⟩
        have : d.othersB w = true := List.any_eq_true.2 ⟨k, ints_mem.2 hk', by simp [hw]; omega⟩
        rw [this]
      · refine go ?_
        refine Dn.round (k + 1) ⟨by omega, ?_⟩ (by omega) ?_ ?_
        · rw [ints_succ, List.any_append, hf]; simp; intro _; exact List.length_eq_zero_iff.1 (by omega)
        · repeat(first|exact Env.le_nil _|(refine Env.le_cons rfl ?_ ?_;first|rfl|(simp;done)|exact congrArg _ (by omega)|rotate_left))
        · exact ents.cons (by exact tk_) (ents.cons (by exact tk_) (rgs_back hk' (ents.pk z hz (by dsimp only [List.cons_append, List.nil_append]; exact ent_))))
  · refine go ?_
    refine Dn.ret1 rfl rfl fun w' hs => ⟨(), ?_, trivial, hs⟩
    have : k = d.hands.length := by omega
    unfold DK.othersB; rw [← this, hf]
theorem setF_ok {y : DY} {d : DK} {l : List QI} {ws : List WT} (h : yOk y d l ws) {w : Int} {z : Hand} {hts : List S_api_Task} (e : hts.length = y.hts.length) : yOk { y with hts := hts } (d.setH w z) l ws :=
  ⟨by unfold DK.setH; simp [h.rs], by unfold DK.setH; simp [e, h.hts], by unfold DK.setH; simp [h.h1], by unfold DK.setH; simp [h.h8], h.es, h.lb, h.wts, h.wb⟩
theorem ents.tkW {t : S_api_Task} {a : AT} {w : Int} {H H1 L : List HProp} (t1 : Tk H (tkC t a) H1) (k : ents (tkC (tW t w) (setW a w) :: H1) L) : ents H L :=
  went.trans t1 (went.trans (went.star (tkC_W w) (went.refl _)) k)
-- FN (*confidant/confidantref24.Deck).take
theorem deck24_take (p : Nat) (d : DK) (l : List QI) (ws : List WT) (w round : Int) (t : S_api_Task) (a : AT) (v : Value) (es : List S_api_Event) (hw : 0 ≤ w ∧ w < (d.hands.length : Int)) (hes : es.length ≤ 1000000) :
    Sp Tryz.prog 70 [.pointer (some ⟨p, 0, none⟩), .int .i64 w, .int .i64 round, tV t, v] [deckR p d l ws, tkC t a, sl e_api_Event v es] (fun _ : S_api_Task × Value => True) (fun y => .tuple #[tV y.1, y.2, .bool true])
      (fun y => [deckR p (d.hold w (setW a w)) l ws, tkC y.1 (setW a w), sl e_api_Event y.2 (es ++ [evOf d.label round 1 (setW a w)])]) := by
  refine Sp.intro (n := 38) Tryz.func70 rfl rfl fun w0 R => ?_
  dsimp only [List.cons_append, List.nil_append, envOf]
  first | (with_reducible refine Cd.g ?_; refine Cd.pk (A := (deckR p d l ws)) rfl (by exact tk_) fun y hy => ?_) | (with_reducible refine Ol.g ?_; refine Ol.pk (A := (deckR p d l ws)) rfl (by exact tk_) fun y hy => ?_) | (with_reducible refine Dn.g ?_; refine Dn.pk (A := (deckR p d l ws)) rfl (by exact tk_) fun y hy => ?_)
  dsimp only [List.cons_append, List.nil_append]
  have hht := hy.hts
  have hfl : (d.hands.map hFu).length = d.hands.length := List.length_map _
  first | (with_reducible refine Cd.g ?_; refine Cd.know (fun w_ hw_ => tkC_ok (Tk.sat (A := (tkC t a)) (by exact tk_) hw_)) fun ha => ?_) | (with_reducible refine Ol.g ?_; refine Ol.know (fun w_ hw_ => tkC_ok (Tk.sat (A := (tkC t a)) (by exact tk_) hw_)) fun ha => ?_) | (with_reducible refine Dn.g ?_; refine Dn.know (fun w_ hw_ => tkC_ok (Tk.sat (A := (tkC t a)) (by exact tk_) hw_)) fun ha => ?_)
  have e2 : t.f_Id = a.id := congrArg AT.id ha.1
  have hb : d.hasB w = true := decide_eq_true hw
  refine go ?_;repeat((with_reducible refine Ol.g ?_);(first|refine Ol.eff rfl rfl rfl (Eff.alloc fun _=>?_)|refine Ol.eff rfl rfl rfl (Eff.box fun _=>?_)|refine Ol.eff0 rfl rfl (Eff.store rfl rfl ?_)|refine Ol.eff rfl rfl rfl (Eff.bslice rfl rfl fun _=>?_)|(refine Ol.eff0 rfl rfl (Eff.storeE rfl ?_ ?_);exact pre_)|(refine Ol.eff rfl rfl rfl (Eff.append1 rfl ?_ fun _=>?_);exact pre_));refine go ?_)
  rename_i c c2
  refine Cd.draw2 [[], [0], [0, 1], [0, 1, 2], [], [], [5], [5, 6], [5, 6, 7], [], [], [0, 1, 2, 3, 4, 5, 6, 7, 8, 10], [0, 1, 2, 3, 4, 5, 6, 7, 8, 10, 11], [0, 1, 2, 3, 4, 5, 6, 7, 8, 9, 10, 11, 12], [0, 1, 2, 3, 4, 5, 6, 7, 8, 9, 10, 11, 12, 13]] [12, 14] [] (td := [(0, .fresh), (1, .fresh), (2, .fresh), (3, .fresh), (4, .fresh), (5, .fresh), (6, .fresh), (7, .fresh), (8, .fresh), (9, .fresh), (10, .fresh), (11, .fresh)]) mixed (by kernel_rfl) (by kernel_rfl) (by decide) (by decide) rfl (by kernel_rfl) ?_
  refine god2 ?_
  refine Sg2.one (td := [(9, .old), (13, .fresh)]) rfl (by kernel_rfl) fun F12_ => ?_
  dsimp only [List.cons_append, List.nil_append]
  (with_reducible first|refine SpOp.eff rfl rfl rfl rfl rfl (Eff.x (Qx.build rfl) ?_)|refine SpOp.eff rfl rfl rfl rfl rfl (Eff.alloc fun _=>?_)|refine SpOp.eff rfl rfl rfl rfl rfl (Eff.box fun _=>?_)|refine SpOp.eff rfl rfl rfl rfl rfl (Eff.bslice rfl rfl fun _=>?_)|(refine SpOp.eff rfl rfl rfl rfl rfl (Eff.append1 rfl ?_ fun _=>?_);exact pre_)|refine SpOp.eff0 rfl rfl rfl rfl (Eff.store rfl rfl ?_)|(refine SpOp.eff0 rfl rfl rfl rfl (Eff.storeE rfl ?_ ?_);exact pre_))
  refine Sn.ok ?_
  refine god2 ?_
  refine Sg2.one (td := []) rfl (by kernel_rfl) fun F14_ => ?_
  dsimp only [List.cons_append, List.nil_append]
  (with_reducible first|refine SpOp.eff rfl rfl rfl rfl rfl (Eff.x (Qx.build rfl) ?_)|refine SpOp.eff rfl rfl rfl rfl rfl (Eff.alloc fun _=>?_)|refine SpOp.eff rfl rfl rfl rfl rfl (Eff.box fun _=>?_)|refine SpOp.eff rfl rfl rfl rfl rfl (Eff.bslice rfl rfl fun _=>?_)|(refine SpOp.eff rfl rfl rfl rfl rfl (Eff.append1 rfl ?_ fun _=>?_);exact pre_)|refine SpOp.eff0 rfl rfl rfl rfl (Eff.store rfl rfl ?_)|(refine SpOp.eff0 rfl rfl rfl rfl (Eff.storeE rfl ?_ ?_);exact pre_))
  refine Sn.ok ?_
  refine god2 ?_
  refine go ?_
  refine Cd.forget 11 rfl ?_
  refine Cd.drawL (l := [_, _, _, _, _, _, _, _, _, _, _, _]) (z := _) [[], [], [], [], [], [], [5], [2, 3, 4, 5, 6], [2, 3, 4, 5, 6, 7], [1, 2, 3, 4, 5, 6, 7, 8], [0, 1, 2, 3, 4, 5, 6, 7, 8, 9], [0, 1, 2, 3, 4, 5, 6, 7, 8, 9, 10]] [7, 8, 9, 10] [] (td := [(0, .fresh), (1, .fresh), (2, .fresh), (3, .fresh), (4, .fresh), (5, .fresh), (6, .fresh)]) rfl mixed (by kernel_rfl) (by kernel_rfl) (by kernel_rfl) (by decide) (by decide) rfl (by kernel_rfl) ?_
  refine god2 ?_
  refine Sg2.one (td := [(0, .old), (1, .old)]) rfl (by kernel_rfl) fun F7_ => ?_
  dsimp only [List.cons_append, List.nil_append]
  refine SpOp.eff rfl rfl rfl rfl rfl (Eff.call (R := ?_) (deck24_event p y d round 1 w t.f_Id) rfl ?_ ?_)
  rotate_left
  · exact tkl_
  rintro _ -
  dsimp only [List.cons_append, List.nil_append]
  refine Sn.ok ?_
  refine god2 ?_
  refine Sg2.one (td := [(0, .old), (1, .old)]) rfl (by kernel_rfl) fun F8_ => ?_
  dsimp only [List.cons_append, List.nil_append]
  (with_reducible first|refine SpOp.eff rfl rfl rfl rfl rfl (Eff.x (Qx.build rfl) ?_)|refine SpOp.eff rfl rfl rfl rfl rfl (Eff.alloc fun _=>?_)|refine SpOp.eff rfl rfl rfl rfl rfl (Eff.box fun _=>?_)|refine SpOp.eff rfl rfl rfl rfl rfl (Eff.bslice rfl rfl fun _=>?_)|(refine SpOp.eff rfl rfl rfl rfl rfl (Eff.append1 rfl ?_ fun _=>?_);exact pre_)|refine SpOp.eff0 rfl rfl rfl rfl (Eff.store rfl rfl ?_)|(refine SpOp.eff0 rfl rfl rfl rfl (Eff.storeE rfl ?_ ?_);exact pre_))
  refine Sn.ok ?_
  refine god2 ?_
  refine Sg2.one (td := [(0, .old)]) rfl (by kernel_rfl) fun F9_ => ?_
  dsimp only [List.cons_append, List.nil_append]
  (with_reducible first|refine SpOp.eff rfl rfl rfl rfl rfl (Eff.x (Qx.build rfl) ?_)|refine SpOp.eff rfl rfl rfl rfl rfl (Eff.alloc fun _=>?_)|refine SpOp.eff rfl rfl rfl rfl rfl (Eff.box fun _=>?_)|refine SpOp.eff rfl rfl rfl rfl rfl (Eff.bslice rfl rfl fun _=>?_)|(refine SpOp.eff rfl rfl rfl rfl rfl (Eff.append1 rfl ?_ fun _=>?_);exact pre_)|refine SpOp.eff0 rfl rfl rfl rfl (Eff.store rfl rfl ?_)|(refine SpOp.eff0 rfl rfl rfl rfl (Eff.storeE rfl ?_ ?_);exact pre_))
  rename_i v2
  refine Sn.ok ?_
  refine god2 ?_
  refine Sg2.one (td := [(11, .fresh)]) rfl (by kernel_rfl) fun F10_ => ?_
  dsimp only [List.cons_append, List.nil_append]
  (with_reducible first|refine SpOp.eff rfl rfl rfl rfl rfl (Eff.x (Qx.build rfl) ?_)|refine SpOp.eff rfl rfl rfl rfl rfl (Eff.alloc fun _=>?_)|refine SpOp.eff rfl rfl rfl rfl rfl (Eff.box fun _=>?_)|refine SpOp.eff rfl rfl rfl rfl rfl (Eff.bslice rfl rfl fun _=>?_)|(refine SpOp.eff rfl rfl rfl rfl rfl (Eff.append1 rfl ?_ fun _=>?_);exact pre_)|refine SpOp.eff0 rfl rfl rfl rfl (Eff.store rfl rfl ?_)|(refine SpOp.eff0 rfl rfl rfl rfl (Eff.storeE rfl ?_ ?_);exact pre_))
  refine Sn.ok ?_
  refine god2 ?_
  refine go ?_;repeat((with_reducible refine Ol.g ?_);(first|refine Ol.eff rfl rfl rfl (Eff.alloc fun _=>?_)|refine Ol.eff rfl rfl rfl (Eff.box fun _=>?_)|refine Ol.eff0 rfl rfl (Eff.store rfl rfl ?_)|refine Ol.eff rfl rfl rfl (Eff.bslice rfl rfl fun _=>?_)|(refine Ol.eff0 rfl rfl (Eff.storeE rfl ?_ ?_);exact pre_)|(refine Ol.eff rfl rfl rfl (Eff.append1 rfl ?_ fun _=>?_);exact pre_));refine go ?_)
  refine Dn.retC2 rfl rfl trivial rfl rfl fun w' hs => ⟨(tW t w, v2), rfl, trivial, hs.conv ?_⟩
  rw [show (⟨round, d.label, 1, w, t.f_Id, 0, 0⟩ : S_api_Event) = evOf d.label round 1 (setW a w) from by rw [e2]; rfl]
  unfold DK.hold
  rw [hb]
  refine ents.tkW (t := t) (a := a) (w := w) (by exact tk_) ?_
  refine ents.pk { y with hts := y.hts.set w.toNat (tW t w) } (setF_ok hy (by simp)) ?_
  dsimp only [DK.setH, tW, List.cons_append, List.nil_append]
  rw [map_set_same hRQ hw (y := { d.hand w with held := setW a w, full := true }) rfl, List.map_set (f := hHF), List.map_set (f := hFu)]
  refine ents.cons (by exact tk_) ?_
  refine ents.cons (by exact tk_) ?_
  refine ents.cons (by exact tk_) ?_
  refine ents.cons (by exact tk_) ?_
  refine ents.rel2set (by simpa using hw) (by simp [hht]) (Tk.pk (A := heldC _ (setW a w, true)) rfl (setW a w) (fun _ => rfl) (by exact tkl_)) (by exact tk_) ?_
  exact ent_
-- FN (*confidant/confidantref24.Deck).Live
theorem deck24_Live (p : Nat) (d : DK) (l : List QI) (ws : List WT) :
    Sp Tryz.prog 77 [.pointer (some ⟨p, 0, none⟩)] [deckR p d l ws] (fun _ : Unit => True) (fun _ => .int .i64 ((l.length : Int) + ws.length + (liveK d.hands d.hands.length : Nat))) (fun _ => [deckR p d l ws]) := by
  refine Sp.intro (n := 49) Tryz.func77 rfl rfl fun w0 R => ?_
  dsimp only [List.cons_append, List.nil_append, envOf]
  first | (with_reducible refine Cd.g ?_; refine Cd.pk (A := (deckR p d l ws)) rfl (by exact tk_) fun y hy => ?_) | (with_reducible refine Ol.g ?_; refine Ol.pk (A := (deckR p d l ws)) rfl (by exact tk_) fun y hy => ?_) | (with_reducible refine Dn.g ?_; refine Dn.pk (A := (deckR p d l ws)) rfl (by exact tk_) fun y hy => ?_)
  dsimp only [List.cons_append, List.nil_append]
  have hrs := hy.rs; have h8 := hy.h8; have hes := hy.es; have hlb := hy.lb; have hwt := hy.wts; have hwb := hy.wb
  have hfl : (d.hands.map hFu).length = d.hands.length := List.length_map _
  refine go ?_
  refine Cd.drawL (l := [_, _, _, _, _, _, _, _, _, _, _, _, _]) (z := _) [[], [0], [0, 1], [0, 1, 2], [0, 1, 2, 3], [0, 1, 2, 3, 4], [], [6], [6, 7], [6, 7, 8], [6, 7, 8, 9], [6, 7, 8, 9, 10], [0, 1, 2, 3, 4, 5, 6, 7, 8, 9, 10, 11]] [] [] (td := [(0, .fresh), (1, .fresh), (2, .fresh), (3, .fresh), (4, .fresh), (5, .fresh), (6, .fresh), (7, .fresh), (8, .fresh), (9, .fresh), (10, .fresh), (11, .fresh), (12, .fresh)]) rfl mixed (by kernel_rfl) (by kernel_rfl) (by kernel_rfl) (by decide) (by decide) rfl (by kernel_rfl) ?_
  refine god2 ?_
  rw [hes, hwt]
  refine go ?_
  refine Cd.loop (fun k : Nat => k ≤ d.hands.length ∧ liveK d.hands k ≤ 65 * k) (fun k => d.hands.length - k) (fun k => [(0, .pointer (some ⟨p, 0, none⟩)), (3, .int .i64 ((l.length : Int) + ws.length + (liveK d.hands k : Nat))), (4, .int .i64 k)]) (fun k => partsR p y d l ws ++ R) 0 ⟨by omega, by simp [liveK]⟩ ?_ ?_ ?_
  · rw [show liveK d.hands 0 = 0 from by simp [liveK], show ((0 : Nat) : Int) = 0 from rfl, Int.add_zero]
    repeat(first|exact Env.le_nil _|(refine Env.le_cons rfl ?_ ?_;first|rfl|(simp;done)|exact congrArg _ (by omega)|rotate_left))
  · dsimp only [List.cons_append, List.nil_append]
    exact ent_
  rintro k ⟨hk, hf⟩
  dsimp only [List.cons_append, List.nil_append]
  refine go ?_
  refine Cd.condP rfl (fun h => ?_) (fun h => ?_)
  · have hk' : (0 : Int) ≤ k ∧ (k : Int) < d.hands.length := by omega
    have hk8 : k < 8 := by omega
    refine Cd.rel (R := rgC) (l := y.rs) (q := d.hands.map hRQ) k (by exact tk_) (by simpa using hk') ?_
    rw [rd_map hRQ hk']
    refine Cd.conv (H' := ring15C (rd y.rs k) (rd d.hands k).room (rd d.hands k).q :: _) (ents.refl _) ?_
    first | (with_reducible refine Cd.g ?_; refine Cd.pk (A := (ring15C (rd y.rs k) (rd d.hands k).room (rd d.hands k).q)) rfl (by exact tk_) fun z hz => ?_) | (with_reducible refine Ol.g ?_; refine Ol.pk (A := (ring15C (rd y.rs k) (rd d.hands k).room (rd d.hands k).q)) rfl (by exact tk_) fun z hz => ?_) | (with_reducible refine Dn.g ?_; refine Dn.pk (A := (ring15C (rd y.rs k) (rd d.hands k).room (rd d.hands k).q)) rfl (by exact tk_) fun z hz => ?_)
    dsimp only [List.cons_append, List.nil_append]
    have hs1 := liveK_succ d.hands (k := k) (by omega)
    refine go ?_
    rw [hz.1, rd_map hFu hk', show hFu (rd d.hands k) = (rd d.hands k).full from rfl]
    cases hb : (rd d.hands k).full with
    | true =>
      have e : (rd d.hands k).live = (rd d.hands k).q.length + 1 := by unfold Hand.live; rw [hb]; rfl
      refine go ?_
      refine Dn.round (k + 1) ⟨by omega, by omega⟩ (by omega) ?_ ?_
      · rw [hs1, e]
        repeat(first|exact Env.le_nil _|(refine Env.le_cons rfl ?_ ?_;first|rfl|(simp;done)|exact congrArg _ (by omega)|rotate_left))
      · exact ents.cons (by exact tk_) (ents.cons (by exact tk_) (rgs_back hk' (ents.pk z hz (by dsimp only [List.cons_append, List.nil_append]; exact ent_))))
    | false =>
      have e : (rd d.hands k).live = (rd d.hands k).q.length := by unfold Hand.live; rw [hb]; rfl
      refine go ?_
      refine Dn.round (k + 1) ⟨by omega, by omega⟩ (by omega) ?_ ?_
      · rw [hs1, e]
        repeat(first|exact Env.le_nil _|(refine Env.le_cons rfl ?_ ?_;first|rfl|(simp;done)|exact congrArg _ (by omega)|rotate_left))
      · exact ents.cons (by exact tk_) (ents.cons (by exact tk_) (rgs_back hk' (ents.pk z hz (by dsimp only [List.cons_append, List.nil_append]; exact ent_))))
  · refine go ?_
    refine Dn.ret1 rfl rfl fun w' hs => ⟨(), ?_, trivial, hs.conv (ents.pk y hy (by dsimp only [List.cons_append, List.nil_append]; exact ent_))⟩
    rw [show k = d.hands.length from by omega]
end Go.Proofs.YtihmbmoeedojoaaGreat

