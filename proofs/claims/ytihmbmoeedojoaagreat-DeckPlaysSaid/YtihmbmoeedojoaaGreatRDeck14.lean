/- Contracts of functions of the program, proved in a small separation logic. Conditions: those that each theorem states. -/
import Derived.Test.YtihmbmoeedojoaaGreatRDeck13
namespace Go.Proofs.YtihmbmoeedojoaaGreat
open Go Go.Sl
set_option maxHeartbeats 4000000
set_option maxRecDepth 100000
set_option linter.unusedVariables false
-- FN (*confidant/future.Futures).Keep
theorem fut_Keep (p : Nat) (f : FS) (id v : Int) (h : -2147483648 ≤ id ∧ id ≤ 2147483647) :
    Sp Tryz.prog 23 [.pointer (some ⟨p, 0, none⟩), .int .i32 id, .int .i32 v] [futC p f] (fun _ : Unit => True) (fun _ => .bool (f.openB id)) (fun _ => [futC p (f.change id ⟨1, v, 0⟩)]) := by
  refine Sp.intro (n := 13) Tryz.func23 rfl rfl fun w0 R => ?_
  dsimp only [List.cons_append, List.nil_append, envOf]
  refine go ?_;repeat((with_reducible refine Ol.g ?_);(first|refine Ol.eff rfl rfl rfl (Eff.alloc fun _=>?_)|refine Ol.eff rfl rfl rfl (Eff.box fun _=>?_)|refine Ol.eff0 rfl rfl (Eff.store rfl rfl ?_)|refine Ol.eff rfl rfl rfl (Eff.bslice rfl rfl fun _=>?_)|(refine Ol.eff0 rfl rfl (Eff.storeE rfl ?_ ?_);exact pre_)|(refine Ol.eff rfl rfl rfl (Eff.append1 rfl ?_ fun _=>?_);exact pre_));refine go ?_)
  with_reducible refine Ol.g ?_
  refine Ol.eff rfl rfl rfl (Eff.call (R := ?_) (fut_change p f id ⟨1, v, 0⟩ h) rfl ?_ ?_)
  rotate_left
  · exact tkl_
  rintro _ -
  dsimp only [List.cons_append, List.nil_append]
  refine go ?_;repeat((with_reducible refine Ol.g ?_);(first|refine Ol.eff rfl rfl rfl (Eff.alloc fun _=>?_)|refine Ol.eff rfl rfl rfl (Eff.box fun _=>?_)|refine Ol.eff0 rfl rfl (Eff.store rfl rfl ?_)|refine Ol.eff rfl rfl rfl (Eff.bslice rfl rfl fun _=>?_)|(refine Ol.eff0 rfl rfl (Eff.storeE rfl ?_ ?_);exact pre_)|(refine Ol.eff rfl rfl rfl (Eff.append1 rfl ?_ fun _=>?_);exact pre_));refine go ?_)
  refine Dn.ret1 rfl rfl fun w hs => ⟨(), ?_, by trivial, by first | exact hs | (refine hs.conv ?_; exact ent_)⟩
  rfl
theorem deckH_ok {p : Nat} {x : DX} {d : DK} {w : World} (h : sat w (deckH p x d)) : dOk x d := by
  obtain ⟨_, _, _, f, g, _, _, hp, _⟩ := h; exact hp
/-! plain facts -/
theorem push_fuel (d : DK) (w : Int) (a : AT) : (d.push w a).fuel = d.fuel := by unfold DK.push; split <;> rfl
theorem hold_fuel (d : DK) (w : Int) (a : AT) : (d.hold w a).fuel = d.fuel := by unfold DK.hold; split <;> rfl
theorem drop_fuel (d : DK) (w : Int) : (d.drop w).fuel = d.fuel := by unfold DK.drop; split <;> rfl
theorem pu_fuel (round kind : Int) (d : DK) (l : List AT) : ∀ k, k ≤ l.length → (puK round kind d l k).d.fuel = d.fuel
  | 0, _ => rfl
  | k + 1, h => by
    rw [puK_succ round kind d l (by omega)]
    show ((puK round kind d l k).d.push _ _).fuel = _
    rw [push_fuel]; exact pu_fuel round kind d l k (by omega)
theorem find_fuel (d : DK) (w round : Int) : (d.find w round).d.fuel = d.fuel := by
  unfold DK.find DK.steal DK.foundIn DK.pickN
  dsimp only
  repeat' split
  all_goals first | rfl | (rw [hold_fuel]; rfl)
theorem find_ev (d : DK) (w round : Int) : (d.find w round).ev.length ≤ 2 := by
  unfold DK.find DK.steal DK.foundIn
  dsimp only
  repeat' split
  all_goals simp
theorem lk_stay (f : FS) (fuel : Int) (ws : List WT) : ∀ k, k ≤ ws.length → ∀ w, w ∈ (lkK f fuel ws k).stay → w ∈ ws
  | 0, _, w, h => by cases h
  | k + 1, hk, w, h => by
    rw [lkK_succ f fuel ws (by omega)] at h
    unfold lkStep at h
    split at h
    · exact lk_stay f fuel ws k (by omega) w h
    · split at h
      · exact lk_stay f fuel ws k (by omega) w h
      · rcases List.mem_append.1 h with h | h
        · exact lk_stay f fuel ws k (by omega) w h
        · rw [List.mem_singleton] at h; subst h; exact rd_mem (by omega) (by omega)
structure wakeOk (d : DK) (ws : List WT) (r : WR) : Prop where
  fuel : 0 ≤ r.d.fuel ∧ r.d.fuel ≤ 9223372036854775807
  ev : r.ev.length ≤ ws.length
  over : r.over.length ≤ ws.length
  st : r.starved.length ≤ ws.length
  wl : r.ws.length ≤ ws.length
  sub : ∀ w, w ∈ r.ws → w ∈ ws
theorem wake_ok (d : DK) (ws : List WT) (f : FS) (round : Int) (hf : d.fuel ≤ 9223372036854775807) : wakeOk d ws (d.wake ws f round) := by
  have I := lk_ok f d.fuel ws hf ws.length (Nat.le_refl _)
  have i1 := I.l; have i2 := I.a
  have J := pu_ok round 5 (d.setF (lkK f d.fuel ws ws.length).left) (lkK f d.fuel ws ws.length).woken _ (Nat.le_refl _)
  have j1 := J.e; have j2 := J.o
  have h := pu_fuel round 5 (d.setF (lkK f d.fuel ws ws.length).left) (lkK f d.fuel ws ws.length).woken _ (Nat.le_refl _)
  unfold DK.wake
  exact ⟨by dsimp only; rw [h]; exact i1, by dsimp only; omega, by dsimp only; omega, by dsimp only; omega, by dsimp only; omega, lk_stay f d.fuel ws ws.length (Nat.le_refl _)⟩
theorem insQ_mem {e y : QI} {l : List QI} (h : y ∈ insQ e l) : y = e ∨ y ∈ l := by
  have := (insQ_perm e l).mem_iff.1 h
  simpa using this
theorem insQ_len (e : QI) (l : List QI) : (insQ e l).length = l.length + 1 := by rw [(insQ_perm e l).length_eq]; rfl
structure PZ where
  k : Nat
  d : DK
  l : List QI
  n : Int
  ws : List WT
  f : FS
structure pzOk (k : Nat) (z : PZ) : Prop where
  fu : 0 ≤ z.d.fuel ∧ z.d.fuel ≤ 9223372036854775807
  n : 0 ≤ z.n ∧ z.n ≤ k
  l : z.l.length ≤ k
  so : sortedQ z.l
  lt : ∀ y, y ∈ z.l → y.seq < z.n
  ws : z.ws.length ≤ k
  lk : lkB z.ws
theorem pz_up {k : Nat} {z z' : PZ} (h : pzOk k z) (hf : z'.d.fuel = z.d.fuel) (hl : z'.l = z.l) (hn : z'.n = z.n) (hw : z'.ws = z.ws) : pzOk (k + 1) z' :=
  ⟨by rw [hf]; exact h.fu, by rw [hn]; have := h.n; omega, by rw [hl]; have := h.l; omega, by rw [hl]; exact h.so, by rw [hl, hn]; exact h.lt, by rw [hw]; have := h.ws; omega, by rw [hw]; exact h.lk⟩
theorem tkFree (i pc w : Int) (h : -1099511627776 ≤ pc ∧ pc ≤ 1099511627776) : Free (tkC ⟨i, 0, pc, .slice none 0 0, 0, 0, 0, 0, 0, 0, 0, w⟩ ⟨i, 0, pc, [], 0, 0, 0, 0, 0, 0, 0, w⟩) :=
  ⟨fun B => (went_one B).trans (went.trans (show went (stars [B]) (star (tkC _ _) (stars [B])) from ents.tk0 (H := [B]) (L := [B]) rfl ⟨by simp, h⟩ rfl rfl (ents.refl _)) (went.star (went.refl _) (went_one' B)))⟩
theorem deckR_hold {q : Nat} {y : DY} {d : DK} {l : List QI} {ws : List WT} (hy : yOk y d l ws) {w : Int} (hw : 0 ≤ w ∧ w < (d.hands.length : Int)) {t : S_api_Task} {a : AT} {H L : List HProp}
    (k : ents H (tkC t a :: cel q 59 (drL y d) :: sl ePtr y.vr y.rs :: rel2 rgC y.rs (d.hands.map hRQ) :: sl e_api_Task y.vh (y.hts.set w.toNat t) :: rel2 heldC y.hts (d.hands.map hHF) :: sl eBool y.vb ((d.hands.map hFu).set w.toNat true) :: sl e_confidantref15_Entry y.vi y.es :: rel2 enC y.es l :: sl e_confidantref15_Waiting y.vp y.wts :: rel2 w15C y.wts ws :: picks15C true y.pk d.picks :: L)) :
    ents H (deckR q (d.hold w a) l ws :: L) := by
  refine ents.trans k ?_
  have hb : d.hasB w = true := decide_eq_true hw
  have hht := hy.hts
  unfold DK.hold; rw [hb]
  refine ents.pk { y with hts := y.hts.set w.toNat t } (setF_ok hy (by simp)) ?_
  dsimp only [DK.setH, List.cons_append, List.nil_append]
  rw [map_set_same hRQ hw (y := { d.hand w with held := a, full := true }) rfl, List.map_set (f := hHF), List.map_set (f := hFu)]
  refine ents.cons (by exact tk_) (ents.cons (by exact tk_) (ents.cons (by exact tk_) (ents.cons (by exact tk_) ?_)))
  refine ents.rel2set (by simpa using hw) (by simp [hht]) (Tk.pk (A := heldC _ (a, true)) rfl a (fun _ => rfl) (by exact tkl_)) (by exact tk_) ?_
  exact ent_
theorem deckR_drop {q : Nat} {y : DY} {d : DK} {l : List QI} {ws : List WT} (hy : yOk y d l ws) {w : Int} (hw : 0 ≤ w ∧ w < (d.hands.length : Int)) {a : AT} {H L : List HProp}
    (k : ents H (tkC (rd y.hts w) a :: rel2H heldC w.toNat y.hts (d.hands.map hHF) :: cel q 59 (drL y d) :: sl ePtr y.vr y.rs :: rel2 rgC y.rs (d.hands.map hRQ) :: sl e_api_Task y.vh y.hts :: sl eBool y.vb ((d.hands.map hFu).set w.toNat false) :: sl e_confidantref15_Entry y.vi y.es :: rel2 enC y.es l :: sl e_confidantref15_Waiting y.vp y.wts :: rel2 w15C y.wts ws :: picks15C true y.pk d.picks :: L)) :
    ents H (deckR q (d.drop w) l ws :: L) := by
  refine ents.trans k ?_
  have hb : d.hasB w = true := decide_eq_true hw
  have hht := hy.hts
  unfold DK.drop; rw [hb]
  refine ents.pk y (setF_ok hy rfl) ?_
  dsimp only [DK.setH, List.cons_append, List.nil_append]
  rw [map_set_same hRQ hw (y := { d.hand w with held := zA, full := false }) rfl, List.map_set (f := hHF), List.map_set (f := hFu)]
  refine ents.cons (by exact tk_) (ents.cons (by exact tk_) (ents.cons (by exact tk_) (ents.cons (by exact tk_) ?_)))
  refine ents.relput (y := (zA, false)) hw.1 (Tk.pk (A := heldC (rd y.hts w) (zA, false)) rfl a (fun h => by cases h) (by exact tkl_)) (by exact tk_) ?_
  exact ent_
end Go.Proofs.YtihmbmoeedojoaaGreat

