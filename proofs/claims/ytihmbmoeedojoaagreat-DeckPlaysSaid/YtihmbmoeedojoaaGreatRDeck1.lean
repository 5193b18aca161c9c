/- Contracts of functions of the program, proved in a small separation logic. Conditions: those that each theorem states. -/
import Derived.Test.YtihmbmoeedojoaaGreatDeck3
namespace Go.Proofs.YtihmbmoeedojoaaGreat
open Go Go.Sl
set_option maxHeartbeats 4000000
set_option maxRecDepth 100000
set_option linter.unusedVariables false
/-! the reference's rings and picks, as the same plain data -/
def ring15C (p room : Nat) (q : List AT) : HProp := pk (fun x : Value × List S_api_Task => x.2.length = q.length ∧ q.length ≤ room ∧ room ≤ 64) fun x => [cel p 141 [.int .i64 room, x.1], sl e_api_Task x.1 x.2, rel2 tkC x.2 q]
-- FN confidant/confidantref15.NewRing
theorem ring15_New (n : Int) :
    Sp Tryz.prog 43 [.int .i64 n] [] (fun _ : Nat => True) (fun p => .pointer (some ⟨p, 0, none⟩)) (fun p => [ring15C p (imin (imax n 1) 64).toNat []]) := by
  have hb : 1 ≤ imin (imax n 1) 64 ∧ imin (imax n 1) 64 ≤ 64 := by unfold imin imax; split <;> split <;> omega
  refine Sp.intro (n := 8) Tryz.func43 rfl rfl fun w0 R => ?_
  dsimp only [List.cons_append, List.nil_append, envOf]
  refine go ?_;repeat((with_reducible refine Ol.g ?_);(first|refine Ol.eff rfl rfl rfl (Eff.alloc fun _=>?_)|refine Ol.eff rfl rfl rfl (Eff.box fun _=>?_)|refine Ol.eff0 rfl rfl (Eff.store rfl rfl ?_)|refine Ol.eff rfl rfl rfl (Eff.bslice rfl rfl fun _=>?_)|(refine Ol.eff0 rfl rfl (Eff.storeE rfl ?_ ?_);exact pre_)|(refine Ol.eff rfl rfl rfl (Eff.append1 rfl ?_ fun _=>?_);exact pre_));refine go ?_)
  rename_i p
  refine Dn.ret1 rfl rfl fun w hs => ⟨p, rfl, trivial, hs.conv (ents.pk (.slice none 0 0, []) ⟨rfl, by simp, by omega⟩ ?_)⟩
  rw [show (((imin (imax n 1) 64).toNat : Nat) : Int) = imin (imax n 1) 64 from by omega]
  dsimp only [List.cons_append, List.nil_append]
  exact ent_
-- FN (*confidant/confidantref15.Ring).Push
theorem ring15_Push (p room : Nat) (q : List AT) (t : S_api_Task) (a : AT) :
    Sp Tryz.prog 50 [.pointer (some ⟨p, 0, none⟩), tV t] [ring15C p room q, tkC t a] (fun _ : Unit => True) (fun _ => .bool (decide (q.length < room))) (fun _ => [ring15C p room (if q.length < room then q ++ [a] else q)]) := by
  refine Sp.intro (n := 26) Tryz.func50 rfl rfl fun w0 R => ?_
  dsimp only [List.cons_append, List.nil_append, envOf]
  first | (with_reducible refine Cd.g ?_; refine Cd.pk (A := (ring15C p room q)) rfl (by exact tk_) fun x hx => ?_) | (with_reducible refine Ol.g ?_; refine Ol.pk (A := (ring15C p room q)) rfl (by exact tk_) fun x hx => ?_) | (with_reducible refine Dn.g ?_; refine Dn.pk (A := (ring15C p room q)) rfl (by exact tk_) fun x hx => ?_)
  dsimp only [List.cons_append, List.nil_append]
  first | (with_reducible refine Cd.g ?_; refine Cd.know (fun w_ hw_ => tkC_one (Tk.sat (A := (tkC t a)) (by exact tk_) hw_)) fun ho => ?_) | (with_reducible refine Ol.g ?_; refine Ol.know (fun w_ hw_ => tkC_one (Tk.sat (A := (tkC t a)) (by exact tk_) hw_)) fun ho => ?_) | (with_reducible refine Dn.g ?_; refine Dn.know (fun w_ hw_ => tkC_one (Tk.sat (A := (tkC t a)) (by exact tk_) hw_)) fun ho => ?_)
  have ho1 : Fl1 [] t.f_Stack := ⟨fun w hw => ⟨ho.one, cells_one ho.one⟩⟩
  refine go ?_;repeat((with_reducible refine Ol.g ?_);(first|refine Ol.eff rfl rfl rfl (Eff.alloc fun _=>?_)|refine Ol.eff rfl rfl rfl (Eff.box fun _=>?_)|refine Ol.eff0 rfl rfl (Eff.store rfl rfl ?_)|refine Ol.eff rfl rfl rfl (Eff.bslice rfl rfl fun _=>?_)|(refine Ol.eff0 rfl rfl (Eff.storeE rfl ?_ ?_);exact pre_)|(refine Ol.eff rfl rfl rfl (Eff.append1 rfl ?_ fun _=>?_);exact pre_));refine go ?_)
  rename_i c
  refine Cd.draw2 [[], [0], [0, 1], [0, 1, 2], [0, 1, 2, 3], [], [5], [5, 6], [5, 6, 7], [0, 1, 2, 3, 4, 5, 6, 7, 8]] [] [] (td := [(0, .fresh), (1, .fresh), (2, .fresh), (3, .fresh), (4, .fresh), (5, .fresh), (6, .fresh), (7, .fresh), (8, .fresh), (9, .fresh)]) mixed (by kernel_rfl) (by kernel_rfl) (by decide) (by decide) rfl (by kernel_rfl) ?_
  refine god2 ?_
  refine go ?_
  refine Cd.condP rfl (fun h => ?_) (fun h => ?_)
  · refine go ?_
    refine Dn.ret1 rfl rfl fun w hs => ⟨(), by rw [decide_eq_false (by omega)], trivial, hs.conv ?_⟩
    rw [if_neg (by omega)]
    exact ents.pk x hx (by dsimp only [List.cons_append, List.nil_append]; exact ent_)
  refine go ?_
  refine Cd.draw2 [[], [], [1], [1, 2], [1, 2, 3], [1, 2, 3, 4], [], [6], [1, 2, 3, 4, 5, 6, 7], [0, 1, 2, 3, 4, 5, 6, 7, 8], [0, 1, 2, 3, 4, 5, 6, 7, 8, 9], [0, 1, 2, 3, 4, 5, 6, 7, 8, 9, 10]] [5, 7, 8, 11] [7] (td := [(0, .fresh), (1, .fresh), (2, .fresh), (3, .fresh), (4, .fresh), (6, .fresh), (7, .flt)]) mixed (by kernel_rfl) (by kernel_rfl) (by decide) (by decide) rfl (by kernel_rfl) ?_
  refine god2 ?_
  refine Sg2.one (td := [(0, .old), (6, .old)]) rfl (by kernel_rfl) fun F5_ => ?_
  dsimp only [List.cons_append, List.nil_append]
  refine SpOp.eff rfl rfl rfl rfl rfl (Eff.appendR rfl ?_ fun u => ?_)
  · simp; omega
  refine Sn.ok ?_
  rw [List.nil_append]
  refine god2 ?_
  refine Sg2.flt (td := [(0, .old)]) rfl rfl rfl rfl (by kernel_rfl) fun y => ?_
  refine god2 ?_
  refine Sg2.one (td := [(0, .old), (9, .fresh), (10, .fresh)]) rfl (by kernel_rfl) fun F8_ => ?_
  dsimp only [List.cons_append, List.nil_append]
  (with_reducible first|refine SpOp.eff rfl rfl rfl rfl rfl (Eff.x (Qx.build rfl) ?_)|refine SpOp.eff rfl rfl rfl rfl rfl (Eff.alloc fun _=>?_)|refine SpOp.eff rfl rfl rfl rfl rfl (Eff.box fun _=>?_)|refine SpOp.eff rfl rfl rfl rfl rfl (Eff.bslice rfl rfl fun _=>?_)|(refine SpOp.eff rfl rfl rfl rfl rfl (Eff.append1 rfl ?_ fun _=>?_);exact pre_)|refine SpOp.eff0 rfl rfl rfl rfl (Eff.store rfl rfl ?_)|(refine SpOp.eff0 rfl rfl rfl rfl (Eff.storeE rfl ?_ ?_);exact pre_))
  rename_i u2
  refine Sn.ok ?_
  refine god2 ?_
  refine Sg2.one (td := []) rfl (by kernel_rfl) fun F11_ => ?_
  dsimp only [List.cons_append, List.nil_append]
  (with_reducible first|refine SpOp.eff rfl rfl rfl rfl rfl (Eff.x (Qx.build rfl) ?_)|refine SpOp.eff rfl rfl rfl rfl rfl (Eff.alloc fun _=>?_)|refine SpOp.eff rfl rfl rfl rfl rfl (Eff.box fun _=>?_)|refine SpOp.eff rfl rfl rfl rfl rfl (Eff.bslice rfl rfl fun _=>?_)|(refine SpOp.eff rfl rfl rfl rfl rfl (Eff.append1 rfl ?_ fun _=>?_);exact pre_)|refine SpOp.eff0 rfl rfl rfl rfl (Eff.store rfl rfl ?_)|(refine SpOp.eff0 rfl rfl rfl rfl (Eff.storeE rfl ?_ ?_);exact pre_))
  refine Sn.ok ?_
  refine god2 ?_
  refine go ?_;repeat((with_reducible refine Ol.g ?_);(first|refine Ol.eff rfl rfl rfl (Eff.alloc fun _=>?_)|refine Ol.eff rfl rfl rfl (Eff.box fun _=>?_)|refine Ol.eff0 rfl rfl (Eff.store rfl rfl ?_)|refine Ol.eff rfl rfl rfl (Eff.bslice rfl rfl fun _=>?_)|(refine Ol.eff0 rfl rfl (Eff.storeE rfl ?_ ?_);exact pre_)|(refine Ol.eff rfl rfl rfl (Eff.append1 rfl ?_ fun _=>?_);exact pre_));refine go ?_)
  refine Dn.ret1 rfl rfl fun w hs => ⟨(), by rw [decide_eq_true (by omega)], trivial, hs.conv ?_⟩
  rw [if_pos (by omega)]
  refine ents.pk (u2, x.2 ++ [t]) ⟨by simp; omega, by simp; omega, hx.2.2⟩ ?_
  dsimp only [List.cons_append, List.nil_append]
  exact ent_
-- FN (*confidant/confidantref15.Ring).Pop
theorem ring15_Pop (p room : Nat) (q : List AT) :
    Sp Tryz.prog 69 [.pointer (some ⟨p, 0, none⟩)] [ring15C p room q] (fun _ : S_api_Task => True) (fun t => .tuple #[tV t, .bool (decide (q ≠ []))]) (fun t => [ring15C p room q.dropLast, tkC t (q.getLastD zA)]) := by
  refine Sp.intro (n := 32) Tryz.func69 rfl rfl fun w0 R => ?_
  dsimp only [List.cons_append, List.nil_append, envOf]
  first | (with_reducible refine Cd.g ?_; refine Cd.pk (A := (ring15C p room q)) rfl (by exact tk_) fun x hx => ?_) | (with_reducible refine Ol.g ?_; refine Ol.pk (A := (ring15C p room q)) rfl (by exact tk_) fun x hx => ?_) | (with_reducible refine Dn.g ?_; refine Dn.pk (A := (ring15C p room q)) rfl (by exact tk_) fun x hx => ?_)
  dsimp only [List.cons_append, List.nil_append]
  obtain ⟨v, l⟩ := x
  dsimp only at hx ⊢
  rcases List.eq_nil_or_concat q with hq | ⟨q0, a, hq⟩
  · subst hq
    have hl : l = [] := List.length_eq_zero_iff.1 (by simpa using hx.1)
    subst hl
    refine go ?_;repeat((with_reducible refine Ol.g ?_);(first|refine Ol.eff rfl rfl rfl (Eff.alloc fun _=>?_)|refine Ol.eff rfl rfl rfl (Eff.box fun _=>?_)|refine Ol.eff0 rfl rfl (Eff.store rfl rfl ?_)|refine Ol.eff rfl rfl rfl (Eff.bslice rfl rfl fun _=>?_)|(refine Ol.eff0 rfl rfl (Eff.storeE rfl ?_ ?_);exact pre_)|(refine Ol.eff rfl rfl rfl (Eff.append1 rfl ?_ fun _=>?_);exact pre_));refine go ?_)
    refine Dn.retC1 rfl rfl trivial rfl fun w hs => ⟨zT, by simp, trivial, hs.conv ?_⟩
    refine ents.pk (v, []) hx ?_
    simp only [List.dropLast_nil, List.getLastD_nil, List.cons_append, List.nil_append]
    exact ent_
  rw [List.concat_eq_append] at hq
  have hlen : (q0 ++ [a]).length = q0.length + 1 := by simp
  subst hq
  rw [hlen] at hx
  rcases List.eq_nil_or_concat l with hl | ⟨l0, t, hl⟩
  · subst hl; simp at hx
  rw [List.concat_eq_append] at hl
  have hlen2 : (l0 ++ [t]).length = l0.length + 1 := by simp
  subst hl
  rw [hlen2] at hx
  have hrd : rd (l0 ++ [t]) (l0.length : Int) = t := by simp [rd]
  refine Cd.conv (ents.split (rel2_unsnoc (R := tkC)) (by exact tk_)) ?_
  refine go ?_;repeat((with_reducible refine Ol.g ?_);(first|refine Ol.eff rfl rfl rfl (Eff.alloc fun _=>?_)|refine Ol.eff rfl rfl rfl (Eff.box fun _=>?_)|refine Ol.eff0 rfl rfl (Eff.store rfl rfl ?_)|refine Ol.eff rfl rfl rfl (Eff.bslice rfl rfl fun _=>?_)|(refine Ol.eff0 rfl rfl (Eff.storeE rfl ?_ ?_);exact pre_)|(refine Ol.eff rfl rfl rfl (Eff.append1 rfl ?_ fun _=>?_);exact pre_));refine go ?_)
  rw [hlen2, show (((l0.length + 1 : Nat) : Int)) - 1 = (l0.length : Int) from by omega, decide_eq_false (show ¬ (l0.length : Int) < 0 by omega)]
  refine go ?_;repeat((with_reducible refine Ol.g ?_);(first|refine Ol.eff rfl rfl rfl (Eff.alloc fun _=>?_)|refine Ol.eff rfl rfl rfl (Eff.box fun _=>?_)|refine Ol.eff0 rfl rfl (Eff.store rfl rfl ?_)|refine Ol.eff rfl rfl rfl (Eff.bslice rfl rfl fun _=>?_)|(refine Ol.eff0 rfl rfl (Eff.storeE rfl ?_ ?_);exact pre_)|(refine Ol.eff rfl rfl rfl (Eff.append1 rfl ?_ fun _=>?_);exact pre_));refine go ?_)
  rw [hrd]
  refine go ?_;repeat((with_reducible refine Ol.g ?_);(first|refine Ol.eff rfl rfl rfl (Eff.alloc fun _=>?_)|refine Ol.eff rfl rfl rfl (Eff.box fun _=>?_)|refine Ol.eff0 rfl rfl (Eff.store rfl rfl ?_)|refine Ol.eff rfl rfl rfl (Eff.bslice rfl rfl fun _=>?_)|(refine Ol.eff0 rfl rfl (Eff.storeE rfl ?_ ?_);exact pre_)|(refine Ol.eff rfl rfl rfl (Eff.append1 rfl ?_ fun _=>?_);exact pre_));refine go ?_)
  refine Dn.retC1 rfl rfl trivial rfl fun w hs => ⟨t, by simp, trivial, hs.conv ?_⟩
  rw [show (q0 ++ [a]).dropLast = q0 from by simp, show (q0 ++ [a]).getLastD zA = a from by simp, Int.toNat_natCast]
  refine ents.pk (cutV v l0.length, l0) (by dsimp only; omega) ?_
  dsimp only [List.cons_append, List.nil_append]
  refine ents.cons (by exact tk_) ?_
  have e : (l0 ++ [t]).take l0.length = l0 := by simp
  have k := fun H H1 L (tk : Tk H (sl e_api_Task v (l0 ++ [t])) H1) (k : ents H1 L) => ents.cutS (h := l0.length) tk (by simp) k
  simp only [e] at k
  refine k _ _ _ (by exact tk_) ?_
  exact ent_
-- FN (*confidant/confidantref15.Ring).Steal
theorem ring15_Steal (p room : Nat) (a : AT) (q : List AT) :
    Sp Tryz.prog 73 [.pointer (some ⟨p, 0, none⟩)] [ring15C p room (a :: q)] (fun _ : S_api_Task => True) (fun t => .tuple #[tV t, .bool true]) (fun t => [ring15C p room q, tkC t a]) := by
  refine Sp.intro (n := 27) Tryz.func73 rfl rfl fun w0 R => ?_
  dsimp only [List.cons_append, List.nil_append, envOf]
  first | (with_reducible refine Cd.g ?_; refine Cd.pk (A := (ring15C p room (a :: q))) rfl (by exact tk_) fun x hx => ?_) | (with_reducible refine Ol.g ?_; refine Ol.pk (A := (ring15C p room (a :: q))) rfl (by exact tk_) fun x hx => ?_) | (with_reducible refine Dn.g ?_; refine Dn.pk (A := (ring15C p room (a :: q))) rfl (by exact tk_) fun x hx => ?_)
  dsimp only [List.cons_append, List.nil_append]
  obtain ⟨v, l⟩ := x
  dsimp only at hx ⊢
  rcases l with _ | ⟨t, l⟩
  · simp at hx
  have hlen : (a :: q).length = q.length + 1 := by simp
  have hlen2 : (t :: l).length = l.length + 1 := by simp
  rw [hlen, hlen2] at hx
  refine Cd.conv (ents.split (rel2_uncons (R := tkC)) (by exact tk_)) ?_
  refine go ?_;repeat((with_reducible refine Ol.g ?_);(first|refine Ol.eff rfl rfl rfl (Eff.alloc fun _=>?_)|refine Ol.eff rfl rfl rfl (Eff.box fun _=>?_)|refine Ol.eff0 rfl rfl (Eff.store rfl rfl ?_)|refine Ol.eff rfl rfl rfl (Eff.bslice rfl rfl fun _=>?_)|(refine Ol.eff0 rfl rfl (Eff.storeE rfl ?_ ?_);exact pre_)|(refine Ol.eff rfl rfl rfl (Eff.append1 rfl ?_ fun _=>?_);exact pre_));refine go ?_)
  rw [hlen2, decide_eq_false (show ¬ ((l.length + 1 : Nat) : Int) = 0 by omega)]
  refine go ?_;repeat((with_reducible refine Ol.g ?_);(first|refine Ol.eff rfl rfl rfl (Eff.alloc fun _=>?_)|refine Ol.eff rfl rfl rfl (Eff.box fun _=>?_)|refine Ol.eff0 rfl rfl (Eff.store rfl rfl ?_)|refine Ol.eff rfl rfl rfl (Eff.bslice rfl rfl fun _=>?_)|(refine Ol.eff0 rfl rfl (Eff.storeE rfl ?_ ?_);exact pre_)|(refine Ol.eff rfl rfl rfl (Eff.append1 rfl ?_ fun _=>?_);exact pre_));refine go ?_)
  rw [show rd (t :: l) 0 = t from rfl]
  refine go ?_;repeat((with_reducible refine Ol.g ?_);(first|refine Ol.eff rfl rfl rfl (Eff.alloc fun _=>?_)|refine Ol.eff rfl rfl rfl (Eff.box fun _=>?_)|refine Ol.eff0 rfl rfl (Eff.store rfl rfl ?_)|refine Ol.eff rfl rfl rfl (Eff.bslice rfl rfl fun _=>?_)|(refine Ol.eff0 rfl rfl (Eff.storeE rfl ?_ ?_);exact pre_)|(refine Ol.eff rfl rfl rfl (Eff.append1 rfl ?_ fun _=>?_);exact pre_));refine go ?_)
  refine Dn.retC1 rfl rfl trivial rfl fun w hs => ⟨t, rfl, trivial, hs.conv ?_⟩
  refine ents.pk (slcV v (Int.toNat 1) 12, l) (by dsimp only; omega) ?_
  dsimp only [List.cons_append, List.nil_append]
  refine ents.cons (by exact tk_) ?_
  exact ents.slc (l := 1) (E := e_api_Task) (v := v) (xs := t :: l) (by exact tk_) (by simp) (by exact ent_)
/-! picks -/
-- FN confidant/confidantref15.Step
theorem rng15_Step (s : Int) : Sp Tryz.prog 109 [.int .u64 s] [] (fun _ : Unit => True) (fun _ => .int .u64 (stepI s)) (fun _ => []) := by
  refine Sp.intro (n := 16) Tryz.func109 rfl rfl fun w0 R => ?_
  dsimp only [List.cons_append, List.nil_append, envOf]
  refine go ?_;repeat((with_reducible refine Ol.g ?_);(first|refine Ol.eff rfl rfl rfl (Eff.alloc fun _=>?_)|refine Ol.eff rfl rfl rfl (Eff.box fun _=>?_)|refine Ol.eff0 rfl rfl (Eff.store rfl rfl ?_)|refine Ol.eff rfl rfl rfl (Eff.bslice rfl rfl fun _=>?_)|(refine Ol.eff0 rfl rfl (Eff.storeE rfl ?_ ?_);exact pre_)|(refine Ol.eff rfl rfl rfl (Eff.append1 rfl ?_ fun _=>?_);exact pre_));refine go ?_)
  refine Dn.ret1 rfl rfl fun w hs => ⟨(), rfl, trivial, hs⟩
def picks15C (r : Bool) (p : Nat) (s : PS) : HProp := pk (fun x : Value => s.l.length ≤ 1048576 ∧ ∀ y, y ∈ s.l → 0 ≤ y ∧ y ≤ 255) (fun x => [cel p 160 [x, .int .u64 s.s], slB r (eInt .u8) x s.l])
-- FN confidant/confidantref15.NewPicks
theorem picks15_New (r : Bool) (v : Value) (l : List Int) (seed : Int) (hs0 : 0 ≤ seed ∧ seed ≤ 18446744073709551615) (h : l.length ≤ 1048576 ∧ ∀ y, y ∈ l → 0 ≤ y ∧ y ≤ 255) :
    Sp Tryz.prog 42 [v, .int .u64 seed] [slB r (eInt .u8) v l] (fun _ : Nat => True) (fun p => .pointer (some ⟨p, 0, none⟩)) (fun p => [picks15C r p ⟨l, imax seed 1⟩]) := by
  refine Sp.intro (n := 11) Tryz.func42 rfl rfl fun w0 R => ?_
  dsimp only [List.cons_append, List.nil_append, envOf]
  first | (with_reducible refine Cd.g ?_; refine Cd.know (fun w_ hw_ => one_sl (Tk.sat (A := (slB r (eInt .u8) v l)) (by exact tk_) hw_)) fun o1 => ?_) | (with_reducible refine Ol.g ?_; refine Ol.know (fun w_ hw_ => one_sl (Tk.sat (A := (slB r (eInt .u8) v l)) (by exact tk_) hw_)) fun o1 => ?_) | (with_reducible refine Dn.g ?_; refine Dn.know (fun w_ hw_ => one_sl (Tk.sat (A := (slB r (eInt .u8) v l)) (by exact tk_) hw_)) fun o1 => ?_)
  refine go ?_;repeat((with_reducible refine Ol.g ?_);(first|refine Ol.eff rfl rfl rfl (Eff.alloc fun _=>?_)|refine Ol.eff rfl rfl rfl (Eff.box fun _=>?_)|refine Ol.eff0 rfl rfl (Eff.store rfl rfl ?_)|refine Ol.eff rfl rfl rfl (Eff.bslice rfl rfl fun _=>?_)|(refine Ol.eff0 rfl rfl (Eff.storeE rfl ?_ ?_);exact pre_)|(refine Ol.eff rfl rfl rfl (Eff.append1 rfl ?_ fun _=>?_);exact pre_));refine go ?_)
  refine Cd.cut (α := Unit) (fun _ => [(0, v), (1, .int .u64 (imax seed 1)), (4, .pointer none)]) (fun _ => slB r (eInt .u8) v l :: R) (fun K kk => ?_) ?_
  · refine Cd.condP rfl (fun h => ?_) (fun h => ?_)
    · have : imax seed 1 = 1 := by unfold imax; split <;> omega
      rw [this] at kk
      refine go ?_
      exact Dn.weak (by repeat(first|exact Env.le_nil _|(refine Env.le_cons rfl ?_ ?_;first|rfl|(simp;done)|exact congrArg _ (by omega)|rotate_left))) (by exact ent_) (kk ())
    · have : imax seed 1 = seed := by unfold imax; split <;> omega
      rw [this] at kk
      refine go ?_
      exact Dn.weak (by repeat(first|exact Env.le_nil _|(refine Env.le_cons rfl ?_ ?_;first|rfl|(simp;done)|exact congrArg _ (by omega)|rotate_left))) (by exact ent_) (kk ())
  rintro -
  refine go ?_;repeat((with_reducible refine Ol.g ?_);(first|refine Ol.eff rfl rfl rfl (Eff.alloc fun _=>?_)|refine Ol.eff rfl rfl rfl (Eff.box fun _=>?_)|refine Ol.eff0 rfl rfl (Eff.store rfl rfl ?_)|refine Ol.eff rfl rfl rfl (Eff.bslice rfl rfl fun _=>?_)|(refine Ol.eff0 rfl rfl (Eff.storeE rfl ?_ ?_);exact pre_)|(refine Ol.eff rfl rfl rfl (Eff.append1 rfl ?_ fun _=>?_);exact pre_));refine go ?_)
  rename_i c
  refine Dn.ret1 rfl rfl fun w hs => ⟨c, rfl, trivial, hs.conv (ents.pk v h ?_)⟩
  dsimp only [List.cons_append, List.nil_append]
  exact ent_
-- FN (*confidant/confidantref15.Picks).Below
theorem picks15_Below (r : Bool) (p : Nat) (v : Value) (s n : Int) (l : List Int) (hn : 1 ≤ n ∧ n ≤ 1000000) : Sp Tryz.prog 98 [.pointer (some ⟨p, 0, none⟩), .int .i64 n] [cel p 160 [v, .int .u64 s], slB r (eInt .u8) v l] (fun _ : Unit => True) (fun _ => .int .i64 (stepI s % n)) (fun _ => [cel p 160 [v, .int .u64 (stepI s)], slB r (eInt .u8) v l]) := by
  have h0 := stepI_nn s
  have h1 := Int.emod_nonneg (stepI s) (show n ≠ 0 by omega)
  have h2 := Int.emod_lt_of_pos (stepI s) (show 0 < n by omega)
  refine Sp.intro (n := 23) Tryz.func98 rfl rfl fun w0 R => ?_
  dsimp only [List.cons_append, List.nil_append, envOf]
  refine go ?_;repeat((with_reducible refine Ol.g ?_);(first|refine Ol.eff rfl rfl rfl (Eff.alloc fun _=>?_)|refine Ol.eff rfl rfl rfl (Eff.box fun _=>?_)|refine Ol.eff0 rfl rfl (Eff.store rfl rfl ?_)|refine Ol.eff rfl rfl rfl (Eff.bslice rfl rfl fun _=>?_)|(refine Ol.eff0 rfl rfl (Eff.storeE rfl ?_ ?_);exact pre_)|(refine Ol.eff rfl rfl rfl (Eff.append1 rfl ?_ fun _=>?_);exact pre_));refine go ?_)
  refine Cd.condP rfl (fun h => by exfalso; omega) (fun h => ?_)
  refine go ?_;repeat((with_reducible refine Ol.g ?_);(first|refine Ol.eff rfl rfl rfl (Eff.alloc fun _=>?_)|refine Ol.eff rfl rfl rfl (Eff.box fun _=>?_)|refine Ol.eff0 rfl rfl (Eff.store rfl rfl ?_)|refine Ol.eff rfl rfl rfl (Eff.bslice rfl rfl fun _=>?_)|(refine Ol.eff0 rfl rfl (Eff.storeE rfl ?_ ?_);exact pre_)|(refine Ol.eff rfl rfl rfl (Eff.append1 rfl ?_ fun _=>?_);exact pre_));refine go ?_)
  with_reducible refine Ol.g ?_
  refine Ol.eff rfl rfl rfl (Eff.call (R := ?_) (rng15_Step s) rfl ?_ ?_)
  rotate_left
  · exact tkl_
  rintro _ -
  dsimp only [List.cons_append, List.nil_append]
  refine go ?_;repeat((with_reducible refine Ol.g ?_);(first|refine Ol.eff rfl rfl rfl (Eff.alloc fun _=>?_)|refine Ol.eff rfl rfl rfl (Eff.box fun _=>?_)|refine Ol.eff0 rfl rfl (Eff.store rfl rfl ?_)|refine Ol.eff rfl rfl rfl (Eff.bslice rfl rfl fun _=>?_)|(refine Ol.eff0 rfl rfl (Eff.storeE rfl ?_ ?_);exact pre_)|(refine Ol.eff rfl rfl rfl (Eff.append1 rfl ?_ fun _=>?_);exact pre_));refine go ?_)
  refine Dn.ret1 rfl rfl fun w hs => ⟨(), rfl, trivial, hs⟩
-- FN (*confidant/confidantref15.Picks).Next
theorem picks15_Next (r : Bool) (p : Nat) (s : PS) (n : Int) (hn : 1 ≤ n ∧ n ≤ 1000000) :
    Sp Tryz.prog 72 [.pointer (some ⟨p, 0, none⟩), .int .i64 n] [picks15C r p s] (fun _ : Unit => 0 ≤ s.val n ∧ s.val n < n) (fun _ => .int .i64 (s.val n)) (fun _ => [picks15C r p (s.next n)]) := by
  have hi : imax n 1 = n := by unfold imax; split <;> omega
  have hv : 0 ≤ s.val n ∧ s.val n < n := by
    unfold PS.val; split <;> exact ⟨Int.emod_nonneg _ (by omega), Int.emod_lt_of_pos _ (by omega)⟩
  refine Sp.intro (n := 35) Tryz.func72 rfl rfl fun w0 R => ?_
  dsimp only [List.cons_append, List.nil_append, envOf]
  first | (with_reducible refine Cd.g ?_; refine Cd.pk (A := (picks15C r p s)) rfl (by exact tk_) fun x hx => ?_) | (with_reducible refine Ol.g ?_; refine Ol.pk (A := (picks15C r p s)) rfl (by exact tk_) fun x hx => ?_) | (with_reducible refine Dn.g ?_; refine Dn.pk (A := (picks15C r p s)) rfl (by exact tk_) fun x hx => ?_)
  dsimp only [List.cons_append, List.nil_append]
  obtain ⟨l, ss⟩ := s
  dsimp only at hx ⊢
  rcases l with _ | ⟨a, l⟩
  · refine go ?_;repeat((with_reducible refine Ol.g ?_);(first|refine Ol.eff rfl rfl rfl (Eff.alloc fun _=>?_)|refine Ol.eff rfl rfl rfl (Eff.box fun _=>?_)|refine Ol.eff0 rfl rfl (Eff.store rfl rfl ?_)|refine Ol.eff rfl rfl rfl (Eff.bslice rfl rfl fun _=>?_)|(refine Ol.eff0 rfl rfl (Eff.storeE rfl ?_ ?_);exact pre_)|(refine Ol.eff rfl rfl rfl (Eff.append1 rfl ?_ fun _=>?_);exact pre_));refine go ?_)
    rw [hi]
    with_reducible refine Ol.g ?_
    refine Ol.eff rfl rfl rfl (Eff.call (R := ?_) (picks15_Below r p x ss n [] hn) rfl ?_ ?_)
    rotate_left
    · exact tkl_
    rintro _ -
    dsimp only [List.cons_append, List.nil_append]
    refine go ?_;repeat((with_reducible refine Ol.g ?_);(first|refine Ol.eff rfl rfl rfl (Eff.alloc fun _=>?_)|refine Ol.eff rfl rfl rfl (Eff.box fun _=>?_)|refine Ol.eff0 rfl rfl (Eff.store rfl rfl ?_)|refine Ol.eff rfl rfl rfl (Eff.bslice rfl rfl fun _=>?_)|(refine Ol.eff0 rfl rfl (Eff.storeE rfl ?_ ?_);exact pre_)|(refine Ol.eff rfl rfl rfl (Eff.append1 rfl ?_ fun _=>?_);exact pre_));refine go ?_)
    refine Dn.ret1 rfl rfl fun w hs => ⟨(), rfl, hv, hs.conv (ents.pk x hx (by dsimp only [List.cons_append, List.nil_append, PS.next]; exact ent_))⟩
  · have ha := hx.2 a (by simp)
    refine go ?_;repeat((with_reducible refine Ol.g ?_);(first|refine Ol.eff rfl rfl rfl (Eff.alloc fun _=>?_)|refine Ol.eff rfl rfl rfl (Eff.box fun _=>?_)|refine Ol.eff0 rfl rfl (Eff.store rfl rfl ?_)|refine Ol.eff rfl rfl rfl (Eff.bslice rfl rfl fun _=>?_)|(refine Ol.eff0 rfl rfl (Eff.storeE rfl ?_ ?_);exact pre_)|(refine Ol.eff rfl rfl rfl (Eff.append1 rfl ?_ fun _=>?_);exact pre_));refine go ?_)
    rw [show rd (a :: l) 0 = a from rfl]
    refine go ?_;repeat((with_reducible refine Ol.g ?_);(first|refine Ol.eff rfl rfl rfl (Eff.alloc fun _=>?_)|refine Ol.eff rfl rfl rfl (Eff.box fun _=>?_)|refine Ol.eff0 rfl rfl (Eff.store rfl rfl ?_)|refine Ol.eff rfl rfl rfl (Eff.bslice rfl rfl fun _=>?_)|(refine Ol.eff0 rfl rfl (Eff.storeE rfl ?_ ?_);exact pre_)|(refine Ol.eff rfl rfl rfl (Eff.append1 rfl ?_ fun _=>?_);exact pre_));refine go ?_)
    rw [hi]
    refine go ?_;repeat((with_reducible refine Ol.g ?_);(first|refine Ol.eff rfl rfl rfl (Eff.alloc fun _=>?_)|refine Ol.eff rfl rfl rfl (Eff.box fun _=>?_)|refine Ol.eff0 rfl rfl (Eff.store rfl rfl ?_)|refine Ol.eff rfl rfl rfl (Eff.bslice rfl rfl fun _=>?_)|(refine Ol.eff0 rfl rfl (Eff.storeE rfl ?_ ?_);exact pre_)|(refine Ol.eff rfl rfl rfl (Eff.append1 rfl ?_ fun _=>?_);exact pre_));refine go ?_)
    refine Dn.ret1 rfl rfl fun w hs => ⟨(), rfl, hv, hs.conv (ents.pk (slcV x (Int.toNat 1) 1) ⟨by have := hx.1; simp at this; dsimp only [PS.next]; omega, fun y hy => hx.2 y (by dsimp only [PS.next] at hy; simp [hy])⟩ ?_)⟩
    dsimp only [List.cons_append, List.nil_append, PS.next]
    refine ents.cons (by exact tk_) ?_
    exact ents.slc (l := 1) (E := eInt .u8) (v := x) (xs := a :: l) (by exact tk_) (by simp) (by exact ent_)
end Go.Proofs.YtihmbmoeedojoaaGreat

