/- Contracts of functions of the program, proved in a small separation logic. Conditions: those that each theorem states. -/
import Derived.Test.YtihmbmoeedojoaaGreatDeck9
namespace Go.Proofs.YtihmbmoeedojoaaGreat
open Go Go.Sl
set_option maxHeartbeats 4000000
set_option maxRecDepth 100000
set_option linter.unusedVariables false
abbrev wV (t : S_api_Task) (id : Int) : Value := .agg #[.int .i32 t.f_Id, .int .i64 t.f_Func, .int .i64 t.f_Pc, t.f_Stack, .int .i32 t.f_Vars0, .int .i32 t.f_Vars1, .int .i32 t.f_Vars2, .int .i32 t.f_Vars3, .int .i64 t.f_Label, .int .i64 t.f_Clear, .int .u32 t.f_Privs, .int .i64 t.f_Worker, .int .i32 id]
-- FN confidant/park.copied
theorem park_copy (t : S_api_Task) (a : AT) (id : Int) :
    Sp Tryz.prog 89 [wV t id] [tkC t a] (fun _ : S_api_Task => True) (fun u => wV u id) (fun u => [tkC u a]) := by
  refine Sp.intro (n := 15) Tryz.func89 rfl rfl fun w0 R => ?_
  dsimp only [List.cons_append, List.nil_append, envOf]
  first | (with_reducible refine Cd.g ?_; refine Cd.pk (A := (tkC t a)) rfl (by exact tk_) fun x hx => ?_) | (with_reducible refine Ol.g ?_; refine Ol.pk (A := (tkC t a)) rfl (by exact tk_) fun x hx => ?_) | (with_reducible refine Dn.g ?_; refine Dn.pk (A := (tkC t a)) rfl (by exact tk_) fun x hx => ?_)
  dsimp only [List.cons_append, List.nil_append]
  have ho := hx.2; have hpc := ho.pc; have e1 : t.f_Pc = a.pc := congrArg AT.pc hx.1
  refine go ?_;repeat((with_reducible refine Ol.g ?_);(first|refine Ol.eff rfl rfl rfl (Eff.alloc fun _=>?_)|refine Ol.eff rfl rfl rfl (Eff.box fun _=>?_)|refine Ol.eff0 rfl rfl (Eff.store rfl rfl ?_)|refine Ol.eff rfl rfl rfl (Eff.bslice rfl rfl fun _=>?_)|(refine Ol.eff0 rfl rfl (Eff.storeE rfl ?_ ?_);exact pre_)|(refine Ol.eff rfl rfl rfl (Eff.append1 rfl ?_ fun _=>?_);exact pre_));refine go ?_)
  with_reducible refine Ol.g ?_
  refine Ol.eff rfl rfl rfl (Eff.call (R := ?_) (task_Drop0 true t a.stack ho.st (by rw [e1]; unfold in64; omega)) rfl ?_ ?_)
  rotate_left
  · exact tkl_
  rintro v' -
  dsimp only [List.cons_append, List.nil_append]
  first | (with_reducible refine Cd.g ?_; refine Cd.know (fun w_ hw_ => one_sl (Tk.sat (A := (sl (eInt .i32) v' _)) (by exact tk_) hw_)) fun o1 => ?_) | (with_reducible refine Ol.g ?_; refine Ol.know (fun w_ hw_ => one_sl (Tk.sat (A := (sl (eInt .i32) v' _)) (by exact tk_) hw_)) fun o1 => ?_) | (with_reducible refine Dn.g ?_; refine Dn.know (fun w_ hw_ => one_sl (Tk.sat (A := (sl (eInt .i32) v' _)) (by exact tk_) hw_)) fun o1 => ?_)
  first | (with_reducible refine Cd.g ?_; refine Cd.share (A := (sl (eInt .i32) v' _)) (by exact tk_) ?_) | (with_reducible refine Ol.g ?_; refine Ol.share (A := (sl (eInt .i32) v' _)) (by exact tk_) ?_) | (with_reducible refine Dn.g ?_; refine Dn.share (A := (sl (eInt .i32) v' _)) (by exact tk_) ?_)
  refine go ?_;repeat((with_reducible refine Ol.g ?_);(first|refine Ol.eff rfl rfl rfl (Eff.alloc fun _=>?_)|refine Ol.eff rfl rfl rfl (Eff.box fun _=>?_)|refine Ol.eff0 rfl rfl (Eff.store rfl rfl ?_)|refine Ol.eff rfl rfl rfl (Eff.bslice rfl rfl fun _=>?_)|(refine Ol.eff0 rfl rfl (Eff.storeE rfl ?_ ?_);exact pre_)|(refine Ol.eff rfl rfl rfl (Eff.append1 rfl ?_ fun _=>?_);exact pre_));refine go ?_)
  refine Dn.retC rfl rfl trivial fun w hs => ⟨⟨t.f_Id, t.f_Func, t.f_Pc, v', t.f_Vars0, t.f_Vars1, t.f_Vars2, t.f_Vars3, t.f_Label, t.f_Clear, t.f_Privs, t.f_Worker⟩, rfl, trivial, hs.conv (ents.pk () ⟨hx.1, hx.2⟩ (show ents _ (slB true (eInt .i32) v' a.stack :: R) from by exact ent_))⟩
-- FN (*confidant/park.Park).Add
theorem park_Add (p : Nat) (ws : List WT) (t : S_api_Task) (a : AT) (id : Int) (hl : ws.length < 1048576) :
    Sp Tryz.prog 53 [.pointer (some ⟨p, 0, none⟩), tV t, .int .i32 id] [parkH p ws, tkC t a] (fun _ : Unit => True) (fun _ => .tuple #[]) (fun _ => [parkH p (ws ++ [⟨a, id⟩])]) := by
  refine Sp.intro (n := 19) Tryz.func53 rfl rfl fun w0 R => ?_
  dsimp only [List.cons_append, List.nil_append, envOf]
  first | (with_reducible refine Cd.g ?_; refine Cd.pk (A := (parkH p ws)) rfl (by exact tk_) fun x hx => ?_) | (with_reducible refine Ol.g ?_; refine Ol.pk (A := (parkH p ws)) rfl (by exact tk_) fun x hx => ?_) | (with_reducible refine Dn.g ?_; refine Dn.pk (A := (parkH p ws)) rfl (by exact tk_) fun x hx => ?_)
  dsimp only [List.cons_append, List.nil_append]
  refine go ?_;repeat((with_reducible refine Ol.g ?_);(first|refine Ol.eff rfl rfl rfl (Eff.alloc fun _=>?_)|refine Ol.eff rfl rfl rfl (Eff.box fun _=>?_)|refine Ol.eff0 rfl rfl (Eff.store rfl rfl ?_)|refine Ol.eff rfl rfl rfl (Eff.bslice rfl rfl fun _=>?_)|(refine Ol.eff0 rfl rfl (Eff.storeE rfl ?_ ?_);exact pre_)|(refine Ol.eff rfl rfl rfl (Eff.append1 rfl ?_ fun _=>?_);exact pre_));refine go ?_)
  rename_i c
  refine Cd.draw2 [[], [], [1], [1, 2], [1, 2, 3], [], [], [5, 6], [5, 6, 7], [5, 6, 7, 8], [1, 2, 3, 4, 5, 6, 7, 8, 9], [0, 1, 2, 3, 4, 5, 6, 7, 8, 9, 10], [0, 1, 2, 3, 4, 5, 6, 7, 8, 9, 10, 11], [0, 1, 2, 3, 4, 5, 6, 7, 8, 9, 10, 11, 12]] [8, 9, 10, 13] [] (td := [(0, .fresh), (1, .fresh), (2, .fresh), (3, .fresh), (4, .fresh), (5, .fresh), (6, .fresh), (7, .fresh)]) mixed (by kernel_rfl) (by kernel_rfl) (by decide) (by decide) rfl (by kernel_rfl) ?_
  refine god2 ?_
  refine Sg2.one (td := [(0, .old), (1, .old), (2, .old), (3, .old), (4, .old)]) rfl (by kernel_rfl) fun F8_ => ?_
  dsimp only [List.cons_append, List.nil_append]
  refine SpOp.eff rfl rfl rfl rfl rfl (Eff.call (R := ?_) (park_copy t a id) rfl ?_ ?_)
  rotate_left
  · exact tkl_
  rintro u -
  dsimp only [List.cons_append, List.nil_append]
  refine Sn.ok ?_
  refine god2 ?_
  refine Sg2.one (td := [(0, .old), (1, .old), (2, .old), (3, .old), (4, .old)]) rfl (by kernel_rfl) fun F9_ => ?_
  dsimp only [List.cons_append, List.nil_append]
  (with_reducible first|refine SpOp.eff rfl rfl rfl rfl rfl (Eff.x (Qx.build rfl) ?_)|refine SpOp.eff rfl rfl rfl rfl rfl (Eff.alloc fun _=>?_)|refine SpOp.eff rfl rfl rfl rfl rfl (Eff.box fun _=>?_)|refine SpOp.eff rfl rfl rfl rfl rfl (Eff.bslice rfl rfl fun _=>?_)|(refine SpOp.eff rfl rfl rfl rfl rfl (Eff.append1 rfl ?_ fun _=>?_);exact pre_)|refine SpOp.eff0 rfl rfl rfl rfl (Eff.store rfl rfl ?_)|(refine SpOp.eff0 rfl rfl rfl rfl (Eff.storeE rfl ?_ ?_);exact pre_))
  refine Sn.ok ?_
  refine god2 ?_
  refine Sg2.one (td := [(0, .old), (11, .fresh), (12, .fresh)]) rfl (by kernel_rfl) fun F10_ => ?_
  dsimp only [List.cons_append, List.nil_append]
  (with_reducible first|refine SpOp.eff rfl rfl rfl rfl rfl (Eff.x (Qx.build rfl) ?_)|refine SpOp.eff rfl rfl rfl rfl rfl (Eff.alloc fun _=>?_)|refine SpOp.eff rfl rfl rfl rfl rfl (Eff.box fun _=>?_)|refine SpOp.eff rfl rfl rfl rfl rfl (Eff.bslice rfl rfl fun _=>?_)|(refine SpOp.eff rfl rfl rfl rfl rfl (Eff.append1 rfl ?_ fun _=>?_);exact pre_)|refine SpOp.eff0 rfl rfl rfl rfl (Eff.store rfl rfl ?_)|(refine SpOp.eff0 rfl rfl rfl rfl (Eff.storeE rfl ?_ ?_);exact pre_))
  rename_i v'
  refine Sn.ok ?_
  refine god2 ?_
  refine Sg2.one (td := []) rfl (by kernel_rfl) fun F13_ => ?_
  dsimp only [List.cons_append, List.nil_append]
  (with_reducible first|refine SpOp.eff rfl rfl rfl rfl rfl (Eff.x (Qx.build rfl) ?_)|refine SpOp.eff rfl rfl rfl rfl rfl (Eff.alloc fun _=>?_)|refine SpOp.eff rfl rfl rfl rfl rfl (Eff.box fun _=>?_)|refine SpOp.eff rfl rfl rfl rfl rfl (Eff.bslice rfl rfl fun _=>?_)|(refine SpOp.eff rfl rfl rfl rfl rfl (Eff.append1 rfl ?_ fun _=>?_);exact pre_)|refine SpOp.eff0 rfl rfl rfl rfl (Eff.store rfl rfl ?_)|(refine SpOp.eff0 rfl rfl rfl rfl (Eff.storeE rfl ?_ ?_);exact pre_))
  refine Sn.ok ?_
  refine god2 ?_
  refine go ?_
  refine Dn.fin0 rfl fun w hs => ⟨(), rfl, trivial, hs.conv (ents.pk (v', x.2 ++ [⟨u, id⟩]) ⟨by simp [hx.1], by simp; omega⟩ ?_)⟩
  dsimp only [List.cons_append, List.nil_append]
  refine ents.cons (by exact tk_) (ents.cons (by exact tk_) (ents.rsnoc (Tk.pk (A := wtC ⟨u, id⟩ ⟨a, id⟩) rfl () rfl (by exact tkl_)) (by exact tk_) (by exact ent_)))
-- FN (*confidant/deck.Deck).Wait
theorem deck_Wait (p : Nat) (x : DX) (d : DK) (ws : List WT) (t : S_api_Task) (a : AT) (id : Int) (hl : ws.length < 1048576) :
    Sp Tryz.prog 16 [.pointer (some ⟨p, 0, none⟩), tV t, .int .i32 id] [deckH p x d, parkH x.pp ws, tkC t a] (fun _ : Unit => True) (fun _ => .tuple #[]) (fun _ => [deckH p x d, parkH x.pp (ws ++ [⟨a, id⟩])]) := by
  refine Sp.intro (n := 13) Tryz.func16 rfl rfl fun w0 R => ?_
  dsimp only [List.cons_append, List.nil_append, envOf]
  first | (with_reducible refine Cd.g ?_; refine Cd.pk (A := (deckH p x d)) rfl (by exact tk_) fun u hd => ?_) | (with_reducible refine Ol.g ?_; refine Ol.pk (A := (deckH p x d)) rfl (by exact tk_) fun u hd => ?_) | (with_reducible refine Dn.g ?_; refine Dn.pk (A := (deckH p x d)) rfl (by exact tk_) fun u hd => ?_)
  dsimp only [List.cons_append, List.nil_append]
  refine go ?_;repeat((with_reducible refine Ol.g ?_);(first|refine Ol.eff rfl rfl rfl (Eff.alloc fun _=>?_)|refine Ol.eff rfl rfl rfl (Eff.box fun _=>?_)|refine Ol.eff0 rfl rfl (Eff.store rfl rfl ?_)|refine Ol.eff rfl rfl rfl (Eff.bslice rfl rfl fun _=>?_)|(refine Ol.eff0 rfl rfl (Eff.storeE rfl ?_ ?_);exact pre_)|(refine Ol.eff rfl rfl rfl (Eff.append1 rfl ?_ fun _=>?_);exact pre_));refine go ?_)
  rename_i c
  refine Cd.draw2 [[], [0], [0, 1], [0, 1, 2], [], [], [0, 1, 2, 3, 4, 5]] [6] [] (td := [(0, .fresh), (1, .fresh), (2, .fresh), (3, .fresh), (4, .fresh), (5, .fresh)]) mixed (by kernel_rfl) (by kernel_rfl) (by decide) (by decide) rfl (by kernel_rfl) ?_
  refine god2 ?_
  refine Sg2.one (td := []) rfl (by kernel_rfl) fun F6_ => ?_
  dsimp only [List.cons_append, List.nil_append]
  refine SpOp.eff rfl rfl rfl rfl rfl (Eff.call (R := ?_) (park_Add x.pp ws t a id hl) rfl ?_ ?_)
  rotate_left
  · exact tkl_
  rintro _ -
  dsimp only [List.cons_append, List.nil_append]
  refine Sn.ok ?_
  refine god2 ?_
  refine go ?_
  refine Dn.fin0 rfl fun w hs => ⟨(), rfl, trivial, hs.conv (ents.pk () hd (by dsimp only [List.cons_append, List.nil_append]; exact ent_))⟩
def FS.doneB (f : FS) (id : Int) : Bool := f.inB id && decide ((f.get id).f_State ≠ 0)
-- FN confidant/park.done
theorem park_done (p : Nat) (f : FS) (id : Int) (h : -2147483648 ≤ id ∧ id ≤ 2147483647) :
    Sp Tryz.prog 95 [.pointer (some ⟨p, 0, none⟩), .int .i32 id] [futC p f] (fun _ : Unit => True) (fun _ => .bool (f.doneB id)) (fun _ => [futC p f]) := by
  refine Sp.intro (n := 21) Tryz.func95 rfl rfl fun w0 R => ?_
  dsimp only [List.cons_append, List.nil_append, envOf]
  refine go ?_
  with_reducible refine Ol.g ?_
  refine Ol.eff rfl rfl rfl (Eff.call (R := ?_) (fut_Get p f id h) rfl ?_ ?_)
  rotate_left
  · exact tkl_
  rintro _ -
  dsimp only [List.cons_append, List.nil_append]
  unfold FS.doneB
  cases e : f.inB id with
  | false =>
    dsimp only
    refine go ?_;repeat((with_reducible refine Ol.g ?_);(first|refine Ol.eff rfl rfl rfl (Eff.alloc fun _=>?_)|refine Ol.eff rfl rfl rfl (Eff.box fun _=>?_)|refine Ol.eff0 rfl rfl (Eff.store rfl rfl ?_)|refine Ol.eff rfl rfl rfl (Eff.bslice rfl rfl fun _=>?_)|(refine Ol.eff0 rfl rfl (Eff.storeE rfl ?_ ?_);exact pre_)|(refine Ol.eff rfl rfl rfl (Eff.append1 rfl ?_ fun _=>?_);exact pre_));refine go ?_)
    refine Dn.ret1 rfl rfl fun w hs => ⟨(), ?_, by trivial, by first | exact hs | (refine hs.conv ?_; exact ent_)⟩
    rfl
  | true =>
    dsimp only
    refine go ?_;repeat((with_reducible refine Ol.g ?_);(first|refine Ol.eff rfl rfl rfl (Eff.alloc fun _=>?_)|refine Ol.eff rfl rfl rfl (Eff.box fun _=>?_)|refine Ol.eff0 rfl rfl (Eff.store rfl rfl ?_)|refine Ol.eff rfl rfl rfl (Eff.bslice rfl rfl fun _=>?_)|(refine Ol.eff0 rfl rfl (Eff.storeE rfl ?_ ?_);exact pre_)|(refine Ol.eff rfl rfl rfl (Eff.append1 rfl ?_ fun _=>?_);exact pre_));refine go ?_)
    refine Dn.ret1 rfl rfl fun w hs => ⟨(), ?_, by trivial, by first | exact hs | (refine hs.conv ?_; exact ent_)⟩
    rfl
structure LK where
  woken : List AT
  starved : List AT
  stay : List WT
  left : Int
def lkStep (f : FS) (s : LK) (w : WT) : LK := if s.left = 0 then { s with starved := s.starved ++ [w.task] } else if f.doneB w.fut then { s with left := s.left - 1, woken := s.woken ++ [w.task] } else { s with left := s.left - 1, stay := s.stay ++ [w] }
def lkK (f : FS) (fuel : Int) (ws : List WT) (k : Nat) : LK := (ws.take k).foldl (lkStep f) ⟨[], [], [], imax fuel 0⟩
theorem lkK_succ (f : FS) (fuel : Int) (ws : List WT) {k : Nat} (h : k < ws.length) : lkK f fuel ws (k + 1) = lkStep f (lkK f fuel ws k) (rd ws k) := by
  unfold lkK; rw [take_rd h, List.foldl_append]; rfl
structure lkOk (s : LK) (k : Nat) : Prop where
  l : 0 ≤ s.left ∧ s.left ≤ 9223372036854775807
  a : s.woken.length + s.starved.length + s.stay.length = k
theorem lk_ok (f : FS) (fuel : Int) (ws : List WT) (hf : fuel ≤ 9223372036854775807) : ∀ k, k ≤ ws.length → lkOk (lkK f fuel ws k) k
  | 0, _ => ⟨by show 0 ≤ imax fuel 0 ∧ imax fuel 0 ≤ _; unfold imax; split <;> omega, rfl⟩
  | k + 1, h => by
    have I := lk_ok f fuel ws hf k (by omega)
    have i1 := I.l; have i2 := I.a
    rw [lkK_succ f fuel ws (by omega)]
    unfold lkStep
    split
    · exact ⟨i1, by simp; omega⟩
    · split
      · exact ⟨by dsimp only; omega, by simp; omega⟩
      · exact ⟨by dsimp only; omega, by simp; omega⟩
structure LX where
  k : Nat
  vw : Value
  tw : List S_api_Task
  vs : Value
  ts : List S_api_Task
  vy : Value
  ty : List S_park_Waiting
abbrev lkB (ws : List WT) : Prop := ∀ w, w ∈ ws → -2147483648 ≤ w.fut ∧ w.fut ≤ 2147483647
-- FN (*confidant/park.Park).Look
theorem park_Look (p fp : Nat) (ws : List WT) (f : FS) (fuel : Int) (hf : fuel ≤ 9223372036854775807) (hw : lkB ws) :
    Sp Tryz.prog 62 [.pointer (some ⟨p, 0, none⟩), .pointer (some ⟨fp, 0, none⟩), .int .i64 fuel] [parkH p ws, futC fp f] (fun y : LX => True) (fun y => .tuple #[y.vw, y.vs, .int .i64 (lkK f fuel ws ws.length).left])
      (fun y => [parkH p (lkK f fuel ws ws.length).stay, futC fp f, sl e_api_Task y.vw y.tw, rel2 tkC y.tw (lkK f fuel ws ws.length).woken, sl e_api_Task y.vs y.ts, rel2 tkC y.ts (lkK f fuel ws ws.length).starved]) := by
  refine Sp.intro (n := 59) Tryz.func62 rfl rfl fun w0 R => ?_
  dsimp only [List.cons_append, List.nil_append, envOf]
  first | (with_reducible refine Cd.g ?_; refine Cd.pk (A := (parkH p ws)) rfl (by exact tk_) fun x hx => ?_) | (with_reducible refine Ol.g ?_; refine Ol.pk (A := (parkH p ws)) rfl (by exact tk_) fun x hx => ?_) | (with_reducible refine Dn.g ?_; refine Dn.pk (A := (parkH p ws)) rfl (by exact tk_) fun x hx => ?_)
  dsimp only [List.cons_append, List.nil_append]
  refine go ?_
  refine Ol.eff rfl rfl rfl (Eff.appendR rfl ?_ fun u => ?_)
  · have := hx.2; simp; omega
  rw [List.nil_append]
  refine go ?_
  refine Cd.conv (ents.cutS (h := 0) (r := false) (E := e_park_Waiting) (v := u) (xs := x.2) (by exact tk_) (by simp) (ents.refl _)) ?_
  rw [List.take_zero, show Int.toNat 0 = 0 from rfl]
  refine Cd.loop (fun z : LX => z.k ≤ ws.length) (fun z => ws.length - z.k) (fun z => [(0, .pointer (some ⟨p, 0, none⟩)), (1, .pointer (some ⟨fp, 0, none⟩)), (6, z.vw), (7, z.vs), (8, .int .i64 (lkK f fuel ws z.k).left), (9, z.vy), (23, x.1), (24, .int .i64 x.2.length), (25, .int .i64 z.k)])
    (fun z => cel p 151 [x.1] :: sl e_park_Waiting x.1 x.2 :: rel2 wtC x.2 ws :: futC fp f :: sl e_api_Task z.vw z.tw :: rel2 tkC z.tw (lkK f fuel ws z.k).woken :: sl e_api_Task z.vs z.ts :: rel2 tkC z.ts (lkK f fuel ws z.k).starved :: sl e_park_Waiting z.vy z.ty :: rel2 wtC z.ty (lkK f fuel ws z.k).stay :: R)
    ⟨0, .slice none 0 0, [], .slice none 0 0, [], cutV u 0, []⟩ (by simp) ?_ ?_ ?_
  · repeat(first|exact Env.le_nil _|(refine Env.le_cons rfl ?_ ?_;first|rfl|(simp;done)|exact congrArg _ (by omega)|rotate_left))
  · dsimp only
    rw [show lkK f fuel ws 0 = ⟨[], [], [], imax fuel 0⟩ from rfl]
    exact ent_
  rintro ⟨k, vw, tw, vs, ts, vy, ty⟩ hk
  dsimp only at hk ⊢
  have I := lk_ok f fuel ws hf k hk
  have i1 := I.l; have i2 := I.a; have hx2 := hx.2
  refine go ?_
  refine Cd.condP rfl (fun h => ?_) (fun h => ?_)
  · have hk2 : k < ws.length := by omega
    have hs := lkK_succ f fuel ws hk2
    have hwk := hw (rd ws k) (rd_mem (by omega) (by omega))
    first | (with_reducible refine Cd.g ?_; refine Cd.know (fun w_ hw_ => rel2_len (Tk.sat (A := (rel2 tkC tw _)) (by exact tk_) hw_)) fun n1 => ?_) | (with_reducible refine Ol.g ?_; refine Ol.know (fun w_ hw_ => rel2_len (Tk.sat (A := (rel2 tkC tw _)) (by exact tk_) hw_)) fun n1 => ?_) | (with_reducible refine Dn.g ?_; refine Dn.know (fun w_ hw_ => rel2_len (Tk.sat (A := (rel2 tkC tw _)) (by exact tk_) hw_)) fun n1 => ?_)
    first | (with_reducible refine Cd.g ?_; refine Cd.know (fun w_ hw_ => rel2_len (Tk.sat (A := (rel2 tkC ts _)) (by exact tk_) hw_)) fun n2 => ?_) | (with_reducible refine Ol.g ?_; refine Ol.know (fun w_ hw_ => rel2_len (Tk.sat (A := (rel2 tkC ts _)) (by exact tk_) hw_)) fun n2 => ?_) | (with_reducible refine Dn.g ?_; refine Dn.know (fun w_ hw_ => rel2_len (Tk.sat (A := (rel2 tkC ts _)) (by exact tk_) hw_)) fun n2 => ?_)
    first | (with_reducible refine Cd.g ?_; refine Cd.know (fun w_ hw_ => rel2_len (Tk.sat (A := (rel2 wtC ty _)) (by exact tk_) hw_)) fun n3 => ?_) | (with_reducible refine Ol.g ?_; refine Ol.know (fun w_ hw_ => rel2_len (Tk.sat (A := (rel2 wtC ty _)) (by exact tk_) hw_)) fun n3 => ?_) | (with_reducible refine Dn.g ?_; refine Dn.know (fun w_ hw_ => rel2_len (Tk.sat (A := (rel2 wtC ty _)) (by exact tk_) hw_)) fun n3 => ?_)
    refine Cd.conv (Tk.more (p := rel2_pers (fun _ _ => inferInstance) _ _) (A := rel2 wtC x.2 ws) (rel2_gotI (i := k) (by omega) (by omega)) (by exact tk_)) ?_
    first | (with_reducible refine Cd.g ?_; refine Cd.pk (A := (wtC (rd x.2 k) (rd ws k))) rfl (by exact tk_) fun q hq => ?_) | (with_reducible refine Ol.g ?_; refine Ol.pk (A := (wtC (rd x.2 k) (rd ws k))) rfl (by exact tk_) fun q hq => ?_) | (with_reducible refine Dn.g ?_; refine Dn.pk (A := (wtC (rd x.2 k) (rd ws k))) rfl (by exact tk_) fun q hq => ?_)
    dsimp only [List.cons_append, List.nil_append]
    refine go ?_;repeat((with_reducible refine Ol.g ?_);(first|refine Ol.eff rfl rfl rfl (Eff.alloc fun _=>?_)|refine Ol.eff rfl rfl rfl (Eff.box fun _=>?_)|refine Ol.eff0 rfl rfl (Eff.store rfl rfl ?_)|refine Ol.eff rfl rfl rfl (Eff.bslice rfl rfl fun _=>?_)|(refine Ol.eff0 rfl rfl (Eff.storeE rfl ?_ ?_);exact pre_)|(refine Ol.eff rfl rfl rfl (Eff.append1 rfl ?_ fun _=>?_);exact pre_));refine go ?_)
    refine Cd.condP rfl (fun h2 => ?_) (fun h2 => ?_)
    · unfold lkStep at hs
      rw [if_pos h2] at hs
      refine go ?_;repeat((with_reducible refine Ol.g ?_);(first|refine Ol.eff rfl rfl rfl (Eff.alloc fun _=>?_)|refine Ol.eff rfl rfl rfl (Eff.box fun _=>?_)|refine Ol.eff0 rfl rfl (Eff.store rfl rfl ?_)|refine Ol.eff rfl rfl rfl (Eff.bslice rfl rfl fun _=>?_)|(refine Ol.eff0 rfl rfl (Eff.storeE rfl ?_ ?_);exact pre_)|(refine Ol.eff rfl rfl rfl (Eff.append1 rfl ?_ fun _=>?_);exact pre_));refine go ?_)
      rename_i vs'
      refine Dn.round ⟨k + 1, vw, tw, vs', ts ++ [(rd x.2 k).f_Task], vy, ty⟩ (by dsimp only; omega) (by dsimp only; omega) ?_ ?_
      · dsimp only; rw [hs]; repeat(first|exact Env.le_nil _|(refine Env.le_cons rfl ?_ ?_;first|rfl|(simp;done)|exact congrArg _ (by omega)|rotate_left))
      · dsimp only; rw [hs]; exact ent_
    refine go ?_;repeat((with_reducible refine Ol.g ?_);(first|refine Ol.eff rfl rfl rfl (Eff.alloc fun _=>?_)|refine Ol.eff rfl rfl rfl (Eff.box fun _=>?_)|refine Ol.eff0 rfl rfl (Eff.store rfl rfl ?_)|refine Ol.eff rfl rfl rfl (Eff.bslice rfl rfl fun _=>?_)|(refine Ol.eff0 rfl rfl (Eff.storeE rfl ?_ ?_);exact pre_)|(refine Ol.eff rfl rfl rfl (Eff.append1 rfl ?_ fun _=>?_);exact pre_));refine go ?_)
    rw [hq]
    with_reducible refine Ol.g ?_
    refine Ol.eff rfl rfl rfl (Eff.call (R := ?_) (park_done fp f (rd ws k).fut hwk) rfl ?_ ?_)
    rotate_left
    · exact tkl_
    rintro _ -
    dsimp only [List.cons_append, List.nil_append]
    unfold lkStep at hs
    rw [if_neg h2] at hs
    cases hdn : f.doneB (rd ws k).fut with
    | true =>
      rw [hdn, if_pos rfl] at hs
      refine go ?_;repeat((with_reducible refine Ol.g ?_);(first|refine Ol.eff rfl rfl rfl (Eff.alloc fun _=>?_)|refine Ol.eff rfl rfl rfl (Eff.box fun _=>?_)|refine Ol.eff0 rfl rfl (Eff.store rfl rfl ?_)|refine Ol.eff rfl rfl rfl (Eff.bslice rfl rfl fun _=>?_)|(refine Ol.eff0 rfl rfl (Eff.storeE rfl ?_ ?_);exact pre_)|(refine Ol.eff rfl rfl rfl (Eff.append1 rfl ?_ fun _=>?_);exact pre_));refine go ?_)
      rename_i vw'
      refine Dn.round ⟨k + 1, vw', tw ++ [(rd x.2 k).f_Task], vs, ts, vy, ty⟩ (by dsimp only; omega) (by dsimp only; omega) ?_ ?_
      · dsimp only; rw [hs]; repeat(first|exact Env.le_nil _|(refine Env.le_cons rfl ?_ ?_;first|rfl|(simp;done)|exact congrArg _ (by omega)|rotate_left))
      · dsimp only; rw [hs]; exact ent_
    | false =>
      rw [hdn, if_neg (by simp)] at hs
      refine go ?_;repeat((with_reducible refine Ol.g ?_);(first|refine Ol.eff rfl rfl rfl (Eff.alloc fun _=>?_)|refine Ol.eff rfl rfl rfl (Eff.box fun _=>?_)|refine Ol.eff0 rfl rfl (Eff.store rfl rfl ?_)|refine Ol.eff rfl rfl rfl (Eff.bslice rfl rfl fun _=>?_)|(refine Ol.eff0 rfl rfl (Eff.storeE rfl ?_ ?_);exact pre_)|(refine Ol.eff rfl rfl rfl (Eff.append1 rfl ?_ fun _=>?_);exact pre_));refine go ?_)
      rename_i vy'
      refine Dn.round ⟨k + 1, vw, tw, vs, ts, vy', ty ++ [⟨(rd x.2 k).f_Task, (rd ws k).fut⟩]⟩ (by dsimp only; omega) (by dsimp only; omega) ?_ ?_
      · dsimp only; rw [hs]; repeat(first|exact Env.le_nil _|(refine Env.le_cons rfl ?_ ?_;first|rfl|(simp;done)|exact congrArg _ (by omega)|rotate_left))
      · dsimp only; rw [hs]
        exact ents.cons (by exact tk_) (ents.cons (by exact tk_) (ents.cons (by exact tk_) (ents.cons (by exact tk_) (ents.cons (by exact tk_) (ents.cons (by exact tk_) (ents.cons (by exact tk_) (ents.cons (by exact tk_) (ents.cons (by exact tk_) (ents.rsnoc (Tk.pk (A := wtC ⟨(rd x.2 k).f_Task, (rd ws k).fut⟩ (rd ws k)) rfl () rfl (by exact tkl_)) (by exact tk_) (by exact ent_))))))))))
  · have hkk : k = ws.length := by omega
    subst hkk
    first | (with_reducible refine Cd.g ?_; refine Cd.know (fun w_ hw_ => rel2_len (Tk.sat (A := (rel2 wtC ty _)) (by exact tk_) hw_)) fun n3 => ?_) | (with_reducible refine Ol.g ?_; refine Ol.know (fun w_ hw_ => rel2_len (Tk.sat (A := (rel2 wtC ty _)) (by exact tk_) hw_)) fun n3 => ?_) | (with_reducible refine Dn.g ?_; refine Dn.know (fun w_ hw_ => rel2_len (Tk.sat (A := (rel2 wtC ty _)) (by exact tk_) hw_)) fun n3 => ?_)
    first | (with_reducible refine Cd.g ?_; refine Cd.know (fun w_ hw_ => one_sl (Tk.sat (A := (sl e_park_Waiting vy ty)) (by exact tk_) hw_)) fun o1 => ?_) | (with_reducible refine Ol.g ?_; refine Ol.know (fun w_ hw_ => one_sl (Tk.sat (A := (sl e_park_Waiting vy ty)) (by exact tk_) hw_)) fun o1 => ?_) | (with_reducible refine Dn.g ?_; refine Dn.know (fun w_ hw_ => one_sl (Tk.sat (A := (sl e_park_Waiting vy ty)) (by exact tk_) hw_)) fun o1 => ?_)
    refine go ?_;repeat((with_reducible refine Ol.g ?_);(first|refine Ol.eff rfl rfl rfl (Eff.alloc fun _=>?_)|refine Ol.eff rfl rfl rfl (Eff.box fun _=>?_)|refine Ol.eff0 rfl rfl (Eff.store rfl rfl ?_)|refine Ol.eff rfl rfl rfl (Eff.bslice rfl rfl fun _=>?_)|(refine Ol.eff0 rfl rfl (Eff.storeE rfl ?_ ?_);exact pre_)|(refine Ol.eff rfl rfl rfl (Eff.append1 rfl ?_ fun _=>?_);exact pre_));refine go ?_)
    refine Dn.ret3 rfl rfl rfl rfl fun w hs => ⟨⟨0, vw, tw, vs, ts, vy, ty⟩, rfl, trivial, hs.conv (ents.pk (vy, ty) ⟨n3, by omega⟩ (by dsimp only [List.cons_append, List.nil_append]; exact ent_))⟩
structure PU where
  d : DK
  ev : List S_api_Event
  over : List AT
def DK.home (d : DK) (w : Int) : Int := match d.hasB w with | true => w | false => 0
def puStep (round kind : Int) (s : PU) (a : AT) : PU := ⟨s.d.push (s.d.home a.worker) a, s.ev ++ [evOf s.d.label round kind a], match s.d.pushB (s.d.home a.worker) with | true => s.over | false => s.over ++ [a]⟩
def puK (round kind : Int) (d : DK) (l : List AT) (k : Nat) : PU := (l.take k).foldl (puStep round kind) ⟨d, [], []⟩
theorem puK_succ (round kind : Int) (d : DK) (l : List AT) {k : Nat} (h : k < l.length) : puK round kind d l (k + 1) = puStep round kind (puK round kind d l k) (rd l k) := by
  unfold puK; rw [take_rd h, List.foldl_append]; rfl
theorem push_label (d : DK) (w : Int) (a : AT) : (d.push w a).label = d.label := by unfold DK.push; split <;> rfl
structure puOk (s : PU) (k : Nat) : Prop where
  e : s.ev.length = k
  o : s.over.length ≤ k
theorem pu_ok (round kind : Int) (d : DK) (l : List AT) : ∀ k, k ≤ l.length → puOk (puK round kind d l k) k
  | 0, _ => ⟨rfl, Nat.le_refl 0⟩
  | k + 1, h => by
    have I := pu_ok round kind d l k (by omega)
    have i1 := I.e; have i2 := I.o
    rw [puK_succ round kind d l (by omega)]
    unfold puStep
    refine ⟨by simp [i1], ?_⟩
    dsimp only
    split
    · omega
    · simp; omega
structure PX where
  k : Nat
  ve : Value
  vo : Value
  to : List S_api_Task
-- FN (*confidant/deck.Deck).put
theorem deck_put (p : Nat) (x : DX) (d : DK) (v : Value) (ts : List S_api_Task) (l : List AT) (round kind : Int) (hl : l.length ≤ 1048576) :
    Sp Tryz.prog 55 [.pointer (some ⟨p, 0, none⟩), v, .int .i64 round, .int .i64 kind] [deckH p x d, sl e_api_Task v ts, rel2 tkC ts l] (fun y : PX => True) (fun y => .tuple #[y.ve, y.vo])
      (fun y => [deckH p x (puK round kind d l l.length).d, sl e_api_Event y.ve (puK round kind d l l.length).ev, sl e_api_Task y.vo y.to, rel2 tkC y.to (puK round kind d l l.length).over]) := by
  refine Sp.intro (n := 47) Tryz.func55 rfl rfl fun w0 R => ?_
  dsimp only [List.cons_append, List.nil_append, envOf]
  first | (with_reducible refine Cd.g ?_; refine Cd.know (fun w_ hw_ => rel2_len (Tk.sat (A := (rel2 tkC ts l)) (by exact tk_) hw_)) fun hl2 => ?_) | (with_reducible refine Ol.g ?_; refine Ol.know (fun w_ hw_ => rel2_len (Tk.sat (A := (rel2 tkC ts l)) (by exact tk_) hw_)) fun hl2 => ?_) | (with_reducible refine Dn.g ?_; refine Dn.know (fun w_ hw_ => rel2_len (Tk.sat (A := (rel2 tkC ts l)) (by exact tk_) hw_)) fun hl2 => ?_)
  refine go ?_
  refine Cd.loop (fun z : PX => z.k ≤ l.length) (fun z => l.length - z.k) (fun z => [(0, .pointer (some ⟨p, 0, none⟩)), (2, .int .i64 round), (3, .int .i64 kind), (10, z.ve), (11, z.vo), (15, v), (16, .int .i64 ts.length), (17, .int .i64 z.k)])
    (fun z => deckH p x (puK round kind d l z.k).d :: sl e_api_Task v ts :: rel2 tkC ts l :: sl e_api_Event z.ve (puK round kind d l z.k).ev :: sl e_api_Task z.vo z.to :: rel2 tkC z.to (puK round kind d l z.k).over :: R) ⟨0, .slice none 0 0, .slice none 0 0, []⟩ (by simp) ?_ ?_ ?_
  · repeat(first|exact Env.le_nil _|(refine Env.le_cons rfl ?_ ?_;first|rfl|(simp;done)|exact congrArg _ (by omega)|rotate_left))
  · dsimp only
    rw [show puK round kind d l 0 = ⟨d, [], []⟩ from rfl]
    exact ent_
  rintro ⟨k, ve, vo, to⟩ hk
  dsimp only at hk ⊢
  have I := pu_ok round kind d l k hk
  have i1 := I.e; have i2 := I.o
  refine go ?_
  refine Cd.condP rfl (fun h => ?_) (fun h => ?_)
  · have hk2 : k < l.length := by omega
    have hs := puK_succ round kind d l hk2
    generalize hst : puK round kind d l k = st at hs i1 i2 ⊢
    first | (with_reducible refine Cd.g ?_; refine Cd.know (fun w_ hw_ => rel2_len (Tk.sat (A := (rel2 tkC to _)) (by exact tk_) hw_)) fun n1 => ?_) | (with_reducible refine Ol.g ?_; refine Ol.know (fun w_ hw_ => rel2_len (Tk.sat (A := (rel2 tkC to _)) (by exact tk_) hw_)) fun n1 => ?_) | (with_reducible refine Dn.g ?_; refine Dn.know (fun w_ hw_ => rel2_len (Tk.sat (A := (rel2 tkC to _)) (by exact tk_) hw_)) fun n1 => ?_)
    refine Cd.conv (Tk.more (p := rel2_pers (fun _ _ => inferInstance) _ _) (A := rel2 tkC ts l) (rel2_gotI (i := k) (by omega) (by omega)) (by exact tk_)) ?_
    first | (with_reducible refine Cd.g ?_; refine Cd.know (fun w_ hw_ => tkC_ok (Tk.sat (A := (tkC (rd ts k) (rd l k))) (by exact tk_) hw_)) fun ht => ?_) | (with_reducible refine Ol.g ?_; refine Ol.know (fun w_ hw_ => tkC_ok (Tk.sat (A := (tkC (rd ts k) (rd l k))) (by exact tk_) hw_)) fun ht => ?_) | (with_reducible refine Dn.g ?_; refine Dn.know (fun w_ hw_ => tkC_ok (Tk.sat (A := (tkC (rd ts k) (rd l k))) (by exact tk_) hw_)) fun ht => ?_)
    have ew : (rd ts k).f_Worker = (rd l k).worker := congrArg AT.worker ht.1
    first | (with_reducible refine Cd.g ?_; refine Cd.pk (A := (deckH p x st.d)) rfl (by exact tk_) fun q hd => ?_) | (with_reducible refine Ol.g ?_; refine Ol.pk (A := (deckH p x st.d)) rfl (by exact tk_) fun q hd => ?_) | (with_reducible refine Dn.g ?_; refine Dn.pk (A := (deckH p x st.d)) rfl (by exact tk_) fun q hd => ?_)
    dsimp only [List.cons_append, List.nil_append]
    refine go ?_;repeat((with_reducible refine Ol.g ?_);(first|refine Ol.eff rfl rfl rfl (Eff.alloc fun _=>?_)|refine Ol.eff rfl rfl rfl (Eff.box fun _=>?_)|refine Ol.eff0 rfl rfl (Eff.store rfl rfl ?_)|refine Ol.eff rfl rfl rfl (Eff.bslice rfl rfl fun _=>?_)|(refine Ol.eff0 rfl rfl (Eff.storeE rfl ?_ ?_);exact pre_)|(refine Ol.eff rfl rfl rfl (Eff.append1 rfl ?_ fun _=>?_);exact pre_));refine go ?_)
    with_reducible refine Ol.g ?_
    refine Ol.eff rfl rfl rfl (Eff.call (R := ?_) (deck_event p x st.d round kind (rd ts k) (rd l k)) rfl ?_ ?_)
    rotate_left
    · exact tkl_
    rintro _ -
    dsimp only [List.cons_append, List.nil_append]
    refine go ?_;repeat((with_reducible refine Ol.g ?_);(first|refine Ol.eff rfl rfl rfl (Eff.alloc fun _=>?_)|refine Ol.eff rfl rfl rfl (Eff.box fun _=>?_)|refine Ol.eff0 rfl rfl (Eff.store rfl rfl ?_)|refine Ol.eff rfl rfl rfl (Eff.bslice rfl rfl fun _=>?_)|(refine Ol.eff0 rfl rfl (Eff.storeE rfl ?_ ?_);exact pre_)|(refine Ol.eff rfl rfl rfl (Eff.append1 rfl ?_ fun _=>?_);exact pre_));refine go ?_)
    rename_i c u0 ve0 ve'
    with_reducible refine Ol.g ?_
    refine Ol.eff rfl rfl rfl (Eff.call (R := ?_) (deck_has p x st.d (rd ts k).f_Worker hd) rfl ?_ ?_)
    rotate_left
    · exact tkl_
    rintro _ -
    dsimp only [List.cons_append, List.nil_append]
    refine go ?_
    refine Cd.cut (α := Unit) (fun _ => [(0, .pointer (some ⟨p, 0, none⟩)), (2, .int .i64 round), (3, .int .i64 kind), (10, ve'), (11, vo), (13, .pointer (some ⟨c, 0, none⟩)), (14, .int .i64 (st.d.home (rd l k).worker)), (15, v), (16, .int .i64 ts.length), (17, .int .i64 k)])
      (fun _ => cel c 45 (tC (rd ts k)) :: tkC (rd ts k) (rd l k) :: deckH p x st.d :: sl e_api_Task v ts :: rel2 tkC ts l :: sl e_api_Event ve' (st.ev ++ [evOf st.d.label round kind (rd l k)]) :: sl e_api_Task vo to :: rel2 tkC to st.over :: R) (fun K kk => ?_) ?_
    · cases hb : st.d.hasB (rd ts k).f_Worker with
      | true =>
        refine go ?_
        refine Dn.weak ?_ (ents.cons (by exact tk_) (ents.cons (by exact tk_) (ents.pk () hd (by dsimp only [List.cons_append, List.nil_append]; exact ent_)))) (kk ())
        rw [show st.d.home (rd l k).worker = (rd ts k).f_Worker from by rw [← ew]; unfold DK.home; rw [hb]]
        repeat(first|exact Env.le_nil _|(refine Env.le_cons rfl ?_ ?_;first|rfl|(simp;done)|exact congrArg _ (by omega)|rotate_left))
      | false =>
        refine go ?_
        refine Dn.weak ?_ (ents.cons (by exact tk_) (ents.cons (by exact tk_) (ents.pk () hd (by dsimp only [List.cons_append, List.nil_append]; exact ent_)))) (kk ())
        rw [show st.d.home (rd l k).worker = 0 from by rw [← ew]; unfold DK.home; rw [hb]]
        repeat(first|exact Env.le_nil _|(refine Env.le_cons rfl ?_ ?_;first|rfl|(simp;done)|exact congrArg _ (by omega)|rotate_left))
    rintro -
    unfold puStep at hs
    generalize st.d.home (rd l k).worker = w at hs ⊢
    refine go ?_;repeat((with_reducible refine Ol.g ?_);(first|refine Ol.eff rfl rfl rfl (Eff.alloc fun _=>?_)|refine Ol.eff rfl rfl rfl (Eff.box fun _=>?_)|refine Ol.eff0 rfl rfl (Eff.store rfl rfl ?_)|refine Ol.eff rfl rfl rfl (Eff.bslice rfl rfl fun _=>?_)|(refine Ol.eff0 rfl rfl (Eff.storeE rfl ?_ ?_);exact pre_)|(refine Ol.eff rfl rfl rfl (Eff.append1 rfl ?_ fun _=>?_);exact pre_));refine go ?_)
    with_reducible refine Ol.g ?_
    refine Ol.eff rfl rfl rfl (Eff.call (R := ?_) (deck_Push p x st.d w (rd ts k) (rd l k)) rfl ?_ ?_)
    rotate_left
    · exact tkl_
    rintro _ -
    dsimp only [List.cons_append, List.nil_append]
    cases hp : st.d.pushB w with
    | true =>
      rw [hp] at hs
      refine go ?_
      refine Dn.round ⟨k + 1, ve', vo, to⟩ (by dsimp only; omega) (by dsimp only; omega) ?_ ?_
      · repeat(first|exact Env.le_nil _|(refine Env.le_cons rfl ?_ ?_;first|rfl|(simp;done)|exact congrArg _ (by omega)|rotate_left))
      · dsimp only; rw [hs]; exact ent_
    | false =>
      rw [hp] at hs
      refine go ?_;repeat((with_reducible refine Ol.g ?_);(first|refine Ol.eff rfl rfl rfl (Eff.alloc fun _=>?_)|refine Ol.eff rfl rfl rfl (Eff.box fun _=>?_)|refine Ol.eff0 rfl rfl (Eff.store rfl rfl ?_)|refine Ol.eff rfl rfl rfl (Eff.bslice rfl rfl fun _=>?_)|(refine Ol.eff0 rfl rfl (Eff.storeE rfl ?_ ?_);exact pre_)|(refine Ol.eff rfl rfl rfl (Eff.append1 rfl ?_ fun _=>?_);exact pre_));refine go ?_)
      rename_i vo'
      refine Dn.round ⟨k + 1, ve', vo', to ++ [rd ts k]⟩ (by dsimp only; omega) (by dsimp only; omega) ?_ ?_
      · repeat(first|exact Env.le_nil _|(refine Env.le_cons rfl ?_ ?_;first|rfl|(simp;done)|exact congrArg _ (by omega)|rotate_left))
      · dsimp only; rw [hs]; exact ent_
  · have hkk : k = l.length := by omega
    subst hkk
    refine go ?_
    refine Dn.ret2 rfl rfl rfl fun w hs => ⟨⟨0, ve, vo, to⟩, rfl, trivial, hs.conv (by exact ent_)⟩
structure WR where
  d : DK
  ws : List WT
  ev : List S_api_Event
  over : List AT
  starved : List AT
def DK.wake (d : DK) (ws : List WT) (f : FS) (round : Int) : WR :=
  let k := lkK f d.fuel ws ws.length
  let u := puK round 5 (d.setF k.left) k.woken k.woken.length
  ⟨u.d, k.stay, u.ev, u.over, k.starved⟩
structure WY where
  ve : Value
  vo : Value
  to : List S_api_Task
  vs : Value
  ts : List S_api_Task
-- FN (*confidant/deck.Deck).Wake
theorem deck_Wake (p fp : Nat) (x : DX) (d : DK) (ws : List WT) (f : FS) (round : Int) (hf : d.fuel ≤ 9223372036854775807) (hw : lkB ws) (hl : ws.length ≤ 1048576) :
    Sp Tryz.prog 25 [.pointer (some ⟨p, 0, none⟩), .pointer (some ⟨fp, 0, none⟩), .int .i64 round] [deckH p x d, parkH x.pp ws, futC fp f] (fun y : WY => True) (fun y => .tuple #[y.ve, y.vo, y.vs])
      (fun y => [deckH p x (d.wake ws f round).d, parkH x.pp (d.wake ws f round).ws, futC fp f, sl e_api_Event y.ve (d.wake ws f round).ev, sl e_api_Task y.vo y.to, rel2 tkC y.to (d.wake ws f round).over, sl e_api_Task y.vs y.ts, rel2 tkC y.ts (d.wake ws f round).starved]) := by
  have I := (lk_ok f d.fuel ws hf ws.length (Nat.le_refl _)).a
  refine Sp.intro (n := 42) Tryz.func25 rfl rfl fun w0 R => ?_
  dsimp only [List.cons_append, List.nil_append, envOf]
  first | (with_reducible refine Cd.g ?_; refine Cd.pk (A := (deckH p x d)) rfl (by exact tk_) fun u hd => ?_) | (with_reducible refine Ol.g ?_; refine Ol.pk (A := (deckH p x d)) rfl (by exact tk_) fun u hd => ?_) | (with_reducible refine Dn.g ?_; refine Dn.pk (A := (deckH p x d)) rfl (by exact tk_) fun u hd => ?_)
  dsimp only [List.cons_append, List.nil_append]
  refine go ?_
  refine Cd.forget 9 rfl ?_
  refine Cd.forget 10 rfl ?_
  refine Cd.drawL (l := [_, _, _, _, _, _, _, _, _, _, _, _, _, _, _, _]) (z := _) [[], [0], [0, 1], [0, 1, 2], [], [], [5], [5, 6], [5, 6, 7], [0, 1, 2, 3, 4, 5, 6, 7, 8], [0, 1, 2, 3, 4, 5, 6, 7, 8, 9], [0, 1, 2, 3, 4, 5, 6, 7, 8, 9, 10], [0, 1, 2, 3, 4, 5, 6, 7, 8, 9, 10], [0, 1, 2, 3, 4, 5, 6, 7, 8, 9, 10], [0, 1, 2, 3, 4, 5, 6, 7, 8, 9, 10, 11], [0, 1, 2, 3, 4, 5, 6, 7, 8, 9, 10, 11, 12, 14]] [9] [] (td := [(0, .fresh), (1, .fresh), (2, .fresh), (3, .fresh), (4, .fresh), (5, .fresh), (6, .fresh), (7, .fresh), (8, .fresh)]) rfl mixed (by kernel_rfl) (by kernel_rfl) (by kernel_rfl) (by decide) (by decide) rfl (by kernel_rfl) ?_
  refine god2 ?_
  refine Sg2.one (td := [(10, .fresh), (11, .fresh), (12, .fresh), (13, .fresh), (14, .fresh), (15, .fresh)]) rfl (by kernel_rfl) fun F9_ => ?_
  dsimp only [List.cons_append, List.nil_append]
  refine SpOp.eff rfl rfl rfl rfl rfl (Eff.call (R := ?_) (park_Look x.pp fp ws f d.fuel hf hw) rfl ?_ ?_)
  rotate_left
  · exact tkl_
  rintro ⟨k, vw, tw, vs, ts, vy, ty⟩ -
  dsimp only [List.cons_append, List.nil_append]
  refine Sn.ok ?_
  refine god2 ?_
  unfold DK.wake
  generalize lkK f d.fuel ws ws.length = s at I ⊢
  refine go ?_;repeat((with_reducible refine Ol.g ?_);(first|refine Ol.eff rfl rfl rfl (Eff.alloc fun _=>?_)|refine Ol.eff rfl rfl rfl (Eff.box fun _=>?_)|refine Ol.eff0 rfl rfl (Eff.store rfl rfl ?_)|refine Ol.eff rfl rfl rfl (Eff.bslice rfl rfl fun _=>?_)|(refine Ol.eff0 rfl rfl (Eff.storeE rfl ?_ ?_);exact pre_)|(refine Ol.eff rfl rfl rfl (Eff.append1 rfl ?_ fun _=>?_);exact pre_));refine go ?_)
  refine Ol.conv (H' := deckH p x (d.setF s.left) :: parkH x.pp s.stay :: futC fp f :: sl e_api_Task vw tw :: rel2 tkC tw s.woken :: sl e_api_Task vs ts :: rel2 tkC ts s.starved :: R) (ents.pk () hd (by dsimp only [DK.setF, List.cons_append, List.nil_append]; exact ent_)) ?_
  with_reducible refine Ol.g ?_
  refine Ol.eff rfl rfl rfl (Eff.call (R := ?_) (deck_put p x (d.setF s.left) vw tw s.woken round 5 (by omega)) rfl ?_ ?_)
  rotate_left
  · exact tkl_
  rintro ⟨k2, ve, vo, to⟩ -
  dsimp only [List.cons_append, List.nil_append]
  refine go ?_
  refine Dn.ret3 rfl rfl rfl rfl fun w hs => ⟨⟨ve, vo, to, vs, ts⟩, rfl, trivial, hs.conv (by exact ent_)⟩
end Go.Proofs.YtihmbmoeedojoaaGreat

