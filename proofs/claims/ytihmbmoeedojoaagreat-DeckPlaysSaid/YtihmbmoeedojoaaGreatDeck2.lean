/- Contracts of functions of the program, proved in a small separation logic. Conditions: those that each theorem states. -/
import Derived.Test.YtihmbmoeedojoaaGreatDeck1
namespace Go.Proofs.YtihmbmoeedojoaaGreat
open Go Go.Sl
set_option maxHeartbeats 4000000
set_option maxRecDepth 100000
set_option linter.unusedVariables false
/-! Tasks, as plain data; the chunk that says which task a value is. -/
structure AT where
  id : Int
  func : Int
  pc : Int
  stack : List Int
  v0 : Int
  v1 : Int
  v2 : Int
  v3 : Int
  label : Int
  clear : Int
  privs : Int
  worker : Int
  deriving DecidableEq
instance : Dfl AT := ⟨⟨0, 0, 0, [], 0, 0, 0, 0, 0, 0, 0, 0⟩⟩
def taskOf (t : S_api_Task) (s : List Int) : AT := ⟨t.f_Id, t.f_Func, t.f_Pc, s, t.f_Vars0, t.f_Vars1, t.f_Vars2, t.f_Vars3, t.f_Label, t.f_Clear, t.f_Privs, t.f_Worker⟩
structure AT.ok (a : AT) : Prop where
  st : a.stack.length ≤ 1000000
  pc : -1099511627776 ≤ a.pc ∧ a.pc ≤ 1099511627776
abbrev tV (t : S_api_Task) : Value := .agg #[.int .i32 t.f_Id, .int .i64 t.f_Func, .int .i64 t.f_Pc, t.f_Stack, .int .i32 t.f_Vars0, .int .i32 t.f_Vars1, .int .i32 t.f_Vars2, .int .i32 t.f_Vars3, .int .i64 t.f_Label, .int .i64 t.f_Clear, .int .u32 t.f_Privs, .int .i64 t.f_Worker]
abbrev tC (t : S_api_Task) : List Value := [.int .i32 t.f_Id, .int .i64 t.f_Func, .int .i64 t.f_Pc, t.f_Stack, .int .i32 t.f_Vars0, .int .i32 t.f_Vars1, .int .i32 t.f_Vars2, .int .i32 t.f_Vars3, .int .i64 t.f_Label, .int .i64 t.f_Clear, .int .u32 t.f_Privs, .int .i64 t.f_Worker]
def tkC (t : S_api_Task) (a : AT) : HProp := pk (fun _ : Unit => taskOf t a.stack = a ∧ a.ok) (fun _ => [rsl (eInt .i32) t.f_Stack a.stack])
instance (t : S_api_Task) (a : AT) : Pers (tkC t a) := Pers.ex fun _ => inferInstance
abbrev zT : S_api_Task := ⟨0, 0, 0, .slice none 0 0, 0, 0, 0, 0, 0, 0, 0, 0⟩
abbrev zA : AT := ⟨0, 0, 0, [], 0, 0, 0, 0, 0, 0, 0, 0⟩
theorem zA_ok : zA.ok := ⟨by decide, by decide⟩
theorem ents.tk0 {t : S_api_Task} {a : AT} (h : taskOf t a.stack = a) (ho : a.ok) (hs : t.f_Stack = .slice none 0 0) (h0 : a.stack = []) {H L : List HProp} (k : ents H L) : ents H (tkC t a :: L) :=
  ents.pk (p := fun _ : Unit => taskOf t a.stack = a ∧ a.ok) (L := fun _ => [rsl (eInt .i32) t.f_Stack a.stack]) () ⟨h, ho⟩ (by rw [hs, h0]; exact went.trans k (went.of (slB_nil true _ _)))
theorem went_one (B : HProp) : went B (stars [B]) := (went.of (emp_star B)).trans (went.of (star_comm emp B))
theorem went_one' (B : HProp) : went (stars [B]) B := (went.of (star_comm B emp)).trans (went.right _ _)
instance : Free (tkC zT zA) := ⟨fun B => (went_one B).trans (went.trans (show went (stars [B]) (star (tkC zT zA) (stars [B])) from ents.tk0 (t := zT) (a := zA) (H := [B]) (L := [B]) rfl zA_ok rfl rfl (ents.refl _)) (went.star (went.refl _) (went_one' B)))⟩
theorem tkC_ok {t : S_api_Task} {a : AT} {w : World} (h : sat w (tkC t a)) : taskOf t a.stack = a ∧ a.ok := by
  obtain ⟨_, _, _, f, g, _, _, hp, _⟩ := h; exact hp
theorem tkC_one {t : S_api_Task} {a : AT} {w : World} (h : sat w (tkC t a)) : One t.f_Stack := by
  obtain ⟨hh, hl, _, f, g, k, rfl, hp, f2, g2, k2, rfl, ha, _⟩ := h
  exact one_sl ⟨_, fun b r o e => hl b r o (Hp.add_right k (Hp.add_left e)), ha⟩
/-- A task's stack is a slice. -/
class TkIn (H : List HProp) (t : S_api_Task) : Prop where one : ∀ w, sat w (stars H) → One t.f_Stack
instance TkIn.tl (A : HProp) (H : List HProp) (t : S_api_Task) [h : TkIn H t] : TkIn (A :: H) t := ⟨fun w hw => h.one w hw.right⟩
instance TkIn.hd (H : List HProp) (t : S_api_Task) (a : AT) : TkIn (tkC t a :: H) t := ⟨fun w hw => tkC_one hw.left⟩
instance Fl1.tk (H : List HProp) (t : S_api_Task) [h : TkIn H t] : Fl1 H t.f_Stack := ⟨fun w hw => let o := h.one w hw; ⟨o.one, cells_one o.one⟩⟩
-- FN confidant/ring.copied
theorem ring_copy (t : S_api_Task) (a : AT) :
    Sp Tryz.prog 85 [tV t] [tkC t a] (fun _ : S_api_Task => True) (fun u => tV u) (fun u => [tkC u a]) := by
  refine Sp.intro (n := 11) Tryz.func85 rfl rfl fun w0 R => ?_
  dsimp only [List.cons_append, List.nil_append, envOf]
  first | (with_reducible refine Cd.g ?_; refine Cd.pk (A := (tkC t a)) rfl (by exact tk_) fun x hx => ?_) | (with_reducible refine Ol.g ?_; refine Ol.pk (A := (tkC t a)) rfl (by exact tk_) fun x hx => ?_) | (with_reducible refine Dn.g ?_; refine Dn.pk (A := (tkC t a)) rfl (by exact tk_) fun x hx => ?_)
  dsimp only [List.cons_append, List.nil_append]
  have ho := hx.2; have hpc := ho.pc; have e1 : t.f_Pc = a.pc := congrArg AT.pc hx.1
  refine go ?_;repeat((with_reducible refine Ol.g ?_);(first|refine Ol.eff rfl rfl rfl (Eff.alloc fun _=>?_)|refine Ol.eff rfl rfl rfl (Eff.box fun _=>?_)|refine Ol.eff0 rfl rfl (Eff.store rfl rfl ?_)|refine Ol.eff rfl rfl rfl (Eff.bslice rfl rfl fun _=>?_)|(refine Ol.eff0 rfl rfl (Eff.storeE rfl ?_ ?_);exact pre_)|(refine Ol.eff rfl rfl rfl (Eff.append1 rfl ?_ fun _=>?_);exact pre_));refine go ?_)
  with_reducible refine Ol.g ?_
  refine Ol.eff rfl rfl rfl (Eff.call (R := ?_) (task_Drop0 true t a.stack ho.st (by rw [e1]; unfold in64; omega)) rfl ?_ ?_)
  rotate_left
  · exact tkl_
  rintro v' -
  dsimp only [List.cons_append, List.nil_append]
  first | (with_reducible refine Cd.g ?_; refine Cd.know (fun w_ hw_ => one_sl (Tk.sat (A := (sl (eInt .i32) v' _)) (by exact tk_) hw_)) fun o1 => ?_) | (with_reducible refine Ol.g ?_; refine Ol.know (fun w_ hw_ => one_sl (Tk.sat (A := (sl (eInt .i32) v' _)) (by exact tk_) hw_)) fun o1 => ?_) | (with_reducible refine Dn.g ?_; refine Dn.know (fun w_ hw_ => one_sl (Tk.sat (A := (sl (eInt .i32) v' _)) (by exact tk_) hw_)) fun o1 => ?_)
  first | (with_reducible refine Cd.g ?_; refine Cd.share (A := (sl (eInt .i32) v' _)) (by exact tk_) ?_) | (with_reducible refine Ol.g ?_; refine Ol.share (A := (sl (eInt .i32) v' _)) (by exact tk_) ?_) | (with_reducible refine Dn.g ?_; refine Dn.share (A := (sl (eInt .i32) v' _)) (by exact tk_) ?_)
  refine go ?_;repeat((with_reducible refine Ol.g ?_);(first|refine Ol.eff rfl rfl rfl (Eff.alloc fun _=>?_)|refine Ol.eff rfl rfl rfl (Eff.box fun _=>?_)|refine Ol.eff0 rfl rfl (Eff.store rfl rfl ?_)|refine Ol.eff rfl rfl rfl (Eff.bslice rfl rfl fun _=>?_)|(refine Ol.eff0 rfl rfl (Eff.storeE rfl ?_ ?_);exact pre_)|(refine Ol.eff rfl rfl rfl (Eff.append1 rfl ?_ fun _=>?_);exact pre_));refine go ?_)
  refine Dn.retC rfl rfl trivial fun w hs => ⟨⟨t.f_Id, t.f_Func, t.f_Pc, v', t.f_Vars0, t.f_Vars1, t.f_Vars2, t.f_Vars3, t.f_Label, t.f_Clear, t.f_Privs, t.f_Worker⟩, rfl, trivial, hs.conv (ents.pk () ⟨hx.1, hx.2⟩ (show ents _ (slB true (eInt .i32) v' a.stack :: R) from by exact ent_))⟩
-- FN (*confidant/ring.Ring).at
theorem ring_at (p : Nat) (v : Value) (top n i : Int) (l : List S_api_Task) (h0 : 0 ≤ top ∧ top < l.length) (h1 : 0 ≤ i ∧ i ≤ l.length) (hl : l.length ≤ 64) :
    Sp Tryz.prog 86 [.pointer (some ⟨p, 0, none⟩), .int .i64 i] [cel p 158 [v, .int .i64 top, .int .i64 n], sl e_api_Task v l] (fun _ : Unit => True) (fun _ => elp v ((top + i) % l.length) 12 0) (fun _ => [cel p 158 [v, .int .i64 top, .int .i64 n], sl e_api_Task v l]) := by
  have hm := Int.emod_nonneg (top + i) (show (l.length : Int) ≠ 0 by omega)
  have hm2 := Int.emod_lt_of_pos (top + i) (show (0 : Int) < l.length by omega)
  refine Sp.intro (n := 22) Tryz.func86 rfl rfl fun w0 R => ?_
  dsimp only [List.cons_append, List.nil_append, envOf]
  refine go ?_
  refine Cd.drawL (l := [_, _, _, _, _, _, _, _, _, _, _, _, _, _, _, _, _]) (z := _) [[], [0], [0, 1], [0, 1, 2], [], [4], [4, 5], [4, 5, 6], [], [4, 5, 6, 7, 8], [], [10], [10, 11], [10, 11, 12], [10, 11, 12, 13], [4, 5, 6, 7, 8, 9, 10, 11, 12, 13, 14], [0, 1, 2, 3, 4, 5, 6, 7, 8, 9, 10, 11, 12, 13, 14, 15]] [] [] (td := [(0, .fresh), (1, .fresh), (2, .fresh), (3, .fresh), (4, .fresh), (5, .fresh), (6, .fresh), (7, .fresh), (8, .fresh), (9, .fresh), (10, .fresh), (11, .fresh), (12, .fresh), (13, .fresh), (14, .fresh), (15, .fresh), (16, .fresh)]) rfl mixed (by kernel_rfl) (by kernel_rfl) (by kernel_rfl) (by decide) (by decide) rfl (by kernel_rfl) ?_
  refine god2 ?_
  refine go ?_
  refine Dn.ret1 rfl rfl fun w hs => ⟨(), rfl, trivial, hs⟩
/-! rings -/
def winl (l : List S_api_Task) (top : Int) (n : Nat) : List S_api_Task := (ints n).map fun i => rd l ((top + i) % l.length)
theorem winl_length (l : List S_api_Task) (top : Int) (n : Nat) : (winl l top n).length = n := by simp [winl, ints_length]
theorem winl_succ (l : List S_api_Task) (top : Int) (n : Nat) : winl l top (n + 1) = winl l top n ++ [rd l ((top + n) % l.length)] := by simp [winl, ints_succ]
theorem winl_set (l : List S_api_Task) (top : Int) (n : Nat) (t : S_api_Task) (h0 : 0 ≤ top ∧ top < l.length) (hn : n < l.length) :
    winl (l.set ((top + n) % l.length).toNat t) top (n + 1) = winl l top n ++ [t] := by
  have hm : ∀ i : Int, 0 ≤ i → 0 ≤ (top + i) % l.length ∧ (top + i) % l.length < l.length := fun i _ => ⟨Int.emod_nonneg _ (by omega), Int.emod_lt_of_pos _ (by omega)⟩
  rw [winl_succ]
  congr 1
  · refine List.map_congr_left fun i hi => ?_
    rw [List.length_set]
    have hi' := ints_mem.1 hi
    have a := hm i hi'.1; have b := hm n (by omega)
    have hne : ((top + i) % l.length) ≠ ((top + n) % l.length) := by
      intro e
      have h1 := Int.emod_emod_of_dvd (top + i) (Int.dvd_refl (l.length : Int))
      have := (Int.emod_emod_of_dvd (top + n) (Int.dvd_refl (l.length : Int)))
      have h2 : ((top + n) - (top + i)) % (l.length : Int) = 0 := Int.emod_eq_emod_iff_emod_sub_eq_zero.1 e.symm
      have h3 : ((n : Int) - i) % (l.length : Int) = 0 := by rw [← h2]; congr 1; omega
      rw [Int.emod_eq_of_lt (by omega) (by omega)] at h3
      omega
    simp only [rd]
    rw [List.getD_eq_getElem?_getD, List.getD_eq_getElem?_getD, List.getElem?_set_ne (by omega)]
  · rw [List.length_set]
    have b := hm n (by omega)
    simp only [rd]
    rw [List.getD_eq_getElem?_getD, List.getElem?_set_self (by omega)]; rfl
theorem winl_cons (l : List S_api_Task) (top : Int) (n : Nat) (h0 : 0 ≤ top ∧ top < l.length) : winl l top (n + 1) = rd l top :: winl l ((top + 1) % l.length) n := by
  refine List.ext_getElem? fun i => ?_
  rcases i with _ | i
  · simp [winl, ints]
    rw [Int.emod_eq_of_lt h0.1 h0.2]
  · simp only [winl, ints, List.map_map, List.getElem?_map, List.getElem?_cons_succ]
    by_cases hi : i < n
    · rw [List.getElem?_range (by omega), List.getElem?_range hi]
      simp only [Option.map_some, Function.comp_apply]
      congr 2
      rw [Int.add_emod ((top + 1) % l.length) i, Int.emod_emod_of_dvd _ (Int.dvd_refl _), ← Int.add_emod]; congr 1; omega
    · rw [List.getElem?_eq_none (by simp; omega), List.getElem?_eq_none (by simp; omega)]; rfl
structure RX where
  v : Value
  top : Int
  l : List S_api_Task
def ringC (p room : Nat) (q : List AT) : HProp := pk (fun x : RX => 0 ≤ x.top ∧ x.top < x.l.length ∧ x.l.length = room ∧ room ≤ 64 ∧ q.length ≤ room) fun x => [cel p 158 [x.v, .int .i64 x.top, .int .i64 q.length], sl e_api_Task x.v x.l, rel2 tkC (winl x.l x.top q.length) q]
-- FN (*confidant/ring.Ring).Len
theorem ring_LenC (p room : Nat) (q : List AT) :
    Sp Tryz.prog 66 [.pointer (some ⟨p, 0, none⟩)] [ringC p room q] (fun _ : Unit => q.length ≤ room ∧ room ≤ 64) (fun _ => .int .i64 q.length) (fun _ => [ringC p room q]) := by
  refine Sp.intro (n := 7) Tryz.func66 rfl rfl fun w0 R => ?_
  dsimp only [List.cons_append, List.nil_append, envOf]
  first | (with_reducible refine Cd.g ?_; refine Cd.pk (A := (ringC p room q)) rfl (by exact tk_) fun x hx => ?_) | (with_reducible refine Ol.g ?_; refine Ol.pk (A := (ringC p room q)) rfl (by exact tk_) fun x hx => ?_) | (with_reducible refine Dn.g ?_; refine Dn.pk (A := (ringC p room q)) rfl (by exact tk_) fun x hx => ?_)
  dsimp only [List.cons_append, List.nil_append]
  refine go ?_
  refine Dn.ret1 rfl rfl fun w hs => ⟨(), rfl, ⟨by omega, by omega⟩, hs.conv (ents.pk x hx (ents.refl _))⟩
-- FN (*confidant/ring.Ring).Room
theorem ring_RoomC (p room : Nat) (q : List AT) :
    Sp Tryz.prog 80 [.pointer (some ⟨p, 0, none⟩)] [ringC p room q] (fun _ : Unit => q.length ≤ room ∧ room ≤ 64) (fun _ => .int .i64 room) (fun _ => [ringC p room q]) := by
  refine Sp.intro (n := 8) Tryz.func80 rfl rfl fun w0 R => ?_
  dsimp only [List.cons_append, List.nil_append, envOf]
  first | (with_reducible refine Cd.g ?_; refine Cd.pk (A := (ringC p room q)) rfl (by exact tk_) fun x hx => ?_) | (with_reducible refine Ol.g ?_; refine Ol.pk (A := (ringC p room q)) rfl (by exact tk_) fun x hx => ?_) | (with_reducible refine Dn.g ?_; refine Dn.pk (A := (ringC p room q)) rfl (by exact tk_) fun x hx => ?_)
  dsimp only [List.cons_append, List.nil_append]
  refine go ?_
  refine Dn.ret1 rfl rfl fun w hs => ⟨(), by rw [hx.2.2.1], ⟨by omega, by omega⟩, hs.conv (ents.pk x hx (ents.refl _))⟩
-- FN confidant/ring.New
theorem ring_New (n : Int) :
    Sp Tryz.prog 41 [.int .i64 n] [] (fun _ : Nat => True) (fun p => .pointer (some ⟨p, 0, none⟩)) (fun p => [ringC p (imin (imax n 1) 64).toNat []]) := by
  have hb : 1 ≤ imin (imax n 1) 64 ∧ imin (imax n 1) 64 ≤ 64 := by unfold imin imax; split <;> split <;> omega
  refine Sp.intro (n := 9) Tryz.func41 rfl rfl fun w0 R => ?_
  dsimp only [List.cons_append, List.nil_append, envOf]
  refine go ?_;repeat((with_reducible refine Ol.g ?_);(first|refine Ol.eff rfl rfl rfl (Eff.alloc fun _=>?_)|refine Ol.eff rfl rfl rfl (Eff.box fun _=>?_)|refine Ol.eff0 rfl rfl (Eff.store rfl rfl ?_)|refine Ol.eff rfl rfl rfl (Eff.bslice rfl rfl fun _=>?_)|(refine Ol.eff0 rfl rfl (Eff.storeE rfl ?_ ?_);exact pre_)|(refine Ol.eff rfl rfl rfl (Eff.append1 rfl ?_ fun _=>?_);exact pre_));refine go ?_)
  refine Ol.eff rfl rfl rfl (Eff.mkS (x := zT) rfl ⟨by omega, by omega, by omega⟩ fun v => ?_)
  first | (with_reducible refine Cd.g ?_; refine Cd.know (fun w_ hw_ => one_sl (Tk.sat (A := (sl e_api_Task v _)) (by exact tk_) hw_)) fun o1 => ?_) | (with_reducible refine Ol.g ?_; refine Ol.know (fun w_ hw_ => one_sl (Tk.sat (A := (sl e_api_Task v _)) (by exact tk_) hw_)) fun o1 => ?_) | (with_reducible refine Dn.g ?_; refine Dn.know (fun w_ hw_ => one_sl (Tk.sat (A := (sl e_api_Task v _)) (by exact tk_) hw_)) fun o1 => ?_)
  refine go ?_;repeat((with_reducible refine Ol.g ?_);(first|refine Ol.eff rfl rfl rfl (Eff.alloc fun _=>?_)|refine Ol.eff rfl rfl rfl (Eff.box fun _=>?_)|refine Ol.eff0 rfl rfl (Eff.store rfl rfl ?_)|refine Ol.eff rfl rfl rfl (Eff.bslice rfl rfl fun _=>?_)|(refine Ol.eff0 rfl rfl (Eff.storeE rfl ?_ ?_);exact pre_)|(refine Ol.eff rfl rfl rfl (Eff.append1 rfl ?_ fun _=>?_);exact pre_));refine go ?_)
  rename_i p
  refine Dn.ret1 rfl rfl fun w hs => ⟨p, rfl, trivial, hs.conv (ents.pk ⟨v, 0, List.replicate (imin (imax n 1) 64).toNat zT⟩ ⟨by simp, by simp; omega, by simp, by omega, by simp⟩ ?_)⟩
  refine (show ents _ (cel p 158 [v, .int .i64 0, .int .i64 0] :: sl e_api_Task v (List.replicate (imin (imax n 1) 64).toNat zT) :: rel2 tkC [] [] :: R) from ?_)
  exact ent_
-- FN (*confidant/ring.Ring).Push
theorem ring_Push (p room : Nat) (q : List AT) (t : S_api_Task) (a : AT) :
    Sp Tryz.prog 48 [.pointer (some ⟨p, 0, none⟩), tV t] [ringC p room q, tkC t a] (fun _ : Unit => True) (fun _ => .bool (decide (q.length < room))) (fun _ => [ringC p room (if q.length < room then q ++ [a] else q)]) := by
  refine Sp.intro (n := 31) Tryz.func48 rfl rfl fun w0 R => ?_
  dsimp only [List.cons_append, List.nil_append, envOf]
  first | (with_reducible refine Cd.g ?_; refine Cd.pk (A := (ringC p room q)) rfl (by exact tk_) fun x hx => ?_) | (with_reducible refine Ol.g ?_; refine Ol.pk (A := (ringC p room q)) rfl (by exact tk_) fun x hx => ?_) | (with_reducible refine Dn.g ?_; refine Dn.pk (A := (ringC p room q)) rfl (by exact tk_) fun x hx => ?_)
  dsimp only [List.cons_append, List.nil_append]
  refine go ?_;repeat((with_reducible refine Ol.g ?_);(first|refine Ol.eff rfl rfl rfl (Eff.alloc fun _=>?_)|refine Ol.eff rfl rfl rfl (Eff.box fun _=>?_)|refine Ol.eff0 rfl rfl (Eff.store rfl rfl ?_)|refine Ol.eff rfl rfl rfl (Eff.bslice rfl rfl fun _=>?_)|(refine Ol.eff0 rfl rfl (Eff.storeE rfl ?_ ?_);exact pre_)|(refine Ol.eff rfl rfl rfl (Eff.append1 rfl ?_ fun _=>?_);exact pre_));refine go ?_)
  rename_i c
  refine Cd.draw2 [[], [0], [0, 1], [0, 1, 2], [], [4], [4, 5], [4, 5, 6], [4, 5, 6, 7], [0, 1, 2, 3, 4, 5, 6, 7, 8]] [] [] (td := [(0, .fresh), (1, .fresh), (2, .fresh), (3, .fresh), (4, .fresh), (5, .fresh), (6, .fresh), (7, .fresh), (8, .fresh), (9, .fresh)]) mixed (by kernel_rfl) (by kernel_rfl) (by decide) (by decide) rfl (by kernel_rfl) ?_
  refine god2 ?_
  refine go ?_
  refine Cd.condP rfl (fun h => ?_) (fun h => ?_)
  · refine go ?_
    refine Dn.ret1 rfl rfl fun w hs => ⟨(), by rw [decide_eq_false (by omega)], trivial, hs.conv ?_⟩
    rw [if_neg (by omega)]
    exact ents.pk x hx (by exact ent_)
  refine go ?_
  refine Cd.draw2 [[], [], [1], [1, 2], [1, 2, 3], [0, 1, 2, 3, 4], [], [0, 1, 2, 3, 4, 5, 6], [0, 1, 2, 3, 4, 5, 6, 7], [0, 1, 2, 3, 4, 5, 6, 7, 8]] [5, 7, 9] [] (td := [(0, .fresh), (1, .fresh), (2, .fresh), (3, .fresh), (4, .fresh), (6, .fresh)]) mixed (by kernel_rfl) (by kernel_rfl) (by decide) (by decide) rfl (by kernel_rfl) ?_
  refine god2 ?_
  refine Sg2.one (td := [(6, .old)]) rfl (by kernel_rfl) fun F5_ => ?_
  dsimp only [List.cons_append, List.nil_append]
  refine SpOp.eff rfl rfl rfl rfl rfl (Eff.call (R := ?_) (ring_at p x.v x.top q.length q.length x.l (by omega) (by omega) (by omega)) rfl ?_ ?_)
  rotate_left
  · exact tkl_
  rintro _ -
  dsimp only [List.cons_append, List.nil_append]
  refine Sn.ok ?_
  have hm := Int.emod_nonneg (x.top + q.length) (show (x.l.length : Int) ≠ 0 by omega)
  have hm2 := Int.emod_lt_of_pos (x.top + q.length) (show (0 : Int) < x.l.length by omega)
  refine god2 ?_
  refine Sg2.one (td := [(8, .fresh)]) rfl (by kernel_rfl) fun F7_ => ?_
  dsimp only [List.cons_append, List.nil_append]
  refine SpOp.eff rfl rfl rfl rfl rfl (Eff.call (R := ?_) (ring_copy t a) rfl ?_ ?_)
  rotate_left
  · exact tkl_
  rintro u -
  dsimp only [List.cons_append, List.nil_append]
  refine Sn.ok ?_
  refine god2 ?_
  refine Sg2.one (td := []) rfl (by kernel_rfl) fun F9_ => ?_
  dsimp only [List.cons_append, List.nil_append]
  (with_reducible first|refine SpOp.eff rfl rfl rfl rfl rfl (Eff.x (Qx.build rfl) ?_)|refine SpOp.eff rfl rfl rfl rfl rfl (Eff.alloc fun _=>?_)|refine SpOp.eff rfl rfl rfl rfl rfl (Eff.box fun _=>?_)|refine SpOp.eff rfl rfl rfl rfl rfl (Eff.bslice rfl rfl fun _=>?_)|(refine SpOp.eff rfl rfl rfl rfl rfl (Eff.append1 rfl ?_ fun _=>?_);exact pre_)|refine SpOp.eff0 rfl rfl rfl rfl (Eff.store rfl rfl ?_)|(refine SpOp.eff0 rfl rfl rfl rfl (Eff.storeE rfl ?_ ?_);exact pre_))
  refine Sn.ok ?_
  refine god2 ?_
  refine go ?_;repeat((with_reducible refine Ol.g ?_);(first|refine Ol.eff rfl rfl rfl (Eff.alloc fun _=>?_)|refine Ol.eff rfl rfl rfl (Eff.box fun _=>?_)|refine Ol.eff0 rfl rfl (Eff.store rfl rfl ?_)|refine Ol.eff rfl rfl rfl (Eff.bslice rfl rfl fun _=>?_)|(refine Ol.eff0 rfl rfl (Eff.storeE rfl ?_ ?_);exact pre_)|(refine Ol.eff rfl rfl rfl (Eff.append1 rfl ?_ fun _=>?_);exact pre_));refine go ?_)
  refine Dn.ret1 rfl rfl fun w hs => ⟨(), by rw [decide_eq_true (by omega)], trivial, hs.conv ?_⟩
  rw [if_pos (by omega)]
  refine ents.pk ⟨x.v, x.top, x.l.set ((x.top + q.length) % x.l.length).toNat u⟩ ⟨hx.1, by rw [List.length_set]; exact hx.2.1, by rw [List.length_set]; exact hx.2.2.1, hx.2.2.2.1, by simp; omega⟩ ?_
  dsimp only
  rw [show (q ++ [a]).length = q.length + 1 from by simp, winl_set x.l x.top q.length u ⟨hx.1, hx.2.1⟩ (by omega), show ((q.length + 1 : Nat) : Int) = (q.length : Int) + 1 from by omega]
  exact ent_
-- FN (*confidant/ring.Ring).Pop
theorem ring_Pop (p room : Nat) (q : List AT) :
    Sp Tryz.prog 64 [.pointer (some ⟨p, 0, none⟩)] [ringC p room q] (fun _ : S_api_Task => True) (fun t => .tuple #[tV t, .bool (decide (q ≠ []))]) (fun t => [ringC p room q.dropLast, tkC t (q.getLastD zA)]) := by
  refine Sp.intro (n := 25) Tryz.func64 rfl rfl fun w0 R => ?_
  dsimp only [List.cons_append, List.nil_append, envOf]
  first | (with_reducible refine Cd.g ?_; refine Cd.pk (A := (ringC p room q)) rfl (by exact tk_) fun x hx => ?_) | (with_reducible refine Ol.g ?_; refine Ol.pk (A := (ringC p room q)) rfl (by exact tk_) fun x hx => ?_) | (with_reducible refine Dn.g ?_; refine Dn.pk (A := (ringC p room q)) rfl (by exact tk_) fun x hx => ?_)
  dsimp only [List.cons_append, List.nil_append]
  rcases List.eq_nil_or_concat q with hq | ⟨q0, a, hq⟩
  · subst hq
    refine go ?_;repeat((with_reducible refine Ol.g ?_);(first|refine Ol.eff rfl rfl rfl (Eff.alloc fun _=>?_)|refine Ol.eff rfl rfl rfl (Eff.box fun _=>?_)|refine Ol.eff0 rfl rfl (Eff.store rfl rfl ?_)|refine Ol.eff rfl rfl rfl (Eff.bslice rfl rfl fun _=>?_)|(refine Ol.eff0 rfl rfl (Eff.storeE rfl ?_ ?_);exact pre_)|(refine Ol.eff rfl rfl rfl (Eff.append1 rfl ?_ fun _=>?_);exact pre_));refine go ?_)
    refine Dn.retC1 rfl rfl trivial rfl fun w hs => ⟨zT, by simp, trivial, hs.conv ?_⟩
    refine ents.pk x hx ?_
    simp only [List.dropLast_nil, List.getLastD_nil, List.cons_append, List.nil_append]
    exact ent_
  rw [List.concat_eq_append] at hq
  have hlen : (q0 ++ [a]).length = q0.length + 1 := by simp
  subst hq
  rw [hlen] at hx ⊢
  have hm := Int.emod_nonneg (x.top + q0.length) (show (x.l.length : Int) ≠ 0 by omega)
  have hm2 := Int.emod_lt_of_pos (x.top + q0.length) (show (0 : Int) < x.l.length by omega)
  rw [winl_succ]
  refine Cd.conv (ents.split (rel2_unsnoc (R := tkC)) (by exact tk_)) ?_
  refine go ?_;repeat((with_reducible refine Ol.g ?_);(first|refine Ol.eff rfl rfl rfl (Eff.alloc fun _=>?_)|refine Ol.eff rfl rfl rfl (Eff.box fun _=>?_)|refine Ol.eff0 rfl rfl (Eff.store rfl rfl ?_)|refine Ol.eff rfl rfl rfl (Eff.bslice rfl rfl fun _=>?_)|(refine Ol.eff0 rfl rfl (Eff.storeE rfl ?_ ?_);exact pre_)|(refine Ol.eff rfl rfl rfl (Eff.append1 rfl ?_ fun _=>?_);exact pre_));refine go ?_)
  rw [show ((q0.length + 1 : Nat) : Int) - 1 = (q0.length : Int) from by omega]
  with_reducible refine Ol.g ?_
  refine Ol.eff rfl rfl rfl (Eff.call (R := ?_) (ring_at p x.v x.top q0.length q0.length x.l (by omega) (by omega) (by omega)) rfl ?_ ?_)
  rotate_left
  · exact tkl_
  rintro _ -
  dsimp only [List.cons_append, List.nil_append]
  refine go ?_;repeat((with_reducible refine Ol.g ?_);(first|refine Ol.eff rfl rfl rfl (Eff.alloc fun _=>?_)|refine Ol.eff rfl rfl rfl (Eff.box fun _=>?_)|refine Ol.eff0 rfl rfl (Eff.store rfl rfl ?_)|refine Ol.eff rfl rfl rfl (Eff.bslice rfl rfl fun _=>?_)|(refine Ol.eff0 rfl rfl (Eff.storeE rfl ?_ ?_);exact pre_)|(refine Ol.eff rfl rfl rfl (Eff.append1 rfl ?_ fun _=>?_);exact pre_));refine go ?_)
  refine Dn.retC1 rfl rfl trivial rfl fun w hs => ⟨rd x.l ((x.top + q0.length) % x.l.length), by simp, trivial, hs.conv ?_⟩
  rw [show (q0 ++ [a]).dropLast = q0 from by simp, show (q0 ++ [a]).getLastD zA = a from by simp]
  refine ents.pk x (by omega) ?_
  dsimp only [List.cons_append, List.nil_append]
  exact ent_
-- FN (*confidant/ring.Ring).Steal
theorem ring_Steal (p room : Nat) (a : AT) (q : List AT) :
    Sp Tryz.prog 97 [.pointer (some ⟨p, 0, none⟩)] [ringC p room (a :: q)] (fun _ : S_api_Task => True) (fun t => .tuple #[tV t, .bool true]) (fun t => [ringC p room q, tkC t a]) := by
  refine Sp.intro (n := 38) Tryz.func97 rfl rfl fun w0 R => ?_
  dsimp only [List.cons_append, List.nil_append, envOf]
  first | (with_reducible refine Cd.g ?_; refine Cd.pk (A := (ringC p room (a :: q))) rfl (by exact tk_) fun x hx => ?_) | (with_reducible refine Ol.g ?_; refine Ol.pk (A := (ringC p room (a :: q))) rfl (by exact tk_) fun x hx => ?_) | (with_reducible refine Dn.g ?_; refine Dn.pk (A := (ringC p room (a :: q))) rfl (by exact tk_) fun x hx => ?_)
  dsimp only [List.cons_append, List.nil_append]
  have hlen : (a :: q).length = q.length + 1 := by simp
  rw [hlen] at hx ⊢
  rw [winl_cons _ _ _ ⟨hx.1, hx.2.1⟩]
  refine Cd.conv (ents.split (rel2_uncons (R := tkC)) (by exact tk_)) ?_
  have hm := Int.emod_nonneg (x.top + 1) (show (x.l.length : Int) ≠ 0 by omega)
  have hm2 := Int.emod_lt_of_pos (x.top + 1) (show (0 : Int) < x.l.length by omega)
  refine go ?_;repeat((with_reducible refine Ol.g ?_);(first|refine Ol.eff rfl rfl rfl (Eff.alloc fun _=>?_)|refine Ol.eff rfl rfl rfl (Eff.box fun _=>?_)|refine Ol.eff0 rfl rfl (Eff.store rfl rfl ?_)|refine Ol.eff rfl rfl rfl (Eff.bslice rfl rfl fun _=>?_)|(refine Ol.eff0 rfl rfl (Eff.storeE rfl ?_ ?_);exact pre_)|(refine Ol.eff rfl rfl rfl (Eff.append1 rfl ?_ fun _=>?_);exact pre_));refine go ?_)
  with_reducible refine Ol.g ?_
  refine Ol.eff rfl rfl rfl (Eff.call (R := ?_) (ring_at p x.v x.top ((q.length + 1 : Nat) : Int) 0 x.l (by omega) (by omega) (by omega)) rfl ?_ ?_)
  rotate_left
  · exact tkl_
  rintro _ -
  dsimp only [List.cons_append, List.nil_append]
  rw [show (x.top + 0) % (x.l.length : Int) = x.top from by rw [Int.add_zero, Int.emod_eq_of_lt hx.1 hx.2.1]]
  refine go ?_;repeat((with_reducible refine Ol.g ?_);(first|refine Ol.eff rfl rfl rfl (Eff.alloc fun _=>?_)|refine Ol.eff rfl rfl rfl (Eff.box fun _=>?_)|refine Ol.eff0 rfl rfl (Eff.store rfl rfl ?_)|refine Ol.eff rfl rfl rfl (Eff.bslice rfl rfl fun _=>?_)|(refine Ol.eff0 rfl rfl (Eff.storeE rfl ?_ ?_);exact pre_)|(refine Ol.eff rfl rfl rfl (Eff.append1 rfl ?_ fun _=>?_);exact pre_));refine go ?_)
  refine Cd.draw2 [[], [], [], [2], [2, 3], [2, 3, 4], [2, 3, 4, 5], [], [7], [7, 8], [7, 8, 9], [7, 8, 9, 10], [2, 3, 4, 5, 6, 7, 8, 9, 10, 11], [], [13], [13, 14], [13, 14, 15], [13, 14, 15, 16], [0, 2, 3, 4, 5, 6, 7, 8, 9, 10, 11, 12, 13, 14, 15, 16], [0, 2, 3, 4, 5, 6, 7, 8, 9, 10, 11, 12, 13, 14, 15, 16, 18], [0, 2, 3, 4, 5, 6, 7, 8, 9, 10, 11, 12, 13, 14, 15, 16, 18, 19], [0, 1, 2, 3, 4, 5, 6, 7, 8, 9, 10, 11, 12, 13, 14, 15, 16, 17, 18, 19, 20], [0, 1, 2, 3, 4, 5, 6, 7, 8, 9, 10, 11, 12, 13, 14, 15, 16, 17, 18, 19, 20, 21], [0, 1, 2, 3, 4, 5, 6, 7, 8, 9, 10, 11, 12, 13, 14, 15, 16, 17, 18, 19, 20, 21, 22]] [20, 23] [] (td := [(0, .fresh), (1, .fresh), (2, .fresh), (3, .fresh), (4, .fresh), (5, .fresh), (6, .fresh), (7, .fresh), (8, .fresh), (9, .fresh), (10, .fresh), (11, .fresh), (12, .fresh), (13, .fresh), (14, .fresh), (15, .fresh), (16, .fresh), (17, .fresh), (18, .fresh), (19, .fresh)]) mixed (by kernel_rfl) (by kernel_rfl) (by decide) (by decide) rfl (by kernel_rfl) ?_
  refine god2 ?_
  refine Sg2.one (td := [(1, .old), (17, .old), (21, .fresh), (22, .fresh)]) rfl (by kernel_rfl) fun F20_ => ?_
  dsimp only [List.cons_append, List.nil_append]
  (with_reducible first|refine SpOp.eff rfl rfl rfl rfl rfl (Eff.x (Qx.build rfl) ?_)|refine SpOp.eff rfl rfl rfl rfl rfl (Eff.alloc fun _=>?_)|refine SpOp.eff rfl rfl rfl rfl rfl (Eff.box fun _=>?_)|refine SpOp.eff rfl rfl rfl rfl rfl (Eff.bslice rfl rfl fun _=>?_)|(refine SpOp.eff rfl rfl rfl rfl rfl (Eff.append1 rfl ?_ fun _=>?_);exact pre_)|refine SpOp.eff0 rfl rfl rfl rfl (Eff.store rfl rfl ?_)|(refine SpOp.eff0 rfl rfl rfl rfl (Eff.storeE rfl ?_ ?_);exact pre_))
  refine Sn.ok ?_
  refine god2 ?_
  refine Sg2.one (td := []) rfl (by kernel_rfl) fun F23_ => ?_
  dsimp only [List.cons_append, List.nil_append]
  (with_reducible first|refine SpOp.eff rfl rfl rfl rfl rfl (Eff.x (Qx.build rfl) ?_)|refine SpOp.eff rfl rfl rfl rfl rfl (Eff.alloc fun _=>?_)|refine SpOp.eff rfl rfl rfl rfl rfl (Eff.box fun _=>?_)|refine SpOp.eff rfl rfl rfl rfl rfl (Eff.bslice rfl rfl fun _=>?_)|(refine SpOp.eff rfl rfl rfl rfl rfl (Eff.append1 rfl ?_ fun _=>?_);exact pre_)|refine SpOp.eff0 rfl rfl rfl rfl (Eff.store rfl rfl ?_)|(refine SpOp.eff0 rfl rfl rfl rfl (Eff.storeE rfl ?_ ?_);exact pre_))
  refine Sn.ok ?_
  refine god2 ?_
  refine go ?_;repeat((with_reducible refine Ol.g ?_);(first|refine Ol.eff rfl rfl rfl (Eff.alloc fun _=>?_)|refine Ol.eff rfl rfl rfl (Eff.box fun _=>?_)|refine Ol.eff0 rfl rfl (Eff.store rfl rfl ?_)|refine Ol.eff rfl rfl rfl (Eff.bslice rfl rfl fun _=>?_)|(refine Ol.eff0 rfl rfl (Eff.storeE rfl ?_ ?_);exact pre_)|(refine Ol.eff rfl rfl rfl (Eff.append1 rfl ?_ fun _=>?_);exact pre_));refine go ?_)
  refine Dn.retC1 rfl rfl trivial rfl fun w hs => ⟨rd x.l x.top, rfl, trivial, hs.conv ?_⟩
  refine ents.pk ⟨x.v, (x.top + 1) % x.l.length, x.l⟩ ⟨hm, hm2, hx.2.2.1, hx.2.2.2.1, by omega⟩ ?_
  dsimp only [List.cons_append, List.nil_append]
  rw [show ((q.length + 1 : Nat) : Int) - 1 = (q.length : Int) from by omega]
  exact ent_
end Go.Proofs.YtihmbmoeedojoaaGreat

