/- Contracts of functions of the program, proved in a small separation logic. Conditions: those that each theorem states. -/
import Derived.Test.YtihmbmoeedojoaaGreatDeck7
namespace Go.Proofs.YtihmbmoeedojoaaGreat
open Go Go.Sl
set_option maxHeartbeats 4000000
set_option maxRecDepth 100000
set_option linter.unusedVariables false
instance (i f v0 v1 v2 v3 l c pr w : Int) : Free (tkC ⟨i, f, 0, .slice none 0 0, v0, v1, v2, v3, l, c, pr, w⟩ ⟨i, f, 0, [], v0, v1, v2, v3, l, c, pr, w⟩) := ⟨fun B => (went_one B).trans (went.trans (show went (stars [B]) (star (tkC ⟨i, f, 0, .slice none 0 0, v0, v1, v2, v3, l, c, pr, w⟩ ⟨i, f, 0, [], v0, v1, v2, v3, l, c, pr, w⟩) (stars [B])) from ents.tk0 (H := [B]) (L := [B]) rfl ⟨by dsimp only [List.length_nil]; omega, by dsimp only; omega⟩ rfl rfl (ents.refl _)) (went.star (went.refl _) (went_one' B)))⟩
def within (n a b : Int) : Bool := decide (a ≤ n) && decide (n ≤ b)
-- FN confidant/deck.Right$1
theorem deck_within (n a b : Int) : Sp Tryz.prog 81 [.int .i64 n, .int .i64 a, .int .i64 b] [] (fun _ : Unit => True) (fun _ => .bool (within n a b)) (fun _ => []) := by
  refine Sp.intro (n := 15) Tryz.func81 rfl rfl fun w0 R => ?_
  dsimp only [List.cons_append, List.nil_append, envOf]
  refine go ?_
  cases h1 : (decide (a ≤ n)) with
  | false =>
    refine go ?_
    refine Dn.ret1 rfl rfl fun w hs => ⟨(), ?_, by trivial, by first | exact hs | (refine hs.conv ?_; exact ent_)⟩
    unfold within; rw [h1]; rfl
  | true =>
  refine go ?_
  refine Dn.ret1 rfl rfl fun w hs => ⟨(), ?_, by trivial, by first | exact hs | (refine hs.conv ?_; exact ent_)⟩
  unfold within; rw [h1]; rfl
def rightB (s : S_api_Part) (ni np : Int) : Bool := within s.f_Ring 1 64 && (within s.f_Fuel 0 1048576 && (within s.f_Refs 0 4096 && (within s.f_Futures 0 4096 && (decide (ni ≤ 64) && decide (np ≤ 1024)))))
-- FN confidant/deck.Right
theorem deck_Right (r1 r2 : Bool) (s : S_api_Part) (il pl : List Int) :
    Sp Tryz.prog 36 [partV s] [slB r1 (eInt .i32) s.f_Inputs il, slB r2 (eInt .u8) s.f_Picks pl] (fun _ : Unit => True) (fun _ => .bool (rightB s il.length pl.length)) (fun _ => [slB r1 (eInt .i32) s.f_Inputs il, slB r2 (eInt .u8) s.f_Picks pl]) := by
  refine Sp.intro (n := 38) Tryz.func36 rfl rfl fun w0 R => ?_
  dsimp only [List.cons_append, List.nil_append, envOf]
  refine go ?_;repeat((with_reducible refine Ol.g ?_);(first|refine Ol.eff rfl rfl rfl (Eff.alloc fun _=>?_)|refine Ol.eff rfl rfl rfl (Eff.box fun _=>?_)|refine Ol.eff0 rfl rfl (Eff.store rfl rfl ?_)|refine Ol.eff rfl rfl rfl (Eff.bslice rfl rfl fun _=>?_)|(refine Ol.eff0 rfl rfl (Eff.storeE rfl ?_ ?_);exact pre_)|(refine Ol.eff rfl rfl rfl (Eff.append1 rfl ?_ fun _=>?_);exact pre_));refine go ?_)
  with_reducible refine Ol.g ?_
  refine Ol.eff rfl rfl rfl (Eff.call (R := ?_) (deck_within s.f_Ring 1 64) rfl ?_ ?_)
  rotate_left
  · exact tkl_
  rintro _ -
  dsimp only [List.cons_append, List.nil_append]
  cases h1 : (within s.f_Ring 1 64) with
  | false =>
    refine go ?_
    refine Dn.ret1 rfl rfl fun w hs => ⟨(), ?_, by trivial, by first | exact hs | (refine hs.conv ?_; exact ent_)⟩
    simp [rightB, h1]
  | true =>
  refine go ?_
  with_reducible refine Ol.g ?_
  refine Ol.eff rfl rfl rfl (Eff.call (R := ?_) (deck_within s.f_Fuel 0 1048576) rfl ?_ ?_)
  rotate_left
  · exact tkl_
  rintro _ -
  dsimp only [List.cons_append, List.nil_append]
  cases h2 : (within s.f_Fuel 0 1048576) with
  | false =>
    refine go ?_
    refine Dn.ret1 rfl rfl fun w hs => ⟨(), ?_, by trivial, by first | exact hs | (refine hs.conv ?_; exact ent_)⟩
    simp [rightB, h2]
  | true =>
  refine go ?_
  with_reducible refine Ol.g ?_
  refine Ol.eff rfl rfl rfl (Eff.call (R := ?_) (deck_within s.f_Refs 0 4096) rfl ?_ ?_)
  rotate_left
  · exact tkl_
  rintro _ -
  dsimp only [List.cons_append, List.nil_append]
  cases h3 : (within s.f_Refs 0 4096) with
  | false =>
    refine go ?_
    refine Dn.ret1 rfl rfl fun w hs => ⟨(), ?_, by trivial, by first | exact hs | (refine hs.conv ?_; exact ent_)⟩
    simp [rightB, h3]
  | true =>
  refine go ?_
  with_reducible refine Ol.g ?_
  refine Ol.eff rfl rfl rfl (Eff.call (R := ?_) (deck_within s.f_Futures 0 4096) rfl ?_ ?_)
  rotate_left
  · exact tkl_
  rintro _ -
  dsimp only [List.cons_append, List.nil_append]
  cases h4 : (within s.f_Futures 0 4096) with
  | false =>
    refine go ?_
    refine Dn.ret1 rfl rfl fun w hs => ⟨(), ?_, by trivial, by first | exact hs | (refine hs.conv ?_; exact ent_)⟩
    simp [rightB, h4]
  | true =>
  refine go ?_
  cases h5 : (decide ((il.length : Int) ≤ 64)) with
  | false =>
    refine go ?_
    refine Dn.ret1 rfl rfl fun w hs => ⟨(), ?_, by trivial, by first | exact hs | (refine hs.conv ?_; exact ent_)⟩
    simp only [rightB, h5, Bool.and_false, Bool.false_and]
  | true =>
  refine go ?_
  refine Dn.ret1 rfl rfl fun w hs => ⟨(), ?_, by trivial, by first | exact hs | (refine hs.conv ?_; exact ent_)⟩
  simp only [rightB, h1, h2, h3, h4, h5, Bool.true_and]
-- FN confidant/confidantlaw24.known
theorem known24 : Sp Tryz.prog 4 [] [] (fun _ : Unit => True) (fun _ => .bool true) (fun _ => []) := by
  refine Sp.intro (n := 114) Tryz.func4 rfl rfl fun w0 R => ?_
  dsimp only [List.cons_append, List.nil_append, envOf]
  refine go ?_;repeat((with_reducible refine Ol.g ?_);(first|refine Ol.eff rfl rfl rfl (Eff.alloc fun _=>?_)|refine Ol.eff rfl rfl rfl (Eff.box fun _=>?_)|refine Ol.eff0 rfl rfl (Eff.store rfl rfl ?_)|refine Ol.eff rfl rfl rfl (Eff.bslice rfl rfl fun _=>?_)|(refine Ol.eff0 rfl rfl (Eff.storeE rfl ?_ ?_);exact pre_)|(refine Ol.eff rfl rfl rfl (Eff.append1 rfl ?_ fun _=>?_);exact pre_));refine go ?_)
  rename_i v
  first | (with_reducible refine Cd.g ?_; refine Cd.know (fun w_ hw_ => one_sl (Tk.sat (A := (sl (eInt .u8) v _)) (by exact tk_) hw_)) fun o1 => ?_) | (with_reducible refine Ol.g ?_; refine Ol.know (fun w_ hw_ => one_sl (Tk.sat (A := (sl (eInt .u8) v _)) (by exact tk_) hw_)) fun o1 => ?_) | (with_reducible refine Dn.g ?_; refine Dn.know (fun w_ hw_ => one_sl (Tk.sat (A := (sl (eInt .u8) v _)) (by exact tk_) hw_)) fun o1 => ?_)
  refine go ?_;repeat((with_reducible refine Ol.g ?_);(first|refine Ol.eff rfl rfl rfl (Eff.alloc fun _=>?_)|refine Ol.eff rfl rfl rfl (Eff.box fun _=>?_)|refine Ol.eff0 rfl rfl (Eff.store rfl rfl ?_)|refine Ol.eff rfl rfl rfl (Eff.bslice rfl rfl fun _=>?_)|(refine Ol.eff0 rfl rfl (Eff.storeE rfl ?_ ?_);exact pre_)|(refine Ol.eff rfl rfl rfl (Eff.append1 rfl ?_ fun _=>?_);exact pre_));refine go ?_)
  with_reducible refine Ol.g ?_
  refine Ol.eff rfl rfl rfl (Eff.call (R := ?_) (deck_New false 1 2 ⟨2, false, 1, 0, 0, .slice none 0 0, v, 0⟩ ⟨rfl⟩ o1 [0] ⟨by decide, by simp⟩) rfl ?_ ?_)
  rotate_left
  · exact tkl_
  rintro ⟨p, x⟩ -
  dsimp only [List.cons_append, List.nil_append]
  refine go ?_;repeat((with_reducible refine Ol.g ?_);(first|refine Ol.eff rfl rfl rfl (Eff.alloc fun _=>?_)|refine Ol.eff rfl rfl rfl (Eff.box fun _=>?_)|refine Ol.eff0 rfl rfl (Eff.store rfl rfl ?_)|refine Ol.eff rfl rfl rfl (Eff.bslice rfl rfl fun _=>?_)|(refine Ol.eff0 rfl rfl (Eff.storeE rfl ?_ ?_);exact pre_)|(refine Ol.eff rfl rfl rfl (Eff.append1 rfl ?_ fun _=>?_);exact pre_));refine go ?_)
  with_reducible refine Ol.g ?_
  refine Ol.eff rfl rfl rfl (Eff.call (R := ?_) (deck_Push p x (newDK 1 2 ⟨2, false, 1, 0, 0, .slice none 0 0, v, 0⟩ [0]) 0 ⟨5, 0, 0, .slice none 0 0, 0, 0, 0, 0, 0, 0, 0, 0⟩ ⟨5, 0, 0, [], 0, 0, 0, 0, 0, 0, 0, 0⟩) rfl ?_ ?_)
  rotate_left
  · exact tkl_
  rintro _ -
  dsimp only [List.cons_append, List.nil_append]
  rw [show newDK 1 2 ⟨2, false, 1, 0, 0, .slice none 0 0, v, 0⟩ [0] = ⟨1, false, 1, [⟨2, [], zA, false⟩, ⟨2, [], zA, false⟩], ⟨[0], 1⟩⟩ from rfl]
  rw [show (⟨1, false, 1, [⟨2, [], zA, false⟩, ⟨2, [], zA, false⟩], ⟨[0], 1⟩⟩ : DK).push 0 ⟨5, 0, 0, [], 0, 0, 0, 0, 0, 0, 0, 0⟩ = ⟨1, false, 1, [⟨2, [⟨5, 0, 0, [], 0, 0, 0, 0, 0, 0, 0, 0⟩], zA, false⟩, ⟨2, [], zA, false⟩], ⟨[0], 1⟩⟩ from rfl, show (⟨1, false, 1, [⟨2, [], zA, false⟩, ⟨2, [], zA, false⟩], ⟨[0], 1⟩⟩ : DK).pushB 0 = true from rfl]
  refine go ?_;repeat((with_reducible refine Ol.g ?_);(first|refine Ol.eff rfl rfl rfl (Eff.alloc fun _=>?_)|refine Ol.eff rfl rfl rfl (Eff.box fun _=>?_)|refine Ol.eff0 rfl rfl (Eff.store rfl rfl ?_)|refine Ol.eff rfl rfl rfl (Eff.bslice rfl rfl fun _=>?_)|(refine Ol.eff0 rfl rfl (Eff.storeE rfl ?_ ?_);exact pre_)|(refine Ol.eff rfl rfl rfl (Eff.append1 rfl ?_ fun _=>?_);exact pre_));refine go ?_)
  with_reducible refine Ol.g ?_
  refine Ol.eff rfl rfl rfl (Eff.call (R := ?_) (deck_Find p x ⟨1, false, 1, [⟨2, [⟨5, 0, 0, [], 0, 0, 0, 0, 0, 0, 0, 0⟩], zA, false⟩, ⟨2, [], zA, false⟩], ⟨[0], 1⟩⟩ 1 3) rfl ?_ ?_)
  rotate_left
  · exact tkl_
  rintro ⟨t, ve⟩ -
  dsimp only [List.cons_append, List.nil_append]
  rw [show (⟨1, false, 1, [⟨2, [⟨5, 0, 0, [], 0, 0, 0, 0, 0, 0, 0, 0⟩], zA, false⟩, ⟨2, [], zA, false⟩], ⟨[0], 1⟩⟩ : DK).find 1 3 = ⟨⟨1, false, 1, [⟨2, [], zA, false⟩, ⟨2, [], ⟨5, 0, 0, [], 0, 0, 0, 0, 0, 0, 0, 1⟩, true⟩], ⟨[], 1⟩⟩, ⟨5, 0, 0, [], 0, 0, 0, 0, 0, 0, 0, 1⟩, [⟨3, 1, 2, 1, 5, 0, 1⟩, ⟨3, 1, 1, 1, 5, 0, 0⟩], true⟩ from rfl]
  dsimp only
  first | (with_reducible refine Cd.g ?_; refine Cd.know (fun w_ hw_ => tkC_ok (Tk.sat (A := (tkC t _)) (by exact tk_) hw_)) fun ht => ?_) | (with_reducible refine Ol.g ?_; refine Ol.know (fun w_ hw_ => tkC_ok (Tk.sat (A := (tkC t _)) (by exact tk_) hw_)) fun ht => ?_) | (with_reducible refine Dn.g ?_; refine Dn.know (fun w_ hw_ => tkC_ok (Tk.sat (A := (tkC t _)) (by exact tk_) hw_)) fun ht => ?_)
  have e1 : t.f_Id = 5 := congrArg AT.id ht.1
  have e2 : t.f_Worker = 1 := congrArg AT.worker ht.1
  refine go ?_;repeat((with_reducible refine Ol.g ?_);(first|refine Ol.eff rfl rfl rfl (Eff.alloc fun _=>?_)|refine Ol.eff rfl rfl rfl (Eff.box fun _=>?_)|refine Ol.eff0 rfl rfl (Eff.store rfl rfl ?_)|refine Ol.eff rfl rfl rfl (Eff.bslice rfl rfl fun _=>?_)|(refine Ol.eff0 rfl rfl (Eff.storeE rfl ?_ ?_);exact pre_)|(refine Ol.eff rfl rfl rfl (Eff.append1 rfl ?_ fun _=>?_);exact pre_));refine go ?_)
  rename_i c1
  with_reducible refine Ol.g ?_
  refine Ol.eff rfl rfl rfl (Eff.call (R := ?_) (deck_Held p x ⟨1, false, 1, [⟨2, [], zA, false⟩, ⟨2, [], ⟨5, 0, 0, [], 0, 0, 0, 0, 0, 0, 0, 1⟩, true⟩], ⟨[], 1⟩⟩ 1) rfl ?_ ?_)
  rotate_left
  · exact tkl_
  rintro t2 -
  dsimp only [List.cons_append, List.nil_append]
  rw [show (⟨1, false, 1, [⟨2, [], zA, false⟩, ⟨2, [], ⟨5, 0, 0, [], 0, 0, 0, 0, 0, 0, 0, 1⟩, true⟩], ⟨[], 1⟩⟩ : DK).heldB 1 = true from rfl, show (⟨1, false, 1, [⟨2, [], zA, false⟩, ⟨2, [], ⟨5, 0, 0, [], 0, 0, 0, 0, 0, 0, 0, 1⟩, true⟩], ⟨[], 1⟩⟩ : DK).heldA 1 = ⟨5, 0, 0, [], 0, 0, 0, 0, 0, 0, 0, 1⟩ from rfl]
  first | (with_reducible refine Cd.g ?_; refine Cd.know (fun w_ hw_ => tkC_ok (Tk.sat (A := (tkC t2 _)) (by exact tk_) hw_)) fun ht2 => ?_) | (with_reducible refine Ol.g ?_; refine Ol.know (fun w_ hw_ => tkC_ok (Tk.sat (A := (tkC t2 _)) (by exact tk_) hw_)) fun ht2 => ?_) | (with_reducible refine Dn.g ?_; refine Dn.know (fun w_ hw_ => tkC_ok (Tk.sat (A := (tkC t2 _)) (by exact tk_) hw_)) fun ht2 => ?_)
  have e3 : t2.f_Id = 5 := congrArg AT.id ht2.1
  refine go ?_;repeat((with_reducible refine Ol.g ?_);(first|refine Ol.eff rfl rfl rfl (Eff.alloc fun _=>?_)|refine Ol.eff rfl rfl rfl (Eff.box fun _=>?_)|refine Ol.eff0 rfl rfl (Eff.store rfl rfl ?_)|refine Ol.eff rfl rfl rfl (Eff.bslice rfl rfl fun _=>?_)|(refine Ol.eff0 rfl rfl (Eff.storeE rfl ?_ ?_);exact pre_)|(refine Ol.eff rfl rfl rfl (Eff.append1 rfl ?_ fun _=>?_);exact pre_));refine go ?_)
  with_reducible refine Ol.g ?_
  refine Ol.eff rfl rfl rfl (Eff.call (R := ?_) (deck_Burn p x ⟨1, false, 1, [⟨2, [], zA, false⟩, ⟨2, [], ⟨5, 0, 0, [], 0, 0, 0, 0, 0, 0, 0, 1⟩, true⟩], ⟨[], 1⟩⟩ (by dsimp only; omega)) rfl ?_ ?_)
  rotate_left
  · exact tkl_
  rintro _ -
  dsimp only [List.cons_append, List.nil_append, DK.setF]
  rw [if_pos (by omega)]
  refine go ?_;repeat((with_reducible refine Ol.g ?_);(first|refine Ol.eff rfl rfl rfl (Eff.alloc fun _=>?_)|refine Ol.eff rfl rfl rfl (Eff.box fun _=>?_)|refine Ol.eff0 rfl rfl (Eff.store rfl rfl ?_)|refine Ol.eff rfl rfl rfl (Eff.bslice rfl rfl fun _=>?_)|(refine Ol.eff0 rfl rfl (Eff.storeE rfl ?_ ?_);exact pre_)|(refine Ol.eff rfl rfl rfl (Eff.append1 rfl ?_ fun _=>?_);exact pre_));refine go ?_)
  with_reducible refine Ol.g ?_
  refine Ol.eff rfl rfl rfl (Eff.call (R := ?_) (deck_Burn p x ⟨1, false, 1 - 1, [⟨2, [], zA, false⟩, ⟨2, [], ⟨5, 0, 0, [], 0, 0, 0, 0, 0, 0, 0, 1⟩, true⟩], ⟨[], 1⟩⟩ (by dsimp only; omega)) rfl ?_ ?_)
  rotate_left
  · exact tkl_
  rintro _ -
  dsimp only [List.cons_append, List.nil_append, DK.setF]
  rw [if_neg (by omega)]
  refine go ?_;repeat((with_reducible refine Ol.g ?_);(first|refine Ol.eff rfl rfl rfl (Eff.alloc fun _=>?_)|refine Ol.eff rfl rfl rfl (Eff.box fun _=>?_)|refine Ol.eff0 rfl rfl (Eff.store rfl rfl ?_)|refine Ol.eff rfl rfl rfl (Eff.bslice rfl rfl fun _=>?_)|(refine Ol.eff0 rfl rfl (Eff.storeE rfl ?_ ?_);exact pre_)|(refine Ol.eff rfl rfl rfl (Eff.append1 rfl ?_ fun _=>?_);exact pre_));refine go ?_)
  rw [e1, e2, e3]
  refine go ?_;repeat((with_reducible refine Ol.g ?_);(first|refine Ol.eff rfl rfl rfl (Eff.alloc fun _=>?_)|refine Ol.eff rfl rfl rfl (Eff.box fun _=>?_)|refine Ol.eff0 rfl rfl (Eff.store rfl rfl ?_)|refine Ol.eff rfl rfl rfl (Eff.bslice rfl rfl fun _=>?_)|(refine Ol.eff0 rfl rfl (Eff.storeE rfl ?_ ?_);exact pre_)|(refine Ol.eff rfl rfl rfl (Eff.append1 rfl ?_ fun _=>?_);exact pre_));refine go ?_)
  with_reducible refine Ol.g ?_
  refine Ol.eff rfl rfl rfl (Eff.call (R := ?_) (deck_Live p x ⟨1, false, 1 - 1, [⟨2, [], zA, false⟩, ⟨2, [], ⟨5, 0, 0, [], 0, 0, 0, 0, 0, 0, 0, 1⟩, true⟩], ⟨[], 1⟩⟩ [] 0 []) rfl ?_ ?_)
  rotate_left
  · exact tkl_
  rintro _ -
  dsimp only [List.cons_append, List.nil_append]
  refine go ?_;repeat((with_reducible refine Ol.g ?_);(first|refine Ol.eff rfl rfl rfl (Eff.alloc fun _=>?_)|refine Ol.eff rfl rfl rfl (Eff.box fun _=>?_)|refine Ol.eff0 rfl rfl (Eff.store rfl rfl ?_)|refine Ol.eff rfl rfl rfl (Eff.bslice rfl rfl fun _=>?_)|(refine Ol.eff0 rfl rfl (Eff.storeE rfl ?_ ?_);exact pre_)|(refine Ol.eff rfl rfl rfl (Eff.append1 rfl ?_ fun _=>?_);exact pre_));refine go ?_)
  with_reducible refine Ol.g ?_
  refine Ol.eff rfl rfl rfl (Eff.call (R := ?_) (deck_Room p x ⟨1, false, 1 - 1, [⟨2, [], zA, false⟩, ⟨2, [], ⟨5, 0, 0, [], 0, 0, 0, 0, 0, 0, 0, 1⟩, true⟩], ⟨[], 1⟩⟩ 0) rfl ?_ ?_)
  rotate_left
  · exact tkl_
  rintro _ -
  dsimp only [List.cons_append, List.nil_append]
  refine go ?_;repeat((with_reducible refine Ol.g ?_);(first|refine Ol.eff rfl rfl rfl (Eff.alloc fun _=>?_)|refine Ol.eff rfl rfl rfl (Eff.box fun _=>?_)|refine Ol.eff0 rfl rfl (Eff.store rfl rfl ?_)|refine Ol.eff rfl rfl rfl (Eff.bslice rfl rfl fun _=>?_)|(refine Ol.eff0 rfl rfl (Eff.storeE rfl ?_ ?_);exact pre_)|(refine Ol.eff rfl rfl rfl (Eff.append1 rfl ?_ fun _=>?_);exact pre_));refine go ?_)
  with_reducible refine Ol.g ?_
  refine Ol.eff rfl rfl rfl (Eff.call (R := ?_) (deck_Right false false ⟨1, false, 0, 0, 0, .slice none 0 0, .slice none 0 0, 0⟩ [] []) rfl ?_ ?_)
  rotate_left
  · exact tkl_
  rintro _ -
  dsimp only [List.cons_append, List.nil_append]
  refine go ?_;repeat((with_reducible refine Ol.g ?_);(first|refine Ol.eff rfl rfl rfl (Eff.alloc fun _=>?_)|refine Ol.eff rfl rfl rfl (Eff.box fun _=>?_)|refine Ol.eff0 rfl rfl (Eff.store rfl rfl ?_)|refine Ol.eff rfl rfl rfl (Eff.bslice rfl rfl fun _=>?_)|(refine Ol.eff0 rfl rfl (Eff.storeE rfl ?_ ?_);exact pre_)|(refine Ol.eff rfl rfl rfl (Eff.append1 rfl ?_ fun _=>?_);exact pre_));refine go ?_)
  with_reducible refine Ol.g ?_
  refine Ol.eff rfl rfl rfl (Eff.call (R := ?_) (deck_Right false false ⟨0, false, 0, 0, 0, .slice none 0 0, .slice none 0 0, 0⟩ [] []) rfl ?_ ?_)
  rotate_left
  · exact tkl_
  rintro _ -
  dsimp only [List.cons_append, List.nil_append]
  refine go ?_;repeat((with_reducible refine Ol.g ?_);(first|refine Ol.eff rfl rfl rfl (Eff.alloc fun _=>?_)|refine Ol.eff rfl rfl rfl (Eff.box fun _=>?_)|refine Ol.eff0 rfl rfl (Eff.store rfl rfl ?_)|refine Ol.eff rfl rfl rfl (Eff.bslice rfl rfl fun _=>?_)|(refine Ol.eff0 rfl rfl (Eff.storeE rfl ?_ ?_);exact pre_)|(refine Ol.eff rfl rfl rfl (Eff.append1 rfl ?_ fun _=>?_);exact pre_));refine go ?_)
  refine Dn.ret1 rfl rfl fun w hs => ⟨(), ?_, by trivial, by first | exact hs | (refine hs.conv ?_; exact ent_)⟩
  rfl
end Go.Proofs.YtihmbmoeedojoaaGreat

