/- Contracts of functions of the program, proved in a small separation logic. Conditions: those that each theorem states. -/
import Derived.Test.YtihmbmoeedojoaaGreatRDeck1
import Derived.Test.YtihmbmoeedojoaaGreatDeck9
namespace Go.Proofs.YtihmbmoeedojoaaGreat
open Go Go.Sl
set_option maxHeartbeats 4000000
set_option maxRecDepth 100000
set_option linter.unusedVariables false
/-! the reference's identities and futures -/
instance quoi32 {P : Program} {ty : TypeId} {H : List HProp} (t : TypeId) (a b : Int) (ca cb : Bool) : Q1 P (.bin .quo t (.int .i32 a) (.int .i32 b) ca cb) ty H (0 ≤ a ∧ a ≤ 2147483647 ∧ 0 < b) (.int .i32 (a / b)) := ⟨fun ⟨h0, h1, hb⟩ w _ => quo_run h0 hb (wrap_i32 (by have := div_le h0 hb h1; omega)) w⟩
-- FN confidant/confidantref9.Label
theorem ref9_Label (n : Int) (h : -2147483648 ≤ n ∧ n ≤ 2147483647) : Sp Tryz.prog 93 [.int .i32 n] [] (fun _ : Unit => True) (fun _ => .int .i64 (idL n)) (fun _ => []) := by
  refine Sp.intro (n := 8) Tryz.func93 rfl rfl fun w0 R => ?_
  dsimp only [List.cons_append, List.nil_append, envOf]
  refine go ?_
  refine Cd.condP rfl (fun h2 => ?_) (fun h2 => ?_)
  · refine go ?_
    refine Dn.ret1 rfl rfl fun w hs => ⟨(), ?_, by trivial, by first | exact hs | (refine hs.conv ?_; exact ent_)⟩
    rw [idL, if_pos h2]
  · refine go ?_
    refine Dn.ret1 rfl rfl fun w hs => ⟨(), ?_, by trivial, by first | exact hs | (refine hs.conv ?_; exact ent_)⟩
    rw [idL, if_neg h2]
-- FN confidant/confidantref9.Number
theorem ref9_Number (n : Int) (h : -2147483648 ≤ n ∧ n ≤ 2147483647) : Sp Tryz.prog 94 [.int .i32 n] [] (fun _ : Unit => True) (fun _ => .int .i64 (idN n)) (fun _ => []) := by
  refine Sp.intro (n := 8) Tryz.func94 rfl rfl fun w0 R => ?_
  dsimp only [List.cons_append, List.nil_append, envOf]
  refine go ?_
  refine Cd.condP rfl (fun h2 => ?_) (fun h2 => ?_)
  · refine go ?_
    refine Dn.ret1 rfl rfl fun w hs => ⟨(), ?_, by trivial, by first | exact hs | (refine hs.conv ?_; exact ent_)⟩
    rw [idN, if_pos h2]
  · refine go ?_
    refine Dn.ret1 rfl rfl fun w hs => ⟨(), ?_, by trivial, by first | exact hs | (refine hs.conv ?_; exact ent_)⟩
    rw [idN, if_neg h2]
-- FN confidant/confidantref9.Valid
theorem ref9_Valid (id n : Int) (h : -2147483648 ≤ id ∧ id ≤ 2147483647) (hn : 0 ≤ n ∧ n ≤ 16) : Sp Tryz.prog 106 [.int .i32 id, .int .i64 n] [] (fun _ : Unit => True) (fun _ => .bool (decide (0 ≤ id ∧ id / 65536 < n))) (fun _ => []) := by
  have e : imin n 16 = n := by unfold imin; split <;> omega
  refine Sp.intro (n := 14) Tryz.func106 rfl rfl fun w0 R => ?_
  dsimp only [List.cons_append, List.nil_append, envOf]
  refine go ?_
  by_cases h0 : 0 ≤ id
  · rw [decide_eq_true h0]
    refine go ?_
    with_reducible refine Ol.g ?_
    refine Ol.eff rfl rfl rfl (Eff.call (R := ?_) (ref9_Label id h) rfl ?_ ?_)
    rotate_left
    · exact tkl_
    rintro _ -
    rw [show idL id = id / 65536 from if_neg (by omega)]
    dsimp only [List.cons_append, List.nil_append]
    refine go ?_
    refine Dn.ret1 rfl rfl fun w hs => ⟨(), ?_, by trivial, by first | exact hs | (refine hs.conv ?_; exact ent_)⟩
    rw [e]
    congr 1
    exact decide_eq_decide.2 ⟨fun k => ⟨h0, k⟩, fun k => k.2⟩
  · rw [decide_eq_false h0]
    refine go ?_
    refine Dn.ret1 rfl rfl fun w hs => ⟨(), ?_, by trivial, by first | exact hs | (refine hs.conv ?_; exact ent_)⟩
    rw [decide_eq_false (by omega)]
-- FN confidant/confidantref9.Of
theorem ref9_Of (l n : Int) : Sp Tryz.prog 46 [.int .i64 l, .int .i64 n] [] (fun _ : Unit => True) (fun _ => .tuple #[.int .i32 (ofV l n), .bool (ofB l n)]) (fun _ => []) := by
  refine Sp.intro (n := 25) Tryz.func46 rfl rfl fun w0 R => ?_
  dsimp only [List.cons_append, List.nil_append, envOf]
  refine go ?_
  by_cases h1 : l < 0
  · rw [decide_eq_true h1]
    refine go ?_
    have e : ofB l n = false := decide_eq_false (by omega)
    refine Dn.ret2 rfl rfl rfl fun w hs => ⟨(), by rw [ofV, e], trivial, hs⟩
  rw [decide_eq_false h1]
  refine go ?_
  by_cases h2 : 16 ≤ l
  · rw [decide_eq_true h2]
    refine go ?_
    have e : ofB l n = false := decide_eq_false (by omega)
    refine Dn.ret2 rfl rfl rfl fun w hs => ⟨(), by rw [ofV, e], trivial, hs⟩
  rw [decide_eq_false h2]
  refine go ?_
  by_cases h3 : n < 0
  · rw [decide_eq_true h3]
    refine go ?_
    have e : ofB l n = false := decide_eq_false (by omega)
    refine Dn.ret2 rfl rfl rfl fun w hs => ⟨(), by rw [ofV, e], trivial, hs⟩
  rw [decide_eq_false h3]
  refine go ?_
  refine Cd.condP rfl (fun h4 => ?_) (fun h4 => ?_)
  · refine go ?_
    have e : ofB l n = false := decide_eq_false (by omega)
    refine Dn.ret2 rfl rfl rfl fun w hs => ⟨(), by rw [ofV, e], trivial, hs⟩
  · refine go ?_
    have e : ofB l n = true := decide_eq_true (by omega)
    refine Dn.ret2 rfl rfl rfl fun w hs => ⟨(), by rw [ofV, e], trivial, hs⟩
abbrev fut12P (p : Nat) (x : FX) (f : FS) : List HProp := [cel p 109 [x.vq, x.vl], sl eVal x.vl x.rows, rws false e_api_Future x.rows f.l, sl (eInt .i64) x.vq f.q]
def fut12C (p : Nat) (f : FS) : HProp := pk (fun x : FX => x.rows.length = f.l.length ∧ f.ok) (fun x => fut12P p x f)
-- FN (*confidant/confidantref12.Futures).Get
theorem fut12_Get (p : Nat) (f : FS) (id : Int) (h : -2147483648 ≤ id ∧ id ≤ 2147483647) :
    Sp Tryz.prog 92 [.pointer (some ⟨p, 0, none⟩), .int .i32 id] [fut12C p f] (fun _ : Unit => True) (fun _ => .tuple #[match f.inB id with | true => fV (f.get id) | false => .agg #[.int .i64 0, .int .i64 0, .int .i32 0, .int .i64 0], .bool (f.inB id)]) (fun _ => [fut12C p f]) := by
  refine Sp.intro (n := 41) Tryz.func92 rfl rfl fun w0 R => ?_
  dsimp only [List.cons_append, List.nil_append, envOf]
  first | (with_reducible refine Cd.g ?_; refine Cd.pk (A := (fut12C p f)) rfl (by exact tk_) fun x hx => ?_) | (with_reducible refine Ol.g ?_; refine Ol.pk (A := (fut12C p f)) rfl (by exact tk_) fun x hx => ?_) | (with_reducible refine Dn.g ?_; refine Dn.pk (A := (fut12C p f)) rfl (by exact tk_) fun x hx => ?_)
  dsimp only [List.cons_append, List.nil_append]
  have ho := hx.2
  have hn16 := ho.n16
  first | (with_reducible refine Cd.g ?_; refine Cd.know (fun w_ hw_ => rws_len (Tk.sat (A := (rws false e_api_Future x.rows f.l)) (by exact tk_) hw_)) fun hrl => ?_) | (with_reducible refine Ol.g ?_; refine Ol.know (fun w_ hw_ => rws_len (Tk.sat (A := (rws false e_api_Future x.rows f.l)) (by exact tk_) hw_)) fun hrl => ?_) | (with_reducible refine Dn.g ?_; refine Dn.know (fun w_ hw_ => rws_len (Tk.sat (A := (rws false e_api_Future x.rows f.l)) (by exact tk_) hw_)) fun hrl => ?_)
  refine go ?_;repeat((with_reducible refine Ol.g ?_);(first|refine Ol.eff rfl rfl rfl (Eff.alloc fun _=>?_)|refine Ol.eff rfl rfl rfl (Eff.box fun _=>?_)|refine Ol.eff0 rfl rfl (Eff.store rfl rfl ?_)|refine Ol.eff rfl rfl rfl (Eff.bslice rfl rfl fun _=>?_)|(refine Ol.eff0 rfl rfl (Eff.storeE rfl ?_ ?_);exact pre_)|(refine Ol.eff rfl rfl rfl (Eff.append1 rfl ?_ fun _=>?_);exact pre_));refine go ?_)
  rename_i c
  refine Cd.draw2 [[], [], [1], [1, 2], [1, 2, 3], [1, 2, 3, 4], [0, 1, 2, 3, 4, 5], [0, 1, 2, 3, 4, 5, 6], [0, 1, 2, 3, 4, 5, 6, 7], [0, 1, 2, 3, 4, 5, 6, 7, 8], [0, 1, 2, 3, 4, 5, 6, 7, 8, 9], [0, 1, 2, 3, 4, 5, 6, 7, 8], [0, 1, 2, 3, 4, 5, 6, 7, 8, 11], [0, 1, 2, 3, 4, 5, 6, 7, 8, 11, 12], [0, 1, 2, 3, 4, 5, 6, 7, 8, 11, 12, 13], [0, 1, 2, 3, 4, 5, 6, 7, 8], [0, 1, 2, 3, 4, 5, 6, 7, 8, 9, 10, 15], [0, 1, 2, 3, 4, 5, 6, 7, 8, 9, 10, 11, 12, 13, 14, 15, 16], [0, 1, 2, 3, 4, 5, 6, 7, 8, 9, 10, 11, 12, 13, 14, 15, 16, 17], [0, 1, 2, 3, 4, 5, 6, 7, 8, 9, 10, 11, 12, 13, 14, 15, 16, 17, 18], [0, 1, 2, 3, 4, 5, 6, 7, 8, 9, 10, 11, 12, 13, 14, 15, 16, 17, 18, 19], [0, 1, 2, 3, 4, 5, 6, 7, 8, 9, 10, 11, 12, 13, 14, 15, 16, 17, 18, 19, 20]] [6, 10, 16] [] (td := [(0, .fresh), (1, .fresh), (2, .fresh), (3, .fresh), (4, .fresh), (5, .fresh)]) mixed (by kernel_rfl) (by kernel_rfl) (by decide) (by decide) rfl (by kernel_rfl) ?_
  refine god2 ?_
  refine Sg2.one (td := [(7, .fresh), (8, .fresh), (9, .fresh), (11, .fresh), (12, .fresh), (13, .fresh), (14, .fresh), (15, .fresh)]) rfl (by kernel_rfl) fun F6_ => ?_
  dsimp only [List.cons_append, List.nil_append]
  refine SpOp.eff rfl rfl rfl rfl rfl (Eff.call (R := ?_) (ref9_Valid id x.rows.length h (by omega)) rfl ?_ ?_)
  rotate_left
  · exact tkl_
  rintro _ -
  dsimp only [List.cons_append, List.nil_append]
  refine Sn.ok ?_
  by_cases hv : 0 ≤ id ∧ id / 65536 < (x.rows.length : Int)
  rotate_left
  · have e : f.inB id = false := decide_eq_false (by omega)
    rw [decide_eq_false hv, e]
    refine god2 ?_
    refine Sg2.one (td := [(11, .old), (12, .old), (13, .old), (14, .old), (15, .old)]) rfl (by kernel_rfl) fun F10_ => ?_
    dsimp only [List.cons_append, List.nil_append]
    refine SpOp.skip rfl rfl rfl rfl (Sn.ok ?_)
    refine god2 ?_
    refine Sg2.one (td := [(11, .old), (12, .old), (13, .old), (14, .old), (17, .fresh), (18, .fresh), (19, .fresh), (20, .fresh), (21, .fresh)]) rfl (by kernel_rfl) fun F16_ => ?_
    dsimp only [List.cons_append, List.nil_append]
    refine SpOp.skip rfl rfl rfl rfl (Sn.ok ?_)
    refine god2 ?_
    refine go ?_;repeat((with_reducible refine Ol.g ?_);(first|refine Ol.eff rfl rfl rfl (Eff.alloc fun _=>?_)|refine Ol.eff rfl rfl rfl (Eff.box fun _=>?_)|refine Ol.eff0 rfl rfl (Eff.store rfl rfl ?_)|refine Ol.eff rfl rfl rfl (Eff.bslice rfl rfl fun _=>?_)|(refine Ol.eff0 rfl rfl (Eff.storeE rfl ?_ ?_);exact pre_)|(refine Ol.eff rfl rfl rfl (Eff.append1 rfl ?_ fun _=>?_);exact pre_));refine go ?_)
    refine Dn.retC1 rfl rfl trivial rfl fun w hs => ⟨(), rfl, trivial, hs.conv (ents.pk x hx (by dsimp only [List.cons_append, List.nil_append]; exact ent_))⟩
  · rw [decide_eq_true hv]
    refine god2 ?_
    refine Sg2.one (td := [(11, .old), (12, .old), (13, .old), (14, .old), (15, .old)]) rfl (by kernel_rfl) fun F10_ => ?_
    dsimp only [List.cons_append, List.nil_append]
    refine SpOp.eff rfl rfl rfl rfl rfl (Eff.call (R := ?_) (ref9_Number id h) rfl ?_ ?_)
    rotate_left
    · exact tkl_
    rintro _ -
    rw [show idN id = id % 65536 from if_neg (by omega)]
    dsimp only [List.cons_append, List.nil_append]
    refine Sn.ok ?_
    refine god2 ?_
    refine Sg2.one (td := [(11, .old), (12, .old), (13, .old), (14, .old), (17, .fresh), (18, .fresh), (19, .fresh), (20, .fresh), (21, .fresh)]) rfl (by kernel_rfl) fun F16_ => ?_
    dsimp only [List.cons_append, List.nil_append]
    refine SpOp.eff rfl rfl rfl rfl rfl (Eff.call (R := ?_) (ref9_Label id h) rfl ?_ ?_)
    rotate_left
    · exact tkl_
    rintro _ -
    rw [show idL id = id / 65536 from if_neg (by omega)]
    dsimp only [List.cons_append, List.nil_append]
    refine Sn.ok ?_
    refine god2 ?_
    refine go ?_
    refine Cd.condP rfl (fun h2 => ?_) (fun h2 => ?_)
    · have e : f.inB id = false := decide_eq_false (by omega)
      rw [e]
      refine go ?_;repeat((with_reducible refine Ol.g ?_);(first|refine Ol.eff rfl rfl rfl (Eff.alloc fun _=>?_)|refine Ol.eff rfl rfl rfl (Eff.box fun _=>?_)|refine Ol.eff0 rfl rfl (Eff.store rfl rfl ?_)|refine Ol.eff rfl rfl rfl (Eff.bslice rfl rfl fun _=>?_)|(refine Ol.eff0 rfl rfl (Eff.storeE rfl ?_ ?_);exact pre_)|(refine Ol.eff rfl rfl rfl (Eff.append1 rfl ?_ fun _=>?_);exact pre_));refine go ?_)
      refine Dn.retC1 rfl rfl trivial rfl fun w hs => ⟨(), rfl, trivial, hs.conv (ents.pk x hx (by dsimp only [List.cons_append, List.nil_append]; exact ent_))⟩
    · have e : f.inB id = true := decide_eq_true (by omega)
      rw [e]
      refine go ?_
      refine Cd.drawL (l := [_, _, _, _, _, _, _, _, _, _, _, _, _]) (z := _) [[], [0], [0, 1], [0, 1, 2], [], [4], [0, 1, 2, 3, 4, 5], [0, 1, 2, 3, 4, 5, 6], [], [4, 5, 8], [0, 1, 2, 3, 4, 5, 6, 7, 8, 9], [0, 1, 2, 3, 4, 5, 6, 7, 8, 9, 10], [0, 1, 2, 3, 4, 5, 6, 7, 8, 9, 10, 11]] [5, 9, 12] [] (td := [(0, .fresh), (1, .fresh), (2, .fresh), (3, .fresh), (4, .fresh), (8, .fresh)]) rfl mixed (by kernel_rfl) (by kernel_rfl) (by kernel_rfl) (by decide) (by decide) rfl (by kernel_rfl) ?_
      refine god2 ?_
      refine Sg2.one (td := [(0, .old), (1, .old), (2, .old), (3, .old), (6, .fresh), (7, .fresh), (8, .old)]) rfl (by kernel_rfl) fun F5_ => ?_
      dsimp only [List.cons_append, List.nil_append]
      refine SpOp.eff rfl rfl rfl rfl rfl (Eff.call (R := ?_) (ref9_Label id h) rfl ?_ ?_)
      rotate_left
      · exact tkl_
      rintro _ -
      rw [show idL id = id / 65536 from if_neg (by omega)]
      dsimp only [List.cons_append, List.nil_append]
      refine Sn.ok ?_
      refine god2 ?_
      refine Sg2.one (td := [(0, .old), (1, .old), (2, .old), (3, .old), (6, .old), (7, .old), (10, .fresh), (11, .fresh)]) rfl (by kernel_rfl) fun F9_ => ?_
      dsimp only [List.cons_append, List.nil_append]
      refine SpOp.eff rfl rfl rfl rfl rfl (Eff.call (R := ?_) (ref9_Number id h) rfl ?_ ?_)
      rotate_left
      · exact tkl_
      rintro _ -
      rw [show idN id = id % 65536 from if_neg (by omega)]
      dsimp only [List.cons_append, List.nil_append]
      refine Sn.ok ?_
      refine god2 ?_
      refine Sg2.one (td := []) rfl (by kernel_rfl) fun F12_ => ?_
      dsimp only [List.cons_append, List.nil_append]
      (with_reducible first|refine SpOp.eff rfl rfl rfl rfl rfl (Eff.x (Qx.build rfl) ?_)|refine SpOp.eff rfl rfl rfl rfl rfl (Eff.alloc fun _=>?_)|refine SpOp.eff rfl rfl rfl rfl rfl (Eff.box fun _=>?_)|refine SpOp.eff rfl rfl rfl rfl rfl (Eff.bslice rfl rfl fun _=>?_)|(refine SpOp.eff rfl rfl rfl rfl rfl (Eff.append1 rfl ?_ fun _=>?_);exact pre_)|refine SpOp.eff0 rfl rfl rfl rfl (Eff.store rfl rfl ?_)|(refine SpOp.eff0 rfl rfl rfl rfl (Eff.storeE rfl ?_ ?_);exact pre_))
      refine Sn.ok ?_
      refine god2 ?_
      refine go ?_
      refine Dn.retC1 rfl rfl trivial rfl fun w hs => ⟨(), rfl, trivial, hs.conv (ents.pk x hx (by dsimp only [List.cons_append, List.nil_append]; exact ent_))⟩
-- FN (*confidant/confidantref12.Futures).end
theorem fut12_end (p : Nat) (f : FS) (id : Int) (d : FD) (h : -2147483648 ≤ id ∧ id ≤ 2147483647) :
    Sp Tryz.prog 61 [.pointer (some ⟨p, 0, none⟩), .int .i32 id, .int .i64 d.state, .int .i32 d.v, .int .i64 d.code] [fut12C p f] (fun _ : Unit => True) (fun _ => .bool (f.openB id)) (fun _ => [fut12C p (f.change id d)]) := by
  refine Sp.intro (n := 44) Tryz.func61 rfl rfl fun w0 R => ?_
  dsimp only [List.cons_append, List.nil_append, envOf]
  refine go ?_
  with_reducible refine Ol.g ?_
  refine Ol.eff rfl rfl rfl (Eff.call (R := ?_) (fut12_Get p f id h) rfl ?_ ?_)
  rotate_left
  · exact tkl_
  rintro _ -
  dsimp only [List.cons_append, List.nil_append]
  cases e : f.inB id with
  | false =>
    dsimp only
    have e2 : f.openB id = false := by unfold FS.openB; rw [e]; rfl
    have e3 : f.change id d = f := by unfold FS.change; rw [e2]
    rw [e2, e3]
    refine go ?_;repeat((with_reducible refine Ol.g ?_);(first|refine Ol.eff rfl rfl rfl (Eff.alloc fun _=>?_)|refine Ol.eff rfl rfl rfl (Eff.box fun _=>?_)|refine Ol.eff0 rfl rfl (Eff.store rfl rfl ?_)|refine Ol.eff rfl rfl rfl (Eff.bslice rfl rfl fun _=>?_)|(refine Ol.eff0 rfl rfl (Eff.storeE rfl ?_ ?_);exact pre_)|(refine Ol.eff rfl rfl rfl (Eff.append1 rfl ?_ fun _=>?_);exact pre_));refine go ?_)
    refine Dn.ret1 rfl rfl fun w hs => ⟨(), ?_, by trivial, by first | exact hs | (refine hs.conv ?_; exact ent_)⟩
    rfl
  | true =>
    have hb := of_decide_eq_true e
    dsimp only
    refine go ?_;repeat((with_reducible refine Ol.g ?_);(first|refine Ol.eff rfl rfl rfl (Eff.alloc fun _=>?_)|refine Ol.eff rfl rfl rfl (Eff.box fun _=>?_)|refine Ol.eff0 rfl rfl (Eff.store rfl rfl ?_)|refine Ol.eff rfl rfl rfl (Eff.bslice rfl rfl fun _=>?_)|(refine Ol.eff0 rfl rfl (Eff.storeE rfl ?_ ?_);exact pre_)|(refine Ol.eff rfl rfl rfl (Eff.append1 rfl ?_ fun _=>?_);exact pre_));refine go ?_)
    rename_i c
    refine Cd.condP rfl (fun h2 => ?_) (fun h2 => ?_)
    · have e2 : f.openB id = false := by unfold FS.openB; rw [e]; exact decide_eq_false h2
      have e3 : f.change id d = f := by unfold FS.change; rw [e2]
      rw [e2, e3]
      refine go ?_;repeat((with_reducible refine Ol.g ?_);(first|refine Ol.eff rfl rfl rfl (Eff.alloc fun _=>?_)|refine Ol.eff rfl rfl rfl (Eff.box fun _=>?_)|refine Ol.eff0 rfl rfl (Eff.store rfl rfl ?_)|refine Ol.eff rfl rfl rfl (Eff.bslice rfl rfl fun _=>?_)|(refine Ol.eff0 rfl rfl (Eff.storeE rfl ?_ ?_);exact pre_)|(refine Ol.eff rfl rfl rfl (Eff.append1 rfl ?_ fun _=>?_);exact pre_));refine go ?_)
      refine Dn.ret1 rfl rfl fun w hs => ⟨(), ?_, by trivial, by first | exact hs | (refine hs.conv ?_; exact ent_)⟩
      rfl
    · have e2 : f.openB id = true := by unfold FS.openB; rw [e]; exact decide_eq_true (Decidable.not_not.1 h2)
      have e3 : f.change id d = f.set id (d.to (f.get id)) := by unfold FS.change; rw [e2]
      rw [e2, e3]
      refine go ?_;repeat((with_reducible refine Ol.g ?_);(first|refine Ol.eff rfl rfl rfl (Eff.alloc fun _=>?_)|refine Ol.eff rfl rfl rfl (Eff.box fun _=>?_)|refine Ol.eff0 rfl rfl (Eff.store rfl rfl ?_)|refine Ol.eff rfl rfl rfl (Eff.bslice rfl rfl fun _=>?_)|(refine Ol.eff0 rfl rfl (Eff.storeE rfl ?_ ?_);exact pre_)|(refine Ol.eff rfl rfl rfl (Eff.append1 rfl ?_ fun _=>?_);exact pre_));refine go ?_)
      first | (with_reducible refine Cd.g ?_; refine Cd.pk (A := (fut12C p f)) rfl (by exact tk_) fun x hx => ?_) | (with_reducible refine Ol.g ?_; refine Ol.pk (A := (fut12C p f)) rfl (by exact tk_) fun x hx => ?_) | (with_reducible refine Dn.g ?_; refine Dn.pk (A := (fut12C p f)) rfl (by exact tk_) fun x hx => ?_)
      dsimp only [List.cons_append, List.nil_append]
      first | (with_reducible refine Cd.g ?_; refine Cd.know (fun w_ hw_ => rws_len (Tk.sat (A := (rws false e_api_Future x.rows f.l)) (by exact tk_) hw_)) fun hrl => ?_) | (with_reducible refine Ol.g ?_; refine Ol.know (fun w_ hw_ => rws_len (Tk.sat (A := (rws false e_api_Future x.rows f.l)) (by exact tk_) hw_)) fun hrl => ?_) | (with_reducible refine Dn.g ?_; refine Dn.know (fun w_ hw_ => rws_len (Tk.sat (A := (rws false e_api_Future x.rows f.l)) (by exact tk_) hw_)) fun hrl => ?_)
      refine Cd.row (r := false) (E := e_api_Future) (rows := x.rows) (xss := f.l) (id / 65536) (by exact tk_) (by omega) ?_
      refine Cd.draw2 [[], [0], [0, 1], [0, 1, 2], [], [4], [0, 1, 2, 3, 4, 5], [0, 1, 2, 3, 4, 5, 6], [], [4, 5, 8], [], [0, 1, 2, 3, 4, 5, 6, 7, 8, 9, 10], [0, 1, 2, 3, 4, 5, 6, 7, 8, 9, 10, 11]] [5, 9, 12] [] (td := [(0, .fresh), (1, .fresh), (2, .fresh), (3, .fresh), (4, .fresh), (8, .fresh), (10, .fresh)]) mixed (by kernel_rfl) (by kernel_rfl) (by decide) (by decide) rfl (by kernel_rfl) ?_
      refine god2 ?_
      refine Sg2.one (td := [(0, .old), (1, .old), (2, .old), (3, .old), (6, .fresh), (7, .fresh), (8, .old), (10, .old)]) rfl (by kernel_rfl) fun F5_ => ?_
      dsimp only [List.cons_append, List.nil_append]
      refine SpOp.eff rfl rfl rfl rfl rfl (Eff.call (R := ?_) (ref9_Label id h) rfl ?_ ?_)
      rotate_left
      · exact tkl_
      rintro _ -
      rw [show idL id = id / 65536 from if_neg (by omega)]
      dsimp only [List.cons_append, List.nil_append]
      refine Sn.ok ?_
      refine god2 ?_
      refine Sg2.one (td := [(0, .old), (1, .old), (2, .old), (3, .old), (6, .old), (7, .old), (10, .old), (11, .fresh)]) rfl (by kernel_rfl) fun F9_ => ?_
      dsimp only [List.cons_append, List.nil_append]
      refine SpOp.eff rfl rfl rfl rfl rfl (Eff.call (R := ?_) (ref9_Number id h) rfl ?_ ?_)
      rotate_left
      · exact tkl_
      rintro _ -
      rw [show idN id = id % 65536 from if_neg (by omega)]
      dsimp only [List.cons_append, List.nil_append]
      refine Sn.ok ?_
      refine god2 ?_
      refine Sg2.one (td := []) rfl (by kernel_rfl) fun F12_ => ?_
      dsimp only [List.cons_append, List.nil_append]
      (with_reducible first|refine SpOp.eff rfl rfl rfl rfl rfl (Eff.x (Qx.build rfl) ?_)|refine SpOp.eff rfl rfl rfl rfl rfl (Eff.alloc fun _=>?_)|refine SpOp.eff rfl rfl rfl rfl rfl (Eff.box fun _=>?_)|refine SpOp.eff rfl rfl rfl rfl rfl (Eff.bslice rfl rfl fun _=>?_)|(refine SpOp.eff rfl rfl rfl rfl rfl (Eff.append1 rfl ?_ fun _=>?_);exact pre_)|refine SpOp.eff0 rfl rfl rfl rfl (Eff.store rfl rfl ?_)|(refine SpOp.eff0 rfl rfl rfl rfl (Eff.storeE rfl ?_ ?_);exact pre_))
      refine Sn.ok ?_
      refine god2 ?_
      refine go ?_
      refine Dn.ret1 rfl rfl fun w hs => ⟨(), rfl, trivial, hs.conv (ents.pk x ⟨by unfold FS.set; simp [hx.1], FS.set_ok hx.2 e⟩ ?_)⟩
      have er : x.rows = x.rows.set (id / 65536).toNat (rd x.rows (id / 65536)) := by rw [rd_eq (by omega)]; exact (List.set_getElem_self _).symm
      refine (show ents _ (cel p 109 [x.vq, x.vl] :: sl eVal x.vl x.rows :: rws false e_api_Future x.rows (f.l.set (id / 65536).toNat ((rd f.l (id / 65536)).set (id % 65536).toNat ⟨(f.get id).f_Label, d.state, d.v, d.code⟩)) :: sl (eInt .i64) x.vq f.q :: R) from ?_)
      refine ents.cons (by exact tk_) (ents.cons (by exact tk_) ?_)
      have key := fun (H : List HProp) (H1 H2 : List HProp) (t1 : Tk H (sl e_api_Future (rd x.rows (id / 65536)) ((rd f.l (id / 65536)).set (id % 65536).toNat ⟨(f.get id).f_Label, d.state, d.v, d.code⟩)) H1) (t2 : Tk H1 (rwsH false e_api_Future (id / 65536).toNat x.rows f.l) H2) (L : List HProp) (k : ents H2 L) => ents.rset (H := H) (r := false) (E := e_api_Future) (rows := x.rows) (xss := f.l) (i := (id / 65536).toNat) t1 t2 k
      rw [← er] at key
      exact key _ _ _ (by exact tk_) (by exact tk_) _ (by exact ent_)
-- FN (*confidant/confidantref12.Futures).Keep
theorem fut12_Keep (p : Nat) (f : FS) (id v : Int) (h : -2147483648 ≤ id ∧ id ≤ 2147483647) :
    Sp Tryz.prog 24 [.pointer (some ⟨p, 0, none⟩), .int .i32 id, .int .i32 v] [fut12C p f] (fun _ : Unit => True) (fun _ => .bool (f.openB id)) (fun _ => [fut12C p (f.change id ⟨1, v, 0⟩)]) := by
  refine Sp.intro (n := 11) Tryz.func24 rfl rfl fun w0 R => ?_
  dsimp only [List.cons_append, List.nil_append, envOf]
  refine go ?_
  with_reducible refine Ol.g ?_
  refine Ol.eff rfl rfl rfl (Eff.call (R := ?_) (fut12_end p f id ⟨1, v, 0⟩ h) rfl ?_ ?_)
  rotate_left
  · exact tkl_
  rintro _ -
  dsimp only [List.cons_append, List.nil_append]
  refine go ?_
  refine Dn.ret1 rfl rfl fun w hs => ⟨(), ?_, by trivial, by first | exact hs | (refine hs.conv ?_; exact ent_)⟩
  rfl
-- FN (*confidant/confidantref12.Futures).Make
theorem fut12_Make (p : Nat) (f : FS) (b label : Int) :
    Sp Tryz.prog 11 [.pointer (some ⟨p, 0, none⟩), .int .i64 b, .int .i64 label] [fut12C p f] (fun _ : Unit => True) (fun _ => .tuple #[.int .i32 (f.makeId b), .bool (f.makeB b)]) (fun _ => [fut12C p (f.make b label)]) := by
  refine Sp.intro (n := 70) Tryz.func11 rfl rfl fun w0 R => ?_
  dsimp only [List.cons_append, List.nil_append, envOf]
  first | (with_reducible refine Cd.g ?_; refine Cd.pk (A := (fut12C p f)) rfl (by exact tk_) fun x hx => ?_) | (with_reducible refine Ol.g ?_; refine Ol.pk (A := (fut12C p f)) rfl (by exact tk_) fun x hx => ?_) | (with_reducible refine Dn.g ?_; refine Dn.pk (A := (fut12C p f)) rfl (by exact tk_) fun x hx => ?_)
  dsimp only [List.cons_append, List.nil_append]
  first | (with_reducible refine Cd.g ?_; refine Cd.know (fun w_ hw_ => rws_len (Tk.sat (A := (rws false e_api_Future x.rows f.l)) (by exact tk_) hw_)) fun hrl => ?_) | (with_reducible refine Ol.g ?_; refine Ol.know (fun w_ hw_ => rws_len (Tk.sat (A := (rws false e_api_Future x.rows f.l)) (by exact tk_) hw_)) fun hrl => ?_) | (with_reducible refine Dn.g ?_; refine Dn.know (fun w_ hw_ => rws_len (Tk.sat (A := (rws false e_api_Future x.rows f.l)) (by exact tk_) hw_)) fun hrl => ?_)
  have ho := hx.2
  refine go ?_
  have no : f.makeB b = false → f.makeId b = 0 ∧ f.make b label = f := fun e => ⟨by unfold FS.makeId; rw [e], by unfold FS.make; rw [e]⟩
  refine Cd.draw2 [[], [0], [0, 1], [0, 1, 2], [0, 1, 2], [0, 1, 2, 4], [0, 1, 2, 4, 5], [0, 1, 2, 4, 5, 6], [0, 1, 2, 4, 5, 6, 7], [0, 1, 2, 3, 4, 5, 6, 7, 8], [0, 1, 2, 3, 4, 5, 6, 7, 8, 9], [0, 1, 2, 3, 4, 5, 6, 7, 8, 9, 10], [0, 1, 2, 3, 4, 5, 6, 7, 8, 9, 10, 11], [0, 1, 2, 3, 4, 5, 6, 7, 8, 9, 10, 11, 12], [0, 1, 2, 3, 4, 5, 6, 7, 8, 9, 10, 11, 12, 13], [0, 1, 2, 3, 4, 5, 6, 7, 8, 9, 10, 11, 12, 13, 14], [0, 1, 2, 3, 4, 5, 6, 7, 8, 9, 10, 11], [0, 1, 2, 3, 4, 5, 6, 7, 8, 9, 10, 11, 12, 13, 14, 15, 16], [0, 1, 2, 3, 4, 5, 6, 7, 8, 9, 10, 11, 12, 13, 14, 15, 16, 17], [0, 1, 2, 3, 4, 5, 6, 7, 8, 9, 10, 11, 12, 13, 14, 15, 16, 17, 18], [0, 1, 2, 3, 4, 5, 6, 7, 8, 9, 10, 11], [0, 1, 2, 3, 4, 5, 6, 7, 8, 9, 10, 11, 20], [0, 1, 2, 3, 4, 5, 6, 7, 8, 9, 10, 11, 20, 21], [0, 1, 2, 3, 4, 5, 6, 7, 8, 9, 10, 11, 20, 21, 22], [0, 1, 2, 3, 4, 5, 6, 7, 8, 9, 10, 11], [0, 1, 2, 3, 4, 5, 6, 7, 8, 9, 10, 11, 20, 21, 22, 23, 24], [0, 1, 2, 3, 4, 5, 6, 7, 8, 9, 10, 11, 20, 21, 22, 23, 24, 25], [0, 1, 2, 3, 4, 5, 6, 7, 8, 9, 10, 11, 12, 13, 14, 15, 16, 17, 18, 19, 20, 21, 22, 23, 24, 25, 26], [0, 1, 2, 3, 4, 5, 6, 7, 8, 9, 10, 11, 12, 13, 14, 15, 16, 17, 18, 19, 20, 21, 22, 23, 24, 25, 26, 27]] [] [] (td := [(0, .fresh), (1, .fresh), (2, .fresh), (3, .fresh), (4, .fresh), (5, .fresh), (6, .fresh), (7, .fresh), (8, .fresh), (9, .fresh), (10, .fresh), (11, .fresh), (12, .fresh), (13, .fresh), (14, .fresh), (15, .fresh), (16, .fresh), (17, .fresh), (18, .fresh), (19, .fresh), (20, .fresh), (21, .fresh), (22, .fresh), (23, .fresh), (24, .fresh), (25, .fresh), (26, .fresh), (27, .fresh), (28, .fresh)]) mixed (by kernel_rfl) (by kernel_rfl) (by decide) (by decide) rfl (by kernel_rfl) ?_
  refine god2 ?_
  by_cases h1 : b < 0
  · have e : f.makeB b = false := decide_eq_false (by omega)
    rw [(no e).1, (no e).2, e, decide_eq_true h1]
    refine god2 ?_
    refine go ?_
    refine Dn.ret2 rfl rfl rfl fun w hs => ⟨(), rfl, trivial, hs.conv (ents.pk x hx (by dsimp only [List.cons_append, List.nil_append]; exact ent_))⟩
  rw [decide_eq_false h1]
  refine god2 ?_
  by_cases h2 : (x.rows.length : Int) ≤ b
  · have e : f.makeB b = false := decide_eq_false (by omega)
    rw [(no e).1, (no e).2, e, decide_eq_true h2]
    refine god2 ?_
    refine go ?_
    refine Dn.ret2 rfl rfl rfl fun w hs => ⟨(), rfl, trivial, hs.conv (ents.pk x hx (by dsimp only [List.cons_append, List.nil_append]; exact ent_))⟩
  rw [decide_eq_false h2]
  have hq := ho.q b (by omega) (by omega)
  have hql := ho.len
  refine god2 ?_
  refine go ?_
  refine Cd.condP rfl (fun h3 => ?_) (fun h3 => ?_)
  · have e : f.makeB b = false := decide_eq_false (by omega)
    rw [(no e).1, (no e).2, e]
    refine go ?_
    refine Dn.ret2 rfl rfl rfl fun w hs => ⟨(), rfl, trivial, hs.conv (ents.pk x hx (by dsimp only [List.cons_append, List.nil_append]; exact ent_))⟩
  have e : f.makeB b = true := decide_eq_true (by omega)
  have hn16 := ho.n16
  rw [show f.makeId b = b * 65536 + (rd f.l b).length from by unfold FS.makeId; rw [e], e]
  refine go ?_
  with_reducible refine Ol.g ?_
  refine Ol.eff rfl rfl rfl (Eff.call (R := ?_) (ref9_Of b (rd f.l b).length) rfl ?_ ?_)
  rotate_left
  · exact tkl_
  rintro _ -
  have eo : ofB b (rd f.l b).length = true := decide_eq_true (by omega)
  rw [show ofV b (rd f.l b).length = b * 65536 + (rd f.l b).length from by unfold ofV; rw [eo], eo]
  dsimp only [List.cons_append, List.nil_append]
  refine go ?_
  refine Cd.row (r := false) (E := e_api_Future) (rows := x.rows) (xss := f.l) b (by exact tk_) (by omega) ?_
  refine Cd.draw2 [[], [0], [0, 1], [0, 1, 2], [], [], [5], [5, 6], [5, 6, 7], [], [5, 6, 7, 8, 9], [5, 6, 7, 8, 9, 10], [], [12], [12, 13], [5, 6, 7, 8, 9, 10, 11, 12, 13, 14], [0, 1, 2, 3, 4, 5, 6, 7, 8, 9, 10, 11, 12, 13, 14, 15], [0, 1, 2, 3, 4, 5, 6, 7, 8, 9, 10, 11, 12, 13, 14, 15, 16]] [14, 15, 17] [] (td := [(0, .fresh), (1, .fresh), (2, .fresh), (3, .fresh), (4, .fresh), (5, .fresh), (6, .fresh), (7, .fresh), (8, .fresh), (9, .fresh), (10, .fresh), (11, .fresh), (12, .fresh), (13, .fresh)]) mixed (by kernel_rfl) (by kernel_rfl) (by decide) (by decide) rfl (by kernel_rfl) ?_
  refine god2 ?_
  refine Sg2.one (td := [(0, .old), (1, .old), (2, .old), (3, .old), (4, .old), (5, .old), (6, .old), (7, .old), (8, .old), (9, .old), (10, .old), (11, .old)]) rfl (by kernel_rfl) fun F14_ => ?_
  dsimp only [List.cons_append, List.nil_append]
  (with_reducible first|refine SpOp.eff rfl rfl rfl rfl rfl (Eff.x (Qx.build rfl) ?_)|refine SpOp.eff rfl rfl rfl rfl rfl (Eff.alloc fun _=>?_)|refine SpOp.eff rfl rfl rfl rfl rfl (Eff.box fun _=>?_)|refine SpOp.eff rfl rfl rfl rfl rfl (Eff.bslice rfl rfl fun _=>?_)|(refine SpOp.eff rfl rfl rfl rfl rfl (Eff.append1 rfl ?_ fun _=>?_);exact pre_)|refine SpOp.eff0 rfl rfl rfl rfl (Eff.store rfl rfl ?_)|(refine SpOp.eff0 rfl rfl rfl rfl (Eff.storeE rfl ?_ ?_);exact pre_))
  refine Sn.ok ?_
  refine god2 ?_
  refine Sg2.one (td := [(0, .old), (1, .old), (2, .old), (3, .old), (4, .old), (16, .fresh)]) rfl (by kernel_rfl) fun F15_ => ?_
  dsimp only [List.cons_append, List.nil_append]
  (with_reducible first|refine SpOp.eff rfl rfl rfl rfl rfl (Eff.x (Qx.build rfl) ?_)|refine SpOp.eff rfl rfl rfl rfl rfl (Eff.alloc fun _=>?_)|refine SpOp.eff rfl rfl rfl rfl rfl (Eff.box fun _=>?_)|refine SpOp.eff rfl rfl rfl rfl rfl (Eff.bslice rfl rfl fun _=>?_)|(refine SpOp.eff rfl rfl rfl rfl rfl (Eff.append1 rfl ?_ fun _=>?_);exact pre_)|refine SpOp.eff0 rfl rfl rfl rfl (Eff.store rfl rfl ?_)|(refine SpOp.eff0 rfl rfl rfl rfl (Eff.storeE rfl ?_ ?_);exact pre_))
  rename_i u
  refine Sn.ok ?_
  refine god2 ?_
  refine Sg2.one (td := []) rfl (by kernel_rfl) fun F17_ => ?_
  dsimp only [List.cons_append, List.nil_append]
  (with_reducible first|refine SpOp.eff rfl rfl rfl rfl rfl (Eff.x (Qx.build rfl) ?_)|refine SpOp.eff rfl rfl rfl rfl rfl (Eff.alloc fun _=>?_)|refine SpOp.eff rfl rfl rfl rfl rfl (Eff.box fun _=>?_)|refine SpOp.eff rfl rfl rfl rfl rfl (Eff.bslice rfl rfl fun _=>?_)|(refine SpOp.eff rfl rfl rfl rfl rfl (Eff.append1 rfl ?_ fun _=>?_);exact pre_)|refine SpOp.eff0 rfl rfl rfl rfl (Eff.store rfl rfl ?_)|(refine SpOp.eff0 rfl rfl rfl rfl (Eff.storeE rfl ?_ ?_);exact pre_))
  refine Sn.ok ?_
  refine god2 ?_
  refine go ?_
  refine Dn.ret2 rfl rfl rfl fun w hs => ⟨(), rfl, trivial, hs.conv (ents.pk ⟨x.vl, x.rows.set b.toNat u, x.vq⟩ ⟨by unfold FS.make; rw [e]; simp [hx.1], make_ok ho⟩ ?_)⟩
  unfold FS.make
  rw [e]
  dsimp only [List.cons_append, List.nil_append]
  exact ent_
-- FN confidant/confidantref12.quotas
theorem fut12_quotas (r : Bool) (v : Value) (qs : List Int) :
    Sp Tryz.prog 44 [v] [slB r (eInt .i64) v qs] (fun v' : Value => True) (fun v' => v') (fun v' => [sl (eInt .i64) v' ((qs.take (min qs.length 16)).map clampQ)]) := by
  generalize hk : min qs.length 16 = n
  have hn : n ≤ qs.length := by omega
  have hn16 : n ≤ 16 := by omega
  refine Sp.intro (n := 25) Tryz.func44 rfl rfl fun w0 R => ?_
  dsimp only [List.cons_append, List.nil_append, envOf]
  refine go ?_
  refine Cd.loop (fun z : Nat × Value => z.1 ≤ n) (fun z => n - z.1) (fun z => [(0, v), (3, z.2), (4, .int .i64 z.1)]) (fun z => slB r (eInt .i64) v qs :: sl (eInt .i64) z.2 ((qs.take z.1).map clampQ) :: R) ⟨0, .slice none 0 0⟩ (by simp) ?_ ?_ ?_
  · repeat(first|exact Env.le_nil _|(refine Env.le_cons rfl ?_ ?_;first|rfl|(simp;done)|exact congrArg _ (by omega)|rotate_left))
  · rw [List.take_zero, List.map_nil]
    exact ent_
  rintro ⟨k, vq⟩ hk2
  dsimp only at hk2 ⊢
  have hkl : ((qs.take k).map clampQ).length = k := by simp; omega
  refine go ?_
  by_cases h1 : (k : Int) < qs.length
  · rw [decide_eq_true h1]
    refine go ?_
    refine Cd.condP rfl (fun h => ?_) (fun h => ?_)
    · refine go ?_;repeat((with_reducible refine Ol.g ?_);(first|refine Ol.eff rfl rfl rfl (Eff.alloc fun _=>?_)|refine Ol.eff rfl rfl rfl (Eff.box fun _=>?_)|refine Ol.eff0 rfl rfl (Eff.store rfl rfl ?_)|refine Ol.eff rfl rfl rfl (Eff.bslice rfl rfl fun _=>?_)|(refine Ol.eff0 rfl rfl (Eff.storeE rfl ?_ ?_);exact pre_)|(refine Ol.eff rfl rfl rfl (Eff.append1 rfl ?_ fun _=>?_);exact pre_));refine go ?_)
      rename_i vq2
      refine Dn.round ⟨k + 1, vq2⟩ (by dsimp only; omega) (by dsimp only; omega) ?_ ?_
      · repeat(first|exact Env.le_nil _|(refine Env.le_cons rfl ?_ ?_;first|rfl|(simp;done)|exact congrArg _ (by omega)|rotate_left))
      · dsimp only
        rw [show (qs.take (k + 1)).map clampQ = (qs.take k).map clampQ ++ [clampQ (rd qs k)] from by rw [take_rd (by omega), List.map_append]; rfl]
        unfold clampQ
        exact ent_
    · have hkn : k = n := by omega
      subst hkn
      refine go ?_
      refine Dn.ret1 rfl rfl fun w hs => ⟨vq, rfl, trivial, hs.conv (by exact ent_)⟩
  · have hkn : k = n := by omega
    subst hkn
    rw [decide_eq_false h1]
    refine go ?_
    refine Dn.ret1 rfl rfl fun w hs => ⟨vq, rfl, trivial, hs.conv (by exact ent_)⟩
-- FN confidant/confidantref12.NewFutures
theorem fut12_New (r : Bool) (v : Value) (qs : List Int) :
    Sp Tryz.prog 9 [v] [slB r (eInt .i64) v qs] (fun _ : Nat => True) (fun p => .pointer (some ⟨p, 0, none⟩)) (fun p => [fut12C p (newFS qs (min qs.length 16))]) := by
  have hnl : ((qs.take (min qs.length 16)).map clampQ).length = min qs.length 16 := by simp
  refine Sp.intro (n := 12) Tryz.func9 rfl rfl fun w0 R => ?_
  dsimp only [List.cons_append, List.nil_append, envOf]
  refine go ?_
  with_reducible refine Ol.g ?_
  refine Ol.eff rfl rfl rfl (Eff.call (R := ?_) (fut12_quotas r v qs) rfl ?_ ?_)
  rotate_left
  · exact tkl_
  rintro vq -
  dsimp only [List.cons_append, List.nil_append]
  first | (with_reducible refine Cd.g ?_; refine Cd.know (fun w_ hw_ => one_sl (Tk.sat (A := (sl (eInt .i64) vq _)) (by exact tk_) hw_)) fun o1 => ?_) | (with_reducible refine Ol.g ?_; refine Ol.know (fun w_ hw_ => one_sl (Tk.sat (A := (sl (eInt .i64) vq _)) (by exact tk_) hw_)) fun o1 => ?_) | (with_reducible refine Dn.g ?_; refine Dn.know (fun w_ hw_ => one_sl (Tk.sat (A := (sl (eInt .i64) vq _)) (by exact tk_) hw_)) fun o1 => ?_)
  refine go ?_
  rw [hnl]
  refine Ol.eff rfl rfl rfl (Eff.mkS (x := Value.slice none 0 0) rfl ⟨by omega, by omega, by omega⟩ fun vl => ?_)
  rw [Int.toNat_natCast]
  first | (with_reducible refine Cd.g ?_; refine Cd.know (fun w_ hw_ => one_sl (Tk.sat (A := (sl eVal vl _)) (by exact tk_) hw_)) fun o2 => ?_) | (with_reducible refine Ol.g ?_; refine Ol.know (fun w_ hw_ => one_sl (Tk.sat (A := (sl eVal vl _)) (by exact tk_) hw_)) fun o2 => ?_) | (with_reducible refine Dn.g ?_; refine Dn.know (fun w_ hw_ => one_sl (Tk.sat (A := (sl eVal vl _)) (by exact tk_) hw_)) fun o2 => ?_)
  refine go ?_;repeat((with_reducible refine Ol.g ?_);(first|refine Ol.eff rfl rfl rfl (Eff.alloc fun _=>?_)|refine Ol.eff rfl rfl rfl (Eff.box fun _=>?_)|refine Ol.eff0 rfl rfl (Eff.store rfl rfl ?_)|refine Ol.eff rfl rfl rfl (Eff.bslice rfl rfl fun _=>?_)|(refine Ol.eff0 rfl rfl (Eff.storeE rfl ?_ ?_);exact pre_)|(refine Ol.eff rfl rfl rfl (Eff.append1 rfl ?_ fun _=>?_);exact pre_));refine go ?_)
  rename_i c
  refine Dn.ret1 rfl rfl fun w hs => ⟨c, rfl, trivial, hs.conv (ents.pk ⟨vl, List.replicate (min qs.length 16) (.slice none 0 0), vq⟩ ⟨by simp [newFS], newFS_ok qs _ (by omega) (by omega)⟩ ?_)⟩
  unfold newFS
  dsimp only [List.cons_append, List.nil_append]
  exact ent_
end Go.Proofs.YtihmbmoeedojoaaGreat

