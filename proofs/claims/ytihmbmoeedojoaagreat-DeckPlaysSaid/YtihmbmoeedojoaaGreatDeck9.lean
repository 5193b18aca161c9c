/- Contracts of functions of the program, proved in a small separation logic. Conditions: those that each theorem states. -/
import Derived.Test.YtihmbmoeedojoaaGreatDeck8
namespace Go.Proofs.YtihmbmoeedojoaaGreat
open Go Go.Sl
set_option maxHeartbeats 4000000
set_option maxRecDepth 100000
set_option linter.unusedVariables false
/-! identities -/
-- FN confidant/ident.Label$1
theorem ident_L (n : Int) (h : 0 ≤ n ∧ n ≤ 2147483647) : Sp Tryz.prog 113 [.int .i64 n] [] (fun _ : Unit => True) (fun _ => .int .i64 (n / 65536)) (fun _ => []) := by
  refine Sp.intro (n := 5) Tryz.func113 rfl rfl fun w0 R => ?_
  dsimp only [List.cons_append, List.nil_append, envOf]
  refine go ?_
  refine Dn.ret1 rfl rfl fun w hs => ⟨(), ?_, by trivial, by first | exact hs | (refine hs.conv ?_; exact ent_)⟩
  rfl
-- FN confidant/ident.Number$1
theorem ident_N (n : Int) (h : 0 ≤ n ∧ n ≤ 2147483647) : Sp Tryz.prog 114 [.int .i64 n] [] (fun _ : Unit => True) (fun _ => .int .i64 (n % 65536)) (fun _ => []) := by
  refine Sp.intro (n := 5) Tryz.func114 rfl rfl fun w0 R => ?_
  dsimp only [List.cons_append, List.nil_append, envOf]
  refine go ?_
  refine Dn.ret1 rfl rfl fun w hs => ⟨(), ?_, by trivial, by first | exact hs | (refine hs.conv ?_; exact ent_)⟩
  rfl
def idL (n : Int) : Int := if n < 0 then -1 else n / 65536
def idN (n : Int) : Int := if n < 0 then -1 else n % 65536
-- FN confidant/ident.part
theorem ident_partL (n : Int) (h : -2147483648 ≤ n ∧ n ≤ 2147483647) : Sp Tryz.prog 112 [.int .i32 n, .func (.func 113) #[] #[]] [] (fun _ : Unit => True) (fun _ => .int .i64 (idL n)) (fun _ => []) := by
  refine Sp.intro (n := 11) Tryz.func112 rfl rfl fun w0 R => ?_
  dsimp only [List.cons_append, List.nil_append, envOf]
  refine go ?_
  refine Cd.condP rfl (fun h2 => ?_) (fun h2 => ?_)
  · refine go ?_
    refine Dn.ret1 rfl rfl fun w hs => ⟨(), ?_, by trivial, by first | exact hs | (refine hs.conv ?_; exact ent_)⟩
    rw [idL, if_pos h2]
  · refine go ?_
    with_reducible refine Ol.g ?_
    refine Ol.eff rfl rfl rfl (Eff.call (R := ?_) (ident_L n (by omega)) rfl ?_ ?_)
    rotate_left
    · exact tkl_
    rintro _ -
    dsimp only [List.cons_append, List.nil_append]
    refine go ?_
    refine Dn.ret1 rfl rfl fun w hs => ⟨(), ?_, by trivial, by first | exact hs | (refine hs.conv ?_; exact ent_)⟩
    rw [idL, if_neg h2]
theorem ident_partN (n : Int) (h : -2147483648 ≤ n ∧ n ≤ 2147483647) : Sp Tryz.prog 112 [.int .i32 n, .func (.func 114) #[] #[]] [] (fun _ : Unit => True) (fun _ => .int .i64 (idN n)) (fun _ => []) := by
  refine Sp.intro (n := 11) Tryz.func112 rfl rfl fun w0 R => ?_
  dsimp only [List.cons_append, List.nil_append, envOf]
  refine go ?_
  refine Cd.condP rfl (fun h2 => ?_) (fun h2 => ?_)
  · refine go ?_
    refine Dn.ret1 rfl rfl fun w hs => ⟨(), ?_, by trivial, by first | exact hs | (refine hs.conv ?_; exact ent_)⟩
    rw [idN, if_pos h2]
  · refine go ?_
    with_reducible refine Ol.g ?_
    refine Ol.eff rfl rfl rfl (Eff.call (R := ?_) (ident_N n (by omega)) rfl ?_ ?_)
    rotate_left
    · exact tkl_
    rintro _ -
    dsimp only [List.cons_append, List.nil_append]
    refine go ?_
    refine Dn.ret1 rfl rfl fun w hs => ⟨(), ?_, by trivial, by first | exact hs | (refine hs.conv ?_; exact ent_)⟩
    rw [idN, if_neg h2]
-- FN confidant/ident.Label
theorem ident_Label (n : Int) (h : -2147483648 ≤ n ∧ n ≤ 2147483647) : Sp Tryz.prog 104 [.int .i32 n] [] (fun _ : Unit => True) (fun _ => .int .i64 (idL n)) (fun _ => []) := by
  refine Sp.intro (n := 5) Tryz.func104 rfl rfl fun w0 R => ?_
  dsimp only [List.cons_append, List.nil_append, envOf]
  refine go ?_
  with_reducible refine Ol.g ?_
  refine Ol.eff rfl rfl rfl (Eff.call (R := ?_) (ident_partL n h) rfl ?_ ?_)
  rotate_left
  · exact tkl_
  rintro _ -
  dsimp only [List.cons_append, List.nil_append]
  refine go ?_
  refine Dn.ret1 rfl rfl fun w hs => ⟨(), ?_, by trivial, by first | exact hs | (refine hs.conv ?_; exact ent_)⟩
  rfl
-- FN confidant/ident.Number
theorem ident_Number (n : Int) (h : -2147483648 ≤ n ∧ n ≤ 2147483647) : Sp Tryz.prog 105 [.int .i32 n] [] (fun _ : Unit => True) (fun _ => .int .i64 (idN n)) (fun _ => []) := by
  refine Sp.intro (n := 5) Tryz.func105 rfl rfl fun w0 R => ?_
  dsimp only [List.cons_append, List.nil_append, envOf]
  refine go ?_
  with_reducible refine Ol.g ?_
  refine Ol.eff rfl rfl rfl (Eff.call (R := ?_) (ident_partN n h) rfl ?_ ?_)
  rotate_left
  · exact tkl_
  rintro _ -
  dsimp only [List.cons_append, List.nil_append]
  refine go ?_
  refine Dn.ret1 rfl rfl fun w hs => ⟨(), ?_, by trivial, by first | exact hs | (refine hs.conv ?_; exact ent_)⟩
  rfl
def ofB (l n : Int) : Bool := decide (0 ≤ l ∧ l < 16 ∧ 0 ≤ n ∧ n < 65536)
def ofV (l n : Int) : Int := match ofB l n with | true => l * 65536 + n | false => 0
-- FN confidant/ident.Of
theorem ident_Of (l n : Int) : Sp Tryz.prog 45 [.int .i64 l, .int .i64 n] [] (fun _ : Unit => True) (fun _ => .tuple #[.int .i32 (ofV l n), .bool (ofB l n)]) (fun _ => []) := by
  refine Sp.intro (n := 25) Tryz.func45 rfl rfl fun w0 R => ?_
  dsimp only [List.cons_append, List.nil_append, envOf]
  refine go ?_
  by_cases h1 : l < 0
  · rw [decide_eq_true h1]
    refine go ?_
    have e : ofB l n = false := decide_eq_false (by omega)
    refine Dn.ret2 rfl rfl rfl fun w hs => ⟨(), by rw [ofV, e], trivial, hs⟩
  rw [decide_eq_false h1]
  refine go ?_
  by_cases h2 : 16 ≤ l
  · rw [decide_eq_true h2]
    refine go ?_
    have e : ofB l n = false := decide_eq_false (by omega)
    refine Dn.ret2 rfl rfl rfl fun w hs => ⟨(), by rw [ofV, e], trivial, hs⟩
  rw [decide_eq_false h2]
  refine go ?_
  by_cases h3 : n < 0
  · rw [decide_eq_true h3]
    refine go ?_
    have e : ofB l n = false := decide_eq_false (by omega)
    refine Dn.ret2 rfl rfl rfl fun w hs => ⟨(), by rw [ofV, e], trivial, hs⟩
  rw [decide_eq_false h3]
  refine go ?_
  refine Cd.condP rfl (fun h4 => ?_) (fun h4 => ?_)
  · refine go ?_
    have e : ofB l n = false := decide_eq_false (by omega)
    refine Dn.ret2 rfl rfl rfl fun w hs => ⟨(), by rw [ofV, e], trivial, hs⟩
  · refine go ?_
    have e : ofB l n = true := decide_eq_true (by omega)
    refine Dn.ret2 rfl rfl rfl fun w hs => ⟨(), by rw [ofV, e], trivial, hs⟩
/-! futures -/
structure FS where
  l : List (List S_api_Future)
  q : List Int
structure FX where
  vl : Value
  rows : List Value
  vq : Value
abbrev futP (p : Nat) (x : FX) (f : FS) : List HProp := [cel p 106 [x.vl, x.vq], sl eVal x.vl x.rows, rws false e_api_Future x.rows f.l, sl (eInt .i64) x.vq f.q]
structure FS.ok (f : FS) : Prop where
  len : f.q.length = f.l.length
  n16 : f.l.length ≤ 16
  q : ∀ i : Int, 0 ≤ i → i < f.l.length → 0 ≤ rd f.q i ∧ rd f.q i ≤ 4096
  c : ∀ i : Int, 0 ≤ i → i < f.l.length → ((rd f.l i).length : Int) ≤ rd f.q i
def futC (p : Nat) (f : FS) : HProp := pk (fun x : FX => x.rows.length = f.l.length ∧ f.ok) (fun x => futP p x f)
def FS.row (f : FS) (id : Int) : List S_api_Future := rd f.l (idL id)
def FS.inB (f : FS) (id : Int) : Bool := decide (0 ≤ id ∧ id / 65536 < (f.l.length : Int) ∧ id % 65536 < ((rd f.l (id / 65536)).length : Int))
def FS.get (f : FS) (id : Int) : S_api_Future := rd (rd f.l (id / 65536)) (id % 65536)
def FS.set (f : FS) (id : Int) (y : S_api_Future) : FS := { f with l := f.l.set (id / 65536).toNat ((rd f.l (id / 65536)).set (id % 65536).toNat y) }
-- FN (*confidant/future.Futures).at
theorem fut_at (p : Nat) (x : FX) (f : FS) (id : Int) (hr : x.rows.length = f.l.length) (h : -2147483648 ≤ id ∧ id ≤ 2147483647) :
    Sp Tryz.prog 91 [.pointer (some ⟨p, 0, none⟩), .int .i32 id] (futP p x f) (fun _ : Unit => True) (fun _ => match f.inB id with | true => elp (rd x.rows (id / 65536)) (id % 65536) 4 0 | false => .pointer none) (fun _ => futP p x f) := by
  refine Sp.intro (n := 43) Tryz.func91 rfl rfl fun w0 R => ?_
  dsimp only [List.cons_append, List.nil_append, envOf]
  refine go ?_
  with_reducible refine Ol.g ?_
  refine Ol.eff rfl rfl rfl (Eff.call (R := ?_) (ident_Label id h) rfl ?_ ?_)
  rotate_left
  · exact tkl_
  rintro _ -
  dsimp only [List.cons_append, List.nil_append]
  refine go ?_
  with_reducible refine Ol.g ?_
  refine Ol.eff rfl rfl rfl (Eff.call (R := ?_) (ident_Number id h) rfl ?_ ?_)
  rotate_left
  · exact tkl_
  rintro _ -
  dsimp only [List.cons_append, List.nil_append]
  refine go ?_
  by_cases h0 : id < 0
  · have e : f.inB id = false := decide_eq_false (by omega)
    rw [show idL id = -1 from if_pos h0, e, decide_eq_true (show (-1 : Int) < 0 by omega)]
    refine go ?_
    refine Dn.ret1 rfl rfl fun w hs => ⟨(), ?_, by trivial, by first | exact hs | (refine hs.conv ?_; exact ent_)⟩
    rfl
  rw [show idL id = id / 65536 from if_neg h0, show idN id = id % 65536 from if_neg h0, decide_eq_false (show ¬ id / 65536 < 0 by omega)]
  refine go ?_
  by_cases h1 : (x.rows.length : Int) ≤ id / 65536
  · have e : f.inB id = false := decide_eq_false (by omega)
    rw [decide_eq_true h1, e]
    refine go ?_
    refine Dn.ret1 rfl rfl fun w hs => ⟨(), ?_, by trivial, by first | exact hs | (refine hs.conv ?_; exact ent_)⟩
    rfl
  rw [decide_eq_false h1]
  refine go ?_
  refine Cd.condP rfl (fun h2 => ?_) (fun h2 => ?_)
  · have e : f.inB id = false := decide_eq_false (by omega)
    rw [e]
    refine go ?_
    refine Dn.ret1 rfl rfl fun w hs => ⟨(), ?_, by trivial, by first | exact hs | (refine hs.conv ?_; exact ent_)⟩
    rfl
  have e : f.inB id = true := decide_eq_true (by omega)
  rw [e]
  refine go ?_
  refine Dn.ret1 rfl rfl fun w hs => ⟨(), ?_, by trivial, by first | exact hs | (refine hs.conv ?_; exact ent_)⟩
  rfl
-- FN (*confidant/future.Futures).Get
theorem fut_Get (p : Nat) (f : FS) (id : Int) (h : -2147483648 ≤ id ∧ id ≤ 2147483647) :
    Sp Tryz.prog 107 [.pointer (some ⟨p, 0, none⟩), .int .i32 id] [futC p f] (fun _ : Unit => True) (fun _ => .tuple #[match f.inB id with | true => .agg #[.int .i64 (f.get id).f_Label, .int .i64 (f.get id).f_State, .int .i32 (f.get id).f_Value, .int .i64 (f.get id).f_Code] | false => .agg #[.int .i64 0, .int .i64 0, .int .i32 0, .int .i64 0], .bool (f.inB id)]) (fun _ => [futC p f]) := by
  refine Sp.intro (n := 16) Tryz.func107 rfl rfl fun w0 R => ?_
  dsimp only [List.cons_append, List.nil_append, envOf]
  first | (with_reducible refine Cd.g ?_; refine Cd.pk (A := (futC p f)) rfl (by exact tk_) fun x hx => ?_) | (with_reducible refine Ol.g ?_; refine Ol.pk (A := (futC p f)) rfl (by exact tk_) fun x hx => ?_) | (with_reducible refine Dn.g ?_; refine Dn.pk (A := (futC p f)) rfl (by exact tk_) fun x hx => ?_)
  dsimp only [List.cons_append, List.nil_append]
  refine go ?_;repeat((with_reducible refine Ol.g ?_);(first|refine Ol.eff rfl rfl rfl (Eff.alloc fun _=>?_)|refine Ol.eff rfl rfl rfl (Eff.box fun _=>?_)|refine Ol.eff0 rfl rfl (Eff.store rfl rfl ?_)|refine Ol.eff rfl rfl rfl (Eff.bslice rfl rfl fun _=>?_)|(refine Ol.eff0 rfl rfl (Eff.storeE rfl ?_ ?_);exact pre_)|(refine Ol.eff rfl rfl rfl (Eff.append1 rfl ?_ fun _=>?_);exact pre_));refine go ?_)
  rename_i c
  with_reducible refine Ol.g ?_
  refine Ol.eff rfl rfl rfl (Eff.call (R := ?_) (fut_at p x f id hx.1 h) rfl ?_ ?_)
  rotate_left
  · exact tkl_
  rintro _ -
  dsimp only [List.cons_append, List.nil_append]
  cases e : f.inB id with
  | false =>
    refine go ?_;repeat((with_reducible refine Ol.g ?_);(first|refine Ol.eff rfl rfl rfl (Eff.alloc fun _=>?_)|refine Ol.eff rfl rfl rfl (Eff.box fun _=>?_)|refine Ol.eff0 rfl rfl (Eff.store rfl rfl ?_)|refine Ol.eff rfl rfl rfl (Eff.bslice rfl rfl fun _=>?_)|(refine Ol.eff0 rfl rfl (Eff.storeE rfl ?_ ?_);exact pre_)|(refine Ol.eff rfl rfl rfl (Eff.append1 rfl ?_ fun _=>?_);exact pre_));refine go ?_)
    refine Dn.retC1 rfl rfl trivial rfl fun w hs => ⟨(), rfl, trivial, hs.conv (ents.pk x hx (by dsimp only [List.cons_append, List.nil_append]; exact ent_))⟩
  | true =>
    have hb := of_decide_eq_true e
    first | (with_reducible refine Cd.g ?_; refine Cd.know (fun w_ hw_ => rws_len (Tk.sat (A := (rws false e_api_Future x.rows f.l)) (by exact tk_) hw_)) fun hrl => ?_) | (with_reducible refine Ol.g ?_; refine Ol.know (fun w_ hw_ => rws_len (Tk.sat (A := (rws false e_api_Future x.rows f.l)) (by exact tk_) hw_)) fun hrl => ?_) | (with_reducible refine Dn.g ?_; refine Dn.know (fun w_ hw_ => rws_len (Tk.sat (A := (rws false e_api_Future x.rows f.l)) (by exact tk_) hw_)) fun hrl => ?_)
    dsimp only
    refine go ?_;repeat((with_reducible refine Ol.g ?_);(first|refine Ol.eff rfl rfl rfl (Eff.alloc fun _=>?_)|refine Ol.eff rfl rfl rfl (Eff.box fun _=>?_)|refine Ol.eff0 rfl rfl (Eff.store rfl rfl ?_)|refine Ol.eff rfl rfl rfl (Eff.bslice rfl rfl fun _=>?_)|(refine Ol.eff0 rfl rfl (Eff.storeE rfl ?_ ?_);exact pre_)|(refine Ol.eff rfl rfl rfl (Eff.append1 rfl ?_ fun _=>?_);exact pre_));refine go ?_)
    rename_i y
    refine Dn.retC1 rfl rfl trivial rfl fun w hs => ⟨(), rfl, trivial, hs.conv (ents.pk x hx (by dsimp only [List.cons_append, List.nil_append]; exact ent_))⟩
abbrev fV (y : S_api_Future) : Value := .agg #[.int .i64 y.f_Label, .int .i64 y.f_State, .int .i32 y.f_Value, .int .i64 y.f_Code]
/-- What a future comes to. -/
structure FD where
  state : Int
  v : Int
  code : Int
def FD.to (d : FD) (y : S_api_Future) : S_api_Future := ⟨y.f_Label, d.state, d.v, d.code⟩
-- FN (confidant/future.done).to
theorem done_to (d : FD) (v : Value) (i : Int) (l : List S_api_Future) (hi : 0 ≤ i ∧ i < l.length) :
    Sp Tryz.prog 60 [.agg #[.int .i64 d.state, .int .i32 d.v, .int .i64 d.code], elp v i 4 0] [sl e_api_Future v l] (fun _ : Unit => True) (fun _ => .tuple #[]) (fun _ => [sl e_api_Future v (l.set i.toNat (d.to (rd l i)))]) := by
  refine Sp.intro (n := 19) Tryz.func60 rfl rfl fun w0 R => ?_
  dsimp only [List.cons_append, List.nil_append, envOf]
  refine go ?_;repeat((with_reducible refine Ol.g ?_);(first|refine Ol.eff rfl rfl rfl (Eff.alloc fun _=>?_)|refine Ol.eff rfl rfl rfl (Eff.box fun _=>?_)|refine Ol.eff0 rfl rfl (Eff.store rfl rfl ?_)|refine Ol.eff rfl rfl rfl (Eff.bslice rfl rfl fun _=>?_)|(refine Ol.eff0 rfl rfl (Eff.storeE rfl ?_ ?_);exact pre_)|(refine Ol.eff rfl rfl rfl (Eff.append1 rfl ?_ fun _=>?_);exact pre_));refine go ?_)
  rename_i c
  refine Cd.draw2 [[], [], [], [], [3], [], [5], [], [7], [0, 3, 4], [0, 3, 4, 9], [0, 3, 4, 9, 10], [0, 1, 3, 4, 5, 6, 9, 10, 11], [0, 1, 3, 4, 5, 6, 9, 10, 11, 12], [0, 1, 3, 4, 5, 6, 9, 10, 11, 12, 13], [0, 1, 2, 3, 4, 5, 6, 7, 8, 9, 10, 11, 12, 13, 14], [0, 1, 2, 3, 4, 5, 6, 7, 8, 9, 10, 11, 12, 13, 14, 15], [0, 1, 2, 3, 4, 5, 6, 7, 8, 9, 10, 11, 12, 13, 14, 15, 16]] [11, 14, 17] [] (td := [(0, .fresh), (1, .fresh), (2, .fresh), (3, .fresh), (4, .fresh), (5, .fresh), (6, .fresh), (7, .fresh), (8, .fresh), (9, .fresh), (10, .fresh)]) mixed (by kernel_rfl) (by kernel_rfl) (by decide) (by decide) rfl (by kernel_rfl) ?_
  refine god2 ?_
  refine Sg2.one (td := [(1, .old), (2, .old), (5, .old), (6, .old), (7, .old), (8, .old), (12, .fresh), (13, .fresh)]) rfl (by kernel_rfl) fun F11_ => ?_
  dsimp only [List.cons_append, List.nil_append]
  (with_reducible first|refine SpOp.eff rfl rfl rfl rfl rfl (Eff.x (Qx.build rfl) ?_)|refine SpOp.eff rfl rfl rfl rfl rfl (Eff.alloc fun _=>?_)|refine SpOp.eff rfl rfl rfl rfl rfl (Eff.box fun _=>?_)|refine SpOp.eff rfl rfl rfl rfl rfl (Eff.bslice rfl rfl fun _=>?_)|(refine SpOp.eff rfl rfl rfl rfl rfl (Eff.append1 rfl ?_ fun _=>?_);exact pre_)|refine SpOp.eff0 rfl rfl rfl rfl (Eff.store rfl rfl ?_)|(refine SpOp.eff0 rfl rfl rfl rfl (Eff.storeE rfl ?_ ?_);exact pre_))
  refine Sn.ok ?_
  refine god2 ?_
  refine Sg2.one (td := [(2, .old), (7, .old), (8, .old), (15, .fresh), (16, .fresh)]) rfl (by kernel_rfl) fun F14_ => ?_
  dsimp only [List.cons_append, List.nil_append]
  (with_reducible first|refine SpOp.eff rfl rfl rfl rfl rfl (Eff.x (Qx.build rfl) ?_)|refine SpOp.eff rfl rfl rfl rfl rfl (Eff.alloc fun _=>?_)|refine SpOp.eff rfl rfl rfl rfl rfl (Eff.box fun _=>?_)|refine SpOp.eff rfl rfl rfl rfl rfl (Eff.bslice rfl rfl fun _=>?_)|(refine SpOp.eff rfl rfl rfl rfl rfl (Eff.append1 rfl ?_ fun _=>?_);exact pre_)|refine SpOp.eff0 rfl rfl rfl rfl (Eff.store rfl rfl ?_)|(refine SpOp.eff0 rfl rfl rfl rfl (Eff.storeE rfl ?_ ?_);exact pre_))
  refine Sn.ok ?_
  refine god2 ?_
  refine Sg2.one (td := []) rfl (by kernel_rfl) fun F17_ => ?_
  dsimp only [List.cons_append, List.nil_append]
  (with_reducible first|refine SpOp.eff rfl rfl rfl rfl rfl (Eff.x (Qx.build rfl) ?_)|refine SpOp.eff rfl rfl rfl rfl rfl (Eff.alloc fun _=>?_)|refine SpOp.eff rfl rfl rfl rfl rfl (Eff.box fun _=>?_)|refine SpOp.eff rfl rfl rfl rfl rfl (Eff.bslice rfl rfl fun _=>?_)|(refine SpOp.eff rfl rfl rfl rfl rfl (Eff.append1 rfl ?_ fun _=>?_);exact pre_)|refine SpOp.eff0 rfl rfl rfl rfl (Eff.store rfl rfl ?_)|(refine SpOp.eff0 rfl rfl rfl rfl (Eff.storeE rfl ?_ ?_);exact pre_))
  refine Sn.ok ?_
  refine god2 ?_
  refine go ?_
  refine Dn.fin0 rfl fun w hs => ⟨(), rfl, trivial, hs.conv ?_⟩
  have e : ((l.set i.toNat { rd l i with f_State := d.state }).set i.toNat { rd (l.set i.toNat { rd l i with f_State := d.state }) i with f_Value := d.v }).set i.toNat { rd ((l.set i.toNat { rd l i with f_State := d.state }).set i.toNat { rd (l.set i.toNat { rd l i with f_State := d.state }) i with f_Value := d.v }) i with f_Code := d.code } = l.set i.toNat (d.to (rd l i)) := by
    have h1 : ∀ (m : List S_api_Future) (y : S_api_Future), m.length = l.length → rd (m.set i.toNat y) i = y := fun m y hm => by
      rw [rd_eq (by rw [List.length_set]; omega), List.getElem_set_self]
    rw [h1 l _ rfl, h1 _ _ (by simp), List.set_set, List.set_set]; rfl
  rw [← e]
  exact ent_
def FS.openB (f : FS) (id : Int) : Bool := f.inB id && decide ((f.get id).f_State = 0)
def FS.change (f : FS) (id : Int) (d : FD) : FS := match f.openB id with | true => f.set id (d.to (f.get id)) | false => f
theorem FS.set_ok {f : FS} {id : Int} {y : S_api_Future} (h : f.ok) (hb : f.inB id = true) : (f.set id y).ok := by
  have hb' := of_decide_eq_true hb
  refine ⟨by unfold FS.set; simp [h.len], by unfold FS.set; simp [h.n16], fun i h0 h1 => ?_, fun i h0 h1 => ?_⟩
  · unfold FS.set at h1 ⊢; simp only [List.length_set] at h1; exact h.q i h0 h1
  · unfold FS.set at h1 ⊢; simp only [List.length_set] at h1
    dsimp only
    by_cases hi : (id / 65536).toNat = i.toNat
    · have e : id / 65536 = i := by omega
      rw [e, rd_eq (by rw [List.length_set]; omega), List.getElem_set_self, List.length_set]
      exact h.c i h0 h1
    · rw [rd_set_ne hi]; exact h.c i h0 h1
-- FN (*confidant/future.Futures).change
theorem fut_change (p : Nat) (f : FS) (id : Int) (d : FD) (h : -2147483648 ≤ id ∧ id ≤ 2147483647) :
    Sp Tryz.prog 59 [.pointer (some ⟨p, 0, none⟩), .int .i32 id, .func (.func 60) #[.agg #[.int .i64 d.state, .int .i32 d.v, .int .i64 d.code]] #[]] [futC p f] (fun _ : Unit => True) (fun _ => .bool (f.openB id)) (fun _ => [futC p (f.change id d)]) := by
  refine Sp.intro (n := 23) Tryz.func59 rfl rfl fun w0 R => ?_
  dsimp only [List.cons_append, List.nil_append, envOf]
  first | (with_reducible refine Cd.g ?_; refine Cd.pk (A := (futC p f)) rfl (by exact tk_) fun x hx => ?_) | (with_reducible refine Ol.g ?_; refine Ol.pk (A := (futC p f)) rfl (by exact tk_) fun x hx => ?_) | (with_reducible refine Dn.g ?_; refine Dn.pk (A := (futC p f)) rfl (by exact tk_) fun x hx => ?_)
  dsimp only [List.cons_append, List.nil_append]
  refine go ?_;repeat((with_reducible refine Ol.g ?_);(first|refine Ol.eff rfl rfl rfl (Eff.alloc fun _=>?_)|refine Ol.eff rfl rfl rfl (Eff.box fun _=>?_)|refine Ol.eff0 rfl rfl (Eff.store rfl rfl ?_)|refine Ol.eff rfl rfl rfl (Eff.bslice rfl rfl fun _=>?_)|(refine Ol.eff0 rfl rfl (Eff.storeE rfl ?_ ?_);exact pre_)|(refine Ol.eff rfl rfl rfl (Eff.append1 rfl ?_ fun _=>?_);exact pre_));refine go ?_)
  with_reducible refine Ol.g ?_
  refine Ol.eff rfl rfl rfl (Eff.call (R := ?_) (fut_at p x f id hx.1 h) rfl ?_ ?_)
  rotate_left
  · exact tkl_
  rintro _ -
  dsimp only [List.cons_append, List.nil_append]
  cases e : f.inB id with
  | false =>
    dsimp only
    have e2 : f.openB id = false := by unfold FS.openB; rw [e]; rfl
    have e3 : f.change id d = f := by unfold FS.change; rw [e2]
    rw [e2, e3]
    refine go ?_;repeat((with_reducible refine Ol.g ?_);(first|refine Ol.eff rfl rfl rfl (Eff.alloc fun _=>?_)|refine Ol.eff rfl rfl rfl (Eff.box fun _=>?_)|refine Ol.eff0 rfl rfl (Eff.store rfl rfl ?_)|refine Ol.eff rfl rfl rfl (Eff.bslice rfl rfl fun _=>?_)|(refine Ol.eff0 rfl rfl (Eff.storeE rfl ?_ ?_);exact pre_)|(refine Ol.eff rfl rfl rfl (Eff.append1 rfl ?_ fun _=>?_);exact pre_));refine go ?_)
    refine Dn.ret1 rfl rfl fun w hs => ⟨(), rfl, trivial, hs.conv (ents.pk x hx (by dsimp only [List.cons_append, List.nil_append]; exact ent_))⟩
  | true =>
    have hb := of_decide_eq_true e
    dsimp only
    first | (with_reducible refine Cd.g ?_; refine Cd.know (fun w_ hw_ => rws_len (Tk.sat (A := (rws false e_api_Future x.rows f.l)) (by exact tk_) hw_)) fun hrl => ?_) | (with_reducible refine Ol.g ?_; refine Ol.know (fun w_ hw_ => rws_len (Tk.sat (A := (rws false e_api_Future x.rows f.l)) (by exact tk_) hw_)) fun hrl => ?_) | (with_reducible refine Dn.g ?_; refine Dn.know (fun w_ hw_ => rws_len (Tk.sat (A := (rws false e_api_Future x.rows f.l)) (by exact tk_) hw_)) fun hrl => ?_)
    refine go ?_;repeat((with_reducible refine Ol.g ?_);(first|refine Ol.eff rfl rfl rfl (Eff.alloc fun _=>?_)|refine Ol.eff rfl rfl rfl (Eff.box fun _=>?_)|refine Ol.eff0 rfl rfl (Eff.store rfl rfl ?_)|refine Ol.eff rfl rfl rfl (Eff.bslice rfl rfl fun _=>?_)|(refine Ol.eff0 rfl rfl (Eff.storeE rfl ?_ ?_);exact pre_)|(refine Ol.eff rfl rfl rfl (Eff.append1 rfl ?_ fun _=>?_);exact pre_));refine go ?_)
    refine Cd.condP rfl (fun h2 => ?_) (fun h2 => ?_)
    · have e2 : f.openB id = false := by unfold FS.openB; rw [e]; exact decide_eq_false h2
      have e3 : f.change id d = f := by unfold FS.change; rw [e2]
      rw [e2, e3]
      refine go ?_;repeat((with_reducible refine Ol.g ?_);(first|refine Ol.eff rfl rfl rfl (Eff.alloc fun _=>?_)|refine Ol.eff rfl rfl rfl (Eff.box fun _=>?_)|refine Ol.eff0 rfl rfl (Eff.store rfl rfl ?_)|refine Ol.eff rfl rfl rfl (Eff.bslice rfl rfl fun _=>?_)|(refine Ol.eff0 rfl rfl (Eff.storeE rfl ?_ ?_);exact pre_)|(refine Ol.eff rfl rfl rfl (Eff.append1 rfl ?_ fun _=>?_);exact pre_));refine go ?_)
      refine Dn.ret1 rfl rfl fun w hs => ⟨(), rfl, trivial, hs.conv (ents.pk x hx (by dsimp only [List.cons_append, List.nil_append]; exact ent_))⟩
    · have e2 : f.openB id = true := by unfold FS.openB; rw [e]; exact decide_eq_true (Decidable.not_not.1 h2)
      have e3 : f.change id d = f.set id (d.to (f.get id)) := by unfold FS.change; rw [e2]
      rw [e2, e3]
      refine Cd.row (r := false) (E := e_api_Future) (rows := x.rows) (xss := f.l) (id / 65536) (by exact tk_) (by omega) ?_
      refine go ?_;repeat((with_reducible refine Ol.g ?_);(first|refine Ol.eff rfl rfl rfl (Eff.alloc fun _=>?_)|refine Ol.eff rfl rfl rfl (Eff.box fun _=>?_)|refine Ol.eff0 rfl rfl (Eff.store rfl rfl ?_)|refine Ol.eff rfl rfl rfl (Eff.bslice rfl rfl fun _=>?_)|(refine Ol.eff0 rfl rfl (Eff.storeE rfl ?_ ?_);exact pre_)|(refine Ol.eff rfl rfl rfl (Eff.append1 rfl ?_ fun _=>?_);exact pre_));refine go ?_)
      with_reducible refine Ol.g ?_
      refine Ol.eff rfl rfl rfl (Eff.call (R := ?_) (done_to d (rd x.rows (id / 65536)) (id % 65536) (rd f.l (id / 65536)) (by omega)) rfl ?_ ?_)
      rotate_left
      · exact tkl_
      rintro _ -
      dsimp only [List.cons_append, List.nil_append]
      refine go ?_;repeat((with_reducible refine Ol.g ?_);(first|refine Ol.eff rfl rfl rfl (Eff.alloc fun _=>?_)|refine Ol.eff rfl rfl rfl (Eff.box fun _=>?_)|refine Ol.eff0 rfl rfl (Eff.store rfl rfl ?_)|refine Ol.eff rfl rfl rfl (Eff.bslice rfl rfl fun _=>?_)|(refine Ol.eff0 rfl rfl (Eff.storeE rfl ?_ ?_);exact pre_)|(refine Ol.eff rfl rfl rfl (Eff.append1 rfl ?_ fun _=>?_);exact pre_));refine go ?_)
      refine Dn.ret1 rfl rfl fun w hs => ⟨(), rfl, trivial, hs.conv (ents.pk x ⟨by unfold FS.set; simp [hx.1], FS.set_ok hx.2 e⟩ ?_)⟩
      have er : x.rows = x.rows.set (id / 65536).toNat (rd x.rows (id / 65536)) := by rw [rd_eq (by omega)]; exact (List.set_getElem_self _).symm
      refine (show ents _ (cel p 106 [x.vl, x.vq] :: sl eVal x.vl x.rows :: rws false e_api_Future x.rows (f.l.set (id / 65536).toNat ((rd f.l (id / 65536)).set (id % 65536).toNat (d.to (rd (rd f.l (id / 65536)) (id % 65536))))) :: sl (eInt .i64) x.vq f.q :: R) from ?_)
      refine ents.cons (by exact tk_) (ents.cons (by exact tk_) ?_)
      have key := fun (H : List HProp) (t1 : Tk _ _ _) (t2 : Tk _ _ _) (k : ents _ _) => ents.rset (H := H) (r := false) (E := e_api_Future) (rows := x.rows) (xss := f.l) (i := (id / 65536).toNat) (v := rd x.rows (id / 65536)) (xs := (rd f.l (id / 65536)).set (id % 65536).toNat (d.to (rd (rd f.l (id / 65536)) (id % 65536)))) (H1 := rwsH false e_api_Future (id / 65536).toNat x.rows f.l :: sl (eInt .i64) x.vq f.q :: R) (H2 := sl (eInt .i64) x.vq f.q :: R) (L := sl (eInt .i64) x.vq f.q :: R) t1 t2 k
      rw [← er] at key
      exact key _ (by exact tk_) (Tk.hd _ _) (ents.refl _)
def clampQ (q : Int) : Int := imin (imax q 0) 4096
theorem clampQ_in (q : Int) : 0 ≤ clampQ q ∧ clampQ q ≤ 4096 := by unfold clampQ imin imax; split <;> split <;> omega
def newFS (qs : List Int) (k : Nat) : FS := ⟨List.replicate k [], (qs.take k).map clampQ⟩
theorem newFS_ok (qs : List Int) (k : Nat) (h : k ≤ 16) (hq : k ≤ qs.length) : (newFS qs k).ok := by
  have hl : ((qs.take k).map clampQ).length = k := by simp; omega
  refine ⟨by unfold newFS; simp; omega, by unfold newFS; simp; omega, fun i h0 h1 => ?_, fun i h0 h1 => ?_⟩
  all_goals
    simp only [newFS, List.length_replicate] at h1
    have hi : i.toNat < ((qs.take k).map clampQ).length := by omega
    have := clampQ_in (rd (qs.take k) i)
    simp only [newFS]
    rw [rd_eq hi, List.getElem_map, ← rd_eq (by simpa using hi)]
  · exact this
  · rw [rd_eq (by simp; omega)]; simp [this.1]
-- FN confidant/future.New
theorem fut_New (r : Bool) (v : Value) (qs : List Int) :
    Sp Tryz.prog 8 [v] [slB r (eInt .i64) v qs] (fun _ : Nat => True) (fun p => .pointer (some ⟨p, 0, none⟩)) (fun p => [futC p (newFS qs (min qs.length 16))]) := by
  have hm : imin (qs.length : Int) 16 = ((min qs.length 16 : Nat) : Int) := by unfold imin; split <;> omega
  generalize hk : min qs.length 16 = n at hm ⊢
  have hn : n ≤ qs.length := by omega
  have hn16 : n ≤ 16 := by omega
  have hnl : (qs.take n).length = n := by rw [List.length_take]; omega
  refine Sp.intro (n := 41) Tryz.func8 rfl rfl fun w0 R => ?_
  dsimp only [List.cons_append, List.nil_append, envOf]
  refine go ?_;repeat((with_reducible refine Ol.g ?_);(first|refine Ol.eff rfl rfl rfl (Eff.alloc fun _=>?_)|refine Ol.eff rfl rfl rfl (Eff.box fun _=>?_)|refine Ol.eff0 rfl rfl (Eff.store rfl rfl ?_)|refine Ol.eff rfl rfl rfl (Eff.bslice rfl rfl fun _=>?_)|(refine Ol.eff0 rfl rfl (Eff.storeE rfl ?_ ?_);exact pre_)|(refine Ol.eff rfl rfl rfl (Eff.append1 rfl ?_ fun _=>?_);exact pre_));refine go ?_)
  rename_i p
  rw [hm]
  refine go ?_
  rw [Int.toNat_natCast]
  refine Ol.cutS (r := r) (E := eInt .i64) (v := v) (xs := qs) n (by exact tk_) hn ?_
  refine go ?_
  rw [hnl]
  refine Cd.loop (fun z : Nat × FX => z.1 ≤ n ∧ z.2.rows.length = z.1) (fun z => n - z.1) (fun z => [(3, .pointer (some ⟨p, 0, none⟩)), (12, cutV v n), (13, .int .i64 n), (14, .int .i64 z.1)])
    (fun z => slB r (eInt .i64) (cutV v n) (qs.take n) :: cel p 106 [z.2.vl, z.2.vq] :: sl eVal z.2.vl z.2.rows :: rws false e_api_Future z.2.rows (List.replicate z.1 []) :: sl (eInt .i64) z.2.vq ((qs.take z.1).map clampQ) :: R) ⟨0, .slice none 0 0, [], .slice none 0 0⟩ ⟨by simp, rfl⟩ ?_ ?_ ?_
  · repeat(first|exact Env.le_nil _|(refine Env.le_cons rfl ?_ ?_;first|rfl|(simp;done)|exact congrArg _ (by omega)|rotate_left))
  · rw [List.replicate_zero, List.take_zero, List.map_nil]
    exact ent_
  rintro ⟨k, vl, rows, vq⟩ ⟨hk2, hrl⟩
  dsimp only at hk2 hrl ⊢
  refine go ?_
  refine Cd.condP rfl (fun h => ?_) (fun h => ?_)
  · have hkn : k < n := by omega
    have hkl : ((qs.take k).map clampQ).length = k := by simp; omega
    refine go ?_;repeat((with_reducible refine Ol.g ?_);(first|refine Ol.eff rfl rfl rfl (Eff.alloc fun _=>?_)|refine Ol.eff rfl rfl rfl (Eff.box fun _=>?_)|refine Ol.eff0 rfl rfl (Eff.store rfl rfl ?_)|refine Ol.eff rfl rfl rfl (Eff.bslice rfl rfl fun _=>?_)|(refine Ol.eff0 rfl rfl (Eff.storeE rfl ?_ ?_);exact pre_)|(refine Ol.eff rfl rfl rfl (Eff.append1 rfl ?_ fun _=>?_);exact pre_));refine go ?_)
    refine Cd.draw2 [[], [], [], [2], [2, 3], [2, 3, 4], [], [2, 3, 4, 5, 6], [], [8], [8, 9], [8, 9, 10], [], [12], [12, 13], [12, 13, 14], [2, 3, 4, 5, 6, 7, 8, 9, 10, 11, 12, 13, 14, 15], [0, 2, 3, 4, 5, 6, 7, 8, 9, 10, 11, 12, 13, 14, 15, 16], [0, 2, 3, 4, 5, 6, 7, 8, 9, 10, 11, 12, 13, 14, 15, 16, 17], [0, 2, 3, 4, 5, 6, 7, 8, 9, 10, 11, 12, 13, 14, 15, 16, 17, 18], [0, 1, 2, 3, 4, 5, 6, 7, 8, 9, 10, 11, 12, 13, 14, 15, 16, 17, 18, 19], [0, 1, 2, 3, 4, 5, 6, 7, 8, 9, 10, 11, 12, 13, 14, 15, 16, 17, 18, 19, 20], [0, 1, 2, 3, 4, 5, 6, 7, 8, 9, 10, 11, 12, 13, 14, 15, 16, 17, 18, 19, 20, 21]] [6, 7, 15, 16, 19, 22] [6, 15] (td := [(0, .fresh), (1, .fresh), (2, .fresh), (3, .fresh), (4, .fresh), (5, .fresh), (6, .flt), (8, .fresh), (9, .fresh), (10, .fresh), (11, .fresh), (12, .fresh), (13, .fresh), (14, .fresh), (15, .flt)]) mixed (by kernel_rfl) (by kernel_rfl) (by decide) (by decide) rfl (by kernel_rfl) ?_
    refine god2 ?_
    refine Sg2.flt (td := [(0, .old), (1, .old), (2, .old), (3, .old), (4, .old), (5, .old), (8, .old), (9, .old), (10, .old), (11, .old), (12, .old), (13, .old), (14, .old)]) rfl rfl rfl rfl (by kernel_rfl) fun u1 => ?_
    refine god2 ?_
    refine Sg2.one (td := [(0, .old), (1, .old), (8, .old), (9, .old), (10, .old), (11, .old), (12, .old), (13, .old), (14, .old)]) rfl (by kernel_rfl) fun F7_ => ?_
    dsimp only [List.cons_append, List.nil_append]
    (with_reducible first|refine SpOp.eff rfl rfl rfl rfl rfl (Eff.x (Qx.build rfl) ?_)|refine SpOp.eff rfl rfl rfl rfl rfl (Eff.alloc fun _=>?_)|refine SpOp.eff rfl rfl rfl rfl rfl (Eff.box fun _=>?_)|refine SpOp.eff rfl rfl rfl rfl rfl (Eff.bslice rfl rfl fun _=>?_)|(refine SpOp.eff rfl rfl rfl rfl rfl (Eff.append1 rfl ?_ fun _=>?_);exact pre_)|refine SpOp.eff0 rfl rfl rfl rfl (Eff.store rfl rfl ?_)|(refine SpOp.eff0 rfl rfl rfl rfl (Eff.storeE rfl ?_ ?_);exact pre_))
    rename_i vl2
    refine Sn.ok ?_
    refine god2 ?_
    refine Sg2.flt (td := [(0, .old), (1, .old), (8, .old), (9, .old), (10, .old), (11, .old)]) rfl rfl rfl rfl (by kernel_rfl) fun u2 => ?_
    refine god2 ?_
    refine Sg2.one (td := [(0, .old), (1, .old), (17, .fresh), (18, .fresh)]) rfl (by kernel_rfl) fun F16_ => ?_
    dsimp only [List.cons_append, List.nil_append]
    (with_reducible first|refine SpOp.eff rfl rfl rfl rfl rfl (Eff.x (Qx.build rfl) ?_)|refine SpOp.eff rfl rfl rfl rfl rfl (Eff.alloc fun _=>?_)|refine SpOp.eff rfl rfl rfl rfl rfl (Eff.box fun _=>?_)|refine SpOp.eff rfl rfl rfl rfl rfl (Eff.bslice rfl rfl fun _=>?_)|(refine SpOp.eff rfl rfl rfl rfl rfl (Eff.append1 rfl ?_ fun _=>?_);exact pre_)|refine SpOp.eff0 rfl rfl rfl rfl (Eff.store rfl rfl ?_)|(refine SpOp.eff0 rfl rfl rfl rfl (Eff.storeE rfl ?_ ?_);exact pre_))
    rename_i vq2
    refine Sn.ok ?_
    refine god2 ?_
    refine Sg2.one (td := [(1, .old), (20, .fresh), (21, .fresh)]) rfl (by kernel_rfl) fun F19_ => ?_
    dsimp only [List.cons_append, List.nil_append]
    (with_reducible first|refine SpOp.eff rfl rfl rfl rfl rfl (Eff.x (Qx.build rfl) ?_)|refine SpOp.eff rfl rfl rfl rfl rfl (Eff.alloc fun _=>?_)|refine SpOp.eff rfl rfl rfl rfl rfl (Eff.box fun _=>?_)|refine SpOp.eff rfl rfl rfl rfl rfl (Eff.bslice rfl rfl fun _=>?_)|(refine SpOp.eff rfl rfl rfl rfl rfl (Eff.append1 rfl ?_ fun _=>?_);exact pre_)|refine SpOp.eff0 rfl rfl rfl rfl (Eff.store rfl rfl ?_)|(refine SpOp.eff0 rfl rfl rfl rfl (Eff.storeE rfl ?_ ?_);exact pre_))
    refine Sn.ok ?_
    refine god2 ?_
    refine Sg2.one (td := []) rfl (by kernel_rfl) fun F22_ => ?_
    dsimp only [List.cons_append, List.nil_append]
    (with_reducible first|refine SpOp.eff rfl rfl rfl rfl rfl (Eff.x (Qx.build rfl) ?_)|refine SpOp.eff rfl rfl rfl rfl rfl (Eff.alloc fun _=>?_)|refine SpOp.eff rfl rfl rfl rfl rfl (Eff.box fun _=>?_)|refine SpOp.eff rfl rfl rfl rfl rfl (Eff.bslice rfl rfl fun _=>?_)|(refine SpOp.eff rfl rfl rfl rfl rfl (Eff.append1 rfl ?_ fun _=>?_);exact pre_)|refine SpOp.eff0 rfl rfl rfl rfl (Eff.store rfl rfl ?_)|(refine SpOp.eff0 rfl rfl rfl rfl (Eff.storeE rfl ?_ ?_);exact pre_))
    refine Sn.ok ?_
    refine god2 ?_
    refine go ?_
    refine Dn.round ⟨k + 1, vl2, rows ++ [.slice none 0 0], vq2⟩ ⟨by dsimp only; omega, by simp [hrl]⟩ (by dsimp only; omega) ?_ ?_
    · repeat(first|exact Env.le_nil _|(refine Env.le_cons rfl ?_ ?_;first|rfl|(simp;done)|exact congrArg _ (by omega)|rotate_left))
    · dsimp only
      rw [List.replicate_succ', show (qs.take (k + 1)).map clampQ = (qs.take k).map clampQ ++ [clampQ (rd (qs.take n) k)] from by
        rw [take_rd (by omega), List.map_append, show rd (qs.take n) (k : Int) = rd qs k from by rw [rd_eq (by simp; omega), rd_eq (by simp; omega)]; simp]; rfl]
      refine ents.cons (by exact tk_) (ents.cons (by exact tk_) (ents.cons (by exact tk_) (ents.snoc Tk.free (by exact tk_) ?_)))
      unfold clampQ
      exact ent_
  · have hkn : k = n := by omega
    subst hkn
    refine go ?_
    refine Dn.ret1 rfl rfl fun w hs => ⟨p, rfl, trivial, hs.conv (ents.pk ⟨vl, rows, vq⟩ ⟨by unfold newFS; simp [hrl], newFS_ok qs k hn16 hn⟩ ?_)⟩
    unfold newFS
    dsimp only [List.cons_append, List.nil_append]
    exact ent_
def FS.makeB (f : FS) (b : Int) : Bool := decide (0 ≤ b ∧ b < (f.l.length : Int) ∧ ((rd f.l b).length : Int) < rd f.q b)
def FS.make (f : FS) (b label : Int) : FS := match f.makeB b with | true => { f with l := f.l.set b.toNat (rd f.l b ++ [⟨label, 0, 0, 0⟩]) } | false => f
def FS.makeId (f : FS) (b : Int) : Int := match f.makeB b with | true => b * 65536 + (rd f.l b).length | false => 0
theorem make_ok {f : FS} {b label : Int} (h : f.ok) : (f.make b label).ok := by
  unfold FS.make
  cases hb : f.makeB b with
  | false => exact h
  | true =>
    have hb' := of_decide_eq_true hb
    refine ⟨by simp [h.len], by simp [h.n16], fun i h0 h1 => ?_, fun i h0 h1 => ?_⟩
    · simp only [List.length_set] at h1 ⊢; exact h.q i h0 h1
    · simp only [List.length_set] at h1 ⊢
      by_cases hi : b.toNat = i.toNat
      · have e : b = i := by omega
        rw [e, rd_eq (by rw [List.length_set]; omega), List.getElem_set_self, ← e]
        simp; omega
      · rw [rd_set_ne hi]; exact h.c i h0 h1
-- FN (*confidant/future.Futures).Make
theorem fut_Make (p : Nat) (f : FS) (b label : Int) :
    Sp Tryz.prog 10 [.pointer (some ⟨p, 0, none⟩), .int .i64 b, .int .i64 label] [futC p f] (fun _ : Unit => True) (fun _ => .tuple #[.int .i32 (f.makeId b), .bool (f.makeB b)]) (fun _ => [futC p (f.make b label)]) := by
  refine Sp.intro (n := 71) Tryz.func10 rfl rfl fun w0 R => ?_
  dsimp only [List.cons_append, List.nil_append, envOf]
  first | (with_reducible refine Cd.g ?_; refine Cd.pk (A := (futC p f)) rfl (by exact tk_) fun x hx => ?_) | (with_reducible refine Ol.g ?_; refine Ol.pk (A := (futC p f)) rfl (by exact tk_) fun x hx => ?_) | (with_reducible refine Dn.g ?_; refine Dn.pk (A := (futC p f)) rfl (by exact tk_) fun x hx => ?_)
  dsimp only [List.cons_append, List.nil_append]
  first | (with_reducible refine Cd.g ?_; refine Cd.know (fun w_ hw_ => rws_len (Tk.sat (A := (rws false e_api_Future x.rows f.l)) (by exact tk_) hw_)) fun hrl => ?_) | (with_reducible refine Ol.g ?_; refine Ol.know (fun w_ hw_ => rws_len (Tk.sat (A := (rws false e_api_Future x.rows f.l)) (by exact tk_) hw_)) fun hrl => ?_) | (with_reducible refine Dn.g ?_; refine Dn.know (fun w_ hw_ => rws_len (Tk.sat (A := (rws false e_api_Future x.rows f.l)) (by exact tk_) hw_)) fun hrl => ?_)
  have ho := hx.2
  refine go ?_
  have no : f.makeB b = false → f.makeId b = 0 ∧ f.make b label = f := fun e => ⟨by unfold FS.makeId; rw [e], by unfold FS.make; rw [e]⟩
  refine Cd.draw2 [[], [0], [0, 1], [0, 1, 2], [0, 1, 2], [0, 1, 2, 4], [0, 1, 2, 4, 5], [0, 1, 2, 4, 5, 6], [0, 1, 2, 4, 5, 6, 7], [0, 1, 2, 3, 4, 5, 6, 7, 8], [0, 1, 2, 3, 4, 5, 6, 7, 8, 9], [0, 1, 2, 3, 4, 5, 6, 7, 8, 9, 10], [0, 1, 2, 3, 4, 5, 6, 7, 8, 9, 10, 11], [0, 1, 2, 3, 4, 5, 6, 7, 8, 9, 10, 11, 12], [0, 1, 2, 3, 4, 5, 6, 7, 8, 9, 10, 11, 12, 13], [0, 1, 2, 3, 4, 5, 6, 7, 8, 9, 10, 11, 12, 13, 14], [0, 1, 2, 3, 4, 5, 6, 7, 8, 9, 10, 11], [0, 1, 2, 3, 4, 5, 6, 7, 8, 9, 10, 11, 12, 13, 14, 15, 16], [0, 1, 2, 3, 4, 5, 6, 7, 8, 9, 10, 11, 12, 13, 14, 15, 16, 17], [0, 1, 2, 3, 4, 5, 6, 7, 8, 9, 10, 11, 12, 13, 14, 15, 16, 17, 18], [0, 1, 2, 3, 4, 5, 6, 7, 8, 9, 10, 11], [0, 1, 2, 3, 4, 5, 6, 7, 8, 9, 10, 11, 20], [0, 1, 2, 3, 4, 5, 6, 7, 8, 9, 10, 11, 20, 21], [0, 1, 2, 3, 4, 5, 6, 7, 8, 9, 10, 11, 20, 21, 22], [0, 1, 2, 3, 4, 5, 6, 7, 8, 9, 10, 11], [0, 1, 2, 3, 4, 5, 6, 7, 8, 9, 10, 11, 20, 21, 22, 23, 24], [0, 1, 2, 3, 4, 5, 6, 7, 8, 9, 10, 11, 20, 21, 22, 23, 24, 25], [0, 1, 2, 3, 4, 5, 6, 7, 8, 9, 10, 11, 12, 13, 14, 15, 16, 17, 18, 19, 20, 21, 22, 23, 24, 25, 26], [0, 1, 2, 3, 4, 5, 6, 7, 8, 9, 10, 11, 12, 13, 14, 15, 16, 17, 18, 19, 20, 21, 22, 23, 24, 25, 26, 27]] [] [] (td := [(0, .fresh), (1, .fresh), (2, .fresh), (3, .fresh), (4, .fresh), (5, .fresh), (6, .fresh), (7, .fresh), (8, .fresh), (9, .fresh), (10, .fresh), (11, .fresh), (12, .fresh), (13, .fresh), (14, .fresh), (15, .fresh), (16, .fresh), (17, .fresh), (18, .fresh), (19, .fresh), (20, .fresh), (21, .fresh), (22, .fresh), (23, .fresh), (24, .fresh), (25, .fresh), (26, .fresh), (27, .fresh), (28, .fresh)]) mixed (by kernel_rfl) (by kernel_rfl) (by decide) (by decide) rfl (by kernel_rfl) ?_
  refine god2 ?_
  by_cases h1 : b < 0
  · have e : f.makeB b = false := decide_eq_false (by omega)
    rw [(no e).1, (no e).2, e, decide_eq_true h1]
    refine god2 ?_
    refine go ?_
    refine Dn.ret2 rfl rfl rfl fun w hs => ⟨(), rfl, trivial, hs.conv (ents.pk x hx (by dsimp only [List.cons_append, List.nil_append]; exact ent_))⟩
  rw [decide_eq_false h1]
  refine god2 ?_
  by_cases h2 : (x.rows.length : Int) ≤ b
  · have e : f.makeB b = false := decide_eq_false (by omega)
    rw [(no e).1, (no e).2, e, decide_eq_true h2]
    refine god2 ?_
    refine go ?_
    refine Dn.ret2 rfl rfl rfl fun w hs => ⟨(), rfl, trivial, hs.conv (ents.pk x hx (by dsimp only [List.cons_append, List.nil_append]; exact ent_))⟩
  rw [decide_eq_false h2]
  have hq := ho.q b (by omega) (by omega)
  have hql := ho.len
  refine god2 ?_
  refine go ?_
  refine Cd.condP rfl (fun h3 => ?_) (fun h3 => ?_)
  · have e : f.makeB b = false := decide_eq_false (by omega)
    rw [(no e).1, (no e).2, e]
    refine go ?_
    refine Dn.ret2 rfl rfl rfl fun w hs => ⟨(), rfl, trivial, hs.conv (ents.pk x hx (by dsimp only [List.cons_append, List.nil_append]; exact ent_))⟩
  have e : f.makeB b = true := decide_eq_true (by omega)
  have hn16 := ho.n16
  rw [show f.makeId b = b * 65536 + (rd f.l b).length from by unfold FS.makeId; rw [e], e]
  refine go ?_
  with_reducible refine Ol.g ?_
  refine Ol.eff rfl rfl rfl (Eff.call (R := ?_) (ident_Of b (rd f.l b).length) rfl ?_ ?_)
  rotate_left
  · exact tkl_
  rintro _ -
  have eo : ofB b (rd f.l b).length = true := decide_eq_true (by omega)
  rw [show ofV b (rd f.l b).length = b * 65536 + (rd f.l b).length from by unfold ofV; rw [eo], eo]
  dsimp only [List.cons_append, List.nil_append]
  refine go ?_
  refine Cd.row (r := false) (E := e_api_Future) (rows := x.rows) (xss := f.l) b (by exact tk_) (by omega) ?_
  refine Cd.draw2 [[], [0], [0, 1], [0, 1, 2], [], [], [5], [5, 6], [5, 6, 7], [], [5, 6, 7, 8, 9], [5, 6, 7, 8, 9, 10], [], [12], [12, 13], [5, 6, 7, 8, 9, 10, 11, 12, 13, 14], [0, 1, 2, 3, 4, 5, 6, 7, 8, 9, 10, 11, 12, 13, 14, 15], [0, 1, 2, 3, 4, 5, 6, 7, 8, 9, 10, 11, 12, 13, 14, 15, 16]] [14, 15, 17] [] (td := [(0, .fresh), (1, .fresh), (2, .fresh), (3, .fresh), (4, .fresh), (5, .fresh), (6, .fresh), (7, .fresh), (8, .fresh), (9, .fresh), (10, .fresh), (11, .fresh), (12, .fresh), (13, .fresh)]) mixed (by kernel_rfl) (by kernel_rfl) (by decide) (by decide) rfl (by kernel_rfl) ?_
  refine god2 ?_
  refine Sg2.one (td := [(0, .old), (1, .old), (2, .old), (3, .old), (4, .old), (5, .old), (6, .old), (7, .old), (8, .old), (9, .old), (10, .old), (11, .old)]) rfl (by kernel_rfl) fun F14_ => ?_
  dsimp only [List.cons_append, List.nil_append]
  (with_reducible first|refine SpOp.eff rfl rfl rfl rfl rfl (Eff.x (Qx.build rfl) ?_)|refine SpOp.eff rfl rfl rfl rfl rfl (Eff.alloc fun _=>?_)|refine SpOp.eff rfl rfl rfl rfl rfl (Eff.box fun _=>?_)|refine SpOp.eff rfl rfl rfl rfl rfl (Eff.bslice rfl rfl fun _=>?_)|(refine SpOp.eff rfl rfl rfl rfl rfl (Eff.append1 rfl ?_ fun _=>?_);exact pre_)|refine SpOp.eff0 rfl rfl rfl rfl (Eff.store rfl rfl ?_)|(refine SpOp.eff0 rfl rfl rfl rfl (Eff.storeE rfl ?_ ?_);exact pre_))
  refine Sn.ok ?_
  refine god2 ?_
  refine Sg2.one (td := [(0, .old), (1, .old), (2, .old), (3, .old), (4, .old), (16, .fresh)]) rfl (by kernel_rfl) fun F15_ => ?_
  dsimp only [List.cons_append, List.nil_append]
  (with_reducible first|refine SpOp.eff rfl rfl rfl rfl rfl (Eff.x (Qx.build rfl) ?_)|refine SpOp.eff rfl rfl rfl rfl rfl (Eff.alloc fun _=>?_)|refine SpOp.eff rfl rfl rfl rfl rfl (Eff.box fun _=>?_)|refine SpOp.eff rfl rfl rfl rfl rfl (Eff.bslice rfl rfl fun _=>?_)|(refine SpOp.eff rfl rfl rfl rfl rfl (Eff.append1 rfl ?_ fun _=>?_);exact pre_)|refine SpOp.eff0 rfl rfl rfl rfl (Eff.store rfl rfl ?_)|(refine SpOp.eff0 rfl rfl rfl rfl (Eff.storeE rfl ?_ ?_);exact pre_))
  rename_i u
  refine Sn.ok ?_
  refine god2 ?_
  refine Sg2.one (td := []) rfl (by kernel_rfl) fun F17_ => ?_
  dsimp only [List.cons_append, List.nil_append]
  (with_reducible first|refine SpOp.eff rfl rfl rfl rfl rfl (Eff.x (Qx.build rfl) ?_)|refine SpOp.eff rfl rfl rfl rfl rfl (Eff.alloc fun _=>?_)|refine SpOp.eff rfl rfl rfl rfl rfl (Eff.box fun _=>?_)|refine SpOp.eff rfl rfl rfl rfl rfl (Eff.bslice rfl rfl fun _=>?_)|(refine SpOp.eff rfl rfl rfl rfl rfl (Eff.append1 rfl ?_ fun _=>?_);exact pre_)|refine SpOp.eff0 rfl rfl rfl rfl (Eff.store rfl rfl ?_)|(refine SpOp.eff0 rfl rfl rfl rfl (Eff.storeE rfl ?_ ?_);exact pre_))
  refine Sn.ok ?_
  refine god2 ?_
  refine go ?_
  refine Dn.ret2 rfl rfl rfl fun w hs => ⟨(), rfl, trivial, hs.conv (ents.pk ⟨x.vl, x.rows.set b.toNat u, x.vq⟩ ⟨by unfold FS.make; rw [e]; simp [hx.1], make_ok ho⟩ ?_)⟩
  unfold FS.make
  rw [e]
  dsimp only [List.cons_append, List.nil_append]
  exact ent_
end Go.Proofs.YtihmbmoeedojoaaGreat

