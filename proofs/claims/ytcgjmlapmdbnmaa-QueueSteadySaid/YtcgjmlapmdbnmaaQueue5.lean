/- Contracts of functions of the program, proved in a small separation logic. Conditions: those that each theorem states. -/
import Derived.Test.YtcgjmlapmdbnmaaQueue4
namespace Go.Proofs.Ytcgjmlapmdbnmaa
open Go Go.Sl
set_option maxHeartbeats 4000000
set_option maxRecDepth 100000
set_option linter.unusedVariables false
/-! a byte of a string -/
def byteAt (s : ByteArray) (i : Int) : Int := ((s[i.toNat]?).getD 0).toNat
theorem byteAt_in (s : ByteArray) (i : Int) : 0 ≤ byteAt s i ∧ byteAt s i ≤ 255 := by
  unfold byteAt
  have := ((s[i.toNat]?).getD 0).toNat_lt
  omega
instance Q1.idxStr {P : Program} {ty : TypeId} {H : List HProp} (t : TypeId) (s : ByteArray) (k : IntKind) (i : Int) [u : TyU P t .string] : Q1 P (.index t (.string s) (.int k i)) ty H (0 ≤ i ∧ i < s.size) (.int .u8 (byteAt s i)) := ⟨fun h w _ => by
  refine exec_v ?_
  show (Instr.index t (.string s) (.int k i)).run P w = _
  have hi : i.toNat < s.size := by omega
  unfold Instr.index
  simp only [run_bind', asIntOf, run_pure, run_underlying u.u, h.1, if_true]
  rw [show s[i.toNat]? = some s[i.toNat] from getElem?_pos s i.toNat hi]
  simp only [run_pure, byteAt, getElem?_pos s i.toNat hi, Option.getD_some]⟩
theorem Eff.byte {P : Program} {w0 : World} {ty t : TypeId} {s : ByteArray} {k : IntKind} {i : Int} {H : List HProp} {K : Value → List HProp → Prop} [u : TyU P t .string] (h : 0 ≤ i ∧ i < s.size) (kk : ∀ y : Int, 0 ≤ y ∧ y ≤ 255 → K (.int .u8 y) H) : Eff P w0 (.index t (.string s) (.int k i)) ty H K :=
  Eff.q h (kk _ (byteAt_in s i))
-- FN math/bits.Len64
theorem bits_Len64 (n : Int) (h : 0 ≤ n ∧ n < 256) : Sp Try.prog 136 [.int .u64 n] [] (fun y : Int => 0 ≤ y ∧ y ≤ 255) (fun y => .int .i64 y) (fun _ => []) := by
  refine Sp.intro (n := 25) Try.func136 rfl rfl fun w0 R => ?_
  dsimp only [List.cons_append, List.nil_append, envOf]
  refine go ?_
  rw [decide_eq_false (show ¬ n ≥ 4294967296 by omega)]
  refine go ?_
  rw [decide_eq_false (show ¬ n ≥ 65536 by omega)]
  refine go ?_
  rw [decide_eq_false (show ¬ n ≥ 256 by omega)]
  refine go ?_
  refine Ol.eff rfl rfl rfl (Eff.byte ⟨h.1, by show n < 256; omega⟩ fun y hy => ?_)
  refine go ?_
  refine Dn.ret1 rfl rfl fun w hs => ⟨y, by rw [Int.zero_add], hy, hs⟩
-- FN math/bits.Len
theorem bits_Len (n : Int) (h : 0 ≤ n ∧ n < 256) : Sp Try.prog 110 [.int .u64 n] [] (fun y : Int => 0 ≤ y ∧ y ≤ 255) (fun y => .int .i64 y) (fun _ => []) := by
  refine Sp.intro (n := 8) Try.func110 rfl rfl fun w0 R => ?_
  dsimp only [List.cons_append, List.nil_append, envOf]
  refine go ?_
  with_reducible refine Ol.g ?_
  refine Ol.eff rfl rfl rfl (Eff.call (R := ?_) (bits_Len64 n h) rfl ?_ ?_)
  rotate_left
  · exact tkl_
  rintro y hy
  dsimp only [List.cons_append, List.nil_append]
  refine go ?_
  refine Dn.ret1 rfl rfl fun w hs => ⟨y, rfl, hy, hs⟩
-- FN slices.Clone[confidant/queue.items,confidant/queue.item]
theorem clone_items (r : Bool) (v : Value) (xs : List S_queue_item) (hm : xs.length ≤ 1048576) :
    Sp Try.prog 73 [v] [slB r e_queue_item v xs] (fun _ : Value => True) id (fun v' => [slB r e_queue_item v xs, sl e_queue_item v' xs]) := by
  refine Sp.intro (n := 8) Try.func73 rfl rfl fun w0 R => ?_
  dsimp only [List.cons_append, List.nil_append, envOf]
  refine go ?_
  first | (with_reducible refine Cd.g ?_; refine Cd.know (fun w_ hw_ => nilS_nil (Tk.sat (A := (slB r e_queue_item v xs)) (by exact tk_) hw_)) fun hn => ?_) | (with_reducible refine Ol.g ?_; refine Ol.know (fun w_ hw_ => nilS_nil (Tk.sat (A := (slB r e_queue_item v xs)) (by exact tk_) hw_)) fun hn => ?_) | (with_reducible refine Dn.g ?_; refine Dn.know (fun w_ hw_ => nilS_nil (Tk.sat (A := (slB r e_queue_item v xs)) (by exact tk_) hw_)) fun hn => ?_)
  cases hv : nilS v with
  | true =>
    obtain ⟨rfl, rfl⟩ := hn hv
    refine go ?_
    refine Dn.ret1 rfl rfl fun w hs => ⟨.slice none 0 0, rfl, trivial, hs.conv (show ents _ (slB r e_queue_item (.slice none 0 0) [] :: sl e_queue_item (.slice none 0 0) [] :: R) from by exact ent_)⟩
  | false =>
    refine go ?_;repeat((with_reducible refine Ol.g ?_);(first|refine Ol.eff rfl rfl rfl (Eff.alloc fun _=>?_)|refine Ol.eff rfl rfl rfl (Eff.box fun _=>?_)|refine Ol.eff0 rfl rfl (Eff.store rfl rfl ?_)|refine Ol.eff rfl rfl rfl (Eff.bslice rfl rfl fun _=>?_)|(refine Ol.eff0 rfl rfl (Eff.storeE rfl ?_ ?_);exact pre_)|(refine Ol.eff rfl rfl rfl (Eff.append1 rfl ?_ fun _=>?_);exact pre_));refine go ?_)
    refine Ol.eff rfl rfl rfl (Eff.appendR rfl ?_ fun u => ?_)
    · simp; omega
    refine go ?_
    refine Dn.ret1 rfl rfl fun w hs => ⟨u, rfl, trivial, hs.conv (show ents _ (slB r e_queue_item v xs :: sl e_queue_item u xs :: R) from by exact ent_)⟩
def cmpV (x y : S_queue_item) : Int := match aheadI x y with | true => -1 | false => 1
-- FN confidant/queue.before$1
theorem queue_before1 (c : Nat) (x y : S_queue_item) (hx : One x.f_Entry.f_Task.f_Stack) (hy : One y.f_Entry.f_Task.f_Stack) :
    Sp Try.prog 111 [itV x, itV y, .pointer (some ⟨c, 0, none⟩)] [celB true c 124 [.func (.func 76) #[] #[]]] (fun _ : Unit => True) (fun _ => .int .i64 (cmpV x y)) (fun _ => []) := by
  refine Sp.intro (n := 10) Try.func111 rfl rfl fun w0 R => ?_
  dsimp only [List.cons_append, List.nil_append, envOf]
  refine go ?_;repeat((with_reducible refine Ol.g ?_);(first|refine Ol.eff rfl rfl rfl (Eff.alloc fun _=>?_)|refine Ol.eff rfl rfl rfl (Eff.box fun _=>?_)|refine Ol.eff0 rfl rfl (Eff.store rfl rfl ?_)|refine Ol.eff rfl rfl rfl (Eff.bslice rfl rfl fun _=>?_)|(refine Ol.eff0 rfl rfl (Eff.storeE rfl ?_ ?_);exact pre_)|(refine Ol.eff rfl rfl rfl (Eff.append1 rfl ?_ fun _=>?_);exact pre_));refine go ?_)
  with_reducible refine Ol.g ?_
  refine Ol.eff rfl rfl rfl (Eff.call (R := ?_) (item_ahead x y hx hy) rfl ?_ ?_)
  rotate_left
  · exact tkl_
  rintro _ -
  dsimp only [List.cons_append, List.nil_append]
  unfold cmpV
  cases aheadI x y with
  | true =>
    refine go ?_
    refine Dn.ret1 rfl rfl fun w hs => ⟨(), rfl, trivial, hs.conv (by exact ent_)⟩
  | false =>
    refine go ?_
    refine Dn.ret1 rfl rfl fun w hs => ⟨(), rfl, trivial, hs.conv (by exact ent_)⟩
-- FN confidant/queue.before
theorem queue_before :
    Sp Try.prog 75 [.func (.func 76) #[] #[]] [] (fun _ : Nat => True) (fun c => .func (.func 111) #[] #[.pointer (some ⟨c, 0, none⟩)]) (fun c => [celB true c 124 [.func (.func 76) #[] #[]]]) := by
  refine Sp.intro (n := 4) Try.func75 rfl rfl fun w0 R => ?_
  dsimp only [List.cons_append, List.nil_append, envOf]
  refine go ?_;repeat((with_reducible refine Ol.g ?_);(first|refine Ol.eff rfl rfl rfl (Eff.alloc fun _=>?_)|refine Ol.eff rfl rfl rfl (Eff.box fun _=>?_)|refine Ol.eff0 rfl rfl (Eff.store rfl rfl ?_)|refine Ol.eff rfl rfl rfl (Eff.bslice rfl rfl fun _=>?_)|(refine Ol.eff0 rfl rfl (Eff.storeE rfl ?_ ?_);exact pre_)|(refine Ol.eff rfl rfl rfl (Eff.append1 rfl ?_ fun _=>?_);exact pre_));refine go ?_)
  rename_i c
  first | (with_reducible refine Cd.g ?_; refine Cd.share (A := (cel c 124 [.func (.func 76) #[] #[]])) (by exact tk_) ?_) | (with_reducible refine Ol.g ?_; refine Ol.share (A := (cel c 124 [.func (.func 76) #[] #[]])) (by exact tk_) ?_) | (with_reducible refine Dn.g ?_; refine Dn.share (A := (cel c 124 [.func (.func 76) #[] #[]])) (by exact tk_) ?_)
  refine Dn.ret1 rfl rfl fun w hs => ⟨c, rfl, trivial, hs⟩
theorem swap_rel {l : List S_queue_item} {q : List QI} (hl : l.length = q.length) {i j : Int} (hi : 0 ≤ i ∧ i < q.length) (hj : 0 ≤ j ∧ j < q.length) : went (rel2 itC l q) (rel2 itC (swapL l i j) (swapL q i j)) :=
  rel2_perm (fun _ _ => inferInstance) hl _ _ (by rw [swapL_len, swapL_len, hl]) fun k h0 h1 => by
    rw [swapL_len] at h1
    rw [rd_swapL l (by omega) (by omega) h0, rd_swapL q hi hj h0]
    by_cases h2 : k = j
    · rw [if_pos h2, if_pos h2]; exact ⟨i, hi.1, by omega, rfl, rfl⟩
    rw [if_neg h2, if_neg h2]
    by_cases h3 : k = i
    · rw [if_pos h3, if_pos h3]; exact ⟨j, hj.1, by omega, rfl, rfl⟩
    rw [if_neg h3, if_neg h3]
    exact ⟨k, h0, h1, rfl, rfl⟩
abbrev befV (c : Nat) : Value := .func (.func 111) #[] #[.pointer (some ⟨c, 0, none⟩)]
abbrev befC (c : Nat) : HProp := celB true c 124 [.func (.func 76) #[] #[]]
-- FN slices.insertionSortCmpFunc[confidant/queue.item]
theorem insertion_w (v : Value) (l : List S_queue_item) (q : List QI) (c : Nat) (hm : l.length ≤ 1048576) :
    Sp Try.prog 127 [v, .int .i64 0, .int .i64 l.length, befV c] [sl e_queue_item v l, rel2 itC l q, befC c] (fun y : List S_queue_item × List QI => y.1.length = l.length) (fun _ => .tuple #[]) (fun y => [sl e_queue_item v y.1, rel2 itC y.1 y.2]) := by
  refine Sp.intro (n := 53) Try.func127 rfl rfl fun w0 R => ?_
  dsimp only [List.cons_append, List.nil_append, envOf]
  first | (with_reducible refine Cd.g ?_; refine Cd.know (fun w_ hw_ => rel2_len (Tk.sat (A := (rel2 itC l q)) (by exact tk_) hw_)) fun hlq => ?_) | (with_reducible refine Ol.g ?_; refine Ol.know (fun w_ hw_ => rel2_len (Tk.sat (A := (rel2 itC l q)) (by exact tk_) hw_)) fun hlq => ?_) | (with_reducible refine Dn.g ?_; refine Dn.know (fun w_ hw_ => rel2_len (Tk.sat (A := (rel2 itC l q)) (by exact tk_) hw_)) fun hlq => ?_)
  refine go ?_
  refine Cd.loop (fun z : Nat × List S_queue_item × List QI => z.1 ≤ l.length + 1 ∧ z.2.1.length = l.length ∧ z.2.2.length = l.length) (fun z => l.length + 1 - z.1) (fun z => [(0, v), (1, .int .i64 0), (2, .int .i64 l.length), (3, befV c), (8, .int .i64 z.1)])
    (fun z => sl e_queue_item v z.2.1 :: rel2 itC z.2.1 z.2.2 :: befC c :: R) (1, l, q) ⟨by dsimp only; omega, rfl, hlq.symm⟩ ?_ ?_ ?_
  · repeat(first|exact Env.le_nil _|(refine Env.le_cons rfl ?_ ?_;first|rfl|(simp;done)|exact congrArg _ (by omega)|rotate_left))
  · exact ent_
  rintro ⟨i, l1, q1⟩ ⟨hi, hl1, hq1⟩
  dsimp only at hi hl1 hq1 ⊢
  refine go ?_
  refine Cd.condP rfl (fun h => ?_) (fun h => ?_)
  · refine go ?_
    refine Cd.loop (fun z : Nat × List S_queue_item × List QI => z.1 < l.length ∧ z.2.1.length = l.length ∧ z.2.2.length = l.length) (fun z => z.1) (fun z => [(0, v), (1, .int .i64 0), (2, .int .i64 l.length), (3, befV c), (8, .int .i64 i), (9, .int .i64 z.1)])
      (fun z => sl e_queue_item v z.2.1 :: rel2 itC z.2.1 z.2.2 :: befC c :: R) (i, l1, q1) ⟨by dsimp only; omega, hl1, hq1⟩ ?_ ?_ ?_
    · repeat(first|exact Env.le_nil _|(refine Env.le_cons rfl ?_ ?_;first|rfl|(simp;done)|exact congrArg _ (by omega)|rotate_left))
    · exact ent_
    rintro ⟨j, l2, q2⟩ ⟨hj, hl2, hq2⟩
    dsimp only at hj hl2 hq2 ⊢
    rcases j with _ | j
    · refine go ?_
      refine Cd.draw2 [[], [], [0, 1], [0, 1, 2], [0, 1, 2, 3], [0, 1, 2, 3], [0, 1, 2, 3], [0, 1, 2, 3, 5, 6], [0, 1, 2, 3, 5, 6, 7], [0, 1, 2, 3], [0, 1, 2, 3], [0, 1, 2, 3, 10], [0, 1, 2, 3, 9, 10, 11], [0, 1, 2, 3, 9, 10, 11, 12], [0, 1, 2, 3, 4, 5, 6, 7, 8, 9, 10, 11, 12, 13], [0, 1, 2, 3, 4, 5, 6, 7, 8, 9, 10, 11, 12, 13, 14], [0, 1, 2, 3, 4, 5, 6, 7, 8, 9, 10, 11, 12, 13, 14, 15]] [14] [] (td := [(0, .fresh), (1, .fresh), (2, .fresh), (3, .fresh), (4, .fresh), (5, .fresh), (6, .fresh), (7, .fresh), (8, .fresh), (9, .fresh), (10, .fresh), (11, .fresh), (12, .fresh), (13, .fresh)]) mixed (by kernel_rfl) (by kernel_rfl) (by decide) (by decide) rfl (by kernel_rfl) ?_
      refine god2 ?_
      refine Sg2.one (td := [(15, .fresh), (16, .fresh)]) rfl (by kernel_rfl) fun F14_ => ?_
      dsimp only [List.cons_append, List.nil_append]
      refine SpOp.skip rfl rfl rfl rfl (Sn.ok ?_)
      refine god2 ?_
      refine go ?_
      refine Dn.round (i + 1, l2, q2) ⟨by dsimp only; omega, hl2, hq2⟩ (by dsimp only; omega) (by repeat(first|exact Env.le_nil _|(refine Env.le_cons rfl ?_ ?_;first|rfl|(simp;done)|exact congrArg _ (by omega)|rotate_left))) (by exact ent_)
    · have hj1 : (0 : Int) ≤ ((j + 1 : Nat) : Int) ∧ ((j + 1 : Nat) : Int) < q2.length := by omega
      have hj0 : (0 : Int) ≤ (j : Int) ∧ (j : Int) < q2.length := by omega
      refine Cd.know (fun w hw => itC_eq (sat.went (rel2_gotI hj1.1 hj1.2) (Tk.sat (A := rel2 itC l2 q2) (by exact tk_) hw))) fun k1 => ?_
      refine Cd.know (fun w hw => itC_eq (sat.went (rel2_gotI hj0.1 hj0.2) (Tk.sat (A := rel2 itC l2 q2) (by exact tk_) hw))) fun k0 => ?_
      have o1 := k1.2.2.2; have o0 := k0.2.2.2
      clear k1 k0
      refine go ?_
      refine Cd.draw2 [[], [], [0, 1], [0, 1, 2], [0, 1, 2, 3], [0, 1, 2, 3], [0, 1, 2, 3], [0, 1, 2, 3, 5, 6], [0, 1, 2, 3, 5, 6, 7], [0, 1, 2, 3], [0, 1, 2, 3], [0, 1, 2, 3, 10], [0, 1, 2, 3, 9, 10, 11], [0, 1, 2, 3, 9, 10, 11, 12], [0, 1, 2, 3, 4, 5, 6, 7, 8, 9, 10, 11, 12, 13], [0, 1, 2, 3, 4, 5, 6, 7, 8, 9, 10, 11, 12, 13, 14], [0, 1, 2, 3, 4, 5, 6, 7, 8, 9, 10, 11, 12, 13, 14, 15]] [14] [] (td := [(0, .fresh), (1, .fresh), (2, .fresh), (3, .fresh), (4, .fresh), (5, .fresh), (6, .fresh), (7, .fresh), (8, .fresh), (9, .fresh), (10, .fresh), (11, .fresh), (12, .fresh), (13, .fresh)]) mixed (by kernel_rfl) (by kernel_rfl) (by decide) (by decide) rfl (by kernel_rfl) ?_
      refine god2 ?_
      rw [decide_eq_true (show ((j + 1 : Nat) : Int) > 0 by omega)]
      refine god2 ?_
      rw [show ((j + 1 : Nat) : Int) - 1 = (j : Int) by omega]
      refine Sg2.one (td := [(15, .fresh), (16, .fresh)]) rfl (by kernel_rfl) fun F14_ => ?_
      dsimp only [List.cons_append, List.nil_append]
      refine SpOp.eff rfl rfl rfl rfl rfl (Eff.call (R := ?_) (queue_before1 c (rd l2 ((j + 1 : Nat) : Int)) (rd l2 j) o1 o0) rfl ?_ ?_)
      rotate_left
      · exact tkl_
      rintro _ -
      dsimp only [List.cons_append, List.nil_append]
      refine Sn.ok ?_
      refine god2 ?_
      refine go ?_
      refine Cd.condP rfl (fun g => ?_) (fun g => ?_)
      · have o2 : One (rd l2 (((j + 1 : Nat) : Int) - 1)).f_Entry.f_Task.f_Stack := by rw [show ((j + 1 : Nat) : Int) - 1 = (j : Int) by omega]; exact o0
        refine go ?_
        refine Cd.draw2 [[], [], [], [], [3], [], [], [6], [5, 6, 7], [5, 6, 7, 8], [], [], [10, 11], [10, 11, 12], [0, 1, 5, 6, 7, 8, 9, 10, 11, 12, 13], [0, 1, 5, 6, 7, 8, 9, 10, 11, 12, 13, 14], [0, 1, 2, 3, 4, 5, 6, 7, 8, 9, 10, 11, 12, 13, 14, 15], [0, 1, 2, 3, 4, 5, 6, 7, 8, 9, 10, 11, 12, 13, 14, 15, 16]] [15, 17] [] (td := [(0, .fresh), (1, .fresh), (2, .fresh), (3, .fresh), (4, .fresh), (5, .fresh), (6, .fresh), (7, .fresh), (8, .fresh), (9, .fresh), (10, .fresh), (11, .fresh), (12, .fresh), (13, .fresh), (14, .fresh)]) mixed (by kernel_rfl) (by kernel_rfl) (by decide) (by decide) rfl (by kernel_rfl) ?_
        refine god2 ?_
        refine Sg2.one (td := [(2, .old), (3, .old), (4, .old), (16, .fresh)]) rfl (by kernel_rfl) fun F15_ => ?_
        dsimp only [List.cons_append, List.nil_append]
        (with_reducible first|refine SpOp.eff rfl rfl rfl rfl rfl (Eff.x (Qx.build rfl) ?_)|refine SpOp.eff rfl rfl rfl rfl rfl (Eff.alloc fun _=>?_)|refine SpOp.eff rfl rfl rfl rfl rfl (Eff.box fun _=>?_)|refine SpOp.eff rfl rfl rfl rfl rfl (Eff.bslice rfl rfl fun _=>?_)|(refine SpOp.eff rfl rfl rfl rfl rfl (Eff.append1 rfl ?_ fun _=>?_);exact pre_)|refine SpOp.eff0 rfl rfl rfl rfl (Eff.store rfl rfl ?_)|(refine SpOp.eff0 rfl rfl rfl rfl (Eff.storeE rfl ?_ ?_);exact pre_))
        refine Sn.ok ?_
        refine god2 ?_
        rw [show ((j + 1 : Nat) : Int) - 1 = (j : Int) by omega]
        refine Sg2.one (td := []) rfl (by kernel_rfl) fun F17_ => ?_
        dsimp only [List.cons_append, List.nil_append]
        (with_reducible first|refine SpOp.eff rfl rfl rfl rfl rfl (Eff.x (Qx.build rfl) ?_)|refine SpOp.eff rfl rfl rfl rfl rfl (Eff.alloc fun _=>?_)|refine SpOp.eff rfl rfl rfl rfl rfl (Eff.box fun _=>?_)|refine SpOp.eff rfl rfl rfl rfl rfl (Eff.bslice rfl rfl fun _=>?_)|(refine SpOp.eff rfl rfl rfl rfl rfl (Eff.append1 rfl ?_ fun _=>?_);exact pre_)|refine SpOp.eff0 rfl rfl rfl rfl (Eff.store rfl rfl ?_)|(refine SpOp.eff0 rfl rfl rfl rfl (Eff.storeE rfl ?_ ?_);exact pre_))
        refine Sn.ok ?_
        refine god2 ?_
        refine go ?_
        refine Dn.round (j, swapL l2 ((j + 1 : Nat) : Int) (j : Int), swapL q2 ((j + 1 : Nat) : Int) (j : Int)) ⟨by dsimp only; omega, by rw [swapL_len]; exact hl2, by rw [swapL_len]; exact hq2⟩ (by dsimp only; omega) ?_ ?_
        · repeat(first|exact Env.le_nil _|(refine Env.le_cons rfl ?_ ?_;first|rfl|(simp;done)|exact congrArg _ (by omega)|rotate_left))
        · refine ents.cons (show Tk _ (sl e_queue_item v (swapL l2 ((j + 1 : Nat) : Int) (j : Int))) _ from by unfold swapL; exact tk_) (ents.conv1 (A := rel2 itC l2 q2) (swap_rel (by omega) hj1 hj0) (by exact tk_) (by exact ent_))
      · refine go ?_
        refine Dn.round (i + 1, l2, q2) ⟨by dsimp only; omega, hl2, hq2⟩ (by dsimp only; omega) (by repeat(first|exact Env.le_nil _|(refine Env.le_cons rfl ?_ ?_;first|rfl|(simp;done)|exact congrArg _ (by omega)|rotate_left))) (by exact ent_)
  · refine go ?_
    refine Dn.fin0 rfl fun w hs => ⟨(l1, q1), rfl, hl1, hs.conv (by exact ent_)⟩
end Go.Proofs.Ytcgjmlapmdbnmaa

