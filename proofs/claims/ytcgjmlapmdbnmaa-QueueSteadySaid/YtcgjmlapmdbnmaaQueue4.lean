/- Contracts of functions of the program, proved in a small separation logic. Conditions: those that each theorem states. -/
import Derived.Test.YtcgjmlapmdbnmaaQueue3
namespace Go.Proofs.Ytcgjmlapmdbnmaa
open Go Go.Sl
set_option maxHeartbeats 4000000
set_option maxRecDepth 100000
set_option linter.unusedVariables false
-- FN confidant/queue.copied
theorem queue_copied (t : S_api_Task) (xs : List Int) (hx : xs.length ≤ 1000000) (hpc : in64 (t.f_Pc + 1)) :
    Sp Try.prog 107 [tV t] [rsl (eInt .i32) t.f_Stack xs] (fun _ : Value => True)
      (fun v' => .agg #[.int .i32 t.f_Id, .int .i64 t.f_Func, .int .i64 (t.f_Pc + 1), v', .int .i32 t.f_Vars0, .int .i32 t.f_Vars1, .int .i32 t.f_Vars2, .int .i32 t.f_Vars3, .int .i64 t.f_Label, .int .i64 t.f_Clear, .int .u32 t.f_Privs, .int .i64 t.f_Worker]) (fun v' => [sl (eInt .i32) v' xs]) := by
  refine Sp.intro (n := 5) Try.func107 rfl rfl fun w0 R => ?_
  dsimp only [List.cons_append, List.nil_append, envOf]
  refine go ?_;repeat((with_reducible refine Ol.g ?_);(first|refine Ol.eff rfl rfl rfl (Eff.alloc fun _=>?_)|refine Ol.eff rfl rfl rfl (Eff.box fun _=>?_)|refine Ol.eff0 rfl rfl (Eff.store rfl rfl ?_)|refine Ol.eff rfl rfl rfl (Eff.bslice rfl rfl fun _=>?_)|(refine Ol.eff0 rfl rfl (Eff.storeE rfl ?_ ?_);exact pre_)|(refine Ol.eff rfl rfl rfl (Eff.append1 rfl ?_ fun _=>?_);exact pre_));refine go ?_)
  with_reducible refine Ol.g ?_
  refine Ol.eff rfl rfl rfl (Eff.call (R := ?_) (task_Drop0 true t xs hx hpc) rfl ?_ ?_)
  rotate_left
  · exact tkl_
  rintro v' -
  dsimp only [List.cons_append, List.nil_append]
  first | (with_reducible refine Cd.g ?_; refine Cd.know (fun w_ hw_ => one_sl (Tk.sat (A := (sl (eInt .i32) v' _)) (by exact tk_) hw_)) fun o1 => ?_) | (with_reducible refine Ol.g ?_; refine Ol.know (fun w_ hw_ => one_sl (Tk.sat (A := (sl (eInt .i32) v' _)) (by exact tk_) hw_)) fun o1 => ?_) | (with_reducible refine Dn.g ?_; refine Dn.know (fun w_ hw_ => one_sl (Tk.sat (A := (sl (eInt .i32) v' _)) (by exact tk_) hw_)) fun o1 => ?_)
  refine go ?_;repeat((with_reducible refine Ol.g ?_);(first|refine Ol.eff rfl rfl rfl (Eff.alloc fun _=>?_)|refine Ol.eff rfl rfl rfl (Eff.box fun _=>?_)|refine Ol.eff0 rfl rfl (Eff.store rfl rfl ?_)|refine Ol.eff rfl rfl rfl (Eff.bslice rfl rfl fun _=>?_)|(refine Ol.eff0 rfl rfl (Eff.storeE rfl ?_ ?_);exact pre_)|(refine Ol.eff rfl rfl rfl (Eff.append1 rfl ?_ fun _=>?_);exact pre_));refine go ?_)
  refine Dn.retC rfl rfl trivial fun w hs => ⟨v', rfl, trivial, hs.conv (by exact ent_)⟩
-- FN confidant/queue.entry
theorem queue_entry (round : Int) (t : S_api_Task) (a : AT) :
    Sp Try.prog 69 [enV ⟨round, t⟩] [tkC t a] (fun _ : S_api_Task => True) (fun u => enV ⟨round, u⟩) (fun u => [tkC u a]) := by
  refine Sp.intro (n := 15) Try.func69 rfl rfl fun w0 R => ?_
  dsimp only [List.cons_append, List.nil_append, envOf]
  first | (with_reducible refine Cd.g ?_; refine Cd.pk (A := (tkC t a)) rfl (by exact tk_) fun x hx => ?_) | (with_reducible refine Ol.g ?_; refine Ol.pk (A := (tkC t a)) rfl (by exact tk_) fun x hx => ?_) | (with_reducible refine Dn.g ?_; refine Dn.pk (A := (tkC t a)) rfl (by exact tk_) fun x hx => ?_)
  dsimp only [List.cons_append, List.nil_append]
  have ho := hx.2; have hpc := ho.pc; have e1 : t.f_Pc = a.pc := congrArg AT.pc hx.1
  refine go ?_;repeat((with_reducible refine Ol.g ?_);(first|refine Ol.eff rfl rfl rfl (Eff.alloc fun _=>?_)|refine Ol.eff rfl rfl rfl (Eff.box fun _=>?_)|refine Ol.eff0 rfl rfl (Eff.store rfl rfl ?_)|refine Ol.eff rfl rfl rfl (Eff.bslice rfl rfl fun _=>?_)|(refine Ol.eff0 rfl rfl (Eff.storeE rfl ?_ ?_);exact pre_)|(refine Ol.eff rfl rfl rfl (Eff.append1 rfl ?_ fun _=>?_);exact pre_));refine go ?_)
  with_reducible refine Ol.g ?_
  refine Ol.eff rfl rfl rfl (Eff.call (R := ?_) (queue_copied t a.stack ho.st (by rw [e1]; unfold in64; omega)) rfl ?_ ?_)
  rotate_left
  · exact tkl_
  rintro v' -
  dsimp only [List.cons_append, List.nil_append]
  first | (with_reducible refine Cd.g ?_; refine Cd.know (fun w_ hw_ => one_sl (Tk.sat (A := (sl (eInt .i32) v' _)) (by exact tk_) hw_)) fun o1 => ?_) | (with_reducible refine Ol.g ?_; refine Ol.know (fun w_ hw_ => one_sl (Tk.sat (A := (sl (eInt .i32) v' _)) (by exact tk_) hw_)) fun o1 => ?_) | (with_reducible refine Dn.g ?_; refine Dn.know (fun w_ hw_ => one_sl (Tk.sat (A := (sl (eInt .i32) v' _)) (by exact tk_) hw_)) fun o1 => ?_)
  first | (with_reducible refine Cd.g ?_; refine Cd.share (A := (sl (eInt .i32) v' _)) (by exact tk_) ?_) | (with_reducible refine Ol.g ?_; refine Ol.share (A := (sl (eInt .i32) v' _)) (by exact tk_) ?_) | (with_reducible refine Dn.g ?_; refine Dn.share (A := (sl (eInt .i32) v' _)) (by exact tk_) ?_)
  refine go ?_;repeat((with_reducible refine Ol.g ?_);(first|refine Ol.eff rfl rfl rfl (Eff.alloc fun _=>?_)|refine Ol.eff rfl rfl rfl (Eff.box fun _=>?_)|refine Ol.eff0 rfl rfl (Eff.store rfl rfl ?_)|refine Ol.eff rfl rfl rfl (Eff.bslice rfl rfl fun _=>?_)|(refine Ol.eff0 rfl rfl (Eff.storeE rfl ?_ ?_);exact pre_)|(refine Ol.eff rfl rfl rfl (Eff.append1 rfl ?_ fun _=>?_);exact pre_));refine go ?_)
  refine Dn.retC rfl rfl trivial fun w hs => ⟨⟨t.f_Id, t.f_Func, t.f_Pc, v', t.f_Vars0, t.f_Vars1, t.f_Vars2, t.f_Vars3, t.f_Label, t.f_Clear, t.f_Privs, t.f_Worker⟩, rfl, trivial, hs.conv (ents.pk () ⟨hx.1, hx.2⟩ (show ents _ (slB true (eInt .i32) v' a.stack :: R) from by exact ent_))⟩
structure arrOk (l arr : List QI) (n : Int) : Prop where
  perm : arr.Perm l
  heap : heapOk arr arr.length
  sorted : sortedQ l
  nd : (l.map (·.seq)).Nodup
  lt : ∀ y, y ∈ l → y.seq < n
/-- A queue whose tasks come out in this order. -/
def queueS (p : Nat) (l : List QI) (n : Int) : HProp := pk (fun arr : List QI => arrOk l arr n) (fun arr => [queueH p arr n])
theorem arrOk_nil (n : Int) : arrOk [] [] n := ⟨List.Perm.refl _, fun i h0 h1 => by simp at h1; omega, List.Pairwise.nil, List.nodup_nil, fun y h => by cases h⟩
theorem queueS_nil {p : Nat} {H L : List HProp} (k : ents H (queueH p [] 0 :: L)) : ents H (queueS p [] 0 :: L) := ents.pk [] (arrOk_nil 0) k
-- FN (*confidant/queue.Queue).Push
theorem queue_Push (p : Nat) (l : List QI) (n round : Int) (t : S_api_Task) (a : AT) (hn : 0 ≤ n ∧ n < 1048576) (hl : l.length < 1048576) :
    Sp Try.prog 34 [.pointer (some ⟨p, 0, none⟩), .int .i64 round, tV t] [queueS p l n, tkC t a] (fun _ : Unit => True) (fun _ => .tuple #[]) (fun _ => [queueS p (insQ ⟨round, a, n⟩ l) (n + 1)]) := by
  refine Sp.intro (n := 28) Try.func34 rfl rfl fun w0 R => ?_
  dsimp only [List.cons_append, List.nil_append, envOf]
  first | (with_reducible refine Cd.g ?_; refine Cd.pk (A := (queueS p l n)) rfl (by exact tk_) fun arr ha => ?_) | (with_reducible refine Ol.g ?_; refine Ol.pk (A := (queueS p l n)) rfl (by exact tk_) fun arr ha => ?_) | (with_reducible refine Dn.g ?_; refine Dn.pk (A := (queueS p l n)) rfl (by exact tk_) fun arr ha => ?_)
  dsimp only [List.cons_append, List.nil_append]
  first | (with_reducible refine Cd.g ?_; refine Cd.pk (A := (queueH p arr n)) rfl (by exact tk_) fun x hx => ?_) | (with_reducible refine Ol.g ?_; refine Ol.pk (A := (queueH p arr n)) rfl (by exact tk_) fun x hx => ?_) | (with_reducible refine Dn.g ?_; refine Dn.pk (A := (queueH p arr n)) rfl (by exact tk_) fun x hx => ?_)
  dsimp only [List.cons_append, List.nil_append]
  have hal : arr.length = l.length := ha.perm.length_eq
  have hpu := push_heap ⟨round, a, n⟩ ha.heap
  refine go ?_;repeat((with_reducible refine Ol.g ?_);(first|refine Ol.eff rfl rfl rfl (Eff.alloc fun _=>?_)|refine Ol.eff rfl rfl rfl (Eff.box fun _=>?_)|refine Ol.eff0 rfl rfl (Eff.store rfl rfl ?_)|refine Ol.eff rfl rfl rfl (Eff.bslice rfl rfl fun _=>?_)|(refine Ol.eff0 rfl rfl (Eff.storeE rfl ?_ ?_);exact pre_)|(refine Ol.eff rfl rfl rfl (Eff.append1 rfl ?_ fun _=>?_);exact pre_));refine go ?_)
  rename_i c
  refine Cd.draw2 [[], [0], [0, 1], [0, 1, 2], [], [], [4, 5], [4, 5, 6], [], [8], [8, 9], [8, 9, 10], [4, 5, 6, 7, 8, 9, 10, 11], [4, 5, 6, 7, 8, 9, 10, 11, 12], [0, 1, 2, 3, 4, 5, 6, 7, 8, 9, 10, 11, 12, 13]] [7, 14] [] (td := [(0, .fresh), (1, .fresh), (2, .fresh), (3, .fresh), (4, .fresh), (5, .fresh), (6, .fresh), (8, .fresh), (9, .fresh), (10, .fresh), (11, .fresh)]) mixed (by kernel_rfl) (by kernel_rfl) (by decide) (by decide) rfl (by kernel_rfl) ?_
  refine god2 ?_
  refine Sg2.one (td := [(0, .old), (1, .old), (2, .old), (3, .old), (8, .old), (9, .old), (10, .old), (11, .old), (12, .fresh), (13, .fresh)]) rfl (by kernel_rfl) fun F7_ => ?_
  dsimp only [List.cons_append, List.nil_append]
  refine SpOp.eff rfl rfl rfl rfl rfl (Eff.call (R := ?_) (queue_entry round t a) rfl ?_ ?_)
  rotate_left
  · exact tkl_
  rintro u -
  dsimp only [List.cons_append, List.nil_append]
  refine Sn.ok ?_
  refine god2 ?_
  refine Sg2.one (td := []) rfl (by kernel_rfl) fun F14_ => ?_
  dsimp only [List.cons_append, List.nil_append]
  refine SpOp.eff rfl rfl rfl rfl rfl (Eff.call (R := ?_) (heap_Push p x.1 n x.2 arr ⟨⟨round, u⟩, n⟩ ⟨round, a, n⟩ (by omega)) rfl ?_ ?_)
  rotate_left
  · exact TkL.cons (Tk.pk (A := itC ⟨⟨round, u⟩, n⟩ ⟨round, a, n⟩) rfl () ⟨rfl, rfl⟩ (by exact tkl_)) (by exact tkl_)
  rintro y -
  dsimp only [List.cons_append, List.nil_append]
  refine Sn.ok ?_
  refine god2 ?_
  refine go ?_;repeat((with_reducible refine Ol.g ?_);(first|refine Ol.eff rfl rfl rfl (Eff.alloc fun _=>?_)|refine Ol.eff rfl rfl rfl (Eff.box fun _=>?_)|refine Ol.eff0 rfl rfl (Eff.store rfl rfl ?_)|refine Ol.eff rfl rfl rfl (Eff.bslice rfl rfl fun _=>?_)|(refine Ol.eff0 rfl rfl (Eff.storeE rfl ?_ ?_);exact pre_)|(refine Ol.eff rfl rfl rfl (Eff.append1 rfl ?_ fun _=>?_);exact pre_));refine go ?_)
  refine Dn.fin0 rfl fun w hs => ⟨(), rfl, trivial, ?_⟩
  have hle := (hpu.2.trans (ha.perm.cons _)).length_eq
  have hyl := rel2_len (Tk.sat (A := rel2 itC y.2 (upA (arr ++ [⟨round, a, n⟩]) arr.length)) (by exact tk_) hs.2)
  refine hs.conv (ents.pk (upA (arr ++ [⟨round, a, n⟩]) arr.length) ⟨hpu.2.trans ((ha.perm.cons _).trans (insQ_perm _ l).symm), ?_, insQ_sorted _ l ha.sorted, ?_, fun z hz => ?_⟩ ?_)
  · rw [hpu.2.length_eq]
    exact hpu.1
  · refine ((insQ_perm _ l).map _).nodup_iff.2 ?_
    rw [List.map_cons, List.nodup_cons]
    refine ⟨fun h => ?_, ha.nd⟩
    obtain ⟨z, hz, e⟩ := List.mem_map.1 h
    have := ha.lt z hz
    dsimp only at e; omega
  · rcases List.mem_cons.1 ((insQ_perm _ l).mem_iff.1 hz) with rfl | hz
    · dsimp only; omega
    · have := ha.lt z hz; omega
  · dsimp only [List.cons_append, List.nil_append]
    exact ents.pk y ⟨hyl, by rw [hle]; simp; omega, by omega, by omega⟩ (by dsimp only [List.cons_append, List.nil_append]; exact ent_)
def popA : List QI → QI
  | [] => ⟨0, zA, 0⟩
  | a :: _ => a
-- FN (*confidant/queue.Queue).Pop
theorem queue_Pop (p : Nat) (l : List QI) (n : Int) :
    Sp Try.prog 36 [.pointer (some ⟨p, 0, none⟩)] [queueS p l n] (fun _ : S_api_Task => True) (fun u => .tuple #[enV ⟨(popA l).round, u⟩, .bool (decide (l ≠ []))]) (fun u => [queueS p l.tail n, tkC u (popA l).task]) := by
  refine Sp.intro (n := 18) Try.func36 rfl rfl fun w0 R => ?_
  dsimp only [List.cons_append, List.nil_append, envOf]
  first | (with_reducible refine Cd.g ?_; refine Cd.pk (A := (queueS p l n)) rfl (by exact tk_) fun arr ha => ?_) | (with_reducible refine Ol.g ?_; refine Ol.pk (A := (queueS p l n)) rfl (by exact tk_) fun arr ha => ?_) | (with_reducible refine Dn.g ?_; refine Dn.pk (A := (queueS p l n)) rfl (by exact tk_) fun arr ha => ?_)
  dsimp only [List.cons_append, List.nil_append]
  first | (with_reducible refine Cd.g ?_; refine Cd.pk (A := (queueH p arr n)) rfl (by exact tk_) fun x hx => ?_) | (with_reducible refine Ol.g ?_; refine Ol.pk (A := (queueH p arr n)) rfl (by exact tk_) fun x hx => ?_) | (with_reducible refine Dn.g ?_; refine Dn.pk (A := (queueH p arr n)) rfl (by exact tk_) fun x hx => ?_)
  dsimp only [List.cons_append, List.nil_append]
  have hal : arr.length = l.length := ha.perm.length_eq
  rcases l with _ | ⟨a, l⟩
  · have hae : arr = [] := List.length_eq_zero_iff.1 (by simpa using hal)
    subst hae
    have hxe : x.2 = [] := List.length_eq_zero_iff.1 (by simpa using hx.1)
    refine go ?_;repeat((with_reducible refine Ol.g ?_);(first|refine Ol.eff rfl rfl rfl (Eff.alloc fun _=>?_)|refine Ol.eff rfl rfl rfl (Eff.box fun _=>?_)|refine Ol.eff0 rfl rfl (Eff.store rfl rfl ?_)|refine Ol.eff rfl rfl rfl (Eff.bslice rfl rfl fun _=>?_)|(refine Ol.eff0 rfl rfl (Eff.storeE rfl ?_ ?_);exact pre_)|(refine Ol.eff rfl rfl rfl (Eff.append1 rfl ?_ fun _=>?_);exact pre_));refine go ?_)
    rw [decide_eq_true (show (x.2.length : Int) = 0 by rw [hxe]; rfl)]
    refine go ?_;repeat((with_reducible refine Ol.g ?_);(first|refine Ol.eff rfl rfl rfl (Eff.alloc fun _=>?_)|refine Ol.eff rfl rfl rfl (Eff.box fun _=>?_)|refine Ol.eff0 rfl rfl (Eff.store rfl rfl ?_)|refine Ol.eff rfl rfl rfl (Eff.bslice rfl rfl fun _=>?_)|(refine Ol.eff0 rfl rfl (Eff.storeE rfl ?_ ?_);exact pre_)|(refine Ol.eff rfl rfl rfl (Eff.append1 rfl ?_ fun _=>?_);exact pre_));refine go ?_)
    refine Dn.retC1 rfl rfl trivial rfl fun w hs => ⟨zT, rfl, trivial, hs.conv (ents.pk [] ha (ents.pk x hx (by dsimp only [List.cons_append, List.nil_append, List.append, popA, List.tail_nil]; exact ent_)))⟩
  · obtain ⟨r, h1, h2, h3, h4⟩ := pop_heap (n := l.length) (by simpa using hal) ha.heap
    have hroot := head_root ha.perm ha.sorted ha.nd ha.heap
    refine go ?_;repeat((with_reducible refine Ol.g ?_);(first|refine Ol.eff rfl rfl rfl (Eff.alloc fun _=>?_)|refine Ol.eff rfl rfl rfl (Eff.box fun _=>?_)|refine Ol.eff0 rfl rfl (Eff.store rfl rfl ?_)|refine Ol.eff rfl rfl rfl (Eff.bslice rfl rfl fun _=>?_)|(refine Ol.eff0 rfl rfl (Eff.storeE rfl ?_ ?_);exact pre_)|(refine Ol.eff rfl rfl rfl (Eff.append1 rfl ?_ fun _=>?_);exact pre_));refine go ?_)
    rw [decide_eq_false (show ¬ (x.2.length : Int) = 0 by rw [hx.1, hal]; simp; omega)]
    refine go ?_;repeat((with_reducible refine Ol.g ?_);(first|refine Ol.eff rfl rfl rfl (Eff.alloc fun _=>?_)|refine Ol.eff rfl rfl rfl (Eff.box fun _=>?_)|refine Ol.eff0 rfl rfl (Eff.store rfl rfl ?_)|refine Ol.eff rfl rfl rfl (Eff.bslice rfl rfl fun _=>?_)|(refine Ol.eff0 rfl rfl (Eff.storeE rfl ?_ ?_);exact pre_)|(refine Ol.eff rfl rfl rfl (Eff.append1 rfl ?_ fun _=>?_);exact pre_));refine go ?_)
    with_reducible refine Ol.g ?_
    refine Ol.eff rfl rfl rfl (Eff.call (R := ?_) (heap_Pop p x.1 n x.2 arr r l.length (by omega) (by simpa using hal) h1 h2) rfl ?_ ?_)
    rotate_left
    · exact tkl_
    rintro ⟨v', l', t⟩ -
    dsimp only [List.cons_append, List.nil_append]
    rw [hroot]
    first | (with_reducible refine Cd.g ?_; refine Cd.pk (A := (itC t a)) rfl (by exact tk_) fun u hu => ?_) | (with_reducible refine Ol.g ?_; refine Ol.pk (A := (itC t a)) rfl (by exact tk_) fun u hu => ?_) | (with_reducible refine Dn.g ?_; refine Dn.pk (A := (itC t a)) rfl (by exact tk_) fun u hu => ?_)
    dsimp only [List.cons_append, List.nil_append]
    refine go ?_;repeat((with_reducible refine Ol.g ?_);(first|refine Ol.eff rfl rfl rfl (Eff.alloc fun _=>?_)|refine Ol.eff rfl rfl rfl (Eff.box fun _=>?_)|refine Ol.eff0 rfl rfl (Eff.store rfl rfl ?_)|refine Ol.eff rfl rfl rfl (Eff.bslice rfl rfl fun _=>?_)|(refine Ol.eff0 rfl rfl (Eff.storeE rfl ?_ ?_);exact pre_)|(refine Ol.eff rfl rfl rfl (Eff.append1 rfl ?_ fun _=>?_);exact pre_));refine go ?_)
    refine Dn.retC1 rfl rfl trivial rfl fun w hs => ⟨t.f_Entry.f_Task, ?_, trivial, ?_⟩
    · rw [show (popA (a :: l)).round = t.f_Entry.f_Round from hu.1.symm]; simp
    · have hyl := rel2_len (Tk.sat (A := rel2 itC l' r) (by exact tk_) hs.2)
      rw [hroot] at h4
      have hp : r.Perm l := (h4.trans ha.perm).cons_inv
      have hnd := ha.nd
      rw [List.map_cons, List.nodup_cons] at hnd
      refine hs.conv (ents.pk r ⟨hp, by rw [h2]; exact h3, (List.pairwise_cons.1 ha.sorted).2, hnd.2, fun y hy => ha.lt y (by simp at hy ⊢; exact .inr hy)⟩ ?_)
      have := hx.2
      dsimp only [List.cons_append, List.nil_append, popA]
      exact ents.pk (v', l') ⟨hyl, by rw [h2]; have k := this.1; rw [hal] at k; simp at k; omega, this.2.1, this.2.2⟩ (by dsimp only [List.cons_append, List.nil_append]; exact ent_)
end Go.Proofs.Ytcgjmlapmdbnmaa

