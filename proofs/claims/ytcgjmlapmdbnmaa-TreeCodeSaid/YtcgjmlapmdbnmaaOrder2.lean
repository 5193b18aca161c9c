/- Contracts of functions of the program, proved in a small separation logic. Conditions: those that each theorem states. -/
import Derived.Test.YtcgjmlapmdbnmaaOrder
namespace Go.Proofs.Ytcgjmlapmdbnmaa
open Go Go.Sl
set_option maxHeartbeats 4000000
set_option maxRecDepth 100000
set_option linter.unusedVariables false
def firstL (l : List Int) (F : Int → Int → Bool) : Option Int := l.find? fun a => l.all fun b => F a b
def optV (o : Option Int) : Value := .tuple #[.int .i64 (o.getD 0), .bool o.isSome]
-- FN confidant/order.first
theorem order_first (r : Bool) (lv fv : Value) (l : List Int) (hm : l.length ≤ 140737488355328) (A : HProp) (F : Int → Int → Bool)
    (hF : FnV (P := Try.prog) fv A pairV (fun p => p.1 ∈ l ∧ p.2 ∈ l) (fun p => .bool (F p.1 p.2))) :
    Sp Try.prog 87 [lv, fv] [A, slB r (eInt .i64) lv l] (fun _ : Unit => True) (fun _ => optV (firstL l F)) (fun _ => [A, slB r (eInt .i64) lv l]) := by
  refine Sp.intro (n := 34) Try.func87 rfl rfl fun w0 R => ?_
  dsimp only [List.cons_append, List.nil_append, envOf]
  refine go ?_
  refine Cd.loop (fun k : Nat => k ≤ l.length ∧ ∀ a, a ∈ l.take k → l.all (fun b => F a b) = false) (fun k => l.length - k) (fun k => [(0, lv), (1, fv), (11, lv), (12, .int .i64 l.length), (13, .int .i64 k)]) (fun _ => _) 0 ⟨by omega, by simp⟩ ?_ (ents.refl _) fun k ⟨hk, hno⟩ => ?_
  · repeat(first|exact Env.le_nil _|(refine Env.le_cons rfl ?_ ?_;first|rfl|(simp;done)|exact congrArg _ (by omega)|rotate_left))
  refine go ?_
  refine Cd.condP rfl (fun h => ?_) (fun h => ?_)
  · have hkl : k < l.length := by omega
    refine go ?_
    refine Cd.loop (fun j : Nat => j ≤ l.length) (fun j => l.length - j) (fun j => [(0, lv), (1, fv), (11, lv), (12, .int .i64 l.length), (13, .int .i64 k), (7, .int .i64 (rd l k)), (17, lv), (18, .int .i64 l.length), (19, .int .i64 j), (8, .bool ((l.take j).all fun b => F (rd l k) b))]) (fun _ => _) 0 (by omega) ?_ (ents.refl _) fun j hj => ?_
    · repeat(first|exact Env.le_nil _|(refine Env.le_cons rfl ?_ ?_;first|rfl|(simp;done)|exact congrArg _ (by omega)|rotate_left))
    refine go ?_
    refine Cd.condP rfl (fun h2 => ?_) (fun h2 => ?_)
    · have hjl : j < l.length := by omega
      have hsn : (l.take (j + 1)).all (fun b => F (rd l k) b) = ((l.take j).all (fun b => F (rd l k) b) && F (rd l k) (rd l j)) := by
        rw [take_rd hjl, List.all_append]; simp
      refine go ?_
      cases hx : (l.take j).all (fun b => F (rd l k) b) with
      | true =>
        refine go ?_
        with_reducible refine Ol.g ?_
        refine Ol.eff rfl rfl rfl (Eff.callV (R := ?_) hF (rd l k, rd l j) ⟨rd_mem (by omega) (by omega), rd_mem (by omega) (by omega)⟩ rfl ?_ ?_)
        rotate_left
        · exact tkl_
        refine go ?_
        refine Dn.round (j + 1) (by omega) (by omega) ?_ (by exact ent_)
        repeat(first|exact Env.le_nil _|(refine Env.le_cons rfl ?_ ?_;first|rfl|(simp;done)|exact congrArg _ (by omega)|rotate_left))
        rw [hsn, hx]; cases F (rd l k) (rd l j) <;> rfl
      | false =>
        refine go ?_
        refine Dn.round (j + 1) (by omega) (by omega) ?_ (ents.refl _)
        repeat(first|exact Env.le_nil _|(refine Env.le_cons rfl ?_ ?_;first|rfl|(simp;done)|exact congrArg _ (by omega)|rotate_left))
        rw [hsn, hx]; rfl
    · have hjl : j = l.length := by omega
      subst hjl
      rw [List.take_length]
      refine go ?_
      cases hx : l.all (fun b => F (rd l k) b) with
      | true =>
        refine go ?_
        refine Dn.ret2 rfl rfl rfl fun w hs => ⟨(), ?_, by trivial, by first | exact hs | (refine hs.conv ?_; exact ent_)⟩
        have : firstL l F = some (rd l k) := by
          unfold firstL
          rw [List.find?_eq_some_iff_append]
          refine ⟨hx, l.take k, l.drop (k + 1), ?_, fun a ha => by simp [hno a ha]⟩
          rw [← List.singleton_append, ← List.append_assoc, ← take_rd hkl, List.take_append_drop]
        rw [this]; rfl
      | false =>
        refine go ?_
        refine Dn.round (k + 1) ⟨by omega, fun a ha => ?_⟩ (by omega) ?_ (ents.refl _)
        · rw [take_rd hkl] at ha
          rcases List.mem_append.1 ha with ha | ha
          · exact hno a ha
          · simp at ha; rw [ha]; exact hx
        · repeat(first|exact Env.le_nil _|(refine Env.le_cons rfl ?_ ?_;first|rfl|(simp;done)|exact congrArg _ (by omega)|rotate_left))
  · have hkl : k = l.length := by omega
    subst hkl
    refine go ?_
    refine Dn.ret2 rfl rfl rfl fun w hs => ⟨(), ?_, by trivial, by first | exact hs | (refine hs.conv ?_; exact ent_)⟩
    have : firstL l F = none := by
      unfold firstL
      rw [List.find?_eq_none]
      intro a ha
      rw [List.take_length] at hno
      simp [hno a ha]
    rw [this]; rfl
-- FN confidant/order.Least$1
theorem order_Least1 (c : Nat) (v : Value) (rows : List Value) (q : List (List Bool)) (hl : rows.length = q.length) (hq : sqB q = true) (a b : Int) (hab : below q.length (a, b)) :
    Sp Try.prog 88 [.int .i64 a, .int .i64 b, .pointer (some ⟨c, 0, none⟩)] [cap1 c v rows q] (fun _ : Unit => True) (fun _ => .bool (rd (rd q a) b)) (fun _ => [cap1 c v rows q]) := by
  obtain ⟨⟨h1, h2⟩, h3, h4⟩ := hab
  simp only at h1 h2 h3 h4
  have ha := sq_row hq h1 h2
  refine Sp.intro (n := 13) Try.func88 rfl rfl fun w0 R => ?_
  dsimp only [List.cons_append, List.nil_append, envOf]
  refine Cd.stars ?_
  dsimp only [List.cons_append, List.nil_append]
  refine go ?_
  refine Dn.ret1 rfl rfl fun w hs => ⟨(), ?_, by trivial, by first | exact hs | (refine hs.conv ?_; exact ent_)⟩
  rfl
-- FN confidant/order.Greatest$1
theorem order_Greatest1 (c : Nat) (v : Value) (rows : List Value) (q : List (List Bool)) (hl : rows.length = q.length) (hq : sqB q = true) (a b : Int) (hab : below q.length (a, b)) :
    Sp Try.prog 91 [.int .i64 a, .int .i64 b, .pointer (some ⟨c, 0, none⟩)] [cap1 c v rows q] (fun _ : Unit => True) (fun _ => .bool (rd (rd q b) a)) (fun _ => [cap1 c v rows q]) := by
  obtain ⟨⟨h1, h2⟩, h3, h4⟩ := hab
  simp only at h1 h2 h3 h4
  have ha := sq_row hq h3 h4
  refine Sp.intro (n := 13) Try.func91 rfl rfl fun w0 R => ?_
  dsimp only [List.cons_append, List.nil_append, envOf]
  refine Cd.stars ?_
  dsimp only [List.cons_append, List.nil_append]
  refine go ?_
  refine Dn.ret1 rfl rfl fun w hs => ⟨(), ?_, by trivial, by first | exact hs | (refine hs.conv ?_; exact ent_)⟩
  rfl
theorem has_in {q : List (List Bool)} {l : List Int} (h : hasB q l = true) : sqB q = true ∧ ∀ a, a ∈ l → 0 ≤ a ∧ a < q.length := by
  unfold hasB at h
  rw [Bool.and_eq_true, List.all_eq_true] at h
  exact ⟨h.2, fun a ha => by simpa using h.1 a ha⟩
def leastB (q : List (List Bool)) (l : List Int) : Option Int := if hasB q l then firstL l (fun a b => rd (rd q a) b) else none
def greatestB (q : List (List Bool)) (l : List Int) : Option Int := if hasB q l then firstL l (fun a b => rd (rd q b) a) else none
-- FN confidant/order.Least
theorem order_Least (v : Value) (rows : List Value) (q : List (List Bool)) (hl : rows.length = q.length) (hm : q.length ≤ 140737488355328) (r : Bool) (lv : Value) (l : List Int) (hll : l.length ≤ 140737488355328) :
    Sp Try.prog 48 [v, lv] [rsl eVal v rows, rws true eBool rows q, slB r (eInt .i64) lv l] (fun _ : Unit => True) (fun _ => optV (leastB q l)) (fun _ => [slB r (eInt .i64) lv l]) := by
  refine Sp.intro (n := 15) Try.func48 rfl rfl fun w0 R => ?_
  dsimp only [List.cons_append, List.nil_append, envOf]
  refine go ?_
  refine Ol.eff rfl rfl rfl (Eff.box fun c => ?_)
  refine go ?_
  with_reducible refine Ol.g ?_
  refine Ol.eff rfl rfl rfl (Eff.call (R := ?_) (order_has v rows q hl hm r lv l hll) rfl ?_ ?_)
  rotate_left
  · exact tkl_
  rintro _ -
  dsimp only [List.cons_append, List.nil_append]
  cases hh : hasB q l with
  | false =>
    refine go ?_
    refine Dn.ret2 rfl rfl rfl fun w hs => ⟨(), ?_, by trivial, by first | exact hs | (refine hs.conv ?_; exact ent_)⟩
    unfold leastB; rw [hh]; rfl
  | true =>
    obtain ⟨hq, hin⟩ := has_in hh
    refine go ?_
    with_reducible refine Ol.g ?_
    refine Ol.eff rfl rfl rfl (Eff.call (R := ?_) (order_first r lv (.func (.func 88) #[] #[.pointer (some ⟨c, 0, none⟩)]) l hll (cap1 c v rows q) (fun a b => rd (rd q a) b) ⟨_, _, _, rfl, inferInstance, fun p hp => order_Least1 c v rows q hl hq p.1 p.2 ⟨hin _ hp.1, hin _ hp.2⟩⟩) rfl ?_ ?_)
    rotate_left
    · exact tkl_
    rintro _ -
    dsimp only [List.cons_append, List.nil_append, optV]
    refine go ?_
    refine Dn.ret2 rfl rfl rfl fun w hs => ⟨(), ?_, by trivial, by first | exact hs | (refine hs.conv ?_; exact ent_)⟩
    unfold leastB; rw [hh]; rfl
-- FN confidant/order.Greatest
theorem order_Greatest (v : Value) (rows : List Value) (q : List (List Bool)) (hl : rows.length = q.length) (hm : q.length ≤ 140737488355328) (r : Bool) (lv : Value) (l : List Int) (hll : l.length ≤ 140737488355328) :
    Sp Try.prog 50 [v, lv] [rsl eVal v rows, rws true eBool rows q, slB r (eInt .i64) lv l] (fun _ : Unit => True) (fun _ => optV (greatestB q l)) (fun _ => [slB r (eInt .i64) lv l]) := by
  refine Sp.intro (n := 15) Try.func50 rfl rfl fun w0 R => ?_
  dsimp only [List.cons_append, List.nil_append, envOf]
  refine go ?_
  refine Ol.eff rfl rfl rfl (Eff.box fun c => ?_)
  refine go ?_
  with_reducible refine Ol.g ?_
  refine Ol.eff rfl rfl rfl (Eff.call (R := ?_) (order_has v rows q hl hm r lv l hll) rfl ?_ ?_)
  rotate_left
  · exact tkl_
  rintro _ -
  dsimp only [List.cons_append, List.nil_append]
  cases hh : hasB q l with
  | false =>
    refine go ?_
    refine Dn.ret2 rfl rfl rfl fun w hs => ⟨(), ?_, by trivial, by first | exact hs | (refine hs.conv ?_; exact ent_)⟩
    unfold greatestB; rw [hh]; rfl
  | true =>
    obtain ⟨hq, hin⟩ := has_in hh
    refine go ?_
    with_reducible refine Ol.g ?_
    refine Ol.eff rfl rfl rfl (Eff.call (R := ?_) (order_first r lv (.func (.func 91) #[] #[.pointer (some ⟨c, 0, none⟩)]) l hll (cap1 c v rows q) (fun a b => rd (rd q b) a) ⟨_, _, _, rfl, inferInstance, fun p hp => order_Greatest1 c v rows q hl hq p.1 p.2 ⟨hin _ hp.1, hin _ hp.2⟩⟩) rfl ?_ ?_)
    rotate_left
    · exact tkl_
    rintro _ -
    dsimp only [List.cons_append, List.nil_append, optV]
    refine go ?_
    refine Dn.ret2 rfl rfl rfl fun w hs => ⟨(), ?_, by trivial, by first | exact hs | (refine hs.conv ?_; exact ent_)⟩
    unfold greatestB; rw [hh]; rfl
/-- a table and two numbers, captured -/
abbrev cap3 (c d e : Nat) (v : Value) (a b : Int) (rows : List Value) (q : List (List Bool)) : HProp := stars [cel c leqT [v], cel d 3 [.int .i64 a], cel e 3 [.int .i64 b], rsl eVal v rows, rws true eBool rows q]
def upF (q : List (List Bool)) (a b c : Int) : Bool := rd (rd q a) c && rd (rd q b) c
def upperL (q : List (List Bool)) (a b : Int) : List Int := if hasB q [a, b] then thoseL q.length (upF q a b) else []
def downF (q : List (List Bool)) (a b c : Int) : Bool := rd (rd q c) a && rd (rd q c) b
def lowerL (q : List (List Bool)) (a b : Int) : List Int := if hasB q [a, b] then thoseL q.length (downF q a b) else []
-- FN confidant/order.Upper$1
theorem order_Upper1 (c d e : Nat) (v : Value) (a b : Int) (rows : List Value) (q : List (List Bool)) (hl : rows.length = q.length) (hq : sqB q = true) (hab : below q.length (a, b)) (x : Int) (h5 : 0 ≤ x ∧ x < q.length) :
    Sp Try.prog 90 [.int .i64 x, .pointer (some ⟨c, 0, none⟩), .pointer (some ⟨d, 0, none⟩), .pointer (some ⟨e, 0, none⟩)] [cap3 c d e v a b rows q] (fun _ : Unit => True) (fun _ => .bool (upF q a b x)) (fun _ => [cap3 c d e v a b rows q]) := by
  obtain ⟨⟨h1, h2⟩, h3, h4⟩ := hab
  simp only at h1 h2 h3 h4
  have ha := sq_row hq h1 h2
  have hb := sq_row hq h3 h4
  refine Sp.intro (n := 22) Try.func90 rfl rfl fun w0 R => ?_
  dsimp only [List.cons_append, List.nil_append, envOf]
  refine Cd.stars ?_
  dsimp only [List.cons_append, List.nil_append]
  refine go ?_
  cases hx : rd (rd q a) x with
  | false =>
    refine go ?_
    refine Dn.ret1 rfl rfl fun w hs => ⟨(), ?_, by trivial, by first | exact hs | (refine hs.conv ?_; exact ent_)⟩
    simp [upF, hx]
  | true =>
    refine go ?_
    refine Dn.ret1 rfl rfl fun w hs => ⟨(), ?_, by trivial, by first | exact hs | (refine hs.conv ?_; exact ent_)⟩
    simp [upF, hx]
-- FN confidant/order.Lower$1
theorem order_Lower1 (c d e : Nat) (v : Value) (a b : Int) (rows : List Value) (q : List (List Bool)) (hl : rows.length = q.length) (hq : sqB q = true) (hab : below q.length (a, b)) (x : Int) (h5 : 0 ≤ x ∧ x < q.length) :
    Sp Try.prog 92 [.int .i64 x, .pointer (some ⟨c, 0, none⟩), .pointer (some ⟨d, 0, none⟩), .pointer (some ⟨e, 0, none⟩)] [cap3 c d e v a b rows q] (fun _ : Unit => True) (fun _ => .bool (downF q a b x)) (fun _ => [cap3 c d e v a b rows q]) := by
  obtain ⟨⟨h1, h2⟩, h3, h4⟩ := hab
  simp only at h1 h2 h3 h4
  obtain ⟨h5, h6⟩ := h5
  have ha := sq_row hq h5 h6
  refine Sp.intro (n := 22) Try.func92 rfl rfl fun w0 R => ?_
  dsimp only [List.cons_append, List.nil_append, envOf]
  refine Cd.stars ?_
  dsimp only [List.cons_append, List.nil_append]
  refine go ?_
  refine Cd.forget 5 rfl ?_
  refine Cd.draw [[], [], [0, 1], [0, 1, 2], [], [0, 1, 2, 3, 4], [0, 1, 2, 3, 4, 5], [0, 1, 2, 3, 4, 5, 6], [0, 1, 2, 3, 4, 5, 6, 7], [0, 1, 2, 3, 4, 5, 6, 7], [0, 1, 2, 3, 4, 5, 6, 7, 8, 9], [0, 1, 2, 3, 4, 5, 6, 7, 8, 9, 10], [0, 1, 2, 3, 4, 5, 6, 7], [0, 1, 2, 3, 4, 5, 6, 7, 8, 9, 10, 11, 12], [0, 1, 2, 3, 4, 5, 6, 7, 8, 9, 10, 11, 12, 13], [0, 1, 2, 3, 4, 5, 6, 7, 8, 9, 10, 11, 12, 13, 14], [0, 1, 2, 3, 4, 5, 6, 7, 8, 9, 10, 11, 12, 13, 14, 15]] [] (td := [(0, true), (1, true), (2, true), (3, true), (4, true), (5, true), (6, true), (7, true), (8, true), (9, true), (10, true), (11, true), (12, true), (13, true), (14, true), (15, true), (16, true)]) mixed (by kernel_rfl) (by decide) (by decide) (by kernel_rfl) ?_
  refine god ?_
  cases hx : rd (rd q x) a with
  | false =>
    refine god ?_
    refine go ?_
    refine Dn.ret1 rfl rfl fun w hs => ⟨(), ?_, by trivial, by first | exact hs | (refine hs.conv ?_; exact ent_)⟩
    simp [downF, hx]
  | true =>
    refine god ?_
    refine go ?_
    refine Dn.ret1 rfl rfl fun w hs => ⟨(), ?_, by trivial, by first | exact hs | (refine hs.conv ?_; exact ent_)⟩
    simp [downF, hx]
-- FN confidant/order.Upper
theorem order_Upper (v : Value) (rows : List Value) (q : List (List Bool)) (hl : rows.length = q.length) (hm : q.length ≤ 140737488355328) (a b : Int) :
    Sp Try.prog 49 [v, .int .i64 a, .int .i64 b] [rsl eVal v rows, rws true eBool rows q] (fun _ : Value => True) (fun x => x) (fun x => [sl (eInt .i64) x (upperL q a b)]) := by
  refine Sp.intro (n := 16) Try.func49 rfl rfl fun w0 R => ?_
  dsimp only [List.cons_append, List.nil_append, envOf]
  refine go ?_
  refine Ol.eff rfl rfl rfl (Eff.box fun c => ?_)
  refine Ol.eff rfl rfl rfl (Eff.box fun d => ?_)
  refine Ol.eff rfl rfl rfl (Eff.box fun e => ?_)
  refine go ?_
  refine Ol.eff rfl rfl rfl (Eff.bslice rfl rfl fun lv => ?_)
  refine go ?_
  with_reducible refine Ol.g ?_
  refine Ol.eff rfl rfl rfl (Eff.call (R := ?_) (order_has v rows q hl hm false lv [a, b] (by simp)) rfl ?_ ?_)
  rotate_left
  · exact tkl_
  rintro _ -
  dsimp only [List.cons_append, List.nil_append]
  cases hh : hasB q [a, b] with
  | false =>
    refine go ?_
    rw [show upperL q a b = [] from by unfold upperL; rw [hh]; rfl]
    refine Dn.ret1 rfl rfl fun w hs => ⟨(.slice none 0 0), ?_, by trivial, by first | exact hs | (refine hs.conv ?_; exact ent_)⟩
    rfl
  | true =>
    obtain ⟨hq, hin⟩ := has_in hh
    have hle := sq_le hq
    refine go ?_
    with_reducible refine Ol.g ?_
    refine Ol.eff rfl rfl rfl (Eff.call (R := ?_) (order_those v (.func (.func 90) #[] #[.pointer (some ⟨c, 0, none⟩), .pointer (some ⟨d, 0, none⟩), .pointer (some ⟨e, 0, none⟩)]) rows q hl (by omega) (cap3 c d e v a b rows q) (upF q a b) ⟨_, _, _, rfl, inferInstance, fun x hx => order_Upper1 c d e v a b rows q hl hq ⟨hin a (by simp), hin b (by simp)⟩ x hx⟩) rfl ?_ ?_)
    rotate_left
    · exact tkl_
    rintro x -
    dsimp only [List.cons_append, List.nil_append]
    refine go ?_
    rw [show upperL q a b = _ from by unfold upperL; rw [if_pos hh]]
    refine Dn.ret1 rfl rfl fun w hs => ⟨x, ?_, by trivial, by first | exact hs | (refine hs.conv ?_; exact ent_)⟩
    rfl
-- FN confidant/order.Lower
theorem order_Lower (v : Value) (rows : List Value) (q : List (List Bool)) (hl : rows.length = q.length) (hm : q.length ≤ 140737488355328) (a b : Int) :
    Sp Try.prog 51 [v, .int .i64 a, .int .i64 b] [rsl eVal v rows, rws true eBool rows q] (fun _ : Value => True) (fun x => x) (fun x => [sl (eInt .i64) x (lowerL q a b)]) := by
  refine Sp.intro (n := 16) Try.func51 rfl rfl fun w0 R => ?_
  dsimp only [List.cons_append, List.nil_append, envOf]
  refine go ?_
  refine Ol.eff rfl rfl rfl (Eff.box fun c => ?_)
  refine Ol.eff rfl rfl rfl (Eff.box fun d => ?_)
  refine Ol.eff rfl rfl rfl (Eff.box fun e => ?_)
  refine go ?_
  refine Ol.eff rfl rfl rfl (Eff.bslice rfl rfl fun lv => ?_)
  refine go ?_
  with_reducible refine Ol.g ?_
  refine Ol.eff rfl rfl rfl (Eff.call (R := ?_) (order_has v rows q hl hm false lv [a, b] (by simp)) rfl ?_ ?_)
  rotate_left
  · exact tkl_
  rintro _ -
  dsimp only [List.cons_append, List.nil_append]
  cases hh : hasB q [a, b] with
  | false =>
    refine go ?_
    rw [show lowerL q a b = [] from by unfold lowerL; rw [hh]; rfl]
    refine Dn.ret1 rfl rfl fun w hs => ⟨(.slice none 0 0), ?_, by trivial, by first | exact hs | (refine hs.conv ?_; exact ent_)⟩
    rfl
  | true =>
    obtain ⟨hq, hin⟩ := has_in hh
    have hle := sq_le hq
    refine go ?_
    with_reducible refine Ol.g ?_
    refine Ol.eff rfl rfl rfl (Eff.call (R := ?_) (order_those v (.func (.func 92) #[] #[.pointer (some ⟨c, 0, none⟩), .pointer (some ⟨d, 0, none⟩), .pointer (some ⟨e, 0, none⟩)]) rows q hl (by omega) (cap3 c d e v a b rows q) (downF q a b) ⟨_, _, _, rfl, inferInstance, fun x hx => order_Lower1 c d e v a b rows q hl hq ⟨hin a (by simp), hin b (by simp)⟩ x hx⟩) rfl ?_ ?_)
    rotate_left
    · exact tkl_
    rintro x -
    dsimp only [List.cons_append, List.nil_append]
    refine go ?_
    rw [show lowerL q a b = _ from by unfold lowerL; rw [if_pos hh]]
    refine Dn.ret1 rfl rfl fun w hs => ⟨x, ?_, by trivial, by first | exact hs | (refine hs.conv ?_; exact ent_)⟩
    rfl
end Go.Proofs.Ytcgjmlapmdbnmaa

