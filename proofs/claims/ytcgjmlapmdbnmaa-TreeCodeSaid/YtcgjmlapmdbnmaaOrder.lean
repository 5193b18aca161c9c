/- Contracts of functions of the program, proved in a small separation logic. Conditions: those that each theorem states. -/
import Derived.Test.YtcgjmlapmdbnmaaTy
namespace Go.Proofs.Ytcgjmlapmdbnmaa
open Go Go.Sl
set_option maxHeartbeats 4000000
set_option maxRecDepth 100000
set_option linter.unusedVariables false
/-! order -/
def sqB (q : List (List Bool)) : Bool := q.all (fun row => row.length == q.length) && (decide (1 ≤ q.length) && decide (q.length ≤ 16))
-- FN confidant/order.Square
theorem order_Square (v : Value) (rows : List Value) (q : List (List Bool)) (hl : rows.length = q.length) (hm : q.length ≤ 140737488355328) :
    Sp Try.prog 44 [v] [rsl eVal v rows, rws true eBool rows q] (fun _ : Unit => True) (fun _ => .bool (sqB q)) (fun _ => []) := by
  refine Sp.intro (n := 25) Try.func44 rfl rfl fun w0 R => ?_
  dsimp only [List.cons_append, List.nil_append, envOf]
  refine go ?_
  refine Cd.loop (fun k : Nat => k ≤ q.length ∧ (q.take k).all (fun row => row.length == q.length) = true) (fun k => q.length - k) (fun k => [(0, v), (5, v), (6, .int .i64 rows.length), (7, .int .i64 k)]) (fun _ => _) 0 ⟨by omega, by simp⟩ ?_ (ents.refl _) fun k ⟨hk, hq⟩ => ?_
  · repeat(first|exact Env.le_nil _|(refine Env.le_cons rfl ?_ ?_;first|rfl|(simp;done)|exact congrArg _ (by omega)|rotate_left))
  refine go ?_
  refine Cd.condP rfl (fun h => ?_) (fun h => ?_)
  · refine go ?_
    have hk' : k < q.length := by omega
    refine Cd.condP rfl (fun h2 => ?_) (fun h2 => ?_)
    · refine go ?_
      refine Dn.ret1 rfl rfl fun w hs => ⟨(), ?_, by trivial, by first | exact hs | (refine hs.conv ?_; exact ent_)⟩
      have : sqB q = false := by
        unfold sqB
        rw [Bool.and_eq_false_iff]; left
        rw [List.all_eq_false]
        refine ⟨q[k], List.getElem_mem hk', ?_⟩
        rw [rd_eq (by simpa using hk')] at h2
        simp at h2 ⊢; omega
      rw [this]
    · refine go ?_
      refine Dn.round (k + 1) ⟨by omega, ?_⟩ ?_ ?_ (ents.refl _)
      · rw [List.take_succ_eq_append_getElem hk', List.all_append, hq]
        rw [rd_eq (by simpa using hk')] at h2
        simp at h2 ⊢; omega
      · omega
      · repeat(first|exact Env.le_nil _|(refine Env.le_cons rfl ?_ ?_;first|rfl|(simp;done)|exact congrArg _ (by omega)|rotate_left))
  · refine go ?_
    have hkl : k = q.length := by omega
    rw [hkl, List.take_length] at hq
    have e : sqB q = (decide (1 ≤ q.length) && decide (q.length ≤ 16)) := by unfold sqB; rw [hq]; rfl
    by_cases h1 : 1 ≤ (rows.length : Int)
    · rw [decide_eq_true h1]
      refine go ?_
      refine Dn.ret1 rfl rfl fun w hs => ⟨(), ?_, by trivial, by first | exact hs | (refine hs.conv ?_; exact ent_)⟩
      rw [e]; apply congrArg Value.bool; rw [Bool.eq_iff_iff]; simp; omega
    · rw [decide_eq_false h1]
      refine go ?_
      refine Dn.ret1 rfl rfl fun w hs => ⟨(), ?_, by trivial, by first | exact hs | (refine hs.conv ?_; exact ent_)⟩
      rw [e]; apply congrArg Value.bool; rw [Bool.eq_iff_iff]; simp; omega
theorem sq_row {q : List (List Bool)} (h : sqB q = true) {a : Int} (h0 : 0 ≤ a) (h1 : a < q.length) : (rd q a).length = q.length := by
  unfold sqB at h
  rw [Bool.and_eq_true, List.all_eq_true] at h
  simpa using h.1 _ (rd_mem h0 h1)
theorem sq_le {q : List (List Bool)} (h : sqB q = true) : 1 ≤ q.length ∧ q.length ≤ 16 := by
  unfold sqB at h; simp at h; omega
abbrev leqT := 26
/-- A table that is read. -/
abbrev rtab (v : Value) (rows : List Value) (q : List (List Bool)) : List HProp := [rsl eVal v rows, rws true eBool rows q]
def allB (q : List (List Bool)) (F : Int → Int → Bool) : Bool := sqB q && (ints q.length).all fun a => (ints q.length).all fun b => F a b
def pairV (p : Int × Int) : List Value := [.int .i64 p.1, .int .i64 p.2]
def below (n : Nat) (p : Int × Int) : Prop := (0 ≤ p.1 ∧ p.1 < n) ∧ 0 ≤ p.2 ∧ p.2 < n
-- FN confidant/order.all
theorem order_all (v fv : Value) (rows : List Value) (q : List (List Bool)) (hl : rows.length = q.length) (hm : q.length ≤ 140737488355328) (A : HProp) (F : Int → Int → Bool)
    (hF : sqB q = true → FnV (P := Try.prog) fv A pairV (below q.length) (fun p => .bool (F p.1 p.2))) :
    Sp Try.prog 82 [v, fv] [A, rsl eVal v rows, rws true eBool rows q] (fun _ : Unit => True) (fun _ => .bool (allB q F)) (fun _ => [A]) := by
  refine Sp.intro (n := 27) Try.func82 rfl rfl fun w0 R => ?_
  dsimp only [List.cons_append, List.nil_append, envOf]
  refine go ?_
  with_reducible refine Ol.g ?_
  refine Ol.eff rfl rfl rfl (Eff.call (R := ?_) (order_Square v rows q hl hm) rfl ?_ ?_)
  rotate_left
  · exact tkl_
  rintro _ -
  dsimp only [List.cons_append, List.nil_append]
  cases hq : sqB q with
  | false =>
    refine go ?_
    refine Dn.ret1 rfl rfl fun w hs => ⟨(), ?_, by trivial, by first | exact hs | (refine hs.conv ?_; exact ent_)⟩
    unfold allB; rw [hq]; rfl
  | true =>
    have hF := hF hq
    have hle := sq_le hq
    refine go ?_
    refine Cd.loop (fun k : Nat => k ≤ q.length ∧ (ints k).all (fun a => (ints q.length).all fun b => F a b) = true) (fun k => q.length - k) (fun k => [(0, v), (1, fv), (11, .int .i64 rows.length), (12, .int .i64 k)]) (fun _ => _) 0 ⟨by omega, by simp [ints]⟩ ?_ (ents.refl _) fun k ⟨hk, ha⟩ => ?_
    · repeat(first|exact Env.le_nil _|(refine Env.le_cons rfl ?_ ?_;first|rfl|(simp;done)|exact congrArg _ (by omega)|rotate_left))
    refine go ?_
    refine Cd.condP rfl (fun h => ?_) (fun h => ?_)
    · refine go ?_
      refine Cd.loop (fun j : Nat => j ≤ q.length ∧ (ints j).all (fun b => F k b) = true) (fun j => q.length - j) (fun j => [(0, v), (1, fv), (11, .int .i64 rows.length), (12, .int .i64 k), (5, .int .i64 k), (16, .int .i64 rows.length), (17, .int .i64 j)]) (fun _ => _) 0 ⟨by omega, by simp [ints]⟩ ?_ (ents.refl _) fun j ⟨hj, hb⟩ => ?_
      · repeat(first|exact Env.le_nil _|(refine Env.le_cons rfl ?_ ?_;first|rfl|(simp;done)|exact congrArg _ (by omega)|rotate_left))
      refine go ?_
      refine Cd.condP rfl (fun h2 => ?_) (fun h2 => ?_)
      · refine go ?_
        with_reducible refine Ol.g ?_
        refine Ol.eff rfl rfl rfl (Eff.callV (R := ?_) hF ((k : Int), (j : Int)) ⟨⟨by omega, by omega⟩, by omega, by omega⟩ rfl ?_ ?_)
        rotate_left
        · exact tkl_
        cases hf : F k j with
        | false =>
          refine go ?_
          refine Dn.ret1 rfl rfl fun w hs => ⟨(), ?_, by trivial, by first | exact hs | (refine hs.conv ?_; exact ent_)⟩
          apply congrArg Value.bool
          unfold allB
          rw [hq, Bool.true_and, List.all_eq_false.2 ⟨(k : Int), ints_mem.2 ⟨by omega, by omega⟩, ?_⟩]
          rw [List.all_eq_false.2 ⟨(j : Int), ints_mem.2 ⟨by omega, by omega⟩, ?_⟩]
          · simp
          · simp [hf]
        | true =>
          refine go ?_
          refine Dn.round (j + 1) ⟨by omega, ?_⟩ ?_ ?_ (ents.refl _)
          · rw [ints_succ, List.all_append, hb]; simp [hf]
          · omega
          · repeat(first|exact Env.le_nil _|(refine Env.le_cons rfl ?_ ?_;first|rfl|(simp;done)|exact congrArg _ (by omega)|rotate_left))
      · refine go ?_
        have hjl : j = q.length := by omega
        subst hjl
        refine Dn.round (k + 1) ⟨by omega, ?_⟩ ?_ ?_ (ents.refl _)
        · rw [ints_succ, List.all_append, ha]; simp [hb]
        · omega
        · repeat(first|exact Env.le_nil _|(refine Env.le_cons rfl ?_ ?_;first|rfl|(simp;done)|exact congrArg _ (by omega)|rotate_left))
    · refine go ?_
      have hkl : k = q.length := by omega
      subst hkl
      refine Dn.ret1 rfl rfl fun w hs => ⟨(), ?_, by trivial, by first | exact hs | (refine hs.conv ?_; exact ent_)⟩
      unfold allB; rw [hq, ha]; rfl
/-- What a function literal over a table has captured. -/
abbrev cap1 (c : Nat) (v : Value) (rows : List Value) (q : List (List Bool)) : HProp := stars [cel c leqT [v], rsl eVal v rows, rws true eBool rows q]
-- FN confidant/order.Reflexive$1
theorem order_Reflexive1 (c : Nat) (v : Value) (rows : List Value) (q : List (List Bool)) (hl : rows.length = q.length) (hq : sqB q = true) (a b : Int) (hab : below q.length (a, b)) :
    Sp Try.prog 83 [.int .i64 a, .int .i64 b, .pointer (some ⟨c, 0, none⟩)] [cap1 c v rows q] (fun _ : Unit => True) (fun _ => .bool (rd (rd q a) a)) (fun _ => [cap1 c v rows q]) := by
  obtain ⟨⟨h1, h2⟩, h3, h4⟩ := hab
  simp only at h1 h2 h3 h4
  have ha := sq_row hq h1 h2
  refine Sp.intro (n := 13) Try.func83 rfl rfl fun w0 R => ?_
  dsimp only [List.cons_append, List.nil_append, envOf]
  refine Cd.stars ?_
  dsimp only [List.cons_append, List.nil_append]
  refine go ?_
  refine Dn.ret1 rfl rfl fun w hs => ⟨(), ?_, by trivial, by first | exact hs | (refine hs.conv ?_; exact ent_)⟩
  rfl
-- FN confidant/order.Reflexive
theorem order_Reflexive (v : Value) (rows : List Value) (q : List (List Bool)) (hl : rows.length = q.length) (hm : q.length ≤ 140737488355328) :
    Sp Try.prog 45 [v] [rsl eVal v rows, rws true eBool rows q] (fun _ : Unit => True) (fun _ => .bool (allB q fun a _ => rd (rd q a) a)) (fun _ => []) := by
  refine Sp.intro (n := 6) Try.func45 rfl rfl fun w0 R => ?_
  dsimp only [List.cons_append, List.nil_append, envOf]
  refine go ?_
  refine Ol.eff rfl rfl rfl (Eff.box fun c => ?_)
  refine go ?_
  with_reducible refine Ol.g ?_
  refine Ol.eff rfl rfl rfl (Eff.call (R := ?_) (order_all v (.func (.func 83) #[] #[.pointer (some ⟨c, 0, none⟩)]) rows q hl hm (cap1 c v rows q) (fun a _ => rd (rd q a) a) (fun hq => ⟨_, _, _, rfl, inferInstance, fun p hp => order_Reflexive1 c v rows q hl hq p.1 p.2 hp⟩)) rfl ?_ ?_)
  rotate_left
  · exact tkl_
  rintro _ -
  dsimp only [List.cons_append, List.nil_append]
  refine go ?_
  refine Dn.ret1 rfl rfl fun w hs => ⟨(), ?_, by trivial, by first | exact hs | (refine hs.conv ?_; exact ent_)⟩
  rfl
def antiF (q : List (List Bool)) (a b : Int) : Bool := decide (a = b) || (!(rd (rd q a) b) || !(rd (rd q b) a))
-- FN confidant/order.Antisymmetric$1
theorem order_Antisymmetric1 (c : Nat) (v : Value) (rows : List Value) (q : List (List Bool)) (hl : rows.length = q.length) (hq : sqB q = true) (a b : Int) (hab : below q.length (a, b)) :
    Sp Try.prog 84 [.int .i64 a, .int .i64 b, .pointer (some ⟨c, 0, none⟩)] [cap1 c v rows q] (fun _ : Unit => True) (fun _ => .bool (antiF q a b)) (fun _ => [cap1 c v rows q]) := by
  obtain ⟨⟨h1, h2⟩, h3, h4⟩ := hab
  simp only at h1 h2 h3 h4
  have ha := sq_row hq h1 h2
  have hb := sq_row hq h3 h4
  refine Sp.intro (n := 29) Try.func84 rfl rfl fun w0 R => ?_
  dsimp only [List.cons_append, List.nil_append, envOf]
  refine Cd.stars ?_
  dsimp only [List.cons_append, List.nil_append]
  refine go ?_
  by_cases hab : a = b
  · rw [decide_eq_true hab]
    refine go ?_
    refine Dn.ret1 rfl rfl fun w hs => ⟨(), ?_, by trivial, by first | exact hs | (refine hs.conv ?_; exact ent_)⟩
    simp [antiF, hab]
  · rw [decide_eq_false hab]
    refine go ?_
    cases hx : rd (rd q a) b with
    | false =>
      refine go ?_
      refine Dn.ret1 rfl rfl fun w hs => ⟨(), ?_, by trivial, by first | exact hs | (refine hs.conv ?_; exact ent_)⟩
      simp [antiF, hab, hx]
    | true =>
      refine go ?_
      refine Dn.ret1 rfl rfl fun w hs => ⟨(), ?_, by trivial, by first | exact hs | (refine hs.conv ?_; exact ent_)⟩
      simp [antiF, hab, hx]
-- FN confidant/order.Antisymmetric
theorem order_Antisymmetric (v : Value) (rows : List Value) (q : List (List Bool)) (hl : rows.length = q.length) (hm : q.length ≤ 140737488355328) :
    Sp Try.prog 46 [v] [rsl eVal v rows, rws true eBool rows q] (fun _ : Unit => True) (fun _ => .bool (allB q (antiF q))) (fun _ => []) := by
  refine Sp.intro (n := 6) Try.func46 rfl rfl fun w0 R => ?_
  dsimp only [List.cons_append, List.nil_append, envOf]
  refine go ?_
  refine Ol.eff rfl rfl rfl (Eff.box fun c => ?_)
  refine go ?_
  with_reducible refine Ol.g ?_
  refine Ol.eff rfl rfl rfl (Eff.call (R := ?_) (order_all v (.func (.func 84) #[] #[.pointer (some ⟨c, 0, none⟩)]) rows q hl hm (cap1 c v rows q) (antiF q) (fun hq => ⟨_, _, _, rfl, inferInstance, fun p hp => order_Antisymmetric1 c v rows q hl hq p.1 p.2 hp⟩)) rfl ?_ ?_)
  rotate_left
  · exact tkl_
  rintro _ -
  dsimp only [List.cons_append, List.nil_append]
  refine go ?_
  refine Dn.ret1 rfl rfl fun w hs => ⟨(), ?_, by trivial, by first | exact hs | (refine hs.conv ?_; exact ent_)⟩
  rfl
def transOne (q : List (List Bool)) (a b c : Int) : Bool := !(rd (rd q a) b && rd (rd q b) c) || rd (rd q a) c
def transF (q : List (List Bool)) (a b : Int) : Bool := (ints q.length).all (transOne q a b)
-- FN confidant/order.Transitive$1
theorem order_Transitive1 (c : Nat) (v : Value) (rows : List Value) (q : List (List Bool)) (hl : rows.length = q.length) (hm : q.length ≤ 140737488355328) (hq : sqB q = true) (a b : Int) (hab : below q.length (a, b)) :
    Sp Try.prog 85 [.int .i64 a, .int .i64 b, .pointer (some ⟨c, 0, none⟩)] [cap1 c v rows q] (fun _ : Unit => True) (fun _ => .bool (transF q a b)) (fun _ => [cap1 c v rows q]) := by
  obtain ⟨⟨h1, h2⟩, h3, h4⟩ := hab
  simp only at h1 h2 h3 h4
  have ha := sq_row hq h1 h2
  have hb := sq_row hq h3 h4
  refine Sp.intro (n := 39) Try.func85 rfl rfl fun w0 R => ?_
  dsimp only [List.cons_append, List.nil_append, envOf]
  refine Cd.stars ?_
  dsimp only [List.cons_append, List.nil_append]
  refine go ?_
  refine Cd.loop (fun k : Nat => k ≤ q.length ∧ (ints k).all (transOne q a b) = true) (fun k => q.length - k) (fun k => [(0, .int .i64 a), (1, .int .i64 b), (2, .pointer (some ⟨c, 0, none⟩)), (8, .int .i64 rows.length), (9, .int .i64 k)]) (fun _ => _) 0 ⟨by omega, by simp [ints]⟩ ?_ (ents.refl _) fun k ⟨hk, hall⟩ => ?_
  · repeat(first|exact Env.le_nil _|(refine Env.le_cons rfl ?_ ?_;first|rfl|(simp;done)|exact congrArg _ (by omega)|rotate_left))
  refine go ?_
  refine Cd.condP rfl (fun h => ?_) (fun h => ?_)
  · refine go ?_
    cases hx : rd (rd q a) b with
    | false =>
      refine go ?_
      refine Dn.round (k + 1) ⟨by omega, ?_⟩ ?_ ?_ (ents.refl _)
      · rw [ints_succ, List.all_append, hall]; simp [transOne, hx]
      · omega
      · repeat(first|exact Env.le_nil _|(refine Env.le_cons rfl ?_ ?_;first|rfl|(simp;done)|exact congrArg _ (by omega)|rotate_left))
    | true =>
      refine go ?_
      cases hy : rd (rd q b) k with
      | false =>
        refine go ?_
        refine Dn.round (k + 1) ⟨by omega, ?_⟩ ?_ ?_ (ents.refl _)
        · rw [ints_succ, List.all_append, hall]; simp [transOne, hy]
        · omega
        · repeat(first|exact Env.le_nil _|(refine Env.le_cons rfl ?_ ?_;first|rfl|(simp;done)|exact congrArg _ (by omega)|rotate_left))
      | true =>
        refine go ?_
        cases hz : rd (rd q a) k with
        | false =>
          refine go ?_
          refine Dn.ret1 rfl rfl fun w hs => ⟨(), ?_, by trivial, by first | exact hs | (refine hs.conv ?_; exact ent_)⟩
          apply congrArg Value.bool
          unfold transF
          exact (List.all_eq_false.2 ⟨(k : Int), ints_mem.2 ⟨by omega, by omega⟩, by simp [transOne, hx, hy, hz]⟩).symm
        | true =>
          refine go ?_
          refine Dn.round (k + 1) ⟨by omega, ?_⟩ ?_ ?_ (ents.refl _)
          · rw [ints_succ, List.all_append, hall]; simp [transOne, hz]
          · omega
          · repeat(first|exact Env.le_nil _|(refine Env.le_cons rfl ?_ ?_;first|rfl|(simp;done)|exact congrArg _ (by omega)|rotate_left))
  · refine go ?_
    have hkl : k = q.length := by omega
    subst hkl
    refine Dn.ret1 rfl rfl fun w hs => ⟨(), ?_, by trivial, by first | exact hs | (refine hs.conv ?_; exact ent_)⟩
    unfold transF; rw [hall]
-- FN confidant/order.Transitive
theorem order_Transitive (v : Value) (rows : List Value) (q : List (List Bool)) (hl : rows.length = q.length) (hm : q.length ≤ 140737488355328) :
    Sp Try.prog 47 [v] [rsl eVal v rows, rws true eBool rows q] (fun _ : Unit => True) (fun _ => .bool (allB q (transF q))) (fun _ => []) := by
  refine Sp.intro (n := 6) Try.func47 rfl rfl fun w0 R => ?_
  dsimp only [List.cons_append, List.nil_append, envOf]
  refine go ?_
  refine Ol.eff rfl rfl rfl (Eff.box fun c => ?_)
  refine go ?_
  with_reducible refine Ol.g ?_
  refine Ol.eff rfl rfl rfl (Eff.call (R := ?_) (order_all v (.func (.func 85) #[] #[.pointer (some ⟨c, 0, none⟩)]) rows q hl hm (cap1 c v rows q) (transF q) (fun hq => ⟨_, _, _, rfl, inferInstance, fun p hp => order_Transitive1 c v rows q hl hm hq p.1 p.2 hp⟩)) rfl ?_ ?_)
  rotate_left
  · exact tkl_
  rintro _ -
  dsimp only [List.cons_append, List.nil_append]
  refine go ?_
  refine Dn.ret1 rfl rfl fun w hs => ⟨(), ?_, by trivial, by first | exact hs | (refine hs.conv ?_; exact ent_)⟩
  rfl
def hasB (q : List (List Bool)) (l : List Int) : Bool := l.all (fun a => decide (0 ≤ a ∧ a < (q.length : Int))) && sqB q
-- FN confidant/order.has
theorem order_has (v : Value) (rows : List Value) (q : List (List Bool)) (hl : rows.length = q.length) (hm : q.length ≤ 140737488355328) (r : Bool) (lv : Value) (l : List Int) (hll : l.length ≤ 140737488355328) :
    Sp Try.prog 86 [v, lv] [rsl eVal v rows, rws true eBool rows q, slB r (eInt .i64) lv l] (fun _ : Unit => True) (fun _ => .bool (hasB q l)) (fun _ => [slB r (eInt .i64) lv l]) := by
  refine Sp.intro (n := 24) Try.func86 rfl rfl fun w0 R => ?_
  dsimp only [List.cons_append, List.nil_append, envOf]
  refine go ?_
  refine Cd.loop (fun k : Nat => k ≤ l.length ∧ (l.take k).all (fun a => decide (0 ≤ a ∧ a < (q.length : Int))) = true) (fun k => l.length - k) (fun k => [(0, v), (7, lv), (8, .int .i64 l.length), (9, .int .i64 k)]) (fun _ => _) 0 ⟨by omega, by simp⟩ ?_ (ents.refl _) fun k ⟨hk, hall⟩ => ?_
  · repeat(first|exact Env.le_nil _|(refine Env.le_cons rfl ?_ ?_;first|rfl|(simp;done)|exact congrArg _ (by omega)|rotate_left))
  refine go ?_
  refine Cd.condP rfl (fun h => ?_) (fun h => ?_)
  · refine go ?_
    have hkl : k < l.length := by omega
    have hno : ∀ (x : Int), x = rd l k → ¬ (0 ≤ x ∧ x < (q.length : Int)) → hasB q l = false := fun x hx hn => by
      unfold hasB
      rw [List.all_eq_false.2 ⟨rd l k, rd_mem (by omega) (by omega), by rw [← hx]; simpa using hn⟩]; rfl
    by_cases h1 : rd l k < 0
    · rw [decide_eq_true h1]
      refine go ?_
      refine Dn.ret1 rfl rfl fun w hs => ⟨(), ?_, by trivial, by first | exact hs | (refine hs.conv ?_; exact ent_)⟩
      rw [hno _ rfl (by omega)]
    · rw [decide_eq_false h1]
      refine go ?_
      refine Cd.condP rfl (fun h2 => ?_) (fun h2 => ?_)
      · refine go ?_
        refine Dn.ret1 rfl rfl fun w hs => ⟨(), ?_, by trivial, by first | exact hs | (refine hs.conv ?_; exact ent_)⟩
        rw [hno _ rfl (by omega)]
      · refine go ?_
        refine Dn.round (k + 1) ⟨by omega, ?_⟩ ?_ ?_ (ents.refl _)
        · rw [take_rd hkl, List.all_append, hall]; simp; omega
        · omega
        · repeat(first|exact Env.le_nil _|(refine Env.le_cons rfl ?_ ?_;first|rfl|(simp;done)|exact congrArg _ (by omega)|rotate_left))
  · refine go ?_
    have hkl : k = l.length := by omega
    rw [hkl, List.take_length] at hall
    with_reducible refine Ol.g ?_
    refine Ol.eff rfl rfl rfl (Eff.call (R := ?_) (order_Square v rows q hl hm) rfl ?_ ?_)
    rotate_left
    · exact tkl_
    rintro _ -
    dsimp only [List.cons_append, List.nil_append]
    refine go ?_
    refine Dn.ret1 rfl rfl fun w hs => ⟨(), ?_, by trivial, by first | exact hs | (refine hs.conv ?_; exact ent_)⟩
    unfold hasB; rw [hall]; rfl
def thoseL (n : Nat) (F : Int → Bool) : List Int := (ints n).filter F
theorem thoseL_length (n : Nat) (F : Int → Bool) : (thoseL n F).length ≤ n := by
  have := List.length_filter_le F (ints n); rw [ints_length] at this; exact this
theorem thoseL_succ (n : Nat) (F : Int → Bool) : thoseL (n + 1) F = thoseL n F ++ if F n then [(n : Int)] else [] := by
  unfold thoseL; rw [ints_succ, List.filter_append]; congr 1
  by_cases h : F n <;> simp [h]
-- FN confidant/order.those
theorem order_those (v fv : Value) (rows : List Value) (q : List (List Bool)) (hl : rows.length = q.length) (hm : q.length ≤ 1000000) (A : HProp) (F : Int → Bool)
    (hF : FnV (P := Try.prog) fv A (fun c : Int => [.int .i64 c]) (fun c => 0 ≤ c ∧ c < q.length) (fun c => .bool (F c))) :
    Sp Try.prog 89 [v, fv] [A, rsl eVal v rows, rws true eBool rows q] (fun _ : Value => True) (fun x => x) (fun x => [sl (eInt .i64) x (thoseL q.length F), A]) := by
  refine Sp.intro (n := 21) Try.func89 rfl rfl fun w0 R => ?_
  dsimp only [List.cons_append, List.nil_append, envOf]
  refine go ?_
  refine Cd.loop (fun p : Nat × Value => p.1 ≤ q.length) (fun p => q.length - p.1) (fun p => [(0, v), (1, fv), (8, .int .i64 rows.length), (9, .int .i64 p.1), (5, p.2)]) (fun p => sl (eInt .i64) p.2 (thoseL p.1 F) :: A :: rsl eVal v rows :: rws true eBool rows q :: R) (0, .slice none 0 0) (by simp) ?_ ?_ ?_
  · repeat(first|exact Env.le_nil _|(refine Env.le_cons rfl ?_ ?_;first|rfl|(simp;done)|exact congrArg _ (by omega)|rotate_left))
  · refine (went.of (sl_nil _ _)).trans (went.refl _)
  rintro ⟨k, out⟩ hk
  dsimp only at hk ⊢
  have hlen := thoseL_length k F
  refine go ?_
  refine Cd.condP rfl (fun h => ?_) (fun h => ?_)
  · refine go ?_
    with_reducible refine Ol.g ?_
    refine Ol.eff rfl rfl rfl (Eff.callV (R := ?_) hF (k : Int) ⟨by omega, by omega⟩ rfl ?_ ?_)
    rotate_left
    · exact tkl_
    cases hf : F k with
    | true =>
      refine go ?_;repeat((with_reducible refine Ol.g ?_);(first|refine Ol.eff rfl rfl rfl (Eff.alloc fun _=>?_)|refine Ol.eff rfl rfl rfl (Eff.box fun _=>?_)|refine Ol.eff0 rfl rfl (Eff.store rfl rfl ?_)|refine Ol.eff rfl rfl rfl (Eff.bslice rfl rfl fun _=>?_)|(refine Ol.eff0 rfl rfl (Eff.storeE rfl ?_ ?_);exact pre_)|(refine Ol.eff rfl rfl rfl (Eff.append1 rfl ?_ fun _=>?_);exact pre_));refine go ?_)
      rename_i out'
      refine Dn.round (k + 1, out') (by dsimp only; omega) (by dsimp only; omega) ?_ ?_
      · repeat(first|exact Env.le_nil _|(refine Env.le_cons rfl ?_ ?_;first|rfl|(simp;done)|exact congrArg _ (by omega)|rotate_left))
      · dsimp only
        rw [thoseL_succ, hf, if_pos rfl]
        exact ent_
    | false =>
      refine go ?_
      refine Dn.round (k + 1, out) (by dsimp only; omega) (by dsimp only; omega) ?_ ?_
      · repeat(first|exact Env.le_nil _|(refine Env.le_cons rfl ?_ ?_;first|rfl|(simp;done)|exact congrArg _ (by omega)|rotate_left))
      · dsimp only
        rw [thoseL_succ, hf]
        simp only [Bool.false_eq_true, if_false, List.append_nil]
        exact ent_
  · refine go ?_
    have hkl : k = q.length := by omega
    subst hkl
    refine Dn.ret1 rfl rfl fun w hs => ⟨_, ?_, by trivial, by first | exact hs | (refine hs.conv ?_; exact ent_)⟩
    rfl
end Go.Proofs.Ytcgjmlapmdbnmaa

