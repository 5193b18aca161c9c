/- Contracts of functions of the program, proved in a small separation logic. Conditions: those that each theorem states. -/
import Derived.Test.YtcgjmlapmdbnmaaRef2c
import Derived.Test.YtcgjmlapmdbnmaaGate8
namespace Go.Proofs.Ytcgjmlapmdbnmaa
open Go Go.Sl
set_option maxHeartbeats 4000000
set_option maxRecDepth 100000
set_option linter.unusedVariables false
def seatF5 (x y : Int) : Bool := if (1 ≤ x ∧ x < 4) ∧ 1 ≤ y ∧ y < 4 then decide (x = y) else leI x y
def seatR (r : Int) : List (List Bool) := if r = 0 then tabT 2 2 leI else if r = 1 then tabT 3 3 leI else if r = 4 then tabT 5 5 seatF5 else if r = 5 then tabT 8 8 andLe else tabT 4 4 andLe
theorem seat_ok0 : latOk (tabT 2 2 leI) = true := by decide +kernel
theorem seat_ok1 : latOk (tabT 3 3 leI) = true := by decide +kernel
theorem seat_ok4 : latOk (tabT 5 5 seatF5) = true := by decide +kernel
theorem seat_ok5 : latOk (tabT 8 8 andLe) = true := by decide +kernel
theorem seat_ok2 : latOk (tabT 4 4 andLe) = true := by decide +kernel
theorem seat_ok (r : Int) : latOk (seatR r) = true := by
  unfold seatR
  split
  · exact seat_ok0
  split
  · exact seat_ok1
  split
  · exact seat_ok4
  split
  · exact seat_ok5
  · exact seat_ok2
theorem tabT_congr {n : Nat} {F G : Int → Int → Bool} (h : ∀ x y : Int, 0 ≤ x → x < n → 0 ≤ y → y < n → F x y = G x y) : tabT n n F = tabT n n G := by
  unfold tabT rowT
  refine List.map_congr_left fun a ha => List.map_congr_left fun b hb => ?_
  rw [ints_mem] at ha hb
  exact h a b ha.1 ha.2 hb.1 hb.2
theorem map_ints_set {T : Type} {n : Nat} (f : Int → T) (a : Int) (v : T) (ha : 0 ≤ a ∧ a < n) : ((ints n).map f).set a.toNat v = (ints n).map fun x => if x = a then v else f x := by
  apply List.ext_getElem?
  intro i
  simp only [List.getElem?_set, List.getElem?_map, ints, List.length_map, List.length_range, List.getElem?_range]
  by_cases hi : a.toNat = i
  · subst hi
    rw [if_pos rfl, if_pos (by omega), List.getElem?_range (by omega)]
    simp; omega
  · rw [if_neg hi]
    by_cases hl : i < n
    · rw [List.getElem?_range hl]; simp; intro h; omega
    · rw [List.getElem?_eq_none (by simpa using hl)]; rfl
theorem tabT_set {n : Nat} (F : Int → Int → Bool) (a b : Int) (v : Bool) (ha : 0 ≤ a ∧ a < n) (hb : 0 ≤ b ∧ b < n) : (tabT n n F).set a.toNat ((rd (tabT n n F) a).set b.toNat v) = tabT n n (fun x y => if x = a ∧ y = b then v else F x y) := by
  have e : rd (tabT n n F) a = rowT n F a := by unfold tabT; rw [map_rd _ ha.1 (by rw [ints_length]; exact ha.2), ints_rd ha.1 ha.2]
  rw [e]
  unfold rowT
  rw [map_ints_set _ b v hb]
  unfold tabT
  rw [map_ints_set _ a _ ha]
  refine List.map_congr_left fun x hx => ?_
  by_cases hxa : x = a
  · subst hxa; simp [rowT]
  · simp [hxa, rowT]
theorem set_rd {T : Type} [Dfl T] (l : List T) (i : Int) (h : i.toNat < l.length) : l.set i.toNat (rd l i) = l := by
  rw [rd_eq h]; exact List.set_getElem_self h
def seatMix (a b x y : Int) : Bool := if ((1 ≤ x ∧ x < 4) ∧ 1 ≤ y ∧ y < 4) ∧ (x < a ∨ (x = a ∧ y < b)) then decide (x = y) else leI x y
-- FN confidant/confidantseat.Lattice
theorem seat_Lattice (k : Int) (hk : 0 ≤ k ∧ k ≤ 255) :
    Sp Try.prog 13 [.int .u8 k] [] (fun _ : Value × List Value => True) (fun x => x.1) (fun x => [sl eVal x.1 x.2, rws false eBool x.2 (seatR (k % 6))]) := by
  refine Sp.intro (n := 40) Try.func13 rfl rfl fun w0 R => ?_
  dsimp only [List.cons_append, List.nil_append, envOf]
  refine go ?_
  have hr : ∃ r, r = k % 6 := ⟨_, rfl⟩
  obtain ⟨r, hr⟩ := hr
  rw [← hr]
  have hr6 : 0 ≤ r ∧ r < 6 := by omega
  clear hr
  refine Cd.condP rfl (fun h0 => ?_) (fun h0 => ?_)
  · refine go ?_
    with_reducible refine Ol.g ?_
    refine Ol.eff rfl rfl rfl (Eff.call (R := ?_) (ref2_Chain 2 (by omega)) rfl ?_ ?_)
    rotate_left
    · exact tkl_
    rintro ⟨v, rows⟩ -
    dsimp only [List.cons_append, List.nil_append]
    refine go ?_
    refine Dn.ret1 rfl rfl fun w hs => ⟨(v, rows), rfl, trivial, ?_⟩
    rw [show seatR r = tabT 2 2 leI from by unfold seatR; rw [if_pos h0]]; exact hs
  refine go ?_
  refine Cd.condP rfl (fun h1 => ?_) (fun h1 => ?_)
  · refine go ?_
    with_reducible refine Ol.g ?_
    refine Ol.eff rfl rfl rfl (Eff.call (R := ?_) (ref2_Chain 3 (by omega)) rfl ?_ ?_)
    rotate_left
    · exact tkl_
    rintro ⟨v, rows⟩ -
    dsimp only [List.cons_append, List.nil_append]
    refine go ?_
    refine Dn.ret1 rfl rfl fun w hs => ⟨(v, rows), rfl, trivial, ?_⟩
    rw [show seatR r = tabT 3 3 leI from by unfold seatR; rw [if_neg h0, if_pos h1]]; exact hs
  refine go ?_
  refine Cd.cut (α := Unit) (fun _ => [(7, .int .u8 r), (14, .bool (decide (r = 2 ∨ r = 3)))]) (fun _ => R) (fun K kk => ?_) ?_
  · refine Cd.condP rfl (fun h2 => ?_) (fun h2 => ?_)
    · refine go ?_
      refine Dn.weak (H' := R) ?_ ?_ (kk ())
      · rw [show decide (r = 2 ∨ r = 3) = decide (r = 2) from decide_eq_decide.2 ⟨fun _ => h2, fun h => .inl h⟩]
        repeat(first|exact Env.le_nil _|(refine Env.le_cons rfl ?_ ?_;first|rfl|(simp;done)|exact congrArg _ (by omega)|rotate_left))
      · exact ent_
    · refine go ?_
      refine Dn.weak (H' := R) ?_ ?_ (kk ())
      · rw [show decide (r = 2 ∨ r = 3) = decide (r = 3) from decide_eq_decide.2 ⟨fun h => h.resolve_left h2, fun h => .inr h⟩]
        repeat(first|exact Env.le_nil _|(refine Env.le_cons rfl ?_ ?_;first|rfl|(simp;done)|exact congrArg _ (by omega)|rotate_left))
      · exact ent_
  rintro -
  refine go ?_
  refine Cd.condP rfl (fun h2 => ?_) (fun h2 => ?_)
  · refine go ?_
    with_reducible refine Ol.g ?_
    refine Ol.eff rfl rfl rfl (Eff.call (R := ?_) (ref2_Powers 2 4 (by omega) (by decide) (by omega)) rfl ?_ ?_)
    rotate_left
    · exact tkl_
    rintro ⟨v, rows⟩ -
    dsimp only [List.cons_append, List.nil_append]
    refine go ?_
    refine Dn.ret1 rfl rfl fun w hs => ⟨(v, rows), rfl, trivial, ?_⟩
    rw [show seatR r = tabT 4 4 andLe from by unfold seatR; rw [if_neg h0, if_neg h1, if_neg (by omega), if_neg (by omega)]]; exact hs
  refine go ?_
  refine Cd.condP rfl (fun h4 => ?_) (fun h4 => ?_)
  · refine go ?_
    with_reducible refine Ol.g ?_
    refine Ol.eff rfl rfl rfl (Eff.call (R := ?_) (ref2_Chain 5 (by omega)) rfl ?_ ?_)
    rotate_left
    · exact tkl_
    rintro ⟨v, rows⟩ -
    dsimp only [List.cons_append, List.nil_append]
    first | (with_reducible refine Cd.g ?_; refine Cd.know (fun w_ hw_ => rws_len (Tk.sat (A := (rws false eBool rows (tabT 5 5 leI))) (by exact tk_) hw_)) fun hrl => ?_) | (with_reducible refine Ol.g ?_; refine Ol.know (fun w_ hw_ => rws_len (Tk.sat (A := (rws false eBool rows (tabT 5 5 leI))) (by exact tk_) hw_)) fun hrl => ?_) | (with_reducible refine Dn.g ?_; refine Dn.know (fun w_ hw_ => rws_len (Tk.sat (A := (rws false eBool rows (tabT 5 5 leI))) (by exact tk_) hw_)) fun hrl => ?_)
    rw [tabT_length] at hrl
    refine go ?_
    refine Cd.loop (fun a : Nat => 1 ≤ a ∧ a ≤ 4) (fun a => 4 - a) (fun a => [(3, v), (4, .int .i64 a)]) (fun a => sl eVal v rows :: rws false eBool rows (tabT 5 5 (seatMix a 0)) :: R) 1 (by omega) ?_ ?_ ?_
    · repeat(first|exact Env.le_nil _|(refine Env.le_cons rfl ?_ ?_;first|rfl|(simp;done)|exact congrArg _ (by omega)|rotate_left))
    · rw [show tabT 5 5 (seatMix (1 : Nat) 0) = tabT 5 5 leI from tabT_congr fun x y h1 h2 h3 h4 => by unfold seatMix; rw [if_neg (by omega)]]
      exact ent_
    intro a ha
    refine go ?_
    refine Cd.condP rfl (fun h => ?_) (fun h => ?_)
    · refine go ?_
      refine Cd.loop (fun b : Nat => 1 ≤ b ∧ b ≤ 4) (fun b => 4 - b) (fun b => [(3, v), (4, .int .i64 a), (5, .int .i64 b)]) (fun b => sl eVal v rows :: rws false eBool rows (tabT 5 5 (seatMix a b)) :: R) 1 (by omega) ?_ ?_ ?_
      · repeat(first|exact Env.le_nil _|(refine Env.le_cons rfl ?_ ?_;first|rfl|(simp;done)|exact congrArg _ (by omega)|rotate_left))
      · rw [show tabT 5 5 (seatMix a (1 : Nat)) = tabT 5 5 (seatMix a 0) from tabT_congr fun x y h1 h2 h3 h4 => by
          unfold seatMix
          have : (((1 ≤ x ∧ x < 4) ∧ 1 ≤ y ∧ y < 4) ∧ (x < (a : Int) ∨ (x = a ∧ y < ((1 : Nat) : Int)))) ↔ (((1 ≤ x ∧ x < 4) ∧ 1 ≤ y ∧ y < 4) ∧ (x < (a : Int) ∨ (x = a ∧ y < 0))) := by omega
          simp only [this]]
        exact ent_
      intro b hb
      refine go ?_
      refine Cd.condP rfl (fun h2 => ?_) (fun h2 => ?_)
      · have hrow : (rd (tabT 5 5 (seatMix a b)) (a : Int)).length = 5 := by
          unfold tabT; rw [map_rd _ (by omega) (by rw [ints_length]; omega)]; exact rowT_length _ _ _
        refine go ?_
        refine Ol.row (r := false) (E := eBool) (rows := rows) (xss := tabT 5 5 (seatMix a b)) (a : Int) (by exact tk_) ⟨by omega, by rw [tabT_length]; omega⟩ ?_
        refine Ol.eff0 rfl rfl (Eff.storeE rfl ?_ ?_)
        · omega
        refine go ?_
        have hts := tabT_set (n := 5) (seatMix a b) (a : Int) (b : Int) (decide ((a : Int) = b)) (by omega) (by omega)
        have hnx : tabT 5 5 (seatMix a (b + 1 : Nat)) = (tabT 5 5 (seatMix a b)).set (a : Int).toNat ((rd (tabT 5 5 (seatMix a b)) (a : Int)).set (b : Int).toNat (decide ((a : Int) = b))) := by
          rw [hts]
          refine tabT_congr fun x y h1 h2 h3 h4 => ?_
          by_cases hxy : x = a ∧ y = b
          · obtain ⟨rfl, rfl⟩ := hxy
            rw [if_pos ⟨rfl, rfl⟩]; unfold seatMix; rw [if_pos (by omega)]
          · rw [if_neg hxy]; unfold seatMix
            have : (((1 ≤ x ∧ x < 4) ∧ 1 ≤ y ∧ y < 4) ∧ (x < (a : Int) ∨ (x = a ∧ y < ((b + 1 : Nat) : Int)))) ↔ (((1 ≤ x ∧ x < 4) ∧ 1 ≤ y ∧ y < 4) ∧ (x < (a : Int) ∨ (x = a ∧ y < (b : Int)))) := by omega
            simp only [this]
        refine Dn.round (b + 1) (by omega) (by omega) ?_ ?_
        · repeat(first|exact Env.le_nil _|(refine Env.le_cons rfl ?_ ?_;first|rfl|(simp;done)|exact congrArg _ (by omega)|rotate_left))
        · rw [hnx]
          have e : rows.set (a : Int).toNat (rd rows a) = rows := set_rd rows (a : Int) (by omega)
          refine ents.trans ?_ (show ents (sl eVal v rows :: rws false eBool (rows.set (a : Int).toNat (rd rows a)) ((tabT 5 5 (seatMix a b)).set (a : Int).toNat ((rd (tabT 5 5 (seatMix a b)) (a : Int)).set (b : Int).toNat (decide ((a : Int) = b)))) :: R) _ from by rw [e]; exact ents.refl _)
          exact ent_
      · refine go ?_
        refine Dn.round (a + 1) (by omega) (by omega) ?_ ?_
        · repeat(first|exact Env.le_nil _|(refine Env.le_cons rfl ?_ ?_;first|rfl|(simp;done)|exact congrArg _ (by omega)|rotate_left))
        · rw [show tabT 5 5 (seatMix (a + 1 : Nat) 0) = tabT 5 5 (seatMix a b) from tabT_congr fun x y h1 h2 h3 h4 => by
            unfold seatMix
            have : (((1 ≤ x ∧ x < 4) ∧ 1 ≤ y ∧ y < 4) ∧ (x < ((a + 1 : Nat) : Int) ∨ (x = ((a + 1 : Nat) : Int) ∧ y < 0))) ↔ (((1 ≤ x ∧ x < 4) ∧ 1 ≤ y ∧ y < 4) ∧ (x < (a : Int) ∨ (x = a ∧ y < (b : Int)))) := by omega
            simp only [this]]
          exact ent_
    · refine go ?_
      refine Dn.ret1 rfl rfl fun w hs => ⟨(v, rows), rfl, trivial, ?_⟩
      rw [show seatR r = tabT 5 5 (seatMix a 0) from by
        unfold seatR; rw [if_neg h0, if_neg h1, if_pos h4]
        refine tabT_congr fun x y h1 h2 h3 h4 => ?_
        unfold seatF5 seatMix
        have : (((1 ≤ x ∧ x < 4) ∧ 1 ≤ y ∧ y < 4) ∧ (x < (a : Int) ∨ (x = a ∧ y < 0))) ↔ ((1 ≤ x ∧ x < 4) ∧ 1 ≤ y ∧ y < 4) := by omega
        simp only [this]]
      exact hs
  refine go ?_
  with_reducible refine Ol.g ?_
  refine Ol.eff rfl rfl rfl (Eff.call (R := ?_) (ref2_Powers 3 8 (by omega) (by decide) (by omega)) rfl ?_ ?_)
  rotate_left
  · exact tkl_
  rintro ⟨v, rows⟩ -
  dsimp only [List.cons_append, List.nil_append]
  refine go ?_
  refine Dn.ret1 rfl rfl fun w hs => ⟨(v, rows), rfl, trivial, ?_⟩
  rw [show seatR r = tabT 8 8 andLe from by unfold seatR; rw [if_neg h0, if_neg h1, if_neg h4, if_pos (by omega)]]; exact hs
end Go.Proofs.Ytcgjmlapmdbnmaa

