/- Contracts of functions of the program, proved in a small separation logic. Conditions: those that each theorem states. -/
import Derived.Test.YtcgjmlapmdbnmaaLattice
namespace Go.Proofs.Ytcgjmlapmdbnmaa
open Go Go.Sl
set_option maxHeartbeats 8000000
set_option maxRecDepth 100000
set_option linter.unusedVariables false
def joinO (q : List (List Bool)) (a b : Int) : Option Int := leastB q (upperL q a b)
def meetO (q : List (List Bool)) (a b : Int) : Option Int := greatestB q (lowerL q a b)
def bothO (q : List (List Bool)) (a b : Int) : Bool := (joinO q a b).isSome && (meetO q a b).isSome
def ordOk (q : List (List Bool)) : Bool := sqB q && (allB q (fun a _ => rd (rd q a) a) && (allB q (antiF q) && allB q (transF q)))
def latOk (q : List (List Bool)) : Bool := ordOk q && (ints q.length).all fun a => (ints q.length).all fun b => bothO q a b
def leqI (q : List (List Bool)) (a b : Int) : Int := if rd (rd q a) b then 1 else 0
def joinI (q : List (List Bool)) (a b : Int) : Int := (joinO q a b).getD 0
def meetI (q : List (List Bool)) (a b : Int) : Int := (meetO q a b).getD 0
def rowsL (n k : Nat) (f : Int → Int → Int) : List (List Int) := (ints k).map fun a => (ints n).map fun b => f a b
theorem rowsL_succ (n k : Nat) (f : Int → Int → Int) : rowsL n (k + 1) f = rowsL n k f ++ [(ints n).map fun b => f k b] := by
  unfold rowsL; rw [ints_succ, List.map_append]; rfl
theorem rowsL_length (n k : Nat) (f : Int → Int → Int) : (rowsL n k f).length = k := by simp [rowsL, ints_length]
theorem ints_rd {n : Nat} {a : Int} (h0 : 0 ≤ a) (h : a < n) : rd (ints n) a = a := by
  rw [rd_eq (by rw [ints_length]; omega)]; simp [ints]; omega
theorem map_rd {T U : Type} [Dfl T] [Dfl U] (f : T → U) {l : List T} {a : Int} (h0 : 0 ≤ a) (h : a < l.length) : rd (l.map f) a = f (rd l a) := by
  rw [rd_eq (by rw [List.length_map]; omega), rd_eq (by omega)]; simp
theorem rowsL_rd {n k : Nat} {f : Int → Int → Int} {a : Int} (h0 : 0 ≤ a) (h : a < k) : rd (rowsL n k f) a = (ints n).map fun b => f a b := by
  unfold rowsL; rw [map_rd _ h0 (by rw [ints_length]; exact h), ints_rd h0 h]
theorem rowsL_sq (n : Nat) (f : Int → Int → Int) : sqI (rowsL n n f) := fun a h0 h => by
  rw [rowsL_length] at h ⊢; rw [rowsL_rd h0 h]; simp [ints_length]
def prow (n b : Nat) (g : Int → Int) : List Int := (ints b).map g ++ List.replicate (n - b) 0
theorem prow_length {n b : Nat} (g : Int → Int) (h : b ≤ n) : (prow n b g).length = n := by simp [prow, ints_length]; omega
theorem prow_zero (n : Nat) (g : Int → Int) : prow n 0 g = List.replicate n 0 := by simp [prow, ints]
theorem prow_full (n : Nat) (g : Int → Int) : prow n n g = (ints n).map g := by simp [prow]
theorem prow_set {n b : Nat} (g : Int → Int) (h : b < n) : (prow n b g).set b (g b) = prow n (b + 1) g := by
  unfold prow
  rw [List.set_append_right _ _ (by simp [ints_length])]
  rw [ints_succ, List.map_append, List.append_assoc]
  congr 1
  simp only [List.length_map, ints_length, Nat.sub_self]
  rw [show n - b = (n - (b + 1)) + 1 from by omega, List.replicate_succ]; simp
theorem prow_skip {n b : Nat} (g : Int → Int) (h : b < n) (h0 : g b = 0) : prow n b g = prow n (b + 1) g := by
  have hl := prow_length g (Nat.le_of_lt h)
  have hb : (prow n b g)[b]'(by rw [hl]; exact h) = 0 := by simp [prow, List.getElem_append, ints_length]
  rw [← prow_set g h, h0]
  have := List.set_getElem_self (show b < (prow n b g).length by rw [hl]; exact h)
  rw [hb] at this; exact this.symm
def topK (q : List (List Bool)) (k : Nat) : Int := (ints k).foldl (fun t a => atB (rowsL q.length q.length (joinI q)) t a (-1)) 0
def botK (q : List (List Bool)) (k : Nat) : Int := (ints k).foldl (fun t a => atB (rowsL q.length q.length (meetI q)) t a (-1)) 0
structure isLat (q : List (List Bool)) (V : LatV) : Prop where
  ok : V.ok
  leq : V.leq = rowsL q.length q.length (leqI q)
  join : V.join = rowsL q.length q.length (joinI q)
  meet : V.meet = rowsL q.length q.length (meetI q)
  top : V.top = topK q q.length
  bot : V.bot = botK q q.length
def newV : Option (Nat × LatV) → Value
  | none => .tuple #[.pointer none, .int .i64 23]
  | some (p, _) => .tuple #[.pointer (some ⟨p, 0, none⟩), .int .i64 0]
def newP (q : List (List Bool)) : Option (Nat × LatV) → Prop
  | none => latOk q = false
  | some (_, V) => latOk q = true ∧ isLat q V
def newH : Option (Nat × LatV) → List HProp
  | none => []
  | some (p, V) => [lat p V]
/-- Where New stands at a row's head. -/
structure NewS where
  k : Nat
  v1 : Value
  v2 : Value
  v3 : Value
  r1 : List Value
  r2 : List Value
  r3 : List Value
abbrev newC (p : Nat) (q : List (List Bool)) (s : NewS) : List HProp := [cel p 95 [s.v1, s.v2, s.v3, .int .i64 0, .int .i64 0],
  sl eVal s.v1 s.r1, rws false (eInt .i64) s.r1 (rowsL q.length s.k (leqI q)), sl eVal s.v2 s.r2, rws false (eInt .i64) s.r2 (rowsL q.length s.k (joinI q)), sl eVal s.v3 s.r3, rws false (eInt .i64) s.r3 (rowsL q.length s.k (meetI q))]
def bothRow (q : List (List Bool)) (k : Nat) : Prop := (ints k).all (fun a => (ints q.length).all fun b => bothO q a b) = true
def bothCol (q : List (List Bool)) (a : Int) (k : Nat) : Prop := (ints k).all (fun b => bothO q a b) = true
theorem latOk_no {q : List (List Bool)} {a b : Int} (ha : 0 ≤ a ∧ a < q.length) (hb : 0 ≤ b ∧ b < q.length) (h : bothO q a b = false) : latOk q = false := by
  unfold latOk
  rw [Bool.and_eq_false_iff]; right
  exact List.all_eq_false.2 ⟨a, ints_mem.2 ha, by rw [List.all_eq_false.2 ⟨b, ints_mem.2 hb, by simp [h]⟩]; simp⟩
-- FN confidant/lattice.New
theorem lattice_New (v : Value) (rows : List Value) (q : List (List Bool)) (hl : rows.length = q.length) (hm : q.length ≤ 140737488355328) :
    Sp Try.prog 14 [v] [rsl eVal v rows, rws true eBool rows q] (newP q) newV newH := by
  refine Sp.intro (n := 155) Try.func14 rfl rfl fun w0 R => ?_
  dsimp only [List.cons_append, List.nil_append, envOf]
  refine go ?_
  with_reducible refine Ol.g ?_
  refine Ol.eff rfl rfl rfl (Eff.call (R := ?_) (order_Square v rows q hl hm) rfl ?_ ?_)
  rotate_left
  · exact tkl_
  rintro _ -
  dsimp only [List.cons_append, List.nil_append]
  cases h1 : sqB q with
  | false =>
    refine go ?_
    refine Dn.ret2 rfl rfl rfl fun w hs => ⟨none, rfl, by simp [newP, latOk, ordOk, h1], hs.conv (show ents _ R from by exact ent_)⟩
  | true =>
  have hle := sq_le h1
  refine go ?_
  with_reducible refine Ol.g ?_
  refine Ol.eff rfl rfl rfl (Eff.call (R := ?_) (order_Reflexive v rows q hl hm) rfl ?_ ?_)
  rotate_left
  · exact tkl_
  rintro _ -
  dsimp only [List.cons_append, List.nil_append]
  cases h2 : allB q (fun a _ => rd (rd q a) a) with
  | false =>
    refine go ?_
    refine Dn.ret2 rfl rfl rfl fun w hs => ⟨none, rfl, by simp [newP, latOk, ordOk, h2], hs.conv (show ents _ R from by exact ent_)⟩
  | true =>
  refine go ?_
  with_reducible refine Ol.g ?_
  refine Ol.eff rfl rfl rfl (Eff.call (R := ?_) (order_Antisymmetric v rows q hl hm) rfl ?_ ?_)
  rotate_left
  · exact tkl_
  rintro _ -
  dsimp only [List.cons_append, List.nil_append]
  cases h3 : allB q (antiF q) with
  | false =>
    refine go ?_
    refine Dn.ret2 rfl rfl rfl fun w hs => ⟨none, rfl, by simp [newP, latOk, ordOk, h3], hs.conv (show ents _ R from by exact ent_)⟩
  | true =>
  refine go ?_
  with_reducible refine Ol.g ?_
  refine Ol.eff rfl rfl rfl (Eff.call (R := ?_) (order_Transitive v rows q hl hm) rfl ?_ ?_)
  rotate_left
  · exact tkl_
  rintro _ -
  dsimp only [List.cons_append, List.nil_append]
  cases h4 : allB q (transF q) with
  | false =>
    refine go ?_
    refine Dn.ret2 rfl rfl rfl fun w hs => ⟨none, rfl, by simp [newP, latOk, ordOk, h4], hs.conv (show ents _ R from by exact ent_)⟩
  | true =>
  have hord : ordOk q = true := by unfold ordOk; rw [h1, h2, h3, h4]; rfl
  clear h2 h3 h4
  refine go ?_
  refine Ol.eff rfl rfl rfl (Eff.box fun p => ?_)
  refine go ?_
  refine Cd.loop (fun s : NewS => s.k ≤ q.length ∧ bothRow q s.k) (fun s => q.length - s.k) (fun s => [(0, v), (4, .pointer (some ⟨p, 0, none⟩)), (36, .int .i64 rows.length), (37, .int .i64 s.k)]) (fun s => rsl eVal v rows :: rws true eBool rows q :: newC p q s ++ R) ⟨0, .slice none 0 0, .slice none 0 0, .slice none 0 0, [], [], []⟩ ⟨by simp, rfl⟩ ?_ ?_ ?_
  · repeat(first|exact Env.le_nil _|(refine Env.le_cons rfl ?_ ?_;first|rfl|(simp;done)|exact congrArg _ (by omega)|rotate_left))
  · dsimp only [List.cons_append, List.nil_append]
    rw [show rowsL q.length 0 (leqI q) = [] from rfl, show rowsL q.length 0 (joinI q) = [] from rfl, show rowsL q.length 0 (meetI q) = [] from rfl]
    exact ent_
  rintro ⟨k, v1, v2, v3, r1, r2, r3⟩ ⟨hk, hb⟩
  dsimp only [List.cons_append, List.nil_append] at hk hb ⊢
  refine go ?_
  refine Cd.condP rfl (fun h => ?_) (fun h => ?_)
  · have hk' : k < q.length := by omega
    have hrow := sq_row h1 (a := k) (by omega) (by omega)
    refine go ?_
    refine Cd.cut (α := Value × Value × Value) (fun u => [(0, v), (4, .pointer (some ⟨p, 0, none⟩)), (36, .int .i64 rows.length), (37, .int .i64 k), (5, .int .i64 k), (6, u.1), (7, u.2.1), (8, u.2.2)]) (fun u => sl (eInt .i64) u.1 (List.replicate q.length 0) :: sl (eInt .i64) u.2.1 (List.replicate q.length 0) :: sl (eInt .i64) u.2.2 (List.replicate q.length 0) :: rsl eVal v rows :: rws true eBool rows q :: newC p q ⟨k, v1, v2, v3, r1, r2, r3⟩ ++ R) (fun _ kk => ?_) ?_
    · refine Cd.forget 6 rfl ?_
      refine Cd.forget 7 rfl ?_
      refine Cd.forget 8 rfl ?_
      refine Cd.draw [[], [0], [0, 1], [], [3], [3, 4], [], [6], [6, 7], [0, 1, 2], [0, 1, 2, 3, 4, 5, 9], [0, 1, 2, 3, 4, 5, 6, 7, 8, 9, 10]] [2, 5, 8] (td := [(0, true), (1, true), (3, true), (4, true), (6, true), (7, true)]) mixed (by kernel_rfl) (by decide) (by decide) (by kernel_rfl) ?_
      have hrep : List.replicate (rows.length : Int).toNat (0 : Int) = List.replicate q.length 0 := by rw [hl]; simp
      repeat' (first
        | (refine GrL.q rfl rfl rfl rfl rfl ?_ ?_; (first | exact True.intro | omega))
        | (refine GrL.old rfl rfl rfl rfl rfl ?_ ?_; (first | exact True.intro | omega))
        | with_reducible refine GrL.done ?_
        | refine Sg.fin ?_
        | exact AllSp.nil
        | refine AllSp.cons rfl ?_ ?_
        | refine Sg.all rfl ?_
        | (refine SpOp.eff rfl rfl rfl rfl rfl (Eff.mkS (nb := 8) (x := (0 : Int)) rfl (by omega) fun _ => ?_); rw [hrep]))
      all_goals
        exact Dn.weak (by repeat(first|exact Env.le_nil _|(refine Env.le_cons rfl ?_ ?_;first|rfl|(simp;done)|exact congrArg _ (by omega)|rotate_left))) (by exact ent_) (kk (_, _, _))
    rintro ⟨u1, u2, u3⟩
    dsimp only [List.cons_append, List.nil_append]
    refine go ?_
    refine Cd.loop (fun b : Nat => b ≤ q.length ∧ bothCol q k b) (fun b => q.length - b) (fun b => [(0, v), (4, .pointer (some ⟨p, 0, none⟩)), (36, .int .i64 rows.length), (37, .int .i64 k), (5, .int .i64 k), (6, u1), (7, u2), (8, u3), (50, .int .i64 rows.length), (51, .int .i64 b)]) (fun b => sl (eInt .i64) u1 (prow q.length b (leqI q k)) :: sl (eInt .i64) u2 (prow q.length b (joinI q k)) :: sl (eInt .i64) u3 (prow q.length b (meetI q k)) :: rsl eVal v rows :: rws true eBool rows q :: newC p q ⟨k, v1, v2, v3, r1, r2, r3⟩ ++ R) 0 ⟨by omega, rfl⟩ ?_ ?_ fun b ⟨hbn, hbc⟩ => ?_
    · repeat(first|exact Env.le_nil _|(refine Env.le_cons rfl ?_ ?_;first|rfl|(simp;done)|exact congrArg _ (by omega)|rotate_left))
    · dsimp only [List.cons_append, List.nil_append]
      rw [prow_zero, prow_zero, prow_zero]
      exact ent_
    dsimp only [List.cons_append, List.nil_append]
    refine go ?_
    refine Cd.condP rfl (fun h => ?_) (fun h => ?_)
    · have hb' : b < q.length := by omega
      have p1 := prow_length (leqI q k) (Nat.le_of_lt hb')
      have p2 := prow_length (joinI q k) (Nat.le_of_lt hb')
      have p3 := prow_length (meetI q k) (Nat.le_of_lt hb')
      refine go ?_
      refine Cd.cut (α := Unit) (fun _ => [(0, v), (4, .pointer (some ⟨p, 0, none⟩)), (36, .int .i64 rows.length), (37, .int .i64 k), (5, .int .i64 k), (6, u1), (7, u2), (8, u3), (50, .int .i64 rows.length), (51, .int .i64 b), (9, .int .i64 b)]) (fun _ => sl (eInt .i64) u1 (prow q.length (b + 1) (leqI q k)) :: sl (eInt .i64) u2 (prow q.length b (joinI q k)) :: sl (eInt .i64) u3 (prow q.length b (meetI q k)) :: rsl eVal v rows :: rws true eBool rows q :: newC p q ⟨k, v1, v2, v3, r1, r2, r3⟩ ++ R) (fun _ kk => ?_) ?_
      · refine Cd.cond rfl (fun hx => ?_) (fun hx => ?_)
        · refine go ?_;repeat((with_reducible refine Ol.g ?_);(first|refine Ol.eff rfl rfl rfl (Eff.alloc fun _=>?_)|refine Ol.eff rfl rfl rfl (Eff.box fun _=>?_)|refine Ol.eff0 rfl rfl (Eff.store rfl rfl ?_)|refine Ol.eff rfl rfl rfl (Eff.bslice rfl rfl fun _=>?_)|(refine Ol.eff0 rfl rfl (Eff.storeE rfl ?_ ?_);exact pre_)|(refine Ol.eff rfl rfl rfl (Eff.append1 rfl ?_ fun _=>?_);exact pre_));refine go ?_)
          have e1 : (prow q.length b (leqI q k)).set (b : Int).toNat 1 = prow q.length (b + 1) (leqI q k) := by
            have := prow_set (leqI q k) hb'
            rw [show leqI q k b = 1 from by unfold leqI; rw [if_pos hx]] at this
            exact this
          rw [e1]
          exact Dn.weak (by repeat(first|exact Env.le_nil _|(refine Env.le_cons rfl ?_ ?_;first|rfl|(simp;done)|exact congrArg _ (by omega)|rotate_left))) (by exact ent_) (kk ())
        · refine go ?_
          rw [prow_skip (leqI q k) hb' (by unfold leqI; rw [if_neg (by rw [hx]; simp)])]
          exact Dn.weak (by repeat(first|exact Env.le_nil _|(refine Env.le_cons rfl ?_ ?_;first|rfl|(simp;done)|exact congrArg _ (by omega)|rotate_left))) (by exact ent_) (kk ())
      rintro -
      dsimp only [List.cons_append, List.nil_append]
      refine go ?_
      with_reducible refine Ol.g ?_
      refine Ol.eff rfl rfl rfl (Eff.call (R := ?_) (order_Upper v rows q hl hm k b) rfl ?_ ?_)
      rotate_left
      · exact tkl_
      rintro x -
      dsimp only [List.cons_append, List.nil_append]
      refine go ?_
      with_reducible refine Ol.g ?_
      refine Ol.eff rfl rfl rfl (Eff.call (R := ?_) (order_Least v rows q hl hm false x (upperL q k b) (by have := thoseL_length q.length (upF q k b); unfold upperL; split <;> simp <;> omega)) rfl ?_ ?_)
      rotate_left
      · exact tkl_
      rintro _ -
      dsimp only [List.cons_append, List.nil_append, optV]
      refine go ?_
      with_reducible refine Ol.g ?_
      refine Ol.eff rfl rfl rfl (Eff.call (R := ?_) (order_Lower v rows q hl hm k b) rfl ?_ ?_)
      rotate_left
      · exact tkl_
      rintro y -
      dsimp only [List.cons_append, List.nil_append]
      refine go ?_
      with_reducible refine Ol.g ?_
      refine Ol.eff rfl rfl rfl (Eff.call (R := ?_) (order_Greatest v rows q hl hm false y (lowerL q k b) (by have := thoseL_length q.length (downF q k b); unfold lowerL; split <;> simp <;> omega)) rfl ?_ ?_)
      rotate_left
      · exact tkl_
      rintro _ -
      dsimp only [List.cons_append, List.nil_append, optV]
      refine go ?_
      have hno : bothO q k b = false → latOk q = false := fun hh => latOk_no ⟨by omega, by omega⟩ ⟨by omega, by omega⟩ hh
      cases hj : (leastB q (upperL q k b)).isSome with
      | false =>
        refine go ?_
        refine Dn.ret2 rfl rfl rfl fun w hs => ⟨none, rfl, hno (by unfold bothO joinO; rw [hj]; rfl), hs.conv (show ents _ R from by exact ent_)⟩
      | true =>
      refine go ?_
      cases hg : (greatestB q (lowerL q k b)).isSome with
      | false =>
        refine go ?_
        refine Dn.ret2 rfl rfl rfl fun w hs => ⟨none, rfl, hno (by unfold bothO meetO; rw [hg]; simp), hs.conv (show ents _ R from by exact ent_)⟩
      | true =>
      refine go ?_;repeat((with_reducible refine Ol.g ?_);(first|refine Ol.eff rfl rfl rfl (Eff.alloc fun _=>?_)|refine Ol.eff rfl rfl rfl (Eff.box fun _=>?_)|refine Ol.eff0 rfl rfl (Eff.store rfl rfl ?_)|refine Ol.eff rfl rfl rfl (Eff.bslice rfl rfl fun _=>?_)|(refine Ol.eff0 rfl rfl (Eff.storeE rfl ?_ ?_);exact pre_)|(refine Ol.eff rfl rfl rfl (Eff.append1 rfl ?_ fun _=>?_);exact pre_));refine go ?_)
      refine Dn.round (b + 1) ⟨by omega, ?_⟩ (by omega) ?_ ?_
      · have : bothO q k b = true := by unfold bothO joinO meetO; rw [hj, hg]; rfl
        unfold bothCol at hbc ⊢; rw [ints_succ, List.all_append, hbc]; simp [this]
      · repeat(first|exact Env.le_nil _|(refine Env.le_cons rfl ?_ ?_;first|rfl|(simp;done)|exact congrArg _ (by omega)|rotate_left))
      · have e2 : (prow q.length b (joinI q k)).set (b : Int).toNat ((leastB q (upperL q k b)).getD 0) = prow q.length (b + 1) (joinI q k) := prow_set (joinI q k) hb'
        have e3 : (prow q.length b (meetI q k)).set (b : Int).toNat ((greatestB q (lowerL q k b)).getD 0) = prow q.length (b + 1) (meetI q k) := prow_set (meetI q k) hb'
        rw [e2, e3]
        exact ent_
    · have hbe : b = q.length := by omega
      subst hbe
      rw [prow_full, prow_full, prow_full]
      refine go ?_
      first | (with_reducible refine Cd.g ?_; refine Cd.know (fun w_ hw_ => rws_len (Tk.sat (A := (rws false (eInt .i64) r1 _)) (by exact tk_) hw_)) fun hr1 => ?_) | (with_reducible refine Ol.g ?_; refine Ol.know (fun w_ hw_ => rws_len (Tk.sat (A := (rws false (eInt .i64) r1 _)) (by exact tk_) hw_)) fun hr1 => ?_) | (with_reducible refine Dn.g ?_; refine Dn.know (fun w_ hw_ => rws_len (Tk.sat (A := (rws false (eInt .i64) r1 _)) (by exact tk_) hw_)) fun hr1 => ?_)
      first | (with_reducible refine Cd.g ?_; refine Cd.know (fun w_ hw_ => rws_len (Tk.sat (A := (rws false (eInt .i64) r2 _)) (by exact tk_) hw_)) fun hr2 => ?_) | (with_reducible refine Ol.g ?_; refine Ol.know (fun w_ hw_ => rws_len (Tk.sat (A := (rws false (eInt .i64) r2 _)) (by exact tk_) hw_)) fun hr2 => ?_) | (with_reducible refine Dn.g ?_; refine Dn.know (fun w_ hw_ => rws_len (Tk.sat (A := (rws false (eInt .i64) r2 _)) (by exact tk_) hw_)) fun hr2 => ?_)
      first | (with_reducible refine Cd.g ?_; refine Cd.know (fun w_ hw_ => rws_len (Tk.sat (A := (rws false (eInt .i64) r3 _)) (by exact tk_) hw_)) fun hr3 => ?_) | (with_reducible refine Ol.g ?_; refine Ol.know (fun w_ hw_ => rws_len (Tk.sat (A := (rws false (eInt .i64) r3 _)) (by exact tk_) hw_)) fun hr3 => ?_) | (with_reducible refine Dn.g ?_; refine Dn.know (fun w_ hw_ => rws_len (Tk.sat (A := (rws false (eInt .i64) r3 _)) (by exact tk_) hw_)) fun hr3 => ?_)
      rw [rowsL_length] at hr1 hr2 hr3
      refine Cd.cut0 (α := Value × Value × Value) (fun z => [(0, v), (4, .pointer (some ⟨p, 0, none⟩)), (36, .int .i64 rows.length), (37, .int .i64 k)]) (fun z => rsl eVal v rows :: rws true eBool rows q :: newC p q ⟨k + 1, z.1, z.2.1, z.2.2, r1 ++ [u1], r2 ++ [u2], r3 ++ [u3]⟩ ++ R) (fun kk => ?_) ?_
      · dsimp only [List.cons_append, List.nil_append] at kk
        rw [rowsL_succ, rowsL_succ, rowsL_succ] at kk
        first | (with_reducible refine Cd.g ?_; refine Cd.know (fun w_ hw_ => one_sl (Tk.sat (A := (sl (eInt .i64) u1 _)) (by exact tk_) hw_)) fun o1 => ?_) | (with_reducible refine Ol.g ?_; refine Ol.know (fun w_ hw_ => one_sl (Tk.sat (A := (sl (eInt .i64) u1 _)) (by exact tk_) hw_)) fun o1 => ?_) | (with_reducible refine Dn.g ?_; refine Dn.know (fun w_ hw_ => one_sl (Tk.sat (A := (sl (eInt .i64) u1 _)) (by exact tk_) hw_)) fun o1 => ?_)
        first | (with_reducible refine Cd.g ?_; refine Cd.know (fun w_ hw_ => one_sl (Tk.sat (A := (sl (eInt .i64) u2 _)) (by exact tk_) hw_)) fun o2 => ?_) | (with_reducible refine Ol.g ?_; refine Ol.know (fun w_ hw_ => one_sl (Tk.sat (A := (sl (eInt .i64) u2 _)) (by exact tk_) hw_)) fun o2 => ?_) | (with_reducible refine Dn.g ?_; refine Dn.know (fun w_ hw_ => one_sl (Tk.sat (A := (sl (eInt .i64) u2 _)) (by exact tk_) hw_)) fun o2 => ?_)
        first | (with_reducible refine Cd.g ?_; refine Cd.know (fun w_ hw_ => one_sl (Tk.sat (A := (sl (eInt .i64) u3 _)) (by exact tk_) hw_)) fun o3 => ?_) | (with_reducible refine Ol.g ?_; refine Ol.know (fun w_ hw_ => one_sl (Tk.sat (A := (sl (eInt .i64) u3 _)) (by exact tk_) hw_)) fun o3 => ?_) | (with_reducible refine Dn.g ?_; refine Dn.know (fun w_ hw_ => one_sl (Tk.sat (A := (sl (eInt .i64) u3 _)) (by exact tk_) hw_)) fun o3 => ?_)
        refine Cd.draw2 [[], [], [], [], [3], [3, 4], [3, 4, 5], [], [7], [3, 4, 5, 6, 7, 8], [], [10], [10, 11], [10, 11, 12], [], [14], [3, 4, 5, 6, 7, 8, 9, 10, 11, 12, 13, 14, 15], [], [17], [17, 18], [17, 18, 19], [], [21], [3, 4, 5, 6, 7, 8, 9, 10, 11, 12, 13, 14, 15, 16, 17, 18, 19, 20, 21, 22], [0, 3, 4, 5, 6, 7, 8, 9, 10, 11, 12, 13, 14, 15, 16, 17, 18, 19, 20, 21, 22, 23], [0, 3, 4, 5, 6, 7, 8, 9, 10, 11, 12, 13, 14, 15, 16, 17, 18, 19, 20, 21, 22, 23, 24], [0, 3, 4, 5, 6, 7, 8, 9, 10, 11, 12, 13, 14, 15, 16, 17, 18, 19, 20, 21, 22, 23, 24, 25], [0, 1, 3, 4, 5, 6, 7, 8, 9, 10, 11, 12, 13, 14, 15, 16, 17, 18, 19, 20, 21, 22, 23, 24, 25, 26], [0, 1, 3, 4, 5, 6, 7, 8, 9, 10, 11, 12, 13, 14, 15, 16, 17, 18, 19, 20, 21, 22, 23, 24, 25, 26, 27], [0, 1, 3, 4, 5, 6, 7, 8, 9, 10, 11, 12, 13, 14, 15, 16, 17, 18, 19, 20, 21, 22, 23, 24, 25, 26, 27, 28], [0, 1, 2, 3, 4, 5, 6, 7, 8, 9, 10, 11, 12, 13, 14, 15, 16, 17, 18, 19, 20, 21, 22, 23, 24, 25, 26, 27, 28, 29], [0, 1, 2, 3, 4, 5, 6, 7, 8, 9, 10, 11, 12, 13, 14, 15, 16, 17, 18, 19, 20, 21, 22, 23, 24, 25, 26, 27, 28, 29, 30], [0, 1, 2, 3, 4, 5, 6, 7, 8, 9, 10, 11, 12, 13, 14, 15, 16, 17, 18, 19, 20, 21, 22, 23, 24, 25, 26, 27, 28, 29, 30, 31]] [8, 9, 15, 16, 22, 23, 26, 29, 32] [8, 15, 22] (td := [(0, .fresh), (1, .fresh), (2, .fresh), (3, .fresh), (4, .fresh), (5, .fresh), (6, .fresh), (7, .fresh), (8, .flt), (10, .fresh), (11, .fresh), (12, .fresh), (13, .fresh), (14, .fresh), (15, .flt), (17, .fresh), (18, .fresh), (19, .fresh), (20, .fresh), (21, .fresh), (22, .flt)]) mixed (by kernel_rfl) (by kernel_rfl) (by decide) (by decide) rfl (by kernel_rfl) ?_
        refine god2 ?_
        refine Sg2.flt (td := [(0, .old), (1, .old), (2, .old), (3, .old), (4, .old), (5, .old), (6, .old), (10, .old), (11, .old), (12, .old), (13, .old), (14, .old), (17, .old), (18, .old), (19, .old), (20, .old), (21, .old)]) rfl rfl rfl rfl (by kernel_rfl) fun _ => ?_
        refine god2 ?_
        refine Sg2.one (td := [(0, .old), (1, .old), (2, .old), (10, .old), (11, .old), (12, .old), (13, .old), (14, .old), (17, .old), (18, .old), (19, .old), (20, .old), (21, .old)]) rfl (by kernel_rfl) fun F9_ => ?_
        dsimp only [List.cons_append, List.nil_append]
        (with_reducible first|refine SpOp.eff rfl rfl rfl rfl rfl (Eff.x (Qx.build rfl) ?_)|refine SpOp.eff rfl rfl rfl rfl rfl (Eff.alloc fun _=>?_)|refine SpOp.eff rfl rfl rfl rfl rfl (Eff.box fun _=>?_)|refine SpOp.eff rfl rfl rfl rfl rfl (Eff.bslice rfl rfl fun _=>?_)|(refine SpOp.eff rfl rfl rfl rfl rfl (Eff.append1 rfl ?_ fun _=>?_);exact pre_)|refine SpOp.eff0 rfl rfl rfl rfl (Eff.store rfl rfl ?_)|(refine SpOp.eff0 rfl rfl rfl rfl (Eff.storeE rfl ?_ ?_);exact pre_))
        refine Sn.ok ?_
        refine god2 ?_
        refine Sg2.flt (td := [(0, .old), (1, .old), (2, .old), (10, .old), (11, .old), (12, .old), (13, .old), (17, .old), (18, .old), (19, .old), (20, .old), (21, .old)]) rfl rfl rfl rfl (by kernel_rfl) fun _ => ?_
        refine god2 ?_
        refine Sg2.one (td := [(0, .old), (1, .old), (2, .old), (17, .old), (18, .old), (19, .old), (20, .old), (21, .old)]) rfl (by kernel_rfl) fun F16_ => ?_
        dsimp only [List.cons_append, List.nil_append]
        (with_reducible first|refine SpOp.eff rfl rfl rfl rfl rfl (Eff.x (Qx.build rfl) ?_)|refine SpOp.eff rfl rfl rfl rfl rfl (Eff.alloc fun _=>?_)|refine SpOp.eff rfl rfl rfl rfl rfl (Eff.box fun _=>?_)|refine SpOp.eff rfl rfl rfl rfl rfl (Eff.bslice rfl rfl fun _=>?_)|(refine SpOp.eff rfl rfl rfl rfl rfl (Eff.append1 rfl ?_ fun _=>?_);exact pre_)|refine SpOp.eff0 rfl rfl rfl rfl (Eff.store rfl rfl ?_)|(refine SpOp.eff0 rfl rfl rfl rfl (Eff.storeE rfl ?_ ?_);exact pre_))
        refine Sn.ok ?_
        refine god2 ?_
        refine Sg2.flt (td := [(0, .old), (1, .old), (2, .old), (17, .old), (18, .old), (19, .old), (20, .old)]) rfl rfl rfl rfl (by kernel_rfl) fun _ => ?_
        refine god2 ?_
        refine Sg2.one (td := [(0, .old), (1, .old), (2, .old), (24, .fresh), (25, .fresh)]) rfl (by kernel_rfl) fun F23_ => ?_
        dsimp only [List.cons_append, List.nil_append]
        (with_reducible first|refine SpOp.eff rfl rfl rfl rfl rfl (Eff.x (Qx.build rfl) ?_)|refine SpOp.eff rfl rfl rfl rfl rfl (Eff.alloc fun _=>?_)|refine SpOp.eff rfl rfl rfl rfl rfl (Eff.box fun _=>?_)|refine SpOp.eff rfl rfl rfl rfl rfl (Eff.bslice rfl rfl fun _=>?_)|(refine SpOp.eff rfl rfl rfl rfl rfl (Eff.append1 rfl ?_ fun _=>?_);exact pre_)|refine SpOp.eff0 rfl rfl rfl rfl (Eff.store rfl rfl ?_)|(refine SpOp.eff0 rfl rfl rfl rfl (Eff.storeE rfl ?_ ?_);exact pre_))
        refine Sn.ok ?_
        refine god2 ?_
        refine Sg2.one (td := [(1, .old), (2, .old), (27, .fresh), (28, .fresh)]) rfl (by kernel_rfl) fun F26_ => ?_
        dsimp only [List.cons_append, List.nil_append]
        (with_reducible first|refine SpOp.eff rfl rfl rfl rfl rfl (Eff.x (Qx.build rfl) ?_)|refine SpOp.eff rfl rfl rfl rfl rfl (Eff.alloc fun _=>?_)|refine SpOp.eff rfl rfl rfl rfl rfl (Eff.box fun _=>?_)|refine SpOp.eff rfl rfl rfl rfl rfl (Eff.bslice rfl rfl fun _=>?_)|(refine SpOp.eff rfl rfl rfl rfl rfl (Eff.append1 rfl ?_ fun _=>?_);exact pre_)|refine SpOp.eff0 rfl rfl rfl rfl (Eff.store rfl rfl ?_)|(refine SpOp.eff0 rfl rfl rfl rfl (Eff.storeE rfl ?_ ?_);exact pre_))
        refine Sn.ok ?_
        refine god2 ?_
        refine Sg2.one (td := [(2, .old), (30, .fresh), (31, .fresh)]) rfl (by kernel_rfl) fun F29_ => ?_
        dsimp only [List.cons_append, List.nil_append]
        (with_reducible first|refine SpOp.eff rfl rfl rfl rfl rfl (Eff.x (Qx.build rfl) ?_)|refine SpOp.eff rfl rfl rfl rfl rfl (Eff.alloc fun _=>?_)|refine SpOp.eff rfl rfl rfl rfl rfl (Eff.box fun _=>?_)|refine SpOp.eff rfl rfl rfl rfl rfl (Eff.bslice rfl rfl fun _=>?_)|(refine SpOp.eff rfl rfl rfl rfl rfl (Eff.append1 rfl ?_ fun _=>?_);exact pre_)|refine SpOp.eff0 rfl rfl rfl rfl (Eff.store rfl rfl ?_)|(refine SpOp.eff0 rfl rfl rfl rfl (Eff.storeE rfl ?_ ?_);exact pre_))
        refine Sn.ok ?_
        refine god2 ?_
        refine Sg2.one (td := []) rfl (by kernel_rfl) fun F32_ => ?_
        dsimp only [List.cons_append, List.nil_append]
        (with_reducible first|refine SpOp.eff rfl rfl rfl rfl rfl (Eff.x (Qx.build rfl) ?_)|refine SpOp.eff rfl rfl rfl rfl rfl (Eff.alloc fun _=>?_)|refine SpOp.eff rfl rfl rfl rfl rfl (Eff.box fun _=>?_)|refine SpOp.eff rfl rfl rfl rfl rfl (Eff.bslice rfl rfl fun _=>?_)|(refine SpOp.eff rfl rfl rfl rfl rfl (Eff.append1 rfl ?_ fun _=>?_);exact pre_)|refine SpOp.eff0 rfl rfl rfl rfl (Eff.store rfl rfl ?_)|(refine SpOp.eff0 rfl rfl rfl rfl (Eff.storeE rfl ?_ ?_);exact pre_))
        refine Sn.ok ?_
        refine god2 ?_
        exact Dn.weak (by repeat(first|exact Env.le_nil _|(refine Env.le_cons rfl ?_ ?_;first|rfl|(simp;done)|exact congrArg _ (by omega)|rotate_left))) (by exact ent_) (kk (_, _, _))
      rintro ⟨z1, z2, z3⟩
      dsimp only
      refine go ?_
      refine Dn.round ⟨k + 1, z1, z2, z3, r1 ++ [u1], r2 ++ [u2], r3 ++ [u3]⟩ ⟨by dsimp only; omega, ?_⟩ (by dsimp only; omega) ?_ (ents.refl _)
      · unfold bothRow at hb ⊢
        rw [ints_succ, List.all_append, hb]
        unfold bothCol at hbc; simp [hbc]
      · repeat(first|exact Env.le_nil _|(refine Env.le_cons rfl ?_ ?_;first|rfl|(simp;done)|exact congrArg _ (by omega)|rotate_left))
  · have hke : k = q.length := by omega
    subst hke
    refine go ?_
    first | (with_reducible refine Cd.g ?_; refine Cd.know (fun w_ hw_ => rws_len (Tk.sat (A := (rws false (eInt .i64) r1 _)) (by exact tk_) hw_)) fun hr1 => ?_) | (with_reducible refine Ol.g ?_; refine Ol.know (fun w_ hw_ => rws_len (Tk.sat (A := (rws false (eInt .i64) r1 _)) (by exact tk_) hw_)) fun hr1 => ?_) | (with_reducible refine Dn.g ?_; refine Dn.know (fun w_ hw_ => rws_len (Tk.sat (A := (rws false (eInt .i64) r1 _)) (by exact tk_) hw_)) fun hr1 => ?_)
    first | (with_reducible refine Cd.g ?_; refine Cd.know (fun w_ hw_ => rws_len (Tk.sat (A := (rws false (eInt .i64) r2 _)) (by exact tk_) hw_)) fun hr2 => ?_) | (with_reducible refine Ol.g ?_; refine Ol.know (fun w_ hw_ => rws_len (Tk.sat (A := (rws false (eInt .i64) r2 _)) (by exact tk_) hw_)) fun hr2 => ?_) | (with_reducible refine Dn.g ?_; refine Dn.know (fun w_ hw_ => rws_len (Tk.sat (A := (rws false (eInt .i64) r2 _)) (by exact tk_) hw_)) fun hr2 => ?_)
    first | (with_reducible refine Cd.g ?_; refine Cd.know (fun w_ hw_ => rws_len (Tk.sat (A := (rws false (eInt .i64) r3 _)) (by exact tk_) hw_)) fun hr3 => ?_) | (with_reducible refine Ol.g ?_; refine Ol.know (fun w_ hw_ => rws_len (Tk.sat (A := (rws false (eInt .i64) r3 _)) (by exact tk_) hw_)) fun hr3 => ?_) | (with_reducible refine Dn.g ?_; refine Dn.know (fun w_ hw_ => rws_len (Tk.sat (A := (rws false (eInt .i64) r3 _)) (by exact tk_) hw_)) fun hr3 => ?_)
    first | (with_reducible refine Cd.g ?_; refine Cd.share (A := (sl eVal v1 r1)) (by exact tk_) ?_) | (with_reducible refine Ol.g ?_; refine Ol.share (A := (sl eVal v1 r1)) (by exact tk_) ?_) | (with_reducible refine Dn.g ?_; refine Dn.share (A := (sl eVal v1 r1)) (by exact tk_) ?_)
    first | (with_reducible refine Cd.g ?_; refine Cd.share (A := (sl eVal v2 r2)) (by exact tk_) ?_) | (with_reducible refine Ol.g ?_; refine Ol.share (A := (sl eVal v2 r2)) (by exact tk_) ?_) | (with_reducible refine Dn.g ?_; refine Dn.share (A := (sl eVal v2 r2)) (by exact tk_) ?_)
    first | (with_reducible refine Cd.g ?_; refine Cd.share (A := (sl eVal v3 r3)) (by exact tk_) ?_) | (with_reducible refine Ol.g ?_; refine Ol.share (A := (sl eVal v3 r3)) (by exact tk_) ?_) | (with_reducible refine Dn.g ?_; refine Dn.share (A := (sl eVal v3 r3)) (by exact tk_) ?_)
    first | (with_reducible refine Cd.g ?_; refine Cd.share (A := (rws false (eInt .i64) r1 _)) (by exact tk_) ?_) | (with_reducible refine Ol.g ?_; refine Ol.share (A := (rws false (eInt .i64) r1 _)) (by exact tk_) ?_) | (with_reducible refine Dn.g ?_; refine Dn.share (A := (rws false (eInt .i64) r1 _)) (by exact tk_) ?_)
    first | (with_reducible refine Cd.g ?_; refine Cd.share (A := (rws false (eInt .i64) r2 _)) (by exact tk_) ?_) | (with_reducible refine Ol.g ?_; refine Ol.share (A := (rws false (eInt .i64) r2 _)) (by exact tk_) ?_) | (with_reducible refine Dn.g ?_; refine Dn.share (A := (rws false (eInt .i64) r2 _)) (by exact tk_) ?_)
    first | (with_reducible refine Cd.g ?_; refine Cd.share (A := (rws false (eInt .i64) r3 _)) (by exact tk_) ?_) | (with_reducible refine Ol.g ?_; refine Ol.share (A := (rws false (eInt .i64) r3 _)) (by exact tk_) ?_) | (with_reducible refine Dn.g ?_; refine Dn.share (A := (rws false (eInt .i64) r3 _)) (by exact tk_) ?_)
    have hV : ∀ t b, LatV.ok ⟨v1, v2, v3, r1, r2, r3, rowsL q.length q.length (leqI q), rowsL q.length q.length (joinI q), rowsL q.length q.length (meetI q), t, b⟩ := fun t b => ⟨hr1, hr2, hr3, rowsL_sq _ _, rowsL_sq _ _, rowsL_sq _ _⟩
    refine Cd.loop (fun j : Nat => j ≤ q.length) (fun j => q.length - j) (fun j => [(0, v), (4, .pointer (some ⟨p, 0, none⟩)), (129, .int .i64 rows.length), (130, .int .i64 j)]) (fun j => latB false p ⟨v1, v2, v3, r1, r2, r3, rowsL q.length q.length (leqI q), rowsL q.length q.length (joinI q), rowsL q.length q.length (meetI q), topK q j, botK q j⟩ ++ rsl eVal v rows :: R) 0 (by omega) ?_ ?_ fun j hj => ?_
    · repeat(first|exact Env.le_nil _|(refine Env.le_cons rfl ?_ ?_;first|rfl|(simp;done)|exact congrArg _ (by omega)|rotate_left))
    · dsimp only [List.cons_append, List.nil_append]
      rw [show topK q 0 = 0 from rfl, show botK q 0 = 0 from rfl]
      exact ent_
    dsimp only [List.cons_append, List.nil_append]
    refine go ?_
    refine Cd.condP rfl (fun h => ?_) (fun h => ?_)
    · refine go ?_
      have hT : topK q (j + 1) = atB (rowsL q.length q.length (joinI q)) (topK q j) j (-1) := by unfold topK; rw [ints_succ, List.foldl_append]; rfl
      have hB : botK q (j + 1) = atB (rowsL q.length q.length (meetI q)) (botK q j) j (-1) := by unfold botK; rw [ints_succ, List.foldl_append]; rfl
      refine Cd.cut0 (α := Unit) (fun _ => [(0, v), (4, .pointer (some ⟨p, 0, none⟩)), (129, .int .i64 rows.length), (130, .int .i64 j)]) (fun _ => latB false p ⟨v1, v2, v3, r1, r2, r3, rowsL q.length q.length (leqI q), rowsL q.length q.length (joinI q), rowsL q.length q.length (meetI q), topK q (j + 1), botK q (j + 1)⟩ ++ rsl eVal v rows :: R) (fun kk => ?_) ?_
      · dsimp only [List.cons_append, List.nil_append] at kk
        rw [hT, hB] at kk
        refine Cd.draw [[], [], [], [], [3], [3, 4], [3, 4, 5], [], [2, 3, 4, 5, 6, 7], [], [], [10], [10, 11], [10, 11, 12], [], [2, 3, 4, 5, 6, 7, 8, 9, 10, 11, 12, 13, 14], [0, 2, 3, 4, 5, 6, 7, 8, 9, 10, 11, 12, 13, 14, 15], [0, 2, 3, 4, 5, 6, 7, 8, 9, 10, 11, 12, 13, 14, 15, 16], [0, 2, 3, 4, 5, 6, 7, 8, 9, 10, 11, 12, 13, 14, 15, 16, 17], [0, 1, 2, 3, 4, 5, 6, 7, 8, 9, 10, 11, 12, 13, 14, 15, 16, 17, 18], [0, 1, 2, 3, 4, 5, 6, 7, 8, 9, 10, 11, 12, 13, 14, 15, 16, 17, 18, 19], [0, 1, 2, 3, 4, 5, 6, 7, 8, 9, 10, 11, 12, 13, 14, 15, 16, 17, 18, 19, 20]] [8, 15, 18, 21] (td := [(0, true), (1, true), (2, true), (3, true), (4, true), (5, true), (6, true), (7, true), (9, true), (10, true), (11, true), (12, true), (13, true), (14, true)]) mixed (by kernel_rfl) (by decide) (by decide) (by kernel_rfl) ?_
        refine god ?_
        refine Sg.one 8 (td := [(0, false), (1, false), (9, false), (10, false), (11, false), (12, false), (13, false), (14, false)]) (by kernel_rfl) (by kernel_rfl) ?_
        refine SpOp.eff rfl rfl rfl rfl rfl (Eff.call (R := ?_) (lattice_JoinB false p _ (hV (topK q j) (botK q j)) (topK q j) j) rfl ?_ ?_)
        rotate_left
        · exact tkl_
        rintro _ -
        dsimp only [List.cons_append, List.nil_append]
        refine god ?_
        refine Sg.one 15 (td := [(0, false), (1, false), (16, true), (17, true)]) (by kernel_rfl) (by kernel_rfl) ?_
        refine SpOp.eff rfl rfl rfl rfl rfl (Eff.call (R := ?_) (lattice_MeetB false p _ (hV (topK q j) (botK q j)) (botK q j) j) rfl ?_ ?_)
        rotate_left
        · exact tkl_
        rintro _ -
        dsimp only [List.cons_append, List.nil_append]
        refine god ?_
        refine Sg.one 18 (td := [(1, false), (19, true), (20, true)]) (by kernel_rfl) (by kernel_rfl) ?_
        refine SpOp.eff0 rfl rfl rfl rfl (Eff.store rfl rfl ?_)
        refine god ?_
        refine Sg.one 21 (td := []) (by kernel_rfl) (by kernel_rfl) ?_
        refine SpOp.eff0 rfl rfl rfl rfl (Eff.store rfl rfl ?_)
        refine god ?_
        exact Dn.weak (by repeat(first|exact Env.le_nil _|(refine Env.le_cons rfl ?_ ?_;first|rfl|(simp;done)|exact congrArg _ (by omega)|rotate_left))) (by exact ent_) (kk ())
      rintro -
      dsimp only [List.cons_append, List.nil_append]
      refine go ?_
      refine Dn.round (j + 1) (by omega) (by omega) ?_ (ents.refl _)
      repeat(first|exact Env.le_nil _|(refine Env.le_cons rfl ?_ ?_;first|rfl|(simp;done)|exact congrArg _ (by omega)|rotate_left))
    · have hje : j = q.length := by omega
      subst hje
      refine go ?_
      first | (with_reducible refine Cd.g ?_; refine Cd.share (A := (cel p 95 _)) (by exact tk_) ?_) | (with_reducible refine Ol.g ?_; refine Ol.share (A := (cel p 95 _)) (by exact tk_) ?_) | (with_reducible refine Dn.g ?_; refine Dn.share (A := (cel p 95 _)) (by exact tk_) ?_)
      refine Dn.ret2 rfl rfl rfl fun w hs => ⟨some (p, ⟨v1, v2, v3, r1, r2, r3, rowsL q.length q.length (leqI q), rowsL q.length q.length (joinI q), rowsL q.length q.length (meetI q), topK q q.length, botK q q.length⟩), rfl, ⟨?_, ⟨hV _ _, rfl, rfl, rfl, rfl, rfl⟩⟩, hs.conv (show ents _ (lat p _ :: R) from by exact ent_)⟩
      unfold latOk; rw [hord]; unfold bothRow at hb; rw [hb]; rfl
end Go.Proofs.Ytcgjmlapmdbnmaa

