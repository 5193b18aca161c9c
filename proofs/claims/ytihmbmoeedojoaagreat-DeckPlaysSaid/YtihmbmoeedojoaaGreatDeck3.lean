/- Contracts of functions of the program, proved in a small separation logic. Conditions: those that each theorem states. -/
import Derived.Test.YtihmbmoeedojoaaGreatDeck2
namespace Go.Proofs.YtihmbmoeedojoaaGreat
open Go Go.Sl
set_option maxHeartbeats 4000000
set_option maxRecDepth 100000
set_option linter.unusedVariables false
-- FN confidant/ring.taken
theorem ring_taken (p room n : Nat) (q : List AT) (hn : n ≤ q.length) :
    Sp Tryz.prog 108 [.int .i64 n, .func (.func 97) #[.pointer (some ⟨p, 0, none⟩)] #[]] [ringC p room q] (fun x : Value × List S_api_Task => q.length ≤ room ∧ room ≤ 64) (fun x => x.1) (fun x => [ringC p room (q.drop n), sl e_api_Task x.1 x.2, rel2 tkC x.2 (q.take n)]) := by
  refine Sp.intro (n := 22) Tryz.func108 rfl rfl fun w0 R => ?_
  dsimp only [List.cons_append, List.nil_append, envOf]
  first | (with_reducible refine Cd.g ?_; refine Cd.pk (A := (ringC p room q)) rfl (by exact tk_) fun x hx => ?_) | (with_reducible refine Ol.g ?_; refine Ol.pk (A := (ringC p room q)) rfl (by exact tk_) fun x hx => ?_) | (with_reducible refine Dn.g ?_; refine Dn.pk (A := (ringC p room q)) rfl (by exact tk_) fun x hx => ?_)
  dsimp only [List.cons_append, List.nil_append]
  have hr : q.length ≤ room ∧ room ≤ 64 := ⟨hx.2.2.2.2, hx.2.2.2.1⟩
  refine Cd.conv (H' := ringC p room q :: R) (ents.pk x hx (by exact ent_)) ?_
  refine go ?_
  refine Cd.loop (fun z : Nat × Value × List S_api_Task => z.1 ≤ n ∧ z.2.2.length = z.1) (fun z => n - z.1) (fun z => [(1, .func (.func 97) #[.pointer (some ⟨p, 0, none⟩)] #[]), (5, z.2.1), (8, .int .i64 n), (9, .int .i64 z.1)]) (fun z => ringC p room (q.drop z.1) :: sl e_api_Task z.2.1 z.2.2 :: rel2 tkC z.2.2 (q.take z.1) :: R) ⟨0, .slice none 0 0, []⟩ ⟨by simp, rfl⟩ ?_ ?_ ?_
  · repeat(first|exact Env.le_nil _|(refine Env.le_cons rfl ?_ ?_;first|rfl|(simp;done)|exact congrArg _ (by omega)|rotate_left))
  · rw [List.drop_zero, List.take_zero]
    exact ent_
  rintro ⟨k, v, ts⟩ ⟨hk, hl⟩
  dsimp only at hk hl ⊢
  refine go ?_
  refine Cd.condP rfl (fun h => ?_) (fun h => ?_)
  · have hk' : k < q.length := by omega
    have e1 : q.drop k = rd q k :: q.drop (k + 1) := by rw [rd_eq (by simpa using hk')]; simp
    rw [e1]
    refine go ?_;repeat((with_reducible refine Ol.g ?_);(first|refine Ol.eff rfl rfl rfl (Eff.alloc fun _=>?_)|refine Ol.eff rfl rfl rfl (Eff.box fun _=>?_)|refine Ol.eff0 rfl rfl (Eff.store rfl rfl ?_)|refine Ol.eff rfl rfl rfl (Eff.bslice rfl rfl fun _=>?_)|(refine Ol.eff0 rfl rfl (Eff.storeE rfl ?_ ?_);exact pre_)|(refine Ol.eff rfl rfl rfl (Eff.append1 rfl ?_ fun _=>?_);exact pre_));refine go ?_)
    with_reducible refine Ol.g ?_
    refine Ol.eff rfl rfl rfl (Eff.call (R := ?_) (ring_Steal p room (rd q k) (q.drop (k + 1))) rfl ?_ ?_)
    rotate_left
    · exact tkl_
    rintro t -
    dsimp only [List.cons_append, List.nil_append]
    refine go ?_;repeat((with_reducible refine Ol.g ?_);(first|refine Ol.eff rfl rfl rfl (Eff.alloc fun _=>?_)|refine Ol.eff rfl rfl rfl (Eff.box fun _=>?_)|refine Ol.eff0 rfl rfl (Eff.store rfl rfl ?_)|refine Ol.eff rfl rfl rfl (Eff.bslice rfl rfl fun _=>?_)|(refine Ol.eff0 rfl rfl (Eff.storeE rfl ?_ ?_);exact pre_)|(refine Ol.eff rfl rfl rfl (Eff.append1 rfl ?_ fun _=>?_);exact pre_));refine go ?_)
    rename_i c v'
    refine Dn.round ⟨k + 1, v', ts ++ [t]⟩ ⟨by dsimp only; omega, by simp [hl]⟩ (by dsimp only; omega) ?_ ?_
    · repeat(first|exact Env.le_nil _|(refine Env.le_cons rfl ?_ ?_;first|rfl|(simp;done)|exact congrArg _ (by omega)|rotate_left))
    · dsimp only
      rw [take_rd hk']
      exact ent_
  · have hk2 : k = n := by omega
    subst hk2
    refine go ?_
    refine Dn.ret1 rfl rfl fun w hs => ⟨(v, ts), rfl, hr, hs.conv ?_⟩
    dsimp only
    exact ent_
-- FN (*confidant/ring.Ring).Half
theorem ring_Half (p room : Nat) (q : List AT) :
    Sp Tryz.prog 96 [.pointer (some ⟨p, 0, none⟩)] [ringC p room q] (fun x : Value × List S_api_Task => q.length ≤ room ∧ room ≤ 64) (fun x => x.1) (fun x => [ringC p room (q.drop ((q.length + 1) / 2)), sl e_api_Task x.1 x.2, rel2 tkC x.2 (q.take ((q.length + 1) / 2))]) := by
  refine Sp.intro (n := 12) Tryz.func96 rfl rfl fun w0 R => ?_
  dsimp only [List.cons_append, List.nil_append, envOf]
  first | (with_reducible refine Cd.g ?_; refine Cd.pk (A := (ringC p room q)) rfl (by exact tk_) fun x hx => ?_) | (with_reducible refine Ol.g ?_; refine Ol.pk (A := (ringC p room q)) rfl (by exact tk_) fun x hx => ?_) | (with_reducible refine Dn.g ?_; refine Dn.pk (A := (ringC p room q)) rfl (by exact tk_) fun x hx => ?_)
  dsimp only [List.cons_append, List.nil_append]
  have hh : ((q.length : Int) + 1) / 2 = (((q.length + 1) / 2 : Nat) : Int) := by omega
  refine go ?_;repeat((with_reducible refine Ol.g ?_);(first|refine Ol.eff rfl rfl rfl (Eff.alloc fun _=>?_)|refine Ol.eff rfl rfl rfl (Eff.box fun _=>?_)|refine Ol.eff0 rfl rfl (Eff.store rfl rfl ?_)|refine Ol.eff rfl rfl rfl (Eff.bslice rfl rfl fun _=>?_)|(refine Ol.eff0 rfl rfl (Eff.storeE rfl ?_ ?_);exact pre_)|(refine Ol.eff rfl rfl rfl (Eff.append1 rfl ?_ fun _=>?_);exact pre_));refine go ?_)
  rw [hh]
  refine Ol.conv (H' := ringC p room q :: R) (ents.pk x hx (by exact ent_)) ?_
  with_reducible refine Ol.g ?_
  refine Ol.eff rfl rfl rfl (Eff.call (R := ?_) (ring_taken p room ((q.length + 1) / 2) q (by omega)) rfl ?_ ?_)
  rotate_left
  · exact tkl_
  rintro y hy
  dsimp only [List.cons_append, List.nil_append]
  refine go ?_;repeat((with_reducible refine Ol.g ?_);(first|refine Ol.eff rfl rfl rfl (Eff.alloc fun _=>?_)|refine Ol.eff rfl rfl rfl (Eff.box fun _=>?_)|refine Ol.eff0 rfl rfl (Eff.store rfl rfl ?_)|refine Ol.eff rfl rfl rfl (Eff.bslice rfl rfl fun _=>?_)|(refine Ol.eff0 rfl rfl (Eff.storeE rfl ?_ ?_);exact pre_)|(refine Ol.eff rfl rfl rfl (Eff.append1 rfl ?_ fun _=>?_);exact pre_));refine go ?_)
  refine Dn.ret1 rfl rfl fun w hs => ⟨y, rfl, hy, hs⟩
/-! numbers out of a seed -/
def stepI (s : Int) : Int := let a := xorI .u64 s (shlI .u64 s 13); let b := xorI .u64 a (shrI .u64 a 7); xorI .u64 b (shlI .u64 b 17)
-- FN confidant/rng.Step
theorem rng_Step (s : Int) : Sp Tryz.prog 111 [.int .u64 s] [] (fun _ : Unit => True) (fun _ => .int .u64 (stepI s)) (fun _ => []) := by
  refine Sp.intro (n := 15) Tryz.func111 rfl rfl fun w0 R => ?_
  dsimp only [List.cons_append, List.nil_append, envOf]
  refine go ?_;repeat((with_reducible refine Ol.g ?_);(first|refine Ol.eff rfl rfl rfl (Eff.alloc fun _=>?_)|refine Ol.eff rfl rfl rfl (Eff.box fun _=>?_)|refine Ol.eff0 rfl rfl (Eff.store rfl rfl ?_)|refine Ol.eff rfl rfl rfl (Eff.bslice rfl rfl fun _=>?_)|(refine Ol.eff0 rfl rfl (Eff.storeE rfl ?_ ?_);exact pre_)|(refine Ol.eff rfl rfl rfl (Eff.append1 rfl ?_ fun _=>?_);exact pre_));refine go ?_)
  refine Dn.ret1 rfl rfl fun w hs => ⟨(), rfl, trivial, hs⟩
theorem u64_nn (n : Int) : 0 ≤ IntKind.u64.wrap n ∧ IntKind.u64.wrap n ≤ 18446744073709551615 := by
  rw [IntKind.wrap_u64]; omega
theorem stepI_nn (s : Int) : 0 ≤ stepI s ∧ stepI s ≤ 18446744073709551615 := u64_nn _
abbrev rngC (p : Nat) (s : Int) : HProp := cel p 181 [.int .u64 s]
-- FN (*confidant/rng.Rng).Next
theorem rng_Next (p : Nat) (s : Int) : Sp Tryz.prog 100 [.pointer (some ⟨p, 0, none⟩)] [rngC p s] (fun _ : Unit => True) (fun _ => .int .u64 (stepI s)) (fun _ => [rngC p (stepI s)]) := by
  refine Sp.intro (n := 15) Tryz.func100 rfl rfl fun w0 R => ?_
  dsimp only [List.cons_append, List.nil_append, envOf]
  refine go ?_;repeat((with_reducible refine Ol.g ?_);(first|refine Ol.eff rfl rfl rfl (Eff.alloc fun _=>?_)|refine Ol.eff rfl rfl rfl (Eff.box fun _=>?_)|refine Ol.eff0 rfl rfl (Eff.store rfl rfl ?_)|refine Ol.eff rfl rfl rfl (Eff.bslice rfl rfl fun _=>?_)|(refine Ol.eff0 rfl rfl (Eff.storeE rfl ?_ ?_);exact pre_)|(refine Ol.eff rfl rfl rfl (Eff.append1 rfl ?_ fun _=>?_);exact pre_));refine go ?_)
  with_reducible refine Ol.g ?_
  refine Ol.eff rfl rfl rfl (Eff.call (R := ?_) (rng_Step s) rfl ?_ ?_)
  rotate_left
  · exact tkl_
  rintro _ -
  dsimp only [List.cons_append, List.nil_append]
  refine go ?_;repeat((with_reducible refine Ol.g ?_);(first|refine Ol.eff rfl rfl rfl (Eff.alloc fun _=>?_)|refine Ol.eff rfl rfl rfl (Eff.box fun _=>?_)|refine Ol.eff0 rfl rfl (Eff.store rfl rfl ?_)|refine Ol.eff rfl rfl rfl (Eff.bslice rfl rfl fun _=>?_)|(refine Ol.eff0 rfl rfl (Eff.storeE rfl ?_ ?_);exact pre_)|(refine Ol.eff rfl rfl rfl (Eff.append1 rfl ?_ fun _=>?_);exact pre_));refine go ?_)
  refine Dn.ret1 rfl rfl fun w hs => ⟨(), rfl, trivial, hs⟩
-- FN (*confidant/rng.Rng).Below
theorem rng_Below (p : Nat) (s n : Int) (hn : 1 ≤ n ∧ n ≤ 1000000) : Sp Tryz.prog 84 [.pointer (some ⟨p, 0, none⟩), .int .i64 n] [rngC p s] (fun _ : Unit => True) (fun _ => .int .i64 (stepI s % n)) (fun _ => [rngC p (stepI s)]) := by
  have h0 := stepI_nn s
  have h1 := Int.emod_nonneg (stepI s) (show n ≠ 0 by omega)
  have h2 := Int.emod_lt_of_pos (stepI s) (show 0 < n by omega)
  refine Sp.intro (n := 13) Tryz.func84 rfl rfl fun w0 R => ?_
  dsimp only [List.cons_append, List.nil_append, envOf]
  refine go ?_;repeat((with_reducible refine Ol.g ?_);(first|refine Ol.eff rfl rfl rfl (Eff.alloc fun _=>?_)|refine Ol.eff rfl rfl rfl (Eff.box fun _=>?_)|refine Ol.eff0 rfl rfl (Eff.store rfl rfl ?_)|refine Ol.eff rfl rfl rfl (Eff.bslice rfl rfl fun _=>?_)|(refine Ol.eff0 rfl rfl (Eff.storeE rfl ?_ ?_);exact pre_)|(refine Ol.eff rfl rfl rfl (Eff.append1 rfl ?_ fun _=>?_);exact pre_));refine go ?_)
  refine Cd.condP rfl (fun h => by exfalso; omega) (fun h => ?_)
  refine go ?_;repeat((with_reducible refine Ol.g ?_);(first|refine Ol.eff rfl rfl rfl (Eff.alloc fun _=>?_)|refine Ol.eff rfl rfl rfl (Eff.box fun _=>?_)|refine Ol.eff0 rfl rfl (Eff.store rfl rfl ?_)|refine Ol.eff rfl rfl rfl (Eff.bslice rfl rfl fun _=>?_)|(refine Ol.eff0 rfl rfl (Eff.storeE rfl ?_ ?_);exact pre_)|(refine Ol.eff rfl rfl rfl (Eff.append1 rfl ?_ fun _=>?_);exact pre_));refine go ?_)
  with_reducible refine Ol.g ?_
  refine Ol.eff rfl rfl rfl (Eff.call (R := ?_) (rng_Next p s) rfl ?_ ?_)
  rotate_left
  · exact tkl_
  rintro _ -
  dsimp only [List.cons_append, List.nil_append]
  refine go ?_;repeat((with_reducible refine Ol.g ?_);(first|refine Ol.eff rfl rfl rfl (Eff.alloc fun _=>?_)|refine Ol.eff rfl rfl rfl (Eff.box fun _=>?_)|refine Ol.eff0 rfl rfl (Eff.store rfl rfl ?_)|refine Ol.eff rfl rfl rfl (Eff.bslice rfl rfl fun _=>?_)|(refine Ol.eff0 rfl rfl (Eff.storeE rfl ?_ ?_);exact pre_)|(refine Ol.eff rfl rfl rfl (Eff.append1 rfl ?_ fun _=>?_);exact pre_));refine go ?_)
  refine Dn.ret1 rfl rfl fun w hs => ⟨(), rfl, trivial, hs⟩
-- FN confidant/rng.New
theorem rng_New (seed : Int) :
    Sp Tryz.prog 83 [.int .u64 seed] [] (fun _ : Nat => True) (fun p => .pointer (some ⟨p, 0, none⟩)) (fun p => [rngC p (imax seed 1)]) := by
  refine Sp.intro (n := 7) Tryz.func83 rfl rfl fun w0 R => ?_
  dsimp only [List.cons_append, List.nil_append, envOf]
  refine go ?_;repeat((with_reducible refine Ol.g ?_);(first|refine Ol.eff rfl rfl rfl (Eff.alloc fun _=>?_)|refine Ol.eff rfl rfl rfl (Eff.box fun _=>?_)|refine Ol.eff0 rfl rfl (Eff.store rfl rfl ?_)|refine Ol.eff rfl rfl rfl (Eff.bslice rfl rfl fun _=>?_)|(refine Ol.eff0 rfl rfl (Eff.storeE rfl ?_ ?_);exact pre_)|(refine Ol.eff rfl rfl rfl (Eff.append1 rfl ?_ fun _=>?_);exact pre_));refine go ?_)
  rename_i c
  refine Dn.ret1 rfl rfl fun w hs => ⟨c, rfl, trivial, hs⟩
/-! picks -/
structure PS where
  l : List Int
  s : Int
def PS.next (p : PS) (n : Int) : PS := match p.l with | [] => ⟨[], stepI p.s⟩ | _ :: l => ⟨l, p.s⟩
def PS.val (p : PS) (n : Int) : Int := match p.l with | [] => stepI p.s % n | x :: _ => x % n
def picksC (p : Nat) (s : PS) : HProp := pk (fun x : Value × Nat => s.l.length ≤ 1048576 ∧ ∀ y, y ∈ s.l → 0 ≤ y ∧ y ≤ 255) (fun x => [cel p 156 [x.1, .func (.func 84) #[.pointer (some ⟨x.2, 0, none⟩)] #[]], sl (eInt .u8) x.1 s.l, rngC x.2 s.s])
-- FN confidant/picks.New
theorem picks_New (r : Bool) (v : Value) (l : List Int) (seed : Int) (h : l.length ≤ 1048576 ∧ ∀ y, y ∈ l → 0 ≤ y ∧ y ≤ 255) :
    Sp Tryz.prog 39 [v, .int .u64 seed] [slB r (eInt .u8) v l] (fun _ : Nat => True) (fun p => .pointer (some ⟨p, 0, none⟩)) (fun p => [slB r (eInt .u8) v l, picksC p ⟨l, imax seed 1⟩]) := by
  refine Sp.intro (n := 12) Tryz.func39 rfl rfl fun w0 R => ?_
  dsimp only [List.cons_append, List.nil_append, envOf]
  refine go ?_;repeat((with_reducible refine Ol.g ?_);(first|refine Ol.eff rfl rfl rfl (Eff.alloc fun _=>?_)|refine Ol.eff rfl rfl rfl (Eff.box fun _=>?_)|refine Ol.eff0 rfl rfl (Eff.store rfl rfl ?_)|refine Ol.eff rfl rfl rfl (Eff.bslice rfl rfl fun _=>?_)|(refine Ol.eff0 rfl rfl (Eff.storeE rfl ?_ ?_);exact pre_)|(refine Ol.eff rfl rfl rfl (Eff.append1 rfl ?_ fun _=>?_);exact pre_));refine go ?_)
  with_reducible refine Ol.g ?_
  refine Ol.eff rfl rfl rfl (Eff.call (R := ?_) (clone_byte r v l (by omega)) rfl ?_ ?_)
  rotate_left
  · exact tkl_
  rintro v' -
  dsimp only [List.cons_append, List.nil_append, id]
  first | (with_reducible refine Cd.g ?_; refine Cd.know (fun w_ hw_ => one_sl (Tk.sat (A := (sl (eInt .u8) v' _)) (by exact tk_) hw_)) fun o1 => ?_) | (with_reducible refine Ol.g ?_; refine Ol.know (fun w_ hw_ => one_sl (Tk.sat (A := (sl (eInt .u8) v' _)) (by exact tk_) hw_)) fun o1 => ?_) | (with_reducible refine Dn.g ?_; refine Dn.know (fun w_ hw_ => one_sl (Tk.sat (A := (sl (eInt .u8) v' _)) (by exact tk_) hw_)) fun o1 => ?_)
  refine go ?_;repeat((with_reducible refine Ol.g ?_);(first|refine Ol.eff rfl rfl rfl (Eff.alloc fun _=>?_)|refine Ol.eff rfl rfl rfl (Eff.box fun _=>?_)|refine Ol.eff0 rfl rfl (Eff.store rfl rfl ?_)|refine Ol.eff rfl rfl rfl (Eff.bslice rfl rfl fun _=>?_)|(refine Ol.eff0 rfl rfl (Eff.storeE rfl ?_ ?_);exact pre_)|(refine Ol.eff rfl rfl rfl (Eff.append1 rfl ?_ fun _=>?_);exact pre_));refine go ?_)
  with_reducible refine Ol.g ?_
  refine Ol.eff rfl rfl rfl (Eff.call (R := ?_) (rng_New seed) rfl ?_ ?_)
  rotate_left
  · exact tkl_
  rintro p -
  dsimp only [List.cons_append, List.nil_append]
  refine go ?_;repeat((with_reducible refine Ol.g ?_);(first|refine Ol.eff rfl rfl rfl (Eff.alloc fun _=>?_)|refine Ol.eff rfl rfl rfl (Eff.box fun _=>?_)|refine Ol.eff0 rfl rfl (Eff.store rfl rfl ?_)|refine Ol.eff rfl rfl rfl (Eff.bslice rfl rfl fun _=>?_)|(refine Ol.eff0 rfl rfl (Eff.storeE rfl ?_ ?_);exact pre_)|(refine Ol.eff rfl rfl rfl (Eff.append1 rfl ?_ fun _=>?_);exact pre_));refine go ?_)
  rename_i c
  refine Dn.ret1 rfl rfl fun w hs => ⟨c, rfl, trivial, hs.conv (ents.cons (by exact tk_) (ents.pk (v', p) h ?_))⟩
  dsimp only [List.cons_append, List.nil_append]
  exact ent_
-- FN (*confidant/picks.Picks).Next
theorem picks_Next (p : Nat) (s : PS) (n : Int) (hn : 1 ≤ n ∧ n ≤ 1000000) :
    Sp Tryz.prog 40 [.pointer (some ⟨p, 0, none⟩), .int .i64 n] [picksC p s] (fun _ : Unit => 0 ≤ s.val n ∧ s.val n < n) (fun _ => .int .i64 (s.val n)) (fun _ => [picksC p (s.next n)]) := by
  have hi : imax n 1 = n := by unfold imax; split <;> omega
  have hv : 0 ≤ s.val n ∧ s.val n < n := by
    unfold PS.val; split <;> exact ⟨Int.emod_nonneg _ (by omega), Int.emod_lt_of_pos _ (by omega)⟩
  refine Sp.intro (n := 38) Tryz.func40 rfl rfl fun w0 R => ?_
  dsimp only [List.cons_append, List.nil_append, envOf]
  first | (with_reducible refine Cd.g ?_; refine Cd.pk (A := (picksC p s)) rfl (by exact tk_) fun x hx => ?_) | (with_reducible refine Ol.g ?_; refine Ol.pk (A := (picksC p s)) rfl (by exact tk_) fun x hx => ?_) | (with_reducible refine Dn.g ?_; refine Dn.pk (A := (picksC p s)) rfl (by exact tk_) fun x hx => ?_)
  dsimp only [List.cons_append, List.nil_append]
  obtain ⟨l, ss⟩ := s
  dsimp only at hx ⊢
  rcases l with _ | ⟨a, l⟩
  · refine go ?_;repeat((with_reducible refine Ol.g ?_);(first|refine Ol.eff rfl rfl rfl (Eff.alloc fun _=>?_)|refine Ol.eff rfl rfl rfl (Eff.box fun _=>?_)|refine Ol.eff0 rfl rfl (Eff.store rfl rfl ?_)|refine Ol.eff rfl rfl rfl (Eff.bslice rfl rfl fun _=>?_)|(refine Ol.eff0 rfl rfl (Eff.storeE rfl ?_ ?_);exact pre_)|(refine Ol.eff rfl rfl rfl (Eff.append1 rfl ?_ fun _=>?_);exact pre_));refine go ?_)
    rw [hi]
    with_reducible refine Ol.g ?_
    refine Ol.eff rfl rfl rfl (Eff.call (R := ?_) (rng_Below x.2 ss n hn) rfl ?_ ?_)
    rotate_left
    · exact tkl_
    rintro _ -
    dsimp only [List.cons_append, List.nil_append]
    refine go ?_;repeat((with_reducible refine Ol.g ?_);(first|refine Ol.eff rfl rfl rfl (Eff.alloc fun _=>?_)|refine Ol.eff rfl rfl rfl (Eff.box fun _=>?_)|refine Ol.eff0 rfl rfl (Eff.store rfl rfl ?_)|refine Ol.eff rfl rfl rfl (Eff.bslice rfl rfl fun _=>?_)|(refine Ol.eff0 rfl rfl (Eff.storeE rfl ?_ ?_);exact pre_)|(refine Ol.eff rfl rfl rfl (Eff.append1 rfl ?_ fun _=>?_);exact pre_));refine go ?_)
    refine Dn.ret1 rfl rfl fun w hs => ⟨(), rfl, hv, hs.conv (ents.pk x hx (by dsimp only [List.cons_append, List.nil_append, PS.next]; exact ent_))⟩
  · have ha := hx.2 a (by simp)
    refine go ?_;repeat((with_reducible refine Ol.g ?_);(first|refine Ol.eff rfl rfl rfl (Eff.alloc fun _=>?_)|refine Ol.eff rfl rfl rfl (Eff.box fun _=>?_)|refine Ol.eff0 rfl rfl (Eff.store rfl rfl ?_)|refine Ol.eff rfl rfl rfl (Eff.bslice rfl rfl fun _=>?_)|(refine Ol.eff0 rfl rfl (Eff.storeE rfl ?_ ?_);exact pre_)|(refine Ol.eff rfl rfl rfl (Eff.append1 rfl ?_ fun _=>?_);exact pre_));refine go ?_)
    rw [hi]
    refine go ?_;repeat((with_reducible refine Ol.g ?_);(first|refine Ol.eff rfl rfl rfl (Eff.alloc fun _=>?_)|refine Ol.eff rfl rfl rfl (Eff.box fun _=>?_)|refine Ol.eff0 rfl rfl (Eff.store rfl rfl ?_)|refine Ol.eff rfl rfl rfl (Eff.bslice rfl rfl fun _=>?_)|(refine Ol.eff0 rfl rfl (Eff.storeE rfl ?_ ?_);exact pre_)|(refine Ol.eff rfl rfl rfl (Eff.append1 rfl ?_ fun _=>?_);exact pre_));refine go ?_)
    rw [show rd (a :: l) 0 = a from rfl]
    refine go ?_;repeat((with_reducible refine Ol.g ?_);(first|refine Ol.eff rfl rfl rfl (Eff.alloc fun _=>?_)|refine Ol.eff rfl rfl rfl (Eff.box fun _=>?_)|refine Ol.eff0 rfl rfl (Eff.store rfl rfl ?_)|refine Ol.eff rfl rfl rfl (Eff.bslice rfl rfl fun _=>?_)|(refine Ol.eff0 rfl rfl (Eff.storeE rfl ?_ ?_);exact pre_)|(refine Ol.eff rfl rfl rfl (Eff.append1 rfl ?_ fun _=>?_);exact pre_));refine go ?_)
    refine Dn.ret1 rfl rfl fun w hs => ⟨(), rfl, hv, hs.conv (ents.pk (slcV x.1 (Int.toNat 1) 1, x.2) ⟨by have := hx.1; simp at this; dsimp only [PS.next]; omega, fun y hy => hx.2 y (by dsimp only [PS.next] at hy; simp [hy])⟩ ?_)⟩
    dsimp only [List.cons_append, List.nil_append, PS.next]
    refine ents.cons (by exact tk_) ?_
    exact ents.slc (l := 1) (E := eInt .u8) (v := x.1) (xs := a :: l) (by exact tk_) (by simp) (by exact ent_)
end Go.Proofs.YtihmbmoeedojoaaGreat

