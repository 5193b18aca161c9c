/- Contracts of functions of the program, proved in a small separation logic. Conditions: those that each theorem states. -/
import Derived.Test.YtihmbmoeedojoaaGreatRDeck14
import Derived.Test.YtihmbmoeedojoaaGreatLawDeckRights
namespace Go.Proofs.YtihmbmoeedojoaaGreat
open Go Go.Sl
set_option maxHeartbeats 4000000
set_option maxRecDepth 100000
set_option linter.unusedVariables false
theorem Cd.cutB {P : Program} {w0 : World} {n : Nat} {Q1 : Exit → Act → World → Prop} {y : Code} {e : Env} {H : List HProp} {c : Code} {id : Nat} {α : Type} (E : α → Env) (I : α → List HProp)
    (h : ∀ K : Exit → Act → World → Prop, (∀ p, Dn w0 n K .normal (E p) (I p)) → Cd P w0 n c (Exit.then (y.wp P (Exit.inBlock id K)) (Exit.inBlock id K)) e H) (k : ∀ p, Dn w0 n Q1 .normal (E p) (I p)) : Cd P w0 n c (Exit.then (y.wp P (Exit.inBlock id Q1)) (Exit.inBlock id Q1)) e H := h Q1 k
abbrev u8L (x : Int) : Prop := 0 ≤ x ∧ x ≤ 255
structure ActOk (x : S_confidantlaw24_Act) : Prop where
  w : u8L x.f_What
  k : u8L x.f_W
  n : u8L x.f_N
  f : u8L x.f_F
abbrev aP (i : Int) (x : S_confidantlaw24_Act) : AT := ⟨i, 0, x.f_F, [], 0, 0, 0, 0, 0, 0, 0, x.f_N % 6 - 1⟩
abbrev tP (i : Int) (x : S_confidantlaw24_Act) : S_api_Task := ⟨i, 0, x.f_F, .slice none 0 0, 0, 0, 0, 0, 0, 0, 0, x.f_N % 6 - 1⟩
def mk9 : Nat → FS
  | 0 => newFS [9] 1
  | k + 1 => (mk9 k).make 0 0
-- FN confidant/confidantlaw24.DeckPlays
theorem law_DeckPlays (label workers a b c : Int) (v : Value) (l : List S_confidantlaw24_Act) (h0 : u8L label) (h1 : u8L workers) (ha : u8L a) (hb : u8L b) (hc : u8L c) (hl : ∀ x, x ∈ l → ActOk x) (hm : l.length ≤ 9223372036854775807) :
    Sp Tryz.prog 3 [.int .u8 label, .int .u8 workers, .int .u8 a, .int .u8 b, .int .u8 c, v] [rsl e_confidantlaw24_Act v l] (fun _ : Unit => True) (fun _ => .bool true) (fun _ => []) := by
  have hlP := partP_len a b c
  have hpb : ∀ y, y ∈ partP a b c → 0 ≤ y ∧ y ≤ 255 := by
    intro y hy
    have := List.mem_of_mem_take hy
    simp only [List.mem_cons, List.not_mem_nil, or_false] at this
    rcases this with rfl | rfl | rfl | rfl <;> assumption
  refine Sp.intro (n := 325) Tryz.func3 rfl rfl fun w0 R => ?_
  dsimp only [List.cons_append, List.nil_append, envOf]
  refine go ?_;repeat((with_reducible refine Ol.g ?_);(first|refine Ol.eff rfl rfl rfl (Eff.alloc fun _=>?_)|refine Ol.eff rfl rfl rfl (Eff.box fun _=>?_)|refine Ol.eff0 rfl rfl (Eff.store rfl rfl ?_)|refine Ol.eff rfl rfl rfl (Eff.bslice rfl rfl fun _=>?_)|(refine Ol.eff0 rfl rfl (Eff.storeE rfl ?_ ?_);exact pre_)|(refine Ol.eff rfl rfl rfl (Eff.append1 rfl ?_ fun _=>?_);exact pre_));refine go ?_)
  with_reducible refine Ol.g ?_
  refine Ol.eff rfl rfl rfl (Eff.call (R := ?_) known24 rfl ?_ ?_)
  rotate_left
  · exact tkl_
  rintro _ -
  dsimp only [List.cons_append, List.nil_append]
  refine go ?_;repeat((with_reducible refine Ol.g ?_);(first|refine Ol.eff rfl rfl rfl (Eff.alloc fun _=>?_)|refine Ol.eff rfl rfl rfl (Eff.box fun _=>?_)|refine Ol.eff0 rfl rfl (Eff.store rfl rfl ?_)|refine Ol.eff rfl rfl rfl (Eff.bslice rfl rfl fun _=>?_)|(refine Ol.eff0 rfl rfl (Eff.storeE rfl ?_ ?_);exact pre_)|(refine Ol.eff rfl rfl rfl (Eff.append1 rfl ?_ fun _=>?_);exact pre_));refine go ?_)
  refine Cd.condP rfl (fun h => ?_) (fun h60 => ?_)
  · refine go ?_
    refine Dn.ret1 rfl rfl fun w hs => ⟨(), ?_, by trivial, by first | exact hs | (refine hs.conv ?_; exact ent_)⟩
    rfl
  refine go ?_;repeat((with_reducible refine Ol.g ?_);(first|refine Ol.eff rfl rfl rfl (Eff.alloc fun _=>?_)|refine Ol.eff rfl rfl rfl (Eff.box fun _=>?_)|refine Ol.eff0 rfl rfl (Eff.store rfl rfl ?_)|refine Ol.eff rfl rfl rfl (Eff.bslice rfl rfl fun _=>?_)|(refine Ol.eff0 rfl rfl (Eff.storeE rfl ?_ ?_);exact pre_)|(refine Ol.eff rfl rfl rfl (Eff.append1 rfl ?_ fun _=>?_);exact pre_));refine go ?_)
  with_reducible refine Ol.g ?_
  refine Ol.eff rfl rfl rfl (Eff.call (R := ?_) (seat_Part a b c ha hb hc) rfl ?_ ?_)
  rotate_left
  · exact tkl_
  rintro ⟨vi, vp⟩ -
  dsimp only [List.cons_append, List.nil_append]
  first | (with_reducible refine Cd.g ?_; refine Cd.know (fun w_ hw_ => one_sl (Tk.sat (A := (sl (eInt .i32) vi _)) (by exact tk_) hw_)) fun o1 => ?_) | (with_reducible refine Ol.g ?_; refine Ol.know (fun w_ hw_ => one_sl (Tk.sat (A := (sl (eInt .i32) vi _)) (by exact tk_) hw_)) fun o1 => ?_) | (with_reducible refine Dn.g ?_; refine Dn.know (fun w_ hw_ => one_sl (Tk.sat (A := (sl (eInt .i32) vi _)) (by exact tk_) hw_)) fun o1 => ?_)
  first | (with_reducible refine Cd.g ?_; refine Cd.know (fun w_ hw_ => one_sl (Tk.sat (A := (sl (eInt .u8) vp _)) (by exact tk_) hw_)) fun o2 => ?_) | (with_reducible refine Ol.g ?_; refine Ol.know (fun w_ hw_ => one_sl (Tk.sat (A := (sl (eInt .u8) vp _)) (by exact tk_) hw_)) fun o2 => ?_) | (with_reducible refine Dn.g ?_; refine Dn.know (fun w_ hw_ => one_sl (Tk.sat (A := (sl (eInt .u8) vp _)) (by exact tk_) hw_)) fun o2 => ?_)
  first | (with_reducible refine Cd.g ?_; refine Cd.share (A := (sl (eInt .u8) vp _)) (by exact tk_) ?_) | (with_reducible refine Ol.g ?_; refine Ol.share (A := (sl (eInt .u8) vp _)) (by exact tk_) ?_) | (with_reducible refine Dn.g ?_; refine Dn.share (A := (sl (eInt .u8) vp _)) (by exact tk_) ?_)
  refine go ?_;repeat((with_reducible refine Ol.g ?_);(first|refine Ol.eff rfl rfl rfl (Eff.alloc fun _=>?_)|refine Ol.eff rfl rfl rfl (Eff.box fun _=>?_)|refine Ol.eff0 rfl rfl (Eff.store rfl rfl ?_)|refine Ol.eff rfl rfl rfl (Eff.bslice rfl rfl fun _=>?_)|(refine Ol.eff0 rfl rfl (Eff.storeE rfl ?_ ?_);exact pre_)|(refine Ol.eff rfl rfl rfl (Eff.append1 rfl ?_ fun _=>?_);exact pre_));refine go ?_)
  rename_i cp
  refine Cd.forget 14 rfl ?_
  refine Cd.drawL (l := [_, _, _, _, _, _, _, _, _, _, _, _, _, _, _, _, _]) (z := _) [[], [0], [0, 1], [], [3], [3, 4], [], [0, 1, 2, 3, 4, 5, 6], [], [8], [8, 9], [], [11], [11, 12], [], [0, 1, 2, 3, 4, 5, 6, 7, 8, 9, 10, 11, 12, 13, 14], [0, 1, 2, 3, 4, 5, 6, 7, 8, 9, 10, 11, 12, 13, 14, 15]] [7, 15] [] (td := [(0, .fresh), (1, .fresh), (2, .fresh), (3, .fresh), (4, .fresh), (5, .fresh), (6, .fresh), (8, .fresh), (9, .fresh), (10, .fresh), (11, .fresh), (12, .fresh), (13, .fresh), (14, .fresh)]) rfl mixed (by kernel_rfl) (by kernel_rfl) (by kernel_rfl) (by decide) (by decide) rfl (by kernel_rfl) ?_
  refine god2 ?_
  refine Sg2.one (td := [(8, .old), (9, .old), (10, .old), (11, .old), (12, .old), (13, .old), (14, .old)]) rfl (by kernel_rfl) fun F7_ => ?_
  dsimp only [List.cons_append, List.nil_append]
  refine SpOp.eff rfl rfl rfl rfl rfl (Eff.call (R := ?_) (deck_New true (label % 16) (workers % 5) (partOf a b c vi vp) o1 o2 (partP a b c) ⟨by omega, hpb⟩) rfl ?_ ?_)
  rotate_left
  · exact tkl_
  rintro ⟨p, x⟩ -
  dsimp only [List.cons_append, List.nil_append]
  refine Sn.ok ?_
  refine god2 ?_
  refine Sg2.one (td := [(16, .fresh)]) rfl (by kernel_rfl) fun F15_ => ?_
  dsimp only [List.cons_append, List.nil_append]
  refine SpOp.eff rfl rfl rfl rfl rfl (Eff.call (R := ?_) (deck24_New (label % 16) (workers % 5) (partOf a b c vi vp) o1 o2 (partP a b c) (u64_nn _) ⟨by omega, hpb⟩) rfl ?_ ?_)
  rotate_left
  · exact tkl_
  rintro q -
  dsimp only [List.cons_append, List.nil_append]
  refine Sn.ok ?_
  refine god2 ?_
  have hfu : 0 ≤ (newDK (label % 16) (workers % 5) (partOf a b c vi vp) (partP a b c)).fuel ∧ (newDK (label % 16) (workers % 5) (partOf a b c vi vp) (partP a b c)).fuel ≤ 9223372036854775807 := by
    unfold newDK imax; dsimp only; split <;> omega
  generalize newDK (label % 16) (workers % 5) (partOf a b c vi vp) (partP a b c) = d0 at hfu ⊢
  refine go ?_;repeat((with_reducible refine Ol.g ?_);(first|refine Ol.eff rfl rfl rfl (Eff.alloc fun _=>?_)|refine Ol.eff rfl rfl rfl (Eff.box fun _=>?_)|refine Ol.eff0 rfl rfl (Eff.store rfl rfl ?_)|refine Ol.eff rfl rfl rfl (Eff.bslice rfl rfl fun _=>?_)|(refine Ol.eff0 rfl rfl (Eff.storeE rfl ?_ ?_);exact pre_)|(refine Ol.eff rfl rfl rfl (Eff.append1 rfl ?_ fun _=>?_);exact pre_));refine go ?_)
  rename_i vq
  with_reducible refine Ol.g ?_
  refine Ol.eff rfl rfl rfl (Eff.call (R := ?_) (fut_New false vq [9]) rfl ?_ ?_)
  rotate_left
  · exact tkl_
  rintro fp -
  dsimp only [List.cons_append, List.nil_append]
  rw [show newFS ([9] : List Int) (min ([9] : List Int).length 16) = mk9 0 from rfl]
  refine go ?_;repeat((with_reducible refine Ol.g ?_);(first|refine Ol.eff rfl rfl rfl (Eff.alloc fun _=>?_)|refine Ol.eff rfl rfl rfl (Eff.box fun _=>?_)|refine Ol.eff0 rfl rfl (Eff.store rfl rfl ?_)|refine Ol.eff rfl rfl rfl (Eff.bslice rfl rfl fun _=>?_)|(refine Ol.eff0 rfl rfl (Eff.storeE rfl ?_ ?_);exact pre_)|(refine Ol.eff rfl rfl rfl (Eff.append1 rfl ?_ fun _=>?_);exact pre_));refine go ?_)
  rename_i vq2
  with_reducible refine Ol.g ?_
  refine Ol.eff rfl rfl rfl (Eff.call (R := ?_) (fut12_New false vq2 [9]) rfl ?_ ?_)
  rotate_left
  · exact tkl_
  rintro gp -
  dsimp only [List.cons_append, List.nil_append]
  rw [show newFS ([9] : List Int) (min ([9] : List Int).length 16) = mk9 0 from rfl]
  refine go ?_;repeat((with_reducible refine Ol.g ?_);(first|refine Ol.eff rfl rfl rfl (Eff.alloc fun _=>?_)|refine Ol.eff rfl rfl rfl (Eff.box fun _=>?_)|refine Ol.eff0 rfl rfl (Eff.store rfl rfl ?_)|refine Ol.eff rfl rfl rfl (Eff.bslice rfl rfl fun _=>?_)|(refine Ol.eff0 rfl rfl (Eff.storeE rfl ?_ ?_);exact pre_)|(refine Ol.eff rfl rfl rfl (Eff.append1 rfl ?_ fun _=>?_);exact pre_));refine go ?_)
  refine Cd.loop (fun k : Nat => k ≤ 9) (fun k => 9 - k) (fun k => [(5, v), (14, .pointer (some ⟨p, 0, none⟩)), (15, .pointer (some ⟨q, 0, none⟩)), (16, .pointer (some ⟨fp, 0, none⟩)), (17, .pointer (some ⟨gp, 0, none⟩)), (18, .int .i64 k)])
    (fun k => rsl e_confidantlaw24_Act v l :: deckH p x d0 :: queueS x.qp [] 0 :: parkH x.pp [] :: deckR q d0 [] [] :: futC fp (mk9 k) :: fut12C gp (mk9 k) :: R) 0 (by omega) ?_ ?_ ?_
  · repeat(first|exact Env.le_nil _|(refine Env.le_cons rfl ?_ ?_;first|rfl|(simp;done)|exact congrArg _ (by omega)|rotate_left))
  · refine ents.cons (by exact tk_) (ents.cons (by exact tk_) (queueS_nil (by exact ent_)))
  intro k hk
  refine go ?_
  refine Cd.condP rfl (fun h => ?_) (fun h => ?_)
  · refine go ?_
    with_reducible refine Ol.g ?_
    refine Ol.eff rfl rfl rfl (Eff.call (R := ?_) (fut_Make fp (mk9 k) 0 0) rfl ?_ ?_)
    rotate_left
    · exact tkl_
    rintro _ -
    dsimp only [List.cons_append, List.nil_append]
    refine go ?_
    with_reducible refine Ol.g ?_
    refine Ol.eff rfl rfl rfl (Eff.call (R := ?_) (fut12_Make gp (mk9 k) 0 0) rfl ?_ ?_)
    rotate_left
    · exact tkl_
    rintro _ -
    dsimp only [List.cons_append, List.nil_append]
    refine go ?_
    refine Dn.round (k + 1) (by omega) (by omega) ?_ ?_
    · repeat(first|exact Env.le_nil _|(refine Env.le_cons rfl ?_ ?_;first|rfl|(simp;done)|exact congrArg _ (by omega)|rotate_left))
    · rw [show mk9 (k + 1) = (mk9 k).make 0 0 from rfl]
      exact ent_
  have hk9 : k = 9 := by omega
  subst hk9
  generalize mk9 9 = f0
  refine go ?_
  refine Cd.loop (fun z : PZ => z.k ≤ l.length ∧ pzOk z.k z) (fun z => l.length - z.k) (fun z => [(5, v), (14, .pointer (some ⟨p, 0, none⟩)), (15, .pointer (some ⟨q, 0, none⟩)), (16, .pointer (some ⟨fp, 0, none⟩)), (17, .pointer (some ⟨gp, 0, none⟩)), (19, .int .i64 z.k)])
    (fun z => rsl e_confidantlaw24_Act v l :: deckH p x z.d :: queueS x.qp z.l z.n :: parkH x.pp z.ws :: deckR q z.d z.l z.ws :: futC fp z.f :: fut12C gp z.f :: R) ⟨0, d0, [], 0, [], f0⟩ ⟨by simp, ⟨hfu, by simp, by simp, List.Pairwise.nil, fun y h => (List.not_mem_nil h).elim, by simp, fun y h => (List.not_mem_nil h).elim⟩⟩ ?_ ?_ ?_
  · repeat(first|exact Env.le_nil _|(refine Env.le_cons rfl ?_ ?_;first|rfl|(simp;done)|exact congrArg _ (by omega)|rotate_left))
  · exact ent_
  rintro ⟨k, d, ql, n, ws, f⟩ ⟨hk, hz⟩
  dsimp only at hk hz ⊢
  refine go ?_
  refine Cd.condP rfl (fun h => ?_) (fun h => ?_)
  rotate_left
  · refine go ?_
    refine Dn.ret1 rfl rfl fun w' hs => ⟨(), rfl, trivial, hs.conv (by exact ent_)⟩
  have hx := hl (rd l k) (rd_mem (by omega) (by omega))
  have hxw := hx.w; have hxk := hx.k; have hxn := hx.n; have hxf := hx.f
  refine go ?_;repeat((with_reducible refine Ol.g ?_);(first|refine Ol.eff rfl rfl rfl (Eff.alloc fun _=>?_)|refine Ol.eff rfl rfl rfl (Eff.box fun _=>?_)|refine Ol.eff0 rfl rfl (Eff.store rfl rfl ?_)|refine Ol.eff rfl rfl rfl (Eff.bslice rfl rfl fun _=>?_)|(refine Ol.eff0 rfl rfl (Eff.storeE rfl ?_ ?_);exact pre_)|(refine Ol.eff rfl rfl rfl (Eff.append1 rfl ?_ fun _=>?_);exact pre_));refine go ?_)
  rename_i ca ct
  generalize hxx : rd l k = X at hxw hxk hxn hxf ⊢
  generalize hmm : X.f_What % 12 = m at ⊢
  have hm12 : 0 ≤ m ∧ m < 12 := by omega
  generalize hww : X.f_W % 6 - 1 = w at ⊢
  first | (with_reducible refine Cd.g ?_; refine Cd.know (fun w_ hw_ => deckH_ok (Tk.sat (A := (deckH p x d)) (by exact tk_) hw_)) fun hdo => ?_) | (with_reducible refine Ol.g ?_; refine Ol.know (fun w_ hw_ => deckH_ok (Tk.sat (A := (deckH p x d)) (by exact tk_) hw_)) fun hdo => ?_) | (with_reducible refine Dn.g ?_; refine Dn.know (fun w_ hw_ => deckH_ok (Tk.sat (A := (deckH p x d)) (by exact tk_) hw_)) fun hdo => ?_)
  have hk60 : k < 60 := by omega
  have zf := hz.fu; have zn := hz.n; have zl := hz.l; have zso := hz.so; have zlt := hz.lt; have zws := hz.ws; have zlk := hz.lk
  dsimp only at zf zn zl zso zlt zws zlk
  have fr := tkFree k X.f_F (X.f_N % 6 - 1) (by omega)
  refine Cd.cutB (α := { z : PZ // z.k = k ∧ pzOk (k + 1) z }) (fun z => [(5, v), (14, .pointer (some ⟨p, 0, none⟩)), (15, .pointer (some ⟨q, 0, none⟩)), (16, .pointer (some ⟨fp, 0, none⟩)), (17, .pointer (some ⟨gp, 0, none⟩)), (19, .int .i64 k)])
    (fun z => rsl e_confidantlaw24_Act v l :: deckH p x z.1.d :: queueS x.qp z.1.l z.1.n :: parkH x.pp z.1.ws :: deckR q z.1.d z.1.l z.1.ws :: futC fp z.1.f :: fut12C gp z.1.f :: R) (fun K kk => ?_) ?_
  rotate_left
  · rintro ⟨⟨k', d', l', n', ws', f'⟩, hkk, hz'⟩
    dsimp only at hkk hz' ⊢
    subst hkk
    first | (with_reducible refine Cd.g ?_; refine Cd.know (fun w_ hw_ => deckH_ok (Tk.sat (A := (deckH p x d')) (by exact tk_) hw_)) fun hd' => ?_) | (with_reducible refine Ol.g ?_; refine Ol.know (fun w_ hw_ => deckH_ok (Tk.sat (A := (deckH p x d')) (by exact tk_) hw_)) fun hd' => ?_) | (with_reducible refine Dn.g ?_; refine Dn.know (fun w_ hw_ => deckH_ok (Tk.sat (A := (deckH p x d')) (by exact tk_) hw_)) fun hd' => ?_)
    refine go ?_
    with_reducible refine Ol.g ?_
    refine Ol.eff rfl rfl rfl (Eff.call (R := ?_) (law24_alike p q x d' l' n' ws' ⟨by omega, by omega⟩) rfl ?_ ?_)
    rotate_left
    · exact tkl_
    rintro _ -
    dsimp only [List.cons_append, List.nil_append]
    refine go ?_
    refine Dn.round ⟨k' + 1, d', l', n', ws', f'⟩ ⟨by dsimp only; omega, ⟨hz'.fu, hz'.n, hz'.l, hz'.so, hz'.lt, hz'.ws, hz'.lk⟩⟩ (by dsimp only; omega) ?_ (by exact ent_)
    repeat(first|exact Env.le_nil _|(refine Env.le_cons rfl ?_ ?_;first|rfl|(simp;done)|exact congrArg _ (by omega)|rotate_left))
  rcases (show (m = 0 ∨ m = 1 ∨ m = 2) ∨ m = 3 ∨ m = 4 ∨ m = 5 ∨ m = 6 ∨ m = 7 ∨ (m = 8 ∨ m = 9) ∨ m = 10 ∨ m = 11 by omega) with h012 | hm | hm | hm | hm | hm | h89 | hm | hm
  · rcases h012 with hm | hm | hm
    all_goals
      subst hm
      refine go ?_
      refine Cd.draw2 [[], [], [], [0, 1, 2], [], [], [], [0, 1, 2, 3, 4, 5, 6], [0, 1, 2, 3, 4, 5, 6, 7]] [3, 7] [] (td := [(0, .fresh), (1, .fresh), (2, .fresh), (4, .fresh), (5, .fresh), (6, .fresh)]) mixed (by kernel_rfl) (by kernel_rfl) (by decide) (by decide) rfl (by kernel_rfl) ?_
      refine god2 ?_
      refine Sg2.one (td := [(4, .old), (5, .old), (6, .old)]) rfl (by kernel_rfl) fun F3_ => ?_
      dsimp only [List.cons_append, List.nil_append]
      refine SpOp.eff rfl rfl rfl rfl rfl (Eff.call (R := ?_) (deck_Push p x d w (tP k X) (aP k X)) rfl ?_ ?_)
      rotate_left
      · exact tkl_
      rintro _ -
      dsimp only [List.cons_append, List.nil_append]
      refine Sn.ok ?_
      refine god2 ?_
      refine Sg2.one (td := [(8, .fresh)]) rfl (by kernel_rfl) fun F7_ => ?_
      dsimp only [List.cons_append, List.nil_append]
      refine SpOp.eff rfl rfl rfl rfl rfl (Eff.call (R := ?_) (deck24_Push q d ql ws w (tP k X) (aP k X)) rfl ?_ ?_)
      rotate_left
      · exact tkl_
      rintro _ -
      dsimp only [List.cons_append, List.nil_append]
      refine Sn.ok ?_
      refine god2 ?_
      rw [show (!(d.pushB w == d.pushB w)) = false from by simp]
      refine go ?_
      exact Dn.weak (by repeat(first|exact Env.le_nil _|(refine Env.le_cons rfl ?_ ?_;first|rfl|(simp;done)|exact congrArg _ (by omega)|rotate_left))) (by exact ent_) (kk ⟨⟨k, d.push w (aP k X), ql, n, ws, f⟩, rfl, pz_up hz (push_fuel _ _ _) rfl rfl rfl⟩)
  · subst hm
    refine go ?_
    with_reducible refine Ol.g ?_
    refine Ol.eff rfl rfl rfl (Eff.call (R := ?_) (deck_Come p x d ql n (X.f_F % 4) (tP k X) (aP k X) (by omega) (by omega)) rfl ?_ ?_)
    rotate_left
    · exact tkl_
    rintro _ -
    dsimp only [List.cons_append, List.nil_append]
    first | (with_reducible refine Cd.g ?_; refine Cd.pk (A := (deckR q d ql ws)) rfl (by exact tk_) fun y hy => ?_) | (with_reducible refine Ol.g ?_; refine Ol.pk (A := (deckR q d ql ws)) rfl (by exact tk_) fun y hy => ?_) | (with_reducible refine Dn.g ?_; refine Dn.pk (A := (deckR q d ql ws)) rfl (by exact tk_) fun y hy => ?_)
    dsimp only [List.cons_append, List.nil_append]
    refine go ?_
    refine Cd.draw2 [[], [0], [0, 1], [], [3], [3, 4], [3, 4, 5], [], [0, 1, 2, 3, 4, 5, 6, 7]] [8] [] (td := [(0, .fresh), (1, .fresh), (2, .fresh), (3, .fresh), (4, .fresh), (5, .fresh), (6, .fresh), (7, .fresh)]) mixed (by kernel_rfl) (by kernel_rfl) (by decide) (by decide) rfl (by kernel_rfl) ?_
    refine god2 ?_
    refine Sg2.one (td := []) rfl (by kernel_rfl) fun F8_ => ?_
    dsimp only [List.cons_append, List.nil_append]
    refine SpOp.eff rfl rfl rfl rfl rfl (Eff.call (R := ?_) (queue15_Push q y d ql n (X.f_F % 4) (tP k X) (aP k X) (by omega) zso zlt hy.es) rfl ?_ ?_)
    rotate_left
    · exact tkl_
    rintro ⟨v2, es2⟩ hes
    dsimp only [List.cons_append, List.nil_append] at hes ⊢
    refine Sn.ok ?_
    refine god2 ?_
    refine go ?_
    refine Dn.weak (by repeat(first|exact Env.le_nil _|(refine Env.le_cons rfl ?_ ?_;first|rfl|(simp;done)|exact congrArg _ (by omega)|rotate_left))) (ents.cons (by exact tk_) (ents.cons (by exact tk_) (ents.cons (by exact tk_) (ents.cons (by exact tk_) (ents.pk (yP y v2 es2) ⟨hy.rs, hy.hts, hy.h1, hy.h8, by rw [insQ_len]; exact hes, by rw [insQ_len]; omega, hy.wts, hy.wb⟩ (by dsimp only [List.cons_append, List.nil_append]; exact ent_)))))) (kk ⟨⟨k, d, insQ ⟨X.f_F % 4, aP k X, n⟩ ql, n + 1, ws, f⟩, rfl, ⟨zf, by dsimp only; omega, by dsimp only; rw [insQ_len]; omega, insQ_sorted _ _ zso, fun y hy => ?_, by dsimp only; omega, zlk⟩⟩)
    dsimp only at hy ⊢
    rcases insQ_mem hy with rfl | hy
    · dsimp only; omega
    · have := zlt y hy; omega
  · subst hm
    refine go ?_
    with_reducible refine Ol.g ?_
    refine Ol.eff rfl rfl rfl (Eff.call (R := ?_) (deck_Wait p x d ws (tP k X) (aP k X) (X.f_F % 10) (by omega)) rfl ?_ ?_)
    rotate_left
    · exact tkl_
    rintro _ -
    dsimp only [List.cons_append, List.nil_append]
    first | (with_reducible refine Cd.g ?_; refine Cd.pk (A := (deckR q d ql ws)) rfl (by exact tk_) fun y hy => ?_) | (with_reducible refine Ol.g ?_; refine Ol.pk (A := (deckR q d ql ws)) rfl (by exact tk_) fun y hy => ?_) | (with_reducible refine Dn.g ?_; refine Dn.pk (A := (deckR q d ql ws)) rfl (by exact tk_) fun y hy => ?_)
    dsimp only [List.cons_append, List.nil_append]
    have hyw := hy.wts
    refine go ?_
    refine Cd.draw2 [[], [], [1], [1, 2], [1, 2, 3], [1, 2, 3, 4], [], [], [7], [7, 8], [7, 8, 9], [6, 7, 8, 9, 10], [6, 7, 8, 9, 10, 11], [1, 2, 3, 4, 5, 6, 7, 8, 9, 10, 11, 12], [0, 1, 2, 3, 4, 5, 6, 7, 8, 9, 10, 11, 12, 13], [0, 1, 2, 3, 4, 5, 6, 7, 8, 9, 10, 11, 12, 13, 14], [0, 1, 2, 3, 4, 5, 6, 7, 8, 9, 10, 11, 12, 13, 14, 15], [0, 1, 2, 3, 4, 5, 6, 7, 8, 9, 10, 11, 12, 13, 14, 15, 16]] [12, 13, 17] [12] (td := [(0, .fresh), (1, .fresh), (2, .fresh), (3, .fresh), (4, .fresh), (5, .fresh), (6, .fresh), (7, .fresh), (8, .fresh), (9, .fresh), (10, .fresh), (11, .fresh), (12, .flt)]) mixed (by kernel_rfl) (by kernel_rfl) (by decide) (by decide) rfl (by kernel_rfl) ?_
    refine god2 ?_
    refine Sg2.flt (td := [(0, .old), (1, .old), (2, .old), (3, .old), (4, .old), (5, .old)]) rfl rfl rfl rfl (by kernel_rfl) fun _ => ?_
    refine god2 ?_
    refine Sg2.one (td := [(0, .old), (14, .fresh), (15, .fresh), (16, .fresh)]) rfl (by kernel_rfl) fun F13_ => ?_
    dsimp only [List.cons_append, List.nil_append]
    (with_reducible first|refine SpOp.eff rfl rfl rfl rfl rfl (Eff.x (Qx.build rfl) ?_)|refine SpOp.eff rfl rfl rfl rfl rfl (Eff.alloc fun _=>?_)|refine SpOp.eff rfl rfl rfl rfl rfl (Eff.box fun _=>?_)|refine SpOp.eff rfl rfl rfl rfl rfl (Eff.bslice rfl rfl fun _=>?_)|(refine SpOp.eff rfl rfl rfl rfl rfl (Eff.append1 rfl ?_ fun _=>?_);exact pre_)|refine SpOp.eff0 rfl rfl rfl rfl (Eff.store rfl rfl ?_)|(refine SpOp.eff0 rfl rfl rfl rfl (Eff.storeE rfl ?_ ?_);exact pre_))
    rename_i v2
    refine Sn.ok ?_
    refine god2 ?_
    refine Sg2.one (td := []) rfl (by kernel_rfl) fun F17_ => ?_
    dsimp only [List.cons_append, List.nil_append]
    refine SpOp.eff0 rfl rfl rfl rfl (Eff.store rfl rfl ?_)
    refine Sn.ok ?_
    refine god2 ?_
    refine go ?_
    refine Dn.weak (by repeat(first|exact Env.le_nil _|(refine Env.le_cons rfl ?_ ?_;first|rfl|(simp;done)|exact congrArg _ (by omega)|rotate_left))) (ents.cons (by exact tk_) (ents.cons (by exact tk_) (ents.cons (by exact tk_) (ents.cons (by exact tk_) (ents.pk (yW y v2 (y.wts ++ [⟨tP k X, X.f_F % 10⟩])) ⟨hy.rs, hy.hts, hy.h1, hy.h8, hy.es, hy.lb, by simp [hyw], by simp; omega⟩ ?_))))) (kk ⟨⟨k, d, ql, n, ws ++ [⟨aP k X, X.f_F % 10⟩], f⟩, rfl, ⟨zf, by dsimp only; omega, by dsimp only; omega, zso, zlt, by simp; omega, fun y hy => ?_⟩⟩)
    · dsimp only [List.cons_append, List.nil_append]
      exact ents.cons (by exact tk_) (ents.cons (by exact tk_) (ents.cons (by exact tk_) (ents.cons (by exact tk_) (ents.cons (by exact tk_) (ents.cons (by exact tk_) (ents.cons (by exact tk_) (ents.cons (by exact tk_) (ents.cons (by exact tk_) (ents.rsnoc (Tk.pk (A := w15C ⟨tP k X, X.f_F % 10⟩ ⟨aP k X, X.f_F % 10⟩) rfl () rfl (by exact tkl_)) (by exact tk_) (by exact ent_))))))))))
    · rcases List.mem_append.1 hy with hy | hy
      · exact zlk y hy
      · rw [List.mem_singleton] at hy; subst hy; dsimp only; omega
  · subst hm
    refine go ?_
    with_reducible refine Ol.g ?_
    refine Ol.eff rfl rfl rfl (Eff.call (R := ?_) (deck_Burn p x d zf) rfl ?_ ?_)
    rotate_left
    · exact tkl_
    rintro _ -
    dsimp only [List.cons_append, List.nil_append]
    refine go ?_
    with_reducible refine Ol.g ?_
    refine Ol.eff rfl rfl rfl (Eff.call (R := ?_) (deck24_Burn q d ql ws zf) rfl ?_ ?_)
    rotate_left
    · exact tkl_
    rintro _ -
    dsimp only [List.cons_append, List.nil_append]
    refine go ?_
    rw [show (!(decide (0 < d.fuel) == decide (0 < d.fuel))) = false from by simp]
    refine go ?_
    refine Dn.weak (by repeat(first|exact Env.le_nil _|(refine Env.le_cons rfl ?_ ?_;first|rfl|(simp;done)|exact congrArg _ (by omega)|rotate_left))) (by exact ent_) (kk ⟨⟨k, d.setF (if 0 < d.fuel then d.fuel - 1 else d.fuel), ql, n, ws, f⟩, rfl, ⟨?_, by dsimp only; omega, by dsimp only; omega, zso, zlt, by dsimp only; omega, zlk⟩⟩)
    show 0 ≤ (if 0 < d.fuel then d.fuel - 1 else d.fuel) ∧ (if 0 < d.fuel then d.fuel - 1 else d.fuel) ≤ _
    split <;> omega
  · subst hm
    refine go ?_
    have hq := pu_ok k 7 d (ql.map (·.task)) (ql.map (·.task)).length (Nat.le_refl _)
    have hq1 := hq.e; have hq2 := hq.o
    rw [List.length_map] at hq1 hq2
    have hfu' : (d.enter ql k).d.fuel = d.fuel := by unfold DK.enter; exact pu_fuel k 7 d _ _ (Nat.le_refl _)
    have hev : (d.enter ql k).ev.length = ql.length := by unfold DK.enter; rw [List.length_map]; exact hq1
    have hov : (d.enter ql k).over.length ≤ ql.length := by unfold DK.enter; rw [List.length_map]; exact hq2
    with_reducible refine Ol.g ?_
    refine Ol.eff rfl rfl rfl (Eff.call (R := ?_) (deck_Enter p x d ql n k (by omega)) rfl ?_ ?_)
    rotate_left
    · exact tkl_
    rintro ⟨_, ve, vo, to⟩ -
    dsimp only [List.cons_append, List.nil_append]
    refine go ?_
    with_reducible refine Ol.g ?_
    refine Ol.eff rfl rfl rfl (Eff.call (R := ?_) (deck24_Enter q d ql ws k (by omega)) rfl ?_ ?_)
    rotate_left
    · exact tkl_
    rintro ⟨_, ve', vo', to'⟩ -
    dsimp only [List.cons_append, List.nil_append]
    generalize d.enter ql k = u at hfu' hev hov ⊢
    refine go ?_
    with_reducible refine Ol.g ?_
    refine Ol.eff rfl rfl rfl (Eff.call (R := ?_) (ref21_SameEvents false false ve ve' u.ev u.ev (by omega) (by omega)) rfl ?_ ?_)
    rotate_left
    · exact tkl_
    rintro _ -
    dsimp only [List.cons_append, List.nil_append]
    rw [decide_eq_true (show u.ev = u.ev from rfl)]
    refine go ?_
    with_reducible refine Ol.g ?_
    refine Ol.eff rfl rfl rfl (Eff.call (R := ?_) (ref9_SameAll false false vo vo' to to' u.over (by omega)) rfl ?_ ?_)
    rotate_left
    · exact tkl_
    rintro _ -
    dsimp only [List.cons_append, List.nil_append]
    refine go ?_
    exact Dn.weak (by repeat(first|exact Env.le_nil _|(refine Env.le_cons rfl ?_ ?_;first|rfl|(simp;done)|exact congrArg _ (by omega)|rotate_left))) (by exact ent_) (kk ⟨⟨k, u.d, [], n, ws, f⟩, rfl, ⟨by dsimp only; rw [hfu']; exact zf, by dsimp only; omega, by simp, List.Pairwise.nil, fun y h => (List.not_mem_nil h).elim, by dsimp only; omega, zlk⟩⟩)
  · subst hm
    refine go ?_
    with_reducible refine Ol.g ?_
    refine Ol.eff rfl rfl rfl (Eff.call (R := ?_) (fut_Keep fp f (X.f_F % 9) 1 (by omega)) rfl ?_ ?_)
    rotate_left
    · exact tkl_
    rintro _ -
    dsimp only [List.cons_append, List.nil_append]
    refine go ?_
    with_reducible refine Ol.g ?_
    refine Ol.eff rfl rfl rfl (Eff.call (R := ?_) (fut12_Keep gp f (X.f_F % 9) 1 (by omega)) rfl ?_ ?_)
    rotate_left
    · exact tkl_
    rintro _ -
    dsimp only [List.cons_append, List.nil_append]
    generalize f.change (X.f_F % 9) ⟨1, 1, 0⟩ = f2
    have hwo := wake_ok d ws f2 k zf.2
    have w1 := hwo.fuel; have w2 := hwo.ev; have w3 := hwo.over; have w4 := hwo.st; have w5 := hwo.wl; have w6 := hwo.sub
    refine go ?_
    with_reducible refine Ol.g ?_
    refine Ol.eff rfl rfl rfl (Eff.call (R := ?_) (deck_Wake p fp x d ws f2 k zf.2 zlk (by omega)) rfl ?_ ?_)
    rotate_left
    · exact tkl_
    rintro ⟨ve, vo, to, vs, ts⟩ -
    dsimp only [List.cons_append, List.nil_append]
    refine go ?_
    with_reducible refine Ol.g ?_
    refine Ol.eff rfl rfl rfl (Eff.call (R := ?_) (deck24_Wake q gp d ql ws f2 k zf.2 zlk) rfl ?_ ?_)
    rotate_left
    · exact tkl_
    rintro ⟨ve', vo', to', vs', ts'⟩ -
    dsimp only [List.cons_append, List.nil_append]
    generalize d.wake ws f2 k = u at w1 w2 w3 w4 w5 w6 ⊢
    refine go ?_
    with_reducible refine Ol.g ?_
    refine Ol.eff rfl rfl rfl (Eff.call (R := ?_) (ref21_SameEvents false false ve ve' u.ev u.ev (by omega) (by omega)) rfl ?_ ?_)
    rotate_left
    · exact tkl_
    rintro _ -
    dsimp only [List.cons_append, List.nil_append]
    rw [decide_eq_true (show u.ev = u.ev from rfl)]
    refine go ?_
    with_reducible refine Ol.g ?_
    refine Ol.eff rfl rfl rfl (Eff.call (R := ?_) (ref9_SameAll false false vo vo' to to' u.over (by omega)) rfl ?_ ?_)
    rotate_left
    · exact tkl_
    rintro _ -
    dsimp only [List.cons_append, List.nil_append]
    refine go ?_
    with_reducible refine Ol.g ?_
    refine Ol.eff rfl rfl rfl (Eff.call (R := ?_) (ref9_SameAll false false vs vs' ts ts' u.starved (by omega)) rfl ?_ ?_)
    rotate_left
    · exact tkl_
    rintro _ -
    dsimp only [List.cons_append, List.nil_append]
    refine go ?_
    exact Dn.weak (by repeat(first|exact Env.le_nil _|(refine Env.le_cons rfl ?_ ?_;first|rfl|(simp;done)|exact congrArg _ (by omega)|rotate_left))) (by exact ent_) (kk ⟨⟨k, u.d, ql, n, u.ws, f2⟩, rfl, ⟨w1, by dsimp only; omega, by dsimp only; omega, zso, zlt, by dsimp only; omega, fun y hy => zlk y (w6 y hy)⟩⟩)
  · rcases h89 with hm | hm
    all_goals
      subst hm
      refine go ?_
      with_reducible refine Ol.g ?_
      refine Ol.eff rfl rfl rfl (Eff.call (R := ?_) (deck_Find p x d w k) rfl ?_ ?_)
      rotate_left
      · exact tkl_
      rintro ⟨t1, ve⟩ -
      dsimp only [List.cons_append, List.nil_append]
      refine go ?_;repeat((with_reducible refine Ol.g ?_);(first|refine Ol.eff rfl rfl rfl (Eff.alloc fun _=>?_)|refine Ol.eff rfl rfl rfl (Eff.box fun _=>?_)|refine Ol.eff0 rfl rfl (Eff.store rfl rfl ?_)|refine Ol.eff rfl rfl rfl (Eff.bslice rfl rfl fun _=>?_)|(refine Ol.eff0 rfl rfl (Eff.storeE rfl ?_ ?_);exact pre_)|(refine Ol.eff rfl rfl rfl (Eff.append1 rfl ?_ fun _=>?_);exact pre_));refine go ?_)
      with_reducible refine Ol.g ?_
      refine Ol.eff rfl rfl rfl (Eff.call (R := ?_) (deck24_Find q d ql ws w k) rfl ?_ ?_)
      rotate_left
      · exact tkl_
      rintro ⟨t2, ve'⟩ -
      dsimp only [List.cons_append, List.nil_append]
      have hev := find_ev d w k
      have hff := find_fuel d w k
      generalize d.find w k = u at hev hff ⊢
      refine go ?_;repeat((with_reducible refine Ol.g ?_);(first|refine Ol.eff rfl rfl rfl (Eff.alloc fun _=>?_)|refine Ol.eff rfl rfl rfl (Eff.box fun _=>?_)|refine Ol.eff0 rfl rfl (Eff.store rfl rfl ?_)|refine Ol.eff rfl rfl rfl (Eff.bslice rfl rfl fun _=>?_)|(refine Ol.eff0 rfl rfl (Eff.storeE rfl ?_ ?_);exact pre_)|(refine Ol.eff rfl rfl rfl (Eff.append1 rfl ?_ fun _=>?_);exact pre_));refine go ?_)
      rw [show (!(u.ok == u.ok)) = false from by simp]
      refine go ?_
      with_reducible refine Ol.g ?_
      refine Ol.eff rfl rfl rfl (Eff.call (R := ?_) (ref9_Same t1 t2 u.a) rfl ?_ ?_)
      rotate_left
      · exact tkl_
      rintro _ -
      dsimp only [List.cons_append, List.nil_append]
      refine go ?_
      with_reducible refine Ol.g ?_
      refine Ol.eff rfl rfl rfl (Eff.call (R := ?_) (ref21_SameEvents false false ve ve' u.ev u.ev (by omega) (by omega)) rfl ?_ ?_)
      rotate_left
      · exact tkl_
      rintro _ -
      dsimp only [List.cons_append, List.nil_append]
      rw [decide_eq_true (show u.ev = u.ev from rfl)]
      refine go ?_
      exact Dn.weak (by repeat(first|exact Env.le_nil _|(refine Env.le_cons rfl ?_ ?_;first|rfl|(simp;done)|exact congrArg _ (by omega)|rotate_left))) (by exact ent_) (kk ⟨⟨k, u.d, ql, n, ws, f⟩, rfl, pz_up hz hff rfl rfl rfl⟩)
  · subst hm
    first | (with_reducible refine Cd.g ?_; refine Cd.pk (A := (deckR q d ql ws)) rfl (by exact tk_) fun y hy => ?_) | (with_reducible refine Ol.g ?_; refine Ol.pk (A := (deckR q d ql ws)) rfl (by exact tk_) fun y hy => ?_) | (with_reducible refine Dn.g ?_; refine Dn.pk (A := (deckR q d ql ws)) rfl (by exact tk_) fun y hy => ?_)
    dsimp only [List.cons_append, List.nil_append]
    have hrs := hy.rs; have hht := hy.hts
    have hfl : (d.hands.map hFu).length = d.hands.length := List.length_map _
    refine go ?_
    refine Ol.cutN (α := Unit) (fun _ => [(303, .bool (d.hasB w)), (5, v), (14, .pointer (some ⟨p, 0, none⟩)), (15, .pointer (some ⟨q, 0, none⟩)), (16, .pointer (some ⟨fp, 0, none⟩)), (17, .pointer (some ⟨gp, 0, none⟩)), (19, .int .i64 k), (21, .int .i64 w), (22, .pointer (some ⟨ct, 0, none⟩))])
      (fun _ => cel ct 45 (tC (tP k X)) :: rsl e_confidantlaw24_Act v l :: deckH p x d :: queueS x.qp ql n :: parkH x.pp ws :: futC fp f :: fut12C gp f :: partsR q y d ql ws ++ R) (fun K2 k2 => ?_) ?_
    · dsimp only [List.cons_append, List.nil_append] at k2
      by_cases g0 : 0 ≤ w
      · rw [decide_eq_true (show w ≥ 0 from g0)]
        refine go ?_
        refine Dn.weak ?_ (by exact ent_) (k2 ())
        rw [show d.hasB w = decide (w < (y.rs.length : Int)) from by unfold DK.hasB; rw [hrs]; exact decide_eq_decide.2 ⟨fun h => h.2, fun h => ⟨g0, h⟩⟩]
        repeat(first|exact Env.le_nil _|(refine Env.le_cons rfl ?_ ?_;first|rfl|(simp;done)|exact congrArg _ (by omega)|rotate_left))
      · rw [decide_eq_false (show ¬ w ≥ 0 from g0)]
        refine go ?_
        refine Dn.weak ?_ (by exact ent_) (k2 ())
        rw [show d.hasB w = false from decide_eq_false fun h => g0 h.1]
        repeat(first|exact Env.le_nil _|(refine Env.le_cons rfl ?_ ?_;first|rfl|(simp;done)|exact congrArg _ (by omega)|rotate_left))
    rintro -
    dsimp only [List.cons_append, List.nil_append]
    cases hb : d.hasB w with
    | true =>
      have hw : 0 ≤ w ∧ w < (d.hands.length : Int) := of_decide_eq_true hb
      refine go ?_
      refine Cd.draw2 [[], [0], [0, 1], [0, 1, 2], [], [], [5], [5, 6], [5, 6, 7], [], [], [0, 1, 2, 3, 4, 5, 6, 7, 8, 10], [0, 1, 2, 3, 4, 5, 6, 7, 8, 10, 11], [0, 1, 2, 3, 4, 5, 6, 7, 8, 9, 10, 11, 12], [0, 1, 2, 3, 4, 5, 6, 7, 8, 9, 10, 11, 12, 13]] [12, 14] [] (td := [(0, .fresh), (1, .fresh), (2, .fresh), (3, .fresh), (4, .fresh), (5, .fresh), (6, .fresh), (7, .fresh), (8, .fresh), (9, .fresh), (10, .fresh), (11, .fresh)]) mixed (by kernel_rfl) (by kernel_rfl) (by decide) (by decide) rfl (by kernel_rfl) ?_
      refine god2 ?_
      refine Sg2.one (td := [(9, .old), (13, .fresh)]) rfl (by kernel_rfl) fun F12_ => ?_
      dsimp only [List.cons_append, List.nil_append]
      (with_reducible first|refine SpOp.eff rfl rfl rfl rfl rfl (Eff.x (Qx.build rfl) ?_)|refine SpOp.eff rfl rfl rfl rfl rfl (Eff.alloc fun _=>?_)|refine SpOp.eff rfl rfl rfl rfl rfl (Eff.box fun _=>?_)|refine SpOp.eff rfl rfl rfl rfl rfl (Eff.bslice rfl rfl fun _=>?_)|(refine SpOp.eff rfl rfl rfl rfl rfl (Eff.append1 rfl ?_ fun _=>?_);exact pre_)|refine SpOp.eff0 rfl rfl rfl rfl (Eff.store rfl rfl ?_)|(refine SpOp.eff0 rfl rfl rfl rfl (Eff.storeE rfl ?_ ?_);exact pre_))
      refine Sn.ok ?_
      refine god2 ?_
      refine Sg2.one (td := []) rfl (by kernel_rfl) fun F14_ => ?_
      dsimp only [List.cons_append, List.nil_append]
      (with_reducible first|refine SpOp.eff rfl rfl rfl rfl rfl (Eff.x (Qx.build rfl) ?_)|refine SpOp.eff rfl rfl rfl rfl rfl (Eff.alloc fun _=>?_)|refine SpOp.eff rfl rfl rfl rfl rfl (Eff.box fun _=>?_)|refine SpOp.eff rfl rfl rfl rfl rfl (Eff.bslice rfl rfl fun _=>?_)|(refine SpOp.eff rfl rfl rfl rfl rfl (Eff.append1 rfl ?_ fun _=>?_);exact pre_)|refine SpOp.eff0 rfl rfl rfl rfl (Eff.store rfl rfl ?_)|(refine SpOp.eff0 rfl rfl rfl rfl (Eff.storeE rfl ?_ ?_);exact pre_))
      refine Sn.ok ?_
      refine god2 ?_
      refine go ?_
      with_reducible refine Ol.g ?_
      refine Ol.eff rfl rfl rfl (Eff.call (R := ?_) (deck_Hold p x d w (tP k X) (aP k X)) rfl ?_ ?_)
      rotate_left
      · exact tkl_
      rintro _ -
      dsimp only [List.cons_append, List.nil_append]
      refine go ?_
      refine Dn.weak (by repeat(first|exact Env.le_nil _|(refine Env.le_cons rfl ?_ ?_;first|rfl|(simp;done)|exact congrArg _ (by omega)|rotate_left))) (ents.cons (by exact tk_) (ents.cons (by exact tk_) (ents.cons (by exact tk_) (ents.cons (by exact tk_) (deckR_hold hy hw (t := tP k X) (a := aP k X) (by exact ent_)))))) (kk ⟨⟨k, d.hold w (aP k X), ql, n, ws, f⟩, rfl, pz_up hz (hold_fuel _ _ _) rfl rfl rfl⟩)
    | false =>
      have e : d.hold w (aP k X) = d := by unfold DK.hold; rw [hb]
      refine go ?_
      with_reducible refine Ol.g ?_
      refine Ol.eff rfl rfl rfl (Eff.call (R := ?_) (deck_Hold p x d w (tP k X) (aP k X)) rfl ?_ ?_)
      rotate_left
      · exact tkl_
      rintro _ -
      dsimp only [List.cons_append, List.nil_append]
      rw [e]
      refine go ?_
      refine Dn.weak (by repeat(first|exact Env.le_nil _|(refine Env.le_cons rfl ?_ ?_;first|rfl|(simp;done)|exact congrArg _ (by omega)|rotate_left))) (ents.cons (by exact tk_) (ents.cons (by exact tk_) (ents.cons (by exact tk_) (ents.cons (by exact tk_) (ents.pk y hy (by dsimp only [List.cons_append, List.nil_append]; exact ent_)))))) (kk ⟨⟨k, d, ql, n, ws, f⟩, rfl, pz_up hz rfl rfl rfl rfl⟩)
  · subst hm
    first | (with_reducible refine Cd.g ?_; refine Cd.pk (A := (deckR q d ql ws)) rfl (by exact tk_) fun y hy => ?_) | (with_reducible refine Ol.g ?_; refine Ol.pk (A := (deckR q d ql ws)) rfl (by exact tk_) fun y hy => ?_) | (with_reducible refine Dn.g ?_; refine Dn.pk (A := (deckR q d ql ws)) rfl (by exact tk_) fun y hy => ?_)
    dsimp only [List.cons_append, List.nil_append]
    have hrs := hy.rs; have hht := hy.hts
    have hfl : (d.hands.map hFu).length = d.hands.length := List.length_map _
    refine go ?_
    refine Ol.cutN (α := Unit) (fun _ => [(114, .bool (d.hasB w)), (5, v), (14, .pointer (some ⟨p, 0, none⟩)), (15, .pointer (some ⟨q, 0, none⟩)), (16, .pointer (some ⟨fp, 0, none⟩)), (17, .pointer (some ⟨gp, 0, none⟩)), (19, .int .i64 k), (21, .int .i64 w)])
      (fun _ => rsl e_confidantlaw24_Act v l :: deckH p x d :: queueS x.qp ql n :: parkH x.pp ws :: futC fp f :: fut12C gp f :: partsR q y d ql ws ++ R) (fun K2 k2 => ?_) ?_
    · dsimp only [List.cons_append, List.nil_append] at k2
      by_cases g0 : 0 ≤ w
      · rw [decide_eq_true (show w ≥ 0 from g0)]
        refine go ?_
        refine Dn.weak ?_ (by exact ent_) (k2 ())
        rw [show d.hasB w = decide (w < (y.rs.length : Int)) from by unfold DK.hasB; rw [hrs]; exact decide_eq_decide.2 ⟨fun h => h.2, fun h => ⟨g0, h⟩⟩]
        repeat(first|exact Env.le_nil _|(refine Env.le_cons rfl ?_ ?_;first|rfl|(simp;done)|exact congrArg _ (by omega)|rotate_left))
      · rw [decide_eq_false (show ¬ w ≥ 0 from g0)]
        refine go ?_
        refine Dn.weak ?_ (by exact ent_) (k2 ())
        rw [show d.hasB w = false from decide_eq_false fun h => g0 h.1]
        repeat(first|exact Env.le_nil _|(refine Env.le_cons rfl ?_ ?_;first|rfl|(simp;done)|exact congrArg _ (by omega)|rotate_left))
    rintro -
    dsimp only [List.cons_append, List.nil_append]
    cases hb : d.hasB w with
    | true =>
      have hw : 0 ≤ w ∧ w < (d.hands.length : Int) := of_decide_eq_true hb
      refine Dn.then ?_
      refine Cd.rel (R := heldC) (l := y.hts) (q := d.hands.map hHF) w (by exact tk_) (by simpa using hw) ?_
      rw [rd_map hHF hw]
      refine Cd.conv (H' := heldC (rd y.hts w) ((rd d.hands w).held, (rd d.hands w).full) :: _) (ents.refl _) ?_
      first | (with_reducible refine Cd.g ?_; refine Cd.pk (A := (heldC (rd y.hts w) ((rd d.hands w).held, (rd d.hands w).full))) rfl (by exact tk_) fun a0 ha0 => ?_) | (with_reducible refine Ol.g ?_; refine Ol.pk (A := (heldC (rd y.hts w) ((rd d.hands w).held, (rd d.hands w).full))) rfl (by exact tk_) fun a0 ha0 => ?_) | (with_reducible refine Dn.g ?_; refine Dn.pk (A := (heldC (rd y.hts w) ((rd d.hands w).held, (rd d.hands w).full))) rfl (by exact tk_) fun a0 ha0 => ?_)
      dsimp only [List.cons_append, List.nil_append]
      refine go ?_;repeat((with_reducible refine Ol.g ?_);(first|refine Ol.eff rfl rfl rfl (Eff.alloc fun _=>?_)|refine Ol.eff rfl rfl rfl (Eff.box fun _=>?_)|refine Ol.eff0 rfl rfl (Eff.store rfl rfl ?_)|refine Ol.eff rfl rfl rfl (Eff.bslice rfl rfl fun _=>?_)|(refine Ol.eff0 rfl rfl (Eff.storeE rfl ?_ ?_);exact pre_)|(refine Ol.eff rfl rfl rfl (Eff.append1 rfl ?_ fun _=>?_);exact pre_));refine go ?_)
      with_reducible refine Ol.g ?_
      refine Ol.eff rfl rfl rfl (Eff.call (R := ?_) (deck_Drop p x d w) rfl ?_ ?_)
      rotate_left
      · exact tkl_
      rintro _ -
      dsimp only [List.cons_append, List.nil_append]
      refine go ?_
      refine Dn.weak (by repeat(first|exact Env.le_nil _|(refine Env.le_cons rfl ?_ ?_;first|rfl|(simp;done)|exact congrArg _ (by omega)|rotate_left))) (ents.cons (by exact tk_) (ents.cons (by exact tk_) (ents.cons (by exact tk_) (ents.cons (by exact tk_) (deckR_drop hy hw (a := a0) (by exact ent_)))))) (kk ⟨⟨k, d.drop w, ql, n, ws, f⟩, rfl, pz_up hz (drop_fuel _ _) rfl rfl rfl⟩)
    | false =>
      have e : d.drop w = d := by unfold DK.drop; rw [hb]
      refine go ?_
      with_reducible refine Ol.g ?_
      refine Ol.eff rfl rfl rfl (Eff.call (R := ?_) (deck_Drop p x d w) rfl ?_ ?_)
      rotate_left
      · exact tkl_
      rintro _ -
      dsimp only [List.cons_append, List.nil_append]
      rw [e]
      refine go ?_
      refine Dn.weak (by repeat(first|exact Env.le_nil _|(refine Env.le_cons rfl ?_ ?_;first|rfl|(simp;done)|exact congrArg _ (by omega)|rotate_left))) (ents.cons (by exact tk_) (ents.cons (by exact tk_) (ents.cons (by exact tk_) (ents.cons (by exact tk_) (ents.pk y hy (by dsimp only [List.cons_append, List.nil_append]; exact ent_)))))) (kk ⟨⟨k, d, ql, n, ws, f⟩, rfl, pz_up hz rfl rfl rfl rfl⟩)
end Go.Proofs.YtihmbmoeedojoaaGreat

