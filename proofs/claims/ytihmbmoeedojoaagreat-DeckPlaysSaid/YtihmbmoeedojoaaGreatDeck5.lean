/- Contracts of functions of the program, proved in a small separation logic. Conditions: those that each theorem states. -/
import Derived.Test.YtihmbmoeedojoaaGreatDeck4
namespace Go.Proofs.YtihmbmoeedojoaaGreat
open Go Go.Sl
set_option maxHeartbeats 4000000
set_option maxRecDepth 100000
set_option linter.unusedVariables false
theorem hands_back {bs : List Nat} {hs : List Hand} {k : Int} (h0 : 0 ≤ k) (hk : k < (hs.length : Int)) (z : Nat × S_api_Task) {H L : List HProp}
    (kk : ents H (cel (rd bs k) 99 (handL z.1 z.2 (rd hs k).full) :: ringC z.1 (rd hs k).room (rd hs k).q :: tkC z.2 (rd hs k).held :: rel2H handC k.toNat bs hs :: L)) : ents H (rel2 handC bs hs :: L) := by
  refine ents.trans kk ?_
  refine ents.trans (ents.pk (p := fun _ : Nat × S_api_Task => True) (L := fun y => [cel (rd bs k) 99 (handL y.1 y.2 (rd hs k).full), ringC y.1 (rd hs k).room (rd hs k).q, tkC y.2 (rd hs k).held]) (R := rel2H handC k.toNat bs hs :: L) z trivial (by dsimp only [List.cons_append, List.nil_append]; exact ent_)) ?_
  refine (show ents (handC (rd bs k) (rd hs k) :: rel2H handC k.toNat bs hs :: L) _ from ?_)
  exact ents.relback h0 hk (Tk.hd _ _) (Tk.hd _ _) (by exact ent_)
theorem ring_len {r room : Nat} {q : List AT} {w : World} (h : sat w (ringC r room q)) : q.length ≤ room ∧ room ≤ 64 := by
  obtain ⟨_, _, _, f, g, _, _, hp, _⟩ := h; exact ⟨hp.2.2.2.2, hp.2.2.2.1⟩
def DK.setF (d : DK) (f : Int) : DK := { d with fuel := f }
-- FN (*confidant/deck.Deck).Burn
theorem deck_Burn (p : Nat) (x : DX) (d : DK) (hf : 0 ≤ d.fuel ∧ d.fuel ≤ 9223372036854775807) :
    Sp Tryz.prog 17 [.pointer (some ⟨p, 0, none⟩)] [deckH p x d] (fun _ : Unit => True) (fun _ => .bool (decide (0 < d.fuel))) (fun _ => [deckH p x (d.setF (if 0 < d.fuel then d.fuel - 1 else d.fuel))]) := by
  refine Sp.intro (n := 15) Tryz.func17 rfl rfl fun w0 R => ?_
  dsimp only [List.cons_append, List.nil_append, envOf]
  first | (with_reducible refine Cd.g ?_; refine Cd.pk (A := (deckH p x d)) rfl (by exact tk_) fun u hd => ?_) | (with_reducible refine Ol.g ?_; refine Ol.pk (A := (deckH p x d)) rfl (by exact tk_) fun u hd => ?_) | (with_reducible refine Dn.g ?_; refine Dn.pk (A := (deckH p x d)) rfl (by exact tk_) fun u hd => ?_)
  dsimp only [List.cons_append, List.nil_append]
  refine go ?_;repeat((with_reducible refine Ol.g ?_);(first|refine Ol.eff rfl rfl rfl (Eff.alloc fun _=>?_)|refine Ol.eff rfl rfl rfl (Eff.box fun _=>?_)|refine Ol.eff0 rfl rfl (Eff.store rfl rfl ?_)|refine Ol.eff rfl rfl rfl (Eff.bslice rfl rfl fun _=>?_)|(refine Ol.eff0 rfl rfl (Eff.storeE rfl ?_ ?_);exact pre_)|(refine Ol.eff rfl rfl rfl (Eff.append1 rfl ?_ fun _=>?_);exact pre_));refine go ?_)
  refine Cd.condP rfl (fun h => ?_) (fun h => ?_)
  · refine go ?_;repeat((with_reducible refine Ol.g ?_);(first|refine Ol.eff rfl rfl rfl (Eff.alloc fun _=>?_)|refine Ol.eff rfl rfl rfl (Eff.box fun _=>?_)|refine Ol.eff0 rfl rfl (Eff.store rfl rfl ?_)|refine Ol.eff rfl rfl rfl (Eff.bslice rfl rfl fun _=>?_)|(refine Ol.eff0 rfl rfl (Eff.storeE rfl ?_ ?_);exact pre_)|(refine Ol.eff rfl rfl rfl (Eff.append1 rfl ?_ fun _=>?_);exact pre_));refine go ?_)
    refine Dn.ret1 rfl rfl fun w hs => ⟨(), by rw [decide_eq_false (by omega)], trivial, hs.conv ?_⟩
    rw [if_neg (by omega)]
    exact ents.pk () hd (by dsimp only [DK.setF]; exact ent_)
  · refine go ?_;repeat((with_reducible refine Ol.g ?_);(first|refine Ol.eff rfl rfl rfl (Eff.alloc fun _=>?_)|refine Ol.eff rfl rfl rfl (Eff.box fun _=>?_)|refine Ol.eff0 rfl rfl (Eff.store rfl rfl ?_)|refine Ol.eff rfl rfl rfl (Eff.bslice rfl rfl fun _=>?_)|(refine Ol.eff0 rfl rfl (Eff.storeE rfl ?_ ?_);exact pre_)|(refine Ol.eff rfl rfl rfl (Eff.append1 rfl ?_ fun _=>?_);exact pre_));refine go ?_)
    refine Dn.ret1 rfl rfl fun w hs => ⟨(), by rw [decide_eq_true (by omega)], trivial, hs.conv ?_⟩
    rw [if_pos (by omega)]
    exact ents.pk () hd (by dsimp only [DK.setF]; exact ent_)
-- FN (*confidant/deck.Deck).Fuel
theorem deck_Fuel (p : Nat) (x : DX) (d : DK) :
    Sp Tryz.prog 76 [.pointer (some ⟨p, 0, none⟩)] [deckH p x d] (fun _ : Unit => True) (fun _ => .int .i64 d.fuel) (fun _ => [deckH p x d]) := by
  refine Sp.intro (n := 7) Tryz.func76 rfl rfl fun w0 R => ?_
  dsimp only [List.cons_append, List.nil_append, envOf]
  first | (with_reducible refine Cd.g ?_; refine Cd.pk (A := (deckH p x d)) rfl (by exact tk_) fun u hd => ?_) | (with_reducible refine Ol.g ?_; refine Ol.pk (A := (deckH p x d)) rfl (by exact tk_) fun u hd => ?_) | (with_reducible refine Dn.g ?_; refine Dn.pk (A := (deckH p x d)) rfl (by exact tk_) fun u hd => ?_)
  dsimp only [List.cons_append, List.nil_append]
  refine go ?_;repeat((with_reducible refine Ol.g ?_);(first|refine Ol.eff rfl rfl rfl (Eff.alloc fun _=>?_)|refine Ol.eff rfl rfl rfl (Eff.box fun _=>?_)|refine Ol.eff0 rfl rfl (Eff.store rfl rfl ?_)|refine Ol.eff rfl rfl rfl (Eff.bslice rfl rfl fun _=>?_)|(refine Ol.eff0 rfl rfl (Eff.storeE rfl ?_ ?_);exact pre_)|(refine Ol.eff rfl rfl rfl (Eff.append1 rfl ?_ fun _=>?_);exact pre_));refine go ?_)
  refine Dn.ret1 rfl rfl fun w hs => ⟨(), rfl, trivial, hs.conv (ents.pk () hd (by exact ent_))⟩
abbrev evV (e : S_api_Event) : Value := .agg #[.int .i64 e.f_Round, .int .i64 e.f_Label, .int .i64 e.f_Kind, .int .i64 e.f_Worker, .int .i32 e.f_Task, .int .i32 e.f_A, .int .i32 e.f_B]
def evOf (label round kind : Int) (a : AT) : S_api_Event := ⟨round, label, kind, a.worker, a.id, 0, 0⟩
-- FN (*confidant/deck.Deck).event
theorem deck_event (p : Nat) (x : DX) (d : DK) (round kind : Int) (t : S_api_Task) (a : AT) :
    Sp Tryz.prog 68 [.pointer (some ⟨p, 0, none⟩), .int .i64 round, .int .i64 kind, tV t] [cel p 94 (deckL x d), tkC t a] (fun _ : Unit => True) (fun _ => evV (evOf d.label round kind a)) (fun _ => [cel p 94 (deckL x d)]) := by
  refine Sp.intro (n := 20) Tryz.func68 rfl rfl fun w0 R => ?_
  dsimp only [List.cons_append, List.nil_append, envOf]
  first | (with_reducible refine Cd.g ?_; refine Cd.know (fun w_ hw_ => tkC_ok (Tk.sat (A := (tkC t a)) (by exact tk_) hw_)) fun ha => ?_) | (with_reducible refine Ol.g ?_; refine Ol.know (fun w_ hw_ => tkC_ok (Tk.sat (A := (tkC t a)) (by exact tk_) hw_)) fun ha => ?_) | (with_reducible refine Dn.g ?_; refine Dn.know (fun w_ hw_ => tkC_ok (Tk.sat (A := (tkC t a)) (by exact tk_) hw_)) fun ha => ?_)
  have e1 : t.f_Worker = a.worker := congrArg AT.worker ha.1
  have e2 : t.f_Id = a.id := congrArg AT.id ha.1
  refine go ?_;repeat((with_reducible refine Ol.g ?_);(first|refine Ol.eff rfl rfl rfl (Eff.alloc fun _=>?_)|refine Ol.eff rfl rfl rfl (Eff.box fun _=>?_)|refine Ol.eff0 rfl rfl (Eff.store rfl rfl ?_)|refine Ol.eff rfl rfl rfl (Eff.bslice rfl rfl fun _=>?_)|(refine Ol.eff0 rfl rfl (Eff.storeE rfl ?_ ?_);exact pre_)|(refine Ol.eff rfl rfl rfl (Eff.append1 rfl ?_ fun _=>?_);exact pre_));refine go ?_)
  rename_i c c2
  refine Cd.draw2 [[], [], [1], [1, 2], [1, 2, 3], [], [], [6], [], [8], [0, 1, 2, 3, 4, 5, 6, 7, 8, 9], [0, 1, 2, 3, 4, 5, 6, 7, 8, 9, 10]] [11] [] (td := [(0, .fresh), (1, .fresh), (2, .fresh), (3, .fresh), (4, .fresh), (5, .fresh), (6, .fresh), (7, .fresh), (8, .fresh), (9, .fresh), (10, .fresh)]) mixed (by kernel_rfl) (by kernel_rfl) (by decide) (by decide) rfl (by kernel_rfl) ?_
  refine god2 ?_
  refine Sg2.one (td := []) rfl (by kernel_rfl) fun F11_ => ?_
  dsimp only [List.cons_append, List.nil_append]
  (with_reducible first|refine SpOp.eff rfl rfl rfl rfl rfl (Eff.x (Qx.build rfl) ?_)|refine SpOp.eff rfl rfl rfl rfl rfl (Eff.alloc fun _=>?_)|refine SpOp.eff rfl rfl rfl rfl rfl (Eff.box fun _=>?_)|refine SpOp.eff rfl rfl rfl rfl rfl (Eff.bslice rfl rfl fun _=>?_)|(refine SpOp.eff rfl rfl rfl rfl rfl (Eff.append1 rfl ?_ fun _=>?_);exact pre_)|refine SpOp.eff0 rfl rfl rfl rfl (Eff.store rfl rfl ?_)|(refine SpOp.eff0 rfl rfl rfl rfl (Eff.storeE rfl ?_ ?_);exact pre_))
  refine Sn.ok ?_
  refine god2 ?_
  refine go ?_
  refine Dn.retC rfl rfl trivial fun w hs => ⟨(), by unfold evOf; rw [← e1, ← e2], trivial, hs.conv (by exact ent_)⟩
def DK.othersB (d : DK) (w : Int) : Bool := (ints d.hands.length).any fun i => decide (i ≠ w) && decide (0 < (rd d.hands i).q.length)
-- FN (*confidant/deck.Deck).others
theorem deck_others (p : Nat) (x : DX) (d : DK) (w : Int) (hd : dOk x d) :
    Sp Tryz.prog 65 [.pointer (some ⟨p, 0, none⟩), .int .i64 w] [cel p 94 (deckL x d), sl ePtr x.vh x.bs, rel2 handC x.bs d.hands] (fun _ : Unit => True) (fun _ => .bool (d.othersB w)) (fun _ => [cel p 94 (deckL x d), sl ePtr x.vh x.bs, rel2 handC x.bs d.hands]) := by
  refine Sp.intro (n := 29) Tryz.func65 rfl rfl fun w0 R => ?_
  dsimp only [List.cons_append, List.nil_append, envOf]
  refine go ?_
  refine Cd.loop (fun k : Nat => k ≤ x.bs.length ∧ ((ints k).any fun i => decide (i ≠ w) && decide (0 < (rd d.hands i).q.length)) = false) (fun k => x.bs.length - k) (fun k => [(1, .int .i64 w), (10, x.vh), (11, .int .i64 x.bs.length), (12, .int .i64 k)]) (fun k => cel p 94 (deckL x d) :: sl ePtr x.vh x.bs :: rel2 handC x.bs d.hands :: R) 0 ⟨by simp, rfl⟩ ?_ ?_ ?_
  · repeat(first|exact Env.le_nil _|(refine Env.le_cons rfl ?_ ?_;first|rfl|(simp;done)|exact congrArg _ (by omega)|rotate_left))
  · exact ent_
  rintro k ⟨hk, hf⟩
  refine go ?_
  refine Cd.condP rfl (fun h => ?_) (fun h => ?_)
  · have hk' : (k : Int) < d.hands.length := by rw [hd.1]; exact h
    refine Cd.rel (R := handC) (l := x.bs) (q := d.hands) k (by exact tk_) ⟨by omega, hk'⟩ ?_
    first | (with_reducible refine Cd.g ?_; refine Cd.pk (A := (handC (rd x.bs k) (rd d.hands k))) rfl (by exact tk_) fun z hz => ?_) | (with_reducible refine Ol.g ?_; refine Ol.pk (A := (handC (rd x.bs k) (rd d.hands k))) rfl (by exact tk_) fun z hz => ?_) | (with_reducible refine Dn.g ?_; refine Dn.pk (A := (handC (rd x.bs k) (rd d.hands k))) rfl (by exact tk_) fun z hz => ?_)
    dsimp only [List.cons_append, List.nil_append]
    refine go ?_
    by_cases hw : (k : Int) = w
    · rw [decide_eq_false (show ¬ ((k : Int) ≠ w) from fun h => h hw)]
      refine go ?_
      refine Dn.round (k + 1) ⟨by omega, ?_⟩ (by omega) ?_ ?_
      · rw [ints_succ, List.any_append, hf]; simp [hw]
      · repeat(first|exact Env.le_nil _|(refine Env.le_cons rfl ?_ ?_;first|rfl|(simp;done)|exact congrArg _ (by omega)|rotate_left))
      · exact ents.cons (by exact tk_) (ents.cons (by exact tk_) (hands_back (by omega) hk' z (by exact ent_)))
    · rw [decide_eq_true hw]
      refine go ?_
      with_reducible refine Ol.g ?_
      refine Ol.eff rfl rfl rfl (Eff.call (R := ?_) (ring_LenC z.1 (rd d.hands k).room (rd d.hands k).q) rfl ?_ ?_)
      rotate_left
      · exact tkl_
      rintro _ -
      dsimp only [List.cons_append, List.nil_append]
      refine go ?_
      refine Cd.condP rfl (fun h2 => ?_) (fun h2 => ?_)
      · refine go ?_
        refine Dn.ret1 rfl rfl fun w' hs => ⟨(), ?_, trivial, hs.conv (ents.cons (by exact tk_) (ents.cons (by exact tk_) (hands_back (by omega) hk' z (by exact ent_))))⟩
        have : d.othersB w = true := List.any_eq_true.2 ⟨k, ints_mem.2 ⟨by omega, hk'⟩, by simp [hw]; omega⟩
        rw [this]
      · refine go ?_
        refine Dn.round (k + 1) ⟨by omega, ?_⟩ (by omega) ?_ ?_
        · rw [ints_succ, List.any_append, hf]; simp; intro _; simpa using h2
        · repeat(first|exact Env.le_nil _|(refine Env.le_cons rfl ?_ ?_;first|rfl|(simp;done)|exact congrArg _ (by omega)|rotate_left))
        · exact ents.cons (by exact tk_) (ents.cons (by exact tk_) (hands_back (by omega) hk' z (by exact ent_)))
  · refine go ?_
    refine Dn.ret1 rfl rfl fun w' hs => ⟨(), ?_, trivial, hs⟩
    have : k = d.hands.length := by rw [hd.1]; omega
    unfold DK.othersB; rw [← this, hf]
-- FN (*confidant/deck.Deck).stolen
def DK.take (d : DK) (n : Nat) : Nat := if d.half then (n + 1) / 2 else 1
theorem deck_stolen (p b r room : Nat) (x : DX) (d : DK) (t : S_api_Task) (full : Bool) (a : AT) (q : List AT) :
    Sp Tryz.prog 67 [.pointer (some ⟨p, 0, none⟩), .pointer (some ⟨b, 0, none⟩)] [cel p 94 (deckL x d), cel b 99 (handL r t full), ringC r room (a :: q)] (fun y : Value × List S_api_Task => q.length + 1 ≤ 64) (fun y => y.1)
      (fun y => [cel p 94 (deckL x d), cel b 99 (handL r t full), ringC r room ((a :: q).drop (d.take (a :: q).length)), sl e_api_Task y.1 y.2, rel2 tkC y.2 ((a :: q).take (d.take (a :: q).length))]) := by
  refine Sp.intro (n := 26) Tryz.func67 rfl rfl fun w0 R => ?_
  dsimp only [List.cons_append, List.nil_append, envOf]
  refine go ?_
  cases hh : d.half with
  | true =>
    refine go ?_
    with_reducible refine Ol.g ?_
    refine Ol.eff rfl rfl rfl (Eff.call (R := ?_) (ring_Half r room (a :: q)) rfl ?_ ?_)
    rotate_left
    · exact tkl_
    rintro y hy
    dsimp only [List.cons_append, List.nil_append]
    refine go ?_
    refine Dn.ret1 rfl rfl fun w hs => ⟨y, rfl, by have := hy.1; simp at this; omega, hs.conv ?_⟩
    unfold DK.take; rw [hh, if_pos rfl]
    exact ent_
  | false =>
    refine go ?_
    first | (with_reducible refine Cd.g ?_; refine Cd.know (fun w_ hw_ => ring_len (Tk.sat (A := (ringC r room (a :: q))) (by exact tk_) hw_)) fun hr => ?_) | (with_reducible refine Ol.g ?_; refine Ol.know (fun w_ hw_ => ring_len (Tk.sat (A := (ringC r room (a :: q))) (by exact tk_) hw_)) fun hr => ?_) | (with_reducible refine Dn.g ?_; refine Dn.know (fun w_ hw_ => ring_len (Tk.sat (A := (ringC r room (a :: q))) (by exact tk_) hw_)) fun hr => ?_)
    with_reducible refine Ol.g ?_
    refine Ol.eff rfl rfl rfl (Eff.call (R := ?_) (ring_Steal r room a q) rfl ?_ ?_)
    rotate_left
    · exact tkl_
    rintro u -
    dsimp only [List.cons_append, List.nil_append]
    refine go ?_;repeat((with_reducible refine Ol.g ?_);(first|refine Ol.eff rfl rfl rfl (Eff.alloc fun _=>?_)|refine Ol.eff rfl rfl rfl (Eff.box fun _=>?_)|refine Ol.eff0 rfl rfl (Eff.store rfl rfl ?_)|refine Ol.eff rfl rfl rfl (Eff.bslice rfl rfl fun _=>?_)|(refine Ol.eff0 rfl rfl (Eff.storeE rfl ?_ ?_);exact pre_)|(refine Ol.eff rfl rfl rfl (Eff.append1 rfl ?_ fun _=>?_);exact pre_));refine go ?_)
    rename_i c v
    refine Dn.ret1 rfl rfl fun w hs => ⟨(v, [u]), rfl, by have := hr.1; simp at this; omega, hs.conv ?_⟩
    unfold DK.take; rw [hh]
    refine (show ents _ (cel p 94 _ :: cel b 99 (handL r t full) :: ringC r room q :: sl e_api_Task v [u] :: rel2 tkC ([] ++ [u]) ([] ++ [a]) :: R) from ?_)
    exact ent_
end Go.Proofs.YtihmbmoeedojoaaGreat

