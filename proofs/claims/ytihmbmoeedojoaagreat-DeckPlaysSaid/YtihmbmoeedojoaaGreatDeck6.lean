/- Contracts of functions of the program, proved in a small separation logic. Conditions: those that each theorem states. -/
import Derived.Test.YtihmbmoeedojoaaGreatDeck5
namespace Go.Proofs.YtihmbmoeedojoaaGreat
open Go Go.Sl
set_option maxHeartbeats 4000000
set_option maxRecDepth 100000
set_option linter.unusedVariables false
/-! who comes, who waits -/
structure QI where
  round : Int
  task : AT
  seq : Int
  deriving DecidableEq
instance : Dfl QI := ⟨⟨0, zA, 0⟩⟩
def itC (t : S_queue_item) (y : QI) : HProp := pk (fun _ : Unit => t.f_Entry.f_Round = y.round ∧ t.f_seq = y.seq) (fun _ => [tkC t.f_Entry.f_Task y.task])
instance (t : S_queue_item) (y : QI) : Pers (itC t y) := Pers.ex fun _ => inferInstance
def queueH (p : Nat) (l : List QI) (n : Int) : HProp := pk (fun x : Value × List S_queue_item => x.2.length = l.length ∧ l.length ≤ 1048576 ∧ 0 ≤ n ∧ n ≤ 1048576) (fun x => [cel p 148 [x.1, .int .i64 n], sl e_queue_item x.1 x.2, rel2 itC x.2 l])
structure WT where
  task : AT
  fut : Int
  deriving DecidableEq
instance : Dfl WT := ⟨⟨zA, 0⟩⟩
def wtC (t : S_park_Waiting) (y : WT) : HProp := pk (fun _ : Unit => t.f_Future = y.fut) (fun _ => [tkC t.f_Task y.task])
instance (t : S_park_Waiting) (y : WT) : Pers (wtC t y) := Pers.ex fun _ => inferInstance
def parkH (p : Nat) (l : List WT) : HProp := pk (fun x : Value × List S_park_Waiting => x.2.length = l.length ∧ l.length ≤ 1048576) (fun x => [cel p 151 [x.1], sl e_park_Waiting x.1 x.2, rel2 wtC x.2 l])
-- FN confidant/queue.New
theorem queue_New : Sp Tryz.prog 37 [] [] (fun _ : Nat => True) (fun p => .pointer (some ⟨p, 0, none⟩)) (fun p => [queueH p [] 0]) := by
  refine Sp.intro (n := 3) Tryz.func37 rfl rfl fun w0 R => ?_
  dsimp only [List.cons_append, List.nil_append, envOf]
  refine go ?_;repeat((with_reducible refine Ol.g ?_);(first|refine Ol.eff rfl rfl rfl (Eff.alloc fun _=>?_)|refine Ol.eff rfl rfl rfl (Eff.box fun _=>?_)|refine Ol.eff0 rfl rfl (Eff.store rfl rfl ?_)|refine Ol.eff rfl rfl rfl (Eff.bslice rfl rfl fun _=>?_)|(refine Ol.eff0 rfl rfl (Eff.storeE rfl ?_ ?_);exact pre_)|(refine Ol.eff rfl rfl rfl (Eff.append1 rfl ?_ fun _=>?_);exact pre_));refine go ?_)
  rename_i c
  refine Dn.ret1 rfl rfl fun w hs => ⟨c, rfl, trivial, hs.conv (ents.pk (.slice none 0 0, []) ⟨rfl, by decide, by decide, by decide⟩ (by dsimp only [List.cons_append, List.nil_append]; exact ent_))⟩
-- FN confidant/park.New
theorem park_New : Sp Tryz.prog 38 [] [] (fun _ : Nat => True) (fun p => .pointer (some ⟨p, 0, none⟩)) (fun p => [parkH p []]) := by
  refine Sp.intro (n := 3) Tryz.func38 rfl rfl fun w0 R => ?_
  dsimp only [List.cons_append, List.nil_append, envOf]
  refine go ?_;repeat((with_reducible refine Ol.g ?_);(first|refine Ol.eff rfl rfl rfl (Eff.alloc fun _=>?_)|refine Ol.eff rfl rfl rfl (Eff.box fun _=>?_)|refine Ol.eff0 rfl rfl (Eff.store rfl rfl ?_)|refine Ol.eff rfl rfl rfl (Eff.bslice rfl rfl fun _=>?_)|(refine Ol.eff0 rfl rfl (Eff.storeE rfl ?_ ?_);exact pre_)|(refine Ol.eff rfl rfl rfl (Eff.append1 rfl ?_ fun _=>?_);exact pre_));refine go ?_)
  rename_i c
  refine Dn.ret1 rfl rfl fun w hs => ⟨c, rfl, trivial, hs.conv (ents.pk (.slice none 0 0, []) ⟨rfl, by decide⟩ (by dsimp only [List.cons_append, List.nil_append]; exact ent_))⟩
-- FN (*confidant/queue.Queue).Len
theorem queue_Len (p : Nat) (l : List QI) (n : Int) : Sp Tryz.prog 78 [.pointer (some ⟨p, 0, none⟩)] [queueH p l n] (fun _ : Unit => l.length ≤ 1048576) (fun _ => .int .i64 l.length) (fun _ => [queueH p l n]) := by
  refine Sp.intro (n := 8) Tryz.func78 rfl rfl fun w0 R => ?_
  dsimp only [List.cons_append, List.nil_append, envOf]
  first | (with_reducible refine Cd.g ?_; refine Cd.pk (A := (queueH p l n)) rfl (by exact tk_) fun x hx => ?_) | (with_reducible refine Ol.g ?_; refine Ol.pk (A := (queueH p l n)) rfl (by exact tk_) fun x hx => ?_) | (with_reducible refine Dn.g ?_; refine Dn.pk (A := (queueH p l n)) rfl (by exact tk_) fun x hx => ?_)
  dsimp only [List.cons_append, List.nil_append]
  refine go ?_;repeat((with_reducible refine Ol.g ?_);(first|refine Ol.eff rfl rfl rfl (Eff.alloc fun _=>?_)|refine Ol.eff rfl rfl rfl (Eff.box fun _=>?_)|refine Ol.eff0 rfl rfl (Eff.store rfl rfl ?_)|refine Ol.eff rfl rfl rfl (Eff.bslice rfl rfl fun _=>?_)|(refine Ol.eff0 rfl rfl (Eff.storeE rfl ?_ ?_);exact pre_)|(refine Ol.eff rfl rfl rfl (Eff.append1 rfl ?_ fun _=>?_);exact pre_));refine go ?_)
  refine Dn.ret1 rfl rfl fun w hs => ⟨(), by rw [hx.1], hx.2.1, hs.conv (ents.pk x hx (by dsimp only [List.cons_append, List.nil_append]; exact ent_))⟩
-- FN (*confidant/park.Park).Len
theorem park_Len (p : Nat) (l : List WT) : Sp Tryz.prog 79 [.pointer (some ⟨p, 0, none⟩)] [parkH p l] (fun _ : Unit => l.length ≤ 1048576) (fun _ => .int .i64 l.length) (fun _ => [parkH p l]) := by
  refine Sp.intro (n := 8) Tryz.func79 rfl rfl fun w0 R => ?_
  dsimp only [List.cons_append, List.nil_append, envOf]
  first | (with_reducible refine Cd.g ?_; refine Cd.pk (A := (parkH p l)) rfl (by exact tk_) fun x hx => ?_) | (with_reducible refine Ol.g ?_; refine Ol.pk (A := (parkH p l)) rfl (by exact tk_) fun x hx => ?_) | (with_reducible refine Dn.g ?_; refine Dn.pk (A := (parkH p l)) rfl (by exact tk_) fun x hx => ?_)
  dsimp only [List.cons_append, List.nil_append]
  refine go ?_;repeat((with_reducible refine Ol.g ?_);(first|refine Ol.eff rfl rfl rfl (Eff.alloc fun _=>?_)|refine Ol.eff rfl rfl rfl (Eff.box fun _=>?_)|refine Ol.eff0 rfl rfl (Eff.store rfl rfl ?_)|refine Ol.eff rfl rfl rfl (Eff.bslice rfl rfl fun _=>?_)|(refine Ol.eff0 rfl rfl (Eff.storeE rfl ?_ ?_);exact pre_)|(refine Ol.eff rfl rfl rfl (Eff.append1 rfl ?_ fun _=>?_);exact pre_));refine go ?_)
  refine Dn.ret1 rfl rfl fun w hs => ⟨(), by rw [hx.1], hx.2, hs.conv (ents.pk x hx (by dsimp only [List.cons_append, List.nil_append]; exact ent_))⟩
def Hand.live (h : Hand) : Nat := h.q.length + (if h.full then 1 else 0)
def liveK (hs : List Hand) (k : Nat) : Nat := ((hs.take k).map Hand.live).sum
theorem liveK_succ (hs : List Hand) {k : Nat} (h : k < hs.length) : liveK hs (k + 1) = liveK hs k + (rd hs k).live := by
  unfold liveK; rw [take_rd h]; simp
-- FN (*confidant/deck.Deck).Live
theorem deck_Live (p : Nat) (x : DX) (d : DK) (l : List QI) (n : Int) (ws : List WT) :
    Sp Tryz.prog 34 [.pointer (some ⟨p, 0, none⟩)] [deckH p x d, queueH x.qp l n, parkH x.pp ws] (fun _ : Unit => True) (fun _ => .int .i64 ((l.length : Int) + ws.length + (liveK d.hands d.hands.length : Nat))) (fun _ => [deckH p x d, queueH x.qp l n, parkH x.pp ws]) := by
  refine Sp.intro (n := 41) Tryz.func34 rfl rfl fun w0 R => ?_
  dsimp only [List.cons_append, List.nil_append, envOf]
  first | (with_reducible refine Cd.g ?_; refine Cd.pk (A := (deckH p x d)) rfl (by exact tk_) fun u hd => ?_) | (with_reducible refine Ol.g ?_; refine Ol.pk (A := (deckH p x d)) rfl (by exact tk_) fun u hd => ?_) | (with_reducible refine Dn.g ?_; refine Dn.pk (A := (deckH p x d)) rfl (by exact tk_) fun u hd => ?_)
  dsimp only [List.cons_append, List.nil_append]
  refine go ?_;repeat((with_reducible refine Ol.g ?_);(first|refine Ol.eff rfl rfl rfl (Eff.alloc fun _=>?_)|refine Ol.eff rfl rfl rfl (Eff.box fun _=>?_)|refine Ol.eff0 rfl rfl (Eff.store rfl rfl ?_)|refine Ol.eff rfl rfl rfl (Eff.bslice rfl rfl fun _=>?_)|(refine Ol.eff0 rfl rfl (Eff.storeE rfl ?_ ?_);exact pre_)|(refine Ol.eff rfl rfl rfl (Eff.append1 rfl ?_ fun _=>?_);exact pre_));refine go ?_)
  refine Cd.drawL (l := [_, _, _, _, _, _, _, _, _, _, _]) (z := _) [[], [0], [0, 1], [0, 1, 2], [0, 1, 2, 3], [], [5], [5, 6], [5, 6, 7], [0, 1, 2, 3, 4, 5, 6, 7, 8], [0, 1, 2, 3, 4, 5, 6, 7, 8, 9]] [4, 9] [] (td := [(0, .fresh), (1, .fresh), (2, .fresh), (3, .fresh), (5, .fresh), (6, .fresh), (7, .fresh), (8, .fresh)]) rfl mixed (by kernel_rfl) (by kernel_rfl) (by kernel_rfl) (by decide) (by decide) rfl (by kernel_rfl) ?_
  refine god2 ?_
  refine Sg2.one (td := [(5, .old), (6, .old), (7, .old), (8, .old)]) rfl (by kernel_rfl) fun F4_ => ?_
  dsimp only [List.cons_append, List.nil_append]
  refine SpOp.eff rfl rfl rfl rfl rfl (Eff.call (R := ?_) (queue_Len x.qp l n) rfl ?_ ?_)
  rotate_left
  · exact tkl_
  rintro _ hl
  dsimp only [List.cons_append, List.nil_append]
  refine Sn.ok ?_
  refine god2 ?_
  refine Sg2.one (td := [(10, .fresh)]) rfl (by kernel_rfl) fun F9_ => ?_
  dsimp only [List.cons_append, List.nil_append]
  refine SpOp.eff rfl rfl rfl rfl rfl (Eff.call (R := ?_) (park_Len x.pp ws) rfl ?_ ?_)
  rotate_left
  · exact tkl_
  rintro _ hw
  dsimp only [List.cons_append, List.nil_append]
  refine Sn.ok ?_
  refine god2 ?_
  refine go ?_
  refine Cd.loop (fun k : Nat => k ≤ x.bs.length ∧ liveK d.hands k ≤ 65 * k) (fun k => x.bs.length - k) (fun k => [(0, .pointer (some ⟨p, 0, none⟩)), (3, .int .i64 ((l.length : Int) + ws.length + (liveK d.hands k : Nat))), (20, x.vh), (21, .int .i64 x.bs.length), (22, .int .i64 k)]) (fun k => queueH x.qp l n :: parkH x.pp ws :: cel p 94 (deckL x d) :: sl ePtr x.vh x.bs :: rel2 handC x.bs d.hands :: picksC x.pk d.picks :: R) 0 ⟨by omega, by simp [liveK]⟩ ?_ ?_ ?_
  · rw [show liveK d.hands 0 = 0 from by simp [liveK], show ((0 : Nat) : Int) = 0 from rfl, Int.add_zero]
    repeat(first|exact Env.le_nil _|(refine Env.le_cons rfl ?_ ?_;first|rfl|(simp;done)|exact congrArg _ (by omega)|rotate_left))
  · exact ent_
  rintro k ⟨hk, hf⟩
  refine go ?_
  refine Cd.condP rfl (fun h => ?_) (fun h => ?_)
  · have hk' : (k : Int) < d.hands.length := by rw [hd.1]; exact h
    refine Cd.rel (R := handC) (l := x.bs) (q := d.hands) k (by exact tk_) ⟨by omega, hk'⟩ ?_
    first | (with_reducible refine Cd.g ?_; refine Cd.pk (A := (handC (rd x.bs k) (rd d.hands k))) rfl (by exact tk_) fun z hz => ?_) | (with_reducible refine Ol.g ?_; refine Ol.pk (A := (handC (rd x.bs k) (rd d.hands k))) rfl (by exact tk_) fun z hz => ?_) | (with_reducible refine Dn.g ?_; refine Dn.pk (A := (handC (rd x.bs k) (rd d.hands k))) rfl (by exact tk_) fun z hz => ?_)
    dsimp only [List.cons_append, List.nil_append]
    first | (with_reducible refine Cd.g ?_; refine Cd.know (fun w_ hw_ => ring_len (Tk.sat (A := (ringC z.1 (rd d.hands k).room (rd d.hands k).q)) (by exact tk_) hw_)) fun hr => ?_) | (with_reducible refine Ol.g ?_; refine Ol.know (fun w_ hw_ => ring_len (Tk.sat (A := (ringC z.1 (rd d.hands k).room (rd d.hands k).q)) (by exact tk_) hw_)) fun hr => ?_) | (with_reducible refine Dn.g ?_; refine Dn.know (fun w_ hw_ => ring_len (Tk.sat (A := (ringC z.1 (rd d.hands k).room (rd d.hands k).q)) (by exact tk_) hw_)) fun hr => ?_)
    have hs1 := liveK_succ d.hands (k := k) (by omega)
    have hlv : (rd d.hands k).live ≤ 65 := by unfold Hand.live; split <;> omega
    have hk8 : k < 8 := by omega
    refine go ?_
    with_reducible refine Ol.g ?_
    refine Ol.eff rfl rfl rfl (Eff.call (R := ?_) (ring_LenC z.1 (rd d.hands k).room (rd d.hands k).q) rfl ?_ ?_)
    rotate_left
    · exact tkl_
    rintro _ -
    dsimp only [List.cons_append, List.nil_append]
    cases hb : (rd d.hands k).full with
    | true =>
      have e : (rd d.hands k).live = (rd d.hands k).q.length + 1 := by unfold Hand.live; rw [hb]; rfl
      refine go ?_
      refine Dn.round (k + 1) ⟨by omega, by omega⟩ (by omega) ?_ ?_
      · rw [hs1, e]
        repeat(first|exact Env.le_nil _|(refine Env.le_cons rfl ?_ ?_;first|rfl|(simp;done)|exact congrArg _ (by omega)|rotate_left))
      · exact ents.cons (by exact tk_) (ents.cons (by exact tk_) (ents.cons (by exact tk_) (ents.cons (by exact tk_) (hands_back (by omega) hk' z (by rw [hb]; exact ent_)))))
    | false =>
      have e : (rd d.hands k).live = (rd d.hands k).q.length := by unfold Hand.live; rw [hb]; rfl
      refine go ?_
      refine Dn.round (k + 1) ⟨by omega, by omega⟩ (by omega) ?_ ?_
      · rw [hs1, e]
        repeat(first|exact Env.le_nil _|(refine Env.le_cons rfl ?_ ?_;first|rfl|(simp;done)|exact congrArg _ (by omega)|rotate_left))
      · exact ents.cons (by exact tk_) (ents.cons (by exact tk_) (ents.cons (by exact tk_) (ents.cons (by exact tk_) (hands_back (by omega) hk' z (by rw [hb]; exact ent_)))))
  · refine go ?_
    refine Dn.ret1 rfl rfl fun w' hs => ⟨(), ?_, trivial, hs.conv (ents.pk () hd (by exact ent_))⟩
    rw [show k = d.hands.length from by rw [hd.1]; omega]
abbrev partV (s : S_api_Part) : Value := .agg #[.int .i64 s.f_Ring, .bool s.f_Half, .int .i64 s.f_Fuel, .int .i64 s.f_Refs, .int .i64 s.f_Futures, s.f_Inputs, s.f_Picks, .int .u64 s.f_Seed]
def newDK (label workers : Int) (s : S_api_Part) (l : List Int) : DK := ⟨label, s.f_Half, imax s.f_Fuel 0, List.replicate (imin (imax workers 1) 8).toNat ⟨(imin (imax s.f_Ring 1) 64).toNat, [], zA, false⟩, ⟨l, imax s.f_Seed 1⟩⟩
-- FN confidant/deck.New
theorem deck_New (r : Bool) (label workers : Int) (s : S_api_Part) (hin : One s.f_Inputs) (hpk : One s.f_Picks) (l : List Int) (h : l.length ≤ 1048576 ∧ ∀ y, y ∈ l → 0 ≤ y ∧ y ≤ 255) :
    Sp Tryz.prog 6 [.int .i64 label, .int .i64 workers, partV s] [slB r (eInt .u8) s.f_Picks l] (fun _ : Nat × DX => True) (fun y => .pointer (some ⟨y.1, 0, none⟩)) (fun y => [slB r (eInt .u8) s.f_Picks l, deckH y.1 y.2 (newDK label workers s l), queueH y.2.qp [] 0, parkH y.2.pp []]) := by
  have hn : 1 ≤ imin (imax workers 1) 8 ∧ imin (imax workers 1) 8 ≤ 8 := by unfold imin imax; split <;> split <;> omega
  refine Sp.intro (n := 45) Tryz.func6 rfl rfl fun w0 R => ?_
  dsimp only [List.cons_append, List.nil_append, envOf]
  refine go ?_;repeat((with_reducible refine Ol.g ?_);(first|refine Ol.eff rfl rfl rfl (Eff.alloc fun _=>?_)|refine Ol.eff rfl rfl rfl (Eff.box fun _=>?_)|refine Ol.eff0 rfl rfl (Eff.store rfl rfl ?_)|refine Ol.eff rfl rfl rfl (Eff.bslice rfl rfl fun _=>?_)|(refine Ol.eff0 rfl rfl (Eff.storeE rfl ?_ ?_);exact pre_)|(refine Ol.eff rfl rfl rfl (Eff.append1 rfl ?_ fun _=>?_);exact pre_));refine go ?_)
  rename_i c
  refine Cd.drawL (l := [_, _, _, _, _, _, _, _, _, _, _, _, _, _, _, _]) (z := _) [[], [], [1], [], [3], [3, 4], [], [6], [], [8], [], [10], [6, 7, 8, 9, 10, 11], [6, 7, 8, 9, 10, 11, 12], [0, 1, 2, 3, 4, 5, 6, 7, 8, 9, 10, 11, 12, 13], [0, 1, 2, 3, 4, 5, 6, 7, 8, 9, 10, 11, 12, 13, 14]] [6, 7, 12, 15] [] (td := [(0, .fresh), (1, .fresh), (2, .fresh), (3, .fresh), (4, .fresh), (5, .fresh), (8, .fresh), (9, .fresh), (10, .fresh), (11, .fresh)]) rfl mixed (by kernel_rfl) (by kernel_rfl) (by kernel_rfl) (by decide) (by decide) rfl (by kernel_rfl) ?_
  refine god2 ?_
  refine Sg2.one (td := [(0, .old), (1, .old), (2, .old), (3, .old), (4, .old), (5, .old), (8, .old), (9, .old), (10, .old), (11, .old)]) rfl (by kernel_rfl) fun F6_ => ?_
  dsimp only [List.cons_append, List.nil_append]
  refine SpOp.eff rfl rfl rfl rfl rfl (Eff.call (R := ?_) queue_New rfl ?_ ?_)
  rotate_left
  · exact tkl_
  rintro qp -
  dsimp only [List.cons_append, List.nil_append]
  refine Sn.ok ?_
  refine god2 ?_
  refine Sg2.one (td := [(0, .old), (1, .old), (2, .old), (3, .old), (4, .old), (5, .old), (8, .old), (9, .old), (10, .old), (11, .old)]) rfl (by kernel_rfl) fun F7_ => ?_
  dsimp only [List.cons_append, List.nil_append]
  refine SpOp.eff rfl rfl rfl rfl rfl (Eff.call (R := ?_) park_New rfl ?_ ?_)
  rotate_left
  · exact tkl_
  rintro pp -
  dsimp only [List.cons_append, List.nil_append]
  refine Sn.ok ?_
  refine god2 ?_
  refine Sg2.one (td := [(0, .old), (1, .old), (2, .old), (3, .old), (4, .old), (5, .old), (13, .fresh), (14, .fresh)]) rfl (by kernel_rfl) fun F12_ => ?_
  dsimp only [List.cons_append, List.nil_append]
  refine SpOp.eff rfl rfl rfl rfl rfl (Eff.call (R := ?_) (picks_New r s.f_Picks l s.f_Seed h) rfl ?_ ?_)
  rotate_left
  · exact tkl_
  rintro pk -
  dsimp only [List.cons_append, List.nil_append]
  refine Sn.ok ?_
  refine god2 ?_
  refine Sg2.one (td := []) rfl (by kernel_rfl) fun F15_ => ?_
  dsimp only [List.cons_append, List.nil_append]
  (with_reducible first|refine SpOp.eff rfl rfl rfl rfl rfl (Eff.x (Qx.build rfl) ?_)|refine SpOp.eff rfl rfl rfl rfl rfl (Eff.alloc fun _=>?_)|refine SpOp.eff rfl rfl rfl rfl rfl (Eff.box fun _=>?_)|refine SpOp.eff rfl rfl rfl rfl rfl (Eff.bslice rfl rfl fun _=>?_)|(refine SpOp.eff rfl rfl rfl rfl rfl (Eff.append1 rfl ?_ fun _=>?_);exact pre_)|refine SpOp.eff0 rfl rfl rfl rfl (Eff.store rfl rfl ?_)|(refine SpOp.eff0 rfl rfl rfl rfl (Eff.storeE rfl ?_ ?_);exact pre_))
  rename_i p
  refine Sn.ok ?_
  refine god2 ?_
  refine go ?_
  refine Cd.loop (fun z : Nat × Value × List Nat => z.1 ≤ (imin (imax workers 1) 8).toNat ∧ z.2.2.length = z.1) (fun z => (imin (imax workers 1) 8).toNat - z.1) (fun z => [(5, .pointer (some ⟨c, 0, none⟩)), (7, .pointer (some ⟨p, 0, none⟩)), (26, .int .i64 (imin (imax workers 1) 8)), (27, .int .i64 z.1)]) (fun z => slB r (eInt .u8) s.f_Picks l :: cel c 28 [.int .i64 s.f_Ring, .bool s.f_Half, .int .i64 s.f_Fuel, .int .i64 s.f_Refs, .int .i64 s.f_Futures, s.f_Inputs, s.f_Picks, .int .u64 s.f_Seed] :: cel p 94 [.int .i64 label, .bool s.f_Half, .int .i64 (imax s.f_Fuel 0), z.2.1, .pointer (some ⟨qp, 0, none⟩), .pointer (some ⟨pp, 0, none⟩), .func (.func 40) #[.pointer (some ⟨pk, 0, none⟩)] #[]] :: sl ePtr z.2.1 z.2.2 :: rel2 handC z.2.2 (List.replicate z.1 ⟨(imin (imax s.f_Ring 1) 64).toNat, [], zA, false⟩) :: picksC pk ⟨l, imax s.f_Seed 1⟩ :: queueH qp [] 0 :: parkH pp [] :: R) ⟨0, .slice none 0 0, []⟩ ⟨by simp, rfl⟩ ?_ ?_ ?_
  · repeat(first|exact Env.le_nil _|(refine Env.le_cons rfl ?_ ?_;first|rfl|(simp;done)|exact congrArg _ (by omega)|rotate_left))
  · rw [List.replicate_zero]
    exact ent_
  rintro ⟨k, vh, bs⟩ ⟨hk, hl⟩
  dsimp only at hk hl ⊢
  refine go ?_
  refine Cd.condP rfl (fun h2 => ?_) (fun h2 => ?_)
  · refine go ?_
    refine Cd.draw2 [[], [], [1], [1, 2], [1, 2, 3], [], [5], [5, 6], [5, 6, 7], [5, 6, 7, 8], [5, 6, 7, 8, 9], [1, 2, 3, 4, 5, 6, 7, 8, 9, 10], [0, 1, 2, 3, 4, 5, 6, 7, 8, 9, 10, 11], [0, 1, 2, 3, 4, 5, 6, 7, 8, 9, 10, 11, 12], [0, 1, 2, 3, 4, 5, 6, 7, 8, 9, 10, 11, 12, 13]] [7, 9, 10, 11, 14] [] (td := [(0, .fresh), (1, .fresh), (2, .fresh), (3, .fresh), (4, .fresh), (5, .fresh), (6, .fresh)]) mixed (by kernel_rfl) (by kernel_rfl) (by decide) (by decide) rfl (by kernel_rfl) ?_
    refine god2 ?_
    refine Sg2.one (td := [(0, .old), (1, .old), (2, .old), (3, .old), (4, .old), (8, .fresh)]) rfl (by kernel_rfl) fun F7_ => ?_
    dsimp only [List.cons_append, List.nil_append]
    refine SpOp.eff rfl rfl rfl rfl rfl (Eff.call (R := ?_) (ring_New s.f_Ring) rfl ?_ ?_)
    rotate_left
    · exact tkl_
    rintro rp -
    dsimp only [List.cons_append, List.nil_append]
    refine Sn.ok ?_
    refine god2 ?_
    refine Sg2.one (td := [(0, .old), (1, .old), (2, .old), (3, .old), (4, .old)]) rfl (by kernel_rfl) fun F9_ => ?_
    dsimp only [List.cons_append, List.nil_append]
    (with_reducible first|refine SpOp.eff rfl rfl rfl rfl rfl (Eff.x (Qx.build rfl) ?_)|refine SpOp.eff rfl rfl rfl rfl rfl (Eff.alloc fun _=>?_)|refine SpOp.eff rfl rfl rfl rfl rfl (Eff.box fun _=>?_)|refine SpOp.eff rfl rfl rfl rfl rfl (Eff.bslice rfl rfl fun _=>?_)|(refine SpOp.eff rfl rfl rfl rfl rfl (Eff.append1 rfl ?_ fun _=>?_);exact pre_)|refine SpOp.eff0 rfl rfl rfl rfl (Eff.store rfl rfl ?_)|(refine SpOp.eff0 rfl rfl rfl rfl (Eff.storeE rfl ?_ ?_);exact pre_))
    rename_i b
    refine Sn.ok ?_
    refine god2 ?_
    refine Sg2.one (td := [(0, .old), (1, .old), (2, .old), (3, .old), (4, .old)]) rfl (by kernel_rfl) fun F10_ => ?_
    dsimp only [List.cons_append, List.nil_append]
    (with_reducible first|refine SpOp.eff rfl rfl rfl rfl rfl (Eff.x (Qx.build rfl) ?_)|refine SpOp.eff rfl rfl rfl rfl rfl (Eff.alloc fun _=>?_)|refine SpOp.eff rfl rfl rfl rfl rfl (Eff.box fun _=>?_)|refine SpOp.eff rfl rfl rfl rfl rfl (Eff.bslice rfl rfl fun _=>?_)|(refine SpOp.eff rfl rfl rfl rfl rfl (Eff.append1 rfl ?_ fun _=>?_);exact pre_)|refine SpOp.eff0 rfl rfl rfl rfl (Eff.store rfl rfl ?_)|(refine SpOp.eff0 rfl rfl rfl rfl (Eff.storeE rfl ?_ ?_);exact pre_))
    refine Sn.ok ?_
    refine god2 ?_
    refine Sg2.one (td := [(0, .old), (12, .fresh), (13, .fresh)]) rfl (by kernel_rfl) fun F11_ => ?_
    dsimp only [List.cons_append, List.nil_append]
    (with_reducible first|refine SpOp.eff rfl rfl rfl rfl rfl (Eff.x (Qx.build rfl) ?_)|refine SpOp.eff rfl rfl rfl rfl rfl (Eff.alloc fun _=>?_)|refine SpOp.eff rfl rfl rfl rfl rfl (Eff.box fun _=>?_)|refine SpOp.eff rfl rfl rfl rfl rfl (Eff.bslice rfl rfl fun _=>?_)|(refine SpOp.eff rfl rfl rfl rfl rfl (Eff.append1 rfl ?_ fun _=>?_);exact pre_)|refine SpOp.eff0 rfl rfl rfl rfl (Eff.store rfl rfl ?_)|(refine SpOp.eff0 rfl rfl rfl rfl (Eff.storeE rfl ?_ ?_);exact pre_))
    rename_i vh'
    refine Sn.ok ?_
    refine god2 ?_
    refine Sg2.one (td := []) rfl (by kernel_rfl) fun F14_ => ?_
    dsimp only [List.cons_append, List.nil_append]
    (with_reducible first|refine SpOp.eff rfl rfl rfl rfl rfl (Eff.x (Qx.build rfl) ?_)|refine SpOp.eff rfl rfl rfl rfl rfl (Eff.alloc fun _=>?_)|refine SpOp.eff rfl rfl rfl rfl rfl (Eff.box fun _=>?_)|refine SpOp.eff rfl rfl rfl rfl rfl (Eff.bslice rfl rfl fun _=>?_)|(refine SpOp.eff rfl rfl rfl rfl rfl (Eff.append1 rfl ?_ fun _=>?_);exact pre_)|refine SpOp.eff0 rfl rfl rfl rfl (Eff.store rfl rfl ?_)|(refine SpOp.eff0 rfl rfl rfl rfl (Eff.storeE rfl ?_ ?_);exact pre_))
    refine Sn.ok ?_
    refine god2 ?_
    refine go ?_
    refine Dn.round ⟨k + 1, vh', bs ++ [b]⟩ ⟨by dsimp only; omega, by simp [hl]⟩ (by dsimp only; omega) ?_ ?_
    · repeat(first|exact Env.le_nil _|(refine Env.le_cons rfl ?_ ?_;first|rfl|(simp;done)|exact congrArg _ (by omega)|rotate_left))
    · dsimp only
      rw [List.replicate_succ']
      refine ents.cons (by exact tk_) (ents.cons (by exact tk_) (ents.cons (by exact tk_) (ents.cons (by exact tk_) (ents.rsnoc (Tk.pk (L := fun y : Nat × S_api_Task => [cel b 99 (handL y.1 y.2 false), ringC y.1 (imin (imax s.f_Ring 1) 64).toNat [], tkC y.2 zA]) rfl (rp, zT) trivial (by dsimp only; exact tkl_)) (by exact tk_) (by exact ent_)))))
  · have hk2 : k = (imin (imax workers 1) 8).toNat := by omega
    subst hk2
    refine go ?_
    refine Dn.ret1 rfl rfl fun w' hs => ⟨(p, ⟨vh, bs, qp, pp, pk⟩), rfl, trivial, hs.conv (ents.cons (by exact tk_) (ents.pk () ⟨by simp [newDK, hl], by dsimp only; omega, by dsimp only; omega⟩ ?_))⟩
    dsimp only [newDK, List.cons_append, List.nil_append]
    exact ent_
end Go.Proofs.YtihmbmoeedojoaaGreat

