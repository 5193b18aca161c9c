/- Contracts of functions of the program, proved in a small separation logic. Conditions: those that each theorem states. -/
import Derived.Test.YtihmbmoeedojoaaGreatRDeck11
namespace Go.Proofs.YtihmbmoeedojoaaGreat
open Go Go.Sl
set_option maxHeartbeats 4000000
set_option maxRecDepth 100000
set_option linter.unusedVariables false
theorem rel2_rep {α β : Type} {R : α → β → HProp} (v : α) (u : β) (h : Free (R v u)) (A : HProp) : ∀ n : Nat, went A (star (rel2 R (List.replicate n v) (List.replicate n u)) A)
  | 0 => rel2_nil A
  | n + 1 => by
    rw [List.replicate_succ', List.replicate_succ']
    exact (rel2_rep v u h A n).trans ((h.free _).trans ((went.of (star_assoc' _ _ _)).trans (went.star rel2_snoc (went.refl A))))
theorem held0_free : Free (heldC zT (zA, false)) := by
  refine ⟨fun B => ?_⟩
  have k : ents [B] [heldC zT (zA, false), B] := ents.pk (L := fun a : AT => [tkC zT a]) (p := fun a : AT => ((zA, false) : AT × Bool).2 = true → a = zA) zA (fun _ => rfl) (ents.tk0 (t := zT) (a := zA) rfl zA_ok rfl rfl (ents.refl _))
  exact went.trans (went_one B) (went.trans k (went.star (went.refl _) (went_one' B)))
-- FN confidant/confidantref24.New
theorem deck24_New (label workers : Int) (s : S_api_Part) (hin : One s.f_Inputs) (hpk : One s.f_Picks) (l : List Int) (hs0 : 0 ≤ s.f_Seed ∧ s.f_Seed ≤ 18446744073709551615) (h : l.length ≤ 1048576 ∧ ∀ y, y ∈ l → 0 ≤ y ∧ y ≤ 255) :
    Sp Tryz.prog 7 [.int .i64 label, .int .i64 workers, partV s] [slB true (eInt .u8) s.f_Picks l] (fun _ : Nat => True) (fun p => .pointer (some ⟨p, 0, none⟩)) (fun p => [deckR p (newDK label workers s l) [] []]) := by
  obtain ⟨n, hn⟩ : ∃ n : Nat, imin (imax workers 1) 8 = n := ⟨(imin (imax workers 1) 8).toNat, by unfold imin imax; split <;> split <;> omega⟩
  have hn8 : 1 ≤ n ∧ n ≤ 8 := by have : 1 ≤ imin (imax workers 1) 8 ∧ imin (imax workers 1) 8 ≤ 8 := by unfold imin imax; split <;> split <;> omega
                                 omega
  refine Sp.intro (n := 62) Tryz.func7 rfl rfl fun w0 R => ?_
  dsimp only [List.cons_append, List.nil_append, envOf]
  refine go ?_;repeat((with_reducible refine Ol.g ?_);(first|refine Ol.eff rfl rfl rfl (Eff.alloc fun _=>?_)|refine Ol.eff rfl rfl rfl (Eff.box fun _=>?_)|refine Ol.eff0 rfl rfl (Eff.store rfl rfl ?_)|refine Ol.eff rfl rfl rfl (Eff.bslice rfl rfl fun _=>?_)|(refine Ol.eff0 rfl rfl (Eff.storeE rfl ?_ ?_);exact pre_)|(refine Ol.eff rfl rfl rfl (Eff.append1 rfl ?_ fun _=>?_);exact pre_));refine go ?_)
  rename_i c
  refine Cd.drawL (l := [_, _, _, _, _, _, _, _, _, _, _, _, _, _, _, _]) (z := _) [[], [], [1], [1, 2], [], [4], [], [6], [6, 7], [], [9], [], [11], [9, 10, 11, 12], [0, 1, 2, 3, 4, 5, 6, 7, 8, 9, 10, 11, 12, 13], [0, 1, 2, 3, 4, 5, 6, 7, 8, 9, 10, 11, 12, 13, 14]] [13, 15] [] (td := [(0, .fresh), (1, .fresh), (2, .fresh), (3, .fresh), (4, .fresh), (5, .fresh), (6, .fresh), (7, .fresh), (8, .fresh), (9, .fresh), (10, .fresh), (11, .fresh), (12, .fresh)]) rfl mixed (by kernel_rfl) (by kernel_rfl) (by kernel_rfl) (by decide) (by decide) rfl (by kernel_rfl) ?_
  refine god2 ?_
  refine Sg2.one (td := [(0, .old), (1, .old), (2, .old), (3, .old), (4, .old), (5, .old), (6, .old), (7, .old), (8, .old), (14, .fresh)]) rfl (by kernel_rfl) fun F13_ => ?_
  dsimp only [List.cons_append, List.nil_append]
  refine SpOp.eff rfl rfl rfl rfl rfl (Eff.call (R := ?_) (picks15_New true s.f_Picks l s.f_Seed hs0 h) rfl ?_ ?_)
  rotate_left
  · exact tkl_
  rintro pk -
  dsimp only [List.cons_append, List.nil_append]
  refine Sn.ok ?_
  refine god2 ?_
  refine Sg2.one (td := []) rfl (by kernel_rfl) fun F15_ => ?_
  dsimp only [List.cons_append, List.nil_append]
  (with_reducible first|refine SpOp.eff rfl rfl rfl rfl rfl (Eff.x (Qx.build rfl) ?_)|refine SpOp.eff rfl rfl rfl rfl rfl (Eff.alloc fun _=>?_)|refine SpOp.eff rfl rfl rfl rfl rfl (Eff.box fun _=>?_)|refine SpOp.eff rfl rfl rfl rfl rfl (Eff.bslice rfl rfl fun _=>?_)|(refine SpOp.eff rfl rfl rfl rfl rfl (Eff.append1 rfl ?_ fun _=>?_);exact pre_)|refine SpOp.eff0 rfl rfl rfl rfl (Eff.store rfl rfl ?_)|(refine SpOp.eff0 rfl rfl rfl rfl (Eff.storeE rfl ?_ ?_);exact pre_))
  rename_i p
  refine Sn.ok ?_
  refine god2 ?_
  refine go ?_
  rw [hn]
  refine Cd.loop (fun z : Nat × Value × List Nat => z.1 ≤ n ∧ z.2.2.length = z.1) (fun z => n - z.1) (fun z => [(5, .pointer (some ⟨c, 0, none⟩)), (7, .pointer (some ⟨p, 0, none⟩)), (8, .int .i64 z.1)]) (fun z => cel c 28 [.int .i64 s.f_Ring, .bool s.f_Half, .int .i64 s.f_Fuel, .int .i64 s.f_Refs, .int .i64 s.f_Futures, s.f_Inputs, s.f_Picks, .int .u64 s.f_Seed] :: cel p 59 [.int .i64 label, .int .i64 n, .bool s.f_Half, .int .i64 (imax s.f_Fuel 0), z.2.1, .slice none 0 0, .slice none 0 0, .slice none 0 0, .slice none 0 0, .pointer (some ⟨pk, 0, none⟩)] :: sl ePtr z.2.1 z.2.2 :: rel2 rgC z.2.2 (List.replicate z.1 ((imin (imax s.f_Ring 1) 64).toNat, [])) :: picks15C true pk ⟨l, imax s.f_Seed 1⟩ :: R) ⟨0, .slice none 0 0, []⟩ ⟨by simp, rfl⟩ ?_ ?_ ?_
  · repeat(first|exact Env.le_nil _|(refine Env.le_cons rfl ?_ ?_;first|rfl|(simp;done)|exact congrArg _ (by omega)|rotate_left))
  · rw [List.replicate_zero]
    exact ent_
  rintro ⟨k, vh, bs⟩ ⟨hk, hl⟩
  dsimp only at hk hl ⊢
  refine go ?_
  refine Cd.condP rfl (fun h2 => ?_) (fun h2 => ?_)
  · refine go ?_
    refine Cd.draw2 [[], [], [1], [1, 2], [1, 2, 3], [], [5], [5, 6], [5, 6, 7], [1, 2, 3, 4, 5, 6, 7, 8], [0, 1, 2, 3, 4, 5, 6, 7, 8, 9], [0, 1, 2, 3, 4, 5, 6, 7, 8, 9, 10], [0, 1, 2, 3, 4, 5, 6, 7, 8, 9, 10, 11]] [7, 8, 9, 12] [8] (td := [(0, .fresh), (1, .fresh), (2, .fresh), (3, .fresh), (4, .fresh), (5, .fresh), (6, .fresh)]) mixed (by kernel_rfl) (by kernel_rfl) (by decide) (by decide) rfl (by kernel_rfl) ?_
    refine god2 ?_
    refine Sg2.one (td := [(0, .old), (1, .old), (2, .old), (3, .old), (4, .old), (8, .flt)]) rfl (by kernel_rfl) fun F7_ => ?_
    dsimp only [List.cons_append, List.nil_append]
    refine SpOp.eff rfl rfl rfl rfl rfl (Eff.call (R := ?_) (ring15_New s.f_Ring) rfl ?_ ?_)
    rotate_left
    · exact tkl_
    rintro rp -
    dsimp only [List.cons_append, List.nil_append]
    refine Sn.ok ?_
    refine god2 ?_
    refine Sg2.flt (td := [(0, .old), (1, .old), (2, .old), (3, .old), (4, .old)]) rfl rfl rfl rfl (by kernel_rfl) fun _ => ?_
    refine god2 ?_
    refine Sg2.one (td := [(0, .old), (10, .fresh), (11, .fresh)]) rfl (by kernel_rfl) fun F9_ => ?_
    dsimp only [List.cons_append, List.nil_append]
    (with_reducible first|refine SpOp.eff rfl rfl rfl rfl rfl (Eff.x (Qx.build rfl) ?_)|refine SpOp.eff rfl rfl rfl rfl rfl (Eff.alloc fun _=>?_)|refine SpOp.eff rfl rfl rfl rfl rfl (Eff.box fun _=>?_)|refine SpOp.eff rfl rfl rfl rfl rfl (Eff.bslice rfl rfl fun _=>?_)|(refine SpOp.eff rfl rfl rfl rfl rfl (Eff.append1 rfl ?_ fun _=>?_);exact pre_)|refine SpOp.eff0 rfl rfl rfl rfl (Eff.store rfl rfl ?_)|(refine SpOp.eff0 rfl rfl rfl rfl (Eff.storeE rfl ?_ ?_);exact pre_))
    rename_i vh'
    refine Sn.ok ?_
    refine god2 ?_
    refine Sg2.one (td := []) rfl (by kernel_rfl) fun F12_ => ?_
    dsimp only [List.cons_append, List.nil_append]
    (with_reducible first|refine SpOp.eff rfl rfl rfl rfl rfl (Eff.x (Qx.build rfl) ?_)|refine SpOp.eff rfl rfl rfl rfl rfl (Eff.alloc fun _=>?_)|refine SpOp.eff rfl rfl rfl rfl rfl (Eff.box fun _=>?_)|refine SpOp.eff rfl rfl rfl rfl rfl (Eff.bslice rfl rfl fun _=>?_)|(refine SpOp.eff rfl rfl rfl rfl rfl (Eff.append1 rfl ?_ fun _=>?_);exact pre_)|refine SpOp.eff0 rfl rfl rfl rfl (Eff.store rfl rfl ?_)|(refine SpOp.eff0 rfl rfl rfl rfl (Eff.storeE rfl ?_ ?_);exact pre_))
    refine Sn.ok ?_
    refine god2 ?_
    refine go ?_
    refine Dn.round ⟨k + 1, vh', bs ++ [rp]⟩ ⟨by dsimp only; omega, by simp [hl]⟩ (by dsimp only; omega) ?_ ?_
    · repeat(first|exact Env.le_nil _|(refine Env.le_cons rfl ?_ ?_;first|rfl|(simp;done)|exact congrArg _ (by omega)|rotate_left))
    · dsimp only
      rw [List.replicate_succ']
      refine ents.cons (by exact tk_) (ents.cons (by exact tk_) (ents.cons (by exact tk_) (ents.rsnoc (Tk.hd _ _) (by exact tk_) (by exact ent_))))
  · have hk2 : k = n := by omega
    subst hk2
    refine go ?_
    refine Cd.draw2 [[], [], [], [2], [2, 3], [2, 3, 4], [2, 3, 4, 5], [], [7], [7, 8], [7, 8, 9], [7, 8, 9, 10], [0, 2, 3, 4, 5, 6, 7, 8, 9, 10], [0, 2, 3, 4, 5, 6, 7, 8, 9, 10, 12], [0, 2, 3, 4, 5, 6, 7, 8, 9, 10, 12, 13], [0, 1, 2, 3, 4, 5, 6, 7, 8, 9, 10, 11, 12, 13, 14], [0, 1, 2, 3, 4, 5, 6, 7, 8, 9, 10, 11, 12, 13, 14, 15], [0, 1, 2, 3, 4, 5, 6, 7, 8, 9, 10, 11, 12, 13, 14, 15, 16]] [6, 12, 14, 11, 15, 17] [6, 11] (td := [(0, .fresh), (1, .fresh), (2, .fresh), (3, .fresh), (4, .fresh), (5, .fresh), (6, .flt), (7, .fresh), (8, .fresh), (9, .fresh), (10, .fresh), (11, .flt)]) mixed (by kernel_rfl) (by kernel_rfl) (by decide) (by decide) rfl (by kernel_rfl) ?_
    refine god2 ?_
    refine Gr2.flt rfl rfl rfl rfl rfl (AllocOk.mkS (x := zT) rfl ?_) ?_
    · omega
    refine god2 ?_
    refine Gr2.flt rfl rfl rfl rfl rfl (AllocOk.mkS (x := false) rfl ?_) ?_
    · omega
    refine god2 ?_
    refine Sg2.flt (td := [(0, .old), (1, .old), (7, .old), (8, .old), (9, .old), (10, .old)]) rfl rfl rfl rfl (by kernel_rfl) fun vt => ?_
    refine god2 ?_
    refine Sg2.one (td := [(1, .old), (13, .fresh)]) rfl (by kernel_rfl) fun F12_ => ?_
    dsimp only [List.cons_append, List.nil_append]
    refine SpOp.eff rfl rfl rfl rfl rfl (Eff.q trivial ?_)
    refine Sn.ok ?_
    refine god2 ?_
    refine Sg2.one (td := [(1, .old)]) rfl (by kernel_rfl) fun F14_ => ?_
    dsimp only [List.cons_append, List.nil_append]
    (with_reducible first|refine SpOp.eff rfl rfl rfl rfl rfl (Eff.x (Qx.build rfl) ?_)|refine SpOp.eff rfl rfl rfl rfl rfl (Eff.alloc fun _=>?_)|refine SpOp.eff rfl rfl rfl rfl rfl (Eff.box fun _=>?_)|refine SpOp.eff rfl rfl rfl rfl rfl (Eff.bslice rfl rfl fun _=>?_)|(refine SpOp.eff rfl rfl rfl rfl rfl (Eff.append1 rfl ?_ fun _=>?_);exact pre_)|refine SpOp.eff0 rfl rfl rfl rfl (Eff.store rfl rfl ?_)|(refine SpOp.eff0 rfl rfl rfl rfl (Eff.storeE rfl ?_ ?_);exact pre_))
    refine Sn.ok ?_
    refine god2 ?_
    refine Sg2.flt (td := [(1, .old)]) rfl rfl rfl rfl (by kernel_rfl) fun vb => ?_
    refine god2 ?_
    refine Sg2.one (td := [(16, .fresh)]) rfl (by kernel_rfl) fun F15_ => ?_
    dsimp only [List.cons_append, List.nil_append]
    refine SpOp.eff rfl rfl rfl rfl rfl (Eff.q trivial ?_)
    refine Sn.ok ?_
    refine god2 ?_
    refine Sg2.one (td := []) rfl (by kernel_rfl) fun F17_ => ?_
    dsimp only [List.cons_append, List.nil_append]
    (with_reducible first|refine SpOp.eff rfl rfl rfl rfl rfl (Eff.x (Qx.build rfl) ?_)|refine SpOp.eff rfl rfl rfl rfl rfl (Eff.alloc fun _=>?_)|refine SpOp.eff rfl rfl rfl rfl rfl (Eff.box fun _=>?_)|refine SpOp.eff rfl rfl rfl rfl rfl (Eff.bslice rfl rfl fun _=>?_)|(refine SpOp.eff rfl rfl rfl rfl rfl (Eff.append1 rfl ?_ fun _=>?_);exact pre_)|refine SpOp.eff0 rfl rfl rfl rfl (Eff.store rfl rfl ?_)|(refine SpOp.eff0 rfl rfl rfl rfl (Eff.storeE rfl ?_ ?_);exact pre_))
    refine Sn.ok ?_
    refine god2 ?_
    refine go ?_
    rw [show Int.toNat (k : Int) = k from Int.toNat_natCast k]
    refine Dn.ret1 rfl rfl fun w' hs => ⟨p, rfl, trivial, hs.conv (ents.pk ⟨vh, bs, vt, List.replicate k zT, vb, .slice none 0 0, [], .slice none 0 0, [], pk⟩ ⟨by simp [newDK, hn, hl], by simp [newDK, hn], by simp [newDK, hn]; omega, by simp [newDK, hn]; omega, rfl, by simp, rfl, by simp⟩ ?_)⟩
    dsimp only [newDK, drL, List.cons_append, List.nil_append]
    rw [hn, hl, Int.toNat_natCast, List.map_replicate, List.map_replicate, List.map_replicate]
    refine ents.cons (by exact tk_) (ents.cons (by exact tk_) (ents.cons (by exact tk_) (ents.cons (by exact tk_) (ents.trans ?_ (rel2_rep zT (zA, false) held0_free _ k)))))
    exact ent_
end Go.Proofs.YtihmbmoeedojoaaGreat

