/- Contracts of functions of the program, proved in a small separation logic. Conditions: those that each theorem states. -/
import Derived.Test.YtihmbmoeedojoaaGreatRDeck6
namespace Go.Proofs.YtihmbmoeedojoaaGreat
open Go Go.Sl
set_option maxHeartbeats 4000000
set_option maxRecDepth 100000
set_option linter.unusedVariables false
/-- A slice cut behind, read as a value (give it as t2 to Eff.appendR). -/
theorem SlT.cutOf {H : List HProp} {r : Bool} {T : Type} {E : Enc T} {v : Value} {xs : List T} {k : Nat} (h : ∀ w, sat w (stars H) → sat w (slB r E v xs)) (hl : k ≤ xs.length) : SlT H (cutV v k) E (xs.take k) :=
  ⟨fun w hw => slB_in (sat.mono (cut_ent hl) (h w hw)), fun w hw => slB_fl (sat.mono (cut_ent hl) (h w hw))⟩
theorem SlT.slcOf {H : List HProp} {r : Bool} {T : Type} {E : Enc T} {v : Value} {xs : List T} {k : Nat} (h : ∀ w, sat w (stars H) → sat w (slB r E v xs)) (hl : k ≤ xs.length) : SlT H (slcV v k E.size) E (xs.drop k) :=
  ⟨fun w hw => slB_in (sat.mono (slc_ent hl) (h w hw)), fun w hw => slB_fl (sat.mono (slc_ent hl) (h w hw))⟩
/-- One more pair in the middle (of pairs that stay). -/
theorem rel2_ins {α β : Type} {R : α → β → HProp} (hp : ∀ x y, Pers (R x y)) {l : List α} {q : List β} {v : α} {u : β} (hl : l.length = q.length) (k : Nat) : went (star (R v u) (rel2 R l q)) (rel2 R (l.take k ++ v :: l.drop k) (q.take k ++ u :: q.drop k)) :=
  went.trans rel2_cons (rel2_sub hp (rel2_pers hp _ _) _ _ (by simp [hl]) (by
    intro p h
    rw [List.zip_append (by simp [hl]), List.zip_cons_cons] at h
    rw [List.zip_cons_cons]
    rcases List.mem_append.1 h with h | h
    · rw [show (l.take k).zip (q.take k) = (l.zip q).take k from by simp [List.zip, List.take_zipWith]] at h; exact List.mem_cons_of_mem _ (List.mem_of_mem_take h)
    · rcases List.mem_cons.1 h with h | h
      · rw [h]; exact List.mem_cons_self
      · rw [show (l.drop k).zip (q.drop k) = (l.zip q).drop k from by simp [List.zip, List.drop_zipWith]] at h; exact List.mem_cons_of_mem _ (List.mem_of_mem_drop h)))
-- FN (*confidant/confidantref15.Queue).Push
theorem queue15_Push (p : Nat) (y : DY) (d : DK) (l : List QI) (n round : Int) (t : S_api_Task) (a : AT) (hl : l.length < 1048576) (hs : sortedQ l) (hlt : ∀ y, y ∈ l → y.seq < n) (he : y.es.length = l.length) :
    Sp Tryz.prog 15 [.pointer (some ⟨p, 7, none⟩), .int .i64 round, tV t] [cel p 59 (drL y d), sl e_confidantref15_Entry y.vi y.es, rel2 enC y.es l, tkC t a] (fun z : Value × List S_confidantref15_Entry => z.2.length = l.length + 1) (fun _ => .tuple #[])
      (fun z => [cel p 59 (drL (yP y z.1 z.2) d), sl e_confidantref15_Entry z.1 z.2, rel2 enC z.2 (insQ ⟨round, a, n⟩ l)]) := by
  obtain ⟨vr, rs, vh, hts, vb, vi, es, vp, wts, pk⟩ := y
  dsimp only at he ⊢
  refine Sp.intro (n := 52) Tryz.func15 rfl rfl fun w0 R => ?_
  dsimp only [List.cons_append, List.nil_append, envOf]
  first | (with_reducible refine Cd.g ?_; refine Cd.know (fun w_ hw_ => tkC_ok (Tk.sat (A := (tkC t a)) (by exact tk_) hw_)) fun ha => ?_) | (with_reducible refine Ol.g ?_; refine Ol.know (fun w_ hw_ => tkC_ok (Tk.sat (A := (tkC t a)) (by exact tk_) hw_)) fun ha => ?_) | (with_reducible refine Dn.g ?_; refine Dn.know (fun w_ hw_ => tkC_ok (Tk.sat (A := (tkC t a)) (by exact tk_) hw_)) fun ha => ?_)
  have e1 : t.f_Id = a.id := congrArg AT.id ha.1
  refine go ?_;repeat((with_reducible refine Ol.g ?_);(first|refine Ol.eff rfl rfl rfl (Eff.alloc fun _=>?_)|refine Ol.eff rfl rfl rfl (Eff.box fun _=>?_)|refine Ol.eff0 rfl rfl (Eff.store rfl rfl ?_)|refine Ol.eff rfl rfl rfl (Eff.bslice rfl rfl fun _=>?_)|(refine Ol.eff0 rfl rfl (Eff.storeE rfl ?_ ?_);exact pre_)|(refine Ol.eff rfl rfl rfl (Eff.append1 rfl ?_ fun _=>?_);exact pre_));refine go ?_)
  rename_i c c2
  have cut : ∀ k : Nat, k ≤ es.length → (∀ j : Nat, k ≤ j → j < es.length → aheadQ ⟨round, a, n⟩ (rd l j) = true) → (k = 0 ∨ ∃ k', k = k' + 1 ∧ aheadQ ⟨round, a, n⟩ (rd l k') = false) → insQ ⟨round, a, n⟩ l = l.take k ++ ⟨round, a, n⟩ :: l.drop k := by
    intro k hk hf h
    refine insQ_at _ l k (by omega) ?_ (fun h2 => hf k (Nat.le_refl _) (by omega))
    rcases h with rfl | ⟨k', rfl, hb⟩
    · intro i hi; omega
    · intro i hi; exact back_all hs (by omega) hb i (by omega)
  refine Cd.cutX (α := { k : Nat // k ≤ es.length ∧ insQ ⟨round, a, n⟩ l = l.take k ++ ⟨round, a, n⟩ :: l.drop k }) 0 (fun k => [(0, .pointer (some ⟨p, 7, none⟩)), (6, .pointer (some ⟨c2, 0, none⟩)), (7, .int .i64 k.1)])
    (fun k => cel c2 118 [.int .i64 round, .int .i32 t.f_Id, .int .i64 t.f_Func, .int .i64 t.f_Pc, t.f_Stack, .int .i32 t.f_Vars0, .int .i32 t.f_Vars1, .int .i32 t.f_Vars2, .int .i32 t.f_Vars3, .int .i64 t.f_Label, .int .i64 t.f_Clear, .int .u32 t.f_Privs, .int .i64 t.f_Worker] :: cel p 59 (drL ⟨vr, rs, vh, hts, vb, vi, es, vp, wts, pk⟩ d) :: sl e_confidantref15_Entry vi es :: rel2 enC es l :: tkC t a :: R) (fun K kk _ => ?_) ?_
  · refine Cd.loop (fun k : Nat => k ≤ es.length ∧ ∀ j : Nat, k ≤ j → j < es.length → aheadQ ⟨round, a, n⟩ (rd l j) = true) (fun k => k) (fun k => [(0, .pointer (some ⟨p, 7, none⟩)), (6, .pointer (some ⟨c2, 0, none⟩)), (7, .int .i64 k)])
      (fun k => cel c2 118 [.int .i64 round, .int .i32 t.f_Id, .int .i64 t.f_Func, .int .i64 t.f_Pc, t.f_Stack, .int .i32 t.f_Vars0, .int .i32 t.f_Vars1, .int .i32 t.f_Vars2, .int .i32 t.f_Vars3, .int .i64 t.f_Label, .int .i64 t.f_Clear, .int .u32 t.f_Privs, .int .i64 t.f_Worker] :: cel p 59 (drL ⟨vr, rs, vh, hts, vb, vi, es, vp, wts, pk⟩ d) :: sl e_confidantref15_Entry vi es :: rel2 enC es l :: tkC t a :: R) es.length ⟨by simp, fun j h1 h2 => by omega⟩ ?_ ?_ ?_
    · repeat(first|exact Env.le_nil _|(refine Env.le_cons rfl ?_ ?_;first|rfl|(simp;done)|exact congrArg _ (by omega)|rotate_left))
    · exact ent_
    rintro k ⟨hk, hf⟩
    rcases k with _ | k
    · refine go ?_
      refine Cd.draw2 [[], [0], [0, 1], [0, 1, 2], [0, 1, 2], [0, 1, 2, 4], [0, 1, 2, 4, 5], [0, 1, 2, 4, 5, 6], [0, 1, 2], [0, 1, 2, 8], [0, 1, 2, 4, 5, 6, 7, 8, 9], [0, 1, 2, 4, 5, 6, 7, 8, 9, 10], [0, 1, 2, 3, 4, 5, 6, 7, 8, 9, 10, 11], [0, 1, 2, 3, 4, 5, 6, 7, 8, 9, 10, 11, 12]] [12] [] (td := [(0, .fresh), (1, .fresh), (2, .fresh), (3, .fresh), (4, .fresh), (5, .fresh), (6, .fresh), (7, .fresh), (8, .fresh), (9, .fresh), (10, .fresh), (11, .fresh)]) mixed (by kernel_rfl) (by kernel_rfl) (by decide) (by decide) rfl (by kernel_rfl) ?_
      refine god2 ?_
      refine Sg2.one (td := [(13, .fresh)]) rfl (by kernel_rfl) fun F12_ => ?_
      dsimp only [List.cons_append, List.nil_append]
      refine SpOp.skip rfl rfl rfl rfl (Sn.ok ?_)
      refine god2 ?_
      refine go ?_
      exact Dn.weak (by repeat(first|exact Env.le_nil _|(refine Env.le_cons rfl ?_ ?_;first|rfl|(simp;done)|exact congrArg _ (by omega)|rotate_left))) (by exact ent_) (kk ⟨0, by omega, cut 0 hk hf (.inl rfl)⟩)
    · refine Cd.conv (Tk.more (p := rel2_pers (fun _ _ => inferInstance) _ _) (A := rel2 enC es l) (rel2_gotI (i := k) (by omega) (by omega)) (by exact tk_)) ?_
      first | (with_reducible refine Cd.g ?_; refine Cd.pk (A := (enC (rd es k) (rd l k))) rfl (by exact tk_) fun q hq => ?_) | (with_reducible refine Ol.g ?_; refine Ol.pk (A := (enC (rd es k) (rd l k))) rfl (by exact tk_) fun q hq => ?_) | (with_reducible refine Dn.g ?_; refine Dn.pk (A := (enC (rd es k) (rd l k))) rfl (by exact tk_) fun q hq => ?_)
      dsimp only [List.cons_append, List.nil_append]
      first | (with_reducible refine Cd.g ?_; refine Cd.know (fun w_ hw_ => tkC_ok (Tk.sat (A := (tkC (rd es k).f_Task (rd l k).task)) (by exact tk_) hw_)) fun hu0 => ?_) | (with_reducible refine Ol.g ?_; refine Ol.know (fun w_ hw_ => tkC_ok (Tk.sat (A := (tkC (rd es k).f_Task (rd l k).task)) (by exact tk_) hw_)) fun hu0 => ?_) | (with_reducible refine Dn.g ?_; refine Dn.know (fun w_ hw_ => tkC_ok (Tk.sat (A := (tkC (rd es k).f_Task (rd l k).task)) (by exact tk_) hw_)) fun hu0 => ?_)
      have hu : (rd es k).f_Task.f_Id = (rd l k).task.id := congrArg AT.id hu0.1
      refine go ?_
      refine Cd.draw2 [[], [0], [0, 1], [0, 1, 2], [0, 1, 2], [0, 1, 2, 4], [0, 1, 2, 4, 5], [0, 1, 2, 4, 5, 6], [0, 1, 2], [0, 1, 2, 8], [0, 1, 2, 4, 5, 6, 7, 8, 9], [0, 1, 2, 4, 5, 6, 7, 8, 9, 10], [0, 1, 2, 3, 4, 5, 6, 7, 8, 9, 10, 11], [0, 1, 2, 3, 4, 5, 6, 7, 8, 9, 10, 11, 12]] [12] [] (td := [(0, .fresh), (1, .fresh), (2, .fresh), (3, .fresh), (4, .fresh), (5, .fresh), (6, .fresh), (7, .fresh), (8, .fresh), (9, .fresh), (10, .fresh), (11, .fresh)]) mixed (by kernel_rfl) (by kernel_rfl) (by decide) (by decide) rfl (by kernel_rfl) ?_
      refine god2 ?_
      rw [decide_eq_true (show (0 : Int) < ((k + 1 : Nat) : Int) by omega)]
      refine god2 ?_
      rw [show ((k + 1 : Nat) : Int) - 1 = (k : Int) by omega]
      refine Sg2.one (td := [(13, .fresh)]) rfl (by kernel_rfl) fun F12_ => ?_
      dsimp only [List.cons_append, List.nil_append]
      refine SpOp.eff rfl rfl rfl rfl rfl (Eff.call (R := ?_) (ref15_Less round (rd es k).f_Round t (rd es k).f_Task a (rd l k).task) rfl ?_ ?_)
      rotate_left
      · exact tkl_
      rintro _ -
      dsimp only [List.cons_append, List.nil_append]
      refine Sn.ok ?_
      refine god2 ?_
      refine go ?_
      have hb : lessB round t.f_Id (rd es k).f_Round (rd es k).f_Task.f_Id = aheadQ ⟨round, a, n⟩ (rd l k) := by
        rw [ahead_less (e := ⟨round, a, n⟩) (y := rd l k) (hlt _ (rd_mem (by omega) (by omega))), e1, hq, hu]
      rw [hb]
      cases hc : aheadQ ⟨round, a, n⟩ (rd l k) with
      | true =>
        refine go ?_
        refine Dn.round k ⟨by omega, fun j h1 h2 => ?_⟩ (by omega) (by repeat(first|exact Env.le_nil _|(refine Env.le_cons rfl ?_ ?_;first|rfl|(simp;done)|exact congrArg _ (by omega)|rotate_left))) (by exact ent_)
        rcases Nat.lt_or_eq_of_le h1 with h1 | rfl
        · exact hf j (by omega) h2
        · exact hc
      | false =>
        refine go ?_
        exact Dn.weak (by repeat(first|exact Env.le_nil _|(refine Env.le_cons rfl ?_ ?_;first|rfl|(simp;done)|exact congrArg _ (by omega)|rotate_left))) (by exact ent_) (kk ⟨k + 1, by omega, cut (k + 1) hk hf (.inr ⟨k, rfl, hc⟩)⟩)
  rintro ⟨k, hk, hins⟩
  dsimp only
  first | (with_reducible refine Cd.g ?_; refine Cd.know (fun w_ hw_ => tkC_one (Tk.sat (A := (tkC t a)) (by exact tk_) hw_)) fun o1 => ?_) | (with_reducible refine Ol.g ?_; refine Ol.know (fun w_ hw_ => tkC_one (Tk.sat (A := (tkC t a)) (by exact tk_) hw_)) fun o1 => ?_) | (with_reducible refine Dn.g ?_; refine Dn.know (fun w_ hw_ => tkC_one (Tk.sat (A := (tkC t a)) (by exact tk_) hw_)) fun o1 => ?_)
  have hk1 : (es.take k).length = k := by simp; omega
  have hk2 : (es.drop k).length = es.length - k := by simp
  refine go ?_
  refine Cd.draw2 [[], [], [1], [1, 2], [1, 2, 3], [], [1, 2, 3, 4, 5], [1, 2, 3, 4, 5, 6], [], [8], [1, 2, 3, 4, 5, 6, 7, 8, 9], [], [11], [11, 12], [11, 12, 13], [], [11, 12, 13, 14, 15], [1, 2, 3, 4, 5, 6, 7, 8, 9, 10, 11, 12, 13, 14, 15, 16], [0, 1, 2, 3, 4, 5, 6, 7, 8, 9, 10, 11, 12, 13, 14, 15, 16, 17], [0, 1, 2, 3, 4, 5, 6, 7, 8, 9, 10, 11, 12, 13, 14, 15, 16, 17, 18], [0, 1, 2, 3, 4, 5, 6, 7, 8, 9, 10, 11, 12, 13, 14, 15, 16, 17, 18, 19]] [7, 9, 10, 17, 20] [9] (td := [(0, .fresh), (1, .fresh), (2, .fresh), (3, .fresh), (4, .fresh), (5, .fresh), (6, .fresh), (8, .fresh), (9, .flt), (11, .fresh), (12, .fresh), (13, .fresh), (14, .fresh), (15, .fresh), (16, .fresh)]) mixed (by kernel_rfl) (by kernel_rfl) (by decide) (by decide) rfl (by kernel_rfl) ?_
  refine god2 ?_
  rw [Int.toNat_natCast]
  refine Sg2.one (td := [(0, .old), (8, .old), (11, .old), (12, .old), (13, .old), (14, .old), (15, .old), (16, .old)]) rfl (by kernel_rfl) fun F7_ => ?_
  dsimp only [List.cons_append, List.nil_append]
  refine SpOp.eff rfl rfl rfl rfl rfl (Eff.appendR (t2 := SlT.cutOf (r := false) (E := e_confidantref15_Entry) (xs := es) (fun w hw => Tk.sat (by exact tk_) hw) hk) rfl ?_ fun v1 => ?_)
  · simp; omega
  refine Sn.ok ?_
  refine god2 ?_
  refine Sg2.flt (td := [(0, .old), (11, .old), (12, .old), (13, .old), (14, .old), (15, .old), (16, .old)]) rfl rfl rfl rfl (by kernel_rfl) fun _ => ?_
  refine god2 ?_
  refine Sg2.one (td := [(0, .old), (11, .old), (12, .old), (13, .old), (14, .old), (15, .old), (16, .old)]) rfl (by kernel_rfl) fun F10_ => ?_
  dsimp only [List.cons_append, List.nil_append]
  (with_reducible first|refine SpOp.eff rfl rfl rfl rfl rfl (Eff.x (Qx.build rfl) ?_)|refine SpOp.eff rfl rfl rfl rfl rfl (Eff.alloc fun _=>?_)|refine SpOp.eff rfl rfl rfl rfl rfl (Eff.box fun _=>?_)|refine SpOp.eff rfl rfl rfl rfl rfl (Eff.bslice rfl rfl fun _=>?_)|(refine SpOp.eff rfl rfl rfl rfl rfl (Eff.append1 rfl ?_ fun _=>?_);exact pre_)|refine SpOp.eff0 rfl rfl rfl rfl (Eff.store rfl rfl ?_)|(refine SpOp.eff0 rfl rfl rfl rfl (Eff.storeE rfl ?_ ?_);exact pre_))
  refine Sn.ok ?_
  refine god2 ?_
  refine Sg2.one (td := [(0, .old), (18, .fresh), (19, .fresh)]) rfl (by kernel_rfl) fun F17_ => ?_
  dsimp only [List.cons_append, List.nil_append]
  refine SpOp.eff rfl rfl rfl rfl rfl (Eff.appendR (t2 := SlT.slcOf (r := false) (E := e_confidantref15_Entry) (xs := es) (fun w hw => Tk.sat (by exact tk_) hw) hk) rfl ?_ fun v2 => ?_)
  · simp; omega
  refine Sn.ok ?_
  refine god2 ?_
  refine Sg2.one (td := []) rfl (by kernel_rfl) fun F20_ => ?_
  dsimp only [List.cons_append, List.nil_append]
  refine SpOp.eff0 rfl rfl rfl rfl (Eff.store rfl rfl ?_)
  refine Sn.ok ?_
  refine god2 ?_
  refine go ?_
  refine Dn.fin0 rfl fun w hs' => ⟨(v2, es.take k ++ ⟨round, t⟩ :: es.drop k), rfl, by simp; omega, hs'.conv ?_⟩
  rw [hins]
  dsimp only [yP]
  refine ents.trans (H' := cel p 59 (drL ⟨vr, rs, vh, hts, vb, v2, es.take k ++ ⟨round, t⟩ :: es.drop k, vp, wts, pk⟩ d) :: sl e_confidantref15_Entry v2 (es.take k ++ ⟨round, t⟩ :: es.drop k) :: enC ⟨round, t⟩ ⟨round, a, n⟩ :: rel2 enC es l :: R) ?_ ?_
  · rw [show es.take k ++ (⟨round, t⟩ : S_confidantref15_Entry) :: es.drop k = es.take k ++ [⟨round, t⟩] ++ es.drop k from by simp]
    refine ents.cons (by exact tk_) (ents.cons (by exact tk_) (ents.cons (Tk.pk (A := enC ⟨round, t⟩ ⟨round, a, n⟩) rfl () rfl (by exact tkl_)) (by exact ent_)))
  · refine ents.cons (by exact tk_) (ents.cons (by exact tk_) ?_)
    exact went.trans (went.of (star_assoc' _ _ _)) (went.star (rel2_ins (fun _ _ => inferInstance) (by omega) k) (went.refl _))
end Go.Proofs.YtihmbmoeedojoaaGreat

