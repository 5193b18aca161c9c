/- Contracts of functions of the program, proved in a small separation logic. Conditions: those that each theorem states. -/
import Derived.Test.YtihmbmoeedojoaaGreatRDeck7
namespace Go.Proofs.YtihmbmoeedojoaaGreat
open Go Go.Sl
set_option maxHeartbeats 4000000
set_option maxRecDepth 100000
set_option linter.unusedVariables false
structure LY where
  k : Nat
  vw : Value
  tw : List S_api_Task
  vs : Value
  ts : List S_api_Task
  vy : Value
  ty : List S_confidantref15_Waiting
abbrev yW (y : DY) (v : Value) (ts : List S_confidantref15_Waiting) : DY := { y with vp := v, wts := ts }
-- FN (*confidant/confidantref15.Park).Look
theorem park15_Look (p fp : Nat) (y : DY) (d : DK) (ws : List WT) (f : FS) (fuel : Int) (hf : fuel ≤ 9223372036854775807) (hw : lkB ws) (hyl : y.wts.length = ws.length) (hwl : ws.length ≤ 1048576) :
    Sp Tryz.prog 63 [.pointer (some ⟨p, 8, none⟩), .pointer (some ⟨fp, 0, none⟩), .int .i64 fuel] [cel p 59 (drL y d), sl e_confidantref15_Waiting y.vp y.wts, rel2 w15C y.wts ws, fut12C fp f] (fun z : LY => z.ty.length = (lkK f fuel ws ws.length).stay.length) (fun z => .tuple #[z.vw, z.vs, .int .i64 (lkK f fuel ws ws.length).left])
      (fun z => [cel p 59 (drL (yW y z.vy z.ty) d), sl e_confidantref15_Waiting z.vy z.ty, rel2 w15C z.ty (lkK f fuel ws ws.length).stay, fut12C fp f, sl e_api_Task z.vw z.tw, rel2 tkC z.tw (lkK f fuel ws ws.length).woken, sl e_api_Task z.vs z.ts, rel2 tkC z.ts (lkK f fuel ws ws.length).starved]) := by
  obtain ⟨vr, rs, vh, hts, vb, vi, es, vp, wts, pk⟩ := y
  dsimp only at hyl ⊢
  refine Sp.intro (n := 72) Tryz.func63 rfl rfl fun w0 R => ?_
  dsimp only [List.cons_append, List.nil_append, envOf]
  refine go ?_
  refine Cd.cutX (α := { z : LY // z.k = ws.length }) 0 (fun z => [(0, .pointer (some ⟨p, 8, none⟩)), (2, .int .i64 (lkK f fuel ws ws.length).left), (9, z.1.vw), (10, z.1.vs), (11, z.1.vy)])
    (fun z => cel p 59 (drL ⟨vr, rs, vh, hts, vb, vi, es, vp, wts, pk⟩ d) :: fut12C fp f :: sl e_api_Task z.1.vw z.1.tw :: rel2 tkC z.1.tw (lkK f fuel ws ws.length).woken :: sl e_api_Task z.1.vs z.1.ts :: rel2 tkC z.1.ts (lkK f fuel ws ws.length).starved :: sl e_confidantref15_Waiting z.1.vy z.1.ty :: rel2 w15C z.1.ty (lkK f fuel ws ws.length).stay :: R) (fun K kk _ => ?_) ?_
  · refine Cd.loop (fun z : LY => z.k ≤ ws.length) (fun z => ws.length - z.k) (fun z => [(0, .pointer (some ⟨p, 8, none⟩)), (1, .pointer (some ⟨fp, 0, none⟩)), (2, .int .i64 (lkK f fuel ws z.k).left), (9, z.vw), (10, z.vs), (11, z.vy), (12, .int .i64 z.k)])
      (fun z => cel p 59 (drL ⟨vr, rs, vh, hts, vb, vi, es, vp, wts, pk⟩ d) :: sl e_confidantref15_Waiting vp wts :: rel2 w15C wts ws :: fut12C fp f :: sl e_api_Task z.vw z.tw :: rel2 tkC z.tw (lkK f fuel ws z.k).woken :: sl e_api_Task z.vs z.ts :: rel2 tkC z.ts (lkK f fuel ws z.k).starved :: sl e_confidantref15_Waiting z.vy z.ty :: rel2 w15C z.ty (lkK f fuel ws z.k).stay :: R)
      ⟨0, .slice none 0 0, [], .slice none 0 0, [], .slice none 0 0, []⟩ (by simp) ?_ ?_ ?_
    · repeat(first|exact Env.le_nil _|(refine Env.le_cons rfl ?_ ?_;first|rfl|(simp;done)|exact congrArg _ (by omega)|rotate_left))
    · dsimp only
      rw [show lkK f fuel ws 0 = ⟨[], [], [], imax fuel 0⟩ from rfl]
      exact ent_
    rintro ⟨k, vw, tw, vs, ts, vy, ty⟩ hk
    dsimp only at hk ⊢
    have I := lk_ok f fuel ws hf k hk
    have i1 := I.l; have i2 := I.a
    refine go ?_
    refine Cd.condP rfl (fun h => ?_) (fun h => ?_)
    · have hk2 : k < ws.length := by omega
      have hs := lkK_succ f fuel ws hk2
      have hwk := hw (rd ws k) (rd_mem (by omega) (by omega))
      first | (with_reducible refine Cd.g ?_; refine Cd.know (fun w_ hw_ => rel2_len (Tk.sat (A := (rel2 tkC tw _)) (by exact tk_) hw_)) fun n1 => ?_) | (with_reducible refine Ol.g ?_; refine Ol.know (fun w_ hw_ => rel2_len (Tk.sat (A := (rel2 tkC tw _)) (by exact tk_) hw_)) fun n1 => ?_) | (with_reducible refine Dn.g ?_; refine Dn.know (fun w_ hw_ => rel2_len (Tk.sat (A := (rel2 tkC tw _)) (by exact tk_) hw_)) fun n1 => ?_)
      first | (with_reducible refine Cd.g ?_; refine Cd.know (fun w_ hw_ => rel2_len (Tk.sat (A := (rel2 tkC ts _)) (by exact tk_) hw_)) fun n2 => ?_) | (with_reducible refine Ol.g ?_; refine Ol.know (fun w_ hw_ => rel2_len (Tk.sat (A := (rel2 tkC ts _)) (by exact tk_) hw_)) fun n2 => ?_) | (with_reducible refine Dn.g ?_; refine Dn.know (fun w_ hw_ => rel2_len (Tk.sat (A := (rel2 tkC ts _)) (by exact tk_) hw_)) fun n2 => ?_)
      first | (with_reducible refine Cd.g ?_; refine Cd.know (fun w_ hw_ => rel2_len (Tk.sat (A := (rel2 w15C ty _)) (by exact tk_) hw_)) fun n3 => ?_) | (with_reducible refine Ol.g ?_; refine Ol.know (fun w_ hw_ => rel2_len (Tk.sat (A := (rel2 w15C ty _)) (by exact tk_) hw_)) fun n3 => ?_) | (with_reducible refine Dn.g ?_; refine Dn.know (fun w_ hw_ => rel2_len (Tk.sat (A := (rel2 w15C ty _)) (by exact tk_) hw_)) fun n3 => ?_)
      refine Cd.conv (Tk.more (p := rel2_pers (fun _ _ => inferInstance) _ _) (A := rel2 w15C wts ws) (rel2_gotI (i := k) (by omega) (by omega)) (by exact tk_)) ?_
      first | (with_reducible refine Cd.g ?_; refine Cd.pk (A := (w15C (rd wts k) (rd ws k))) rfl (by exact tk_) fun q hq => ?_) | (with_reducible refine Ol.g ?_; refine Ol.pk (A := (w15C (rd wts k) (rd ws k))) rfl (by exact tk_) fun q hq => ?_) | (with_reducible refine Dn.g ?_; refine Dn.pk (A := (w15C (rd wts k) (rd ws k))) rfl (by exact tk_) fun q hq => ?_)
      dsimp only [List.cons_append, List.nil_append]
      refine go ?_;repeat((with_reducible refine Ol.g ?_);(first|refine Ol.eff rfl rfl rfl (Eff.alloc fun _=>?_)|refine Ol.eff rfl rfl rfl (Eff.box fun _=>?_)|refine Ol.eff0 rfl rfl (Eff.store rfl rfl ?_)|refine Ol.eff rfl rfl rfl (Eff.bslice rfl rfl fun _=>?_)|(refine Ol.eff0 rfl rfl (Eff.storeE rfl ?_ ?_);exact pre_)|(refine Ol.eff rfl rfl rfl (Eff.append1 rfl ?_ fun _=>?_);exact pre_));refine go ?_)
      refine Cd.condP rfl (fun h2 => ?_) (fun h2 => ?_)
      · unfold lkStep at hs
        rw [if_pos h2] at hs
        refine go ?_;repeat((with_reducible refine Ol.g ?_);(first|refine Ol.eff rfl rfl rfl (Eff.alloc fun _=>?_)|refine Ol.eff rfl rfl rfl (Eff.box fun _=>?_)|refine Ol.eff0 rfl rfl (Eff.store rfl rfl ?_)|refine Ol.eff rfl rfl rfl (Eff.bslice rfl rfl fun _=>?_)|(refine Ol.eff0 rfl rfl (Eff.storeE rfl ?_ ?_);exact pre_)|(refine Ol.eff rfl rfl rfl (Eff.append1 rfl ?_ fun _=>?_);exact pre_));refine go ?_)
        rename_i vs'
        refine Dn.round ⟨k + 1, vw, tw, vs', ts ++ [(rd wts k).f_Task], vy, ty⟩ (by dsimp only; omega) (by dsimp only; omega) ?_ ?_
        · dsimp only; rw [hs]; repeat(first|exact Env.le_nil _|(refine Env.le_cons rfl ?_ ?_;first|rfl|(simp;done)|exact congrArg _ (by omega)|rotate_left))
        · dsimp only; rw [hs]; exact ent_
      refine go ?_;repeat((with_reducible refine Ol.g ?_);(first|refine Ol.eff rfl rfl rfl (Eff.alloc fun _=>?_)|refine Ol.eff rfl rfl rfl (Eff.box fun _=>?_)|refine Ol.eff0 rfl rfl (Eff.store rfl rfl ?_)|refine Ol.eff rfl rfl rfl (Eff.bslice rfl rfl fun _=>?_)|(refine Ol.eff0 rfl rfl (Eff.storeE rfl ?_ ?_);exact pre_)|(refine Ol.eff rfl rfl rfl (Eff.append1 rfl ?_ fun _=>?_);exact pre_));refine go ?_)
      rw [hq]
      with_reducible refine Ol.g ?_
      refine Ol.eff rfl rfl rfl (Eff.call (R := ?_) (fut12_Get fp f (rd ws k).fut hwk) rfl ?_ ?_)
      rotate_left
      · exact tkl_
      rintro _ -
      dsimp only [List.cons_append, List.nil_append]
      unfold lkStep FS.doneB at hs
      rw [if_neg h2] at hs
      cases hin : f.inB (rd ws k).fut with
      | true =>
        rw [hin, Bool.true_and] at hs
        dsimp only
        refine go ?_;repeat((with_reducible refine Ol.g ?_);(first|refine Ol.eff rfl rfl rfl (Eff.alloc fun _=>?_)|refine Ol.eff rfl rfl rfl (Eff.box fun _=>?_)|refine Ol.eff0 rfl rfl (Eff.store rfl rfl ?_)|refine Ol.eff rfl rfl rfl (Eff.bslice rfl rfl fun _=>?_)|(refine Ol.eff0 rfl rfl (Eff.storeE rfl ?_ ?_);exact pre_)|(refine Ol.eff rfl rfl rfl (Eff.append1 rfl ?_ fun _=>?_);exact pre_));refine go ?_)
        by_cases h3 : (f.get (rd ws k).fut).f_State ≠ 0
        · rw [decide_eq_true h3] at hs ⊢
          rw [if_pos rfl] at hs
          refine go ?_;repeat((with_reducible refine Ol.g ?_);(first|refine Ol.eff rfl rfl rfl (Eff.alloc fun _=>?_)|refine Ol.eff rfl rfl rfl (Eff.box fun _=>?_)|refine Ol.eff0 rfl rfl (Eff.store rfl rfl ?_)|refine Ol.eff rfl rfl rfl (Eff.bslice rfl rfl fun _=>?_)|(refine Ol.eff0 rfl rfl (Eff.storeE rfl ?_ ?_);exact pre_)|(refine Ol.eff rfl rfl rfl (Eff.append1 rfl ?_ fun _=>?_);exact pre_));refine go ?_)
          rename_i vw'
          refine Dn.round ⟨k + 1, vw', tw ++ [(rd wts k).f_Task], vs, ts, vy, ty⟩ (by dsimp only; omega) (by dsimp only; omega) ?_ ?_
          · dsimp only; rw [hs]; repeat(first|exact Env.le_nil _|(refine Env.le_cons rfl ?_ ?_;first|rfl|(simp;done)|exact congrArg _ (by omega)|rotate_left))
          · dsimp only; rw [hs]; exact ent_
        · rw [decide_eq_false h3] at hs ⊢
          rw [if_neg (by simp)] at hs
          refine go ?_;repeat((with_reducible refine Ol.g ?_);(first|refine Ol.eff rfl rfl rfl (Eff.alloc fun _=>?_)|refine Ol.eff rfl rfl rfl (Eff.box fun _=>?_)|refine Ol.eff0 rfl rfl (Eff.store rfl rfl ?_)|refine Ol.eff rfl rfl rfl (Eff.bslice rfl rfl fun _=>?_)|(refine Ol.eff0 rfl rfl (Eff.storeE rfl ?_ ?_);exact pre_)|(refine Ol.eff rfl rfl rfl (Eff.append1 rfl ?_ fun _=>?_);exact pre_));refine go ?_)
          rename_i vy'
          refine Dn.round ⟨k + 1, vw, tw, vs, ts, vy', ty ++ [⟨(rd wts k).f_Task, (rd ws k).fut⟩]⟩ (by dsimp only; omega) (by dsimp only; omega) ?_ ?_
          · dsimp only; rw [hs]; repeat(first|exact Env.le_nil _|(refine Env.le_cons rfl ?_ ?_;first|rfl|(simp;done)|exact congrArg _ (by omega)|rotate_left))
          · dsimp only; rw [hs]
            exact ents.cons (by exact tk_) (ents.cons (by exact tk_) (ents.cons (by exact tk_) (ents.cons (by exact tk_) (ents.cons (by exact tk_) (ents.cons (by exact tk_) (ents.cons (by exact tk_) (ents.cons (by exact tk_) (ents.cons (by exact tk_) (ents.rsnoc (Tk.pk (A := w15C ⟨(rd wts k).f_Task, (rd ws k).fut⟩ (rd ws k)) rfl () rfl (by exact tkl_)) (by exact tk_) (by exact ent_))))))))))
      | false =>
        rw [hin, Bool.false_and, if_neg (by simp)] at hs
        dsimp only
        refine go ?_;repeat((with_reducible refine Ol.g ?_);(first|refine Ol.eff rfl rfl rfl (Eff.alloc fun _=>?_)|refine Ol.eff rfl rfl rfl (Eff.box fun _=>?_)|refine Ol.eff0 rfl rfl (Eff.store rfl rfl ?_)|refine Ol.eff rfl rfl rfl (Eff.bslice rfl rfl fun _=>?_)|(refine Ol.eff0 rfl rfl (Eff.storeE rfl ?_ ?_);exact pre_)|(refine Ol.eff rfl rfl rfl (Eff.append1 rfl ?_ fun _=>?_);exact pre_));refine go ?_)
        rename_i vy'
        refine Dn.round ⟨k + 1, vw, tw, vs, ts, vy', ty ++ [⟨(rd wts k).f_Task, (rd ws k).fut⟩]⟩ (by dsimp only; omega) (by dsimp only; omega) ?_ ?_
        · dsimp only; rw [hs]; repeat(first|exact Env.le_nil _|(refine Env.le_cons rfl ?_ ?_;first|rfl|(simp;done)|exact congrArg _ (by omega)|rotate_left))
        · dsimp only; rw [hs]
          exact ents.cons (by exact tk_) (ents.cons (by exact tk_) (ents.cons (by exact tk_) (ents.cons (by exact tk_) (ents.cons (by exact tk_) (ents.cons (by exact tk_) (ents.cons (by exact tk_) (ents.cons (by exact tk_) (ents.cons (by exact tk_) (ents.rsnoc (Tk.pk (A := w15C ⟨(rd wts k).f_Task, (rd ws k).fut⟩ (rd ws k)) rfl () rfl (by exact tkl_)) (by exact tk_) (by exact ent_))))))))))
    · have hkk : k = ws.length := by omega
      subst hkk
      refine go ?_
      exact Dn.weak (by repeat(first|exact Env.le_nil _|(refine Env.le_cons rfl ?_ ?_;first|rfl|(simp;done)|exact congrArg _ (by omega)|rotate_left))) (by exact ent_) (kk ⟨⟨_, vw, tw, vs, ts, vy, ty⟩, rfl⟩)
  rintro ⟨⟨k, vw, tw, vs, ts, vy, ty⟩, hk⟩
  dsimp only
  first | (with_reducible refine Cd.g ?_; refine Cd.know (fun w_ hw_ => rel2_len (Tk.sat (A := (rel2 w15C ty _)) (by exact tk_) hw_)) fun n3 => ?_) | (with_reducible refine Ol.g ?_; refine Ol.know (fun w_ hw_ => rel2_len (Tk.sat (A := (rel2 w15C ty _)) (by exact tk_) hw_)) fun n3 => ?_) | (with_reducible refine Dn.g ?_; refine Dn.know (fun w_ hw_ => rel2_len (Tk.sat (A := (rel2 w15C ty _)) (by exact tk_) hw_)) fun n3 => ?_)
  first | (with_reducible refine Cd.g ?_; refine Cd.know (fun w_ hw_ => one_sl (Tk.sat (A := (sl e_confidantref15_Waiting vy ty)) (by exact tk_) hw_)) fun o1 => ?_) | (with_reducible refine Ol.g ?_; refine Ol.know (fun w_ hw_ => one_sl (Tk.sat (A := (sl e_confidantref15_Waiting vy ty)) (by exact tk_) hw_)) fun o1 => ?_) | (with_reducible refine Dn.g ?_; refine Dn.know (fun w_ hw_ => one_sl (Tk.sat (A := (sl e_confidantref15_Waiting vy ty)) (by exact tk_) hw_)) fun o1 => ?_)
  refine go ?_;repeat((with_reducible refine Ol.g ?_);(first|refine Ol.eff rfl rfl rfl (Eff.alloc fun _=>?_)|refine Ol.eff rfl rfl rfl (Eff.box fun _=>?_)|refine Ol.eff0 rfl rfl (Eff.store rfl rfl ?_)|refine Ol.eff rfl rfl rfl (Eff.bslice rfl rfl fun _=>?_)|(refine Ol.eff0 rfl rfl (Eff.storeE rfl ?_ ?_);exact pre_)|(refine Ol.eff rfl rfl rfl (Eff.append1 rfl ?_ fun _=>?_);exact pre_));refine go ?_)
  refine Dn.ret3 rfl rfl rfl rfl fun w hs => ⟨⟨0, vw, tw, vs, ts, vy, ty⟩, rfl, n3, hs.conv (by exact ent_)⟩
end Go.Proofs.YtihmbmoeedojoaaGreat

