/- Contracts of functions of the program, proved in a small separation logic. Conditions: those that each theorem states. -/
import Derived.Test.YtihmbmoeedojoaaGreatRDeck9
namespace Go.Proofs.YtihmbmoeedojoaaGreat
open Go Go.Sl
set_option maxHeartbeats 4000000
set_option maxRecDepth 100000
set_option linter.unusedVariables false
-- FN (*confidant/confidantref24.Deck).Wake
theorem deck24_Wake (p fp : Nat) (d : DK) (l : List QI) (ws : List WT) (f : FS) (round : Int) (hf : d.fuel ≤ 9223372036854775807) (hw : lkB ws) :
    Sp Tryz.prog 26 [.pointer (some ⟨p, 0, none⟩), .pointer (some ⟨fp, 0, none⟩), .int .i64 round] [deckR p d l ws, fut12C fp f] (fun y : WY => True) (fun y => .tuple #[y.ve, y.vo, y.vs])
      (fun y => [deckR p (d.wake ws f round).d l (d.wake ws f round).ws, fut12C fp f, sl e_api_Event y.ve (d.wake ws f round).ev, sl e_api_Task y.vo y.to, rel2 tkC y.to (d.wake ws f round).over, sl e_api_Task y.vs y.ts, rel2 tkC y.ts (d.wake ws f round).starved]) := by
  have I0 := (lk_ok f d.fuel ws hf ws.length (Nat.le_refl _)).a
  refine Sp.intro (n := 72) Tryz.func26 rfl rfl fun w0 R => ?_
  dsimp only [List.cons_append, List.nil_append, envOf]
  first | (with_reducible refine Cd.g ?_; refine Cd.pk (A := (deckR p d l ws)) rfl (by exact tk_) fun y hy => ?_) | (with_reducible refine Ol.g ?_; refine Ol.pk (A := (deckR p d l ws)) rfl (by exact tk_) fun y hy => ?_) | (with_reducible refine Dn.g ?_; refine Dn.pk (A := (deckR p d l ws)) rfl (by exact tk_) fun y hy => ?_)
  dsimp only [List.cons_append, List.nil_append]
  have hwb := hy.wb
  refine go ?_
  refine Cd.forget 11 rfl ?_
  refine Cd.forget 12 rfl ?_
  refine Cd.drawL (l := [_, _, _, _, _, _, _, _, _, _, _, _, _, _, _]) (z := _) [[], [0], [0, 1], [], [], [4], [4, 5], [4, 5, 6], [0, 1, 2, 3, 4, 5, 6, 7], [0, 1, 2, 3, 4, 5, 6, 7, 8], [0, 1, 2, 3, 4, 5, 6, 7, 8, 9], [0, 1, 2, 3, 4, 5, 6, 7, 8, 9], [0, 1, 2, 3, 4, 5, 6, 7, 8, 9], [0, 1, 2, 3, 4, 5, 6, 7, 8, 9, 10], [0, 1, 2, 3, 4, 5, 6, 7, 8, 9, 10, 11, 13]] [8] [] (td := [(0, .fresh), (1, .fresh), (2, .fresh), (3, .fresh), (4, .fresh), (5, .fresh), (6, .fresh), (7, .fresh)]) rfl mixed (by kernel_rfl) (by kernel_rfl) (by kernel_rfl) (by decide) (by decide) rfl (by kernel_rfl) ?_
  refine god2 ?_
  refine Sg2.one (td := [(9, .fresh), (10, .fresh), (11, .fresh), (12, .fresh), (13, .fresh), (14, .fresh)]) rfl (by kernel_rfl) fun F8_ => ?_
  dsimp only [List.cons_append, List.nil_append]
  refine SpOp.eff rfl rfl rfl rfl rfl (Eff.call (R := ?_) (park15_Look p fp y d ws f d.fuel hf hw hy.wts hy.wb) rfl ?_ ?_)
  rotate_left
  · exact tkl_
  rintro ⟨k0, vw, tw, vs, ts, vy, ty⟩ hty
  dsimp only [List.cons_append, List.nil_append] at hty ⊢
  refine Sn.ok ?_
  refine god2 ?_
  unfold DK.wake
  generalize lkK f d.fuel ws ws.length = s at I0 hty ⊢
  dsimp only
  first | (with_reducible refine Cd.g ?_; refine Cd.know (fun w_ hw_ => rel2_len (Tk.sat (A := (rel2 tkC tw _)) (by exact tk_) hw_)) fun htw => ?_) | (with_reducible refine Ol.g ?_; refine Ol.know (fun w_ hw_ => rel2_len (Tk.sat (A := (rel2 tkC tw _)) (by exact tk_) hw_)) fun htw => ?_) | (with_reducible refine Dn.g ?_; refine Dn.know (fun w_ hw_ => rel2_len (Tk.sat (A := (rel2 tkC tw _)) (by exact tk_) hw_)) fun htw => ?_)
  refine go ?_;repeat((with_reducible refine Ol.g ?_);(first|refine Ol.eff rfl rfl rfl (Eff.alloc fun _=>?_)|refine Ol.eff rfl rfl rfl (Eff.box fun _=>?_)|refine Ol.eff0 rfl rfl (Eff.store rfl rfl ?_)|refine Ol.eff rfl rfl rfl (Eff.bslice rfl rfl fun _=>?_)|(refine Ol.eff0 rfl rfl (Eff.storeE rfl ?_ ?_);exact pre_)|(refine Ol.eff rfl rfl rfl (Eff.append1 rfl ?_ fun _=>?_);exact pre_));refine go ?_)
  refine Cd.loop (fun z : EY => z.k ≤ s.woken.length) (fun z => s.woken.length - z.k) (fun z => [(0, .pointer (some ⟨p, 0, none⟩)), (2, .int .i64 round), (9, z.ve), (10, z.vo), (11, vw), (12, vs), (14, .int .i64 z.k)])
    (fun z => deckR p (puK round 5 (d.setF s.left) s.woken z.k).d l s.stay :: fut12C fp f :: sl e_api_Task vw tw :: rel2 tkC tw s.woken :: sl e_api_Task vs ts :: rel2 tkC ts s.starved :: sl e_api_Event z.ve (puK round 5 (d.setF s.left) s.woken z.k).ev :: sl e_api_Task z.vo z.to :: rel2 tkC z.to (puK round 5 (d.setF s.left) s.woken z.k).over :: R) ⟨0, .slice none 0 0, .slice none 0 0, []⟩ (by simp) ?_ ?_ ?_
  · repeat(first|exact Env.le_nil _|(refine Env.le_cons rfl ?_ ?_;first|rfl|(simp;done)|exact congrArg _ (by omega)|rotate_left))
  · dsimp only
    rw [show puK round 5 (d.setF s.left) s.woken 0 = ⟨d.setF s.left, [], []⟩ from rfl]
    refine ents.pk (yW y vy ty) ⟨hy.rs, hy.hts, hy.h1, hy.h8, hy.es, hy.lb, hty, by omega⟩ ?_
    dsimp only [DK.setF, List.cons_append, List.nil_append]
    exact ent_
  rintro ⟨k, ve, vo, to⟩ hk
  dsimp only at hk ⊢
  have I := pu_ok round 5 (d.setF s.left) s.woken k hk
  have i1 := I.e; have i2 := I.o
  refine go ?_
  refine Cd.condP rfl (fun h => ?_) (fun h => ?_)
  · have hk2 : k < s.woken.length := by omega
    have hs := puK_succ round 5 (d.setF s.left) s.woken hk2
    generalize hst : puK round 5 (d.setF s.left) s.woken k = st at hs i1 i2 ⊢
    first | (with_reducible refine Cd.g ?_; refine Cd.know (fun w_ hw_ => rel2_len (Tk.sat (A := (rel2 tkC to _)) (by exact tk_) hw_)) fun n1 => ?_) | (with_reducible refine Ol.g ?_; refine Ol.know (fun w_ hw_ => rel2_len (Tk.sat (A := (rel2 tkC to _)) (by exact tk_) hw_)) fun n1 => ?_) | (with_reducible refine Dn.g ?_; refine Dn.know (fun w_ hw_ => rel2_len (Tk.sat (A := (rel2 tkC to _)) (by exact tk_) hw_)) fun n1 => ?_)
    refine Cd.conv (Tk.more (p := rel2_pers (fun _ _ => inferInstance) _ _) (A := rel2 tkC tw s.woken) (rel2_gotI (i := k) (by omega) (by omega)) (by exact tk_)) ?_
    first | (with_reducible refine Cd.g ?_; refine Cd.know (fun w_ hw_ => tkC_ok (Tk.sat (A := (tkC (rd tw k) (rd s.woken k))) (by exact tk_) hw_)) fun ht => ?_) | (with_reducible refine Ol.g ?_; refine Ol.know (fun w_ hw_ => tkC_ok (Tk.sat (A := (tkC (rd tw k) (rd s.woken k))) (by exact tk_) hw_)) fun ht => ?_) | (with_reducible refine Dn.g ?_; refine Dn.know (fun w_ hw_ => tkC_ok (Tk.sat (A := (tkC (rd tw k) (rd s.woken k))) (by exact tk_) hw_)) fun ht => ?_)
    have ew : (rd tw k).f_Worker = (rd s.woken k).worker := congrArg AT.worker ht.1
    have ei : (rd tw k).f_Id = (rd s.woken k).id := congrArg AT.id ht.1
    first | (with_reducible refine Cd.g ?_; refine Cd.pk (A := (deckR p st.d l s.stay)) rfl (by exact tk_) fun y2 hy2 => ?_) | (with_reducible refine Ol.g ?_; refine Ol.pk (A := (deckR p st.d l s.stay)) rfl (by exact tk_) fun y2 hy2 => ?_) | (with_reducible refine Dn.g ?_; refine Dn.pk (A := (deckR p st.d l s.stay)) rfl (by exact tk_) fun y2 hy2 => ?_)
    dsimp only [List.cons_append, List.nil_append]
    have hrs := hy2.rs
    refine go ?_;repeat((with_reducible refine Ol.g ?_);(first|refine Ol.eff rfl rfl rfl (Eff.alloc fun _=>?_)|refine Ol.eff rfl rfl rfl (Eff.box fun _=>?_)|refine Ol.eff0 rfl rfl (Eff.store rfl rfl ?_)|refine Ol.eff rfl rfl rfl (Eff.bslice rfl rfl fun _=>?_)|(refine Ol.eff0 rfl rfl (Eff.storeE rfl ?_ ?_);exact pre_)|(refine Ol.eff rfl rfl rfl (Eff.append1 rfl ?_ fun _=>?_);exact pre_));refine go ?_)
    rename_i c
    with_reducible refine Ol.g ?_
    refine Ol.eff rfl rfl rfl (Eff.call (R := ?_) (deck24_event p y2 st.d round 5 (rd tw k).f_Worker (rd tw k).f_Id) rfl ?_ ?_)
    rotate_left
    · exact tkl_
    rintro _ -
    dsimp only [List.cons_append, List.nil_append]
    refine go ?_;repeat((with_reducible refine Ol.g ?_);(first|refine Ol.eff rfl rfl rfl (Eff.alloc fun _=>?_)|refine Ol.eff rfl rfl rfl (Eff.box fun _=>?_)|refine Ol.eff0 rfl rfl (Eff.store rfl rfl ?_)|refine Ol.eff rfl rfl rfl (Eff.bslice rfl rfl fun _=>?_)|(refine Ol.eff0 rfl rfl (Eff.storeE rfl ?_ ?_);exact pre_)|(refine Ol.eff rfl rfl rfl (Eff.append1 rfl ?_ fun _=>?_);exact pre_));refine go ?_)
    rename_i v0 ve'
    rw [show (⟨round, st.d.label, 5, (rd tw k).f_Worker, (rd tw k).f_Id, 0, 0⟩ : S_api_Event) = evOf st.d.label round 5 (rd s.woken k) from by rw [ew, ei]; rfl]
    have hw := home_in hy2.h1 (rd s.woken k).worker
    refine Cd.rel (R := rgC) (l := y2.rs) (q := st.d.hands.map hRQ) (st.d.home (rd s.woken k).worker) (by exact tk_) (by simpa using hw) ?_
    rw [rd_map hRQ hw]
    refine Cd.draw2 [[], [0], [0, 1], [0, 1, 2], [], [], [4, 5], [0, 1, 2, 3, 4, 5, 6], [0, 1, 2, 3, 4, 5, 6, 7], [], [0, 1, 2, 3, 4, 5, 6, 7, 8, 9], [0, 1, 2, 3, 4, 5, 6, 7, 8, 9, 10]] [6, 10] [] (td := [(0, .fresh), (1, .fresh), (2, .fresh), (3, .fresh), (4, .fresh), (5, .fresh), (9, .fresh)]) mixed (by kernel_rfl) (by kernel_rfl) (by decide) (by decide) rfl (by kernel_rfl) ?_
    refine god2 ?_
    refine Sg2.one (td := [(0, .old), (1, .old), (2, .old), (3, .old), (7, .fresh), (8, .fresh), (9, .old)]) rfl (by kernel_rfl) fun F6_ => ?_
    dsimp only [List.cons_append, List.nil_append]
    refine SpOp.eff rfl rfl rfl rfl rfl (Eff.call (R := ?_) (deck24_home p y2 st.d (rd tw k) (rd s.woken k) hy2.rs) rfl ?_ ?_)
    rotate_left
    · exact tkl_
    rintro _ -
    dsimp only [List.cons_append, List.nil_append]
    refine Sn.ok ?_
    unfold puStep at hs
    generalize hww : st.d.home (rd s.woken k).worker = w at hs hw ⊢
    have hb : st.d.hasB w = true := decide_eq_true hw
    refine god2 ?_
    refine Sg2.one (td := [(11, .fresh)]) rfl (by kernel_rfl) fun F10_ => ?_
    dsimp only [List.cons_append, List.nil_append]
    refine SpOp.eff rfl rfl rfl rfl rfl (Eff.call (R := ?_) (ring15_Push (rd y2.rs w) (rd st.d.hands w).room (rd st.d.hands w).q (rd tw k) (rd s.woken k)) rfl ?_ ?_)
    rotate_left
    · exact tkl_
    rintro _ -
    dsimp only [List.cons_append, List.nil_append]
    refine Sn.ok ?_
    refine god2 ?_
    have hpb : st.d.pushB w = decide ((rd st.d.hands w).q.length < (rd st.d.hands w).room) := by unfold DK.pushB; rw [hb]; rfl
    refine Dn.conv (H' := deckR p (st.d.push w (rd s.woken k)) l s.stay :: fut12C fp f :: cel c 45 (tC (rd tw k)) :: tkC (rd tw k) (rd s.woken k) :: sl e_api_Task vw tw :: rel2 tkC tw s.woken :: sl e_api_Task vs ts :: rel2 tkC ts s.starved :: sl e_api_Event ve' (st.ev ++ [evOf st.d.label round 5 (rd s.woken k)]) :: sl e_api_Task vo to :: rel2 tkC to st.over :: R) ?_ ?_
    · unfold DK.push; rw [hb]
      refine deckR_q hy2 hw (q := if (rd st.d.hands w).q.length < (rd st.d.hands w).room then (rd st.d.hands w).q ++ [rd s.woken k] else (rd st.d.hands w).q) ?_
      exact ent_
    refine go ?_
    refine Cd.condP rfl (fun hc => ?_) (fun hc => ?_)
    · rw [hpb, decide_eq_false hc] at hs
      refine go ?_;repeat((with_reducible refine Ol.g ?_);(first|refine Ol.eff rfl rfl rfl (Eff.alloc fun _=>?_)|refine Ol.eff rfl rfl rfl (Eff.box fun _=>?_)|refine Ol.eff0 rfl rfl (Eff.store rfl rfl ?_)|refine Ol.eff rfl rfl rfl (Eff.bslice rfl rfl fun _=>?_)|(refine Ol.eff0 rfl rfl (Eff.storeE rfl ?_ ?_);exact pre_)|(refine Ol.eff rfl rfl rfl (Eff.append1 rfl ?_ fun _=>?_);exact pre_));refine go ?_)
      rename_i vo'
      refine Dn.round ⟨k + 1, ve', vo', to ++ [rd tw k]⟩ (by dsimp only; omega) (by dsimp only; omega) ?_ ?_
      · repeat(first|exact Env.le_nil _|(refine Env.le_cons rfl ?_ ?_;first|rfl|(simp;done)|exact congrArg _ (by omega)|rotate_left))
      · dsimp only; rw [hs]; exact ent_
    · rw [hpb, decide_eq_true (Decidable.not_not.1 hc)] at hs
      refine go ?_
      refine Dn.round ⟨k + 1, ve', vo, to⟩ (by dsimp only; omega) (by dsimp only; omega) ?_ ?_
      · repeat(first|exact Env.le_nil _|(refine Env.le_cons rfl ?_ ?_;first|rfl|(simp;done)|exact congrArg _ (by omega)|rotate_left))
      · dsimp only; rw [hs]; exact ent_
  · have hkk : k = s.woken.length := by omega
    subst hkk
    refine go ?_
    refine Dn.ret3 rfl rfl rfl rfl fun w hs => ⟨⟨ve, vo, to, vs, ts⟩, rfl, trivial, hs.conv (by exact ent_)⟩
end Go.Proofs.YtihmbmoeedojoaaGreat

