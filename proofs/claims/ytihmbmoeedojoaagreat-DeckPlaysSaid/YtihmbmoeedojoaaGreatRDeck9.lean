/- Contracts of functions of the program, proved in a small separation logic. Conditions: those that each theorem states. -/
import Derived.Test.YtihmbmoeedojoaaGreatRDeck8
namespace Go.Proofs.YtihmbmoeedojoaaGreat
open Go Go.Sl
set_option maxHeartbeats 4000000
set_option maxRecDepth 100000
set_option linter.unusedVariables false
structure EY where
  k : Nat
  ve : Value
  vo : Value
  to : List S_api_Task
theorem home_in {d : DK} (h : 1 ≤ d.hands.length) (w : Int) : 0 ≤ d.home w ∧ d.home w < (d.hands.length : Int) := by
  unfold DK.home
  cases hb : d.hasB w with
  | true => exact of_decide_eq_true hb
  | false => exact ⟨Int.le_refl 0, by dsimp only; omega⟩
-- FN (*confidant/confidantref24.Deck).Enter
theorem deck24_Enter (p : Nat) (d : DK) (l : List QI) (ws : List WT) (round : Int) (hl : l.length ≤ 1048576) :
    Sp Tryz.prog 20 [.pointer (some ⟨p, 0, none⟩), .int .i64 round] [deckR p d l ws] (fun y : EY => True) (fun y => .tuple #[y.ve, y.vo])
      (fun y => [deckR p (d.enter l round).d [] ws, sl e_api_Event y.ve (d.enter l round).ev, sl e_api_Task y.vo y.to, rel2 tkC y.to (d.enter l round).over]) := by
  have hml : (l.map (·.task)).length = l.length := List.length_map _
  refine Sp.intro (n := 52) Tryz.func20 rfl rfl fun w0 R => ?_
  dsimp only [List.cons_append, List.nil_append, envOf]
  refine go ?_
  refine Cd.loop (fun z : EY => z.k ≤ l.length) (fun z => l.length - z.k) (fun z => [(0, .pointer (some ⟨p, 0, none⟩)), (1, .int .i64 round), (6, z.ve), (7, z.vo)])
    (fun z => deckR p (puK round 7 d (l.map (·.task)) z.k).d (l.drop z.k) ws :: sl e_api_Event z.ve (puK round 7 d (l.map (·.task)) z.k).ev :: sl e_api_Task z.vo z.to :: rel2 tkC z.to (puK round 7 d (l.map (·.task)) z.k).over :: R) ⟨0, .slice none 0 0, .slice none 0 0, []⟩ (by simp) ?_ ?_ ?_
  · repeat(first|exact Env.le_nil _|(refine Env.le_cons rfl ?_ ?_;first|rfl|(simp;done)|exact congrArg _ (by omega)|rotate_left))
  · dsimp only
    rw [show puK round 7 d (l.map (·.task)) 0 = ⟨d, [], []⟩ from rfl, List.drop_zero]
    exact ent_
  rintro ⟨k, ve, vo, to⟩ hk
  dsimp only at hk ⊢
  have I := pu_ok round 7 d (l.map (·.task)) k (by omega)
  have i1 := I.e; have i2 := I.o
  by_cases h : k = l.length
  · unfold DK.enter
    rw [hml, ← h]
    generalize hst : puK round 7 d (l.map (·.task)) k = st at i1 i2 ⊢
    rw [h, List.drop_length]
    first | (with_reducible refine Cd.g ?_; refine Cd.pk (A := (deckR p st.d [] ws)) rfl (by exact tk_) fun y hy => ?_) | (with_reducible refine Ol.g ?_; refine Ol.pk (A := (deckR p st.d [] ws)) rfl (by exact tk_) fun y hy => ?_) | (with_reducible refine Dn.g ?_; refine Dn.pk (A := (deckR p st.d [] ws)) rfl (by exact tk_) fun y hy => ?_)
    dsimp only [List.cons_append, List.nil_append]
    refine go ?_
    with_reducible refine Ol.g ?_
    refine Ol.eff rfl rfl rfl (Eff.call (R := ?_) (queue15_Pop p y st.d [] (by simp) (by simpa using hy.es)) rfl ?_ ?_)
    rotate_left
    · exact tkl_
    rintro ⟨t, v, es⟩ hes
    dsimp only [List.cons_append, List.nil_append, List.tail_nil] at hes ⊢
    rw [decide_eq_false (by simp)]
    refine go ?_;repeat((with_reducible refine Ol.g ?_);(first|refine Ol.eff rfl rfl rfl (Eff.alloc fun _=>?_)|refine Ol.eff rfl rfl rfl (Eff.box fun _=>?_)|refine Ol.eff0 rfl rfl (Eff.store rfl rfl ?_)|refine Ol.eff rfl rfl rfl (Eff.bslice rfl rfl fun _=>?_)|(refine Ol.eff0 rfl rfl (Eff.storeE rfl ?_ ?_);exact pre_)|(refine Ol.eff rfl rfl rfl (Eff.append1 rfl ?_ fun _=>?_);exact pre_));refine go ?_)
    refine Dn.ret2 rfl rfl rfl fun w hs => ⟨⟨k, ve, vo, to⟩, rfl, trivial, hs.conv (ents.pk (yP y v es) ⟨hy.rs, hy.hts, hy.h1, hy.h8, hes, hy.lb, hy.wts, hy.wb⟩ (by dsimp only [List.cons_append, List.nil_append]; exact ent_))⟩
  · have hk2 : k < l.length := by omega
    have hdr : l.drop k = rd l k :: l.drop (k + 1) := drop_rd hk2
    have hs := puK_succ round 7 d (l.map (·.task)) (k := k) (by omega)
    rw [rd_map (·.task) (show 0 ≤ (k : Int) ∧ (k : Int) < l.length by omega)] at hs
    generalize hst : puK round 7 d (l.map (·.task)) k = st at hs i1 i2 ⊢
    rw [hdr]
    first | (with_reducible refine Cd.g ?_; refine Cd.know (fun w_ hw_ => rel2_len (Tk.sat (A := (rel2 tkC to _)) (by exact tk_) hw_)) fun n1 => ?_) | (with_reducible refine Ol.g ?_; refine Ol.know (fun w_ hw_ => rel2_len (Tk.sat (A := (rel2 tkC to _)) (by exact tk_) hw_)) fun n1 => ?_) | (with_reducible refine Dn.g ?_; refine Dn.know (fun w_ hw_ => rel2_len (Tk.sat (A := (rel2 tkC to _)) (by exact tk_) hw_)) fun n1 => ?_)
    first | (with_reducible refine Cd.g ?_; refine Cd.pk (A := (deckR p st.d (rd l k :: l.drop (k + 1)) ws)) rfl (by exact tk_) fun y hy => ?_) | (with_reducible refine Ol.g ?_; refine Ol.pk (A := (deckR p st.d (rd l k :: l.drop (k + 1)) ws)) rfl (by exact tk_) fun y hy => ?_) | (with_reducible refine Dn.g ?_; refine Dn.pk (A := (deckR p st.d (rd l k :: l.drop (k + 1)) ws)) rfl (by exact tk_) fun y hy => ?_)
    dsimp only [List.cons_append, List.nil_append]
    refine go ?_
    with_reducible refine Ol.g ?_
    refine Ol.eff rfl rfl rfl (Eff.call (R := ?_) (queue15_Pop p y st.d (rd l k :: l.drop (k + 1)) (by have := hy.lb; exact this) hy.es) rfl ?_ ?_)
    rotate_left
    · exact tkl_
    rintro ⟨t, v, es⟩ hes
    dsimp only [List.cons_append, List.nil_append] at hes ⊢
    rw [decide_eq_true (by simp), show popA (rd l k :: l.drop (k + 1)) = rd l k from rfl, List.tail_cons]
    rw [List.tail_cons] at hes
    first | (with_reducible refine Cd.g ?_; refine Cd.know (fun w_ hw_ => tkC_ok (Tk.sat (A := (tkC t (rd l k).task)) (by exact tk_) hw_)) fun ht => ?_) | (with_reducible refine Ol.g ?_; refine Ol.know (fun w_ hw_ => tkC_ok (Tk.sat (A := (tkC t (rd l k).task)) (by exact tk_) hw_)) fun ht => ?_) | (with_reducible refine Dn.g ?_; refine Dn.know (fun w_ hw_ => tkC_ok (Tk.sat (A := (tkC t (rd l k).task)) (by exact tk_) hw_)) fun ht => ?_)
    have ew : t.f_Worker = (rd l k).task.worker := congrArg AT.worker ht.1
    have ei : t.f_Id = (rd l k).task.id := congrArg AT.id ht.1
    have hrs := hy.rs
    refine go ?_;repeat((with_reducible refine Ol.g ?_);(first|refine Ol.eff rfl rfl rfl (Eff.alloc fun _=>?_)|refine Ol.eff rfl rfl rfl (Eff.box fun _=>?_)|refine Ol.eff0 rfl rfl (Eff.store rfl rfl ?_)|refine Ol.eff rfl rfl rfl (Eff.bslice rfl rfl fun _=>?_)|(refine Ol.eff0 rfl rfl (Eff.storeE rfl ?_ ?_);exact pre_)|(refine Ol.eff rfl rfl rfl (Eff.append1 rfl ?_ fun _=>?_);exact pre_));refine go ?_)
    rename_i c
    with_reducible refine Ol.g ?_
    refine Ol.eff rfl rfl rfl (Eff.call (R := ?_) (deck24_event p (yP y v es) st.d round 7 t.f_Worker t.f_Id) rfl ?_ ?_)
    rotate_left
    · exact tkl_
    rintro _ -
    dsimp only [List.cons_append, List.nil_append]
    refine go ?_;repeat((with_reducible refine Ol.g ?_);(first|refine Ol.eff rfl rfl rfl (Eff.alloc fun _=>?_)|refine Ol.eff rfl rfl rfl (Eff.box fun _=>?_)|refine Ol.eff0 rfl rfl (Eff.store rfl rfl ?_)|refine Ol.eff rfl rfl rfl (Eff.bslice rfl rfl fun _=>?_)|(refine Ol.eff0 rfl rfl (Eff.storeE rfl ?_ ?_);exact pre_)|(refine Ol.eff rfl rfl rfl (Eff.append1 rfl ?_ fun _=>?_);exact pre_));refine go ?_)
    rename_i v0 ve'
    rw [show (⟨round, st.d.label, 7, t.f_Worker, t.f_Id, 0, 0⟩ : S_api_Event) = evOf st.d.label round 7 (rd l k).task from by rw [ew, ei]; rfl]
    have hw := home_in hy.h1 (rd l k).task.worker
    refine Cd.rel (R := rgC) (l := y.rs) (q := st.d.hands.map hRQ) (st.d.home (rd l k).task.worker) (by exact tk_) (by simpa using hw) ?_
    rw [rd_map hRQ hw]
    refine Cd.draw2 [[], [0], [0, 1], [0, 1, 2], [], [], [5], [4, 5, 6], [0, 1, 2, 3, 4, 5, 6, 7], [0, 1, 2, 3, 4, 5, 6, 7, 8], [], [10], [0, 1, 2, 3, 4, 5, 6, 7, 8, 9, 10, 11], [0, 1, 2, 3, 4, 5, 6, 7, 8, 9, 10, 11, 12]] [7, 12] [] (td := [(0, .fresh), (1, .fresh), (2, .fresh), (3, .fresh), (4, .fresh), (5, .fresh), (6, .fresh), (10, .fresh), (11, .fresh)]) mixed (by kernel_rfl) (by kernel_rfl) (by decide) (by decide) rfl (by kernel_rfl) ?_
    refine god2 ?_
    refine Sg2.one (td := [(0, .old), (1, .old), (2, .old), (3, .old), (8, .fresh), (9, .fresh), (10, .old), (11, .old)]) rfl (by kernel_rfl) fun F7_ => ?_
    dsimp only [List.cons_append, List.nil_append]
    refine SpOp.eff rfl rfl rfl rfl rfl (Eff.call (R := ?_) (deck24_home p (yP y v es) st.d t (rd l k).task hy.rs) rfl ?_ ?_)
    rotate_left
    · exact tkl_
    rintro _ -
    dsimp only [List.cons_append, List.nil_append]
    refine Sn.ok ?_
    unfold puStep at hs
    generalize hww : st.d.home (rd l k).task.worker = w at hs hw ⊢
    have hb : st.d.hasB w = true := decide_eq_true hw
    refine god2 ?_
    refine Sg2.one (td := [(13, .fresh)]) rfl (by kernel_rfl) fun F12_ => ?_
    dsimp only [List.cons_append, List.nil_append]
    refine SpOp.eff rfl rfl rfl rfl rfl (Eff.call (R := ?_) (ring15_Push (rd y.rs w) (rd st.d.hands w).room (rd st.d.hands w).q t (rd l k).task) rfl ?_ ?_)
    rotate_left
    · exact tkl_
    rintro _ -
    dsimp only [List.cons_append, List.nil_append]
    refine Sn.ok ?_
    refine god2 ?_
    have hpb : st.d.pushB w = decide ((rd st.d.hands w).q.length < (rd st.d.hands w).room) := by unfold DK.pushB; rw [hb]; rfl
    refine Dn.conv (H' := deckR p (st.d.push w (rd l k).task) (l.drop (k + 1)) ws :: cel c 118 [.int .i64 (rd l k).round, .int .i32 t.f_Id, .int .i64 t.f_Func, .int .i64 t.f_Pc, t.f_Stack, .int .i32 t.f_Vars0, .int .i32 t.f_Vars1, .int .i32 t.f_Vars2, .int .i32 t.f_Vars3, .int .i64 t.f_Label, .int .i64 t.f_Clear, .int .u32 t.f_Privs, .int .i64 t.f_Worker] :: tkC t (rd l k).task :: sl e_api_Event ve' (st.ev ++ [evOf st.d.label round 7 (rd l k).task]) :: sl e_api_Task vo to :: rel2 tkC to st.over :: R) ?_ ?_
    · unfold DK.push; rw [hb]
      refine deckR_q (y := yP y v es) ⟨hy.rs, hy.hts, hy.h1, hy.h8, hes, by have := hy.lb; simp at this ⊢; omega, hy.wts, hy.wb⟩ hw (q := if (rd st.d.hands w).q.length < (rd st.d.hands w).room then (rd st.d.hands w).q ++ [(rd l k).task] else (rd st.d.hands w).q) ?_
      exact ent_
    refine go ?_
    refine Cd.condP rfl (fun hc => ?_) (fun hc => ?_)
    · rw [hpb, decide_eq_false hc] at hs
      refine go ?_;repeat((with_reducible refine Ol.g ?_);(first|refine Ol.eff rfl rfl rfl (Eff.alloc fun _=>?_)|refine Ol.eff rfl rfl rfl (Eff.box fun _=>?_)|refine Ol.eff0 rfl rfl (Eff.store rfl rfl ?_)|refine Ol.eff rfl rfl rfl (Eff.bslice rfl rfl fun _=>?_)|(refine Ol.eff0 rfl rfl (Eff.storeE rfl ?_ ?_);exact pre_)|(refine Ol.eff rfl rfl rfl (Eff.append1 rfl ?_ fun _=>?_);exact pre_));refine go ?_)
      rename_i vo'
      refine Dn.round ⟨k + 1, ve', vo', to ++ [t]⟩ (by dsimp only; omega) (by dsimp only; omega) ?_ ?_
      · repeat(first|exact Env.le_nil _|(refine Env.le_cons rfl ?_ ?_;first|rfl|(simp;done)|exact congrArg _ (by omega)|rotate_left))
      · dsimp only; rw [hs]; exact ent_
    · rw [hpb, decide_eq_true (Decidable.not_not.1 hc)] at hs
      refine go ?_
      refine Dn.round ⟨k + 1, ve', vo, to⟩ (by dsimp only; omega) (by dsimp only; omega) ?_ ?_
      · repeat(first|exact Env.le_nil _|(refine Env.le_cons rfl ?_ ?_;first|rfl|(simp;done)|exact congrArg _ (by omega)|rotate_left))
      · dsimp only; rw [hs]; exact ent_
end Go.Proofs.YtihmbmoeedojoaaGreat

