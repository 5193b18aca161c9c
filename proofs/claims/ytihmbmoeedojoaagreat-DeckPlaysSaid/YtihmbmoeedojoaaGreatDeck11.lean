/- Contracts of functions of the program, proved in a small separation logic. Conditions: those that each theorem states. -/
import Derived.Test.YtihmbmoeedojoaaGreatQueue4
import Derived.Test.YtihmbmoeedojoaaGreatDeck10
namespace Go.Proofs.YtihmbmoeedojoaaGreat
open Go Go.Sl
set_option maxHeartbeats 4000000
set_option maxRecDepth 100000
set_option linter.unusedVariables false
-- FN (*confidant/deck.Deck).Live
theorem deck_LiveS (p : Nat) (x : DX) (d : DK) (l : List QI) (n : Int) (ws : List WT) :
    Sp Tryz.prog 34 [.pointer (some ⟨p, 0, none⟩)] [deckH p x d, queueS x.qp l n, parkH x.pp ws] (fun _ : Unit => True) (fun _ => .int .i64 ((l.length : Int) + ws.length + (liveK d.hands d.hands.length : Nat))) (fun _ => [deckH p x d, queueS x.qp l n, parkH x.pp ws]) := by
  intro w0 w R hw
  obtain ⟨arr, hx⟩ := (hw.conv (show ents _ (queueS x.qp l n :: deckH p x d :: parkH x.pp ws :: R) from by dsimp only [List.cons_append, List.nil_append]; exact ent_)).o_ex
  have hy := hx.o_stars
  obtain ⟨ha, hz⟩ := St.o_prop hy
  have := deck_Live p x d arr n ws w0 w R (hz.conv (show ents (queueH x.qp arr n :: deckH p x d :: parkH x.pp ws :: R) (deckH p x d :: queueH x.qp arr n :: parkH x.pp ws :: R) from by exact ent_))
  refine Calls.mono this ?_
  rintro e w' ⟨v, he, u, hv, hp, hs⟩
  replace hs : St w0 (deckH p x d :: queueH x.qp arr n :: parkH x.pp ws :: R) w' := hs
  exact ⟨v, he, (), by rw [hv, ha.perm.length_eq], trivial, hs.conv (show ents _ (deckH p x d :: queueS x.qp l n :: parkH x.pp ws :: R) from ents.cons (by exact tk_) (ents.pk arr ha (by dsimp only [List.cons_append, List.nil_append]; exact ent_)))⟩
structure EX where
  k : Nat
  c : Nat
  u : S_api_Task
  v : Value
  ts : List S_api_Task
def DK.enter (d : DK) (l : List QI) (round : Int) : PU := puK round 7 d (l.map (·.task)) (l.map (·.task)).length
-- FN (*confidant/deck.Deck).Enter
theorem deck_Enter (p : Nat) (x : DX) (d : DK) (l : List QI) (n round : Int) (hl : l.length ≤ 1048576) :
    Sp Tryz.prog 19 [.pointer (some ⟨p, 0, none⟩), .int .i64 round] [deckH p x d, queueS x.qp l n] (fun y : PX => True) (fun y => .tuple #[y.ve, y.vo])
      (fun y => [deckH p x (d.enter l round).d, queueS x.qp [] n, sl e_api_Event y.ve (d.enter l round).ev, sl e_api_Task y.vo y.to, rel2 tkC y.to (d.enter l round).over]) := by
  refine Sp.intro (n := 38) Tryz.func19 rfl rfl fun w0 R => ?_
  dsimp only [List.cons_append, List.nil_append, envOf]
  first | (with_reducible refine Cd.g ?_; refine Cd.pk (A := (deckH p x d)) rfl (by exact tk_) fun u hd => ?_) | (with_reducible refine Ol.g ?_; refine Ol.pk (A := (deckH p x d)) rfl (by exact tk_) fun u hd => ?_) | (with_reducible refine Dn.g ?_; refine Dn.pk (A := (deckH p x d)) rfl (by exact tk_) fun u hd => ?_)
  dsimp only [List.cons_append, List.nil_append]
  refine go ?_
  with_reducible refine Ol.g ?_
  refine Ol.eff rfl rfl rfl (Eff.call (R := ?_) (queue_Pop x.qp l n) rfl ?_ ?_)
  rotate_left
  · exact tkl_
  rintro u0 -
  dsimp only [List.cons_append, List.nil_append]
  refine go ?_;repeat((with_reducible refine Ol.g ?_);(first|refine Ol.eff rfl rfl rfl (Eff.alloc fun _=>?_)|refine Ol.eff rfl rfl rfl (Eff.box fun _=>?_)|refine Ol.eff0 rfl rfl (Eff.store rfl rfl ?_)|refine Ol.eff rfl rfl rfl (Eff.bslice rfl rfl fun _=>?_)|(refine Ol.eff0 rfl rfl (Eff.storeE rfl ?_ ?_);exact pre_)|(refine Ol.eff rfl rfl rfl (Eff.append1 rfl ?_ fun _=>?_);exact pre_));refine go ?_)
  rename_i c0
  refine Cd.loop (fun z : EX => z.k ≤ l.length) (fun z => l.length - z.k) (fun z => [(0, .pointer (some ⟨p, 0, none⟩)), (1, .int .i64 round), (6, z.v), (7, .pointer (some ⟨z.c, 0, none⟩)), (8, .bool (decide (l.drop z.k ≠ [])))])
    (fun z => cel z.c 120 [.int .i64 (popA (l.drop z.k)).round, .int .i32 z.u.f_Id, .int .i64 z.u.f_Func, .int .i64 z.u.f_Pc, z.u.f_Stack, .int .i32 z.u.f_Vars0, .int .i32 z.u.f_Vars1, .int .i32 z.u.f_Vars2, .int .i32 z.u.f_Vars3, .int .i64 z.u.f_Label, .int .i64 z.u.f_Clear, .int .u32 z.u.f_Privs, .int .i64 z.u.f_Worker] :: tkC z.u (popA (l.drop z.k)).task :: queueS x.qp (l.drop z.k).tail n :: sl e_api_Task z.v z.ts :: rel2 tkC z.ts ((l.take z.k).map (·.task)) :: partsH p x d ++ R) ⟨0, c0, u0, .slice none 0 0, []⟩ (by simp) ?_ ?_ ?_
  · dsimp only
    rw [List.drop_zero]
    repeat(first|exact Env.le_nil _|(refine Env.le_cons rfl ?_ ?_;first|rfl|(simp;done)|exact congrArg _ (by omega)|rotate_left))
  · dsimp only
    rw [List.drop_zero, List.take_zero, List.map_nil]
    exact ent_
  rintro ⟨k, c, t, v, ts⟩ hk
  dsimp only [List.cons_append, List.nil_append] at hk ⊢
  first | (with_reducible refine Cd.g ?_; refine Cd.know (fun w_ hw_ => rel2_len (Tk.sat (A := (rel2 tkC ts _)) (by exact tk_) hw_)) fun hts => ?_) | (with_reducible refine Ol.g ?_; refine Ol.know (fun w_ hw_ => rel2_len (Tk.sat (A := (rel2 tkC ts _)) (by exact tk_) hw_)) fun hts => ?_) | (with_reducible refine Dn.g ?_; refine Dn.know (fun w_ hw_ => rel2_len (Tk.sat (A := (rel2 tkC ts _)) (by exact tk_) hw_)) fun hts => ?_)
  have htl : ts.length = k := by rw [hts]; simp; omega
  by_cases h : k = l.length
  · subst h
    rw [List.drop_length, List.take_length, List.tail_nil]
    rw [decide_eq_false (by simp)]
    refine go ?_
    refine Ol.conv (H' := deckH p x d :: queueS x.qp [] n :: sl e_api_Task v ts :: rel2 tkC ts (l.map (·.task)) :: R) (ents.pk () hd (by dsimp only [List.cons_append, List.nil_append]; exact ent_)) ?_
    with_reducible refine Ol.g ?_
    refine Ol.eff rfl rfl rfl (Eff.call (R := ?_) (deck_put p x d v ts (l.map (·.task)) round 7 (by simp; omega)) rfl ?_ ?_)
    rotate_left
    · exact tkl_
    rintro y -
    dsimp only [List.cons_append, List.nil_append]
    refine go ?_
    unfold DK.enter
    refine Dn.ret2 rfl rfl rfl fun w hs => ⟨y, rfl, trivial, hs.conv (by exact ent_)⟩
  · have hk2 : k < l.length := by omega
    have hdr : l.drop k = rd l k :: l.drop (k + 1) := by rw [rd_eq (by simpa using hk2)]; simp
    rw [hdr, List.tail_cons, decide_eq_true (by simp), show popA (rd l k :: l.drop (k + 1)) = rd l k from rfl]
    refine go ?_;repeat((with_reducible refine Ol.g ?_);(first|refine Ol.eff rfl rfl rfl (Eff.alloc fun _=>?_)|refine Ol.eff rfl rfl rfl (Eff.box fun _=>?_)|refine Ol.eff0 rfl rfl (Eff.store rfl rfl ?_)|refine Ol.eff rfl rfl rfl (Eff.bslice rfl rfl fun _=>?_)|(refine Ol.eff0 rfl rfl (Eff.storeE rfl ?_ ?_);exact pre_)|(refine Ol.eff rfl rfl rfl (Eff.append1 rfl ?_ fun _=>?_);exact pre_));refine go ?_)
    rename_i v0 v' c'
    with_reducible refine Ol.g ?_
    refine Ol.eff rfl rfl rfl (Eff.call (R := ?_) (queue_Pop x.qp (l.drop (k + 1)) n) rfl ?_ ?_)
    rotate_left
    · exact tkl_
    rintro t' -
    dsimp only [List.cons_append, List.nil_append]
    refine go ?_;repeat((with_reducible refine Ol.g ?_);(first|refine Ol.eff rfl rfl rfl (Eff.alloc fun _=>?_)|refine Ol.eff rfl rfl rfl (Eff.box fun _=>?_)|refine Ol.eff0 rfl rfl (Eff.store rfl rfl ?_)|refine Ol.eff rfl rfl rfl (Eff.bslice rfl rfl fun _=>?_)|(refine Ol.eff0 rfl rfl (Eff.storeE rfl ?_ ?_);exact pre_)|(refine Ol.eff rfl rfl rfl (Eff.append1 rfl ?_ fun _=>?_);exact pre_));refine go ?_)
    refine Dn.round ⟨k + 1, c', t', v', ts ++ [t]⟩ (by dsimp only; omega) (by dsimp only; omega) ?_ ?_
    · repeat(first|exact Env.le_nil _|(refine Env.le_cons rfl ?_ ?_;first|rfl|(simp;done)|exact congrArg _ (by omega)|rotate_left))
    · dsimp only
      rw [take_rd hk2, List.map_append, List.map_cons, List.map_nil]
      exact ent_
end Go.Proofs.YtihmbmoeedojoaaGreat

