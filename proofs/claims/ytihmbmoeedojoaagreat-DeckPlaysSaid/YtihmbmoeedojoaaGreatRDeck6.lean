/- Contracts of functions of the program, proved in a small separation logic. Conditions: those that each theorem states. -/
import Derived.Test.YtihmbmoeedojoaaGreatRDeck5
namespace Go.Proofs.YtihmbmoeedojoaaGreat
open Go Go.Sl
set_option maxHeartbeats 4000000
set_option maxRecDepth 100000
set_option linter.unusedVariables false
abbrev eV (n : Int) (t : S_api_Task) : Value := .agg #[.int .i64 n, .int .i32 t.f_Id, .int .i64 t.f_Func, .int .i64 t.f_Pc, t.f_Stack, .int .i32 t.f_Vars0, .int .i32 t.f_Vars1, .int .i32 t.f_Vars2, .int .i32 t.f_Vars3, .int .i64 t.f_Label, .int .i64 t.f_Clear, .int .u32 t.f_Privs, .int .i64 t.f_Worker]
def lessB (r i r' i' : Int) : Bool := decide (r < r' ∨ r = r' ∧ i < i')
-- FN confidant/confidantref15.Less
theorem ref15_Less (n m : Int) (t u : S_api_Task) (a b : AT) :
    Sp Tryz.prog 52 [eV n t, eV m u] [tkC t a, tkC u b] (fun _ : Unit => True) (fun _ => .bool (lessB n t.f_Id m u.f_Id)) (fun _ => []) := by
  refine Sp.intro (n := 26) Tryz.func52 rfl rfl fun w0 R => ?_
  dsimp only [List.cons_append, List.nil_append, envOf]
  refine go ?_;repeat((with_reducible refine Ol.g ?_);(first|refine Ol.eff rfl rfl rfl (Eff.alloc fun _=>?_)|refine Ol.eff rfl rfl rfl (Eff.box fun _=>?_)|refine Ol.eff0 rfl rfl (Eff.store rfl rfl ?_)|refine Ol.eff rfl rfl rfl (Eff.bslice rfl rfl fun _=>?_)|(refine Ol.eff0 rfl rfl (Eff.storeE rfl ?_ ?_);exact pre_)|(refine Ol.eff rfl rfl rfl (Eff.append1 rfl ?_ fun _=>?_);exact pre_));refine go ?_)
  by_cases h : n < m
  · rw [decide_eq_true h]
    refine go ?_;repeat((with_reducible refine Ol.g ?_);(first|refine Ol.eff rfl rfl rfl (Eff.alloc fun _=>?_)|refine Ol.eff rfl rfl rfl (Eff.box fun _=>?_)|refine Ol.eff0 rfl rfl (Eff.store rfl rfl ?_)|refine Ol.eff rfl rfl rfl (Eff.bslice rfl rfl fun _=>?_)|(refine Ol.eff0 rfl rfl (Eff.storeE rfl ?_ ?_);exact pre_)|(refine Ol.eff rfl rfl rfl (Eff.append1 rfl ?_ fun _=>?_);exact pre_));refine go ?_)
    refine Dn.ret1 rfl rfl fun w' hs => ⟨(), by unfold lessB; rw [decide_eq_true (.inl h)], trivial, hs.conv (by exact ent_)⟩
  rw [decide_eq_false h]
  refine go ?_;repeat((with_reducible refine Ol.g ?_);(first|refine Ol.eff rfl rfl rfl (Eff.alloc fun _=>?_)|refine Ol.eff rfl rfl rfl (Eff.box fun _=>?_)|refine Ol.eff0 rfl rfl (Eff.store rfl rfl ?_)|refine Ol.eff rfl rfl rfl (Eff.bslice rfl rfl fun _=>?_)|(refine Ol.eff0 rfl rfl (Eff.storeE rfl ?_ ?_);exact pre_)|(refine Ol.eff rfl rfl rfl (Eff.append1 rfl ?_ fun _=>?_);exact pre_));refine go ?_)
  by_cases h2 : n = m
  · rw [decide_eq_true h2]
    refine go ?_;repeat((with_reducible refine Ol.g ?_);(first|refine Ol.eff rfl rfl rfl (Eff.alloc fun _=>?_)|refine Ol.eff rfl rfl rfl (Eff.box fun _=>?_)|refine Ol.eff0 rfl rfl (Eff.store rfl rfl ?_)|refine Ol.eff rfl rfl rfl (Eff.bslice rfl rfl fun _=>?_)|(refine Ol.eff0 rfl rfl (Eff.storeE rfl ?_ ?_);exact pre_)|(refine Ol.eff rfl rfl rfl (Eff.append1 rfl ?_ fun _=>?_);exact pre_));refine go ?_)
    refine Dn.ret1 rfl rfl fun w' hs => ⟨(), ?_, trivial, hs.conv (by exact ent_)⟩
    unfold lessB
    congr 1
    exact decide_eq_decide.2 ⟨fun k => .inr ⟨h2, k⟩, fun k => k.elim (fun k => absurd k h) fun k => k.2⟩
  rw [decide_eq_false h2]
  refine go ?_;repeat((with_reducible refine Ol.g ?_);(first|refine Ol.eff rfl rfl rfl (Eff.alloc fun _=>?_)|refine Ol.eff rfl rfl rfl (Eff.box fun _=>?_)|refine Ol.eff0 rfl rfl (Eff.store rfl rfl ?_)|refine Ol.eff rfl rfl rfl (Eff.bslice rfl rfl fun _=>?_)|(refine Ol.eff0 rfl rfl (Eff.storeE rfl ?_ ?_);exact pre_)|(refine Ol.eff rfl rfl rfl (Eff.append1 rfl ?_ fun _=>?_);exact pre_));refine go ?_)
  refine Dn.ret1 rfl rfl fun w' hs => ⟨(), by unfold lessB; rw [decide_eq_false fun k => k.elim h fun k => h2 k.1], trivial, hs.conv (by exact ent_)⟩
abbrev yP (y : DY) (v : Value) (es : List S_confidantref15_Entry) : DY := { y with vi := v, es := es }
-- FN (*confidant/confidantref15.Queue).Pop
theorem queue15_Pop (p : Nat) (y : DY) (d : DK) (l : List QI) (hl : l.length ≤ 1048576) (he : y.es.length = l.length) :
    Sp Tryz.prog 56 [.pointer (some ⟨p, 7, none⟩)] [cel p 59 (drL y d), sl e_confidantref15_Entry y.vi y.es, rel2 enC y.es l] (fun z : S_api_Task × Value × List S_confidantref15_Entry => z.2.2.length = l.tail.length) (fun z => .tuple #[eV (popA l).round z.1, .bool (decide (l ≠ []))])
      (fun z => [cel p 59 (drL (yP y z.2.1 z.2.2) d), sl e_confidantref15_Entry z.2.1 z.2.2, rel2 enC z.2.2 l.tail, tkC z.1 (popA l).task]) := by
  obtain ⟨vr, rs, vh, hts, vb, vi, es, vp, wts, pk⟩ := y
  dsimp only at he ⊢
  refine Sp.intro (n := 27) Tryz.func56 rfl rfl fun w0 R => ?_
  dsimp only [List.cons_append, List.nil_append, envOf]
  rcases l with _ | ⟨a, l⟩
  · have hes : es = [] := List.length_eq_zero_iff.1 (by simpa using he)
    subst hes
    refine go ?_;repeat((with_reducible refine Ol.g ?_);(first|refine Ol.eff rfl rfl rfl (Eff.alloc fun _=>?_)|refine Ol.eff rfl rfl rfl (Eff.box fun _=>?_)|refine Ol.eff0 rfl rfl (Eff.store rfl rfl ?_)|refine Ol.eff rfl rfl rfl (Eff.bslice rfl rfl fun _=>?_)|(refine Ol.eff0 rfl rfl (Eff.storeE rfl ?_ ?_);exact pre_)|(refine Ol.eff rfl rfl rfl (Eff.append1 rfl ?_ fun _=>?_);exact pre_));refine go ?_)
    refine Dn.retC1 rfl rfl trivial rfl fun w hs => ⟨(zT, vi, []), rfl, rfl, hs.conv ?_⟩
    dsimp only [popA, List.tail_nil]
    exact ent_
  rcases es with _ | ⟨t, es⟩
  · simp at he
  have hle : (t :: es).length = es.length + 1 := by simp
  refine Cd.conv (ents.split (rel2_uncons (R := enC)) (by exact tk_)) ?_
  first | (with_reducible refine Cd.g ?_; refine Cd.pk (A := (enC t a)) rfl (by exact tk_) fun u hu => ?_) | (with_reducible refine Ol.g ?_; refine Ol.pk (A := (enC t a)) rfl (by exact tk_) fun u hu => ?_) | (with_reducible refine Dn.g ?_; refine Dn.pk (A := (enC t a)) rfl (by exact tk_) fun u hu => ?_)
  dsimp only [List.cons_append, List.nil_append]
  refine go ?_;repeat((with_reducible refine Ol.g ?_);(first|refine Ol.eff rfl rfl rfl (Eff.alloc fun _=>?_)|refine Ol.eff rfl rfl rfl (Eff.box fun _=>?_)|refine Ol.eff0 rfl rfl (Eff.store rfl rfl ?_)|refine Ol.eff rfl rfl rfl (Eff.bslice rfl rfl fun _=>?_)|(refine Ol.eff0 rfl rfl (Eff.storeE rfl ?_ ?_);exact pre_)|(refine Ol.eff rfl rfl rfl (Eff.append1 rfl ?_ fun _=>?_);exact pre_));refine go ?_)
  rw [show rd (t :: es) 0 = t from rfl]
  refine go ?_;repeat((with_reducible refine Ol.g ?_);(first|refine Ol.eff rfl rfl rfl (Eff.alloc fun _=>?_)|refine Ol.eff rfl rfl rfl (Eff.box fun _=>?_)|refine Ol.eff0 rfl rfl (Eff.store rfl rfl ?_)|refine Ol.eff rfl rfl rfl (Eff.bslice rfl rfl fun _=>?_)|(refine Ol.eff0 rfl rfl (Eff.storeE rfl ?_ ?_);exact pre_)|(refine Ol.eff rfl rfl rfl (Eff.append1 rfl ?_ fun _=>?_);exact pre_));refine go ?_)
  rw [hle, decide_eq_false (show ¬ ((es.length + 1 : Nat) : Int) = 0 by omega)] at *
  refine Dn.retC1 rfl rfl trivial rfl fun w hs => ⟨(t.f_Task, slcV vi (Int.toNat 1) 13, es), ?_, by simp at he ⊢; omega, hs.conv ?_⟩
  · simp [popA, hu]
  dsimp only [popA, List.tail_cons, List.cons_append, List.nil_append]
  refine ents.cons (by exact tk_) ?_
  exact ents.slc (l := 1) (E := e_confidantref15_Entry) (v := vi) (xs := t :: es) (by exact tk_) (by simp) (by exact ent_)
/-! insertion from the back -/
theorem insQ_at (e : QI) : ∀ (l : List QI) (i : Nat), i ≤ l.length → (∀ k : Nat, k < i → aheadQ e (rd l k) = false) → (i < l.length → aheadQ e (rd l i) = true) → insQ e l = l.take i ++ e :: l.drop i
  | [], i, hi, _, _ => by simp [insQ]
  | y :: l, 0, _, _, h2 => by
    have : aheadQ e y = true := h2 (by simp)
    simp [insQ, this]
  | y :: l, i + 1, hi, h1, h2 => by
    have h0 : aheadQ e y = false := h1 0 (by omega)
    have ih := insQ_at e l i (by simpa using hi) (fun k hk => by
      have := h1 (k + 1) (by omega)
      rwa [show rd (y :: l) ((k + 1 : Nat) : Int) = rd l k from by simp [rd]] at this) (fun k => by
      have := h2 (by simpa using k)
      rwa [show rd (y :: l) ((i + 1 : Nat) : Int) = rd l i from by simp [rd]] at this)
    simp [insQ, h0, ih]
theorem ahead_less {e y : QI} (h : y.seq < e.seq) : aheadQ e y = lessB e.round e.task.id y.round y.task.id := by
  unfold aheadQ lessB
  exact decide_eq_decide.2 ⟨fun k => by omega, fun k => by omega⟩
theorem back_all {e : QI} {l : List QI} (hs : sortedQ l) {j : Nat} (hj : j < l.length) (h : aheadQ e (rd l j) = false) : ∀ k : Nat, k ≤ j → aheadQ e (rd l k) = false := by
  intro k hk
  rcases Nat.lt_or_eq_of_le hk with hk | rfl
  · have := List.pairwise_iff_getElem.1 hs k j (by omega) hj hk
    rw [rd_eq (by simpa using hj)] at h
    rw [rd_eq (by simp; omega)]
    simp only [Int.toNat_natCast] at h ⊢
    exact nah_trans h this
  · exact h
end Go.Proofs.YtihmbmoeedojoaaGreat

