/- A small separation logic over the model, part 3: its rules are sound. Conditions: those that each theorem states. -/
import Derived.Test.YtcgjmlapmdbnmaaSlB
import Derived.Laws.Slices
import Derived.Below
import Derived.ChangeArms
import Derived.WideShapes
import Derived.OpenShut
/-! A small separation logic over the model: heaps, walks, regions that draw their order. -/
namespace Go.Sl
open Go
set_option linter.unusedVariables false
set_option linter.unusedSectionVars false
/-! A drawn region in which some new blocks ('floats') are made for one special alone: they are taken right ahead of it, whenever they are made in truth. -/
inductive Tm where | fresh | old | flt
/-- The specials in the order of the walk; the floats among them. -/
def chk2 (ops : List Oper) (B : List (List Nat)) (sp fs : List Nat) : Bool :=
  (fs.all sp.contains) &&
  -- a non-float stands behind every non-float that comes ahead of it, and all floats ahead of it are behind nothing else
  ((List.range sp.length).all fun p => match sp[p]? with
    | none => true
    | some c => fs.contains c || ((sp.take p).all fun s => fs.contains s || (B.getD c []).contains s) && (fs.all fun f => !(B.getD c []).contains f || (sp.take p).contains f)) &&
  -- a float: the next non-float hangs on it
  ((List.range sp.length).all fun p => match sp[p]? with
    | none => true
    | some f => !fs.contains f || (match (sp.drop p).find? (fun s => !fs.contains s) with | some c => (B.getD c []).contains f | none => false)) &&
  -- what hangs on a float hangs on a non-float that hangs on it
  ((List.range ops.length).all fun j => fs.all fun f => !(B.getD j []).contains f || (sp.contains j && !fs.contains j) || sp.any fun c => !fs.contains c && (B.getD j []).contains c && (B.getD c []).contains f)
def todo2 (N : Nat) (B : List (List Nat)) (sp fs : List Nat) (done : List Nat) (last : Option Nat) : List (Nat × Tm) :=
  (List.range N).filterMap fun j =>
    if sp.contains j && !fs.contains j then none
    else if (sbOf B sp j).all done.contains then
      (match last with
       | none => some (j, if fs.contains j then .flt else .fresh)
       | some i => if (sbOf B sp j).contains i then some (j, if fs.contains j then .flt else .fresh)
         else if fs.contains j then none
         else if done.any fun s => (B.getD s []).contains j then none
         else some (j, .old))
    else none
abbrev Recs := List (Nat × (Value → HProp))
def Recs.get : Recs → Nat → Option (Value → HProp)
  | [], _ => none
  | (k, v) :: e, t => match Nat.beq k t with | true => some v | false => Recs.get e t
/-- A new block whatever the world. -/
def AllocOk (P : Program) (w0 : World) (vop : VOp) (ty : TypeId) (C : Value → HProp) : Prop :=
  ∀ H, Eff P w0 vop ty H fun v H' => H' = C v :: H
section
variable (P : Program) (w0 : World) (n : Nat) (ops : List Oper) (B : List (List Nat)) (sp fs : List Nat) (Q : Exit → Act → World → Prop)
def FO (i : Nat) (e : Env) (C : Value → HProp) : Prop :=
  ∃ o vop d, ops[i]? = some o ∧ o.dst = some d ∧ gw ops.toArray e o.guard = some true ∧ Op.sub e o.op = some vop ∧ AllocOk P w0 vop o.type C
def Gr2 (H : List HProp) : List (Nat × Tm) → Env → Recs → (Env → Recs → Prop) → Prop
  | [], e, r, K => K e r
  | (i, .fresh) :: t, e, r, K => ∃ v d, dstOf ops i = some d ∧ e.get d = none ∧ QV P ops i e H v ∧ Gr2 H t ((d, v) :: e) r K
  | (i, .old) :: t, e, r, K => (∃ v d, dstOf ops i = some d ∧ e.get d = some v ∧ QV P ops i e H v) ∧ Gr2 H t e r K
  | (i, .flt) :: t, e, r, K => ∃ C, r.get i = none ∧ FO P w0 ops i e C ∧ Gr2 H t e ((i, C) :: r) K
def Sg2 : List Nat → List Nat → Env → Recs → List HProp → Prop
  | [], done, e, r, H => Dn w0 n Q .normal e H
  | i :: rest, done, e, r, H =>
    if fs.contains i then ∃ C d, r.get i = some C ∧ dstOf ops i = some d ∧ e.get d = none ∧ ∀ v, Gr2 P w0 ops (C v :: H) (todo2 ops.length B sp fs (i :: done) (some i)) ((d, v) :: e) r fun e' r' => Sg2 rest (i :: done) e' r' (C v :: H)
    else ∀ F, SpOp P w0 ops i e (H ++ F) fun e' H' => ∃ H'', H' = H'' ++ F ∧ Gr2 P w0 ops H'' (todo2 ops.length B sp fs (i :: done) (some i)) e' r fun e'' r'' => Sg2 rest (i :: done) e'' r'' H''
end
section
variable {P : Program} {w0 : World} {n : Nat} {ops : List Oper} {B : List (List Nat)} {sp fs : List Nat} {Q : Exit → Act → World → Prop}
theorem Recs.get_ne {r : Recs} {i t : Nat} {C} (h : t ≠ i) : Recs.get ((i, C) :: r) t = r.get t := by
  simp only [Recs.get]
  cases hb : Nat.beq i t with
  | true => exact absurd (Nat.eq_of_beq_eq_true hb).symm h
  | false => rfl
theorem Recs.get_eq {r : Recs} {i : Nat} {C} : Recs.get ((i, C) :: r) i = some C := by simp [Recs.get]
theorem Gr2.out {H : List HProp} : ∀ {todo : List (Nat × Tm)} {e : Env} {r : Recs} {K : Env → Recs → Prop}, Gr2 P w0 ops H todo e r K →
    ∃ e' r', K e' r' ∧ Env.le e' e ∧ (∀ i C, r.get i = some C → r'.get i = some C) ∧ (∀ t u, e'.get t = some u → e.get t = some u ∨ ∃ i, (i, Tm.fresh) ∈ todo ∧ dstOf ops i = some t) ∧
      (∀ i b, (i, b) ∈ todo → b ≠ .flt → ∃ ei v d, dstOf ops i = some d ∧ Env.le e' ei ∧ e'.get d = some v ∧ QV P ops i ei H v) ∧
      (∀ i, (i, Tm.flt) ∈ todo → ∃ ei C, r'.get i = some C ∧ Env.le e' ei ∧ FO P w0 ops i ei C)
  | [], e, r, K, h => ⟨e, r, h, Env.le_refl e, fun _ _ h => h, fun t u hu => .inl hu, fun i b hb => (by cases hb), fun i hi => by cases hi⟩
  | (i, .fresh) :: t, e, r, K, h => by
    obtain ⟨v, d, hd, hn, hq, hr⟩ := h
    obtain ⟨e', r', h1, h2, h2r, h3, h4, h5⟩ := Gr2.out hr
    refine ⟨e', r', h1, Env.le_trans h2 (Env.le_put hn), h2r, fun t u hu => ?_, fun j b hb hf => ?_, fun j hj => ?_⟩
    · rcases h3 t u hu with h6 | ⟨j, hj, hjd⟩
      · by_cases ht : t = d
        · subst ht; exact .inr ⟨i, by simp, hd⟩
        · rw [Env.get_cons_ne ht] at h6; exact .inl h6
      · exact .inr ⟨j, by simp [hj], hjd⟩
    · rcases List.mem_cons.1 hb with h6 | h6
      · cases h6
        exact ⟨e, v, d, hd, Env.le_trans h2 (Env.le_put hn), h2 d v Env.get_cons_eq, hq⟩
      · exact h4 j b h6 hf
    · rcases List.mem_cons.1 hj with h6 | h6
      · cases h6
      · exact h5 j h6
  | (i, .old) :: t, e, r, K, h => by
    obtain ⟨⟨v, d, hd, hv, hq⟩, hr⟩ := h
    obtain ⟨e', r', h1, h2, h2r, h3, h4, h5⟩ := Gr2.out hr
    refine ⟨e', r', h1, h2, h2r, fun t u hu => ?_, fun j b hb hf => ?_, fun j hj => ?_⟩
    · rcases h3 t u hu with h6 | ⟨j, hj, hjd⟩
      · exact .inl h6
      · exact .inr ⟨j, by simp [hj], hjd⟩
    · rcases List.mem_cons.1 hb with h6 | h6
      · cases h6
        exact ⟨e, v, d, hd, h2, h2 d v hv, hq⟩
      · exact h4 j b h6 hf
    · rcases List.mem_cons.1 hj with h6 | h6
      · cases h6
      · exact h5 j h6
  | (i, .flt) :: t, e, r, K, h => by
    obtain ⟨C, hn, hfo, hr⟩ := h
    obtain ⟨e', r', h1, h2, h2r, h3, h4, h5⟩ := Gr2.out hr
    have hle : ∀ j D, r.get j = some D → Recs.get ((i, C) :: r) j = some D := fun j D hj => by
      have : j ≠ i := fun h => by rw [h, hn] at hj; cases hj
      rw [Recs.get_ne this]; exact hj
    refine ⟨e', r', h1, h2, fun j D hj => h2r j D (hle j D hj), fun t u hu => ?_, fun j b hb hf => ?_, fun j hj => ?_⟩
    · rcases h3 t u hu with h6 | ⟨j, hj, hjd⟩
      · exact .inl h6
      · exact .inr ⟨j, by simp [hj], hjd⟩
    · rcases List.mem_cons.1 hb with h6 | h6
      · cases h6; exact absurd rfl hf
      · exact h4 j b h6 hf
    · rcases List.mem_cons.1 hj with h6 | h6
      · cases h6
        exact ⟨e, C, h2r i C Recs.get_eq, h2, hfo⟩
      · exact h5 j h6
/-- A float that has been made ahead of its turn. -/
structure Bk where
  i : Nat
  d : Nat
  v : Value
  C : Value → HProp
structure Inv2 (P : Program) (w0 : World) (n : Nat) (ops : List Oper) (B : List (List Nat)) (sp fs : List Nat) (L : Array Bool) (rem done : List Nat) (e : Env) (r : Recs) (H : List HProp) (bk : List Bk) (a : Act) (w : World) : Prop where
  size : L.size = ops.length
  cl : Cl ops L
  all : done.reverse ++ rem = sp
  dn : ∀ s, s ∈ sp → s ∉ fs → (s ∈ done ↔ L.getD s false = true)
  dnl : ∀ s, s ∈ done → L.getD s false = true
  act : a.defers = [] ∧ a.tmps.size = n
  agr : ∀ t u, e.get t = some u → (∀ i, dstOf ops i = some t → L.getD i true = true) → a.tmps[t]? = some u
  nof : ∀ i, i ∈ fs → i ∉ done → ∀ d, dstOf ops i = some d → e.get d = none
  st : St w0 (bk.map (fun b => b.C b.v) ++ H) w
  bank : ∀ b, b ∈ bk → L.getD b.i false = true ∧ b.i ∈ fs ∧ b.i ∉ done ∧ dstOf ops b.i = some b.d ∧ a.tmps[b.d]? = some b.v ∧ r.get b.i = some b.C
  bkd : (bk.map (·.i)).Nodup
  made : ∀ i, i ∈ fs → i ∉ done → L.getD i false = true → ∃ b, b ∈ bk ∧ b.i = i
  pend : ∀ i o, ops[i]? = some o → L.getD i true = false → i ∉ sp → (∀ s, s ∈ sbOf B sp i → s ∈ done) → ∃ ei v d, dstOf ops i = some d ∧ Env.le e ei ∧ e.get d = some v ∧ QV P ops i ei H v
  pendf : ∀ i, i ∈ fs → L.getD i true = false → (∀ s, s ∈ sbOf B sp i → s ∈ done) → ∃ ei C, r.get i = some C ∧ Env.le e ei ∧ FO P w0 ops i ei C
theorem ents_mid : ∀ (X Y : List HProp) (A : HProp), ents (X ++ A :: Y) (A :: (X ++ Y))
  | [], Y, A => ents.refl _
  | B :: X, Y, A => (went.star (went.refl B) (ents_mid X Y A)).trans (went.of (star_left_comm _ _ _))
theorem ents_mid' : ∀ (X Y : List HProp) (A : HProp), ents (A :: (X ++ Y)) (X ++ A :: Y)
  | [], Y, A => ents.refl _
  | B :: X, Y, A => (went.of (star_left_comm _ _ _)).trans (went.star (went.refl B) (ents_mid' X Y A))
theorem ents_dropl : ∀ (X Y : List HProp), ents (X ++ Y) Y
  | [], Y => ents.refl _
  | B :: X, Y => ents.drop (ents_dropl X Y)
structure Ck2 (ops : List Oper) (B : List (List Nat)) (sp fs : List Nat) : Prop where
  sub : ∀ f, f ∈ fs → f ∈ sp
  non : ∀ p c, sp[p]? = some c → c ∉ fs → (∀ s, s ∈ sp.take p → s ∈ fs ∨ s ∈ B.getD c []) ∧ ∀ f, f ∈ fs → f ∈ B.getD c [] → f ∈ sp.take p
  flo : ∀ p f, sp[p]? = some f → f ∈ fs → ∃ c, (sp.drop p).find? (fun s => !fs.contains s) = some c ∧ f ∈ B.getD c []
  cov : ∀ j, j < ops.length → ∀ f, f ∈ fs → f ∈ B.getD j [] → (j ∈ sp ∧ j ∉ fs) ∨ ∃ c, c ∈ sp ∧ c ∉ fs ∧ c ∈ B.getD j [] ∧ f ∈ B.getD c []
theorem chk2_get (h : chk2 ops B sp fs = true) : Ck2 ops B sp fs := by
  unfold chk2 at h
  simp only [Bool.and_eq_true] at h
  obtain ⟨⟨⟨h1, h2⟩, h3⟩, h4⟩ := h
  have hp : ∀ {p c}, sp[p]? = some c → p ∈ List.range sp.length := fun h => List.mem_range.2 (List.getElem?_eq_some_iff.1 h).1
  refine ⟨fun f hf => by have := List.all_eq_true.1 h1 f hf; simpa using this, fun p c hc hcf => ?_, fun p f hf hff => ?_, fun j hj f hf hfB => ?_⟩
  · have := List.all_eq_true.1 h2 p (hp hc)
    rw [hc] at this
    simp only [Bool.or_eq_true, Bool.and_eq_true, List.contains_iff_mem, List.all_eq_true, Bool.not_eq_true', Bool.eq_false_iff] at this
    rcases this with h | ⟨ha, hb⟩
    · exact absurd h hcf
    · refine ⟨fun s hs => ?_, fun f hf hfB => ?_⟩
      · have := ha s hs; simpa using this
      · rcases hb f hf with h | h
        · exact absurd hfB (by simpa using h)
        · simpa using h
  · have := List.all_eq_true.1 h3 p (hp hf)
    rw [hf] at this
    simp only [Bool.or_eq_true, Bool.not_eq_true', Bool.eq_false_iff] at this
    rcases this with h | h
    · exact absurd (by simpa using hff) h
    · split at h
      · rename_i c hc; exact ⟨c, hc, by simpa using h⟩
      · cases h
  · have := List.all_eq_true.1 (List.all_eq_true.1 h4 j (List.mem_range.2 hj)) f hf
    simp only [Bool.or_eq_true, Bool.and_eq_true, Bool.not_eq_true', List.any_eq_true, List.contains_iff_mem] at this
    rcases this with (h | ⟨h5, h6⟩) | ⟨c, hc, ⟨h5, h6⟩, h7⟩
    · rw [Bool.eq_false_iff] at h; exact absurd (by simpa using hfB) h
    · exact .inl ⟨h5, by simpa using h6⟩
    · exact .inr ⟨c, hc, by simpa using h5, h6, h7⟩
theorem td2_fresh {N j i : Nat} {done : List Nat} (h : (j, Tm.fresh) ∈ todo2 N B sp fs done (some i)) : j < N ∧ j ∉ sp ∧ j ∉ fs ∧ i ∈ B.getD j [] ∧ ∀ s, s ∈ sbOf B sp j → s ∈ done := by
  simp only [todo2, List.mem_filterMap, List.mem_range] at h
  obtain ⟨j', hj', h2⟩ := h
  split at h2
  · cases h2
  · rename_i h3
    split at h2
    · rename_i hav
      split at h2
      · rename_i h4
        split at h2
        · simp at h2
        · rename_i hf
          simp at h2; subst h2
          have hf' : j' ∉ fs := by simpa using hf
          have hs' : j' ∉ sp := fun h => h3 (by simp [h, hf'])
          simp only [sbOf, List.contains_iff_mem, List.mem_filter] at h4
          refine ⟨hj', hs', hf', h4.2, fun s hs => ?_⟩
          simpa using List.all_eq_true.1 hav s hs
      · split at h2
        · cases h2
        · split at h2 <;> simp at h2
    · cases h2
theorem td2_flt {N j i : Nat} {done : List Nat} (h : (j, Tm.flt) ∈ todo2 N B sp fs done (some i)) : j < N ∧ j ∈ fs ∧ i ∈ B.getD j [] ∧ ∀ s, s ∈ sbOf B sp j → s ∈ done := by
  simp only [todo2, List.mem_filterMap, List.mem_range] at h
  obtain ⟨j', hj', h2⟩ := h
  split at h2
  · cases h2
  · split at h2
    · rename_i hav
      split at h2
      · rename_i h4
        split at h2
        · rename_i hf
          simp at h2; subst h2
          simp only [sbOf, List.contains_iff_mem, List.mem_filter] at h4
          refine ⟨hj', by simpa using hf, h4.2, fun s hs => ?_⟩
          simpa using List.all_eq_true.1 hav s hs
        · simp at h2
      · split at h2
        · cases h2
        · split at h2 <;> simp at h2
    · cases h2
/-- what must be in the list -/
theorem td2_mem {N j i : Nat} {done : List Nat} (hj : j < N) (hs : j ∉ sp ∨ j ∈ fs) (hav : ∀ s, s ∈ sbOf B sp j → s ∈ done) (hn : i ∈ sbOf B sp j ∨ (j ∉ fs ∧ ∀ s, s ∈ done → j ∉ B.getD s [])) : ∃ b, (j, b) ∈ todo2 N B sp fs done (some i) ∧ (j ∉ fs → b ≠ .flt) ∧ (j ∈ fs → b = .flt) := by
  have h1 : ¬ ((sp.contains j && !fs.contains j) = true) := by
    rcases hs with h | h <;> simp [h]
  have h2 : (sbOf B sp j).all done.contains = true := by simp only [List.all_eq_true, List.contains_iff_mem]; exact hav
  simp only [todo2, List.mem_filterMap, List.mem_range]
  by_cases h3 : (sbOf B sp j).contains i = true
  · by_cases hf : j ∈ fs
    · exact ⟨.flt, ⟨j, hj, by rw [if_neg h1, if_pos h2]; simp only [h3, if_true]; simp [hf]⟩, fun h => absurd hf h, fun _ => rfl⟩
    · exact ⟨.fresh, ⟨j, hj, by rw [if_neg h1, if_pos h2]; simp only [h3, if_true]; simp [hf]⟩, fun _ h => (by cases h), fun h => absurd h hf⟩
  · rcases hn with h | ⟨hf, h⟩
    · exact absurd (by simpa using h) h3
    · refine ⟨.old, ⟨j, hj, ?_⟩, fun _ h => (by cases h), fun h => absurd h hf⟩
      have h5 : (done.any fun s => (B.getD s []).contains j) = false := by
        rw [Bool.eq_false_iff]; intro h5
        simp only [List.any_eq_true, List.contains_iff_mem] at h5
        obtain ⟨s, hs, hB⟩ := h5
        exact h s hs hB
      rw [if_neg h1, if_pos h2]
      simp only [h3, if_false, h5, Bool.false_eq_true]
      simp [hf]
theorem getD_lt {L : Array Bool} {i : Nat} (h : L.getD i false = true) : i < L.size := by
  rcases Nat.lt_or_ge i L.size with h1 | h1
  · exact h1
  · simp [Array.getD, Nat.not_lt.2 h1] at h
theorem getD_tf {L : Array Bool} {i : Nat} (h : L.getD i false = true) : L.getD i true = true := by
  have := getD_lt h; simp [Array.getD, this] at h ⊢; exact h
theorem getD_ft {L : Array Bool} {i : Nat} (hi : i < L.size) (h : L.getD i true = true) : L.getD i false = true := by
  simp [Array.getD, hi] at h ⊢; exact h
section
variable {L : Array Bool} {rem done : List Nat} {e : Env} {r : Recs} {H : List HProp} {bk : List Bk} {a : Act} {w : World}
/-- With a special that is done all floats that it hangs on are done. -/
theorem Inv2.dcl (hnd : sp.Nodup) (ck : Ck2 ops B sp fs) (I : Inv2 P w0 n ops B sp fs L rem done e r H bk a w) {c f : Nat} (hc : c ∈ done) (hcf : c ∉ fs) (hf : f ∈ fs) (hB : f ∈ B.getD c []) : f ∈ done := by
  have hcr : c ∈ done.reverse := by simpa using hc
  obtain ⟨p, hp⟩ := List.getElem?_of_mem hcr
  have hpl : p < done.reverse.length := (List.getElem?_eq_some_iff.1 hp).1
  have hsp : sp[p]? = some c := by rw [← I.all, List.getElem?_append_left hpl]; exact hp
  have := (ck.non p c hsp hcf).2 f hf hB
  rw [← I.all, List.take_append_of_le_length (by omega)] at this
  simpa using List.mem_of_mem_take this
theorem Inv2.nin (hnd : sp.Nodup) (I : Inv2 P w0 n ops B sp fs L rem done e r H bk a w) {x : Nat} (hx : x ∈ rem) : x ∉ done := by
  rw [← I.all, List.nodup_append] at hnd
  intro h
  exact hnd.2.2 x (by simpa using h) x hx rfl
theorem Inv2.lt (I : Inv2 P w0 n ops B sp fs L rem done e r H bk a w) {i : Nat} {o : Oper} (h : ops[i]? = some o) : i < L.size := by rw [I.size]; exact (List.getElem?_eq_some_iff.1 h).1
/-- All that stands ahead of what is listed is listed. -/
theorem Inv2.bef (hB : chk ops B n = true) (I : Inv2 P w0 n ops B sp fs L rem done e r H bk a w) {i j : Nat} (hi : i < ops.length) (h : L.getD i false = true) (hj : j ∈ B.getD i []) : L.getD j false = true := by
  have ho : ops[i]? = some ops[i] := List.getElem?_eq_getElem hi
  exact cl_bef hB I.cl i _ ho (I.cl i _ ho (getD_tf h)) j hj
/-- A float whose turn has come. -/
theorem Inv2.adv (hB : chk ops B n = true) (hnd : sp.Nodup) (hspl : ∀ s, s ∈ sp → s < ops.length) (ck : Ck2 ops B sp fs) {f : Nat} {rest : List Nat} (I : Inv2 P w0 n ops B sp fs L (f :: rest) done e r H bk a w) (hf : f ∈ fs) (hl : L.getD f false = true) (S : Sg2 P w0 n ops B sp fs Q (f :: rest) done e r H) :
    ∃ e' r' H' bk', Inv2 P w0 n ops B sp fs L rest (f :: done) e' r' H' bk' a w ∧ Sg2 P w0 n ops B sp fs Q rest (f :: done) e' r' H' := by
  have hfd : f ∉ done := I.nin hnd (by simp)
  unfold Sg2 at S
  rw [if_pos (by simpa using hf)] at S
  obtain ⟨C, d, hrC, hd, hed, S⟩ := S
  obtain ⟨b, hb, hbi⟩ := I.made f hf hfd hl
  obtain ⟨hbL, hbf, hbd, hbdst, hbt, hbC⟩ := I.bank b hb
  rw [hbi] at hbdst hbC
  rw [hd] at hbdst; cases hbdst
  rw [hrC] at hbC
  have hCC : C = b.C := Option.some.inj hbC
  subst hCC
  obtain ⟨e', r', K, g1, g2, g3, g4, g5⟩ := Gr2.out (S b.v)
  obtain ⟨l1, l2, rfl⟩ := List.append_of_mem hb
  have hnofresh : ∀ j, (j, Tm.fresh) ∉ todo2 ops.length B sp fs (f :: done) (some f) := fun j hj => by
    obtain ⟨hjl, hjs, hjf, hfB, hav⟩ := td2_fresh hj
    rcases ck.cov j hjl f hf hfB with ⟨h, _⟩ | ⟨c, hc, hcf, hcB, hfc⟩
    · exact hjs h
    · have : c ∈ f :: done := hav c (by simp only [sbOf, List.mem_filter, List.contains_iff_mem]; exact ⟨hc, hcB⟩)
      rcases List.mem_cons.1 this with rfl | h
      · exact hcf hf
      · exact hfd (I.dcl hnd ck h hcf hf hfc)
  have hnof : ∀ j, j < ops.length → f ∈ B.getD j [] → (j ∉ sp ∨ j ∈ fs) → (∀ s, s ∈ sbOf B sp j → s ∈ f :: done) → False := fun j hjl hfB hjs hav => by
    rcases ck.cov j hjl f hf hfB with ⟨h, h'⟩ | ⟨c, hc, hcf, hcB, hfc⟩
    · rcases hjs with h2 | h2
      · exact h2 h
      · exact h' h2
    · have : c ∈ f :: done := hav c (by simp only [sbOf, List.mem_filter, List.contains_iff_mem]; exact ⟨hc, hcB⟩)
      rcases List.mem_cons.1 this with rfl | h
      · exact hcf hf
      · exact hfd (I.dcl hnd ck h hcf hf hfc)
  have hle : Env.le e' e := Env.le_trans g1 (Env.le_put hed)
  have hback : ∀ {j}, (∀ s, s ∈ sbOf B sp j → s ∈ f :: done) → f ∉ B.getD j [] → ∀ s, s ∈ sbOf B sp j → s ∈ done := fun hav hnB s hs => by
    rcases List.mem_cons.1 (hav s hs) with rfl | h
    · simp only [sbOf, List.mem_filter, List.contains_iff_mem] at hs; exact absurd hs.2 hnB
    · exact h
  refine ⟨e', r', _, l1 ++ l2, ?_, K⟩
  refine ⟨I.size, I.cl, by rw [← I.all]; simp, fun s hs hsf => ?_, fun s hs => ?_, I.act, fun t u ht hall => ?_, fun i hi hid di hdi => ?_, ?_, fun b' hb' => ?_, ?_, fun i hi hid hli => ?_, fun i o ho hLi hisp hav => ?_, fun i hi hLi hav => ?_⟩
  · constructor
    · intro h
      rcases List.mem_cons.1 h with rfl | h
      · exact hl
      · exact (I.dn s hs hsf).1 h
    · intro h; exact List.mem_cons_of_mem _ ((I.dn s hs hsf).2 h)
  · rcases List.mem_cons.1 hs with rfl | h
    · exact hl
    · exact I.dnl s h
  · rcases g3 t u ht with h | ⟨j, hj, _⟩
    · by_cases htd : t = b.d
      · subst htd; rw [Env.get_cons_eq] at h; cases h; exact hbt
      · rw [Env.get_cons_ne htd] at h; exact I.agr t u h hall
    · exact absurd hj (hnofresh j)
  · cases hg : e'.get di with
    | none => rfl
    | some u =>
      rcases g3 di u hg with h | ⟨j, hj, _⟩
      · have hne : di ≠ b.d := fun he => by
          rw [he] at hdi
          have hif : i ≠ f := fun h => hid (by simp [h])
          have hil : i < ops.length := hspl i (ck.sub i hi)
          have hfo : ops[f]? = some (ops[f]'(hspl f (ck.sub f hf))) := List.getElem?_eq_getElem _
          have hfd' : (ops[f]'(hspl f (ck.sub f hf))).dst = some b.d := by simpa [dstOf, hfo] using hd
          exact hif ((chk_get hB hfo).2.2.2 b.d hfd' |>.2 i hdi)
        rw [Env.get_cons_ne hne] at h
        rw [I.nof i hi (fun h => hid (by simp [h])) di hdi] at h; cases h
      · exact absurd hj (hnofresh j)
  · have h := I.st
    simp only [List.map_append, List.map_cons, List.append_assoc, List.cons_append] at h ⊢
    have h2 := h.conv (ents_mid _ _ _)
    have h3 := h2.conv (H' := (l1.map fun b => b.C b.v) ++ ((l2.map fun b => b.C b.v) ++ (b.C b.v :: H))) (by
      have := ents_mid' ((l1.map fun b => b.C b.v) ++ (l2.map fun b => b.C b.v)) H (b.C b.v)
      simpa [List.append_assoc] using this)
    exact h3
  · have hbm : b' ∈ l1 ++ b :: l2 := by
      rcases List.mem_append.1 hb' with h | h
      · simp [h]
      · simp [h]
    obtain ⟨q1, q2, q3, q4, q5, q6⟩ := I.bank b' hbm
    refine ⟨q1, q2, fun h => ?_, q4, q5, g2 _ _ q6⟩
    rcases List.mem_cons.1 h with h | h
    · have := I.bkd
      simp only [List.map_append, List.map_cons, List.nodup_append, List.nodup_cons] at this
      rcases List.mem_append.1 hb' with h5 | h5
      · exact this.2.2 b'.i (List.mem_map.2 ⟨b', h5, rfl⟩) b.i (by simp) (by rw [h, hbi])
      · exact this.2.1.1 (List.mem_map.2 ⟨b', h5, by rw [h, hbi]⟩)
    · exact q3 h
  · have := I.bkd
    simp only [List.map_append, List.map_cons, List.nodup_append, List.nodup_cons] at this ⊢
    exact ⟨this.1, this.2.1.2, fun x hx y hy => this.2.2 x hx y (by simp [hy])⟩
  · obtain ⟨b', hb', hbi'⟩ := I.made i hi (fun h => hid (by simp [h])) hli
    refine ⟨b', ?_, hbi'⟩
    rcases List.mem_append.1 hb' with h | h
    · simp [h]
    · rcases List.mem_cons.1 h with h | h
      · subst h; exact absurd (by rw [← hbi', hbi]; simp) hid
      · simp [h]
  · have hil : i < ops.length := (List.getElem?_eq_some_iff.1 ho).1
    have hnB : f ∉ B.getD i [] := fun h => hnof i hil h (.inl hisp) hav
    have hif : i ∉ fs := fun h => hisp (ck.sub i h)
    have hnl : ∀ s, s ∈ f :: done → i ∉ B.getD s [] := fun s hs hB' => by
      have hsl : L.getD s false = true := by
        rcases List.mem_cons.1 hs with rfl | h
        · exact hl
        · exact I.dnl s h
      have hss : s < ops.length := by rw [← I.size]; exact getD_lt hsl
      have := getD_tf (I.bef hB hss hsl hB')
      rw [this] at hLi; cases hLi
    obtain ⟨m, hm, hm1, hm2⟩ := td2_mem (i := f) hil (.inl hisp) hav (.inr ⟨hif, hnl⟩)
    exact g4 i m hm (hm1 hif)
  · have hil : i < ops.length := hspl i (ck.sub i hi)
    have hnB : f ∉ B.getD i [] := fun h => hnof i hil h (.inr hi) hav
    obtain ⟨ei, C', h5, h6, h7⟩ := I.pendf i hi hLi (hback hav hnB)
    exact ⟨ei, C', g2 i C' h5, Env.le_trans hle h6, h7⟩
/-- All floats ahead of a special that may run. -/
theorem Inv2.to (hB : chk ops B n = true) (hnd : sp.Nodup) (hspl : ∀ s, s ∈ sp → s < ops.length) (ck : Ck2 ops B sp fs) {i : Nat} (hif : i ∉ fs) (hbl : ∀ j, j ∈ B.getD i [] → L.getD j false = true) : ∀ (rem : List Nat) {done e r H bk}, i ∈ rem →
    Inv2 P w0 n ops B sp fs L rem done e r H bk a w → Sg2 P w0 n ops B sp fs Q rem done e r H →
    ∃ rest done' e' r' H' bk', Inv2 P w0 n ops B sp fs L (i :: rest) done' e' r' H' bk' a w ∧ Sg2 P w0 n ops B sp fs Q (i :: rest) done' e' r' H'
  | [], _, _, _, _, _, h, _, _ => by cases h
  | x :: rest, done, e, r, H, bk, hi, I, S => by
    by_cases hxi : x = i
    · subst hxi; exact ⟨rest, done, e, r, H, bk, I, S⟩
    · have hir : i ∈ rest := by
        rcases List.mem_cons.1 hi with h | h
        · exact absurd h.symm hxi
        · exact h
      -- the first special that is no float is i
      have key : ∀ l1 c l2, x :: rest = l1 ++ c :: l2 → c ∉ fs → i ∈ l2 → False := fun l1 c l2 he hcf hi2 => by
        obtain ⟨q, hq⟩ := List.getElem?_of_mem hi2
        have hsp : sp[done.reverse.length + l1.length + 1 + q]? = some i := by
          rw [← I.all, he, List.getElem?_append_right (by omega), List.getElem?_append_right (by omega)]
          have : done.reverse.length + l1.length + 1 + q - done.reverse.length - l1.length = q + 1 := by omega
          rw [this]; simpa using hq
        have hct : c ∈ sp.take (done.reverse.length + l1.length + 1 + q) := by
          rw [← I.all, he, List.take_append, List.take_append]
          refine List.mem_append_right _ (List.mem_append_right _ ?_)
          rw [show done.reverse.length + l1.length + 1 + q - done.reverse.length - l1.length = q + 1 from by omega]
          simp
        rcases (ck.non _ i hsp hif).1 c hct with h | h
        · exact hcf h
        · have hcs : c ∈ sp := List.mem_of_mem_take hct
          exact I.nin hnd (x := c) (by rw [he]; simp) ((I.dn c hcs hcf).2 (hbl c h))
      by_cases hxf : x ∈ fs
      · have hxl : L.getD x false = true := by
          have hsp : sp[done.reverse.length]? = some x := by rw [← I.all, List.getElem?_append_right (Nat.le_refl _)]; simp
          obtain ⟨c, hc, hxc⟩ := ck.flo _ x hsp hxf
          rw [← I.all, List.drop_append_of_le_length (Nat.le_refl _), List.drop_length, List.nil_append] at hc
          obtain ⟨hcp, l1, l2, he, hl1⟩ := List.find?_eq_some_iff_append.1 hc
          have hcf : c ∉ fs := by simpa using hcp
          have : c = i := by
            by_cases h : c = i
            · exact h
            · exfalso
              have him : i ∈ l1 ++ c :: l2 := by rw [← he]; exact hi
              rcases List.mem_append.1 him with h1 | h1
              · have := hl1 i h1; simp at this; exact hif this
              · rcases List.mem_cons.1 h1 with h1 | h1
                · exact h h1.symm
                · exact key l1 c l2 he hcf h1
          subst this
          exact hbl x hxc
        obtain ⟨e', r', H', bk', I', S'⟩ := I.adv hB hnd hspl ck hxf hxl S
        exact Inv2.to hB hnd hspl ck hif hbl rest hir I' S'
      · exact (key [] x rest rfl hxf hir).elim
theorem ents_swap : ∀ (X Y : List HProp), ents (X ++ Y) (Y ++ X)
  | [], Y => by rw [List.append_nil]; exact ents.refl _
  | B :: X, Y => (went.star (went.refl B) (ents_swap X Y)).trans (ents_mid' Y X B)
theorem reads2 (hB : chk ops B n = true) (I : Inv2 P w0 n ops B sp fs L rem done e r H bk a w) {i : Nat} {o : Oper} (ho : ops[i]? = some o) (hb : ∀ k, k ∈ bnds o → L.getD k false = true) {ei : Env} (hle : Env.le e ei) :
    ∀ t, t ∈ readsOf ops i → ∀ u, ei.get t = some u → a.tmps[t]? = some u := by
  intro t ht u hu
  refine I.agr t u (hle t u hu) fun j hj => ?_
  exact getD_tf (cl_bef hB I.cl i o ho hb j ((chk_get hB ho).2.2.1 t ht j hj))
theorem put2 (hB : chk ops B n = true) (I : Inv2 P w0 n ops B sp fs L rem done e r H bk a w) {i : Nat} {o : Oper} (ho : ops[i]? = some o) {v : Value} {e' : Env}
    (hv : ∀ d, o.dst = some d → ∀ u, e'.get d = some u → u = v) (hold : ∀ t u, e'.get t = some u → e.get t = some u ∨ ∃ j, dstOf ops j = some t ∧ (L.setIfInBounds i true).getD j true = false ∨ o.dst = some t) :
    ∀ t u, e'.get t = some u → (∀ j, dstOf ops j = some t → (L.setIfInBounds i true).getD j true = true) → (a.put o.dst v).tmps[t]? = some u := by
  intro t u ht hall
  have hi : i < L.size := I.lt ho
  have hn := (chk_get hB ho).2.2.2
  cases hd : o.dst with
  | none =>
    simp only [Act.put]
    rcases hold t u ht with h1 | ⟨j, ⟨h1, h2⟩ | h1⟩
    · refine I.agr t u h1 fun j hj => ?_
      have := hall j hj
      rw [getD_set hi] at this
      by_cases hji : j = i
      · subst hji; simp [dstOf, ho, hd] at hj
      · rwa [if_neg hji] at this
    · rw [hall j h1] at h2; cases h2
    · rw [hd] at h1; cases h1
  | some d =>
    obtain ⟨hdn, hdj⟩ := hn d hd
    simp only [Act.put]
    by_cases htd : t = d
    · subst htd
      rw [hv t hd u ht]
      simp [I.act.2, hdn]
    · rw [Array.getElem?_setIfInBounds_ne (fun h => htd h.symm)]
      rcases hold t u ht with h1 | ⟨j, ⟨h1, h2⟩ | h1⟩
      · refine I.agr t u h1 fun j hj => ?_
        have := hall j hj
        rw [getD_set hi] at this
        by_cases hji : j = i
        · subst hji; simp [dstOf, ho, hd] at hj; exact absurd hj.symm htd
        · rwa [if_neg hji] at this
      · rw [hall j h1] at h2; cases h2
      · rw [hd] at h1; cases h1; exact absurd rfl htd
/-- All that an operation hangs on is done, where it may run and is no float's only user. -/
theorem Inv2.av (hB : chk ops B n = true) (hnd : sp.Nodup) (ck : Ck2 ops B sp fs) (I : Inv2 P w0 n ops B sp fs L rem done e r H bk a w) {i : Nat} (hil : i < ops.length) (hi : i ∉ sp ∨ i ∈ fs) (hbl : ∀ j, j ∈ B.getD i [] → L.getD j false = true) : ∀ s, s ∈ sbOf B sp i → s ∈ done := by
  intro s hs
  simp only [sbOf, List.mem_filter, List.contains_iff_mem] at hs
  by_cases hsf : s ∈ fs
  · rcases ck.cov i hil s hsf hs.2 with ⟨h, h'⟩ | ⟨c, hc, hcf, hcB, hfc⟩
    · rcases hi with h2 | h2
      · exact absurd h h2
      · exact absurd h2 h'
    · exact I.dcl hnd ck ((I.dn c hc hcf).2 (hbl c hcB)) hcf hsf hfc
  · exact (I.dn s hs.1 hsf).2 (hbl s hs.2)
theorem Inv2.fin (hB : chk ops B n = true) (hnd : sp.Nodup) (hspl : ∀ s, s ∈ sp → s < ops.length) (ck : Ck2 ops B sp fs) (hall : ∀ i, i < ops.length → L.getD i true = true) : ∀ (rem : List Nat) {done e r H bk},
    Inv2 P w0 n ops B sp fs L rem done e r H bk a w → Sg2 P w0 n ops B sp fs Q rem done e r H → Q .normal a w
  | [], done, e, r, H, bk, I, S => by
    unfold Sg2 at S
    refine S a w ⟨I.act.1, I.act.2, fun t u hu => I.agr t u hu fun i hi => ?_⟩ (I.st.conv (ents_dropl _ _))
    have : i < ops.length := by
      unfold dstOf at hi
      cases ho : ops[i]? with
      | none => rw [ho] at hi; cases hi
      | some o => exact (List.getElem?_eq_some_iff.1 ho).1
    exact hall i this
  | x :: rest, done, e, r, H, bk, I, S => by
    have hxs : x ∈ sp := by rw [← I.all]; simp
    have hxl : L.getD x false = true := getD_ft (by rw [I.size]; exact hspl x hxs) (hall x (hspl x hxs))
    by_cases hxf : x ∈ fs
    · obtain ⟨e', r', H', bk', I', S'⟩ := I.adv hB hnd hspl ck hxf hxl S
      exact Inv2.fin hB hnd hspl ck hall rest I' S'
    · exact absurd ((I.dn x hxs hxf).2 hxl) (I.nin hnd (by simp))
theorem dst_uq (hB : chk ops B n = true) {i j d : Nat} (hi : dstOf ops i = some d) (hj : dstOf ops j = some d) : j = i := by
  unfold dstOf at hi
  cases ho : ops[i]? with
  | none => rw [ho] at hi; cases hi
  | some o => rw [ho] at hi; exact ((chk_get hB ho).2.2.2 d (by simpa using hi)).2 j hj
end
theorem Sg2.sound (hB : chk ops B n = true) (hnd : sp.Nodup) (hspl : ∀ s, s ∈ sp → s < ops.length) (ck : Ck2 ops B sp fs) : ∀ (fuel : Nat) (L : Array Bool) (rem done : List Nat) (e : Env) (r : Recs) (H : List HProp) (bk : List Bk) (a : Act) (w : World),
    Inv2 P w0 n ops B sp fs L rem done e r H bk a w → Sg2 P w0 n ops B sp fs Q rem done e r H → unl L ≤ fuel → wpAny P .any ops.toArray Q fuel L a w := by
  intro fuel
  induction fuel with
  | zero =>
    intro L rem done e r H bk a w I S hu
    have hall : ∀ i, i < ops.length → L.getD i true = true := fun i hi => by
      cases h : L.getD i true with
      | true => rfl
      | false => have := unl_set (by rw [I.size]; exact hi) h; omega
    refine ⟨?_, I.fin hB hnd hspl ck hall rem S⟩
    cases hr : Region.ready .any ops.toArray L with
    | nil => rfl
    | cons i l =>
      obtain ⟨o, ho, h1, _⟩ := ready_mem (i := i) (by rw [hr]; simp)
      rw [hall i (List.getElem?_eq_some_iff.1 ho).1] at h1; cases h1
  | succ fuel ih =>
    intro L rem done e r H bk a w I S hu
    refine ⟨fun hr => I.fin hB hnd hspl ck (ready_nil hB I.size hr) rem S, fun i hi => ?_⟩
    obtain ⟨o, ho, hui, hbn⟩ := ready_mem hi
    have hil : i < L.size := I.lt ho
    have hio : i < ops.length := (List.getElem?_eq_some_iff.1 ho).1
    have huf : ¬ L.getD i false = true := fun h => by rw [getD_tf h] at hui; cases hui
    have hul := unl_set hil hui
    have hbl := cl_bef hB I.cl i o ho hbn
    have hset : ∀ j, j ≠ i → ∀ c, (L.setIfInBounds i true).getD j c = L.getD j c := fun j hj c => by rw [getD_set hil, if_neg hj]
    have hseti : ∀ c, (L.setIfInBounds i true).getD i c = true := fun c => by rw [getD_set hil, if_pos rfl]
    have hne : ∀ {j c}, (L.setIfInBounds i true).getD j c = false → j ≠ i := fun h he => by rw [he, hseti] at h; cases h
    unfold wpOp
    simp only [List.getElem?_toArray, ho]
    by_cases hif : i ∈ fs
    · -- a float
      have hisp : i ∈ sp := ck.sub i hif
      have hid : i ∉ done := fun h => huf (I.dnl i h)
      have hav := I.av hB hnd ck hio (.inr hif) hbl
      obtain ⟨ei, C, hrC, hle, o', vop, d, ho', hd, hg, hs, hal⟩ := I.pendf i hif hui hav
      rw [ho] at ho'; cases ho'
      have hrd := reads2 hB I ho hbn hle
      have hdo : dstOf ops i = some d := by simp [dstOf, ho, hd]
      have hed : e.get d = none := I.nof i hif hid d hdo
      rw [if_pos (gw_wanted' hg fun j want hgd d v hd hv => hrd d (mem_reads_g ho hgd hd) v hv)]
      refine .inl (Upon.wp (N := fun v w1 => St w0 (C v :: (bk.map (fun b => b.C b.v) ++ H)) w1) ?_ fun u w1 hst => ?_)
      · rw [sub_exec hs (rd_of_reads ho hrd)]; exact hal _ w _ I.st fun v H' w' h1 h2 => h1 ▸ h2
      refine ih _ rem done e r H (⟨i, d, u, C⟩ :: bk) _ w1 ?_ S (by omega)
      have hbi : ∀ b, b ∈ bk → b.i ≠ i := fun b hb he => by have := (I.bank b hb).1; rw [he] at this; exact huf this
      refine ⟨by simpa using I.size, cl_set I.size I.cl ho hbn, I.all, fun s hs hsf => ?_, fun s hs => ?_, ⟨by simp [Act.put, hd, I.act.1], by simp [Act.put, hd, I.act.2]⟩, ?_, I.nof, hst, fun b hb => ?_, ?_, fun j hj hjd hjl => ?_, fun j oj hoj hL hjs hja => ?_, fun j hj hL hja => ?_⟩
      · rw [hset s (fun h => hsf (h ▸ hif))]; exact I.dn s hs hsf
      · rw [hset s (fun h => hid (h ▸ hs))]; exact I.dnl s hs
      · exact put2 hB I ho (fun d' hd' u' hu' => by rw [hd] at hd'; cases hd'; rw [hed] at hu'; cases hu') fun t u ht => .inl ht
      · rcases List.mem_cons.1 hb with rfl | hb
        · exact ⟨hseti _, hif, hid, hdo, by simp [Act.put, hd, I.act.2, ((chk_get hB ho).2.2.2 d hd).1], hrC⟩
        · obtain ⟨q1, q2, q3, q4, q5, q6⟩ := I.bank b hb
          refine ⟨by rw [hset _ (hbi b hb)]; exact q1, q2, q3, q4, ?_, q6⟩
          simp only [Act.put, hd]
          rw [Array.getElem?_setIfInBounds_ne (fun h => hbi b hb (dst_uq hB hdo (by rw [(show _ = b.d from h)]; exact q4)))]; exact q5
      · simp only [List.map_cons, List.nodup_cons]
        refine ⟨fun h => ?_, I.bkd⟩
        obtain ⟨b, hb, hbe⟩ := List.mem_map.1 h
        exact hbi b hb hbe
      · by_cases hji : j = i
        · subst hji; exact ⟨_, List.mem_cons_self, rfl⟩
        · rw [hset j hji] at hjl
          obtain ⟨b, hb, hbe⟩ := I.made j hj hjd hjl
          exact ⟨b, List.mem_cons_of_mem _ hb, hbe⟩
      · rw [hset j (hne hL)] at hL; exact I.pend j oj hoj hL hjs hja
      · rw [hset j (hne hL)] at hL; exact I.pendf j hj hL hja
    · by_cases hsp : i ∈ sp
      · -- a special
        have hid : i ∉ done := fun h => huf (I.dnl i h)
        have hir : i ∈ rem := by
          have : i ∈ done.reverse ++ rem := by rw [I.all]; exact hsp
          rcases List.mem_append.1 this with h | h
          · exact absurd (by simpa using h) hid
          · exact h
        obtain ⟨rest, done, e, r, H, bk, I, S⟩ := Inv2.to hB hnd hspl ck hif hbl rem hir I S
        have hid : i ∉ done := fun h => huf (I.dnl i h)
        have hrd := reads2 hB I ho hbn (Env.le_refl _)
        unfold Sg2 at S
        rw [if_neg (by simpa using hif)] at S
        obtain ⟨o', ho', hdn, hop⟩ := S (bk.map fun b => b.C b.v)
        rw [ho] at ho'; cases ho'
        have next : ∀ v H'' w', St w0 (H'' ++ bk.map fun b => b.C b.v) w' → Gr2 P w0 ops H'' (todo2 ops.length B sp fs (i :: done) (some i)) (e.put o.dst v) r (fun e'' r'' => Sg2 P w0 n ops B sp fs Q rest (i :: done) e'' r'' H'') →
            wpAny P .any ops.toArray Q fuel (L.setIfInBounds i true) (a.put o.dst v) w' := by
          intro v H' w' hst hg
          obtain ⟨e', r', h1, h2, h2r, h3, h4, h5⟩ := Gr2.out hg
          have hle1 : Env.le (e.put o.dst v) e := by
            cases hd : o.dst with
            | none => exact Env.le_refl _
            | some d => exact Env.le_put (hdn d hd)
          have hot : ∀ t u, (e.put o.dst v).get t = some u → e.get t = some u ∨ o.dst = some t := fun t u ht => by
            cases hd : o.dst with
            | none => rw [hd] at ht; exact .inl ht
            | some d =>
              rw [hd] at ht
              by_cases htd : t = d
              · subst htd; exact .inr rfl
              · simp only [Env.put] at ht; rw [Env.get_cons_ne htd] at ht; exact .inl ht
          have hbi : ∀ b, b ∈ bk → b.i ≠ i := fun b hb he => hif (he ▸ (I.bank b hb).2.1)
          have hod : ∀ d, o.dst = some d → dstOf ops i = some d := fun d hd => by simp [dstOf, ho, hd]
          refine ih _ rest (i :: done) e' r' H' bk _ w' ?_ h1 (by omega)
          refine ⟨by simpa using I.size, cl_set I.size I.cl ho hbn, by rw [← I.all]; simp, fun s hs hsf => ?_, fun s hs => ?_, ⟨by cases hd : o.dst <;> simp [Act.put, I.act.1], by cases hd : o.dst <;> simp [Act.put, I.act.2]⟩, ?_, fun j hj hjd dj hdj => ?_, hst.conv (ents_swap _ _), fun b hb => ?_, I.bkd, fun j hj hjd hjl => ?_, fun j oj hoj hL hjs hja => ?_, fun j hj hL hja => ?_⟩
          · by_cases hsi : s = i
            · subst hsi; simp [hseti]
            · rw [hset s hsi]; simp [hsi, I.dn s hs hsf]
          · rcases List.mem_cons.1 hs with rfl | h
            · exact hseti _
            · rw [hset s (fun he => hid (he ▸ h))]; exact I.dnl s h
          · refine put2 hB I ho (fun d hd u hu => ?_) fun t u ht => ?_
            · have := h2 d v (by rw [hd]; exact Env.get_cons_eq)
              rw [this] at hu; cases hu; rfl
            · rcases h3 t u ht with h6 | ⟨j, hj, hjd⟩
              · rcases hot t u h6 with h7 | h7
                · exact .inl h7
                · exact .inr ⟨0, .inr h7⟩
              · refine .inr ⟨j, .inl ⟨hjd, ?_⟩⟩
                obtain ⟨hjl, hjs, hjf, hiB, _⟩ := td2_fresh hj
                have hji : j ≠ i := fun h => hjs (h ▸ hsp)
                rw [hset j hji]
                cases hL : L.getD j true with
                | false => rfl
                | true => exact absurd (I.bef hB hjl (getD_ft (by rw [I.size]; exact hjl) hL) hiB) huf
          · cases hg' : e'.get dj with
            | none => rfl
            | some u =>
              have hji : j ≠ i := fun h => hif (h ▸ hj)
              rcases h3 dj u hg' with h6 | ⟨k, hk, hkd⟩
              · rcases hot dj u h6 with h7 | h7
                · rw [I.nof j hj (fun h => hjd (by simp [h])) dj hdj] at h7; cases h7
                · exact absurd (dst_uq hB (hod dj h7) hdj) hji
              · have := dst_uq hB hkd hdj
                subst this
                exact absurd hj (td2_fresh hk).2.2.1
          · obtain ⟨q1, q2, q3, q4, q5, q6⟩ := I.bank b hb
            refine ⟨by rw [hset _ (hbi b hb)]; exact q1, q2, fun h => ?_, q4, ?_, h2r _ _ q6⟩
            · rcases List.mem_cons.1 h with h | h
              · exact hbi b hb h
              · exact q3 h
            · cases hd : o.dst with
              | none => exact q5
              | some d =>
                simp only [Act.put]
                rw [Array.getElem?_setIfInBounds_ne (fun h => hbi b hb (dst_uq hB (hod d hd) (by rw [(show _ = b.d from h)]; exact q4)))]; exact q5
          · rw [hset j (fun h => hif (h ▸ hj))] at hjl
            exact I.made j hj (fun h => hjd (by simp [h])) hjl
          · have hji : j ≠ i := hne hL
            rw [hset j hji] at hL
            have hjo : j < ops.length := (List.getElem?_eq_some_iff.1 hoj).1
            have hjf : j ∉ fs := fun h => hjs (ck.sub j h)
            obtain ⟨m, hm, hm1, hm2⟩ := td2_mem (i := i) hjo (.inl hjs) hja (.inr ⟨hjf, fun s hs hB' => by
              have hsl : L.getD j false = true := by
                rcases List.mem_cons.1 hs with rfl | h
                · exact hbl j hB'
                · have := I.dnl s h
                  exact I.bef hB (by rw [← I.size]; exact getD_lt this) this hB'
              rw [getD_tf hsl] at hL; cases hL⟩)
            exact h4 j m hm (hm1 hjf)
          · have hji : j ≠ i := hne hL
            rw [hset j hji] at hL
            have hjo : j < ops.length := hspl j (ck.sub j hj)
            by_cases hij : i ∈ sbOf B sp j
            · obtain ⟨m, hm, hm1, hm2⟩ := td2_mem (i := i) hjo (.inr hj) hja (.inl hij)
              rw [hm2 hj] at hm
              exact h5 j hm
            · obtain ⟨ei, C', h6, h7, h8⟩ := I.pendf j hj hL (fun s hs => by
                rcases List.mem_cons.1 (hja s hs) with rfl | h
                · exact absurd hs hij
                · exact h)
              exact ⟨ei, C', h2r j C' h6, Env.le_trans (Env.le_trans h2 hle1) h7, h8⟩
        rcases hop with ⟨hg, vop, hs, heff⟩ | ⟨hg, H'', hH, hK⟩
        · rw [if_pos (gw_wanted' hg fun j want hgd d v hd hv => hrd d (mem_reads_g ho hgd hd) v hv)]
          refine .inl (Upon.wp (N := fun v w' => ∃ H'', Gr2 P w0 ops H'' (todo2 ops.length B sp fs (i :: done) (some i)) (e.put o.dst v) r (fun e'' r'' => Sg2 P w0 n ops B sp fs Q rest (i :: done) e'' r'' H'') ∧ St w0 (H'' ++ bk.map fun b => b.C b.v) w') ?_ fun v w' ⟨H', h1, h2⟩ => next v H' w' h2 h1)
          rw [sub_exec hs (rd_of_reads ho hrd)]
          refine heff w _ (I.st.conv (ents_swap _ _)) fun v H' w' ⟨H'', h1, h2⟩ h3 => ?_
          subst h1
          exact ⟨H'', h2, h3⟩
        · rw [if_neg (by rw [gw_wanted' hg fun j want hgd d v hd hv => hrd d (mem_reads_g ho hgd hd) v hv]; simp)]
          refine next undef H'' w ?_ hK
          rw [← hH]; exact I.st.conv (ents_swap _ _)
      · -- a quiet one
        have hav := I.av hB hnd ck hio (.inl hsp) hbl
        obtain ⟨ei, v, d, hd, hle, hev, o', ho', hop⟩ := I.pend i o ho hui hsp hav
        rw [ho] at ho'; cases ho'
        have hod : o.dst = some d := by simpa [dstOf, ho] using hd
        have hrd := reads2 hB I ho hbn hle
        have next : wpAny P .any ops.toArray Q fuel (L.setIfInBounds i true) (a.put o.dst v) w := by
          refine ih _ rem done e r H bk _ w ?_ S (by omega)
          have hbi : ∀ b, b ∈ bk → b.i ≠ i := fun b hb he => hif (he ▸ (I.bank b hb).2.1)
          refine ⟨by simpa using I.size, cl_set I.size I.cl ho hbn, I.all, fun s hs hsf => ?_, fun s hs => ?_, ⟨by simp [Act.put, hod, I.act.1], by simp [Act.put, hod, I.act.2]⟩, ?_, I.nof, I.st, fun b hb => ?_, I.bkd, fun j hj hjd hjl => ?_, fun j oj hoj hL hjs hja => ?_, fun j hj hL hja => ?_⟩
          · rw [hset s (fun h => hsp (h ▸ hs))]; exact I.dn s hs hsf
          · rw [hset s (fun h => huf (h ▸ I.dnl s hs))]; exact I.dnl s hs
          · exact put2 hB I ho (fun d' hd' u hu => by rw [hod] at hd'; cases hd'; rw [hev] at hu; cases hu; rfl) fun t u ht => .inl ht
          · obtain ⟨q1, q2, q3, q4, q5, q6⟩ := I.bank b hb
            refine ⟨by rw [hset _ (hbi b hb)]; exact q1, q2, q3, q4, ?_, q6⟩
            simp only [Act.put, hod]
            rw [Array.getElem?_setIfInBounds_ne (fun h => hbi b hb (dst_uq hB hd (by rw [(show _ = b.d from h)]; exact q4)))]; exact q5
          · rw [hset j (fun h => hif (h ▸ hj))] at hjl; exact I.made j hj hjd hjl
          · rw [hset j (hne hL)] at hL; exact I.pend j oj hoj hL hjs hja
          · rw [hset j (hne hL)] at hL; exact I.pendf j hj hL hja
        rcases hop with ⟨hg, vop, hs, hrun⟩ | ⟨hg, rfl⟩
        · rw [if_pos (gw_wanted' hg fun j want hgd d v hd hv => hrd d (mem_reads_g ho hgd hd) v hv)]
          refine .inl (Upon.wp (N := fun u w' => u = v ∧ w' = w) ?_ fun u w' ⟨h1, h2⟩ => by subst h1; subst h2; exact next)
          rw [sub_exec hs (rd_of_reads ho hrd), hrun w (I.st.conv (ents_dropl _ _)).2]
          exact ⟨rfl, rfl⟩
        · rw [if_neg (by rw [gw_wanted' hg fun j want hgd d v hd hv => hrd d (mem_reads_g ho hgd hd) v hv]; simp)]
          exact next
theorem wpAny_draw2 {e : Env} {H : List HProp} (B : List (List Nat)) (sp fs : List Nat) {td : List (Nat × Tm)} (hB : chk ops B n = true) (hc : chk2 ops B sp fs = true) (hnd : sp.Nodup) (hspl : ∀ s, s ∈ sp → s < ops.length) (hnf : (fs.all fun f => match (dstOf ops f).bind fun d => e.get d with | none => true | some _ => false) = true) (ht : todo2 ops.length B sp fs [] none = td)
    (h : Gr2 P w0 ops H td e [] fun e' r' => Sg2 P w0 n ops B sp fs Q sp [] e' r' H) (a : Act) (w : World) (ha : Agr e n a) (hs : St w0 H w) : wpAny P .any ops.toArray Q ops.toArray.size (Array.replicate ops.toArray.size false) a { w with drawn := w.drawn + 1 } := by
  subst ht
  have ck := chk2_get hc
  obtain ⟨e', r', h1, h2, _, h3, h4, h5⟩ := Gr2.out h
  refine Sg2.sound hB hnd hspl ck _ _ sp [] e' r' H [] a _ ?_ h1 (by simp only [unl, Array.toList_replicate, List.countP_replicate]; simp)
  have hrep : ∀ i, (Array.replicate ops.toArray.size false).getD i false = false := fun i => by
    simp [Array.getD]
  have hrt : ∀ i t, dstOf ops i = some t → ¬ (Array.replicate ops.toArray.size false).getD i true = true := fun i t hid h => by
    have hil : i < ops.length := by
      unfold dstOf at hid
      cases ho : ops[i]? with
      | none => rw [ho] at hid; cases hid
      | some o => exact (List.getElem?_eq_some_iff.1 ho).1
    simp [Array.getD, hil] at h
  have hsb : ∀ i, (∀ s, s ∈ sbOf B sp i → s ∈ ([] : List Nat)) → sbOf B sp i = [] := fun i hs => by
    cases h : sbOf B sp i with
    | nil => rfl
    | cons s l => have := hs s (by rw [h]; simp); cases this
  have htd : ∀ i b, (i, b) ∈ todo2 ops.length B sp fs [] none → (b = .fresh ∧ i ∉ fs) ∨ (b = .flt ∧ i ∈ fs) := fun i b hi => by
    simp only [todo2, List.mem_filterMap, List.mem_range] at hi
    obtain ⟨j, hj, hi⟩ := hi
    split at hi
    · cases hi
    · split at hi
      · by_cases hf : j ∈ fs
        · simp [hf] at hi; obtain ⟨rfl, rfl⟩ := hi; exact .inr ⟨rfl, hf⟩
        · simp [hf] at hi; obtain ⟨rfl, rfl⟩ := hi; exact .inl ⟨rfl, hf⟩
      · cases hi
  refine ⟨by simp, fun j o ho hj => ?_, by simp, fun s hs hsf => ?_, fun s hs => (by cases hs), ⟨ha.1, ha.2.1⟩, fun t u hu hall => ?_, fun i hi _ d hd => ?_, ⟨⟨hs.1.os, hs.1.tape, hs.1.output, hs.1.size⟩, sat.heap rfl hs.2⟩, fun b hb => (by cases hb), by simp, fun i hi _ hl => ?_, fun i o ho hL hi hs => ?_, fun i hi hL hs => ?_⟩
  · have := (List.getElem?_eq_some_iff.1 ho).1
    simp [Array.getD, this] at hj
  · rw [hrep]; simp
  · rcases h3 t u hu with h6 | ⟨i, hi, hid⟩
    · exact ha.2.2 t u h6
    · exact absurd (hall i hid) (hrt i t hid)
  · cases hg : e'.get d with
    | none => rfl
    | some u =>
      rcases h3 d u hg with h6 | ⟨j, hj, hjd⟩
      · have := List.all_eq_true.1 hnf i hi; rw [hd] at this; simp only [Option.bind_some] at this; rw [h6] at this; cases this
      · have := dst_uq hB hd hjd
        subst this
        rcases htd j _ hj with ⟨_, h7⟩ | ⟨h7, _⟩
        · exact absurd hi h7
        · cases h7
  · rw [hrep] at hl; cases hl
  · have hil : i < ops.length := (List.getElem?_eq_some_iff.1 ho).1
    have h6 : sp.contains i = false := by simpa using hi
    have h7 : i ∉ fs := fun h => hi (ck.sub i h)
    refine h4 i .fresh ?_ (fun h => by cases h)
    simp only [todo2, List.mem_filterMap, List.mem_range]
    exact ⟨i, hil, by rw [if_neg (by rw [h6]; simp), hsb i hs]; simp [h7]⟩
  · have hil : i < ops.length := hspl i (ck.sub i hi)
    refine h5 i ?_
    simp only [todo2, List.mem_filterMap, List.mem_range]
    exact ⟨i, hil, by rw [if_neg (by simp [hi]), hsb i hs]; simp [hi]⟩
theorem Cd.draw2 {id : Nat} {e : Env} {H : List HProp} (B : List (List Nat)) (sp fs : List Nat) {td : List (Nat × Tm)} (hm : P.follows .mixedOrders = true) (hB : chk ops B n = true) (hc : chk2 ops B sp fs = true) (hnd : sp.Nodup) (hspl : ∀ s, s ∈ sp → s < ops.length) (hnf : (fs.all fun f => match (dstOf ops f).bind fun d => e.get d with | none => true | some _ => false) = true) (ht : todo2 ops.length B sp fs [] none = td)
    (h : Gr2 P w0 ops H td e [] fun e' r' => Sg2 P w0 n ops B sp fs Q sp [] e' r' H) : Cd P w0 n (.region id ops.toArray true) Q e H :=
  fun a w ha hs => wp_region_any hm (wpAny_draw2 B sp fs hB hc hnd hspl hnf ht h a w ha hs)
section
variable {i d : Nat} {t : List (Nat × Tm)} {e : Env} {r : Recs} {H : List HProp} {K : Env → Recs → Prop} {o : Oper} {vop : VOp} {v : Value} {pre : Prop}
theorem Gr2.fin (h : K e r) : Gr2 P w0 ops H [] e r K := h
theorem Gr2.x (ho : ops[i]? = some o) (hd : o.dst = some d) (hw : gw ops.toArray e o.guard = some true) (hs : Op.sub e o.op = some vop) (hf : e.get d = none) (q : ∀ w, sat w (stars H) → (vop.exec o.type).run P w = .ok (.value v) w) (k : Gr2 P w0 ops H t ((d, v) :: e) r K) :
    Gr2 P w0 ops H ((i, .fresh) :: t) e r K := ⟨v, d, by simp [dstOf, ho, hd], hf, ⟨o, ho, .inl ⟨hw, vop, hs, q⟩⟩, k⟩
theorem Gr2.q (ho : ops[i]? = some o) (hd : o.dst = some d) (hw : gw ops.toArray e o.guard = some true) (hs : Op.sub e o.op = some vop) (hf : e.get d = none) [q : Q1 P vop o.type H pre v] (hp : pre) (k : Gr2 P w0 ops H t ((d, v) :: e) r K) :
    Gr2 P w0 ops H ((i, .fresh) :: t) e r K := Gr2.x ho hd hw hs hf (q.run hp) k
theorem Gr2.skip (ho : ops[i]? = some o) (hd : o.dst = some d) (hw : gw ops.toArray e o.guard = some false) (hf : e.get d = none) (k : Gr2 P w0 ops H t ((d, undef) :: e) r K) :
    Gr2 P w0 ops H ((i, .fresh) :: t) e r K := ⟨undef, d, by simp [dstOf, ho, hd], hf, ⟨o, ho, .inr ⟨hw, rfl⟩⟩, k⟩
theorem Gr2.oldx (ho : ops[i]? = some o) (hd : o.dst = some d) (hw : gw ops.toArray e o.guard = some true) (hs : Op.sub e o.op = some vop) (hf : e.get d = some v) (q : ∀ w, sat w (stars H) → (vop.exec o.type).run P w = .ok (.value v) w) (k : Gr2 P w0 ops H t e r K) :
    Gr2 P w0 ops H ((i, .old) :: t) e r K := ⟨⟨v, d, by simp [dstOf, ho, hd], hf, ⟨o, ho, .inl ⟨hw, vop, hs, q⟩⟩⟩, k⟩
theorem Gr2.old (ho : ops[i]? = some o) (hd : o.dst = some d) (hw : gw ops.toArray e o.guard = some true) (hs : Op.sub e o.op = some vop) (hf : e.get d = some v) [q : Q1 P vop o.type H pre v] (hp : pre) (k : Gr2 P w0 ops H t e r K) :
    Gr2 P w0 ops H ((i, .old) :: t) e r K := Gr2.oldx ho hd hw hs hf (q.run hp) k
theorem Gr2.oldskip (ho : ops[i]? = some o) (hd : o.dst = some d) (hw : gw ops.toArray e o.guard = some false) (hf : e.get d = some undef) (k : Gr2 P w0 ops H t e r K) :
    Gr2 P w0 ops H ((i, .old) :: t) e r K := ⟨⟨undef, d, by simp [dstOf, ho, hd], hf, ⟨o, ho, .inr ⟨hw, rfl⟩⟩⟩, k⟩
theorem Gr2.flt {C : Value → HProp} (hr : r.get i = none) (ho : ops[i]? = some o) (hd : o.dst = some d) (hw : gw ops.toArray e o.guard = some true) (hs : Op.sub e o.op = some vop) (al : AllocOk P w0 vop o.type C) (k : Gr2 P w0 ops H t e ((i, C) :: r) K) :
    Gr2 P w0 ops H ((i, .flt) :: t) e r K := ⟨C, hr, ⟨o, vop, d, ho, hd, hw, hs, al⟩, k⟩
end
section
variable {i d : Nat} {rest done : List Nat} {td : List (Nat × Tm)} {e : Env} {r : Recs} {H : List HProp}
theorem Sg2.fin (h : Dn w0 n Q .normal e H) : Sg2 P w0 n ops B sp fs Q [] done e r H := h
theorem Sg2.flt {C : Value → HProp} (hf : fs.contains i = true) (hr : r.get i = some C) (hd : dstOf ops i = some d) (he : e.get d = none) (ht : todo2 ops.length B sp fs (i :: done) (some i) = td)
    (k : ∀ v, Gr2 P w0 ops (C v :: H) td ((d, v) :: e) r fun e' r' => Sg2 P w0 n ops B sp fs Q rest (i :: done) e' r' (C v :: H)) : Sg2 P w0 n ops B sp fs Q (i :: rest) done e r H := by
  unfold Sg2; rw [if_pos hf]; subst ht; exact ⟨C, d, hr, hd, he, k⟩
theorem Sg2.one (hf : fs.contains i = false) (ht : todo2 ops.length B sp fs (i :: done) (some i) = td)
    (k : ∀ F, SpOp P w0 ops i e (H ++ F) fun e' H' => ∃ H'', H' = H'' ++ F ∧ Gr2 P w0 ops H'' td e' r fun e'' r'' => Sg2 P w0 n ops B sp fs Q rest (i :: done) e'' r'' H'') : Sg2 P w0 n ops B sp fs Q (i :: rest) done e r H := by
  unfold Sg2; rw [if_neg (by rw [hf]; simp)]; subst ht; exact k
end
/-- F at the end of a list. -/
class Sn (L : List HProp) (F : List HProp) (l : outParam (List HProp)) : Prop where sn : L = l ++ F
instance (R F : List HProp) : Sn (R ++ F) F R := ⟨rfl⟩
instance (a : HProp) (L F l : List HProp) [h : Sn L F l] : Sn (a :: L) F (a :: l) := ⟨by rw [h.sn]; rfl⟩
theorem Sn.ok {L F l : List HProp} {K : List HProp → Prop} [h : Sn L F l] (k : K l) : ∃ H'', L = H'' ++ F ∧ K H'' := ⟨l, h.sn, k⟩
end
end Go.Sl

namespace Go.Sl
open Go
set_option linter.unusedVariables false
set_option linter.unusedSectionVars false
/-! Floats: new slices of what is known by itself. -/
theorem EIL.lift {P : Program} {H : List HProp} {T : Type} {E : Enc T} {ps : List (Nat × Value)} {k : Nat} {xs : List T} (x : EIL [] P E ps k xs) : EIL H P E ps k xs :=
  ⟨fun w hw => x.e w (hw.went (ents.nil H)), fun w hw => x.f w (hw.went (ents.nil H))⟩
theorem AllocOk.bslice {P : Program} {w0 : World} {ty t e n : Nat} {T : Type} {E : Enc T} {ps : List (Nat × Value)} {xs : List T} {z : List Value} [u : TyU P t (.slice e)] [m : TyE P e E] [hz : ZCells P e z] [x : EIL [] P E ps 0 xs] (hn : Nat.beq xs.length n = true) (hb : Nat.ble (n * E.size) 16777216 = true) :
    AllocOk P w0 (.bslice t n ps) ty (fun v => sl E v xs) := fun H =>
  haveI : EIL H P E ps 0 xs := x.lift
  Eff.bslice hn hb fun v => rfl
theorem one_sl {r : Bool} {T : Type} {E : Enc T} {v : Value} {xs : List T} {w : World} (h : sat w (slB r E v xs)) : One v := ⟨(slB_in h).fl⟩
end Go.Sl

namespace Go.Sl
open Go
set_option linter.unusedVariables false
/-! Bits. -/
def andI (k : IntKind) (a b : Int) : Int := k.wrap ((BitVec.ofInt k.bits a &&& BitVec.ofInt k.bits b).toNat : Int)
def orI (k : IntKind) (a b : Int) : Int := k.wrap ((BitVec.ofInt k.bits a ||| BitVec.ofInt k.bits b).toNat : Int)
def xorI (k : IntKind) (a b : Int) : Int := k.wrap ((BitVec.ofInt k.bits a ^^^ BitVec.ofInt k.bits b).toNat : Int)
def andNI (k : IntKind) (a b : Int) : Int := k.wrap ((BitVec.ofInt k.bits a &&& ~~~BitVec.ofInt k.bits b).toNat : Int)
def shlI (k : IntKind) (a y : Int) : Int := k.wrap (a * 2 ^ (min y.toNat k.bits))
def shrI (k : IntKind) (a y : Int) : Int := a.fdiv (2 ^ (min y.toNat k.bits))
section
variable {P : Program} {ty : TypeId} {H : List HProp}
instance Q1.and (t : TypeId) (k : IntKind) (a b : Int) (ca cb : Bool) : Q1 P (.bin .and t (.int k a) (.int k b) ca cb) ty H True (.int k (andI k a b)) := ⟨fun _ w _ => bin_int (by simp [binOp, Op.intBits, run_pure, andI])⟩
instance Q1.or (t : TypeId) (k : IntKind) (a b : Int) (ca cb : Bool) : Q1 P (.bin .or t (.int k a) (.int k b) ca cb) ty H True (.int k (orI k a b)) := ⟨fun _ w _ => bin_int (by simp [binOp, Op.intBits, run_pure, orI])⟩
instance Q1.xor (t : TypeId) (k : IntKind) (a b : Int) (ca cb : Bool) : Q1 P (.bin .xor t (.int k a) (.int k b) ca cb) ty H True (.int k (xorI k a b)) := ⟨fun _ w _ => bin_int (by simp [binOp, Op.intBits, run_pure, xorI])⟩
instance Q1.andNot (t : TypeId) (k : IntKind) (a b : Int) (ca cb : Bool) : Q1 P (.bin .andNot t (.int k a) (.int k b) ca cb) ty H True (.int k (andNI k a b)) := ⟨fun _ w _ => bin_int (by simp [binOp, Op.intBits, run_pure, andNI])⟩
theorem bin_int2 {op : BinOp} {t : TypeId} {k k2 : IntKind} {a b : Int} {ca cb : Bool} {w : World} {v : Value} (h : (binOp op t (.int k a) (.int k2 b)).run P w = .ok v w) :
    ((VOp.bin op t (.int k a) (.int k2 b) ca cb).exec ty).run P w = .ok (.value v) w :=
  exec_v (by rw [run_bind', eqg_int]; exact h)
instance Q1.shr (t : TypeId) (k k2 : IntKind) (a y : Int) (ca cb : Bool) : Q1 P (.bin .shr t (.int k a) (.int k2 y) ca cb) ty H (0 ≤ y) (.int k (shrI k a y)) :=
  ⟨fun h w _ => bin_int2 (by simp [binOp, Op.shift, Int.not_lt.2 h, run_pure, shrI])⟩
instance Q1.shl (t : TypeId) (k k2 : IntKind) (a y : Int) (ca cb : Bool) : Q1 P (.bin .shl t (.int k a) (.int k2 y) ca cb) ty H (0 ≤ y) (.int k (shlI k a y)) :=
  ⟨fun h w _ => bin_int2 (by simp [binOp, Op.shift, Int.not_lt.2 h, run_pure, shlI])⟩
end
def u32 (x : Int) : Prop := 0 ≤ x ∧ x < 4294967296
theorem u32_wrap {x : Int} (h : u32 x) : IntKind.u32.wrap x = x := by
  unfold u32 at h
  simp only [IntKind.wrap, IntKind.bits, IntKind.signed]
  simp; omega
theorem u32_nat (b : BitVec 32) : IntKind.u32.wrap (b.toNat : Int) = b.toNat := u32_wrap (by unfold u32; have := b.isLt; omega)
theorem andI_eq {x y : Int} (hy : u32 y) : (andI .u32 x y = y) ↔ (BitVec.ofInt 32 x &&& BitVec.ofInt 32 y = BitVec.ofInt 32 y) := by
  have e : andI .u32 x y = ((BitVec.ofInt 32 x &&& BitVec.ofInt 32 y).toNat : Int) := u32_nat _
  have hn : ((BitVec.ofInt 32 y).toNat : Int) = y := by rw [BitVec.toNat_ofInt]; unfold u32 at hy; omega
  rw [e]
  constructor
  · intro h
    apply BitVec.eq_of_toNat_eq
    have : ((BitVec.ofInt 32 x &&& BitVec.ofInt 32 y).toNat : Int) = ((BitVec.ofInt 32 y).toNat : Int) := by rw [h, hn]
    omega
  · intro h; rw [h, hn]
theorem andN_and {x y : Int} (hy : u32 y) : decide (andNI .u32 y x = 0) = decide (andI .u32 x y = y) := by
  apply decide_eq_decide.2
  rw [andI_eq hy]
  have e : andNI .u32 y x = ((BitVec.ofInt 32 y &&& ~~~BitVec.ofInt 32 x).toNat : Int) := u32_nat _
  rw [e]
  generalize BitVec.ofInt 32 y = b
  generalize BitVec.ofInt 32 x = a
  constructor
  · intro h
    have h0 : b &&& ~~~a = 0 := BitVec.eq_of_toNat_eq (by simp at h ⊢; omega)
    apply BitVec.eq_of_getLsbD_eq
    intro i hi
    have := congrArg (fun v => v.getLsbD i) h0
    simp [hi] at this ⊢
    intro hb; exact this hb
  · intro h
    have h0 : b &&& ~~~a = 0 := by
      apply BitVec.eq_of_getLsbD_eq
      intro i hi
      have := congrArg (fun v => v.getLsbD i) h
      simp [hi] at this ⊢
      intro hb; exact this hb
    rw [h0]; rfl
theorem shr16 {x : Int} (h : u32 x) : decide (shrI .u32 x 16 = 0) = decide (x < 65536) := by
  apply decide_eq_decide.2
  unfold u32 at h
  unfold shrI
  rw [show min (16 : Int).toNat IntKind.u32.bits = 16 from rfl, Int.fdiv_eq_ediv_of_nonneg _ (by decide)]
  constructor <;> intro h2 <;> omega
end Go.Sl

namespace Go.Sl
open Go
set_option linter.unusedVariables false
/-! Nothing or something. -/
def nilS : Value → Bool | .slice none _ _ => true | _ => false
section
variable {P : Program} {ty : TypeId} {H : List HProp}
theorem eqlIn_nil (w : World) (d : Nat) (t e : TypeId) (a : Option Addr) (l c : Nat) (h : P.underlying t = some (.slice e)) : (Op.equalIn (d + 1) t (.slice a l c) (.slice none 0 0)).run P w = .ok a.isNone w := by
  cases a <;> simp [Op.equalIn, run_underlying h]
theorem eql_nil (w : World) (t e : TypeId) (a : Option Addr) (l c : Nat) (h : P.underlying t = some (.slice e)) : (binOp .eql t (.slice a l c) (.slice none 0 0)).run P w = .ok (.bool a.isNone) w := by
  simp only [binOp]
  simp [Op.equal, Op.maxDepth, eqlIn_nil w 9999 t e a l c h]
theorem neq_nil (w : World) (t e : TypeId) (a : Option Addr) (l c : Nat) (h : P.underlying t = some (.slice e)) : (binOp .neq t (.slice a l c) (.slice none 0 0)).run P w = .ok (.bool (!a.isNone)) w := by
  simp only [binOp]
  simp [Op.equal, Op.maxDepth, eqlIn_nil w 9999 t e a l c h]
theorem eqg_slice (op : BinOp) (t : TypeId) (x y : Operand) (a b : Option Addr) (l c l' c' : Nat) (w : World) : (eqGuard op t x y (.slice a l c) (.slice b l' c')).run P w = .ok () w := by
  unfold eqGuard; split <;> rfl
theorem SlIn.slice {w : World} {T : Type} {E : Enc T} {v : Value} {xs : List T} (h : SlIn w E v xs) : ∃ a l c, v = .slice a l c ∧ nilS v = a.isNone := by
  rcases h with ⟨⟨a0, rfl⟩, _⟩ | ⟨b, off, cap, c, ty, fz, rfl, _⟩
  · exact ⟨_, _, _, rfl, by cases a0 <;> rfl⟩
  · exact ⟨_, _, _, rfl, rfl⟩
instance Q1.eqlNilS {t e : TypeId} {v : Value} {T : Type} {E : Enc T} {xs : List T} (ca cb : Bool) [u : TyU P t (.slice e)] [s : SlT H v E xs] : Q1 P (.bin .eql t v (.slice none 0 0) ca cb) ty H True (.bool (nilS v)) :=
  ⟨fun _ w hw => by
    obtain ⟨a, l, c, rfl, hn⟩ := (s.rd w hw).slice
    rw [hn]
    exact exec_v (by rw [run_bind', eqg_slice]; exact eql_nil w t e a l c u.u)⟩
instance Q1.neqNilS {t e : TypeId} {v : Value} {T : Type} {E : Enc T} {xs : List T} (ca cb : Bool) [u : TyU P t (.slice e)] [s : SlT H v E xs] : Q1 P (.bin .neq t v (.slice none 0 0) ca cb) ty H True (.bool (!nilS v)) :=
  ⟨fun _ w hw => by
    obtain ⟨a, l, c, rfl, hn⟩ := (s.rd w hw).slice
    rw [hn]
    exact exec_v (by rw [run_bind', eqg_slice]; exact neq_nil w t e a l c u.u)⟩
theorem eqlIn_nilP (w : World) (d : Nat) (t e : TypeId) (a : Option Addr) (h : P.underlying t = some (.pointer e)) : (Op.equalIn (d + 1) t (.pointer a) (.pointer none)).run P w = .ok a.isNone w := by
  cases a <;> simp [Op.equalIn, run_underlying h]
theorem eqg_ptr (op : BinOp) (t : TypeId) (x y : Operand) (a b : Option Addr) (w : World) : (eqGuard op t x y (.pointer a) (.pointer b)).run P w = .ok () w := by
  unfold eqGuard; split <;> rfl
theorem eql_nilP (w : World) (t e : TypeId) (a : Option Addr) (h : P.underlying t = some (.pointer e)) : (binOp .eql t (.pointer a) (.pointer none)).run P w = .ok (.bool a.isNone) w := by
  simp only [binOp]
  simp [Op.equal, Op.maxDepth, eqlIn_nilP w 9999 t e a h]
theorem neq_nilP (w : World) (t e : TypeId) (a : Option Addr) (h : P.underlying t = some (.pointer e)) : (binOp .neq t (.pointer a) (.pointer none)).run P w = .ok (.bool (!a.isNone)) w := by
  simp only [binOp]
  simp [Op.equal, Op.maxDepth, eqlIn_nilP w 9999 t e a h]
instance Q1.eqlNilP {t e : TypeId} (a : Option Addr) (ca cb : Bool) [u : TyU P t (.pointer e)] : Q1 P (.bin .eql t (.pointer a) (.pointer none) ca cb) ty H True (.bool a.isNone) :=
  ⟨fun _ w _ => exec_v (by rw [run_bind', eqg_ptr]; exact eql_nilP w t e a u.u)⟩
instance Q1.neqNilP {t e : TypeId} (a : Option Addr) (ca cb : Bool) [u : TyU P t (.pointer e)] : Q1 P (.bin .neq t (.pointer a) (.pointer none) ca cb) ty H True (.bool (!a.isNone)) :=
  ⟨fun _ w _ => exec_v (by rw [run_bind', eqg_ptr]; exact neq_nilP w t e a u.u)⟩
end
/-- No slice, no elements. -/
theorem nilS_nil {r : Bool} {T : Type} {E : Enc T} {v : Value} {xs : List T} {w : World} (h : sat w (slB r E v xs)) : nilS v = true → v = .slice none 0 0 ∧ xs = [] := by
  rcases slB_in h with h | ⟨b, off, cap, c, ty, fz, rfl, _⟩
  · obtain ⟨⟨a, rfl⟩, rfl⟩ := h
    cases a with
    | none => exact fun _ => ⟨rfl, rfl⟩
    | some a => intro h; cases h
  · intro h; cases h
end Go.Sl

namespace Go.Sl
open Go
set_option linter.unusedVariables false
section
variable {P : Program} {w0 : World} {ty : TypeId}
theorem AllocOk.mkS {t e nb : Nat} {T : Type} {E : Enc T} {n : Int} {x : T} {z : List Value} [u : TyU P t (.slice e)] [m : TyE P e E] [hz : ZCells P e z] [tb : TyB P e nb] [ec : EncC E x z] (hf : z.all fl = true) (h : 0 ≤ n ∧ n * nb ≤ 140737488355328 ∧ n ≤ 140737488355328) :
    AllocOk P w0 (.mkS t (.int .i64 n) (.int .i64 n)) ty (fun v => sl E v (List.replicate n.toNat x)) := fun H => Eff.mkS hf h fun v => rfl
theorem AllocOk.mkM {t : TypeId} {κ ν : Type} [DecidableEq κ] (K : κ → Value) (V : ν → Value) : AllocOk P w0 (.mkM t none) ty (fun m => mp K V m (fun _ => none)) := fun H => Eff.mkM K V fun m => rfl
end
theorem slB_nil (r : Bool) {T : Type} (E : Enc T) (A : HProp) : ent A (star (slB r E (.slice none 0 0) []) A) :=
  fun h x => ⟨fun _ => none, h, fun b x y hx => by simp at hx, by funext b; rfl, .inl ⟨⟨_, rfl⟩, rfl⟩, x⟩
theorem rws_nils {r : Bool} {T : Type} {E : Enc T} (A : HProp) : ∀ n : Nat, went A (star (rws r E (List.replicate n (.slice none 0 0)) (List.replicate n [])) A)
  | 0 => rws_nil A
  | n + 1 => by
    rw [List.replicate_succ', List.replicate_succ']
    exact (rws_nils (r := r) (E := E) A n).trans ((went.of (slB_nil r E _)).trans ((went.of (star_assoc' _ _ _)).trans (went.star rws_snoc (went.refl A))))
theorem ents.rnils {r : Bool} {T : Type} {E : Enc T} {H L : List HProp} {n : Nat} (k : ents H L) : ents H (rws r E (List.replicate n (.slice none 0 0)) (List.replicate n []) :: L) := k.trans (rws_nils _ n)
section
variable {P : Program} {ty : TypeId} {H : List HProp}
/-- An element's first field. -/
instance (priority := high) Q1.faddrE0 (s : TypeId) (v : Value) (i : Int) (m o f ft n : Nat) [k : TyF P s f 0 ft] [h : TySz P ft n] [z : NZ n] {T : Type} (E : Enc T) (xs : List T) [r : SlT H v E xs] :
    Q1 P (.faddr s (elp v i m o) f) ty H (0 ≤ i ∧ i < xs.length) (elp v i m o) := Q1.faddrE s v i m o f 0 ft n E xs
end
/-! for looking at a goal alone -/
theorem Gr2.peek {P : Program} {w0 : World} {ops : List Oper} {H : List HProp} {i : Nat} {m : Tm} {t : List (Nat × Tm)} {e : Env} {r : Recs} {K : Env → Recs → Prop} (h : Peek (i, t.map (·.1)) e H → Gr2 P w0 ops H ((i, m) :: t) e r K) : Gr2 P w0 ops H ((i, m) :: t) e r K := h trivial
end Go.Sl

namespace Go.Sl
open Go
set_option linter.unusedVariables false
/-! A row taken out of its table, and another put back. -/
def rwsH (r : Bool) {T : Type} (E : Enc T) (i : Nat) (rows : List Value) (xss : List (List T)) : HProp := star (fun _ => rows.length = xss.length ∧ i < rows.length) (stars (((rows.zip xss).map fun p => slB r E p.1 p.2).eraseIdx i))
theorem rws_take {r : Bool} {T : Type} {E : Enc T} {rows : List Value} {xss : List (List T)} {i : Int} (h0 : 0 ≤ i) (h : i < xss.length) : ent (rws r E rows xss) (star (slB r E (rd rows i) (rd xss i)) (rwsH r E i.toNat rows xss)) := by
  rintro _ ⟨f, g, k, rfl, hl, b⟩
  have hl' : rows.length = xss.length := hl
  have h1 : i.toNat < rows.length := by omega
  have h2 : i.toNat < xss.length := by omega
  obtain ⟨g1, g2, k2, rfl, a, b2⟩ := stars_take _ i.toNat (slB r E (rd rows i) (rd xss i)) (by
    rw [rd_eq h1, rd_eq h2]
    rw [List.getElem?_map, List.getElem?_eq_getElem (by simp; omega)]
    simp) g b
  exact star_left_comm _ _ _ _ ⟨f, _, k, rfl, ⟨hl', h1⟩, ⟨g1, g2, k2, rfl, a, b2⟩⟩
theorem zip_set {α β : Type} : ∀ (l : List α) (m : List β) (i : Nat) (x : α) (y : β), (l.set i x).zip (m.set i y) = (l.zip m).set i (x, y)
  | [], m, i, x, y => by simp
  | a :: l, [], i, x, y => by cases i <;> simp
  | a :: l, b :: m, 0, x, y => by simp
  | a :: l, b :: m, i + 1, x, y => by simp [zip_set l m i x y]
theorem rws_put {r : Bool} {T : Type} {E : Enc T} {rows : List Value} {xss : List (List T)} {i : Nat} {v : Value} {xs : List T} : ent (star (slB r E v xs) (rwsH r E i rows xss)) (rws r E (rows.set i v) (xss.set i xs)) := by
  intro h hh
  obtain ⟨f, g, k, rfl, ⟨hl, hi⟩, b⟩ := star_left_comm _ _ _ _ hh
  refine ⟨f, g, k, rfl, by simp [hl], ?_⟩
  rw [zip_set, List.map_set]
  exact stars_put _ i (slB r E v xs) (by simp; omega) g b
theorem ents.rset {r : Bool} {T : Type} {E : Enc T} {rows : List Value} {xss : List (List T)} {i : Nat} {v : Value} {xs : List T} {H H1 H2 L : List HProp} (t : Tk H (slB r E v xs) H1) (t2 : Tk H1 (rwsH r E i rows xss) H2) (k : ents H2 L) : ents H (rws r E (rows.set i v) (xss.set i xs) :: L) :=
  went.trans t (went.trans (went.star (went.refl _) t2) (went.trans (went.of (star_assoc' _ _ _)) (went.star (went.of rws_put) k)))
theorem Cd.row {P : Program} {w0 : World} {n : Nat} {Q : Exit → Act → World → Prop} {e : Env} {c : Code} {r : Bool} {T : Type} {E : Enc T} {rows : List Value} {xss : List (List T)} {H H' : List HProp} (i : Int) (t : Tk H (rws r E rows xss) H') (h : 0 ≤ i ∧ i < xss.length)
    (k : Cd P w0 n c Q e (slB r E (rd rows i) (rd xss i) :: rwsH r E i.toNat rows xss :: H')) : Cd P w0 n c Q e H :=
  Cd.weak (Env.le_refl e) (went.trans t ((went.star (went.of (rws_take h.1 h.2)) (went.refl _)).trans (went.of (star_assoc _ _ _)))) k
end Go.Sl

namespace Go.Sl
open Go
set_option linter.unusedVariables false
/-! A slice cut at the front. -/
def slcV (v : Value) (l n : Nat) : Value := match v with | .slice a len cap => sliced a l len cap n | v => v
theorem elem_eq {P : Program} {t e : TypeId} (h : P.underlying t = some (.slice e)) : P.elem t = e := by simp [Program.elem, h]
instance Q1.slcL {P : Program} {ty : TypeId} {H : List HProp} (t e : TypeId) (v : Value) (k : IntKind) (l : Int) (n : Nat) {T : Type} (E : Enc T) (xs : List T) [r : SlT H v E xs] [u : TyU P t (.slice e)] [s : TySz P e n] :
    Q1 P (.slice t v (some (.int k l)) none none) ty H (0 ≤ l ∧ l ≤ xs.length) (slcV v l.toNat n) :=
  ⟨fun ⟨h0, h1⟩ w hw => by
    have ht : P.underlying t = some (.slice (P.elem t)) := by rw [elem_eq u.u]; exact u.u
    have key : ∀ a c, v = .slice a xs.length c → (Instr.sliceAt t v (some (.int k l)) none none).run P w = .ok (slcV v l.toNat n) w := fun a c hv => by
      subst hv
      rw [run_sliceAt_slice w t _ _ _ _ ht, run_slice_l w t a xs.length c ht k l h0 h1, elem_eq u.u, run_sizeOf s]; rfl
    refine exec_v ?_
    rcases r.rd w hw with ⟨⟨a0, rfl⟩, rfl⟩ | ⟨b, off, cap, c, ty', fz, rfl, h2, h3, h4⟩
    · exact key a0 0 rfl
    · exact key _ cap rfl⟩
theorem slc_ent {r : Bool} {T : Type} {E : Enc T} {v : Value} {xs : List T} {l : Nat} (h : l ≤ xs.length) : ent (slB r E v xs) (slB r E (slcV v l E.size) (xs.drop l)) := by
  rintro f (⟨⟨a0, rfl⟩, rfl⟩ | ⟨b, off, cap, c, ty, rfl, h2, h3, h4, h5, h6⟩)
  · simp at h; subst h; exact .inl ⟨⟨a0, by cases a0 <;> simp [slcV, sliced]⟩, rfl⟩
  · have hfl : (flat E xs).length = xs.length * E.size := flat_length E xs
    have hdl : (flat E (xs.drop l)).length = (xs.length - l) * E.size := by rw [flat_length]; simp
    have hmul : xs.length * E.size = l * E.size + (xs.length - l) * E.size := by rw [← Nat.add_mul]; congr 1; omega
    have hcap : cap * E.size = l * E.size + (cap - l) * E.size := by rw [← Nat.add_mul]; congr 1; omega
    have hfd : ∀ x, x ∈ flat E (xs.drop l) → fl x = true := fun x hx => h6 x (by rw [← flat_drop] at hx; exact List.mem_of_mem_drop hx)
    by_cases hc : cap = l
    · have hx : xs.drop l = [] := List.drop_eq_nil_of_le (by omega)
      refine .inr ⟨b, off, cap - l, c, ty, by simp [slcV, sliced, hc], by simp; omega, ?_, h4, fun j hj => ?_, hfd⟩
      · rw [hc, Nat.sub_self, Nat.zero_mul]; omega
      · rw [hx] at hj; simp [flat] at hj
    · refine .inr ⟨b, off + l * E.size, cap - l, c, ty, by simp [slcV, sliced, hc, Addr.add], by simp; omega, by omega, h4, fun j hj => ?_, hfd⟩
      rw [← flat_drop, List.getElem?_drop, ← h5 _ (by rw [hdl] at hj; omega), Nat.add_assoc]
theorem Cd.slc {P : Program} {w0 : World} {n : Nat} {Q : Exit → Act → World → Prop} {e : Env} {c : Code} {r : Bool} {T : Type} {E : Enc T} {v : Value} {xs : List T} {H H' : List HProp} (l : Nat) (t : Tk H (slB r E v xs) H') (h : l ≤ xs.length)
    (k : Cd P w0 n c Q e (slB r E (slcV v l E.size) (xs.drop l) :: H')) : Cd P w0 n c Q e H :=
  Cd.weak (Env.le_refl e) (went.trans t (went.star (went.of (slc_ent h)) (went.refl _))) k
theorem ents.slc {r : Bool} {T : Type} {E : Enc T} {v : Value} {xs : List T} {l : Nat} {H H1 L : List HProp} (t : Tk H (slB r E v xs) H1) (h : l ≤ xs.length) (k : ents H1 L) : ents H (slB r E (slcV v l E.size) (xs.drop l) :: L) :=
  went.trans t (went.star (went.of (slc_ent h)) k)
end Go.Sl

namespace Go.Sl
open Go
set_option linter.unusedVariables false
/-! A drawn region whose last operation hangs on all others: it is run last, over what the others left. -/
def Qlast (P : Program) (ops : Array Oper) (N : Nat) (Q : Exit → Act → World → Prop) : Exit → Act → World → Prop := fun x a w =>
  match x with
  | .normal => wpOp P ops Q N (fun a w => Q .normal a w) a w
  | x => Q x a w
def chkL (l : List Oper) (z : Oper) : Bool :=
  ((bnds z).all fun k => Nat.blt k l.length) && (List.range l.length).all fun i => (bnds z).contains i && match l[i]? with
    | none => true
    | some o => ((bnds o).all fun k => Nat.blt k i) && (match o.guard with | some (j, _) => Nat.blt j l.length | none => true)
section
variable {P : Program} {w0 : World} {n : Nat} {Q : Exit → Act → World → Prop} {l : List Oper} {z : Oper}
theorem chkL_get (h : chkL l z = true) {i : Nat} (hi : i < l.length) : i ∈ bnds z ∧ (∀ k, k ∈ bnds l[i] → k < i) ∧ ∀ j b, l[i].guard = some (j, b) → j < l.length := by
  have := List.all_eq_true.1 (Bool.and_eq_true_iff.1 h).2 i (List.mem_range.2 hi)
  simp only [Bool.and_eq_true, List.contains_iff_mem, List.getElem?_eq_getElem hi, List.all_eq_true] at this
  obtain ⟨h1, h2, h3⟩ := this
  refine ⟨h1, fun k hk => by simpa using h2 k hk, fun j b hg => ?_⟩
  rw [hg] at h3; simpa using h3
theorem ready_bnd {ops : List Oper} {L : Array Bool} {i : Nat} : i ∈ Region.ready .any ops.toArray L ↔ ∃ o, ops[i]? = some o ∧ L.getD i true = false ∧ ∀ k, k ∈ bnds o → L.getD k false = true := by
  constructor
  · exact ready_mem
  · rintro ⟨o, ho, h1, h2⟩
    have hi : i < ops.length := (List.getElem?_eq_some_iff.1 ho).1
    unfold Region.ready
    simp only [List.mem_filter, List.mem_range, Bool.and_eq_true]
    refine ⟨by simpa using hi, by simp [h1], ?_⟩
    simp only [List.getElem?_toArray, ho, Option.map_some, Option.getD_some]
    refine Array.all_eq_true'.2 fun e he => ?_
    cases hb : Region.binds .any e with
    | false => simp
    | true =>
      have hk : e.on ∈ bnds o := by
        unfold bnds; simp only [List.mem_filterMap]; exact ⟨e, by simpa using he, by simp [hb]⟩
      simp [h2 _ hk]
theorem ready_nilL (hL : chkL l z = true) {L : Array Bool} (hs : L.size = l.length) (h : Region.ready .any l.toArray L = []) : ∀ i, i < l.length → L.getD i false = true := by
  intro i
  induction i using Nat.strongRecOn with
  | _ i ih =>
    intro hi
    cases hh : L.getD i false with
    | true => rfl
    | false =>
      have : i ∈ Region.ready .any l.toArray L := ready_bnd.2 ⟨_, List.getElem?_eq_getElem hi, by
        have : i < L.size := by omega
        simp [Array.getD, this] at hh ⊢; exact hh, fun k hk => by
        have := (chkL_get hL hi).2.1 k hk
        exact ih k this (by omega)⟩
      rw [h] at this; cases this
theorem wpAny_last (hL : chkL l z = true) : ∀ (fuel : Nat) (L : Array Bool) (a : Act) (w : World), L.size = l.length → wpAny P .any l.toArray (Qlast P (l ++ [z]).toArray l.length Q) fuel L a w → wpAny P .any (l ++ [z]).toArray Q (fuel + 1) (L.push false) a w := by
  intro fuel
  have hz : (l ++ [z])[l.length]? = some z := by simp
  -- all but the last are listed
  have fin : ∀ (m : Nat) (L : Array Bool) (a : Act) (w : World), L.size = l.length → Region.ready .any l.toArray L = [] → wpOp P (l ++ [z]).toArray Q l.length (fun a w => Q .normal a w) a w → wpAny P .any (l ++ [z]).toArray Q (m + 1) (L.push false) a w := by
    intro m L a w hs hr hq
    have hall := ready_nilL hL hs hr
    have hdone : Region.ready .any (l ++ [z]).toArray ((L.push false).setIfInBounds l.length true) = [] := by
      cases h : Region.ready .any (l ++ [z]).toArray ((L.push false).setIfInBounds l.length true) with
      | nil => rfl
      | cons i t =>
        obtain ⟨o, ho, h1, _⟩ := ready_bnd.1 (show i ∈ _ by rw [h]; simp)
        have hil : i < l.length + 1 := by have := (List.getElem?_eq_some_iff.1 ho).1; simpa using this
        rw [getD_set (by simp [hs])] at h1
        by_cases hi : i = l.length
        · rw [if_pos hi] at h1; cases h1
        · rw [if_neg hi] at h1
          have hi2 : i < L.size := by omega
          have h2 := hall i (by omega)
          simp [Array.getD, hi2, Array.getElem_push_lt] at h1 h2
          have hi3 : i < L.size + 1 := by omega
          simp [hi3] at h1
          rw [h2] at h1; cases h1
    have hone : ∀ i, i ∈ Region.ready .any (l ++ [z]).toArray (L.push false) → i = l.length := by
      intro i hi
      obtain ⟨o, ho, h1, _⟩ := ready_bnd.1 hi
      have hil : i < l.length + 1 := by have := (List.getElem?_eq_some_iff.1 ho).1; simpa using this
      by_cases h : i = l.length
      · exact h
      · exfalso
        have hi2 : i < L.size := by omega
        have hi3 : i < L.size + 1 := by omega
        have h2 := hall i (by omega)
        simp [Array.getD, hi2, hi3, Array.getElem_push_lt] at h1 h2
        rw [h2] at h1; cases h1
    refine ⟨fun h => ?_, fun i hi => ?_⟩
    · have : l.length ∈ Region.ready .any (l ++ [z]).toArray (L.push false) := ready_bnd.2 ⟨z, hz, by simp [Array.getD, hs, Array.getElem_push], fun k hk => ?_⟩
      · rw [h] at this; cases this
      · have hkl : k < l.length := by have := List.all_eq_true.1 (Bool.and_eq_true_iff.1 hL).1 k hk; simpa using this
        have h2 := hall k hkl
        have hi2 : k < L.size := by omega
        have hi3 : k < L.size + 1 := by omega
        simp [Array.getD, hi2, hi3, Array.getElem_push_lt] at h2 ⊢
        exact h2
    · rw [hone i hi]
      refine wpOp_mono (fun a w h => ?_) hq
      cases m with
      | zero => exact ⟨hdone, h⟩
      | succ m => exact ⟨fun _ => h, fun j hj => by rw [hdone] at hj; cases hj⟩
  induction fuel with
  | zero => exact fun L a w hs h => fin 0 L a w hs h.1 h.2
  | succ fuel ih =>
    intro L a w hs h
    cases hr : Region.ready .any l.toArray L with
    | nil => exact fin (fuel + 1) L a w hs hr (h.1 hr)
    | cons i0 t =>
      obtain ⟨o0, ho0, hu0, _⟩ := ready_bnd.1 (show i0 ∈ _ by rw [hr]; simp)
      have hi0 : i0 < l.length := (List.getElem?_eq_some_iff.1 ho0).1
      have hpush : ∀ k c, k < l.length → (L.push false).getD k c = L.getD k c := fun k c hk => by
        have hi2 : k < L.size := by omega
        have hi3 : k < L.size + 1 := by omega
        simp [Array.getD, hi2, hi3, Array.getElem_push_lt]
      have hmem : ∀ i, i ∈ Region.ready .any (l ++ [z]).toArray (L.push false) ↔ i ∈ Region.ready .any l.toArray L := by
        intro i
        rw [ready_bnd, ready_bnd]
        constructor
        · rintro ⟨o, ho, h1, h2⟩
          have hil : i < l.length + 1 := by have := (List.getElem?_eq_some_iff.1 ho).1; simpa using this
          by_cases hi : i < l.length
          · rw [List.getElem?_append_left hi] at ho
            have hob : o = l[i] := by rw [List.getElem?_eq_getElem hi] at ho; exact (Option.some.inj ho).symm
            subst hob
            refine ⟨_, ho, by rw [← hpush i true hi]; exact h1, fun k hk => ?_⟩
            have := (chkL_get hL hi).2.1 k hk
            rw [← hpush k false (by omega)]; exact h2 k hk
          · exfalso
            have hie : i = l.length := by omega
            subst hie
            rw [hz] at ho; cases ho
            have h3 := h2 i0 (chkL_get hL hi0).1
            rw [hpush i0 false hi0] at h3
            have hi2 : i0 < L.size := by omega
            simp [Array.getD, hi2] at h3 hu0
            rw [h3] at hu0; cases hu0
        · rintro ⟨o, ho, h1, h2⟩
          have hi : i < l.length := (List.getElem?_eq_some_iff.1 ho).1
          have hob : o = l[i] := by rw [List.getElem?_eq_getElem hi] at ho; exact (Option.some.inj ho).symm
          subst hob
          refine ⟨_, by rw [List.getElem?_append_left hi]; exact ho, by rw [hpush i true hi]; exact h1, fun k hk => ?_⟩
          have := (chkL_get hL hi).2.1 k hk
          rw [hpush k false (by omega)]; exact h2 k hk
      refine ⟨fun hn => ?_, fun i hi => ?_⟩
      · have := (hmem i0).2 (by rw [hr]; simp)
        rw [hn] at this; cases this
      · have hi' := (hmem i).1 hi
        obtain ⟨o, ho, _, _⟩ := ready_bnd.1 hi'
        have hil : i < l.length := (List.getElem?_eq_some_iff.1 ho).1
        have h2 := h.2 i hi'
        have hset : (L.push false).setIfInBounds i true = (L.setIfInBounds i true).push false := by
          apply Array.ext
          · simp
          · intro k h3 h4
            simp only [Array.size_setIfInBounds, Array.size_push] at h3 h4
            simp only [Array.getElem_setIfInBounds, Array.getElem_push, Array.size_setIfInBounds]
            have hk' : k < L.size + 1 := by simpa using h3
            rw [Array.getElem_setIfInBounds (by simpa using hk'), Array.getElem_push]
            by_cases hki : i = k
            · subst hki
              have : i < L.size := by omega
              rw [if_pos rfl, dif_pos this, Array.getElem_setIfInBounds this, if_pos rfl]
            · rw [if_neg hki]
              by_cases hkl : k < L.size
              · rw [dif_pos hkl, dif_pos hkl, Array.getElem_setIfInBounds hkl, if_neg hki]
              · rw [dif_neg hkl, dif_neg hkl]
        have hop : (l ++ [z])[i]? = some o := by rw [List.getElem?_append_left hil]; exact ho
        have hog : o = l[i] := by rw [List.getElem?_eq_getElem hil] at ho; exact (Option.some.inj ho).symm
        have hwant : Region.wanted o (yielded (l ++ [z]).toArray a.tmps) = Region.wanted o (yielded l.toArray a.tmps) := by
          unfold Region.wanted
          cases hg : o.guard with
          | none => rfl
          | some p =>
            obtain ⟨j, b⟩ := p
            have hj := (chkL_get hL hil).2.2 j b (by rw [← hog]; exact hg)
            simp only [yielded, List.getElem?_toArray]
            rw [List.getElem?_append_left hj]
        rw [hset]
        unfold wpOp at h2 ⊢
        simp only [List.getElem?_toArray, ho, hop] at h2 ⊢
        rw [hwant]
        have hnext : ∀ a w, wpAny P .any l.toArray (Qlast P (l ++ [z]).toArray l.length Q) fuel (L.setIfInBounds i true) a w → wpAny P .any (l ++ [z]).toArray Q (fuel + 1) ((L.setIfInBounds i true).push false) a w := fun a w h => ih _ a w (by simpa using hs) h
        split
        · rename_i hw
          rw [if_pos hw] at h2
          rcases h2 with h2 | ⟨h2, h3⟩
          · left
            refine Oper.wp_mono hnext ?_
            unfold Oper.wp at h2 ⊢
            generalize (execOp a.eval o).run P w = r at h2
            cases r with
            | ok x w' =>
              cases x <;> simp only [Oper.upon] at h2 ⊢ <;> first | exact h2 | exact Calls.mono h2 (fun e w'' he => by cases e <;> exact he)
            | halt x w' => cases x <;> simp only [Oper.upon] at h2 ⊢ <;> exact h2
          · exact .inr ⟨h2, h3⟩
        · rename_i hw
          rw [if_neg hw] at h2
          exact hnext _ _ h2
theorem Cd.drawL {id : Nat} {e : Env} {H : List HProp} {l : List Oper} {z : Oper} {ops : List Oper} (B : List (List Nat)) (sp fs : List Nat) {td : List (Nat × Tm)} (hl : l ++ [z] = ops) (hm : P.follows .mixedOrders = true) (hL : chkL l z = true) (hB : chk l B n = true) (hc : chk2 l B sp fs = true) (hnd : sp.Nodup) (hspl : ∀ s, s ∈ sp → s < l.length) (hnf : (fs.all fun f => match (dstOf l f).bind fun d => e.get d with | none => true | some _ => false) = true) (ht : todo2 l.length B sp fs [] none = td)
    (h : Gr2 P w0 l H td e [] fun e' r' => Sg2 P w0 n l B sp fs (Qlast P ops.toArray l.length Q) sp [] e' r' H) : Cd P w0 n (.region id ops.toArray true) Q e H := by
  intro a w ha hs
  subst hl
  refine wp_region_any hm ?_
  have h1 := wpAny_draw2 (Q := Qlast P (l ++ [z]).toArray l.length Q) B sp fs hB hc hnd hspl hnf ht h a w ha hs
  have h2 := wpAny_last (P := P) (Q := Q) hL l.toArray.size (Array.replicate l.toArray.size false) a _ (by simp) h1
  have e1 : (Array.replicate l.toArray.size false).push false = Array.replicate (l ++ [z]).toArray.size false := by
    apply Array.ext'; simp [List.replicate_succ']
  have e2 : (l ++ [z]).toArray.size = l.toArray.size + 1 := by simp
  rw [e1] at h2
  rw [e2]; rw [e2] at h2; exact h2
/-- The last operation, where it only reads. -/
theorem Dn.last {e : Env} {H : List HProp} {ops : Array Oper} {N d : Nat} {z : Oper} {vop : VOp} {pre : Prop} {v : Value} (hz : ops[N]? = some z) (hd : z.dst = some d) (hg : gw ops e z.guard = some true) (hs : Op.sub e z.op = some vop) (hdn : Nat.blt d n = true) [q : Q1 P vop z.type H pre v] (hp : pre)
    (h : Dn w0 n Q .normal ((d, v) :: e) H) : Dn w0 n (Qlast P ops N Q) .normal e H := by
  intro a w ha hst
  show wpOp P ops Q N (fun a w => Q .normal a w) a w
  unfold wpOp
  simp only [hz]
  rw [if_pos (gw_wanted hg ha)]
  refine .inl (Upon.wp (N := fun u w' => u = v ∧ w' = w) ?_ fun u w' ⟨h1, h2⟩ => ?_)
  · rw [sub_exec hs (ha.rd _), q.run hp w hst.2]; exact ⟨rfl, rfl⟩
  · subst h1; subst h2
    rw [hd]
    exact h _ _ (ha.put (d := some d) hdn u) hst
/-! heads alone -/
theorem Ol.g {ops : Array Oper} {l : List Oper} {e : Env} {H : List HProp} (h : Ol P w0 n ops Q l e H) : Ol P w0 n ops Q l e H := h
theorem Cd.g {c : Code} {e : Env} {H : List HProp} (h : Cd P w0 n c Q e H) : Cd P w0 n c Q e H := h
theorem Cd.condg {c : Operand} {x y : Code} {e : Env} {H : List HProp} (h : Cd P w0 n (.cond c x y) Q e H) : Cd P w0 n (.cond c x y) Q e H := h
theorem Dn.g {x : Exit} {e : Env} {H : List HProp} (h : Dn w0 n Q x e H) : Dn w0 n Q x e H := h
theorem Dn.gl {ops : Array Oper} {N : Nat} {e : Env} {H : List HProp} (h : Dn w0 n (Qlast P ops N Q) .normal e H) : Dn w0 n (Qlast P ops N Q) .normal e H := h
theorem GrL.g {ops : List Oper} {H : List HProp} {l : List (Nat × Bool)} {e : Env} {K : Env → Prop} (h : GrL P ops H l e K) : GrL P ops H l e K := h
theorem Gr2.g {ops : List Oper} {H : List HProp} {l : List (Nat × Tm)} {e : Env} {r : Recs} {K : Env → Recs → Prop} (h : Gr2 P w0 ops H l e r K) : Gr2 P w0 ops H l e r K := h
theorem Sg.g {ops : List Oper} {B : List (List Nat)} {sp done : List Nat} {k : Nat} {e : Env} {H : List HProp} (h : Sg P w0 n ops B sp Q k done e H) : Sg P w0 n ops B sp Q k done e H := h
theorem Sg2.g {ops : List Oper} {B : List (List Nat)} {sp fs l done : List Nat} {e : Env} {r : Recs} {H : List HProp} (h : Sg2 P w0 n ops B sp fs Q l done e r H) : Sg2 P w0 n ops B sp fs Q l done e r H := h
end
end Go.Sl

namespace Go.Sl
open Go
open Go.RowKit (Below)
set_option linter.unusedVariables false
/-! From a contract to a run: the whole old memory is shared, read only. -/
def allT (W : World) : Hp := fun b => (W.heap[b]?).map fun o => (true, o)
def fr (W : World) : HProp := fun h => ∀ b o, W.heap[b]? = some o → h b = some (true, o)
theorem allT_ok (W : World) : Hp.ok (allT W) (allT W) := fun b x y hx hy => by
  rw [hx] at hy
  refine ⟨Option.some.inj hy, ?_⟩
  simp only [allT, Option.map_eq_some_iff] at hx
  obtain ⟨o, _, rfl⟩ := hx; rfl
theorem allT_add (W : World) : allT W = Hp.add (allT W) (allT W) := by
  funext b
  cases h : allT W b with
  | none => rw [Hp.add_none h, h]
  | some x => rw [Hp.add_left h]
theorem allT_stars {W : World} : ∀ {H : List HProp}, (∀ A, A ∈ H → A (allT W)) → stars H (allT W)
  | [], _ => trivial
  | A :: H, h => ⟨allT W, allT W, allT_ok W, allT_add W, h A (by simp), allT_stars fun B hB => h B (by simp [hB])⟩
theorem Sp.run {P : Program} {f : FuncId} {args : List Value} {H : List HProp} {β : Type} {pp : β → Prop} {val : β → Value} {H' : β → List HProp} (S : Sp P f args H pp val H') (W : World) (h : ∀ A, A ∈ H → A (allT W)) :
    Calls P f args.toArray W fun e W' => ∃ x, e = .returned (val x) ∧ pp x ∧ Below W.heap.size W W' := by
  refine (S W W [fr W] ⟨Ext.refl W, allT W, fun b r o hb => ?_, allT_stars fun A hA => ?_⟩).mono fun e W' hh => ?_
  · simp only [allT, Option.map_eq_some_iff] at hb
    obtain ⟨o', h1, h2⟩ := hb; cases h2; exact h1
  · rcases List.mem_append.1 hA with hA | hA
    · exact h A hA
    · simp at hA; subst hA
      intro b o hb; simp [allT, hb]
  · obtain ⟨v, rfl, x, rfl, hp, hx, hs⟩ := hh
    refine ⟨x, rfl, hp, hx.os, hx.tape, hx.output, hx.size, fun k hk => ?_⟩
    have hf : sat W' (fr W) := stars_mem (l := H' x ++ [fr W]) (by simp) hs
    obtain ⟨g, hle, hg⟩ := hf
    have e := Array.getElem?_eq_getElem hk
    rw [e, hle k true _ (hg k _ e)]
/-! arguments as they are read -/
class Rd (P : Program) (t : TypeId) {T : outParam Type} (E : outParam (Enc T)) (ok : outParam (World → T → Prop)) : Prop where
  rd : ∀ {H : Type} {enc : TypeId × Value → H} {w : World} {fuel : Nat} {cs : List Value} {x : DataW H × List MemPlace}, DataW.trod enc P w 0 (fun _ => true) true fuel t cs = some x →
    ∃ y : T, cs = E.cells y ∧ ok w y ∧ ∀ c, c ∈ cs → fl c = true
def okI (k : IntKind) : World → Int → Prop := fun _ n => k.min ≤ n ∧ n ≤ k.max
def okB : World → Bool → Prop := fun _ _ => True
def okS {T : Type} (E : Enc T) (ok : World → T → Prop) : World → Value → Prop := fun w v => ∃ xs : List T, slB true E v xs (allT w) ∧ (∀ x, x ∈ xs → ok w x) ∧ xs.length ≤ maxLen
section
variable {P : Program} {t : TypeId}
instance Rd.int {k : IntKind} [u : TyU P t (.int k)] : Rd P t (eInt k) (okI k) := ⟨fun {H enc w fuel cs x} h => by
  obtain ⟨n, rfl, _, hw⟩ := DataW.trod_int u.u h
  exact ⟨n, rfl, by simpa [okI, Lit.wf] using hw, fun c hc => by simp at hc; subst hc; rfl⟩⟩
instance Rd.bool [u : TyU P t .bool] : Rd P t eBool okB := ⟨fun {H enc w fuel cs x} h => by
  obtain ⟨b, rfl, _⟩ := DataW.trod_bool u.u h
  exact ⟨b, rfl, trivial, fun c hc => by simp at hc; subst hc; rfl⟩⟩
theorem mapM_some {α β : Type} {f : α → Option β} : ∀ {l : List α} {r : List β}, l.mapM f = some r → r.length = l.length ∧ ∀ (i : Nat) (x : α), l[i]? = some x → f x = r[i]?
  | [], r, h => by simp at h; subst h; exact ⟨rfl, fun i x hx => by simp at hx⟩
  | a :: l, r, h => by
    rw [List.mapM_cons] at h
    cases h1 : f a with
    | none => rw [h1] at h; cases h
    | some b =>
      rw [h1] at h
      simp only [Option.bind_eq_bind, Option.bind_some] at h
      cases h2 : l.mapM f with
      | none => rw [h2] at h; cases h
      | some s =>
        rw [h2] at h
        simp at h; subst h
        obtain ⟨h3, h4⟩ := mapM_some h2
        refine ⟨by simp [h3], fun i x hx => ?_⟩
        cases i with
        | zero => simp at hx; subst hx; simpa using h1
        | succ i => simpa using h4 i x (by simpa using hx)
theorem exL {T : Type} {p : Nat → T → Prop} : ∀ {n : Nat}, (∀ i, i < n → ∃ y, p i y) → ∃ l : List T, l.length = n ∧ ∀ (i : Nat) (x : T), l[i]? = some x → p i x
  | 0, _ => ⟨[], rfl, fun i x h => by simp at h⟩
  | n + 1, h => by
    obtain ⟨l, h1, h2⟩ := exL (n := n) fun i hi => h i (by omega)
    obtain ⟨y, hy⟩ := h n (by omega)
    refine ⟨l ++ [y], by simp [h1], fun i x hx => ?_⟩
    by_cases hi : i < l.length
    · rw [List.getElem?_append_left hi] at hx; exact h2 i x hx
    · rw [List.getElem?_append_right (by omega)] at hx
      have : i = l.length := by
        rcases Nat.lt_or_ge (i - l.length) 1 with h3 | h3
        · omega
        · rw [List.getElem?_eq_none (by simpa using h3)] at hx; cases hx
      subst this
      simp at hx; subst hx; rw [h1]; exact hy
theorem cells?_at {w : World} {a : Addr} {n : Nat} {cs : List Value} (h : w.cells? 0 a n = some cs) : cs.length = n ∧ ∀ j, j < n → w.cell? (a.add j) = cs[j]? := by
  unfold World.cells? at h
  rw [if_pos (Nat.zero_le _)] at h
  obtain ⟨h1, h2⟩ := mapM_some h
  refine ⟨by simpa using h1, fun j hj => h2 j j (by simp [hj])⟩
theorem cell?_row {w : World} {a : Addr} {v : Value} (h : w.cell? a = some v) : a.spot = none ∧ ∃ c ty fz, w.heap[a.block]? = some (.cells c ty fz) ∧ c[a.off]? = some v := by
  unfold World.cell? at h
  split at h
  · rename_i c ty fz hc
    split at h
    · cases h
    · rename_i hs
      exact ⟨by simpa using hs, c, ty, fz, hc, h⟩
  · cases h
theorem flat_mem {T : Type} {E : Enc T} {xs : List T} {v : Value} (h : v ∈ flat E xs) : ∃ (i : Nat) (x : T), xs[i]? = some x ∧ v ∈ E.cells x := by
  simp only [flat, List.mem_flatMap] at h
  obtain ⟨x, hx, hv⟩ := h
  obtain ⟨i, hi⟩ := List.getElem?_of_mem hx
  exact ⟨i, x, hi, hv⟩
instance Rd.slice {e n : TypeId} {T : Type} {E : Enc T} {ok : World → T → Prop} [u : TyU P t (.slice e)] [r : Rd P e E ok] [m : TyE P e E] [z : EncS E n] [nz : NZ n] : Rd P t eVal (okS E ok) := ⟨fun {H enc w fuel cs x} h => by
  have hsz : P.cellsOf e = E.size := by
    have := m.s.s
    unfold Program.cellsOf
    cases hi : P.info? e with
    | none => rw [hi] at this; cases this
    | some i => rw [hi] at this; simpa using this
  have hE : 0 < E.size := by rw [z.s]; exact Nat.pos_of_ne_zero nz.nz
  rcases DataW.trod_slice u.u h with ⟨rfl, _⟩ | ⟨a, len, cap, elems, rest, k, _, rfl, _, _, hlc, hcm, hlen, hel, hsp, _⟩
  · exact ⟨.slice none 0 0, rfl, ⟨[], .inl ⟨⟨_, rfl⟩, rfl⟩, fun x hx => by simp at hx, Nat.zero_le _⟩, fun c hc => by simp at hc; subst hc; rfl⟩
  · refine ⟨_, rfl, ?_, fun c hc => by simp at hc; subst hc; rfl⟩
    obtain ⟨hrl, hre⟩ := hsp rfl
    have each : ∀ i, i < cap → ∃ y : T, (ok w y ∧ ∀ c, c ∈ E.cells y → fl c = true) ∧ ∀ j, j < E.size → w.cell? ((a.add (i * E.size)).add j) = (E.cells y)[j]? := by
      intro i hi
      have : ∃ cs x, w.cells? 0 (a.add (i * E.size)) E.size = some cs ∧ DataW.trod enc P w 0 (fun _ => true) true k e cs = some x := by
        have key : ∃ x, (w.cells? 0 (a.add (i * P.cellsOf e)) (P.cellsOf e)).bind (DataW.trod enc P w 0 (fun _ => true) true k e) = some x := by
          by_cases hil : i < len
          · exact ⟨elems[i]'(by omega), by rw [hel i hil, List.getElem?_eq_getElem]⟩
          · have := hre (i - len) (by omega)
            rw [show len + (i - len) = i from by omega] at this
            exact ⟨rest[i - len]'(by omega), by rw [this, List.getElem?_eq_getElem]⟩
        obtain ⟨x, hx⟩ := key
        rw [hsz] at hx
        cases hc : w.cells? 0 (a.add (i * E.size)) E.size with
        | none => rw [hc] at hx; cases hx
        | some cs => rw [hc] at hx; exact ⟨cs, x, rfl, hx⟩
      obtain ⟨cs, x, h1, h2⟩ := this
      obtain ⟨y, rfl, h3, h4⟩ := r.rd h2
      exact ⟨y, ⟨h3, h4⟩, (cells?_at h1).2⟩
    obtain ⟨ys, hyl, hy⟩ := exL each
    have hxs : ∀ x, x ∈ ys.take len → ok w x ∧ ∀ c, c ∈ E.cells x → fl c = true := fun x hx => by
      obtain ⟨i, hi⟩ := List.getElem?_of_mem (List.mem_of_mem_take hx)
      exact (hy i x hi).1
    have hlt : (ys.take len).length = len := by simp; omega
    refine ⟨ys.take len, ?_, fun x hx => (hxs x hx).1, by rw [hlt]; omega⟩
    by_cases h0 : cap = 0
    · left
      have : len = 0 := by omega
      subst h0; subst this
      exact ⟨⟨some a, rfl⟩, by simp⟩
    · right
      have hcell : ∀ i j, i < cap → j < E.size → ∃ v, w.cell? ((a.add (i * E.size)).add j) = some v ∧ ∃ y, ys[i]? = some y ∧ (E.cells y)[j]? = some v := by
        intro i j hi hj
        have hy1 : ys[i]? = some (ys[i]'(by omega)) := List.getElem?_eq_getElem _
        have h2 := (hy i _ hy1).2 j hj
        have h3 : j < (E.cells (ys[i]'(by omega))).length := by rw [E.len]; exact hj
        rw [List.getElem?_eq_getElem h3] at h2
        exact ⟨_, h2, _, hy1, List.getElem?_eq_getElem h3⟩
      obtain ⟨b, off, spot⟩ := a
      have hspot : spot = none := by
        obtain ⟨v, hv, _⟩ := hcell 0 0 (by omega) hE
        have := (cell?_row hv).1
        simpa [Addr.add] using this
      subst hspot
      have hadd : ∀ i j, (Addr.add (Addr.add ⟨b, off, none⟩ (i * E.size)) j) = ⟨b, off + i * E.size + j, none⟩ := fun i j => by rw [add_none, add_none]
      obtain ⟨v0, hv0, _⟩ := hcell 0 0 (by omega) hE
      rw [hadd] at hv0
      obtain ⟨_, c, ty, fz, hblk, _⟩ := cell?_row hv0
      have hcell2 : ∀ i j, i < cap → j < E.size → ∃ v, c[off + i * E.size + j]? = some v ∧ ∃ y, ys[i]? = some y ∧ (E.cells y)[j]? = some v := by
        intro i j hi hj
        obtain ⟨v, hv, hy⟩ := hcell i j hi hj
        rw [hadd] at hv
        obtain ⟨_, c', _, _, hb', hv'⟩ := cell?_row hv
        simp only at hb' hv' hblk
        rw [hblk] at hb'; cases hb'
        exact ⟨v, hv', hy⟩
      refine ⟨b, off, cap, c, (ty, fz), by rw [hlt], by rw [hlt]; exact hlc, ?_, by simp only at hblk; simp [allT, hblk], fun j hj => ?_, fun v hv => ?_⟩
      · obtain ⟨v, hv, _⟩ := hcell2 (cap - 1) (E.size - 1) (by omega) (by omega)
        have h1 := (Array.getElem?_eq_some_iff.1 hv).1
        have h2 : cap * E.size = (cap - 1) * E.size + E.size := by
          rw [show cap = (cap - 1) + 1 from by omega, Nat.add_mul]; simp
        omega
      · rw [flat_length, hlt] at hj
        have hi : j / E.size < len := (Nat.div_lt_iff_lt_mul hE).2 hj
        have hjm := Nat.mod_lt j hE
        have hdm : j / E.size * E.size + j % E.size = j := by rw [Nat.mul_comm]; exact Nat.div_add_mod j E.size
        obtain ⟨v, hv, y, hy1, hy2⟩ := hcell2 (j / E.size) (j % E.size) (by omega) hjm
        rw [Nat.add_assoc, hdm] at hv
        have hil : j / E.size < (ys.take len).length := by rw [hlt]; exact hi
        have := flat_at E (ys.take len) (j / E.size) (j % E.size) hil hjm
        rw [hdm] at this
        rw [hv, this, List.getElem_take]
        have : ys[j / E.size]'(by omega) = y := by
          rw [List.getElem?_eq_getElem (by omega)] at hy1; exact Option.some.inj hy1
        rw [this, hy2]
      · obtain ⟨i, x, hx, hvx⟩ := flat_mem hv
        exact (hxs x (List.mem_of_getElem? hx)).2 v hvx⟩
theorem cellsOf_of {n : Nat} [s : TySz P t n] : P.cellsOf t = n := by
  have := s.s
  unfold Program.cellsOf
  cases hi : P.info? t with
  | none => rw [hi] at this; cases this
  | some i => rw [hi] at this; simpa using this
/-- A field of a struct that is read. -/
theorem Rd.fld {t' : TypeId} {T : Type} {E : Enc T} {ok : World → T → Prop} [r : Rd P t' E ok] [m : TyE P t' E] {H : Type} {enc : TypeId × Value → H} {w : World} {n : Nat} {fs : Array Field} {cs : List Value} {xs : List (DataW H × List MemPlace)}
    (hf : ∀ (i : Nat) (f : Field), fs[i]? = some f → DataW.trod enc P w 0 (fun _ => true) true n f.type ((cs.drop f.offset).take (P.cellsOf f.type)) = xs[i]?) (hlen : xs.length = fs.size) (i : Nat) (f : Field) (hi : fs[i]? = some f) (ht : f.type = t') (off : Nat) (ho : f.offset = off) :
    ∃ y : T, (cs.drop off).take E.size = E.cells y ∧ ok w y ∧ ∀ c, c ∈ (cs.drop off).take E.size → fl c = true := by
  have h := hf i f hi
  have hil : i < xs.length := by rw [hlen]; exact (Array.getElem?_eq_some_iff.1 hi).1
  rw [ht, ho, @cellsOf_of P t' _ m.s, List.getElem?_eq_getElem hil] at h
  exact r.rd h
/-- An element of an array that is read. -/
theorem Rd.elt {t' : TypeId} {T : Type} {E : Enc T} {ok : World → T → Prop} [r : Rd P t' E ok] [m : TyE P t' E] {H : Type} {enc : TypeId × Value → H} {w : World} {n N : Nat} {cs : List Value} {xs : List (DataW H × List MemPlace)}
    (hf : ∀ (i : Nat), i < N → DataW.trod enc P w 0 (fun _ => true) true n t' ((cs.drop (i * P.cellsOf t')).take (P.cellsOf t')) = xs[i]?) (hlen : xs.length = N) (i : Nat) (hi : i < N) (off : Nat) (ho : off = i * E.size) :
    ∃ y : T, (cs.drop off).take E.size = E.cells y ∧ ok w y ∧ ∀ c, c ∈ (cs.drop off).take E.size → fl c = true := by
  have h := hf i hi
  rw [@cellsOf_of P t' _ m.s, ← ho, List.getElem?_eq_getElem (by omega)] at h
  exact r.rd h
theorem okI_i64 {w : World} {n : Int} (h : okI .i64 w n) : in64 n := h
theorem okI_i32 {w : World} {n : Int} (h : okI .i32 w n) : -2147483648 ≤ n ∧ n ≤ 2147483647 := h
theorem okI_u8 {w : World} {n : Int} (h : okI .u8 w n) : 0 ≤ n ∧ n ≤ 255 := h
theorem okI_u16 {w : World} {n : Int} (h : okI .u16 w n) : 0 ≤ n ∧ n ≤ 65535 := h
theorem okI_u32 {w : World} {n : Int} (h : okI .u32 w n) : 0 ≤ n ∧ n ≤ 4294967295 := h
theorem okI_u64 {w : World} {n : Int} (h : okI .u64 w n) : 0 ≤ n ∧ n ≤ 18446744073709551615 := h
/-- Rows of a slice of slices. -/
theorem okS_rws {T : Type} {E : Enc T} {ok : World → T → Prop} {w : World} {rows : List Value} (h : ∀ v, v ∈ rows → okS E ok w v) :
    ∃ xss : List (List T), rws true E rows xss (allT w) ∧ (∀ xs, xs ∈ xss → (∀ x, x ∈ xs → ok w x) ∧ xs.length ≤ maxLen) := by
  induction rows with
  | nil => exact ⟨[], ⟨allT w, allT w, allT_ok w, allT_add w, rfl, trivial⟩, fun xs hx => by simp at hx⟩
  | cons v rows ih =>
    obtain ⟨xss, h1, h2⟩ := ih fun u hu => h u (by simp [hu])
    obtain ⟨xs, h3, h4, h5⟩ := h v (by simp)
    obtain ⟨f, g, k, e, hl, hr⟩ := h1
    refine ⟨xs :: xss, ⟨allT w, allT w, allT_ok w, allT_add w, ?_, ⟨allT w, g, ?_, ?_, h3, hr⟩⟩, fun ys hy => ?_⟩
    · have : rows.length = xss.length := hl
      show (v :: rows).length = (xs :: xss).length
      simp [this]
    · intro b x y hx hy
      have hy' : allT w b = some y := by rw [e]; exact Hp.add_right k hy
      rw [hx] at hy'
      exact ⟨Option.some.inj hy', (allT_ok w b x x hx hx).2⟩
    · funext b
      cases hb : allT w b with
      | none =>
        rw [Hp.add_none hb]
        cases hg : g b with
        | none => rfl
        | some y => have : allT w b = some y := by rw [e]; exact Hp.add_right k hg
                    rw [hb] at this; cases this
      | some x => rw [Hp.add_left hb]
    · rcases List.mem_cons.1 hy with rfl | hy
      · exact ⟨h4, h5⟩
      · exact h2 ys hy
end
end Go.Sl

namespace Go.Sl
open Go
set_option linter.unusedVariables false
/-! Consequence. -/
theorem Sp.pers {P : Program} {f : FuncId} {args : List Value} {A : HProp} [p : Pers A] {pp : Unit → Prop} {val : Unit → Value} (S : Sp P f args [A] pp val (fun _ => [])) : Sp P f args [A] pp val (fun _ => [A]) := fun w0 w R hs =>
  S w0 w (A :: R) (hs.conv (show ents (A :: R) (A :: A :: R) from went.of ((star_mono p.dup (ent.refl (stars R))).trans (star_assoc A A (stars R)))))
theorem ents.app {H H' : List HProp} (R : List HProp) (k : ents H H') : ents (H ++ R) (H' ++ R) :=
  (went.of (stars_append H R)).trans ((went.star k (went.refl _)).trans (stars_app H' R))
theorem Sp.conseq {P : Program} {f : FuncId} {args : List Value} {H H0 : List HProp} {β γ : Type} {pp : β → Prop} {val : β → Value} {H' : β → List HProp} {pp2 : γ → Prop} {val2 : γ → Value} {H2 : γ → List HProp} (S : Sp P f args H pp val H') (hpre : ents H0 H)
    (hpost : ∀ x, pp x → ∃ y, val x = val2 y ∧ pp2 y ∧ ents (H' x) (H2 y)) : Sp P f args H0 pp2 val2 H2 := fun w0 w R hs =>
  (S w0 w R (hs.conv (ents.app R hpre))).mono fun e w' ⟨v, he, x, hx, hp, hst⟩ =>
    let ⟨y, h1, h2, h3⟩ := hpost x hp
    ⟨v, he, y, hx.trans h1, h2, hst.conv (ents.app R h3)⟩
theorem Ol.ga {P : Program} {w0 : World} {n : Nat} {ops : Array Oper} {Q : Exit → Act → World → Prop} {l m : List Oper} {e : Env} {H : List HProp} (h : Ol P w0 n ops Q (l.append m) e H) : Ol P w0 n ops Q (l.append m) e H := h
end Go.Sl

namespace Go.Sl
open Go
set_option linter.unusedVariables false
/-! More operations that read nothing. -/
section
variable {P : Program} {ty : TypeId} {H : List HProp}
theorem conv_run {s d : TypeId} {ds : TypeDesc} {k k' : IntKind} {n : Int} [us : TyU P s ds] [ud : TyU P d (.int k)] (w : World) : ((VOp.conv s d (.int k' n)).exec ty).run P w = .ok (.value (.int k (k.wrap n))) w := by
  refine exec_v ?_
  simp only [convert, run_bind', run_underlying us.u, run_underlying ud.u]
  rfl
theorem wrap_i32 {n : Int} (h : -2147483648 ≤ n ∧ n ≤ 2147483647) : IntKind.i32.wrap n = n := by
  simp only [IntKind.wrap, IntKind.bits, IntKind.signed]; simp; omega
theorem wrap_u8 {n : Int} (h : 0 ≤ n ∧ n ≤ 255) : IntKind.u8.wrap n = n := by
  simp only [IntKind.wrap, IntKind.bits, IntKind.signed]; simp; omega
theorem wrap_u16 {n : Int} (h : 0 ≤ n ∧ n ≤ 65535) : IntKind.u16.wrap n = n := by
  simp only [IntKind.wrap, IntKind.bits, IntKind.signed]; simp; omega
theorem wrap_u32 {n : Int} (h : 0 ≤ n ∧ n ≤ 4294967295) : IntKind.u32.wrap n = n := by
  simp only [IntKind.wrap, IntKind.bits, IntKind.signed]; simp; omega
theorem wrap_u64 {n : Int} (h : 0 ≤ n ∧ n ≤ 18446744073709551615) : IntKind.u64.wrap n = n := by
  simp only [IntKind.wrap, IntKind.bits, IntKind.signed]; simp; omega
instance Q1.conv64 (s d : TypeId) (ds : TypeDesc) (k' : IntKind) (n : Int) [us : TyU P s ds] [ud : TyU P d (.int .i64)] : Q1 P (.conv s d (.int k' n)) ty H (in64 n) (.int .i64 n) := ⟨fun h w _ => by rw [conv_run, wrap_in64 h]⟩
instance Q1.conv32 (s d : TypeId) (ds : TypeDesc) (k' : IntKind) (n : Int) [us : TyU P s ds] [ud : TyU P d (.int .i32)] : Q1 P (.conv s d (.int k' n)) ty H (-2147483648 ≤ n ∧ n ≤ 2147483647) (.int .i32 n) := ⟨fun h w _ => by rw [conv_run, wrap_i32 h]⟩
instance Q1.convu8 (s d : TypeId) (ds : TypeDesc) (k' : IntKind) (n : Int) [us : TyU P s ds] [ud : TyU P d (.int .u8)] : Q1 P (.conv s d (.int k' n)) ty H (0 ≤ n ∧ n ≤ 255) (.int .u8 n) := ⟨fun h w _ => by rw [conv_run, wrap_u8 h]⟩
instance Q1.convu16 (s d : TypeId) (ds : TypeDesc) (k' : IntKind) (n : Int) [us : TyU P s ds] [ud : TyU P d (.int .u16)] : Q1 P (.conv s d (.int k' n)) ty H (0 ≤ n ∧ n ≤ 65535) (.int .u16 n) := ⟨fun h w _ => by rw [conv_run, wrap_u16 h]⟩
instance Q1.convu32 (s d : TypeId) (ds : TypeDesc) (k' : IntKind) (n : Int) [us : TyU P s ds] [ud : TyU P d (.int .u32)] : Q1 P (.conv s d (.int k' n)) ty H (0 ≤ n ∧ n ≤ 4294967295) (.int .u32 n) := ⟨fun h w _ => by rw [conv_run, wrap_u32 h]⟩
instance Q1.convu64 (s d : TypeId) (ds : TypeDesc) (k' : IntKind) (n : Int) [us : TyU P s ds] [ud : TyU P d (.int .u64)] : Q1 P (.conv s d (.int k' n)) ty H (0 ≤ n ∧ n ≤ 18446744073709551615) (.int .u64 n) := ⟨fun h w _ => by rw [conv_run, wrap_u64 h]⟩
/-- A conversion whatever the number. -/
theorem Qx.convW {s d : TypeId} {ds : TypeDesc} {k k' : IntKind} {n : Int} [us : TyU P s ds] [ud : TyU P d (.int k)] : Qx P (.conv s d (.int k' n)) ty H (.int k (k.wrap n)) := fun w _ => conv_run w
theorem eqg_bool (op : BinOp) (t : TypeId) (x y : Operand) (a b : Bool) (w : World) : (eqGuard op t x y (.bool a) (.bool b)).run P w = .ok () w := by
  unfold eqGuard; split <;> rfl
theorem eqlIn_bool (d : Nat) {t : TypeId} (h : P.underlying t = some .bool) (a b : Bool) (w : World) : (Op.equalIn (d + 1) t (.bool a) (.bool b)).run P w = .ok (a == b) w := by
  simp [Op.equalIn, run_underlying h, run_pure]
theorem eqB {t : TypeId} (h : P.underlying t = some .bool) (a b : Bool) (w : World) : (Op.equal t (.bool a) (.bool b)).run P w = .ok (a == b) w := by
  simp [Op.equal, Op.maxDepth, eqlIn_bool 9999 h]
instance Q1.eqlB (t : TypeId) (a b : Bool) (ca cb : Bool) [u : TyU P t .bool] : Q1 P (.bin .eql t (.bool a) (.bool b) ca cb) ty H True (.bool (a == b)) := ⟨fun _ w _ => exec_v (by
  rw [run_bind', eqg_bool]; simp only [binOp, run_bind', eqB u.u, run_pure])⟩
instance Q1.neqB (t : TypeId) (a b : Bool) (ca cb : Bool) [u : TyU P t .bool] : Q1 P (.bin .neq t (.bool a) (.bool b) ca cb) ty H True (.bool (!(a == b))) := ⟨fun _ w _ => exec_v (by
  rw [run_bind', eqg_bool]; simp only [binOp, run_bind', eqB u.u, run_pure])⟩
theorem div_le {a b m : Int} (h0 : 0 ≤ a) (hb : 0 < b) (hm : a ≤ m) : 0 ≤ a / b ∧ a / b ≤ m := ⟨Int.ediv_nonneg h0 (by omega), by have := Int.ediv_le_self b h0; omega⟩
theorem quo_run {t : TypeId} {k : IntKind} {a b : Int} {ca cb : Bool} (h0 : 0 ≤ a) (hb : 0 < b) (hw : k.wrap (a / b) = a / b) (w : World) : ((VOp.bin .quo t (.int k a) (.int k b) ca cb).exec ty).run P w = .ok (.value (.int k (a / b))) w := bin_int (by
  have hne : b ≠ 0 := by omega
  simp [binOp, Op.intDiv, hne, Int.tdiv_eq_ediv_of_nonneg h0, hw, run_pure])
instance Q1.quou8 (t : TypeId) (a b : Int) (ca cb : Bool) : Q1 P (.bin .quo t (.int .u8 a) (.int .u8 b) ca cb) ty H (0 ≤ a ∧ a ≤ 255 ∧ 0 < b) (.int .u8 (a / b)) := ⟨fun ⟨h0, h1, hb⟩ w _ => quo_run h0 hb (wrap_u8 (div_le h0 hb h1)) w⟩
instance Q1.quou16 (t : TypeId) (a b : Int) (ca cb : Bool) : Q1 P (.bin .quo t (.int .u16 a) (.int .u16 b) ca cb) ty H (0 ≤ a ∧ a ≤ 65535 ∧ 0 < b) (.int .u16 (a / b)) := ⟨fun ⟨h0, h1, hb⟩ w _ => quo_run h0 hb (wrap_u16 (div_le h0 hb h1)) w⟩
instance Q1.quou32 (t : TypeId) (a b : Int) (ca cb : Bool) : Q1 P (.bin .quo t (.int .u32 a) (.int .u32 b) ca cb) ty H (0 ≤ a ∧ a ≤ 4294967295 ∧ 0 < b) (.int .u32 (a / b)) := ⟨fun ⟨h0, h1, hb⟩ w _ => quo_run h0 hb (wrap_u32 (div_le h0 hb h1)) w⟩
instance Q1.quou64 (t : TypeId) (a b : Int) (ca cb : Bool) : Q1 P (.bin .quo t (.int .u64 a) (.int .u64 b) ca cb) ty H (0 ≤ a ∧ a ≤ 18446744073709551615 ∧ 0 < b) (.int .u64 (a / b)) := ⟨fun ⟨h0, h1, hb⟩ w _ => quo_run h0 hb (wrap_u64 (div_le h0 hb h1)) w⟩
instance Q1.addu8 (t : TypeId) (a b : Int) (ca cb : Bool) : Q1 P (.bin .add t (.int .u8 a) (.int .u8 b) ca cb) ty H True (.int .u8 (IntKind.u8.wrap (a + b))) := ⟨fun h w _ => bin_int rfl⟩
instance Q1.subu8 (t : TypeId) (a b : Int) (ca cb : Bool) : Q1 P (.bin .sub t (.int .u8 a) (.int .u8 b) ca cb) ty H True (.int .u8 (IntKind.u8.wrap (a - b))) := ⟨fun h w _ => bin_int rfl⟩
instance Q1.addu64 (t : TypeId) (a b : Int) (ca cb : Bool) : Q1 P (.bin .add t (.int .u64 a) (.int .u64 b) ca cb) ty H True (.int .u64 (IntKind.u64.wrap (a + b))) := ⟨fun h w _ => bin_int rfl⟩
instance Q1.mulu64 (t : TypeId) (a b : Int) (ca cb : Bool) : Q1 P (.bin .mul t (.int .u64 a) (.int .u64 b) ca cb) ty H True (.int .u64 (IntKind.u64.wrap (a * b))) := ⟨fun h w _ => bin_int rfl⟩
instance Q1.addu32 (t : TypeId) (a b : Int) (ca cb : Bool) : Q1 P (.bin .add t (.int .u32 a) (.int .u32 b) ca cb) ty H True (.int .u32 (IntKind.u32.wrap (a + b))) := ⟨fun h w _ => bin_int rfl⟩
instance Q1.min (ts : Array TypeId) (cs : Array Bool) (k : IntKind) (a b : Int) : Q1 P (.bi .min ts cs [.int k a, .int k b]) ty H True (.int k (imin a b)) :=
  ⟨fun _ w _ => exec_v (by simp [Builtin.min_, Builtin.min2, imin])⟩
/-- The numbers of a bitwise and. -/
theorem andI_nat {k : IntKind} {a b : Int} (hb : 0 ≤ b) (h : ∀ x : Int, 0 ≤ x → x ≤ b → k.wrap x = x) (hk : b < 2 ^ k.bits) : 0 ≤ andI k a b ∧ andI k a b ≤ b := by
  unfold andI
  have h1 : (BitVec.ofInt k.bits a &&& BitVec.ofInt k.bits b).toNat ≤ (BitVec.ofInt k.bits b).toNat := by
    rw [BitVec.toNat_and]; exact Nat.and_le_right
  have h2 : ((BitVec.ofInt k.bits b).toNat : Int) = b := by
    rw [BitVec.toNat_ofInt]
    have : b % ((2 ^ k.bits : Nat) : Int) = b := Int.emod_eq_of_lt hb (by simpa using hk)
    rw [this]; omega
  have h3 : ((BitVec.ofInt k.bits a &&& BitVec.ofInt k.bits b).toNat : Int) ≤ b := by omega
  rw [h _ (by omega) h3]
  omega
theorem andI_i64 {a b : Int} (hb : 0 ≤ b ∧ b ≤ 9223372036854775807) : 0 ≤ andI .i64 a b ∧ andI .i64 a b ≤ b := andI_nat hb.1 (fun x h0 h1 => wrap_in64 ⟨by omega, by omega⟩) (by simp [IntKind.bits]; omega)
theorem andI_u8 {a b : Int} (hb : 0 ≤ b ∧ b ≤ 255) : 0 ≤ andI .u8 a b ∧ andI .u8 a b ≤ b := andI_nat hb.1 (fun x h0 h1 => wrap_u8 ⟨by omega, by omega⟩) (by simp [IntKind.bits]; omega)
theorem andI_u32 {a b : Int} (hb : 0 ≤ b ∧ b ≤ 4294967295) : 0 ≤ andI .u32 a b ∧ andI .u32 a b ≤ b := andI_nat hb.1 (fun x h0 h1 => wrap_u32 ⟨by omega, by omega⟩) (by simp [IntKind.bits]; omega)
end
end Go.Sl

namespace Go.Sl
open Go
set_option linter.unusedVariables false
/-! Arrays of their own block, as slices of full length. -/
abbrev arrV (b n : Nat) : Value := .slice (some ⟨b, 0, none⟩) n n
abbrev arr {T : Type} (E : Enc T) (b n : Nat) (xs : List T) : HProp := slB false E (arrV b n) xs
theorem cel_arr {b : Nat} {t : TypeId} {l : List Value} {T : Type} {E : Enc T} {n : Nat} {xs : List T} (hl : l = flat E xs) (hn : xs.length = n) (hf : ∀ x, x ∈ l → fl x = true) : ent (cel b t l) (arr E b n xs) := by
  subst hn; subst hl
  intro h hh
  exact .inr ⟨b, 0, xs.length, (flat E xs).toArray, (t, 0, 0), rfl, Nat.le_refl _, by simp [flat_length], hh, fun j hj => by simp, hf⟩
section
variable {P : Program} {w0 : World} {n : Nat} {Q : Exit → Act → World → Prop} {e : Env} {H H' : List HProp}
theorem Ol.arr {ops : Array Oper} {l : List Oper} {b : Nat} {t : TypeId} {cs : List Value} {T : Type} (E : Enc T) (m : Nat) (xs : List T) (tk : Tk H (cel b t cs) H') (hl : cs = flat E xs) (hn : xs.length = m) (hf : cs.all fl = true) (h : Ol P w0 n ops Q l e (Sl.arr E b m xs :: H')) : Ol P w0 n ops Q l e H :=
  Ol.conv (went.trans tk (went.star (went.of (cel_arr hl hn (List.all_eq_true.1 hf))) (went.refl _))) h
theorem Cd.arr {c : Code} {b : Nat} {t : TypeId} {cs : List Value} {T : Type} (E : Enc T) (m : Nat) (xs : List T) (tk : Tk H (cel b t cs) H') (hl : cs = flat E xs) (hn : xs.length = m) (hf : cs.all fl = true) (h : Cd P w0 n c Q e (Sl.arr E b m xs :: H')) : Cd P w0 n c Q e H :=
  Cd.conv (went.trans tk (went.star (went.of (cel_arr hl hn (List.all_eq_true.1 hf))) (went.refl _))) h
end
class RdA (H : List HProp) (b : Nat) {T : outParam Type} (E : outParam (Enc T)) (n : outParam Nat) : Prop where x : True
instance RdA.tl (A : HProp) (H : List HProp) (b : Nat) {T : Type} (E : Enc T) (n : Nat) [h : RdA H b E n] : RdA (A :: H) b E n := ⟨trivial⟩
instance RdA.hd (r : Bool) (H : List HProp) (b : Nat) {T : Type} (E : Enc T) (n m : Nat) (xs : List T) : RdA (slB r E (.slice (some ⟨b, 0, none⟩) n m) xs :: H) b E n := ⟨trivial⟩
/-- s is c times m. -/
class DivN (s m : Nat) (c : outParam Nat) : Prop where e : c * m = s
instance (s : Nat) : DivN s 1 s := ⟨by simp⟩
class MulN (i : Int) (c : Nat) (j : outParam Int) : Prop where e : j = i * c
instance (priority := high) (i : Int) : MulN i 1 i := ⟨by simp⟩
class LitN (c : Nat) (z : outParam Int) : Prop where e : z = c
instance : LitN 2 2 := ⟨rfl⟩
instance : LitN 3 3 := ⟨rfl⟩
instance : LitN 4 4 := ⟨rfl⟩
instance : LitN 5 5 := ⟨rfl⟩
instance : LitN 6 6 := ⟨rfl⟩
instance : LitN 7 7 := ⟨rfl⟩
instance : LitN 8 8 := ⟨rfl⟩
instance : LitN 9 9 := ⟨rfl⟩
instance : LitN 10 10 := ⟨rfl⟩
instance : LitN 11 11 := ⟨rfl⟩
instance : LitN 12 12 := ⟨rfl⟩
instance : LitN 13 13 := ⟨rfl⟩
instance : LitN 14 14 := ⟨rfl⟩
instance : LitN 15 15 := ⟨rfl⟩
instance : LitN 16 16 := ⟨rfl⟩
instance : LitN 17 17 := ⟨rfl⟩
instance : LitN 18 18 := ⟨rfl⟩
instance : LitN 19 19 := ⟨rfl⟩
instance : LitN 20 20 := ⟨rfl⟩
instance : LitN 21 21 := ⟨rfl⟩
instance : LitN 22 22 := ⟨rfl⟩
instance : LitN 23 23 := ⟨rfl⟩
instance : LitN 24 24 := ⟨rfl⟩
instance : LitN 25 25 := ⟨rfl⟩
instance : LitN 26 26 := ⟨rfl⟩
instance : LitN 27 27 := ⟨rfl⟩
instance : LitN 28 28 := ⟨rfl⟩
instance : LitN 29 29 := ⟨rfl⟩
instance : LitN 30 30 := ⟨rfl⟩
instance : LitN 31 31 := ⟨rfl⟩
instance : LitN 32 32 := ⟨rfl⟩
instance (i z : Int) (c : Nat) [d : LitN c z] : MulN i c (i * z) := ⟨by rw [d.e]⟩
section
variable {P : Program} {ty : TypeId} {H : List HProp}
theorem run_indexA {t e N s : Nat} {b o : Nat} {k : IntKind} {i : Int} [u : TyU P t (.array N e)] [z : TySz P e s] (w : World) (h : 0 ≤ i ∧ i < N) : (Instr.indexAt t (.pointer (some ⟨b, o, none⟩)) (.int k i)).run P w = .ok (.pointer (some ⟨b, o + i.toNat * s, none⟩)) w := by
  simp only [Instr.indexAt, run_bind', asIntOf, run_pure, run_underlying u.u, Instr.sureAddr, h, and_self, if_true, run_sizeOf z, add_none]
instance (priority := high) Q1.iaddrA0 (t e N s b n m c : Nat) (k : IntKind) (i j : Int) {T : Type} (E : Enc T) [u : TyU P t (.array N e)] [z : TySz P e s] [r : RdA H b E n] [es : EncS E m] [d : DivN s m c] [mm : MulN i c j] :
    Q1 P (.iaddr t (.pointer (some ⟨b, 0, none⟩)) (.int k i)) ty H (0 ≤ i ∧ i < N) (elp (arrV b n) j m 0) := ⟨fun h w _ => by
  refine exec_v ?_
  rw [run_indexA w h, mm.e, ← d.e]
  have : (i * (c : Int)).toNat = i.toNat * c := by
    obtain ⟨q, rfl⟩ := Int.eq_ofNat_of_zero_le h.1
    rw [Int.toNat_natCast, ← Int.natCast_mul, Int.toNat_natCast]
  simp only [elp, this, Nat.zero_add, Nat.add_zero, Nat.mul_assoc]⟩
instance (priority := high) Q1.iaddrA (t e N s b n m c : Nat) (k : IntKind) (x i j : Int) {T : Type} (E : Enc T) [u : TyU P t (.array N e)] [z : TySz P e s] [r : RdA H b E n] [es : EncS E m] [d : DivN s m c] [mm : MulN i c j] :
    Q1 P (.iaddr t (elp (.slice (some ⟨b, 0, none⟩) n n) x m 0) (.int k i)) ty H (0 ≤ i ∧ i < N ∧ 0 ≤ x) (elp (arrV b n) (x + j) m 0) := ⟨fun ⟨h0, h1, hx⟩ w _ => by
  refine exec_v ?_
  show (Instr.indexAt t (.pointer (some ⟨b, 0 + x.toNat * m + 0, none⟩)) (.int k i)).run P w = _
  rw [run_indexA w ⟨h0, h1⟩, mm.e, ← d.e]
  have : (x + i * (c : Int)).toNat = x.toNat + i.toNat * c := by
    obtain ⟨q, rfl⟩ := Int.eq_ofNat_of_zero_le h0
    obtain ⟨p, rfl⟩ := Int.eq_ofNat_of_zero_le hx
    rw [Int.toNat_natCast, Int.toNat_natCast, ← Int.natCast_mul, ← Int.natCast_add, Int.toNat_natCast]
  simp only [elp, this, Nat.zero_add, Nat.add_zero, Nat.mul_assoc, Nat.add_mul]⟩
end
theorem rd_set {T : Type} [Dfl T] (xs : List T) (i j : Int) (y : T) (h0 : 0 ≤ i ∧ i < xs.length) (h1 : 0 ≤ j) : rd (xs.set i.toNat y) j = if j = i then y else rd xs j := by
  unfold rd
  by_cases h : j = i
  · subst h; rw [if_pos rfl]; simp; rw [List.getElem?_set_self (by omega)]; rfl
  · rw [if_neg h, List.getD_eq_getElem?_getD, List.getD_eq_getElem?_getD, List.getElem?_set_ne (by omega)]
theorem rd_neg {T : Type} [Dfl T] (xs : List T) (j : Int) (h : j < 0) : rd xs j = rd xs 0 := by
  unfold rd; rw [show j.toNat = (0 : Int).toNat from by simp; omega]
theorem rd_or {T : Type} [Dfl T] (xs : List T) (i : Int) : rd xs i ∈ xs ∨ rd xs i = Dfl.d := by
  by_cases h : i.toNat < xs.length
  · left; rw [rd_eq h]; exact List.getElem_mem h
  · right; unfold rd; rw [List.getD_eq_getElem?_getD, List.getElem?_eq_none (by omega)]; rfl
theorem rd_len {T : Type} {xss : List (List T)} {m : Nat} (h : ∀ r, r ∈ xss → r.length ≤ m) (i : Int) : (rd xss i).length ≤ m := by
  rcases rd_or xss i with h1 | h1
  · exact h _ h1
  · rw [h1]; exact Nat.zero_le _
theorem Ol.row {P : Program} {w0 : World} {n : Nat} {Q : Exit → Act → World → Prop} {e : Env} {ops : Array Oper} {l : List Oper} {r : Bool} {T : Type} {E : Enc T} {rows : List Value} {xss : List (List T)} {H H' : List HProp} (i : Int) (t : Tk H (rws r E rows xss) H') (h : 0 ≤ i ∧ i < xss.length)
    (k : Ol P w0 n ops Q l e (slB r E (rd rows i) (rd xss i) :: rwsH r E i.toNat rows xss :: H')) : Ol P w0 n ops Q l e H :=
  Ol.weak (Env.le_refl e) (went.trans t ((went.star (went.of (rws_take h.1 h.2)) (went.refl _)).trans (went.of (star_assoc _ _ _)))) k
end Go.Sl

namespace Go.Sl
open Go
set_option linter.unusedVariables false
/-! Structs compared. -/
def EqFs (P : Program) (d : Nat) (xs ys : Array Value) (w : World) : List Field → List Bool → Prop
  | [], [] => True
  | f :: fs, b :: bs => f.name ≠ "_" ∧ (∃ vx vy, (part f.type xs f.offset).run P w = .ok vx w ∧ (part f.type ys f.offset).run P w = .ok vy w ∧ (Op.equalIn d f.type vx vy).run P w = .ok b w) ∧ EqFs P d xs ys w fs bs
  | _, _ => False
theorem eqLoop {P : Program} {d : Nat} {xs ys : Array Value} {w : World} : ∀ {fs : List Field} {bs : List Bool}, EqFs P d xs ys w fs bs →
    (forIn (m := Sem) fs ((none : Option Bool), ()) fun f (_ : Option Bool × Unit) =>
              if f.name ≠ "_" then do
                let a ← part f.type xs f.offset
                let b ← part f.type ys f.offset
                let c ← Op.equalIn d f.type a b
                if (!c) = true then pure (ForInStep.done (some false, ()))
                  else pure (ForInStep.yield (none, ()))
              else pure (ForInStep.yield (none, ()))).run P w = .ok (if bs.all id then (none, ()) else (some false, ())) w
  | [], [], _ => rfl
  | f :: fs, b :: bs, ⟨h1, ⟨vx, vy, h2, h3, h4⟩, h5⟩ => by
    rw [List.forIn_cons, run_bind', if_pos h1, run_bind', h2]
    simp only []
    rw [run_bind', h3]
    simp only []
    rw [run_bind', h4]
    simp only []
    cases b with
    | false => rfl
    | true => exact (show _ from eqLoop (bs := bs) h5)
  | [], _ :: _, h => h.elim
  | _ :: _, [], h => h.elim
theorem eqStruct {P : Program} {t : TypeId} {fs : Array Field} {xs ys : Array Value} {d : Nat} {w : World} {bs : List Bool} (u : P.underlying t = some (.struct fs)) (hs : P.stoodInHeld t = false) (h : EqFs P d xs ys w fs.toList bs) :
    (Op.equalIn (d + 1) t (.agg xs) (.agg ys)).run P w = .ok (bs.all id) w := by
  unfold Op.equalIn
  rw [run_bind', run_underlying u]
  simp only
  rw [run_bind']
  simp only [program, Sem.run, hs, Bool.false_eq_true, if_false]
  rw [← Array.forIn_toList, run_bind', eqLoop h]
  cases bs.all id <;> rfl
/-- Values of a type that are compared. -/
class EqT (P : Program) (t : TypeId) {T : Type} [DecidableEq T] (V : T → Value) (n : outParam Nat) : Prop where
  eq : ∀ (d : Nat), n ≤ d → ∀ x y w, (Op.equalIn d t (V x) (V y)).run P w = .ok (decide (x = y)) w
abbrev kB : Bool → Value := fun b => .bool b
instance (b) : KeyI kB (.bool b) b := ⟨rfl⟩
section
variable {P : Program} {t : TypeId}
instance EqT.int {k : IntKind} [u : TyU P t (.int k)] : EqT P t (kI k) 1 := ⟨fun d hd x y w => by
  obtain ⟨d, rfl⟩ : ∃ e, d = e + 1 := ⟨d - 1, by omega⟩
  unfold Op.equalIn
  rw [run_bind', run_underlying u.u]
  simp [run_pure, ibeq]⟩
instance EqT.bool [u : TyU P t .bool] : EqT P t kB 1 := ⟨fun d hd x y w => by
  obtain ⟨d, rfl⟩ : ∃ e, d = e + 1 := ⟨d - 1, by omega⟩
  rw [eqlIn_bool d u.u]
  cases x <;> cases y <;> rfl⟩
/-- A struct of plain fields. -/
class EqG (P : Program) (t : TypeId) : Prop where
  g : P.eqGuardType P.depth t = false
  s : P.stoodInHeld t = false
theorem EqFs.cons {d : Nat} {xs ys : Array Value} {w : World} {f : Field} {fs : List Field} {bs : List Bool} {T : Type} [DecidableEq T] {V : T → Value} {a b : T} {n : Nat} [e : EqT P t V n] (ht : f.type = t) (hn : f.name ≠ "_") (hd : n ≤ d) (h1 : Lies P t xs f.offset (V a)) (h2 : Lies P t ys f.offset (V b)) (h : EqFs P d xs ys w fs bs) :
    EqFs P d xs ys w (f :: fs) (decide (a = b) :: bs) := by
  subst ht
  exact ⟨hn, ⟨V a, V b, run_part h1, run_part h2, e.eq d hd a b w⟩, h⟩
variable {ty : TypeId} {H : List HProp}
theorem eqg_agg {op : BinOp} [g : EqG P t] (x y : Operand) (a b : Array Value) (w : World) : (eqGuard op t x y (.agg a) (.agg b)).run P w = .ok () w := by
  unfold eqGuard
  cases op <;> first | rfl | (simp only [Bool.not_true, Bool.false_eq_true, if_false]; rw [run_bind']; simp only [program, Sem.run]; rw [run_bind']; simp only [program, Sem.run, g.g]; rfl)
theorem eqS_run {T : Type} [DecidableEq T] {E : Enc T} {n : Nat} [e : EqT P t (kS E) n] (hn : n ≤ 100) (x y : T) (w : World) : (Op.equal t (kS E x) (kS E y)).run P w = .ok (decide (x = y)) w := e.eq Op.maxDepth (Nat.le_trans hn (by decide)) x y w
instance Q1.eqlS (vx vy : List Value) (ca cb : Bool) {T : Type} [DecidableEq T] (E : Enc T) (x y : T) [g : EqG P t] [m : TyE P t E] (n : Nat) [e : EqT P t (kS E) n] [hx : KeyI (kS E) (.agg vx.toArray) x] [hy : KeyI (kS E) (.agg vy.toArray) y] :
    Q1 P (.bin .eql t (.agg vx.toArray) (.agg vy.toArray) ca cb) ty H (n ≤ 100) (.bool (decide (x = y))) := ⟨fun hn w _ => exec_v (by
  rw [run_bind', eqg_agg]
  rw [← hx.k, ← hy.k]
  show (binOp .eql t (.agg _) (.agg _)).run P w = _
  simp only [binOp, run_bind']
  rw [show (Op.equal t (.agg (E.cells x).toArray) (.agg (E.cells y).toArray)).run P w = _ from eqS_run (E := E) (by assumption) x y w]; rfl)⟩
instance Q1.neqS (vx vy : List Value) (ca cb : Bool) {T : Type} [DecidableEq T] (E : Enc T) (x y : T) [g : EqG P t] [m : TyE P t E] (n : Nat) [e : EqT P t (kS E) n] [hx : KeyI (kS E) (.agg vx.toArray) x] [hy : KeyI (kS E) (.agg vy.toArray) y] :
    Q1 P (.bin .neq t (.agg vx.toArray) (.agg vy.toArray) ca cb) ty H (n ≤ 100) (.bool (decide (x ≠ y))) := ⟨fun hn w _ => exec_v (by
  rw [run_bind', eqg_agg]
  rw [← hx.k, ← hy.k]
  show (binOp .neq t (.agg _) (.agg _)).run P w = _
  simp only [binOp, run_bind']
  rw [show (Op.equal t (.agg (E.cells x).toArray) (.agg (E.cells y).toArray)).run P w = _ from eqS_run (E := E) (by assumption) x y w]
  simp [run_pure])⟩
end
theorem Ol.cut {P : Program} {w0 : World} {n : Nat} {Q : Exit → Act → World → Prop} {K0 : Act → World → Prop} {e : Env} {H : List HProp} {ops : Array Oper} {l : List Oper} {α : Type} (E : α → Env) (I : α → List HProp)
    (h : ∀ K : Act → World → Prop, (∀ p, Dn w0 n (Exit.then K Q) .normal (E p) (I p)) → Ol P w0 n ops (Exit.then K Q) l e H) (k : ∀ p, Dn w0 n (Exit.then K0 Q) .normal (E p) (I p)) : Ol P w0 n ops (Exit.then K0 Q) l e H := h K0 k
end Go.Sl

namespace Go.Sl
open Go
set_option linter.unusedVariables false
/-! Arrays as values. -/
def EqAs (P : Program) (d : Nat) (e n : Nat) (xs ys : Array Value) (w : World) : List Nat → List Bool → Prop
  | [], [] => True
  | i :: is, b :: bs => (∃ vx vy, (part e xs (i * n)).run P w = .ok vx w ∧ (part e ys (i * n)).run P w = .ok vy w ∧ (Op.equalIn d e vx vy).run P w = .ok b w) ∧ EqAs P d e n xs ys w is bs
  | _, _ => False
theorem eqLoopA {P : Program} {d e n : Nat} {xs ys : Array Value} {w : World} : ∀ {is : List Nat} {bs : List Bool}, EqAs P d e n xs ys w is bs →
    (forIn (m := Sem) is ((none : Option Bool), ()) fun i (_ : Option Bool × Unit) => do
                let a ← part e xs (i * n)
                let b ← part e ys (i * n)
                let c ← Op.equalIn d e a b
                if (!c) = true then pure (ForInStep.done (some false, ()))
                  else pure (ForInStep.yield (none, ()))).run P w = .ok (if bs.all id then (none, ()) else (some false, ())) w
  | [], [], _ => rfl
  | i :: is, b :: bs, ⟨⟨vx, vy, h2, h3, h4⟩, h5⟩ => by
    rw [List.forIn_cons, run_bind', run_bind', h2]
    simp only []
    rw [run_bind', h3]
    simp only []
    rw [run_bind', h4]
    simp only []
    cases b with
    | false => rfl
    | true => exact (show _ from eqLoopA (bs := bs) h5)
  | [], _ :: _, h => h.elim
  | _ :: _, [], h => h.elim
theorem eqArray {P : Program} {t len e n : Nat} {xs ys : Array Value} {d : Nat} {w : World} {bs : List Bool} (u : P.underlying t = some (.array len e)) (s : TySz P e n) (h : EqAs P d e n xs ys w (List.range' 0 len) bs) :
    (Op.equalIn (d + 1) t (.agg xs) (.agg ys)).run P w = .ok (bs.all id) w := by
  unfold Op.equalIn
  rw [run_bind', run_underlying u]
  simp only
  rw [run_bind', run_sizeOf s]
  simp only [Std.Legacy.Range.forIn_eq_forIn_range', Std.Legacy.Range.size, Nat.sub_zero, Nat.add_one_sub_one, Nat.div_one]
  rw [run_bind', eqLoopA h]
  cases bs.all id <;> rfl
theorem EqAs.cons {P : Program} {t : TypeId} {d n i : Nat} {xs ys : Array Value} {w : World} {is : List Nat} {bs : List Bool} {T : Type} [DecidableEq T] {V : T → Value} {a b : T} {m : Nat} [e : EqT P t V m] (hd : m ≤ d) (h1 : Lies P t xs (i * n) (V a)) (h2 : Lies P t ys (i * n) (V b)) (h : EqAs P d t n xs ys w is bs) :
    EqAs P d t n xs ys w (i :: is) (decide (a = b) :: bs) := ⟨⟨V a, V b, run_part h1, run_part h2, e.eq d hd a b w⟩, h⟩
section
variable {P : Program} {ty : TypeId} {H : List HProp}
theorem fill_arr {s N : Nat} : ∀ {ps : List (Nat × Value)} {z r : Array Value}, Instr.fill (fun i => ((List.range N).map fun j => (j * s, s))[i]?) z ps = some r → Instr.fill (fun i => some (i * s, s)) z ps = some r
  | [], z, r, h => h
  | (i, v) :: ps, z, r, h => by
    simp only [Instr.fill] at h ⊢
    by_cases hi : i < N
    · have hpl : ((List.range N).map fun j => (j * s, s))[i]? = some (i * s, s) := by rw [List.getElem?_map, List.getElem?_range hi]; rfl
      rw [hpl] at h
      simp only at h
      split at h
      · cases h
      · rename_i hc
        rw [if_neg hc]
        exact fill_arr h
    · rw [List.getElem?_eq_none (by simpa using hi)] at h
      simp at h
class ArrPl (N s : Nat) (pl : outParam (List (Nat × Nat))) : Prop where e : pl = (List.range N).map fun j => (j * s, s)
theorem Qx.buildA {t N e s : Nat} {z out : List Value} {ps : List (Nat × Value)} {ls : List (Nat × List Value)} {pl : List (Nat × Nat)} [u : TyU P t (.array N e)] [sz : TySz P e s] [hp : ArrPl N s pl] [hz : TyZ P t (.agg z.toArray)] [v : VCL H ps ls] (h : fillO pl z ls = some out) :
    Qx P (.build t ps) ty H (.agg out.toArray) := fun w hw => by
  refine exec_v ?_
  unfold Instr.build
  rw [run_bind', run_zeroValue hz]
  simp only []
  rw [run_bind', run_underlying u.u]
  simp only []
  rw [run_bind', run_sizeOf sz]
  simp only []
  have h3 := fill_of h (v.c w hw)
  rw [hp.e] at h3
  have h4 := fill_arr h3
  show Sem.run P (match Instr.fill (fun (i : Nat) => some (i * s, s)) z.toArray ps.toArray.toList with | some cells => Pure.pure (Value.agg cells) | _ => stuck _) w = _
  rw [show ps.toArray.toList = ps from rfl, h4]; rfl
/-- The place of a part of an element that is an array. -/
class OffA (o : Nat) (j : Int) (s : Nat) (r : outParam Nat) : Prop where e : 0 ≤ j ∧ r = o + j.toNat * s
instance Q1.iaddrE (t N e s m o r : Nat) (v : Value) (k : IntKind) (i j : Int) {T : Type} (E : Enc T) (xs : List T) [u : TyU P t (.array N e)] [z : TySz P e s] [f : OffA o j s r] [rr : SlT H v E xs] :
    Q1 P (.iaddr t (elp v i m o) (.int k j)) ty H (0 ≤ i ∧ i < xs.length ∧ j < N) (elp v i m r) := ⟨fun ⟨h0, h1, hj⟩ w hw => by
  rcases rr.rd w hw with ⟨⟨a0, rfl⟩, rfl⟩ | ⟨b, off, cap, c, ty', fz, rfl, h2, h3, h4⟩
  · simp at h1; omega
  · refine exec_v ?_
    show (Instr.indexAt t (.pointer (some ⟨b, off + i.toNat * m + o, none⟩)) (.int k j)).run P w = _
    rw [run_indexA w ⟨f.e.1, hj⟩, f.e.2]
    simp only [elp, Nat.add_assoc]⟩
end
instance : ArrPl 1 1 [(0, 1)] := ⟨rfl⟩
instance : ArrPl 2 1 [(0, 1), (1, 1)] := ⟨rfl⟩
instance : ArrPl 3 1 [(0, 1), (1, 1), (2, 1)] := ⟨rfl⟩
instance : ArrPl 4 1 [(0, 1), (1, 1), (2, 1), (3, 1)] := ⟨rfl⟩
instance : ArrPl 5 1 [(0, 1), (1, 1), (2, 1), (3, 1), (4, 1)] := ⟨rfl⟩
instance : ArrPl 6 1 [(0, 1), (1, 1), (2, 1), (3, 1), (4, 1), (5, 1)] := ⟨rfl⟩
instance : ArrPl 7 1 [(0, 1), (1, 1), (2, 1), (3, 1), (4, 1), (5, 1), (6, 1)] := ⟨rfl⟩
instance : ArrPl 8 1 [(0, 1), (1, 1), (2, 1), (3, 1), (4, 1), (5, 1), (6, 1), (7, 1)] := ⟨rfl⟩
instance : OffA 0 0 1 0 := ⟨by decide⟩
instance : OffA 1 0 1 1 := ⟨by decide⟩
instance : OffA 2 0 1 2 := ⟨by decide⟩
instance : OffA 3 0 1 3 := ⟨by decide⟩
instance : OffA 4 0 1 4 := ⟨by decide⟩
instance : OffA 5 0 1 5 := ⟨by decide⟩
instance : OffA 6 0 1 6 := ⟨by decide⟩
instance : OffA 7 0 1 7 := ⟨by decide⟩
instance : OffA 8 0 1 8 := ⟨by decide⟩
instance : OffA 0 1 1 1 := ⟨by decide⟩
instance : OffA 1 1 1 2 := ⟨by decide⟩
instance : OffA 2 1 1 3 := ⟨by decide⟩
instance : OffA 3 1 1 4 := ⟨by decide⟩
instance : OffA 4 1 1 5 := ⟨by decide⟩
instance : OffA 5 1 1 6 := ⟨by decide⟩
instance : OffA 6 1 1 7 := ⟨by decide⟩
instance : OffA 7 1 1 8 := ⟨by decide⟩
instance : OffA 8 1 1 9 := ⟨by decide⟩
instance : OffA 0 2 1 2 := ⟨by decide⟩
instance : OffA 1 2 1 3 := ⟨by decide⟩
instance : OffA 2 2 1 4 := ⟨by decide⟩
instance : OffA 3 2 1 5 := ⟨by decide⟩
instance : OffA 4 2 1 6 := ⟨by decide⟩
instance : OffA 5 2 1 7 := ⟨by decide⟩
instance : OffA 6 2 1 8 := ⟨by decide⟩
instance : OffA 7 2 1 9 := ⟨by decide⟩
instance : OffA 8 2 1 10 := ⟨by decide⟩
instance : OffA 0 3 1 3 := ⟨by decide⟩
instance : OffA 1 3 1 4 := ⟨by decide⟩
instance : OffA 2 3 1 5 := ⟨by decide⟩
instance : OffA 3 3 1 6 := ⟨by decide⟩
instance : OffA 4 3 1 7 := ⟨by decide⟩
instance : OffA 5 3 1 8 := ⟨by decide⟩
instance : OffA 6 3 1 9 := ⟨by decide⟩
instance : OffA 7 3 1 10 := ⟨by decide⟩
instance : OffA 8 3 1 11 := ⟨by decide⟩
instance : OffA 0 4 1 4 := ⟨by decide⟩
instance : OffA 1 4 1 5 := ⟨by decide⟩
instance : OffA 2 4 1 6 := ⟨by decide⟩
instance : OffA 3 4 1 7 := ⟨by decide⟩
instance : OffA 4 4 1 8 := ⟨by decide⟩
instance : OffA 5 4 1 9 := ⟨by decide⟩
instance : OffA 6 4 1 10 := ⟨by decide⟩
instance : OffA 7 4 1 11 := ⟨by decide⟩
instance : OffA 8 4 1 12 := ⟨by decide⟩
instance : OffA 0 5 1 5 := ⟨by decide⟩
instance : OffA 1 5 1 6 := ⟨by decide⟩
instance : OffA 2 5 1 7 := ⟨by decide⟩
instance : OffA 3 5 1 8 := ⟨by decide⟩
instance : OffA 4 5 1 9 := ⟨by decide⟩
instance : OffA 5 5 1 10 := ⟨by decide⟩
instance : OffA 6 5 1 11 := ⟨by decide⟩
instance : OffA 7 5 1 12 := ⟨by decide⟩
instance : OffA 8 5 1 13 := ⟨by decide⟩
instance : OffA 0 6 1 6 := ⟨by decide⟩
instance : OffA 1 6 1 7 := ⟨by decide⟩
instance : OffA 2 6 1 8 := ⟨by decide⟩
instance : OffA 3 6 1 9 := ⟨by decide⟩
instance : OffA 4 6 1 10 := ⟨by decide⟩
instance : OffA 5 6 1 11 := ⟨by decide⟩
instance : OffA 6 6 1 12 := ⟨by decide⟩
instance : OffA 7 6 1 13 := ⟨by decide⟩
instance : OffA 8 6 1 14 := ⟨by decide⟩
instance : OffA 0 7 1 7 := ⟨by decide⟩
instance : OffA 1 7 1 8 := ⟨by decide⟩
instance : OffA 2 7 1 9 := ⟨by decide⟩
instance : OffA 3 7 1 10 := ⟨by decide⟩
instance : OffA 4 7 1 11 := ⟨by decide⟩
instance : OffA 5 7 1 12 := ⟨by decide⟩
instance : OffA 6 7 1 13 := ⟨by decide⟩
instance : OffA 7 7 1 14 := ⟨by decide⟩
instance : OffA 8 7 1 15 := ⟨by decide⟩
end Go.Sl

namespace Go.Sl
open Go
set_option linter.unusedVariables false
/-! A slice cut at the end. -/
def cutV (v : Value) (h : Nat) : Value := match v with | .slice a len cap => .slice a h cap | v => v
theorem sliced_cut (a : Option Addr) (len h cap s : Nat) : sliced a 0 h cap s = cutV (.slice a len cap) h := by
  cases a <;> simp [sliced, cutV, Addr.add]
instance Q1.slcH {P : Program} {ty : TypeId} {H : List HProp} (t e : TypeId) (v : Value) (k : IntKind) (h : Int) (n : Nat) {T : Type} (E : Enc T) (xs : List T) [r : SlT H v E xs] [u : TyU P t (.slice e)] [s : TySz P e n] :
    Q1 P (.slice t v none (some (.int k h)) none) ty H (0 ≤ h ∧ h ≤ xs.length) (cutV v h.toNat) :=
  ⟨fun ⟨h0, h1⟩ w hw => by
    have ht : P.underlying t = some (.slice (P.elem t)) := by rw [elem_eq u.u]; exact u.u
    have key : ∀ (a : Option Addr) (c : Nat), xs.length ≤ c → v = .slice a xs.length c → (Instr.sliceAt t v none (some (.int k h)) none).run P w = .ok (cutV v h.toNat) w := fun a c hc hv => by
      subst hv
      rw [run_sliceAt_slice w t _ _ _ _ ht, run_slice_h w t a xs.length c ht k h h0 (by omega), elem_eq u.u, run_sizeOf s, ← sliced_cut a xs.length h.toNat c n]; rfl
    refine exec_v ?_
    rcases r.rd w hw with ⟨⟨a0, rfl⟩, rfl⟩ | ⟨b, off, cap, c, ty', fz, rfl, h2, h3, h4⟩
    · exact key a0 0 (by simp) rfl
    · exact key _ cap h2 rfl⟩
theorem cut_ent {r : Bool} {T : Type} {E : Enc T} {v : Value} {xs : List T} {h : Nat} (hl : h ≤ xs.length) : ent (slB r E v xs) (slB r E (cutV v h) (xs.take h)) := by
  rintro f (⟨⟨a0, rfl⟩, rfl⟩ | ⟨b, off, cap, c, ty, rfl, h2, h3, h4, h5, h6⟩)
  · simp at hl; subst hl; exact .inl ⟨⟨a0, rfl⟩, rfl⟩
  · have ht : (xs.take h).length = h := by simp; omega
    have hap : flat E (xs.take h) ++ flat E (xs.drop h) = flat E xs := by
      rw [← flat_append, List.take_append_drop]
    refine .inr ⟨b, off, cap, c, ty, by rw [ht]; rfl, by omega, h3, h4, fun j hj => ?_, fun x hx => h6 x (by rw [← hap]; exact List.mem_append_left _ hx)⟩
    rw [h5 j (by rw [← hap]; simp; omega), ← hap, List.getElem?_append_left hj]
theorem cutV_len {r : Bool} {T : Type} {E : Enc T} {v : Value} {xs : List T} {w : World} (h : sat w (slB r E v xs)) : cutV v xs.length = v := by
  rcases slB_in h with ⟨⟨a0, rfl⟩, rfl⟩ | ⟨b, off, cap, c, ty', fz, rfl, h2, h3, h4⟩ <;> rfl
end Go.Sl
namespace Go.Sl
open Go
theorem Ol.cutS {P : Program} {w0 : World} {n : Nat} {Q : Exit → Act → World → Prop} {e : Env} {ops : Array Oper} {l : List Oper} {r : Bool} {T : Type} {E : Enc T} {v : Value} {xs : List T} {H H' : List HProp} (h : Nat) (t : Tk H (slB r E v xs) H') (hl : h ≤ xs.length)
    (k : Ol P w0 n ops Q l e (slB r E (cutV v h) (xs.take h) :: H')) : Ol P w0 n ops Q l e H :=
  Ol.weak (Env.le_refl e) (went.trans t (went.star (went.of (cut_ent hl)) (went.refl _))) k
theorem imm {a b : Int} (hb : 0 ≤ b) : 0 ≤ imin (imax a 0) b ∧ imin (imax a 0) b ≤ b := by
  unfold imin imax
  by_cases h1 : a < 0 <;> by_cases h2 : a < b <;> split <;> split <;> omega
end Go.Sl

namespace Go.Sl
open Go
set_option linter.unusedVariables false
/-! Packed chunks; lists of things related one by one; pointers in rows. -/
def ePtr : Enc Nat := ⟨1, fun b => [.pointer (some ⟨b, 0, none⟩)], fun _ => rfl⟩
instance : EncS ePtr 1 := ⟨rfl⟩
instance (b : Nat) : EncC ePtr b [.pointer (some ⟨b, 0, none⟩)] := ⟨rfl⟩
instance (b : Nat) : EncI ePtr (.pointer (some ⟨b, 0, none⟩)) b := ⟨rfl⟩
instance : EncF ePtr := ⟨fun x v h => by simp [ePtr] at h; subst h; rfl⟩
instance : Dfl Nat := ⟨0⟩
/-- A chunk that hides what it is made of. -/
def pk {α : Type} (p : α → Prop) (L : α → List HProp) : HProp := ex fun x => stars (prop (p x) :: L x)
theorem ents.pk {α : Type} {p : α → Prop} {L : α → List HProp} {H R : List HProp} (x : α) (hp : p x) (k : ents H (L x ++ R)) : ents H (Sl.pk p L :: R) :=
  ents.ex x (ents.stars (ents.prop hp k))
section
variable {P : Program} {w0 : World} {n : Nat} {ops : Array Oper} {Q : Exit → Act → World → Prop} {e : Env} {H H' : List HProp} {l : List Oper} {c : Code} {xx : Exit} {α : Type} {A : HProp} {p : α → Prop} {L : α → List HProp}
theorem Cd.pk (ea : A = Sl.pk p L) (t : Tk H A H') (h : ∀ x, p x → Cd P w0 n c Q e (L x ++ H')) : Cd P w0 n c Q e H := by
  subst ea
  exact Cd.weak (Env.le_refl e) (H' := Sl.pk p L :: H') t (Cd.ex fun y => Cd.stars (L := Sl.prop (p y) :: L y) (Cd.prop fun hp => h y hp))
theorem Ol.pk (ea : A = Sl.pk p L) (t : Tk H A H') (h : ∀ x, p x → Ol P w0 n ops Q l e (L x ++ H')) : Ol P w0 n ops Q l e H := by
  subst ea
  exact Ol.weak (Env.le_refl e) (H' := Sl.pk p L :: H') t (Ol.ex fun y => Ol.stars (L := Sl.prop (p y) :: L y) (Ol.prop fun hp => h y hp))
theorem Dn.pk (ea : A = Sl.pk p L) (t : Tk H A H') (h : ∀ x, p x → Dn w0 n Q xx e (L x ++ H')) : Dn w0 n Q xx e H := by
  subst ea
  exact Dn.weak (Env.le_refl e) (H' := Sl.pk p L :: H') t (Dn.ex fun y => Dn.stars (L := Sl.prop (p y) :: L y) (Dn.prop fun hp => h y hp))
end
section
variable {P : Program} {w0 : World} {n : Nat} {e : Env} {H : List HProp} {fn : Func} {Post : Value → World → Prop}
theorem Dn.retC1 {a t p pre v t' v'} (hr : fn.results = #[.cell a t, .tmp t']) (hv : e.get a = some p) [q : Q1 P (.load t p) t H pre v] (hp : pre) (hv' : e.get t' = some v') (k : ∀ w, St w0 H w → Post (.tuple #[v, v']) w) : Dn w0 n (Rt P fn Post) .ret e H :=
  Dn.ret (rs := [.cell a t, .tmp t']) hr (.cell hv q hp (.tmp hv' .nil)) k
theorem Dn.retC2 {a t p pre v t' v' t2 v2} (hr : fn.results = #[.cell a t, .tmp t', .tmp t2]) (hv : e.get a = some p) [q : Q1 P (.load t p) t H pre v] (hp : pre) (hv' : e.get t' = some v') (hv2 : e.get t2 = some v2) (k : ∀ w, St w0 H w → Post (.tuple #[v, v', v2]) w) : Dn w0 n (Rt P fn Post) .ret e H :=
  Dn.ret (rs := [.cell a t, .tmp t', .tmp t2]) hr (.cell hv q hp (.tmp hv' (.tmp hv2 .nil))) k
end
theorem Tk.pk {α : Type} {A : HProp} {p : α → Prop} {L : α → List HProp} {H R : List HProp} (ea : A = Sl.pk p L) (x : α) (hp : p x) (k : TkL H (L x) R) : Tk H A R := by
  subst ea
  exact ents.pk x hp k
theorem Tk.slnil {r : Bool} {T : Type} {E : Enc T} {H : List HProp} : Tk H (slB r E (.slice none 0 0) []) H := went.of (slB_nil r E _)
instance Q1.nilcE {P : Program} {ty : TypeId} {H : List HProp} (v : Value) (i : Int) (m o : Nat) {T : Type} (E : Enc T) (xs : List T) [r : SlT H v E xs] :
    Q1 P (.nilc (elp v i m o)) ty H (0 ≤ i ∧ i < xs.length) (elp v i m o) := ⟨fun h w hw => by
  rcases r.rd w hw with ⟨_, h2⟩ | ⟨b, off, cap, c, t, fz, rfl, _⟩
  · subst h2; simp at h; omega
  · exact (Q1.nilc (P := P) (ty := ty) (H := H) _).run trivial w hw⟩
instance (priority := low) Fl1.slc {H : List HProp} (v : Value) (l n : Nat) {T : Type} (E : Enc T) (xs : List T) [r : SlT H v E xs] : Fl1 H (slcV v l n) := ⟨fun w hw => by
  have h : Sl.fl (slcV v l n) = true := by
    rcases r.rd w hw with ⟨⟨a, rfl⟩, _⟩ | ⟨b, off, cap, c, t, fz, rfl, _⟩
    · unfold slcV sliced; rfl
    · unfold slcV sliced; rfl
  exact ⟨h, cells_one h⟩⟩
instance (priority := low) Fl1.cut {H : List HProp} (v : Value) (h : Nat) {T : Type} (E : Enc T) (xs : List T) [r : SlT H v E xs] : Fl1 H (cutV v h) := ⟨fun w hw => by
  have h : Sl.fl (cutV v h) = true := by
    rcases r.rd w hw with ⟨⟨a, rfl⟩, _⟩ | ⟨b, off, cap, c, t, fz, rfl, _⟩
    · rfl
    · rfl
  exact ⟨h, cells_one h⟩⟩
theorem ents.cutS {r : Bool} {T : Type} {E : Enc T} {v : Value} {xs : List T} {h : Nat} {H H1 L : List HProp} (t : Tk H (slB r E v xs) H1) (hl : h ≤ xs.length) (k : ents H1 L) : ents H (slB r E (cutV v h) (xs.take h) :: L) :=
  went.trans t (went.star (went.of (cut_ent hl)) k)
theorem Ol.slc {P : Program} {w0 : World} {n : Nat} {Q : Exit → Act → World → Prop} {e : Env} {ops : Array Oper} {c : List Oper} {r : Bool} {T : Type} {E : Enc T} {v : Value} {xs : List T} {H H' : List HProp} (l : Nat) (t : Tk H (slB r E v xs) H') (h : l ≤ xs.length)
    (k : Ol P w0 n ops Q c e (slB r E (slcV v l E.size) (xs.drop l) :: H')) : Ol P w0 n ops Q c e H :=
  Ol.weak (Env.le_refl e) (went.trans t (went.star (went.of (slc_ent h)) (went.refl _))) k
/-- What goes on behind is hidden: the code ends by running to its end, or as it did. -/
theorem Cd.cutN {P : Program} {w0 : World} {n : Nat} {Q : Exit → Act → World → Prop} {e : Env} {H : List HProp} {c : Code} {α : Type} (E : α → Env) (I : α → List HProp)
    (h : ∀ K : Exit → Act → World → Prop, (∀ p, Dn w0 n K .normal (E p) (I p)) → (∀ x e H, x ≠ .normal → Dn w0 n Q x e H → Dn w0 n K x e H) → Cd P w0 n c K e H) (k : ∀ p, Dn w0 n Q .normal (E p) (I p)) : Cd P w0 n c Q e H := h Q k fun _ _ _ _ h => h
theorem Ol.cutN {P : Program} {w0 : World} {n : Nat} {Q : Exit → Act → World → Prop} {e : Env} {H : List HProp} {ops : Array Oper} {l : List Oper} {α : Type} (E : α → Env) (I : α → List HProp)
    (h : ∀ K : Exit → Act → World → Prop, (∀ p, Dn w0 n K .normal (E p) (I p)) → Ol P w0 n ops K l e H) (k : ∀ p, Dn w0 n Q .normal (E p) (I p)) : Ol P w0 n ops Q l e H := h Q k
/-- What is had for nothing. -/
class Free (A : HProp) : Prop where free : ∀ B, went B (star A B)
instance {r : Bool} {T : Type} {E : Enc T} : Free (slB r E (.slice none 0 0) []) := ⟨fun B => went.of (slB_nil r E B)⟩
theorem ents.free {A : HProp} [f : Free A] {H L : List HProp} (k : ents H L) : ents H (A :: L) := went.trans k (f.free _)
theorem Tk.free {A : HProp} [f : Free A] {H : List HProp} : Tk H A H := f.free _
instance (priority := high) Q1.faddrEz {P : Program} {ty : TypeId} {H : List HProp} (s : TypeId) (v : Value) (i : Int) (m f off ft n : Nat) [k : TyF P s f off ft] [h : TySz P ft n] [z : NZ n] {T : Type} (E : Enc T) (xs : List T) [r : SlT H v E xs] :
    Q1 P (.faddr s (elp v i m 0) f) ty H (0 ≤ i ∧ i < xs.length) (elp v i m off) := by
  have := Q1.faddrE (P := P) (ty := ty) (H := H) s v i m 0 f off ft n E xs
  rwa [Nat.zero_add] at this
instance Q1.eqlNilE {P : Program} {ty : TypeId} {H : List HProp} {t e : TypeId} (v : Value) (i : Int) (m o : Nat) (ca cb : Bool) {T : Type} (E : Enc T) (xs : List T) [u : TyU P t (.pointer e)] [r : SlT H v E xs] :
    Q1 P (.bin .eql t (elp v i m o) (.pointer none) ca cb) ty H (0 ≤ i ∧ i < xs.length) (.bool false) := ⟨fun h w hw => by
  rcases r.rd w hw with ⟨_, h2⟩ | ⟨b, off, cap, c, tt, fz, rfl, _⟩
  · subst h2; simp at h; omega
  · exact (Q1.eqlNilP (P := P) (ty := ty) (H := H) (t := t) (e := e) (some _) ca cb).run trivial w hw⟩
instance Q1.neqNilE {P : Program} {ty : TypeId} {H : List HProp} {t e : TypeId} (v : Value) (i : Int) (m o : Nat) (ca cb : Bool) {T : Type} (E : Enc T) (xs : List T) [u : TyU P t (.pointer e)] [r : SlT H v E xs] :
    Q1 P (.bin .neq t (elp v i m o) (.pointer none) ca cb) ty H (0 ≤ i ∧ i < xs.length) (.bool true) := ⟨fun h w hw => by
  rcases r.rd w hw with ⟨_, h2⟩ | ⟨b, off, cap, c, tt, fz, rfl, _⟩
  · subst h2; simp at h; omega
  · exact (Q1.neqNilP (P := P) (ty := ty) (H := H) (t := t) (e := e) (some _) ca cb).run trivial w hw⟩
/-! lists related one by one -/
section
variable {α β : Type}
def rel2 (R : α → β → HProp) (l : List α) (q : List β) : HProp := star (fun _ => l.length = q.length) (stars ((l.zip q).map fun p => R p.1 p.2))
def rel2H (R : α → β → HProp) (i : Nat) (l : List α) (q : List β) : HProp := star (fun _ => l.length = q.length ∧ i < l.length) (stars (((l.zip q).map fun p => R p.1 p.2).eraseIdx i))
theorem rel2_len {R : α → β → HProp} {l : List α} {q : List β} {w : World} (h : sat w (rel2 R l q)) : l.length = q.length := by
  obtain ⟨_, _, f, g, _, _, hl, _⟩ := h; exact hl
theorem rel2_take [Dfl α] [Dfl β] {R : α → β → HProp} {l : List α} {q : List β} {i : Int} (h0 : 0 ≤ i) (h : i < q.length) : ent (rel2 R l q) (star (R (rd l i) (rd q i)) (rel2H R i.toNat l q)) := by
  rintro _ ⟨f, g, k, rfl, hl, b⟩
  have hl' : l.length = q.length := hl
  have h1 : i.toNat < l.length := by omega
  have h2 : i.toNat < q.length := by omega
  obtain ⟨g1, g2, k2, rfl, a, b2⟩ := stars_take _ i.toNat (R (rd l i) (rd q i)) (by
    rw [rd_eq h1, rd_eq h2]
    rw [List.getElem?_map, List.getElem?_eq_getElem (by simp; omega)]
    simp) g b
  exact star_left_comm _ _ _ _ ⟨f, _, k, rfl, ⟨hl', h1⟩, ⟨g1, g2, k2, rfl, a, b2⟩⟩
theorem rel2_put [Dfl α] {R : α → β → HProp} {l : List α} {q : List β} {i : Int} {y : β} (h0 : 0 ≤ i) : ent (star (R (rd l i) y) (rel2H R i.toNat l q)) (rel2 R l (q.set i.toNat y)) := by
  intro h hh
  obtain ⟨f, g, k, rfl, ⟨hl, hi⟩, b⟩ := star_left_comm _ _ _ _ hh
  refine ⟨f, g, k, rfl, by simp [hl], ?_⟩
  have e : (l.zip (q.set i.toNat y)).map (fun p => R p.1 p.2) = ((l.zip q).map fun p => R p.1 p.2).set i.toNat (R (rd l i) y) := by
    have := zip_set l q i.toNat (rd l i) y
    rw [show l.set i.toNat (rd l i) = l from by rw [rd_eq hi]; exact List.set_getElem_self _] at this
    rw [this, List.map_set]
  rw [e]
  exact stars_put _ i.toNat (R (rd l i) y) (by simp; omega) g b
theorem ents.relput [Dfl α] {R : α → β → HProp} {l : List α} {q : List β} {i : Int} {y : β} {H H1 H2 L : List HProp} (h0 : 0 ≤ i) (t : Tk H (R (rd l i) y) H1) (t2 : Tk H1 (rel2H R i.toNat l q) H2) (k : ents H2 L) : ents H (rel2 R l (q.set i.toNat y) :: L) :=
  went.trans t (went.trans (went.star (went.refl _) t2) (went.trans (went.of (star_assoc' _ _ _)) (went.star (went.of (rel2_put h0)) k)))
theorem ents.relback [Dfl α] [Dfl β] {R : α → β → HProp} {l : List α} {q : List β} {i : Int} {H H1 H2 L : List HProp} (h0 : 0 ≤ i) (h1 : i < q.length) (t : Tk H (R (rd l i) (rd q i)) H1) (t2 : Tk H1 (rel2H R i.toNat l q) H2) (k : ents H2 L) : ents H (rel2 R l q :: L) := by
  have := ents.relput (y := rd q i) h0 t t2 k
  rwa [show q.set i.toNat (rd q i) = q from by rw [rd_eq (by omega)]; exact List.set_getElem_self _] at this
theorem Cd.rel {P : Program} {w0 : World} {n : Nat} {Q : Exit → Act → World → Prop} {e : Env} {c : Code} [Dfl α] [Dfl β] {R : α → β → HProp} {l : List α} {q : List β} {H H' : List HProp} (i : Int) (t : Tk H (rel2 R l q) H') (h : 0 ≤ i ∧ i < q.length)
    (k : Cd P w0 n c Q e (R (rd l i) (rd q i) :: rel2H R i.toNat l q :: H')) : Cd P w0 n c Q e H :=
  Cd.weak (Env.le_refl e) (went.trans t ((went.star (went.of (rel2_take h.1 h.2)) (went.refl _)).trans (went.of (star_assoc _ _ _)))) k
theorem Ol.rel {P : Program} {w0 : World} {n : Nat} {Q : Exit → Act → World → Prop} {e : Env} {ops : Array Oper} {c : List Oper} [Dfl α] [Dfl β] {R : α → β → HProp} {l : List α} {q : List β} {H H' : List HProp} (i : Int) (t : Tk H (rel2 R l q) H') (h : 0 ≤ i ∧ i < q.length)
    (k : Ol P w0 n ops Q c e (R (rd l i) (rd q i) :: rel2H R i.toNat l q :: H')) : Ol P w0 n ops Q c e H :=
  Ol.weak (Env.le_refl e) (went.trans t ((went.star (went.of (rel2_take h.1 h.2)) (went.refl _)).trans (went.of (star_assoc _ _ _)))) k
theorem rel2_nil {R : α → β → HProp} (A : HProp) : went A (star (rel2 R [] []) A) := fun h x =>
  ⟨h, fun _ _ e => e, fun _ => none, h, fun b x y hx => by simp at hx, by funext b; rfl, ⟨fun _ => none, fun _ => none, fun b x y hx => by simp at hx, by funext b; rfl, rfl, trivial⟩, x⟩
theorem rel2_snoc {R : α → β → HProp} {l : List α} {q : List β} {v : α} {u : β} : went (star (R v u) (rel2 R l q)) (rel2 R (l ++ [v]) (q ++ [u])) := by
  rintro _ ⟨f, g, k, rfl, a, g1, g2, k2, rfl, hl, b⟩
  have h1 : star (R v u) (Sl.stars ((l.zip q).map fun p => R p.1 p.2)) (Hp.add f g2) :=
    ⟨f, g2, fun n x y hx hy => k n x y hx (Hp.add_right k2 hy), rfl, a, b⟩
  have h2 := Big.snoc (f := fun p : α × β => R p.1 p.2) (l.zip q) (v, u) _ h1
  have hz : (l ++ [v]).zip (q ++ [u]) = l.zip q ++ [(v, u)] := by rw [List.zip_append hl]; rfl
  refine ⟨Hp.add f g2, fun n x e => ?_, fun _ => none, Hp.add f g2, fun b x y hx => by simp at hx, by funext b; rfl, by simp [hl], ?_⟩
  · rcases Hp.add_some e with e | e
    · exact Hp.add_left e
    · exact Hp.add_right k (Hp.add_right k2 e)
  · rw [hz]; exact h2
theorem rel2_cons {R : α → β → HProp} {l : List α} {q : List β} {v : α} {u : β} : went (star (R v u) (rel2 R l q)) (rel2 R (v :: l) (u :: q)) := by
  rintro _ ⟨f, g, k, rfl, a, g1, g2, k2, rfl, hl, b⟩
  have hl' : l.length = q.length := hl
  refine ⟨Hp.add f g2, fun n x e => ?_, fun _ => none, Hp.add f g2, fun b x y hx => by simp at hx, by funext b; rfl, by simp [hl'], ⟨f, g2, fun n x y hx hy => k n x y hx (Hp.add_right k2 hy), rfl, a, b⟩⟩
  rcases Hp.add_some e with e | e
  · exact Hp.add_left e
  · exact Hp.add_right k (Hp.add_right k2 e)
theorem rel2_app {R : α → β → HProp} {l : List α} {q : List β} : ∀ (m : List α) (r : List β), m.length = r.length → went (star (rel2 R m r) (rel2 R l q)) (rel2 R (m ++ l) (r ++ q))
  | [], [], _ => went.right _ _
  | x :: m, y :: r, h => by
    have ih := rel2_app (R := R) (l := l) (q := q) m r (by simpa using h)
    have h1 : went (rel2 R (x :: m) (y :: r)) (star (R x y) (rel2 R m r)) := by
      rintro _ ⟨f, g, k, rfl, hl, a, b, k2, rfl, ha, hb⟩
      refine ⟨Hp.add a b, fun n x e => Hp.add_right k e, a, b, k2, rfl, ha, fun _ => none, b, fun b x y hx => by simp at hx, by funext b; rfl, by simpa using h, hb⟩
    exact (went.star h1 (went.refl _)).trans ((went.of (star_assoc _ _ _)).trans ((went.star (went.refl _) ih).trans rel2_cons))
theorem stars_got : ∀ {l : List HProp} {A : HProp}, A ∈ l → went (stars l) A
  | B :: l, A, h => by
    rcases List.mem_cons.1 h with rfl | h
    · exact (went.of (star_comm _ _)).trans (went.right _ _)
    · exact (went.right _ _).trans (stars_got h)
theorem rel2_got {R : α → β → HProp} {l : List α} {q : List β} {x : α} {y : β} (h : (x, y) ∈ l.zip q) : went (rel2 R l q) (R x y) :=
  (went.right _ _).trans (stars_got (List.mem_map.2 ⟨(x, y), h, rfl⟩))
/-- The parts of a shared list. -/
theorem rel2_sub {R : α → β → HProp} (hp : ∀ x y, Pers (R x y)) {l : List α} {q : List β} (hd : Pers (rel2 R l q)) : ∀ (l' : List α) (q' : List β), l'.length = q'.length → (∀ p, p ∈ l'.zip q' → p ∈ l.zip q) → went (rel2 R l q) (rel2 R l' q')
  | [], [], _, _ => (rel2_nil _).trans ((went.of (star_comm _ _)).trans (went.right _ _))
  | x :: l', y :: q', h, k => (went.of hd.dup).trans ((went.star (rel2_got (k (x, y) (by simp))) (rel2_sub hp hd l' q' (by simpa using h) fun p hp => k p (by simp [hp]))).trans rel2_cons)
theorem rel2_pers {R : α → β → HProp} (hp : ∀ x y, Pers (R x y)) (l : List α) (q : List β) : Pers (rel2 R l q) := by
  have h1 : Pers (Sl.prop (l.length = q.length)) := inferInstance
  have h2 : Pers (Big (fun p : α × β => R p.1 p.2) (l.zip q)) := Pers.big (fun p : α × β => hp p.1 p.2) _
  exact @Pers.star _ _ h1 h2
theorem rel2_gotI [Dfl α] [Dfl β] {R : α → β → HProp} {l : List α} {q : List β} {i : Int} (h0 : 0 ≤ i) (h : i < q.length) : went (rel2 R l q) (R (rd l i) (rd q i)) :=
  (went.of (rel2_take h0 h)).trans ((went.of (star_comm _ _)).trans (went.right _ _))
instance {R : α → β → HProp} : Free (rel2 R [] []) := ⟨fun B => rel2_nil B⟩
theorem ents.rnil2 {R : α → β → HProp} {H L : List HProp} (k : ents H L) : ents H (rel2 R [] [] :: L) := went.trans k (rel2_nil _)
theorem ents.rsnoc {R : α → β → HProp} {l : List α} {q : List β} {v : α} {u : β} {H H1 H2 L : List HProp} (t : Tk H (R v u) H1) (t2 : Tk H1 (rel2 R l q) H2) (k : ents H2 L) : ents H (rel2 R (l ++ [v]) (q ++ [u]) :: L) :=
  went.trans t (went.trans (went.star (went.refl _) t2) (went.trans (went.of (star_assoc' _ _ _)) (went.star rel2_snoc k)))
theorem rel2_uncons {R : α → β → HProp} {l : List α} {q : List β} {v : α} {u : β} : went (rel2 R (v :: l) (u :: q)) (star (R v u) (rel2 R l q)) := by
  rintro _ ⟨f, g, k, rfl, hl, a, b, k2, rfl, ha, hb⟩
  have hl' : (v :: l).length = (u :: q).length := hl
  exact ⟨Hp.add a b, fun n x e => Hp.add_right k e, a, b, k2, rfl, ha, fun _ => none, b, fun b x y hx => by simp at hx, by funext b; rfl, by simpa using hl', hb⟩
theorem rel2_unsnoc {R : α → β → HProp} {l : List α} {q : List β} {v : α} {u : β} : went (rel2 R (l ++ [v]) (q ++ [u])) (star (R v u) (rel2 R l q)) := by
  rintro _ ⟨f, g, k, rfl, hl, b⟩
  have hl' : (l ++ [v]).length = (q ++ [u]).length := hl
  have hl2 : l.length = q.length := by simpa using hl'
  have e0 : ∀ (L : List HProp) (X : HProp), went (Sl.stars (L ++ [X])) (star X (Sl.stars L)) := fun L X =>
    (went.of (stars_append L [X])).trans ((went.of (star_comm _ _)).trans (went.star ((went.of (star_comm X (Sl.stars []))).trans (went.right _ _)) (went.refl _)))
  rw [List.zip_append hl2, List.map_append] at b
  obtain ⟨h', hs, hx⟩ := e0 _ _ g b
  refine ⟨h', fun n x e => Hp.add_right k (hs n x e), ?_⟩
  obtain ⟨a, c, k2, rfl, ha, hc⟩ := hx
  exact ⟨a, c, k2, rfl, ha, fun _ => none, c, fun b x y hx => by simp at hx, by funext b; rfl, hl2, hc⟩
theorem ents.split {A B C : HProp} {H H1 : List HProp} (h : went A (star B C)) (t : Tk H A H1) : ents H (B :: C :: H1) := went.trans t ((went.star h (went.refl _)).trans (went.of (star_assoc _ _ _)))
theorem ents.conv1 {A B : HProp} {H H1 L : List HProp} (hAB : went A B) (t : Tk H A H1) (k : ents H1 L) : ents H (B :: L) := went.trans t (went.star hAB k)
theorem ents.rone {R : α → β → HProp} {v : α} {u : β} {H H1 L : List HProp} (t : Tk H (R v u) H1) (k : ents H1 L) : ents H (rel2 R [v] [u] :: L) := ents.rsnoc (l := []) (q := []) t Tk.free k
/-- More is known of what is shared. -/
theorem Tk.more {A B : HProp} [p : Pers A] (hAB : went A B) {H H1 : List HProp} (t : Tk H A H1) : ents H (B :: A :: H1) :=
  went.trans t (went.trans (went.star (went.of p.dup) (went.refl _)) (went.trans (went.of (star_assoc _ _ _)) (went.star hAB (went.refl _))))
end
end Go.Sl

namespace Go.Sl
open Go
set_option linter.unusedVariables false
/-! Methods called through an interface that holds a pointer. -/
/-- A pointer's method with that name: which function it is, and whether the pointer itself is its receiver. -/
class Meth (P : Program) (t : TypeId) (name : String) (f : outParam FuncId) (p : outParam Bool) : Prop where
  m : ((P.info? t).bind fun i => (i.methods.find? (·.name == name)).map fun m => (m.path.isEmpty, m.func)) = some (true, some (f, p))
theorem method_p {P : Program} {t e : TypeId} {name : String} {f : FuncId} (h : Meth P t name f true) (u : P.underlying t = some (.pointer e)) (v : Value) (n : Nat) (w : World) :
    (method (n + 1) t v name).run P w = .ok (f, v) w := by
  have hm := h.m
  cases hi : P.info? t with
  | none => rw [hi] at hm; simp at hm
  | some i =>
    rw [hi] at hm
    simp only [Option.bind_some] at hm
    cases hf : i.methods.find? (·.name == name) with
    | none => rw [hf] at hm; simp at hm
    | some m =>
      rw [hf] at hm
      simp only [Option.map_some, Option.some.injEq, Prod.mk.injEq, Array.isEmpty_iff] at hm
      unfold method
      rw [run_bind', run_typeInfo hi]
      dsimp only
      rw [hf]
      dsimp only
      rw [hm.1]
      rw [run_bind']
      unfold follow
      rw [run_pure]
      dsimp only
      rw [hm.2]
      dsimp only
      rw [run_bind']
      unfold receiverAt
      rw [run_bind', run_underlying u]
      dsimp only
      rfl
theorem method_v {P : Program} {t e : TypeId} {name : String} {f : FuncId} (h : Meth P t name f false) (u : P.underlying t = some (.pointer e)) (a : Addr) (r : Value) (n : Nat) (w : World) (hl : (loadVar e a).run P w = .ok r w) :
    (method (n + 1) t (.pointer (some a)) name).run P w = .ok (f, r) w := by
  have hm := h.m
  cases hi : P.info? t with
  | none => rw [hi] at hm; simp at hm
  | some i =>
    rw [hi] at hm
    simp only [Option.bind_some] at hm
    cases hf : i.methods.find? (·.name == name) with
    | none => rw [hf] at hm; simp at hm
    | some m =>
      rw [hf] at hm
      simp only [Option.map_some, Option.some.injEq, Prod.mk.injEq, Array.isEmpty_iff] at hm
      unfold method
      rw [run_bind', run_typeInfo hi]
      dsimp only
      rw [hf]
      dsimp only
      rw [hm.1]
      rw [run_bind']
      unfold follow
      rw [run_pure]
      dsimp only
      rw [hm.2]
      dsimp only
      rw [run_bind']
      unfold receiverAt
      rw [run_bind', run_underlying u]
      dsimp only [Place.get]
      rw [run_bind', run_pure]
      dsimp only
      rw [if_pos (show (#[] : Array FieldStep).isEmpty = true from rfl)]
      dsimp only
      rw [run_bind', show ∀ q, (Builtin.ssaWrapNilChk_ #[t] t #[.pointer (some a), strVal "", strVal q]).run P w = .ok (.pointer (some a)) w from fun q => rfl]
      dsimp only
      rw [run_bind', show (asAddr (.pointer (some a))).run P w = .ok a w from rfl]
      dsimp only
      rw [hl]
      rfl
section
variable {P : Program} {ty : TypeId} {H : List HProp} {w0 : World} {K : Value → List HProp → Prop}
theorem callMethod_run {t : TypeId} {v : Value} {name : String} {f : FuncId} {r : Value} [hf : HasF P f] {w : World} (args : List Value) (hm : ∀ n, (method (n + 1) t v name).run P w = .ok (f, r) w) :
    ((VOp.invoke (.iface t v) name args).exec ty).run P w = .ok (.enter f (r :: args).toArray) w := by
  show (Go.invoke (.fn (.method name) #[]) (#[.iface t v] ++ args.toArray)).run P w = _
  have h1 : (#[Value.iface t v] ++ args.toArray)[0]? = some (.iface t v) := by simp
  have h2 : (#[Value.iface t v] ++ args.toArray).extract 1 (#[Value.iface t v] ++ args.toArray).size = args.toArray := by
    apply Array.ext'; simp
  unfold Go.invoke
  dsimp only
  rw [h1]
  dsimp only
  rw [h2]
  unfold callMethod
  dsimp only
  rw [run_bind']
  rw [show (program.run P w) = .ok P w from rfl]
  dsimp only
  rw [run_bind']
  rw [show P.types.size + Made.depth = (P.types.size + 99) + 1 from rfl, hm]
  dsimp only
  rw [show #[r] ++ args.toArray = (r :: args).toArray from by apply Array.ext'; simp]
  exact run_callFunc _
theorem Eff.invoke_ {t : TypeId} {v : Value} {name : String} {f : FuncId} {r : Value} {as : List Value} {H0 R : List HProp} {β : Type} {pp : β → Prop} {val : β → Value} {H' : β → List HProp} [hf : HasF P f]
    (hm : ∀ w, sat w (stars H) → ∀ n, (method (n + 1) t v name).run P w = .ok (f, r) w) (S : Sp P f (r :: as) H0 pp val H') (tk : TkL H H0 R) (k : ∀ x, pp x → K (val x) (H' x ++ R)) : Eff P w0 (.invoke (.iface t v) name as) ty H K := by
  intro w N hs hn
  rw [callMethod_run as (hm w hs.2)]
  have := S w0 w R (hs.conv tk)
  refine Calls.mono (R := fun e w' => ∃ v, e = .returned v ∧ ∃ x, v = val x ∧ pp x ∧ St w0 (H' x ++ R) w') this ?_
  rintro e w' ⟨v, he, x, rfl, hx, hw⟩
  exact ⟨_, he, hn _ _ _ (k x hx) hw⟩
/-- A method whose receiver is the pointer. -/
theorem Eff.invokeP {t e : TypeId} {v : Value} {name : String} {f : FuncId} {as : List Value} {H0 R : List HProp} {β : Type} {pp : β → Prop} {val : β → Value} {H' : β → List HProp} [hf : HasF P f] [m : Meth P t name f true] [u : TyU P t (.pointer e)]
    (S : Sp P f (v :: as) H0 pp val H') (tk : TkL H H0 R) (k : ∀ x, pp x → K (val x) (H' x ++ R)) : Eff P w0 (.invoke (.iface t v) name as) ty H K :=
  Eff.invoke_ (fun w _ n => method_p m u.u v n w) S tk k
/-- A method whose receiver is what the pointer points to. -/
theorem Eff.invokeV {t e : TypeId} {b off : Nat} {name : String} {f : FuncId} {r : Value} {as l : List Value} {H0 R : List HProp} {β : Type} {pp : β → Prop} {val : β → Value} {H' : β → List HProp} [hf : HasF P f] [m : Meth P t name f false] [u : TyU P t (.pointer e)] [rc : RdC H b l] [kl : LiesL P e l off r]
    (S : Sp P f (r :: as) H0 pp val H') (tk : TkL H H0 R) (k : ∀ x, pp x → K (val x) (H' x ++ R)) : Eff P w0 (.invoke (.iface t (.pointer (some ⟨b, off, none⟩))) name as) ty H K :=
  Eff.invoke_ (fun w hw n => by
    obtain ⟨T, fz, hh⟩ := rc.rd w hw
    exact method_v m u.u _ r n w (run_loadVar hh kl.lies)) S tk k
/-- A type that is no interface. -/
def notIf : TypeDesc → Bool | .interface _ => false | _ => true
class NotI (P : Program) (t : TypeId) : Prop where n : (P.underlying t).map notIf = some true
theorem notI_u {t : TypeId} (h : NotI P t) : ∃ d, P.underlying t = some d ∧ ∀ ms, d ≠ .interface ms := by
  have := h.n
  cases hd : P.underlying t with
  | none => rw [hd] at this; simp at this
  | some d => rw [hd] at this; exact ⟨d, rfl, fun ms e => by subst e; simp [notIf] at this⟩
instance (priority := low) Q1.mkIS (t : TypeId) (v : Value) [k : NotI P t] : Q1 P (.mkI t v) ty H True (.iface t v) := ⟨fun _ w _ => by
  obtain ⟨d, hd, hn⟩ := notI_u k
  exact (@Q1.mkI P ty H t v d ⟨hd⟩ ⟨hn⟩).run trivial w (by assumption)⟩
instance (priority := low) Q1.tassS (t x : TypeId) (v : Value) [k : NotI P t] : Q1 P (.tass (.iface t v) x t false) ty H True v := ⟨fun _ w _ => exec_v (by
  obtain ⟨d, hd, hn⟩ := notI_u k
  unfold Instr.typeAssert
  rw [run_bind', run_underlying hd]
  dsimp only
  cases d with
  | interface ms => exact absurd rfl (hn ms)
  | _ => simp only [↓reduceIte]; rfl)⟩
instance Q1.tass (t x : TypeId) (v : Value) (d : TypeDesc) [k : TyU P t d] [n : NI d] : Q1 P (.tass (.iface t v) x t false) ty H True v := ⟨fun _ w _ => exec_v (by
  unfold Instr.typeAssert
  rw [run_bind', run_underlying k.u]
  dsimp only
  have hn := n.ni
  cases d with
  | interface ms => exact absurd rfl (hn ms)
  | _ => simp only [↓reduceIte]; rfl)⟩
/-- A quotient, whatever the numbers' signs. -/
theorem Qx.quoT {t : TypeId} {a b : Int} {ca cb : Bool} (hb : 0 < b) (ha : in64 (a.tdiv b)) : Qx P (.bin .quo t (.int .i64 a) (.int .i64 b) ca cb) ty H (.int .i64 (a.tdiv b)) := by
  intro w _
  have hne : b ≠ 0 := by omega
  exact bin_int (by simp [binOp, Op.intDiv, hne, wrap_in64 ha, run_pure])
end
end Go.Sl

namespace Go.Sl
open Go
/-! cuts at a loop that is left by an exit -/
theorem Cd.cutX {P : Program} {w0 : World} {n : Nat} {Q : Exit → Act → World → Prop} {e : Env} {H : List HProp} {c : Code} {α : Type} (id : Nat) (E : α → Env) (I : α → List HProp)
    (h : ∀ K : Exit → Act → World → Prop, (∀ p, Dn w0 n K (.exit id) (E p) (I p)) → (∀ x e H, x ≠ .exit id → Dn w0 n Q x e H → Dn w0 n K x e H) → Cd P w0 n c K e H) (k : ∀ p, Dn w0 n Q (.exit id) (E p) (I p)) : Cd P w0 n c Q e H := h Q k fun _ _ _ _ h => h
end Go.Sl

namespace Go.Sl
open Go
/-! Steps of a walk as default proofs: 'refine go ?_' walks on as far as it goes by itself. -/
structure Hold (A : Prop) : Prop where out : A
theorem god2 {A B : Prop} (k : A) (h : Hold A → B := by intro k; (repeat(first|(with_reducible refine Gr2.g ?_;first|(refine Gr2.q rfl rfl rfl rfl rfl ?_ ?_;(first|exact True.intro|omega|(unfold in64;omega)|(simp only [List.length_append,List.length_cons,List.length_nil,List.length_set];omega)))|(refine Gr2.old rfl rfl rfl rfl rfl ?_ ?_;(first|exact True.intro|omega|(unfold in64;omega)|(simp only [List.length_append,List.length_cons,List.length_nil,List.length_set];omega)))|refine Gr2.x rfl rfl rfl rfl rfl (Qx.build rfl) ?_|refine Gr2.oldx rfl rfl rfl rfl rfl (Qx.build rfl) ?_|refine Gr2.skip rfl rfl rfl rfl ?_|refine Gr2.oldskip rfl rfl rfl rfl ?_|refine Gr2.flt rfl rfl rfl rfl rfl (AllocOk.bslice rfl rfl) ?_|with_reducible refine Gr2.fin ?_)|(with_reducible refine Sg2.g ?_;with_reducible refine Sg2.fin ?_)|(with_reducible refine Dn.gl ?_;refine Dn.last rfl rfl rfl rfl rfl ?_ ?_;(first|exact True.intro|omega|(unfold in64;omega)|(simp only [List.length_append,List.length_cons,List.length_nil,List.length_set];omega))))); exact k.out) : B := h ⟨k⟩
theorem go {A B : Prop} (k : A) (h : Hold A → B := by intro k; (repeat(first|(with_reducible refine Ol.g ?_;first|(refine Ol.q rfl rfl rfl ?_ ?_;(first|exact True.intro|omega|(unfold in64;omega)|(simp only [List.length_append,List.length_cons,List.length_nil,List.length_set];omega)))|with_reducible refine Ol.nil ?_|refine Ol.skip rfl rfl ?_|refine Ol.eff rfl rfl rfl (Eff.x (Qx.build rfl) ?_)|refine Ol.skip0 rfl ?_|(refine Ol.ga ?_;dsimp only [List.append]))|(with_reducible refine Cd.g ?_;first|with_reducible refine Cd.seq ?_|with_reducible refine Cd.region ?_|with_reducible refine Cd.skip ?_|with_reducible refine Cd.ret ?_|with_reducible refine Cd.block ?_|with_reducible refine Cd.exit ?_|(with_reducible refine Cd.condg ?_;first|refine Cd.cond_t rfl ?_|refine Cd.cond_f rfl ?_))|(with_reducible refine Dn.g ?_;first|with_reducible refine Dn.then ?_|with_reducible refine Dn.ret_then ?_|with_reducible refine Dn.ret_block ?_|with_reducible refine Dn.block ?_|with_reducible refine Dn.exit_then ?_|with_reducible refine Dn.exit_at ?_|with_reducible refine Dn.exit_by rfl ?_))); exact k.out) : B := h ⟨k⟩
theorem god {A B : Prop} (k : A) (h : Hold A → B := by intro k; (repeat(first|(with_reducible refine GrL.g ?_;first|(refine GrL.q rfl rfl rfl rfl rfl ?_ ?_;(first|exact True.intro|omega|(unfold in64;omega)|(simp only [List.length_append,List.length_cons,List.length_nil,List.length_set];omega)))|(refine GrL.old rfl rfl rfl rfl rfl ?_ ?_;(first|exact True.intro|omega|(unfold in64;omega)|(simp only [List.length_append,List.length_cons,List.length_nil,List.length_set];omega)))|refine GrL.x rfl rfl rfl rfl rfl (Qx.build rfl) ?_|refine GrL.oldx rfl rfl rfl rfl rfl (Qx.build rfl) ?_|refine GrL.skip rfl rfl rfl rfl ?_|refine GrL.oldskip rfl rfl rfl rfl ?_|with_reducible refine GrL.done ?_)|((with_reducible refine Sg.g ?_);refine Sg.fin ?_))); exact k.out) : B := h ⟨k⟩
theorem pre_ {B : Prop} (h : B := by (first|exact True.intro|omega|(unfold in64;omega)|(simp only [List.length_append,List.length_cons,List.length_nil,List.length_set];omega))) : B := h
theorem tk_ {B : Prop} (h : B := by (first|focus((repeat(first|with_reducible exact Tk.hdp _ _|with_reducible exact Tk.hd _ _|with_reducible apply Tk.tl));done)|(with_reducible apply Tk.stars;repeat(first|with_reducible exact TkL.nil _|(with_reducible apply TkL.cons;focus((repeat(first|with_reducible exact Tk.hdp _ _|with_reducible exact Tk.hd _ _|with_reducible apply Tk.tl));done))))|with_reducible exact Tk.free|(repeat(first|with_reducible exact Tk.hdp _ _|with_reducible exact Tk.hd _ _|with_reducible apply Tk.tl)))) : B := h
theorem tkl_ {B : Prop} (h : B := by repeat(first|with_reducible exact TkL.nil _|(with_reducible apply TkL.cons;focus((first|focus((repeat(first|with_reducible exact Tk.hdp _ _|with_reducible exact Tk.hd _ _|with_reducible apply Tk.tl));done)|(with_reducible apply Tk.stars;repeat(first|with_reducible exact TkL.nil _|(with_reducible apply TkL.cons;focus((repeat(first|with_reducible exact Tk.hdp _ _|with_reducible exact Tk.hd _ _|with_reducible apply Tk.tl));done))))|with_reducible exact Tk.free|(repeat(first|with_reducible exact Tk.hdp _ _|with_reducible exact Tk.hd _ _|with_reducible apply Tk.tl)));done)))) : B := h
theorem ent_ {B : Prop} (h : B := by (try dsimp only [List.cons_append,List.nil_append]); repeat(first|with_reducible exact ents.refl _|with_reducible exact ents.nil _|(with_reducible apply ents.cons;focus((first|focus((repeat(first|with_reducible exact Tk.hdp _ _|with_reducible exact Tk.hd _ _|with_reducible apply Tk.tl));done)|(with_reducible apply Tk.stars;repeat(first|with_reducible exact TkL.nil _|(with_reducible apply TkL.cons;focus((repeat(first|with_reducible exact Tk.hdp _ _|with_reducible exact Tk.hd _ _|with_reducible apply Tk.tl));done))))|with_reducible exact Tk.free|(repeat(first|with_reducible exact Tk.hdp _ _|with_reducible exact Tk.hd _ _|with_reducible apply Tk.tl)));done))|(with_reducible apply ents.stars;dsimp only [List.cons_append,List.nil_append])|with_reducible apply ents.slnil|with_reducible apply ents.rnil|with_reducible apply ents.rnils|with_reducible apply ents.free|((with_reducible apply ents.snoc);(focus((repeat(first|with_reducible exact Tk.hdp _ _|with_reducible exact Tk.hd _ _|with_reducible apply Tk.tl));done));(focus((repeat(first|with_reducible exact Tk.hdp _ _|with_reducible exact Tk.hd _ _|with_reducible apply Tk.tl));done)))|((with_reducible apply ents.rone);(focus((repeat(first|with_reducible exact Tk.hdp _ _|with_reducible exact Tk.hd _ _|with_reducible apply Tk.tl));done)))|((with_reducible apply ents.rsnoc);(focus((repeat(first|with_reducible exact Tk.hdp _ _|with_reducible exact Tk.hd _ _|with_reducible apply Tk.tl));done));(focus((repeat(first|with_reducible exact Tk.hdp _ _|with_reducible exact Tk.hd _ _|with_reducible apply Tk.tl));done)))|((with_reducible apply ents.rset);(focus((repeat(first|with_reducible exact Tk.hdp _ _|with_reducible exact Tk.hd _ _|with_reducible apply Tk.tl));done));(focus((repeat(first|with_reducible exact Tk.hdp _ _|with_reducible exact Tk.hd _ _|with_reducible apply Tk.tl));done)))|with_reducible refine ents.drop ?_)) : B := h
end Go.Sl

