/- Contracts of functions of the program, proved in a small separation logic. Conditions: those that each theorem states. -/
import Derived.Test.YtefmjphokgnobaaGateP
import Derived.Test.YtefmjphokgnobaaRef21b
import Derived.Test.YtefmjphokgnobaaGate8
namespace Go.Proofs.Ytefmjphokgnobaa
open Go Go.Sl
set_option maxHeartbeats 4000000
set_option maxRecDepth 100000
set_option linter.unusedVariables false
def cvW (w : S_confidantref21_waits) : S_gate_wait := ⟨w.f_gate, w.f_v, w.f_by⟩
theorem rd_map {T U : Type} [Dfl T] [Dfl U] (f : T → U) {l : List T} {i : Int} (h : i.toNat < l.length) : rd (l.map f) i = f (rd l i) := by
  rw [rd_eq (by simpa using h), rd_eq h]; simp
structure relO (o : OpS) (r : RO) (nl : Nat) : Prop where
  recs : o.recs = r.recs
  rest : o.rest = r.rest.map cvW
  outs : o.outs = r.outs
  seq : ∀ l : Int, 0 ≤ l → l < nl → (o.seq l).getD 0 = rd r.seq l
  len : r.seq.length = nl
/-- The gates and the reference's. -/
structure relS (s : GS) (t : RS) : Prop where
  gates : s.gates = t.gates
  waits : s.waits = t.waits.map cvW
  outs : s.outs = t.outs
  seq : ∀ l : Int, 0 ≤ l → l < t.seq.length → (s.seq l).getD 0 = rd t.seq l
  asked : ∀ n l : Int, cnt s n l = cntR t.asked n l
theorem rel_open {s : GS} {t : RS} (h : relS s t) (hg : ∀ w, w ∈ t.waits → 0 ≤ w.f_gate ∧ w.f_gate < t.gates.length) (hto : ∀ g, g ∈ t.gates → 0 ≤ g.f_To ∧ g.f_To < t.seq.length) (label round : Int) :
    ∀ k, k ≤ t.waits.length → relO (openK s label round k) (openR t label round k) t.seq.length
  | 0, _ => ⟨rfl, rfl, h.outs, h.seq, rfl⟩
  | k + 1, hk => by
    have I := rel_open h hg hto label round k (by omega)
    have hks : k < t.waits.length := by omega
    have hls : k < s.waits.length := by rw [h.waits]; simpa using hks
    have hgk := hg _ (rd_mem (xs := t.waits) (i := (k : Int)) (by omega) (by omega))
    have htk := hto _ (rd_mem (xs := t.gates) hgk.1 hgk.2)
    rw [openK_succ s label round hls, openR_succ t label round hks]
    have hw : rd s.waits (k : Int) = cvW (rd t.waits (k : Int)) := by rw [h.waits]; exact rd_map cvW (by simpa using hks)
    rw [hw, h.gates]
    unfold openStep refStep
    by_cases ht : (rd t.gates (rd t.waits (k : Int)).f_gate).f_To = label
    · rw [if_pos (show (rd t.gates (cvW (rd t.waits (k : Int))).f_gate).f_To = label from ht), if_pos ht]
      rw [ht] at htk
      refine ⟨?_, I.rest, ?_, fun l h0 h1 => ?_, by simp [I.len]⟩
      · dsimp only; rw [I.recs, I.seq label htk.1 htk.2]; rfl
      · dsimp only; rw [I.outs]; rfl
      · dsimp only
        rw [rd_set (openR t label round k).seq label l _ ⟨htk.1, by rw [I.len]; exact htk.2⟩ h0]
        unfold upd
        by_cases hl : l = label
        · rw [if_pos hl, if_pos hl, I.seq label htk.1 htk.2]; rfl
        · rw [if_neg hl, if_neg hl]; exact I.seq l h0 h1
    · rw [if_neg (show ¬ (rd t.gates (cvW (rd t.waits (k : Int))).f_gate).f_To = label from ht), if_neg ht]
      refine ⟨I.recs, ?_, I.outs, I.seq, I.len⟩
      dsimp only; rw [I.rest]; simp
/-- What there is of both, never more than i. -/
structure gpI (gs : List S_api_Gate) (q : List (List Bool)) (rows : List Value) (qv gv : Value) (lp : Nat) (i : Nat) (s : GS) (t : RS) : Prop where
  rel : relS s t
  fl : s.fl = flV (some lp)
  gates : t.gates = gs
  tv : t.v = qv
  tg : t.gv = gv
  trows : t.rows = rows
  tq : t.q = q
  ask : t.asked.length ≤ i
  wgate : ∀ w, w ∈ t.waits → 0 ≤ w.f_gate ∧ w.f_gate < gs.length
  olen : t.outs.length = gs.length
  ob : ∀ r, r ∈ t.outs → r.length + t.waits.length ≤ i
  wb : t.waits.length ≤ i
  slen : t.seq.length = q.length
  sb : ∀ x, x ∈ t.seq → 0 ≤ x ∧ x + t.waits.length ≤ i
  soth : ∀ l, 0 ≤ (s.seq l).getD 0 ∧ (s.seq l).getD 0 + t.waits.length ≤ i
theorem gpI.gs {gs : List S_api_Gate} {q : List (List Bool)} {rows : List Value} {qv gv : Value} {lp i : Nat} {s : GS} {t : RS} (I : gpI gs q rows qv gv lp i s t) (hn : ∀ g, g ∈ gs → u32 g.f_Need) : gsOk s i := by
  have hw : s.waits.length = t.waits.length := by rw [I.rel.waits]; simp
  refine ⟨by rw [hw]; exact I.wb, fun w h => ?_, by rw [I.rel.outs, I.olen, I.rel.gates, I.gates], fun r h => ?_, fun l => by have := I.soth l; omega, by rw [I.rel.gates, I.gates]; exact hn⟩
  · rw [I.rel.waits] at h
    obtain ⟨x, hx, rfl⟩ := List.mem_map.1 h
    rw [I.rel.gates, I.gates]; exact I.wgate x hx
  · rw [I.rel.outs] at h; have := I.ob r h; omega
theorem gpI.rs {gs : List S_api_Gate} {q : List (List Bool)} {rows : List Value} {qv gv : Value} {lp i : Nat} {s : GS} {t : RS} (I : gpI gs q rows qv gv lp i s t) (hto : ∀ g, g ∈ gs → 0 ≤ g.f_To ∧ g.f_To < q.length) : rsOk t i :=
  ⟨I.wb, by rw [I.gates]; exact I.wgate, by rw [I.gates]; exact I.olen, fun r h => by have := I.ob r h; omega, fun x h => by have := I.sb x h; omega, by rw [I.gates, I.slen]; exact hto⟩
theorem openR_len (t : RS) (label round : Int) (hw : ∀ w, w ∈ t.waits → 0 ≤ w.f_gate ∧ w.f_gate < t.outs.length) (hs : ∀ g, g ∈ t.gates → 0 ≤ g.f_To ∧ g.f_To < t.seq.length) (hg : ∀ w, w ∈ t.waits → 0 ≤ w.f_gate ∧ w.f_gate < t.gates.length) : ∀ k, k ≤ t.waits.length →
    (openR t label round k).outs.length = t.outs.length ∧ (openR t label round k).seq.length = t.seq.length ∧
    (∀ g : Int, 0 ≤ g → g < t.outs.length → (rd (openR t label round k).outs g).length + (openR t label round k).rest.length ≤ (rd t.outs g).length + k) ∧
    (∀ l : Int, 0 ≤ l → l < t.seq.length → rd (openR t label round k).seq l + (openR t label round k).rest.length ≤ rd t.seq l + k ∧ rd t.seq l ≤ rd (openR t label round k).seq l)
  | 0, _ => ⟨rfl, rfl, fun g _ _ => by simp [openR], fun l _ _ => by simp [openR]⟩
  | k + 1, hk => by
    obtain ⟨h1, h2, h3, h4⟩ := openR_len t label round hw hs hg k (by omega)
    have hks : k < t.waits.length := by omega
    have hm := rd_mem (xs := t.waits) (i := (k : Int)) (by omega) (by omega)
    have hgk := hg _ hm
    have hwk := hw _ hm
    have htk := hs _ (rd_mem (xs := t.gates) hgk.1 hgk.2)
    rw [openR_succ t label round hks]
    unfold refStep
    by_cases ht : (rd t.gates (rd t.waits (k : Int)).f_gate).f_To = label
    · rw [if_pos ht]
      rw [ht] at htk
      refine ⟨by simp [h1], by simp [h2], fun g g0 g1 => ?_, fun l l0 l1 => ?_⟩
      · dsimp only
        rw [rd_set (openR t label round k).outs (rd t.waits (k : Int)).f_gate g _ ⟨hwk.1, by rw [h1]; exact hwk.2⟩ g0]
        have a := h3 g g0 g1
        by_cases hgg : g = (rd t.waits (k : Int)).f_gate
        · rw [if_pos hgg, ← hgg]; simp; omega
        · rw [if_neg hgg]; omega
      · dsimp only
        rw [rd_set (openR t label round k).seq label l _ ⟨htk.1, by rw [h2]; exact htk.2⟩ l0]
        have a := h4 l l0 l1
        by_cases hll : l = label
        · rw [if_pos hll]; rw [hll] at a ⊢; omega
        · rw [if_neg hll]; omega
    · rw [if_neg ht]
      refine ⟨h1, h2, fun g g0 g1 => ?_, fun l l0 l1 => ?_⟩
      · have a := h3 g g0 g1; dsimp only; simp; omega
      · have a := h4 l l0 l1; dsimp only; simp; omega
end Go.Proofs.Ytefmjphokgnobaa

