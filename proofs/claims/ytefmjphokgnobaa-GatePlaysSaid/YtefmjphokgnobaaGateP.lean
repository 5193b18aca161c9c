/- Contracts of functions of the program, proved in a small separation logic. Conditions: those that each theorem states. -/
import Derived.Test.YtefmjphokgnobaaGate8
namespace Go.Proofs.Ytefmjphokgnobaa
open Go Go.Sl
set_option maxHeartbeats 4000000
set_option maxRecDepth 100000
set_option linter.unusedVariables false
/-! What Open does, at a stroke. -/
def toF (gates : List S_api_Gate) (label : Int) (w : S_gate_wait) : Bool := decide ((rd gates w.f_gate).f_To = label)
def recsOf (label round : Int) (q : Int) : List S_gate_wait → List S_api_Record
  | [] => []
  | w :: ws => ⟨q, w.f_gate, label, w.f_v, round, w.f_by⟩ :: recsOf label round (q + 1) ws
theorem recsOf_append (label round : Int) : ∀ (ws vs : List S_gate_wait) (q : Int), recsOf label round q (ws ++ vs) = recsOf label round q ws ++ recsOf label round (q + ws.length) vs
  | [], vs, q => by simp [recsOf]
  | w :: ws, vs, q => by
    simp only [List.cons_append, recsOf, recsOf_append label round ws vs (q + 1), List.length_cons]
    rw [show q + 1 + (ws.length : Int) = q + ((ws.length + 1 : Nat) : Int) from by omega]
theorem recsOf_length (label round : Int) : ∀ (ws : List S_gate_wait) (q : Int), (recsOf label round q ws).length = ws.length
  | [], q => rfl
  | w :: ws, q => by simp [recsOf, recsOf_length label round ws]
instance : Dfl S_gate_wait := ⟨⟨0, 0, 0⟩⟩
theorem recsOf_rd (label round : Int) : ∀ (ws : List S_gate_wait) (q : Int) (i : Nat), i < ws.length → rd (recsOf label round q ws) (i : Int) = ⟨q + i, (rd ws (i : Int)).f_gate, label, (rd ws (i : Int)).f_v, round, (rd ws (i : Int)).f_by⟩
  | w :: ws, q, 0, _ => by simp [recsOf, rd]
  | w :: ws, q, i + 1, h => by
    have := recsOf_rd label round ws (q + 1) i (by simpa using h)
    simp only [rd, recsOf, Int.toNat_natCast, List.getD_cons_succ] at this ⊢
    rw [this]
    rw [show q + 1 + (i : Int) = q + ((i + 1 : Nat) : Int) from by omega]
structure openE (s : GS) (label round : Int) (k : Nat) : Prop where
  recs : (openK s label round k).recs = recsOf label round ((s.seq label).getD 0) ((s.waits.take k).filter (toF s.gates label))
  rest : (openK s label round k).rest = (s.waits.take k).filter fun w => !toF s.gates label w
  seq : ((openK s label round k).seq label).getD 0 = (s.seq label).getD 0 + ((s.waits.take k).filter (toF s.gates label)).length
  oth : ∀ l, l ≠ label → (openK s label round k).seq l = s.seq l
  len : (openK s label round k).outs.length = s.outs.length
  outs : ∀ i : Int, 0 ≤ i → i < s.outs.length → rd (openK s label round k).outs i = rd s.outs i ++ (((s.waits.take k).filter (toF s.gates label)).filter fun w => decide (w.f_gate = i)).map (·.f_v)
theorem openK_eq (s : GS) (label round : Int) (hg : ∀ w, w ∈ s.waits → 0 ≤ w.f_gate ∧ w.f_gate < s.outs.length) : ∀ k, k ≤ s.waits.length → openE s label round k
  | 0, _ => ⟨rfl, rfl, by simp [openK], fun _ _ => rfl, rfl, fun i h0 h1 => by simp [openK]⟩
  | k + 1, hk => by
    have I := openK_eq s label round hg k (by omega)
    have hks : k < s.waits.length := by omega
    have hm : rd s.waits (k : Int) ∈ s.waits := rd_mem (by omega) (by omega)
    have hw := hg _ hm
    have e := openK_succ s label round hks
    have et := take_rd hks
    by_cases ht : (rd s.gates (rd s.waits (k : Int)).f_gate).f_To = label
    · have htf : toF s.gates label (rd s.waits (k : Int)) = true := decide_eq_true ht
      unfold openStep at e
      rw [if_pos ht] at e
      refine ⟨?_, ?_, ?_, fun l hl => ?_, ?_, fun i h0 h1 => ?_⟩
      · rw [e, et, List.filter_append, recsOf_append, ← I.recs, ← I.seq]; simp [htf, recsOf]
      · rw [e, et, List.filter_append]; simp [htf, I.rest]
      · rw [e, et, List.filter_append]; simp [upd, htf, I.seq]; omega
      · rw [e]; simp [upd, hl, I.oth l hl]
      · rw [e]; simp [I.len]
      · rw [e, et, List.filter_append, List.filter_append, List.map_append, ← List.append_assoc, ← I.outs i h0 h1]
        have hs : ∀ y : List Int, rd ((openK s label round k).outs.set (rd s.waits (k : Int)).f_gate.toNat y) i = if i = (rd s.waits (k : Int)).f_gate then y else rd (openK s label round k).outs i := fun y => rd_set _ _ _ y (by rw [I.len]; exact hw) h0
        dsimp only
        rw [hs]
        by_cases hi : i = (rd s.waits (k : Int)).f_gate
        · rw [if_pos hi]; simp [htf, hi]
        · rw [if_neg hi]
          have : ¬ (rd s.waits (k : Int)).f_gate = i := fun h => hi h.symm
          simp [htf, this]
    · have htf : toF s.gates label (rd s.waits (k : Int)) = false := decide_eq_false ht
      unfold openStep at e
      rw [if_neg ht] at e
      refine ⟨?_, ?_, ?_, fun l hl => ?_, ?_, fun i h0 h1 => ?_⟩
      · rw [e, et, List.filter_append]; simp [htf, I.recs]
      · rw [e, et, List.filter_append]; simp [htf, I.rest]
      · rw [e, et, List.filter_append]; simp [htf, I.seq]
      · rw [e]; exact I.oth l hl
      · rw [e]; exact I.len
      · rw [e, et, List.filter_append]; simp [htf, I.outs i h0 h1]
end Go.Proofs.Ytefmjphokgnobaa

