/- Contracts of functions of the program, proved in a small separation logic. Conditions: those that each theorem states. -/
import Derived.Test.YtefmjphokgnobaaGatePR
namespace Go.Proofs.Ytefmjphokgnobaa
open Go Go.Sl
set_option maxHeartbeats 4000000
set_option maxRecDepth 100000
set_option linter.unusedVariables false
theorem flows_flR {q : List (List Bool)} {V : LatV} (hq : sqB q = true) (h : isLat q V) (a b : Int) : flowsB V a b = flR q a b := by
  unfold flR inR
  rw [hq]
  by_cases ha : 0 ≤ a ∧ a < (q.length : Int)
  · by_cases hb : 0 ≤ b ∧ b < (q.length : Int)
    · rw [flowsB_eq h ha hb, decide_eq_true ha.1, decide_eq_true ha.2, decide_eq_true hb.1, decide_eq_true hb.2]; rfl
    · rw [flowsB_out h fun c => hb c.2]
      by_cases h1 : 0 ≤ b
      · rw [decide_eq_false (fun h2 : b < (q.length : Int) => hb ⟨h1, h2⟩)]; simp
      · rw [decide_eq_false h1]; simp
  · rw [flowsB_out h fun c => ha c.1]
    by_cases h1 : 0 ≤ a
    · rw [decide_eq_false (fun h2 : a < (q.length : Int) => ha ⟨h1, h2⟩)]; simp
    · rw [decide_eq_false h1]; simp
theorem openK_soth (s : GS) (label round : Int) : ∀ k, k ≤ s.waits.length → ∀ l, (s.seq l).getD 0 ≤ ((openK s label round k).seq l).getD 0 ∧ ((openK s label round k).seq l).getD 0 + ((openK s label round k).rest.length : Int) ≤ (s.seq l).getD 0 + k
  | 0, _, l => by simp [openK]
  | k + 1, hk, l => by
    have a := openK_soth s label round k (by omega) l
    rw [openK_succ s label round (show k < s.waits.length by omega)]
    unfold openStep
    split
    · dsimp only
      unfold upd
      by_cases hl : l = label
      · rw [if_pos hl]; rw [hl] at a ⊢; simp only [Option.getD_some]; omega
      · rw [if_neg hl]; omega
    · dsimp only
      simp only [List.length_append, List.length_cons, List.length_nil]
      omega
theorem ask_eq {gs : List S_api_Gate} {q : List (List Bool)} {rows : List Value} {qv gv : Value} {lp i : Nat} {s : GS} {t : RS} {V : LatV} (I : gpI gs q rows qv gv lp i s t) (hq : sqB q = true) (hV : isLat q V) (n label privs : Int) : refAsk t n label privs = askOk (flowsB V) s n label privs := by
  unfold refAsk askOk
  rw [I.rel.gates, I.tq, flows_flR hq hV, I.rel.asked]
  congr 1
  by_cases h1 : n < 0
  · rw [decide_eq_true h1, decide_eq_false (fun h : 0 ≤ n ∧ n < (t.gates.length : Int) => by omega)]; rfl
  · rw [decide_eq_false h1]
    by_cases h2 : (t.gates.length : Int) ≤ n
    · rw [decide_eq_true h2, decide_eq_false (fun h : 0 ≤ n ∧ n < (t.gates.length : Int) => by omega)]; rfl
    · rw [decide_eq_false h2, decide_eq_true (show 0 ≤ n ∧ n < (t.gates.length : Int) from by omega)]; rfl
theorem gpI.cnt {gs : List S_api_Gate} {q : List (List Bool)} {rows : List Value} {qv gv : Value} {lp i : Nat} {s : GS} {t : RS} (I : gpI gs q rows qv gv lp i s t) (n label : Int) : 0 ≤ cnt s n label ∧ cnt s n label ≤ i := by
  rw [I.rel.asked]
  have := cntR_le t.asked n label
  have := I.ask
  omega
theorem gpI.mono {gs : List S_api_Gate} {q : List (List Bool)} {rows : List Value} {qv gv : Value} {lp i j : Nat} {s : GS} {t : RS} (I : gpI gs q rows qv gv lp i s t) (h : i ≤ j) : gpI gs q rows qv gv lp j s t :=
  { I with ask := by have := I.ask; omega, ob := fun r hr => by have := I.ob r hr; omega, wb := by have := I.wb; omega, sb := fun x hx => by have := I.sb x hx; omega, soth := fun l => by have := I.soth l; omega }
theorem gpI.askT {gs : List S_api_Gate} {q : List (List Bool)} {rows : List Value} {qv gv : Value} {lp i : Nat} {s : GS} {t : RS} (I : gpI gs q rows qv gv lp i s t) (n label v b : Int) (hn : 0 ≤ n ∧ n < (gs.length : Int)) (wv av' wv' : Value) : gpI gs q rows qv gv lp (i + 1) (askS s n label v b wv) (refAskS t n label v b av' wv') := by
  refine ⟨⟨I.rel.gates, ?_, I.rel.outs, I.rel.seq, fun n' l' => ?_⟩, I.fl, I.gates, I.tv, I.tg, I.trows, I.tq, ?_, fun w hw => ?_, I.olen, fun r hr => ?_, ?_, I.slen, fun x hx => ?_, fun l => ?_⟩
  · show s.waits ++ [(⟨n, v, b⟩ : S_gate_wait)] = (t.waits ++ [(⟨n, v, b⟩ : S_confidantref21_waits)]).map cvW
    rw [I.rel.waits, List.map_append]; rfl
  · have h0 := I.rel.asked n label
    have h1 := I.rel.asked n' l'
    show (upd s.asked ⟨n, label⟩ (Go.Proofs.Ytefmjphokgnobaa.cnt s n label + 1) ⟨n', l'⟩).getD 0 = cntR (t.asked ++ [⟨n, label⟩]) n' l'
    unfold cntR at h0 h1 ⊢
    rw [List.filter_append]
    unfold upd
    by_cases e : n' = n ∧ l' = label
    · obtain ⟨rfl, rfl⟩ := e
      rw [if_pos rfl, h0]; simp
    · rw [if_neg (fun h : (⟨n', l'⟩ : S_gate_use) = ⟨n, label⟩ => e (by injection h with a b; exact ⟨a, b⟩))]
      have : ¬ ((⟨n, label⟩ : S_A2_int) = ⟨n', l'⟩) := fun h => e (by injection h with a b; exact ⟨a.symm, b.symm⟩)
      unfold Go.Proofs.Ytefmjphokgnobaa.cnt at h1
      rw [h1]; simp [this]
  · show (t.asked ++ [_]).length ≤ _
    have := I.ask; simp; omega
  · rcases List.mem_append.1 hw with h | h
    · exact I.wgate w h
    · simp at h; subst h; exact hn
  · have := I.ob r hr
    show r.length + (t.waits ++ [_]).length ≤ _
    simp; omega
  · show (t.waits ++ [_]).length ≤ _
    have := I.wb; simp; omega
  · have := I.sb x hx
    show 0 ≤ x ∧ x + ((t.waits ++ [_]).length : Int) ≤ _
    simp; omega
  · have := I.soth l
    show 0 ≤ (s.seq l).getD 0 ∧ (s.seq l).getD 0 + ((t.waits ++ [_]).length : Int) ≤ _
    simp; omega
theorem gpI.take {gs : List S_api_Gate} {q : List (List Bool)} {rows : List Value} {qv gv : Value} {lp i : Nat} {s : GS} {t : RS} (I : gpI gs q rows qv gv lp i s t) (n : Int) : gpI gs q rows qv gv lp i (takeS s n) (refTakeS t n) := by
  refine { I with rel := ⟨I.rel.gates, I.rel.waits, ?_, I.rel.seq, I.rel.asked⟩, olen := ?_, ob := fun r hr => ?_ }
  · show s.outs.set _ ((rd s.outs n).drop 1) = t.outs.set _ ((rd t.outs n).drop 1)
    rw [I.rel.outs]
  · show (t.outs.set _ _).length = _
    rw [List.length_set]; exact I.olen
  · show r.length + t.waits.length ≤ i
    rcases List.mem_or_eq_of_mem_set hr with h | h
    · exact I.ob r h
    · subst h
      rcases rd_or t.outs n with h | h
      · have := I.ob _ h; simp; omega
      · rw [h]; have := I.wb; simp [Dfl.d]; omega
theorem ref21_AskF (p : Nat) (s : RS) (n label privs v b : Int) (hl : s.rows.length = s.q.length) (hq : s.q.length ≤ 1000000) (hm : s.asked.length ≤ 100000) (hw : s.waits.length ≤ 1000000) (e : refAsk s n label privs = false) :
    Sp Try.prog 14 [.pointer (some ⟨p, 0, none⟩), .int .i64 n, .int .i64 label, .int .u32 privs, .int .i32 v, .int .i32 b] (refH p s) (fun _ : Unit => True) (fun _ => .bool false) (fun _ => refH p s) :=
  Sp.conseq (ref21_Ask p s n label privs v b hl hq hm hw) (ents.refl _) fun t ht => by
    unfold refAskP at ht; rw [e] at ht; subst t
    exact ⟨(), by rw [e], trivial, ents.refl _⟩
theorem ref21_AskT (p : Nat) (s : RS) (n label privs v b : Int) (hl : s.rows.length = s.q.length) (hq : s.q.length ≤ 1000000) (hm : s.asked.length ≤ 100000) (hw : s.waits.length ≤ 1000000) (e : refAsk s n label privs = true) :
    Sp Try.prog 14 [.pointer (some ⟨p, 0, none⟩), .int .i64 n, .int .i64 label, .int .u32 privs, .int .i32 v, .int .i32 b] (refH p s) (fun _ : Value × Value => True) (fun _ => .bool true) (fun x => refH p (refAskS s n label v b x.1 x.2)) :=
  Sp.conseq (ref21_Ask p s n label privs v b hl hq hm hw) (ents.refl _) fun t ht => by
    unfold refAskP at ht; rw [e] at ht; obtain ⟨av, wv, rfl⟩ := ht
    exact ⟨(av, wv), by rw [e], trivial, ents.refl _⟩
theorem ref21_TakeF (p : Nat) (s : RS) (n : Int) (e : refTake s n = false) :
    Sp Try.prog 19 [.pointer (some ⟨p, 0, none⟩), .int .i64 n] (refH p s) (fun _ : Unit => True) (fun _ => .tuple #[.int .i32 0, .bool false]) (fun _ => refH p s) :=
  Sp.conseq (ref21_Take p s n) (ents.refl _) fun t ht => by
    unfold refTakeP at ht; rw [e] at ht; subst t
    exact ⟨(), by unfold refTakeV; rw [e], trivial, ents.refl _⟩
theorem ref21_TakeT (p : Nat) (s : RS) (n : Int) (e : refTake s n = true) :
    Sp Try.prog 19 [.pointer (some ⟨p, 0, none⟩), .int .i64 n] (refH p s) (fun _ : Unit => True) (fun _ => .tuple #[.int .i32 (rd (rd s.outs n) 0), .bool true]) (fun _ => refH p (refTakeS s n)) :=
  Sp.conseq (ref21_Take p s n) (ents.refl _) fun t ht => by
    unfold refTakeP at ht; rw [e] at ht; subst t
    exact ⟨(), by unfold refTakeV; rw [e], trivial, ents.refl _⟩
theorem take_eq {gs : List S_api_Gate} {q : List (List Bool)} {rows : List Value} {qv gv : Value} {lp i : Nat} {s : GS} {t : RS} (I : gpI gs q rows qv gv lp i s t) (n : Int) : refTake t n = takeOk s n := by
  unfold refTake takeOk
  rw [I.rel.gates, I.rel.outs, I.olen, I.gates]
  congr 1
  by_cases h1 : n < 0
  · rw [decide_eq_true h1, decide_eq_false (fun h : 0 ≤ n ∧ n < (gs.length : Int) => by omega)]; rfl
  · rw [decide_eq_false h1]
    by_cases h2 : (gs.length : Int) ≤ n
    · rw [decide_eq_true h2, decide_eq_false (fun h : 0 ≤ n ∧ n < (gs.length : Int) => by omega)]; rfl
    · rw [decide_eq_false h2, decide_eq_true (show 0 ≤ n ∧ n < (gs.length : Int) from by omega)]; rfl
theorem gpI.openP {gs : List S_api_Gate} {q : List (List Bool)} {rows : List Value} {qv gv : Value} {lp i : Nat} {s : GS} {t : RS} (I : gpI gs q rows qv gv lp i s t) (hto : ∀ g, g ∈ gs → 0 ≤ g.f_To ∧ g.f_To < q.length) (label round : Int) (wv wv' : Value) (orow orow' : List Value) :
    (openK s label round s.waits.length).recs = (openR t label round t.waits.length).recs ∧ gpI gs q rows qv gv lp i (opG s (openK s label round s.waits.length) wv orow) (opR t (openR t label round t.waits.length) wv' orow') := by
  have hw : s.waits.length = t.waits.length := by rw [I.rel.waits]; simp
  have hg' : ∀ w, w ∈ t.waits → 0 ≤ w.f_gate ∧ w.f_gate < t.gates.length := by rw [I.gates]; exact I.wgate
  have hto' : ∀ g, g ∈ t.gates → 0 ≤ g.f_To ∧ g.f_To < t.seq.length := by rw [I.gates, I.slen]; exact hto
  have A := rel_open I.rel hg' hto' label round t.waits.length (Nat.le_refl _)
  have B := openR_ok (I.rs hto) label round t.waits.length (Nat.le_refl _)
  have C := openR_len t label round (by rw [I.olen]; exact I.wgate) hto' hg' t.waits.length (Nat.le_refl _)
  obtain ⟨c1, c2, c3, c4⟩ := C
  rw [hw]
  have S := openK_soth s label round t.waits.length (by omega)
  refine ⟨A.recs, ⟨I.rel.gates, A.rest, A.outs, fun l h0 h1 => A.seq l h0 (by have := B.seql; show l < (t.seq.length : Int); rw [← this]; exact h1), I.rel.asked⟩, I.fl, I.gates, I.tv, I.tg, I.trows, I.tq, I.ask, fun w hw => ?_, ?_, fun r hr => ?_, ?_, ?_, fun x hx => ?_, fun l => ?_⟩
  · have := B.gate w hw; rw [I.gates] at this; exact this
  · have := B.outs; have := I.olen; show (openR t label round t.waits.length).outs.length = _; omega
  · have hr' : r ∈ (openR t label round t.waits.length).outs := hr
    obtain ⟨g, hg, rfl⟩ := List.getElem_of_mem hr'
    have a := c3 (g : Int) (by omega) (by have := B.outs; omega)
    rw [rd_eq (by simpa using hg), rd_eq (by have := B.outs; simp; omega)] at a
    simp only [Int.toNat_natCast] at a
    have := I.ob _ (List.getElem_mem (l := t.outs) (n := g) (by have := B.outs; omega))
    show _ + (openR t label round t.waits.length).rest.length ≤ i
    omega
  · have := B.rest; have := I.wb; show (openR t label round t.waits.length).rest.length ≤ i; omega
  · have := B.seql; have := I.slen; show (openR t label round t.waits.length).seq.length = _; omega
  · have hx' : x ∈ (openR t label round t.waits.length).seq := hx
    obtain ⟨g, hg, rfl⟩ := List.getElem_of_mem hx'
    have a := c4 (g : Int) (by omega) (by have := B.seql; omega)
    rw [rd_eq (by simpa using hg), rd_eq (by have := B.seql; simp; omega)] at a
    simp only [Int.toNat_natCast] at a
    have := I.sb _ (List.getElem_mem (l := t.seq) (n := g) (by have := B.seql; omega))
    show _ ∧ _ + ((openR t label round t.waits.length).rest.length : Int) ≤ i
    omega
  · have a := S l
    have := I.soth l
    have hr : (openK s label round t.waits.length).rest.length = (openR t label round t.waits.length).rest.length := by rw [A.rest]; simp
    rw [hr] at a
    show 0 ≤ ((openK s label round t.waits.length).seq l).getD 0 ∧ ((openK s label round t.waits.length).seq l).getD 0 + ((openR t label round t.waits.length).rest.length : Int) ≤ i
    omega
end Go.Proofs.Ytefmjphokgnobaa

