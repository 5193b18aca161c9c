/- Contracts of functions of the program, proved in a small separation logic. Conditions: those that each theorem states. -/
import Derived.Test.YtefmjphokgnobaaGate7
import Derived.Test.YtefmjphokgnobaaGate4
import Derived.Test.YtefmjphokgnobaaGate5
import Derived.Test.YtefmjphokgnobaaLattice2
import Derived.Test.YtefmjphokgnobaaLattice4
namespace Go.Proofs.Ytefmjphokgnobaa
open Go Go.Sl
set_option maxHeartbeats 4000000
set_option maxRecDepth 100000
set_option linter.unusedVariables false
theorem gate_AskF (p : Nat) (s : GS) (F : Int → Int → Bool) (A : HProp) (hF : FnV (P := Try.prog) s.fl A pairV2 (fun _ => True) (fun p => .bool (F p.1 p.2))) (n label privs v b : Int)
    (hu : ∀ i : Int, 0 ≤ i → i < s.gates.length → u32 (rd s.gates i).f_Need) (hw : s.waits.length ≤ 1048576) (hc : 0 ≤ cnt s n label ∧ cnt s n label ≤ 1048576) (e : askOk F s n label privs = false) :
    Sp Try.prog 13 [.pointer (some ⟨p, 0, none⟩), .int .i64 n, .int .i64 label, .int .u32 privs, .int .i32 v, .int .i32 b] (A :: gateH p s) (fun _ : Unit => True) (fun _ => .bool false) (fun _ => A :: gateH p s) :=
  Sp.conseq (gate_Ask p s F A hF n label privs v b hu hw hc) (ents.refl _) fun t ht => by
    unfold askP at ht; rw [e] at ht; subst t
    exact ⟨(), by rw [e], trivial, ents.refl _⟩
theorem gate_AskT (p : Nat) (s : GS) (F : Int → Int → Bool) (A : HProp) (hF : FnV (P := Try.prog) s.fl A pairV2 (fun _ => True) (fun p => .bool (F p.1 p.2))) (n label privs v b : Int)
    (hu : ∀ i : Int, 0 ≤ i → i < s.gates.length → u32 (rd s.gates i).f_Need) (hw : s.waits.length ≤ 1048576) (hc : 0 ≤ cnt s n label ∧ cnt s n label ≤ 1048576) (e : askOk F s n label privs = true) :
    Sp Try.prog 13 [.pointer (some ⟨p, 0, none⟩), .int .i64 n, .int .i64 label, .int .u32 privs, .int .i32 v, .int .i32 b] (A :: gateH p s) (fun _ : Value => True) (fun _ => .bool true) (fun wv => A :: gateH p (askS s n label v b wv)) :=
  Sp.conseq (gate_Ask p s F A hF n label privs v b hu hw hc) (ents.refl _) fun t ht => by
    unfold askP at ht; rw [e] at ht; obtain ⟨wv, rfl⟩ := ht
    exact ⟨wv, by rw [e], trivial, ents.refl _⟩
theorem flows_FnV (p : Nat) (V : LatV) (ok : V.ok) : FnV (P := Try.prog) (flV (some p)) (lat p V) pairV2 (fun _ => True) (fun x => .bool (flowsB V x.1 x.2)) :=
  ⟨_, _, _, rfl, inferInstance, fun x _ => Sp.pers (lattice_Flows p V ok x.1 x.2)⟩
/-- Below the labels the lattice tells what the table tells. -/
theorem flowsB_eq {q : List (List Bool)} {V : LatV} (h : isLat q V) {a b : Int} (ha : 0 ≤ a ∧ a < q.length) (hb : 0 ≤ b ∧ b < q.length) : flowsB V a b = rd (rd q a) b := by
  unfold flowsB atB
  rw [h.leq, rowsL_length, if_pos ⟨ha, hb⟩, rowsL_rd ha.1 ha.2, map_rd _ hb.1 (by rw [ints_length]; exact hb.2), ints_rd hb.1 hb.2]
  unfold leqI
  cases rd (rd q a) b <;> rfl
theorem flowsB_out {q : List (List Bool)} {V : LatV} (h : isLat q V) {a b : Int} (hn : ¬ ((0 ≤ a ∧ a < q.length) ∧ 0 ≤ b ∧ b < q.length)) : flowsB V a b = false := by
  unfold flowsB atB
  rw [h.leq, rowsL_length, if_neg hn]; rfl
theorem tabT_length (n k : Nat) (F : Int → Int → Bool) : (tabT n k F).length = k := by simp [tabT, ints_length]
theorem tabT_rd {n : Nat} {F : Int → Int → Bool} {a b : Int} (ha : 0 ≤ a ∧ a < n) (hb : 0 ≤ b ∧ b < n) : rd (rd (tabT n n F) a) b = F a b := by
  unfold tabT
  rw [map_rd _ ha.1 (by rw [ints_length]; exact ha.2), ints_rd ha.1 ha.2]
  unfold rowT
  rw [map_rd _ hb.1 (by rw [ints_length]; exact hb.2), ints_rd hb.1 hb.2]
/-- What the gates hold is no more than m. -/
structure gsOk (s : GS) (m : Nat) : Prop where
  waits : s.waits.length ≤ m
  gate : ∀ w, w ∈ s.waits → 0 ≤ w.f_gate ∧ w.f_gate < s.gates.length
  outs : s.outs.length = s.gates.length
  rows : ∀ r, r ∈ s.outs → r.length ≤ m
  seq : ∀ l, 0 ≤ (s.seq l).getD 0 ∧ (s.seq l).getD 0 ≤ m
  need : ∀ g, g ∈ s.gates → u32 g.f_Need
theorem openK_ok {s : GS} {m : Nat} (h : gsOk s m) (label round : Int) : ∀ k, k ≤ s.waits.length → (openK s label round k).recs.length ≤ k ∧ (openK s label round k).rest.length ≤ k ∧
    (∀ l, 0 ≤ ((openK s label round k).seq l).getD 0 ∧ ((openK s label round k).seq l).getD 0 ≤ m + k) ∧ (openK s label round k).outs.length = s.outs.length ∧ (∀ r, r ∈ (openK s label round k).outs → r.length ≤ m + k) ∧ ∀ w, w ∈ (openK s label round k).rest → 0 ≤ w.f_gate ∧ w.f_gate < s.gates.length
  | 0, _ => ⟨Nat.le_refl _, Nat.le_refl _, fun l => by have := h.seq l; simp [openK]; omega, rfl, fun r hr => by have := h.rows r hr; omega, fun w hw => by simp [openK] at hw⟩
  | k + 1, hk => by
    obtain ⟨h1, h2, h3, h4, h5, h6⟩ := openK_ok h label round k (by omega)
    rw [openK_succ s label round (show k < s.waits.length by omega)]
    have hm : rd s.waits (k : Int) ∈ s.waits := rd_mem (by omega) (by omega)
    have hg := h.gate _ hm
    unfold openStep
    split
    · refine ⟨by simp; omega, by simp; omega, fun l => ?_, by simp [h4], fun r hr => ?_, h6⟩
      · have := h3 l; have h3l := h3 label
        simp only [upd]
        split
        · simp; omega
        · omega
      · rcases List.mem_or_eq_of_mem_set hr with h | h
        · have := h5 r h; omega
        · subst h
          rcases rd_or (openK s label round k).outs (rd s.waits (k : Int)).f_gate with h | h
          · have := h5 _ h; simp; omega
          · rw [h]; simp [Dfl.d]; omega
    · refine ⟨by simp; omega, by simp; omega, fun l => by have := h3 l; simp only; omega, h4, fun r hr => by have := h5 r hr; omega, fun w hw => ?_⟩
      rcases List.mem_append.1 hw with h | h
      · exact h6 w h
      · simp at h; subst h; exact hg
/-- The gates behind Open. -/
abbrev openG (s : GS) (label round : Int) (wv : Value) (orow : List Value) : GS := { s with wv := wv, orow := orow, waits := (openK s label round s.waits.length).rest, seq := (openK s label round s.waits.length).seq, outs := (openK s label round s.waits.length).outs }
theorem gate_Open' (p : Nat) (s : GS) (m : Nat) (hm : m ≤ 1000000) (h : gsOk s m) (label round : Int) :
    Sp Try.prog 16 [.pointer (some ⟨p, 0, none⟩), .int .i64 label, .int .i64 round] (gateH p s) (fun x : Value × Value × List Value => gsOk (openG s label round x.2.1 x.2.2) (2 * m)) (fun x => x.1)
      (fun x => sl e_api_Record x.1 (openK s label round s.waits.length).recs :: gateH p (openG s label round x.2.1 x.2.2)) := by
  have hw := h.waits
  have hk := openK_ok h label round
  have S := gate_Open p s label round (fun i h0 h1 => h.gate _ (rd_mem h0 h1)) h.outs (by omega) (fun k hk' => by
    obtain ⟨h1, h2, h3, h4, h5, h6⟩ := hk k hk'
    exact ⟨h1, h2, by have := h3 label; omega, h4, fun i => by have := rd_len h5 i; omega⟩)
  intro w0 w R hs
  refine (S w0 w R hs).mono fun e w' hh => ?_
  obtain ⟨v, he, x, hx, _, hst⟩ := hh
  obtain ⟨h1, h2, h3, h4, h5, h6⟩ := hk s.waits.length (Nat.le_refl _)
  exact ⟨v, he, x, hx, ⟨by show (openK s label round s.waits.length).rest.length ≤ _; omega, h6, by show (openK s label round s.waits.length).outs.length = _; rw [h4, h.outs], fun r hr => by have := h5 r hr; omega, fun l => by have := h3 l; show 0 ≤ ((openK s label round s.waits.length).seq l).getD 0 ∧ ((openK s label round s.waits.length).seq l).getD 0 ≤ _; omega, h.need⟩, hst⟩
abbrev opG (s : GS) (o : OpS) (wv : Value) (orow : List Value) : GS := { s with wv := wv, orow := orow, waits := o.rest, seq := o.seq, outs := o.outs }
theorem gate_OpenO (p : Nat) (s : GS) (m : Nat) (hm : m ≤ 1000000) (h : gsOk s m) (label round : Int) (o : OpS) (ho : openK s label round s.waits.length = o) :
    Sp Try.prog 16 [.pointer (some ⟨p, 0, none⟩), .int .i64 label, .int .i64 round] (gateH p s) (fun x : Value × Value × List Value => gsOk (opG s o x.2.1 x.2.2) (2 * m)) (fun x => x.1)
      (fun x => sl e_api_Record x.1 o.recs :: gateH p (opG s o x.2.1 x.2.2)) := by
  subst ho
  exact gate_Open' p s m hm h label round
theorem gate_TakeF (p : Nat) (s : GS) (ho : s.outs.length = s.gates.length) (n : Int) (e : takeOk s n = false) :
    Sp Try.prog 18 [.pointer (some ⟨p, 0, none⟩), .int .i64 n] (gateH p s) (fun _ : Unit => True) (fun _ => .tuple #[.int .i32 0, .bool false]) (fun _ => gateH p s) :=
  Sp.conseq (gate_Take p s ho n) (ents.refl _) fun t ht => by
    unfold takeP at ht; rw [e] at ht; subst t
    exact ⟨(), by unfold takeV; rw [e], trivial, ents.refl _⟩
theorem gate_TakeT (p : Nat) (s : GS) (ho : s.outs.length = s.gates.length) (n : Int) (e : takeOk s n = true) :
    Sp Try.prog 18 [.pointer (some ⟨p, 0, none⟩), .int .i64 n] (gateH p s) (fun _ : Unit => True) (fun _ => .tuple #[.int .i32 (rd (rd s.outs n) 0), .bool true]) (fun _ => gateH p (takeS s n)) :=
  Sp.conseq (gate_Take p s ho n) (ents.refl _) fun t ht => by
    unfold takeP at ht; rw [e] at ht; subst t
    exact ⟨(), by unfold takeV; rw [e], trivial, ents.refl _⟩
end Go.Proofs.Ytefmjphokgnobaa

