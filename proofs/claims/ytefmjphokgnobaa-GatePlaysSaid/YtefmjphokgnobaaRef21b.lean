/- Contracts of functions of the program, proved in a small separation logic. Conditions: those that each theorem states. -/
import Derived.Test.YtefmjphokgnobaaRef21
namespace Go.Proofs.Ytefmjphokgnobaa
open Go Go.Sl
set_option maxHeartbeats 4000000
set_option maxRecDepth 100000
set_option linter.unusedVariables false
structure RO where
  recs : List S_api_Record
  rest : List S_confidantref21_waits
  seq : List Int
  outs : List (List Int)
def refStep (gates : List S_api_Gate) (label round : Int) (o : RO) (w : S_confidantref21_waits) : RO :=
  if (rd gates w.f_gate).f_To = label then ⟨o.recs ++ [⟨rd o.seq label, w.f_gate, label, w.f_v, round, w.f_by⟩], o.rest, o.seq.set label.toNat (rd o.seq label + 1), o.outs.set w.f_gate.toNat (rd o.outs w.f_gate ++ [w.f_v])⟩
  else { o with rest := o.rest ++ [w] }
def openR (s : RS) (label round : Int) (k : Nat) : RO := (s.waits.take k).foldl (refStep s.gates label round) ⟨[], [], s.seq, s.outs⟩
theorem openR_succ (s : RS) (label round : Int) {k : Nat} (h : k < s.waits.length) : openR s label round (k + 1) = refStep s.gates label round (openR s label round k) (rd s.waits k) := by
  unfold openR; rw [take_rd h, List.foldl_append]; rfl
structure rsOk (s : RS) (m : Nat) : Prop where
  waits : s.waits.length ≤ m
  gate : ∀ w, w ∈ s.waits → 0 ≤ w.f_gate ∧ w.f_gate < s.gates.length
  outs : s.outs.length = s.gates.length
  rows : ∀ r, r ∈ s.outs → r.length ≤ m
  seq : ∀ x, x ∈ s.seq → 0 ≤ x ∧ x ≤ m
  to : ∀ g, g ∈ s.gates → 0 ≤ g.f_To ∧ g.f_To < s.seq.length
structure orOk (s : RS) (m k : Nat) (o : RO) : Prop where
  recs : o.recs.length ≤ k
  rest : o.rest.length ≤ k
  seqb : ∀ x, x ∈ o.seq → 0 ≤ x ∧ x ≤ m + k
  seql : o.seq.length = s.seq.length
  outs : o.outs.length = s.outs.length
  rows : ∀ r, r ∈ o.outs → r.length ≤ m + k
  gate : ∀ w, w ∈ o.rest → 0 ≤ w.f_gate ∧ w.f_gate < s.gates.length
theorem openR_ok {s : RS} {m : Nat} (h : rsOk s m) (label round : Int) : ∀ k, k ≤ s.waits.length → orOk s m k (openR s label round k)
  | 0, _ => ⟨Nat.le_refl _, Nat.le_refl _, fun x hx => by have := h.seq x hx; omega, rfl, rfl, fun r hr => by have := h.rows r hr; omega, fun w hw => by simp [openR] at hw⟩
  | k + 1, hk => by
    obtain ⟨h1, h2, h3, h4, h5, h6, h7⟩ := openR_ok h label round k (by omega)
    rw [openR_succ s label round (show k < s.waits.length by omega)]
    have hm : rd s.waits (k : Int) ∈ s.waits := rd_mem (by omega) (by omega)
    have hg := h.gate _ hm
    have ht := h.to _ (rd_mem hg.1 hg.2)
    unfold refStep
    split
    · rename_i he
      rw [he] at ht
      have hs := h3 _ (rd_mem (xs := (openR s label round k).seq) ht.1 (by omega))
      refine ⟨by simp; omega, by simp; omega, fun x hx => ?_, by simp [h4], by simp [h5], fun r hr => ?_, h7⟩
      · rcases List.mem_or_eq_of_mem_set hx with h | h
        · have := h3 x h; omega
        · subst h; omega
      · rcases List.mem_or_eq_of_mem_set hr with h | h
        · have := h6 r h; omega
        · subst h
          have := rd_len h6 (rd s.waits (k : Int)).f_gate
          simp; omega
    · refine ⟨by simp; omega, by simp; omega, fun x hx => by have := h3 x hx; omega, h4, h5, fun r hr => by have := h6 r hr; omega, fun w hw => ?_⟩
      rcases List.mem_append.1 hw with h | h
      · exact h7 w h
      · simp at h; subst h; exact hg
abbrev opR (s : RS) (o : RO) (wv : Value) (orow : List Value) : RS := { s with wv := wv, orow := orow, waits := o.rest, seq := o.seq, outs := o.outs }
instance : Dfl S_confidantref21_waits := ⟨⟨0, 0, 0⟩⟩
-- FN (*confidant/confidantref21.Gates).Open
theorem ref21_Open (p : Nat) (s : RS) (m : Nat) (hm : m ≤ 1000000) (hk : rsOk s m) (label round : Int) :
    Sp Try.prog 17 [.pointer (some ⟨p, 0, none⟩), .int .i64 label, .int .i64 round] (refH p s) (fun _ : Value × Value × List Value => True) (fun x => x.1)
      (fun x => sl e_api_Record x.1 (openR s label round s.waits.length).recs :: refH p (opR s (openR s label round s.waits.length) x.2.1 x.2.2)) := by
  have hI := openR_ok hk label round
  have hw := hk.waits
  refine Sp.intro (n := 96) Try.func17 rfl rfl fun w0 R => ?_
  dsimp only [List.cons_append, List.nil_append, envOf]
  refine go ?_
  refine Cd.loop (fun z : Nat × Value × Value × List Value => z.1 ≤ s.waits.length) (fun z => s.waits.length - z.1) (fun z => [(0, .pointer (some ⟨p, 0, none⟩)), (1, .int .i64 label), (2, .int .i64 round), (7, z.2.1), (8, z.2.2.1), (9, .int .i64 z.1)]) (fun z => sl e_api_Record z.2.1 (openR s label round z.1).recs :: sl e_confidantref21_waits z.2.2.1 (openR s label round z.1).rest :: refH p { s with orow := z.2.2.2, seq := (openR s label round z.1).seq, outs := (openR s label round z.1).outs } ++ R) ⟨0, .slice none 0 0, .slice none 0 0, s.orow⟩ (by simp) ?_ ?_ ?_
  · repeat(first|exact Env.le_nil _|(refine Env.le_cons rfl ?_ ?_;first|rfl|(simp;done)|exact congrArg _ (by omega)|rotate_left))
  · dsimp only [List.cons_append, List.nil_append]
    rw [show (openR s label round 0).recs = [] from rfl, show (openR s label round 0).rest = [] from rfl, show (openR s label round 0).seq = s.seq from rfl, show (openR s label round 0).outs = s.outs from rfl]
    exact ent_
  rintro ⟨k, v7, v8, orow⟩ hk1
  dsimp only [List.cons_append, List.nil_append] at hk1 ⊢
  obtain ⟨i1, i2, i3, i4, i5, i6, i7⟩ := hI k hk1
  refine go ?_
  refine Cd.condP rfl (fun h => ?_) (fun h => ?_)
  · have hk' : k < s.waits.length := by omega
    have hgk := hk.gate _ (rd_mem (xs := s.waits) (i := (k : Int)) (by omega) (by omega))
    have hto := hk.to _ (rd_mem (xs := s.gates) hgk.1 hgk.2)
    have hs1 := openR_succ s label round hk'
    repeat(first|(with_reducible refine Ol.g ?_;first|(refine Ol.q rfl rfl rfl ?_ ?_;(first|exact True.intro|omega|(unfold in64;omega)|(simp only [List.length_append,List.length_cons,List.length_nil,List.length_set];omega)))|with_reducible refine Ol.nil ?_|refine Ol.skip rfl rfl ?_|refine Ol.eff rfl rfl rfl (Eff.x (Qx.build rfl) ?_)|refine Ol.skip0 rfl ?_|(refine Ol.ga ?_;dsimp only [List.append])|refine Ol.eff rfl rfl rfl (Eff.alloc fun _ => ?_)|refine Ol.eff rfl rfl rfl (Eff.box fun _ => ?_)|refine Ol.eff0 rfl rfl (Eff.store rfl rfl ?_)|refine Ol.eff rfl rfl rfl (Eff.bslice rfl rfl fun _ => ?_)|(refine Ol.eff0 rfl rfl (Eff.storeE rfl ?_ ?_);(first|exact True.intro|omega|(unfold in64;omega)|(simp only [List.length_append,List.length_cons,List.length_nil,List.length_set];omega)))|(refine Ol.eff rfl rfl rfl (Eff.append1 rfl ?_ fun _ => ?_);(first|exact True.intro|omega|(unfold in64;omega)|(simp only [List.length_append,List.length_cons,List.length_nil,List.length_set];omega))))|(with_reducible refine Cd.g ?_;first|with_reducible refine Cd.seq ?_|with_reducible refine Cd.region ?_|with_reducible refine Cd.skip ?_|with_reducible refine Cd.ret ?_|with_reducible refine Cd.block ?_|with_reducible refine Cd.exit ?_|(with_reducible refine Cd.condg ?_;first|refine Cd.cond_t rfl ?_|refine Cd.cond_f rfl ?_))|(with_reducible refine Dn.g ?_;first|with_reducible refine Dn.then ?_|with_reducible refine Dn.ret_then ?_|with_reducible refine Dn.ret_block ?_|with_reducible refine Dn.block ?_|with_reducible refine Dn.exit_then ?_|with_reducible refine Dn.exit_at ?_|with_reducible refine Dn.exit_by rfl ?_))
    rename_i c
    refine Cd.drawL (l := [_, _, _, _, _, _, _, _, _]) (z := _) [[], [0], [0, 1], [0, 1, 2], [], [4], [0, 1, 2, 3, 4, 5], [0, 1, 2, 3, 4, 5, 6], [0, 1, 2, 3, 4, 5, 6, 7]] [] [] (td := [(0, .fresh), (1, .fresh), (2, .fresh), (3, .fresh), (4, .fresh), (5, .fresh), (6, .fresh), (7, .fresh), (8, .fresh)]) rfl mixed (by kernel_rfl) (by kernel_rfl) (by kernel_rfl) (by decide) (by decide) rfl (by kernel_rfl) ?_
    refine god2 ?_
    refine go ?_
    refine Cd.cond rfl (fun h3 => ?_) (fun h3 => ?_)
    · have h3' : (rd s.gates (rd s.waits k).f_gate).f_To ≠ label := of_decide_eq_true h3
      repeat(first|(with_reducible refine Ol.g ?_;first|(refine Ol.q rfl rfl rfl ?_ ?_;(first|exact True.intro|omega|(unfold in64;omega)|(simp only [List.length_append,List.length_cons,List.length_nil,List.length_set];omega)))|with_reducible refine Ol.nil ?_|refine Ol.skip rfl rfl ?_|refine Ol.eff rfl rfl rfl (Eff.x (Qx.build rfl) ?_)|refine Ol.skip0 rfl ?_|(refine Ol.ga ?_;dsimp only [List.append])|refine Ol.eff rfl rfl rfl (Eff.alloc fun _ => ?_)|refine Ol.eff rfl rfl rfl (Eff.box fun _ => ?_)|refine Ol.eff0 rfl rfl (Eff.store rfl rfl ?_)|refine Ol.eff rfl rfl rfl (Eff.bslice rfl rfl fun _ => ?_)|(refine Ol.eff0 rfl rfl (Eff.storeE rfl ?_ ?_);(first|exact True.intro|omega|(unfold in64;omega)|(simp only [List.length_append,List.length_cons,List.length_nil,List.length_set];omega)))|(refine Ol.eff rfl rfl rfl (Eff.append1 rfl ?_ fun _ => ?_);(first|exact True.intro|omega|(unfold in64;omega)|(simp only [List.length_append,List.length_cons,List.length_nil,List.length_set];omega))))|(with_reducible refine Cd.g ?_;first|with_reducible refine Cd.seq ?_|with_reducible refine Cd.region ?_|with_reducible refine Cd.skip ?_|with_reducible refine Cd.ret ?_|with_reducible refine Cd.block ?_|with_reducible refine Cd.exit ?_|(with_reducible refine Cd.condg ?_;first|refine Cd.cond_t rfl ?_|refine Cd.cond_f rfl ?_))|(with_reducible refine Dn.g ?_;first|with_reducible refine Dn.then ?_|with_reducible refine Dn.ret_then ?_|with_reducible refine Dn.ret_block ?_|with_reducible refine Dn.block ?_|with_reducible refine Dn.exit_then ?_|with_reducible refine Dn.exit_at ?_|with_reducible refine Dn.exit_by rfl ?_))
      rename_i v8'
      refine Dn.round ⟨k + 1, v7, v8', orow⟩ (by dsimp only; omega) (by dsimp only; omega) ?_ ?_
      · repeat(first|exact Env.le_nil _|(refine Env.le_cons rfl ?_ ?_;first|rfl|(simp;done)|exact congrArg _ (by omega)|rotate_left))
      · dsimp only
        rw [hs1]
        unfold refStep
        rw [if_neg h3']
        exact ent_
    · have h3' : (rd s.gates (rd s.waits k).f_gate).f_To = label := by simpa using of_decide_eq_false h3
      rw [h3'] at hto
      rw [h3']
      have hsq := i3 _ (rd_mem (xs := (openR s label round k).seq) (i := label) hto.1 (by omega))
      refine go ?_
      refine Cd.know (fun w hw => rws_len (Tk.sat (A := (rws false (eInt .i32) orow _)) (by exact tk_) hw)) fun hr => ?_
      have hok := hk.outs
      refine Cd.row (r := false) (E := eInt .i32) (rows := orow) (xss := (openR s label round k).outs) (rd s.waits k).f_gate (by exact tk_) ⟨hgk.1, by omega⟩ ?_
      have i8 := rd_len i6 (rd s.waits k).f_gate
      refine Cd.draw2 [[], [0], [0, 1], [0, 1, 2], [], [4], [], [6], [6, 7], [6, 7, 8], [], [10], [6, 7, 8, 9, 10, 11], [6, 7, 8, 9, 10, 11, 12], [], [14], [14, 15], [6, 7, 8, 9, 10, 11, 12, 13, 14, 15, 16], [0, 1, 2, 3, 4, 5, 6, 7, 8, 9, 10, 11, 12, 13, 14, 15, 16, 17], [0, 1, 2, 3, 4, 5, 6, 7, 8, 9, 10, 11, 12, 13, 14, 15, 16, 17, 18]] [16, 17, 19] [] (td := [(0, .fresh), (1, .fresh), (2, .fresh), (3, .fresh), (4, .fresh), (5, .fresh), (6, .fresh), (7, .fresh), (8, .fresh), (9, .fresh), (10, .fresh), (11, .fresh), (12, .fresh), (13, .fresh), (14, .fresh), (15, .fresh)]) mixed (by kernel_rfl) (by kernel_rfl) (by decide) (by decide) rfl (by kernel_rfl) ?_
      refine god2 ?_
      refine Sg2.one (td := [(0, .old), (1, .old), (2, .old), (3, .old), (4, .old), (5, .old), (6, .old), (7, .old), (8, .old), (9, .old), (10, .old), (11, .old), (12, .old), (13, .old)]) rfl (by kernel_rfl) fun F16_ => ?_
      dsimp only [List.cons_append, List.nil_append]
      (with_reducible first|refine SpOp.eff rfl rfl rfl rfl rfl (Eff.x (Qx.build rfl) ?_)|refine SpOp.eff rfl rfl rfl rfl rfl (Eff.alloc fun _ => ?_)|refine SpOp.eff rfl rfl rfl rfl rfl (Eff.box fun _ => ?_)|refine SpOp.eff rfl rfl rfl rfl rfl (Eff.bslice rfl rfl fun _ => ?_)|(refine SpOp.eff rfl rfl rfl rfl rfl (Eff.append1 rfl ?_ fun _ => ?_);(first|exact True.intro|omega|(unfold in64;omega)|(simp only [List.length_append,List.length_cons,List.length_nil,List.length_set];omega)))|refine SpOp.eff0 rfl rfl rfl rfl (Eff.store rfl rfl ?_)|(refine SpOp.eff0 rfl rfl rfl rfl (Eff.storeE rfl ?_ ?_);(first|exact True.intro|omega|(unfold in64;omega)|(simp only [List.length_append,List.length_cons,List.length_nil,List.length_set];omega))))
      refine Sn.ok ?_
      refine god2 ?_
      refine Sg2.one (td := [(0, .old), (1, .old), (2, .old), (3, .old), (4, .old), (5, .old), (18, .fresh)]) rfl (by kernel_rfl) fun F17_ => ?_
      dsimp only [List.cons_append, List.nil_append]
      (with_reducible first|refine SpOp.eff rfl rfl rfl rfl rfl (Eff.x (Qx.build rfl) ?_)|refine SpOp.eff rfl rfl rfl rfl rfl (Eff.alloc fun _ => ?_)|refine SpOp.eff rfl rfl rfl rfl rfl (Eff.box fun _ => ?_)|refine SpOp.eff rfl rfl rfl rfl rfl (Eff.bslice rfl rfl fun _ => ?_)|(refine SpOp.eff rfl rfl rfl rfl rfl (Eff.append1 rfl ?_ fun _ => ?_);(first|exact True.intro|omega|(unfold in64;omega)|(simp only [List.length_append,List.length_cons,List.length_nil,List.length_set];omega)))|refine SpOp.eff0 rfl rfl rfl rfl (Eff.store rfl rfl ?_)|(refine SpOp.eff0 rfl rfl rfl rfl (Eff.storeE rfl ?_ ?_);(first|exact True.intro|omega|(unfold in64;omega)|(simp only [List.length_append,List.length_cons,List.length_nil,List.length_set];omega))))
      rename_i u'
      refine Sn.ok ?_
      refine god2 ?_
      refine Sg2.one (td := []) rfl (by kernel_rfl) fun F19_ => ?_
      dsimp only [List.cons_append, List.nil_append]
      refine SpOp.eff0 rfl rfl rfl rfl (Eff.storeE rfl ?_ ?_)
      · omega
      refine Sn.ok ?_
      refine god2 ?_
      refine go ?_
      refine Cd.drawL (l := [_, _, _, _, _, _, _, _, _, _, _, _, _, _, _, _, _, _, _]) (z := _) [[], [], [1], [1, 2], [1, 2, 3], [], [1, 2, 3, 4, 5], [1, 2, 3, 4, 5, 6], [], [8], [], [], [11], [], [], [14], [1, 2, 3, 4, 5, 6, 7, 8, 9, 10, 11, 12, 13, 14, 15], [1, 2, 3, 4, 5, 6, 7, 8, 9, 10, 11, 12, 13, 14, 15, 16], [0, 1, 2, 3, 4, 5, 6, 7, 8, 9, 10, 11, 12, 13, 14, 15, 16, 17]] [17, 18] [] (td := [(0, .fresh), (1, .fresh), (2, .fresh), (3, .fresh), (4, .fresh), (5, .fresh), (6, .fresh), (7, .fresh), (8, .fresh), (9, .fresh), (10, .fresh), (11, .fresh), (12, .fresh), (13, .fresh), (14, .fresh), (15, .fresh), (16, .fresh)]) rfl mixed (by kernel_rfl) (by kernel_rfl) (by kernel_rfl) (by decide) (by decide) rfl (by kernel_rfl) ?_
      refine god2 ?_
      refine Sg2.one (td := [(0, .old)]) rfl (by kernel_rfl) fun F17_ => ?_
      dsimp only [List.cons_append, List.nil_append]
      (with_reducible first|refine SpOp.eff rfl rfl rfl rfl rfl (Eff.x (Qx.build rfl) ?_)|refine SpOp.eff rfl rfl rfl rfl rfl (Eff.alloc fun _ => ?_)|refine SpOp.eff rfl rfl rfl rfl rfl (Eff.box fun _ => ?_)|refine SpOp.eff rfl rfl rfl rfl rfl (Eff.bslice rfl rfl fun _ => ?_)|(refine SpOp.eff rfl rfl rfl rfl rfl (Eff.append1 rfl ?_ fun _ => ?_);(first|exact True.intro|omega|(unfold in64;omega)|(simp only [List.length_append,List.length_cons,List.length_nil,List.length_set];omega)))|refine SpOp.eff0 rfl rfl rfl rfl (Eff.store rfl rfl ?_)|(refine SpOp.eff0 rfl rfl rfl rfl (Eff.storeE rfl ?_ ?_);(first|exact True.intro|omega|(unfold in64;omega)|(simp only [List.length_append,List.length_cons,List.length_nil,List.length_set];omega))))
      refine Sn.ok ?_
      refine god2 ?_
      refine Sg2.one (td := []) rfl (by kernel_rfl) fun F18_ => ?_
      dsimp only [List.cons_append, List.nil_append]
      (with_reducible first|refine SpOp.eff rfl rfl rfl rfl rfl (Eff.x (Qx.build rfl) ?_)|refine SpOp.eff rfl rfl rfl rfl rfl (Eff.alloc fun _ => ?_)|refine SpOp.eff rfl rfl rfl rfl rfl (Eff.box fun _ => ?_)|refine SpOp.eff rfl rfl rfl rfl rfl (Eff.bslice rfl rfl fun _ => ?_)|(refine SpOp.eff rfl rfl rfl rfl rfl (Eff.append1 rfl ?_ fun _ => ?_);(first|exact True.intro|omega|(unfold in64;omega)|(simp only [List.length_append,List.length_cons,List.length_nil,List.length_set];omega)))|refine SpOp.eff0 rfl rfl rfl rfl (Eff.store rfl rfl ?_)|(refine SpOp.eff0 rfl rfl rfl rfl (Eff.storeE rfl ?_ ?_);(first|exact True.intro|omega|(unfold in64;omega)|(simp only [List.length_append,List.length_cons,List.length_nil,List.length_set];omega))))
      rename_i v7'
      refine Sn.ok ?_
      refine god2 ?_
      refine go ?_
      refine Ol.eff0 rfl rfl (Eff.storeE rfl ?_ ?_)
      · omega
      refine go ?_
      refine Dn.round ⟨k + 1, v7', v8, orow.set (rd s.waits k).f_gate.toNat u'⟩ (by dsimp only; omega) (by dsimp only; omega) ?_ ?_
      · repeat(first|exact Env.le_nil _|(refine Env.le_cons rfl ?_ ?_;first|rfl|(simp;done)|exact congrArg _ (by omega)|rotate_left))
      · dsimp only
        rw [hs1]
        unfold refStep
        rw [if_pos h3']
        dsimp only
        exact ent_
  · have hke : k = s.waits.length := by omega
    subst hke
    repeat(first|(with_reducible refine Ol.g ?_;first|(refine Ol.q rfl rfl rfl ?_ ?_;(first|exact True.intro|omega|(unfold in64;omega)|(simp only [List.length_append,List.length_cons,List.length_nil,List.length_set];omega)))|with_reducible refine Ol.nil ?_|refine Ol.skip rfl rfl ?_|refine Ol.eff rfl rfl rfl (Eff.x (Qx.build rfl) ?_)|refine Ol.skip0 rfl ?_|(refine Ol.ga ?_;dsimp only [List.append])|refine Ol.eff rfl rfl rfl (Eff.alloc fun _ => ?_)|refine Ol.eff rfl rfl rfl (Eff.box fun _ => ?_)|refine Ol.eff0 rfl rfl (Eff.store rfl rfl ?_)|refine Ol.eff rfl rfl rfl (Eff.bslice rfl rfl fun _ => ?_)|(refine Ol.eff0 rfl rfl (Eff.storeE rfl ?_ ?_);(first|exact True.intro|omega|(unfold in64;omega)|(simp only [List.length_append,List.length_cons,List.length_nil,List.length_set];omega)))|(refine Ol.eff rfl rfl rfl (Eff.append1 rfl ?_ fun _ => ?_);(first|exact True.intro|omega|(unfold in64;omega)|(simp only [List.length_append,List.length_cons,List.length_nil,List.length_set];omega))))|(with_reducible refine Cd.g ?_;first|with_reducible refine Cd.seq ?_|with_reducible refine Cd.region ?_|with_reducible refine Cd.skip ?_|with_reducible refine Cd.ret ?_|with_reducible refine Cd.block ?_|with_reducible refine Cd.exit ?_|(with_reducible refine Cd.condg ?_;first|refine Cd.cond_t rfl ?_|refine Cd.cond_f rfl ?_))|(with_reducible refine Dn.g ?_;first|with_reducible refine Dn.then ?_|with_reducible refine Dn.ret_then ?_|with_reducible refine Dn.ret_block ?_|with_reducible refine Dn.block ?_|with_reducible refine Dn.exit_then ?_|with_reducible refine Dn.exit_at ?_|with_reducible refine Dn.exit_by rfl ?_))
    refine Dn.ret1 rfl rfl fun w hs => ⟨(v7, v8, orow), rfl, trivial, hs.conv (show ents _ (sl e_api_Record v7 (openR s label round s.waits.length).recs :: refH p (opR s (openR s label round s.waits.length) v8 orow) ++ R) from by exact ent_)⟩
end Go.Proofs.Ytefmjphokgnobaa

