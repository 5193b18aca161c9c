/- Contracts of functions of the program, proved in a small separation logic. Conditions: those that each theorem states. -/
import Derived.Test.YtefmjphokgnobaaGate5
namespace Go.Proofs.Ytefmjphokgnobaa
open Go Go.Sl
set_option maxHeartbeats 4000000
set_option maxRecDepth 100000
set_option linter.unusedVariables false
/-- What Open does, wait by wait. -/
structure OpS where
  recs : List S_api_Record
  rest : List S_gate_wait
  seq : Int → Option Int
  outs : List (List Int)
def openStep (gates : List S_api_Gate) (label round : Int) (o : OpS) (w : S_gate_wait) : OpS :=
  if (rd gates w.f_gate).f_To = label then ⟨o.recs ++ [⟨(o.seq label).getD 0, w.f_gate, label, w.f_v, round, w.f_by⟩], o.rest, upd o.seq label ((o.seq label).getD 0 + 1), o.outs.set w.f_gate.toNat (rd o.outs w.f_gate ++ [w.f_v])⟩
  else { o with rest := o.rest ++ [w] }
def openK (s : GS) (label round : Int) (k : Nat) : OpS := (s.waits.take k).foldl (openStep s.gates label round) ⟨[], [], s.seq, s.outs⟩
theorem openK_succ (s : GS) (label round : Int) {k : Nat} (h : k < s.waits.length) : openK s label round (k + 1) = openStep s.gates label round (openK s label round k) (rd s.waits k) := by
  unfold openK; rw [take_rd h, List.foldl_append]; rfl
structure openI (s : GS) (label round : Int) (k : Nat) : Prop where
  recs : (openK s label round k).recs.length ≤ k
  rest : (openK s label round k).rest.length ≤ k
  seq : 0 ≤ ((openK s label round k).seq label).getD 0 ∧ ((openK s label round k).seq label).getD 0 ≤ 1048576 + k
  outs : (openK s label round k).outs.length = s.outs.length
  rows : ∀ i : Int, (rd (openK s label round k).outs i).length ≤ 1048576 + k
-- FN (*confidant/gate.Gates).Open
theorem gate_Open (p : Nat) (s : GS) (label round : Int) (hg : ∀ i : Int, 0 ≤ i → i < s.waits.length → 0 ≤ (rd s.waits i).f_gate ∧ (rd s.waits i).f_gate < s.gates.length) (ho : s.outs.length = s.gates.length) (hw : s.waits.length ≤ 1048576)
    (hI : ∀ k, k ≤ s.waits.length → openI s label round k) :
    Sp Try.prog 16 [.pointer (some ⟨p, 0, none⟩), .int .i64 label, .int .i64 round] (gateH p s) (fun _ : Value × Value × List Value => True) (fun x => x.1)
      (fun x => sl e_api_Record x.1 (openK s label round s.waits.length).recs :: gateH p { s with wv := x.2.1, orow := x.2.2, waits := (openK s label round s.waits.length).rest, seq := (openK s label round s.waits.length).seq, outs := (openK s label round s.waits.length).outs }) := by
  refine Sp.intro (n := 85) Try.func16 rfl rfl fun w0 R => ?_
  dsimp only [List.cons_append, List.nil_append, envOf]
  refine go ?_
  refine Cd.loop (fun z : Nat × Value × Value × List Value => z.1 ≤ s.waits.length) (fun z => s.waits.length - z.1) (fun z => [(0, .pointer (some ⟨p, 0, none⟩)), (1, .int .i64 label), (2, .int .i64 round), (7, z.2.1), (8, z.2.2.1), (14, s.wv), (15, .int .i64 s.waits.length), (16, .int .i64 z.1)]) (fun z => sl e_api_Record z.2.1 (openK s label round z.1).recs :: sl e_gate_wait z.2.2.1 (openK s label round z.1).rest :: gateH p { s with orow := z.2.2.2, seq := (openK s label round z.1).seq, outs := (openK s label round z.1).outs } ++ R) ⟨0, .slice none 0 0, .slice none 0 0, s.orow⟩ (by simp) ?_ ?_ ?_
  · repeat(first|exact Env.le_nil _|(refine Env.le_cons rfl ?_ ?_;first|rfl|(simp;done)|exact congrArg _ (by omega)|rotate_left))
  · dsimp only [List.cons_append, List.nil_append]
    rw [show (openK s label round 0).recs = [] from rfl, show (openK s label round 0).rest = [] from rfl, show (openK s label round 0).seq = s.seq from rfl, show (openK s label round 0).outs = s.outs from rfl]
    exact ent_
  rintro ⟨k, v7, v8, orow⟩ hk
  dsimp only [List.cons_append, List.nil_append] at hk ⊢
  have I := hI k hk
  obtain ⟨i1, i2, i3, i4, i5⟩ := I
  refine go ?_
  refine Cd.condP rfl (fun h => ?_) (fun h => ?_)
  · have hk' : k < s.waits.length := by omega
    have hgk := hg k (by omega) (by omega)
    have hs1 := openK_succ s label round hk'
    repeat(first|(with_reducible refine Ol.g ?_;first|(refine Ol.q rfl rfl rfl ?_ ?_;(first|exact True.intro|omega|(unfold in64;omega)|(simp only [List.length_append,List.length_cons,List.length_nil,List.length_set];omega)))|with_reducible refine Ol.nil ?_|refine Ol.skip rfl rfl ?_|refine Ol.eff rfl rfl rfl (Eff.x (Qx.build rfl) ?_)|refine Ol.skip0 rfl ?_|(refine Ol.ga ?_;dsimp only [List.append])|refine Ol.eff rfl rfl rfl (Eff.alloc fun _ => ?_)|refine Ol.eff rfl rfl rfl (Eff.box fun _ => ?_)|refine Ol.eff0 rfl rfl (Eff.store rfl rfl ?_)|refine Ol.eff rfl rfl rfl (Eff.bslice rfl rfl fun _ => ?_)|(refine Ol.eff0 rfl rfl (Eff.storeE rfl ?_ ?_);(first|exact True.intro|omega|(unfold in64;omega)|(simp only [List.length_append,List.length_cons,List.length_nil,List.length_set];omega)))|(refine Ol.eff rfl rfl rfl (Eff.append1 rfl ?_ fun _ => ?_);(first|exact True.intro|omega|(unfold in64;omega)|(simp only [List.length_append,List.length_cons,List.length_nil,List.length_set];omega))))|(with_reducible refine Cd.g ?_;first|with_reducible refine Cd.seq ?_|with_reducible refine Cd.region ?_|with_reducible refine Cd.skip ?_|with_reducible refine Cd.ret ?_|with_reducible refine Cd.block ?_|with_reducible refine Cd.exit ?_|(with_reducible refine Cd.condg ?_;first|refine Cd.cond_t rfl ?_|refine Cd.cond_f rfl ?_))|(with_reducible refine Dn.g ?_;first|with_reducible refine Dn.then ?_|with_reducible refine Dn.ret_then ?_|with_reducible refine Dn.ret_block ?_|with_reducible refine Dn.block ?_|with_reducible refine Dn.exit_then ?_|with_reducible refine Dn.exit_at ?_|with_reducible refine Dn.exit_by rfl ?_))
    rename_i c
    refine Cd.draw2 [[], [0], [0, 1], [0, 1, 2], [], [4], [0, 1, 2, 3, 4, 5], [0, 1, 2, 3, 4, 5, 6], [0, 1, 2, 3, 4, 5, 6, 7], [], [0, 1, 2, 3, 4, 5, 6, 7, 8, 9]] [] [] (td := [(0, .fresh), (1, .fresh), (2, .fresh), (3, .fresh), (4, .fresh), (5, .fresh), (6, .fresh), (7, .fresh), (8, .fresh), (9, .fresh), (10, .fresh)]) mixed (by kernel_rfl) (by kernel_rfl) (by decide) (by decide) rfl (by kernel_rfl) ?_
    refine god2 ?_
    refine go ?_
    refine Cd.cond rfl (fun h3 => ?_) (fun h3 => ?_)
    · have h3' : (rd s.gates (rd s.waits k).f_gate).f_To ≠ label := of_decide_eq_true h3
      repeat(first|(with_reducible refine Ol.g ?_;first|(refine Ol.q rfl rfl rfl ?_ ?_;(first|exact True.intro|omega|(unfold in64;omega)|(simp only [List.length_append,List.length_cons,List.length_nil,List.length_set];omega)))|with_reducible refine Ol.nil ?_|refine Ol.skip rfl rfl ?_|refine Ol.eff rfl rfl rfl (Eff.x (Qx.build rfl) ?_)|refine Ol.skip0 rfl ?_|(refine Ol.ga ?_;dsimp only [List.append])|refine Ol.eff rfl rfl rfl (Eff.alloc fun _ => ?_)|refine Ol.eff rfl rfl rfl (Eff.box fun _ => ?_)|refine Ol.eff0 rfl rfl (Eff.store rfl rfl ?_)|refine Ol.eff rfl rfl rfl (Eff.bslice rfl rfl fun _ => ?_)|(refine Ol.eff0 rfl rfl (Eff.storeE rfl ?_ ?_);(first|exact True.intro|omega|(unfold in64;omega)|(simp only [List.length_append,List.length_cons,List.length_nil,List.length_set];omega)))|(refine Ol.eff rfl rfl rfl (Eff.append1 rfl ?_ fun _ => ?_);(first|exact True.intro|omega|(unfold in64;omega)|(simp only [List.length_append,List.length_cons,List.length_nil,List.length_set];omega))))|(with_reducible refine Cd.g ?_;first|with_reducible refine Cd.seq ?_|with_reducible refine Cd.region ?_|with_reducible refine Cd.skip ?_|with_reducible refine Cd.ret ?_|with_reducible refine Cd.block ?_|with_reducible refine Cd.exit ?_|(with_reducible refine Cd.condg ?_;first|refine Cd.cond_t rfl ?_|refine Cd.cond_f rfl ?_))|(with_reducible refine Dn.g ?_;first|with_reducible refine Dn.then ?_|with_reducible refine Dn.ret_then ?_|with_reducible refine Dn.ret_block ?_|with_reducible refine Dn.block ?_|with_reducible refine Dn.exit_then ?_|with_reducible refine Dn.exit_at ?_|with_reducible refine Dn.exit_by rfl ?_))
      rename_i v8'
      refine Dn.round ⟨k + 1, v7, v8', orow⟩ (by dsimp only; omega) (by dsimp only; omega) ?_ ?_
      · repeat(first|exact Env.le_nil _|(refine Env.le_cons rfl ?_ ?_;first|rfl|(simp;done)|exact congrArg _ (by omega)|rotate_left))
      · dsimp only
        rw [hs1]
        unfold openStep
        rw [if_neg h3']
        exact ent_
    · have h3' : (rd s.gates (rd s.waits k).f_gate).f_To = label := by simpa using of_decide_eq_false h3
      refine go ?_
      refine Cd.drawL (l := [_, _, _, _, _, _, _, _, _, _, _, _, _, _, _, _, _, _]) (z := _) [[], [], [1], [1, 2], [1, 2, 3], [], [1, 2, 3, 4, 5], [], [7], [], [], [10], [], [], [13], [1, 2, 3, 4, 5, 6, 7, 8, 9, 10, 11, 12, 13, 14], [1, 2, 3, 4, 5, 6, 7, 8, 9, 10, 11, 12, 13, 14, 15], [0, 1, 2, 3, 4, 5, 6, 7, 8, 9, 10, 11, 12, 13, 14, 15, 16]] [16, 17] [] (td := [(0, .fresh), (1, .fresh), (2, .fresh), (3, .fresh), (4, .fresh), (5, .fresh), (6, .fresh), (7, .fresh), (8, .fresh), (9, .fresh), (10, .fresh), (11, .fresh), (12, .fresh), (13, .fresh), (14, .fresh), (15, .fresh)]) rfl mixed (by kernel_rfl) (by kernel_rfl) (by kernel_rfl) (by decide) (by decide) rfl (by kernel_rfl) ?_
      refine god2 ?_
      refine Sg2.one (td := [(0, .old)]) rfl (by kernel_rfl) fun F16_ => ?_
      dsimp only [List.cons_append, List.nil_append]
      (with_reducible first|refine SpOp.eff rfl rfl rfl rfl rfl (Eff.x (Qx.build rfl) ?_)|refine SpOp.eff rfl rfl rfl rfl rfl (Eff.alloc fun _ => ?_)|refine SpOp.eff rfl rfl rfl rfl rfl (Eff.box fun _ => ?_)|refine SpOp.eff rfl rfl rfl rfl rfl (Eff.bslice rfl rfl fun _ => ?_)|(refine SpOp.eff rfl rfl rfl rfl rfl (Eff.append1 rfl ?_ fun _ => ?_);(first|exact True.intro|omega|(unfold in64;omega)|(simp only [List.length_append,List.length_cons,List.length_nil,List.length_set];omega)))|refine SpOp.eff0 rfl rfl rfl rfl (Eff.store rfl rfl ?_)|(refine SpOp.eff0 rfl rfl rfl rfl (Eff.storeE rfl ?_ ?_);(first|exact True.intro|omega|(unfold in64;omega)|(simp only [List.length_append,List.length_cons,List.length_nil,List.length_set];omega))))
      refine Sn.ok ?_
      refine god2 ?_
      refine Sg2.one (td := []) rfl (by kernel_rfl) fun F17_ => ?_
      dsimp only [List.cons_append, List.nil_append]
      (with_reducible first|refine SpOp.eff rfl rfl rfl rfl rfl (Eff.x (Qx.build rfl) ?_)|refine SpOp.eff rfl rfl rfl rfl rfl (Eff.alloc fun _ => ?_)|refine SpOp.eff rfl rfl rfl rfl rfl (Eff.box fun _ => ?_)|refine SpOp.eff rfl rfl rfl rfl rfl (Eff.bslice rfl rfl fun _ => ?_)|(refine SpOp.eff rfl rfl rfl rfl rfl (Eff.append1 rfl ?_ fun _ => ?_);(first|exact True.intro|omega|(unfold in64;omega)|(simp only [List.length_append,List.length_cons,List.length_nil,List.length_set];omega)))|refine SpOp.eff0 rfl rfl rfl rfl (Eff.store rfl rfl ?_)|(refine SpOp.eff0 rfl rfl rfl rfl (Eff.storeE rfl ?_ ?_);(first|exact True.intro|omega|(unfold in64;omega)|(simp only [List.length_append,List.length_cons,List.length_nil,List.length_set];omega))))
      rename_i v7'
      refine Sn.ok ?_
      refine god2 ?_
      refine go ?_
      refine Ol.eff0 rfl rfl (Eff.mupd ?_)
      refine go ?_
      refine Cd.know (fun w hw => rws_len (Tk.sat (A := (rws false (eInt .i32) orow _)) (by exact tk_) hw)) fun hr => ?_
      refine Cd.row (r := false) (E := eInt .i32) (rows := orow) (xss := (openK s label round k).outs) (rd s.waits k).f_gate (by exact tk_) ⟨hgk.1, by omega⟩ ?_
      have i6 := i5 (rd s.waits k).f_gate
      refine Cd.draw2 [[], [0], [0, 1], [0, 1, 2], [], [4], [], [6], [6, 7], [6, 7, 8], [], [10], [6, 7, 8, 9, 10, 11], [6, 7, 8, 9, 10, 11, 12], [], [14], [14, 15], [6, 7, 8, 9, 10, 11, 12, 13, 14, 15, 16], [0, 1, 2, 3, 4, 5, 6, 7, 8, 9, 10, 11, 12, 13, 14, 15, 16, 17], [0, 1, 2, 3, 4, 5, 6, 7, 8, 9, 10, 11, 12, 13, 14, 15, 16, 17, 18]] [16, 17, 19] [] (td := [(0, .fresh), (1, .fresh), (2, .fresh), (3, .fresh), (4, .fresh), (5, .fresh), (6, .fresh), (7, .fresh), (8, .fresh), (9, .fresh), (10, .fresh), (11, .fresh), (12, .fresh), (13, .fresh), (14, .fresh), (15, .fresh)]) mixed (by kernel_rfl) (by kernel_rfl) (by decide) (by decide) rfl (by kernel_rfl) ?_
      refine god2 ?_
      refine Sg2.one (td := [(0, .old), (1, .old), (2, .old), (3, .old), (4, .old), (5, .old), (6, .old), (7, .old), (8, .old), (9, .old), (10, .old), (11, .old), (12, .old), (13, .old)]) rfl (by kernel_rfl) fun F16_ => ?_
      dsimp only [List.cons_append, List.nil_append]
      (with_reducible first|refine SpOp.eff rfl rfl rfl rfl rfl (Eff.x (Qx.build rfl) ?_)|refine SpOp.eff rfl rfl rfl rfl rfl (Eff.alloc fun _ => ?_)|refine SpOp.eff rfl rfl rfl rfl rfl (Eff.box fun _ => ?_)|refine SpOp.eff rfl rfl rfl rfl rfl (Eff.bslice rfl rfl fun _ => ?_)|(refine SpOp.eff rfl rfl rfl rfl rfl (Eff.append1 rfl ?_ fun _ => ?_);(first|exact True.intro|omega|(unfold in64;omega)|(simp only [List.length_append,List.length_cons,List.length_nil,List.length_set];omega)))|refine SpOp.eff0 rfl rfl rfl rfl (Eff.store rfl rfl ?_)|(refine SpOp.eff0 rfl rfl rfl rfl (Eff.storeE rfl ?_ ?_);(first|exact True.intro|omega|(unfold in64;omega)|(simp only [List.length_append,List.length_cons,List.length_nil,List.length_set];omega))))
      refine Sn.ok ?_
      refine god2 ?_
      refine Sg2.one (td := [(0, .old), (1, .old), (2, .old), (3, .old), (4, .old), (5, .old), (18, .fresh)]) rfl (by kernel_rfl) fun F17_ => ?_
      dsimp only [List.cons_append, List.nil_append]
      (with_reducible first|refine SpOp.eff rfl rfl rfl rfl rfl (Eff.x (Qx.build rfl) ?_)|refine SpOp.eff rfl rfl rfl rfl rfl (Eff.alloc fun _ => ?_)|refine SpOp.eff rfl rfl rfl rfl rfl (Eff.box fun _ => ?_)|refine SpOp.eff rfl rfl rfl rfl rfl (Eff.bslice rfl rfl fun _ => ?_)|(refine SpOp.eff rfl rfl rfl rfl rfl (Eff.append1 rfl ?_ fun _ => ?_);(first|exact True.intro|omega|(unfold in64;omega)|(simp only [List.length_append,List.length_cons,List.length_nil,List.length_set];omega)))|refine SpOp.eff0 rfl rfl rfl rfl (Eff.store rfl rfl ?_)|(refine SpOp.eff0 rfl rfl rfl rfl (Eff.storeE rfl ?_ ?_);(first|exact True.intro|omega|(unfold in64;omega)|(simp only [List.length_append,List.length_cons,List.length_nil,List.length_set];omega))))
      rename_i u'
      refine Sn.ok ?_
      refine god2 ?_
      refine Sg2.one (td := []) rfl (by kernel_rfl) fun F19_ => ?_
      dsimp only [List.cons_append, List.nil_append]
      refine SpOp.eff0 rfl rfl rfl rfl (Eff.storeE rfl ?_ ?_)
      · omega
      refine Sn.ok ?_
      refine god2 ?_
      refine go ?_
      refine Dn.round ⟨k + 1, v7', v8, orow.set (rd s.waits k).f_gate.toNat u'⟩ (by dsimp only; omega) (by dsimp only; omega) ?_ ?_
      · repeat(first|exact Env.le_nil _|(refine Env.le_cons rfl ?_ ?_;first|rfl|(simp;done)|exact congrArg _ (by omega)|rotate_left))
      · dsimp only
        rw [hs1]
        unfold openStep
        rw [if_pos h3']
        dsimp only
        exact ent_
  · have hke : k = s.waits.length := by omega
    subst hke
    repeat(first|(with_reducible refine Ol.g ?_;first|(refine Ol.q rfl rfl rfl ?_ ?_;(first|exact True.intro|omega|(unfold in64;omega)|(simp only [List.length_append,List.length_cons,List.length_nil,List.length_set];omega)))|with_reducible refine Ol.nil ?_|refine Ol.skip rfl rfl ?_|refine Ol.eff rfl rfl rfl (Eff.x (Qx.build rfl) ?_)|refine Ol.skip0 rfl ?_|(refine Ol.ga ?_;dsimp only [List.append])|refine Ol.eff rfl rfl rfl (Eff.alloc fun _ => ?_)|refine Ol.eff rfl rfl rfl (Eff.box fun _ => ?_)|refine Ol.eff0 rfl rfl (Eff.store rfl rfl ?_)|refine Ol.eff rfl rfl rfl (Eff.bslice rfl rfl fun _ => ?_)|(refine Ol.eff0 rfl rfl (Eff.storeE rfl ?_ ?_);(first|exact True.intro|omega|(unfold in64;omega)|(simp only [List.length_append,List.length_cons,List.length_nil,List.length_set];omega)))|(refine Ol.eff rfl rfl rfl (Eff.append1 rfl ?_ fun _ => ?_);(first|exact True.intro|omega|(unfold in64;omega)|(simp only [List.length_append,List.length_cons,List.length_nil,List.length_set];omega))))|(with_reducible refine Cd.g ?_;first|with_reducible refine Cd.seq ?_|with_reducible refine Cd.region ?_|with_reducible refine Cd.skip ?_|with_reducible refine Cd.ret ?_|with_reducible refine Cd.block ?_|with_reducible refine Cd.exit ?_|(with_reducible refine Cd.condg ?_;first|refine Cd.cond_t rfl ?_|refine Cd.cond_f rfl ?_))|(with_reducible refine Dn.g ?_;first|with_reducible refine Dn.then ?_|with_reducible refine Dn.ret_then ?_|with_reducible refine Dn.ret_block ?_|with_reducible refine Dn.block ?_|with_reducible refine Dn.exit_then ?_|with_reducible refine Dn.exit_at ?_|with_reducible refine Dn.exit_by rfl ?_))
    refine Dn.ret1 rfl rfl fun w hs => ⟨(v7, v8, orow), rfl, trivial, hs.conv (show ents _ (sl e_api_Record v7 (openK s label round s.waits.length).recs :: gateH p { s with wv := v8, orow := orow, waits := (openK s label round s.waits.length).rest, seq := (openK s label round s.waits.length).seq, outs := (openK s label round s.waits.length).outs } ++ R) from by exact ent_)⟩
end Go.Proofs.Ytefmjphokgnobaa

