/- Contracts of functions of the program, proved in a small separation logic. Conditions: those that each theorem states. -/
import Derived.Test.YtefmjphokgnobaaGate2
namespace Go.Proofs.Ytefmjphokgnobaa
open Go Go.Sl
set_option maxHeartbeats 4000000
set_option maxRecDepth 100000
set_option linter.unusedVariables false
abbrev kUse : S_gate_use → Value := kS e_gate_use
abbrev kInt : Int → Value := kI .i64
instance : KeyT Try.prog 88 kUse := KeyT.two (a := fun x => x.f_gate) (b := fun x => x.f_label) Try.underlying88 (by kernel_rfl) (by decide) (by decide) rfl rfl ⟨_, Try.underlying3⟩ ⟨_, Try.underlying3⟩ (fun _ => rfl) (fun x y h1 h2 => by cases x; cases y; simp_all)
instance : KeyT Try.prog 3 kInt := KeyT.int Try.underlying3
/-- Where gates stand. -/
structure GS where
  fl : Value
  gs : Value
  wv : Value
  ov : Value
  am : Value
  sm : Value
  gates : List S_api_Gate
  waits : List S_gate_wait
  orow : List Value
  outs : List (List Int)
  asked : S_gate_use → Option Int
  seq : Int → Option Int
abbrev gateH (p : Nat) (s : GS) : List HProp := [cel p 82 [s.fl, s.gs, s.wv, s.ov, s.am, s.sm], sl e_api_Gate s.gs s.gates, sl e_gate_wait s.wv s.waits, sl eVal s.ov s.orow, rws false (eInt .i32) s.orow s.outs, mp kUse kInt s.am s.asked, mp kInt kInt s.sm s.seq]
abbrev noFl : Value := .func (.func 41) #[] #[]
/-- New gates. -/
structure newG (l : List S_api_Gate) (f : Value) (s : GS) : Prop where
  fl : s.fl = f
  gates : s.gates = l
  waits : s.waits = []
  orow : s.orow = List.replicate l.length (.slice none 0 0)
  outs : s.outs = List.replicate l.length []
  asked : s.asked = fun _ => none
  seq : s.seq = fun _ => none
def flV : Option Nat → Value | none => noFl | some l => .func (.func 43) #[.pointer (some ⟨l, 0, none⟩)] #[]
abbrev mkG (fl gs u am sm : Value) (gates : List S_api_Gate) : GS := ⟨fl, gs, .slice none 0 0, u, am, sm, gates, [], List.replicate gates.length (.slice none 0 0), List.replicate gates.length [], fun _ => none, fun _ => none⟩
-- FN confidant/gate.New
theorem gate_New (lp : Option Nat) (r : Bool) (v : Value) (gates : List S_api_Gate) (hm : gates.length ≤ 1048576) :
    Sp Try.prog 11 [.pointer (lp.map fun l => ⟨l, 0, none⟩), v] [slB r e_api_Gate v gates] (fun x : Nat × GS => newG gates (flV lp) x.2) (fun x => .pointer (some ⟨x.1, 0, none⟩)) (fun x => slB r e_api_Gate v gates :: gateH x.1 x.2) := by
  refine Sp.intro (n := 23) Try.func11 rfl rfl fun w0 R => ?_
  dsimp only [List.cons_append, List.nil_append, envOf]
  refine go ?_
  refine Cd.cut0 (α := Nat × Value × Value × Value × Value) (fun x => [(0, .pointer (lp.map fun l => ⟨l, 0, none⟩)), (5, .pointer (some ⟨x.1, 0, none⟩))]) (fun x => slB r e_api_Gate v gates :: gateH x.1 (mkG noFl x.2.1 x.2.2.1 x.2.2.2.1 x.2.2.2.2 gates) ++ R) (fun kk => ?_) ?_
  · refine Cd.drawL (l := [_, _, _, _, _, _, _, _, _]) (z := _) [[], [0], [], [2], [2, 3], [], [], [0, 1, 2, 3, 4, 5, 6], [0, 1, 2, 3, 4, 5, 6, 7]] [1, 4, 5, 6, 7, 8] [4, 5, 6] (td := [(0, .fresh), (2, .fresh), (3, .fresh), (4, .flt), (5, .flt), (6, .flt)]) rfl mixed (by kernel_rfl) (by kernel_rfl) (by kernel_rfl) (by decide) (by decide) rfl (by kernel_rfl) ?_
    refine god2 ?_
    refine Gr2.flt rfl rfl rfl rfl rfl (AllocOk.mkS (nb := 24) (x := Value.slice none 0 0) rfl ?_) ?_
    · omega
    refine Gr2.flt rfl rfl rfl rfl rfl (AllocOk.mkM kUse kInt) ?_
    refine Gr2.flt rfl rfl rfl rfl rfl (AllocOk.mkM kInt kInt) ?_
    refine god2 ?_
    refine Sg2.one (td := [(2, .old), (3, .old)]) rfl (by kernel_rfl) fun F1_ => ?_
    dsimp only [List.cons_append, List.nil_append]
    refine SpOp.eff rfl rfl rfl rfl rfl (Eff.call (R := ?_) (clone_gate r v gates hm) rfl ?_ ?_)
    rotate_left
    · exact tkl_
    rintro v' -
    dsimp only [List.cons_append, List.nil_append, id]
    refine Sn.ok ?_
    refine god2 ?_
    refine Sg2.flt (td := []) rfl rfl rfl rfl (by kernel_rfl) fun _ => ?_
    refine god2 ?_
    refine Sg2.flt (td := []) rfl rfl rfl rfl (by kernel_rfl) fun _ => ?_
    refine god2 ?_
    refine Sg2.flt (td := []) rfl rfl rfl rfl (by kernel_rfl) fun _ => ?_
    refine god2 ?_
    refine Sg2.one (td := []) rfl (by kernel_rfl) fun F7_ => ?_
    dsimp only [List.cons_append, List.nil_append]
    (with_reducible first|refine SpOp.eff rfl rfl rfl rfl rfl (Eff.x (Qx.build rfl) ?_)|refine SpOp.eff rfl rfl rfl rfl rfl (Eff.alloc fun _ => ?_)|refine SpOp.eff rfl rfl rfl rfl rfl (Eff.box fun _ => ?_)|refine SpOp.eff rfl rfl rfl rfl rfl (Eff.bslice rfl rfl fun _ => ?_)|(refine SpOp.eff rfl rfl rfl rfl rfl (Eff.append1 rfl ?_ fun _ => ?_);(first|exact True.intro|omega|(unfold in64;omega)|(simp only [List.length_append,List.length_cons,List.length_nil,List.length_set];omega)))|refine SpOp.eff0 rfl rfl rfl rfl (Eff.store rfl rfl ?_)|(refine SpOp.eff0 rfl rfl rfl rfl (Eff.storeE rfl ?_ ?_);(first|exact True.intro|omega|(unfold in64;omega)|(simp only [List.length_append,List.length_cons,List.length_nil,List.length_set];omega))))
    refine Sn.ok ?_
    refine god2 ?_
    refine Sg2.one (td := []) rfl (by kernel_rfl) fun F8_ => ?_
    dsimp only [List.cons_append, List.nil_append]
    (with_reducible first|refine SpOp.eff rfl rfl rfl rfl rfl (Eff.x (Qx.build rfl) ?_)|refine SpOp.eff rfl rfl rfl rfl rfl (Eff.alloc fun _ => ?_)|refine SpOp.eff rfl rfl rfl rfl rfl (Eff.box fun _ => ?_)|refine SpOp.eff rfl rfl rfl rfl rfl (Eff.bslice rfl rfl fun _ => ?_)|(refine SpOp.eff rfl rfl rfl rfl rfl (Eff.append1 rfl ?_ fun _ => ?_);(first|exact True.intro|omega|(unfold in64;omega)|(simp only [List.length_append,List.length_cons,List.length_nil,List.length_set];omega)))|refine SpOp.eff0 rfl rfl rfl rfl (Eff.store rfl rfl ?_)|(refine SpOp.eff0 rfl rfl rfl rfl (Eff.storeE rfl ?_ ?_);(first|exact True.intro|omega|(unfold in64;omega)|(simp only [List.length_append,List.length_cons,List.length_nil,List.length_set];omega))))
    refine Sn.ok ?_
    refine god2 ?_
    rw [show ((gates.length : Int)).toNat = gates.length from by simp]
    exact Dn.weak (by repeat(first|exact Env.le_nil _|(refine Env.le_cons rfl ?_ ?_;first|rfl|(simp;done)|exact congrArg _ (by omega)|rotate_left))) (by exact ent_) (kk (_, _, _, _, _))
  rintro ⟨p, v', u, am, sm⟩
  dsimp only [List.cons_append, List.nil_append]
  cases lp with
  | none =>
    dsimp only [Option.map]
    refine go ?_
    refine Dn.ret1 rfl rfl fun w hs => ⟨(p, mkG noFl v' u am sm gates), rfl, ⟨rfl, rfl, rfl, rfl, rfl, rfl, rfl⟩, hs⟩
  | some l =>
    dsimp only [Option.map]
    repeat(first|(with_reducible refine Ol.g ?_;first|(refine Ol.q rfl rfl rfl ?_ ?_;(first|exact True.intro|omega|(unfold in64;omega)|(simp only [List.length_append,List.length_cons,List.length_nil,List.length_set];omega)))|with_reducible refine Ol.nil ?_|refine Ol.skip rfl rfl ?_|refine Ol.eff rfl rfl rfl (Eff.x (Qx.build rfl) ?_)|refine Ol.skip0 rfl ?_|(refine Ol.ga ?_;dsimp only [List.append])|refine Ol.eff rfl rfl rfl (Eff.alloc fun _ => ?_)|refine Ol.eff rfl rfl rfl (Eff.box fun _ => ?_)|refine Ol.eff0 rfl rfl (Eff.store rfl rfl ?_)|refine Ol.eff rfl rfl rfl (Eff.bslice rfl rfl fun _ => ?_)|(refine Ol.eff0 rfl rfl (Eff.storeE rfl ?_ ?_);(first|exact True.intro|omega|(unfold in64;omega)|(simp only [List.length_append,List.length_cons,List.length_nil,List.length_set];omega)))|(refine Ol.eff rfl rfl rfl (Eff.append1 rfl ?_ fun _ => ?_);(first|exact True.intro|omega|(unfold in64;omega)|(simp only [List.length_append,List.length_cons,List.length_nil,List.length_set];omega))))|(with_reducible refine Cd.g ?_;first|with_reducible refine Cd.seq ?_|with_reducible refine Cd.region ?_|with_reducible refine Cd.skip ?_|with_reducible refine Cd.ret ?_|with_reducible refine Cd.block ?_|with_reducible refine Cd.exit ?_|(with_reducible refine Cd.condg ?_;first|refine Cd.cond_t rfl ?_|refine Cd.cond_f rfl ?_))|(with_reducible refine Dn.g ?_;first|with_reducible refine Dn.then ?_|with_reducible refine Dn.ret_then ?_|with_reducible refine Dn.ret_block ?_|with_reducible refine Dn.block ?_|with_reducible refine Dn.exit_then ?_|with_reducible refine Dn.exit_at ?_|with_reducible refine Dn.exit_by rfl ?_))
    refine Dn.ret1 rfl rfl fun w hs => ⟨(p, mkG (flV (some l)) v' u am sm gates), rfl, ⟨rfl, rfl, rfl, rfl, rfl, rfl, rfl⟩, hs.conv (show ents _ (slB r e_api_Gate v gates :: gateH p (mkG (.func (.func 43) #[.pointer (some ⟨l, 0, none⟩)] #[]) v' u am sm gates) ++ R) from by exact ent_)⟩
-- FN (*confidant/gate.Gates).Asked
theorem gate_Asked (p : Nat) (s : GS) (n label : Int) :
    Sp Try.prog 22 [.pointer (some ⟨p, 0, none⟩), .int .i64 n, .int .i64 label] (gateH p s) (fun _ : Unit => True) (fun _ => .int .i64 ((s.asked ⟨n, label⟩).getD 0)) (fun _ => gateH p s) := by
  refine Sp.intro (n := 15) Try.func22 rfl rfl fun w0 R => ?_
  dsimp only [List.cons_append, List.nil_append, envOf]
  refine go ?_
  refine Dn.ret1 rfl rfl fun w hs => ⟨(), rfl, trivial, hs⟩
end Go.Proofs.Ytefmjphokgnobaa

