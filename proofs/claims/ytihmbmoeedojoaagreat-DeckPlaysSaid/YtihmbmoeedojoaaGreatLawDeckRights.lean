/- Contracts of functions of the program, proved in a small separation logic. Conditions: those that each theorem states. -/
import Derived.Test.YtihmbmoeedojoaaGreatDeck8
namespace Go.Proofs.YtihmbmoeedojoaaGreat
open Go Go.Sl
set_option maxHeartbeats 4000000
set_option maxRecDepth 100000
set_option linter.unusedVariables false
abbrev partOf (a b c : Int) (vi vp : Value) : S_api_Part := ⟨a % 6 + 1, decide (b % 2 = 0), c % 60 + 5, a % 5, b % 9 + 1, vi, vp, orI .u64 (shlI .u64 a 8) c⟩
def partI (a b c : Int) : List Int := [a, b, IntKind.i32.wrap (c - 100)].take (a % 4).toNat
def partP (a b c : Int) : List Int := [a, b, c, b].take (b % 5).toNat
-- FN confidant/confidantseat.Part
theorem seat_Part (a b c : Int) (ha : 0 ≤ a ∧ a ≤ 255) (hb : 0 ≤ b ∧ b ≤ 255) (hc : 0 ≤ c ∧ c ≤ 255) :
    Sp Tryz.prog 5 [.int .u8 a, .int .u8 b, .int .u8 c] [] (fun _ : Value × Value => True) (fun y => partV (partOf a b c y.1 y.2)) (fun y => [sl (eInt .i32) y.1 (partI a b c), sl (eInt .u8) y.2 (partP a b c)]) := by
  refine Sp.intro (n := 51) Tryz.func5 rfl rfl fun w0 R => ?_
  dsimp only [List.cons_append, List.nil_append, envOf]
  refine go ?_;repeat((with_reducible refine Ol.g ?_);(first|refine Ol.eff rfl rfl rfl (Eff.alloc fun _=>?_)|refine Ol.eff rfl rfl rfl (Eff.box fun _=>?_)|refine Ol.eff0 rfl rfl (Eff.store rfl rfl ?_)|refine Ol.eff rfl rfl rfl (Eff.bslice rfl rfl fun _=>?_)|(refine Ol.eff0 rfl rfl (Eff.storeE rfl ?_ ?_);exact pre_)|(refine Ol.eff rfl rfl rfl (Eff.append1 rfl ?_ fun _=>?_);exact pre_));refine go ?_)
  rename_i cc
  refine Cd.draw [[], [0], [0, 1], [0, 1, 2], [], [4], [4, 5], [], [7], [7, 8], [7, 8, 9], [], [11], [11, 12], [], [14], [14, 15], [14, 15, 16], [], [18], [], [20], [], [22], [22, 23], [18, 19, 20, 21, 22, 23, 24], [], [26], [18, 19, 20, 21, 22, 23, 24, 25, 26, 27], [], [], [], [], [29, 30, 31, 32], [], [34], [29, 30, 31, 32, 33, 34, 35], [], [37], [37, 38], [], [40], [37, 38, 39, 40, 41], [0, 1, 2, 3, 4, 5, 6, 7, 8, 9, 10, 11, 12, 13, 14, 15, 16, 17, 18, 19, 20, 21, 22, 23, 24, 25, 26, 27, 28, 29, 30, 31, 32, 33, 34, 35, 36, 37, 38, 39, 40, 41, 42], [0, 1, 2, 3, 4, 5, 6, 7, 8, 9, 10, 11, 12, 13, 14, 15, 16, 17, 18, 19, 20, 21, 22, 23, 24, 25, 26, 27, 28, 29, 30, 31, 32, 33, 34, 35, 36, 37, 38, 39, 40, 41, 42, 43]] [25, 33, 44] (td := [(0, true), (1, true), (2, true), (3, true), (4, true), (5, true), (6, true), (7, true), (8, true), (9, true), (10, true), (11, true), (12, true), (13, true), (14, true), (15, true), (16, true), (17, true), (18, true), (19, true), (20, true), (21, true), (22, true), (23, true), (24, true), (26, true), (27, true), (29, true), (30, true), (31, true), (32, true), (34, true), (35, true), (37, true), (38, true), (39, true), (40, true), (41, true), (42, true)]) mixed (by kernel_rfl) (by decide) (by decide) (by kernel_rfl) ?_
  refine god ?_
  repeat' (first|(refine GrL.q rfl rfl rfl rfl rfl ?_ ?_;(first|exact True.intro|omega|(unfold in64;omega)|(simp only [List.length_append,List.length_cons,List.length_nil,List.length_set];omega)))|(refine GrL.old rfl rfl rfl rfl rfl ?_ ?_;(first|exact True.intro|omega|(unfold in64;omega)|(simp only [List.length_append,List.length_cons,List.length_nil,List.length_set];omega)))|refine GrL.x rfl rfl rfl rfl rfl (Qx.build rfl) ?_|refine GrL.oldx rfl rfl rfl rfl rfl (Qx.build rfl) ?_|with_reducible refine GrL.done ?_|refine Sg.fin ?_|exact AllSp.nil|refine AllSp.cons rfl ?_ ?_|refine Sg.all rfl ?_|refine SpOp.eff rfl rfl rfl rfl rfl (Eff.alloc fun _ => ?_)|refine SpOp.eff rfl rfl rfl rfl rfl (Eff.box fun _ => ?_)|refine SpOp.eff rfl rfl rfl rfl rfl (Eff.bslice rfl rfl fun _ => ?_)|(refine SpOp.eff rfl rfl rfl rfl rfl (Eff.append1 rfl ?_ fun _ => ?_);(first|exact True.intro|omega|(unfold in64;omega)|(simp only [List.length_append,List.length_cons,List.length_nil,List.length_set];omega)))|refine SpOp.eff0 rfl rfl rfl rfl (Eff.store rfl rfl ?_))
  · rename_i v1 v2
    refine GrL.done ?_
    refine Sg.fin ?_
    refine go ?_
    refine Dn.retC rfl rfl trivial fun w hs => ⟨(cutV v1 (a % 4).toNat, cutV v2 (b % 5).toNat), rfl, trivial, hs.conv ?_⟩
    exact ents.cutS (h := (a % 4).toNat) (E := eInt .i32) (v := v1) (xs := [a, b, IntKind.i32.wrap (c - 100)]) (by exact tk_) (by simp; omega) (ents.cutS (h := (b % 5).toNat) (E := eInt .u8) (v := v2) (xs := [a, b, c, b]) (by exact tk_) (by simp; omega) (by exact ent_))
  · rename_i v2 v1
    refine GrL.done ?_
    refine Sg.fin ?_
    refine go ?_
    refine Dn.retC rfl rfl trivial fun w hs => ⟨(cutV v1 (a % 4).toNat, cutV v2 (b % 5).toNat), rfl, trivial, hs.conv ?_⟩
    exact ents.cutS (h := (a % 4).toNat) (E := eInt .i32) (v := v1) (xs := [a, b, IntKind.i32.wrap (c - 100)]) (by exact tk_) (by simp; omega) (ents.cutS (h := (b % 5).toNat) (E := eInt .u8) (v := v2) (xs := [a, b, c, b]) (by exact tk_) (by simp; omega) (by exact ent_))
theorem partI_len (a b c : Int) : (partI a b c).length ≤ 3 := by unfold partI; rw [List.length_take]; simp; omega
theorem partP_len (a b c : Int) : (partP a b c).length ≤ 4 := by unfold partP; rw [List.length_take]; simp; omega
end Go.Proofs.YtihmbmoeedojoaaGreat

