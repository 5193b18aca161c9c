/- Contracts of functions of the program, proved in a small separation logic. Conditions: those that each theorem states. -/
import Derived.Test.YtcgjmlapmdbnmaaTree3
import Derived.Test.YtcgjmlapmdbnmaaGate3
import Derived.Test.YtcgjmlapmdbnmaaLattice2
namespace Go.Proofs.Ytcgjmlapmdbnmaa
open Go Go.Sl
set_option maxHeartbeats 4000000
set_option maxRecDepth 100000
set_option linter.unusedVariables false
-- FN confidant/tree.Value
theorem tree_Value (v : Value) (xs : List S_api_Tree) (T : List TN) :
    Sp Try.prog 18 [v] [rsl e_api_Tree v xs, rel2 tnC xs T] (fun _ : Unit => True) (fun _ => match rightB T 16 with | true => .tuple #[.int .i32 (valT T T.length 0), .bool true] | false => .tuple #[.int .i32 0, .bool false]) (fun _ => []) := by
  refine Sp.intro (n := 9) Try.func18 rfl rfl fun w0 R => ?_
  dsimp only [List.cons_append, List.nil_append, envOf]
  refine go ?_
  with_reducible refine Ol.g ?_
  refine Ol.eff rfl rfl rfl (Eff.call (R := ?_) (tree_Right v xs T 16) rfl ?_ ?_)
  rotate_left
  · exact tkl_
  rintro _ -
  dsimp only [List.cons_append, List.nil_append]
  cases hr : rightB T 16 with
  | false =>
    refine go ?_
    refine Dn.ret2 rfl rfl rfl fun w hs => ⟨(), rfl, trivial, hs.conv (by exact ent_)⟩
  | true =>
    have hT := rightB_len hr
    refine go ?_
    with_reducible refine Ol.g ?_
    refine Ol.eff rfl rfl rfl (Eff.call (R := ?_) (tree_value v xs T 16 hr T.length 0 (by omega) (by omega) (by omega)) rfl ?_ ?_)
    rotate_left
    · exact tkl_
    rintro _ -
    dsimp only [List.cons_append, List.nil_append]
    refine go ?_
    refine Dn.ret2 rfl rfl rfl fun w hs => ⟨(), rfl, trivial, hs.conv (by exact ent_)⟩
-- FN confidant/tree.Tasks
theorem tree_Tasks (v : Value) (xs : List S_api_Tree) (T : List TN) :
    Sp Try.prog 25 [v] [rsl e_api_Tree v xs, rel2 tnC xs T] (fun _ : Unit => True) (fun _ => .int .i64 (match rightB T 16 with | true => (T.length : Int) | false => 0)) (fun _ => []) := by
  refine Sp.intro (n := 8) Try.func25 rfl rfl fun w0 R => ?_
  dsimp only [List.cons_append, List.nil_append, envOf]
  first | (with_reducible refine Cd.g ?_; refine Cd.know (fun w_ hw_ => rel2_len (Tk.sat (A := (rel2 tnC xs T)) (by exact tk_) hw_)) fun hl => ?_) | (with_reducible refine Ol.g ?_; refine Ol.know (fun w_ hw_ => rel2_len (Tk.sat (A := (rel2 tnC xs T)) (by exact tk_) hw_)) fun hl => ?_) | (with_reducible refine Dn.g ?_; refine Dn.know (fun w_ hw_ => rel2_len (Tk.sat (A := (rel2 tnC xs T)) (by exact tk_) hw_)) fun hl => ?_)
  refine go ?_
  with_reducible refine Ol.g ?_
  refine Ol.eff rfl rfl rfl (Eff.call (R := ?_) (tree_Right v xs T 16) rfl ?_ ?_)
  rotate_left
  · exact tkl_
  rintro _ -
  dsimp only [List.cons_append, List.nil_append]
  cases hr : rightB T 16 with
  | false =>
    refine go ?_
    refine Dn.ret1 rfl rfl fun w hs => ⟨(), rfl, trivial, hs.conv (by exact ent_)⟩
  | true =>
    refine go ?_
    refine Dn.ret1 rfl rfl fun w hs => ⟨(), by rw [hl], trivial, hs.conv (by exact ent_)⟩
-- FN (*confidant/lattice.Lattice).Len
theorem lattice_Len (p : Nat) (V : LatV) (ok : V.ok) :
    Sp Try.prog 62 [.pointer (some ⟨p, 0, none⟩)] [lat p V] (fun _ : Unit => True) (fun _ => .int .i64 V.leq.length) (fun _ => []) := by
  have hl := ok.l1
  refine Sp.intro (n := 8) Try.func62 rfl rfl fun w0 R => ?_
  dsimp only [List.cons_append, List.nil_append, envOf]
  refine Cd.stars ?_
  dsimp only [List.cons_append, List.nil_append]
  refine go ?_
  refine Dn.ret1 rfl rfl fun w hs => ⟨(), by rw [hl], trivial, hs.conv (by exact ent_)⟩
-- FN (*confidant/lattice.Lattice).Bottom
theorem lattice_Bottom (p : Nat) (V : LatV) :
    Sp Try.prog 63 [.pointer (some ⟨p, 0, none⟩)] [lat p V] (fun _ : Unit => True) (fun _ => .int .i64 V.bot) (fun _ => []) := by
  refine Sp.intro (n := 7) Try.func63 rfl rfl fun w0 R => ?_
  dsimp only [List.cons_append, List.nil_append, envOf]
  refine Cd.stars ?_
  dsimp only [List.cons_append, List.nil_append]
  refine go ?_
  refine Dn.ret1 rfl rfl fun w hs => ⟨(), rfl, trivial, hs.conv (by exact ent_)⟩
def labT (V : LatV) (T : List TN) (k : Nat) : Int := (T.take k).foldl (fun c n => atB V.join c n.label (-1)) V.bot
-- FN confidant/tree.Label
theorem tree_LabelN (v : Value) (xs : List S_api_Tree) (T : List TN) :
    Sp Try.prog 22 [.pointer none, v] [rsl e_api_Tree v xs, rel2 tnC xs T] (fun _ : Unit => True) (fun _ => .tuple #[.int .i64 0, .bool false]) (fun _ => []) := by
  refine Sp.intro (n := 33) Try.func22 rfl rfl fun w0 R => ?_
  dsimp only [List.cons_append, List.nil_append, envOf]
  refine go ?_
  refine Dn.ret2 rfl rfl rfl fun w hs => ⟨(), rfl, trivial, hs.conv (by exact ent_)⟩
-- FN confidant/tree.Label
theorem tree_Label (p : Nat) (V : LatV) (ok : V.ok) (v : Value) (xs : List S_api_Tree) (T : List TN) :
    Sp Try.prog 22 [.pointer (some ⟨p, 0, none⟩), v] [lat p V, rsl e_api_Tree v xs, rel2 tnC xs T] (fun _ : Unit => True) (fun _ => match rightB T V.leq.length with | true => .tuple #[.int .i64 (labT V T T.length), .bool true] | false => .tuple #[.int .i64 0, .bool false]) (fun _ => []) := by
  refine Sp.intro (n := 33) Try.func22 rfl rfl fun w0 R => ?_
  dsimp only [List.cons_append, List.nil_append, envOf]
  first | (with_reducible refine Cd.g ?_; refine Cd.know (fun w_ hw_ => rel2_len (Tk.sat (A := (rel2 tnC xs T)) (by exact tk_) hw_)) fun hl => ?_) | (with_reducible refine Ol.g ?_; refine Ol.know (fun w_ hw_ => rel2_len (Tk.sat (A := (rel2 tnC xs T)) (by exact tk_) hw_)) fun hl => ?_) | (with_reducible refine Dn.g ?_; refine Dn.know (fun w_ hw_ => rel2_len (Tk.sat (A := (rel2 tnC xs T)) (by exact tk_) hw_)) fun hl => ?_)
  refine go ?_
  with_reducible refine Ol.g ?_
  refine Ol.eff rfl rfl rfl (Eff.call (R := ?_) (lattice_Len p V ok) rfl ?_ ?_)
  rotate_left
  · exact tkl_
  rintro _ -
  dsimp only [List.cons_append, List.nil_append]
  refine go ?_
  with_reducible refine Ol.g ?_
  refine Ol.eff rfl rfl rfl (Eff.call (R := ?_) (tree_Right v xs T V.leq.length) rfl ?_ ?_)
  rotate_left
  · exact tkl_
  rintro _ -
  dsimp only [List.cons_append, List.nil_append]
  cases hr : rightB T V.leq.length with
  | false =>
    refine go ?_
    refine Dn.ret2 rfl rfl rfl fun w hs => ⟨(), rfl, trivial, hs.conv (by exact ent_)⟩
  | true =>
    have hT := rightB_len hr
    refine go ?_
    with_reducible refine Ol.g ?_
    refine Ol.eff rfl rfl rfl (Eff.call (R := ?_) (lattice_Bottom p V) rfl ?_ ?_)
    rotate_left
    · exact tkl_
    rintro _ -
    dsimp only [List.cons_append, List.nil_append]
    refine go ?_
    refine Cd.loop (fun k : Nat => k ≤ T.length) (fun k => T.length - k) (fun k => [(0, .pointer (some ⟨p, 0, none⟩)), (6, .int .i64 (labT V T k)), (20, v), (21, .int .i64 xs.length), (22, .int .i64 k)])
      (fun k => lat p V :: rsl e_api_Tree v xs :: rel2 tnC xs T :: R) 0 (by omega) ?_ ?_ ?_
    · rw [show labT V T 0 = V.bot from rfl]
      repeat(first|exact Env.le_nil _|(refine Env.le_cons rfl ?_ ?_;first|rfl|(simp;done)|exact congrArg _ (by omega)|rotate_left))
    · exact ent_
    intro k hk
    refine go ?_
    refine Cd.condP rfl (fun h => ?_) (fun h => ?_)
    · have hk2 : k < T.length := by omega
      refine Cd.conv (Tk.more (p := rel2_pers (fun _ _ => inferInstance) _ _) (A := rel2 tnC xs T) (rel2_gotI (i := k) (by omega) (by omega)) (by exact tk_)) ?_
      first | (with_reducible refine Cd.g ?_; refine Cd.pk (A := (tnC (rd xs k) (rd T k))) rfl (by exact tk_) fun q hq => ?_) | (with_reducible refine Ol.g ?_; refine Ol.pk (A := (tnC (rd xs k) (rd T k))) rfl (by exact tk_) fun q hq => ?_) | (with_reducible refine Dn.g ?_; refine Dn.pk (A := (tnC (rd xs k) (rd T k))) rfl (by exact tk_) fun q hq => ?_)
      dsimp only [List.cons_append, List.nil_append]
      refine Cd.conv (H' := lat p V :: latB true p V ++ (rsl e_api_Tree v xs :: rel2 tnC xs T :: rsl (eInt .i64) (rd xs k).f_Kids (rd T k).kids :: R)) (by
        dsimp only [List.cons_append, List.nil_append]
        refine ents.trans (Tk.more (p := inferInstance) (A := lat p V) (went.refl _) (by exact tk_)) ?_
        refine ents.cons (by exact tk_) ?_
        exact ents.trans (show ents _ (lat p V :: rsl e_api_Tree v xs :: rel2 tnC xs T :: rsl (eInt .i64) (rd xs k).f_Kids (rd T k).kids :: R) from by exact ent_) (stars_app (latB true p V) _)) ?_
      dsimp only [List.cons_append, List.nil_append]
      refine go ?_;repeat((with_reducible refine Ol.g ?_);(first|refine Ol.eff rfl rfl rfl (Eff.alloc fun _=>?_)|refine Ol.eff rfl rfl rfl (Eff.box fun _=>?_)|refine Ol.eff0 rfl rfl (Eff.store rfl rfl ?_)|refine Ol.eff rfl rfl rfl (Eff.bslice rfl rfl fun _=>?_)|(refine Ol.eff0 rfl rfl (Eff.storeE rfl ?_ ?_);exact pre_)|(refine Ol.eff rfl rfl rfl (Eff.append1 rfl ?_ fun _=>?_);exact pre_));refine go ?_)
      rw [hq.2.2]
      with_reducible refine Ol.g ?_
      refine Ol.eff rfl rfl rfl (Eff.call (R := ?_) (lattice_JoinB true p V ok (labT V T k) (rd T k).label) rfl ?_ ?_)
      rotate_left
      · exact tkl_
      rintro _ -
      dsimp only [List.cons_append, List.nil_append]
      refine go ?_
      refine Dn.round (k + 1) (by omega) (by omega) ?_ (by exact ent_)
      rw [show labT V T (k + 1) = atB V.join (labT V T k) (rd T k).label (-1) from by unfold labT; rw [take_rd hk2, List.foldl_append]; rfl]
      repeat(first|exact Env.le_nil _|(refine Env.le_cons rfl ?_ ?_;first|rfl|(simp;done)|exact congrArg _ (by omega)|rotate_left))
    · have hkk : k = T.length := by omega
      subst hkk
      refine go ?_
      refine Dn.ret2 rfl rfl rfl fun w hs => ⟨(), rfl, trivial, hs.conv (by exact ent_)⟩
end Go.Proofs.Ytcgjmlapmdbnmaa

