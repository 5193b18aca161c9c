/- Contracts of functions of the program, proved in a small separation logic. Conditions: those that each theorem states. -/
import Derived.Test.YtcgjmlapmdbnmaaTree5
import Derived.Test.YtcgjmlapmdbnmaaLattice4
namespace Go.Proofs.Ytcgjmlapmdbnmaa
open Go Go.Sl
set_option maxHeartbeats 4000000
set_option maxRecDepth 100000
set_option linter.unusedVariables false
theorem ents.rcons2 {α β : Type} {R : α → β → HProp} {v : α} {u : β} {l : List α} {q : List β} {H H1 L : List HProp} (t : Tk H (R v u) H1) (k : ents H1 (rel2 R l q :: L)) : ents H (rel2 R (v :: l) (u :: q) :: L) :=
  went.trans t (went.trans (went.star (went.refl _) k) (went.trans (went.of (star_assoc' _ _ _)) (went.star rel2_cons (went.refl _))))
abbrev T29 : List TN := [⟨2, 0, 0, [1, 2]⟩, ⟨1, 3, 0, []⟩, ⟨1, 4, 1, []⟩]
theorem t29_a : rightB T29 16 = true := by decide +kernel
theorem t29_b : rightB T29 2 = true := by decide +kernel
theorem t29_c : rightB T29 1 = false := by decide +kernel
theorem t29_v : valT T29 3 0 = 7 := by decide +kernel
theorem t29_l : (codeT T29 (rd T29 0)).length = 14 := by decide +kernel
theorem t29_n : rightB [] 16 = false := by decide +kernel
theorem chain2_ok : latOk (tabT 2 2 leI) = true := by decide +kernel
theorem t29_lab {V : LatV} (hV : isLat (tabT 2 2 leI) V) : labT V T29 T29.length = 1 := by
  unfold labT; rw [hV.join, hV.bot]; decide +kernel
-- FN confidant/confidantlaw29.known
theorem law29_known : Sp Try.prog 11 [] [] (fun _ : Unit => True) (fun _ => .bool true) (fun _ => []) := by
  refine Sp.intro (n := 98) Try.func11 rfl rfl fun w0 R => ?_
  dsimp only [List.cons_append, List.nil_append, envOf]
  refine go ?_;repeat((with_reducible refine Ol.g ?_);(first|refine Ol.eff rfl rfl rfl (Eff.alloc fun _=>?_)|refine Ol.eff rfl rfl rfl (Eff.box fun _=>?_)|refine Ol.eff0 rfl rfl (Eff.store rfl rfl ?_)|refine Ol.eff rfl rfl rfl (Eff.bslice rfl rfl fun _=>?_)|(refine Ol.eff0 rfl rfl (Eff.storeE rfl ?_ ?_);exact pre_)|(refine Ol.eff rfl rfl rfl (Eff.append1 rfl ?_ fun _=>?_);exact pre_));refine go ?_)
  rename_i va vt
  first | (with_reducible refine Cd.g ?_; refine Cd.share (A := (sl (eInt .i64) va [1, 2])) (by exact tk_) ?_) | (with_reducible refine Ol.g ?_; refine Ol.share (A := (sl (eInt .i64) va [1, 2])) (by exact tk_) ?_) | (with_reducible refine Dn.g ?_; refine Dn.share (A := (sl (eInt .i64) va [1, 2])) (by exact tk_) ?_)
  first | (with_reducible refine Cd.g ?_; refine Cd.share (A := (sl e_api_Tree vt _)) (by exact tk_) ?_) | (with_reducible refine Ol.g ?_; refine Ol.share (A := (sl e_api_Tree vt _)) (by exact tk_) ?_) | (with_reducible refine Dn.g ?_; refine Dn.share (A := (sl e_api_Tree vt _)) (by exact tk_) ?_)
  refine Ol.conv (H' := rsl e_api_Tree vt [⟨2, 0, 0, va⟩, ⟨1, 3, 0, .slice none 0 0⟩, ⟨1, 4, 1, .slice none 0 0⟩] :: rel2 tnC [⟨2, 0, 0, va⟩, ⟨1, 3, 0, .slice none 0 0⟩, ⟨1, 4, 1, .slice none 0 0⟩] T29 :: R) (ents.cons (by exact tk_) (ents.rcons2 (Tk.pk (A := tnC _ _) rfl () ⟨rfl, rfl, rfl⟩ (by exact tkl_)) (ents.rcons2 (Tk.pk (A := tnC _ _) rfl () ⟨rfl, rfl, rfl⟩ (by exact tkl_)) (ents.rcons2 (Tk.pk (A := tnC _ _) rfl () ⟨rfl, rfl, rfl⟩ (by exact tkl_)) (by exact ent_))))) ?_
  generalize hxs : ([⟨2, 0, 0, va⟩, ⟨1, 3, 0, .slice none 0 0⟩, ⟨1, 4, 1, .slice none 0 0⟩] : List S_api_Tree) = xs
  with_reducible refine Ol.g ?_
  refine Ol.eff rfl rfl rfl (Eff.call (R := ?_) (tree_Value vt xs T29) rfl ?_ ?_)
  rotate_left
  · exact tkl_
  rintro _ -
  dsimp only [List.cons_append, List.nil_append]
  rw [t29_a, show valT T29 T29.length 0 = 7 from t29_v]
  refine go ?_
  with_reducible refine Ol.g ?_
  refine Ol.eff rfl rfl rfl (Eff.call (R := ?_) (tree_Compile vt xs T29) rfl ?_ ?_)
  rotate_left
  · exact tkl_
  rintro ⟨vm, rows⟩ -
  rw [t29_a]
  dsimp only [List.cons_append, List.nil_append]
  first | (with_reducible refine Cd.g ?_; refine Cd.know (fun w_ hw_ => rws_len (Tk.sat (A := (rws false e_api_Instr rows _)) (by exact tk_) hw_)) fun hrl => ?_) | (with_reducible refine Ol.g ?_; refine Ol.know (fun w_ hw_ => rws_len (Tk.sat (A := (rws false e_api_Instr rows _)) (by exact tk_) hw_)) fun hrl => ?_) | (with_reducible refine Dn.g ?_; refine Dn.know (fun w_ hw_ => rws_len (Tk.sat (A := (rws false e_api_Instr rows _)) (by exact tk_) hw_)) fun hrl => ?_)
  have hr3 : rows.length = 3 := hrl
  refine go ?_
  with_reducible refine Ol.g ?_
  refine Ol.eff rfl rfl rfl (Eff.call (R := ?_) (lattice_Chain 2 ⟨by omega, by omega⟩) rfl ?_ ?_)
  rotate_left
  · exact tkl_
  rintro ⟨v, lrows⟩ -
  dsimp only [List.cons_append, List.nil_append]
  first | (with_reducible refine Cd.g ?_; refine Cd.know (fun w_ hw_ => rws_len (Tk.sat (A := (rws false eBool lrows (tabT 2 2 leI))) (by exact tk_) hw_)) fun hl => ?_) | (with_reducible refine Ol.g ?_; refine Ol.know (fun w_ hw_ => rws_len (Tk.sat (A := (rws false eBool lrows (tabT 2 2 leI))) (by exact tk_) hw_)) fun hl => ?_) | (with_reducible refine Dn.g ?_; refine Dn.know (fun w_ hw_ => rws_len (Tk.sat (A := (rws false eBool lrows (tabT 2 2 leI))) (by exact tk_) hw_)) fun hl => ?_)
  first | (with_reducible refine Cd.g ?_; refine Cd.share (A := (sl eVal v lrows)) (by exact tk_) ?_) | (with_reducible refine Ol.g ?_; refine Ol.share (A := (sl eVal v lrows)) (by exact tk_) ?_) | (with_reducible refine Dn.g ?_; refine Dn.share (A := (sl eVal v lrows)) (by exact tk_) ?_)
  first | (with_reducible refine Cd.g ?_; refine Cd.share (A := (rws false eBool lrows (tabT 2 2 leI))) (by exact tk_) ?_) | (with_reducible refine Ol.g ?_; refine Ol.share (A := (rws false eBool lrows (tabT 2 2 leI))) (by exact tk_) ?_) | (with_reducible refine Dn.g ?_; refine Dn.share (A := (rws false eBool lrows (tabT 2 2 leI))) (by exact tk_) ?_)
  refine go ?_
  with_reducible refine Ol.g ?_
  refine Ol.eff rfl rfl rfl (Eff.call (R := ?_) (lattice_New v lrows (tabT 2 2 leI) hl (by show 2 ≤ _; omega)) rfl ?_ ?_)
  rotate_left
  · exact tkl_
  rintro (_ | ⟨lp, V⟩) hx
  · exact absurd hx (by show ¬ latOk _ = false; rw [chain2_ok]; simp)
  have hV : isLat (tabT 2 2 leI) V := hx.2
  have hVl : V.leq.length = 2 := by rw [hV.leq]; rfl
  dsimp only [newV, newH, List.cons_append, List.nil_append]
  refine go ?_
  with_reducible refine Ol.g ?_
  refine Ol.eff rfl rfl rfl (Eff.call (R := ?_) (tree_Label lp V hV.ok vt xs T29) rfl ?_ ?_)
  rotate_left
  · exact tkl_
  rintro _ -
  dsimp only [List.cons_append, List.nil_append]
  rw [hVl, show rightB T29 ((2 : Nat) : Int) = true from t29_b, t29_lab hV]
  refine go ?_
  with_reducible refine Ol.g ?_
  refine Ol.eff rfl rfl rfl (Eff.call (R := ?_) (tree_LabelN vt xs T29) rfl ?_ ?_)
  rotate_left
  · exact tkl_
  rintro _ -
  dsimp only [List.cons_append, List.nil_append]
  refine go ?_
  with_reducible refine Ol.g ?_
  refine Ol.eff rfl rfl rfl (Eff.call (R := ?_) (tree_Value (.slice none 0 0) [] []) rfl ?_ ?_)
  rotate_left
  · exact tkl_
  rintro _ -
  dsimp only [List.cons_append, List.nil_append]
  rw [t29_n]
  refine go ?_
  rw [hr3]
  refine go ?_
  rw [show (rd (List.map (codeT T29) T29) 0).length = 14 from t29_l]
  refine go ?_
  with_reducible refine Ol.g ?_
  refine Ol.eff rfl rfl rfl (Eff.call (R := ?_) (tree_Tasks vt xs T29) rfl ?_ ?_)
  rotate_left
  · exact tkl_
  rintro _ -
  dsimp only [List.cons_append, List.nil_append]
  rw [t29_a]
  refine go ?_
  with_reducible refine Ol.g ?_
  refine Ol.eff rfl rfl rfl (Eff.call (R := ?_) (tree_Right vt xs T29 2) rfl ?_ ?_)
  rotate_left
  · exact tkl_
  rintro _ -
  dsimp only [List.cons_append, List.nil_append]
  rw [t29_b]
  refine go ?_
  with_reducible refine Ol.g ?_
  refine Ol.eff rfl rfl rfl (Eff.call (R := ?_) (tree_Right vt xs T29 1) rfl ?_ ?_)
  rotate_left
  · exact tkl_
  rintro _ -
  dsimp only [List.cons_append, List.nil_append]
  rw [t29_c]
  refine go ?_
  refine Dn.ret1 rfl rfl fun w hs => ⟨(), rfl, trivial, hs.conv (by exact ent_)⟩
end Go.Proofs.Ytcgjmlapmdbnmaa

