/- Contracts of functions of the program, proved in a small separation logic. Conditions: those that each theorem states. -/
import Derived.Test.YtcgjmlapmdbnmaaTree6
namespace Go.Proofs.Ytcgjmlapmdbnmaa
open Go Go.Sl
set_option maxHeartbeats 4000000
set_option maxRecDepth 100000
set_option linter.unusedVariables false
abbrev TD (a b l : Int) : List TN := [⟨4, 0, 0, [1, 2]⟩, ⟨1, a, l, []⟩, ⟨1, b, 0, []⟩]
abbrev TD3 (a b l : Int) : List TN := [⟨4, 0, 0, [1, 2, 3]⟩, ⟨1, a, l, []⟩, ⟨1, b, 0, []⟩, ⟨1, 0, 0, []⟩]
theorem td_node0 (a b l n : Int) (hn : 0 < n) : nodeB (TD a b l) 0 n = true := by
  unfold nodeB
  rw [show kidsB (TD a b l).length 0 (rd (TD a b l) 0).kids = true from by show kidsB 3 0 [1, 2] = true; decide +kernel, show kindB (rd (TD a b l) 0).kind (rd (TD a b l) 0).kids.length = true from by show kindB 4 2 = true; decide +kernel]
  show (true && (decide ((0 : Int) ≤ 0 ∧ 0 < n) && true)) = true
  rw [decide_eq_true ⟨Int.le_refl 0, hn⟩]; rfl
theorem td_node1 (a b l n : Int) : nodeB (TD a b l) 1 n = decide (0 ≤ l ∧ l < n) := by
  unfold nodeB
  rw [show kidsB (TD a b l).length 1 (rd (TD a b l) 1).kids = true from by show kidsB 3 1 [] = true; decide +kernel, show kindB (rd (TD a b l) 1).kind (rd (TD a b l) 1).kids.length = true from by show kindB 1 0 = true; decide +kernel]
  show (true && (decide ((0 : Int) ≤ l ∧ l < n) && true)) = _
  simp
theorem td_node2 (a b l n : Int) (hn : 0 < n) : nodeB (TD a b l) 2 n = true := by
  unfold nodeB
  rw [show kidsB (TD a b l).length 2 (rd (TD a b l) 2).kids = true from by show kidsB 3 2 [] = true; decide +kernel, show kindB (rd (TD a b l) 2).kind (rd (TD a b l) 2).kids.length = true from by show kindB 1 0 = true; decide +kernel]
  show (true && (decide ((0 : Int) ≤ 0 ∧ 0 < n) && true)) = true
  rw [decide_eq_true ⟨Int.le_refl 0, hn⟩]; rfl
theorem td_right (a b l n : Int) (hl : 0 ≤ l ∧ l < n) : rightB (TD a b l) n = true := by
  unfold rightB
  rw [show (ints (TD a b l).length).all (fun i => nodeB (TD a b l) i n) = (nodeB (TD a b l) 0 n && (nodeB (TD a b l) 1 n && (nodeB (TD a b l) 2 n && true))) from rfl, td_node0 a b l n (by omega), td_node1, td_node2 a b l n (by omega), decide_eq_true hl]
  rfl
theorem td_right0 (a b l : Int) : rightB (TD a b l) l = false := by
  unfold rightB
  rw [show (ints (TD a b l).length).all (fun i => nodeB (TD a b l) i l) = (nodeB (TD a b l) 0 l && (nodeB (TD a b l) 1 l && (nodeB (TD a b l) 2 l && true))) from rfl, td_node1, show decide (0 ≤ l ∧ l < l) = false from decide_eq_false (by omega)]
  simp
theorem td3_right (a b l n : Int) : rightB (TD3 a b l) n = false := by
  unfold rightB
  rw [show (ints (TD3 a b l).length).all (fun i => nodeB (TD3 a b l) i n) = (nodeB (TD3 a b l) 0 n && (nodeB (TD3 a b l) 1 n && (nodeB (TD3 a b l) 2 n && (nodeB (TD3 a b l) 3 n && true)))) from rfl]
  rw [show nodeB (TD3 a b l) 0 n = false from by
    unfold nodeB
    rw [show kindB (rd (TD3 a b l) 0).kind (rd (TD3 a b l) 0).kids.length = false from by show kindB 4 3 = false; decide +kernel]
    simp]
  simp
-- FN confidant/confidantlaw29.TreeDiffs
theorem law_TreeDiffs (a b label : Int) (hl : 0 ≤ label ∧ label ≤ 255) :
    Sp Try.prog 7 [.int .i32 a, .int .i32 b, .int .u8 label] [] (fun _ : Unit => True) (fun _ => .bool true) (fun _ => []) := by
  refine Sp.intro (n := 97) Try.func7 rfl rfl fun w0 R => ?_
  dsimp only [List.cons_append, List.nil_append, envOf]
  refine go ?_
  with_reducible refine Ol.g ?_
  refine Ol.eff rfl rfl rfl (Eff.call (R := ?_) law29_known rfl ?_ ?_)
  rotate_left
  · exact tkl_
  rintro _ -
  dsimp only [List.cons_append, List.nil_append]
  refine go ?_;repeat((with_reducible refine Ol.g ?_);(first|refine Ol.eff rfl rfl rfl (Eff.alloc fun _=>?_)|refine Ol.eff rfl rfl rfl (Eff.box fun _=>?_)|refine Ol.eff0 rfl rfl (Eff.store rfl rfl ?_)|refine Ol.eff rfl rfl rfl (Eff.bslice rfl rfl fun _=>?_)|(refine Ol.eff0 rfl rfl (Eff.storeE rfl ?_ ?_);exact pre_)|(refine Ol.eff rfl rfl rfl (Eff.append1 rfl ?_ fun _=>?_);exact pre_));refine go ?_)
  rename_i va vt
  generalize hlb : label % 16 = lb
  have hlb2 : 0 ≤ lb ∧ lb < 16 := by omega
  first | (with_reducible refine Cd.g ?_; refine Cd.share (A := (sl (eInt .i64) va [1, 2])) (by exact tk_) ?_) | (with_reducible refine Ol.g ?_; refine Ol.share (A := (sl (eInt .i64) va [1, 2])) (by exact tk_) ?_) | (with_reducible refine Dn.g ?_; refine Dn.share (A := (sl (eInt .i64) va [1, 2])) (by exact tk_) ?_)
  first | (with_reducible refine Cd.g ?_; refine Cd.share (A := (sl e_api_Tree vt _)) (by exact tk_) ?_) | (with_reducible refine Ol.g ?_; refine Ol.share (A := (sl e_api_Tree vt _)) (by exact tk_) ?_) | (with_reducible refine Dn.g ?_; refine Dn.share (A := (sl e_api_Tree vt _)) (by exact tk_) ?_)
  refine Ol.conv (H' := rsl e_api_Tree vt [⟨4, 0, 0, va⟩, ⟨1, a, lb, .slice none 0 0⟩, ⟨1, b, 0, .slice none 0 0⟩] :: rel2 tnC [⟨4, 0, 0, va⟩, ⟨1, a, lb, .slice none 0 0⟩, ⟨1, b, 0, .slice none 0 0⟩] (TD a b lb) :: R) (ents.cons (by exact tk_) (ents.rcons2 (Tk.pk (A := tnC _ _) rfl () ⟨rfl, rfl, rfl⟩ (by exact tkl_)) (ents.rcons2 (Tk.pk (A := tnC _ _) rfl () ⟨rfl, rfl, rfl⟩ (by exact tkl_)) (ents.rcons2 (Tk.pk (A := tnC _ _) rfl () ⟨rfl, rfl, rfl⟩ (by exact tkl_)) (by exact ent_))))) ?_
  generalize hxs : ([⟨4, 0, 0, va⟩, ⟨1, a, lb, .slice none 0 0⟩, ⟨1, b, 0, .slice none 0 0⟩] : List S_api_Tree) = xs
  with_reducible refine Ol.g ?_
  refine Ol.eff rfl rfl rfl (Eff.call (R := ?_) (tree_Value vt xs (TD a b lb)) rfl ?_ ?_)
  rotate_left
  · exact tkl_
  rintro _ -
  dsimp only [List.cons_append, List.nil_append]
  rw [td_right a b lb 16 hlb2, show valT (TD a b lb) (TD a b lb).length 0 = w32 (a - b) from rfl]
  refine go ?_
  with_reducible refine Ol.g ?_
  refine Ol.eff rfl rfl rfl (Eff.call (R := ?_) (tree_Compile vt xs (TD a b lb)) rfl ?_ ?_)
  rotate_left
  · exact tkl_
  rintro ⟨vm, rows⟩ -
  rw [td_right a b lb 16 hlb2]
  dsimp only [List.cons_append, List.nil_append]
  first | (with_reducible refine Cd.g ?_; refine Cd.know (fun w_ hw_ => rws_len (Tk.sat (A := (rws false e_api_Instr rows _)) (by exact tk_) hw_)) fun hrl => ?_) | (with_reducible refine Ol.g ?_; refine Ol.know (fun w_ hw_ => rws_len (Tk.sat (A := (rws false e_api_Instr rows _)) (by exact tk_) hw_)) fun hrl => ?_) | (with_reducible refine Dn.g ?_; refine Dn.know (fun w_ hw_ => rws_len (Tk.sat (A := (rws false e_api_Instr rows _)) (by exact tk_) hw_)) fun hrl => ?_)
  have hr3 : rows.length = 3 := hrl
  refine go ?_
  refine Ol.eff rfl rfl rfl (Eff.appendR rfl ?_ fun v1 => ?_)
  · rw [← hxs]; simp
  rw [List.nil_append]
  have hxl : xs.length = 3 := by rw [← hxs]; rfl
  refine go ?_;repeat((with_reducible refine Ol.g ?_);(first|refine Ol.eff rfl rfl rfl (Eff.alloc fun _=>?_)|refine Ol.eff rfl rfl rfl (Eff.box fun _=>?_)|refine Ol.eff0 rfl rfl (Eff.store rfl rfl ?_)|refine Ol.eff rfl rfl rfl (Eff.bslice rfl rfl fun _=>?_)|(refine Ol.eff0 rfl rfl (Eff.storeE rfl ?_ ?_);exact pre_)|(refine Ol.eff rfl rfl rfl (Eff.append1 rfl ?_ fun _=>?_);exact pre_));refine go ?_)
  rename_i v2 v3 vk
  subst hxs
  have h14 : (rd (List.map (codeT (TD a b lb)) (TD a b lb)) 0).length = 14 := rfl
  have hA : (rd (rd (List.map (codeT (TD a b lb)) (TD a b lb)) 0) 0).f_Arg = lb := rfl
  rw [decide_eq_true (show w32 (a - b) = IntKind.i32.wrap (a - b) from rfl)]
  refine go ?_
  rw [hr3]
  refine go ?_
  rw [hA, hlb, decide_eq_true (show lb = lb from rfl)]
  first | (with_reducible refine Cd.g ?_; refine Cd.share (A := (sl (eInt .i64) vk [1, 2, 3])) (by exact tk_) ?_) | (with_reducible refine Ol.g ?_; refine Ol.share (A := (sl (eInt .i64) vk [1, 2, 3])) (by exact tk_) ?_) | (with_reducible refine Dn.g ?_; refine Dn.share (A := (sl (eInt .i64) vk [1, 2, 3])) (by exact tk_) ?_)
  first | (with_reducible refine Cd.g ?_; refine Cd.share (A := (sl e_api_Tree v3 _)) (by exact tk_) ?_) | (with_reducible refine Ol.g ?_; refine Ol.share (A := (sl e_api_Tree v3 _)) (by exact tk_) ?_) | (with_reducible refine Dn.g ?_; refine Dn.share (A := (sl e_api_Tree v3 _)) (by exact tk_) ?_)
  refine Ol.conv (H' := rsl e_api_Tree v3 [⟨4, 0, 0, vk⟩, ⟨1, a, lb, .slice none 0 0⟩, ⟨1, b, 0, .slice none 0 0⟩, ⟨1, 0, 0, .slice none 0 0⟩] :: rsl e_api_Tree vt [⟨4, 0, 0, va⟩, ⟨1, a, lb, .slice none 0 0⟩, ⟨1, b, 0, .slice none 0 0⟩] :: rel2 tnC [⟨4, 0, 0, va⟩, ⟨1, a, lb, .slice none 0 0⟩, ⟨1, b, 0, .slice none 0 0⟩] (TD a b lb) :: rel2 tnC [⟨4, 0, 0, vk⟩, ⟨1, a, lb, .slice none 0 0⟩, ⟨1, b, 0, .slice none 0 0⟩, ⟨1, 0, 0, .slice none 0 0⟩] (TD3 a b lb) :: R) (ents.cons (Tk.hdp _ _) (ents.cons (by exact tk_) (ents.cons (by exact tk_) (ents.rcons2 (Tk.pk (A := tnC _ _) rfl () ⟨rfl, rfl, rfl⟩ (by exact tkl_)) (ents.rcons2 (Tk.pk (A := tnC _ _) rfl () ⟨rfl, rfl, rfl⟩ (by exact tkl_)) (ents.rcons2 (Tk.pk (A := tnC _ _) rfl () ⟨rfl, rfl, rfl⟩ (by exact tkl_)) (ents.rcons2 (Tk.pk (A := tnC _ _) rfl () ⟨rfl, rfl, rfl⟩ (by exact tkl_)) (by exact ent_)))))))) ?_
  generalize hxs : ([⟨4, 0, 0, va⟩, ⟨1, a, lb, .slice none 0 0⟩, ⟨1, b, 0, .slice none 0 0⟩] : List S_api_Tree) = xs
  generalize hx3 : ([⟨4, 0, 0, vk⟩, ⟨1, a, lb, .slice none 0 0⟩, ⟨1, b, 0, .slice none 0 0⟩, ⟨1, 0, 0, .slice none 0 0⟩] : List S_api_Tree) = xs3
  refine go ?_
  with_reducible refine Ol.g ?_
  refine Ol.eff rfl rfl rfl (Eff.call (R := ?_) (tree_Right v3 xs3 (TD3 a b lb) 16) rfl ?_ ?_)
  rotate_left
  · exact tkl_
  rintro _ -
  dsimp only [List.cons_append, List.nil_append]
  rw [td3_right]
  refine go ?_
  with_reducible refine Ol.g ?_
  refine Ol.eff rfl rfl rfl (Eff.call (R := ?_) (tree_Right vt xs (TD a b lb) 16) rfl ?_ ?_)
  rotate_left
  · exact tkl_
  rintro _ -
  dsimp only [List.cons_append, List.nil_append]
  rw [td_right a b lb 16 hlb2]
  refine go ?_
  rw [hlb]
  with_reducible refine Ol.g ?_
  refine Ol.eff rfl rfl rfl (Eff.call (R := ?_) (tree_Right vt xs (TD a b lb) (lb + 1)) rfl ?_ ?_)
  rotate_left
  · exact tkl_
  rintro _ -
  dsimp only [List.cons_append, List.nil_append]
  rw [td_right a b lb (lb + 1) (by omega)]
  refine go ?_
  rw [hlb]
  with_reducible refine Ol.g ?_
  refine Ol.eff rfl rfl rfl (Eff.call (R := ?_) (tree_Right vt xs (TD a b lb) lb) rfl ?_ ?_)
  rotate_left
  · exact tkl_
  rintro _ -
  dsimp only [List.cons_append, List.nil_append]
  rw [td_right0]
  refine go ?_
  refine Dn.ret1 rfl rfl fun w hs => ⟨(), rfl, trivial, hs.conv (by exact ent_)⟩
end Go.Proofs.Ytcgjmlapmdbnmaa

