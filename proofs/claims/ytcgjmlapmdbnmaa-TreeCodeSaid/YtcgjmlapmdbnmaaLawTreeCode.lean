/- Contracts of functions of the program, proved in a small separation logic. Conditions: those that each theorem states. -/
import Derived.Test.YtcgjmlapmdbnmaaTCode1
import Derived.Test.YtcgjmlapmdbnmaaTree8
import Derived.Test.YtcgjmlapmdbnmaaTree6
namespace Go.Proofs.Ytcgjmlapmdbnmaa
open Go Go.Sl
set_option maxHeartbeats 4000000
set_option maxRecDepth 100000
set_option linter.unusedVariables false
structure CZ where
  k : Nat
-- FN confidant/confidantlaw29.TreeCode
theorem law_TreeCode (lv : Value) (l : List Int) (hl : ∀ x, x ∈ l → 0 ≤ x ∧ x ≤ 255) :
    Sp Try.prog 4 [lv] [rsl (eInt .u8) lv l] (fun _ : Unit => True) (fun _ => .bool true) (fun _ => []) := by
  refine Sp.intro (n := 120) Try.func4 rfl rfl fun w0 R => ?_
  dsimp only [List.cons_append, List.nil_append, envOf]
  refine go ?_
  with_reducible refine Ol.g ?_
  refine Ol.eff rfl rfl rfl (Eff.call (R := ?_) law29_known rfl ?_ ?_)
  rotate_left
  · exact tkl_
  rintro _ -
  dsimp only [List.cons_append, List.nil_append]
  refine go ?_
  refine Cd.condP rfl (fun h40 => ?_) (fun h40 => ?_)
  · refine go ?_
    refine Dn.ret1 rfl rfl fun w hs => ⟨(), ?_, by trivial, by first | exact hs | (refine hs.conv ?_; exact ent_)⟩
    rfl
  refine go ?_
  with_reducible refine Ol.g ?_
  refine Ol.eff rfl rfl rfl (Eff.call (R := ?_) (seat_Tree lv l 16 hl (by omega) (by omega)) rfl ?_ ?_)
  rotate_left
  · exact tkl_
  rintro ⟨gk, tv, ts, T⟩ hT
  dsimp only [List.cons_append, List.nil_append] at hT ⊢
  rw [show imax 16 1 = 16 from rfl] at hT
  have hTl := hT.len
  first | (with_reducible refine Cd.g ?_; refine Cd.know (fun w_ hw_ => rel2_len (Tk.sat (A := (rel2 tnC ts T)) (by exact tk_) hw_)) fun hx => ?_) | (with_reducible refine Ol.g ?_; refine Ol.know (fun w_ hw_ => rel2_len (Tk.sat (A := (rel2 tnC ts T)) (by exact tk_) hw_)) fun hx => ?_) | (with_reducible refine Dn.g ?_; refine Dn.know (fun w_ hw_ => rel2_len (Tk.sat (A := (rel2 tnC ts T)) (by exact tk_) hw_)) fun hx => ?_)
  first | (with_reducible refine Cd.g ?_; refine Cd.share (A := (sl e_api_Tree tv ts)) (by exact tk_) ?_) | (with_reducible refine Ol.g ?_; refine Ol.share (A := (sl e_api_Tree tv ts)) (by exact tk_) ?_) | (with_reducible refine Dn.g ?_; refine Dn.share (A := (sl e_api_Tree tv ts)) (by exact tk_) ?_)
  refine go ?_
  with_reducible refine Ol.g ?_
  refine Ol.eff rfl rfl rfl (Eff.call (R := ?_) (tree_Compile tv ts T) rfl ?_ ?_)
  rotate_left
  · exact tkl_
  rintro ⟨mv, rows⟩ -
  rw [show rightB T 16 = true from hT.right]
  dsimp only [List.cons_append, List.nil_append]
  first | (with_reducible refine Cd.g ?_; refine Cd.know (fun w_ hw_ => rws_len (Tk.sat (A := (rws false e_api_Instr rows _)) (by exact tk_) hw_)) fun hr => ?_) | (with_reducible refine Ol.g ?_; refine Ol.know (fun w_ hw_ => rws_len (Tk.sat (A := (rws false e_api_Instr rows _)) (by exact tk_) hw_)) fun hr => ?_) | (with_reducible refine Dn.g ?_; refine Dn.know (fun w_ hw_ => rws_len (Tk.sat (A := (rws false e_api_Instr rows _)) (by exact tk_) hw_)) fun hr => ?_)
  first | (with_reducible refine Cd.g ?_; refine Cd.share (A := (sl eVal mv rows)) (by exact tk_) ?_) | (with_reducible refine Ol.g ?_; refine Ol.share (A := (sl eVal mv rows)) (by exact tk_) ?_) | (with_reducible refine Dn.g ?_; refine Dn.share (A := (sl eVal mv rows)) (by exact tk_) ?_)
  first | (with_reducible refine Cd.g ?_; refine Cd.share (A := (rws false e_api_Instr rows _)) (by exact tk_) ?_) | (with_reducible refine Ol.g ?_; refine Ol.share (A := (rws false e_api_Instr rows _)) (by exact tk_) ?_) | (with_reducible refine Dn.g ?_; refine Dn.share (A := (rws false e_api_Instr rows _)) (by exact tk_) ?_)
  rw [List.length_map] at hr
  refine go ?_
  rw [decide_eq_false (show ¬ (rows.length : Int) ≠ ts.length by omega)]
  refine go ?_
  have hkin : ∀ i : Nat, i < T.length → ∀ k, k ∈ (rd T i).kids → 0 ≤ k ∧ k < 64 := fun i hi k hk => by
    have F := nodeB_F (hT.node i hi)
    obtain ⟨j, hj, rfl⟩ := List.getElem_of_mem hk
    have := F.kids j hj
    rw [rd_eq' hj] at this
    omega
  have hao : ∀ f, f ∈ T.map (codeT T) → argOk f := fun f hf => by
    obtain ⟨n, hn, rfl⟩ := List.mem_map.1 hf
    obtain ⟨i, hi, rfl⟩ := List.getElem_of_mem hn
    have := hkin i hi
    rw [rd_eq' hi] at this
    exact code_argOk this
  with_reducible refine Ol.g ?_
  refine Ol.eff rfl rfl rfl (Eff.call (R := ?_) (ref5_Image mv rows (T.map (codeT T)) 16 0 hao) rfl ?_ ?_)
  rotate_left
  · exact tkl_
  rintro _ -
  dsimp only [List.cons_append, List.nil_append]
  rw [image_ok hT]
  refine go ?_
  refine Cd.loop (fun i : Nat => i ≤ T.length) (fun i => T.length - i) (fun i => [(3, tv), (4, mv), (9, .int .i64 i)]) (fun _ => rsl e_api_Tree tv ts :: rel2 tnC ts T :: rsl eVal mv rows :: rws true e_api_Instr rows (T.map (codeT T)) :: R) 0 (by omega) ?_ ?_ ?_
  · repeat(first|exact Env.le_nil _|(refine Env.le_cons rfl ?_ ?_;first|rfl|(simp;done)|exact congrArg _ (by omega)|rotate_left))
  · exact ent_
  intro i hi
  refine go ?_
  refine Cd.condP rfl (fun h => ?_) (fun h => ?_)
  rotate_left
  · refine go ?_
    refine Dn.ret1 rfl rfl fun w hs => ⟨(), rfl, trivial, hs.conv (by exact ent_)⟩
  have hi2 : i < T.length := by omega
  refine Cd.conv (Tk.more (p := inferInstance) (A := rws true e_api_Instr rows (T.map (codeT T))) (rws_get (i := i) (by omega) (by rw [List.length_map]; omega)) (by exact tk_)) ?_
  have hrow : rd (T.map (codeT T)) i = codeT T (rd T i) := by rw [rd_eq' (by rw [List.length_map]; exact hi2), rd_eq' hi2, List.getElem_map]
  rw [hrow]
  refine Cd.conv (Tk.more (p := rel2_pers (fun _ _ => inferInstance) _ _) (A := rel2 tnC ts T) (rel2_gotI (i := i) (by omega) (by omega)) (by exact tk_)) ?_
  first | (with_reducible refine Cd.g ?_; refine Cd.pk (A := (tnC (rd ts i) (rd T i))) rfl (by exact tk_) fun q hq => ?_) | (with_reducible refine Ol.g ?_; refine Ol.pk (A := (tnC (rd ts i) (rd T i))) rfl (by exact tk_) fun q hq => ?_) | (with_reducible refine Dn.g ?_; refine Dn.pk (A := (tnC (rd ts i) (rd T i))) rfl (by exact tk_) fun q hq => ?_)
  dsimp only [List.cons_append, List.nil_append]
  have F := nodeB_F (hT.node i hi2)
  have hki := hkin i hi2
  have h8 : (rd T i).kids.length ≤ 8 := by have := F.kind; omega
  have hcl := codeT_len T (rd T i) h8
  have hcf := code_forks (T := T) (n := rd T i) (by have := F.kind; omega)
  have hca := code_argOk (T := T) hki
  generalize hce : codeT T (rd T i) = c at hcl hcf hca ⊢
  refine go ?_
  refine Cd.loop (fun k : Nat => k ≤ c.length) (fun k => c.length - k) (fun k => [(3, tv), (4, mv), (9, .int .i64 i), (10, .int .i64 (cntOp 20 (c.take k))), (11, .int .i64 (cntOp 21 (c.take k))), (12, .int .i64 k)])
    (fun _ => rsl e_api_Instr (rd rows i) c :: rsl (eInt .i64) (rd ts i).f_Kids (rd T i).kids :: rsl e_api_Tree tv ts :: rel2 tnC ts T :: rsl eVal mv rows :: rws true e_api_Instr rows (T.map (codeT T)) :: R) 0 (by omega) ?_ ?_ ?_
  · repeat(first|exact Env.le_nil _|(refine Env.le_cons rfl ?_ ?_;first|rfl|(simp;done)|exact congrArg _ (by omega)|rotate_left))
  · exact ent_
  intro k hk
  have hc20 : cntOp 20 (c.take k) ≤ 100 := by unfold cntOp; refine Nat.le_trans List.countP_le_length ?_; rw [List.length_take]; omega
  have hc21 : cntOp 21 (c.take k) ≤ 100 := by unfold cntOp; refine Nat.le_trans List.countP_le_length ?_; rw [List.length_take]; omega
  refine go ?_
  refine Cd.condP rfl (fun h => ?_) (fun h => ?_)
  · have hk2 : k < c.length := by omega
    have h20 := cnt_at 20 hk2
    have h21 := cnt_at 21 hk2
    refine go ?_
    refine Cd.cutN (α := Unit) (fun _ => [(3, tv), (4, mv), (9, .int .i64 i), (10, .int .i64 (cntOp 20 (c.take (k + 1)))), (11, .int .i64 (cntOp 21 (c.take k))), (12, .int .i64 k)])
      (fun _ => rsl e_api_Instr (rd rows i) c :: rsl (eInt .i64) (rd ts i).f_Kids (rd T i).kids :: rsl e_api_Tree tv ts :: rel2 tnC ts T :: rsl eVal mv rows :: rws true e_api_Instr rows (T.map (codeT T)) :: R) (fun K kk _ => ?_) ?_
    · refine Cd.condP rfl (fun g => ?_) (fun g => ?_)
      · obtain ⟨f1, f2⟩ := fork_at hcf.1 hk2 g
        have hka := hki (rd c k).f_Arg (by rw [← f2]; exact rd_mem (by omega) (by omega))
        rw [if_pos g] at h20
        have hcv := hca (rd c k) (rd_mem (by omega) (by omega))
        rw [g] at hcv
        have hcv2 := hcv (by decide)
        unfold i32B at hcv2
        refine go ?_
        refine Cd.draw2 [[], [], [], [1, 2], [1, 2, 3], [1, 2, 3, 4], [1, 2, 3, 4, 5], [0, 1, 2, 3, 4, 5, 6], [0, 1, 2, 3, 4, 5, 6, 7], [0, 1, 2, 3, 4, 5, 6, 7, 8], [0, 1, 2, 3, 4, 5, 6, 7, 8], [0, 1, 2, 3, 4, 5, 6, 7, 8, 9, 10], [0, 1, 2, 3, 4, 5, 6, 7, 8, 9, 10, 11], [0, 1, 2, 3, 4, 5, 6, 7, 8], [0, 1, 2, 3, 4, 5, 6, 7, 8, 9, 10, 11, 12, 13], [0, 1, 2, 3, 4, 5, 6, 7, 8, 9, 10, 11, 12, 13, 14], [0, 1, 2, 3, 4, 5, 6, 7, 8, 9, 10, 11, 12, 13, 14, 15], [0, 1, 2, 3, 4, 5, 6, 7, 8, 9, 10, 11, 12, 13, 14, 15, 16], [0, 1, 2, 3, 4, 5, 6, 7, 8], [0, 1, 2, 3, 4, 5, 6, 7, 8], [0, 1, 2, 3, 4, 5, 6, 7, 8, 18, 19], [0, 1, 2, 3, 4, 5, 6, 7, 8, 18, 19, 20], [0, 1, 2, 3, 4, 5, 6, 7, 8, 18, 19, 20, 21], [0, 1, 2, 3, 4, 5, 6, 7, 8], [0, 1, 2, 3, 4, 5, 6, 7, 8, 18, 19, 20, 21, 22, 23], [0, 1, 2, 3, 4, 5, 6, 7, 8, 18, 19, 20, 21, 22, 23, 24], [0, 1, 2, 3, 4, 5, 6, 7, 8, 9, 10, 11, 12, 13, 14, 15, 16, 17, 18, 19, 20, 21, 22, 23, 24, 25], [0, 1, 2, 3, 4, 5, 6, 7, 8, 9, 10, 11, 12, 13, 14, 15, 16, 17, 18, 19, 20, 21, 22, 23, 24, 25, 26]] [] [] (td := [(0, .fresh), (1, .fresh), (2, .fresh), (3, .fresh), (4, .fresh), (5, .fresh), (6, .fresh), (7, .fresh), (8, .fresh), (9, .fresh), (10, .fresh), (11, .fresh), (12, .fresh), (13, .fresh), (14, .fresh), (15, .fresh), (16, .fresh), (17, .fresh), (18, .fresh), (19, .fresh), (20, .fresh), (21, .fresh), (22, .fresh), (23, .fresh), (24, .fresh), (25, .fresh), (26, .fresh), (27, .fresh)]) mixed (by kernel_rfl) (by kernel_rfl) (by decide) (by decide) rfl (by kernel_rfl) ?_
        refine god2 ?_
        rw [decide_eq_false (show ¬ (cntOp 20 (c.take k) : Int) ≥ (rd T i).kids.length by omega)]
        refine god2 ?_
        rw [decide_eq_false (show ¬ (rd c k).f_Arg ≠ rd (rd T i).kids (cntOp 20 (c.take k) : Nat) by rw [f2]; simp)]
        refine god2 ?_
        refine go ?_
        refine Dn.weak ?_ (by exact ent_) (kk ())
        rw [h20]
        repeat(first|exact Env.le_nil _|(refine Env.le_cons rfl ?_ ?_;first|rfl|(simp;done)|exact congrArg _ (by omega)|rotate_left))
      · rw [if_neg g] at h20
        refine go ?_
        refine Dn.weak ?_ (by exact ent_) (kk ())
        rw [h20]
        repeat(first|exact Env.le_nil _|(refine Env.le_cons rfl ?_ ?_;first|rfl|(simp;done)|exact congrArg _ (by omega)|rotate_left))
    rintro -
    refine go ?_
    refine Cd.condP rfl (fun g => ?_) (fun g => ?_)
    · rw [if_pos g] at h21
      refine go ?_
      refine Dn.round (k + 1) (by omega) (by omega) ?_ (by exact ent_)
      rw [h21]
      repeat(first|exact Env.le_nil _|(refine Env.le_cons rfl ?_ ?_;first|rfl|(simp;done)|exact congrArg _ (by omega)|rotate_left))
    · rw [if_neg g] at h21
      refine go ?_
      refine Dn.round (k + 1) (by omega) (by omega) ?_ (by exact ent_)
      rw [h21]
      repeat(first|exact Env.le_nil _|(refine Env.le_cons rfl ?_ ?_;first|rfl|(simp;done)|exact congrArg _ (by omega)|rotate_left))
  obtain rfl : k = c.length := by omega
  have hf20 : cntOp 20 c = (rd T i).kids.length := by rw [← forksOf_len, hcf.1]
  rw [List.take_length, hf20, hcf.2]
  refine go ?_
  rw [decide_eq_false (show ¬ ((rd T i).kids.length : Int) ≠ (rd T i).kids.length by omega)]
  refine go ?_
  rw [decide_eq_false (show ¬ ((rd T i).kids.length : Int) ≠ (rd T i).kids.length by omega)]
  refine go ?_
  refine Dn.round (i + 1) (by omega) (by omega) (by repeat(first|exact Env.le_nil _|(refine Env.le_cons rfl ?_ ?_;first|rfl|(simp;done)|exact congrArg _ (by omega)|rotate_left))) (by exact ent_)
end Go.Proofs.Ytcgjmlapmdbnmaa

