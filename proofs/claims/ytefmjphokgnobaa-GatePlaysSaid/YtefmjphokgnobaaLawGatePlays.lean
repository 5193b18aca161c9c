/- Contracts of functions of the program, proved in a small separation logic. Conditions: those that each theorem states. -/
import Derived.Test.YtefmjphokgnobaaGatePL
import Derived.Test.YtefmjphokgnobaaGate6
import Derived.Test.YtefmjphokgnobaaLaw21
import Derived.Test.YtefmjphokgnobaaSeat1
namespace Go.Proofs.Ytefmjphokgnobaa
open Go Go.Sl
set_option maxHeartbeats 8000000
set_option maxRecDepth 100000
set_option linter.unusedVariables false
def gpG (n : Int) (x : S_A4_uint8) : S_api_Gate := ⟨x.e0 % n, x.e1 % n, x.e2 % 8, x.e3 % 4⟩
theorem lat_sq2 {q : List (List Bool)} (h : latOk q = true) : sqB q = true := by
  unfold latOk ordOk at h
  simp only [Bool.and_eq_true] at h
  exact h.1.1
theorem seat_pos (r : Int) : 0 < (seatR r).length := by
  unfold seatR
  split
  · decide +kernel
  split
  · decide +kernel
  split
  · decide +kernel
  split
  · decide +kernel
  · decide +kernel
-- FN confidant/confidantlaw21.GatePlays
theorem law_GatePlays (kd : Int) (gv lv : Value) (gl : List S_A4_uint8) (l : List S_confidantlaw21_Act) (hkd : 0 ≤ kd ∧ kd ≤ 255) (hg : ∀ x, x ∈ gl → (0 ≤ x.e0 ∧ x.e0 ≤ 255) ∧ (0 ≤ x.e1 ∧ x.e1 ≤ 255) ∧ (0 ≤ x.e2 ∧ x.e2 ≤ 255) ∧ (0 ≤ x.e3 ∧ x.e3 ≤ 255)) (hgm : gl.length ≤ 9223372036854775807)
    (hl : ∀ x, x ∈ l → (0 ≤ x.f_What ∧ x.f_What ≤ 255) ∧ (0 ≤ x.f_N ∧ x.f_N ≤ 255) ∧ (0 ≤ x.f_Label ∧ x.f_Label ≤ 255) ∧ (0 ≤ x.f_Privs ∧ x.f_Privs ≤ 255)) (hm : l.length ≤ 9223372036854775807) :
    Sp Try.prog 3 [.int .u8 kd, gv, lv] [rsl e_A4_uint8 gv gl, rsl e_confidantlaw21_Act lv l] (fun _ : Unit => True) (fun _ => .bool true) (fun _ => []) := by
  refine Sp.intro (n := 216) Try.func3 rfl rfl fun w0 R => ?_
  dsimp only [List.cons_append, List.nil_append, envOf]
  refine go ?_
  refine Ol.eff rfl rfl rfl (Eff.call (R := ?_) law21_known rfl ?_ ?_)
  rotate_left
  · exact tkl_
  rintro _ -
  dsimp only [List.cons_append, List.nil_append]
  refine go ?_
  refine Ol.cut (α := Unit) (fun _ => [(0, .int .u8 kd), (1, gv), (2, lv), (35, .bool (decide (6 < gl.length ∨ 60 < l.length)))]) (fun _ => rsl e_A4_uint8 gv gl :: rsl e_confidantlaw21_Act lv l :: R) (fun K kk => ?_) ?_
  · cases h1 : decide ((gl.length : Int) > 6) with
    | true =>
      have g1 := of_decide_eq_true h1
      rw [decide_eq_true (show 6 < gl.length ∨ 60 < l.length by omega)] at kk
      refine go ?_
      exact Dn.weak (by repeat(first|exact Env.le_nil _|(refine Env.le_cons rfl ?_ ?_;first|rfl|(simp;done)|exact congrArg _ (by omega)|rotate_left))) (by exact ent_) (kk ())
    | false =>
      have g1 := of_decide_eq_false h1
      rw [show decide (6 < gl.length ∨ 60 < l.length) = decide ((l.length : Int) > 60) from decide_eq_decide.2 ⟨fun h => by omega, fun h => by omega⟩] at kk
      refine go ?_
      exact Dn.weak (by repeat(first|exact Env.le_nil _|(refine Env.le_cons rfl ?_ ?_;first|rfl|(simp;done)|exact congrArg _ (by omega)|rotate_left))) (by exact ent_) (kk ())
  rintro -
  refine go ?_
  refine Cd.condP rfl (fun h => ?_) (fun h => ?_)
  · refine go ?_
    refine Dn.ret1 rfl rfl fun w hs => ⟨(), ?_, by trivial, by first | exact hs | (refine hs.conv ?_; exact ent_)⟩
    rfl
  refine go ?_
  refine Ol.eff rfl rfl rfl (Eff.call (R := ?_) (seat_Lattice kd hkd) rfl ?_ ?_)
  rotate_left
  · exact tkl_
  rintro ⟨v, rows⟩ -
  dsimp only [List.cons_append, List.nil_append]
  have hlok := seat_ok (kd % 6)
  have hpos := seat_pos (kd % 6)
  generalize seatR (kd % 6) = q at hlok hpos
  have hsq := lat_sq2 hlok
  have hle := sq_le hsq
  refine Ol.know (fun w hw => rws_len (Tk.sat (A := (rws false eBool rows q)) (by exact tk_) hw)) fun hrl => ?_
  refine Ol.share (A := (sl eVal v rows)) (by exact tk_) ?_
  refine Ol.share (A := (rws false eBool rows q)) (by exact tk_) ?_
  refine go ?_
  refine Ol.eff rfl rfl rfl (Eff.call (R := ?_) (lattice_New v rows q hrl (by omega)) rfl ?_ ?_)
  rotate_left
  · exact tkl_
  rintro (_ | ⟨lp, V⟩) hx
  · exact absurd hx (by show ¬ latOk _ = false; rw [hlok]; simp)
  have hV : isLat q V := hx.2
  dsimp only [newV, newH, List.cons_append, List.nil_append]
  refine go ?_
  refine Cd.loop (fun x : Nat × Value => x.1 ≤ gl.length) (fun x => gl.length - x.1) (fun x => [(0, .int .u8 kd), (1, gv), (2, lv), (7, v), (8, .pointer (some ⟨lp, 0, none⟩)), (10, x.2), (11, .int .i64 x.1)]) (fun x => sl e_api_Gate x.2 ((gl.take x.1).map (gpG q.length)) :: lat lp V :: rsl e_A4_uint8 gv gl :: rsl e_confidantlaw21_Act lv l :: rsl eVal v rows :: rws true eBool rows q :: R) ⟨0, .slice none 0 0⟩ (by simp) ?_ ?_ ?_
  · repeat(first|exact Env.le_nil _|(refine Env.le_cons rfl ?_ ?_;first|rfl|(simp;done)|exact congrArg _ (by omega)|rotate_left))
  · dsimp only
    rw [show (gl.take 0).map (gpG q.length) = [] from rfl]
    exact ent_
  rintro ⟨i, v10⟩ hi
  dsimp only [List.cons_append, List.nil_append] at hi ⊢
  refine go ?_
  refine Cd.condP rfl (fun h2 => ?_) (fun h2 => ?_)
  · have hi' : i < gl.length := by omega
    have hx := hg _ (rd_mem (xs := gl) (i := (i : Int)) (by omega) (by omega))
    have htk : (gl.take (i + 1)).map (gpG q.length) = (gl.take i).map (gpG q.length) ++ [gpG q.length (rd gl i)] := by rw [take_rd hi']; simp
    have hL : ((gl.take i).map (gpG q.length)).length = i := by simp; omega
    refine go ?_
    refine Cd.drawL (l := [_, _, _, _, _, _, _, _, _, _, _, _, _, _, _, _, _, _, _, _, _, _, _, _, _, _, _, _, _, _, _, _, _, _, _, _]) (z := _) [[], [], [], [1, 2], [1, 2, 3], [1, 2, 3, 4], [1, 2, 3, 4, 5], [], [7], [1, 2, 3, 4, 5, 6, 7, 8], [], [], [10, 11], [10, 11, 12], [10, 11, 12, 13], [10, 11, 12, 13, 14], [], [16], [10, 11, 12, 13, 14, 15, 16, 17], [], [], [19, 20], [19, 20, 21], [19, 20, 21, 22], [19, 20, 21, 22, 23], [19, 20, 21, 22, 23, 24], [], [], [26, 27], [26, 27, 28], [26, 27, 28, 29], [26, 27, 28, 29, 30], [26, 27, 28, 29, 30, 31], [1, 2, 3, 4, 5, 6, 7, 8, 9, 10, 11, 12, 13, 14, 15, 16, 17, 18, 19, 20, 21, 22, 23, 24, 25, 26, 27, 28, 29, 30, 31, 32], [1, 2, 3, 4, 5, 6, 7, 8, 9, 10, 11, 12, 13, 14, 15, 16, 17, 18, 19, 20, 21, 22, 23, 24, 25, 26, 27, 28, 29, 30, 31, 32, 33], [0, 1, 2, 3, 4, 5, 6, 7, 8, 9, 10, 11, 12, 13, 14, 15, 16, 17, 18, 19, 20, 21, 22, 23, 24, 25, 26, 27, 28, 29, 30, 31, 32, 33, 34]] [34, 35] [] (td := [(0, .fresh), (1, .fresh), (2, .fresh), (3, .fresh), (4, .fresh), (5, .fresh), (6, .fresh), (7, .fresh), (8, .fresh), (9, .fresh), (10, .fresh), (11, .fresh), (12, .fresh), (13, .fresh), (14, .fresh), (15, .fresh), (16, .fresh), (17, .fresh), (18, .fresh), (19, .fresh), (20, .fresh), (21, .fresh), (22, .fresh), (23, .fresh), (24, .fresh), (25, .fresh), (26, .fresh), (27, .fresh), (28, .fresh), (29, .fresh), (30, .fresh), (31, .fresh), (32, .fresh), (33, .fresh)]) rfl mixed (by kernel_rfl) (by kernel_rfl) (by kernel_rfl) (by decide) (by decide) rfl (by kernel_rfl) ?_
    refine god2 ?_
    refine Sg2.one (td := [(0, .old)]) rfl (by kernel_rfl) fun F34_ => ?_
    dsimp only [List.cons_append, List.nil_append]
    (with_reducible first|refine SpOp.eff rfl rfl rfl rfl rfl (Eff.x (Qx.build rfl) ?_)|refine SpOp.eff rfl rfl rfl rfl rfl (Eff.alloc fun _ => ?_)|refine SpOp.eff rfl rfl rfl rfl rfl (Eff.box fun _ => ?_)|refine SpOp.eff rfl rfl rfl rfl rfl (Eff.bslice rfl rfl fun _ => ?_)|(refine SpOp.eff rfl rfl rfl rfl rfl (Eff.append1 rfl ?_ fun _ => ?_);(first|exact True.intro|omega|(unfold in64;omega)|(simp only [List.length_append,List.length_cons,List.length_nil,List.length_set];omega)))|refine SpOp.eff0 rfl rfl rfl rfl (Eff.store rfl rfl ?_)|(refine SpOp.eff0 rfl rfl rfl rfl (Eff.storeE rfl ?_ ?_);(first|exact True.intro|omega|(unfold in64;omega)|(simp only [List.length_append,List.length_cons,List.length_nil,List.length_set];omega))))
    refine Sn.ok ?_
    refine god2 ?_
    refine Sg2.one (td := []) rfl (by kernel_rfl) fun F35_ => ?_
    dsimp only [List.cons_append, List.nil_append]
    (with_reducible first|refine SpOp.eff rfl rfl rfl rfl rfl (Eff.x (Qx.build rfl) ?_)|refine SpOp.eff rfl rfl rfl rfl rfl (Eff.alloc fun _ => ?_)|refine SpOp.eff rfl rfl rfl rfl rfl (Eff.box fun _ => ?_)|refine SpOp.eff rfl rfl rfl rfl rfl (Eff.bslice rfl rfl fun _ => ?_)|(refine SpOp.eff rfl rfl rfl rfl rfl (Eff.append1 rfl ?_ fun _ => ?_);(first|exact True.intro|omega|(unfold in64;omega)|(simp only [List.length_append,List.length_cons,List.length_nil,List.length_set];omega)))|refine SpOp.eff0 rfl rfl rfl rfl (Eff.store rfl rfl ?_)|(refine SpOp.eff0 rfl rfl rfl rfl (Eff.storeE rfl ?_ ?_);(first|exact True.intro|omega|(unfold in64;omega)|(simp only [List.length_append,List.length_cons,List.length_nil,List.length_set];omega))))
    rename_i v10'
    refine Sn.ok ?_
    refine god2 ?_
    refine go ?_
    refine Dn.round ⟨i + 1, v10'⟩ (by dsimp only; omega) (by dsimp only; omega) ?_ ?_
    · repeat(first|exact Env.le_nil _|(refine Env.le_cons rfl ?_ ?_;first|rfl|(simp;done)|exact congrArg _ (by omega)|rotate_left))
    · dsimp only
      rw [htk]
      unfold gpG
      rw [← hrl]
      exact ent_
  have hie : i = gl.length := by omega
  subst hie
  rw [List.take_length]
  obtain ⟨gs, hgs⟩ : ∃ gs, gs = gl.map (gpG q.length) := ⟨_, rfl⟩
  rw [← hgs]
  have hgl : gs.length ≤ 6 := by rw [hgs]; simp; omega
  have hto : ∀ g, g ∈ gs → 0 ≤ g.f_To ∧ g.f_To < q.length := fun g h => by
    rw [hgs] at h; obtain ⟨x, hx, rfl⟩ := List.mem_map.1 h
    exact ⟨Int.emod_nonneg _ (by omega), Int.emod_lt_of_pos _ (by omega)⟩
  have hnd : ∀ g, g ∈ gs → u32 g.f_Need := fun g h => by
    rw [hgs] at h; obtain ⟨x, hx, rfl⟩ := List.mem_map.1 h
    exact ⟨by show 0 ≤ x.e2 % 8; omega, by show x.e2 % 8 < _; omega⟩
  clear hgs
  refine go ?_
  refine Ol.share (A := (sl e_api_Gate v10 gs)) (by exact tk_) ?_
  refine Ol.eff rfl rfl rfl (Eff.call (R := ?_) (gate_New (some lp) true v10 gs (by omega)) rfl ?_ ?_)
  rotate_left
  · exact tkl_
  rintro ⟨p, s⟩ hs
  dsimp only [List.cons_append, List.nil_append]
  refine go ?_
  refine Ol.eff rfl rfl rfl (Eff.call (R := ?_) (ref21_New true v v10 rows gs (by omega) (by omega)) rfl ?_ ?_)
  rotate_left
  · exact tkl_
  rintro ⟨p2, ov, sv⟩ -
  dsimp only [List.cons_append, List.nil_append]
  refine go ?_
  refine Cd.loop (fun x : Nat × GS × RS => x.1 ≤ l.length ∧ gpI gs q rows v v10 lp x.1 x.2.1 x.2.2) (fun x => l.length - x.1) (fun x => [(2, lv), (7, v), (12, .pointer (some ⟨p, 0, none⟩)), (13, .pointer (some ⟨p2, 0, none⟩)), (14, .int .i64 x.1)]) (fun x => lat lp V :: rsl e_confidantlaw21_Act lv l :: rsl eVal v rows :: (gateH p x.2.1 ++ (refH p2 x.2.2 ++ R))) ⟨0, s, ⟨v, v10, .slice none 0 0, .slice none 0 0, ov, sv, rows, q, gs, [], [], List.replicate gs.length (.slice none 0 0), List.replicate gs.length [], List.replicate rows.length 0⟩⟩ ?_ ?_ ?_ ?_
  · refine ⟨by simp, ⟨⟨hs.gates, hs.waits, hs.outs, fun l h0 h1 => ?_, fun n l => ?_⟩, hs.fl, rfl, rfl, rfl, rfl, rfl, by simp, fun w hw => by simp at hw, by simp, fun r hr => ?_, by simp, by simp; omega, fun x hx => ?_, fun l => ?_⟩⟩
    · have n7 : s.seq = fun _ => none := hs.seq
      rw [n7]
      rcases rd_or (List.replicate rows.length (0 : Int)) l with h | h
      · rw [List.eq_of_mem_replicate h]; rfl
      · rw [h]; rfl
    · have n6 : s.asked = fun _ => none := hs.asked
      unfold cnt; rw [n6]; simp [cntR]
    · rw [List.eq_of_mem_replicate hr]; simp
    · rw [List.eq_of_mem_replicate hx]; simp
    · have n7 : s.seq = fun _ => none := hs.seq
      rw [n7]; simp
  · repeat(first|exact Env.le_nil _|(refine Env.le_cons rfl ?_ ?_;first|rfl|(simp;done)|exact congrArg _ (by omega)|rotate_left))
  · exact ent_
  rintro ⟨i, s, t⟩ ⟨hi, I⟩
  dsimp only [List.cons_append, List.nil_append] at hi I ⊢
  refine go ?_
  refine Cd.condP rfl (fun h => ?_) (fun h => ?_)
  rotate_left
  · refine go ?_
    refine Dn.ret1 rfl rfl fun w hs => ⟨(), ?_, by trivial, by first | exact hs | (refine hs.conv ?_; exact ent_)⟩
    rfl
  have hi' : i < l.length := by omega
  have hx := hl _ (rd_mem (xs := l) (i := (i : Int)) (by omega) (by omega))
  obtain ⟨a, ha⟩ : ∃ a, a = rd l i := ⟨_, rfl⟩
  rw [← ha] at hx
  repeat(first|(with_reducible refine Ol.g ?_;first|(refine Ol.q rfl rfl rfl ?_ ?_;(first|exact True.intro|omega|(unfold in64;omega)|(simp only [List.length_append,List.length_cons,List.length_nil,List.length_set];omega)))|with_reducible refine Ol.nil ?_|refine Ol.skip rfl rfl ?_|refine Ol.eff rfl rfl rfl (Eff.x (Qx.build rfl) ?_)|refine Ol.skip0 rfl ?_|(refine Ol.ga ?_;dsimp only [List.append])|refine Ol.eff rfl rfl rfl (Eff.alloc fun _ => ?_)|refine Ol.eff rfl rfl rfl (Eff.box fun _ => ?_)|refine Ol.eff0 rfl rfl (Eff.store rfl rfl ?_)|refine Ol.eff rfl rfl rfl (Eff.bslice rfl rfl fun _ => ?_)|(refine Ol.eff0 rfl rfl (Eff.storeE rfl ?_ ?_);(first|exact True.intro|omega|(unfold in64;omega)|(simp only [List.length_append,List.length_cons,List.length_nil,List.length_set];omega)))|(refine Ol.eff rfl rfl rfl (Eff.append1 rfl ?_ fun _ => ?_);(first|exact True.intro|omega|(unfold in64;omega)|(simp only [List.length_append,List.length_cons,List.length_nil,List.length_set];omega))))|(with_reducible refine Cd.g ?_;first|with_reducible refine Cd.seq ?_|with_reducible refine Cd.region ?_|with_reducible refine Cd.skip ?_|with_reducible refine Cd.ret ?_|with_reducible refine Cd.block ?_|with_reducible refine Cd.exit ?_|(with_reducible refine Cd.condg ?_;first|refine Cd.cond_t rfl ?_|refine Cd.cond_f rfl ?_))|(with_reducible refine Dn.g ?_;first|with_reducible refine Dn.then ?_|with_reducible refine Dn.ret_then ?_|with_reducible refine Dn.ret_block ?_|with_reducible refine Dn.block ?_|with_reducible refine Dn.exit_then ?_|with_reducible refine Dn.exit_at ?_|with_reducible refine Dn.exit_by rfl ?_))
  rename_i c
  rw [← ha]
  refine Cd.forget 16 rfl ?_
  refine Cd.drawL (l := [_, _, _, _, _, _, _, _, _, _, _, _]) (z := _) [[], [0], [0, 1], [0, 1, 2], [], [4], [4, 5], [], [7], [7, 8], [4, 5, 6, 7, 8, 9], [0, 1, 2, 3]] [] [] (td := [(0, .fresh), (1, .fresh), (2, .fresh), (3, .fresh), (4, .fresh), (5, .fresh), (6, .fresh), (7, .fresh), (8, .fresh), (9, .fresh), (10, .fresh), (11, .fresh)]) rfl mixed (by kernel_rfl) (by kernel_rfl) (by kernel_rfl) (by decide) (by decide) rfl (by kernel_rfl) ?_
  refine god2 ?_
  have hHeap : True := trivial
  refine go ?_
  refine Cd.cut (α := Int × Int) (fun x => [(2, lv), (7, v), (12, .pointer (some ⟨p, 0, none⟩)), (13, .pointer (some ⟨p2, 0, none⟩)), (14, .int .i64 i), (15, .pointer (some ⟨c, 0, none⟩)), (16, .int .i64 x.1), (17, .int .i64 x.2)]) (fun _ => cel c 41 [.int .u8 a.f_What, .int .u8 a.f_N, .int .u8 a.f_Label, .int .u8 a.f_Privs, .int .i32 a.f_V, .int .i32 a.f_By, .int .i64 a.f_Raw] :: lat lp V :: rsl e_confidantlaw21_Act lv l :: rsl eVal v rows :: (gateH p s ++ (refH p2 t ++ R))) (fun K kk => ?_) ?_
  · refine Cd.condP rfl (fun h2 => ?_) (fun h2 => ?_)
    · refine go ?_
      refine Cd.weak (E := [(2, lv), (7, v), (12, .pointer (some ⟨p, 0, none⟩)), (13, .pointer (some ⟨p2, 0, none⟩)), (14, .int .i64 i), (15, .pointer (some ⟨c, 0, none⟩))]) (by repeat(first|exact Env.le_nil _|(refine Env.le_cons rfl ?_ ?_;first|rfl|(simp;done)|exact congrArg _ (by omega)|rotate_left))) (ents.refl _) ?_
      refine Cd.forget 16 rfl ?_
      refine Cd.drawL (l := [_, _, _, _, _]) (z := _) [[], [0], [], [2], [0, 1]] [] [] (td := [(0, .fresh), (1, .fresh), (2, .fresh), (3, .fresh), (4, .fresh)]) rfl mixed (by kernel_rfl) (by kernel_rfl) (by kernel_rfl) (by decide) (by decide) rfl (by kernel_rfl) ?_
      refine god2 ?_
      refine go ?_
      exact Dn.weak (by repeat(first|exact Env.le_nil _|(refine Env.le_cons rfl ?_ ?_;first|rfl|(simp;done)|exact congrArg _ (by omega)|rotate_left))) (by exact ent_) (kk (_, _))
    · refine go ?_
      exact Dn.weak (by repeat(first|exact Env.le_nil _|(refine Env.le_cons rfl ?_ ?_;first|rfl|(simp;done)|exact congrArg _ (by omega)|rotate_left))) (by exact ent_) (kk (_, _))
  rintro ⟨n, lb⟩
  dsimp only [List.cons_append, List.nil_append]
  refine Dn.then ?_
  repeat refine Cd.seq ?_
  refine Cd.cut (α := Unit) (fun _ => [(2, lv), (7, v), (12, .pointer (some ⟨p, 0, none⟩)), (13, .pointer (some ⟨p2, 0, none⟩)), (14, .int .i64 i), (15, .pointer (some ⟨c, 0, none⟩)), (16, .int .i64 n), (17, .int .i64 lb), (123, .int .u8 (a.f_What % 7))]) (fun _ => cel c 41 [.int .u8 a.f_What, .int .u8 a.f_N, .int .u8 a.f_Label, .int .u8 a.f_Privs, .int .i32 a.f_V, .int .i32 a.f_By, .int .i64 a.f_Raw] :: lat lp V :: rsl e_confidantlaw21_Act lv l :: rsl eVal v rows :: (gateH p s ++ (refH p2 t ++ R))) (fun K kk => ?_) ?_
  · refine go ?_
    exact Dn.weak (by repeat(first|exact Env.le_nil _|(refine Env.le_cons rfl ?_ ?_;first|rfl|(simp;done)|exact congrArg _ (by omega)|rotate_left))) (by exact ent_) (kk ())
  rintro -
  dsimp only [List.cons_append, List.nil_append]
  refine Dn.then ?_
  have hw7 : 0 ≤ a.f_What % 7 ∧ a.f_What % 7 < 7 := by omega
  generalize a.f_What % 7 = w at hw7
  have hGs := I.gs hnd
  have hRs := I.rs hto
  have hFV : FnV (P := Try.prog) s.fl (lat lp V) pairV2 (fun _ => True) (fun x => .bool (flowsB V x.1 x.2)) := by rw [I.fl]; exact flows_FnV lp V hV.ok
  have hu : ∀ j : Int, 0 ≤ j → j < s.gates.length → u32 (rd s.gates j).f_Need := fun j h0 h1 => hGs.need _ (rd_mem h0 h1)
  have hcnt := I.cnt n lb
  have hsw := hGs.waits
  have htw := hRs.waits
  have htask := I.ask
  have hil : i ≤ 60 := by omega
  refine Cd.cut (α := { x : GS × RS // gpI gs q rows v v10 lp (i + 1) x.1 x.2 }) (fun _ => [(2, lv), (7, v), (12, .pointer (some ⟨p, 0, none⟩)), (13, .pointer (some ⟨p2, 0, none⟩)), (14, .int .i64 i), (16, .int .i64 n), (17, .int .i64 lb)]) (fun x => lat lp V :: rsl e_confidantlaw21_Act lv l :: rsl eVal v rows :: (gateH p x.1.1 ++ (refH p2 x.1.2 ++ R))) (fun K kk => ?_) ?_
  · refine go ?_
    refine Cd.cut (α := Unit) (fun _ => [(2, lv), (7, v), (12, .pointer (some ⟨p, 0, none⟩)), (13, .pointer (some ⟨p2, 0, none⟩)), (14, .int .i64 i), (15, .pointer (some ⟨c, 0, none⟩)), (16, .int .i64 n), (17, .int .i64 lb), (123, .int .u8 w), (144, .bool (decide (w < 4)))]) (fun _ => cel c 41 [.int .u8 a.f_What, .int .u8 a.f_N, .int .u8 a.f_Label, .int .u8 a.f_Privs, .int .i32 a.f_V, .int .i32 a.f_By, .int .i64 a.f_Raw] :: lat lp V :: rsl e_confidantlaw21_Act lv l :: rsl eVal v rows :: (gateH p s ++ (refH p2 t ++ R))) (fun K2 kk2 => ?_) ?_
    · by_cases g0 : w = 0
      · rw [decide_eq_true g0]
        rw [decide_eq_true (show w < 4 by omega)] at kk2
        refine go ?_
        exact Dn.weak (by repeat(first|exact Env.le_nil _|(refine Env.le_cons rfl ?_ ?_;first|rfl|(simp;done)|exact congrArg _ (by omega)|rotate_left))) (by exact ent_) (kk2 ())
      rw [decide_eq_false g0]
      refine go ?_
      by_cases g1 : w = 1
      · rw [decide_eq_true g1]
        rw [decide_eq_true (show w < 4 by omega)] at kk2
        refine go ?_
        exact Dn.weak (by repeat(first|exact Env.le_nil _|(refine Env.le_cons rfl ?_ ?_;first|rfl|(simp;done)|exact congrArg _ (by omega)|rotate_left))) (by exact ent_) (kk2 ())
      rw [decide_eq_false g1]
      refine go ?_
      by_cases g2 : w = 2
      · rw [decide_eq_true g2]
        rw [decide_eq_true (show w < 4 by omega)] at kk2
        refine go ?_
        exact Dn.weak (by repeat(first|exact Env.le_nil _|(refine Env.le_cons rfl ?_ ?_;first|rfl|(simp;done)|exact congrArg _ (by omega)|rotate_left))) (by exact ent_) (kk2 ())
      rw [decide_eq_false g2]
      refine go ?_
      rw [show decide (w < 4) = decide (w = 3) from decide_eq_decide.2 ⟨fun h => by omega, fun h => by omega⟩] at kk2
      exact Dn.weak (by repeat(first|exact Env.le_nil _|(refine Env.le_cons rfl ?_ ?_;first|rfl|(simp;done)|exact congrArg _ (by omega)|rotate_left))) (by exact ent_) (kk2 ())
    rintro -
    dsimp only [List.cons_append, List.nil_append]
    refine go ?_
    refine Cd.condP rfl (fun h4 => ?_) (fun h4 => ?_)
    · refine go ?_
      have hpr : 0 ≤ a.f_Privs ∧ a.f_Privs ≤ 255 := hx.2.2.2
      have hqa := ask_eq I hsq hV n lb a.f_Privs
      have htr : t.rows.length = t.q.length := by rw [I.trows, I.tq]; exact hrl
      have htq : t.q.length ≤ 1000000 := by rw [I.tq]; omega
      cases hA : askOk (flowsB V) s n lb a.f_Privs with
      | false =>
        rw [hA] at hqa
        refine Cd.draw2 [[], [], [], [], [3], [3, 4], [], [6], [], [8], [0, 1, 2, 3, 4, 5, 6, 7, 8, 9], [], [], [], [], [14], [14, 15], [], [17], [], [19], [0, 1, 2, 3, 4, 5, 6, 7, 8, 9, 10, 11, 12, 13, 14, 15, 16, 17, 18, 19, 20], [0, 1, 2, 3, 4, 5, 6, 7, 8, 9, 10, 11, 12, 13, 14, 15, 16, 17, 18, 19, 20, 21]] [10, 21] [] (td := [(0, .fresh), (1, .fresh), (2, .fresh), (3, .fresh), (4, .fresh), (5, .fresh), (6, .fresh), (7, .fresh), (8, .fresh), (9, .fresh), (11, .fresh), (12, .fresh), (13, .fresh), (14, .fresh), (15, .fresh), (16, .fresh), (17, .fresh), (18, .fresh), (19, .fresh), (20, .fresh)]) mixed (by kernel_rfl) (by kernel_rfl) (by decide) (by decide) rfl (by kernel_rfl) ?_
        refine god2 ?_
        refine Sg2.one (td := [(11, .old), (12, .old), (13, .old), (14, .old), (15, .old), (16, .old), (17, .old), (18, .old), (19, .old), (20, .old)]) rfl (by kernel_rfl) fun F10_ => ?_
        dsimp only [List.cons_append, List.nil_append]
        refine SpOp.eff rfl rfl rfl rfl rfl (Eff.call (R := ?_) (gate_AskF p s (flowsB V) (lat lp V) hFV n lb a.f_Privs a.f_V a.f_By hu (by omega) (by omega) hA) rfl ?_ ?_)
        rotate_left
        · exact tkl_
        rintro _ -
        dsimp only [List.cons_append, List.nil_append]
        refine Sn.ok ?_
        refine god2 ?_
        refine Sg2.one (td := [(22, .fresh)]) rfl (by kernel_rfl) fun F21_ => ?_
        dsimp only [List.cons_append, List.nil_append]
        refine SpOp.eff rfl rfl rfl rfl rfl (Eff.call (R := ?_) (ref21_AskF p2 t n lb a.f_Privs a.f_V a.f_By htr htq (by omega) (by omega) hqa) rfl ?_ ?_)
        rotate_left
        · exact tkl_
        rintro _ -
        dsimp only [List.cons_append, List.nil_append]
        refine Sn.ok ?_
        refine god2 ?_
        refine go ?_
        exact Dn.weak (by repeat(first|exact Env.le_nil _|(refine Env.le_cons rfl ?_ ?_;first|rfl|(simp;done)|exact congrArg _ (by omega)|rotate_left))) (by exact ent_) (kk ⟨(s, t), I.mono (by omega)⟩)
      | true =>
        rw [hA] at hqa
        have hnn : 0 ≤ n ∧ n < (gs.length : Int) := by
          unfold askOk at hA
          simp only [Bool.and_eq_true, decide_eq_true_eq, I.rel.gates, I.gates] at hA
          exact hA.1
        refine Cd.draw2 [[], [], [], [], [3], [3, 4], [], [6], [], [8], [0, 1, 2, 3, 4, 5, 6, 7, 8, 9], [], [], [], [], [14], [14, 15], [], [17], [], [19], [0, 1, 2, 3, 4, 5, 6, 7, 8, 9, 10, 11, 12, 13, 14, 15, 16, 17, 18, 19, 20], [0, 1, 2, 3, 4, 5, 6, 7, 8, 9, 10, 11, 12, 13, 14, 15, 16, 17, 18, 19, 20, 21]] [10, 21] [] (td := [(0, .fresh), (1, .fresh), (2, .fresh), (3, .fresh), (4, .fresh), (5, .fresh), (6, .fresh), (7, .fresh), (8, .fresh), (9, .fresh), (11, .fresh), (12, .fresh), (13, .fresh), (14, .fresh), (15, .fresh), (16, .fresh), (17, .fresh), (18, .fresh), (19, .fresh), (20, .fresh)]) mixed (by kernel_rfl) (by kernel_rfl) (by decide) (by decide) rfl (by kernel_rfl) ?_
        refine god2 ?_
        refine Sg2.one (td := [(11, .old), (12, .old), (13, .old), (14, .old), (15, .old), (16, .old), (17, .old), (18, .old), (19, .old), (20, .old)]) rfl (by kernel_rfl) fun F10_ => ?_
        dsimp only [List.cons_append, List.nil_append]
        refine SpOp.eff rfl rfl rfl rfl rfl (Eff.call (R := ?_) (gate_AskT p s (flowsB V) (lat lp V) hFV n lb a.f_Privs a.f_V a.f_By hu (by omega) (by omega) hA) rfl ?_ ?_)
        rotate_left
        · exact tkl_
        rintro wv -
        dsimp only [List.cons_append, List.nil_append]
        refine Sn.ok ?_
        refine god2 ?_
        refine Sg2.one (td := [(22, .fresh)]) rfl (by kernel_rfl) fun F21_ => ?_
        dsimp only [List.cons_append, List.nil_append]
        refine SpOp.eff rfl rfl rfl rfl rfl (Eff.call (R := ?_) (ref21_AskT p2 t n lb a.f_Privs a.f_V a.f_By htr htq (by omega) (by omega) hqa) rfl ?_ ?_)
        rotate_left
        · exact tkl_
        rintro ⟨av', wv'⟩ -
        dsimp only [List.cons_append, List.nil_append]
        refine Sn.ok ?_
        refine god2 ?_
        refine go ?_
        exact Dn.weak (by repeat(first|exact Env.le_nil _|(refine Env.le_cons rfl ?_ ?_;first|rfl|(simp;done)|exact congrArg _ (by omega)|rotate_left))) (by exact ent_) (kk ⟨(_, _), I.askT n lb a.f_V a.f_By hnn wv av' wv'⟩)
    refine go ?_
    refine Cd.cut (α := Unit) (fun _ => [(2, lv), (7, v), (12, .pointer (some ⟨p, 0, none⟩)), (13, .pointer (some ⟨p2, 0, none⟩)), (14, .int .i64 i), (15, .pointer (some ⟨c, 0, none⟩)), (16, .int .i64 n), (17, .int .i64 lb), (123, .int .u8 w), (172, .bool (decide (w < 6)))]) (fun _ => lat lp V :: rsl e_confidantlaw21_Act lv l :: rsl eVal v rows :: (gateH p s ++ (refH p2 t ++ R))) (fun K2 kk2 => ?_) ?_
    · by_cases g0 : w = 4
      · rw [decide_eq_true g0]
        rw [decide_eq_true (show w < 6 by omega)] at kk2
        refine go ?_
        exact Dn.weak (by repeat(first|exact Env.le_nil _|(refine Env.le_cons rfl ?_ ?_;first|rfl|(simp;done)|exact congrArg _ (by omega)|rotate_left))) (by exact ent_) (kk2 ())
      rw [decide_eq_false g0]
      refine go ?_
      rw [show decide (w < 6) = decide (w = 5) from decide_eq_decide.2 ⟨fun h => by omega, fun h => by omega⟩] at kk2
      exact Dn.weak (by repeat(first|exact Env.le_nil _|(refine Env.le_cons rfl ?_ ?_;first|rfl|(simp;done)|exact congrArg _ (by omega)|rotate_left))) (by exact ent_) (kk2 ())
    rintro -
    dsimp only [List.cons_append, List.nil_append]
    refine go ?_
    refine Cd.condP rfl (fun h5 => ?_) (fun h5 => ?_)
    · refine go ?_
      refine Ol.eff rfl rfl rfl (Eff.call (R := ?_) (gate_Open' p s i (by omega) hGs lb i) rfl ?_ ?_)
      rotate_left
      · exact tkl_
      rintro ⟨x1, wv1, or1⟩ -
      dsimp only [List.cons_append, List.nil_append]
      refine go ?_
      refine Ol.eff rfl rfl rfl (Eff.call (R := ?_) (ref21_Open p2 t i (by omega) hRs lb i) rfl ?_ ?_)
      rotate_left
      · exact tkl_
      rintro ⟨x2, wv2, or2⟩ -
      dsimp only [List.cons_append, List.nil_append]
      have hO := I.openP hto lb i wv1 wv2 or1 or2
      have hO2 := openR_ok hRs lb i t.waits.length (Nat.le_refl _)
      have hO3 := hO2.recs
      have hO4 : (openK s lb i s.waits.length).recs.length ≤ 1000000 := by rw [hO.1]; omega
      refine go ?_
      refine Ol.eff rfl rfl rfl (Eff.call (R := ?_) (ref21_SameAudit false false x1 x2 (openK s lb i s.waits.length).recs (openR t lb i t.waits.length).recs hO4 (by omega)) rfl ?_ ?_)
      rotate_left
      · exact tkl_
      rintro _ -
      dsimp only [List.cons_append, List.nil_append]
      rw [decide_eq_true hO.1]
      refine go ?_
      exact Dn.weak (by repeat(first|exact Env.le_nil _|(refine Env.le_cons rfl ?_ ?_;first|rfl|(simp;done)|exact congrArg _ (by omega)|rotate_left))) (by exact ent_) (kk ⟨(_, _), hO.2.mono (by omega)⟩)
    · have hqt := take_eq I n
      have hog : s.outs.length = s.gates.length := hGs.outs
      refine go ?_
      cases hT : takeOk s n with
      | false =>
        rw [hT] at hqt
        refine Ol.eff rfl rfl rfl (Eff.call (R := ?_) (gate_TakeF p s hog n hT) rfl ?_ ?_)
        rotate_left
        · exact tkl_
        rintro _ -
        dsimp only [List.cons_append, List.nil_append]
        refine go ?_
        refine Ol.eff rfl rfl rfl (Eff.call (R := ?_) (ref21_TakeF p2 t n hqt) rfl ?_ ?_)
        rotate_left
        · exact tkl_
        rintro _ -
        dsimp only [List.cons_append, List.nil_append]
        refine go ?_
        exact Dn.weak (by repeat(first|exact Env.le_nil _|(refine Env.le_cons rfl ?_ ?_;first|rfl|(simp;done)|exact congrArg _ (by omega)|rotate_left))) (by exact ent_) (kk ⟨(s, t), I.mono (by omega)⟩)
      | true =>
        rw [hT] at hqt
        refine Ol.eff rfl rfl rfl (Eff.call (R := ?_) (gate_TakeT p s hog n hT) rfl ?_ ?_)
        rotate_left
        · exact tkl_
        rintro _ -
        dsimp only [List.cons_append, List.nil_append]
        refine go ?_
        refine Ol.eff rfl rfl rfl (Eff.call (R := ?_) (ref21_TakeT p2 t n hqt) rfl ?_ ?_)
        rotate_left
        · exact tkl_
        rintro _ -
        dsimp only [List.cons_append, List.nil_append]
        rw [show rd (rd t.outs n) 0 = rd (rd s.outs n) 0 from by rw [I.rel.outs]]
        refine go ?_
        rw [show decide (rd (rd s.outs n) 0 ≠ rd (rd s.outs n) 0) = false from by simp]
        refine go ?_
        exact Dn.weak (by repeat(first|exact Env.le_nil _|(refine Env.le_cons rfl ?_ ?_;first|rfl|(simp;done)|exact congrArg _ (by omega)|rotate_left))) (by exact ent_) (kk ⟨(_, _), (I.take n).mono (by omega)⟩)
  clear hcnt hsw htw htask hGs hRs hFV hu I
  rintro ⟨⟨s', t'⟩, I⟩
  dsimp only [List.cons_append, List.nil_append] at I ⊢
  refine go ?_
  refine Ol.eff rfl rfl rfl (Eff.call (R := ?_) (gate_To p s'.fl s'.gs s'.wv s'.ov s'.am s'.sm s'.gates n) rfl ?_ ?_)
  rotate_left
  · exact tkl_
  rintro _ -
  dsimp only [List.cons_append, List.nil_append]
  have hA := I.rel.asked n lb
  have hask := I.ask
  have hgg := I.rel.gates
  refine Ol.cut (α := Unit) (fun _ => [(2, lv), (7, v), (12, .pointer (some ⟨p, 0, none⟩)), (13, .pointer (some ⟨p2, 0, none⟩)), (14, .int .i64 i), (16, .int .i64 n), (17, .int .i64 lb), (22, if 0 ≤ n ∧ n < (s'.gates.length : Int) then .int .i64 (rd s'.gates n).f_To else .int .i64 0), (23, if 0 ≤ n ∧ n < (s'.gates.length : Int) then .bool true else .bool false)]) (fun _ => lat lp V :: rsl e_confidantlaw21_Act lv l :: rsl eVal v rows :: (gateH p s' ++ (refH p2 t' ++ R))) (fun K kk => ?_) ?_
  · by_cases hc : 0 ≤ n ∧ n < (s'.gates.length : Int)
    · rw [if_pos hc] at kk ⊢
      rw [if_pos hc] at kk
      refine go ?_
      exact Dn.weak (by repeat(first|exact Env.le_nil _|(refine Env.le_cons rfl ?_ ?_;first|rfl|(simp;done)|exact congrArg _ (by omega)|rotate_left))) (by exact ent_) (kk ())
    · rw [if_neg hc] at kk ⊢
      rw [if_neg hc] at kk
      refine go ?_
      exact Dn.weak (by repeat(first|exact Env.le_nil _|(refine Env.le_cons rfl ?_ ?_;first|rfl|(simp;done)|exact congrArg _ (by omega)|rotate_left))) (by exact ent_) (kk ())
  rintro -
  dsimp only [List.cons_append, List.nil_append]
  refine go ?_
  refine Ol.eff rfl rfl rfl (Eff.call (R := ?_) (ref21_To p2 t' n) rfl ?_ ?_)
  rotate_left
  · exact tkl_
  rintro _ -
  dsimp only [List.cons_append, List.nil_append]
  have tail : True := trivial
  have hgn : (rd t'.gates n).f_To = (rd s'.gates n).f_To := by rw [hgg]
  have hgm2 : s'.gates.length = t'.gates.length := by rw [hgg]
  by_cases hc : 0 ≤ n ∧ n < (s'.gates.length : Int)
  · rw [if_pos hc, if_pos hc, if_pos (show 0 ≤ n ∧ n < (t'.gates.length : Int) by omega), hgn]
    refine go ?_
    rw [show decide ((rd s'.gates n).f_To ≠ (rd s'.gates n).f_To) = false from by simp]
    refine go ?_
    refine Ol.eff rfl rfl rfl (Eff.call (R := ?_) (gate_Asked p s' n lb) rfl ?_ ?_)
    rotate_left
    · exact tkl_
    rintro _ -
    dsimp only [List.cons_append, List.nil_append]
    refine go ?_
    refine Ol.eff rfl rfl rfl (Eff.call (R := ?_) (ref21_Asked p2 t' n lb (by omega)) rfl ?_ ?_)
    rotate_left
    · exact tkl_
    rintro _ -
    dsimp only [List.cons_append, List.nil_append]
    unfold cnt at hA
    rw [hA]
    refine go ?_
    rw [show decide (cntR t'.asked n lb ≠ cntR t'.asked n lb) = false from by simp]
    refine go ?_
    refine Dn.round ⟨i + 1, s', t'⟩ ⟨by dsimp only; omega, I⟩ (by dsimp only; omega) ?_ ?_
    · repeat(first|exact Env.le_nil _|(refine Env.le_cons rfl ?_ ?_;first|rfl|(simp;done)|exact congrArg _ (by omega)|rotate_left))
    · exact ent_
  · rw [if_neg hc, if_neg hc, if_neg (show ¬ (0 ≤ n ∧ n < (t'.gates.length : Int)) by omega)]
    refine go ?_
    refine Ol.eff rfl rfl rfl (Eff.call (R := ?_) (gate_Asked p s' n lb) rfl ?_ ?_)
    rotate_left
    · exact tkl_
    rintro _ -
    dsimp only [List.cons_append, List.nil_append]
    refine go ?_
    refine Ol.eff rfl rfl rfl (Eff.call (R := ?_) (ref21_Asked p2 t' n lb (by omega)) rfl ?_ ?_)
    rotate_left
    · exact tkl_
    rintro _ -
    dsimp only [List.cons_append, List.nil_append]
    unfold cnt at hA
    rw [hA]
    refine go ?_
    rw [show decide (cntR t'.asked n lb ≠ cntR t'.asked n lb) = false from by simp]
    refine go ?_
    refine Dn.round ⟨i + 1, s', t'⟩ ⟨by dsimp only; omega, I⟩ (by dsimp only; omega) ?_ ?_
    · repeat(first|exact Env.le_nil _|(refine Env.le_cons rfl ?_ ?_;first|rfl|(simp;done)|exact congrArg _ (by omega)|rotate_left))
    · exact ent_
end Go.Proofs.Ytefmjphokgnobaa

