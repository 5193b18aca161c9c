/- Contracts of functions of the program, proved in a small separation logic. Conditions: those that each theorem states. -/
import Derived.Test.YtefmjphokgnobaaGate8
import Derived.Test.YtefmjphokgnobaaGate5
namespace Go.Proofs.Ytefmjphokgnobaa
open Go Go.Sl
set_option maxHeartbeats 4000000
set_option maxRecDepth 100000
set_option linter.unusedVariables false
theorem chain_ok2 : latOk (tabT 2 2 leI) = true := by decide +kernel
-- FN confidant/confidantlaw21.known
theorem law21_known : Sp Try.prog 8 [] [] (fun _ : Unit => True) (fun _ => .bool true) (fun _ => []) := by
  refine Sp.intro (n := 119) Try.func8 rfl rfl fun w0 R => ?_
  dsimp only [List.cons_append, List.nil_append, envOf]
  refine go ?_
  refine Ol.eff rfl rfl rfl (Eff.call (R := ?_) (lattice_Chain 2 ⟨by omega, by omega⟩) rfl ?_ ?_)
  rotate_left
  · exact tkl_
  rintro ⟨v, rows⟩ -
  dsimp only [List.cons_append, List.nil_append]
  refine Ol.know (fun w hw => rws_len (Tk.sat (A := (rws false eBool rows (tabT 2 2 leI))) (by exact tk_) hw)) fun hl => ?_
  refine Ol.share (A := (sl eVal v rows)) (by exact tk_) ?_
  refine Ol.share (A := (rws false eBool rows (tabT 2 2 leI))) (by exact tk_) ?_
  refine Ol.eff rfl rfl rfl (Eff.call (R := ?_) (lattice_New v rows (tabT 2 2 leI) hl (by rw [tabT_length]; omega)) rfl ?_ ?_)
  rotate_left
  · exact tkl_
  rintro (_ | ⟨lp, V⟩) hx
  · exact absurd hx (by show ¬ latOk _ = false; rw [chain_ok2]; simp)
  have hV : isLat (tabT 2 2 leI) V := hx.2
  dsimp only [newV, newH, List.cons_append, List.nil_append]
  repeat(first|(with_reducible refine Ol.g ?_;first|(refine Ol.q rfl rfl rfl ?_ ?_;(first|exact True.intro|omega|(unfold in64;omega)|(simp only [List.length_append,List.length_cons,List.length_nil,List.length_set];omega)))|with_reducible refine Ol.nil ?_|refine Ol.skip rfl rfl ?_|refine Ol.eff rfl rfl rfl (Eff.x (Qx.build rfl) ?_)|refine Ol.skip0 rfl ?_|(refine Ol.ga ?_;dsimp only [List.append])|refine Ol.eff rfl rfl rfl (Eff.alloc fun _ => ?_)|refine Ol.eff rfl rfl rfl (Eff.box fun _ => ?_)|refine Ol.eff0 rfl rfl (Eff.store rfl rfl ?_)|refine Ol.eff rfl rfl rfl (Eff.bslice rfl rfl fun _ => ?_)|(refine Ol.eff0 rfl rfl (Eff.storeE rfl ?_ ?_);(first|exact True.intro|omega|(unfold in64;omega)|(simp only [List.length_append,List.length_cons,List.length_nil,List.length_set];omega)))|(refine Ol.eff rfl rfl rfl (Eff.append1 rfl ?_ fun _ => ?_);(first|exact True.intro|omega|(unfold in64;omega)|(simp only [List.length_append,List.length_cons,List.length_nil,List.length_set];omega))))|(with_reducible refine Cd.g ?_;first|with_reducible refine Cd.seq ?_|with_reducible refine Cd.region ?_|with_reducible refine Cd.skip ?_|with_reducible refine Cd.ret ?_|with_reducible refine Cd.block ?_|with_reducible refine Cd.exit ?_|(with_reducible refine Cd.condg ?_;first|refine Cd.cond_t rfl ?_|refine Cd.cond_f rfl ?_))|(with_reducible refine Dn.g ?_;first|with_reducible refine Dn.then ?_|with_reducible refine Dn.ret_then ?_|with_reducible refine Dn.ret_block ?_|with_reducible refine Dn.block ?_|with_reducible refine Dn.exit_then ?_|with_reducible refine Dn.exit_at ?_|with_reducible refine Dn.exit_by rfl ?_))
  refine Ol.eff rfl rfl rfl (Eff.call (R := ?_) (gate_New (some lp) false _ [⟨1, 0, 2, 1⟩] (by simp)) rfl ?_ ?_)
  rotate_left
  · exact tkl_
  rintro ⟨p, s⟩ hs
  have n1 := hs.fl; have n2 := hs.gates; have n3 := hs.waits; have n4 := hs.orow; have n5 := hs.outs; have n6 := hs.asked; have n7 := hs.seq
  dsimp only at n1 n2 n3 n4 n5 n6 n7
  clear hs
  dsimp only [List.cons_append, List.nil_append]
  have hF : flowsB V 1 1 = true := by rw [flowsB_eq hV (by rw [tabT_length]; omega) (by rw [tabT_length]; omega)]; decide
  have hp1 : privHas 1 2 = false := by decide
  have hp2 : privHas 2 2 = true := by decide
  have hFV : FnV (P := Try.prog) s.fl (lat lp V) pairV2 (fun _ => True) (fun x => .bool (flowsB V x.1 x.2)) := by rw [n1]; exact flows_FnV lp V hV.ok
  have hu : ∀ i : Int, 0 ≤ i → i < s.gates.length → u32 (rd s.gates i).f_Need := by
    intro i h0 h1
    have := rd_mem h0 h1
    rw [n2] at this ⊢
    simp at this; rw [this]; exact ⟨by decide, by decide⟩
  have e1 : askOk (flowsB V) s 0 1 1 = false := by simp [askOk, n2, rd, hF, hp1]
  have e2 : askOk (flowsB V) s 0 1 2 = true := by simp [askOk, n2, rd, hF, hp2, cnt, n6]
  have c1 : cnt s 0 1 = 0 := by simp [cnt, n6]
  refine go ?_
  refine Ol.eff rfl rfl rfl (Eff.call (R := ?_) (gate_AskF p s (flowsB V) (lat lp V) hFV 0 1 1 5 9 hu (by rw [n3]; simp) (by rw [c1]; omega) e1) rfl ?_ ?_)
  rotate_left
  · exact tkl_
  rintro _ -
  dsimp only [List.cons_append, List.nil_append]
  refine go ?_
  refine Ol.eff rfl rfl rfl (Eff.call (R := ?_) (gate_AskT p s (flowsB V) (lat lp V) hFV 0 1 2 6 9 hu (by rw [n3]; simp) (by rw [c1]; omega) e2) rfl ?_ ?_)
  rotate_left
  · exact tkl_
  rintro wv -
  dsimp only [List.cons_append, List.nil_append]
  have e3 : askOk (flowsB V) (askS s 0 1 6 9 wv) 0 1 2 = false := by simp [askOk, n2, rd, hF, hp2, cnt, n6, upd]
  refine go ?_
  refine Ol.eff rfl rfl rfl (Eff.call (R := ?_) (gate_AskF p (askS s 0 1 6 9 wv) (flowsB V) (lat lp V) hFV 0 1 2 7 9 hu (by simp [n3]) (by simp [cnt, upd, n6]) e3) rfl ?_ ?_)
  rotate_left
  · exact tkl_
  rintro _ -
  dsimp only [List.cons_append, List.nil_append]
  refine go ?_
  have e4 : takeOk (askS s 0 1 6 9 wv) 0 = false := by simp [takeOk, n2, n5, rd]
  refine Ol.eff rfl rfl rfl (Eff.call (R := ?_) (gate_TakeF p (askS s 0 1 6 9 wv) (by simp [n2, n5]) 0 e4) rfl ?_ ?_)
  rotate_left
  · exact tkl_
  rintro _ -
  dsimp only [List.cons_append, List.nil_append]
  refine go ?_
  have hok : gsOk (askS s 0 1 6 9 wv) 10 := by
    refine ⟨by simp [n3], ?_, by simp [n2, n5], by simp [n5], by simp [n7], by simp [n2]; exact ⟨by decide, by decide⟩⟩
    simp [n3, n2]
  refine Ol.eff rfl rfl rfl (Eff.call (R := ?_) (gate_OpenO p (askS s 0 1 6 9 wv) 10 (by omega) hok 0 4 ⟨[⟨0, 0, 0, 6, 4, 9⟩], [], upd s.seq 0 1, [[6]]⟩ (by simp [openK, openStep, n3, n2, n5, n7, rd, Dfl.d])) rfl ?_ ?_)
  rotate_left
  · exact tkl_
  rintro ⟨v9, wv2, orow2⟩ hok2
  dsimp only [List.cons_append, List.nil_append]
  refine go ?_
  have e5 : takeOk (opG (askS s 0 1 6 9 wv) ⟨[⟨0, 0, 0, 6, 4, 9⟩], [], upd s.seq 0 1, [[6]]⟩ wv2 orow2) 0 = true := by simp [takeOk, n2, rd]
  refine Ol.eff rfl rfl rfl (Eff.call (R := ?_) (gate_TakeT p (opG (askS s 0 1 6 9 wv) ⟨[⟨0, 0, 0, 6, 4, 9⟩], [], upd s.seq 0 1, [[6]]⟩ wv2 orow2) (by simp [n2]) 0 e5) rfl ?_ ?_)
  rotate_left
  · exact tkl_
  rintro _ -
  dsimp only [List.cons_append, List.nil_append]
  refine go ?_
  refine Ol.eff rfl rfl rfl (Eff.call (R := ?_) (gate_To p s.fl s.gs wv2 s.ov s.am s.sm s.gates 0) rfl ?_ ?_)
  rotate_left
  · exact tkl_
  rintro _ -
  dsimp only [List.cons_append, List.nil_append]
  rw [if_pos (by simp [n2]), show (rd s.gates 0).f_To = 0 from by simp [n2, rd]]
  refine go ?_
  refine Ol.eff rfl rfl rfl (Eff.call (R := ?_) (gate_Asked p (takeS (opG (askS s 0 1 6 9 wv) ⟨[⟨0, 0, 0, 6, 4, 9⟩], [], upd s.seq 0 1, [[6]]⟩ wv2 orow2) 0) 0 1) rfl ?_ ?_)
  rotate_left
  · exact tkl_
  rintro _ -
  dsimp only [List.cons_append, List.nil_append]
  rw [show (upd s.asked ⟨0, 1⟩ (cnt s 0 1 + 1) ⟨0, 1⟩).getD 0 = 1 from by simp [upd, c1]]
  refine go ?_
  refine Ol.eff rfl rfl rfl (Eff.call (R := ?_) (gate_Right ⟨0, 0, 0, 0⟩ 1 ⟨by decide, by decide⟩) rfl ?_ ?_)
  rotate_left
  · exact tkl_
  rintro _ -
  dsimp only [List.cons_append, List.nil_append]
  rw [show gateOk ⟨0, 0, 0, 0⟩ 1 = true from by decide]
  refine go ?_
  refine Ol.eff rfl rfl rfl (Eff.call (R := ?_) (gate_Right ⟨0, 0, 0, 0⟩ 0 ⟨by decide, by decide⟩) rfl ?_ ?_)
  rotate_left
  · exact tkl_
  rintro _ -
  dsimp only [List.cons_append, List.nil_append]
  rw [show gateOk ⟨0, 0, 0, 0⟩ 0 = false from by decide]
  refine go ?_
  refine Dn.ret1 rfl rfl fun w hs => ⟨(), ?_, by trivial, by first | exact hs | (refine hs.conv ?_; exact ent_)⟩
  rfl
end Go.Proofs.Ytefmjphokgnobaa

