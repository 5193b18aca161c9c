/- Contracts of functions of the program, proved in a small separation logic. Conditions: those that each theorem states. -/
import Derived.Test.YtcgjmlapmdbnmaaTy
namespace Go.Proofs.Ytcgjmlapmdbnmaa
open Go Go.Sl
set_option maxHeartbeats 4000000
set_option maxRecDepth 100000
set_option linter.unusedVariables false
-- FN slices.Clone[[]int32,int32]
theorem clone_int32 (r : Bool) (v : Value) (xs : List Int) (hm : xs.length ≤ 1048576) :
    Sp Try.prog 139 [v] [slB r (eInt .i32) v xs] (fun _ : Value => True) id (fun v' => [slB r (eInt .i32) v xs, sl (eInt .i32) v' xs]) := by
  refine Sp.intro (n := 8) Try.func139 rfl rfl fun w0 R => ?_
  dsimp only [List.cons_append, List.nil_append, envOf]
  refine go ?_
  first | (with_reducible refine Cd.g ?_; refine Cd.know (fun w_ hw_ => nilS_nil (Tk.sat (A := (slB r (eInt .i32) v xs)) (by exact tk_) hw_)) fun hn => ?_) | (with_reducible refine Ol.g ?_; refine Ol.know (fun w_ hw_ => nilS_nil (Tk.sat (A := (slB r (eInt .i32) v xs)) (by exact tk_) hw_)) fun hn => ?_) | (with_reducible refine Dn.g ?_; refine Dn.know (fun w_ hw_ => nilS_nil (Tk.sat (A := (slB r (eInt .i32) v xs)) (by exact tk_) hw_)) fun hn => ?_)
  cases hv : nilS v with
  | true =>
    obtain ⟨rfl, rfl⟩ := hn hv
    refine go ?_
    refine Dn.ret1 rfl rfl fun w hs => ⟨.slice none 0 0, rfl, trivial, hs.conv (show ents _ (slB r (eInt .i32) (.slice none 0 0) [] :: sl (eInt .i32) (.slice none 0 0) [] :: R) from by exact ent_)⟩
  | false =>
    refine go ?_;repeat((with_reducible refine Ol.g ?_);(first|refine Ol.eff rfl rfl rfl (Eff.alloc fun _=>?_)|refine Ol.eff rfl rfl rfl (Eff.box fun _=>?_)|refine Ol.eff0 rfl rfl (Eff.store rfl rfl ?_)|refine Ol.eff rfl rfl rfl (Eff.bslice rfl rfl fun _=>?_)|(refine Ol.eff0 rfl rfl (Eff.storeE rfl ?_ ?_);exact pre_)|(refine Ol.eff rfl rfl rfl (Eff.append1 rfl ?_ fun _=>?_);exact pre_));refine go ?_)
    refine Ol.eff rfl rfl rfl (Eff.appendR rfl ?_ fun u => ?_)
    · simp; omega
    refine go ?_
    refine Dn.ret1 rfl rfl fun w hs => ⟨u, rfl, trivial, hs.conv (show ents _ (slB r (eInt .i32) v xs :: sl (eInt .i32) u xs :: R) from by exact ent_)⟩
-- FN confidant/task.Drop
theorem task_Drop (r r2 : Bool) (t : S_api_Task) (xs ps : List Int) (pv : Value) (pops : Int) (hx : xs.length ≤ 1000000) (hp : ps.length ≤ 48576) (hpc : in64 (t.f_Pc + 1)) :
    Sp Try.prog 126 [.agg #[.int .i32 t.f_Id, .int .i64 t.f_Func, .int .i64 t.f_Pc, t.f_Stack, .int .i32 t.f_Vars0, .int .i32 t.f_Vars1, .int .i32 t.f_Vars2, .int .i32 t.f_Vars3, .int .i64 t.f_Label, .int .i64 t.f_Clear, .int .u32 t.f_Privs, .int .i64 t.f_Worker], .int .i64 pops, pv] [slB r (eInt .i32) t.f_Stack xs, slB r2 (eInt .i32) pv ps] (fun _ : Value => True)
      (fun v' => .agg #[.int .i32 t.f_Id, .int .i64 t.f_Func, .int .i64 (t.f_Pc + 1), v', .int .i32 t.f_Vars0, .int .i32 t.f_Vars1, .int .i32 t.f_Vars2, .int .i32 t.f_Vars3, .int .i64 t.f_Label, .int .i64 t.f_Clear, .int .u32 t.f_Privs, .int .i64 t.f_Worker])
      (fun v' => [slB r2 (eInt .i32) pv ps, sl (eInt .i32) v' (xs.take ((xs.length : Int) - imin (imax pops 0) xs.length).toNat ++ ps)]) := by
  refine Sp.intro (n := 31) Try.func126 rfl rfl fun w0 R => ?_
  dsimp only [List.cons_append, List.nil_append, envOf]
  refine go ?_;repeat((with_reducible refine Ol.g ?_);(first|refine Ol.eff rfl rfl rfl (Eff.alloc fun _=>?_)|refine Ol.eff rfl rfl rfl (Eff.box fun _=>?_)|refine Ol.eff0 rfl rfl (Eff.store rfl rfl ?_)|refine Ol.eff rfl rfl rfl (Eff.bslice rfl rfl fun _=>?_)|(refine Ol.eff0 rfl rfl (Eff.storeE rfl ?_ ?_);exact pre_)|(refine Ol.eff rfl rfl rfl (Eff.append1 rfl ?_ fun _=>?_);exact pre_));refine go ?_)
  have hb := imm (a := pops) (b := (xs.length : Int)) (by omega)
  generalize imin (imax pops 0) (xs.length : Int) = d at hb ⊢
  obtain ⟨n, hn⟩ : ∃ n : Nat, (n : Int) = (xs.length : Int) - d := ⟨((xs.length : Int) - d).toNat, by omega⟩
  have hnl : n ≤ xs.length := by omega
  have hnt : (xs.take n).length = n := by simp; omega
  refine go ?_;repeat((with_reducible refine Ol.g ?_);(first|refine Ol.eff rfl rfl rfl (Eff.alloc fun _=>?_)|refine Ol.eff rfl rfl rfl (Eff.box fun _=>?_)|refine Ol.eff0 rfl rfl (Eff.store rfl rfl ?_)|refine Ol.eff rfl rfl rfl (Eff.bslice rfl rfl fun _=>?_)|(refine Ol.eff0 rfl rfl (Eff.storeE rfl ?_ ?_);exact pre_)|(refine Ol.eff rfl rfl rfl (Eff.append1 rfl ?_ fun _=>?_);exact pre_));refine go ?_)
  rw [← hn]
  refine Ol.cutS (r := r) (E := eInt .i32) (v := t.f_Stack) (xs := xs) n (by exact tk_) hnl ?_
  rw [Int.toNat_natCast]
  with_reducible refine Ol.g ?_
  refine Ol.eff rfl rfl rfl (Eff.call (R := ?_) (clone_int32 r (cutV t.f_Stack n) (xs.take n) (by omega)) rfl ?_ ?_)
  rotate_left
  · exact tkl_
  rintro v' -
  dsimp only [List.cons_append, List.nil_append, id]
  refine go ?_;repeat((with_reducible refine Ol.g ?_);(first|refine Ol.eff rfl rfl rfl (Eff.alloc fun _=>?_)|refine Ol.eff rfl rfl rfl (Eff.box fun _=>?_)|refine Ol.eff0 rfl rfl (Eff.store rfl rfl ?_)|refine Ol.eff rfl rfl rfl (Eff.bslice rfl rfl fun _=>?_)|(refine Ol.eff0 rfl rfl (Eff.storeE rfl ?_ ?_);exact pre_)|(refine Ol.eff rfl rfl rfl (Eff.append1 rfl ?_ fun _=>?_);exact pre_));refine go ?_)
  refine Ol.eff rfl rfl rfl (Eff.appendR rfl ?_ fun u => ?_)
  · simp only [List.length_append, hnt]; omega
  first | (with_reducible refine Cd.g ?_; refine Cd.know (fun w_ hw_ => one_sl (Tk.sat (A := (sl (eInt .i32) u _)) (by exact tk_) hw_)) fun o1 => ?_) | (with_reducible refine Ol.g ?_; refine Ol.know (fun w_ hw_ => one_sl (Tk.sat (A := (sl (eInt .i32) u _)) (by exact tk_) hw_)) fun o1 => ?_) | (with_reducible refine Dn.g ?_; refine Dn.know (fun w_ hw_ => one_sl (Tk.sat (A := (sl (eInt .i32) u _)) (by exact tk_) hw_)) fun o1 => ?_)
  refine go ?_;repeat((with_reducible refine Ol.g ?_);(first|refine Ol.eff rfl rfl rfl (Eff.alloc fun _=>?_)|refine Ol.eff rfl rfl rfl (Eff.box fun _=>?_)|refine Ol.eff0 rfl rfl (Eff.store rfl rfl ?_)|refine Ol.eff rfl rfl rfl (Eff.bslice rfl rfl fun _=>?_)|(refine Ol.eff0 rfl rfl (Eff.storeE rfl ?_ ?_);exact pre_)|(refine Ol.eff rfl rfl rfl (Eff.append1 rfl ?_ fun _=>?_);exact pre_));refine go ?_)
  refine Dn.retC rfl rfl trivial fun w hs => ⟨u, rfl, trivial, hs.conv (show ents _ (slB r2 (eInt .i32) pv ps :: sl (eInt .i32) u (xs.take n ++ ps) :: R) from by exact ent_)⟩
theorem task_Drop0 (r : Bool) (t : S_api_Task) (xs : List Int) (hx : xs.length ≤ 1000000) (hpc : in64 (t.f_Pc + 1)) :
    Sp Try.prog 126 [.agg #[.int .i32 t.f_Id, .int .i64 t.f_Func, .int .i64 t.f_Pc, t.f_Stack, .int .i32 t.f_Vars0, .int .i32 t.f_Vars1, .int .i32 t.f_Vars2, .int .i32 t.f_Vars3, .int .i64 t.f_Label, .int .i64 t.f_Clear, .int .u32 t.f_Privs, .int .i64 t.f_Worker], .int .i64 0, .slice none 0 0] [slB r (eInt .i32) t.f_Stack xs] (fun _ : Value => True)
      (fun v' => .agg #[.int .i32 t.f_Id, .int .i64 t.f_Func, .int .i64 (t.f_Pc + 1), v', .int .i32 t.f_Vars0, .int .i32 t.f_Vars1, .int .i32 t.f_Vars2, .int .i32 t.f_Vars3, .int .i64 t.f_Label, .int .i64 t.f_Clear, .int .u32 t.f_Privs, .int .i64 t.f_Worker]) (fun v' => [sl (eInt .i32) v' xs]) :=
  Sp.conseq (task_Drop r false t xs [] (.slice none 0 0) 0 hx (by simp) hpc) (show ents [slB r (eInt .i32) t.f_Stack xs] [slB r (eInt .i32) t.f_Stack xs, sl (eInt .i32) (.slice none 0 0) []] from by exact ent_) fun v' _ => ⟨v', rfl, trivial, by
    have e : xs.take ((xs.length : Int) - imin (imax 0 0) xs.length).toNat ++ [] = xs := by
      have : imin (imax 0 0) (xs.length : Int) = 0 := by unfold imin imax; split <;> split <;> omega
      rw [this]; simp
    rw [e]; exact ent_⟩
end Go.Proofs.Ytcgjmlapmdbnmaa

