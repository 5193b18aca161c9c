/- Contracts of functions of the program, proved in a small separation logic. Conditions: those that each theorem states. -/
import Derived.Test.YtcgjmlapmdbnmaaRImg2
namespace Go.Proofs.Ytcgjmlapmdbnmaa
open Go Go.Sl
set_option maxHeartbeats 4000000
set_option maxRecDepth 100000
set_option linter.unusedVariables false
theorem rd_eq' {T : Type} [Dfl T] {l : List T} {k : Nat} (h : k < l.length) : rd l (k : Int) = l[k] := by
  rw [rd_eq (by simpa using h)]; simp
def funcT (f : List S_api_Instr) (funcs labels gates : Int) : Int × Int :=
  if 512 < f.length then (0, 22) else if f.length = 0 then (0, 24)
  else match f.findIdx? (fun x => !withinT x f.length funcs labels gates) with
    | some i => (i, 24)
    | none => match (walkT f).bad.findIdx? id with
      | some i => (i, 24)
      | none => (0, 0)
theorem runW_inv {f : List S_api_Instr} (ha : ∀ x, x ∈ f → argT x.f_Op = 2 → 0 ≤ x.f_Arg ∧ x.f_Arg ≤ 2147483647) (hf : f.length ≤ 512) : ∀ (m k : Nat) (s : WS), invW f.length s → invW f.length (runW f m k s)
  | 0, _, _, h => h
  | m + 1, k, s, h => by
    unfold runW
    split
    · rename_i hk
      refine runW_inv ha hf m (k + 1) _ ?_
      have hi := h.wb (rd s.work k) (rd_mem (by omega) (by omega))
      have hd := h.db (rd s.depth (rd s.work k)) (rd_mem (by omega) (by rw [h.dl]; omega))
      have hp := popsT_le (rd f (rd s.work k)).f_Op
      have hq := pushT_le (rd f (rd s.work k)).f_Op
      unfold stepW
      split
      · exact h.badW _
      split
      · exact h.badW _
      · exact invW.fold (by omega) _ h fun j hj => (nextW_mem (by omega) (ha _ (rd_mem (by omega) (by omega))) hj).1
    · exact h
theorem walkT_bl {f : List S_api_Instr} (ha : ∀ x, x ∈ f → argT x.f_Op = 2 → 0 ≤ x.f_Arg ∧ x.f_Arg ≤ 2147483647) (hf : f.length ≤ 512) : (walkT f).bad.length = f.length := by
  unfold walkT
  split
  · rename_i h; simp [h]
  · exact (runW_inv ha hf _ _ _ (startW_inv (by omega))).bl
theorem findIdx_some {α : Type} [Dfl α] {l : List α} {p : α → Bool} {k : Nat} (hk : k < l.length) (hp : p (rd l k) = true) (hj : ∀ j : Nat, j < k → p (rd l j) = false) : l.findIdx? p = some k := by
  rw [List.findIdx?_eq_some_iff_getElem]
  refine ⟨hk, by rw [← rd_eq' hk]; exact hp, fun j hjk => ?_⟩
  rw [← rd_eq' (by omega : j < l.length), hj j hjk]; simp
theorem findIdx_none {α : Type} [Dfl α] {l : List α} {p : α → Bool} (hj : ∀ j : Nat, j < l.length → p (rd l j) = false) : l.findIdx? p = none := by
  rw [List.findIdx?_eq_none_iff]
  intro x hx
  obtain ⟨j, hj2, rfl⟩ := List.getElem_of_mem hx
  rw [← rd_eq' hj2]; exact hj j hj2
-- FN confidant/confidantref5.Func
theorem ref5_Func (v : Value) (f : List S_api_Instr) (funcs labels gates : Int) (ha : ∀ x, x ∈ f → 2 ≤ argT x.f_Op → i32B x.f_Arg) :
    Sp Try.prog 67 [v, .int .i64 funcs, .int .i64 labels, .int .i64 gates] [rsl e_api_Instr v f] (fun _ : Unit => True) (fun _ => .tuple #[.int .i64 (funcT f funcs labels gates).1, .int .i64 (funcT f funcs labels gates).2]) (fun _ => []) := by
  refine Sp.intro (n := 54) Try.func67 rfl rfl fun w0 R => ?_
  dsimp only [List.cons_append, List.nil_append, envOf]
  unfold funcT
  refine go ?_
  refine Cd.condP rfl (fun h => ?_) (fun h => ?_)
  · rw [if_pos (show 512 < f.length by omega)]
    refine go ?_
    refine Dn.ret2 rfl rfl rfl fun w hs => ⟨(), rfl, trivial, hs.conv (by exact ent_)⟩
  rw [if_neg (show ¬ 512 < f.length by omega)]
  refine go ?_
  refine Cd.condP rfl (fun h0 => ?_) (fun h0 => ?_)
  · rw [if_pos (show f.length = 0 by omega)]
    refine go ?_
    refine Dn.ret2 rfl rfl rfl fun w hs => ⟨(), rfl, trivial, hs.conv (by exact ent_)⟩
  rw [if_neg (show ¬ f.length = 0 by omega)]
  refine go ?_
  refine Cd.loop (fun k : Nat => k ≤ f.length ∧ ∀ j : Nat, j < k → (!withinT (rd f j) f.length funcs labels gates) = false) (fun k => f.length - k) (fun k => [(0, v), (1, .int .i64 funcs), (2, .int .i64 labels), (3, .int .i64 gates), (10, .int .i64 k)])
    (fun k => rsl e_api_Instr v f :: R) 0 ⟨by omega, fun j hj => by omega⟩ ?_ ?_ ?_
  · repeat(first|exact Env.le_nil _|(refine Env.le_cons rfl ?_ ?_;first|rfl|(simp;done)|exact congrArg _ (by omega)|rotate_left))
  · exact ent_
  rintro k ⟨hk, hw⟩
  refine go ?_
  refine Cd.condP rfl (fun h1 => ?_) (fun h1 => ?_)
  · have hk2 : k < f.length := by omega
    have hak := ha (rd f k) (rd_mem (by omega) (by omega))
    refine go ?_
    with_reducible refine Ol.g ?_
    refine Ol.eff rfl rfl rfl (Eff.call (R := ?_) (ref5_within (rd f k) f.length funcs labels gates hak) rfl ?_ ?_)
    rotate_left
    · exact tkl_
    rintro _ -
    dsimp only [List.cons_append, List.nil_append]
    cases hwk : withinT (rd f k) f.length funcs labels gates with
    | false =>
      rw [findIdx_some (k := k) hk2 (by rw [hwk]; rfl) hw]
      refine go ?_
      refine Dn.ret2 rfl rfl rfl fun w hs => ⟨(), rfl, trivial, hs.conv (by exact ent_)⟩
    | true =>
      refine go ?_
      refine Dn.round (k + 1) ⟨by omega, fun j hj => ?_⟩ (by omega) (by repeat(first|exact Env.le_nil _|(refine Env.le_cons rfl ?_ ?_;first|rfl|(simp;done)|exact congrArg _ (by omega)|rotate_left))) (by exact ent_)
      rcases Nat.lt_succ_iff_lt_or_eq.1 hj with h | h
      · exact hw j h
      · subst h; rw [hwk]; rfl
  obtain rfl : k = f.length := by omega
  rw [findIdx_none hw]
  have ha2 : ∀ x, x ∈ f → argT x.f_Op = 2 → 0 ≤ x.f_Arg ∧ x.f_Arg ≤ 2147483647 := fun x hx h2 => by
    obtain ⟨j, hj, rfl⟩ := List.getElem_of_mem hx
    have hwj := hw j hj
    have hij := ha _ hx (by omega)
    unfold i32B at hij
    rw [rd_eq' hj] at hwj
    have hr : rightT f[j] = true := by
      unfold withinT at hwj
      cases hr : rightT f[j] with
      | true => rfl
      | false => rw [hr] at hwj; cases hwj
    exact ⟨rightT_arg hr h2, hij.2⟩
  have hbl := walkT_bl ha2 (by omega)
  refine go ?_
  with_reducible refine Ol.g ?_
  refine Ol.eff rfl rfl rfl (Eff.call (R := ?_) (ref5_walk v f (by omega) ha2) rfl ?_ ?_)
  rotate_left
  · exact tkl_
  rintro ⟨dv, bv⟩ -
  dsimp only [List.cons_append, List.nil_append]
  refine go ?_
  refine Cd.loop (fun k : Nat => k ≤ f.length ∧ ∀ j : Nat, j < k → id (rd (walkT f).bad j) = false) (fun k => f.length - k) (fun k => [(0, v), (12, bv), (13, .int .i64 k)])
    (fun k => rsl e_api_Instr v f :: sl eBool bv (walkT f).bad :: R) 0 ⟨by omega, fun j hj => by omega⟩ ?_ ?_ ?_
  · repeat(first|exact Env.le_nil _|(refine Env.le_cons rfl ?_ ?_;first|rfl|(simp;done)|exact congrArg _ (by omega)|rotate_left))
  · exact ent_
  rintro k ⟨hk, hb⟩
  refine go ?_
  refine Cd.condP rfl (fun h1 => ?_) (fun h1 => ?_)
  · have hk2 : k < f.length := by omega
    refine go ?_
    cases hbk : rd (walkT f).bad k with
    | true =>
      rw [findIdx_some (p := id) (k := k) (by omega) hbk hb]
      refine go ?_
      refine Dn.ret2 rfl rfl rfl fun w hs => ⟨(), rfl, trivial, hs.conv (by exact ent_)⟩
    | false =>
      refine go ?_
      refine Dn.round (k + 1) ⟨by omega, fun j hj => ?_⟩ (by omega) (by repeat(first|exact Env.le_nil _|(refine Env.le_cons rfl ?_ ?_;first|rfl|(simp;done)|exact congrArg _ (by omega)|rotate_left))) (by exact ent_)
      rcases Nat.lt_succ_iff_lt_or_eq.1 hj with h | h
      · exact hb j h
      · subst h; exact hbk
  obtain rfl : k = f.length := by omega
  rw [findIdx_none (p := id) (by rw [hbl]; exact hb)]
  refine go ?_
  refine Dn.ret2 rfl rfl rfl fun w hs => ⟨(), rfl, trivial, hs.conv (by exact ent_)⟩
end Go.Proofs.Ytcgjmlapmdbnmaa

