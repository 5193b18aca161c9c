/- Contracts of functions of the program, proved in a small separation logic. Conditions: those that each theorem states. -/
import Derived.Test.YtcgjmlapmdbnmaaDeck1
namespace Go.Proofs.Ytcgjmlapmdbnmaa
open Go Go.Sl
set_option maxHeartbeats 4000000
set_option maxRecDepth 100000
set_option linter.unusedVariables false
/-! Tasks, as plain data; the chunk that says which task a value is. -/
structure AT where
  id : Int
  func : Int
  pc : Int
  stack : List Int
  v0 : Int
  v1 : Int
  v2 : Int
  v3 : Int
  label : Int
  clear : Int
  privs : Int
  worker : Int
  deriving DecidableEq
instance : Dfl AT := ⟨⟨0, 0, 0, [], 0, 0, 0, 0, 0, 0, 0, 0⟩⟩
def taskOf (t : S_api_Task) (s : List Int) : AT := ⟨t.f_Id, t.f_Func, t.f_Pc, s, t.f_Vars0, t.f_Vars1, t.f_Vars2, t.f_Vars3, t.f_Label, t.f_Clear, t.f_Privs, t.f_Worker⟩
structure AT.ok (a : AT) : Prop where
  st : a.stack.length ≤ 1000000
  pc : -1099511627776 ≤ a.pc ∧ a.pc ≤ 1099511627776
abbrev tV (t : S_api_Task) : Value := .agg #[.int .i32 t.f_Id, .int .i64 t.f_Func, .int .i64 t.f_Pc, t.f_Stack, .int .i32 t.f_Vars0, .int .i32 t.f_Vars1, .int .i32 t.f_Vars2, .int .i32 t.f_Vars3, .int .i64 t.f_Label, .int .i64 t.f_Clear, .int .u32 t.f_Privs, .int .i64 t.f_Worker]
abbrev tC (t : S_api_Task) : List Value := [.int .i32 t.f_Id, .int .i64 t.f_Func, .int .i64 t.f_Pc, t.f_Stack, .int .i32 t.f_Vars0, .int .i32 t.f_Vars1, .int .i32 t.f_Vars2, .int .i32 t.f_Vars3, .int .i64 t.f_Label, .int .i64 t.f_Clear, .int .u32 t.f_Privs, .int .i64 t.f_Worker]
def tkC (t : S_api_Task) (a : AT) : HProp := pk (fun _ : Unit => taskOf t a.stack = a ∧ a.ok) (fun _ => [rsl (eInt .i32) t.f_Stack a.stack])
instance (t : S_api_Task) (a : AT) : Pers (tkC t a) := Pers.ex fun _ => inferInstance
abbrev zT : S_api_Task := ⟨0, 0, 0, .slice none 0 0, 0, 0, 0, 0, 0, 0, 0, 0⟩
abbrev zA : AT := ⟨0, 0, 0, [], 0, 0, 0, 0, 0, 0, 0, 0⟩
theorem zA_ok : zA.ok := ⟨by decide, by decide⟩
theorem ents.tk0 {t : S_api_Task} {a : AT} (h : taskOf t a.stack = a) (ho : a.ok) (hs : t.f_Stack = .slice none 0 0) (h0 : a.stack = []) {H L : List HProp} (k : ents H L) : ents H (tkC t a :: L) :=
  ents.pk (p := fun _ : Unit => taskOf t a.stack = a ∧ a.ok) (L := fun _ => [rsl (eInt .i32) t.f_Stack a.stack]) () ⟨h, ho⟩ (by rw [hs, h0]; exact went.trans k (went.of (slB_nil true _ _)))
theorem went_one (B : HProp) : went B (stars [B]) := (went.of (emp_star B)).trans (went.of (star_comm emp B))
theorem went_one' (B : HProp) : went (stars [B]) B := (went.of (star_comm B emp)).trans (went.right _ _)
instance : Free (tkC zT zA) := ⟨fun B => (went_one B).trans (went.trans (show went (stars [B]) (star (tkC zT zA) (stars [B])) from ents.tk0 (t := zT) (a := zA) (H := [B]) (L := [B]) rfl zA_ok rfl rfl (ents.refl _)) (went.star (went.refl _) (went_one' B)))⟩
theorem tkC_ok {t : S_api_Task} {a : AT} {w : World} (h : sat w (tkC t a)) : taskOf t a.stack = a ∧ a.ok := by
  obtain ⟨_, _, _, f, g, _, _, hp, _⟩ := h; exact hp
theorem tkC_one {t : S_api_Task} {a : AT} {w : World} (h : sat w (tkC t a)) : One t.f_Stack := by
  obtain ⟨hh, hl, _, f, g, k, rfl, hp, f2, g2, k2, rfl, ha, _⟩ := h
  exact one_sl ⟨_, fun b r o e => hl b r o (Hp.add_right k (Hp.add_left e)), ha⟩
/-- A task's stack is a slice. -/
class TkIn (H : List HProp) (t : S_api_Task) : Prop where one : ∀ w, sat w (stars H) → One t.f_Stack
instance TkIn.tl (A : HProp) (H : List HProp) (t : S_api_Task) [h : TkIn H t] : TkIn (A :: H) t := ⟨fun w hw => h.one w hw.right⟩
instance TkIn.hd (H : List HProp) (t : S_api_Task) (a : AT) : TkIn (tkC t a :: H) t := ⟨fun w hw => tkC_one hw.left⟩
instance Fl1.tk (H : List HProp) (t : S_api_Task) [h : TkIn H t] : Fl1 H t.f_Stack := ⟨fun w hw => let o := h.one w hw; ⟨o.one, cells_one o.one⟩⟩
/-! rings -/
def winl (l : List S_api_Task) (top : Int) (n : Nat) : List S_api_Task := (ints n).map fun i => rd l ((top + i) % l.length)
theorem winl_length (l : List S_api_Task) (top : Int) (n : Nat) : (winl l top n).length = n := by simp [winl, ints_length]
theorem winl_succ (l : List S_api_Task) (top : Int) (n : Nat) : winl l top (n + 1) = winl l top n ++ [rd l ((top + n) % l.length)] := by simp [winl, ints_succ]
theorem winl_set (l : List S_api_Task) (top : Int) (n : Nat) (t : S_api_Task) (h0 : 0 ≤ top ∧ top < l.length) (hn : n < l.length) :
    winl (l.set ((top + n) % l.length).toNat t) top (n + 1) = winl l top n ++ [t] := by
  have hm : ∀ i : Int, 0 ≤ i → 0 ≤ (top + i) % l.length ∧ (top + i) % l.length < l.length := fun i _ => ⟨Int.emod_nonneg _ (by omega), Int.emod_lt_of_pos _ (by omega)⟩
  rw [winl_succ]
  congr 1
  · refine List.map_congr_left fun i hi => ?_
    rw [List.length_set]
    have hi' := ints_mem.1 hi
    have a := hm i hi'.1; have b := hm n (by omega)
    have hne : ((top + i) % l.length) ≠ ((top + n) % l.length) := by
      intro e
      have h1 := Int.emod_emod_of_dvd (top + i) (Int.dvd_refl (l.length : Int))
      have := (Int.emod_emod_of_dvd (top + n) (Int.dvd_refl (l.length : Int)))
      have h2 : ((top + n) - (top + i)) % (l.length : Int) = 0 := Int.emod_eq_emod_iff_emod_sub_eq_zero.1 e.symm
      have h3 : ((n : Int) - i) % (l.length : Int) = 0 := by rw [← h2]; congr 1; omega
      rw [Int.emod_eq_of_lt (by omega) (by omega)] at h3
      omega
    simp only [rd]
    rw [List.getD_eq_getElem?_getD, List.getD_eq_getElem?_getD, List.getElem?_set_ne (by omega)]
  · rw [List.length_set]
    have b := hm n (by omega)
    simp only [rd]
    rw [List.getD_eq_getElem?_getD, List.getElem?_set_self (by omega)]; rfl
theorem winl_cons (l : List S_api_Task) (top : Int) (n : Nat) (h0 : 0 ≤ top ∧ top < l.length) : winl l top (n + 1) = rd l top :: winl l ((top + 1) % l.length) n := by
  refine List.ext_getElem? fun i => ?_
  rcases i with _ | i
  · simp [winl, ints]
    rw [Int.emod_eq_of_lt h0.1 h0.2]
  · simp only [winl, ints, List.map_map, List.getElem?_map, List.getElem?_cons_succ]
    by_cases hi : i < n
    · rw [List.getElem?_range (by omega), List.getElem?_range hi]
      simp only [Option.map_some, Function.comp_apply]
      congr 2
      rw [Int.add_emod ((top + 1) % l.length) i, Int.emod_emod_of_dvd _ (Int.dvd_refl _), ← Int.add_emod]; congr 1; omega
    · rw [List.getElem?_eq_none (by simp; omega), List.getElem?_eq_none (by simp; omega)]; rfl
structure RX where
  v : Value
  top : Int
  l : List S_api_Task
end Go.Proofs.Ytcgjmlapmdbnmaa

