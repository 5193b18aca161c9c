/- Contracts of functions of the program, proved in a small separation logic. Conditions: those that each theorem states. -/
import Derived.Test.YtcgjmlapmdbnmaaTree7
import Derived.Test.YtcgjmlapmdbnmaaTTell1
namespace Go.Proofs.Ytcgjmlapmdbnmaa
open Go Go.Sl
set_option maxHeartbeats 4000000
set_option maxRecDepth 100000
set_option linter.unusedVariables false
/-! plain facts for TreeParts -/
theorem foldl_same {α β : Type} {f g : β → α → β} : ∀ (l : List α) (b : β), (∀ x, x ∈ l → ∀ c, f c x = g c x) → l.foldl f b = l.foldl g b
  | [], _, _ => rfl
  | a :: l, b, h => by
    simp only [List.foldl_cons]
    rw [h a List.mem_cons_self b]
    exact foldl_same l _ fun x hx => h x (List.mem_cons_of_mem _ hx)
theorem mem_rdN {l : List Int} {x : Int} (h : x ∈ l) : ∃ k : Nat, k < l.length ∧ rd l k = x := by
  obtain ⟨k, hk, rfl⟩ := List.mem_iff_getElem.1 h
  exact ⟨k, hk, by rw [rd_eq (by omega)]; simp⟩
/-- Fuel enough is fuel enough. -/
theorem valT_fuel {T : List TN} (hk : ∀ i : Nat, i < T.length → ((rd T i).kind = 4 → (rd T i).kids.length = 2) ∧ ∀ k : Nat, k < (rd T i).kids.length → (i : Int) < rd (rd T i).kids k ∧ rd (rd T i).kids k < T.length) :
    ∀ (f g i : Nat), i < T.length → T.length ≤ i + f → T.length ≤ i + g → valT T f i = valT T g i
  | 0, _, i, h, h1, _ => absurd h (by omega)
  | _ + 1, 0, i, h, _, h2 => absurd h (by omega)
  | f + 1, g + 1, i, h, h1, h2 => by
    have hi := hk i h
    have key : ∀ x, x ∈ (rd T i).kids → valT T f x = valT T g x := fun x hx => by
      obtain ⟨k, hkl, rfl⟩ := mem_rdN hx
      have := hi.2 k hkl
      obtain ⟨j, hj⟩ : ∃ j : Nat, rd (rd T i).kids k = (j : Int) := ⟨(rd (rd T i).kids k).toNat, by omega⟩
      rw [hj] at this ⊢
      exact valT_fuel hk f g j (by omega) (by omega) (by omega)
    unfold valT
    split
    · rfl
    split
    · rename_i _ h4
      have h2 := hi.1 h4
      rw [key _ (rd_mem (by omega) (by omega)), key _ (rd_mem (by omega) (by omega))]
    · exact foldl_same _ _ fun x hx c => by rw [key x hx]
/-- O is T's part whose nodes lie at the places P. -/
structure cpy (T O : List TN) (P : List Int) : Prop where
  len : O.length = P.length
  kind : ∀ m : Nat, m < P.length → (rd O m).kind = (rd T (rd P m)).kind ∧ (rd O m).value = (rd T (rd P m)).value ∧ (rd O m).kind ≠ 4
  kids : ∀ m : Nat, m < P.length → (rd O m).kids.map (fun x => rd P x) = (rd T (rd P m)).kids
  pos : ∀ m : Nat, m < P.length → ∀ x, x ∈ (rd O m).kids → 0 ≤ x ∧ x < P.length
theorem cpy_val {T O : List TN} {P : List Int} (h : cpy T O P) : ∀ (f m : Nat), m < P.length → valT O f m = valT T f (rd P m)
  | 0, _, _ => rfl
  | f + 1, m, hm => by
    obtain ⟨h1, h2, h3⟩ := h.kind m hm
    have hkd := h.kids m hm
    have hp := h.pos m hm
    unfold valT
    rw [h1, h2] at *
    rw [if_neg h3, if_neg h3, ← hkd, List.foldl_map]
    split
    · rfl
    · refine foldl_same _ _ fun x hx c => ?_
      have := hp x hx
      obtain ⟨j, rfl⟩ : ∃ j : Nat, x = (j : Int) := ⟨x.toNat, by omega⟩
      rw [cpy_val h f j (by omega)]
/-- No more different numbers than there are. -/
theorem nodup_len : ∀ (n : Nat) (l : List Int), l.Nodup → (∀ x, x ∈ l → 0 ≤ x ∧ x < n) → l.length ≤ n
  | 0, l, _, h => by
    cases l with
    | nil => simp
    | cons a l => have := h a List.mem_cons_self; omega
  | n + 1, l, hd, h => by
    have := nodup_len n (l.erase (n : Int)) (hd.erase _) fun x hx => by
      have h1 := h x (List.mem_of_mem_erase hx)
      have h2 : x ≠ n := fun e => by subst e; exact (hd.not_mem_erase) hx
      omega
    have h3 := List.le_length_erase (a := (n : Int)) (l := l)
    omega
theorem count_flat (K : Int → List Int) (j : Int) : ∀ (n : Nat) (l : List Int), l.Nodup → (∀ x, x ∈ l → 0 ≤ x ∧ x < n) → (l.flatMap K).count j ≤ ((ints n).flatMap K).count j
  | 0, l, _, h => by
    cases l with
    | nil => simp
    | cons a l => have := h a List.mem_cons_self; omega
  | n + 1, l, hd, h => by
    have ih := count_flat K j n (l.erase (n : Int)) (hd.erase _) fun x hx => by
      have h1 := h x (List.mem_of_mem_erase hx)
      have h2 : x ≠ n := fun e => by subst e; exact (hd.not_mem_erase) hx
      omega
    rw [ints_succ, List.flatMap_append, List.count_append]
    by_cases hm : (n : Int) ∈ l
    · rw [((List.perm_cons_erase hm).flatMap_right K).count_eq j, List.flatMap_cons, List.count_append]
      simp only [List.flatMap_cons, List.flatMap_nil, List.append_nil]
      omega
    · rw [List.erase_of_not_mem hm] at ih
      omega
theorem allK_ints (T : List TN) : allK T = (ints T.length).flatMap fun i => (rd T i).kids := by
  have e : T = (ints T.length).map (fun i => rd T i) := by
    refine List.ext_getElem (by simp [ints_length]) fun i h1 h2 => ?_
    rw [List.getElem_map]
    have : (ints T.length)[i]'(by rw [ints_length]; exact h1) = (i : Int) := by simp [ints]
    rw [this, rd_eq (by omega)]; simp
  unfold allK
  conv => lhs; rw [e]
  rw [List.flatMap_map]
end Go.Proofs.Ytcgjmlapmdbnmaa

