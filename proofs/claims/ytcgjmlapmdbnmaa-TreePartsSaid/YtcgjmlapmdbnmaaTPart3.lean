/- Contracts of functions of the program, proved in a small separation logic. Conditions: those that each theorem states. -/
import Derived.Test.YtcgjmlapmdbnmaaTPart2
namespace Go.Proofs.Ytcgjmlapmdbnmaa
open Go Go.Sl
set_option maxHeartbeats 4000000
set_option maxRecDepth 100000
set_option linter.unusedVariables false
theorem PartI.kidpos {T : List TN} {r : Int} {P : List Int} {O : List TN} {n k : Nat} (h : PartI T r P O n k) {m : Nat} (hm : m < P.length) : ∀ x, x ∈ (rd O m).kids → 0 ≤ x ∧ x < P.length := fun x hx => by
  obtain ⟨i, hi, rfl⟩ := mem_rdN hx
  have := kidsB_at (h.ok m hm) hi
  omega
theorem PartI.step {T : List TN} {labels r : Int} {P : List Int} {O : List TN} {n k : Nat} (hT : TV T labels) (h : PartI T r P O n k) (hn : n < P.length) (hk : k < (rd T (rd P n)).kids.length) {c : Int} (hc : rd (rd T (rd P n)).kids k = c) :
    PartI T r (P ++ [c]) (growT O n ⟨(rd T c).kind, (rd T c).value, (rd T c).label, []⟩) n (k + 1) := by
  obtain ⟨⟨c1, c2⟩, cn⟩ := h.fresh hT hn hk
  rw [hc] at c1 c2 cn
  have hlen := h.len
  have hpn := rd_mem (xs := P) (i := (n : Int)) (by omega) (by omega)
  have hin := h.inr _ hpn
  have hge := h.gt _ hpn
  have hON : (0 : Int) ≤ (n : Int) ∧ (n : Int) < O.length := by omega
  have hPl : (P ++ [c]).length = P.length + 1 := by simp
  have rdP : ∀ m : Int, 0 ≤ m → m < P.length → rd (P ++ [c]) m = rd P m := fun m h0 h1 => by rw [rd_app _ _ h0, if_pos h1]
  have rdL : rd (P ++ [c]) (P.length : Int) = c := by rw [rd_app _ _ (by omega), if_neg (by omega), Int.sub_self]; rfl
  have rO := fun (m : Nat) (hm : m ≤ P.length) => rd_growT O ⟨(rd T c).kind, (rd T c).value, (rd T c).label, []⟩ hON (j := (m : Int)) (by omega) (by omega)
  have hmap : ∀ m : Nat, m < P.length → (rd O m).kids.map (fun x => rd (P ++ [c]) x) = (rd O m).kids.map (fun x => rd P x) := fun m hm => List.map_congr_left fun x hx => by
    have := h.kidpos hm x hx
    exact rdP x this.1 this.2
  refine ⟨by rw [growT_len, hPl, hlen], ?_, fun x hx => ?_, fun x hx => ?_, ?_, ?_, fun m hm => ?_, fun m hm => ?_, fun m hm => ?_, fun j h1 h2 => ?_⟩
  · rw [rdP 0 (by omega) (by omega)]; exact h.first
  · rcases List.mem_append.1 hx with hx | hx
    · exact h.inr x hx
    · rw [List.mem_singleton] at hx; subst hx; omega
  · rcases List.mem_append.1 hx with hx | hx
    · exact h.gt x hx
    · rw [List.mem_singleton] at hx; subst hx; omega
  · refine List.nodup_append.2 ⟨h.nd, by simp, fun a ha b hb => ?_⟩
    rw [List.mem_singleton] at hb; subst hb
    exact fun e => cn (e ▸ ha)
  · have e := h.flat
    rw [List.take_append_of_le_length (by omega), rdP n (by omega) (by omega), take_rd hk, hc, ← List.append_assoc, ← List.cons_append, ← e]
  · rw [hPl] at hm
    rw [rO m (by omega)]
    by_cases h1 : m = P.length
    · rw [if_pos (by omega), h1, rdL]; exact ⟨rfl, rfl, rfl⟩
    rw [if_neg (by omega), rdP m (by omega) (by omega)]
    split
    · rename_i e
      rw [← e]
      exact h.node m (by omega)
    · exact h.node m (by omega)
  · rw [hPl] at hm
    rw [rO m (by omega)]
    by_cases h1 : m = P.length
    · rw [if_pos (by omega), if_neg (by omega), if_neg (by omega)]; rfl
    rw [if_neg (by omega), rdP m (by omega) (by omega)]
    have hkm := h.kids m (by omega)
    by_cases h2 : m = n
    · subst h2
      rw [if_pos rfl, if_neg (by omega), if_pos rfl]
      rw [if_neg (by omega), if_pos rfl] at hkm
      rw [List.map_append, hmap m (by omega), hkm, take_rd hk, hc, hlen]
      simp only [List.map_cons, List.map_nil]
      rw [rdL]
    · rw [if_neg (by omega), hmap m (by omega), hkm, if_neg h2, if_neg h2]
  · rw [hPl] at hm ⊢
    rw [rO m (by omega)]
    by_cases h1 : m = P.length
    · rw [if_pos (by omega)]; rfl
    rw [if_neg (by omega)]
    by_cases h2 : m = n
    · subst h2
      rw [if_pos rfl, hlen]
      exact kidsB_grow (h.ok m (by omega)) (by omega)
    · rw [if_neg (by omega)]
      exact kidsB_mono (by omega) (h.ok m (by omega))
  · rw [hPl] at h2
    rw [allK_grow O hON _ rfl]
    by_cases e : j = P.length
    · rw [if_pos (by omega)]
      have : (allK O).count (j : Int) = 0 := List.count_eq_zero.2 fun hm => by
        obtain ⟨x, hx, hx2⟩ := List.mem_flatMap.1 hm
        obtain ⟨i, hi, rfl⟩ := List.mem_iff_getElem.1 hx
        have := h.kidpos (m := i) (by omega) (j : Int) (by rw [rd_eq (by omega)]; simpa using hx2)
        omega
      omega
    · rw [if_neg (by omega), h.cntP j h1 (by omega)]
theorem PartI.short {T : List TN} {r : Int} {P : List Int} {O : List TN} {n k : Nat} (h : PartI T r P O n k) : P.length ≤ T.length := nodup_len _ _ h.nd h.inr
theorem PartI.done {T : List TN} {labels r : Int} {P : List Int} {O : List TN} {n k : Nat} (hT : TV T labels) (h : PartI T r P O n k) (hn : n = P.length) : cpy T O P ∧ rightB O labels = true := by
  have hlen := h.len
  have hs := h.short
  have hTl := hT.len
  have hp1 : 1 ≤ P.length := by rw [h.flat]; simp
  have hkf : ∀ m : Nat, m < P.length → (rd O m).kids.map (fun x => rd P x) = (rd T (rd P m)).kids := fun m hm => by rw [h.kids m hm, if_pos (by omega)]
  have hin : ∀ m : Nat, m < P.length → ∃ p : Nat, rd P m = (p : Int) ∧ p < T.length := fun m hm => by
    have := h.inr _ (rd_mem (xs := P) (i := (m : Int)) (by omega) (by omega))
    exact ⟨(rd P m).toNat, by omega, by omega⟩
  have hno : ∀ m : Nat, m < P.length → nodeB O m labels = true := fun m hm => by
    obtain ⟨p, hp, hpT⟩ := hin m hm
    have h1 := hT.node p hpT
    have h2 := h.node m hm
    have h3 := congrArg List.length (hkf m hm)
    rw [List.length_map, hp] at h3
    rw [hp] at h2
    unfold nodeB at h1 ⊢
    simp only [Bool.and_eq_true] at h1 ⊢
    rw [h2.1, h2.2.2, h3]
    exact ⟨by rw [hlen]; exact h.ok m hm, h1.2⟩
  refine ⟨⟨hlen, fun m hm => ?_, hkf, fun m hm => h.kidpos hm⟩, ?_⟩
  · have h2 := h.node m hm
    refine ⟨h2.1, h2.2.1, ?_⟩
    rw [h2.1]
    obtain ⟨p, hp, hpT⟩ := hin m hm
    rw [hp]
    have := hT.kinds p hpT
    omega
  · have kin : ∀ x, x ∈ allK O → 0 ≤ x ∧ x < O.length := fun x hx => by
      obtain ⟨y, hy, hx2⟩ := List.mem_flatMap.1 hx
      obtain ⟨i, hi, rfl⟩ := List.mem_iff_getElem.1 hy
      have := h.kidpos (m := i) (by omega) x (by rw [rd_eq (by omega)]; simpa using hx2)
      omega
    unfold rightB
    rw [decide_eq_true (show 1 ≤ O.length ∧ O.length ≤ 64 by omega), Bool.true_and]
    rw [show (ints O.length).all (fun i => nodeB O i labels) = true from List.all_eq_true.2 fun i hi => by
      have := ints_mem.1 hi
      have := hno i.toNat (by omega)
      rwa [show ((i.toNat : Nat) : Int) = i by omega] at this, Bool.true_and]
    refine List.all_eq_true.2 fun x hx => ?_
    obtain ⟨j, hj, rfl⟩ := List.mem_iff_getElem.1 hx
    have hol := ownK_len O O.length (Nat.le_refl _)
    have hj2 : j + 1 < O.length := by simp [hol] at hj; omega
    have := rd_own O kin ((j + 1 : Nat) : Int) (by omega) (by omega) O.length (Nat.le_refl _)
    rw [List.take_length, h.cntP (j + 1) (by omega) (by omega), rd_eq (by rw [hol]; omega)] at this
    simp only [Int.toNat_natCast] at this
    rw [decide_eq_true_eq, List.getElem_drop]
    simp only [show 1 + j = j + 1 from by omega]
    exact this
/-- The part comes to what its node comes to. -/
theorem PartI.val {T : List TN} {labels r : Int} {P : List Int} {O : List TN} {n k : Nat} (hT : TV T labels) (h : PartI T r P O n k) (hn : n = P.length) (f : Nat) (hr : (T.length : Int) ≤ r + f) (hr0 : 0 ≤ r ∧ r < T.length) (hO : T.length ≤ r.toNat + O.length ∨ True) : valT O f 0 = valT T f r := by
  have := cpy_val (h.done hT hn).1 f 0 (by rw [h.flat]; simp)
  rw [show ((0 : Nat) : Int) = 0 from rfl, h.first] at this
  exact this
end Go.Proofs.Ytcgjmlapmdbnmaa

