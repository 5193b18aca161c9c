/- Contracts of functions of the program, proved in a small separation logic. Conditions: those that each theorem states. -/
import Derived.Test.YtcgjmlapmdbnmaaRImg4
import Derived.Test.YtcgjmlapmdbnmaaTree7
namespace Go.Proofs.Ytcgjmlapmdbnmaa
open Go Go.Sl
set_option maxHeartbeats 4000000
set_option maxRecDepth 100000
set_option linter.unusedVariables false
/-! a tree's code holds together: plain -/
def stripI (x : S_api_Instr) : S_api_Instr := ⟨x.f_Op, 0⟩
theorem rd_stripI (f : List S_api_Instr) (i : Int) : rd (f.map stripI) i = stripI (rd f i) := by
  unfold rd
  rw [List.getD_eq_getElem?_getD, List.getD_eq_getElem?_getD, List.getElem?_map]
  cases f[i.toNat]? <;> rfl
theorem rd_noJ {f : List S_api_Instr} (h : ∀ x, x ∈ f → argT x.f_Op ≠ 2) (i : Int) : argT (rd f i).f_Op ≠ 2 := by
  unfold rd
  rw [List.getD_eq_getElem?_getD]
  cases hg : f[i.toNat]? with
  | none => show argT 0 ≠ 2; decide
  | some x => exact h x (List.mem_of_getElem? hg)
theorem stepW_strip {f : List S_api_Instr} (h : ∀ x, x ∈ f → argT x.f_Op ≠ 2) (s : WS) (k : Nat) : stepW (f.map stripI) s k = stepW f s k := by
  have hn : ∀ i : Int, nextW (stripI (rd f i)) i = nextW (rd f i) i := fun i => by
    unfold nextW
    rw [if_neg (rd_noJ h i), show argT (stripI (rd f i)).f_Op = argT (rd f i).f_Op from rfl, if_neg (rd_noJ h i)]; rfl
  unfold stepW
  rw [rd_stripI, hn, List.length_map]
  rfl
theorem runW_strip {f : List S_api_Instr} (h : ∀ x, x ∈ f → argT x.f_Op ≠ 2) : ∀ (m k : Nat) (s : WS), runW (f.map stripI) m k s = runW f m k s
  | 0, _, _ => rfl
  | m + 1, k, s => by
    unfold runW
    rw [stepW_strip h, runW_strip h m (k + 1)]
theorem walkT_strip {f : List S_api_Instr} (h : ∀ x, x ∈ f → argT x.f_Op ≠ 2) : walkT (f.map stripI) = walkT f := by
  unfold walkT
  rw [List.length_map, runW_strip h]
def codeS (kind : Int) (n : Nat) : List S_api_Instr :=
  if kind = 1 then [⟨1, 0⟩, ⟨25, 0⟩]
  else if n = 0 ∧ kind = 3 then [⟨1, 0⟩, ⟨25, 0⟩]
  else if n = 0 then [⟨1, 0⟩, ⟨25, 0⟩]
  else (((List.range n).flatMap fun _ => [⟨1, 0⟩, ⟨1, 0⟩, ⟨20, 0⟩]) ++ [⟨21, 0⟩, ⟨13, 0⟩]) ++ ((List.range (n - 1)).flatMap fun _ => [⟨21, 0⟩, ⟨12, 0⟩, ⟨opT kind, 0⟩, ⟨13, 0⟩]) ++ [⟨12, 0⟩, ⟨25, 0⟩]
theorem codeS_ok : ∀ (a : Fin 4) (n : Fin 9), (walkT (codeS ((a : Nat) + 1 : Int) n)).bad.findIdx? id = none := by decide +kernel
theorem forks_strip (T : List TN) : ∀ ks : List Int, (forksT T ks).map stripI = (List.range ks.length).flatMap fun _ => [⟨1, 0⟩, ⟨1, 0⟩, ⟨20, 0⟩]
  | [] => rfl
  | a :: ks => by
    have := forks_strip T ks
    unfold forksT at this ⊢
    rw [List.flatMap_cons, List.map_append, this, List.length_cons, List.range_succ_eq_map, List.flatMap_cons, List.flatMap_map]
    rfl
theorem waits_strip (kind : Int) (n : Nat) : (waitsT kind n).map stripI = (List.range n).flatMap fun _ => [⟨21, 0⟩, ⟨12, 0⟩, ⟨opT kind, 0⟩, ⟨13, 0⟩] := by
  unfold waitsT
  rw [List.map_flatMap]
  rfl
theorem code_strip (T : List TN) (n : TN) : (codeT T n).map stripI = codeS n.kind n.kids.length := by
  unfold codeT codeS
  by_cases h1 : n.kind = 1
  · rw [if_pos h1, if_pos h1]; rfl
  rw [if_neg h1, if_neg h1]
  by_cases h2 : n.kids.length = 0 ∧ n.kind = 3
  · rw [if_pos h2, if_pos h2]; rfl
  rw [if_neg h2, if_neg h2]
  by_cases h3 : n.kids.length = 0
  · rw [if_pos h3, if_pos h3]; rfl
  rw [if_neg h3, if_neg h3]
  simp only [List.map_append, forks_strip, waits_strip, List.map_cons, List.map_nil]
  rfl
theorem code_mem {T : List TN} {n : TN} {x : S_api_Instr} (h : x ∈ codeT T n) : x.f_Op = 1 ∨ (∃ k, k ∈ n.kids ∧ x = ⟨20, k⟩) ∨ x = ⟨21, 0⟩ ∨ x = ⟨13, 1⟩ ∨ x = ⟨12, 1⟩ ∨ x = ⟨opT n.kind, 0⟩ ∨ x = ⟨25, 0⟩ := by
  have two : ∀ a : Int, x ∈ ([⟨1, a⟩, ⟨25, 0⟩] : List S_api_Instr) → x.f_Op = 1 ∨ (∃ k, k ∈ n.kids ∧ x = ⟨20, k⟩) ∨ x = ⟨21, 0⟩ ∨ x = ⟨13, 1⟩ ∨ x = ⟨12, 1⟩ ∨ x = ⟨opT n.kind, 0⟩ ∨ x = ⟨25, 0⟩ := fun a h => by
    simp only [List.mem_cons, List.not_mem_nil, or_false] at h
    rcases h with rfl | rfl
    · exact .inl rfl
    · exact .inr (.inr (.inr (.inr (.inr (.inr rfl)))))
  unfold codeT at h
  split at h
  · exact two _ h
  split at h
  · exact two _ h
  split at h
  · exact two _ h
  rcases List.mem_append.1 h with h | h
  · rcases List.mem_append.1 h with h | h
    · rcases List.mem_append.1 h with h | h
      · obtain ⟨k, hk, h⟩ := List.mem_flatMap.1 h
        simp only [forkT, List.mem_cons, List.not_mem_nil, or_false] at h
        rcases h with rfl | rfl | rfl
        · exact .inl rfl
        · exact .inl rfl
        · exact .inr (.inl ⟨k, hk, rfl⟩)
      · simp only [List.mem_cons, List.not_mem_nil, or_false] at h
        rcases h with rfl | rfl
        · exact .inr (.inr (.inl rfl))
        · exact .inr (.inr (.inr (.inl rfl)))
    · obtain ⟨k, hk, h⟩ := List.mem_flatMap.1 h
      simp only [waitT, List.mem_cons, List.not_mem_nil, or_false] at h
      rcases h with rfl | rfl | rfl | rfl
      · exact .inr (.inr (.inl rfl))
      · exact .inr (.inr (.inr (.inr (.inl rfl))))
      · exact .inr (.inr (.inr (.inr (.inr (.inl rfl)))))
      · exact .inr (.inr (.inr (.inl rfl)))
  · simp only [List.mem_cons, List.not_mem_nil, or_false] at h
    rcases h with rfl | rfl
    · exact .inr (.inr (.inr (.inr (.inl rfl))))
    · exact .inr (.inr (.inr (.inr (.inr (.inr rfl)))))
theorem opT_or (kind : Int) : opT kind = 4 ∨ opT kind = 5 ∨ opT kind = 6 := by unfold opT; (repeat' split) <;> omega
theorem code_noJ {T : List TN} {n : TN} : ∀ x, x ∈ codeT T n → argT x.f_Op ≠ 2 := by
  intro x hx
  rcases code_mem hx with h | ⟨k, _, rfl⟩ | rfl | rfl | rfl | rfl | rfl
  · rw [h]; decide
  · show argT 20 ≠ 2; decide
  · show argT 21 ≠ 2; decide
  · show argT 13 ≠ 2; decide
  · show argT 12 ≠ 2; decide
  · show argT (opT n.kind) ≠ 2; rcases opT_or n.kind with h | h | h <;> rw [h] <;> decide
  · show argT 25 ≠ 2; decide
theorem code_argOk {T : List TN} {n : TN} (hk : ∀ k, k ∈ n.kids → 0 ≤ k ∧ k < 64) : argOk (codeT T n) := by
  intro x hx h2
  rcases code_mem hx with h | ⟨k, hk2, rfl⟩ | rfl | rfl | rfl | rfl | rfl
  · rw [h] at h2; exact absurd h2 (by decide)
  · have := hk k hk2; show i32B k; unfold i32B; omega
  · show i32B 0; unfold i32B; omega
  · show i32B 1; unfold i32B; omega
  · show i32B 1; unfold i32B; omega
  · show i32B 0; unfold i32B; omega
  · show i32B 0; unfold i32B; omega
theorem code_within {T : List TN} {n : TN} (c N : Int) (hk : ∀ k, k ∈ n.kids → 0 ≤ k ∧ k < N) : ∀ x, x ∈ codeT T n → withinT x c N 16 0 = true := by
  intro x hx
  rcases code_mem hx with h | ⟨k, hk2, rfl⟩ | rfl | rfl | rfl | rfl | rfl
  · unfold withinT rightT; rw [h]; rfl
  · have := hk k hk2
    unfold withinT rightT
    rw [show argT (S_api_Instr.mk 20 k).f_Op = 5 from rfl]
    simp [rd, this.1, this.2]
  · rfl
  · rfl
  · rfl
  · unfold withinT rightT
    rcases opT_or n.kind with h | h | h <;> rw [show (S_api_Instr.mk (opT n.kind) 0).f_Op = opT n.kind from rfl, h] <;> rfl
  · rfl
theorem codeT_len (T : List TN) (n : TN) (h8 : n.kids.length ≤ 8) : 1 ≤ (codeT T n).length ∧ (codeT T n).length ≤ 100 := by
  unfold codeT
  split
  · simp
  split
  · simp
  split
  · simp
  · simp only [List.length_append, forksT_len, waitsT_len, List.length_cons, List.length_nil]; omega
theorem code_func {T : List TN} {n : TN} {N : Int} (hk : ∀ k, k ∈ n.kids → 0 ≤ k ∧ k < N) (h8 : n.kids.length ≤ 8) (hd : 1 ≤ n.kind ∧ n.kind ≤ 4) : funcT (codeT T n) N 16 0 = (0, 0) := by
  have hl := codeT_len T n h8
  unfold funcT
  rw [if_neg (by omega), if_neg (by omega), List.findIdx?_eq_none_iff.2 (fun x hx => by rw [code_within _ N hk x hx]; rfl)]
  have hw := codeS_ok ⟨(n.kind - 1).toNat, by omega⟩ ⟨n.kids.length, by omega⟩
  rw [show (((⟨(n.kind - 1).toNat, by omega⟩ : Fin 4) : Nat) + 1 : Int) = n.kind from by show (((n.kind - 1).toNat : Nat) : Int) + 1 = n.kind; omega] at hw
  rw [← walkT_strip code_noJ, code_strip]
  dsimp only at hw ⊢
  rw [hw]
def forksOf (c : List S_api_Instr) : List Int := (c.filter fun x => decide (x.f_Op = 20)).map (·.f_Arg)
def cntOp (op : Int) (c : List S_api_Instr) : Nat := c.countP fun x => decide (x.f_Op = op)
theorem forksOf_append (a b : List S_api_Instr) : forksOf (a ++ b) = forksOf a ++ forksOf b := by simp [forksOf]
theorem cntOp_append (op : Int) (a b : List S_api_Instr) : cntOp op (a ++ b) = cntOp op a + cntOp op b := by simp [cntOp]
theorem forksOf_len (c : List S_api_Instr) : (forksOf c).length = cntOp 20 c := by simp [forksOf, cntOp, List.countP_eq_length_filter]
theorem forks_forks (T : List TN) : ∀ ks : List Int, forksOf (forksT T ks) = ks ∧ cntOp 21 (forksT T ks) = 0
  | [] => ⟨rfl, rfl⟩
  | a :: ks => by
    have := forks_forks T ks
    unfold forksT at this ⊢
    rw [List.flatMap_cons, forksOf_append, cntOp_append, this.1, this.2]
    exact ⟨rfl, rfl⟩
theorem waits_forks (kind : Int) : ∀ n : Nat, forksOf (waitsT kind n) = [] ∧ cntOp 21 (waitsT kind n) = n
  | 0 => ⟨rfl, rfl⟩
  | n + 1 => by
    have := waits_forks kind n
    rw [waitsT_succ, forksOf_append, cntOp_append, this.1, this.2]
    rcases opT_or kind with h | h | h <;> (unfold waitT; rw [h]; exact ⟨rfl, rfl⟩)
theorem code_forks {T : List TN} {n : TN} (h1 : n.kind = 1 → n.kids.length = 0) : forksOf (codeT T n) = n.kids ∧ cntOp 21 (codeT T n) = n.kids.length := by
  have no : ∀ a : Int, n.kids.length = 0 → forksOf [⟨1, a⟩, ⟨25, 0⟩] = n.kids ∧ cntOp 21 [⟨1, a⟩, ⟨25, 0⟩] = n.kids.length := fun a h => by
    rw [List.length_eq_zero_iff.1 h]; exact ⟨rfl, rfl⟩
  unfold codeT
  split
  · rename_i h; exact no _ (h1 h)
  split
  · rename_i h; exact no _ h.1
  split
  · rename_i h; exact no _ h
  · rename_i h
    rw [forksOf_append, forksOf_append, forksOf_append, cntOp_append, cntOp_append, cntOp_append, (forks_forks T n.kids).1, (forks_forks T n.kids).2, (waits_forks n.kind _).1, (waits_forks n.kind _).2]
    refine ⟨by rw [show forksOf [⟨21, 0⟩, ⟨13, 1⟩] = [] from rfl, show forksOf [⟨12, 1⟩, ⟨25, 0⟩] = [] from rfl]; simp, ?_⟩
    rw [show cntOp 21 [⟨21, 0⟩, ⟨13, 1⟩] = 1 from rfl, show cntOp 21 [⟨12, 1⟩, ⟨25, 0⟩] = 0 from rfl]
    omega
theorem fork_at {c : List S_api_Instr} {ks : List Int} (h : forksOf c = ks) {k : Nat} (hk : k < c.length) (h20 : (rd c k).f_Op = 20) : cntOp 20 (c.take k) < ks.length ∧ rd ks (cntOp 20 (c.take k)) = (rd c k).f_Arg := by
  have e : c = c.take k ++ rd c k :: c.drop (k + 1) := by
    conv => lhs; rw [← List.take_append_drop k c, List.drop_eq_getElem_cons hk]
    rw [rd_eq' hk]
  have h2 : ks = forksOf (c.take k) ++ (rd c k).f_Arg :: forksOf (c.drop (k + 1)) := by
    rw [← h]
    conv => lhs; rw [e]
    rw [forksOf_append, show rd c k :: c.drop (k + 1) = [rd c k] ++ c.drop (k + 1) from rfl, forksOf_append]
    congr 1
    rw [show forksOf [rd c k] = [(rd c k).f_Arg] from by simp [forksOf, h20]]; rfl
  have hl := forksOf_len (c.take k)
  refine ⟨by rw [h2, List.length_append, hl]; simp, ?_⟩
  rw [rd_eq' (by rw [h2, List.length_append, hl]; simp)]
  simp only [h2]
  rw [List.getElem_append_right (by omega)]
  simp [hl]
theorem cnt_at (op : Int) {c : List S_api_Instr} {k : Nat} (hk : k < c.length) : cntOp op (c.take (k + 1)) = cntOp op (c.take k) + if (rd c k).f_Op = op then 1 else 0 := by
  rw [take_rd hk, cntOp_append]
  by_cases h : (rd c k).f_Op = op <;> simp [cntOp, h]
theorem image_ok {T : List TN} {labels : Int} (hV : TV T labels) : imageT (T.map (codeT T)) 16 0 = (0, 0, 0) := by
  have hl := hV.len
  unfold imageT
  rw [if_neg (by rw [List.length_map]; omega), if_neg (by rw [List.length_map]; omega), List.findIdx?_eq_none_iff.2 (fun f hf => ?_)]
  obtain ⟨n, hn, rfl⟩ := List.mem_map.1 hf
  obtain ⟨i, hi, rfl⟩ := List.getElem_of_mem hn
  have F := nodeB_F (hV.node i hi)
  have h8 : (rd T i).kids.length ≤ 8 := by have := F.kind; omega
  have hk := hV.kinds i hi
  have fk := F.kids
  rw [rd_eq' hi] at h8 hk fk
  rw [code_func (fun k hk2 => ?_) h8 (by omega)]
  · rfl
  · obtain ⟨j, hj, rfl⟩ := List.getElem_of_mem hk2
    have := fk j hj
    rw [rd_eq' hj] at this
    rw [List.length_map]; omega
end Go.Proofs.Ytcgjmlapmdbnmaa

