-- Printed by wip/tools/oprint.py, a program of this session.
import Derived.Test.YtpeeneaapmmciaaPLtellsx0
import Derived.Test.YtpeeneaapmmciaaPLtellsx1
import Derived.Test.YtpeeneaapmmciaaPLtellsx2
namespace Go.Proofs.Ytpeeneaapmmciaa.PLtells
open Go.RowKit Go.Proofs.YtpeeneaapmmciaaW.PrintWords Go.Proofs.YtpeeneaapmmciaaW.PrintLast Go.Proofs.YtpeeneaapmmciaaW.PrintMore
attribute [local go_sem] max2_int min2_int max_two min_two max_three min_three max_four min_four   -- for this text's walks alone
set_option linter.unusedVariables false
set_option linter.unusedSimpArgs false

/-! ### lattice_New: function 45 -/
/-- What is above two, what is below two. -/
def upL (q : List (List Bool)) (a b : Int) : List Int := pick q.length fun c => at2 q a c && at2 q b c
def dnL (q : List (List Bool)) (a b : Int) : List Int := pick q.length fun c => at2 q c a && at2 q c b
def lstB (q : List (List Bool)) (a b : Int) : Int × Bool := firstB (upL q a b) fun x y => at2 q x y
def gstB (q : List (List Bool)) (a b : Int) : Int × Bool := firstB (dnL q a b) fun x y => at2 q y x
def leqF (q : List (List Bool)) (a b : Nat) : Int := if at2 q a b = true then 1 else 0
def joinF (q : List (List Bool)) (a b : Nat) : Int := (lstB q a b).1
def meetF (q : List (List Bool)) (a b : Nat) : Int := (gstB q a b).1
def bothB (q : List (List Bool)) (a b : Int) : Bool := (lstB q a b).2 && (gstB q a b).2
def reflB (q : List (List Bool)) : Bool := sqB q && allB q.length (fun a _ => at2 q a a)
def antiB (q : List (List Bool)) : Bool := sqB q && allB q.length (fun a b => a == b || (!at2 q a b || !at2 q b a))
def tranB (q : List (List Bool)) : Bool := sqB q && allB q.length (fun a b => trB q a b)
/-- Is a table a lattice? -/
def latB (q : List (List Bool)) : Bool := sqB q && (reflB q && (antiB q && (tranB q && allB q.length (bothB q))))
def topF (q : List (List Bool)) (m : Nat) : Int := (List.range m).foldl (fun (t : Int) (x : Nat) => latAt q.length (joinF q) t (x : Int) (-1)) 0
def botF (q : List (List Bool)) (m : Nat) : Int := (List.range m).foldl (fun (t : Int) (x : Nat) => latAt q.length (meetF q) t (x : Int) (-1)) 0
theorem topF_succ (q : List (List Bool)) (m : Nat) : topF q (m + 1) = latAt q.length (joinF q) (topF q m) (m : Int) (-1) := by unfold topF; rw [List.range_succ, List.foldl_append]; rfl
theorem botF_succ (q : List (List Bool)) (m : Nat) : botF q (m + 1) = latAt q.length (meetF q) (botF q m) (m : Int) (-1) := by unfold botF; rw [List.range_succ, List.foldl_append]; rfl
def tabP (m n : Nat) (f : Nat → Nat → Int) : List (List Int) := (List.range m).map fun a => (List.range n).map fun b => f a b
theorem tabP_len (m n : Nat) (f : Nat → Nat → Int) : (tabP m n f).length = m := by simp [tabP]
theorem tabP_succ (m n : Nat) (f : Nat → Nat → Int) : tabP (m + 1) n f = tabP m n f ++ [(List.range n).map fun b => f m b] := by unfold tabP; rw [List.range_succ, List.map_append]; rfl
/-- A row in the making: what is told of the first b places. -/
def mixR (n b : Nat) (f : Nat → Int) : List Int := (List.range n).map fun y => if y < b then f y else 0
theorem mixR_len (n b : Nat) (f : Nat → Int) : (mixR n b f).length = n := by simp [mixR]
theorem mixR_zero (n : Nat) (f : Nat → Int) : mixR n 0 f = List.replicate n 0 := by
  unfold mixR
  apply List.ext_getElem
  · simp
  · intro i h1 h2; simp
theorem mixR_full (n : Nat) (f : Nat → Int) : mixR n n f = (List.range n).map f := by
  unfold mixR
  apply List.map_congr_left
  intro y hy; rw [if_pos (List.mem_range.1 hy)]
theorem mixR_set (n b : Nat) (f : Nat → Int) (hb : b < n) : (mixR n b f).set (b : Int).toNat (f b) = mixR n (b + 1) f := by
  simp only [Int.toNat_natCast]
  unfold mixR
  apply List.ext_getElem
  · simp
  · intro i h1 h2
    simp only [List.length_set, List.length_map, List.length_range] at h1
    rw [List.getElem_set]
    simp only [List.getElem_map, List.getElem_range]
    by_cases hi : b = i
    · subst hi; simp
    · rw [if_neg hi]
      by_cases h3 : i < b
      · rw [if_pos h3, if_pos (by omega)]
      · rw [if_neg h3, if_neg (by omega)]
theorem mixR_skip (n b : Nat) (f : Nat → Int) (h : f b = 0) : mixR n (b + 1) f = mixR n b f := by
  unfold mixR
  apply List.map_congr_left
  intro y _
  by_cases hi : y = b
  · subst hi; rw [if_pos (by omega), if_neg (by omega), h]
  · by_cases h3 : y < b
    · rw [if_pos h3, if_pos (by omega)]
    · rw [if_neg h3, if_neg (by omega)]
theorem upper_in (q : List (List Bool)) (hs : sqB q = true) (a b : Nat) (ha : a < q.length) (hb : b < q.length) : order_Upper.f q a b = some (upL q a b) := by
  have hn := sq_len q hs
  unfold order_Upper.f
  rw [if_pos (by omega)]
  have : inLB q [(a : Int), (b : Int)] = true := by unfold inLB; rw [hs]; simp; omega
  rw [if_pos this]; rfl
theorem lower_in (q : List (List Bool)) (hs : sqB q = true) (a b : Nat) (ha : a < q.length) (hb : b < q.length) : order_Lower.f q a b = some (dnL q a b) := by
  have hn := sq_len q hs
  unfold order_Lower.f
  rw [if_pos (by omega)]
  have : inLB q [(a : Int), (b : Int)] = true := by unfold inLB; rw [hs]; simp; omega
  rw [if_pos this]; rfl
theorem pick_inL (q : List (List Bool)) (hs : sqB q = true) (g : Int → Bool) : inLB q (pick q.length g) = true := by
  unfold inLB
  rw [hs, Bool.and_true, List.all_eq_true]
  intro x hx
  unfold pick at hx
  obtain ⟨y, hy, rfl⟩ := List.mem_map.1 hx
  have := List.mem_range.1 (List.mem_filter.1 hy).1
  simp; omega
theorem least_in (q : List (List Bool)) (hs : sqB q = true) (a b : Int) : order_Least.f q (upL q a b) = some (lstB q a b) := by
  have hn := sq_len q hs
  have hl : (upL q a b).length ≤ q.length := pick_len _ _
  unfold order_Least.f
  have hi : inLB q (upL q a b) = true := pick_inL q hs _
  rw [if_pos (by omega), if_pos (by omega), if_pos hi]; rfl
theorem greatest_in (q : List (List Bool)) (hs : sqB q = true) (a b : Int) : order_Greatest.f q (dnL q a b) = some (gstB q a b) := by
  have hn := sq_len q hs
  have hl : (dnL q a b).length ≤ q.length := pick_len _ _
  unfold order_Greatest.f
  have hi : inLB q (dnL q a b) = true := pick_inL q hs _
  rw [if_pos (by omega), if_pos (by omega), if_pos hi]; rfl
theorem infoI : (Try.prog.info? 3).map (fun i => (i.zero, i.size, i.bytes)) = some (some (.int .i64 0), 1, 8) := by kernel_rfl
theorem infoRI : (Try.prog.info? 23).map (fun i => (i.zero, i.size, i.bytes)) = some (some (.slice none 0 0), 1, 24) := by kernel_rfl
/-- Three rows of the round's own. -/
def Rows3 (W0 wr : World) (n b1 b2 b3 : Nat) (f1 f2 f3 : List Int) : Prop := b1 ≠ b2 ∧ b1 ≠ b3 ∧ b2 ≠ b3 ∧ Below W0.heap.size W0 wr ∧
  Kd.R (Kd.int .i64) 3 wr W0.heap.size (fun k => k = b1) (.slice (some ⟨b1, 0, none⟩) n n) f1 ∧ Kd.R (Kd.int .i64) 3 wr W0.heap.size (fun k => k = b2) (.slice (some ⟨b2, 0, none⟩) n n) f2 ∧ Kd.R (Kd.int .i64) 3 wr W0.heap.size (fun k => k = b3) (.slice (some ⟨b3, 0, none⟩) n n) f3
/-- The lattice in the making: the tables' first rows. -/
def Tabs (w wr : World) (q : List (List Bool)) (g a : Nat) : Prop := Below w.heap.size w wr ∧ w.heap.size ≤ g ∧ ∃ v1 v2 v3 : Value, wr.heap[g]? = some (.cells #[v1, v2, v3, .int .i64 0, .int .i64 0] 78 (0, 0)) ∧ NeRow v1 v2 ∧ NeRow v1 v3 ∧ NeRow v2 v3 ∧
  Kd.S (Kd.slice 3 (Kd.int .i64)) 23 wr w.heap.size (fun _ => True) v1 (tabP a q.length (leqF q)) ∧ Kd.S (Kd.slice 3 (Kd.int .i64)) 23 wr w.heap.size (fun _ => True) v2 (tabP a q.length (joinF q)) ∧ Kd.S (Kd.slice 3 (Kd.int .i64)) 23 wr w.heap.size (fun _ => True) v3 (tabP a q.length (meetF q))
theorem Rows3.grow {W0 wr wr' : World} {n b1 b2 b3 : Nat} {f1 f2 f3 : List Int} (h : Rows3 W0 wr n b1 b2 b3 f1 f2 f3) (hb : Below wr.heap.size wr wr') : Rows3 W0 wr' n b1 b2 b3 f1 f2 f3 := by
  obtain ⟨h12, h13, h23, hB, r1, r2, r3⟩ := h
  exact ⟨h12, h13, h23, below_step hB hb, Kd.R_below r1 hb, Kd.R_below r2 hb, Kd.R_below r3 hb⟩
theorem row_block {W : World} {base b n : Nat} {f : List Int} (h : Kd.R (Kd.int .i64) 3 W base (fun k => k = b) (.slice (some ⟨b, 0, none⟩) n n) f) (hn : 0 < n) : base ≤ b ∧ ∃ cells, W.heap[b]? = some (.cells cells 3 (0, 0)) := by
  obtain ⟨hl, _, _⟩ := Kd.R_reads' h
  obtain ⟨g, cap, he, hb, _, cells, hc⟩ := Kd.R_form h (by omega)
  simp only [Value.slice.injEq, Option.some.injEq, Addr.mk.injEq] at he
  obtain ⟨⟨rfl, _⟩, _⟩ := he
  exact ⟨hb, cells, hc⟩
theorem row_facts {W : World} {base b n : Nat} {f : List Int} (h : Kd.R (Kd.int .i64) 3 W base (fun k => k = b) (.slice (some ⟨b, 0, none⟩) n n) f) (i : Nat) (hi : i < n) : (∃ v, W.cell? ⟨b, i, none⟩ = some (.int .i64 v)) ∧ W.frozen? ⟨b, i, none⟩ = false := by
  obtain ⟨hb, cells, hc⟩ := row_block h (by omega)
  obtain ⟨hl, _, hC⟩ := Kd.R_reads' h
  obtain ⟨ad, he, hx⟩ := Kd.at_int hC (i : Int) (by omega) (by omega)
  cases he
  rw [add_plain] at hx
  simp only [Int.toNat_natCast] at hx
  exact ⟨⟨_, hx⟩, blk_frozen hc i⟩
theorem Rows3.put1 {W0 wr : World} {n b1 b2 b3 : Nat} {f1 f2 f3 : List Int} (h : Rows3 W0 wr n b1 b2 b3 f1 f2 f3) (i : Nat) (hi : i < n) (x : Int) : Rows3 W0 (wr.setCell ⟨b1, i, none⟩ (.int .i64 x)) n b1 b2 b3 (f1.set (i : Int).toNat x) f2 f3 := by
  obtain ⟨h12, h13, h23, hB, r1, r2, r3⟩ := h
  have hge := (row_block r1 (by omega)).1
  have hp := Kd.R_putn (enc := Value.int .i64) r1 (i : Int) x
  simp only [Int.toNat_natCast] at hp ⊢
  exact ⟨h12, h13, h23, below_set hB hge, hp, Kd.R_far r2 (p := ⟨b1, i, none⟩) (fun k hk => by rw [hk]; exact Ne.symm h12) _, Kd.R_far r3 (p := ⟨b1, i, none⟩) (fun k hk => by rw [hk]; exact Ne.symm h13) _⟩
theorem Rows3.put2 {W0 wr : World} {n b1 b2 b3 : Nat} {f1 f2 f3 : List Int} (h : Rows3 W0 wr n b1 b2 b3 f1 f2 f3) (i : Nat) (hi : i < n) (x : Int) : Rows3 W0 (wr.setCell ⟨b2, i, none⟩ (.int .i64 x)) n b1 b2 b3 f1 (f2.set (i : Int).toNat x) f3 := by
  obtain ⟨h12, h13, h23, hB, r1, r2, r3⟩ := h
  have hge := (row_block r2 (by omega)).1
  have hp := Kd.R_putn (enc := Value.int .i64) r2 (i : Int) x
  simp only [Int.toNat_natCast] at hp ⊢
  exact ⟨h12, h13, h23, below_set hB hge, Kd.R_far r1 (p := ⟨b2, i, none⟩) (fun k hk => by rw [hk]; exact h12) _, hp, Kd.R_far r3 (p := ⟨b2, i, none⟩) (fun k hk => by rw [hk]; exact Ne.symm h23) _⟩
theorem Rows3.put3 {W0 wr : World} {n b1 b2 b3 : Nat} {f1 f2 f3 : List Int} (h : Rows3 W0 wr n b1 b2 b3 f1 f2 f3) (i : Nat) (hi : i < n) (x : Int) : Rows3 W0 (wr.setCell ⟨b3, i, none⟩ (.int .i64 x)) n b1 b2 b3 f1 f2 (f3.set (i : Int).toNat x) := by
  obtain ⟨h12, h13, h23, hB, r1, r2, r3⟩ := h
  have hge := (row_block r3 (by omega)).1
  have hp := Kd.R_putn (enc := Value.int .i64) r3 (i : Int) x
  simp only [Int.toNat_natCast] at hp ⊢
  exact ⟨h12, h13, h23, below_set hB hge, Kd.R_far r1 (p := ⟨b3, i, none⟩) (fun k hk => by rw [hk]; exact h13) _, Kd.R_far r2 (p := ⟨b3, i, none⟩) (fun k hk => by rw [hk]; exact h23) _, hp⟩
theorem Tabs.grow {w wr wr' : World} {q : List (List Bool)} {g a : Nat} (h : Tabs w wr q g a) (hb : Below wr.heap.size wr wr') : Tabs w wr' q g a := by
  obtain ⟨hB, hg, v1, v2, v3, hh, n12, n13, n23, s1, s2, s3⟩ := h
  exact ⟨below_step hB hb, hg, v1, v2, v3, (hb.block g (blk_lt hh)).trans hh, n12, n13, n23, Kd.S_below s1 hb, Kd.S_below s2 hb, Kd.S_below s3 hb⟩
theorem made_row (W : World) (n base : Nat) (hb : base ≤ W.heap.size) (hn : n ≤ 4096) : Kd.R (Kd.int .i64) 3 (W.alloc (.cells (madeCells #[.int .i64 0] n) 3)) base (fun k => k = W.heap.size) (.slice (some ⟨W.heap.size, 0, none⟩) n n) (List.replicate n 0) := by
  have ho := own_made' W base 3 .i64 n hb (by omega)
  exact Kd.R_of_own (enc := Value.int .i64) ho (fun k hk => by simp [Value.ownBlock] at hk; exact hk.symm)
section
variable {P : Program} {ops : Array Oper} {o : Oper} {a : Act} {Q : Exit → Act → World → Prop} {Kc : Act → World → Prop} {E : Prop} {α : Type}
/-- append of one element that lies somewhere, as a step of a region that draws its order. -/
theorem R_append_lies (d : Kd α) {w0 W : World} (base : Nat) (hgd : o.guard = none) (s x : Operand) (t e : TypeId) (z : Value) (bytes : Nat)
    (ho : o.op = .call { callee := .builtin .append, args := #[s, x], argTypes := #[t, t] })
    (ht : P.underlying t = some (.slice e)) (hinfo : (P.info? e).map (fun i => (i.zero, i.size, i.bytes)) = some (some z, d.sz, bytes)) (hz : z.cells.size = d.sz) (hs0 : 0 < d.sz) (hb0 : 0 < bytes)
    (v : Value) (xs : List α) (p : α) (cs : List Value) (ok okp : Nat → Prop) (gx : Nat) (hs : a.eval s = v) (hx : a.eval x = .slice (some ⟨gx, 0, none⟩) 1 1) (hcell : W.heap[gx]? = some (.cells cs.toArray e (0, 0))) (hp : d.M W base okp p cs) (hokp : ∀ k, okp k → ok k ∧ some k ≠ v.ownBlock) (hfresh : ∀ k, W.heap.size ≤ k → ok k)
    (HO : d.R e W base ok v xs) (HB : Below base w0 W) (hbase : base ≤ W.heap.size) (hl : (xs.length + 1) * bytes ≤ 140737488355328)
    (h : ∀ v1 w1, d.R e w1 base ok v1 (xs ++ [p]) → Below base w0 w1 → W.grownBy w1 v.ownBlock → (v1.ownBlock = v.ownBlock ∨ ∃ b, v1.ownBlock = some b ∧ W.heap.size ≤ b) → Kc (a.put o.dst v1) w1) :
    if Region.wanted o (yielded ops a.tmps) = true then Oper.wp P o a W Kc Q else E := by
  obtain ⟨h0, inner, hown, hr⟩ := HO
  obtain ⟨i0, hi, hzz⟩ := Option.map_eq_some_iff.1 hinfo
  simp only [Prod.mk.injEq] at hzz
  obtain ⟨hz0, hz1, hz2⟩ := hzz
  have hlen : xs.length + 1 ≤ 140737488355328 := Nat.le_trans (Nat.le_mul_of_pos_right _ hb0) hl
  have hcl := d.K_len (d.K_of_M hp)
  refine step_append_lies W hgd s x t ho base e i0 z d.sz bytes ht hi hz0 hz1 hz2 hz hs0 v xs.length inner hs hown ⟨gx, 0, none⟩ 1 1 cs hx (by rw [hcl]; simp) (fun j u hj => ?_) (d.K_one (d.K_of_M hp)) (by decide) (by simp only [maxLen]; omega) hl hbase W.heap.size rfl ?_
  · rw [add_plain, blk_cell hcell]
    simpa using hj
  · intro g cap w1 hown1 hg1 hat1 hlt1
    have hat : (Value.slice (some ⟨g, 0, none⟩) (xs.length + 1) cap).ownBlock = v.ownBlock ∨ ∃ b, (Value.slice (some ⟨g, 0, none⟩) (xs.length + 1) cap).ownBlock = some b ∧ W.heap.size ≤ b := by
      rcases hat1 with h1 | h1
      · exact .inl (by rw [h1]; simp [Value.ownBlock])
      · exact .inr ⟨g, by simp [Value.ownBlock], by omega⟩
    exact h _ w1 (Kd.R_appended h0 hr hp hokp hfresh hown1 hg1 hat) (HB.grown hg1 hbase (own_base hown)) hg1 hat
theorem S_append_lies (d : Kd α) {w0 W : World} (base : Nat) (hgd : o.guard = none) (s x : Operand) (t e : TypeId) (z : Value) (bytes : Nat)
    (ho : o.op = .call { callee := .builtin .append, args := #[s, x], argTypes := #[t, t] })
    (ht : P.underlying t = some (.slice e)) (hinfo : (P.info? e).map (fun i => (i.zero, i.size, i.bytes)) = some (some z, d.sz, bytes)) (hz : z.cells.size = d.sz) (hs0 : 0 < d.sz) (hb0 : 0 < bytes)
    (v : Value) (xs : List α) (p : α) (cs : List Value) (ok okp : Nat → Prop) (gx : Nat) (hs : a.eval s = v) (hx : a.eval x = .slice (some ⟨gx, 0, none⟩) 1 1) (hcell : W.heap[gx]? = some (.cells cs.toArray e (0, 0))) (hp : d.M W base okp p cs) (hokp : ∀ k, okp k → ok k ∧ some k ≠ v.ownBlock) (hfresh : ∀ k, W.heap.size ≤ k → ok k)
    (HO : Kd.S d e W base (fun k => ok k ∧ ¬ okp k) v xs) (HB : Below base w0 W) (hbase : base ≤ W.heap.size) (hl : (xs.length + 1) * bytes ≤ 140737488355328)
    (h : ∀ v1 w1, Kd.S d e w1 base ok v1 (xs ++ [p]) → Below base w0 w1 → W.grownBy w1 v.ownBlock → (v1.ownBlock = v.ownBlock ∨ ∃ b, v1.ownBlock = some b ∧ W.heap.size ≤ b) → Kc (a.put o.dst v1) w1) :
    if Region.wanted o (yielded ops a.tmps) = true then Oper.wp P o a W Kc Q else E := by
  obtain ⟨f, hf, hR⟩ := Kd.S_tag HO xs.length okp (fun _ hk h2 => h2.2 hk)
  refine R_append_lies (Kd.tag f d) base hgd s x t e z bytes ho ht hinfo hz hs0 hb0 v xs.zipIdx (p, xs.length) cs ok okp gx hs hx hcell (d.M_mono (fun k hk => ⟨hk, hf k hk⟩) hp) hokp hfresh (Kd.R_mono hR (fun _ hk => hk.1)) HB hbase (by rw [List.length_zipIdx]; exact hl) ?_
  intro v1 w1 hr
  rw [← Kd.zip_snoc] at hr
  exact h v1 w1 ⟨f, hr⟩
end
theorem blk_alloc {w : World} {g : Nat} {ob : Obj} (h : w.heap[g]? = some ob) (o : Obj) : (w.alloc o).heap[g]? = some ob := ((below_alloc (Below.refl w.heap.size w) o).block g (blk_lt h)).trans h
/-- A row is told of its own block and of blocks of its elements' rows alone. -/
theorem S_sharp {α : Type} {d : Kd α} {e t : Nat} {w : World} {base : Nat} {ok : Nat → Prop} {v : Value} {xs : List α} (h : Kd.S d e w base ok v xs) (hE : d.E = [t]) :
    Kd.S d e w base (fun k => ok k ∧ (some k = v.ownBlock ∨ ∃ cells, w.heap[k]? = some (.cells cells t (0, 0)))) v xs := by
  obtain ⟨f, h0, inner, ho, hr⟩ := h
  refine ⟨f, fun k hk => ⟨h0 k hk, .inl hk.symm⟩, inner, ho, hr.imp_ (fun p c hp => ?_)⟩
  refine (Kd.tag f d).M_mono (fun k hk => ?_) ((Kd.tag f d).M_bound hp)
  obtain ⟨⟨hk1, hk2⟩, hb, hlt, q, hq, hc⟩ := hk
  have hq' : q ∈ d.E := hq
  rw [hE] at hq'
  rw [List.mem_singleton.1 hq'] at hc
  exact ⟨⟨hk1, .inr hc⟩, hk2⟩
/-- Another row of the same type has been appended to. -/
theorem S_beside {α : Type} {d : Kd α} {e t : Nat} {w w1 : World} {base : Nat} {ok : Nat → Prop} {v u : Value} {xs : List α} (h : Kd.S d e w base ok v xs) (hE : d.E = [t]) (het : e ≠ t) (hu : ∀ k, u.ownBlock = some k → ∃ cells, w.heap[k]? = some (.cells cells e (0, 0))) (hne : NeRow u v) (hg : w.grownBy w1 u.ownBlock) : Kd.S d e w1 base ok v xs := by
  refine Kd.S_mono (Kd.S_grown (S_sharp h hE) hg (fun k hk e_ => ?_)) (fun _ hk => hk.1)
  rcases hk.2 with h1 | ⟨cells, h1⟩
  · exact hne k e_.symm h1.symm
  · obtain ⟨c2, h2⟩ := hu k e_.symm
    rw [h1] at h2
    simp only [Option.some.injEq, Obj.cells.injEq] at h2
    exact het h2.2.1.symm
theorem R_beside {W w1 : World} {base b n e : Nat} {f : List Int} {u : Value} (h : Kd.R (Kd.int .i64) 3 W base (fun k => k = b) (.slice (some ⟨b, 0, none⟩) n n) f) (hn : 0 < n) (he : e ≠ 3) (hu : ∀ k, u.ownBlock = some k → ∃ cells, W.heap[k]? = some (.cells cells e (0, 0))) (hg : W.grownBy w1 u.ownBlock) : Kd.R (Kd.int .i64) 3 w1 base (fun k => k = b) (.slice (some ⟨b, 0, none⟩) n n) f := by
  obtain ⟨_, cells, hc⟩ := row_block h hn
  refine Kd.R_grown h hg (fun k hk e_ => ?_)
  subst hk
  obtain ⟨c2, h2⟩ := hu k e_.symm
  rw [hc] at h2
  simp only [Option.some.injEq, Obj.cells.injEq] at h2
  exact he h2.2.1.symm
theorem three_rows (W : World) (n : Nat) (hn : n ≤ 4096) :
    Kd.R (Kd.int .i64) 3 (((W.alloc (.cells (madeCells #[.int .i64 0] n) 3)).alloc (.cells (madeCells #[.int .i64 0] n) 3)).alloc (.cells (madeCells #[.int .i64 0] n) 3)) W.heap.size (fun k => k = W.heap.size) (.slice (some ⟨W.heap.size, 0, none⟩) n n) (List.replicate n 0) ∧
    Kd.R (Kd.int .i64) 3 (((W.alloc (.cells (madeCells #[.int .i64 0] n) 3)).alloc (.cells (madeCells #[.int .i64 0] n) 3)).alloc (.cells (madeCells #[.int .i64 0] n) 3)) W.heap.size (fun k => k = W.heap.size + 1) (.slice (some ⟨W.heap.size + 1, 0, none⟩) n n) (List.replicate n 0) ∧
    Kd.R (Kd.int .i64) 3 (((W.alloc (.cells (madeCells #[.int .i64 0] n) 3)).alloc (.cells (madeCells #[.int .i64 0] n) 3)).alloc (.cells (madeCells #[.int .i64 0] n) 3)) W.heap.size (fun k => k = W.heap.size + 1 + 1) (.slice (some ⟨W.heap.size + 1 + 1, 0, none⟩) n n) (List.replicate n 0) := by
  refine ⟨Kd.R_alloc (Kd.R_alloc (made_row W n W.heap.size (Nat.le_refl _) hn) _) _, ?_, ?_⟩
  · have := made_row (W.alloc (.cells (madeCells #[.int .i64 0] n) 3)) n W.heap.size (by simp) hn
    simp only [World.size_alloc] at this
    exact Kd.R_alloc this _
  · have := made_row ((W.alloc (.cells (madeCells #[.int .i64 0] n) 3)).alloc (.cells (madeCells #[.int .i64 0] n) 3)) n W.heap.size (by simp; omega) hn
    simp only [World.size_alloc] at this
    exact this
theorem heap_new (w : World) (o : Obj) : (w.alloc o).heap[w.heap.size]? = some o := by
  show (w.heap.push o)[w.heap.size]? = some o
  simp
theorem allB_all (n : Nat) (g : Int → Int → Bool) : allB n g = true ↔ ∀ a b : Nat, a < n → b < n → g a b = true := by
  unfold allB
  rw [List.all_eq_true]
  constructor
  · intro H a b ha hb
    exact List.all_eq_true.1 (H a (List.mem_range.2 ha)) b (List.mem_range.2 hb)
  · intro H a ha
    exact List.all_eq_true.2 fun b hb => H a b (List.mem_range.1 ha) (List.mem_range.1 hb)
theorem fresh_ne {v : Value} {n k : Nat} (h : ∀ k, v.ownBlock = some k → k < n) (hk : n ≤ k) : some k ≠ v.ownBlock := fun e => absurd (h k e.symm) (by omega)
theorem ne_grew {α : Type} {d : Kd α} {e base : Nat} {ok : Nat → Prop} {W : World} {u v y : Value} {xs : List α} (h : Kd.S d e W base ok u xs) (hok : ∀ k, ok k → some k ≠ v.ownBlock) (hat : y.ownBlock = v.ownBlock ∨ ∃ b, y.ownBlock = some b ∧ W.heap.size ≤ b) : NeRow u y := by
  intro k hk hy
  have hlt := Kd.S_lt h k hk
  obtain ⟨f, h0, _⟩ := h
  have h1 := hok k (h0 k hk)
  rcases hat with e | ⟨b, e, hb⟩
  · exact h1 (hy.symm.trans e)
  · rw [hy] at e
    cases e
    omega
theorem tab_ok {α : Type} {d : Kd α} {e t base : Nat} {W : World} {v v2 v3 : Value} {xs : List α} {b : Nat} (h : Kd.S d e W base (fun _ => True) v xs) (hE : d.E = [t]) (het : e ≠ t) (h2 : ∀ k, v2.ownBlock = some k → ∃ cells, W.heap[k]? = some (.cells cells e (0, 0))) (h3 : ∀ k, v3.ownBlock = some k → ∃ cells, W.heap[k]? = some (.cells cells e (0, 0))) (n2 : NeRow v v2) (n3 : NeRow v v3) (hb : W.heap.size ≤ b) :
    Kd.S d e W base (fun k => (some k ≠ v2.ownBlock ∧ some k ≠ v3.ownBlock) ∧ ¬ k = b) v xs := by
  have hne : ∀ {u : Value}, (∀ k, u.ownBlock = some k → ∃ cells, W.heap[k]? = some (.cells cells e (0, 0))) → NeRow v u → ∀ k, (some k = v.ownBlock ∨ ∃ cells, W.heap[k]? = some (.cells cells t (0, 0))) → some k ≠ u.ownBlock := by
    intro u hu hn k hk e_
    rcases hk with h1 | ⟨cells, h1⟩
    · exact hn k h1.symm e_.symm
    · obtain ⟨c2, h2⟩ := hu k e_.symm
      rw [h1] at h2
      simp only [Option.some.injEq, Obj.cells.injEq] at h2
      exact het h2.2.1.symm
  refine Kd.S_mono (Kd.S_bound (S_sharp h hE)) (fun k hk => ⟨⟨hne h2 n2 k hk.1.2, hne h3 n3 k hk.1.2⟩, fun e_ => ?_⟩)
  subst e_
  have := hk.2.2.1
  omega
/-- The lattice with its tables, its top and its bottom still moving. -/
def Tabs2 (w wr : World) (q : List (List Bool)) (g : Nat) (t b : Int) : Prop := Below w.heap.size w wr ∧ w.heap.size ≤ g ∧ ∃ v1 v2 v3 : Value, wr.heap[g]? = some (.cells #[v1, v2, v3, .int .i64 t, .int .i64 b] 78 (0, 0)) ∧
  Kd.S (Kd.slice 3 (Kd.int .i64)) 23 wr w.heap.size (fun _ => True) v1 (tabP q.length q.length (leqF q)) ∧ Kd.S (Kd.slice 3 (Kd.int .i64)) 23 wr w.heap.size (fun _ => True) v2 (tabP q.length q.length (joinF q)) ∧ Kd.S (Kd.slice 3 (Kd.int .i64)) 23 wr w.heap.size (fun _ => True) v3 (tabP q.length q.length (meetF q))
section
variable {w wr wr' : World} {q : List (List Bool)} {g : Nat} {t b : Int}
theorem Tabs2.grow (h : Tabs2 w wr q g t b) (hb : Below wr.heap.size wr wr') : Tabs2 w wr' q g t b := by
  obtain ⟨hB, hg, v1, v2, v3, hh, s1, s2, s3⟩ := h
  exact ⟨below_step hB hb, hg, v1, v2, v3, (hb.block g (blk_lt hh)).trans hh, Kd.S_below s1 hb, Kd.S_below s2 hb, Kd.S_below s3 hb⟩
theorem Tabs2.drawn (h : Tabs2 w wr q g t b) (hd : Drawn0 wr wr') : Tabs2 w wr' q g t b := h.grow hd.below
theorem Tabs2.cell3 (h : Tabs2 w wr q g t b) : wr.cell? ⟨g, 3, none⟩ = some (.int .i64 t) := by
  obtain ⟨hB, hg, v1, v2, v3, hh, _⟩ := h
  rw [blk_cell hh]; rfl
theorem Tabs2.cell4 (h : Tabs2 w wr q g t b) : wr.cell? ⟨g, 4, none⟩ = some (.int .i64 b) := by
  obtain ⟨hB, hg, v1, v2, v3, hh, _⟩ := h
  rw [blk_cell hh]; rfl
theorem Tabs2.soft (h : Tabs2 w wr q g t b) (i : Nat) : wr.frozen? ⟨g, i, none⟩ = false := by
  obtain ⟨hB, hg, v1, v2, v3, hh, _⟩ := h
  exact blk_frozen hh i
theorem Tabs2.put3 (h : Tabs2 w wr q g t b) (x : Int) : Tabs2 w (wr.setCell ⟨g, 3, none⟩ (.int .i64 x)) q g x b := by
  obtain ⟨hB, hg, v1, v2, v3, hh, s1, s2, s3⟩ := h
  exact ⟨below_set hB hg, hg, v1, v2, v3, blk_put hh 3 _ rfl, Kd.S_set s1 hh (by decide) 3 _, Kd.S_set s2 hh (by decide) 3 _, Kd.S_set s3 hh (by decide) 3 _⟩
theorem Tabs2.put4 (h : Tabs2 w wr q g t b) (x : Int) : Tabs2 w (wr.setCell ⟨g, 4, none⟩ (.int .i64 x)) q g t x := by
  obtain ⟨hB, hg, v1, v2, v3, hh, s1, s2, s3⟩ := h
  exact ⟨below_set hB hg, hg, v1, v2, v3, blk_put hh 4 _ rfl, Kd.S_set s1 hh (by decide) 4 _, Kd.S_set s2 hh (by decide) 4 _, Kd.S_set s3 hh (by decide) 4 _⟩
theorem Tabs2.isLat (h : Tabs2 w wr q g t b) : IsLat wr g q.length (leqF q) (joinF q) (meetF q) t b := by
  obtain ⟨hB, hg, v1, v2, v3, hh, s1, s2, s3⟩ := h
  obtain ⟨A1, c1, rfl, h1, k1⟩ := Kd.S_reads s1
  obtain ⟨A2, c2, rfl, h2, k2⟩ := Kd.S_reads s2
  obtain ⟨A3, c3, rfl, h3, k3⟩ := Kd.S_reads s3
  rw [tabP_len] at hh h1 h2 h3 k1 k2 k3
  simp only [tabP_len] at hh
  exact ⟨A1, c1, A2, c2, A3, c3, hh, h1, h2, h3, k1, k2, k3⟩
end
def lattice_New.T19 : Bool × List (List Nat × List Nat) := (true, [([], []), ([], []), ([], []), ([], []), ([3], [3]), ([4], [4]), ([5], [5]), ([], []), ([7], [7]), ([6, 8], [6, 8]), ([], []), ([10], [10]), ([11], [11]), ([12], [12]), ([], []), ([14], [14]), ([13, 15, 9], [13, 15]), ([], []), ([17], [17]), ([18], [18]), ([19], [19]), ([], []), ([21], [21]), ([20, 22, 16], [20, 22]), ([0, 0, 3, 4, 5, 6, 7, 8, 9, 13, 16, 20, 23], [0]), ([24, 0, 3, 4, 5, 6, 7, 8, 9, 13, 16, 20, 23], [24]), ([25, 9, 23, 0, 3, 4, 5, 6, 7, 8, 9, 13, 16, 20, 23], [9, 25]), ([1, 0, 1, 3, 4, 5, 6, 7, 8, 9, 10, 11, 12, 13, 14, 15, 16, 20, 23, 24, 25, 26], [1]), ([27, 0, 1, 3, 4, 5, 6, 7, 8, 9, 10, 11, 12, 13, 14, 15, 16, 20, 23, 24, 25, 26], [27]), ([28, 16, 26, 0, 1, 3, 4, 5, 6, 7, 8, 9, 10, 11, 12, 13, 14, 15, 16, 20, 23, 24, 25, 26], [16, 28]), ([2, 0, 1, 2, 3, 4, 5, 6, 7, 8, 9, 10, 11, 12, 13, 14, 15, 16, 17, 18, 19, 20, 21, 22, 23, 24, 25, 26, 27, 28, 29], [2]), ([30, 0, 1, 2, 3, 4, 5, 6, 7, 8, 9, 10, 11, 12, 13, 14, 15, 16, 17, 18, 19, 20, 21, 22, 23, 24, 25, 26, 27, 28, 29], [30]), ([31, 23, 29, 0, 1, 2, 3, 4, 5, 6, 7, 8, 9, 10, 11, 12, 13, 14, 15, 16, 17, 18, 19, 20, 21, 22, 23, 24, 25, 26, 27, 28, 29], [23, 31])])
def lattice_New.B19 : List Nat := [0, 0, 0, 0, 8, 24, 56, 0, 128, 504, 0, 1024, 3072, 7168, 0, 16384, 65528, 0, 131072, 393216, 917504, 0, 2097152, 8388600, 16777209, 33554425, 67108857, 134217723, 268435451, 536870907, 1073741823, 2147483647, 4294967295]
theorem lattice_New.tab19 : rtab .any (opsOf Try.f45 19) = lattice_New.T19 := by kernel_rfl
theorem lattice_New.bits19 : waitsOk lattice_New.T19.2 lattice_New.B19 = true := by kernel_rfl
def lattice_New.T24 : Bool × List (List Nat × List Nat) := (true, [([], []), ([], []), ([], []), ([], []), ([3], [3]), ([4], [4]), ([5], [5]), ([], []), ([2, 6, 7], [2, 6, 7]), ([], []), ([], []), ([10], [10]), ([11], [11]), ([12], [12]), ([], []), ([9, 13, 14, 8], [9, 13, 14]), ([0, 0, 2, 3, 4, 5, 6, 7, 8, 13, 15], [0]), ([16, 0, 2, 3, 4, 5, 6, 7, 8, 13, 15], [16]), ([17, 8, 15, 0, 2, 3, 4, 5, 6, 7, 8, 13, 15], [8, 17]), ([1, 0, 1, 2, 3, 4, 5, 6, 7, 8, 9, 10, 11, 12, 13, 14, 15, 16, 17, 18], [1]), ([19, 0, 1, 2, 3, 4, 5, 6, 7, 8, 9, 10, 11, 12, 13, 14, 15, 16, 17, 18], [19]), ([20, 15, 18, 0, 1, 2, 3, 4, 5, 6, 7, 8, 9, 10, 11, 12, 13, 14, 15, 16, 17, 18], [15, 20])])
def lattice_New.B24 : List Nat := [0, 0, 0, 0, 8, 24, 56, 0, 252, 0, 0, 1024, 3072, 7168, 0, 32764, 65533, 131069, 262141, 524287, 1048575, 2097151]
theorem lattice_New.tab24 : rtab .any (opsOf Try.f45 24) = lattice_New.T24 := by kernel_rfl
theorem lattice_New.bits24 : waitsOk lattice_New.T24.2 lattice_New.B24 = true := by kernel_rfl
set_option maxRecDepth 100000 in
set_option maxHeartbeats 4000000 in
theorem lattice_New_tabs (A : Option Addr) (c : Nat) (q : List (List Bool)) (w : World) (hr : Kd.C (Kd.slice 4 Kd.bool) w A q.length q) (hc : q.length ≤ c) (hq : q.length < 4611686018427387904) :
    Calls Try.prog 45 #[.slice A q.length c] w fun e w' => Below w.heap.size w w' ∧
      ((latB q = false ∧ e = .returned (.tuple #[.pointer none, .int .i64 23])) ∨ (latB q = true ∧ ∃ g, w.heap.size ≤ g ∧ e = .returned (.tuple #[.pointer (some ⟨g, 0, none⟩), .int .i64 0]) ∧ Tabs2 w w' q g (topF q q.length) (botF q q.length))) := by
  have HR := Aside0.mk hr
  have HC := Aside0.mk hc
  have HSQ := Aside0.mk (sq_eq q hq (q.length + 1) (Nat.lt_succ_self _))
  have HRE : Aside0 (order_Reflexive.f q = some (reflB q)) := ⟨by unfold order_Reflexive.f; rw [if_pos hq]; rfl⟩
  have HAN : Aside0 (order_Antisymmetric.f q = some (antiB q)) := ⟨by unfold order_Antisymmetric.f; rw [if_pos hq]; rfl⟩
  have HTR : Aside0 (order_Transitive.f q = some (tranB q)) := ⟨by unfold order_Transitive.f; rw [if_pos hq]; rfl⟩
  have HLT : Aside0 (latB q = (sqB q && (reflB q && (antiB q && (tranB q && allB q.length (bothB q)))))) := ⟨rfl⟩
  have HB := Aside0.mk (Below.refl w.heap.size w)
  clear hr hc
  by_cases hall : sqB q = true ∧ reflB q = true ∧ antiB q = true ∧ tranB q = true
  · obtain ⟨h1, h2, h3, h4⟩ := hall
    rw [h1] at HSQ
    rw [h2] at HRE
    rw [h3] at HAN
    rw [h4] at HTR
    have hn16 := sq_len q h1
    have hn1 : 1 ≤ q.length := by
      have := h1; unfold sqB at this; simp only [Bool.and_eq_true, decide_eq_true_eq] at this; exact this.1
    have HS1 := Aside0.mk h1
    have HLB : Aside0 (latB q = allB q.length (bothB q)) := ⟨by rw [HLT.out, h1, h2, h3, h4]; rfl⟩
    clear h1 h2 h3 h4 HLT
    go_enter Try.func45, Try.ntmps45
    go_wp2_with (first | (go_at_call 26; (with_reducible refine (order_Square.calls (q.length + 1) A c q _ _ ?s1 ?s2 HSQ.out).mono ?_); (case s1 => repeat (first | exact (Kd.C_below HR.out (by repeat (first | (with_reducible first | exact HB.out | apply below_alloc | apply pw_below_drewN | apply below_drew1) | exact HB.out))) | (with_reducible refine Kd.C_alloc ?_ _) | (with_reducible refine Kd.C_drewN ?_ _) | (with_reducible refine Kd.C_drew ?_))); (case s2 => exact HC.out); rintro e w' ⟨rfl, ⟨nd, rfl⟩⟩) | (go_at_call 28; (with_reducible refine (order_Reflexive.calls A c q _ _ ?s1 ?s2 HRE.out).mono ?_); (case s1 => repeat (first | exact (Kd.C_below HR.out (by repeat (first | (with_reducible first | exact HB.out | apply below_alloc | apply pw_below_drewN | apply below_drew1) | exact HB.out))) | (with_reducible refine Kd.C_alloc ?_ _) | (with_reducible refine Kd.C_drewN ?_ _) | (with_reducible refine Kd.C_drew ?_))); (case s2 => exact HC.out); rintro e w3_ ⟨rfl, hb_⟩; have HB3 := Aside0.mk (below_step (by repeat (first | (with_reducible first | exact HB.out | apply below_alloc | apply pw_below_drewN | apply below_drew1) | exact HB.out)) hb_); clear HB hb_; have HB := HB3; clear HB3) | (go_at_call 30; (with_reducible refine (order_Antisymmetric.calls A c q _ _ ?s1 ?s2 HAN.out).mono ?_); (case s1 => repeat (first | exact (Kd.C_below HR.out (by repeat (first | (with_reducible first | exact HB.out | apply below_alloc | apply pw_below_drewN | apply below_drew1) | exact HB.out))) | (with_reducible refine Kd.C_alloc ?_ _) | (with_reducible refine Kd.C_drewN ?_ _) | (with_reducible refine Kd.C_drew ?_))); (case s2 => exact HC.out); rintro e w3_ ⟨rfl, hb_⟩; have HB3 := Aside0.mk (below_step (by repeat (first | (with_reducible first | exact HB.out | apply below_alloc | apply pw_below_drewN | apply below_drew1) | exact HB.out)) hb_); clear HB hb_; have HB := HB3; clear HB3) | (go_at_call 32; (with_reducible refine (order_Transitive.calls A c q _ _ ?s1 ?s2 HTR.out).mono ?_); (case s1 => repeat (first | exact (Kd.C_below HR.out (by repeat (first | (with_reducible first | exact HB.out | apply below_alloc | apply pw_below_drewN | apply below_drew1) | exact HB.out))) | (with_reducible refine Kd.C_alloc ?_ _) | (with_reducible refine Kd.C_drewN ?_ _) | (with_reducible refine Kd.C_drew ?_))); (case s2 => exact HC.out); rintro e w3_ ⟨rfl, hb_⟩; have HB3 := Aside0.mk (below_step (by repeat (first | (with_reducible first | exact HB.out | apply below_alloc | apply pw_below_drewN | apply below_drew1) | exact HB.out)) hb_); clear HB hb_; have HB := HB3; clear HB3))
    go_loopw [37] (fun i wr => ∃ a : Nat, a ≤ q.length ∧ i = .int .i64 (a : Int) ∧ Aside0 (Tabs w wr q w3_.heap.size a) ∧ Aside0 (∀ x : Nat, x < a → ∀ y : Nat, y < q.length → bothB q x y = true)) (fun i _ => q.length - (intOf i).toNat)
    case atStart => exact ⟨0, Nat.zero_le _, rfl, ⟨below_alloc HB.out _, HB.out.size, _, _, _, heap_new _ _, fun k hk => by simp [Value.ownBlock] at hk, fun k hk => by simp [Value.ownBlock] at hk, fun k hk => by simp [Value.ownBlock] at hk, Kd.S_nil _ _ _ _ _, Kd.S_nil _ _ _ _ _, Kd.S_nil _ _ _ _ _⟩, ⟨fun x hx => absurd hx (Nat.not_lt_zero _)⟩⟩
    case round =>
      obtain ⟨a, ha, rfl, HT, HG⟩ := hrel
      obtain ⟨wo, rfl⟩ : ∃ wo : World, wo = wr := ⟨_, rfl⟩
      by_cases hlt : a < q.length
      · go_upto_region 7 with (fail)
        go_cut [6, 7, 8] (fun v6 v7 v8 wc => ∃ b1 b2 b3 : Nat, v6 = .slice (some ⟨b1, 0, none⟩) q.length q.length ∧ v7 = .slice (some ⟨b2, 0, none⟩) q.length q.length ∧ v8 = .slice (some ⟨b3, 0, none⟩) q.length q.length ∧ Aside0 (Rows3 wo wc q.length b1 b2 b3 (mixR q.length 0 (leqF q a)) (mixR q.length 0 (joinF q a)) (mixR q.length 0 (meetF q a))))
        case first =>
          have hmk := print_make (P := Try.prog) 23 3 .i64 8 Try.underlying23 infoI (by decide) q.length (by omega)
          have H3R := Aside0.mk (three_rows wo q.length (by omega))
          go_region
          all_goals
            go_wp2
            go_meet
            case rel => exact ⟨_, _, _, rfl, rfl, rfl, ⟨by omega, by omega, by omega, (by repeat (first | exact Below.refl _ _ | apply below_alloc | apply pw_below_drewN | apply below_drew1)), by (rw [mixR_zero]; (with_reducible repeat (first | apply Kd.R_drewN | apply Kd.R_drew)); first | exact H3R.out.1 | exact H3R.out.2.1 | exact H3R.out.2.2), by (rw [mixR_zero]; (with_reducible repeat (first | apply Kd.R_drewN | apply Kd.R_drew)); first | exact H3R.out.1 | exact H3R.out.2.1 | exact H3R.out.2.2), by (rw [mixR_zero]; (with_reducible repeat (first | apply Kd.R_drewN | apply Kd.R_drew)); first | exact H3R.out.1 | exact H3R.out.2.1 | exact H3R.out.2.2)⟩⟩
        case rest =>
          obtain ⟨b1, b2, b3, rfl, rfl, rfl, H3⟩ := hcut
          go_wp2_with fail
          go_loopw [51] (fun i wr => ∃ b : Nat, b ≤ q.length ∧ i = .int .i64 (b : Int) ∧ Aside0 (Rows3 wo wr q.length b1 b2 b3 (mixR q.length b (leqF q a)) (mixR q.length b (joinF q a)) (mixR q.length b (meetF q a))) ∧ Aside0 (∀ y : Nat, y < b → bothB q a y = true)) (fun i _ => q.length - (intOf i).toNat)
          case atStart => exact ⟨0, Nat.zero_le _, rfl, H3, ⟨fun y hy => absurd hy (Nat.not_lt_zero _)⟩⟩
          case round =>
            clear H3
            obtain ⟨b, hb, rfl, H3, HGB⟩ := hrel
            by_cases hlt2 : b < q.length
            · obtain ⟨ad, ad2, c2_, rfl, hx, hx2⟩ := at2_reads (Kd.C_below HR.out (below_step HT.out.1 H3.out.2.2.2.1)) (a : Int) (b : Int) (by omega) (by omega) (by omega) (by rw [sq_row q HS1.out a (by omega) (by omega)]; omega)
              rw [sq_row q HS1.out a (by omega) (by omega)] at hx
              simp only [Int.toNat_natCast] at hx hx2
              obtain ⟨⟨o1_, hy1⟩, hz1⟩ := row_facts H3.out.2.2.2.2.1 b hlt2
              have HUP := Aside0.mk (upper_in q HS1.out a b hlt hlt2)
              have HLO := Aside0.mk (lower_in q HS1.out a b hlt hlt2)
              obtain ⟨x1, y1, hl1⟩ : ∃ x y, lstB q a b = (x, y) := ⟨_, _, rfl⟩
              obtain ⟨x2, y2, hl2⟩ : ∃ x y, gstB q a b = (x, y) := ⟨_, _, rfl⟩
              have HLS := Aside0.mk (least_in q HS1.out (a : Int) (b : Int))
              have HGS := Aside0.mk (greatest_in q HS1.out (a : Int) (b : Int))
              rw [hl1] at HLS
              rw [hl2] at HGS
              have HJ : Aside0 (joinF q a b = x1) := ⟨by unfold joinF; rw [hl1]⟩
              have HM : Aside0 (meetF q a b = x2) := ⟨by unfold meetF; rw [hl2]⟩
              have HBO : Aside0 (bothB q a b = (y1 && y2)) := ⟨by unfold bothB; rw [hl1, hl2]⟩
              clear hl1 hl2
              generalize hup : upL q a b = up at *
              generalize hdn : dnL q a b = dn at *
              clear hup hdn
              generalize hat : at2 q a b = at_ at *
              have HST : Aside0 (Rows3 wo (if at_ = true then wr.setCell ⟨b1, b, none⟩ (.int .i64 1) else wr) q.length b1 b2 b3 (mixR q.length (b + 1) (leqF q a)) (mixR q.length b (joinF q a)) (mixR q.length b (meetF q a))) := ⟨by
                cases at_ with
                | true =>
                  have := H3.out.put1 b hlt2 1
                  have e1 : leqF q a b = 1 := by unfold leqF; rw [hat]; rfl
                  rw [if_pos rfl]
                  rw [← e1, mixR_set q.length b (leqF q a) hlt2, e1] at this
                  exact this
                | false =>
                  have e1 : leqF q a b = 0 := by unfold leqF; rw [hat]; rfl
                  rw [if_neg (by decide), mixR_skip q.length b (leqF q a) e1]
                  exact H3.out⟩
              clear hat H3
              cases at_
              all_goals
                simp only [Bool.false_eq_true, if_false, if_true] at HST
                go_wp2_with fail
                refine (order_Upper.calls _ c q a b up _ (Kd.C_below HR.out (below_step HT.out.1 HST.out.2.2.2.1)) HC.out HUP.out).mono ?_
                rintro e w5 ⟨v5, rfl, ho5, hb5⟩
                have H35 := Aside0.mk (HST.out.grow hb5)
                obtain ⟨Au, cu, rfl⟩ := Kd.R_slice ho5
                have HU := Aside0.mk (Kd.R_reads' ho5)
                clear HST ho5 hb5
                go_wp2_with fail
                refine (order_Least.calls _ c q Au cu up x1 y1 _ (Kd.C_below HR.out (below_step HT.out.1 H35.out.2.2.2.1)) HC.out HU.out.2.2 HU.out.2.1 HLS.out).mono ?_
                rintro e w6 ⟨rfl, hb6⟩
                have H36 := Aside0.mk (H35.out.grow hb6)
                clear H35 hb6 HU
                go_wp2_with fail
                refine (order_Lower.calls _ c q a b dn _ (Kd.C_below HR.out (below_step HT.out.1 H36.out.2.2.2.1)) HC.out HLO.out).mono ?_
                rintro e w7 ⟨v7, rfl, ho7, hb7⟩
                have H37 := Aside0.mk (H36.out.grow hb7)
                obtain ⟨Ad, cd, rfl⟩ := Kd.R_slice ho7
                have HU := Aside0.mk (Kd.R_reads' ho7)
                clear H36 ho7 hb7
                go_wp2_with fail
                refine (order_Greatest.calls _ c q Ad cd dn x2 y2 _ (Kd.C_below HR.out (below_step HT.out.1 H37.out.2.2.2.1)) HC.out HU.out.2.2 HU.out.2.1 HGS.out).mono ?_
                rintro e w8 ⟨rfl, hb8⟩
                have H38 := Aside0.mk (H37.out.grow hb8)
                clear H37 hb8 HU
                cases y1
                · have HF : Aside0 (latB q = false) := ⟨by rw [HLB.out, Bool.eq_false_iff]; intro h; have := (allB_all _ _).1 h a b hlt hlt2; rw [HBO.out] at this; cases this⟩
                  go_wp2
                  go_ret2
                  exact ⟨below_step HT.out.1 H38.out.2.2.2.1, .inl ⟨HF.out, rfl⟩⟩
                · cases y2
                  · have HF : Aside0 (latB q = false) := ⟨by rw [HLB.out, Bool.eq_false_iff]; intro h; have := (allB_all _ _).1 h a b hlt hlt2; rw [HBO.out] at this; cases this⟩
                    go_wp2
                    go_ret2
                    exact ⟨below_step HT.out.1 H38.out.2.2.2.1, .inl ⟨HF.out, rfl⟩⟩
                  · obtain ⟨⟨o2_, hy2⟩, hz2⟩ := row_facts H38.out.2.2.2.2.2.1 b hlt2
                    obtain ⟨⟨o3_, hy3⟩, hz3⟩ := row_facts H38.out.2.2.2.2.2.2 b hlt2
                    have hne := H38.out.2.2.1
                    have HP := (H38.out.put2 b hlt2 x1).put3 b hlt2 x2
                    rw [← HJ.out, mixR_set q.length b (joinF q a) hlt2, ← HM.out, mixR_set q.length b (meetF q a) hlt2, HJ.out, HM.out] at HP
                    have HPA := Aside0.mk HP
                    have hy3' : (w8.setCell ⟨b2, b, none⟩ (.int .i64 x1)).cell? ⟨b3, b, none⟩ = some (.int .i64 o3_) := (cell_far (p := ⟨b2, b, none⟩) (Ne.symm hne) _).trans hy3
                    clear H38 HP hne
                    go_wp2
                    go_roundw
                    case rel => exact ⟨b + 1, by omega, by go_num, HPA, ⟨fun y hy => by
                      rcases Nat.lt_or_eq_of_le (Nat.le_of_lt_succ hy) with h | h
                      · exact HGB.out y h
                      · subst h; exact HBO.out⟩⟩
                    case measure => simp [intOf]; omega
            · obtain rfl : b = q.length := by omega
              rw [mixR_full, mixR_full, mixR_full] at H3
              obtain ⟨ra, rfl⟩ : ∃ ra : Nat, ra = a := ⟨_, rfl⟩
              obtain ⟨hB0, hg0, v1, v2, v3, hh, n12, n13, n23, s1, s2, s3⟩ := HT.out
              obtain ⟨h12, h13, h23, hBw, r1, r2, r3⟩ := H3.out
              have NV1 := Aside0.mk (Kd.S_lt s1)
              have NV2 := Aside0.mk (Kd.S_lt s2)
              have NV3 := Aside0.mk (Kd.S_lt s3)
              have k1 := (row_block r1 (by omega)).1
              have k2 := (row_block r2 (by omega)).1
              have k3 := (row_block r3 (by omega)).1
              have BV11 := Aside0.mk (fresh_ne NV1.out k1)
              have BV12 := Aside0.mk (fresh_ne NV2.out k1)
              have BV13 := Aside0.mk (fresh_ne NV3.out k1)
              have NG1 : Aside0 (some w3_.heap.size ≠ v1.ownBlock) := ⟨fun e_ => by obtain ⟨c_, hc_⟩ := Kd.S_typed s1 _ e_.symm; rw [hh] at hc_; simp at hc_⟩
              have BV21 := Aside0.mk (fresh_ne NV1.out k2)
              have BV22 := Aside0.mk (fresh_ne NV2.out k2)
              have BV23 := Aside0.mk (fresh_ne NV3.out k2)
              have NG2 : Aside0 (some w3_.heap.size ≠ v2.ownBlock) := ⟨fun e_ => by obtain ⟨c_, hc_⟩ := Kd.S_typed s2 _ e_.symm; rw [hh] at hc_; simp at hc_⟩
              have BV31 := Aside0.mk (fresh_ne NV1.out k3)
              have BV32 := Aside0.mk (fresh_ne NV2.out k3)
              have BV33 := Aside0.mk (fresh_ne NV3.out k3)
              have NG3 : Aside0 (some w3_.heap.size ≠ v3.ownBlock) := ⟨fun e_ => by obtain ⟨c_, hc_⟩ := Kd.S_typed s3 _ e_.symm; rw [hh] at hc_; simp at hc_⟩
              have HGE : Aside0 (w.heap.size ≤ w3_.heap.size) := ⟨hg0⟩
              go_upto_region 19 with (fail)
              refine start_ (n := 33) (S := fun w' => True) (ds := []) #[false, false, false, false, false, false, false, false, false, false, false, false, false, false, false, false, false, false, false, false, false, false, false, false, false, false, false, false, false, false, false, false, false] (by kernel_rfl) rfl rfl trivial (fun hHeld => ?_)
              refine with_tabW lattice_New.tab19 lattice_New.bits19 (fun HT_ HW_ => ?_)
              have G0 := Aside0.mk True.intro
              have HBW := Aside0.mk True.intro
              have HSZ := Aside0.mk True.intro
              have R1 := Aside0.mk True.intro
              have R2 := Aside0.mk True.intro
              have R3 := Aside0.mk True.intro
              have T1 := Aside0.mk True.intro
              have T2 := Aside0.mk True.intro
              have T3 := Aside0.mk True.intro
              refine inv_at [0, 1, 2, 3, 4, 5, 6, 7, 8, 9, 10, 11, 12, 13, 14, 15, 16, 17, 18, 19, 20, 21, 22, 23, 24, 25, 26, 27, 28, 29, 30, 31, 32] (fun a0_ b a w' => ∃ (y1 : Value) (y2 : Value) (y3 : Value) (a1 : Nat) (a2 : Nat) (a3 : Nat) (m8_ : Value) (m15_ : Value) (m22_ : Value), a = putSel a0_ b [(0, 97, .pointer (some ⟨w3_.heap.size, 0, none⟩)), (1, 98, .pointer (some ⟨w3_.heap.size, 0, none⟩)), (2, 99, .pointer (some ⟨w3_.heap.size, 0, none⟩)), (3, 100, .pointer (some ⟨w3_.heap.size, 0, none⟩)), (4, 101, .pointer (some ⟨w3_.heap.size, 0, none⟩)), (5, 102, .pointer (some ⟨w3_.heap.size, 0, none⟩)), (6, 103, v1), (7, 104, .slice (some ⟨b1, 0, none⟩) q.length q.length), (8, 105, m8_), (9, 106, y1), (10, 107, .pointer (some ⟨w3_.heap.size, 0, none⟩)), (11, 108, .pointer (some ⟨w3_.heap.size, 0, none⟩)), (12, 109, .pointer (some ⟨w3_.heap.size, 1, none⟩)), (13, 110, v2), (14, 111, .slice (some ⟨b2, 0, none⟩) q.length q.length), (15, 112, m15_), (16, 113, y2), (17, 114, .pointer (some ⟨w3_.heap.size, 0, none⟩)), (18, 115, .pointer (some ⟨w3_.heap.size, 0, none⟩)), (19, 116, .pointer (some ⟨w3_.heap.size, 2, none⟩)), (20, 117, v3), (21, 118, .slice (some ⟨b3, 0, none⟩) q.length q.length), (22, 119, m22_), (23, 120, y3), (24, 121, .pointer (some ⟨w3_.heap.size, 0, none⟩)), (25, 122, .pointer (some ⟨w3_.heap.size, 0, none⟩)), (27, 123, .pointer (some ⟨w3_.heap.size, 0, none⟩)), (28, 124, .pointer (some ⟨w3_.heap.size, 1, none⟩)), (30, 125, .pointer (some ⟨w3_.heap.size, 0, none⟩)), (31, 126, .pointer (some ⟨w3_.heap.size, 2, none⟩))] ∧ (Below w.heap.size w w') ∧ (wo.heap.size ≤ w'.heap.size) ∧ (b 26 = false → w'.heap[w3_.heap.size]? = some (.cells #[v1, v2, v3, .int .i64 0, .int .i64 0] 78 (0, 0))) ∧ (b 26 = true → b 29 = false → w'.heap[w3_.heap.size]? = some (.cells #[y1, v2, v3, .int .i64 0, .int .i64 0] 78 (0, 0))) ∧ (b 29 = true → b 32 = false → w'.heap[w3_.heap.size]? = some (.cells #[y1, y2, v3, .int .i64 0, .int .i64 0] 78 (0, 0))) ∧ (b 32 = true → w'.heap[w3_.heap.size]? = some (.cells #[y1, y2, y3, .int .i64 0, .int .i64 0] 78 (0, 0))) ∧ (b 9 = false → Kd.S (Kd.slice 3 (Kd.int .i64)) 23 w' w.heap.size (fun k => (some k ≠ v2.ownBlock ∧ some k ≠ v3.ownBlock) ∧ ¬ k = b1) v1 (tabP ra q.length (leqF q))) ∧ (b 9 = true → Kd.S (Kd.slice 3 (Kd.int .i64)) 23 w' w.heap.size (fun k => some k ≠ v2.ownBlock ∧ some k ≠ v3.ownBlock) y1 (tabP (ra + 1) q.length (leqF q))) ∧ (b 9 = false → Kd.R (Kd.int .i64) 3 w' w.heap.size (fun k => k = b1) (.slice (some ⟨b1, 0, none⟩) q.length q.length) ((List.range q.length).map (leqF q ra))) ∧ (b 8 = true → b 9 = false → wo.heap.size ≤ a1 ∧ w'.heap[a1]? = some (.cells #[.slice (some ⟨b1, 0, none⟩) q.length q.length] 23 (0, 0))) ∧ (b 16 = false → Kd.S (Kd.slice 3 (Kd.int .i64)) 23 w' w.heap.size (fun k => (some k ≠ v1.ownBlock ∧ some k ≠ v3.ownBlock) ∧ ¬ k = b2) v2 (tabP ra q.length (joinF q))) ∧ (b 16 = true → Kd.S (Kd.slice 3 (Kd.int .i64)) 23 w' w.heap.size (fun k => some k ≠ v1.ownBlock ∧ some k ≠ v3.ownBlock) y2 (tabP (ra + 1) q.length (joinF q))) ∧ (b 16 = false → Kd.R (Kd.int .i64) 3 w' w.heap.size (fun k => k = b2) (.slice (some ⟨b2, 0, none⟩) q.length q.length) ((List.range q.length).map (joinF q ra))) ∧ (b 15 = true → b 16 = false → wo.heap.size ≤ a2 ∧ w'.heap[a2]? = some (.cells #[.slice (some ⟨b2, 0, none⟩) q.length q.length] 23 (0, 0))) ∧ (b 23 = false → Kd.S (Kd.slice 3 (Kd.int .i64)) 23 w' w.heap.size (fun k => (some k ≠ v1.ownBlock ∧ some k ≠ v2.ownBlock) ∧ ¬ k = b3) v3 (tabP ra q.length (meetF q))) ∧ (b 23 = true → Kd.S (Kd.slice 3 (Kd.int .i64)) 23 w' w.heap.size (fun k => some k ≠ v1.ownBlock ∧ some k ≠ v2.ownBlock) y3 (tabP (ra + 1) q.length (meetF q))) ∧ (b 23 = false → Kd.R (Kd.int .i64) 3 w' w.heap.size (fun k => k = b3) (.slice (some ⟨b3, 0, none⟩) q.length q.length) ((List.range q.length).map (meetF q ra))) ∧ (b 22 = true → b 23 = false → wo.heap.size ≤ a3 ∧ w'.heap[a3]? = some (.cells #[.slice (some ⟨b3, 0, none⟩) q.length q.length] 23 (0, 0))) ∧ (b 16 = true → NeRow y1 y2) ∧ (b 23 = true → NeRow y1 y3) ∧ (b 23 = true → NeRow y2 y3) ∧ (b 8 = true → (m8_ : Value) = .slice (some ⟨a1, 0, none⟩) 1 1) ∧ (b 15 = true → (m15_ : Value) = .slice (some ⟨a2, 0, none⟩) 1 1) ∧ (b 22 = true → (m22_ : Value) = .slice (some ⟨a3, 0, none⟩) 1 1)) HT_.out HW_.out (by kernel_rfl) (by kernel_rfl) ?_ ?_ ?_
              · exact ⟨.bool false, .bool false, .bool false, 0, 0, 0, .bool false, .bool false, .bool false, by simp only [putSel, Bool.false_eq_true, if_false], below_step HT.out.1 (by repeat (first | exact H3.out.2.2.2.1 | apply below_drew1 | apply pw_below_drewN)), Below.size (by repeat (first | exact H3.out.2.2.2.1 | apply below_drew1 | apply pw_below_drewN)), fun _ => ((Below.block (by repeat (first | exact H3.out.2.2.2.1 | apply below_drew1 | apply pw_below_drewN))) _ (blk_lt hh)).trans hh, fun h_ => absurd h_ (by decide), fun h_ => absurd h_ (by decide), fun h_ => absurd h_ (by decide), fun _ => Kd.S_below (tab_ok s1 rfl (by decide) (Kd.S_typed s2) (Kd.S_typed s3) n12 n13 k1) (by repeat (first | exact H3.out.2.2.2.1 | apply below_drew1 | apply pw_below_drewN)), fun h_ => absurd h_ (by decide), fun _ => Kd.R_lower (by with_reducible repeat (first | exact r1 | apply Kd.R_drew | apply Kd.R_drewN)) hB0.size, fun h_ => absurd h_ (by decide), fun _ => Kd.S_below (tab_ok s2 rfl (by decide) (Kd.S_typed s1) (Kd.S_typed s3) (ne_symm n12) n23 k2) (by repeat (first | exact H3.out.2.2.2.1 | apply below_drew1 | apply pw_below_drewN)), fun h_ => absurd h_ (by decide), fun _ => Kd.R_lower (by with_reducible repeat (first | exact r2 | apply Kd.R_drew | apply Kd.R_drewN)) hB0.size, fun h_ => absurd h_ (by decide), fun _ => Kd.S_below (tab_ok s3 rfl (by decide) (Kd.S_typed s1) (Kd.S_typed s2) (ne_symm n13) (ne_symm n23) k3) (by repeat (first | exact H3.out.2.2.2.1 | apply below_drew1 | apply pw_below_drewN)), fun h_ => absurd h_ (by decide), fun _ => Kd.R_lower (by with_reducible repeat (first | exact r3 | apply Kd.R_drew | apply Kd.R_drewN)) hB0.size, fun h_ => absurd h_ (by decide), fun h_ => absurd h_ (by decide), fun h_ => absurd h_ (by decide), fun h_ => absurd h_ (by decide), fun h_ => absurd h_ (by decide), fun h_ => absurd h_ (by decide), fun h_ => absurd h_ (by decide)⟩
              · skip
                clear G0 HBW HSZ R1 R2 R3 T1 T2 T3
                refine steps_cons ?_ ?_
                · rintro b a w' ⟨y1, y2, y3, a1, a2, a3, m8_, m15_, m22_, ha, Q_HBW, Q_HSZ, Q_G0, Q_G1, Q_G2, Q_G3, Q_T1, Q_U1, Q_R1, Q_E1, Q_T2, Q_U2, Q_R2, Q_E2, Q_T3, Q_U3, Q_R3, Q_E3, Q_N12, Q_N13, Q_N23, Q_X8_, Q_X15_, Q_X22_⟩ hb_ hon hoff
                  refine ⟨_, rfl, fun K hK => ?_⟩
                  have e4 : a.tmps[4]? = some (.pointer (some ⟨w3_.heap.size, 0, none⟩)) := by rw [ha]; exact (putSel_off rfl).trans rfl
                  replace ha := Aside0.mk ha
                  have HBW := Aside0.mk Q_HBW
                  have HSZ := Aside0.mk Q_HSZ
                  have G0 := Aside0.mk (Q_G0 (hoff 26 (by kernel_rfl)))
                  refine value_ (w1 := w') (v := .pointer (some ⟨w3_.heap.size, 0, none⟩)) (by rfl) rfl ?_ ?_
                  · go_simp
                    (try simp only [i64_w])
                    try rfl
                  refine hK.out _ _ ⟨y1, y2, y3, a1, a2, a3, m8_, m15_, m22_, (by rw [ha.out]; exact putSel_upk 0 hb_ rfl rfl rfl), Q_HBW, Q_HSZ, Q_G0, fun h0_ _ => absurd ((hoff 26 (by kernel_rfl)).symm.trans h0_) (by decide), fun h0_ _ => absurd ((hoff 29 (by kernel_rfl)).symm.trans h0_) (by decide), fun h0_ => absurd ((hoff 32 (by kernel_rfl)).symm.trans h0_) (by decide), Q_T1, Q_U1, Q_R1, Q_E1, Q_T2, Q_U2, Q_R2, Q_E2, Q_T3, Q_U3, Q_R3, Q_E3, Q_N12, Q_N13, Q_N23, Q_X8_, Q_X15_, Q_X22_⟩
                refine steps_cons ?_ ?_
                · rintro b a w' ⟨y1, y2, y3, a1, a2, a3, m8_, m15_, m22_, ha, Q_HBW, Q_HSZ, Q_G0, Q_G1, Q_G2, Q_G3, Q_T1, Q_U1, Q_R1, Q_E1, Q_T2, Q_U2, Q_R2, Q_E2, Q_T3, Q_U3, Q_R3, Q_E3, Q_N12, Q_N13, Q_N23, Q_X8_, Q_X15_, Q_X22_⟩ hb_ hon hoff
                  refine ⟨_, rfl, fun K hK => ?_⟩
                  have e4 : a.tmps[4]? = some (.pointer (some ⟨w3_.heap.size, 0, none⟩)) := by rw [ha]; exact (putSel_off rfl).trans rfl
                  replace ha := Aside0.mk ha
                  have HBW := Aside0.mk Q_HBW
                  have HSZ := Aside0.mk Q_HSZ
                  refine value_ (w1 := w') (v := .pointer (some ⟨w3_.heap.size, 0, none⟩)) (by rfl) rfl ?_ ?_
                  · go_simp
                    (try simp only [i64_w])
                    try rfl
                  refine hK.out _ _ ⟨y1, y2, y3, a1, a2, a3, m8_, m15_, m22_, (by rw [ha.out]; exact putSel_upk 1 hb_ rfl rfl rfl), Q_HBW, Q_HSZ, Q_G0, Q_G1, fun h0_ _ => absurd ((hoff 29 (by kernel_rfl)).symm.trans h0_) (by decide), fun h0_ => absurd ((hoff 32 (by kernel_rfl)).symm.trans h0_) (by decide), Q_T1, Q_U1, Q_R1, Q_E1, Q_T2, Q_U2, Q_R2, Q_E2, Q_T3, Q_U3, Q_R3, Q_E3, Q_N12, Q_N13, Q_N23, Q_X8_, Q_X15_, Q_X22_⟩
                refine steps_cons ?_ ?_
                · rintro b a w' ⟨y1, y2, y3, a1, a2, a3, m8_, m15_, m22_, ha, Q_HBW, Q_HSZ, Q_G0, Q_G1, Q_G2, Q_G3, Q_T1, Q_U1, Q_R1, Q_E1, Q_T2, Q_U2, Q_R2, Q_E2, Q_T3, Q_U3, Q_R3, Q_E3, Q_N12, Q_N13, Q_N23, Q_X8_, Q_X15_, Q_X22_⟩ hb_ hon hoff
                  refine ⟨_, rfl, fun K hK => ?_⟩
                  have e4 : a.tmps[4]? = some (.pointer (some ⟨w3_.heap.size, 0, none⟩)) := by rw [ha]; exact (putSel_off rfl).trans rfl
                  replace ha := Aside0.mk ha
                  have HBW := Aside0.mk Q_HBW
                  have HSZ := Aside0.mk Q_HSZ
                  refine value_ (w1 := w') (v := .pointer (some ⟨w3_.heap.size, 0, none⟩)) (by rfl) rfl ?_ ?_
                  · go_simp
                    (try simp only [i64_w])
                    try rfl
                  refine hK.out _ _ ⟨y1, y2, y3, a1, a2, a3, m8_, m15_, m22_, (by rw [ha.out]; exact putSel_upk 2 hb_ rfl rfl rfl), Q_HBW, Q_HSZ, Q_G0, Q_G1, Q_G2, fun h0_ => absurd ((hoff 32 (by kernel_rfl)).symm.trans h0_) (by decide), Q_T1, Q_U1, Q_R1, Q_E1, Q_T2, Q_U2, Q_R2, Q_E2, Q_T3, Q_U3, Q_R3, Q_E3, Q_N12, Q_N13, Q_N23, Q_X8_, Q_X15_, Q_X22_⟩
                refine steps_cons ?_ ?_
                · rintro b a w' ⟨y1, y2, y3, a1, a2, a3, m8_, m15_, m22_, ha, Q_HBW, Q_HSZ, Q_G0, Q_G1, Q_G2, Q_G3, Q_T1, Q_U1, Q_R1, Q_E1, Q_T2, Q_U2, Q_R2, Q_E2, Q_T3, Q_U3, Q_R3, Q_E3, Q_N12, Q_N13, Q_N23, Q_X8_, Q_X15_, Q_X22_⟩ hb_ hon hoff
                  refine ⟨_, rfl, fun K hK => ?_⟩
                  have e4 : a.tmps[4]? = some (.pointer (some ⟨w3_.heap.size, 0, none⟩)) := by rw [ha]; exact (putSel_off rfl).trans rfl
                  replace ha := Aside0.mk ha
                  have HBW := Aside0.mk Q_HBW
                  have HSZ := Aside0.mk Q_HSZ
                  have G0 := Aside0.mk (Q_G0 (hoff 26 (by kernel_rfl)))
                  have T1 := Aside0.mk (Q_T1 (hoff 9 (by kernel_rfl)))
                  have R1 := Aside0.mk (Q_R1 (hoff 9 (by kernel_rfl)))
                  have T2 := Aside0.mk (Q_T2 (hoff 16 (by kernel_rfl)))
                  have R2 := Aside0.mk (Q_R2 (hoff 16 (by kernel_rfl)))
                  have T3 := Aside0.mk (Q_T3 (hoff 23 (by kernel_rfl)))
                  have R3 := Aside0.mk (Q_R3 (hoff 23 (by kernel_rfl)))
                  refine value_ (w1 := w') (v := .pointer (some ⟨w3_.heap.size, 0, none⟩)) (by rfl) rfl ?_ ?_
                  · go_simp
                    (try simp only [i64_w])
                    try rfl
                  refine hK.out _ _ ⟨y1, y2, y3, a1, a2, a3, m8_, m15_, m22_, (by rw [ha.out]; exact putSel_upk 3 hb_ rfl rfl rfl), Q_HBW, Q_HSZ, Q_G0, fun h0_ _ => absurd ((hoff 26 (by kernel_rfl)).symm.trans h0_) (by decide), fun h0_ _ => absurd ((hoff 29 (by kernel_rfl)).symm.trans h0_) (by decide), fun h0_ => absurd ((hoff 32 (by kernel_rfl)).symm.trans h0_) (by decide), Q_T1, fun h0_ => absurd ((hoff 9 (by kernel_rfl)).symm.trans h0_) (by decide), Q_R1, Q_E1, Q_T2, fun h0_ => absurd ((hoff 16 (by kernel_rfl)).symm.trans h0_) (by decide), Q_R2, Q_E2, Q_T3, fun h0_ => absurd ((hoff 23 (by kernel_rfl)).symm.trans h0_) (by decide), Q_R3, Q_E3, fun h0_ => absurd ((hoff 16 (by kernel_rfl)).symm.trans h0_) (by decide), fun h0_ => absurd ((hoff 23 (by kernel_rfl)).symm.trans h0_) (by decide), fun h0_ => absurd ((hoff 23 (by kernel_rfl)).symm.trans h0_) (by decide), Q_X8_, Q_X15_, Q_X22_⟩
                refine steps_cons ?_ ?_
                · rintro b a w' ⟨y1, y2, y3, a1, a2, a3, m8_, m15_, m22_, ha, Q_HBW, Q_HSZ, Q_G0, Q_G1, Q_G2, Q_G3, Q_T1, Q_U1, Q_R1, Q_E1, Q_T2, Q_U2, Q_R2, Q_E2, Q_T3, Q_U3, Q_R3, Q_E3, Q_N12, Q_N13, Q_N23, Q_X8_, Q_X15_, Q_X22_⟩ hb_ hon hoff
                  refine ⟨_, rfl, fun K hK => ?_⟩
                  have e100 : a.tmps[100]? = some (.pointer (some ⟨w3_.heap.size, 0, none⟩)) := by rw [ha]; exact putSel_on (e := (3, 100, .pointer (some ⟨w3_.heap.size, 0, none⟩))) 3 rfl rfl (hon 3 (by kernel_rfl)) rfl
                  replace ha := Aside0.mk ha
                  have HBW := Aside0.mk Q_HBW
                  have HSZ := Aside0.mk Q_HSZ
                  have G0 := Aside0.mk (Q_G0 (hoff 26 (by kernel_rfl)))
                  have T1 := Aside0.mk (Q_T1 (hoff 9 (by kernel_rfl)))
                  have R1 := Aside0.mk (Q_R1 (hoff 9 (by kernel_rfl)))
                  have T2 := Aside0.mk (Q_T2 (hoff 16 (by kernel_rfl)))
                  have R2 := Aside0.mk (Q_R2 (hoff 16 (by kernel_rfl)))
                  have T3 := Aside0.mk (Q_T3 (hoff 23 (by kernel_rfl)))
                  have R3 := Aside0.mk (Q_R3 (hoff 23 (by kernel_rfl)))
                  refine value_ (w1 := w') (v := .pointer (some ⟨w3_.heap.size, 0, none⟩)) (by rfl) rfl ?_ ?_
                  · go_simp
                    (try simp only [i64_w])
                    try rfl
                  refine hK.out _ _ ⟨y1, y2, y3, a1, a2, a3, m8_, m15_, m22_, (by rw [ha.out]; exact putSel_upk 4 hb_ rfl rfl rfl), Q_HBW, Q_HSZ, Q_G0, fun h0_ _ => absurd ((hoff 26 (by kernel_rfl)).symm.trans h0_) (by decide), fun h0_ _ => absurd ((hoff 29 (by kernel_rfl)).symm.trans h0_) (by decide), fun h0_ => absurd ((hoff 32 (by kernel_rfl)).symm.trans h0_) (by decide), Q_T1, fun h0_ => absurd ((hoff 9 (by kernel_rfl)).symm.trans h0_) (by decide), Q_R1, Q_E1, Q_T2, fun h0_ => absurd ((hoff 16 (by kernel_rfl)).symm.trans h0_) (by decide), Q_R2, Q_E2, Q_T3, fun h0_ => absurd ((hoff 23 (by kernel_rfl)).symm.trans h0_) (by decide), Q_R3, Q_E3, fun h0_ => absurd ((hoff 16 (by kernel_rfl)).symm.trans h0_) (by decide), fun h0_ => absurd ((hoff 23 (by kernel_rfl)).symm.trans h0_) (by decide), fun h0_ => absurd ((hoff 23 (by kernel_rfl)).symm.trans h0_) (by decide), Q_X8_, Q_X15_, Q_X22_⟩
                refine steps_cons ?_ ?_
                · rintro b a w' ⟨y1, y2, y3, a1, a2, a3, m8_, m15_, m22_, ha, Q_HBW, Q_HSZ, Q_G0, Q_G1, Q_G2, Q_G3, Q_T1, Q_U1, Q_R1, Q_E1, Q_T2, Q_U2, Q_R2, Q_E2, Q_T3, Q_U3, Q_R3, Q_E3, Q_N12, Q_N13, Q_N23, Q_X8_, Q_X15_, Q_X22_⟩ hb_ hon hoff
                  refine ⟨_, rfl, fun K hK => ?_⟩
                  have e101 : a.tmps[101]? = some (.pointer (some ⟨w3_.heap.size, 0, none⟩)) := by rw [ha]; exact putSel_on (e := (4, 101, .pointer (some ⟨w3_.heap.size, 0, none⟩))) 4 rfl rfl (hon 4 (by kernel_rfl)) rfl
                  replace ha := Aside0.mk ha
                  have HBW := Aside0.mk Q_HBW
                  have HSZ := Aside0.mk Q_HSZ
                  have G0 := Aside0.mk (Q_G0 (hoff 26 (by kernel_rfl)))
                  have T1 := Aside0.mk (Q_T1 (hoff 9 (by kernel_rfl)))
                  have R1 := Aside0.mk (Q_R1 (hoff 9 (by kernel_rfl)))
                  have T2 := Aside0.mk (Q_T2 (hoff 16 (by kernel_rfl)))
                  have R2 := Aside0.mk (Q_R2 (hoff 16 (by kernel_rfl)))
                  have T3 := Aside0.mk (Q_T3 (hoff 23 (by kernel_rfl)))
                  have R3 := Aside0.mk (Q_R3 (hoff 23 (by kernel_rfl)))
                  refine value_ (w1 := w') (v := .pointer (some ⟨w3_.heap.size, 0, none⟩)) (by rfl) rfl ?_ ?_
                  · go_simp
                    (try simp only [i64_w])
                    try rfl
                  refine hK.out _ _ ⟨y1, y2, y3, a1, a2, a3, m8_, m15_, m22_, (by rw [ha.out]; exact putSel_upk 5 hb_ rfl rfl rfl), Q_HBW, Q_HSZ, Q_G0, fun h0_ _ => absurd ((hoff 26 (by kernel_rfl)).symm.trans h0_) (by decide), fun h0_ _ => absurd ((hoff 29 (by kernel_rfl)).symm.trans h0_) (by decide), fun h0_ => absurd ((hoff 32 (by kernel_rfl)).symm.trans h0_) (by decide), Q_T1, fun h0_ => absurd ((hoff 9 (by kernel_rfl)).symm.trans h0_) (by decide), Q_R1, Q_E1, Q_T2, fun h0_ => absurd ((hoff 16 (by kernel_rfl)).symm.trans h0_) (by decide), Q_R2, Q_E2, Q_T3, fun h0_ => absurd ((hoff 23 (by kernel_rfl)).symm.trans h0_) (by decide), Q_R3, Q_E3, fun h0_ => absurd ((hoff 16 (by kernel_rfl)).symm.trans h0_) (by decide), fun h0_ => absurd ((hoff 23 (by kernel_rfl)).symm.trans h0_) (by decide), fun h0_ => absurd ((hoff 23 (by kernel_rfl)).symm.trans h0_) (by decide), Q_X8_, Q_X15_, Q_X22_⟩
                refine steps_cons ?_ ?_
                · rintro b a w' ⟨y1, y2, y3, a1, a2, a3, m8_, m15_, m22_, ha, Q_HBW, Q_HSZ, Q_G0, Q_G1, Q_G2, Q_G3, Q_T1, Q_U1, Q_R1, Q_E1, Q_T2, Q_U2, Q_R2, Q_E2, Q_T3, Q_U3, Q_R3, Q_E3, Q_N12, Q_N13, Q_N23, Q_X8_, Q_X15_, Q_X22_⟩ hb_ hon hoff
                  refine ⟨_, rfl, fun K hK => ?_⟩
                  have e102 : a.tmps[102]? = some (.pointer (some ⟨w3_.heap.size, 0, none⟩)) := by rw [ha]; exact putSel_on (e := (5, 102, .pointer (some ⟨w3_.heap.size, 0, none⟩))) 5 rfl rfl (hon 5 (by kernel_rfl)) rfl
                  replace ha := Aside0.mk ha
                  have HBW := Aside0.mk Q_HBW
                  have HSZ := Aside0.mk Q_HSZ
                  have G0 := Aside0.mk (Q_G0 (hoff 26 (by kernel_rfl)))
                  have T1 := Aside0.mk (Q_T1 (hoff 9 (by kernel_rfl)))
                  have R1 := Aside0.mk (Q_R1 (hoff 9 (by kernel_rfl)))
                  have T2 := Aside0.mk (Q_T2 (hoff 16 (by kernel_rfl)))
                  have R2 := Aside0.mk (Q_R2 (hoff 16 (by kernel_rfl)))
                  have T3 := Aside0.mk (Q_T3 (hoff 23 (by kernel_rfl)))
                  have R3 := Aside0.mk (Q_R3 (hoff 23 (by kernel_rfl)))
                  have hs_ : w'.cell? ⟨w3_.heap.size, 0, none⟩ = some v1 := (blk_cell G0.out 0).trans rfl
                  refine value_ (w1 := w') (v := v1) (by rfl) rfl ?_ ?_
                  · go_simp
                    (try simp only [i64_w])
                    try rfl
                  refine hK.out _ _ ⟨y1, y2, y3, a1, a2, a3, m8_, m15_, m22_, (by rw [ha.out]; exact putSel_upk 6 hb_ rfl rfl rfl), Q_HBW, Q_HSZ, Q_G0, fun h0_ _ => absurd ((hoff 26 (by kernel_rfl)).symm.trans h0_) (by decide), fun h0_ _ => absurd ((hoff 29 (by kernel_rfl)).symm.trans h0_) (by decide), fun h0_ => absurd ((hoff 32 (by kernel_rfl)).symm.trans h0_) (by decide), Q_T1, fun h0_ => absurd ((hoff 9 (by kernel_rfl)).symm.trans h0_) (by decide), Q_R1, Q_E1, Q_T2, fun h0_ => absurd ((hoff 16 (by kernel_rfl)).symm.trans h0_) (by decide), Q_R2, Q_E2, Q_T3, fun h0_ => absurd ((hoff 23 (by kernel_rfl)).symm.trans h0_) (by decide), Q_R3, Q_E3, fun h0_ => absurd ((hoff 16 (by kernel_rfl)).symm.trans h0_) (by decide), fun h0_ => absurd ((hoff 23 (by kernel_rfl)).symm.trans h0_) (by decide), fun h0_ => absurd ((hoff 23 (by kernel_rfl)).symm.trans h0_) (by decide), Q_X8_, Q_X15_, Q_X22_⟩
                refine steps_cons ?_ ?_
                · rintro b a w' ⟨y1, y2, y3, a1, a2, a3, m8_, m15_, m22_, ha, Q_HBW, Q_HSZ, Q_G0, Q_G1, Q_G2, Q_G3, Q_T1, Q_U1, Q_R1, Q_E1, Q_T2, Q_U2, Q_R2, Q_E2, Q_T3, Q_U3, Q_R3, Q_E3, Q_N12, Q_N13, Q_N23, Q_X8_, Q_X15_, Q_X22_⟩ hb_ hon hoff
                  refine ⟨_, rfl, fun K hK => ?_⟩
                  have e6 : a.tmps[6]? = some (.slice (some ⟨b1, 0, none⟩) q.length q.length) := by rw [ha]; exact (putSel_off rfl).trans rfl
                  replace ha := Aside0.mk ha
                  have HBW := Aside0.mk Q_HBW
                  have HSZ := Aside0.mk Q_HSZ
                  have G0 := Aside0.mk (Q_G0 (hoff 26 (by kernel_rfl)))
                  have T1 := Aside0.mk (Q_T1 (hoff 9 (by kernel_rfl)))
                  have R1 := Aside0.mk (Q_R1 (hoff 9 (by kernel_rfl)))
                  have T2 := Aside0.mk (Q_T2 (hoff 16 (by kernel_rfl)))
                  have R2 := Aside0.mk (Q_R2 (hoff 16 (by kernel_rfl)))
                  have T3 := Aside0.mk (Q_T3 (hoff 23 (by kernel_rfl)))
                  have R3 := Aside0.mk (Q_R3 (hoff 23 (by kernel_rfl)))
                  refine value_ (w1 := w') (v := .slice (some ⟨b1, 0, none⟩) q.length q.length) (by rfl) rfl ?_ ?_
                  · go_simp
                    (try simp only [i64_w])
                    try rfl
                  refine hK.out _ _ ⟨y1, y2, y3, a1, a2, a3, m8_, m15_, m22_, (by rw [ha.out]; exact putSel_upk 7 hb_ rfl rfl rfl), Q_HBW, Q_HSZ, Q_G0, fun h0_ _ => absurd ((hoff 26 (by kernel_rfl)).symm.trans h0_) (by decide), fun h0_ _ => absurd ((hoff 29 (by kernel_rfl)).symm.trans h0_) (by decide), fun h0_ => absurd ((hoff 32 (by kernel_rfl)).symm.trans h0_) (by decide), Q_T1, fun h0_ => absurd ((hoff 9 (by kernel_rfl)).symm.trans h0_) (by decide), Q_R1, fun h0_ _ => absurd ((hoff 8 (by kernel_rfl)).symm.trans h0_) (by decide), Q_T2, fun h0_ => absurd ((hoff 16 (by kernel_rfl)).symm.trans h0_) (by decide), Q_R2, Q_E2, Q_T3, fun h0_ => absurd ((hoff 23 (by kernel_rfl)).symm.trans h0_) (by decide), Q_R3, Q_E3, fun h0_ => absurd ((hoff 16 (by kernel_rfl)).symm.trans h0_) (by decide), fun h0_ => absurd ((hoff 23 (by kernel_rfl)).symm.trans h0_) (by decide), fun h0_ => absurd ((hoff 23 (by kernel_rfl)).symm.trans h0_) (by decide), fun h0_ => absurd ((hoff 8 (by kernel_rfl)).symm.trans h0_) (by decide), Q_X15_, Q_X22_⟩
                refine steps_cons ?_ ?_
                · rintro b a w' ⟨y1, y2, y3, a1, a2, a3, m8_, m15_, m22_, ha, Q_HBW, Q_HSZ, Q_G0, Q_G1, Q_G2, Q_G3, Q_T1, Q_U1, Q_R1, Q_E1, Q_T2, Q_U2, Q_R2, Q_E2, Q_T3, Q_U3, Q_R3, Q_E3, Q_N12, Q_N13, Q_N23, Q_X8_, Q_X15_, Q_X22_⟩ hb_ hon hoff
                  refine ⟨_, rfl, fun K hK => ?_⟩
                  have e104 : a.tmps[104]? = some (.slice (some ⟨b1, 0, none⟩) q.length q.length) := by rw [ha]; exact putSel_on (e := (7, 104, .slice (some ⟨b1, 0, none⟩) q.length q.length)) 7 rfl rfl (hon 7 (by kernel_rfl)) rfl
                  replace ha := Aside0.mk ha
                  have HBW := Aside0.mk Q_HBW
                  have HSZ := Aside0.mk Q_HSZ
                  have G0 := Aside0.mk (Q_G0 (hoff 26 (by kernel_rfl)))
                  have T1 := Aside0.mk (Q_T1 (hoff 9 (by kernel_rfl)))
                  have R1 := Aside0.mk (Q_R1 (hoff 9 (by kernel_rfl)))
                  have T2 := Aside0.mk (Q_T2 (hoff 16 (by kernel_rfl)))
                  have R2 := Aside0.mk (Q_R2 (hoff 16 (by kernel_rfl)))
                  have T3 := Aside0.mk (Q_T3 (hoff 23 (by kernel_rfl)))
                  have R3 := Aside0.mk (Q_R3 (hoff 23 (by kernel_rfl)))
                  refine value_ (w1 := (w'.alloc (.cells #[.slice (some ⟨b1, 0, none⟩) q.length q.length] 23))) (v := .slice (some ⟨w'.heap.size, 0, none⟩) 1 1) (by rfl) rfl ?_ ?_
                  · go_simp
                    try rfl
                  refine hK.out _ _ ⟨y1, y2, y3, w'.heap.size, a2, a3, (.slice (some ⟨w'.heap.size, 0, none⟩) 1 1), m15_, m22_, (by rw [ha.out]; exact putSel_upk 8 hb_ rfl rfl rfl), below_alloc HBW.out _, (by simp only [World.size_alloc]; have := HSZ.out; omega), fun _ => blk_alloc G0.out _, fun h0_ _ => absurd ((hoff 26 (by kernel_rfl)).symm.trans h0_) (by decide), fun h0_ _ => absurd ((hoff 29 (by kernel_rfl)).symm.trans h0_) (by decide), fun h0_ => absurd ((hoff 32 (by kernel_rfl)).symm.trans h0_) (by decide), fun _ => Kd.S_alloc T1.out _, fun h0_ => absurd ((hoff 9 (by kernel_rfl)).symm.trans h0_) (by decide), fun _ => Kd.R_alloc R1.out _, fun _ _ => ⟨HSZ.out, heap_new _ _⟩, fun _ => Kd.S_alloc T2.out _, fun h0_ => absurd ((hoff 16 (by kernel_rfl)).symm.trans h0_) (by decide), fun _ => Kd.R_alloc R2.out _, fun h0_ h1_ => ⟨(Q_E2 h0_ h1_).1, blk_alloc (Q_E2 h0_ h1_).2 _⟩, fun _ => Kd.S_alloc T3.out _, fun h0_ => absurd ((hoff 23 (by kernel_rfl)).symm.trans h0_) (by decide), fun _ => Kd.R_alloc R3.out _, fun h0_ h1_ => ⟨(Q_E3 h0_ h1_).1, blk_alloc (Q_E3 h0_ h1_).2 _⟩, fun h0_ => absurd ((hoff 16 (by kernel_rfl)).symm.trans h0_) (by decide), fun h0_ => absurd ((hoff 23 (by kernel_rfl)).symm.trans h0_) (by decide), fun h0_ => absurd ((hoff 23 (by kernel_rfl)).symm.trans h0_) (by decide), fun _ => rfl, Q_X15_, Q_X22_⟩
                refine steps_cons ?_ ?_
                · rintro b a w' ⟨y1, y2, y3, a1, a2, a3, m8_, m15_, m22_, ha, Q_HBW, Q_HSZ, Q_G0, Q_G1, Q_G2, Q_G3, Q_T1, Q_U1, Q_R1, Q_E1, Q_T2, Q_U2, Q_R2, Q_E2, Q_T3, Q_U3, Q_R3, Q_E3, Q_N12, Q_N13, Q_N23, Q_X8_, Q_X15_, Q_X22_⟩ hb_ hon hoff
                  refine ⟨_, rfl, fun K hK => ?_⟩
                  have e103 : a.tmps[103]? = some (v1) := by rw [ha]; exact putSel_on (e := (6, 103, v1)) 6 rfl rfl (hon 6 (by kernel_rfl)) rfl
                  have e105 : a.tmps[105]? = some (m8_) := by rw [ha]; exact putSel_on (e := (8, 105, m8_)) 8 rfl rfl (hon 8 (by kernel_rfl)) rfl
                  rw [Q_X8_ (hon 8 (by kernel_rfl))] at e105
                  replace ha := Aside0.mk ha
                  have HBW := Aside0.mk Q_HBW
                  have HSZ := Aside0.mk Q_HSZ
                  have G0 := Aside0.mk (Q_G0 (hoff 26 (by kernel_rfl)))
                  have T1 := Aside0.mk (Q_T1 hb_)
                  have R1 := Aside0.mk (Q_R1 hb_)
                  have E1 := Aside0.mk (Q_E1 (hon 8 (by kernel_rfl)) hb_)
                  have T2 := Aside0.mk (Q_T2 (hoff 16 (by kernel_rfl)))
                  have R2 := Aside0.mk (Q_R2 (hoff 16 (by kernel_rfl)))
                  have T3 := Aside0.mk (Q_T3 (hoff 23 (by kernel_rfl)))
                  have R3 := Aside0.mk (Q_R3 (hoff 23 (by kernel_rfl)))
                  refine S_append_lies (Kd.slice 3 (Kd.int .i64)) w.heap.size rfl (.tmp 103) (.tmp 105) 42 23 (.slice none 0 0) 24 rfl Try.underlying42 infoRI rfl (by decide) (by decide) v1 (tabP ra q.length (leqF q)) ((List.range q.length).map (leqF q ra)) [.slice (some ⟨b1, 0, none⟩) q.length q.length] (fun k => some k ≠ v2.ownBlock ∧ some k ≠ v3.ownBlock) (fun k => k = b1) a1 (eval_of e103) (eval_of e105) E1.out.2 ⟨_, rfl, R1.out⟩ (fun k hk => by subst hk; exact ⟨⟨BV12.out, BV13.out⟩, BV11.out⟩) (fun k hk => ⟨fresh_ne NV2.out (Nat.le_trans HSZ.out hk), fresh_ne NV3.out (Nat.le_trans HSZ.out hk)⟩) T1.out HBW.out HBW.out.size (by rw [tabP_len]; omega) ?_
                  rintro z_ w1_ hS_ hB_ hg_ hat_
                  rw [← tabP_succ] at hS_
                  refine hK.out _ _ ⟨z_, y2, y3, a1, a2, a3, m8_, m15_, m22_, (by rw [ha.out]; exact putSel_upk 9 hb_ rfl rfl rfl), hB_, Nat.le_trans HSZ.out hg_.size, fun _ => (hg_.block _ (blk_lt G0.out) NG1.out).trans G0.out, fun h0_ _ => absurd ((hoff 26 (by kernel_rfl)).symm.trans h0_) (by decide), fun h0_ _ => absurd ((hoff 29 (by kernel_rfl)).symm.trans h0_) (by decide), fun h0_ => absurd ((hoff 32 (by kernel_rfl)).symm.trans h0_) (by decide), fun h0_ => absurd ((up_self b 9).symm.trans h0_) (by decide), fun _ => hS_, fun h0_ => absurd ((up_self b 9).symm.trans h0_) (by decide), fun _ h1_ => absurd ((up_self b 9).symm.trans h1_) (by decide), fun _ => Kd.S_grown T2.out hg_ (fun k hk => hk.1.1), fun h0_ => absurd ((hoff 16 (by kernel_rfl)).symm.trans h0_) (by decide), fun _ => Kd.R_grown R2.out hg_ (fun k hk => by subst hk; exact BV21.out), fun h0_ h1_ => ⟨(Q_E2 h0_ h1_).1, (hg_.block _ (blk_lt (Q_E2 h0_ h1_).2) (fresh_ne NV1.out (Q_E2 h0_ h1_).1)).trans (Q_E2 h0_ h1_).2⟩, fun _ => Kd.S_grown T3.out hg_ (fun k hk => hk.1.1), fun h0_ => absurd ((hoff 23 (by kernel_rfl)).symm.trans h0_) (by decide), fun _ => Kd.R_grown R3.out hg_ (fun k hk => by subst hk; exact BV31.out), fun h0_ h1_ => ⟨(Q_E3 h0_ h1_).1, (hg_.block _ (blk_lt (Q_E3 h0_ h1_).2) (fresh_ne NV1.out (Q_E3 h0_ h1_).1)).trans (Q_E3 h0_ h1_).2⟩, fun h0_ => absurd ((hoff 16 (by kernel_rfl)).symm.trans h0_) (by decide), fun h0_ => absurd ((hoff 23 (by kernel_rfl)).symm.trans h0_) (by decide), fun h0_ => absurd ((hoff 23 (by kernel_rfl)).symm.trans h0_) (by decide), Q_X8_, Q_X15_, Q_X22_⟩
                refine steps_cons ?_ ?_
                · rintro b a w' ⟨y1, y2, y3, a1, a2, a3, m8_, m15_, m22_, ha, Q_HBW, Q_HSZ, Q_G0, Q_G1, Q_G2, Q_G3, Q_T1, Q_U1, Q_R1, Q_E1, Q_T2, Q_U2, Q_R2, Q_E2, Q_T3, Q_U3, Q_R3, Q_E3, Q_N12, Q_N13, Q_N23, Q_X8_, Q_X15_, Q_X22_⟩ hb_ hon hoff
                  refine ⟨_, rfl, fun K hK => ?_⟩
                  have e4 : a.tmps[4]? = some (.pointer (some ⟨w3_.heap.size, 0, none⟩)) := by rw [ha]; exact (putSel_off rfl).trans rfl
                  replace ha := Aside0.mk ha
                  have HBW := Aside0.mk Q_HBW
                  have HSZ := Aside0.mk Q_HSZ
                  have G0 := Aside0.mk (Q_G0 (hoff 26 (by kernel_rfl)))
                  have T2 := Aside0.mk (Q_T2 (hoff 16 (by kernel_rfl)))
                  have R2 := Aside0.mk (Q_R2 (hoff 16 (by kernel_rfl)))
                  have T3 := Aside0.mk (Q_T3 (hoff 23 (by kernel_rfl)))
                  have R3 := Aside0.mk (Q_R3 (hoff 23 (by kernel_rfl)))
                  refine value_ (w1 := w') (v := .pointer (some ⟨w3_.heap.size, 0, none⟩)) (by rfl) rfl ?_ ?_
                  · go_simp
                    (try simp only [i64_w])
                    try rfl
                  refine hK.out _ _ ⟨y1, y2, y3, a1, a2, a3, m8_, m15_, m22_, (by rw [ha.out]; exact putSel_upk 10 hb_ rfl rfl rfl), Q_HBW, Q_HSZ, Q_G0, fun h0_ _ => absurd ((hoff 26 (by kernel_rfl)).symm.trans h0_) (by decide), fun h0_ _ => absurd ((hoff 29 (by kernel_rfl)).symm.trans h0_) (by decide), fun h0_ => absurd ((hoff 32 (by kernel_rfl)).symm.trans h0_) (by decide), Q_T1, Q_U1, Q_R1, Q_E1, Q_T2, fun h0_ => absurd ((hoff 16 (by kernel_rfl)).symm.trans h0_) (by decide), Q_R2, Q_E2, Q_T3, fun h0_ => absurd ((hoff 23 (by kernel_rfl)).symm.trans h0_) (by decide), Q_R3, Q_E3, fun h0_ => absurd ((hoff 16 (by kernel_rfl)).symm.trans h0_) (by decide), fun h0_ => absurd ((hoff 23 (by kernel_rfl)).symm.trans h0_) (by decide), fun h0_ => absurd ((hoff 23 (by kernel_rfl)).symm.trans h0_) (by decide), Q_X8_, Q_X15_, Q_X22_⟩
                refine steps_cons ?_ ?_
                · rintro b a w' ⟨y1, y2, y3, a1, a2, a3, m8_, m15_, m22_, ha, Q_HBW, Q_HSZ, Q_G0, Q_G1, Q_G2, Q_G3, Q_T1, Q_U1, Q_R1, Q_E1, Q_T2, Q_U2, Q_R2, Q_E2, Q_T3, Q_U3, Q_R3, Q_E3, Q_N12, Q_N13, Q_N23, Q_X8_, Q_X15_, Q_X22_⟩ hb_ hon hoff
                  refine ⟨_, rfl, fun K hK => ?_⟩
                  have e107 : a.tmps[107]? = some (.pointer (some ⟨w3_.heap.size, 0, none⟩)) := by rw [ha]; exact putSel_on (e := (10, 107, .pointer (some ⟨w3_.heap.size, 0, none⟩))) 10 rfl rfl (hon 10 (by kernel_rfl)) rfl
                  replace ha := Aside0.mk ha
                  have HBW := Aside0.mk Q_HBW
                  have HSZ := Aside0.mk Q_HSZ
                  have G0 := Aside0.mk (Q_G0 (hoff 26 (by kernel_rfl)))
                  have T2 := Aside0.mk (Q_T2 (hoff 16 (by kernel_rfl)))
                  have R2 := Aside0.mk (Q_R2 (hoff 16 (by kernel_rfl)))
                  have T3 := Aside0.mk (Q_T3 (hoff 23 (by kernel_rfl)))
                  have R3 := Aside0.mk (Q_R3 (hoff 23 (by kernel_rfl)))
                  refine value_ (w1 := w') (v := .pointer (some ⟨w3_.heap.size, 0, none⟩)) (by rfl) rfl ?_ ?_
                  · go_simp
                    (try simp only [i64_w])
                    try rfl
                  refine hK.out _ _ ⟨y1, y2, y3, a1, a2, a3, m8_, m15_, m22_, (by rw [ha.out]; exact putSel_upk 11 hb_ rfl rfl rfl), Q_HBW, Q_HSZ, Q_G0, fun h0_ _ => absurd ((hoff 26 (by kernel_rfl)).symm.trans h0_) (by decide), fun h0_ _ => absurd ((hoff 29 (by kernel_rfl)).symm.trans h0_) (by decide), fun h0_ => absurd ((hoff 32 (by kernel_rfl)).symm.trans h0_) (by decide), Q_T1, Q_U1, Q_R1, Q_E1, Q_T2, fun h0_ => absurd ((hoff 16 (by kernel_rfl)).symm.trans h0_) (by decide), Q_R2, Q_E2, Q_T3, fun h0_ => absurd ((hoff 23 (by kernel_rfl)).symm.trans h0_) (by decide), Q_R3, Q_E3, fun h0_ => absurd ((hoff 16 (by kernel_rfl)).symm.trans h0_) (by decide), fun h0_ => absurd ((hoff 23 (by kernel_rfl)).symm.trans h0_) (by decide), fun h0_ => absurd ((hoff 23 (by kernel_rfl)).symm.trans h0_) (by decide), Q_X8_, Q_X15_, Q_X22_⟩
                refine steps_cons ?_ ?_
                · rintro b a w' ⟨y1, y2, y3, a1, a2, a3, m8_, m15_, m22_, ha, Q_HBW, Q_HSZ, Q_G0, Q_G1, Q_G2, Q_G3, Q_T1, Q_U1, Q_R1, Q_E1, Q_T2, Q_U2, Q_R2, Q_E2, Q_T3, Q_U3, Q_R3, Q_E3, Q_N12, Q_N13, Q_N23, Q_X8_, Q_X15_, Q_X22_⟩ hb_ hon hoff
                  refine ⟨_, rfl, fun K hK => ?_⟩
                  have e108 : a.tmps[108]? = some (.pointer (some ⟨w3_.heap.size, 0, none⟩)) := by rw [ha]; exact putSel_on (e := (11, 108, .pointer (some ⟨w3_.heap.size, 0, none⟩))) 11 rfl rfl (hon 11 (by kernel_rfl)) rfl
                  replace ha := Aside0.mk ha
                  have HBW := Aside0.mk Q_HBW
                  have HSZ := Aside0.mk Q_HSZ
                  have G0 := Aside0.mk (Q_G0 (hoff 26 (by kernel_rfl)))
                  have T2 := Aside0.mk (Q_T2 (hoff 16 (by kernel_rfl)))
                  have R2 := Aside0.mk (Q_R2 (hoff 16 (by kernel_rfl)))
                  have T3 := Aside0.mk (Q_T3 (hoff 23 (by kernel_rfl)))
                  have R3 := Aside0.mk (Q_R3 (hoff 23 (by kernel_rfl)))
                  refine value_ (w1 := w') (v := .pointer (some ⟨w3_.heap.size, 1, none⟩)) (by rfl) rfl ?_ ?_
                  · go_simp
                    (try simp only [i64_w])
                    try rfl
                  refine hK.out _ _ ⟨y1, y2, y3, a1, a2, a3, m8_, m15_, m22_, (by rw [ha.out]; exact putSel_upk 12 hb_ rfl rfl rfl), Q_HBW, Q_HSZ, Q_G0, fun h0_ _ => absurd ((hoff 26 (by kernel_rfl)).symm.trans h0_) (by decide), fun h0_ _ => absurd ((hoff 29 (by kernel_rfl)).symm.trans h0_) (by decide), fun h0_ => absurd ((hoff 32 (by kernel_rfl)).symm.trans h0_) (by decide), Q_T1, Q_U1, Q_R1, Q_E1, Q_T2, fun h0_ => absurd ((hoff 16 (by kernel_rfl)).symm.trans h0_) (by decide), Q_R2, Q_E2, Q_T3, fun h0_ => absurd ((hoff 23 (by kernel_rfl)).symm.trans h0_) (by decide), Q_R3, Q_E3, fun h0_ => absurd ((hoff 16 (by kernel_rfl)).symm.trans h0_) (by decide), fun h0_ => absurd ((hoff 23 (by kernel_rfl)).symm.trans h0_) (by decide), fun h0_ => absurd ((hoff 23 (by kernel_rfl)).symm.trans h0_) (by decide), Q_X8_, Q_X15_, Q_X22_⟩
                refine steps_cons ?_ ?_
                · rintro b a w' ⟨y1, y2, y3, a1, a2, a3, m8_, m15_, m22_, ha, Q_HBW, Q_HSZ, Q_G0, Q_G1, Q_G2, Q_G3, Q_T1, Q_U1, Q_R1, Q_E1, Q_T2, Q_U2, Q_R2, Q_E2, Q_T3, Q_U3, Q_R3, Q_E3, Q_N12, Q_N13, Q_N23, Q_X8_, Q_X15_, Q_X22_⟩ hb_ hon hoff
                  refine ⟨_, rfl, fun K hK => ?_⟩
                  have e109 : a.tmps[109]? = some (.pointer (some ⟨w3_.heap.size, 1, none⟩)) := by rw [ha]; exact putSel_on (e := (12, 109, .pointer (some ⟨w3_.heap.size, 1, none⟩))) 12 rfl rfl (hon 12 (by kernel_rfl)) rfl
                  replace ha := Aside0.mk ha
                  have HBW := Aside0.mk Q_HBW
                  have HSZ := Aside0.mk Q_HSZ
                  have G0 := Aside0.mk (Q_G0 (hoff 26 (by kernel_rfl)))
                  have T2 := Aside0.mk (Q_T2 (hoff 16 (by kernel_rfl)))
                  have R2 := Aside0.mk (Q_R2 (hoff 16 (by kernel_rfl)))
                  have T3 := Aside0.mk (Q_T3 (hoff 23 (by kernel_rfl)))
                  have R3 := Aside0.mk (Q_R3 (hoff 23 (by kernel_rfl)))
                  have hs_ : w'.cell? ⟨w3_.heap.size, 1, none⟩ = some v2 := (blk_cell G0.out 1).trans rfl
                  refine value_ (w1 := w') (v := v2) (by rfl) rfl ?_ ?_
                  · go_simp
                    (try simp only [i64_w])
                    try rfl
                  refine hK.out _ _ ⟨y1, y2, y3, a1, a2, a3, m8_, m15_, m22_, (by rw [ha.out]; exact putSel_upk 13 hb_ rfl rfl rfl), Q_HBW, Q_HSZ, Q_G0, fun h0_ _ => absurd ((hoff 26 (by kernel_rfl)).symm.trans h0_) (by decide), fun h0_ _ => absurd ((hoff 29 (by kernel_rfl)).symm.trans h0_) (by decide), fun h0_ => absurd ((hoff 32 (by kernel_rfl)).symm.trans h0_) (by decide), Q_T1, Q_U1, Q_R1, Q_E1, Q_T2, fun h0_ => absurd ((hoff 16 (by kernel_rfl)).symm.trans h0_) (by decide), Q_R2, Q_E2, Q_T3, fun h0_ => absurd ((hoff 23 (by kernel_rfl)).symm.trans h0_) (by decide), Q_R3, Q_E3, fun h0_ => absurd ((hoff 16 (by kernel_rfl)).symm.trans h0_) (by decide), fun h0_ => absurd ((hoff 23 (by kernel_rfl)).symm.trans h0_) (by decide), fun h0_ => absurd ((hoff 23 (by kernel_rfl)).symm.trans h0_) (by decide), Q_X8_, Q_X15_, Q_X22_⟩
                refine steps_cons ?_ ?_
                · rintro b a w' ⟨y1, y2, y3, a1, a2, a3, m8_, m15_, m22_, ha, Q_HBW, Q_HSZ, Q_G0, Q_G1, Q_G2, Q_G3, Q_T1, Q_U1, Q_R1, Q_E1, Q_T2, Q_U2, Q_R2, Q_E2, Q_T3, Q_U3, Q_R3, Q_E3, Q_N12, Q_N13, Q_N23, Q_X8_, Q_X15_, Q_X22_⟩ hb_ hon hoff
                  refine ⟨_, rfl, fun K hK => ?_⟩
                  have e7 : a.tmps[7]? = some (.slice (some ⟨b2, 0, none⟩) q.length q.length) := by rw [ha]; exact (putSel_off rfl).trans rfl
                  replace ha := Aside0.mk ha
                  have HBW := Aside0.mk Q_HBW
                  have HSZ := Aside0.mk Q_HSZ
                  have G0 := Aside0.mk (Q_G0 (hoff 26 (by kernel_rfl)))
                  have T2 := Aside0.mk (Q_T2 (hoff 16 (by kernel_rfl)))
                  have R2 := Aside0.mk (Q_R2 (hoff 16 (by kernel_rfl)))
                  have T3 := Aside0.mk (Q_T3 (hoff 23 (by kernel_rfl)))
                  have R3 := Aside0.mk (Q_R3 (hoff 23 (by kernel_rfl)))
                  refine value_ (w1 := w') (v := .slice (some ⟨b2, 0, none⟩) q.length q.length) (by rfl) rfl ?_ ?_
                  · go_simp
                    (try simp only [i64_w])
                    try rfl
                  refine hK.out _ _ ⟨y1, y2, y3, a1, a2, a3, m8_, m15_, m22_, (by rw [ha.out]; exact putSel_upk 14 hb_ rfl rfl rfl), Q_HBW, Q_HSZ, Q_G0, fun h0_ _ => absurd ((hoff 26 (by kernel_rfl)).symm.trans h0_) (by decide), fun h0_ _ => absurd ((hoff 29 (by kernel_rfl)).symm.trans h0_) (by decide), fun h0_ => absurd ((hoff 32 (by kernel_rfl)).symm.trans h0_) (by decide), Q_T1, Q_U1, Q_R1, Q_E1, Q_T2, fun h0_ => absurd ((hoff 16 (by kernel_rfl)).symm.trans h0_) (by decide), Q_R2, fun h0_ _ => absurd ((hoff 15 (by kernel_rfl)).symm.trans h0_) (by decide), Q_T3, fun h0_ => absurd ((hoff 23 (by kernel_rfl)).symm.trans h0_) (by decide), Q_R3, Q_E3, fun h0_ => absurd ((hoff 16 (by kernel_rfl)).symm.trans h0_) (by decide), fun h0_ => absurd ((hoff 23 (by kernel_rfl)).symm.trans h0_) (by decide), fun h0_ => absurd ((hoff 23 (by kernel_rfl)).symm.trans h0_) (by decide), Q_X8_, fun h0_ => absurd ((hoff 15 (by kernel_rfl)).symm.trans h0_) (by decide), Q_X22_⟩
                refine steps_cons ?_ ?_
                · rintro b a w' ⟨y1, y2, y3, a1, a2, a3, m8_, m15_, m22_, ha, Q_HBW, Q_HSZ, Q_G0, Q_G1, Q_G2, Q_G3, Q_T1, Q_U1, Q_R1, Q_E1, Q_T2, Q_U2, Q_R2, Q_E2, Q_T3, Q_U3, Q_R3, Q_E3, Q_N12, Q_N13, Q_N23, Q_X8_, Q_X15_, Q_X22_⟩ hb_ hon hoff
                  refine ⟨_, rfl, fun K hK => ?_⟩
                  have e111 : a.tmps[111]? = some (.slice (some ⟨b2, 0, none⟩) q.length q.length) := by rw [ha]; exact putSel_on (e := (14, 111, .slice (some ⟨b2, 0, none⟩) q.length q.length)) 14 rfl rfl (hon 14 (by kernel_rfl)) rfl
                  replace ha := Aside0.mk ha
                  have HBW := Aside0.mk Q_HBW
                  have HSZ := Aside0.mk Q_HSZ
                  have G0 := Aside0.mk (Q_G0 (hoff 26 (by kernel_rfl)))
                  have T2 := Aside0.mk (Q_T2 (hoff 16 (by kernel_rfl)))
                  have R2 := Aside0.mk (Q_R2 (hoff 16 (by kernel_rfl)))
                  have T3 := Aside0.mk (Q_T3 (hoff 23 (by kernel_rfl)))
                  have R3 := Aside0.mk (Q_R3 (hoff 23 (by kernel_rfl)))
                  refine value_ (w1 := (w'.alloc (.cells #[.slice (some ⟨b2, 0, none⟩) q.length q.length] 23))) (v := .slice (some ⟨w'.heap.size, 0, none⟩) 1 1) (by rfl) rfl ?_ ?_
                  · go_simp
                    try rfl
                  refine hK.out _ _ ⟨y1, y2, y3, a1, w'.heap.size, a3, m8_, (.slice (some ⟨w'.heap.size, 0, none⟩) 1 1), m22_, (by rw [ha.out]; exact putSel_upk 15 hb_ rfl rfl rfl), below_alloc HBW.out _, (by simp only [World.size_alloc]; have := HSZ.out; omega), fun _ => blk_alloc G0.out _, fun h0_ _ => absurd ((hoff 26 (by kernel_rfl)).symm.trans h0_) (by decide), fun h0_ _ => absurd ((hoff 29 (by kernel_rfl)).symm.trans h0_) (by decide), fun h0_ => absurd ((hoff 32 (by kernel_rfl)).symm.trans h0_) (by decide), fun h0_ => Kd.S_alloc (Q_T1 h0_) _, fun h0_ => Kd.S_alloc (Q_U1 h0_) _, fun h0_ => Kd.R_alloc (Q_R1 h0_) _, fun h0_ h1_ => ⟨(Q_E1 h0_ h1_).1, blk_alloc (Q_E1 h0_ h1_).2 _⟩, fun _ => Kd.S_alloc T2.out _, fun h0_ => absurd ((hoff 16 (by kernel_rfl)).symm.trans h0_) (by decide), fun _ => Kd.R_alloc R2.out _, fun _ _ => ⟨HSZ.out, heap_new _ _⟩, fun _ => Kd.S_alloc T3.out _, fun h0_ => absurd ((hoff 23 (by kernel_rfl)).symm.trans h0_) (by decide), fun _ => Kd.R_alloc R3.out _, fun h0_ h1_ => ⟨(Q_E3 h0_ h1_).1, blk_alloc (Q_E3 h0_ h1_).2 _⟩, fun h0_ => absurd ((hoff 16 (by kernel_rfl)).symm.trans h0_) (by decide), fun h0_ => absurd ((hoff 23 (by kernel_rfl)).symm.trans h0_) (by decide), fun h0_ => absurd ((hoff 23 (by kernel_rfl)).symm.trans h0_) (by decide), Q_X8_, fun _ => rfl, Q_X22_⟩
                refine steps_cons ?_ ?_
                · rintro b a w' ⟨y1, y2, y3, a1, a2, a3, m8_, m15_, m22_, ha, Q_HBW, Q_HSZ, Q_G0, Q_G1, Q_G2, Q_G3, Q_T1, Q_U1, Q_R1, Q_E1, Q_T2, Q_U2, Q_R2, Q_E2, Q_T3, Q_U3, Q_R3, Q_E3, Q_N12, Q_N13, Q_N23, Q_X8_, Q_X15_, Q_X22_⟩ hb_ hon hoff
                  refine ⟨_, rfl, fun K hK => ?_⟩
                  have e110 : a.tmps[110]? = some (v2) := by rw [ha]; exact putSel_on (e := (13, 110, v2)) 13 rfl rfl (hon 13 (by kernel_rfl)) rfl
                  have e112 : a.tmps[112]? = some (m15_) := by rw [ha]; exact putSel_on (e := (15, 112, m15_)) 15 rfl rfl (hon 15 (by kernel_rfl)) rfl
                  rw [Q_X15_ (hon 15 (by kernel_rfl))] at e112
                  replace ha := Aside0.mk ha
                  have HBW := Aside0.mk Q_HBW
                  have HSZ := Aside0.mk Q_HSZ
                  have G0 := Aside0.mk (Q_G0 (hoff 26 (by kernel_rfl)))
                  have U1 := Aside0.mk (Q_U1 (hon 9 (by kernel_rfl)))
                  have T2 := Aside0.mk (Q_T2 hb_)
                  have R2 := Aside0.mk (Q_R2 hb_)
                  have E2 := Aside0.mk (Q_E2 (hon 15 (by kernel_rfl)) hb_)
                  have T3 := Aside0.mk (Q_T3 (hoff 23 (by kernel_rfl)))
                  have R3 := Aside0.mk (Q_R3 (hoff 23 (by kernel_rfl)))
                  refine S_append_lies (Kd.slice 3 (Kd.int .i64)) w.heap.size rfl (.tmp 110) (.tmp 112) 42 23 (.slice none 0 0) 24 rfl Try.underlying42 infoRI rfl (by decide) (by decide) v2 (tabP ra q.length (joinF q)) ((List.range q.length).map (joinF q ra)) [.slice (some ⟨b2, 0, none⟩) q.length q.length] (fun k => some k ≠ v1.ownBlock ∧ some k ≠ v3.ownBlock) (fun k => k = b2) a2 (eval_of e110) (eval_of e112) E2.out.2 ⟨_, rfl, R2.out⟩ (fun k hk => by subst hk; exact ⟨⟨BV21.out, BV23.out⟩, BV22.out⟩) (fun k hk => ⟨fresh_ne NV1.out (Nat.le_trans HSZ.out hk), fresh_ne NV3.out (Nat.le_trans HSZ.out hk)⟩) T2.out HBW.out HBW.out.size (by rw [tabP_len]; omega) ?_
                  rintro z_ w1_ hS_ hB_ hg_ hat_
                  rw [← tabP_succ] at hS_
                  refine hK.out _ _ ⟨y1, z_, y3, a1, a2, a3, m8_, m15_, m22_, (by rw [ha.out]; exact putSel_upk 16 hb_ rfl rfl rfl), hB_, Nat.le_trans HSZ.out hg_.size, fun _ => (hg_.block _ (blk_lt G0.out) NG2.out).trans G0.out, fun h0_ _ => absurd ((hoff 26 (by kernel_rfl)).symm.trans h0_) (by decide), fun h0_ _ => absurd ((hoff 29 (by kernel_rfl)).symm.trans h0_) (by decide), fun h0_ => absurd ((hoff 32 (by kernel_rfl)).symm.trans h0_) (by decide), fun h0_ => absurd ((hon 9 (by kernel_rfl)).symm.trans h0_) (by decide), fun _ => Kd.S_grown U1.out hg_ (fun k hk => hk.1), fun h0_ => absurd ((hon 9 (by kernel_rfl)).symm.trans h0_) (by decide), fun _ h1_ => absurd ((hon 9 (by kernel_rfl)).symm.trans h1_) (by decide), fun h0_ => absurd ((up_self b 16).symm.trans h0_) (by decide), fun _ => hS_, fun h0_ => absurd ((up_self b 16).symm.trans h0_) (by decide), fun _ h1_ => absurd ((up_self b 16).symm.trans h1_) (by decide), fun _ => Kd.S_grown T3.out hg_ (fun k hk => hk.1.2), fun h0_ => absurd ((hoff 23 (by kernel_rfl)).symm.trans h0_) (by decide), fun _ => Kd.R_grown R3.out hg_ (fun k hk => by subst hk; exact BV32.out), fun h0_ h1_ => ⟨(Q_E3 h0_ h1_).1, (hg_.block _ (blk_lt (Q_E3 h0_ h1_).2) (fresh_ne NV2.out (Q_E3 h0_ h1_).1)).trans (Q_E3 h0_ h1_).2⟩, fun _ => ne_grew U1.out (fun k hk => hk.1) hat_, fun h0_ => absurd ((hoff 23 (by kernel_rfl)).symm.trans h0_) (by decide), fun h0_ => absurd ((hoff 23 (by kernel_rfl)).symm.trans h0_) (by decide), Q_X8_, Q_X15_, Q_X22_⟩
                refine steps_cons ?_ ?_
                · rintro b a w' ⟨y1, y2, y3, a1, a2, a3, m8_, m15_, m22_, ha, Q_HBW, Q_HSZ, Q_G0, Q_G1, Q_G2, Q_G3, Q_T1, Q_U1, Q_R1, Q_E1, Q_T2, Q_U2, Q_R2, Q_E2, Q_T3, Q_U3, Q_R3, Q_E3, Q_N12, Q_N13, Q_N23, Q_X8_, Q_X15_, Q_X22_⟩ hb_ hon hoff
                  refine ⟨_, rfl, fun K hK => ?_⟩
                  have e4 : a.tmps[4]? = some (.pointer (some ⟨w3_.heap.size, 0, none⟩)) := by rw [ha]; exact (putSel_off rfl).trans rfl
                  replace ha := Aside0.mk ha
                  have HBW := Aside0.mk Q_HBW
                  have HSZ := Aside0.mk Q_HSZ
                  have G0 := Aside0.mk (Q_G0 (hoff 26 (by kernel_rfl)))
                  have T3 := Aside0.mk (Q_T3 (hoff 23 (by kernel_rfl)))
                  have R3 := Aside0.mk (Q_R3 (hoff 23 (by kernel_rfl)))
                  refine value_ (w1 := w') (v := .pointer (some ⟨w3_.heap.size, 0, none⟩)) (by rfl) rfl ?_ ?_
                  · go_simp
                    (try simp only [i64_w])
                    try rfl
                  refine hK.out _ _ ⟨y1, y2, y3, a1, a2, a3, m8_, m15_, m22_, (by rw [ha.out]; exact putSel_upk 17 hb_ rfl rfl rfl), Q_HBW, Q_HSZ, Q_G0, fun h0_ _ => absurd ((hoff 26 (by kernel_rfl)).symm.trans h0_) (by decide), fun h0_ _ => absurd ((hoff 29 (by kernel_rfl)).symm.trans h0_) (by decide), fun h0_ => absurd ((hoff 32 (by kernel_rfl)).symm.trans h0_) (by decide), Q_T1, Q_U1, Q_R1, Q_E1, Q_T2, Q_U2, Q_R2, Q_E2, Q_T3, fun h0_ => absurd ((hoff 23 (by kernel_rfl)).symm.trans h0_) (by decide), Q_R3, Q_E3, Q_N12, fun h0_ => absurd ((hoff 23 (by kernel_rfl)).symm.trans h0_) (by decide), fun h0_ => absurd ((hoff 23 (by kernel_rfl)).symm.trans h0_) (by decide), Q_X8_, Q_X15_, Q_X22_⟩
                refine steps_cons ?_ ?_
                · rintro b a w' ⟨y1, y2, y3, a1, a2, a3, m8_, m15_, m22_, ha, Q_HBW, Q_HSZ, Q_G0, Q_G1, Q_G2, Q_G3, Q_T1, Q_U1, Q_R1, Q_E1, Q_T2, Q_U2, Q_R2, Q_E2, Q_T3, Q_U3, Q_R3, Q_E3, Q_N12, Q_N13, Q_N23, Q_X8_, Q_X15_, Q_X22_⟩ hb_ hon hoff
                  refine ⟨_, rfl, fun K hK => ?_⟩
                  have e114 : a.tmps[114]? = some (.pointer (some ⟨w3_.heap.size, 0, none⟩)) := by rw [ha]; exact putSel_on (e := (17, 114, .pointer (some ⟨w3_.heap.size, 0, none⟩))) 17 rfl rfl (hon 17 (by kernel_rfl)) rfl
                  replace ha := Aside0.mk ha
                  have HBW := Aside0.mk Q_HBW
                  have HSZ := Aside0.mk Q_HSZ
                  have G0 := Aside0.mk (Q_G0 (hoff 26 (by kernel_rfl)))
                  have T3 := Aside0.mk (Q_T3 (hoff 23 (by kernel_rfl)))
                  have R3 := Aside0.mk (Q_R3 (hoff 23 (by kernel_rfl)))
                  refine value_ (w1 := w') (v := .pointer (some ⟨w3_.heap.size, 0, none⟩)) (by rfl) rfl ?_ ?_
                  · go_simp
                    (try simp only [i64_w])
                    try rfl
                  refine hK.out _ _ ⟨y1, y2, y3, a1, a2, a3, m8_, m15_, m22_, (by rw [ha.out]; exact putSel_upk 18 hb_ rfl rfl rfl), Q_HBW, Q_HSZ, Q_G0, fun h0_ _ => absurd ((hoff 26 (by kernel_rfl)).symm.trans h0_) (by decide), fun h0_ _ => absurd ((hoff 29 (by kernel_rfl)).symm.trans h0_) (by decide), fun h0_ => absurd ((hoff 32 (by kernel_rfl)).symm.trans h0_) (by decide), Q_T1, Q_U1, Q_R1, Q_E1, Q_T2, Q_U2, Q_R2, Q_E2, Q_T3, fun h0_ => absurd ((hoff 23 (by kernel_rfl)).symm.trans h0_) (by decide), Q_R3, Q_E3, Q_N12, fun h0_ => absurd ((hoff 23 (by kernel_rfl)).symm.trans h0_) (by decide), fun h0_ => absurd ((hoff 23 (by kernel_rfl)).symm.trans h0_) (by decide), Q_X8_, Q_X15_, Q_X22_⟩
                refine steps_cons ?_ ?_
                · rintro b a w' ⟨y1, y2, y3, a1, a2, a3, m8_, m15_, m22_, ha, Q_HBW, Q_HSZ, Q_G0, Q_G1, Q_G2, Q_G3, Q_T1, Q_U1, Q_R1, Q_E1, Q_T2, Q_U2, Q_R2, Q_E2, Q_T3, Q_U3, Q_R3, Q_E3, Q_N12, Q_N13, Q_N23, Q_X8_, Q_X15_, Q_X22_⟩ hb_ hon hoff
                  refine ⟨_, rfl, fun K hK => ?_⟩
                  have e115 : a.tmps[115]? = some (.pointer (some ⟨w3_.heap.size, 0, none⟩)) := by rw [ha]; exact putSel_on (e := (18, 115, .pointer (some ⟨w3_.heap.size, 0, none⟩))) 18 rfl rfl (hon 18 (by kernel_rfl)) rfl
                  replace ha := Aside0.mk ha
                  have HBW := Aside0.mk Q_HBW
                  have HSZ := Aside0.mk Q_HSZ
                  have G0 := Aside0.mk (Q_G0 (hoff 26 (by kernel_rfl)))
                  have T3 := Aside0.mk (Q_T3 (hoff 23 (by kernel_rfl)))
                  have R3 := Aside0.mk (Q_R3 (hoff 23 (by kernel_rfl)))
                  refine value_ (w1 := w') (v := .pointer (some ⟨w3_.heap.size, 2, none⟩)) (by rfl) rfl ?_ ?_
                  · go_simp
                    (try simp only [i64_w])
                    try rfl
                  refine hK.out _ _ ⟨y1, y2, y3, a1, a2, a3, m8_, m15_, m22_, (by rw [ha.out]; exact putSel_upk 19 hb_ rfl rfl rfl), Q_HBW, Q_HSZ, Q_G0, fun h0_ _ => absurd ((hoff 26 (by kernel_rfl)).symm.trans h0_) (by decide), fun h0_ _ => absurd ((hoff 29 (by kernel_rfl)).symm.trans h0_) (by decide), fun h0_ => absurd ((hoff 32 (by kernel_rfl)).symm.trans h0_) (by decide), Q_T1, Q_U1, Q_R1, Q_E1, Q_T2, Q_U2, Q_R2, Q_E2, Q_T3, fun h0_ => absurd ((hoff 23 (by kernel_rfl)).symm.trans h0_) (by decide), Q_R3, Q_E3, Q_N12, fun h0_ => absurd ((hoff 23 (by kernel_rfl)).symm.trans h0_) (by decide), fun h0_ => absurd ((hoff 23 (by kernel_rfl)).symm.trans h0_) (by decide), Q_X8_, Q_X15_, Q_X22_⟩
                refine steps_cons ?_ ?_
                · rintro b a w' ⟨y1, y2, y3, a1, a2, a3, m8_, m15_, m22_, ha, Q_HBW, Q_HSZ, Q_G0, Q_G1, Q_G2, Q_G3, Q_T1, Q_U1, Q_R1, Q_E1, Q_T2, Q_U2, Q_R2, Q_E2, Q_T3, Q_U3, Q_R3, Q_E3, Q_N12, Q_N13, Q_N23, Q_X8_, Q_X15_, Q_X22_⟩ hb_ hon hoff
                  refine ⟨_, rfl, fun K hK => ?_⟩
                  have e116 : a.tmps[116]? = some (.pointer (some ⟨w3_.heap.size, 2, none⟩)) := by rw [ha]; exact putSel_on (e := (19, 116, .pointer (some ⟨w3_.heap.size, 2, none⟩))) 19 rfl rfl (hon 19 (by kernel_rfl)) rfl
                  replace ha := Aside0.mk ha
                  have HBW := Aside0.mk Q_HBW
                  have HSZ := Aside0.mk Q_HSZ
                  have G0 := Aside0.mk (Q_G0 (hoff 26 (by kernel_rfl)))
                  have T3 := Aside0.mk (Q_T3 (hoff 23 (by kernel_rfl)))
                  have R3 := Aside0.mk (Q_R3 (hoff 23 (by kernel_rfl)))
                  have hs_ : w'.cell? ⟨w3_.heap.size, 2, none⟩ = some v3 := (blk_cell G0.out 2).trans rfl
                  refine value_ (w1 := w') (v := v3) (by rfl) rfl ?_ ?_
                  · go_simp
                    (try simp only [i64_w])
                    try rfl
                  refine hK.out _ _ ⟨y1, y2, y3, a1, a2, a3, m8_, m15_, m22_, (by rw [ha.out]; exact putSel_upk 20 hb_ rfl rfl rfl), Q_HBW, Q_HSZ, Q_G0, fun h0_ _ => absurd ((hoff 26 (by kernel_rfl)).symm.trans h0_) (by decide), fun h0_ _ => absurd ((hoff 29 (by kernel_rfl)).symm.trans h0_) (by decide), fun h0_ => absurd ((hoff 32 (by kernel_rfl)).symm.trans h0_) (by decide), Q_T1, Q_U1, Q_R1, Q_E1, Q_T2, Q_U2, Q_R2, Q_E2, Q_T3, fun h0_ => absurd ((hoff 23 (by kernel_rfl)).symm.trans h0_) (by decide), Q_R3, Q_E3, Q_N12, fun h0_ => absurd ((hoff 23 (by kernel_rfl)).symm.trans h0_) (by decide), fun h0_ => absurd ((hoff 23 (by kernel_rfl)).symm.trans h0_) (by decide), Q_X8_, Q_X15_, Q_X22_⟩
                refine steps_cons ?_ ?_
                · rintro b a w' ⟨y1, y2, y3, a1, a2, a3, m8_, m15_, m22_, ha, Q_HBW, Q_HSZ, Q_G0, Q_G1, Q_G2, Q_G3, Q_T1, Q_U1, Q_R1, Q_E1, Q_T2, Q_U2, Q_R2, Q_E2, Q_T3, Q_U3, Q_R3, Q_E3, Q_N12, Q_N13, Q_N23, Q_X8_, Q_X15_, Q_X22_⟩ hb_ hon hoff
                  refine ⟨_, rfl, fun K hK => ?_⟩
                  have e8 : a.tmps[8]? = some (.slice (some ⟨b3, 0, none⟩) q.length q.length) := by rw [ha]; exact (putSel_off rfl).trans rfl
                  replace ha := Aside0.mk ha
                  have HBW := Aside0.mk Q_HBW
                  have HSZ := Aside0.mk Q_HSZ
                  have G0 := Aside0.mk (Q_G0 (hoff 26 (by kernel_rfl)))
                  have T3 := Aside0.mk (Q_T3 (hoff 23 (by kernel_rfl)))
                  have R3 := Aside0.mk (Q_R3 (hoff 23 (by kernel_rfl)))
                  refine value_ (w1 := w') (v := .slice (some ⟨b3, 0, none⟩) q.length q.length) (by rfl) rfl ?_ ?_
                  · go_simp
                    (try simp only [i64_w])
                    try rfl
                  refine hK.out _ _ ⟨y1, y2, y3, a1, a2, a3, m8_, m15_, m22_, (by rw [ha.out]; exact putSel_upk 21 hb_ rfl rfl rfl), Q_HBW, Q_HSZ, Q_G0, fun h0_ _ => absurd ((hoff 26 (by kernel_rfl)).symm.trans h0_) (by decide), fun h0_ _ => absurd ((hoff 29 (by kernel_rfl)).symm.trans h0_) (by decide), fun h0_ => absurd ((hoff 32 (by kernel_rfl)).symm.trans h0_) (by decide), Q_T1, Q_U1, Q_R1, Q_E1, Q_T2, Q_U2, Q_R2, Q_E2, Q_T3, fun h0_ => absurd ((hoff 23 (by kernel_rfl)).symm.trans h0_) (by decide), Q_R3, fun h0_ _ => absurd ((hoff 22 (by kernel_rfl)).symm.trans h0_) (by decide), Q_N12, fun h0_ => absurd ((hoff 23 (by kernel_rfl)).symm.trans h0_) (by decide), fun h0_ => absurd ((hoff 23 (by kernel_rfl)).symm.trans h0_) (by decide), Q_X8_, Q_X15_, fun h0_ => absurd ((hoff 22 (by kernel_rfl)).symm.trans h0_) (by decide)⟩
                refine steps_cons ?_ ?_
                · rintro b a w' ⟨y1, y2, y3, a1, a2, a3, m8_, m15_, m22_, ha, Q_HBW, Q_HSZ, Q_G0, Q_G1, Q_G2, Q_G3, Q_T1, Q_U1, Q_R1, Q_E1, Q_T2, Q_U2, Q_R2, Q_E2, Q_T3, Q_U3, Q_R3, Q_E3, Q_N12, Q_N13, Q_N23, Q_X8_, Q_X15_, Q_X22_⟩ hb_ hon hoff
                  refine ⟨_, rfl, fun K hK => ?_⟩
                  have e118 : a.tmps[118]? = some (.slice (some ⟨b3, 0, none⟩) q.length q.length) := by rw [ha]; exact putSel_on (e := (21, 118, .slice (some ⟨b3, 0, none⟩) q.length q.length)) 21 rfl rfl (hon 21 (by kernel_rfl)) rfl
                  replace ha := Aside0.mk ha
                  have HBW := Aside0.mk Q_HBW
                  have HSZ := Aside0.mk Q_HSZ
                  have G0 := Aside0.mk (Q_G0 (hoff 26 (by kernel_rfl)))
                  have T3 := Aside0.mk (Q_T3 (hoff 23 (by kernel_rfl)))
                  have R3 := Aside0.mk (Q_R3 (hoff 23 (by kernel_rfl)))
                  refine value_ (w1 := (w'.alloc (.cells #[.slice (some ⟨b3, 0, none⟩) q.length q.length] 23))) (v := .slice (some ⟨w'.heap.size, 0, none⟩) 1 1) (by rfl) rfl ?_ ?_
                  · go_simp
                    try rfl
                  refine hK.out _ _ ⟨y1, y2, y3, a1, a2, w'.heap.size, m8_, m15_, (.slice (some ⟨w'.heap.size, 0, none⟩) 1 1), (by rw [ha.out]; exact putSel_upk 22 hb_ rfl rfl rfl), below_alloc HBW.out _, (by simp only [World.size_alloc]; have := HSZ.out; omega), fun _ => blk_alloc G0.out _, fun h0_ _ => absurd ((hoff 26 (by kernel_rfl)).symm.trans h0_) (by decide), fun h0_ _ => absurd ((hoff 29 (by kernel_rfl)).symm.trans h0_) (by decide), fun h0_ => absurd ((hoff 32 (by kernel_rfl)).symm.trans h0_) (by decide), fun h0_ => Kd.S_alloc (Q_T1 h0_) _, fun h0_ => Kd.S_alloc (Q_U1 h0_) _, fun h0_ => Kd.R_alloc (Q_R1 h0_) _, fun h0_ h1_ => ⟨(Q_E1 h0_ h1_).1, blk_alloc (Q_E1 h0_ h1_).2 _⟩, fun h0_ => Kd.S_alloc (Q_T2 h0_) _, fun h0_ => Kd.S_alloc (Q_U2 h0_) _, fun h0_ => Kd.R_alloc (Q_R2 h0_) _, fun h0_ h1_ => ⟨(Q_E2 h0_ h1_).1, blk_alloc (Q_E2 h0_ h1_).2 _⟩, fun _ => Kd.S_alloc T3.out _, fun h0_ => absurd ((hoff 23 (by kernel_rfl)).symm.trans h0_) (by decide), fun _ => Kd.R_alloc R3.out _, fun _ _ => ⟨HSZ.out, heap_new _ _⟩, Q_N12, fun h0_ => absurd ((hoff 23 (by kernel_rfl)).symm.trans h0_) (by decide), fun h0_ => absurd ((hoff 23 (by kernel_rfl)).symm.trans h0_) (by decide), Q_X8_, Q_X15_, fun _ => rfl⟩
                refine steps_cons ?_ ?_
                · rintro b a w' ⟨y1, y2, y3, a1, a2, a3, m8_, m15_, m22_, ha, Q_HBW, Q_HSZ, Q_G0, Q_G1, Q_G2, Q_G3, Q_T1, Q_U1, Q_R1, Q_E1, Q_T2, Q_U2, Q_R2, Q_E2, Q_T3, Q_U3, Q_R3, Q_E3, Q_N12, Q_N13, Q_N23, Q_X8_, Q_X15_, Q_X22_⟩ hb_ hon hoff
                  refine ⟨_, rfl, fun K hK => ?_⟩
                  have e117 : a.tmps[117]? = some (v3) := by rw [ha]; exact putSel_on (e := (20, 117, v3)) 20 rfl rfl (hon 20 (by kernel_rfl)) rfl
                  have e119 : a.tmps[119]? = some (m22_) := by rw [ha]; exact putSel_on (e := (22, 119, m22_)) 22 rfl rfl (hon 22 (by kernel_rfl)) rfl
                  rw [Q_X22_ (hon 22 (by kernel_rfl))] at e119
                  replace ha := Aside0.mk ha
                  have HBW := Aside0.mk Q_HBW
                  have HSZ := Aside0.mk Q_HSZ
                  have G0 := Aside0.mk (Q_G0 (hoff 26 (by kernel_rfl)))
                  have U1 := Aside0.mk (Q_U1 (hon 9 (by kernel_rfl)))
                  have U2 := Aside0.mk (Q_U2 (hon 16 (by kernel_rfl)))
                  have T3 := Aside0.mk (Q_T3 hb_)
                  have R3 := Aside0.mk (Q_R3 hb_)
                  have E3 := Aside0.mk (Q_E3 (hon 22 (by kernel_rfl)) hb_)
                  have N12 := Aside0.mk (Q_N12 (hon 16 (by kernel_rfl)))
                  refine S_append_lies (Kd.slice 3 (Kd.int .i64)) w.heap.size rfl (.tmp 117) (.tmp 119) 42 23 (.slice none 0 0) 24 rfl Try.underlying42 infoRI rfl (by decide) (by decide) v3 (tabP ra q.length (meetF q)) ((List.range q.length).map (meetF q ra)) [.slice (some ⟨b3, 0, none⟩) q.length q.length] (fun k => some k ≠ v1.ownBlock ∧ some k ≠ v2.ownBlock) (fun k => k = b3) a3 (eval_of e117) (eval_of e119) E3.out.2 ⟨_, rfl, R3.out⟩ (fun k hk => by subst hk; exact ⟨⟨BV31.out, BV32.out⟩, BV33.out⟩) (fun k hk => ⟨fresh_ne NV1.out (Nat.le_trans HSZ.out hk), fresh_ne NV2.out (Nat.le_trans HSZ.out hk)⟩) T3.out HBW.out HBW.out.size (by rw [tabP_len]; omega) ?_
                  rintro z_ w1_ hS_ hB_ hg_ hat_
                  rw [← tabP_succ] at hS_
                  refine hK.out _ _ ⟨y1, y2, z_, a1, a2, a3, m8_, m15_, m22_, (by rw [ha.out]; exact putSel_upk 23 hb_ rfl rfl rfl), hB_, Nat.le_trans HSZ.out hg_.size, fun _ => (hg_.block _ (blk_lt G0.out) NG3.out).trans G0.out, fun h0_ _ => absurd ((hoff 26 (by kernel_rfl)).symm.trans h0_) (by decide), fun h0_ _ => absurd ((hoff 29 (by kernel_rfl)).symm.trans h0_) (by decide), fun h0_ => absurd ((hoff 32 (by kernel_rfl)).symm.trans h0_) (by decide), fun h0_ => absurd ((hon 9 (by kernel_rfl)).symm.trans h0_) (by decide), fun _ => Kd.S_grown U1.out hg_ (fun k hk => hk.2), fun h0_ => absurd ((hon 9 (by kernel_rfl)).symm.trans h0_) (by decide), fun _ h1_ => absurd ((hon 9 (by kernel_rfl)).symm.trans h1_) (by decide), fun h0_ => absurd ((hon 16 (by kernel_rfl)).symm.trans h0_) (by decide), fun _ => Kd.S_grown U2.out hg_ (fun k hk => hk.2), fun h0_ => absurd ((hon 16 (by kernel_rfl)).symm.trans h0_) (by decide), fun _ h1_ => absurd ((hon 16 (by kernel_rfl)).symm.trans h1_) (by decide), fun h0_ => absurd ((up_self b 23).symm.trans h0_) (by decide), fun _ => hS_, fun h0_ => absurd ((up_self b 23).symm.trans h0_) (by decide), fun _ h1_ => absurd ((up_self b 23).symm.trans h1_) (by decide), Q_N12, fun _ => ne_grew U1.out (fun k hk => hk.2) hat_, fun _ => ne_grew U2.out (fun k hk => hk.2) hat_, Q_X8_, Q_X15_, Q_X22_⟩
                refine steps_cons ?_ ?_
                · rintro b a w' ⟨y1, y2, y3, a1, a2, a3, m8_, m15_, m22_, ha, Q_HBW, Q_HSZ, Q_G0, Q_G1, Q_G2, Q_G3, Q_T1, Q_U1, Q_R1, Q_E1, Q_T2, Q_U2, Q_R2, Q_E2, Q_T3, Q_U3, Q_R3, Q_E3, Q_N12, Q_N13, Q_N23, Q_X8_, Q_X15_, Q_X22_⟩ hb_ hon hoff
                  refine ⟨_, rfl, fun K hK => ?_⟩
                  have e97 : a.tmps[97]? = some (.pointer (some ⟨w3_.heap.size, 0, none⟩)) := by rw [ha]; exact putSel_on (e := (0, 97, .pointer (some ⟨w3_.heap.size, 0, none⟩))) 0 rfl rfl (hon 0 (by kernel_rfl)) rfl
                  replace ha := Aside0.mk ha
                  have HBW := Aside0.mk Q_HBW
                  have HSZ := Aside0.mk Q_HSZ
                  have G0 := Aside0.mk (Q_G0 (hoff 26 (by kernel_rfl)))
                  have U1 := Aside0.mk (Q_U1 (hon 9 (by kernel_rfl)))
                  have U2 := Aside0.mk (Q_U2 (hon 16 (by kernel_rfl)))
                  have U3 := Aside0.mk (Q_U3 (hon 23 (by kernel_rfl)))
                  have N12 := Aside0.mk (Q_N12 (hon 16 (by kernel_rfl)))
                  have N13 := Aside0.mk (Q_N13 (hon 23 (by kernel_rfl)))
                  have N23 := Aside0.mk (Q_N23 (hon 23 (by kernel_rfl)))
                  refine value_ (w1 := w') (v := .pointer (some ⟨w3_.heap.size, 0, none⟩)) (by rfl) rfl ?_ ?_
                  · go_simp
                    (try simp only [i64_w])
                    try rfl
                  refine hK.out _ _ ⟨y1, y2, y3, a1, a2, a3, m8_, m15_, m22_, (by rw [ha.out]; exact putSel_upk 24 hb_ rfl rfl rfl), Q_HBW, Q_HSZ, Q_G0, fun h0_ _ => absurd ((hoff 26 (by kernel_rfl)).symm.trans h0_) (by decide), fun h0_ _ => absurd ((hoff 29 (by kernel_rfl)).symm.trans h0_) (by decide), fun h0_ => absurd ((hoff 32 (by kernel_rfl)).symm.trans h0_) (by decide), fun h0_ => absurd ((hon 9 (by kernel_rfl)).symm.trans h0_) (by decide), Q_U1, fun h0_ => absurd ((hon 9 (by kernel_rfl)).symm.trans h0_) (by decide), fun _ h1_ => absurd ((hon 9 (by kernel_rfl)).symm.trans h1_) (by decide), fun h0_ => absurd ((hon 16 (by kernel_rfl)).symm.trans h0_) (by decide), Q_U2, fun h0_ => absurd ((hon 16 (by kernel_rfl)).symm.trans h0_) (by decide), fun _ h1_ => absurd ((hon 16 (by kernel_rfl)).symm.trans h1_) (by decide), fun h0_ => absurd ((hon 23 (by kernel_rfl)).symm.trans h0_) (by decide), Q_U3, fun h0_ => absurd ((hon 23 (by kernel_rfl)).symm.trans h0_) (by decide), fun _ h1_ => absurd ((hon 23 (by kernel_rfl)).symm.trans h1_) (by decide), Q_N12, Q_N13, Q_N23, Q_X8_, Q_X15_, Q_X22_⟩
                refine steps_cons ?_ ?_
                · rintro b a w' ⟨y1, y2, y3, a1, a2, a3, m8_, m15_, m22_, ha, Q_HBW, Q_HSZ, Q_G0, Q_G1, Q_G2, Q_G3, Q_T1, Q_U1, Q_R1, Q_E1, Q_T2, Q_U2, Q_R2, Q_E2, Q_T3, Q_U3, Q_R3, Q_E3, Q_N12, Q_N13, Q_N23, Q_X8_, Q_X15_, Q_X22_⟩ hb_ hon hoff
                  refine ⟨_, rfl, fun K hK => ?_⟩
                  have e121 : a.tmps[121]? = some (.pointer (some ⟨w3_.heap.size, 0, none⟩)) := by rw [ha]; exact putSel_on (e := (24, 121, .pointer (some ⟨w3_.heap.size, 0, none⟩))) 24 rfl rfl (hon 24 (by kernel_rfl)) rfl
                  replace ha := Aside0.mk ha
                  have HBW := Aside0.mk Q_HBW
                  have HSZ := Aside0.mk Q_HSZ
                  have G0 := Aside0.mk (Q_G0 (hoff 26 (by kernel_rfl)))
                  have U1 := Aside0.mk (Q_U1 (hon 9 (by kernel_rfl)))
                  have U2 := Aside0.mk (Q_U2 (hon 16 (by kernel_rfl)))
                  have U3 := Aside0.mk (Q_U3 (hon 23 (by kernel_rfl)))
                  have N12 := Aside0.mk (Q_N12 (hon 16 (by kernel_rfl)))
                  have N13 := Aside0.mk (Q_N13 (hon 23 (by kernel_rfl)))
                  have N23 := Aside0.mk (Q_N23 (hon 23 (by kernel_rfl)))
                  refine value_ (w1 := w') (v := .pointer (some ⟨w3_.heap.size, 0, none⟩)) (by rfl) rfl ?_ ?_
                  · go_simp
                    (try simp only [i64_w])
                    try rfl
                  refine hK.out _ _ ⟨y1, y2, y3, a1, a2, a3, m8_, m15_, m22_, (by rw [ha.out]; exact putSel_upk 25 hb_ rfl rfl rfl), Q_HBW, Q_HSZ, Q_G0, fun h0_ _ => absurd ((hoff 26 (by kernel_rfl)).symm.trans h0_) (by decide), fun h0_ _ => absurd ((hoff 29 (by kernel_rfl)).symm.trans h0_) (by decide), fun h0_ => absurd ((hoff 32 (by kernel_rfl)).symm.trans h0_) (by decide), fun h0_ => absurd ((hon 9 (by kernel_rfl)).symm.trans h0_) (by decide), Q_U1, fun h0_ => absurd ((hon 9 (by kernel_rfl)).symm.trans h0_) (by decide), fun _ h1_ => absurd ((hon 9 (by kernel_rfl)).symm.trans h1_) (by decide), fun h0_ => absurd ((hon 16 (by kernel_rfl)).symm.trans h0_) (by decide), Q_U2, fun h0_ => absurd ((hon 16 (by kernel_rfl)).symm.trans h0_) (by decide), fun _ h1_ => absurd ((hon 16 (by kernel_rfl)).symm.trans h1_) (by decide), fun h0_ => absurd ((hon 23 (by kernel_rfl)).symm.trans h0_) (by decide), Q_U3, fun h0_ => absurd ((hon 23 (by kernel_rfl)).symm.trans h0_) (by decide), fun _ h1_ => absurd ((hon 23 (by kernel_rfl)).symm.trans h1_) (by decide), Q_N12, Q_N13, Q_N23, Q_X8_, Q_X15_, Q_X22_⟩
                refine steps_cons ?_ ?_
                · rintro b a w' ⟨y1, y2, y3, a1, a2, a3, m8_, m15_, m22_, ha, Q_HBW, Q_HSZ, Q_G0, Q_G1, Q_G2, Q_G3, Q_T1, Q_U1, Q_R1, Q_E1, Q_T2, Q_U2, Q_R2, Q_E2, Q_T3, Q_U3, Q_R3, Q_E3, Q_N12, Q_N13, Q_N23, Q_X8_, Q_X15_, Q_X22_⟩ hb_ hon hoff
                  refine ⟨_, rfl, fun K hK => ?_⟩
                  have e122 : a.tmps[122]? = some (.pointer (some ⟨w3_.heap.size, 0, none⟩)) := by rw [ha]; exact putSel_on (e := (25, 122, .pointer (some ⟨w3_.heap.size, 0, none⟩))) 25 rfl rfl (hon 25 (by kernel_rfl)) rfl
                  have e106 : a.tmps[106]? = some (y1) := by rw [ha]; exact putSel_on (e := (9, 106, y1)) 9 rfl rfl (hon 9 (by kernel_rfl)) rfl
                  replace ha := Aside0.mk ha
                  have HBW := Aside0.mk Q_HBW
                  have HSZ := Aside0.mk Q_HSZ
                  have G0 := Aside0.mk (Q_G0 hb_)
                  have U1 := Aside0.mk (Q_U1 (hon 9 (by kernel_rfl)))
                  have U2 := Aside0.mk (Q_U2 (hon 16 (by kernel_rfl)))
                  have U3 := Aside0.mk (Q_U3 (hon 23 (by kernel_rfl)))
                  have N12 := Aside0.mk (Q_N12 (hon 16 (by kernel_rfl)))
                  have N13 := Aside0.mk (Q_N13 (hon 23 (by kernel_rfl)))
                  have N23 := Aside0.mk (Q_N23 (hon 23 (by kernel_rfl)))
                  have hs_ : w'.cell? ⟨w3_.heap.size, 0, none⟩ = some v1 := (blk_cell G0.out 0).trans rfl
                  have hz_ := blk_frozen G0.out 0
                  refine skip_ (w1 := (w'.setCell ⟨w3_.heap.size, 0, none⟩ y1)) (by rfl) rfl ?_ ?_
                  · obtain ⟨A_, c_, hy_⟩ := Kd.S_slice U1.out
                    rw [hy_] at e106 ⊢
                    go_simp
                    try rfl
                  refine hK.out _ _ ⟨y1, y2, y3, a1, a2, a3, m8_, m15_, m22_, (by rw [ha.out]; exact putSel_none (v := undef) rfl), below_set HBW.out HGE.out, (by rw [World.size_setCell]; exact HSZ.out), fun h0_ => absurd ((up_self b 26).symm.trans h0_) (by decide), fun _ _ => blk_put G0.out 0 _ rfl, fun h0_ _ => absurd ((hoff 29 (by kernel_rfl)).symm.trans h0_) (by decide), fun h0_ => absurd ((hoff 32 (by kernel_rfl)).symm.trans h0_) (by decide), fun h0_ => absurd ((hon 9 (by kernel_rfl)).symm.trans h0_) (by decide), fun _ => Kd.S_set U1.out G0.out (by decide) 0 _, fun h0_ => absurd ((hon 9 (by kernel_rfl)).symm.trans h0_) (by decide), fun _ h1_ => absurd ((hon 9 (by kernel_rfl)).symm.trans h1_) (by decide), fun h0_ => absurd ((hon 16 (by kernel_rfl)).symm.trans h0_) (by decide), fun _ => Kd.S_set U2.out G0.out (by decide) 0 _, fun h0_ => absurd ((hon 16 (by kernel_rfl)).symm.trans h0_) (by decide), fun _ h1_ => absurd ((hon 16 (by kernel_rfl)).symm.trans h1_) (by decide), fun h0_ => absurd ((hon 23 (by kernel_rfl)).symm.trans h0_) (by decide), fun _ => Kd.S_set U3.out G0.out (by decide) 0 _, fun h0_ => absurd ((hon 23 (by kernel_rfl)).symm.trans h0_) (by decide), fun _ h1_ => absurd ((hon 23 (by kernel_rfl)).symm.trans h1_) (by decide), Q_N12, Q_N13, Q_N23, Q_X8_, Q_X15_, Q_X22_⟩
                refine steps_cons ?_ ?_
                · rintro b a w' ⟨y1, y2, y3, a1, a2, a3, m8_, m15_, m22_, ha, Q_HBW, Q_HSZ, Q_G0, Q_G1, Q_G2, Q_G3, Q_T1, Q_U1, Q_R1, Q_E1, Q_T2, Q_U2, Q_R2, Q_E2, Q_T3, Q_U3, Q_R3, Q_E3, Q_N12, Q_N13, Q_N23, Q_X8_, Q_X15_, Q_X22_⟩ hb_ hon hoff
                  refine ⟨_, rfl, fun K hK => ?_⟩
                  have e98 : a.tmps[98]? = some (.pointer (some ⟨w3_.heap.size, 0, none⟩)) := by rw [ha]; exact putSel_on (e := (1, 98, .pointer (some ⟨w3_.heap.size, 0, none⟩))) 1 rfl rfl (hon 1 (by kernel_rfl)) rfl
                  replace ha := Aside0.mk ha
                  have HBW := Aside0.mk Q_HBW
                  have HSZ := Aside0.mk Q_HSZ
                  have G1 := Aside0.mk (Q_G1 (hon 26 (by kernel_rfl)) (hoff 29 (by kernel_rfl)))
                  have U1 := Aside0.mk (Q_U1 (hon 9 (by kernel_rfl)))
                  have U2 := Aside0.mk (Q_U2 (hon 16 (by kernel_rfl)))
                  have U3 := Aside0.mk (Q_U3 (hon 23 (by kernel_rfl)))
                  have N12 := Aside0.mk (Q_N12 (hon 16 (by kernel_rfl)))
                  have N13 := Aside0.mk (Q_N13 (hon 23 (by kernel_rfl)))
                  have N23 := Aside0.mk (Q_N23 (hon 23 (by kernel_rfl)))
                  refine value_ (w1 := w') (v := .pointer (some ⟨w3_.heap.size, 0, none⟩)) (by rfl) rfl ?_ ?_
                  · go_simp
                    (try simp only [i64_w])
                    try rfl
                  refine hK.out _ _ ⟨y1, y2, y3, a1, a2, a3, m8_, m15_, m22_, (by rw [ha.out]; exact putSel_upk 26 hb_ rfl rfl rfl), Q_HBW, Q_HSZ, fun h0_ => absurd ((hon 26 (by kernel_rfl)).symm.trans h0_) (by decide), Q_G1, fun h0_ _ => absurd ((hoff 29 (by kernel_rfl)).symm.trans h0_) (by decide), fun h0_ => absurd ((hoff 32 (by kernel_rfl)).symm.trans h0_) (by decide), fun h0_ => absurd ((hon 9 (by kernel_rfl)).symm.trans h0_) (by decide), Q_U1, fun h0_ => absurd ((hon 9 (by kernel_rfl)).symm.trans h0_) (by decide), fun _ h1_ => absurd ((hon 9 (by kernel_rfl)).symm.trans h1_) (by decide), fun h0_ => absurd ((hon 16 (by kernel_rfl)).symm.trans h0_) (by decide), Q_U2, fun h0_ => absurd ((hon 16 (by kernel_rfl)).symm.trans h0_) (by decide), fun _ h1_ => absurd ((hon 16 (by kernel_rfl)).symm.trans h1_) (by decide), fun h0_ => absurd ((hon 23 (by kernel_rfl)).symm.trans h0_) (by decide), Q_U3, fun h0_ => absurd ((hon 23 (by kernel_rfl)).symm.trans h0_) (by decide), fun _ h1_ => absurd ((hon 23 (by kernel_rfl)).symm.trans h1_) (by decide), Q_N12, Q_N13, Q_N23, Q_X8_, Q_X15_, Q_X22_⟩
                refine steps_cons ?_ ?_
                · rintro b a w' ⟨y1, y2, y3, a1, a2, a3, m8_, m15_, m22_, ha, Q_HBW, Q_HSZ, Q_G0, Q_G1, Q_G2, Q_G3, Q_T1, Q_U1, Q_R1, Q_E1, Q_T2, Q_U2, Q_R2, Q_E2, Q_T3, Q_U3, Q_R3, Q_E3, Q_N12, Q_N13, Q_N23, Q_X8_, Q_X15_, Q_X22_⟩ hb_ hon hoff
                  refine ⟨_, rfl, fun K hK => ?_⟩
                  have e123 : a.tmps[123]? = some (.pointer (some ⟨w3_.heap.size, 0, none⟩)) := by rw [ha]; exact putSel_on (e := (27, 123, .pointer (some ⟨w3_.heap.size, 0, none⟩))) 26 rfl rfl (hon 27 (by kernel_rfl)) rfl
                  replace ha := Aside0.mk ha
                  have HBW := Aside0.mk Q_HBW
                  have HSZ := Aside0.mk Q_HSZ
                  have G1 := Aside0.mk (Q_G1 (hon 26 (by kernel_rfl)) (hoff 29 (by kernel_rfl)))
                  have U1 := Aside0.mk (Q_U1 (hon 9 (by kernel_rfl)))
                  have U2 := Aside0.mk (Q_U2 (hon 16 (by kernel_rfl)))
                  have U3 := Aside0.mk (Q_U3 (hon 23 (by kernel_rfl)))
                  have N12 := Aside0.mk (Q_N12 (hon 16 (by kernel_rfl)))
                  have N13 := Aside0.mk (Q_N13 (hon 23 (by kernel_rfl)))
                  have N23 := Aside0.mk (Q_N23 (hon 23 (by kernel_rfl)))
                  refine value_ (w1 := w') (v := .pointer (some ⟨w3_.heap.size, 1, none⟩)) (by rfl) rfl ?_ ?_
                  · go_simp
                    (try simp only [i64_w])
                    try rfl
                  refine hK.out _ _ ⟨y1, y2, y3, a1, a2, a3, m8_, m15_, m22_, (by rw [ha.out]; exact putSel_upk 27 hb_ rfl rfl rfl), Q_HBW, Q_HSZ, fun h0_ => absurd ((hon 26 (by kernel_rfl)).symm.trans h0_) (by decide), Q_G1, fun h0_ _ => absurd ((hoff 29 (by kernel_rfl)).symm.trans h0_) (by decide), fun h0_ => absurd ((hoff 32 (by kernel_rfl)).symm.trans h0_) (by decide), fun h0_ => absurd ((hon 9 (by kernel_rfl)).symm.trans h0_) (by decide), Q_U1, fun h0_ => absurd ((hon 9 (by kernel_rfl)).symm.trans h0_) (by decide), fun _ h1_ => absurd ((hon 9 (by kernel_rfl)).symm.trans h1_) (by decide), fun h0_ => absurd ((hon 16 (by kernel_rfl)).symm.trans h0_) (by decide), Q_U2, fun h0_ => absurd ((hon 16 (by kernel_rfl)).symm.trans h0_) (by decide), fun _ h1_ => absurd ((hon 16 (by kernel_rfl)).symm.trans h1_) (by decide), fun h0_ => absurd ((hon 23 (by kernel_rfl)).symm.trans h0_) (by decide), Q_U3, fun h0_ => absurd ((hon 23 (by kernel_rfl)).symm.trans h0_) (by decide), fun _ h1_ => absurd ((hon 23 (by kernel_rfl)).symm.trans h1_) (by decide), Q_N12, Q_N13, Q_N23, Q_X8_, Q_X15_, Q_X22_⟩
                refine steps_cons ?_ ?_
                · rintro b a w' ⟨y1, y2, y3, a1, a2, a3, m8_, m15_, m22_, ha, Q_HBW, Q_HSZ, Q_G0, Q_G1, Q_G2, Q_G3, Q_T1, Q_U1, Q_R1, Q_E1, Q_T2, Q_U2, Q_R2, Q_E2, Q_T3, Q_U3, Q_R3, Q_E3, Q_N12, Q_N13, Q_N23, Q_X8_, Q_X15_, Q_X22_⟩ hb_ hon hoff
                  refine ⟨_, rfl, fun K hK => ?_⟩
                  have e124 : a.tmps[124]? = some (.pointer (some ⟨w3_.heap.size, 1, none⟩)) := by rw [ha]; exact putSel_on (e := (28, 124, .pointer (some ⟨w3_.heap.size, 1, none⟩))) 27 rfl rfl (hon 28 (by kernel_rfl)) rfl
                  have e113 : a.tmps[113]? = some (y2) := by rw [ha]; exact putSel_on (e := (16, 113, y2)) 16 rfl rfl (hon 16 (by kernel_rfl)) rfl
                  replace ha := Aside0.mk ha
                  have HBW := Aside0.mk Q_HBW
                  have HSZ := Aside0.mk Q_HSZ
                  have G1 := Aside0.mk (Q_G1 (hon 26 (by kernel_rfl)) hb_)
                  have U1 := Aside0.mk (Q_U1 (hon 9 (by kernel_rfl)))
                  have U2 := Aside0.mk (Q_U2 (hon 16 (by kernel_rfl)))
                  have U3 := Aside0.mk (Q_U3 (hon 23 (by kernel_rfl)))
                  have N12 := Aside0.mk (Q_N12 (hon 16 (by kernel_rfl)))
                  have N13 := Aside0.mk (Q_N13 (hon 23 (by kernel_rfl)))
                  have N23 := Aside0.mk (Q_N23 (hon 23 (by kernel_rfl)))
                  have hs_ : w'.cell? ⟨w3_.heap.size, 1, none⟩ = some v2 := (blk_cell G1.out 1).trans rfl
                  have hz_ := blk_frozen G1.out 1
                  refine skip_ (w1 := (w'.setCell ⟨w3_.heap.size, 1, none⟩ y2)) (by rfl) rfl ?_ ?_
                  · obtain ⟨A_, c_, hy_⟩ := Kd.S_slice U2.out
                    rw [hy_] at e113 ⊢
                    go_simp
                    try rfl
                  refine hK.out _ _ ⟨y1, y2, y3, a1, a2, a3, m8_, m15_, m22_, (by rw [ha.out]; exact putSel_none (v := undef) rfl), below_set HBW.out HGE.out, (by rw [World.size_setCell]; exact HSZ.out), fun h0_ => absurd ((hon 26 (by kernel_rfl)).symm.trans h0_) (by decide), fun _ h1_ => absurd ((up_self b 29).symm.trans h1_) (by decide), fun _ _ => blk_put G1.out 1 _ rfl, fun h0_ => absurd ((hoff 32 (by kernel_rfl)).symm.trans h0_) (by decide), fun h0_ => absurd ((hon 9 (by kernel_rfl)).symm.trans h0_) (by decide), fun _ => Kd.S_set U1.out G1.out (by decide) 1 _, fun h0_ => absurd ((hon 9 (by kernel_rfl)).symm.trans h0_) (by decide), fun _ h1_ => absurd ((hon 9 (by kernel_rfl)).symm.trans h1_) (by decide), fun h0_ => absurd ((hon 16 (by kernel_rfl)).symm.trans h0_) (by decide), fun _ => Kd.S_set U2.out G1.out (by decide) 1 _, fun h0_ => absurd ((hon 16 (by kernel_rfl)).symm.trans h0_) (by decide), fun _ h1_ => absurd ((hon 16 (by kernel_rfl)).symm.trans h1_) (by decide), fun h0_ => absurd ((hon 23 (by kernel_rfl)).symm.trans h0_) (by decide), fun _ => Kd.S_set U3.out G1.out (by decide) 1 _, fun h0_ => absurd ((hon 23 (by kernel_rfl)).symm.trans h0_) (by decide), fun _ h1_ => absurd ((hon 23 (by kernel_rfl)).symm.trans h1_) (by decide), Q_N12, Q_N13, Q_N23, Q_X8_, Q_X15_, Q_X22_⟩
                refine steps_cons ?_ ?_
                · rintro b a w' ⟨y1, y2, y3, a1, a2, a3, m8_, m15_, m22_, ha, Q_HBW, Q_HSZ, Q_G0, Q_G1, Q_G2, Q_G3, Q_T1, Q_U1, Q_R1, Q_E1, Q_T2, Q_U2, Q_R2, Q_E2, Q_T3, Q_U3, Q_R3, Q_E3, Q_N12, Q_N13, Q_N23, Q_X8_, Q_X15_, Q_X22_⟩ hb_ hon hoff
                  refine ⟨_, rfl, fun K hK => ?_⟩
                  have e99 : a.tmps[99]? = some (.pointer (some ⟨w3_.heap.size, 0, none⟩)) := by rw [ha]; exact putSel_on (e := (2, 99, .pointer (some ⟨w3_.heap.size, 0, none⟩))) 2 rfl rfl (hon 2 (by kernel_rfl)) rfl
                  replace ha := Aside0.mk ha
                  have HBW := Aside0.mk Q_HBW
                  have HSZ := Aside0.mk Q_HSZ
                  have G2 := Aside0.mk (Q_G2 (hon 29 (by kernel_rfl)) (hoff 32 (by kernel_rfl)))
                  have U1 := Aside0.mk (Q_U1 (hon 9 (by kernel_rfl)))
                  have U2 := Aside0.mk (Q_U2 (hon 16 (by kernel_rfl)))
                  have U3 := Aside0.mk (Q_U3 (hon 23 (by kernel_rfl)))
                  have N12 := Aside0.mk (Q_N12 (hon 16 (by kernel_rfl)))
                  have N13 := Aside0.mk (Q_N13 (hon 23 (by kernel_rfl)))
                  have N23 := Aside0.mk (Q_N23 (hon 23 (by kernel_rfl)))
                  refine value_ (w1 := w') (v := .pointer (some ⟨w3_.heap.size, 0, none⟩)) (by rfl) rfl ?_ ?_
                  · go_simp
                    (try simp only [i64_w])
                    try rfl
                  refine hK.out _ _ ⟨y1, y2, y3, a1, a2, a3, m8_, m15_, m22_, (by rw [ha.out]; exact putSel_upk 28 hb_ rfl rfl rfl), Q_HBW, Q_HSZ, fun h0_ => absurd ((hon 26 (by kernel_rfl)).symm.trans h0_) (by decide), fun _ h1_ => absurd ((hon 29 (by kernel_rfl)).symm.trans h1_) (by decide), Q_G2, fun h0_ => absurd ((hoff 32 (by kernel_rfl)).symm.trans h0_) (by decide), fun h0_ => absurd ((hon 9 (by kernel_rfl)).symm.trans h0_) (by decide), Q_U1, fun h0_ => absurd ((hon 9 (by kernel_rfl)).symm.trans h0_) (by decide), fun _ h1_ => absurd ((hon 9 (by kernel_rfl)).symm.trans h1_) (by decide), fun h0_ => absurd ((hon 16 (by kernel_rfl)).symm.trans h0_) (by decide), Q_U2, fun h0_ => absurd ((hon 16 (by kernel_rfl)).symm.trans h0_) (by decide), fun _ h1_ => absurd ((hon 16 (by kernel_rfl)).symm.trans h1_) (by decide), fun h0_ => absurd ((hon 23 (by kernel_rfl)).symm.trans h0_) (by decide), Q_U3, fun h0_ => absurd ((hon 23 (by kernel_rfl)).symm.trans h0_) (by decide), fun _ h1_ => absurd ((hon 23 (by kernel_rfl)).symm.trans h1_) (by decide), Q_N12, Q_N13, Q_N23, Q_X8_, Q_X15_, Q_X22_⟩
                refine steps_cons ?_ ?_
                · rintro b a w' ⟨y1, y2, y3, a1, a2, a3, m8_, m15_, m22_, ha, Q_HBW, Q_HSZ, Q_G0, Q_G1, Q_G2, Q_G3, Q_T1, Q_U1, Q_R1, Q_E1, Q_T2, Q_U2, Q_R2, Q_E2, Q_T3, Q_U3, Q_R3, Q_E3, Q_N12, Q_N13, Q_N23, Q_X8_, Q_X15_, Q_X22_⟩ hb_ hon hoff
                  refine ⟨_, rfl, fun K hK => ?_⟩
                  have e125 : a.tmps[125]? = some (.pointer (some ⟨w3_.heap.size, 0, none⟩)) := by rw [ha]; exact putSel_on (e := (30, 125, .pointer (some ⟨w3_.heap.size, 0, none⟩))) 28 rfl rfl (hon 30 (by kernel_rfl)) rfl
                  replace ha := Aside0.mk ha
                  have HBW := Aside0.mk Q_HBW
                  have HSZ := Aside0.mk Q_HSZ
                  have G2 := Aside0.mk (Q_G2 (hon 29 (by kernel_rfl)) (hoff 32 (by kernel_rfl)))
                  have U1 := Aside0.mk (Q_U1 (hon 9 (by kernel_rfl)))
                  have U2 := Aside0.mk (Q_U2 (hon 16 (by kernel_rfl)))
                  have U3 := Aside0.mk (Q_U3 (hon 23 (by kernel_rfl)))
                  have N12 := Aside0.mk (Q_N12 (hon 16 (by kernel_rfl)))
                  have N13 := Aside0.mk (Q_N13 (hon 23 (by kernel_rfl)))
                  have N23 := Aside0.mk (Q_N23 (hon 23 (by kernel_rfl)))
                  refine value_ (w1 := w') (v := .pointer (some ⟨w3_.heap.size, 2, none⟩)) (by rfl) rfl ?_ ?_
                  · go_simp
                    (try simp only [i64_w])
                    try rfl
                  refine hK.out _ _ ⟨y1, y2, y3, a1, a2, a3, m8_, m15_, m22_, (by rw [ha.out]; exact putSel_upk 29 hb_ rfl rfl rfl), Q_HBW, Q_HSZ, fun h0_ => absurd ((hon 26 (by kernel_rfl)).symm.trans h0_) (by decide), fun _ h1_ => absurd ((hon 29 (by kernel_rfl)).symm.trans h1_) (by decide), Q_G2, fun h0_ => absurd ((hoff 32 (by kernel_rfl)).symm.trans h0_) (by decide), fun h0_ => absurd ((hon 9 (by kernel_rfl)).symm.trans h0_) (by decide), Q_U1, fun h0_ => absurd ((hon 9 (by kernel_rfl)).symm.trans h0_) (by decide), fun _ h1_ => absurd ((hon 9 (by kernel_rfl)).symm.trans h1_) (by decide), fun h0_ => absurd ((hon 16 (by kernel_rfl)).symm.trans h0_) (by decide), Q_U2, fun h0_ => absurd ((hon 16 (by kernel_rfl)).symm.trans h0_) (by decide), fun _ h1_ => absurd ((hon 16 (by kernel_rfl)).symm.trans h1_) (by decide), fun h0_ => absurd ((hon 23 (by kernel_rfl)).symm.trans h0_) (by decide), Q_U3, fun h0_ => absurd ((hon 23 (by kernel_rfl)).symm.trans h0_) (by decide), fun _ h1_ => absurd ((hon 23 (by kernel_rfl)).symm.trans h1_) (by decide), Q_N12, Q_N13, Q_N23, Q_X8_, Q_X15_, Q_X22_⟩
                refine steps_cons ?_ ?_
                · rintro b a w' ⟨y1, y2, y3, a1, a2, a3, m8_, m15_, m22_, ha, Q_HBW, Q_HSZ, Q_G0, Q_G1, Q_G2, Q_G3, Q_T1, Q_U1, Q_R1, Q_E1, Q_T2, Q_U2, Q_R2, Q_E2, Q_T3, Q_U3, Q_R3, Q_E3, Q_N12, Q_N13, Q_N23, Q_X8_, Q_X15_, Q_X22_⟩ hb_ hon hoff
                  refine ⟨_, rfl, fun K hK => ?_⟩
                  have e126 : a.tmps[126]? = some (.pointer (some ⟨w3_.heap.size, 2, none⟩)) := by rw [ha]; exact putSel_on (e := (31, 126, .pointer (some ⟨w3_.heap.size, 2, none⟩))) 29 rfl rfl (hon 31 (by kernel_rfl)) rfl
                  have e120 : a.tmps[120]? = some (y3) := by rw [ha]; exact putSel_on (e := (23, 120, y3)) 23 rfl rfl (hon 23 (by kernel_rfl)) rfl
                  replace ha := Aside0.mk ha
                  have HBW := Aside0.mk Q_HBW
                  have HSZ := Aside0.mk Q_HSZ
                  have G2 := Aside0.mk (Q_G2 (hon 29 (by kernel_rfl)) hb_)
                  have U1 := Aside0.mk (Q_U1 (hon 9 (by kernel_rfl)))
                  have U2 := Aside0.mk (Q_U2 (hon 16 (by kernel_rfl)))
                  have U3 := Aside0.mk (Q_U3 (hon 23 (by kernel_rfl)))
                  have N12 := Aside0.mk (Q_N12 (hon 16 (by kernel_rfl)))
                  have N13 := Aside0.mk (Q_N13 (hon 23 (by kernel_rfl)))
                  have N23 := Aside0.mk (Q_N23 (hon 23 (by kernel_rfl)))
                  have hs_ : w'.cell? ⟨w3_.heap.size, 2, none⟩ = some v3 := (blk_cell G2.out 2).trans rfl
                  have hz_ := blk_frozen G2.out 2
                  refine skip_ (w1 := (w'.setCell ⟨w3_.heap.size, 2, none⟩ y3)) (by rfl) rfl ?_ ?_
                  · obtain ⟨A_, c_, hy_⟩ := Kd.S_slice U3.out
                    rw [hy_] at e120 ⊢
                    go_simp
                    try rfl
                  refine hK.out _ _ ⟨y1, y2, y3, a1, a2, a3, m8_, m15_, m22_, (by rw [ha.out]; exact putSel_none (v := undef) rfl), below_set HBW.out HGE.out, (by rw [World.size_setCell]; exact HSZ.out), fun h0_ => absurd ((hon 26 (by kernel_rfl)).symm.trans h0_) (by decide), fun _ h1_ => absurd ((hon 29 (by kernel_rfl)).symm.trans h1_) (by decide), fun _ h1_ => absurd ((up_self b 32).symm.trans h1_) (by decide), fun _ => blk_put G2.out 2 _ rfl, fun h0_ => absurd ((hon 9 (by kernel_rfl)).symm.trans h0_) (by decide), fun _ => Kd.S_set U1.out G2.out (by decide) 2 _, fun h0_ => absurd ((hon 9 (by kernel_rfl)).symm.trans h0_) (by decide), fun _ h1_ => absurd ((hon 9 (by kernel_rfl)).symm.trans h1_) (by decide), fun h0_ => absurd ((hon 16 (by kernel_rfl)).symm.trans h0_) (by decide), fun _ => Kd.S_set U2.out G2.out (by decide) 2 _, fun h0_ => absurd ((hon 16 (by kernel_rfl)).symm.trans h0_) (by decide), fun _ h1_ => absurd ((hon 16 (by kernel_rfl)).symm.trans h1_) (by decide), fun h0_ => absurd ((hon 23 (by kernel_rfl)).symm.trans h0_) (by decide), fun _ => Kd.S_set U3.out G2.out (by decide) 2 _, fun h0_ => absurd ((hon 23 (by kernel_rfl)).symm.trans h0_) (by decide), fun _ h1_ => absurd ((hon 23 (by kernel_rfl)).symm.trans h1_) (by decide), Q_N12, Q_N13, Q_N23, Q_X8_, Q_X15_, Q_X22_⟩
                exact steps_nil
              · rintro b a w' hall ⟨y1, y2, y3, a1, a2, a3, m8_, m15_, m22_, ha, Q_HBW, Q_HSZ, Q_G0, Q_G1, Q_G2, Q_G3, Q_T1, Q_U1, Q_R1, Q_E1, Q_T2, Q_U2, Q_R2, Q_E2, Q_T3, Q_U3, Q_R3, Q_E3, Q_N12, Q_N13, Q_N23, Q_X8_, Q_X15_, Q_X22_⟩
                clear G0 HBW HSZ R1 R2 R3 T1 T2 T3
                have hb0_ := hall 0 (by kernel_rfl)
                have hb1_ := hall 1 (by kernel_rfl)
                have hb2_ := hall 2 (by kernel_rfl)
                have hb3_ := hall 3 (by kernel_rfl)
                have hb4_ := hall 4 (by kernel_rfl)
                have hb5_ := hall 5 (by kernel_rfl)
                have hb6_ := hall 6 (by kernel_rfl)
                have hb7_ := hall 7 (by kernel_rfl)
                have hb8_ := hall 8 (by kernel_rfl)
                have hb9_ := hall 9 (by kernel_rfl)
                have hb10_ := hall 10 (by kernel_rfl)
                have hb11_ := hall 11 (by kernel_rfl)
                have hb12_ := hall 12 (by kernel_rfl)
                have hb13_ := hall 13 (by kernel_rfl)
                have hb14_ := hall 14 (by kernel_rfl)
                have hb15_ := hall 15 (by kernel_rfl)
                have hb16_ := hall 16 (by kernel_rfl)
                have hb17_ := hall 17 (by kernel_rfl)
                have hb18_ := hall 18 (by kernel_rfl)
                have hb19_ := hall 19 (by kernel_rfl)
                have hb20_ := hall 20 (by kernel_rfl)
                have hb21_ := hall 21 (by kernel_rfl)
                have hb22_ := hall 22 (by kernel_rfl)
                have hb23_ := hall 23 (by kernel_rfl)
                have hb24_ := hall 24 (by kernel_rfl)
                have hb25_ := hall 25 (by kernel_rfl)
                have hb26_ := hall 26 (by kernel_rfl)
                have hb27_ := hall 27 (by kernel_rfl)
                have hb28_ := hall 28 (by kernel_rfl)
                have hb29_ := hall 29 (by kernel_rfl)
                have hb30_ := hall 30 (by kernel_rfl)
                have hb31_ := hall 31 (by kernel_rfl)
                have hb32_ := hall 32 (by kernel_rfl)
                subst ha
                obtain rfl := Q_X8_ hb8_
                obtain rfl := Q_X15_ hb15_
                obtain rfl := Q_X22_ hb22_
                simp only [putSel, hb0_, hb1_, hb2_, hb3_, hb4_, hb5_, hb6_, hb7_, hb8_, hb9_, hb10_, hb11_, hb12_, hb13_, hb14_, hb15_, hb16_, hb17_, hb18_, hb19_, hb20_, hb21_, hb22_, hb23_, hb24_, hb25_, hb26_, hb27_, hb28_, hb29_, hb30_, hb31_, hb32_, if_true, Act.put, List.setIfInBounds_toArray, List.set_cons_zero, List.set_cons_succ]
                have HBW := Aside0.mk Q_HBW
                clear Q_HBW
                have HSZ := Aside0.mk Q_HSZ
                clear Q_HSZ
                clear Q_G0
                clear Q_G1
                clear Q_G2
                have G3 := Aside0.mk (Q_G3 hb32_)
                clear Q_G3
                clear Q_T1
                have U1 := Aside0.mk (Q_U1 hb9_)
                clear Q_U1
                clear Q_R1
                clear Q_E1
                clear Q_T2
                have U2 := Aside0.mk (Q_U2 hb16_)
                clear Q_U2
                clear Q_R2
                clear Q_E2
                clear Q_T3
                have U3 := Aside0.mk (Q_U3 hb23_)
                clear Q_U3
                clear Q_R3
                clear Q_E3
                have N12 := Aside0.mk (Q_N12 hb16_)
                clear Q_N12
                have N13 := Aside0.mk (Q_N13 hb23_)
                clear Q_N13
                have N23 := Aside0.mk (Q_N23 hb23_)
                clear Q_N23
                clear hall hb0_ hb1_ hb2_ hb3_ hb4_ hb5_ hb6_ hb7_ hb8_ hb9_ hb10_ hb11_ hb12_ hb13_ hb14_ hb15_ hb16_ hb17_ hb18_ hb19_ hb20_ hb21_ hb22_ hb23_ hb24_ hb25_ hb26_ hb27_ hb28_ hb29_ hb30_ hb31_ hb32_
                go_wp2
                go_roundw
                case rel => exact ⟨ra + 1, by omega, by go_num, ⟨HBW.out, hg0, y1, y2, y3, G3.out, N12.out, N13.out, N23.out, Kd.S_mono U1.out (fun _ _ => trivial), Kd.S_mono U2.out (fun _ _ => trivial), Kd.S_mono U3.out (fun _ _ => trivial)⟩, ⟨fun x hx y hy => by
                  rcases Nat.lt_or_eq_of_le (Nat.le_of_lt_succ hx) with h | h
                  · exact HG.out x h y hy
                  · subst h; exact HGB.out y hy⟩⟩
                case measure => simp [intOf]; omega

      · obtain rfl : a = q.length := by omega
        have HLT : Aside0 (latB q = true) := ⟨by rw [HLB.out, allB_all]; exact fun x y hx hy => HG.out x hx y hy⟩
        have HT2 : Aside0 (Tabs2 w wo q w3_.heap.size 0 0) := ⟨by
          obtain ⟨hB0, hg0, v1, v2, v3, hh, n12, n13, n23, s1, s2, s3⟩ := HT.out
          exact ⟨hB0, hg0, v1, v2, v3, hh, s1, s2, s3⟩⟩
        clear HT HG
        go_wp2_with fail
        go_loopw [130] (fun i wr => ∃ m : Nat, m ≤ q.length ∧ i = .int .i64 (m : Int) ∧ Aside0 (Tabs2 w wr q w3_.heap.size (topF q m) (botF q m))) (fun i _ => q.length - (intOf i).toNat)
        case atStart => exact ⟨0, Nat.zero_le _, rfl, HT2⟩
        case round =>
          clear HT2
          obtain ⟨m, hm, rfl, HK⟩ := hrel
          by_cases hltm : m < q.length
          · go_upto_region 24 with (fail)
            refine start_ (n := 22) (S := fun w' => True) (ds := []) #[false, false, false, false, false, false, false, false, false, false, false, false, false, false, false, false, false, false, false, false, false, false] (by kernel_rfl) rfl rfl trivial (fun hHeld => ?_)
            refine with_tabW lattice_New.tab24 lattice_New.bits24 (fun HT_ HW_ => ?_)
            have K0 := Aside0.mk True.intro
            refine inv_at [0, 1, 2, 3, 4, 5, 6, 7, 8, 9, 10, 11, 12, 13, 14, 15, 16, 17, 18, 19, 20, 21] (fun a0_ b a w' => a = putSel a0_ b [(0, 133, .pointer (some ⟨w3_.heap.size, 0, none⟩)), (1, 134, .pointer (some ⟨w3_.heap.size, 0, none⟩)), (2, 135, .pointer (some ⟨w3_.heap.size, 0, none⟩)), (3, 136, .pointer (some ⟨w3_.heap.size, 0, none⟩)), (4, 137, .pointer (some ⟨w3_.heap.size, 0, none⟩)), (5, 138, .pointer (some ⟨w3_.heap.size, 3, none⟩)), (6, 139, .int .i64 (topF q m)), (7, 140, .int .i64 (m : Int)), (8, 141, .int .i64 (topF q (m + 1))), (9, 142, .pointer (some ⟨w3_.heap.size, 0, none⟩)), (10, 143, .pointer (some ⟨w3_.heap.size, 0, none⟩)), (11, 144, .pointer (some ⟨w3_.heap.size, 0, none⟩)), (12, 145, .pointer (some ⟨w3_.heap.size, 4, none⟩)), (13, 146, .int .i64 (botF q m)), (14, 147, .int .i64 (m : Int)), (15, 148, .int .i64 (botF q (m + 1))), (16, 149, .pointer (some ⟨w3_.heap.size, 0, none⟩)), (17, 150, .pointer (some ⟨w3_.heap.size, 3, none⟩)), (19, 151, .pointer (some ⟨w3_.heap.size, 0, none⟩)), (20, 152, .pointer (some ⟨w3_.heap.size, 4, none⟩))] ∧ (b 18 = false → Tabs2 w w' q w3_.heap.size (topF q m) (botF q m)) ∧ (b 18 = true → b 21 = false → Tabs2 w w' q w3_.heap.size (topF q (m + 1)) (botF q m)) ∧ (b 21 = true → Tabs2 w w' q w3_.heap.size (topF q (m + 1)) (botF q (m + 1)))) HT_.out HW_.out (by kernel_rfl) (by kernel_rfl) ?_ ?_ ?_
            · exact ⟨by simp only [putSel, Bool.false_eq_true, if_false], fun _ => HK.out.grow (by repeat (first | exact Below.refl _ _ | apply below_drew1 | apply pw_below_drewN)), fun h_ => absurd h_ (by decide), fun h_ => absurd h_ (by decide)⟩
            · skip
              clear K0
              refine steps_cons ?_ ?_
              · rintro b a w' ⟨ha, Q_K0, Q_K1, Q_K2⟩ hb_ hon hoff
                refine ⟨_, rfl, fun K hK => ?_⟩
                have e4 : a.tmps[4]? = some (.pointer (some ⟨w3_.heap.size, 0, none⟩)) := by rw [ha]; exact (putSel_off rfl).trans rfl
                replace ha := Aside0.mk ha
                have K0 := Aside0.mk (Q_K0 (hoff 18 (by kernel_rfl)))
                refine value_ (w1 := w') (v := .pointer (some ⟨w3_.heap.size, 0, none⟩)) (by rfl) rfl ?_ ?_
                · go_simp
                  (try simp only [i64_w])
                  try rfl
                refine hK.out _ _ ⟨(by rw [ha.out]; exact putSel_upk 0 hb_ rfl rfl rfl), Q_K0, fun h0_ _ => absurd ((hoff 18 (by kernel_rfl)).symm.trans h0_) (by decide), fun h0_ => absurd ((hoff 21 (by kernel_rfl)).symm.trans h0_) (by decide)⟩
              refine steps_cons ?_ ?_
              · rintro b a w' ⟨ha, Q_K0, Q_K1, Q_K2⟩ hb_ hon hoff
                refine ⟨_, rfl, fun K hK => ?_⟩
                have e4 : a.tmps[4]? = some (.pointer (some ⟨w3_.heap.size, 0, none⟩)) := by rw [ha]; exact (putSel_off rfl).trans rfl
                replace ha := Aside0.mk ha
                refine value_ (w1 := w') (v := .pointer (some ⟨w3_.heap.size, 0, none⟩)) (by rfl) rfl ?_ ?_
                · go_simp
                  (try simp only [i64_w])
                  try rfl
                refine hK.out _ _ ⟨(by rw [ha.out]; exact putSel_upk 1 hb_ rfl rfl rfl), Q_K0, Q_K1, fun h0_ => absurd ((hoff 21 (by kernel_rfl)).symm.trans h0_) (by decide)⟩
              refine steps_cons ?_ ?_
              · rintro b a w' ⟨ha, Q_K0, Q_K1, Q_K2⟩ hb_ hon hoff
                refine ⟨_, rfl, fun K hK => ?_⟩
                have e4 : a.tmps[4]? = some (.pointer (some ⟨w3_.heap.size, 0, none⟩)) := by rw [ha]; exact (putSel_off rfl).trans rfl
                replace ha := Aside0.mk ha
                have K0 := Aside0.mk (Q_K0 (hoff 18 (by kernel_rfl)))
                refine value_ (w1 := w') (v := .pointer (some ⟨w3_.heap.size, 0, none⟩)) (by rfl) rfl ?_ ?_
                · go_simp
                  (try simp only [i64_w])
                  try rfl
                refine hK.out _ _ ⟨(by rw [ha.out]; exact putSel_upk 2 hb_ rfl rfl rfl), Q_K0, fun h0_ _ => absurd ((hoff 18 (by kernel_rfl)).symm.trans h0_) (by decide), fun h0_ => absurd ((hoff 21 (by kernel_rfl)).symm.trans h0_) (by decide)⟩
              refine steps_cons ?_ ?_
              · rintro b a w' ⟨ha, Q_K0, Q_K1, Q_K2⟩ hb_ hon hoff
                refine ⟨_, rfl, fun K hK => ?_⟩
                have e4 : a.tmps[4]? = some (.pointer (some ⟨w3_.heap.size, 0, none⟩)) := by rw [ha]; exact (putSel_off rfl).trans rfl
                replace ha := Aside0.mk ha
                have K0 := Aside0.mk (Q_K0 (hoff 18 (by kernel_rfl)))
                refine value_ (w1 := w') (v := .pointer (some ⟨w3_.heap.size, 0, none⟩)) (by rfl) rfl ?_ ?_
                · go_simp
                  (try simp only [i64_w])
                  try rfl
                refine hK.out _ _ ⟨(by rw [ha.out]; exact putSel_upk 3 hb_ rfl rfl rfl), Q_K0, fun h0_ _ => absurd ((hoff 18 (by kernel_rfl)).symm.trans h0_) (by decide), fun h0_ => absurd ((hoff 21 (by kernel_rfl)).symm.trans h0_) (by decide)⟩
              refine steps_cons ?_ ?_
              · rintro b a w' ⟨ha, Q_K0, Q_K1, Q_K2⟩ hb_ hon hoff
                refine ⟨_, rfl, fun K hK => ?_⟩
                have e136 : a.tmps[136]? = some (.pointer (some ⟨w3_.heap.size, 0, none⟩)) := by rw [ha]; exact putSel_on (e := (3, 136, .pointer (some ⟨w3_.heap.size, 0, none⟩))) 3 rfl rfl (hon 3 (by kernel_rfl)) rfl
                replace ha := Aside0.mk ha
                have K0 := Aside0.mk (Q_K0 (hoff 18 (by kernel_rfl)))
                refine value_ (w1 := w') (v := .pointer (some ⟨w3_.heap.size, 0, none⟩)) (by rfl) rfl ?_ ?_
                · go_simp
                  (try simp only [i64_w])
                  try rfl
                refine hK.out _ _ ⟨(by rw [ha.out]; exact putSel_upk 4 hb_ rfl rfl rfl), Q_K0, fun h0_ _ => absurd ((hoff 18 (by kernel_rfl)).symm.trans h0_) (by decide), fun h0_ => absurd ((hoff 21 (by kernel_rfl)).symm.trans h0_) (by decide)⟩
              refine steps_cons ?_ ?_
              · rintro b a w' ⟨ha, Q_K0, Q_K1, Q_K2⟩ hb_ hon hoff
                refine ⟨_, rfl, fun K hK => ?_⟩
                have e137 : a.tmps[137]? = some (.pointer (some ⟨w3_.heap.size, 0, none⟩)) := by rw [ha]; exact putSel_on (e := (4, 137, .pointer (some ⟨w3_.heap.size, 0, none⟩))) 4 rfl rfl (hon 4 (by kernel_rfl)) rfl
                replace ha := Aside0.mk ha
                have K0 := Aside0.mk (Q_K0 (hoff 18 (by kernel_rfl)))
                refine value_ (w1 := w') (v := .pointer (some ⟨w3_.heap.size, 3, none⟩)) (by rfl) rfl ?_ ?_
                · go_simp
                  (try simp only [i64_w])
                  try rfl
                refine hK.out _ _ ⟨(by rw [ha.out]; exact putSel_upk 5 hb_ rfl rfl rfl), Q_K0, fun h0_ _ => absurd ((hoff 18 (by kernel_rfl)).symm.trans h0_) (by decide), fun h0_ => absurd ((hoff 21 (by kernel_rfl)).symm.trans h0_) (by decide)⟩
              refine steps_cons ?_ ?_
              · rintro b a w' ⟨ha, Q_K0, Q_K1, Q_K2⟩ hb_ hon hoff
                refine ⟨_, rfl, fun K hK => ?_⟩
                have e138 : a.tmps[138]? = some (.pointer (some ⟨w3_.heap.size, 3, none⟩)) := by rw [ha]; exact putSel_on (e := (5, 138, .pointer (some ⟨w3_.heap.size, 3, none⟩))) 5 rfl rfl (hon 5 (by kernel_rfl)) rfl
                replace ha := Aside0.mk ha
                have K0 := Aside0.mk (Q_K0 (hoff 18 (by kernel_rfl)))
                have hs_ := K0.out.cell3
                refine value_ (w1 := w') (v := .int .i64 (topF q m)) (by rfl) rfl ?_ ?_
                · go_simp
                  (try simp only [i64_w])
                  try rfl
                refine hK.out _ _ ⟨(by rw [ha.out]; exact putSel_upk 6 hb_ rfl rfl rfl), Q_K0, fun h0_ _ => absurd ((hoff 18 (by kernel_rfl)).symm.trans h0_) (by decide), fun h0_ => absurd ((hoff 21 (by kernel_rfl)).symm.trans h0_) (by decide)⟩
              refine steps_cons ?_ ?_
              · rintro b a w' ⟨ha, Q_K0, Q_K1, Q_K2⟩ hb_ hon hoff
                refine ⟨_, rfl, fun K hK => ?_⟩
                have e14 : a.tmps[14]? = some (.int .i64 (m : Int)) := by rw [ha]; exact (putSel_off rfl).trans rfl
                replace ha := Aside0.mk ha
                have K0 := Aside0.mk (Q_K0 (hoff 18 (by kernel_rfl)))
                refine value_ (w1 := w') (v := .int .i64 (m : Int)) (by rfl) rfl ?_ ?_
                · go_simp
                  (try simp only [i64_w])
                  try rfl
                refine hK.out _ _ ⟨(by rw [ha.out]; exact putSel_upk 7 hb_ rfl rfl rfl), Q_K0, fun h0_ _ => absurd ((hoff 18 (by kernel_rfl)).symm.trans h0_) (by decide), fun h0_ => absurd ((hoff 21 (by kernel_rfl)).symm.trans h0_) (by decide)⟩
              refine steps_cons ?_ ?_
              · rintro b a w' ⟨ha, Q_K0, Q_K1, Q_K2⟩ hb_ hon hoff
                refine ⟨_, rfl, fun K hK => ?_⟩
                have e135 : a.tmps[135]? = some (.pointer (some ⟨w3_.heap.size, 0, none⟩)) := by rw [ha]; exact putSel_on (e := (2, 135, .pointer (some ⟨w3_.heap.size, 0, none⟩))) 2 rfl rfl (hon 2 (by kernel_rfl)) rfl
                have e139 : a.tmps[139]? = some (.int .i64 (topF q m)) := by rw [ha]; exact putSel_on (e := (6, 139, .int .i64 (topF q m))) 6 rfl rfl (hon 6 (by kernel_rfl)) rfl
                have e140 : a.tmps[140]? = some (.int .i64 (m : Int)) := by rw [ha]; exact putSel_on (e := (7, 140, .int .i64 (m : Int))) 7 rfl rfl (hon 7 (by kernel_rfl)) rfl
                replace ha := Aside0.mk ha
                have K0 := Aside0.mk (Q_K0 (hoff 18 (by kernel_rfl)))
                refine goes_ Try.func54 (by kernel_rfl) rfl #[.pointer (some ⟨w3_.heap.size, 0, none⟩), .int .i64 (topF q m), .int .i64 (m : Int)] (by rfl) rfl rfl (by first | (simp only [List.map_toArray, List.map_cons, List.map_nil, Act.eval, Array.getD_eq_getD_getElem?, Option.getD_some, e135, e139, e140]; done) | (simp only [List.map_toArray, List.map_cons, List.map_nil, Act.eval, Array.getD_eq_getD_getElem?, Option.getD_some, e135, e139, e140]; rfl)) ?_
                have hc_ := lattice_Join_calls w3_.heap.size q.length (leqF q) (joinF q) (meetF q) (topF q m) (botF q m) (topF q m) (m : Int) w' K0.out.isLat
                rw [← topF_succ] at hc_
                refine hc_.mono ?_
                rintro e_ w1_ ⟨rfl, hd_⟩
                refine ⟨_, rfl, ?_⟩
                refine hK.out _ _ ⟨(by rw [ha.out]; exact putSel_upk 8 hb_ rfl rfl rfl), fun _ => K0.out.drawn hd_, fun h0_ _ => absurd ((hoff 18 (by kernel_rfl)).symm.trans h0_) (by decide), fun h0_ => absurd ((hoff 21 (by kernel_rfl)).symm.trans h0_) (by decide)⟩
              refine steps_cons ?_ ?_
              · rintro b a w' ⟨ha, Q_K0, Q_K1, Q_K2⟩ hb_ hon hoff
                refine ⟨_, rfl, fun K hK => ?_⟩
                have e4 : a.tmps[4]? = some (.pointer (some ⟨w3_.heap.size, 0, none⟩)) := by rw [ha]; exact (putSel_off rfl).trans rfl
                replace ha := Aside0.mk ha
                have K0 := Aside0.mk (Q_K0 (hoff 18 (by kernel_rfl)))
                refine value_ (w1 := w') (v := .pointer (some ⟨w3_.heap.size, 0, none⟩)) (by rfl) rfl ?_ ?_
                · go_simp
                  (try simp only [i64_w])
                  try rfl
                refine hK.out _ _ ⟨(by rw [ha.out]; exact putSel_upk 9 hb_ rfl rfl rfl), Q_K0, fun h0_ _ => absurd ((hoff 18 (by kernel_rfl)).symm.trans h0_) (by decide), fun h0_ => absurd ((hoff 21 (by kernel_rfl)).symm.trans h0_) (by decide)⟩
              refine steps_cons ?_ ?_
              · rintro b a w' ⟨ha, Q_K0, Q_K1, Q_K2⟩ hb_ hon hoff
                refine ⟨_, rfl, fun K hK => ?_⟩
                have e4 : a.tmps[4]? = some (.pointer (some ⟨w3_.heap.size, 0, none⟩)) := by rw [ha]; exact (putSel_off rfl).trans rfl
                replace ha := Aside0.mk ha
                have K0 := Aside0.mk (Q_K0 (hoff 18 (by kernel_rfl)))
                refine value_ (w1 := w') (v := .pointer (some ⟨w3_.heap.size, 0, none⟩)) (by rfl) rfl ?_ ?_
                · go_simp
                  (try simp only [i64_w])
                  try rfl
                refine hK.out _ _ ⟨(by rw [ha.out]; exact putSel_upk 10 hb_ rfl rfl rfl), Q_K0, fun h0_ _ => absurd ((hoff 18 (by kernel_rfl)).symm.trans h0_) (by decide), fun h0_ => absurd ((hoff 21 (by kernel_rfl)).symm.trans h0_) (by decide)⟩
              refine steps_cons ?_ ?_
              · rintro b a w' ⟨ha, Q_K0, Q_K1, Q_K2⟩ hb_ hon hoff
                refine ⟨_, rfl, fun K hK => ?_⟩
                have e143 : a.tmps[143]? = some (.pointer (some ⟨w3_.heap.size, 0, none⟩)) := by rw [ha]; exact putSel_on (e := (10, 143, .pointer (some ⟨w3_.heap.size, 0, none⟩))) 10 rfl rfl (hon 10 (by kernel_rfl)) rfl
                replace ha := Aside0.mk ha
                have K0 := Aside0.mk (Q_K0 (hoff 18 (by kernel_rfl)))
                refine value_ (w1 := w') (v := .pointer (some ⟨w3_.heap.size, 0, none⟩)) (by rfl) rfl ?_ ?_
                · go_simp
                  (try simp only [i64_w])
                  try rfl
                refine hK.out _ _ ⟨(by rw [ha.out]; exact putSel_upk 11 hb_ rfl rfl rfl), Q_K0, fun h0_ _ => absurd ((hoff 18 (by kernel_rfl)).symm.trans h0_) (by decide), fun h0_ => absurd ((hoff 21 (by kernel_rfl)).symm.trans h0_) (by decide)⟩
              refine steps_cons ?_ ?_
              · rintro b a w' ⟨ha, Q_K0, Q_K1, Q_K2⟩ hb_ hon hoff
                refine ⟨_, rfl, fun K hK => ?_⟩
                have e144 : a.tmps[144]? = some (.pointer (some ⟨w3_.heap.size, 0, none⟩)) := by rw [ha]; exact putSel_on (e := (11, 144, .pointer (some ⟨w3_.heap.size, 0, none⟩))) 11 rfl rfl (hon 11 (by kernel_rfl)) rfl
                replace ha := Aside0.mk ha
                have K0 := Aside0.mk (Q_K0 (hoff 18 (by kernel_rfl)))
                refine value_ (w1 := w') (v := .pointer (some ⟨w3_.heap.size, 4, none⟩)) (by rfl) rfl ?_ ?_
                · go_simp
                  (try simp only [i64_w])
                  try rfl
                refine hK.out _ _ ⟨(by rw [ha.out]; exact putSel_upk 12 hb_ rfl rfl rfl), Q_K0, fun h0_ _ => absurd ((hoff 18 (by kernel_rfl)).symm.trans h0_) (by decide), fun h0_ => absurd ((hoff 21 (by kernel_rfl)).symm.trans h0_) (by decide)⟩
              refine steps_cons ?_ ?_
              · rintro b a w' ⟨ha, Q_K0, Q_K1, Q_K2⟩ hb_ hon hoff
                refine ⟨_, rfl, fun K hK => ?_⟩
                have e145 : a.tmps[145]? = some (.pointer (some ⟨w3_.heap.size, 4, none⟩)) := by rw [ha]; exact putSel_on (e := (12, 145, .pointer (some ⟨w3_.heap.size, 4, none⟩))) 12 rfl rfl (hon 12 (by kernel_rfl)) rfl
                replace ha := Aside0.mk ha
                have K0 := Aside0.mk (Q_K0 (hoff 18 (by kernel_rfl)))
                have hs_ := K0.out.cell4
                refine value_ (w1 := w') (v := .int .i64 (botF q m)) (by rfl) rfl ?_ ?_
                · go_simp
                  (try simp only [i64_w])
                  try rfl
                refine hK.out _ _ ⟨(by rw [ha.out]; exact putSel_upk 13 hb_ rfl rfl rfl), Q_K0, fun h0_ _ => absurd ((hoff 18 (by kernel_rfl)).symm.trans h0_) (by decide), fun h0_ => absurd ((hoff 21 (by kernel_rfl)).symm.trans h0_) (by decide)⟩
              refine steps_cons ?_ ?_
              · rintro b a w' ⟨ha, Q_K0, Q_K1, Q_K2⟩ hb_ hon hoff
                refine ⟨_, rfl, fun K hK => ?_⟩
                have e14 : a.tmps[14]? = some (.int .i64 (m : Int)) := by rw [ha]; exact (putSel_off rfl).trans rfl
                replace ha := Aside0.mk ha
                have K0 := Aside0.mk (Q_K0 (hoff 18 (by kernel_rfl)))
                refine value_ (w1 := w') (v := .int .i64 (m : Int)) (by rfl) rfl ?_ ?_
                · go_simp
                  (try simp only [i64_w])
                  try rfl
                refine hK.out _ _ ⟨(by rw [ha.out]; exact putSel_upk 14 hb_ rfl rfl rfl), Q_K0, fun h0_ _ => absurd ((hoff 18 (by kernel_rfl)).symm.trans h0_) (by decide), fun h0_ => absurd ((hoff 21 (by kernel_rfl)).symm.trans h0_) (by decide)⟩
              refine steps_cons ?_ ?_
              · rintro b a w' ⟨ha, Q_K0, Q_K1, Q_K2⟩ hb_ hon hoff
                refine ⟨_, rfl, fun K hK => ?_⟩
                have e142 : a.tmps[142]? = some (.pointer (some ⟨w3_.heap.size, 0, none⟩)) := by rw [ha]; exact putSel_on (e := (9, 142, .pointer (some ⟨w3_.heap.size, 0, none⟩))) 9 rfl rfl (hon 9 (by kernel_rfl)) rfl
                have e146 : a.tmps[146]? = some (.int .i64 (botF q m)) := by rw [ha]; exact putSel_on (e := (13, 146, .int .i64 (botF q m))) 13 rfl rfl (hon 13 (by kernel_rfl)) rfl
                have e147 : a.tmps[147]? = some (.int .i64 (m : Int)) := by rw [ha]; exact putSel_on (e := (14, 147, .int .i64 (m : Int))) 14 rfl rfl (hon 14 (by kernel_rfl)) rfl
                replace ha := Aside0.mk ha
                have K0 := Aside0.mk (Q_K0 (hoff 18 (by kernel_rfl)))
                refine goes_ Try.func56 (by kernel_rfl) rfl #[.pointer (some ⟨w3_.heap.size, 0, none⟩), .int .i64 (botF q m), .int .i64 (m : Int)] (by rfl) rfl rfl (by first | (simp only [List.map_toArray, List.map_cons, List.map_nil, Act.eval, Array.getD_eq_getD_getElem?, Option.getD_some, e142, e146, e147]; done) | (simp only [List.map_toArray, List.map_cons, List.map_nil, Act.eval, Array.getD_eq_getD_getElem?, Option.getD_some, e142, e146, e147]; rfl)) ?_
                have hc_ := lattice_Meet_calls w3_.heap.size q.length (leqF q) (joinF q) (meetF q) (topF q m) (botF q m) (botF q m) (m : Int) w' K0.out.isLat
                rw [← botF_succ] at hc_
                refine hc_.mono ?_
                rintro e_ w1_ ⟨rfl, hd_⟩
                refine ⟨_, rfl, ?_⟩
                refine hK.out _ _ ⟨(by rw [ha.out]; exact putSel_upk 15 hb_ rfl rfl rfl), fun _ => K0.out.drawn hd_, fun h0_ _ => absurd ((hoff 18 (by kernel_rfl)).symm.trans h0_) (by decide), fun h0_ => absurd ((hoff 21 (by kernel_rfl)).symm.trans h0_) (by decide)⟩
              refine steps_cons ?_ ?_
              · rintro b a w' ⟨ha, Q_K0, Q_K1, Q_K2⟩ hb_ hon hoff
                refine ⟨_, rfl, fun K hK => ?_⟩
                have e133 : a.tmps[133]? = some (.pointer (some ⟨w3_.heap.size, 0, none⟩)) := by rw [ha]; exact putSel_on (e := (0, 133, .pointer (some ⟨w3_.heap.size, 0, none⟩))) 0 rfl rfl (hon 0 (by kernel_rfl)) rfl
                replace ha := Aside0.mk ha
                have K0 := Aside0.mk (Q_K0 (hoff 18 (by kernel_rfl)))
                refine value_ (w1 := w') (v := .pointer (some ⟨w3_.heap.size, 0, none⟩)) (by rfl) rfl ?_ ?_
                · go_simp
                  (try simp only [i64_w])
                  try rfl
                refine hK.out _ _ ⟨(by rw [ha.out]; exact putSel_upk 16 hb_ rfl rfl rfl), Q_K0, fun h0_ _ => absurd ((hoff 18 (by kernel_rfl)).symm.trans h0_) (by decide), fun h0_ => absurd ((hoff 21 (by kernel_rfl)).symm.trans h0_) (by decide)⟩
              refine steps_cons ?_ ?_
              · rintro b a w' ⟨ha, Q_K0, Q_K1, Q_K2⟩ hb_ hon hoff
                refine ⟨_, rfl, fun K hK => ?_⟩
                have e149 : a.tmps[149]? = some (.pointer (some ⟨w3_.heap.size, 0, none⟩)) := by rw [ha]; exact putSel_on (e := (16, 149, .pointer (some ⟨w3_.heap.size, 0, none⟩))) 16 rfl rfl (hon 16 (by kernel_rfl)) rfl
                replace ha := Aside0.mk ha
                have K0 := Aside0.mk (Q_K0 (hoff 18 (by kernel_rfl)))
                refine value_ (w1 := w') (v := .pointer (some ⟨w3_.heap.size, 3, none⟩)) (by rfl) rfl ?_ ?_
                · go_simp
                  (try simp only [i64_w])
                  try rfl
                refine hK.out _ _ ⟨(by rw [ha.out]; exact putSel_upk 17 hb_ rfl rfl rfl), Q_K0, fun h0_ _ => absurd ((hoff 18 (by kernel_rfl)).symm.trans h0_) (by decide), fun h0_ => absurd ((hoff 21 (by kernel_rfl)).symm.trans h0_) (by decide)⟩
              refine steps_cons ?_ ?_
              · rintro b a w' ⟨ha, Q_K0, Q_K1, Q_K2⟩ hb_ hon hoff
                refine ⟨_, rfl, fun K hK => ?_⟩
                have e150 : a.tmps[150]? = some (.pointer (some ⟨w3_.heap.size, 3, none⟩)) := by rw [ha]; exact putSel_on (e := (17, 150, .pointer (some ⟨w3_.heap.size, 3, none⟩))) 17 rfl rfl (hon 17 (by kernel_rfl)) rfl
                have e141 : a.tmps[141]? = some (.int .i64 (topF q (m + 1))) := by rw [ha]; exact putSel_on (e := (8, 141, .int .i64 (topF q (m + 1)))) 8 rfl rfl (hon 8 (by kernel_rfl)) rfl
                replace ha := Aside0.mk ha
                have K0 := Aside0.mk (Q_K0 hb_)
                have hs_ := K0.out.cell3
                have hz_ := K0.out.soft 3
                refine skip_ (w1 := (w'.setCell ⟨w3_.heap.size, 3, none⟩ (.int .i64 (topF q (m + 1))))) (by rfl) rfl ?_ ?_
                · go_simp
                  try rfl
                refine hK.out _ _ ⟨(by rw [ha.out]; exact putSel_none (v := undef) rfl), fun h0_ => absurd ((up_self b 18).symm.trans h0_) (by decide), fun _ _ => K0.out.put3 _, fun h0_ => absurd ((hoff 21 (by kernel_rfl)).symm.trans h0_) (by decide)⟩
              refine steps_cons ?_ ?_
              · rintro b a w' ⟨ha, Q_K0, Q_K1, Q_K2⟩ hb_ hon hoff
                refine ⟨_, rfl, fun K hK => ?_⟩
                have e134 : a.tmps[134]? = some (.pointer (some ⟨w3_.heap.size, 0, none⟩)) := by rw [ha]; exact putSel_on (e := (1, 134, .pointer (some ⟨w3_.heap.size, 0, none⟩))) 1 rfl rfl (hon 1 (by kernel_rfl)) rfl
                replace ha := Aside0.mk ha
                have K1 := Aside0.mk (Q_K1 (hon 18 (by kernel_rfl)) (hoff 21 (by kernel_rfl)))
                refine value_ (w1 := w') (v := .pointer (some ⟨w3_.heap.size, 0, none⟩)) (by rfl) rfl ?_ ?_
                · go_simp
                  (try simp only [i64_w])
                  try rfl
                refine hK.out _ _ ⟨(by rw [ha.out]; exact putSel_upk 18 hb_ rfl rfl rfl), fun h0_ => absurd ((hon 18 (by kernel_rfl)).symm.trans h0_) (by decide), Q_K1, fun h0_ => absurd ((hoff 21 (by kernel_rfl)).symm.trans h0_) (by decide)⟩
              refine steps_cons ?_ ?_
              · rintro b a w' ⟨ha, Q_K0, Q_K1, Q_K2⟩ hb_ hon hoff
                refine ⟨_, rfl, fun K hK => ?_⟩
                have e151 : a.tmps[151]? = some (.pointer (some ⟨w3_.heap.size, 0, none⟩)) := by rw [ha]; exact putSel_on (e := (19, 151, .pointer (some ⟨w3_.heap.size, 0, none⟩))) 18 rfl rfl (hon 19 (by kernel_rfl)) rfl
                replace ha := Aside0.mk ha
                have K1 := Aside0.mk (Q_K1 (hon 18 (by kernel_rfl)) (hoff 21 (by kernel_rfl)))
                refine value_ (w1 := w') (v := .pointer (some ⟨w3_.heap.size, 4, none⟩)) (by rfl) rfl ?_ ?_
                · go_simp
                  (try simp only [i64_w])
                  try rfl
                refine hK.out _ _ ⟨(by rw [ha.out]; exact putSel_upk 19 hb_ rfl rfl rfl), fun h0_ => absurd ((hon 18 (by kernel_rfl)).symm.trans h0_) (by decide), Q_K1, fun h0_ => absurd ((hoff 21 (by kernel_rfl)).symm.trans h0_) (by decide)⟩
              refine steps_cons ?_ ?_
              · rintro b a w' ⟨ha, Q_K0, Q_K1, Q_K2⟩ hb_ hon hoff
                refine ⟨_, rfl, fun K hK => ?_⟩
                have e152 : a.tmps[152]? = some (.pointer (some ⟨w3_.heap.size, 4, none⟩)) := by rw [ha]; exact putSel_on (e := (20, 152, .pointer (some ⟨w3_.heap.size, 4, none⟩))) 19 rfl rfl (hon 20 (by kernel_rfl)) rfl
                have e148 : a.tmps[148]? = some (.int .i64 (botF q (m + 1))) := by rw [ha]; exact putSel_on (e := (15, 148, .int .i64 (botF q (m + 1)))) 15 rfl rfl (hon 15 (by kernel_rfl)) rfl
                replace ha := Aside0.mk ha
                have K1 := Aside0.mk (Q_K1 (hon 18 (by kernel_rfl)) hb_)
                have hs_ := K1.out.cell4
                have hz_ := K1.out.soft 4
                refine skip_ (w1 := (w'.setCell ⟨w3_.heap.size, 4, none⟩ (.int .i64 (botF q (m + 1))))) (by rfl) rfl ?_ ?_
                · go_simp
                  try rfl
                refine hK.out _ _ ⟨(by rw [ha.out]; exact putSel_none (v := undef) rfl), fun h0_ => absurd ((hon 18 (by kernel_rfl)).symm.trans h0_) (by decide), fun _ h1_ => absurd ((up_self b 21).symm.trans h1_) (by decide), fun _ => K1.out.put4 _⟩
              exact steps_nil
            · rintro b a w' hall ⟨ha, Q_K0, Q_K1, Q_K2⟩
              clear K0
              have hb0_ := hall 0 (by kernel_rfl)
              have hb1_ := hall 1 (by kernel_rfl)
              have hb2_ := hall 2 (by kernel_rfl)
              have hb3_ := hall 3 (by kernel_rfl)
              have hb4_ := hall 4 (by kernel_rfl)
              have hb5_ := hall 5 (by kernel_rfl)
              have hb6_ := hall 6 (by kernel_rfl)
              have hb7_ := hall 7 (by kernel_rfl)
              have hb8_ := hall 8 (by kernel_rfl)
              have hb9_ := hall 9 (by kernel_rfl)
              have hb10_ := hall 10 (by kernel_rfl)
              have hb11_ := hall 11 (by kernel_rfl)
              have hb12_ := hall 12 (by kernel_rfl)
              have hb13_ := hall 13 (by kernel_rfl)
              have hb14_ := hall 14 (by kernel_rfl)
              have hb15_ := hall 15 (by kernel_rfl)
              have hb16_ := hall 16 (by kernel_rfl)
              have hb17_ := hall 17 (by kernel_rfl)
              have hb18_ := hall 18 (by kernel_rfl)
              have hb19_ := hall 19 (by kernel_rfl)
              have hb20_ := hall 20 (by kernel_rfl)
              have hb21_ := hall 21 (by kernel_rfl)
              subst ha
              simp only [putSel, hb0_, hb1_, hb2_, hb3_, hb4_, hb5_, hb6_, hb7_, hb8_, hb9_, hb10_, hb11_, hb12_, hb13_, hb14_, hb15_, hb16_, hb17_, hb18_, hb19_, hb20_, hb21_, if_true, Act.put, List.setIfInBounds_toArray, List.set_cons_zero, List.set_cons_succ]
              clear Q_K0
              clear Q_K1
              have K2 := Aside0.mk (Q_K2 hb21_)
              clear Q_K2
              clear hall hb0_ hb1_ hb2_ hb3_ hb4_ hb5_ hb6_ hb7_ hb8_ hb9_ hb10_ hb11_ hb12_ hb13_ hb14_ hb15_ hb16_ hb17_ hb18_ hb19_ hb20_ hb21_
              go_wp2
              go_roundw
              case rel => exact ⟨m + 1, by omega, by go_num, ⟨K2.out⟩⟩
              case measure => simp [intOf]; omega
          · obtain rfl : m = q.length := by omega
            go_wp2
            go_ret2
            exact ⟨HK.out.1, .inr ⟨HLT.out, w3_.heap.size, HK.out.2.1, rfl, HK.out⟩⟩
  · have HF : Aside0 (latB q = false) := ⟨by
      rw [HLT.out]
      cases h1 : sqB q <;> cases h2 : reflB q <;> cases h3 : antiB q <;> cases h4 : tranB q <;> simp_all⟩
    clear HLT
    cases h1 : sqB q
    all_goals cases h2 : reflB q
    all_goals cases h3 : antiB q
    all_goals cases h4 : tranB q
    all_goals try (exfalso; exact hall ⟨h1, h2, h3, h4⟩)
    all_goals
      clear hall
      rw [h1] at HSQ
      rw [h2] at HRE
      rw [h3] at HAN
      rw [h4] at HTR
      clear h1 h2 h3 h4
      go_enter Try.func45, Try.ntmps45
      go_wp2_with (first | (go_at_call 26; (with_reducible refine (order_Square.calls (q.length + 1) A c q _ _ ?s1 ?s2 HSQ.out).mono ?_); (case s1 => repeat (first | exact (Kd.C_below HR.out (by repeat (first | (with_reducible first | exact HB.out | apply below_alloc | apply pw_below_drewN | apply below_drew1) | exact HB.out))) | (with_reducible refine Kd.C_alloc ?_ _) | (with_reducible refine Kd.C_drewN ?_ _) | (with_reducible refine Kd.C_drew ?_))); (case s2 => exact HC.out); rintro e w' ⟨rfl, ⟨nd, rfl⟩⟩) | (go_at_call 28; (with_reducible refine (order_Reflexive.calls A c q _ _ ?s1 ?s2 HRE.out).mono ?_); (case s1 => repeat (first | exact (Kd.C_below HR.out (by repeat (first | (with_reducible first | exact HB.out | apply below_alloc | apply pw_below_drewN | apply below_drew1) | exact HB.out))) | (with_reducible refine Kd.C_alloc ?_ _) | (with_reducible refine Kd.C_drewN ?_ _) | (with_reducible refine Kd.C_drew ?_))); (case s2 => exact HC.out); rintro e w3_ ⟨rfl, hb_⟩; have HB3 := Aside0.mk (below_step (by repeat (first | (with_reducible first | exact HB.out | apply below_alloc | apply pw_below_drewN | apply below_drew1) | exact HB.out)) hb_); clear HB hb_; have HB := HB3; clear HB3) | (go_at_call 30; (with_reducible refine (order_Antisymmetric.calls A c q _ _ ?s1 ?s2 HAN.out).mono ?_); (case s1 => repeat (first | exact (Kd.C_below HR.out (by repeat (first | (with_reducible first | exact HB.out | apply below_alloc | apply pw_below_drewN | apply below_drew1) | exact HB.out))) | (with_reducible refine Kd.C_alloc ?_ _) | (with_reducible refine Kd.C_drewN ?_ _) | (with_reducible refine Kd.C_drew ?_))); (case s2 => exact HC.out); rintro e w3_ ⟨rfl, hb_⟩; have HB3 := Aside0.mk (below_step (by repeat (first | (with_reducible first | exact HB.out | apply below_alloc | apply pw_below_drewN | apply below_drew1) | exact HB.out)) hb_); clear HB hb_; have HB := HB3; clear HB3) | (go_at_call 32; (with_reducible refine (order_Transitive.calls A c q _ _ ?s1 ?s2 HTR.out).mono ?_); (case s1 => repeat (first | exact (Kd.C_below HR.out (by repeat (first | (with_reducible first | exact HB.out | apply below_alloc | apply pw_below_drewN | apply below_drew1) | exact HB.out))) | (with_reducible refine Kd.C_alloc ?_ _) | (with_reducible refine Kd.C_drewN ?_ _) | (with_reducible refine Kd.C_drew ?_))); (case s2 => exact HC.out); rintro e w3_ ⟨rfl, hb_⟩; have HB3 := Aside0.mk (below_step (by repeat (first | (with_reducible first | exact HB.out | apply below_alloc | apply pw_below_drewN | apply below_drew1) | exact HB.out)) hb_); clear HB hb_; have HB := HB3; clear HB3))
      repeat (go_quiet (first | (go_at_call 26; (with_reducible refine (order_Square.calls (q.length + 1) A c q _ _ ?s1 ?s2 HSQ.out).mono ?_); (case s1 => repeat (first | exact (Kd.C_below HR.out (by repeat (first | (with_reducible first | exact HB.out | apply below_alloc | apply pw_below_drewN | apply below_drew1) | exact HB.out))) | (with_reducible refine Kd.C_alloc ?_ _) | (with_reducible refine Kd.C_drewN ?_ _) | (with_reducible refine Kd.C_drew ?_))); (case s2 => exact HC.out); rintro e w' ⟨rfl, ⟨nd, rfl⟩⟩) | (go_at_call 28; (with_reducible refine (order_Reflexive.calls A c q _ _ ?s1 ?s2 HRE.out).mono ?_); (case s1 => repeat (first | exact (Kd.C_below HR.out (by repeat (first | (with_reducible first | exact HB.out | apply below_alloc | apply pw_below_drewN | apply below_drew1) | exact HB.out))) | (with_reducible refine Kd.C_alloc ?_ _) | (with_reducible refine Kd.C_drewN ?_ _) | (with_reducible refine Kd.C_drew ?_))); (case s2 => exact HC.out); rintro e w3_ ⟨rfl, hb_⟩; have HB3 := Aside0.mk (below_step (by repeat (first | (with_reducible first | exact HB.out | apply below_alloc | apply pw_below_drewN | apply below_drew1) | exact HB.out)) hb_); clear HB hb_; have HB := HB3; clear HB3) | (go_at_call 30; (with_reducible refine (order_Antisymmetric.calls A c q _ _ ?s1 ?s2 HAN.out).mono ?_); (case s1 => repeat (first | exact (Kd.C_below HR.out (by repeat (first | (with_reducible first | exact HB.out | apply below_alloc | apply pw_below_drewN | apply below_drew1) | exact HB.out))) | (with_reducible refine Kd.C_alloc ?_ _) | (with_reducible refine Kd.C_drewN ?_ _) | (with_reducible refine Kd.C_drew ?_))); (case s2 => exact HC.out); rintro e w3_ ⟨rfl, hb_⟩; have HB3 := Aside0.mk (below_step (by repeat (first | (with_reducible first | exact HB.out | apply below_alloc | apply pw_below_drewN | apply below_drew1) | exact HB.out)) hb_); clear HB hb_; have HB := HB3; clear HB3) | (go_at_call 32; (with_reducible refine (order_Transitive.calls A c q _ _ ?s1 ?s2 HTR.out).mono ?_); (case s1 => repeat (first | exact (Kd.C_below HR.out (by repeat (first | (with_reducible first | exact HB.out | apply below_alloc | apply pw_below_drewN | apply below_drew1) | exact HB.out))) | (with_reducible refine Kd.C_alloc ?_ _) | (with_reducible refine Kd.C_drewN ?_ _) | (with_reducible refine Kd.C_drew ?_))); (case s2 => exact HC.out); rintro e w3_ ⟨rfl, hb_⟩; have HB3 := Aside0.mk (below_step (by repeat (first | (with_reducible first | exact HB.out | apply below_alloc | apply pw_below_drewN | apply below_drew1) | exact HB.out)) hb_); clear HB hb_; have HB := HB3; clear HB3)))
      all_goals (try go_wp2)
      all_goals go_ret2
      all_goals exact ⟨(by repeat (first | (with_reducible first | exact HB.out | apply below_alloc | apply pw_below_drewN | apply below_drew1) | exact HB.out)), .inl ⟨HF.out, rfl⟩⟩
theorem lattice_New_calls (A : Option Addr) (c : Nat) (q : List (List Bool)) (w : World) (hr : Kd.C (Kd.slice 4 Kd.bool) w A q.length q) (hc : q.length ≤ c) (hq : q.length < 4611686018427387904) :
    Calls Try.prog 45 #[.slice A q.length c] w fun e w' => Below w.heap.size w w' ∧
      ((latB q = false ∧ e = .returned (.tuple #[.pointer none, .int .i64 23])) ∨ (latB q = true ∧ ∃ g, w.heap.size ≤ g ∧ e = .returned (.tuple #[.pointer (some ⟨g, 0, none⟩), .int .i64 0]) ∧ IsLat w' g q.length (leqF q) (joinF q) (meetF q) (topF q q.length) (botF q q.length))) := by
  refine (lattice_New_tabs A c q w hr hc hq).mono ?_
  rintro e w' ⟨hB, h⟩
  rcases h with h | ⟨h1, g, hg, he, ht⟩
  · exact ⟨hB, .inl h⟩
  · exact ⟨hB, .inr ⟨h1, g, hg, he, ht.isLat⟩⟩

end Go.Proofs.Ytpeeneaapmmciaa.PLtells
