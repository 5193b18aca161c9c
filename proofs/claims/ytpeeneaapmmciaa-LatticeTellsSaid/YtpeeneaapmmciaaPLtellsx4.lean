-- Printed by wip/tools/oprint.py, a program of this session.
import Derived.Test.YtpeeneaapmmciaaPLtellsx0
import Derived.Test.YtpeeneaapmmciaaPLtellsx1
import Derived.Test.YtpeeneaapmmciaaPLtellsx2
import Derived.Test.YtpeeneaapmmciaaPLtellsx3
namespace Go.Proofs.Ytpeeneaapmmciaa.PLtells
open Go.RowKit Go.Proofs.YtpeeneaapmmciaaW.PrintWords Go.Proofs.YtpeeneaapmmciaaW.PrintLast Go.Proofs.YtpeeneaapmmciaaW.PrintMore
attribute [local go_sem] max2_int min2_int max_two min_two max_three min_three max_four min_four   -- for this text's walks alone
set_option linter.unusedVariables false
set_option linter.unusedSimpArgs false

/-- A state of type 78 at block g of W; what its slices lead to came in by w0. -/
def IsS78 (w0 W : World) (g : Nat) (f0 : List (List Int)) (f1 : List (List Int)) (f2 : List (List Int)) (f3 : Int) (f4 : Int) : Prop := ∃ A0 c0, ∃ A1 c1, ∃ A2 c2, W.heap[g]? = some (.cells #[.slice A0 f0.length c0, .slice A1 f1.length c1, .slice A2 f2.length c2, .int .i64 f3, .int .i64 f4] 78 (0, 0)) ∧ w0.heap.size ≤ g ∧ Kd.C (Kd.slice 3 (Kd.int .i64)) w0 A0 f0.length f0 ∧ Kd.C (Kd.slice 3 (Kd.int .i64)) w0 A1 f1.length f1 ∧ Kd.C (Kd.slice 3 (Kd.int .i64)) w0 A2 f2.length f2
theorem IsS78.grown {w0 W : World} {g : Nat} {f0 : List (List Int)} {f1 : List (List Int)} {f2 : List (List Int)} {f3 : Int} {f4 : Int} {W1 : World} {row : Option Nat} (h : IsS78 w0 W g f0 f1 f2 f3 f4) (hw : W.grownBy W1 row) (hne : some g ≠ row) : IsS78 w0 W1 g f0 f1 f2 f3 f4 := by
  obtain ⟨A0, c0, A1, c1, A2, c2, hb, hg, hr0, hr1, hr2⟩ := h
  exact ⟨A0, c0, A1, c1, A2, c2, blk_grown hb hw hne, hg, hr0, hr1, hr2⟩
theorem IsS78.own_neN {w0 W : World} {g : Nat} {f0 : List (List Int)} {f1 : List (List Int)} {f2 : List (List Int)} {f3 : Int} {f4 : Int} {α : Type} {d : Kd α} {e : Nat} {base : Nat} {ok : Nat → Prop} {v : Value} {xs : List α} (h : IsS78 w0 W g f0 f1 f2 f3 f4) (ho : Kd.N d e W base ok v xs) (ht : e ≠ 78) : some g ≠ v.ownBlock := by
  obtain ⟨A0, c0, A1, c1, A2, c2, hb, hg, hr0, hr1, hr2⟩ := h
  exact Kd.N_ne ho hb ht
theorem IsS78.fresh {w0 W : World} {g : Nat} {f0 : List (List Int)} {f1 : List (List Int)} {f2 : List (List Int)} {f3 : Int} {f4 : Int} (h : IsS78 w0 W g f0 f1 f2 f3 f4) : ∀ k, W.heap.size ≤ k → k ≠ g := by
  obtain ⟨A0, c0, A1, c1, A2, c2, hb, hg, hr0, hr1, hr2⟩ := h
  exact Kd.freshB hb
theorem IsS78.kept {w0 W : World} {g : Nat} {f0 : List (List Int)} {f1 : List (List Int)} {f2 : List (List Int)} {f3 : Int} {f4 : Int} {W1 : World} {S : Nat → Prop} (h : IsS78 w0 W g f0 f1 f2 f3 f4) (hk : Kept W W1 S) (hne : ¬ S g) : IsS78 w0 W1 g f0 f1 f2 f3 f4 := by
  obtain ⟨A0, c0, A1, c1, A2, c2, hb, hg, hr0, hr1, hr2⟩ := h
  exact ⟨A0, c0, A1, c1, A2, c2, blk_kept hb hk hne, hg, hr0, hr1, hr2⟩
theorem IsS78.below {w0 W : World} {g : Nat} {f0 : List (List Int)} {f1 : List (List Int)} {f2 : List (List Int)} {f3 : Int} {f4 : Int} {W1 : World} (h : IsS78 w0 W g f0 f1 f2 f3 f4) (hw : Below W.heap.size W W1) : IsS78 w0 W1 g f0 f1 f2 f3 f4 := h.grown (grown_of_below hw none) (by simp)
theorem IsS78.alloc {w0 W : World} {g : Nat} {f0 : List (List Int)} {f1 : List (List Int)} {f2 : List (List Int)} {f3 : Int} {f4 : Int} (h : IsS78 w0 W g f0 f1 f2 f3 f4) (o : Obj) : IsS78 w0 (W.alloc o) g f0 f1 f2 f3 f4 := h.below (below_alloc (Below.refl _ _) o)
theorem IsS78.drewN {w0 W : World} {g : Nat} {f0 : List (List Int)} {f1 : List (List Int)} {f2 : List (List Int)} {f3 : Int} {f4 : Int} (h : IsS78 w0 W g f0 f1 f2 f3 f4) (m : Nat) : IsS78 w0 (W.drewN m) g f0 f1 f2 f3 f4 := h
theorem IsS78.drew {w0 W : World} {g : Nat} {f0 : List (List Int)} {f1 : List (List Int)} {f2 : List (List Int)} {f3 : Int} {f4 : Int} (h : IsS78 w0 W g f0 f1 f2 f3 f4) : IsS78 w0 W.drew g f0 f1 f2 f3 f4 := h
theorem IsS78.at_ {w0 W : World} {g : Nat} {f0 : List (List Int)} {f1 : List (List Int)} {f2 : List (List Int)} {f3 : Int} {f4 : Int} {w' : World} {m : Nat} (hq : W.drewN m = w') (h : IsS78 w0 W g f0 f1 f2 f3 f4) : IsS78 w0 w' g f0 f1 f2 f3 f4 := by subst hq; exact IsS78.drewN h m
theorem IsS78.apart {w0 W : World} {g : Nat} {f0 : List (List Int)} {f1 : List (List Int)} {f2 : List (List Int)} {f3 : Int} {f4 : Int} {α : Type} {d : Kd α} {e : Nat} {base : Nat} {ok : Nat → Prop} {v : Value} {xs : List α} (h : IsS78 w0 W g f0 f1 f2 f3 f4) (ho : d.R e W base ok v xs) (ht : ∀ q, q ∈ e :: d.E → q ≠ 78) : d.R e W base (fun k => ok k ∧ k ≠ g) v xs := by
  obtain ⟨A0, c0, A1, c1, A2, c2, hb, hg, hr0, hr1, hr2⟩ := h
  exact Kd.R_types ho hb ht
theorem IsS78.own_ne {w0 W : World} {g : Nat} {f0 : List (List Int)} {f1 : List (List Int)} {f2 : List (List Int)} {f3 : Int} {f4 : Int} {α : Type} {d : Kd α} {e : Nat} {base : Nat} {ok : Nat → Prop} {v : Value} {xs : List α} (h : IsS78 w0 W g f0 f1 f2 f3 f4) (ho : d.R e W base ok v xs) (ht : e ≠ 78) : some g ≠ v.ownBlock := by
  obtain ⟨A0, c0, A1, c1, A2, c2, hb, hg, hr0, hr1, hr2⟩ := h
  exact Kd.R_ne ho hb ht
theorem IsS78.apartQ {w0 W : World} {g : Nat} {f0 : List (List Int)} {f1 : List (List Int)} {f2 : List (List Int)} {f3 : Int} {f4 : Int} {α : Type} {d : Kd α} {e : Nat} {base : Nat} {ok : Nat → Prop} {v : Value} {xs : List α} (h : IsS78 w0 W g f0 f1 f2 f3 f4) (ho : d.Q e W base ok v xs) (ht : ∀ q, q ∈ e :: d.E → q ≠ 78) : d.Q e W base (fun k => ok k ∧ k ≠ g) v xs := by
  obtain ⟨A0, c0, A1, c1, A2, c2, hb, hg, hr0, hr1, hr2⟩ := h
  exact Kd.Q_types ho hb ht
theorem IsS78.own_neQ {w0 W : World} {g : Nat} {f0 : List (List Int)} {f1 : List (List Int)} {f2 : List (List Int)} {f3 : Int} {f4 : Int} {α : Type} {d : Kd α} {e : Nat} {base : Nat} {ok : Nat → Prop} {v : Value} {xs : List α} (h : IsS78 w0 W g f0 f1 f2 f3 f4) (ho : d.Q e W base ok v xs) (ht : e ≠ 78) : some g ≠ v.ownBlock := by
  obtain ⟨A0, c0, A1, c1, A2, c2, hb, hg, hr0, hr1, hr2⟩ := h
  exact Kd.Q_ne ho hb ht
theorem IsS78.apartS {w0 W : World} {g : Nat} {f0 : List (List Int)} {f1 : List (List Int)} {f2 : List (List Int)} {f3 : Int} {f4 : Int} {α : Type} {d : Kd α} {e : Nat} {base : Nat} {ok : Nat → Prop} {v : Value} {xs : List α} (h : IsS78 w0 W g f0 f1 f2 f3 f4) (ho : d.S e W base ok v xs) (ht : ∀ q, q ∈ e :: d.E → q ≠ 78) : d.S e W base (fun k => ok k ∧ k ≠ g) v xs := by
  obtain ⟨A0, c0, A1, c1, A2, c2, hb, hg, hr0, hr1, hr2⟩ := h
  exact Kd.S_types ho hb ht
theorem IsS78.own_neS {w0 W : World} {g : Nat} {f0 : List (List Int)} {f1 : List (List Int)} {f2 : List (List Int)} {f3 : Int} {f4 : Int} {α : Type} {d : Kd α} {e : Nat} {base : Nat} {ok : Nat → Prop} {v : Value} {xs : List α} (h : IsS78 w0 W g f0 f1 f2 f3 f4) (ho : d.S e W base ok v xs) (ht : e ≠ 78) : some g ≠ v.ownBlock := by
  obtain ⟨A0, c0, A1, c1, A2, c2, hb, hg, hr0, hr1, hr2⟩ := h
  exact Kd.S_ne ho hb ht
theorem IsS78.lt {w0 W : World} {g : Nat} {f0 : List (List Int)} {f1 : List (List Int)} {f2 : List (List Int)} {f3 : Int} {f4 : Int} (h : IsS78 w0 W g f0 f1 f2 f3 f4) : g < W.heap.size := by
  obtain ⟨A0, c0, A1, c1, A2, c2, hb, hg, hr0, hr1, hr2⟩ := h
  exact blk_lt hb
theorem IsS78.ge {w0 W : World} {g : Nat} {f0 : List (List Int)} {f1 : List (List Int)} {f2 : List (List Int)} {f3 : Int} {f4 : Int} (h : IsS78 w0 W g f0 f1 f2 f3 f4) : w0.heap.size ≤ g := by
  obtain ⟨A0, c0, A1, c1, A2, c2, hb, hg, hr0, hr1, hr2⟩ := h
  exact hg
theorem IsS78.ne_blk {w0 W : World} {g : Nat} {f0 : List (List Int)} {f1 : List (List Int)} {f2 : List (List Int)} {f3 : Int} {f4 : Int} {a : Nat} {cs : Array Value} {t : TypeId} {fr : Nat × Nat} (h : IsS78 w0 W g f0 f1 f2 f3 f4) (hb2 : W.heap[a]? = some (.cells cs t fr)) (ht : t ≠ 78) : g ≠ a := by
  obtain ⟨A0, c0, A1, c1, A2, c2, hb, hg, hr0, hr1, hr2⟩ := h
  rintro rfl
  rw [hb] at hb2
  injection hb2 with hb2
  injection hb2 with _ ht2
  exact ht ht2.symm
theorem IsS78.far {w0 W : World} {g : Nat} {f0 : List (List Int)} {f1 : List (List Int)} {f2 : List (List Int)} {f3 : Int} {f4 : Int} {p : Addr} (h : IsS78 w0 W g f0 f1 f2 f3 f4) (hne : g ≠ p.block) (u : Value) : IsS78 w0 (W.setCell p u) g f0 f1 f2 f3 f4 := by
  obtain ⟨A0, c0, A1, c1, A2, c2, hb, hg, hr0, hr1, hr2⟩ := h
  exact ⟨A0, c0, A1, c1, A2, c2, blk_far hb hne u, hg, hr0, hr1, hr2⟩
theorem cellS78_0 {W : World} {g : Nat} {A0 : Option Addr} {c0 : Nat} {A1 : Option Addr} {c1 : Nat} {A2 : Option Addr} {c2 : Nat} {f0 : List (List Int)} {f1 : List (List Int)} {f2 : List (List Int)} {f3 : Int} {f4 : Int} (h : W.heap[g]? = some (.cells #[.slice A0 f0.length c0, .slice A1 f1.length c1, .slice A2 f2.length c2, .int .i64 f3, .int .i64 f4] 78 (0, 0))) : W.cell? ⟨g, 0, none⟩ = some (.slice A0 f0.length c0) := (blk_cell h 0).trans rfl
theorem cellS78_1 {W : World} {g : Nat} {A0 : Option Addr} {c0 : Nat} {A1 : Option Addr} {c1 : Nat} {A2 : Option Addr} {c2 : Nat} {f0 : List (List Int)} {f1 : List (List Int)} {f2 : List (List Int)} {f3 : Int} {f4 : Int} (h : W.heap[g]? = some (.cells #[.slice A0 f0.length c0, .slice A1 f1.length c1, .slice A2 f2.length c2, .int .i64 f3, .int .i64 f4] 78 (0, 0))) : W.cell? ⟨g, 1, none⟩ = some (.slice A1 f1.length c1) := (blk_cell h 1).trans rfl
theorem cellS78_2 {W : World} {g : Nat} {A0 : Option Addr} {c0 : Nat} {A1 : Option Addr} {c1 : Nat} {A2 : Option Addr} {c2 : Nat} {f0 : List (List Int)} {f1 : List (List Int)} {f2 : List (List Int)} {f3 : Int} {f4 : Int} (h : W.heap[g]? = some (.cells #[.slice A0 f0.length c0, .slice A1 f1.length c1, .slice A2 f2.length c2, .int .i64 f3, .int .i64 f4] 78 (0, 0))) : W.cell? ⟨g, 2, none⟩ = some (.slice A2 f2.length c2) := (blk_cell h 2).trans rfl
theorem cellS78_3 {W : World} {g : Nat} {A0 : Option Addr} {c0 : Nat} {A1 : Option Addr} {c1 : Nat} {A2 : Option Addr} {c2 : Nat} {f0 : List (List Int)} {f1 : List (List Int)} {f2 : List (List Int)} {f3 : Int} {f4 : Int} (h : W.heap[g]? = some (.cells #[.slice A0 f0.length c0, .slice A1 f1.length c1, .slice A2 f2.length c2, .int .i64 f3, .int .i64 f4] 78 (0, 0))) : W.cell? ⟨g, 3, none⟩ = some (.int .i64 f3) := (blk_cell h 3).trans rfl
theorem IsS78.set_3 {w0 W : World} {g : Nat} {f0 : List (List Int)} {f1 : List (List Int)} {f2 : List (List Int)} {f3 : Int} {f4 : Int} (h : IsS78 w0 W g f0 f1 f2 f3 f4) (x : Int) : IsS78 w0 (W.setCell ⟨g, 3, none⟩ (.int .i64 x)) g f0 f1 f2 x f4 := by
  obtain ⟨A0, c0, A1, c1, A2, c2, hb, hg, hr0, hr1, hr2⟩ := h
  exact ⟨A0, c0, A1, c1, A2, c2, by simpa using blk_set hb 3 (.int .i64 x), hg, hr0, hr1, hr2⟩
theorem cellS78_4 {W : World} {g : Nat} {A0 : Option Addr} {c0 : Nat} {A1 : Option Addr} {c1 : Nat} {A2 : Option Addr} {c2 : Nat} {f0 : List (List Int)} {f1 : List (List Int)} {f2 : List (List Int)} {f3 : Int} {f4 : Int} (h : W.heap[g]? = some (.cells #[.slice A0 f0.length c0, .slice A1 f1.length c1, .slice A2 f2.length c2, .int .i64 f3, .int .i64 f4] 78 (0, 0))) : W.cell? ⟨g, 4, none⟩ = some (.int .i64 f4) := (blk_cell h 4).trans rfl
theorem IsS78.set_4 {w0 W : World} {g : Nat} {f0 : List (List Int)} {f1 : List (List Int)} {f2 : List (List Int)} {f3 : Int} {f4 : Int} (h : IsS78 w0 W g f0 f1 f2 f3 f4) (x : Int) : IsS78 w0 (W.setCell ⟨g, 4, none⟩ (.int .i64 x)) g f0 f1 f2 f3 x := by
  obtain ⟨A0, c0, A1, c1, A2, c2, hb, hg, hr0, hr1, hr2⟩ := h
  exact ⟨A0, c0, A1, c1, A2, c2, by simpa using blk_set hb 4 (.int .i64 x), hg, hr0, hr1, hr2⟩
theorem IsS78.new (w0 W : World) (A0 : Option Addr) (c0 : Nat) (A1 : Option Addr) (c1 : Nat) (A2 : Option Addr) (c2 : Nat) (f0 : List (List Int)) (f1 : List (List Int)) (f2 : List (List Int)) (f3 : Int) (f4 : Int) (hB : Below w0.heap.size w0 W) (hr0 : Kd.C (Kd.slice 3 (Kd.int .i64)) w0 A0 f0.length f0) (hr1 : Kd.C (Kd.slice 3 (Kd.int .i64)) w0 A1 f1.length f1) (hr2 : Kd.C (Kd.slice 3 (Kd.int .i64)) w0 A2 f2.length f2) : IsS78 w0 (W.alloc (.cells #[.slice A0 f0.length c0, .slice A1 f1.length c1, .slice A2 f2.length c2, .int .i64 f3, .int .i64 f4] 78)) W.heap.size f0 f1 f2 f3 f4 := ⟨A0, c0, A1, c1, A2, c2, by simpa using heap_alloc_new W _, hB.size, hr0, hr1, hr2⟩

/-! ### lattice_Lattice_Len: function 47 -/
def lattice_Lattice_Len.f (s0_0 : List (List Int)) (s0_1 : List (List Int)) (s0_2 : List (List Int)) (s0_3 : Int) (s0_4 : Int) : Option (Int × Int × Int) := some ((s0_0.length : Int), s0_3, s0_4)
set_option maxHeartbeats 8000000 in
set_option maxRecDepth 100000 in
theorem lattice_Lattice_Len.calls (g : Nat) (s0_0 : List (List Int)) (s0_1 : List (List Int)) (s0_2 : List (List Int)) (s0_3 : Int) (s0_4 : Int) (r1 : Int) (r2 : Int) (r3 : Int) (w0 w : World) (hI : IsS78 w0 w g s0_0 s0_1 s0_2 s0_3 s0_4) (hB : Below w0.heap.size w0 w) (h : lattice_Lattice_Len.f s0_0 s0_1 s0_2 s0_3 s0_4 = some (r1, r2, r3)) :
    Calls Try.prog 47 #[.pointer (some ⟨g, 0, none⟩)] w fun e w' => e = .returned (.int .i64 r1) ∧ IsS78 w0 w' g s0_0 s0_1 s0_2 r2 r3 ∧ Below w0.heap.size w0 w' ∧ KeepBut w w' g none := by
  have HI0 := Aside0.mk hI
  have HK := Aside0.mk (KeepBut.refl w g none)
  have HL := Aside0.mk hB.size
  clear hI
  have HW0 := Aside0.mk hB.size
  have HB := Aside0.mk hB
  clear hB
  have H : (some ((s0_0.length : Int), s0_3, s0_4)) = some (r1, r2, r3) := h
  clear h
  simp only [Option.some.injEq, Prod.mk.injEq] at H
  obtain ⟨rfl, rfl, rfl⟩ := H
  obtain ⟨ASz2_0, cSz2_0, ASz2_1, cSz2_1, ASz2_2, cSz2_2, HGz2, hgz2, HSz2_0, HSz2_1, HSz2_2⟩ := HI0.out
  have hcz2_0 := cellS78_0 HGz2
  have hcz2_1 := cellS78_1 HGz2
  have hcz2_2 := cellS78_2 HGz2
  have hcz2_3 := cellS78_3 HGz2
  have hcz2_4 := cellS78_4 HGz2
  have hfz2_3 := blk_frozen HGz2 3
  have hfz2_4 := blk_frozen HGz2 4
  clear HGz2 hgz2
  go_enter Try.func47, Try.ntmps47
  go_wp2
  go_ret
  exact ⟨by first | rfl | (simp [errW_none, errW_some] <;> rfl) | (simp [*, errW_none, errW_some] <;> rfl), by repeat (first | (with_reducible first | exact HI0.out | apply IsS78.alloc | apply IsS78.drewN | apply IsS78.drew | apply IsS78.set_3 | apply IsS78.set_4) | exact HI0.out), by repeat (first | (with_reducible first | exact HB.out | apply below_alloc | apply pw_below_drewN | apply below_drew1 | refine below_set ?_ (IsS78.ge HI0.out)) | exact HB.out), by repeat (first | (with_reducible first | exact HK.out | apply KeepBut.set_ | apply keep_drewN | apply keep_drew | apply keep_alloc) | exact HK.out)⟩

/-! ### lattice_Lattice_Bottom: function 48 -/
def lattice_Lattice_Bottom.f (s0_0 : List (List Int)) (s0_1 : List (List Int)) (s0_2 : List (List Int)) (s0_3 : Int) (s0_4 : Int) : Option (Int × Int × Int) := some (s0_4, s0_3, s0_4)
set_option maxHeartbeats 8000000 in
set_option maxRecDepth 100000 in
theorem lattice_Lattice_Bottom.calls (g : Nat) (s0_0 : List (List Int)) (s0_1 : List (List Int)) (s0_2 : List (List Int)) (s0_3 : Int) (s0_4 : Int) (r1 : Int) (r2 : Int) (r3 : Int) (w0 w : World) (hI : IsS78 w0 w g s0_0 s0_1 s0_2 s0_3 s0_4) (hB : Below w0.heap.size w0 w) (h : lattice_Lattice_Bottom.f s0_0 s0_1 s0_2 s0_3 s0_4 = some (r1, r2, r3)) :
    Calls Try.prog 48 #[.pointer (some ⟨g, 0, none⟩)] w fun e w' => e = .returned (.int .i64 r1) ∧ IsS78 w0 w' g s0_0 s0_1 s0_2 r2 r3 ∧ Below w0.heap.size w0 w' ∧ KeepBut w w' g none := by
  have HI0 := Aside0.mk hI
  have HK := Aside0.mk (KeepBut.refl w g none)
  have HL := Aside0.mk hB.size
  clear hI
  have HW0 := Aside0.mk hB.size
  have HB := Aside0.mk hB
  clear hB
  have H : (some (s0_4, s0_3, s0_4)) = some (r1, r2, r3) := h
  clear h
  simp only [Option.some.injEq, Prod.mk.injEq] at H
  obtain ⟨rfl, rfl, rfl⟩ := H
  obtain ⟨ASz2_0, cSz2_0, ASz2_1, cSz2_1, ASz2_2, cSz2_2, HGz2, hgz2, HSz2_0, HSz2_1, HSz2_2⟩ := HI0.out
  have hcz2_0 := cellS78_0 HGz2
  have hcz2_1 := cellS78_1 HGz2
  have hcz2_2 := cellS78_2 HGz2
  have hcz2_3 := cellS78_3 HGz2
  have hcz2_4 := cellS78_4 HGz2
  have hfz2_3 := blk_frozen HGz2 3
  have hfz2_4 := blk_frozen HGz2 4
  clear HGz2 hgz2
  go_enter Try.func48, Try.ntmps48
  go_wp2
  go_ret
  exact ⟨by first | rfl | (simp [errW_none, errW_some] <;> rfl) | (simp [*, errW_none, errW_some] <;> rfl), by repeat (first | (with_reducible first | exact HI0.out | apply IsS78.alloc | apply IsS78.drewN | apply IsS78.drew | apply IsS78.set_3 | apply IsS78.set_4) | exact HI0.out), by repeat (first | (with_reducible first | exact HB.out | apply below_alloc | apply pw_below_drewN | apply below_drew1 | refine below_set ?_ (IsS78.ge HI0.out)) | exact HB.out), by repeat (first | (with_reducible first | exact HK.out | apply KeepBut.set_ | apply keep_drewN | apply keep_drew | apply keep_alloc) | exact HK.out)⟩

/-! ### lattice_Lattice_Top: function 50 -/
def lattice_Lattice_Top.f (s0_0 : List (List Int)) (s0_1 : List (List Int)) (s0_2 : List (List Int)) (s0_3 : Int) (s0_4 : Int) : Option (Int × Int × Int) := some (s0_3, s0_3, s0_4)
set_option maxHeartbeats 8000000 in
set_option maxRecDepth 100000 in
theorem lattice_Lattice_Top.calls (g : Nat) (s0_0 : List (List Int)) (s0_1 : List (List Int)) (s0_2 : List (List Int)) (s0_3 : Int) (s0_4 : Int) (r1 : Int) (r2 : Int) (r3 : Int) (w0 w : World) (hI : IsS78 w0 w g s0_0 s0_1 s0_2 s0_3 s0_4) (hB : Below w0.heap.size w0 w) (h : lattice_Lattice_Top.f s0_0 s0_1 s0_2 s0_3 s0_4 = some (r1, r2, r3)) :
    Calls Try.prog 50 #[.pointer (some ⟨g, 0, none⟩)] w fun e w' => e = .returned (.int .i64 r1) ∧ IsS78 w0 w' g s0_0 s0_1 s0_2 r2 r3 ∧ Below w0.heap.size w0 w' ∧ KeepBut w w' g none := by
  have HI0 := Aside0.mk hI
  have HK := Aside0.mk (KeepBut.refl w g none)
  have HL := Aside0.mk hB.size
  clear hI
  have HW0 := Aside0.mk hB.size
  have HB := Aside0.mk hB
  clear hB
  have H : (some (s0_3, s0_3, s0_4)) = some (r1, r2, r3) := h
  clear h
  simp only [Option.some.injEq, Prod.mk.injEq] at H
  obtain ⟨rfl, rfl, rfl⟩ := H
  obtain ⟨ASz2_0, cSz2_0, ASz2_1, cSz2_1, ASz2_2, cSz2_2, HGz2, hgz2, HSz2_0, HSz2_1, HSz2_2⟩ := HI0.out
  have hcz2_0 := cellS78_0 HGz2
  have hcz2_1 := cellS78_1 HGz2
  have hcz2_2 := cellS78_2 HGz2
  have hcz2_3 := cellS78_3 HGz2
  have hcz2_4 := cellS78_4 HGz2
  have hfz2_3 := blk_frozen HGz2 3
  have hfz2_4 := blk_frozen HGz2 4
  clear HGz2 hgz2
  go_enter Try.func50, Try.ntmps50
  go_wp2
  go_ret
  exact ⟨by first | rfl | (simp [errW_none, errW_some] <;> rfl) | (simp [*, errW_none, errW_some] <;> rfl), by repeat (first | (with_reducible first | exact HI0.out | apply IsS78.alloc | apply IsS78.drewN | apply IsS78.drew | apply IsS78.set_3 | apply IsS78.set_4) | exact HI0.out), by repeat (first | (with_reducible first | exact HB.out | apply below_alloc | apply pw_below_drewN | apply below_drew1 | refine below_set ?_ (IsS78.ge HI0.out)) | exact HB.out), by repeat (first | (with_reducible first | exact HK.out | apply KeepBut.set_ | apply keep_drewN | apply keep_drew | apply keep_alloc) | exact HK.out)⟩

-- NOT PRINTED: function 52 (lattice_Lattice_Flows)

-- NOT PRINTED: function 80 (lattice_Lattice_those)

/-! ### lattice_Lattice_Below: function 58 -/
theorem eqlIn_nil {P : Program} (w : World) (d : Nat) (t e : TypeId) (a : Option Addr) (l c : Nat) (h : P.underlying t = some (.slice e)) : (Op.equalIn (d + 1) t (.slice a l c) (.slice none 0 0)).run P w = .ok a.isNone w := by
  cases a <;> simp [Op.equalIn, run_underlying h]
theorem eql_nil {P : Program} (w : World) (t e : TypeId) (a : Option Addr) (l c : Nat) (h : P.underlying t = some (.slice e)) : (binOp .eql t (.slice a l c) (.slice none 0 0)).run P w = .ok (.bool a.isNone) w := by
  simp only [binOp]
  simp [Op.equal, Op.maxDepth, eqlIn_nil w 9999 t e a l c h]
theorem infoB : (Try.prog.info? 4).map (fun i => (i.zero, i.size, i.bytes)) = some (some (.bool false), 1, 1) := by kernel_rfl
theorem infoR : (Try.prog.info? 36).map (fun i => (i.zero, i.size, i.bytes)) = some (some (.slice none 0 0), 1, 24) := by kernel_rfl
theorem lit0 (w : World) : Kd.R Kd.bool 4 (w.alloc (.cells #[] 4)) w.heap.size (fun _ => True) (.slice (some ⟨w.heap.size, 0, none⟩) 0 0) [] :=
  ⟨fun _ _ => trivial, [], World.ownsRow_lit (base := w.heap.size) (e := 4) (size := 1) w #[] 0 (Nat.le_refl _) (by decide) rfl, ⟨rfl, fun i p h => by simp at h⟩⟩
set_option maxHeartbeats 400000 in
theorem slices_Clone_calls (A : Option Addr) (c : Nat) (l : List Bool) (w : World) (hr : Kd.C Kd.bool w A l.length l) (hl : l.length ≤ 4096) :
    Calls Try.prog 84 #[.slice A l.length c] w fun e w' => ∃ v0_ : Value, e = .returned v0_ ∧ Kd.R Kd.bool 4 w' w.heap.size (fun _ => True) v0_ l ∧ Below w.heap.size w w' := by
  have HB := Aside0.mk (Below.refl w.heap.size w)
  have HR := Aside0.mk hr
  cases A with
  | none =>
    obtain rfl : l = [] := by
      cases l with
      | nil => rfl
      | cons x xs =>
        obtain ⟨ad, h, _⟩ := hr.2.2 (by simp)
        cases h
    clear hr
    have hN : ∀ (w : World) (n c : Nat), (binOp .eql 36 (.slice none n c) (.slice none 0 0)).run Try.prog w = .ok (.bool true) w := fun w n c => eql_nil w _ _ _ n c Try.underlying36
    go_enter Try.func84, Try.ntmps84
    go_wp2
    go_ret
    exact ⟨_, rfl, Kd.R_nil _ _ _ _ _, by repeat (first | (with_reducible first | exact HB.out | apply below_alloc | apply pw_below_drewN | apply below_drew1) | exact HB.out)⟩
  | some ad =>
    clear hr
    have hN : ∀ (w : World) (n c : Nat), (binOp .eql 36 (.slice (some ad) n c) (.slice none 0 0)).run Try.prog w = .ok (.bool false) w := fun w n c => eql_nil w _ _ _ n c Try.underlying36
    go_enter Try.func84, Try.ntmps84
    go_wp2_with ((with_reducible refine gate_builtin (b := .append) (xs := #[.tmp 5, .tmp 6]) rfl ?_); at_builtin; (refine Kd.R_append_rows Kd.bool (Rr := fun x cs => cs = [.bool x]) (w0 := w) w.heap.size rfl (.tmp 5) (.tmp 6) 36 4 (.bool false) 1 rfl Try.underlying36 infoB rfl (by decide) (by omega) (.slice (some ⟨w.heap.size, 0, none⟩) 0 0) [] l (some ad) l.length c (fun _ => True) (fun _ => False) rfl rfl ?aO ?aR (fun _ _ h => h) (fun _ h => h.elim) ?aF ?aB ?aS ?aL ?_); (case aF => exact fun _ _ => trivial); (case aB => exact (by repeat (first | (with_reducible first | exact HB.out | apply below_alloc | apply pw_below_drewN | apply below_drew1) | exact HB.out))); (case aS => exact (below_size (by repeat (first | (with_reducible first | exact HB.out | apply below_alloc | apply pw_below_drewN | apply below_drew1) | exact HB.out)))); (case aL => simp; omega); (case aR => exact Kd.C_below HR.out (by repeat (first | (with_reducible first | exact HB.out | apply below_alloc | apply pw_below_drewN | apply below_drew1) | exact HB.out))); (case aO => exact lit0 w); intro v1 w1 ho hb hg hat; have HO := Aside0.mk ho; have HB1 := Aside0.mk hb; clear ho hb hg hat)
    go_ret
    exact ⟨_, rfl, by (with_reducible repeat (first | apply Kd.R_alloc | apply Kd.R_drewN | apply Kd.R_drew)); exact HO.out, by repeat (first | (with_reducible first | exact HB1.out | apply below_alloc | apply pw_below_drewN | apply below_drew1) | exact HB1.out)⟩
set_option maxHeartbeats 400000 in
theorem lattice_those_calls (g n : Nat) (fl fj fm : Nat → Nat → Int) (top bot a : Int) (w : World) (h : IsLat w g n fl fj fm top bot) (hn : n ≤ 4096) :
    Calls Try.prog 80 #[.pointer (some ⟨g, 0, none⟩), .func (.func 52) #[.pointer (some ⟨g, 0, none⟩)] #[], .int .i64 a] w fun e w' => ∃ v0_ : Value, e = .returned v0_ ∧ Kd.R (Kd.int .i64) 3 w' w.heap.size (fun _ => True) v0_ (pick n fun x => latAt n fl x a 0 == 1) ∧ Below w.heap.size w w' := by
  have HI := Aside0.mk h
  have HE := Aside0.mk (enters_of (fid := 52) Try.func52 (by kernel_rfl) (by kernel_rfl))
  have HB := Aside0.mk (Below.refl w.heap.size w)
  obtain ⟨A0, c0, A1, c1, A2, c2, hg, h0, h1, h2, hc0, hc1, hc2⟩ := h
  have hcell : w.cell? ⟨g, 0, none⟩ = some (.slice A0 n c0) := by rw [blk_cell hg]; rfl
  clear hg h0 h1 h2 hc0 hc1 hc2
  generalize hG : (fun x : Int => latAt n fl x a 0 == 1) = G
  have HG := Aside0.mk hG
  clear hG
  go_enter Try.func80, Try.ntmps80
  go_wp2
  go_loopw [7, 14] (fun v i wr => ∃ d : Nat, d ≤ n ∧ i = .int .i64 (d : Int) ∧ Aside0 (Kd.R (Kd.int .i64) 3 wr w.heap.size (fun _ => True) v (pick d G)) ∧ Aside0 (Below w.heap.size w wr)) (fun _ i _ => n - (intOf i).toNat)
  case atStart => exact ⟨0, Nat.zero_le _, rfl, ⟨Kd.R_nil _ _ _ _ _⟩, HB⟩
  case round =>
    clear HB
    obtain ⟨d, hd0, rfl, HO, HB⟩ := hrel
    by_cases hlt : d < n
    · have HC := Aside0.mk (lattice_Flows_calls g n fl fj fm top bot (d : Int) a wr (HI.out.below HB.out))
      have he := HE.out
      unfold Enters at he
      have e1 : (latAt n fl (d : Int) a 0 == 1) = G d := congrFun HG.out (d : Int)
      rw [e1] at HC
      clear e1
      cases hg : G d with
      | true =>
        rw [hg] at HC
        have PY := Aside0.mk (pick_yes d G hg)
        have PL := Aside0.mk (pick_len d G)
        clear hg
        go_wp2_with (first | ((with_reducible refine gate_builtin (b := .append) (xs := #[.tmp 21, .tmp 23]) rfl ?_); at_builtin; refine Kd.R_append (Kd.int .i64) (w0 := w) w.heap.size rfl (.tmp 21) (.tmp 23) 23 3 (.int .i64 0) 8 rfl Try.underlying23 infoI rfl (by decide) (by omega) u7 (pick d G) (d : Int) [.int .i64 (d : Int)] (fun _ => True) (fun _ => False) rfl rfl ?aP (fun _ hk => hk.elim) ?aF ?aO ?aB ?aS ?aL ?_; (case aP => exact rfl); (case aB => exact (by repeat (first | (with_reducible first | exact HB.out | apply below_alloc | apply pw_below_drewN | apply below_drew1) | exact HB.out))); (case aF => exact (fun _ _ => trivial)); (case aO => exact (by (with_reducible repeat (first | apply Kd.R_alloc | apply Kd.R_drewN | apply Kd.R_drew)); exact HO.out)); (case aS => exact (below_size (by repeat (first | (with_reducible first | exact HB.out | apply below_alloc | apply pw_below_drewN | apply below_drew1) | exact HB.out)))); (case aL => have := PL.out; omega); intro v128 w12 ho hb hg hat; rw [← PY.out] at ho; have n0_ := Aside0.mk hb; have n1_ := Aside0.mk ho; clear HB HO; have HB := n0_; have HO := n1_; clear n0_ n1_ ho hb hg hat) | ((with_reducible refine HC.out.mono ?_); rintro e w' ⟨rfl, ⟨nd, rfl⟩⟩; clear HC))
        go_roundw
        case rel => exact ⟨d + 1, by omega, by go_num, ⟨by (with_reducible repeat (first | apply Kd.R_alloc | apply Kd.R_drewN | apply Kd.R_drew)); exact HO.out⟩, ⟨by repeat (first | (with_reducible first | exact HB.out | apply below_alloc | apply pw_below_drewN | apply below_drew1) | exact HB.out)⟩⟩
        case measure => simp [intOf]; omega
      | false =>
        rw [hg] at HC
        have PN := Aside0.mk (pick_no d G hg)
        clear hg
        go_wp2_with ((with_reducible refine HC.out.mono ?_); rintro e w' ⟨rfl, ⟨nd, rfl⟩⟩; clear HC)
        go_roundw
        case rel => exact ⟨d + 1, by omega, by go_num, ⟨by rw [PN.out]; (with_reducible repeat (first | apply Kd.R_alloc | apply Kd.R_drewN | apply Kd.R_drew)); exact HO.out⟩, ⟨by repeat (first | (with_reducible first | exact HB.out | apply below_alloc | apply pw_below_drewN | apply below_drew1) | exact HB.out)⟩⟩
        case measure => simp [intOf]; omega
    · have hdq : d = n := by omega
      subst hdq
      go_wp2
      go_ret
      exact ⟨_, rfl, by (with_reducible repeat (first | apply Kd.R_alloc | apply Kd.R_drewN | apply Kd.R_drew)); exact HO.out, by repeat (first | (with_reducible first | exact HB.out | apply below_alloc | apply pw_below_drewN | apply below_drew1) | exact HB.out)⟩
set_option maxHeartbeats 400000 in
theorem lattice_Below_calls (g n : Nat) (fl fj fm : Nat → Nat → Int) (top bot a : Int) (w : World) (h : IsLat w g n fl fj fm top bot) (hn : n ≤ 4096) :
    Calls Try.prog 58 #[.pointer (some ⟨g, 0, none⟩), .int .i64 a] w fun e w' => ∃ v0_ : Value, e = .returned v0_ ∧ Kd.R (Kd.int .i64) 3 w' w.heap.size (fun _ => True) v0_ (pick n fun x => latAt n fl x a 0 == 1) ∧ Below w.heap.size w w' := by
  have HI := Aside0.mk h
  clear h
  generalize hG : (pick n fun x : Int => latAt n fl x a 0 == 1) = G
  have HG := Aside0.mk hG
  clear hG
  go_enter Try.func58, Try.ntmps58
  go_wp2_with fail
  refine (lattice_those_calls g n fl fj fm top bot a w HI.out hn).mono ?_
  rintro e w' ⟨v, rfl, hR, hB⟩
  rw [HG.out] at hR
  have HR := Aside0.mk hR
  have HB := Aside0.mk hB
  clear hR hB
  go_wp2
  go_ret
  exact ⟨_, rfl, by (with_reducible repeat (first | apply Kd.R_alloc | apply Kd.R_drewN | apply Kd.R_drew)); exact HR.out, by repeat (first | (with_reducible first | exact HB.out | apply below_alloc | apply pw_below_drewN | apply below_drew1) | exact HB.out)⟩

-- NOT PRINTED: function 84 (slices_Clone_bool_bool)

/-! ### lattice_table: function 81 -/
def tabB (m n : Nat) (f : Nat → Nat → Bool) : List (List Bool) := (List.range m).map fun a => (List.range n).map fun b => f a b
theorem tabB_len (m n : Nat) (f : Nat → Nat → Bool) : (tabB m n f).length = m := by simp [tabB]
theorem tabB_succ (m n : Nat) (f : Nat → Nat → Bool) : tabB (m + 1) n f = tabB m n f ++ [(List.range n).map fun b => f m b] := by unfold tabB; rw [List.range_succ, List.map_append]; rfl
def rowB (f : Nat → Nat → Bool) (a b : Nat) : List Bool := (List.range b).map fun y => f a y
theorem rowB_len (f : Nat → Nat → Bool) (a b : Nat) : (rowB f a b).length = b := by simp [rowB]
theorem rowB_succ (f : Nat → Nat → Bool) (a b : Nat) : rowB f a (b + 1) = rowB f a b ++ [f a b] := by unfold rowB; rw [List.range_succ, List.map_append]; rfl
set_option maxHeartbeats 800000 in
theorem lattice_table_calls (n fid : Nat) (f : Nat → Nat → Bool) (w : World) (hn : n ≤ 16) (he : Enters fid)
    (hf : ∀ (a b : Nat) (w' : World), a < n → b < n → Calls Try.prog fid #[.int .i64 (a : Int), .int .i64 (b : Int)] w' fun e w'' => e = .returned (.bool (f a b)) ∧ Drawn0 w' w'') :
    Calls Try.prog 81 #[.int .i64 (n : Int), .func (.func fid) #[] #[]] w fun e w' => ∃ v0_ : Value, e = .returned v0_ ∧ Kd.S (Kd.slice 4 Kd.bool) 36 w' w.heap.size (fun _ => True) v0_ (tabB n n f) ∧ Below w.heap.size w w' := by
  have HB := Aside0.mk (Below.refl w.heap.size w)
  have HE := Aside0.mk he
  have HF := Aside0.mk hf
  clear he hf
  go_enter Try.func81, Try.ntmps81
  go_wp2
  go_loopw [5, 10] (fun v i wr => ∃ a : Nat, a ≤ n ∧ i = .int .i64 (a : Int) ∧ Aside0 (Kd.S (Kd.slice 4 Kd.bool) 36 wr w.heap.size (fun _ => True) v (tabB a n f)) ∧ Aside0 (Below w.heap.size w wr)) (fun _ i _ => n - (intOf i).toNat)
  case atStart => exact ⟨0, Nat.zero_le _, rfl, ⟨Kd.S_nil _ _ _ _ _⟩, HB⟩
  case round =>
    clear HB
    obtain ⟨a, ha, rfl, HO_3, HB⟩ := hrel
    by_cases hlt : a < n
    · go_wp2_with fail
      go_loopw [7, 14] (fun v i wr => ∃ b : Nat, b ≤ n ∧ i = .int .i64 (b : Int) ∧ Aside0 (Kd.S (Kd.slice 4 Kd.bool) 36 wr w.heap.size (fun k_ => some k_ ≠ (v : Value).ownBlock) u5 (tabB a n f)) ∧ Aside0 (Kd.R Kd.bool 4 wr w.heap.size (fun _ => True) v (rowB f a b)) ∧ Aside0 (Below w.heap.size w wr)) (fun _ i _ => n - (intOf i).toNat)
      case atStart => exact ⟨0, Nat.zero_le _, rfl, ⟨Kd.S_mono HO_3.out (fun _ hk => (by simp [Value.ownBlock]))⟩, ⟨Kd.R_nil _ _ _ _ _⟩, HB⟩
      case round =>
        clear HO_3 HB
        obtain ⟨b, hb, rfl, HO_3, HO_5, HB⟩ := hrel
        have HNA := Aside0.mk (rowB_len f a b)
        have HNT := Aside0.mk (tabB_len a n f)
        by_cases hlt2 : b < n
        · have HC := Aside0.mk (HF.out a b)
          have he := HE.out
          unfold Enters at he
          have HS := Aside0.mk (rowB_succ f a b)
          generalize hx : f a b = x at *
          clear hx
          generalize hrow : rowB f a b = row at *
          generalize hrow1 : rowB f a (b + 1) = row1 at *
          go_wp2_with (first | ((with_reducible refine gate_builtin (b := .append) (xs := #[.tmp 17, .tmp 22]) rfl ?_); at_builtin; refine Kd.R_append Kd.bool (w0 := w) w.heap.size rfl (.tmp 17) (.tmp 22) 36 4 (.bool false) 1 rfl Try.underlying36 infoB rfl (by decide) (by omega) u7 row x [.bool x] (fun _ => True) (fun _ => False) rfl rfl ?aP (fun _ hk => hk.elim) ?aF ?aO ?aB ?aS ?aL ?_; (case aP => exact rfl); (case aB => exact (by repeat (first | (with_reducible first | exact HB.out | apply below_alloc | apply pw_below_drewN | apply below_drew1) | exact HB.out))); (case aF => exact (fun _ _ => trivial)); (case aO => exact (by (with_reducible repeat (first | apply Kd.R_alloc | apply Kd.R_drewN | apply Kd.R_drew)); exact HO_5.out)); (case aS => exact (below_size (by repeat (first | (with_reducible first | exact HB.out | apply below_alloc | apply pw_below_drewN | apply below_drew1) | exact HB.out)))); (case aL => have := HNA.out; omega); intro v119 w8 ho hb hg hat; rw [← HS.out] at ho; have n0_ := Aside0.mk (Kd.S_after (ok := (fun _ => True)) (by (with_reducible repeat (first | apply Kd.S_alloc | apply Kd.S_drewN | apply Kd.S_drew)); exact Kd.S_mono HO_3.out (fun _ hk => ⟨trivial, hk⟩)) hg hat); have n1_ := Aside0.mk (hb); have n2_ := Aside0.mk (ho); clear HO_3; clear HB; clear HO_5; have HO_3 := n0_; have HB := n1_; have HO120 := n2_; clear n0_ n1_ n2_; clear ho hb hg hat) | ((with_reducible refine (HC.out _ hlt hlt2).mono ?_); rintro e w' ⟨rfl, ⟨nd, rfl⟩⟩; clear HC))
          go_roundw
          case rel => exact ⟨b + 1, by omega, by go_num, ⟨by (with_reducible repeat (first | apply Kd.S_alloc | apply Kd.S_drewN | apply Kd.S_drew)); exact Kd.S_mono HO_3.out (fun _ hk => hk.2)⟩, ⟨by (with_reducible repeat (first | apply Kd.R_alloc | apply Kd.R_drewN | apply Kd.R_drew)); rw [hrow1]; exact HO120.out⟩, ⟨by repeat (first | (with_reducible first | exact HB.out | apply below_alloc | apply pw_below_drewN | apply below_drew1) | exact HB.out)⟩⟩
          case measure => simp [intOf]; omega
        · obtain rfl : b = n := by omega
          have HT1 := Aside0.mk (tabB_succ a b f)
          obtain ⟨Ar, cr, rfl⟩ := Kd.R_slice HO_5.out
          have HU := Aside0.mk (Kd.R_reads' HO_5.out)
          generalize hrow : rowB f a b = row at *
          generalize htab : tabB a b f = tab at *
          generalize htab1 : tabB (a + 1) b f = tab1 at *
          have HTA : Aside0 (tab1 = tab ++ [row]) := ⟨by rw [HT1.out, ← hrow]; rfl⟩
          clear HT1
          go_wp2_with fail
          refine (slices_Clone_calls Ar cr row _ HU.out.2.2 (by have := HNA.out; omega)).mono ?_
          rintro e w9 ⟨vr, rfl, hR9, hB9⟩
          have HO_31 := Aside0.mk (Kd.S_elder' (Kd.S_mono (ok' := fun _ => True) HO_3.out (fun _ _ => trivial)) (Kd.R_base hR9) hB9)
          have HO_51 := Aside0.mk (Kd.R_lower hR9 (Below.size HB.out))
          have HB1 := Aside0.mk (below_step HB.out hB9)
          clear HO_3 HO_5 HB HU hR9 hB9
          obtain ⟨Ao11, co11, eo11⟩ := Kd.R_slice HO_51.out
          subst eo11
          go_wp2_with ((with_reducible refine gate_builtin (b := .append) (xs := #[.tmp 25, .tmp 28]) rfl ?_); at_builtin; refine Kd.S_append (Kd.slice 4 Kd.bool) (w0 := w) w.heap.size rfl (.tmp 25) (.tmp 28) 32 36 (.slice none 0 0) 24 rfl Try.underlying32 infoR rfl (by decide) (by omega) u5 tab row [.slice Ao11 row.length co11] (fun _ => True) (fun k_ => some k_ = (.slice Ao11 row.length co11 : Value).ownBlock) rfl rfl ?aP (fun k_ hk_ => ((Kd.R_mono (ok' := fun k_ => ((fun _ => True)) k_ ∧ some k_ ≠ (u5 : Value).ownBlock) (Kd.R_apart' (HO_51.out) (Kd.S_typed HO_31.out) (by decide)) (fun k_ hk => ⟨trivial, hk.2⟩))).1 k_ hk_.symm) ?aF ?aO ?aB ?aS ?aL ?_; (case aP => exact Kd.M_row (Kd.R_mono (Kd.R_tight rfl (Kd.R_mono (ok' := fun k_ => ((fun _ => True)) k_ ∧ some k_ ≠ (u5 : Value).ownBlock) (Kd.R_apart' (HO_51.out) (Kd.S_typed HO_31.out) (by decide)) (fun k_ hk => ⟨trivial, hk.2⟩))) (fun _ h_ => h_))); (case aB => exact (by repeat (first | (with_reducible first | exact HB1.out | apply below_alloc | apply pw_below_drewN | apply below_drew1) | exact HB1.out))); (case aF => exact (fun _ _ => trivial)); (case aO => exact (by (with_reducible repeat (first | apply Kd.S_alloc | apply Kd.S_drewN | apply Kd.S_drew)); exact Kd.S_mono HO_31.out (fun k_ hk => ⟨trivial, fun e_ => hk.2 e_⟩))); (case aS => exact (below_size (by repeat (first | (with_reducible first | exact HB1.out | apply below_alloc | apply pw_below_drewN | apply below_drew1) | exact HB1.out)))); (case aL => have := HNT.out; omega); intro v122 w10 ho hb hg hat; rw [← HTA.out] at ho; have n0_ := Aside0.mk (hb); have n1_ := Aside0.mk (ho); clear HB1; clear HO_31; clear HO_51; have HB := n0_; have HO123 := n1_; clear n0_ n1_; clear ho hb hg hat)
          go_roundw
          case rel => exact ⟨a + 1, by omega, by go_num, ⟨by (with_reducible repeat (first | apply Kd.S_alloc | apply Kd.S_drewN | apply Kd.S_drew)); rw [htab1]; exact HO123.out⟩, ⟨by repeat (first | (with_reducible first | exact HB.out | apply below_alloc | apply pw_below_drewN | apply below_drew1) | exact HB.out)⟩⟩
          case measure => simp [intOf]; omega
    · obtain rfl : a = n := by omega
      go_wp2
      go_ret
      exact ⟨_, rfl, by (with_reducible repeat (first | apply Kd.S_alloc | apply Kd.S_drewN | apply Kd.S_drew)); exact HO_3.out, by repeat (first | (with_reducible first | exact HB.out | apply below_alloc | apply pw_below_drewN | apply below_drew1) | exact HB.out)⟩
set_option maxHeartbeats 400000 in
theorem lattice_Chain1_calls (a b : Nat) (w : World) : Calls Try.prog 83 #[.int .i64 (a : Int), .int .i64 (b : Int)] w fun e w' => e = .returned (.bool (decide (a ≤ b))) ∧ Drawn0 w w' := by
  have h : decide ((a : Int) ≤ (b : Int)) = decide (a ≤ b) := by simp
  go_enter Try.func83, Try.ntmps83
  go_wp2
  go_ret
  exact ⟨by rw [← h]; rfl, by repeat (first | exact Drawn0.refl _ | apply Drawn0.step)⟩
set_option maxHeartbeats 400000 in
theorem lattice_Powers1_calls (a b : Nat) (w : World) : Calls Try.prog 82 #[.int .i64 (a : Int), .int .i64 (b : Int)] w fun e w' => e = .returned (.bool (Go.bits .andNot .i64 (a : Int) (b : Int) == 0)) ∧ Drawn0 w w' := by
  go_enter Try.func82, Try.ntmps82
  go_wp2
  go_ret
  exact ⟨rfl, by repeat (first | exact Drawn0.refl _ | apply Drawn0.step)⟩
def chainT (n : Int) : List (List Bool) := if 1 ≤ n ∧ n ≤ 16 then tabB n.toNat n.toNat (fun a b => decide (a ≤ b)) else []
def powersT (n : Int) : List (List Bool) := if 0 ≤ n ∧ n ≤ 4 then tabB (2 ^ n.toNat) (2 ^ n.toNat) (fun a b => Go.bits .andNot .i64 (a : Int) (b : Int) == 0) else []
set_option maxHeartbeats 400000 in
theorem lattice_Chain_calls (n : Int) (w : World) : Calls Try.prog 63 #[.int .i64 n] w fun e w' => ∃ v0_ : Value, e = .returned v0_ ∧ Kd.S (Kd.slice 4 Kd.bool) 36 w' w.heap.size (fun _ => True) v0_ (chainT n) ∧ Below w.heap.size w w' := by
  have HB := Aside0.mk (Below.refl w.heap.size w)
  by_cases h1 : n < 1
  · have hc : chainT n = [] := by unfold chainT; rw [if_neg (by omega)]
    rw [hc]
    clear hc
    go_enter Try.func63, Try.ntmps63
    go_wp2
    go_ret
    exact ⟨_, rfl, Kd.S_nil _ _ _ _ _, by repeat (first | (with_reducible first | exact HB.out | apply below_alloc | apply pw_below_drewN | apply below_drew1) | exact HB.out)⟩
  · by_cases h2 : n > 16
    · have hc : chainT n = [] := by unfold chainT; rw [if_neg (by omega)]
      rw [hc]
      clear hc
      go_enter Try.func63, Try.ntmps63
      go_wp2
      go_ret
      exact ⟨_, rfl, Kd.S_nil _ _ _ _ _, by repeat (first | (with_reducible first | exact HB.out | apply below_alloc | apply pw_below_drewN | apply below_drew1) | exact HB.out)⟩
    · obtain ⟨m, rfl⟩ := Int.eq_ofNat_of_zero_le (by omega : 0 ≤ n)
      have hc : chainT (m : Int) = tabB m m (fun a b => decide (a ≤ b)) := by unfold chainT; rw [if_pos (by omega)]; rfl
      rw [hc]
      clear hc
      have HT := Aside0.mk (lattice_table_calls m 83 (fun a b => decide (a ≤ b)) w (by omega) (enters_of Try.func83 (by kernel_rfl) (by kernel_rfl)) (fun a b w' _ _ => lattice_Chain1_calls a b w'))
      generalize tabB m m (fun a b => decide (a ≤ b)) = T at *
      go_enter Try.func63, Try.ntmps63
      go_wp2_with fail
      refine HT.out.mono ?_
      rintro e w' ⟨v, rfl, hs, hb⟩
      have HS := Aside0.mk hs
      have HB1 := Aside0.mk hb
      clear hs hb HB HT
      go_wp2
      go_ret
      exact ⟨_, rfl, by (with_reducible repeat (first | apply Kd.S_alloc | apply Kd.S_drewN | apply Kd.S_drew)); exact HS.out, by repeat (first | (with_reducible first | exact HB1.out | apply below_alloc | apply pw_below_drewN | apply below_drew1) | exact HB1.out)⟩
set_option maxHeartbeats 400000 in
theorem lattice_Powers_calls (n : Int) (w : World) : Calls Try.prog 61 #[.int .i64 n] w fun e w' => ∃ v0_ : Value, e = .returned v0_ ∧ Kd.S (Kd.slice 4 Kd.bool) 36 w' w.heap.size (fun _ => True) v0_ (powersT n) ∧ Below w.heap.size w w' := by
  have HB := Aside0.mk (Below.refl w.heap.size w)
  by_cases h1 : n < 0
  · have hc : powersT n = [] := by unfold powersT; rw [if_neg (by omega)]
    rw [hc]
    clear hc
    go_enter Try.func61, Try.ntmps61
    go_wp2
    go_ret
    exact ⟨_, rfl, Kd.S_nil _ _ _ _ _, by repeat (first | (with_reducible first | exact HB.out | apply below_alloc | apply pw_below_drewN | apply below_drew1) | exact HB.out)⟩
  · by_cases h2 : n > 4
    · have hc : powersT n = [] := by unfold powersT; rw [if_neg (by omega)]
      rw [hc]
      clear hc
      go_enter Try.func61, Try.ntmps61
      go_wp2
      go_ret
      exact ⟨_, rfl, Kd.S_nil _ _ _ _ _, by repeat (first | (with_reducible first | exact HB.out | apply below_alloc | apply pw_below_drewN | apply below_drew1) | exact HB.out)⟩
    · obtain ⟨m, rfl⟩ := Int.eq_ofNat_of_zero_le (by omega : 0 ≤ n)
      have hm : m ≤ 4 := by omega
      have hp : 2 ^ m ≤ 16 := Nat.le_trans (Nat.pow_le_pow_right (by decide) hm) (by decide)
      have hc : powersT (m : Int) = tabB (2 ^ m) (2 ^ m) (fun a b => Go.bits .andNot .i64 (a : Int) (b : Int) == 0) := by unfold powersT; rw [if_pos (by omega)]; rfl
      rw [hc]
      clear hc
      have HT := Aside0.mk (lattice_table_calls (2 ^ m) 82 (fun a b => Go.bits .andNot .i64 (a : Int) (b : Int) == 0) w hp (enters_of Try.func82 (by kernel_rfl) (by kernel_rfl)) (fun a b w' _ _ => lattice_Powers1_calls a b w'))
      generalize tabB (2 ^ m) (2 ^ m) (fun a b => Go.bits .andNot .i64 (a : Int) (b : Int) == 0) = T at *
      have hm0 : m = 0 ∨ m = 1 ∨ m = 2 ∨ m = 3 ∨ m = 4 := by omega
      clear hp hm h1 h2
      rcases hm0 with rfl | rfl | rfl | rfl | rfl
      all_goals
        go_enter Try.func61, Try.ntmps61
        go_wp2_with fail
        refine HT.out.mono ?_
        rintro e w' ⟨v, rfl, hs, hb⟩
        have HS := Aside0.mk hs
        have HB1 := Aside0.mk hb
        clear hs hb HB HT
        go_wp2
        go_ret
        exact ⟨_, rfl, by (with_reducible repeat (first | apply Kd.S_alloc | apply Kd.S_drewN | apply Kd.S_drew)); exact HS.out, by repeat (first | (with_reducible first | exact HB1.out | apply below_alloc | apply pw_below_drewN | apply below_drew1) | exact HB1.out)⟩

-- NOT PRINTED: function 61 (lattice_Powers)

-- NOT PRINTED: function 63 (lattice_Chain)

/-! ### confidantlaw3_known: function 43 -/
theorem known_facts : ∃ q, powersT 2 = q ∧ q.length = 4 ∧ latB q = true ∧ latAt 4 (joinF q) 1 2 (-1) = 3 ∧ latAt 4 (meetF q) 1 2 (-1) = 0 ∧ botF q 4 = 0 ∧ topF q 4 = 3 ∧ (latAt 4 (leqF q) 1 3 0 == 1) = true ∧ (latAt 4 (leqF q) 1 2 0 == 1) = false ∧ latAt 4 (joinF q) 1 9 (-1) = -1 ∧ (pick 4 fun x => latAt 4 (leqF q) x 1 0 == 1).length = 2 := ⟨powersT 2, rfl, by decide +kernel, by decide +kernel, by decide +kernel, by decide +kernel, by decide +kernel, by decide +kernel, by decide +kernel, by decide +kernel, by decide +kernel, by decide +kernel⟩
theorem known_chain : (chainT 3).length = 3 := by decide +kernel
theorem known_powers : powersT 5 = [] := by decide +kernel
theorem lat_nil : latB [] = false := by decide +kernel
set_option maxRecDepth 100000 in
set_option maxHeartbeats 1600000 in
theorem lattice_known_calls (w : World) : Calls Try.prog 43 #[] w fun e w' => e = .returned (.bool true) ∧ Below w.heap.size w w' := by
  obtain ⟨q, hq, hl, h1, e1, e2, e3, e4, e5, e6, e7, e8⟩ := known_facts
  have hc3 := known_chain
  have hp5 := known_powers
  have HC3 := Aside0.mk hc3
  have HP5 := Aside0.mk hp5
  have HQ := Aside0.mk hq
  have HB := Aside0.mk (Below.refl w.heap.size w)
  clear hc3 hp5 hq
  obtain ⟨n, hn⟩ : ∃ n, n = 4 := ⟨_, rfl⟩
  rw [← hn] at hl e1 e2 e3 e4 e5 e6 e7 e8
  have G := Aside0.mk (And.intro e1 (And.intro e2 (And.intro e3 (And.intro e4 (And.intro e5 (And.intro e6 (And.intro e7 e8)))))))
  have H1 := Aside0.mk h1
  have HLL := Aside0.mk hl
  have HN := Aside0.mk hn
  have hq4 : q.length < 4611686018427387904 := by rw [hl, hn]; decide
  clear e1 e2 e3 e4 e5 e6 e7 e8 h1 hl hn
  go_enter Try.func43, Try.ntmps43
  go_wp2_with fail
  refine (lattice_Powers_calls 2 _).mono ?_
  rw [HQ.out]
  rintro e w1 ⟨v, rfl, hS, hB⟩
  have HB2 := Aside0.mk (below_step (by repeat (first | (with_reducible first | exact HB.out | apply below_alloc | apply pw_below_drewN | apply below_drew1) | exact HB.out)) hB)
  clear HB hB
  have HB := HB2
  clear HB2
  obtain ⟨A, c, rfl, hc, hC⟩ := Kd.S_reads hS
  clear hS
  go_wp2_with fail
  refine (lattice_New_calls A c q _ hC hc hq4).mono ?_
  rintro e w2 ⟨hB, h⟩
  rcases h with ⟨hf, -⟩ | ⟨-, g, hg, rfl, hI⟩
  · rw [H1.out] at hf; cases hf
  rw [HLL.out] at hI
  obtain ⟨e1, e2, e3, e4, e5, e6, e7, e8⟩ := G.out
  clear G
  generalize leqF q = fl at *
  generalize joinF q = fj at *
  generalize meetF q = fm at *
  generalize htop : topF q n = top at *
  generalize hbot : botF q n = bot at *
  have HI := Aside0.mk hI
  have HB2 := Aside0.mk (below_step (by repeat (first | (with_reducible first | exact HB.out | apply below_alloc | apply pw_below_drewN | apply below_drew1) | exact HB.out)) hB)
  have E1 := Aside0.mk e1
  have E2 := Aside0.mk e2
  have E5 := Aside0.mk e5
  have E6 := Aside0.mk e6
  have E7 := Aside0.mk e7
  have E8 := Aside0.mk e8
  clear HB hB hI hC hc hg HQ H1 HLL e1 e2 e5 e6 e7 e8 htop hbot hq4
  have HB := HB2
  clear HB2
  go_wp2_with fail
  refine (lattice_New_calls none 0 [] _ (Kd.S_reads' (Kd.S_nil (Kd.slice 4 Kd.bool) 36 _ 0 (fun _ => True))).2.2 (by decide) (by decide)).mono ?_
  rintro e w3 ⟨hB, h⟩
  rcases h with ⟨-, rfl⟩ | ⟨hf, -⟩
  rotate_left
  · rw [lat_nil] at hf; cases hf
  have HI2 := Aside0.mk (HI.out.below (below_step (by repeat (first | exact Below.refl _ _ | apply below_alloc | apply pw_below_drewN | apply below_drew1)) hB))
  have HB2 := Aside0.mk (below_step (by repeat (first | (with_reducible first | exact HB.out | apply below_alloc | apply pw_below_drewN | apply below_drew1) | exact HB.out)) hB)
  clear HI HB hB
  have HI := HI2
  have HB := HB2
  clear HI2 HB2
  obtain rfl := HN.out
  subst e3
  subst e4
  go_wp2_with fail
  refine (lattice_Len_calls g 4 fl fj fm 3 0  _ (HI.out.below (by repeat (first | exact Below.refl _ _ | apply below_alloc | apply pw_below_drewN | apply below_drew1)))).mono ?_
  rintro e w' ⟨rfl, ⟨nd, rfl⟩⟩
  go_wp2_with fail
  refine (lattice_Join_calls g 4 fl fj fm 3 0 1 2 _ (HI.out.below (by repeat (first | exact Below.refl _ _ | apply below_alloc | apply pw_below_drewN | apply below_drew1)))).mono ?_
  rw [E1.out]
  rintro e w' ⟨rfl, ⟨nd, rfl⟩⟩
  go_wp2_with fail
  refine (lattice_Meet_calls g 4 fl fj fm 3 0 1 2 _ (HI.out.below (by repeat (first | exact Below.refl _ _ | apply below_alloc | apply pw_below_drewN | apply below_drew1)))).mono ?_
  rw [E2.out]
  rintro e w' ⟨rfl, ⟨nd, rfl⟩⟩
  go_wp2_with fail
  refine (lattice_Bottom_calls g 4 fl fj fm 3 0  _ (HI.out.below (by repeat (first | exact Below.refl _ _ | apply below_alloc | apply pw_below_drewN | apply below_drew1)))).mono ?_
  rintro e w' ⟨rfl, ⟨nd, rfl⟩⟩
  go_wp2_with fail
  refine (lattice_Top_calls g 4 fl fj fm 3 0  _ (HI.out.below (by repeat (first | exact Below.refl _ _ | apply below_alloc | apply pw_below_drewN | apply below_drew1)))).mono ?_
  rintro e w' ⟨rfl, ⟨nd, rfl⟩⟩
  go_wp2_with fail
  refine (lattice_Flows_calls g 4 fl fj fm 3 0 1 3 _ (HI.out.below (by repeat (first | exact Below.refl _ _ | apply below_alloc | apply pw_below_drewN | apply below_drew1)))).mono ?_
  rw [E5.out]
  rintro e w' ⟨rfl, ⟨nd, rfl⟩⟩
  go_wp2_with fail
  refine (lattice_Flows_calls g 4 fl fj fm 3 0 1 2 _ (HI.out.below (by repeat (first | exact Below.refl _ _ | apply below_alloc | apply pw_below_drewN | apply below_drew1)))).mono ?_
  rw [E6.out]
  rintro e w' ⟨rfl, ⟨nd, rfl⟩⟩
  go_wp2_with fail
  refine (lattice_Join_calls g 4 fl fj fm 3 0 1 9 _ (HI.out.below (by repeat (first | exact Below.refl _ _ | apply below_alloc | apply pw_below_drewN | apply below_drew1)))).mono ?_
  rw [E7.out]
  rintro e w' ⟨rfl, ⟨nd, rfl⟩⟩
  go_wp2_with fail
  refine (lattice_Below_calls g 4 fl fj fm 3 0 1 _ (HI.out.below (by repeat (first | exact Below.refl _ _ | apply below_alloc | apply pw_below_drewN | apply below_drew1))) (by decide)).mono ?_
  rintro e w4 ⟨v, rfl, hR, hB⟩
  obtain ⟨Ab, cb, rfl⟩ := Kd.R_slice hR
  rw [E8.out]
  clear hR
  have HI2 := Aside0.mk (HI.out.below (below_step (by repeat (first | exact Below.refl _ _ | apply below_alloc | apply pw_below_drewN | apply below_drew1)) hB))
  have HB2 := Aside0.mk (below_step (by repeat (first | (with_reducible first | exact HB.out | apply below_alloc | apply pw_below_drewN | apply below_drew1) | exact HB.out)) hB)
  clear HI HB hB
  have HI := HI2
  have HB := HB2
  clear HI2 HB2
  go_wp2_with fail
  refine (lattice_Chain_calls 3 _).mono ?_
  rintro e w5 ⟨v, rfl, hR, hB⟩
  obtain ⟨Ac, cc, rfl⟩ := Kd.S_slice hR
  rw [HC3.out]
  clear hR
  have HI2 := Aside0.mk (HI.out.below (below_step (by repeat (first | exact Below.refl _ _ | apply below_alloc | apply pw_below_drewN | apply below_drew1)) hB))
  have HB2 := Aside0.mk (below_step (by repeat (first | (with_reducible first | exact HB.out | apply below_alloc | apply pw_below_drewN | apply below_drew1) | exact HB.out)) hB)
  clear HI HB hB
  have HI := HI2
  have HB := HB2
  clear HI2 HB2
  go_wp2_with fail
  refine (lattice_Powers_calls 5 _).mono ?_
  rw [HP5.out]
  rintro e w6 ⟨v, rfl, hR, hB⟩
  obtain ⟨Ap, cp, rfl⟩ := Kd.S_slice hR
  clear hR
  have HI2 := Aside0.mk (HI.out.below (below_step (by repeat (first | exact Below.refl _ _ | apply below_alloc | apply pw_below_drewN | apply below_drew1)) hB))
  have HB2 := Aside0.mk (below_step (by repeat (first | (with_reducible first | exact HB.out | apply below_alloc | apply pw_below_drewN | apply below_drew1) | exact HB.out)) hB)
  clear HI HB hB
  have HI := HI2
  have HB := HB2
  clear HI2 HB2
  go_wp2
  go_ret
  exact ⟨rfl, (by repeat (first | (with_reducible first | exact HB.out | apply below_alloc | apply pw_below_drewN | apply below_drew1) | exact HB.out))⟩

/-! ### confidantref2_Powers: function 62 -/
mutual
def confidantref2_Powers.j0 : Nat → Int → Bool → Option ((List (List Bool)))
  | 0, _, _ => none
  | k + 1, x0, x12 => if x12 = true then (some ([] : List (List Bool))) else (confidantref2_Powers.l0 k x0 ([] : List (List Bool)) 0)
def confidantref2_Powers.l0 : Nat → Int → List (List Bool) → Int → Option ((List (List Bool)))
  | 0, _, _, _ => none
  | k + 1, x0, x3, x4 => if 0 ≤ x0 then (if x4 < (shl .i64 1 x0) then (confidantref2_Powers.l1 k x0 x3 x4 ([] : List Bool) 0) else (some x3)) else (none)
def confidantref2_Powers.l1 : Nat → Int → List (List Bool) → Int → List Bool → Int → Option ((List (List Bool)))
  | 0, _, _, _, _, _ => none
  | k + 1, x0, x3, x4, x5, x6 => if 0 ≤ x0 then (if x6 < (shl .i64 1 x0) then (if x5.length < 140737488355328 then (confidantref2_Powers.l1 k x0 x3 x4 (x5 ++ [((Go.bits .and .i64 x4 x6) == x4)]) (wrap64 (x6 + 1))) else (none)) else (if x3.length < 5864062014805 then (confidantref2_Powers.l0 k x0 (x3 ++ [x5]) (wrap64 (x4 + 1))) else (none))) else (none)
end
def confidantref2_Powers.f (k : Nat) (a0 : Int) : Option ((List (List Bool))) := if a0 < 0 then (confidantref2_Powers.j0 k a0 true) else (confidantref2_Powers.j0 k a0 (decide (a0 > 4)))
theorem confidantref2_Powers.mono_l : ∀ k, (∀ y0 y1, LeO (confidantref2_Powers.j0 k y0 y1) (confidantref2_Powers.j0 (k + 1) y0 y1)) ∧ (∀ y0 y1 y2, LeO (confidantref2_Powers.l0 k y0 y1 y2) (confidantref2_Powers.l0 (k + 1) y0 y1 y2)) ∧ (∀ y0 y1 y2 y3 y4, LeO (confidantref2_Powers.l1 k y0 y1 y2 y3 y4) (confidantref2_Powers.l1 (k + 1) y0 y1 y2 y3 y4))
  | 0 => ⟨fun _ _ r h => by simp [confidantref2_Powers.j0] at h, fun _ _ _ r h => by simp [confidantref2_Powers.l0] at h, fun _ _ _ _ _ r h => by simp [confidantref2_Powers.l1] at h⟩
  | k + 1 => by
    obtain ⟨ih0, ih1, ih2⟩ := confidantref2_Powers.mono_l k
    refine ⟨?_, ?_, ?_⟩
    · intro y0 y1
      unfold confidantref2_Powers.j0
      repeat' first
      | (with_reducible exact ih0 _ _)
      | (with_reducible exact ih1 _ _ _)
      | (with_reducible exact ih2 _ _ _ _ _)
      | (with_reducible exact LeO.refl _)
      | (with_reducible exact LeO.none _)
      | (with_reducible refine LeO.ite ?_ ?_)
      | (with_reducible refine LeO.bind ?_ (fun _ => ?_))
      | exact ih0 _ _
      | exact ih1 _ _ _
      | exact ih2 _ _ _ _ _
      | exact LeO.none _
      | refine LeO.ite ?_ ?_
      | refine LeO.bind ?_ (fun _ => ?_)
    · intro y0 y1 y2
      unfold confidantref2_Powers.l0
      repeat' first
      | (with_reducible exact ih0 _ _)
      | (with_reducible exact ih1 _ _ _)
      | (with_reducible exact ih2 _ _ _ _ _)
      | (with_reducible exact LeO.refl _)
      | (with_reducible exact LeO.none _)
      | (with_reducible refine LeO.ite ?_ ?_)
      | (with_reducible refine LeO.bind ?_ (fun _ => ?_))
      | exact ih0 _ _
      | exact ih1 _ _ _
      | exact ih2 _ _ _ _ _
      | exact LeO.none _
      | refine LeO.ite ?_ ?_
      | refine LeO.bind ?_ (fun _ => ?_)
    · intro y0 y1 y2 y3 y4
      unfold confidantref2_Powers.l1
      repeat' first
      | (with_reducible exact ih0 _ _)
      | (with_reducible exact ih1 _ _ _)
      | (with_reducible exact ih2 _ _ _ _ _)
      | (with_reducible exact LeO.refl _)
      | (with_reducible exact LeO.none _)
      | (with_reducible refine LeO.ite ?_ ?_)
      | (with_reducible refine LeO.bind ?_ (fun _ => ?_))
      | exact ih0 _ _
      | exact ih1 _ _ _
      | exact ih2 _ _ _ _ _
      | exact LeO.none _
      | refine LeO.ite ?_ ?_
      | refine LeO.bind ?_ (fun _ => ?_)
theorem confidantref2_Powers.mono : ∀ a0 k, LeO (confidantref2_Powers.f k a0) (confidantref2_Powers.f (k + 1) a0) := by
  intro a0 k
  obtain ⟨ih0, ih1, ih2⟩ := confidantref2_Powers.mono_l k
  unfold confidantref2_Powers.f
  repeat' first
      | (with_reducible exact ih0 _ _)
      | (with_reducible exact ih1 _ _ _)
      | (with_reducible exact ih2 _ _ _ _ _)
      | (with_reducible exact LeO.refl _)
      | (with_reducible exact LeO.none _)
      | (with_reducible refine LeO.ite ?_ ?_)
      | (with_reducible refine LeO.bind ?_ (fun _ => ?_))
      | exact ih0 _ _
      | exact ih1 _ _ _
      | exact ih2 _ _ _ _ _
      | exact LeO.none _
      | refine LeO.ite ?_ ?_
      | refine LeO.bind ?_ (fun _ => ?_)
set_option maxHeartbeats 8000000 in
set_option maxRecDepth 100000 in
theorem confidantref2_Powers.calls (k : Nat) (a0 : Int) (r : List (List Bool)) (w : World) (h : confidantref2_Powers.f k a0 = some r) :
    Calls Try.prog 62 #[.int .i64 a0] w fun e w' => ∃ v0_ : Value, e = .returned (v0_) ∧ Kd.S (Kd.slice 4 Kd.bool) 36 w' w.heap.size (fun _ => True) v0_ r ∧ Below w.heap.size w w' := by
  have HB := Aside0.mk (Below.refl w.heap.size w)
  have H : (if a0 < 0 then (confidantref2_Powers.j0 k a0 true) else (confidantref2_Powers.j0 k a0 (decide (a0 > 4)))) = some r := h
  clear h
  have HC2 := Aside0.mk H
  clear H
  go_enter Try.func62, Try.ntmps62
  go_upto_region 1 with (fail)
  go_cut [12] (fun v12 wc => ∃ (kq : Nat) (x12_1 : Bool), v12 = .bool x12_1 ∧ Aside0 (confidantref2_Powers.j0 kq a0 x12_1 = some r) ∧ Aside0 (kq ≤ k) ∧ Aside0 (Below w.heap.size w wc))
  case first =>
    have H := HC2.out
    clear HC2
    by_cases c3 : a0 < 0
    · rw [if_pos c3] at H
      have c3b0 : decide (a0 < 0) = true := decide_eq_true c3
      clear c3
      (first | rw [c3b0] | (simp only [i64_w, i32_w]; rw [c3b0]) | skip)
      have H' := Aside0.mk H
      clear H
      go_wp2
      go_meet
      case rel => exact ⟨_, (true), (by first | rfl | (simp; done) | (simp [*]; done)), H', ⟨by first | omega | exact Nat.le_refl _⟩, ⟨by repeat (first | (with_reducible first | exact HB.out | apply below_alloc | apply pw_below_drewN | apply below_drew1) | exact HB.out)⟩⟩
    · rw [if_neg c3] at H
      have c3b0 : decide (a0 < 0) = false := decide_eq_false c3
      clear c3
      (first | rw [c3b0] | (simp only [i64_w, i32_w]; rw [c3b0]) | skip)
      have H' := Aside0.mk H
      clear H
      go_wp2
      go_meet
      case rel => exact ⟨_, (decide (a0 > 4)), (by first | rfl | (simp; done) | (simp [*]; done)), H', ⟨by first | omega | exact Nat.le_refl _⟩, ⟨by repeat (first | (with_reducible first | exact HB.out | apply below_alloc | apply pw_below_drewN | apply below_drew1) | exact HB.out)⟩⟩
  case rest =>
    clear HC2
    try clear p2
    try clear c3
    try clear c3b0
    obtain ⟨kq, x12_1, rfl, HA, HJ1, HB⟩ := hcut
    cases kq with
    | zero => exact absurd HA.out (by simp [confidantref2_Powers.j0])
    | succ kj1 =>
      have H := HA.out
      clear HA
      simp only [confidantref2_Powers.j0] at H
      by_cases c4 : x12_1 = true
      · subst c4
        have H1 : (some ([] : List (List Bool))) = some r := by rw [if_pos rfl] at H; exact H
        clear H
        have H := H1
        clear H1
        obtain rfl := Option.some.inj H
        go_wp2
        go_ret
        exact ⟨_, by first | rfl | (simp [errW_none, errW_some] <;> rfl) | (simp [*, errW_none, errW_some] <;> rfl), by first | exact Kd.S_nil _ _ _ _ _ | exact Kd.N_nil _ _ _ _ _ | exact Kd.V_nil _ _ _ _ _ | exact Kd.Q_nil _ _ _ _ _ | exact Kd.R_nil _ _ _ _ _, by repeat (first | (with_reducible first | exact HB.out | apply below_alloc | apply pw_below_drewN | apply below_drew1) | exact HB.out)⟩
      · replace c4 := Bool.eq_false_iff.mpr c4
        subst c4
        have H1 : (confidantref2_Powers.l0 kj1 a0 ([] : List (List Bool)) 0) = some r := by rw [if_neg (show ¬ (false = true) by decide)] at H; exact H
        clear H
        have H := H1
        clear H1
        have H' := Aside0.mk H
        clear H
        go_wp2
        go_loopg [3, 4] kj1 (fun kq v3 v4 w' => ∃ (x3_2 : List (List Bool)) (x4_2 : Int), v4 = .int .i64 x4_2 ∧ Aside0 (confidantref2_Powers.l0 kq a0 x3_2 x4_2 = some r) ∧ Aside0 (kq ≤ kj1) ∧ Aside0 (Kd.S (Kd.slice 4 Kd.bool) 36 w' w.heap.size (fun _ => True) v3 x3_2) ∧ Aside0 (Below w.heap.size w w'))
        case atStart => exact ⟨(([] : List (List Bool))), (0), (by first | rfl | (simp; done) | (simp [*]; done)), H', ⟨Nat.le_refl _⟩, ⟨by first | exact Kd.S_nil _ _ _ _ _ | exact Kd.N_nil _ _ _ _ _ | exact Kd.V_nil _ _ _ _ _ | exact Kd.Q_nil _ _ _ _ _ | exact Kd.R_nil _ _ _ _ _⟩, ⟨by repeat (first | (with_reducible first | exact HB.out | apply below_alloc | apply pw_below_drewN | apply below_drew1) | exact HB.out)⟩⟩
        case round =>
          clear H'
          try clear p2
          try clear c3
          try clear c3b0
          try clear c4
          try clear p2
          obtain ⟨x3_2, x4_2, rfl, HA, HK2, HO_3, HB⟩ := hrel
          cases gk with
          | zero => exact absurd HA.out (by simp [confidantref2_Powers.l0])
          | succ k2 =>
            have H := HA.out
            clear HA
            simp only [confidantref2_Powers.l0] at H
            by_cases c5 : 0 ≤ a0
            · rw [if_pos c5] at H
              have c5b0 := eq_true c5
              have c5b1 : decide (0 ≤ a0) = true := decide_eq_true c5
              clear c5
              obtain ⟨ji6, hji6⟩ : ∃ j_ : Int, (shl .i64 1 a0) = j_ := ⟨_, rfl⟩
              replace H : (if x4_2 < (ji6) then (confidantref2_Powers.l1 k2 a0 x3_2 x4_2 ([] : List Bool) 0) else (some x3_2)) = some r := by first | (rw [hji6] at H; exact H) | (simp only [hji6] at H ⊢; exact H)
              have hji6_ : (IntKind.i64.wrap (1 * 2 ^ min a0.toNat 64)) = ji6 := hji6
              have hji6z : a0 ≤ 64 → (IntKind.i64.wrap (1 * 2 ^ a0.toNat)) = ji6 := shl_small hji6
              have hji6u : (IntKind.i64.wrap (2 ^ min a0.toNat 64)) = ji6 := by have h_ := hji6_; rw [Int.one_mul] at h_; exact h_
              have hji6v : a0 ≤ 64 → (IntKind.i64.wrap (2 ^ a0.toNat)) = ji6 := fun hle_ => by have h_ := hji6z hle_; rw [Int.one_mul] at h_; exact h_
              have hji6y : (wrap64 (1 * 2 ^ min a0.toNat 64)) = ji6 := (i64_w _).symm.trans hji6_
              have hji6x : a0 ≤ 64 → (wrap64 (1 * 2 ^ a0.toNat)) = ji6 := fun h_ => (i64_w _).symm.trans (hji6z h_)
              by_cases c7 : x4_2 < (ji6)
              · rw [if_pos c7] at H
                have c7b0 : decide (x4_2 < (ji6)) = true := decide_eq_true c7
                clear c7
                have H' := Aside0.mk H
                clear H
                go_wp2
                go_loopg [5, 6] k2 (fun kq v5 v6 w' => ∃ (x5_3 : List Bool) (x6_3 : Int), v6 = .int .i64 x6_3 ∧ Aside0 (confidantref2_Powers.l1 kq a0 x3_2 x4_2 x5_3 x6_3 = some r) ∧ Aside0 (kq ≤ k2) ∧ Aside0 (Kd.S (Kd.slice 4 Kd.bool) 36 w' w.heap.size (fun k_ => some k_ ≠ (v5 : Value).ownBlock) u3 x3_2) ∧ Aside0 (Kd.R Kd.bool 4 w' w.heap.size (fun _ => True) v5 x5_3) ∧ Aside0 (Below w.heap.size w w'))
                case atStart => exact ⟨(([] : List Bool)), (0), (by first | rfl | (simp; done) | (simp [*]; done)), H', ⟨Nat.le_refl _⟩, ⟨by (with_reducible repeat (first | apply Kd.S_alloc | apply Kd.S_drewN | apply Kd.S_drew)); exact Kd.S_mono HO_3.out (fun _ hk => (by simp [Value.ownBlock]))⟩, ⟨by first | exact Kd.R_nil _ _ _ _ _ | exact Kd.N_nil _ _ _ _ _ | exact Kd.V_nil _ _ _ _ _ | exact Kd.Q_nil _ _ _ _ _ | exact Kd.S_nil _ _ _ _ _⟩, ⟨by repeat (first | (with_reducible first | exact HB.out | apply below_alloc | apply pw_below_drewN | apply below_drew1) | exact HB.out)⟩⟩
                case round =>
                  clear H'
                  try clear p2
                  try clear c3
                  try clear c3b0
                  try clear c4
                  try clear c5
                  try clear c5b0
                  try clear c5b1
                  try clear c6
                  try clear p6
                  try clear c7
                  try clear c7b0
                  try clear p2
                  obtain ⟨x5_3, x6_3, rfl, HA, HK3, HO_3, HO_5, HB⟩ := hrel
                  cases gk with
                  | zero => exact absurd HA.out (by simp [confidantref2_Powers.l1])
                  | succ k3 =>
                    have H := HA.out
                    clear HA
                    simp only [confidantref2_Powers.l1] at H
                    by_cases c8 : 0 ≤ a0
                    · rw [if_pos c8] at H
                      have c8b0 := eq_true c8
                      have c8b1 : decide (0 ≤ a0) = true := decide_eq_true c8
                      clear c8
                      replace H : (if x6_3 < (ji6) then (if x5_3.length < 140737488355328 then (confidantref2_Powers.l1 k3 a0 x3_2 x4_2 (x5_3 ++ [((Go.bits .and .i64 x4_2 x6_3) == x4_2)]) (wrap64 (x6_3 + 1))) else (none)) else (if x3_2.length < 5864062014805 then (confidantref2_Powers.l0 k3 a0 (x3_2 ++ [x5_3]) (wrap64 (x4_2 + 1))) else (none))) = some r := by first | (rw [hji6] at H; exact H) | (simp only [hji6] at H ⊢; exact H)
                      by_cases c9 : x6_3 < (ji6)
                      · rw [if_pos c9] at H
                        have c9b0 : decide (x6_3 < (ji6)) = true := decide_eq_true c9
                        clear c9
                        by_cases c10 : x5_3.length < 140737488355328
                        · rw [if_pos c10] at H
                          have LMc10 := Aside0.mk c10
                          clear c10
                          obtain ⟨y111, hy111⟩ : ∃ y_ : List Bool, y_ = (x5_3 ++ [((Go.bits .and .i64 x4_2 x6_3) == x4_2)]) := ⟨_, rfl⟩
                          replace H : (confidantref2_Powers.l1 k3 a0 x3_2 x4_2 y111 (wrap64 (x6_3 + 1))) = some r := by first | (rw [hy111]; with_reducible exact H) | (have H2_ := (Option.bind_some _ _).symm.trans H; rw [hy111]; with_reducible exact H2_) | (have H2_ := (Option.bind_some _ _).symm.trans H; with_reducible exact H2_) | with_reducible exact H | (rw [hy111]; exact H) | exact H
                          have Ny111 := Aside0.mk hy111
                          clear hy111
                          have H' := Aside0.mk H
                          clear H
                          go_wp2_with (first | ((with_reducible refine gate_builtin (b := .append) (xs := #[.tmp 25, .tmp 31]) rfl ?_); at_builtin; refine Kd.R_append Kd.bool (w0 := w) w.heap.size rfl (.tmp 25) (.tmp 31) 36 4 (.bool false) 1 rfl Try.underlying36 info4 rfl (by decide) (by omega) u5 x5_3 ((Go.bits .and .i64 x4_2 x6_3) == x4_2) [.bool ((Go.bits .and .i64 x4_2 x6_3) == x4_2)] (fun _ => True) (fun _ => False) rfl rfl ?aP (fun _ hk => hk.elim) ?aF ?aO ?aB ?aS ?aL ?_; (case aP => exact rfl); (case aB => exact (by repeat (first | (with_reducible first | exact HB.out | apply below_alloc | apply pw_below_drewN | apply below_drew1) | exact HB.out))); (case aF => exact (fun _ _ => trivial)); (case aO => exact (by (with_reducible repeat (first | apply Kd.R_alloc | apply Kd.R_drewN | apply Kd.R_drew)); exact HO_5.out)); (case aS => exact (below_size (by repeat (first | (with_reducible first | exact HB.out | apply below_alloc | apply pw_below_drewN | apply below_drew1) | exact HB.out)))); (case aL => have := LMc10.out; omega); intro v112 w11 ho hb hg hat; rw [← Ny111.out] at ho; have n0_ := Aside0.mk (Kd.S_after (ok := (fun _ => True)) (by (with_reducible repeat (first | apply Kd.S_alloc | apply Kd.S_drewN | apply Kd.S_drew)); exact Kd.S_mono HO_3.out (fun _ hk => ⟨trivial, hk⟩)) hg hat); have n1_ := Aside0.mk (hb); have n2_ := Aside0.mk (ho); clear HO_3; clear HB; clear HO_5; have HO_3 := n0_; have HB := n1_; have HO113 := n2_; clear n0_ n1_ n2_; clear ho hb hg hat))
                          go_roundg k3
                          case measure => have := HJ1.out; have := HK2.out; have := HK3.out; omega
                          case rel => exact ⟨(y111), (wrap64 (x6_3 + 1)), (by first | rfl | (simp; done) | (simp [*]; done)), H', ⟨by have := HJ1.out; have := HK2.out; have := HK3.out; omega⟩, ⟨by (with_reducible repeat (first | apply Kd.S_alloc | apply Kd.S_drewN | apply Kd.S_drew)); exact Kd.S_mono HO_3.out (fun _ hk => hk.2)⟩, ⟨by (with_reducible repeat (first | apply Kd.R_alloc | apply Kd.R_drewN | apply Kd.R_drew)); exact HO113.out⟩, ⟨by repeat (first | (with_reducible first | exact HB.out | apply below_alloc | apply pw_below_drewN | apply below_drew1) | exact HB.out)⟩⟩
                        · rw [if_neg c10] at H
                          exact absurd H (by simp)
                      · rw [if_neg c9] at H
                        have c9b0 : decide (x6_3 < (ji6)) = false := decide_eq_false c9
                        clear c9
                        by_cases c12 : x3_2.length < 5864062014805
                        · rw [if_pos c12] at H
                          have LMc12 := Aside0.mk c12
                          clear c12
                          obtain ⟨y114, hy114⟩ : ∃ y_ : List (List Bool), y_ = (x3_2 ++ [x5_3]) := ⟨_, rfl⟩
                          replace H : (confidantref2_Powers.l0 k3 a0 y114 (wrap64 (x4_2 + 1))) = some r := by first | (rw [hy114]; with_reducible exact H) | (have H2_ := (Option.bind_some _ _).symm.trans H; rw [hy114]; with_reducible exact H2_) | (have H2_ := (Option.bind_some _ _).symm.trans H; with_reducible exact H2_) | with_reducible exact H | (rw [hy114]; exact H) | exact H
                          have Ny114 := Aside0.mk hy114
                          clear hy114
                          have H' := Aside0.mk H
                          clear H
                          obtain ⟨Ao14, co14, eo14⟩ := Kd.R_slice HO_5.out
                          subst eo14
                          go_wp2_with (first | ((with_reducible refine gate_builtin (b := .append) (xs := #[.tmp 33, .tmp 35]) rfl ?_); at_builtin; refine Kd.S_append (Kd.slice 4 Kd.bool) (w0 := w) w.heap.size rfl (.tmp 33) (.tmp 35) 32 36 (.slice none 0 0) 24 rfl Try.underlying32 info36 rfl (by decide) (by omega) u3 x3_2 x5_3 [.slice Ao14 x5_3.length co14] (fun _ => True) (fun k_ => some k_ = (.slice Ao14 x5_3.length co14 : Value).ownBlock) rfl rfl ?aP (fun k_ hk_ => ((Kd.R_mono (ok' := fun k_ => ((fun _ => True)) k_ ∧ some k_ ≠ (u3 : Value).ownBlock) (Kd.R_apart' (HO_5.out) (Kd.S_typed HO_3.out) (by decide)) (fun k_ hk => ⟨trivial, hk.2⟩))).1 k_ hk_.symm) ?aF ?aO ?aB ?aS ?aL ?_; (case aP => exact Kd.M_row (Kd.R_mono (Kd.R_tight rfl (Kd.R_mono (ok' := fun k_ => ((fun _ => True)) k_ ∧ some k_ ≠ (u3 : Value).ownBlock) (Kd.R_apart' (HO_5.out) (Kd.S_typed HO_3.out) (by decide)) (fun k_ hk => ⟨trivial, hk.2⟩))) (fun _ h_ => h_))); (case aB => exact (by repeat (first | (with_reducible first | exact HB.out | apply below_alloc | apply pw_below_drewN | apply below_drew1) | exact HB.out))); (case aF => exact (fun _ _ => trivial)); (case aO => exact (by (with_reducible repeat (first | apply Kd.S_alloc | apply Kd.S_drewN | apply Kd.S_drew)); exact Kd.S_mono HO_3.out (fun k_ hk => ⟨trivial, fun e_ => hk e_⟩))); (case aS => exact (below_size (by repeat (first | (with_reducible first | exact HB.out | apply below_alloc | apply pw_below_drewN | apply below_drew1) | exact HB.out)))); (case aL => have := LMc12.out; omega); intro v115 w13 ho hb hg hat; rw [← Ny114.out] at ho; have n0_ := Aside0.mk (hb); have n1_ := Aside0.mk (ho); clear HB; clear HO_3; clear HO_5; have HB := n0_; have HO116 := n1_; clear n0_ n1_; clear ho hb hg hat))
                          go_roundg k3
                          case measure => have := HJ1.out; have := HK2.out; have := HK3.out; omega
                          case rel => exact ⟨(y114), (wrap64 (x4_2 + 1)), (by first | rfl | (simp; done) | (simp [*]; done)), H', ⟨by have := HJ1.out; have := HK2.out; have := HK3.out; omega⟩, ⟨by (with_reducible repeat (first | apply Kd.S_alloc | apply Kd.S_drewN | apply Kd.S_drew)); exact HO116.out⟩, ⟨by repeat (first | (with_reducible first | exact HB.out | apply below_alloc | apply pw_below_drewN | apply below_drew1) | exact HB.out)⟩⟩
                        · rw [if_neg c12] at H
                          exact absurd H (by simp)
                    · rw [if_neg c8] at H
                      exact absurd H (by simp)
              · rw [if_neg c7] at H
                have c7b0 : decide (x4_2 < (ji6)) = false := decide_eq_false c7
                clear c7
                obtain rfl := Option.some.inj H
                go_wp2
                go_ret
                exact ⟨_, by first | rfl | (simp [errW_none, errW_some] <;> rfl) | (simp only [← hji6]; first | rfl | (simp [errW_none, errW_some] <;> rfl)) | (simp [*, errW_none, errW_some] <;> rfl), by (with_reducible repeat (first | apply Kd.S_alloc | apply Kd.S_drewN | apply Kd.S_drew)); exact HO_3.out, by repeat (first | (with_reducible first | exact HB.out | apply below_alloc | apply pw_below_drewN | apply below_drew1) | exact HB.out)⟩
            · rw [if_neg c5] at H
              exact absurd H (by simp)

end Go.Proofs.Ytpeeneaapmmciaa.PLtells
