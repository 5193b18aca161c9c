/- A small separation logic over the model, part 2: its rules are sound. Conditions: those that each theorem states. -/
import Derived.Test.YtcgjmlapmdbnmaaSlA
import Derived.Deep.AppendSrc
/-! A small separation logic over the model: heaps, walks, regions that draw their order. -/
namespace Go.Sl
open Go
set_option linter.unusedVariables false
set_option linter.unusedSectionVars false
section
variable {P : Program} {ty : TypeId} {H : List HProp} {w0 : World} {K : Value → List HProp → Prop}
/-! slices that are made -/
class EIL (H : List HProp) (P : Program) {T : Type} (E : Enc T) (ps : List (Nat × Value)) (k : Nat) (xs : outParam (List T)) : Prop where
  e : ∀ w, sat w (stars H) → ps.map (fun p => (p.1, p.2.cells)) = (xs.zipIdx k).map (fun p => (p.2, (E.cells p.1).toArray))
  f : ∀ w, sat w (stars H) → ∀ x, x ∈ flat E xs → fl x = true
instance EIL.nil {T : Type} (E : Enc T) (k : Nat) : EIL H P E [] k [] := ⟨fun _ _ => rfl, fun _ _ x hx => by simp [flat] at hx⟩
instance EIL.cons {T : Type} (E : Enc T) (k : Nat) (v : Value) (x : T) (l ps xs) [c : VC H v l] [a : EncI E v x] [b : EIL H P E ps (k + 1) xs] : EIL H P E ((k, v) :: ps) k (x :: xs) :=
  ⟨fun w hw => by simp only [List.map_cons, List.zipIdx_cons, a.c, b.e w hw], fun w hw y hy => by
    simp only [flat, List.flatMap_cons, List.mem_append] at hy
    rcases hy with hy | hy
    · have h1 := (c.c w hw).1
      rw [a.c] at h1
      have h2 : E.cells x = l := by simpa using h1
      rw [h2] at hy
      exact (c.c w hw).2 y hy
    · exact b.f w hw y hy⟩
instance (priority := low) EIL.consV (k : Nat) (v : Value) (ps xs) [a : Fl1 H v] [b : EIL H P eVal ps (k + 1) xs] : EIL H P eVal ((k, v) :: ps) k (v :: xs) :=
  ⟨fun w hw => by simp only [List.map_cons, List.zipIdx_cons, (a.f w hw).2, b.e w hw]; rfl, fun w hw y hy => by
    simp only [flat, List.flatMap_cons, List.mem_append] at hy
    rcases hy with hy | hy
    · simp [eVal] at hy; subst hy; exact (a.f w hw).1
    · exact b.f w hw y hy⟩
theorem fill_row {T : Type} {E : Enc T} : ∀ {xs : List T} {ps : List (Nat × Value)} {k : Nat} {z : Array Value}, ps.map (fun p => (p.1, p.2.cells)) = (xs.zipIdx k).map (fun p => (p.2, (E.cells p.1).toArray)) → (k + xs.length) * E.size ≤ z.size →
    ∃ r, Instr.fill (fun i => some (i * E.size, E.size)) z ps = some r ∧ r.size = z.size ∧ ∀ j, r[j]? = if k * E.size ≤ j ∧ j < (k + xs.length) * E.size then (flat E xs)[j - k * E.size]? else z[j]?
  | [], ps, k, z, h, hz => by
    simp at h; subst h
    exact ⟨z, rfl, rfl, fun j => by rw [if_neg (by simp)]⟩
  | x :: xs, ps, k, z, h, hz => by
    cases ps with
    | nil => simp at h
    | cons p ps =>
      obtain ⟨i, v⟩ := p
      simp only [List.map_cons, List.zipIdx_cons, List.cons.injEq, Prod.mk.injEq] at h
      obtain ⟨⟨rfl, hv⟩, h⟩ := h
      simp only [List.length_cons] at hz
      have e1 : (i + (xs.length + 1)) * E.size = i * E.size + E.size + xs.length * E.size := by rw [Nat.add_mul, Nat.add_mul]; omega
      have hlen : v.cells.size = E.size := by rw [hv]; simp [E.len]
      rw [e1] at hz
      simp only [Instr.fill]
      rw [if_neg (by simp [hlen]; omega)]
      have hfp := fun j => foldl_put (i * E.size) (E.cells x) 0 z j (by rw [E.len]; omega)
      rw [hv, show ((E.cells x).toArray.zipIdx.foldl (fun cs (x : Value × Nat) => match x with | (c, j) => cs.setIfInBounds (i * E.size + j) c) z) = ((E.cells x).zipIdx 0).foldl (fun cs (p : Value × Nat) => cs.setIfInBounds (i * E.size + p.2) p.1) z from by simp]
      obtain ⟨r, h1, h2, h3⟩ := fill_row (z := ((E.cells x).zipIdx 0).foldl (fun cs (p : Value × Nat) => cs.setIfInBounds (i * E.size + p.2) p.1) z) h (by
        rw [(hfp 0).1, show i + 1 + xs.length = i + (xs.length + 1) from by omega, e1]; omega)
      refine ⟨r, h1, by rw [h2, (hfp 0).1], fun j => ?_⟩
      rw [h3 j, (hfp j).2, E.len]
      simp only [List.length_cons, Nat.add_zero, flat, List.flatMap_cons]
      rw [show (i + 1 + xs.length) * E.size = i * E.size + E.size + xs.length * E.size from by rw [Nat.add_mul, Nat.add_mul]; omega, e1, show (i + 1) * E.size = i * E.size + E.size from by rw [Nat.add_mul]; omega]
      by_cases c1 : i * E.size + E.size ≤ j ∧ j < i * E.size + E.size + xs.length * E.size
      · rw [if_pos c1, if_pos (by omega), List.getElem?_append_right (by rw [E.len]; omega), E.len]
        congr 1; omega
      · rw [if_neg c1]
        by_cases c2 : i * E.size ≤ j ∧ j < i * E.size + E.size
        · rw [if_pos c2, if_pos (by omega), List.getElem?_append_left (by rw [E.len]; omega)]
        · rw [if_neg c2, if_neg (by omega)]
theorem Eff.bslice {t e n : Nat} {T : Type} {E : Enc T} {ps : List (Nat × Value)} {xs : List T} {z : List Value} [u : TyU P t (.slice e)] [m : TyE P e E] [hz : ZCells P e z] [x : EIL H P E ps 0 xs] (hn : Nat.beq xs.length n = true) (hb : Nat.ble (n * E.size) 16777216 = true)
    (k : ∀ v, K v (sl E v xs :: H)) : Eff P w0 (.bslice t n ps) ty H K := by
  intro w N hs hn'
  have hn := Nat.eq_of_beq_eq_true hn
  have hb := Nat.le_of_ble_eq_true hb
  subst hn
  obtain ⟨zv, hz1, hz2⟩ := hz.z
  have key : ∀ Z : Array Value, Z.size = xs.length * E.size → ∃ r, Instr.fill (fun i => some (i * E.size, E.size)) Z ps = some r ∧ r.size = xs.length * E.size ∧ ∀ j, j < (flat E xs).length → r[j]? = (flat E xs)[j]? := by
    intro Z hZ
    obtain ⟨r, h1, h2, h3⟩ := fill_row (z := Z) (x.e w hs.2) (by rw [hZ]; simp)
    refine ⟨r, h1, by rw [h2, hZ], fun j hj => ?_⟩
    rw [flat_length] at hj
    rw [h3 j, if_pos (by simp; exact hj)]; simp
  have run : ∃ r : Array Value, ((VOp.bslice t xs.length ps).exec ty).run P w = .ok (.value (.slice (some ⟨w.heap.size, 0, none⟩) xs.length xs.length)) { w with heap := w.heap.push (.cells r e) } ∧ r.size = xs.length * E.size ∧ ∀ j, j < (flat E xs).length → r[j]? = (flat E xs)[j]? := by
    by_cases h0 : xs.length * E.size = 0
    · obtain ⟨r, h1, h2, h3⟩ := key ((Array.range (xs.length * E.size)).map ((#[] : Array Value)[· % (#[] : Array Value).size]!)) (by simp)
      refine ⟨r, exec_v ?_, h2, h3⟩
      unfold Instr.buildSlice
      simp only [run_bind', Sl.run_underlying u.u, Sl.run_sizeOf m.s]
      rw [if_neg (by omega), if_pos h0]
      rw [run_bind', Sl.run_pure]
      simp only []
      rw [h1]; rfl
    · obtain ⟨r, h1, h2, h3⟩ := key ((Array.range (xs.length * E.size)).map (zv.cells[· % zv.cells.size]!)) (by simp)
      refine ⟨r, exec_v ?_, h2, h3⟩
      unfold Instr.buildSlice
      simp only [run_bind', Sl.run_underlying u.u, Sl.run_sizeOf m.s]
      rw [if_neg (by omega), if_neg h0]
      simp only [run_bind', Sl.run_zeroValue hz1, Sl.run_pure]
      rw [h1]; rfl
  obtain ⟨r, h1, h2, h3⟩ := run
  rw [h1]
  refine hn' _ _ _ (k _) ⟨hs.1.push _ rfl, ?_⟩
  have := sat.push (w' := { w with heap := w.heap.push (.cells r e) }) rfl hs.2
  exact this.mono (star_mono (pt_sl rfl (Nat.le_refl _) (by omega) h3 (x.f w hs.2)) (ent.refl _))
/-- A new slice of so many like elements. -/
theorem Eff.mkS {t e nb : Nat} {T : Type} {E : Enc T} {n : Int} {x : T} {z : List Value} [u : TyU P t (.slice e)] [m : TyE P e E] [hz : ZCells P e z] [tb : TyB P e nb] [ec : EncC E x z] (hf : z.all fl = true) (h : 0 ≤ n ∧ n * nb ≤ 140737488355328 ∧ n ≤ 140737488355328)
    (k : ∀ v, K v (sl E v (List.replicate n.toNat x) :: H)) : Eff P w0 (.mkS t (.int .i64 n) (.int .i64 n)) ty H K := by
  intro w N hs hn'
  obtain ⟨h0, hb, hm⟩ := h
  obtain ⟨zv, hz1, hz2⟩ := hz.z
  obtain ⟨i, hi⟩ : ∃ i, P.info? e = some i := by
    cases hi : P.info? e with
    | none => have := tb.b; rw [hi] at this; cases this
    | some i => exact ⟨i, rfl⟩
  have hbi : i.bytes = nb := by have := tb.b; rw [hi] at this; simpa using this
  have hw : IntKind.i64.wrap n = n := wrap_in64 ⟨by omega, by omega⟩
  have hsz : zv.cells.size = E.size := by rw [hz2, ← ec.c]; simp [E.len]
  have h1 : ¬ ((n < 0 || (nb : Int) * n > 2 ^ 48) || n < 0 || n > n) = true := by
    have : (nb : Int) * n = n * nb := Int.mul_comm _ _
    simp only [Bool.or_eq_true, decide_eq_true_eq]; rw [this]; omega
  have run : ∃ c : Array Value, ((VOp.mkS t (.int .i64 n) (.int .i64 n)).exec ty).run P w = .ok (.value (.slice (some ⟨w.heap.size, 0, none⟩) n.toNat n.toNat)) { w with heap := w.heap.push (.cells c e) } ∧ c.size = n.toNat * E.size ∧ ∀ j, j < n.toNat * E.size → c[j]? = zv.cells[j % E.size]? := by
    have hroom : ∀ b, (askRoom b).run P w = .ok () w := fun b => by unfold askRoom; split <;> rfl
    by_cases h2 : n.toNat * E.size = 0
    · refine ⟨(Array.range (n.toNat * E.size)).map ((#[] : Array Value)[· % (#[] : Array Value).size]!), exec_v ?_, by simp, fun j hj => by omega⟩
      unfold Instr.makeSlice
      simp only [run_bind', Sl.run_underlying u.u, asInt, asIntOf, Sl.run_pure, Sl.run_typeInfo hi, hw, hbi]
      rw [if_neg h1]
      simp only [run_bind', hroom, Sl.run_sizeOf m.s]
      rw [if_pos h2]; rfl
    · refine ⟨(Array.range (n.toNat * E.size)).map (zv.cells[· % zv.cells.size]!), exec_v ?_, by simp, fun j hj => ?_⟩
      · unfold Instr.makeSlice
        simp only [run_bind', Sl.run_underlying u.u, asInt, asIntOf, Sl.run_pure, Sl.run_typeInfo hi, hw, hbi]
        rw [if_neg h1]
        simp only [run_bind', hroom, Sl.run_sizeOf m.s]
        rw [if_neg h2]
        simp only [run_bind', Sl.run_zeroValue hz1]; rfl
      rw [Array.getElem?_map, Array.getElem?_range, if_pos hj]
      have hpos : 0 < E.size := by
        rcases Nat.eq_zero_or_pos E.size with h | h
        · rw [h] at h2; simp at h2
        · exact h
      have hlt : j % zv.cells.size < zv.cells.size := by rw [hsz]; exact Nat.mod_lt _ hpos
      simp only [Option.map_some]
      rw [hsz] at hlt ⊢
      rw [Array.getElem?_eq_getElem (by rw [hsz]; exact hlt), getElem!_pos _ _ (by rw [hsz]; exact hlt)]
  obtain ⟨c, h3, h4, h5⟩ := run
  rw [h3]
  refine hn' _ _ _ (k _) ⟨hs.1.push _ rfl, ?_⟩
  refine (sat.push (w' := { w with heap := w.heap.push (.cells c e) }) rfl hs.2).mono (star_mono (pt_sl (by simp) (Nat.le_refl _) (by omega) (fun j hj => ?_) (fun y hy => ?_)) (ent.refl _))
  · have hrep : ∀ (m j : Nat), j < m * E.size → (flat E (List.replicate m x))[j]? = (E.cells x)[j % E.size]? := by
      intro m
      induction m with
      | zero => intro j hj; omega
      | succ m ih =>
        intro j hj
        rw [Nat.add_mul] at hj
        simp only [List.replicate_succ, flat, List.flatMap_cons] at ih ⊢
        by_cases hj2 : j < E.size
        · rw [List.getElem?_append_left (by rw [E.len]; exact hj2), Nat.mod_eq_of_lt hj2]
        · rw [List.getElem?_append_right (by rw [E.len]; omega), E.len, ih _ (by omega)]
          congr 1
          exact (Nat.mod_eq_sub_mod (by omega)).symm
    rw [flat_length, List.length_replicate] at hj
    rw [h5 j hj, hrep _ j hj, hz2, ec.c]; simp
  · have : y ∈ z := by
      simp only [flat, List.mem_flatMap, List.mem_replicate] at hy
      obtain ⟨a, ⟨_, rfl⟩, h⟩ := hy
      rw [ec.c] at h; exact h
    exact List.all_eq_true.1 hf y this
/-! append -/
theorem run_firstCells {w : World} {T : Type} {E : Enc T} {v : Value} {xs : List T} (h : SlIn w E v xs) : (Builtin.firstCells E.size xs.length v).run P w = .ok (flat E xs).toArray w := by
  rcases h with ⟨⟨a0, rfl⟩, rfl⟩ | ⟨b, off, cap, c, ty, fz, rfl, h2, h3, h4⟩
  · cases a0 with
    | none => rfl
    | some a0 => simp [Builtin.firstCells, loadCells, loadCellsFrom, flat, run_pure]
  · simp only [Builtin.firstCells, loadCells]
    rw [run_loadCells h3 (xs.length * E.size) 0 off #[] (flat E xs) (flat_length E xs) (fun j hj => by rw [← flat_length E xs] at hj; simpa using h4 j hj)]
    simp
theorem run_lenOf {w : World} {T : Type} {E : Enc T} {v : Value} {xs : List T} (h : SlIn w E v xs) : (Builtin.lenOf v).run P w = .ok xs.length w := by
  rcases h with ⟨⟨a0, rfl⟩, rfl⟩ | ⟨b, off, cap, c, ty, fz, rfl, h2, h3, h4⟩ <;> rfl
theorem ncap_le (need cap : Nat) (h : cap < need) : Builtin.nextslicecap need cap ≤ 2 * need := by
  unfold Builtin.nextslicecap
  split
  · omega
  · split
    · omega
    · have : ∀ r c, 256 ≤ c → c ≤ need → Builtin.growBy need r c ≤ 2 * need := by
        intro r
        induction r with
        | zero => intro c h0 hc; simp [Builtin.growBy]; omega
        | succ r ih =>
          intro c h0 hc
          simp only [Builtin.growBy]
          split
          · omega
          · by_cases h1 : c + (c + 768) / 4 ≤ need
            · exact ih _ (by omega) h1
            · have h2 : Builtin.growBy need r (c + (c + 768) / 4) = c + (c + 768) / 4 := by
                cases r with
                | zero => rfl
                | succ r => simp only [Builtin.growBy]; rw [if_pos (by omega)]
              rw [h2]
              omega
      exact this _ _ (by omega) (by omega)
theorem fl_one (v : Value) : v.oneCell' = fl v := by cases v <;> rfl
theorem SlIn.heap {w w' : World} {T : Type} {E : Enc T} {v : Value} {xs : List T} (e : w'.heap = w.heap) (h : SlIn w E v xs) : SlIn w' E v xs := by
  rcases h with h | ⟨b, off, cap, c, ty, fz, rfl, h2, h3, h4⟩
  · exact .inl h
  · exact .inr ⟨b, off, cap, c, ty, fz, rfl, h2, by rw [e]; exact h3, h4⟩
/-- One slice's elements behind another's. -/
theorem Eff.append_ {t t' e e' : Nat} {cs : Array Bool} {T : Type} {E : Enc T} {v u : Value} {xs ys : List T} {z : List Value} {nb : Nat} {H' : List HProp} [tu : TyU P t (.slice e)] [tu' : TyU P t' (.slice e')] [m : TyE P e E] [hz : ZCells P e z] [tb : TyB P e nb]
    (tk : went (stars H) (star (sl E v xs) (stars H'))) (hy : ∀ w, sat w (stars H) → SlIn w E u ys ∧ ∀ x, x ∈ flat E ys → fl x = true) (hz' : Nat.beq z.length E.size = true) (hb : (xs.length + ys.length) * nb ≤ 140737488355328 ∧ xs.length + ys.length ≤ 140737488355328) (k : ∀ v', K v' (sl E v' (xs ++ ys) :: H')) : Eff P w0 (.bi .append #[t, t'] cs [v, u]) ty H K := by
  intro w N hs hn
  have hsat := hs.2.went tk
  obtain ⟨hsy, hfy⟩ := hy w hs.2
  have hsx := slB_in hsat.left
  obtain ⟨zv, hz1, hz2⟩ := hz.z
  have hzl := Nat.eq_of_beq_eq_true hz'
  obtain ⟨i, hi⟩ : ∃ i, P.info? e = some i := by
    cases hi : P.info? e with
    | none => have := tb.b; rw [hi] at this; cases this
    | some i => exact ⟨i, rfl⟩
  have hbi : i.bytes = nb := by have := tb.b; rw [hi] at this; simpa using this
  have hsi : i.size = E.size := by have := m.s.s; rw [hi] at this; simpa using this
  have hzi : i.zero = some zv := by have := hz1.z; rw [hi] at this; simpa using this
  have src : Src P i.size t' u ys.length (flat E ys) w :=
    ⟨.inl ⟨_, tu'.u⟩, fun w' => by rcases hsy with ⟨⟨a0, rfl⟩, rfl⟩ | ⟨_, _, _, _, _, _, rfl, _⟩ <;> rfl, by rw [hsi]; exact run_firstCells hsy, by rw [hsi]; exact run_firstCells (hsy.heap rfl), by rw [hsi]; exact flat_length E ys, fun x hx => by rw [fl_one]; exact hfy x hx⟩
  obtain ⟨f0, hle, f, g, hok, rfl, hA, hG⟩ := hsat
  -- there is room, or there is none
  have parts : ∀ (base : Option Addr) (cap : Nat), v = .slice base xs.length cap → cap < xs.length + ys.length → Upon P (((VOp.bi .append #[t, t'] cs [v, u]).exec ty).run P w) N := by
    rintro base cap rfl hg
    have hnc := ncap_le (xs.length + ys.length) cap hg
    have h48 : Builtin.nextslicecap (xs.length + ys.length) cap * i.bytes ≤ 281474976710656 := by
      rw [hbi]
      have := Nat.mul_le_mul_right nb hnc
      rw [Nat.mul_assoc] at this; omega
    have hold : (Builtin.firstCells i.size xs.length (.slice base xs.length cap)).run P w.drew = .ok (flat E xs).toArray w.drew := by rw [hsi]; exact run_firstCells (hsx.heap rfl)
    have hrun := run_append_grow_src (P := P) w t t' ty e i zv tu.u hi hzi base xs.length cap (flat E xs) hold u ys.length (flat E ys) src hg (by omega) h48
    have : ((VOp.bi .append #[t, t'] cs [.slice base xs.length cap, u]).exec ty).run P w = _ := exec_v hrun
    rw [this]
    have hgc := grownCap_ge w (xs.length + ys.length) cap e
    generalize grownCap w (xs.length + ys.length) cap e = gc at hgc
    refine hn _ _ _ (k _) ⟨Ext.trans hs.1 ⟨rfl, rfl, rfl, by simp⟩, ?_⟩
    have hG' : sat w.drew (stars H') := ⟨g, fun b r o h => hle b r o (Hp.add_right hok h), hG⟩
    have hp := sat.push (w' := w.drew.alloc (.cells ((flat E xs ++ flat E ys).toArray ++ Builtin.zeroCells zv.cells (gc - (xs.length + ys.length))) e)) rfl hG'
    refine hp.mono (star_mono ?_ (ent.refl _))
    have hlen : (flat E (xs ++ ys)).length = (xs.length + ys.length) * E.size := by rw [flat_length]; simp
    have hfe := flat_append E xs ys
    refine pt_sl (b := w.drew.heap.size) (by simp) hgc ?_ (fun j hj => ?_) ?_
    · have h1 : (Builtin.zeroCells zv.cells (gc - (xs.length + ys.length))).size = (gc - (xs.length + ys.length)) * E.size := by rw [size_zeroCells, hz2]; simp [hzl]
      have h2 : ((flat E xs ++ flat E ys).toArray ++ Builtin.zeroCells zv.cells (gc - (xs.length + ys.length))).size = (xs.length + ys.length) * E.size + (gc - (xs.length + ys.length)) * E.size := by
        rw [Array.size_append, h1, ← hfe]; simp only [List.size_toArray, hlen]
      rw [h2, ← Nat.add_mul]
      exact Nat.mul_le_mul_right _ (by omega)
    · rw [← hfe] ; rw [Array.getElem?_append_left (by simpa using hj)]; simp
    · intro x hx
      rw [hfe] at hx
      rcases List.mem_append.1 hx with h | h
      · rcases hA with ⟨_, rfl⟩ | ⟨_, _, _, _, _, _, _, _, _, _, hf⟩
        · simp [flat] at h
        · exact hf x h
      · exact hfy x h
  rcases hA with ⟨⟨a0, rfl⟩, rfl⟩ | ⟨b, off, cap, c, tyb, rfl, h2, h3, h4, h5, h6⟩
  · by_cases h0 : ys.length = 0
    · have : ys = [] := List.length_eq_zero_iff.1 h0
      subst this
      have hrun : (Builtin.append_ #[t, t'] ty #[.slice a0 0 0, u]).run P w = .ok (.slice a0 0 0) w := by
        have h1 := src.len
        have h2 : (Builtin.firstCells i.size 0 u).run P w = .ok #[] w := by simpa [flat] using src.cells
        cases a0 <;> simp [Builtin.append_, Sl.run_underlying tu.u, Sl.run_underlying tu'.u, sizeOf, typeInfo, hi, h1, h2, storeCells, run_pure]
      have : ((VOp.bi .append #[t, t'] cs [.slice a0 0 0, u]).exec ty).run P w = _ := exec_v hrun
      rw [this]
      refine hn _ _ _ (k _) ⟨hs.1, ?_⟩
      exact sat.mono (sl_nil E _) ⟨g, fun b r o h => hle b r o (Hp.add_right hok h), hG⟩
    · exact parts a0 0 rfl (by simp; omega)
  · by_cases hroom : xs.length + ys.length ≤ cap
    · have hbw : w.heap[b]? = some (.cells c tyb.1 (0, 0)) := hle b _ _ (Hp.add_left h4)
      have hmul : (xs.length + ys.length) * E.size ≤ cap * E.size := Nat.mul_le_mul_right _ hroom
      rw [Nat.add_mul] at hmul
      obtain ⟨c', w', r1, r2, r3, r4, r5, r6⟩ := run_storeCells (P := P) (flat E ys) 0 (off + xs.length * E.size) c w hbw (by rw [flat_length]; omega) hfy
      have hrun : (Builtin.append_ #[t, t'] ty #[.slice (some ⟨b, off, none⟩) xs.length cap, u]).run P w = .ok (.slice (some ⟨b, off, none⟩) (xs.length + ys.length) cap) w' := by
        have h1 := src.len
        have h2 := src.cells
        rw [hsi] at h2
        simp [Builtin.append_, Sl.run_underlying tu.u, Sl.run_underlying tu'.u, sizeOf, typeInfo, hi, h1, h2, hroom, hsi, add_none, r1]
      have : ((VOp.bi .append #[t, t'] cs [.slice (some ⟨b, off, none⟩) xs.length cap, u]).exec ty).run P w = _ := exec_v hrun
      rw [this]
      refine hn _ _ _ (k _) ⟨hs.1.trans r3, ?_⟩
      have hgb : g b = none := by
        cases hgb : g b with
        | none => rfl
        | some x => have := hok b _ x h4 hgb; simp at this
      have hpt : sat w (star (pt b (.cells c tyb.1 (0, 0))) (stars H')) := ⟨_, hle, f, g, hok, rfl, h4, hG⟩
      have hst := sat.set (o := .cells c tyb.1 (0, 0)) (o' := .cells c' tyb.1 (0, 0)) r2 hpt
      refine hst.mono (star_mono (fun h hh => ?_) (ent.refl _))
      refine .inr ⟨b, off, cap, c', tyb, by simp, by simpa using hroom, by rw [r5]; exact h3, hh, fun j hj => ?_, fun x hx => ?_⟩
      · rw [flat_append] at hj ⊢
        rw [List.length_append, flat_length, flat_length] at hj
        rw [r6, flat_length]
        by_cases hjx : j < xs.length * E.size
        · rw [if_neg (by omega), List.getElem?_append_left (by rw [flat_length]; exact hjx)]
          exact h5 j (by rw [flat_length]; exact hjx)
        · rw [if_pos (by omega), List.getElem?_append_right (by rw [flat_length]; omega), flat_length]
          congr 1; omega
      · rw [flat_append] at hx
        rcases List.mem_append.1 hx with h | h
        · exact h6 x h
        · exact hfy x h
    · exact parts _ cap rfl (by omega)
theorem sat.drop2 {w : World} {A B C : HProp} (h : sat w (star A (star B C))) : sat w (star A C) := by
  obtain ⟨_, l, f, _, k, rfl, a, g1, g2, k2, rfl, b, c⟩ := h
  refine ⟨Hp.add f g2, fun n r o x => ?_, f, g2, fun n x y hx hy => k n x y hx (Hp.add_right k2 hy), rfl, a, c⟩
  rcases Hp.add_some x with h | h
  · exact l n r o (Hp.add_left h)
  · exact l n r o (Hp.add_right k (Hp.add_right k2 h))
/-- What is appended was made for that alone. -/
theorem Eff.append1 {t t' e e' : Nat} {cs : Array Bool} {T : Type} {E : Enc T} {v u : Value} {xs ys : List T} {z : List Value} {nb : Nat} {H1 H2 : List HProp} [tu : TyU P t (.slice e)] [tu' : TyU P t' (.slice e')] [m : TyE P e E] [hz : ZCells P e z] [tb : TyB P e nb]
    [t1 : TkS H E v xs H1] [t2 : TkT H1 u E ys H2] (hz' : Nat.beq z.length E.size = true) (hb : (xs.length + ys.length) * nb ≤ 140737488355328 ∧ xs.length + ys.length ≤ 140737488355328) (k : ∀ v', K v' (sl E v' (xs ++ ys) :: H2)) : Eff P w0 (.bi .append #[t, t'] cs [v, u]) ty H K :=
  Eff.append_ (H' := H2) ((went.of t1.tk).trans (went.star (went.refl _) ((went.of t2.tk).trans (went.right _ _))))
    (fun w hw => have h := ((hw.mono t1.tk).right.mono t2.tk).left; ⟨slB_in h, slB_fl h⟩) hz' hb k
/-- What is appended stays. -/
theorem Eff.appendR {t t' e e' : Nat} {cs : Array Bool} {T : Type} {E : Enc T} {v u : Value} {xs ys : List T} {z : List Value} {nb : Nat} {H1 : List HProp} [tu : TyU P t (.slice e)] [tu' : TyU P t' (.slice e')] [m : TyE P e E] [hz : ZCells P e z] [tb : TyB P e nb]
    [t1 : TkS H E v xs H1] [t2 : SlT H u E ys] (hz' : Nat.beq z.length E.size = true) (hb : (xs.length + ys.length) * nb ≤ 140737488355328 ∧ xs.length + ys.length ≤ 140737488355328) (k : ∀ v', K v' (sl E v' (xs ++ ys) :: H1)) : Eff P w0 (.bi .append #[t, t'] cs [v, u]) ty H K :=
  Eff.append_ (H' := H1) (went.of t1.tk) (fun w hw => ⟨t2.rd w hw, t2.fl w hw⟩) hz' hb k
/-! calls -/
/-- A function of the program that has a body. -/
class HasF (P : Program) (f : FuncId) : Prop where f : ((P.funcs[f]?).map fun fn => !(fn.name == "runtime.NumGoroutine") && !fn.body.isNone) = some true
theorem run_callFunc {f : FuncId} [h : HasF P f] {w : World} (args : Array Value) : (callFunc f args).run P w = .ok (.enter f args) w := by
  have h := h.f
  cases hf : P.funcs[f]? with
  | none => rw [hf] at h; cases h
  | some fn =>
    rw [hf] at h
    simp only [Option.map_some, Option.some.injEq, Bool.and_eq_true, Bool.not_eq_true'] at h
    unfold callFunc
    rw [run_bind']
    simp only [program, Sem.run, hf]
    rw [if_neg (by simp [h.1]), if_neg (by simp [h.2])]
    rfl
theorem Eff.call {f : FuncId} {first caps : Array Value} {as args : List Value} {H0 R : List HProp} {β : Type} {pp : β → Prop} {val : β → Value} {H' : β → List HProp} [hf : HasF P f] (S : Sp P f args H0 pp val H') (ha : first.toList ++ as ++ caps.toList = args)
    (tk : TkL H H0 R) (k : ∀ x, pp x → K (val x) (H' x ++ R)) : Eff P w0 (.call (.func (.func f) first caps) as) ty H K := by
  intro w N hs hn
  subst ha
  have h1 : ((VOp.call (.func (.func f) first caps) as).exec ty).run P w = .ok (.enter f (first ++ as.toArray ++ caps)) w := by
    show (Go.invoke (.fn (.func f) caps) (first ++ as.toArray)).run P w = _
    exact run_callFunc _
  rw [h1]
  have := S w0 w R (hs.conv tk)
  refine Calls.mono (R := fun e w' => ∃ v, e = .returned v ∧ ∃ x, v = val x ∧ pp x ∧ St w0 (H' x ++ R) w') ?_ ?_
  · have e : (first.toList ++ as ++ caps.toList).toArray = first ++ as.toArray ++ caps := by apply Array.ext'; simp
    rw [← e]; exact this
  · rintro e w' ⟨v, he, x, rfl, hx, hw⟩
    exact ⟨_, he, hn _ _ _ (k x hx) hw⟩
end
end Go.Sl

namespace Go.Sl
open Go
set_option linter.unusedVariables false
set_option linter.unusedSectionVars false
section
variable {P : Program} {ty : TypeId} {H : List HProp} {w0 : World} {K : Value → List HProp → Prop}
theorem flat_set {T : Type} (E : Enc T) : ∀ (xs : List T) (i : Nat) (y : T) (hi : i < xs.length) (j : Nat), (flat E (xs.set i y))[j]? = if i * E.size ≤ j ∧ j < i * E.size + E.size then (E.cells y)[j - i * E.size]? else (flat E xs)[j]?
  | x :: xs, 0, y, _, j => by
    simp only [flat, List.set_cons_zero, List.flatMap_cons, Nat.zero_mul, Nat.zero_le, true_and, Nat.zero_add, Nat.sub_zero]
    by_cases h : j < E.size
    · rw [if_pos h, List.getElem?_append_left (by rw [E.len]; exact h)]
    · rw [if_neg h, List.getElem?_append_right (by rw [E.len]; omega), List.getElem?_append_right (by rw [E.len]; omega), E.len, E.len]
  | x :: xs, i + 1, y, hi, j => by
    have ih := flat_set E xs i y (by simpa using hi)
    simp only [flat, List.set_cons_succ, List.flatMap_cons] at ih ⊢
    have e1 : (i + 1) * E.size = i * E.size + E.size := by rw [Nat.add_mul]; omega
    by_cases h : j < E.size
    · rw [List.getElem?_append_left (by rw [E.len]; exact h), List.getElem?_append_left (by rw [E.len]; exact h), if_neg (by omega)]
    · rw [List.getElem?_append_right (by rw [E.len]; omega), List.getElem?_append_right (by rw [E.len]; omega), E.len, ih (j - E.size), e1]
      by_cases h2 : i * E.size + E.size ≤ j ∧ j < i * E.size + E.size + E.size
      · rw [if_pos (by omega), if_pos h2]; congr 1; omega
      · rw [if_neg (by omega), if_neg h2]
/-- A store into an element of a slice that is ours. -/
theorem Eff.storeE {t n o : Nat} {T : Type} [Dfl T] {E : Enc T} {v val : Value} {xs : List T} {i : Int} {y : T} {ls : List Value} {m : Nat} {H' : List HProp} [hv : VC H val ls] [hn : TySz P t m] [tk : TkT H v E xs H'] [z : EncS E n] [u : EncU H E (rd xs i) o val y]
    (hl : Nat.beq ls.length m = true) (h : 0 ≤ i ∧ i < xs.length) (k : K undef (sl E v (xs.set i.toNat y) :: H')) : Eff P w0 (.store t (elp v i n o) val) ty H K := by
  intro w N hs hn'
  have hlen := Nat.eq_of_beq_eq_true hl
  subst hlen
  obtain ⟨hv1, hv2⟩ := hv.c w hs.2
  obtain ⟨l0, hu1, hu2⟩ := u.u w hs.2
  have hl0 : l0 = ls := by rw [hv1] at hu1; simpa using hu1.symm
  subst hl0
  obtain ⟨s1, s2, s3⟩ := spl_spec hu2
  rw [E.len] at s2
  have hi : i.toNat < xs.length := by omega
  obtain ⟨_, hle, f, g, hok, rfl, hA, hG⟩ := hs.2.mono tk.tk
  rcases hA with ⟨⟨a0, rfl⟩, rfl⟩ | ⟨b, off, cap, c, tyb, rfl, h2, h3, h4, h5, h6⟩
  · simp at hi
  have hbw : w.heap[b]? = some (.cells c tyb.1 (0, 0)) := hle b _ _ (Hp.add_left h4)
  have hmul : (i.toNat + 1) * E.size ≤ xs.length * E.size := Nat.mul_le_mul_right _ hi
  have hmul2 : xs.length * E.size ≤ cap * E.size := Nat.mul_le_mul_right _ h2
  rw [Nat.add_mul] at hmul
  obtain ⟨c', w', r1, r2, r3, r4, r5, r6⟩ := run_storeCells (P := P) l0 0 (off + i.toNat * E.size + o) c w hbw (by omega) hv2
  have : ((VOp.store t (elp (.slice (some ⟨b, off, none⟩) xs.length cap) i n o) val).exec ty).run P w = .ok .skip w' := by
    refine exec_u ?_
    rw [← z.s]
    show (storeVar t ⟨b, off + i.toNat * E.size + o, none⟩ val).run P w = _
    rw [run_storeVar hv1 hn, r1]
  rw [this]
  refine hn' _ _ _ k ⟨hs.1.trans r3, ?_⟩
  have hpt : sat w (star (pt b (.cells c tyb.1 (0, 0))) (stars H')) := ⟨_, hle, f, g, hok, rfl, h4, hG⟩
  refine (sat.set (o := .cells c tyb.1 (0, 0)) (o' := .cells c' tyb.1 (0, 0)) r2 hpt).mono (star_mono (fun h hh => ?_) (ent.refl _))
  refine .inr ⟨b, off, cap, c', tyb, by simp, by simpa using h2, by rw [r5]; exact h3, hh, fun j hj => ?_, fun x hx => ?_⟩
  · rw [flat_set E xs i.toNat y hi, r6]
    rw [flat_length, List.length_set] at hj
    by_cases hc : i.toNat * E.size ≤ j ∧ j < i.toNat * E.size + E.size
    · rw [if_pos hc, s3]
      by_cases hc2 : o ≤ j - i.toNat * E.size ∧ j - i.toNat * E.size < o + l0.length
      · rw [if_pos (by omega), if_pos hc2]; congr 1; omega
      · rw [if_neg (by omega), if_neg hc2, h5 j (by rw [flat_length]; exact hj), rd_eq hi, ← flat_at E xs i.toNat (j - i.toNat * E.size) hi (by omega)]
        congr 1; omega
    · rw [if_neg hc, if_neg (by omega), h5 j (by rw [flat_length]; exact hj)]
  · obtain ⟨j, hj⟩ := List.getElem?_of_mem hx
    rw [flat_set E xs i.toNat y hi] at hj
    split at hj
    · rw [s3] at hj
      split at hj
      · exact hv2 x (List.mem_of_getElem? hj)
      · rename_i hc hc2
        rw [rd_eq hi, ← flat_at E xs i.toNat (j - i.toNat * E.size) hi (by omega)] at hj
        exact h6 x (List.mem_of_getElem? hj)
    · exact h6 x (List.mem_of_getElem? hj)
/-- A value of one cell, a whole element. -/
instance (priority := low) EncU.wholeV (x v : Value) [h : Fl1 H v] : EncU H eVal x 0 v v := ⟨fun w hw => ⟨[v], (h.f w hw).2, rfl⟩⟩
instance (priority := low) EncU.whole {T : Type} (E : Enc T) (x y : T) (v : Value) [h : EncI E v y] : EncU H E x 0 v y := ⟨fun _ _ => ⟨E.cells y, h.c, by
  have : ∀ (z l : List Value), l.length = z.length → spl z 0 l = some l := by
    intro z
    induction z with
    | nil => intro l hl; simp at hl; subst hl; rfl
    | cons a z ih =>
      intro l hl
      cases l with
      | nil => simp at hl
      | cons b l => simp only [spl]; rw [ih l (by simpa using hl)]
  exact this _ _ (by rw [E.len, E.len])⟩⟩
end
end Go.Sl

namespace Go.Sl
open Go
set_option linter.unusedVariables false
set_option linter.unusedSectionVars false
/-! Maps. -/
abbrev kI (k : IntKind) : Int → Value := fun n => .int k n
def kS {T : Type} (E : Enc T) : T → Value := fun x => .agg (E.cells x).toArray
class KeyI {κ : Type} (K : κ → Value) (v : Value) (k : outParam κ) : Prop where k : K k = v
instance (k n) : KeyI (kI k) (.int k n) n := ⟨rfl⟩
instance {T : Type} (E : Enc T) (l : List Value) (x : T) [h : EncI E (.agg l.toArray) x] : KeyI (kS E) (.agg l.toArray) x := ⟨by
  have := h.c; simp only [Value.cells] at this; simp [kS, ← this]⟩
structure Ent (κ ν : Type) where
  key : κ
  val : ν
  born : Nat
def toE {κ ν : Type} (K : κ → Value) (V : ν → Value) (e : Ent κ ν) : MapEntry := { key := K e.key, val := V e.val, born := e.born }
def findE {κ ν : Type} [DecidableEq κ] (k : κ) : List (Ent κ ν) → Nat → Option (Nat × ν)
  | [], _ => none
  | e :: es, i => if k = e.key then some (i, e.val) else findE k es (i + 1)
/-- What is asked of a map's keys. -/
class KeyT (P : Program) (kt : TypeId) {κ : Type} [DecidableEq κ] (K : κ → Value) : Prop where
  check : ∀ b k w, (Instr.checkKey b 10000 kt (K k)).run P w = .ok () w
  find : ∀ {ν : Type} (V : ν → Value) (es : List (Ent κ ν)) k w, (Instr.findKey kt (K k) (es.map (toE K V))).run P w = .ok ((findE k es 0).map fun p => (p.1, V p.2)) w
  same : ∀ k, Instr.sameBits 10000 (K k) (K k) = true
structure MapOk {κ ν : Type} [DecidableEq κ] (K : κ → Value) (V : ν → Value) (es : Array MapEntry) (clock : Nat) (f : κ → Option ν) (l : List (Ent κ ν)) : Prop where
  es : es.toList = l.map (toE K V)
  born : (l.map (·.born)).Nodup ∧ ∀ e, e ∈ l → e.born < clock
  keys : (l.map (·.key)).Nodup
  tells : ∀ k, f k = (findE k l 0).map (·.2)
def mp {κ ν : Type} [DecidableEq κ] (K : κ → Value) (V : ν → Value) (m : Value) (f : κ → Option ν) : HProp := fun h =>
  ∃ (b : Nat) (es : Array MapEntry) (clock : Nat) (l : List (Ent κ ν)), m = .map (some b) ∧ h b = some (false, .map es clock) ∧ MapOk K V es clock f l
def upd {κ ν : Type} [DecidableEq κ] (f : κ → Option ν) (k : κ) (v : ν) : κ → Option ν := fun x => if x = k then some v else f x
/-- Between the two halves of 'm[k] op= ..': the entry of k is there, and this is its stamp. -/
def mpS {κ ν : Type} [DecidableEq κ] (K : κ → Value) (V : ν → Value) (m : Value) (f : κ → Option ν) (k : κ) (z : ν) (st : Int) : HProp := fun h =>
  ∃ (b : Nat) (es : Array MapEntry) (clock : Nat) (l : List (Ent κ ν)) (e : Ent κ ν), m = .map (some b) ∧ h b = some (false, .map es clock) ∧ MapOk K V es clock (upd f k ((f k).getD z)) l ∧ e ∈ l ∧ e.key = k ∧ st = e.born
/-- A map that may be read. -/
class RdM (H : List HProp) (m : Value) {κ : outParam Type} {ν : outParam Type} [d : outParam (DecidableEq κ)] (K : outParam (κ → Value)) (V : outParam (ν → Value)) (f : outParam (κ → Option ν)) : Prop where
  rd : ∀ w, sat w (stars H) → ∃ b es clock l, m = .map (some b) ∧ w.heap[b]? = some (.map es clock) ∧ MapOk K V es clock f l
instance RdM.tl (A : HProp) (H : List HProp) (m : Value) {κ ν : Type} [DecidableEq κ] (K : κ → Value) (V : ν → Value) (f) [h : RdM H m K V f] : RdM (A :: H) m K V f := ⟨fun w hw => h.rd w hw.right⟩
instance RdM.hd (H : List HProp) (m : Value) {κ ν : Type} [DecidableEq κ] (K : κ → Value) (V : ν → Value) (f) : RdM (mp K V m f :: H) m K V f := ⟨fun w hw => by
  obtain ⟨h, l, b, es, c, es', h1, h2, h3⟩ := hw.left
  exact ⟨b, es, c, es', h1, l b _ _ h2, h3⟩⟩
/-- the entry just asked for reads as it did -/
class RdK (H : List HProp) (m : Value) {κ : Type} (k : κ) {ν : outParam Type} [d : outParam (DecidableEq κ)] (K : outParam (κ → Value)) (V : outParam (ν → Value)) (f : outParam (κ → Option ν)) (z : outParam ν) : Prop where
  rd : ∀ w, sat w (stars H) → ∃ b es clock l, m = .map (some b) ∧ w.heap[b]? = some (.map es clock) ∧ MapOk K V es clock (upd f k ((f k).getD z)) l
theorem nodup_idx {α : Type} : ∀ {l : List α} {i j : Nat} {x : α}, l.Nodup → l[i]? = some x → l[j]? = some x → i = j
  | [], _, _, _, _, h, _ => by simp at h
  | a :: l, 0, 0, _, _, _, _ => rfl
  | a :: l, 0, j + 1, x, hn, h, k => by
    simp at h; subst h
    have := List.mem_of_getElem? (l := l) (i := j) (by simpa using k)
    exact absurd this (List.nodup_cons.1 hn).1
  | a :: l, i + 1, 0, x, hn, h, k => by
    simp at k; subst k
    have := List.mem_of_getElem? (l := l) (i := i) (by simpa using h)
    exact absurd this (List.nodup_cons.1 hn).1
  | a :: l, i + 1, j + 1, x, hn, h, k => by
    exact congrArg (· + 1) (nodup_idx (l := l) (x := x) (List.nodup_cons.1 hn).2 (by simpa using h) (by simpa using k))
theorem findE_shift {κ ν : Type} [DecidableEq κ] (k : κ) : ∀ (l : List (Ent κ ν)) (i : Nat), (findE k l i).map (·.2) = (findE k l 0).map (·.2)
  | [], _ => rfl
  | e :: l, i => by
    simp only [findE]
    split
    · rfl
    · rw [findE_shift k l (i + 1), findE_shift k l (0 + 1)]
theorem findE_at {κ ν : Type} [DecidableEq κ] (k : κ) : ∀ (l : List (Ent κ ν)) (i j : Nat) (v : ν), findE k l i = some (j, v) → ∃ e, i ≤ j ∧ l[j - i]? = some e ∧ e.key = k ∧ e.val = v ∧ ∀ n e', n < j - i → l[n]? = some e' → e'.key ≠ k
  | [], _, _, _, h => by cases h
  | e :: l, i, j, v, h => by
    simp only [findE] at h
    split at h
    · rename_i hk
      simp at h
      obtain ⟨rfl, rfl⟩ := h
      exact ⟨e, Nat.le_refl _, by simp, hk.symm, rfl, fun n e' hn _ => by omega⟩
    · rename_i hk
      obtain ⟨e', h1, h2, h3, h4, h5⟩ := findE_at k l (i + 1) j v h
      have : j - i = (j - (i + 1)) + 1 := by omega
      refine ⟨e', by omega, by rw [this]; simpa using h2, h3, h4, fun n e2 hn h6 => ?_⟩
      cases n with
      | zero => simp at h6; subst h6; exact fun e => hk e.symm
      | succ n => exact h5 n e2 (by omega) (by simpa using h6)
theorem findE_none {κ ν : Type} [DecidableEq κ] (k : κ) : ∀ (l : List (Ent κ ν)) (i : Nat), findE k l i = none → ∀ e, e ∈ l → e.key ≠ k
  | [], _, _, e, he => by cases he
  | e :: l, i, h, e', he => by
    simp only [findE] at h
    split at h
    · cases h
    · rename_i hk
      rcases List.mem_cons.1 he with rfl | he
      · exact fun e => hk e.symm
      · exact findE_none k l (i + 1) h e' he
theorem findE_append {κ ν : Type} [DecidableEq κ] (k : κ) (e : Ent κ ν) : ∀ (l : List (Ent κ ν)) (i : Nat), findE k (l ++ [e]) i = match findE k l i with | some p => some p | none => if k = e.key then some (i + l.length, e.val) else none
  | [], i => by simp [findE]
  | e' :: l, i => by
    simp only [List.cons_append, findE]
    split
    · rfl
    · rw [findE_append k e l (i + 1)]
      simp only [List.length_cons, show i + 1 + l.length = i + (l.length + 1) from by omega]
theorem findE_set {κ ν : Type} [DecidableEq κ] (k : κ) (v : ν) : ∀ (l : List (Ent κ ν)) (j : Nat) (e : Ent κ ν), l[j]? = some e → (∀ n e', n < j → l[n]? = some e' → e'.key ≠ e.key) → ∀ i x, (findE x (l.set j { e with val := v }) i).map (·.2) = if x = e.key then some v else (findE x l i).map (·.2)
  | [], j, e, h, _, _, _ => by simp at h
  | e' :: l, 0, e, h, _, i, x => by
    simp at h; subst h
    simp only [List.set_cons_zero, findE]
    split <;> rfl
  | e' :: l, j + 1, e, h, hn, i, x => by
    have h0 := hn 0 e' (by omega) (by simp)
    simp only [List.set_cons_succ, findE]
    by_cases hx : x = e'.key
    · rw [if_pos hx, if_pos hx, if_neg (fun h1 => h0 (hx ▸ h1))]
    · rw [if_neg hx, if_neg hx]
      exact findE_set k v l j e (by simpa using h) (fun n e2 h1 h2 => hn (n + 1) e2 (by omega) (by simpa using h2)) (i + 1) x
section
variable {P : Program} {ty : TypeId} {H : List HProp} {w0 : World} {Kn : Value → List HProp → Prop}
class ZV (P : Program) (et : TypeId) {ν : Type} (V : ν → Value) (z : outParam ν) : Prop where z : TyZ P et (V z)
instance (P et k n) [h : TyZ P et (.int k n)] : ZV P et (kI k) n := ⟨h⟩
theorem run_lookup {κ ν : Type} [DecidableEq κ] {K : κ → Value} {V : ν → Value} {t kt et b : Nat} {es : Array MapEntry} {clock : Nat} {f : κ → Option ν} {l : List (Ent κ ν)} {k : κ} {z : ν} {ok : Bool} {w : World}
    (u : P.underlying t = some (.map kt et)) [kk : KeyT P kt K] (hz : TyZ P et (V z)) (hb : w.heap[b]? = some (.map es clock)) (M : MapOk K V es clock f l) :
    (Instr.lookup t (.map (some b)) (K k) ok).run P w = .ok (if ok then .tuple #[V ((f k).getD z), .bool (f k).isSome] else V ((f k).getD z)) w := by
  have hf := kk.find V l k w
  rw [← M.es] at hf
  have hg : ∀ (g : Obj → Sem Value), (getObj b >>= g).run P w = (g (.map es clock)).run P w := fun g => by
    show (Sem.bind (Sem.getObj b .pure) g).run P w = _
    simp only [Sem.bind, Sem.run, hb]
  unfold Instr.lookup
  rw [run_bind', run_underlying u]
  simp only [bind_assoc]
  rw [hg]
  simp only [pure_bind]
  rw [run_bind', kk.check]
  simp only
  rw [run_bind', hf]
  simp only
  have ht := M.tells k
  cases hfe : findE k l 0 with
  | none =>
    rw [hfe] at ht
    simp only [Option.map_none] at ht ⊢
    simp only [ht, run_bind', Sl.run_zeroValue hz, run_pure]
    cases ok <;> rfl
  | some p =>
    rw [hfe] at ht
    simp only [Option.map_some] at ht ⊢
    simp only [ht, run_pure, run_bind']
    cases ok <;> rfl
/-- a map's value, as it is written -/
class VN {ν : Type} (V : ν → Value) (x : ν) (v : outParam Value) : Prop where e : V x = v
instance (k : IntKind) (x : Int) : VN (kI k) x (.int k x) := ⟨rfl⟩
instance Q1.lookup (t kt et : TypeId) (m kv : Value) {κ ν : Type} [DecidableEq κ] (K : κ → Value) (V : ν → Value) (f : κ → Option ν) (k : κ) (z : ν) (v : Value) [u : TyU P t (.map kt et)] [r : RdM H m K V f] [kk : KeyT P kt K] [ki : KeyI K kv k] [zz : ZV P et V z] [vn : VN V ((f k).getD z) v] :
    Q1 P (.lookup t m kv false) ty H True v := ⟨fun _ w hw => by
  obtain ⟨b, es, c, l, rfl, hb, M⟩ := r.rd w hw
  refine exec_v ?_
  rw [← ki.k, ← vn.e]
  exact run_lookup u.u zz.z hb M (ok := false)⟩
instance Q1.lookupOk (t kt et : TypeId) (m kv : Value) {κ ν : Type} [DecidableEq κ] (K : κ → Value) (V : ν → Value) (f : κ → Option ν) (k : κ) (z : ν) (v : Value) [u : TyU P t (.map kt et)] [r : RdM H m K V f] [kk : KeyT P kt K] [ki : KeyI K kv k] [zz : ZV P et V z] [vn : VN V ((f k).getD z) v] :
    Q1 P (.lookup t m kv true) ty H True (.tuple #[v, .bool (f k).isSome]) := ⟨fun _ w hw => by
  obtain ⟨b, es, c, l, rfl, hb, M⟩ := r.rd w hw
  refine exec_v ?_
  rw [← ki.k, ← vn.e]
  exact run_lookup u.u zz.z hb M (ok := true)⟩
instance (priority := low) Fl1.mp (m : Value) {κ ν : Type} [DecidableEq κ] (K : κ → Value) (V : ν → Value) (f : κ → Option ν) [r : RdM H m K V f] : Fl1 H m := ⟨fun w hw => by
  obtain ⟨b, es, c, l, rfl, _⟩ := r.rd w hw; exact ⟨rfl, rfl⟩⟩
/-- A new map. -/
theorem Eff.mkM {t : TypeId} {κ ν : Type} [DecidableEq κ] (K : κ → Value) (V : ν → Value) (k : ∀ m, Kn m (mp K V m (fun _ => none) :: H)) : Eff P w0 (.mkM t none) ty H Kn := by
  intro w N hs hn
  have : ((VOp.mkM t none).exec ty).run P w = .ok (.value (.map (some w.heap.size))) { w with heap := w.heap.push (.map #[] 0) } := rfl
  rw [this]
  refine hn _ _ _ (k _) ⟨hs.1.push _ rfl, (sat.push rfl hs.2).mono (star_mono (fun h hh => ?_) (ent.refl _))⟩
  exact ⟨w.heap.size, #[], 0, [], rfl, hh, ⟨rfl, ⟨by simp, fun e he => by cases he⟩, by simp, fun _ => rfl⟩⟩
class TkM (H : List HProp) (m : Value) {κ : outParam Type} {ν : outParam Type} [d : outParam (DecidableEq κ)] (K : outParam (κ → Value)) (V : outParam (ν → Value)) (f : outParam (κ → Option ν)) (H' : outParam (List HProp)) : Prop where
  tk : ent (stars H) (star (mp K V m f) (stars H'))
instance TkM.tl (A : HProp) (H : List HProp) (m : Value) {κ ν : Type} [DecidableEq κ] (K : κ → Value) (V : ν → Value) (f H') [h : TkM H m K V f H'] : TkM (A :: H) m K V f (A :: H') := ⟨ent.trans (star_mono (ent.refl A) h.tk) (star_left_comm _ _ _)⟩
instance TkM.hd (H : List HProp) (m : Value) {κ ν : Type} [DecidableEq κ] (K : κ → Value) (V : ν → Value) (f) : TkM (mp K V m f :: H) m K V f H := ⟨ent.refl _⟩
theorem run_setObj {b : Nat} {o o' : Obj} {w : World} (h : w.heap[b]? = some o) (hc : ∀ c e f, o ≠ .cells c e f) : (setObj b o').run P w = .ok () { w with heap := w.heap.setIfInBounds b o' } := by
  show Sem.run P (.setObj b o' (.pure ())) w = _
  simp only [Sem.run, h]
theorem heap_set {b : Nat} {o o' : Obj} {w : World} (h : w.heap[b]? = some o) : ∀ c, ({ w with heap := w.heap.setIfInBounds b o' } : World).heap[c]? = if c = b then some o' else w.heap[c]? := by
  intro c
  have hb : b < w.heap.size := (Array.getElem?_eq_some_iff.1 h).1
  by_cases hc : c = b
  · subst hc; simp [hb]
  · rw [if_neg hc, Array.getElem?_setIfInBounds_ne (fun e => hc e.symm)]
theorem MapOk.put {κ ν : Type} [DecidableEq κ] {K : κ → Value} {V : ν → Value} {es : Array MapEntry} {clock : Nat} {f : κ → Option ν} {l : List (Ent κ ν)} (M : MapOk K V es clock f l) {j : Nat} {k : κ} {v0 : ν} (h : findE k l 0 = some (j, v0)) (v : ν) :
    ∃ e, l[j]? = some e ∧ e.key = k ∧ MapOk K V (es.modify j fun e => { e with key := K k, val := V v }) clock (upd f k v) (l.set j { e with val := v }) := by
  obtain ⟨e, _, h2, h3, h4, h5⟩ := findE_at k l 0 j v0 h
  simp only [Nat.sub_zero] at h2 h5
  subst h3
  have hjl : j < l.length := (List.getElem?_eq_some_iff.1 h2).1
  refine ⟨e, h2, rfl, ?_, ⟨?_, ?_⟩, ?_, fun x => ?_⟩
  · have h6 : es.toList.length = l.length := by rw [M.es]; simp
    apply List.ext_getElem?
    intro n
    rw [Array.getElem?_toList, Array.getElem?_modify]
    have h7 : es[n]? = (l.map (toE K V))[n]? := by rw [← M.es, Array.getElem?_toList]
    rw [h7]
    simp only [List.getElem?_map, List.getElem?_set]
    by_cases hn : j = n
    · subst hn; rw [if_pos rfl, if_pos rfl, if_pos hjl, h2]; rfl
    · rw [if_neg hn, if_neg hn]
  · have : ((l.set j { e with val := v }).map (·.born)) = l.map (·.born) := by
      apply List.ext_getElem?
      intro n
      simp only [List.getElem?_map, List.getElem?_set]
      by_cases hn : j = n
      · subst hn; rw [if_pos rfl, if_pos hjl, h2]; rfl
      · rw [if_neg hn]
    rw [this]; exact M.born.1
  · intro e' he
    rcases List.mem_or_eq_of_mem_set he with h | h
    · exact M.born.2 e' h
    · subst h; exact M.born.2 e (List.mem_of_getElem? h2)
  · have : ((l.set j { e with val := v }).map (·.key)) = l.map (·.key) := by
      apply List.ext_getElem?
      intro n
      simp only [List.getElem?_map, List.getElem?_set]
      by_cases hn : j = n
      · subst hn; rw [if_pos rfl, if_pos hjl, h2]; rfl
      · rw [if_neg hn]
    rw [this]; exact M.keys
  · rw [findE_set e.key v l j e h2 (fun n e' h1 h3 => h5 n e' h1 h3) 0 x, ← M.tells x]; rfl
theorem MapOk.add {κ ν : Type} [DecidableEq κ] {K : κ → Value} {V : ν → Value} {es : Array MapEntry} {clock : Nat} {f : κ → Option ν} {l : List (Ent κ ν)} (M : MapOk K V es clock f l) {k : κ} (h : findE k l 0 = none) (v : ν) :
    MapOk K V (es.push { key := K k, val := V v, born := clock }) (clock + 1) (upd f k v) (l ++ [⟨k, v, clock⟩]) := by
  refine ⟨by simp [M.es, toE], ⟨?_, fun e he => ?_⟩, ?_, fun x => ?_⟩
  · rw [List.map_append, List.nodup_append]
    refine ⟨M.born.1, by simp, fun a ha b hb => ?_⟩
    simp at hb; subst hb
    obtain ⟨e, he, rfl⟩ := List.mem_map.1 ha
    have := M.born.2 e he; simp; omega
  · rcases List.mem_append.1 he with h | h
    · have := M.born.2 e h; omega
    · simp at h; subst h; simp
  · rw [List.map_append, List.nodup_append]
    refine ⟨M.keys, by simp, fun a ha b hb => ?_⟩
    simp at hb
    obtain ⟨e, he, rfl⟩ := List.mem_map.1 ha
    rw [hb]
    exact findE_none k l 0 h e he
  · rw [findE_append]
    unfold upd
    by_cases hx : x = k
    · subst hx; rw [if_pos rfl, h]; simp
    · rw [if_neg hx, M.tells x]
      cases findE x l 0 with
      | none => simp [hx]
      | some p => rfl
theorem run_mapUpdate {κ ν : Type} [DecidableEq κ] {K : κ → Value} {V : ν → Value} {t kt et b : Nat} {es : Array MapEntry} {clock : Nat} {f : κ → Option ν} {l : List (Ent κ ν)} {k : κ} {v : ν} {w : World}
    (u : P.underlying t = some (.map kt et)) [kk : KeyT P kt K] (hb : w.heap[b]? = some (.map es clock)) (M : MapOk K V es clock f l) :
    ∃ es' clock' l', (Instr.mapUpdate t (.map (some b)) (K k) (V v)).run P w = .ok () { w with heap := w.heap.setIfInBounds b (.map es' clock') } ∧ MapOk K V es' clock' (upd f k v) l' := by
  have hf := kk.find V l k w
  rw [← M.es] at hf
  have hg : ∀ {α : Type} (g : Obj → Sem α), (getObj b >>= g).run P w = (g (.map es clock)).run P w := fun g => by
    show (Sem.bind (Sem.getObj b .pure) g).run P w = _
    simp only [Sem.bind, Sem.run, hb]
  unfold Instr.mapUpdate
  cases hfe : findE k l 0 with
  | none =>
    refine ⟨_, _, _, ?_, M.add hfe v⟩
    rw [run_bind', run_underlying u]
    simp only
    rw [hg]
    simp only
    rw [run_bind', kk.check]
    simp only
    rw [run_bind', hf, hfe]
    simp only [Option.map_none]
    exact run_setObj hb (fun _ _ _ h => by cases h)
  | some p =>
    obtain ⟨j, v0⟩ := p
    obtain ⟨e, h1, h2, h3⟩ := M.put hfe v
    refine ⟨_, _, _, ?_, h3⟩
    rw [run_bind', run_underlying u]
    simp only
    rw [hg]
    simp only
    rw [run_bind', kk.check]
    simp only
    rw [run_bind', hf, hfe]
    simp only [Option.map_some]
    have hk : (es[j]?).map (·.key) = some (K k) := by
      have : es[j]? = (l.map (toE K V))[j]? := by rw [← M.es, Array.getElem?_toList]
      rw [this, List.getElem?_map, h1]; simp [toE, h2]
    rw [hk]
    simp only [Option.getD_some, Instr.keyThatStays, kk.same, if_true, pure_bind]
    exact run_setObj hb (fun _ _ _ h => by cases h)
theorem Eff.mupd {t kt et : TypeId} {m kv vv : Value} {κ ν : Type} [DecidableEq κ] {K : κ → Value} {V : ν → Value} {f : κ → Option ν} {k : κ} {v : ν} {H' : List HProp} [u : TyU P t (.map kt et)] [tk : TkM H m K V f H'] [kk : KeyT P kt K] [ki : KeyI K kv k] [vi : KeyI V vv v]
    (kn : Kn undef (mp K V m (upd f k v) :: H')) : Eff P w0 (.mupd t m kv vv) ty H Kn := by
  intro w N hs hn
  obtain ⟨_, hle, f1, g, hok, rfl, ⟨b, es, c, l, rfl, h2, M⟩, hG⟩ := hs.2.mono tk.tk
  have hb : w.heap[b]? = some (.map es c) := hle b _ _ (Hp.add_left h2)
  obtain ⟨es', c', l', h3, M'⟩ := run_mapUpdate (P := P) (k := k) (v := v) u.u hb M
  have : ((VOp.mupd t (.map (some b)) kv vv).exec ty).run P w = .ok .skip { w with heap := w.heap.setIfInBounds b (.map es' c') } := by
    refine exec_u ?_
    rw [← ki.k, ← vi.k]; exact h3
  rw [this]
  refine hn _ _ _ kn ⟨hs.1.trans ⟨rfl, rfl, rfl, by simp⟩, ?_⟩
  have hpt : sat w (star (pt b (.map es c)) (stars H')) := ⟨_, hle, f1, g, hok, rfl, h2, hG⟩
  exact (sat.set (o := .map es c) (o' := .map es' c') (heap_set hb) hpt).mono (star_mono (fun h hh => ⟨b, es', c', l', rfl, hh, M'⟩) (ent.refl _))
theorem run_mapEntry {κ ν : Type} [DecidableEq κ] {K : κ → Value} {V : ν → Value} {t kt et b : Nat} {es : Array MapEntry} {clock : Nat} {f : κ → Option ν} {l : List (Ent κ ν)} {k : κ} {z : ν} {w : World}
    (u : P.underlying t = some (.map kt et)) [kk : KeyT P kt K] (hz : TyZ P et (V z)) (hb : w.heap[b]? = some (.map es clock)) (M : MapOk K V es clock f l) :
    ∃ (es' : Array MapEntry) (clock' : Nat) (l' : List (Ent κ ν)) (e : Ent κ ν), (Instr.mapEntry t (.map (some b)) (K k)).run P w = .ok (.tuple #[V ((f k).getD z), goInt e.born]) { w with heap := w.heap.setIfInBounds b (.map es' clock') } ∧ MapOk K V es' clock' (upd f k ((f k).getD z)) l' ∧ e ∈ l' ∧ e.key = k := by
  have hf := kk.find V l k w
  rw [← M.es] at hf
  have hg : ∀ {α : Type} (g : Obj → Sem α), (getObj b >>= g).run P w = (g (.map es clock)).run P w := fun g => by
    show (Sem.bind (Sem.getObj b .pure) g).run P w = _
    simp only [Sem.bind, Sem.run, hb]
  have ht := M.tells k
  unfold Instr.mapEntry
  cases hfe : findE k l 0 with
  | none =>
    rw [hfe] at ht
    simp only [Option.map_none] at ht
    have hfk : (f k).getD z = z := by rw [ht]; rfl
    refine ⟨_, _, _, ⟨k, z, clock⟩, ?_, by rw [hfk]; exact M.add hfe z, by simp, rfl⟩
    rw [run_bind', run_underlying u]
    simp only
    rw [hg]
    simp only
    rw [run_bind', kk.check]
    simp only
    rw [run_bind', hf, hfe]
    simp only [Option.map_none]
    rw [run_bind', Sl.run_zeroValue hz]
    simp only
    rw [run_bind', run_setObj hb (fun _ _ _ h => by cases h)]
    simp only [run_pure, hfk]
  | some p =>
    obtain ⟨j, v0⟩ := p
    rw [hfe] at ht
    simp only [Option.map_some] at ht
    have hfk : (f k).getD z = v0 := by rw [ht]; rfl
    obtain ⟨e, h1, h2, h3⟩ := M.put hfe v0
    have hjl : j < l.length := (List.getElem?_eq_some_iff.1 h1).1
    have hev : e.val = v0 := by
      obtain ⟨e', _, h4, _, h5, _⟩ := findE_at k l 0 j v0 hfe
      simp only [Nat.sub_zero] at h4; rw [h1] at h4; cases h4; exact h5
    have hej : es[j]? = some (toE K V e) := by
      have : es[j]? = (l.map (toE K V))[j]? := by rw [← M.es, Array.getElem?_toList]
      rw [this, List.getElem?_map, h1]; rfl
    refine ⟨_, _, _, { e with val := v0 }, ?_, by rw [hfk]; exact h3, List.mem_of_getElem? (by rw [List.getElem?_set, if_pos rfl, if_pos hjl]), h2⟩
    rw [run_bind', run_underlying u]
    simp only
    rw [hg]
    simp only
    rw [run_bind', kk.check]
    simp only
    rw [run_bind', hf, hfe]
    simp only [Option.map_some]
    have hk : (es[j]?).map (·.key) = some (K k) := by rw [hej]; simp [toE, h2]
    have hbn : (es[j]?).map (fun x => x.born) = some e.born := by rw [hej]; rfl
    rw [hk, show (es[j]?).map (fun x => ((x.born : Nat) : Int)) = some (e.born : Int) from by rw [hej]; rfl]
    simp only [Option.getD_some, Instr.keyThatStays, kk.same, if_true, pure_bind]
    rw [run_bind', run_setObj hb (fun _ _ _ h => by cases h)]
    simp only [run_pure, hfk]
    have : (es.modify j fun e => { e with key := K k }) = es.modify j fun e => { e with key := K k, val := V v0 } := by
      apply Array.ext'
      apply List.ext_getElem?
      intro n
      simp only [Array.getElem?_toList, Array.getElem?_modify]
      by_cases hn : j = n
      · subst hn; rw [if_pos rfl, if_pos rfl, hej]; simp [toE, hev]
      · rw [if_neg hn, if_neg hn]
    rw [this]
theorem Eff.ment {t kt et : TypeId} {m kv : Value} {κ ν : Type} [DecidableEq κ] {K : κ → Value} {V : ν → Value} {f : κ → Option ν} {k : κ} {z : ν} {H' : List HProp} [u : TyU P t (.map kt et)] [tk : TkM H m K V f H'] [kk : KeyT P kt K] [ki : KeyI K kv k] [zz : ZV P et V z]
    (kn : ∀ st : Int, Kn (.tuple #[V ((f k).getD z), .int .i64 st]) (mpS K V m f k z st :: H')) : Eff P w0 (.ment t m kv) ty H Kn := by
  intro w N hs hn
  obtain ⟨_, hle, f1, g, hok, rfl, ⟨b, es, c, l, rfl, h2, M⟩, hG⟩ := hs.2.mono tk.tk
  have hb : w.heap[b]? = some (.map es c) := hle b _ _ (Hp.add_left h2)
  obtain ⟨es', c', l', e, h3, M', he1, he2⟩ := run_mapEntry (P := P) (k := k) (z := z) u.u zz.z hb M
  have : ((VOp.ment t (.map (some b)) kv).exec ty).run P w = .ok (.value (.tuple #[V ((f k).getD z), goInt e.born])) { w with heap := w.heap.setIfInBounds b (.map es' c') } := by
    refine exec_v ?_
    rw [← ki.k]; exact h3
  rw [this]
  refine hn _ _ _ (kn _) ⟨hs.1.trans ⟨rfl, rfl, rfl, by simp⟩, ?_⟩
  have hpt : sat w (star (pt b (.map es c)) (stars H')) := ⟨_, hle, f1, g, hok, rfl, h2, hG⟩
  exact (sat.set (o := .map es c) (o' := .map es' c') (heap_set hb) hpt).mono (star_mono (fun h hh => ⟨b, es', c', l', e, rfl, hh, M', he1, he2, rfl⟩) (ent.refl _))
class TkMS (H : List HProp) (m : Value) (st : Int) {κ : outParam Type} {ν : outParam Type} [d : outParam (DecidableEq κ)] (K : outParam (κ → Value)) (V : outParam (ν → Value)) (f : outParam (κ → Option ν)) (k : outParam κ) (z : outParam ν) (H' : outParam (List HProp)) : Prop where
  tk : ent (stars H) (star (mpS K V m f k z st) (stars H'))
instance TkMS.tl (A : HProp) (H : List HProp) (m : Value) (st : Int) {κ ν : Type} [DecidableEq κ] (K : κ → Value) (V : ν → Value) (f k z H') [h : TkMS H m st K V f k z H'] : TkMS (A :: H) m st K V f k z (A :: H') := ⟨ent.trans (star_mono (ent.refl A) h.tk) (star_left_comm _ _ _)⟩
instance TkMS.hd (H : List HProp) (m : Value) (st : Int) {κ ν : Type} [DecidableEq κ] (K : κ → Value) (V : ν → Value) (f k z) : TkMS (mpS K V m f k z st :: H) m st K V f k z H := ⟨ent.refl _⟩
theorem upd_upd {κ ν : Type} [DecidableEq κ] (f : κ → Option ν) (k : κ) (v u : ν) : upd (upd f k v) k u = upd f k u := by
  funext x; unfold upd; split <;> rfl
theorem Eff.esto {t : TypeId} {m vv : Value} {st : Int} {κ ν : Type} [DecidableEq κ] {K : κ → Value} {V : ν → Value} {f : κ → Option ν} {k : κ} {z v : ν} {H' : List HProp} [tk : TkMS H m st K V f k z H'] [vi : KeyI V vv v]
    (kn : Kn undef (mp K V m (upd f k v) :: H')) : Eff P w0 (.esto t m (.int .i64 st) vv) ty H Kn := by
  intro w N hs hn
  obtain ⟨_, hle, f1, g, hok, rfl, ⟨b, es, c, l, e, rfl, h2, M, he1, he2, rfl⟩, hG⟩ := hs.2.mono tk.tk
  have hb : w.heap[b]? = some (.map es c) := hle b _ _ (Hp.add_left h2)
  obtain ⟨j, hj⟩ := List.getElem?_of_mem he1
  have hjl : j < l.length := (List.getElem?_eq_some_iff.1 hj).1
  have hfe : findE k l 0 = some (j, e.val) := by
    cases h : findE k l 0 with
    | none => exact absurd he2 (findE_none k l 0 h e he1)
    | some p =>
      obtain ⟨j0, v0⟩ := p
      obtain ⟨e0, _, h4, h5, h6, _⟩ := findE_at k l 0 j0 v0 h
      simp only [Nat.sub_zero] at h4
      have hj0 : j0 = j := by
        refine nodup_idx (x := k) M.keys ?_ ?_
        · rw [List.getElem?_map, h4, Option.map_some, h5]
        · rw [List.getElem?_map, hj, Option.map_some, he2]
      subst hj0
      rw [h4] at hj; cases hj; rw [h6]
  obtain ⟨e', h5, h6, h7⟩ := M.put hfe v
  rw [hj] at h5; cases h5
  rw [upd_upd] at h7
  have hidx : es.findIdx? (fun x => ((x.born : Nat) : Int) == (e.born : Int)) = some j := by
    have hes : ∀ n, es[n]? = (l.map (toE K V))[n]? := fun n => by rw [← M.es, Array.getElem?_toList]
    rw [Array.findIdx?_eq_some_iff_getElem]
    have hsz : es.size = l.length := by rw [← Array.length_toList, M.es]; simp
    refine ⟨by omega, ?_, fun n hn => ?_⟩
    · have := hes j
      rw [List.getElem?_map, hj, Array.getElem?_eq_getElem (by omega)] at this
      simp at this; rw [this]; simp [toE]
    · have h8 := hes n
      rw [List.getElem?_map, List.getElem?_eq_getElem (by omega), Array.getElem?_eq_getElem (by omega)] at h8
      simp at h8; rw [h8]
      simp only [toE, beq_iff_eq, Int.natCast_inj, Bool.not_eq_true, beq_eq_false_iff_ne, ne_eq]
      intro h9
      have : n = j := nodup_idx (x := e.born) M.born.1 (by rw [List.getElem?_map, List.getElem?_eq_getElem (by omega), Option.map_some, h9]) (by rw [List.getElem?_map, hj, Option.map_some])
      omega
  have hmod : (es.modify j fun e => { e with val := V v }) = es.modify j fun e => { e with key := K k, val := V v } := by
    apply Array.ext'
    apply List.ext_getElem?
    intro n
    simp only [Array.getElem?_toList, Array.getElem?_modify]
    by_cases hn : j = n
    · subst hn
      have : es[j]? = some (toE K V e) := by
        have : es[j]? = (l.map (toE K V))[j]? := by rw [← M.es, Array.getElem?_toList]
        rw [this, List.getElem?_map, hj]; rfl
      rw [if_pos rfl, if_pos rfl, this]; simp [toE, he2]
    · rw [if_neg hn, if_neg hn]
  have : ((VOp.esto t (.map (some b)) (.int .i64 (e.born : Int)) vv).exec ty).run P w = .ok .skip { w with heap := w.heap.setIfInBounds b (.map (es.modify j fun e => { e with key := K k, val := V v }) c) } := by
    refine exec_u ?_
    have hg : ∀ {α : Type} (g : Obj → Sem α), (getObj b >>= g).run P w = (g (.map es c)).run P w := fun g => by
      show (Sem.bind (Sem.getObj b .pure) g).run P w = _
      simp only [Sem.bind, Sem.run, hb]
    unfold Instr.entryStore
    simp only []
    rw [hg]
    simp only [asInt, asIntOf, pure_bind, hidx]
    rw [run_setObj hb (fun _ _ _ h => by cases h), ← vi.k, hmod]
  rw [this]
  refine hn _ _ _ kn ⟨hs.1.trans ⟨rfl, rfl, rfl, by simp⟩, ?_⟩
  have hpt : sat w (star (pt b (.map es c)) (stars H')) := ⟨_, hle, f1, g, hok, rfl, h2, hG⟩
  exact (sat.set (o := .map es c) (heap_set hb) hpt).mono (star_mono (fun h hh => ⟨b, _, c, _, rfl, hh, h7⟩) (ent.refl _))
/-- The entry just asked for, asked for once more. -/
class RdMS (H : List HProp) (m : Value) {κ : outParam Type} {ν : outParam Type} [d : outParam (DecidableEq κ)] (K : outParam (κ → Value)) (V : outParam (ν → Value)) (f : outParam (κ → Option ν)) (k : outParam κ) (z : outParam ν) : Prop where
  rd : ∀ w, sat w (stars H) → ∃ b es clock l, m = .map (some b) ∧ w.heap[b]? = some (.map es clock) ∧ MapOk K V es clock (upd f k ((f k).getD z)) l
instance RdMS.tl (A : HProp) (H : List HProp) (m : Value) {κ ν : Type} [DecidableEq κ] (K : κ → Value) (V : ν → Value) (f k z) [h : RdMS H m K V f k z] : RdMS (A :: H) m K V f k z := ⟨fun w hw => h.rd w hw.right⟩
instance RdMS.hd (H : List HProp) (m : Value) (st : Int) {κ ν : Type} [DecidableEq κ] (K : κ → Value) (V : ν → Value) (f k z) : RdMS (mpS K V m f k z st :: H) m K V f k z := ⟨fun w hw => by
  obtain ⟨h, l, b, es, c, es', e, h1, h2, h3, _⟩ := hw.left
  exact ⟨b, es, c, es', h1, l b _ _ h2, h3⟩⟩
instance Q1.lookupS (t kt et : TypeId) (m kv : Value) {κ ν : Type} [DecidableEq κ] (K : κ → Value) (V : ν → Value) (f : κ → Option ν) (k : κ) (z : ν) [u : TyU P t (.map kt et)] [r : RdMS H m K V f k z] [kk : KeyT P kt K] [ki : KeyI K kv k] [zz : ZV P et V z] :
    Q1 P (.lookup t m kv false) ty H True (V ((f k).getD z)) := ⟨fun _ w hw => by
  obtain ⟨b, es, c, l, rfl, hb, M⟩ := r.rd w hw
  refine exec_v ?_
  rw [← ki.k, run_lookup u.u zz.z hb M (ok := false)]
  have : upd f k ((f k).getD z) k = some ((f k).getD z) := by simp [upd]
  rw [this]; rfl⟩
instance (priority := low) Fl1.mpS (m : Value) {κ ν : Type} [DecidableEq κ] (K : κ → Value) (V : ν → Value) (f : κ → Option ν) (k : κ) (z : ν) [r : RdMS H m K V f k z] : Fl1 H m := ⟨fun w hw => by
  obtain ⟨b, es, c, l, rfl, _⟩ := r.rd w hw; exact ⟨rfl, rfl⟩⟩
/-! keys -/
theorem findNow_int {k : IntKind} {ν : Type} (V : ν → Value) (d : TypeDesc) (hd : ∃ k', d = .int k') : ∀ (es : List (Ent Int ν)) (x : Int) (i : Nat), Instr.findNow d (.int k x) (es.map (toE (kI k) V)) i = some ((findE x es i).map fun p => (p.1, V p.2))
  | [], _, _ => rfl
  | e :: es, x, i => by
    obtain ⟨k', rfl⟩ := hd
    have ih := findNow_int (k := k) V (.int k') ⟨k', rfl⟩ es x (i + 1)
    simp only [List.map_cons, Instr.findNow, toE, kI, Instr.sameNow, if_true, findE]
    by_cases h : x = e.key
    · subst h; simp
    · rw [if_neg h]
      have : (x == e.key) = false := by simpa using h
      rw [this]; exact ih
theorem KeyT.int {kt : TypeId} {k k' : IntKind} (u : P.underlying kt = some (.int k')) : KeyT P kt (kI k) where
  check := fun b x w => by
    show (Instr.checkKey b (9999 + 1) kt (.int k x)).run P w = _
    unfold Instr.checkKey
    rw [run_bind', run_underlying u]; rfl
  find := fun V es x w => by
    unfold Instr.findKey
    rw [run_bind', run_underlying u]
    simp only
    have := findNow_int (k := k) V (.int k') ⟨k', rfl⟩ es x 0
    show Sem.run P (match Instr.findNow (.int k') (.int k x) (es.map (toE (kI k) V)) 0 with | some r => _ | none => _) w = _
    rw [this]; rfl
  same := fun x => by simp [kI, Instr.sameBits]
/-- Keys of a struct of two whole numbers. -/
theorem KeyT.two {T : Type} [DecidableEq T] {E : Enc T} {kt : TypeId} {f1 f2 : Field} {k1 k2 : IntKind} {a b : T → Int} (u : P.underlying kt = some (.struct #[f1, f2])) (hs : P.stoodInHeld kt = false) (h1 : f1.name ≠ "_") (h2 : f2.name ≠ "_") (o1 : f1.offset = 0) (o2 : f2.offset = 1)
    (t1 : ∃ k', P.underlying f1.type = some (.int k')) (t2 : ∃ k', P.underlying f2.type = some (.int k')) (hc : ∀ x, E.cells x = [.int k1 (a x), .int k2 (b x)]) (inj : ∀ x y, a x = a y → b x = b y → x = y) : KeyT P kt (kS E) := by
  obtain ⟨j1, t1⟩ := t1
  obtain ⟨j2, t2⟩ := t2
  have ag1 : Agg P f1.type false := ⟨by rw [t1]; rfl⟩
  have ag2 : Agg P f2.type false := ⟨by rw [t2]; rfl⟩
  have p1 : ∀ (x : T) (w : World), (part f1.type (E.cells x).toArray f1.offset).run P w = .ok (.int k1 (a x)) w := fun x w => run_part (.inl ⟨ag1, by rw [o1, hc]; rfl⟩)
  have p2 : ∀ (x : T) (w : World), (part f2.type (E.cells x).toArray f2.offset).run P w = .ok (.int k2 (b x)) w := fun x w => run_part (.inl ⟨ag2, by rw [o2, hc]; rfl⟩)
  have eq1 : ∀ (j : IntKind) (t : TypeId) (k : IntKind) (x y : Int) (w : World), P.underlying t = some (.int j) → (Op.equalIn 9999 t (.int k x) (.int k y)).run P w = .ok (x == y) w := fun j t k x y w ht => by
    show (Op.equalIn (9998 + 1) t _ _).run P w = _
    unfold Op.equalIn
    rw [run_bind', run_underlying ht]
    simp [run_pure]
  have eqS : ∀ (x y : T) (w : World), (Op.equal kt (kS E x) (kS E y)).run P w = .ok (decide (x = y)) w := fun x y w => by
    show (Op.equalIn (9999 + 1) kt _ _).run P w = _
    unfold Op.equalIn kS
    rw [run_bind', run_underlying u]
    simp only
    rw [run_bind']
    simp only [program, Sem.run, hs, Bool.false_eq_true, if_false]
    simp [h1, h2, run_bind', p1, p2, eq1 _ _ _ _ _ _ t1, eq1 _ _ _ _ _ _ t2]
    by_cases h : x = y
    · subst h; simp
    · by_cases ha : a x = a y
      · have hb : b x ≠ b y := fun hb => h (inj x y ha hb)
        simp [ha, hb, h]
      · simp [ha, h]
  have find : ∀ {ν : Type} (V : ν → Value) (es : List (Ent T ν)) (x : T) (i : Nat) (w : World), (Instr.findAsking kt (kS E x) (es.map (toE (kS E) V)) i).run P w = .ok ((findE x es i).map fun p => (p.1, V p.2)) w := by
    intro ν V es
    induction es with
    | nil => intro x i w; rfl
    | cons e es ih =>
      intro x i w
      simp only [List.map_cons, Instr.findAsking, findE]
      rw [run_bind', show (toE (kS E) V e).key = kS E e.key from rfl, eqS]
      simp only
      by_cases h : x = e.key
      · simp [h]; rfl
      · simp only [h, decide_false, if_false]; exact ih x (i + 1) w
  refine ⟨fun bb x w => ?_, fun V es x w => ?_, fun x => ?_⟩
  · show (Instr.checkKey bb (9999 + 1) kt (kS E x)).run P w = _
    have c1 : ∀ (j : IntKind) (t : TypeId) (k : IntKind) (y : Int) (w : World), P.underlying t = some (.int j) → (Instr.checkKey bb 9999 t (.int k y)).run P w = .ok () w := fun j t k y w ht => by
      show (Instr.checkKey bb (9998 + 1) t _).run P w = _
      unfold Instr.checkKey
      rw [run_bind', run_underlying ht]; rfl
    unfold Instr.checkKey kS
    rw [run_bind', run_underlying u]
    simp only
    simp [h1, h2, run_bind', p1, p2, c1 _ _ _ _ _ t1, c1 _ _ _ _ _ t2]
  · unfold Instr.findKey
    rw [run_bind', run_underlying u]
    simp only
    cases es with
    | nil => rfl
    | cons e es =>
      have : Instr.findNow (.struct #[f1, f2]) (kS E x) ((e :: es).map (toE (kS E) V)) 0 = none := rfl
      rw [this]
      exact find V (e :: es) x 0 w
  · unfold kS
    rw [hc]
    simp [Instr.sameBits]
end
end Go.Sl

namespace Go.Sl
open Go
set_option linter.unusedVariables false
set_option linter.unusedSectionVars false
/-! Opening and closing; many chunks at once; what is shared. -/
theorem St.o_ex {w0 w : World} {α : Sort _} {f : α → HProp} {H : List HProp} (h : St w0 (ex f :: H) w) : ∃ x, St w0 (f x :: H) w := by
  obtain ⟨h1, g, l, a, b, k, e, ⟨x, hx⟩, hb⟩ := h
  exact ⟨x, h1, g, l, a, b, k, e, hx, hb⟩
theorem St.o_prop {w0 w : World} {p : Prop} {H : List HProp} (h : St w0 (prop p :: H) w) : p ∧ St w0 H w := by
  obtain ⟨h1, g, l, a, b, k, e, hx, hb⟩ := h
  exact ⟨hx, h1, sat.right ⟨g, l, a, b, k, e, hx, hb⟩⟩
theorem stars_app : ∀ (L H : List HProp), went (star (stars L) (stars H)) (stars (L ++ H))
  | [], H => went.right _ _
  | A :: L, H => (went.of (star_assoc _ _ _)).trans (went.star (went.refl A) (stars_app L H))
theorem app_stars (L H : List HProp) : went (stars (L ++ H)) (star (stars L) (stars H)) := went.of (stars_append L H)
theorem St.o_stars {w0 w : World} {L H : List HProp} (h : St w0 (stars L :: H) w) : St w0 (L ++ H) w := h.conv (show ents (Sl.stars L :: H) (L ++ H) from stars_app L H)
theorem ents.ex {α : Sort _} {f : α → HProp} {H L : List HProp} (x : α) (k : ents H (f x :: L)) : ents H (ex f :: L) :=
  k.trans (went.star (fun h hx => ⟨h, fun _ _ e => e, x, hx⟩) (went.refl _))
theorem ents.prop {p : Prop} {H L : List HProp} (hp : p) (k : ents H L) : ents H (prop p :: L) := fun h x => by
  obtain ⟨h', s, y⟩ := k h x
  exact ⟨h', s, fun _ => none, h', fun b x y hx => by simp at hx, by funext b; rfl, hp, y⟩
theorem ents.slnil {T : Type} {E : Enc T} {H L : List HProp} (k : ents H L) : ents H (sl E (.slice none 0 0) [] :: L) := k.trans (went.of (sl_nil E _))
theorem ents.stars {L0 H L : List HProp} (k : ents H (L0 ++ L)) : ents H (stars L0 :: L) := k.trans (app_stars L0 L)
section
variable {P : Program} {w0 : World} {n : Nat} {ops : Array Oper} {Q : Exit → Act → World → Prop} {e : Env} {H L : List HProp} {l : List Oper} {c : Code} {x : Exit}
theorem Cd.ex {α : Sort _} {f : α → HProp} (h : ∀ y, Cd P w0 n c Q e (f y :: H)) : Cd P w0 n c Q e (ex f :: H) := fun a w ha hs => let ⟨y, hy⟩ := hs.o_ex; h y a w ha hy
theorem Ol.ex {α : Sort _} {f : α → HProp} (h : ∀ y, Ol P w0 n ops Q l e (f y :: H)) : Ol P w0 n ops Q l e (ex f :: H) := fun a w ha hs => let ⟨y, hy⟩ := hs.o_ex; h y a w ha hy
theorem Dn.ex {α : Sort _} {f : α → HProp} (h : ∀ y, Dn w0 n Q x e (f y :: H)) : Dn w0 n Q x e (ex f :: H) := fun a w ha hs => let ⟨y, hy⟩ := hs.o_ex; h y a w ha hy
theorem Cd.prop {p : Prop} (h : p → Cd P w0 n c Q e H) : Cd P w0 n c Q e (prop p :: H) := fun a w ha hs => h hs.o_prop.1 a w ha hs.o_prop.2
theorem Ol.prop {p : Prop} (h : p → Ol P w0 n ops Q l e H) : Ol P w0 n ops Q l e (prop p :: H) := fun a w ha hs => h hs.o_prop.1 a w ha hs.o_prop.2
theorem Dn.prop {p : Prop} (h : p → Dn w0 n Q x e H) : Dn w0 n Q x e (prop p :: H) := fun a w ha hs => h hs.o_prop.1 a w ha hs.o_prop.2
theorem Cd.stars (h : Cd P w0 n c Q e (L ++ H)) : Cd P w0 n c Q e (stars L :: H) := fun a w ha hs => h a w ha hs.o_stars
theorem Ol.stars (h : Ol P w0 n ops Q l e (L ++ H)) : Ol P w0 n ops Q l e (stars L :: H) := fun a w ha hs => h a w ha hs.o_stars
theorem Dn.stars (h : Dn w0 n Q x e (L ++ H)) : Dn w0 n Q x e (stars L :: H) := fun a w ha hs => h a w ha hs.o_stars
end
theorem Cd.cut {P : Program} {w0 : World} {n : Nat} {Q : Exit → Act → World → Prop} {K0 : Act → World → Prop} {e : Env} {H : List HProp} {c : Code} {α : Type} (E : α → Env) (I : α → List HProp)
    (h : ∀ K : Act → World → Prop, (∀ p, Dn w0 n (Exit.then K Q) .normal (E p) (I p)) → Cd P w0 n c (Exit.then K Q) e H) (k : ∀ p, Dn w0 n (Exit.then K0 Q) .normal (E p) (I p)) : Cd P w0 n c (Exit.then K0 Q) e H := h K0 k
theorem Cd.cut0 {P : Program} {w0 : World} {n : Nat} {Q : Exit → Act → World → Prop} {e : Env} {H : List HProp} {c : Code} {α : Type} (E : α → Env) (I : α → List HProp)
    (h : (∀ p, Dn w0 n Q .normal (E p) (I p)) → Cd P w0 n c Q e H) (k : ∀ p, Dn w0 n Q .normal (E p) (I p)) : Cd P w0 n c Q e H := h k
theorem Tk.sat {H H' : List HProp} {A : HProp} {w : World} (t : Tk H A H') (h : Sl.sat w (Sl.stars H)) : Sl.sat w A := (h.went t).left
/-! chunks that stay -/
class Pers (A : HProp) : Prop where dup : ent A (star A A)
instance {T : Type} (E : Enc T) (v : Value) (xs : List T) : Pers (slB true E v xs) := ⟨rsl_dup E v xs⟩
instance (b T l) : Pers (celB true b T l) := ⟨ro_dup b _⟩
theorem went_emp (A : HProp) (h : Hp) (x : A h) : star A A h → True := fun _ => trivial
instance (p : Prop) : Pers (prop p) := ⟨fun h x => ⟨fun _ => none, h, fun b x y hx => by simp at hx, by funext b; rfl, x, x⟩⟩
theorem ent_four {A B C D : HProp} : ent (star (star A B) (star C D)) (star (star A C) (star B D)) :=
  ent.trans (star_assoc _ _ _) (ent.trans (star_mono (ent.refl _) (star_left_comm _ _ _)) (star_assoc' _ _ _))
instance Pers.star (A B : HProp) [a : Pers A] [b : Pers B] : Pers (star A B) := ⟨ent.trans (star_mono a.dup b.dup) ent_four⟩
instance Pers.emp : Pers emp := ⟨fun h x => ⟨fun _ => none, h, fun b x y hx => by simp at hx, by funext b; rfl, trivial, trivial⟩⟩
theorem Pers.ex {α : Sort _} {f : α → HProp} (h : ∀ x, Pers (f x)) : Pers (ex f) := ⟨fun h' ⟨x, hx⟩ => star_mono (fun _ y => ⟨x, y⟩) (fun _ y => ⟨x, y⟩) h' ((h x).dup h' hx)⟩
instance Pers.nil : Pers (stars []) := Pers.emp
instance Pers.cons (A : HProp) (l : List HProp) [a : Pers A] [b : Pers (stars l)] : Pers (stars (A :: l)) := Pers.star A (stars l)
theorem Tk.hdp (A : HProp) (H : List HProp) [p : Pers A] : Tk (A :: H) A (A :: H) := went.of (ent.trans (star_mono p.dup (ent.refl _)) (star_assoc _ _ _))
/-! many chunks -/
def Big {α : Type} (f : α → HProp) (l : List α) : HProp := stars (l.map f)
theorem Pers.big {α : Type} {f : α → HProp} (h : ∀ x, Pers (f x)) : ∀ l, Pers (Big f l)
  | [] => Pers.emp
  | x :: l => by have := Pers.big h l; have := h x; exact Pers.star (f x) (Big f l)
theorem stars_take : ∀ (l : List HProp) (i : Nat) (A : HProp), l[i]? = some A → ent (stars l) (star A (stars (l.eraseIdx i)))
  | B :: l, 0, A, h => by simp at h; subst h; exact ent.refl _
  | B :: l, i + 1, A, h => by
    have := stars_take l i A (by simpa using h)
    exact ent.trans (star_mono (ent.refl B) this) (star_left_comm _ _ _)
theorem stars_put : ∀ (l : List HProp) (i : Nat) (A : HProp), i < l.length → ent (star A (stars (l.eraseIdx i))) (stars (l.set i A))
  | B :: l, 0, A, h => ent.refl _
  | B :: l, i + 1, A, h => by
    have := stars_put l i A (by simpa using h)
    exact ent.trans (star_left_comm _ _ _) (star_mono (ent.refl B) this)
theorem map_eraseIdx {α β : Type} (f : α → β) : ∀ (l : List α) (i : Nat), (l.eraseIdx i).map f = (l.map f).eraseIdx i
  | [], _ => rfl
  | _ :: _, 0 => rfl
  | x :: l, i + 1 => by simp [map_eraseIdx f l i]
theorem Big.take {α : Type} {f : α → HProp} {l : List α} {i : Nat} {x : α} (h : l[i]? = some x) : ent (Big f l) (star (f x) (Big f (l.eraseIdx i))) := by
  unfold Big
  rw [map_eraseIdx]
  exact stars_take _ i _ (by simp [h])
theorem Big.put {α : Type} {f : α → HProp} {l : List α} {i : Nat} (x : α) (h : i < l.length) : ent (star (f x) (Big f (l.eraseIdx i))) (Big f (l.set i x)) := by
  unfold Big
  rw [map_eraseIdx, List.map_set]
  exact stars_put _ i _ (by simpa using h)
theorem Big.snoc {α : Type} {f : α → HProp} : ∀ (l : List α) (x : α), ent (star (f x) (Big f l)) (Big f (l ++ [x]))
  | [], x => ent.refl _
  | y :: l, x => ent.trans (star_left_comm _ _ _) (star_mono (ent.refl (f y)) (Big.snoc l x))
/-! giving away -/
theorem sat.flip {w : World} {A : HProp} {r : Hp} (h : sat w (star (fun h => h = r) A)) (hr : ∀ b x, r b = some x → x.1 = false) : sat w (star (fun h => h = fun b => (r b).map fun x => (true, x.2)) A) := by
  obtain ⟨_, l, f, g, k, rfl, rfl, a⟩ := h
  have hg : ∀ b, f b ≠ none → g b = none := fun b hb => by
    cases h1 : f b with
    | none => exact absurd h1 hb
    | some x =>
      cases h2 : g b with
      | none => rfl
      | some y =>
        have := (k b x y h1 h2).2
        rw [hr b x h1] at this; cases this
  refine ⟨Hp.add (fun b => (f b).map fun x => (true, x.2)) g, fun b r o h => ?_, _, g, fun b x y hx hy => ?_, rfl, rfl, a⟩
  · rcases Hp.add_some h with e | e
    · simp only [Option.map_eq_some_iff] at e
      obtain ⟨x, hx, e⟩ := e
      cases e
      exact l b x.1 x.2 (Hp.add_left hx)
    · exact l b r o (Hp.add_right k e)
  · cases h1 : f b with
    | none => simp [h1] at hx
    | some z => rw [hg b (by simp [h1])] at hy; cases hy
theorem star_ex {A : HProp} {B : HProp} : ent (star A B) (ex fun r : { r : Hp // A r } => star (fun h => h = r.1) B) := by
  rintro _ ⟨f, g, k, rfl, a, b⟩
  exact ⟨⟨f, a⟩, f, g, k, rfl, rfl, b⟩
/-- Shared henceforth: A's blocks are given away. -/
class Share (A : HProp) (B : outParam HProp) : Prop where
  own : ∀ h, A h → ∃ h', Hp.sub h' h ∧ A h' ∧ ∀ b x, h' b = some x → x.1 = false
  to : ∀ h, A h → (∀ b x, h b = some x → x.1 = false) → B (fun b => (h b).map fun x => (true, x.2))
theorem St.give {w0 w : World} {A B : HProp} {H : List HProp} [s : Share A B] (h : St w0 (A :: H) w) : St w0 (B :: H) w := by
  obtain ⟨h1, h2⟩ := h
  refine ⟨h1, ?_⟩
  obtain ⟨_, l, f, g, k, rfl, a, b⟩ := h2
  obtain ⟨f', sf, a', fr⟩ := s.own f a
  have : sat w (star (fun h => h = f') (stars H)) := ⟨Hp.add f' g, fun b r o e => by
    rcases Hp.add_some e with e | e
    · exact l b r o (Hp.add_left (sf b _ e))
    · exact l b r o (Hp.add_right k e), f', g, fun b x y hx hy => k b x y (sf b x hx) hy, rfl, rfl, b⟩
  exact (sat.flip this fr).mono (star_mono (fun h hh => by subst hh; exact s.to f' a' fr) (ent.refl _))
theorem single_own {b : Nat} {o : Obj} : ∀ h : Hp, h b = some (false, o) → ∃ h' : Hp, Hp.sub h' h ∧ h' b = some (false, o) ∧ ∀ c x, h' c = some x → x.1 = false := fun h hb =>
  ⟨fun c => if c = b then some (false, o) else none, fun c x e => by
    by_cases hc : c = b
    · subst hc; simp at e; rw [← e]; exact hb
    · simp [hc] at e, by simp, fun c x e => by
    by_cases hc : c = b
    · subst hc; simp at e; rw [← e]
    · simp [hc] at e⟩
instance (b T l) : Share (celB false b T l) (celB true b T l) := ⟨fun h hb => single_own h hb, fun h hb _ => by show (h b).map _ = _; rw [show h b = _ from hb]; rfl⟩
instance {T : Type} (E : Enc T) (v : Value) (xs : List T) : Share (slB false E v xs) (slB true E v xs) := ⟨fun h hb => by
    rcases hb with hb | ⟨b, off, cap, c, ty, h1, h2, h3, h4, h5⟩
    · exact ⟨fun _ => none, fun _ _ e => (by cases e), .inl hb, fun _ _ e => by cases e⟩
    · obtain ⟨h', s, e, fr⟩ := single_own h h4
      exact ⟨h', s, .inr ⟨b, off, cap, c, ty, h1, h2, h3, e, h5⟩, fr⟩,
  fun h hb _ => by
    rcases hb with hb | ⟨b, off, cap, c, ty, h1, h2, h3, h4, h5⟩
    · exact .inl hb
    · exact .inr ⟨b, off, cap, c, (ty.1, 0, 0), h1, h2, h3, by show (h b).map _ = _; rw [h4]; rfl, h5⟩⟩
instance Share.emp : Share emp emp := ⟨fun h _ => ⟨fun _ => none, fun _ _ e => (by cases e), trivial, fun _ _ e => by cases e⟩, fun _ _ _ => trivial⟩
instance Share.prop (p : Prop) : Share (prop p) (prop p) := ⟨fun h x => ⟨fun _ => none, fun _ _ e => (by cases e), x, fun _ _ e => by cases e⟩, fun _ x _ => x⟩
theorem Share.star (A B C D : HProp) [a : Share A B] [c : Share C D] : Share (star A C) (star B D) := ⟨by
    rintro _ ⟨f, g, k, rfl, x, y⟩
    obtain ⟨f', sf, x', fr⟩ := a.own f x
    obtain ⟨g', sg, y', gr⟩ := c.own g y
    refine ⟨Hp.add f' g', fun n z e => ?_, ⟨f', g', fun n u v hu hv => k n u v (sf n u hu) (sg n v hv), rfl, x', y'⟩, fun n z e => ?_⟩
    · rcases Hp.add_some e with e | e
      · exact Hp.add_left (sf n z e)
      · exact Hp.add_right k (sg n z e)
    · rcases Hp.add_some e with e | e
      · exact fr n z e
      · exact gr n z e, by
    rintro _ ⟨f, g, k, rfl, x, y⟩ hr
    have hf : ∀ b z, f b = some z → z.1 = false := fun b z e => hr b z (Hp.add_left e)
    have hg : ∀ b z, g b = some z → z.1 = false := fun b z e => hr b z (Hp.add_right k e)
    refine ⟨_, _, fun n u v hu hv => ?_, ?_, a.to f x hf, c.to g y hg⟩
    · cases h1 : f n with
      | none => simp [h1] at hu
      | some z =>
        cases h2 : g n with
        | none => simp [h2] at hv
        | some z2 => have := (k n z z2 h1 h2).2; rw [hf n z h1] at this; cases this
    · funext n
      cases h1 : f n with
      | none => rw [Hp.add_none h1, Hp.add_none (by simp [h1])]
      | some z => rw [Hp.add_left h1, Hp.add_left (x := (true, z.2)) (by simp [h1])]; rfl⟩
instance Share.nil : Share (stars []) (stars []) := Share.emp
instance Share.cons (A B : HProp) (l m : List HProp) [a : Share A B] [b : Share (stars l) (stars m)] : Share (stars (A :: l)) (stars (B :: m)) := Share.star A B (stars l) (stars m)
theorem Share.big {α : Type} {f g : α → HProp} (h : ∀ x, Share (f x) (g x)) : ∀ l, Share (Big f l) (Big g l)
  | [] => Share.emp
  | x :: l => by have := Share.big h l; have := h x; exact Share.star (f x) (g x) (Big f l) (Big g l)
theorem Tk.stars {H L H' : List HProp} (k : TkL H L H') : Tk H (Sl.stars L) H' := went.trans k (app_stars L H')
/-- A value that is called: what it asks for, and what it answers. -/
def FnV {P : Program} (fv : Value) (A : HProp) {α : Type} (args : α → List Value) (dom : α → Prop) (val : α → Value) : Prop :=
  ∃ f first caps, fv = .func (.func f) first caps ∧ HasF P f ∧ ∀ x, dom x → Sp P f (first.toList ++ args x ++ caps.toList) [A] (fun _ : Unit => True) (fun _ => val x) (fun _ => [A])
theorem Eff.callV {P : Program} {ty : TypeId} {H : List HProp} {w0 : World} {K : Value → List HProp → Prop} {fv : Value} {A : HProp} {α : Type} {args : α → List Value} {dom : α → Prop} {val : α → Value} {as : List Value} {R : List HProp} (F : FnV (P := P) fv A args dom val) (x : α) (hx : dom x) (ha : as = args x)
    (tk : TkL H [A] R) (k : K (val x) (A :: R)) : Eff P w0 (.call fv as) ty H K := by
  obtain ⟨f, first, caps, rfl, hf, S⟩ := F
  subst ha
  exact Eff.call (S x hx) rfl tk fun _ _ => k
theorem rws_len {r : Bool} {T : Type} {E : Enc T} {rows : List Value} {xss : List (List T)} {w : World} (h : sat w (rws r E rows xss)) : rows.length = xss.length := by obtain ⟨_, _, _, _, _, _, h, _⟩ := h; exact h
instance {T : Type} (E : Enc T) (rows : List Value) (xss : List (List T)) : Pers (rws true E rows xss) := by
  have h : Pers (Sl.stars ((rows.zip xss).map fun p => slB true E p.1 p.2)) := Pers.big (fun _ => inferInstance) _
  have h2 : Pers (fun _ : Hp => rows.length = xss.length) := inferInstanceAs (Pers (prop _))
  exact Pers.star _ _
theorem rd_mem {T : Type} [Dfl T] {xs : List T} {i : Int} (h0 : 0 ≤ i) (h : i < xs.length) : rd xs i ∈ xs := by
  rw [rd_eq (by omega)]; exact List.getElem_mem _
/-- The numbers below n. -/
def ints (n : Nat) : List Int := (List.range n).map fun k : Nat => (Nat.cast k : Int)
theorem ints_succ (n : Nat) : ints (n + 1) = ints n ++ [(n : Int)] := by simp [ints, List.range_succ]
theorem ints_mem {n : Nat} {a : Int} : a ∈ ints n ↔ 0 ≤ a ∧ a < n := by
  simp only [ints, List.mem_map, List.mem_range]
  constructor
  · rintro ⟨k, hk, rfl⟩; omega
  · intro ⟨h0, h1⟩; exact ⟨a.toNat, by omega, by omega⟩
theorem ints_length (n : Nat) : (ints n).length = n := by simp [ints]
theorem take_rd {T : Type} [Dfl T] {xs : List T} {k : Nat} (h : k < xs.length) : xs.take (k + 1) = xs.take k ++ [rd xs k] := by
  rw [List.take_succ_eq_append_getElem h, rd_eq (by simpa using h)]; simp
/-- One more row. -/
theorem rws_snoc {r : Bool} {T : Type} {E : Enc T} {rows : List Value} {xss : List (List T)} {v : Value} {xs : List T} : went (star (slB r E v xs) (rws r E rows xss)) (rws r E (rows ++ [v]) (xss ++ [xs])) := by
  rintro _ ⟨f, g, k, rfl, a, g1, g2, k2, rfl, hl, b⟩
  have h1 : star (slB r E v xs) (Sl.stars ((rows.zip xss).map fun p => slB r E p.1 p.2)) (Hp.add f g2) :=
    ⟨f, g2, fun n x y hx hy => k n x y hx (Hp.add_right k2 hy), rfl, a, b⟩
  have h2 := Big.snoc (f := fun p : Value × List T => slB r E p.1 p.2) (rows.zip xss) (v, xs) _ h1
  have hz : (rows ++ [v]).zip (xss ++ [xs]) = rows.zip xss ++ [(v, xs)] := by rw [List.zip_append hl]; rfl
  refine ⟨Hp.add f g2, fun n x e => ?_, fun _ => none, Hp.add f g2, fun b x y hx => by simp at hx, by funext b; rfl, by simp [hl], ?_⟩
  · rcases Hp.add_some e with e | e
    · exact Hp.add_left e
    · exact Hp.add_right k (Hp.add_right k2 e)
  · rw [hz]; exact h2
theorem rws_nil {r : Bool} {T : Type} {E : Enc T} (A : HProp) : went A (star (rws r E [] []) A) := fun h x =>
  ⟨h, fun _ _ e => e, fun _ => none, h, fun b x y hx => by simp at hx, by funext b; rfl, ⟨fun _ => none, fun _ => none, fun b x y hx => by simp at hx, by funext b; rfl, rfl, trivial⟩, x⟩
theorem ents.snoc {r : Bool} {T : Type} {E : Enc T} {rows : List Value} {xss : List (List T)} {v : Value} {xs : List T} {H H1 H2 L : List HProp} (t : Tk H (slB r E v xs) H1) (t2 : Tk H1 (rws r E rows xss) H2) (k : ents H2 L) : ents H (rws r E (rows ++ [v]) (xss ++ [xs]) :: L) :=
  went.trans t (went.trans (went.star (went.refl _) t2) (went.trans (went.of (star_assoc' _ _ _)) (went.star rws_snoc k)))
theorem ents.rnil {r : Bool} {T : Type} {E : Enc T} {H L : List HProp} (k : ents H L) : ents H (rws r E [] [] :: L) := k.trans (rws_nil _)
instance Share.rws {T : Type} (E : Enc T) (rows : List Value) (xss : List (List T)) : Share (rws false E rows xss) (rws true E rows xss) := by
  have h : Share (Sl.stars ((rows.zip xss).map fun p => slB false E p.1 p.2)) (Sl.stars ((rows.zip xss).map fun p => slB true E p.1 p.2)) := Share.big (fun _ => inferInstance) _
  have h2 : Share (fun _ : Hp => rows.length = xss.length) (fun _ : Hp => rows.length = xss.length) := inferInstanceAs (Share (Sl.prop _) (Sl.prop _))
  exact Share.star _ _ _ _
theorem Cd.share {P : Program} {w0 : World} {n : Nat} {Q : Exit → Act → World → Prop} {e : Env} {H H' : List HProp} {c : Code} {A B : HProp} (t : Tk H A H') [s : Share A B] (h : Cd P w0 n c Q e (B :: H')) : Cd P w0 n c Q e H :=
  fun a w ha hs => h a w ha (St.give (A := A) (hs.conv (show ents H (A :: H') from t)))
theorem Dn.share {w0 : World} {n : Nat} {Q : Exit → Act → World → Prop} {e : Env} {H H' : List HProp} {x : Exit} {A B : HProp} (t : Tk H A H') [s : Share A B] (h : Dn w0 n Q x e (B :: H')) : Dn w0 n Q x e H :=
  fun a w ha hs => h a w ha (St.give (A := A) (hs.conv (show ents H (A :: H') from t)))
theorem Ol.share {P : Program} {w0 : World} {n : Nat} {ops : Array Oper} {l : List Oper} {Q : Exit → Act → World → Prop} {e : Env} {H H' : List HProp} {A B : HProp} (t : Tk H A H') [s : Share A B] (h : Ol P w0 n ops Q l e (B :: H')) : Ol P w0 n ops Q l e H :=
  fun a w ha hs => h a w ha (St.give (A := A) (hs.conv (show ents H (A :: H') from t)))
/-- The first chunk is turned round to the end. -/
theorem St.turn {w0 w : World} {A : HProp} {H : List HProp} (h : St w0 (A :: H) w) : St w0 (H ++ [A]) w := by
  refine h.conv (show ents (A :: H) (H ++ [A]) from ?_)
  refine (went.of (star_comm _ _)).trans ?_
  have : went (star (Sl.stars H) A) (star (Sl.stars H) (Sl.stars [A])) := went.star (went.refl _) (fun h x => ⟨h, fun _ _ e => e, h, fun _ => none, fun b x y hx hy => (by simp at hy), by funext b; simp [Hp.add]; cases h b <;> rfl, x, trivial⟩)
  exact this.trans (stars_app H [A])
end Go.Sl

