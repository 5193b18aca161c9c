/- A small separation logic over the model, part 1: its rules are sound. Conditions: those that each theorem states. -/
import Derived.WalkKit
import Derived.Deep.LoopGhost
import Derived.Orders
/-! A small separation logic over the model: heaps, walks, regions that draw their order. -/
namespace Go.Sl
open Go
/-! Heaps with shared read-only blocks, and predicates over them. -/
abbrev Hp := Nat → Option (Bool × Obj)
abbrev HProp := Hp → Prop
def Hp.le (h : Hp) (w : World) : Prop := ∀ b r o, h b = some (r, o) → w.heap[b]? = some o
def Hp.ok (f g : Hp) : Prop := ∀ b x y, f b = some x → g b = some y → x = y ∧ x.1 = true
def Hp.add (f g : Hp) : Hp := fun b => match f b with | some x => some x | none => g b
theorem Hp.add_left {f g : Hp} {b x} (h : f b = some x) : Hp.add f g b = some x := by simp [Hp.add, h]
theorem Hp.add_none {f g : Hp} {b} (h : f b = none) : Hp.add f g b = g b := by simp [Hp.add, h]
theorem Hp.add_right {f g : Hp} (k : Hp.ok f g) {b x} (h : g b = some x) : Hp.add f g b = some x := by
  cases e : f b with
  | none => rw [Hp.add_none e, h]
  | some y => rw [Hp.add_left e, (k b y x e h).1]
theorem Hp.ok_comm {f g : Hp} (k : Hp.ok f g) : Hp.ok g f := fun b x y hx hy =>
  let ⟨e, r⟩ := k b y x hy hx; ⟨e.symm, e ▸ r⟩
theorem Hp.add_comm {f g : Hp} (k : Hp.ok f g) : Hp.add f g = Hp.add g f := by
  funext b
  cases e : f b with
  | some x => rw [Hp.add_left e, Hp.add_right (Hp.ok_comm k) e]
  | none =>
    rw [Hp.add_none e]
    cases e2 : g b with
    | some y => rw [Hp.add_left e2]
    | none => rw [Hp.add_none e2, e]
theorem Hp.add_some {f g : Hp} {b x} (h : Hp.add f g b = some x) : f b = some x ∨ g b = some x := by
  cases e : f b with
  | some y => rw [Hp.add_left e] at h; exact .inl h
  | none => rw [Hp.add_none e] at h; exact .inr h
theorem Hp.add_assoc (f g h : Hp) : Hp.add (Hp.add f g) h = Hp.add f (Hp.add g h) := by
  funext b
  cases e : f b <;> cases e2 : g b <;> simp [Hp.add, e, e2]
theorem Hp.ok_add {f g h : Hp} (k : Hp.ok (Hp.add f g) h) (kfg : Hp.ok f g) : Hp.ok f h ∧ Hp.ok g h :=
  ⟨fun b x y hx hy => k b x y (Hp.add_left hx) hy, fun b x y hx hy => k b x y (Hp.add_right kfg hx) hy⟩
theorem Hp.add_ok {f g h : Hp} (a : Hp.ok f h) (b : Hp.ok g h) : Hp.ok (Hp.add f g) h := fun c x y hx hy => by
  rcases Hp.add_some hx with e | e
  · exact a c x y e hy
  · exact b c x y e hy
def star (A B : HProp) : HProp := fun h => ∃ f g, Hp.ok f g ∧ h = Hp.add f g ∧ A f ∧ B g
def emp : HProp := fun _ => True
def stars : List HProp → HProp
  | [] => emp
  | A :: l => star A (stars l)
def ent (A B : HProp) : Prop := ∀ h, A h → B h
theorem ent.refl (A : HProp) : ent A A := fun _ h => h
theorem ent.trans {A B C : HProp} (p : ent A B) (q : ent B C) : ent A C := fun h x => q h (p h x)
theorem star_mono {A B C D : HProp} (p : ent A C) (q : ent B D) : ent (star A B) (star C D) :=
  fun _ ⟨f, g, k, e, a, b⟩ => ⟨f, g, k, e, p f a, q g b⟩
theorem star_comm (A B : HProp) : ent (star A B) (star B A) :=
  fun _ ⟨f, g, k, e, a, b⟩ => ⟨g, f, Hp.ok_comm k, e.trans (Hp.add_comm k), b, a⟩
theorem star_assoc (A B C : HProp) : ent (star (star A B) C) (star A (star B C)) := by
  rintro _ ⟨_, h, k, rfl, ⟨f, g, k2, rfl, a, b⟩, c⟩
  obtain ⟨k3, k4⟩ := Hp.ok_add k k2
  exact ⟨f, Hp.add g h, Hp.ok_comm (Hp.add_ok (Hp.ok_comm k2) (Hp.ok_comm k3)), Hp.add_assoc f g h, a, g, h, k4, rfl, b, c⟩
theorem star_assoc' (A B C : HProp) : ent (star A (star B C)) (star (star A B) C) :=
  ent.trans (star_comm _ _) (ent.trans (star_mono (star_comm _ _) (ent.refl _)) (ent.trans (star_assoc C B A)
    (ent.trans (star_comm _ _) (star_mono (star_comm B A) (ent.refl _)))))
theorem star_left_comm (A B C : HProp) : ent (star A (star B C)) (star B (star A C)) :=
  ent.trans (star_assoc' A B C) (ent.trans (star_mono (star_comm A B) (ent.refl _)) (star_assoc B A C))
theorem stars_append (l m : List HProp) : ent (stars (l ++ m)) (star (stars l) (stars m)) := by
  induction l with
  | nil => exact fun h x => ⟨fun _ => none, h, fun b x y hx => by simp at hx, by funext b; rfl, trivial, x⟩
  | cons A l ih => exact ent.trans (star_mono (ent.refl A) ih) (star_assoc' A (stars l) (stars m))
theorem emp_star (A : HProp) : ent A (star emp A) :=
  fun h x => ⟨fun _ => none, h, fun b x y hx => by simp at hx, by funext b; rfl, trivial, x⟩
theorem stars_append' (l m : List HProp) (hm : True) : ent (star (stars l) (stars m)) (star (stars l) (stars m)) := ent.refl _
/-- A predicate's pure part. -/
def prop (p : Prop) : HProp := fun _ => p
def ex {α : Sort _} (f : α → HProp) : HProp := fun h => ∃ x, f x h
/-- The block is ours, or it is shared and never written again. -/
def pt (b : Nat) (o : Obj) : HProp := fun h => h b = some (false, o)
def ro (b : Nat) (o : Obj) : HProp := fun h => h b = some (true, o)
def sat (w : World) (A : HProp) : Prop := ∃ h, Hp.le h w ∧ A h
theorem sat.mono {w : World} {A B : HProp} (p : ent A B) (h : sat w A) : sat w B := let ⟨f, l, a⟩ := h; ⟨f, l, p f a⟩
theorem sat.left {w : World} {A B : HProp} (h : sat w (star A B)) : sat w A := by
  obtain ⟨_, l, f, g, k, rfl, a, b⟩ := h
  exact ⟨f, fun b r o e => l b r o (Hp.add_left e), a⟩
theorem sat.right {w : World} {A B : HProp} (h : sat w (star A B)) : sat w B := sat.left (sat.mono (star_comm A B) h)
theorem sat.pt {w : World} {b o} (h : sat w (pt b o)) : w.heap[b]? = some o := let ⟨_, l, a⟩ := h; l b _ o a
theorem sat.ro {w : World} {b o} (h : sat w (ro b o)) : w.heap[b]? = some o := let ⟨_, l, a⟩ := h; l b _ o a
theorem sat.heap {w w' : World} {A : HProp} (e : w'.heap = w.heap) (h : sat w A) : sat w' A := by
  obtain ⟨f, l, a⟩ := h
  exact ⟨f, fun b r o x => by rw [e]; exact l b r o x, a⟩
theorem sat.push {w w' : World} {A : HProp} {o : Obj} (e : w'.heap = w.heap.push o) (h : sat w A) : sat w' (star (Sl.pt w.heap.size o) A) := by
  obtain ⟨f, l, a⟩ := h
  have hn : f w.heap.size = none := by
    cases e : f w.heap.size with
    | none => rfl
    | some x => have := l w.heap.size x.1 x.2 (by simpa using e); simp at this
  refine ⟨Hp.add (fun b => if b = w.heap.size then some (false, o) else none) f, ?_, _, f, ?_, rfl, by simp [Sl.pt], a⟩
  · intro b r p x
    rw [e]
    rcases Hp.add_some x with y | y
    · by_cases hb : b = w.heap.size
      · subst hb; simp at y; simp [y.2]
      · simp [hb] at y
    · have hb := l b r p y
      have : b < w.heap.size := by
        rcases Nat.lt_or_ge b w.heap.size with h | h
        · exact h
        · simp [Array.getElem?_eq_none h] at hb
      rw [Array.getElem?_push_lt this]
      simpa [Array.getElem?_eq_getElem this] using hb
  · intro b x y hx hy
    by_cases hb : b = w.heap.size
    · subst hb; rw [hn] at hy; cases hy
    · simp [hb] at hx
theorem sat.set {w w' : World} {A : HProp} {b : Nat} {o o' : Obj} (e : ∀ c, w'.heap[c]? = if c = b then some o' else w.heap[c]?) (h : sat w (star (Sl.pt b o) A)) : sat w' (star (Sl.pt b o') A) := by
  obtain ⟨_, l, f, g, k, rfl, a, c⟩ := h
  have hg : g b = none := by
    cases e : g b with
    | none => rfl
    | some x => have := k b _ x a e; simp at this
  refine ⟨Hp.add (fun c => if c = b then some (false, o') else none) g, ?_, _, g, ?_, rfl, by simp [Sl.pt], c⟩
  · intro c r p x
    rw [e c]
    by_cases hb : c = b
    · subst hb
      rcases Hp.add_some x with y | y
      · simp at y; simp [y.2]
      · rw [hg] at y; cases y
    · rcases Hp.add_some x with y | y
      · simp [hb] at y
      · rw [if_neg hb]; exact l c r p (Hp.add_right k y)
  · intro c x y hx hy
    by_cases hb : c = b
    · subst hb; rw [hg] at hy; cases hy
    · simp [hb] at hx
theorem ro_dup (b : Nat) (o : Obj) : ent (ro b o) (star (ro b o) (ro b o)) := by
  intro h x
  refine ⟨fun c => if c = b then some (true, o) else none, h, ?_, ?_, by simp [ro], x⟩
  · intro c y z hy hz
    by_cases hb : c = b
    · subst hb; simp at hy; subst hy; rw [x] at hz; cases hz; exact ⟨rfl, rfl⟩
    · simp [hb] at hy
  · funext c
    by_cases hb : c = b
    · subst hb; rw [Hp.add_left (by simp : _ = some (true, o)), x]
    · rw [Hp.add_none (by simp [hb])]
/-- What is ours may be given away as shared. -/
theorem sat.share {w : World} {A : HProp} {b : Nat} {o : Obj} (h : sat w (star (Sl.pt b o) A)) : sat w (star (Sl.ro b o) A) := by
  obtain ⟨_, l, f, g, k, rfl, a, c⟩ := h
  have hg : g b = none := by
    cases e : g b with
    | none => rfl
    | some x => have := k b _ x a e; simp at this
  refine ⟨Hp.add (fun c => if c = b then some (true, o) else none) g, ?_, _, g, ?_, rfl, by simp [Sl.ro], c⟩
  · intro c r p x
    by_cases hb : c = b
    · subst hb
      rcases Hp.add_some x with y | y
      · simp at y; obtain ⟨_, rfl⟩ := y; exact l c _ _ (Hp.add_left a)
      · rw [hg] at y; cases y
    · rcases Hp.add_some x with y | y
      · simp [hb] at y
      · exact l c r p (Hp.add_right k y)
  · intro c x y hx hy
    by_cases hb : c = b
    · subst hb; rw [hg] at hy; cases hy
    · simp [hb] at hx
theorem sat.ne {w : World} {A B : HProp} {b c : Nat} {o p : Obj} (h : sat w (star (Sl.pt b o) (star (Sl.pt c p) A))) : b ≠ c := by
  rintro rfl
  obtain ⟨_, l, f, g, k, rfl, a, f2, g2, k2, rfl, a2, _⟩ := h
  have := k b _ _ a (Hp.add_left a2)
  simp at this
/-- Less may be kept. -/
def Hp.sub (f g : Hp) : Prop := ∀ b x, f b = some x → g b = some x
def went (A B : HProp) : Prop := ∀ h, A h → ∃ h', Hp.sub h' h ∧ B h'
theorem went.refl (A : HProp) : went A A := fun h x => ⟨h, fun _ _ e => e, x⟩
theorem went.of {A B : HProp} (k : ent A B) : went A B := fun h x => ⟨h, fun _ _ e => e, k h x⟩
theorem went.trans {A B C : HProp} (p : went A B) (q : went B C) : went A C := fun h x =>
  let ⟨h1, s1, y⟩ := p h x; let ⟨h2, s2, z⟩ := q h1 y; ⟨h2, fun b v e => s1 b v (s2 b v e), z⟩
theorem went.star {A B C D : HProp} (p : went A C) (q : went B D) : went (star A B) (star C D) := by
  rintro _ ⟨f, g, k, rfl, a, b⟩
  obtain ⟨f', sf, c⟩ := p f a
  obtain ⟨g', sg, d⟩ := q g b
  refine ⟨Hp.add f' g', fun n x e => ?_, f', g', fun n x y hx hy => k n x y (sf n x hx) (sg n y hy), rfl, c, d⟩
  rcases Hp.add_some e with e | e
  · exact Hp.add_left (sf n x e)
  · exact Hp.add_right k (sg n x e)
theorem went.right (A B : HProp) : went (Sl.star A B) B := by
  rintro _ ⟨f, g, k, rfl, a, b⟩
  exact ⟨g, fun n x e => Hp.add_right k e, b⟩
theorem sat.went {w : World} {A B : HProp} (p : went A B) (h : sat w A) : sat w B := by
  obtain ⟨f, l, a⟩ := h
  obtain ⟨f', s, b⟩ := p f a
  exact ⟨f', fun n r o e => l n r o (s n _ e), b⟩
end Go.Sl

namespace Go.Sl
open Go
set_option linter.unusedVariables false
/-! Frames as lists; operations with their operands' values. -/
abbrev Env := List (Nat × Value)
def Env.get : Env → Nat → Option Value
  | [], _ => none
  | (k, v) :: e, t => match Nat.beq k t with | true => some v | false => Env.get e t
def Env.ev (e : Env) : Operand → Option Value
  | .tmp t => e.get t
  | .const v => some v
  | .global g => some (.pointer (some ⟨g, 0, none⟩))
  | .func f => some (.func (.func f) #[] #[])
def Env.put (e : Env) (d : Option Tmp) (v : Value) : Env := match d with | some t => (t, v) :: e | none => e
def Agr (e : Env) (n : Nat) (a : Act) : Prop := a.defers = [] ∧ a.tmps.size = n ∧ ∀ t v, e.get t = some v → a.tmps[t]? = some v
structure Ext (w0 w : World) : Prop where
  os : w.os = w0.os
  tape : w.tape = w0.tape
  output : w.output = w0.output
  size : w0.heap.size ≤ w.heap.size
theorem Ext.refl (w : World) : Ext w w := ⟨rfl, rfl, rfl, Nat.le_refl _⟩
theorem Ext.trans {a b c : World} (h : Ext a b) (k : Ext b c) : Ext a c := ⟨k.os.trans h.os, k.tape.trans h.tape, k.output.trans h.output, Nat.le_trans h.size k.size⟩
def St (w0 : World) (H : List HProp) (w : World) : Prop := Ext w0 w ∧ sat w (stars H)
def Rd1 (e : Env) (op : Op) (a : Act) : Prop := ∀ x, x ∈ op.operands → ∀ v, e.ev x = some v → a.eval x = v
theorem Agr.ev {e : Env} {n} {a : Act} (h : Agr e n a) {x : Operand} {v} (hx : e.ev x = some v) : a.eval x = v := by
  cases x with
  | tmp t => have := h.2.2 t v hx; simp [Act.eval, Array.getD_eq_getD_getElem?, this]
  | const u => simpa [Env.ev, Act.eval] using hx
  | global g => simpa [Env.ev, Act.eval] using hx
  | func f => simpa [Env.ev, Act.eval] using hx
theorem Agr.rd {e : Env} {n} {a : Act} (h : Agr e n a) (op : Op) : Rd1 e op a := fun x _ v hv => h.ev hv
/-- The destination lies in the frame. -/
def okD (d : Option Tmp) (n : Nat) : Bool := match d with | some t => Nat.blt t n | none => true
theorem Agr.put {e : Env} {n} {a : Act} (h : Agr e n a) {d : Option Tmp} (hd : okD d n = true) (v : Value) : Agr (e.put d v) n (a.put d v) := by
  obtain ⟨h1, h2, h3⟩ := h
  cases d with
  | none => exact ⟨h1, h2, h3⟩
  | some t =>
    have hd : t < n := by simpa [okD] using hd
    refine ⟨h1, by simp [Act.put, h2], fun u x hx => ?_⟩
    simp only [Env.put, Env.get] at hx
    by_cases htu : t = u
    · subst htu; simp at hx; subst hx; simp [Act.put, h2, hd]
    · have hb : Nat.beq t u = false := by
        cases hh : Nat.beq t u with
        | false => rfl
        | true => exact absurd (Nat.eq_of_beq_eq_true hh) htu
      rw [hb] at hx
      simp [Act.put, Array.getElem?_setIfInBounds_ne htu]
      exact h3 u x hx
/-- An operation, its operands' values in their places. -/
inductive VOp where
  | move (v : Value) | pick (c a b : Value) | alloc (t : TypeId) | box (t : TypeId) (v : Value) | build (t : TypeId) (ps : List (Nat × Value)) | bslice (t : TypeId) (n : Nat) (ps : List (Nat × Value))
  | load (t : TypeId) (a : Value) | store (t : TypeId) (a v : Value) | nilc (v : Value) | bin (op : BinOp) (t : TypeId) (a b : Value) (ca cb : Bool) | un (op : UnOp) (v : Value) | conv (s d : TypeId) (v : Value)
  | mkI (t : TypeId) (v : Value) | mkF (fn : Fn) (first caps : List Value) | mkM (t : TypeId) (r : Option Value) | mkS (t : TypeId) (l c : Value) | slice (t : TypeId) (x : Value) (lo hi mx : Option Value)
  | faddr (s : TypeId) (v : Value) (f : Nat) | field (t : TypeId) (v : Value) (f : Nat) | iaddr (t : TypeId) (v i : Value) | index (t : TypeId) (v i : Value) | lookup (t : TypeId) (v i : Value) (ok : Bool)
  | mupd (t : TypeId) (m k v : Value) | ment (t : TypeId) (m k : Value) | esto (t : TypeId) (m s v : Value) | range (t : TypeId) (v : Value) | next (v : Value) (s : Bool) | tass (v : Value) (t u : TypeId) (ok : Bool)
  | extr (v : Value) (i : Nat) | call (f : Value) (args : List Value) | invoke (r : Value) (name : String) (args : List Value) | bi (b : Builtin) (ts : Array TypeId) (consts : Array Bool) (args : List Value)
def VOp.exec (ty : TypeId) : VOp → Sem Next :=
  let v (s : Sem Value) : Sem Next := do pure (.value (← s))
  let u (s : Sem Unit) : Sem Next := do s; pure .skip
  fun
  | .move x => pure (.value x)
  | .pick c a b => do pure (.value (if ← asBool c then a else b))
  | .alloc t => v (Instr.alloc t true (.tuple #[]))
  | .box t x => v (Instr.box t x)
  | .build t ps => v (Instr.build t ps.toArray)
  | .bslice t n ps => v (Instr.buildSlice t n ps.toArray)
  | .load t a => v (Instr.loadAt t a)
  | .store t a x => u (Instr.storeAt t a x)
  | .nilc x => execOp (fun _ => x) { dst := none, op := .nilCheck (.tmp 0), type := ty, pos := "", after := #[], guard := none }
  | .bin op t a b ca cb => v (do eqGuard op t (if ca then .const .nilIface else .tmp 0) (if cb then .const .nilIface else .tmp 0) a b; binOp op t a b)
  | .un op x => v (Op.unary op x)
  | .conv s d x => v (convert s d x)
  | .mkI t x => v (Instr.makeInterface t x)
  | .mkF fn first caps => v (Instr.makeFunc fn first.toArray caps.toArray)
  | .mkM t r => v (Instr.makeMap t r)
  | .mkS t l c => v (Instr.makeSlice t l c)
  | .slice t x lo hi mx => v (Instr.sliceAt t x lo hi mx)
  | .faddr s x f => v (Instr.fieldAt s x f)
  | .field t x f => v (Instr.field t x f)
  | .iaddr t x i => v (Instr.indexAt t x i)
  | .index t x i => v (Instr.index t x i)
  | .lookup t x i ok => v (Instr.lookup t x i ok)
  | .mupd t m k x => u (Instr.mapUpdate t m k x)
  | .ment t m k => v (Instr.mapEntry t m k)
  | .esto t m s x => u (Instr.entryStore t m s x)
  | .range t x => v (Instr.range t x)
  | .next x s => v (Instr.next x s ty)
  | .tass x t u ok => v (Instr.typeAssert x t u ok)
  | .extr x i => v (Instr.extract x i)
  | .call f args => do let d ← Deferred.ofValue f args.toArray; Go.invoke d.target d.args
  | .invoke r name args => Go.invoke (.fn (.method name) #[]) (#[r] ++ args.toArray)
  | .bi b ts cs args => Go.builtin b ts ty cs args.toArray
def evL (e : Env) : List Operand → Option (List Value)
  | [] => some []
  | x :: l => match e.ev x with
    | some v => match evL e l with
      | some vs => some (v :: vs)
      | none => none
    | none => none
def evP (e : Env) : List (Nat × Operand) → Option (List (Nat × Value))
  | [] => some []
  | (i, x) :: l => match e.ev x with
    | some v => match evP e l with
      | some vs => some ((i, v) :: vs)
      | none => none
    | none => none
def evO (e : Env) : Option Operand → Option (Option Value)
  | none => some none
  | some x => match e.ev x with
    | some v => some (some v)
    | none => none
def isC : Operand → Bool | .const _ => true | _ => false
def ev1 (e : Env) (x : Operand) (f : Value → VOp) : Option VOp := match e.ev x with | some v => some (f v) | none => none
def ev2 (e : Env) (x y : Operand) (f : Value → Value → VOp) : Option VOp := match e.ev x with | some v => ev1 e y (f v) | none => none
def ev3 (e : Env) (x y z : Operand) (f : Value → Value → Value → VOp) : Option VOp := match e.ev x with | some v => ev2 e y z (f v) | none => none
def evLL (e : Env) (l : List Operand) (f : List Value → VOp) : Option VOp := match evL e l with | some v => some (f v) | none => none
def Op.sub (e : Env) : Op → Option VOp
  | .move x | .assign x => ev1 e x .move
  | .pick c a b => ev3 e c a b .pick
  | .alloc t => some (.alloc t)
  | .box t x => ev1 e x (.box t)
  | .build t ps => match evP e ps.toList with | some vs => some (.build t vs) | none => none
  | .buildSlice t n ps => match evP e ps.toList with | some vs => some (.bslice t n vs) | none => none
  | .load t x => ev1 e x (.load t)
  | .store t x y => ev2 e x y (.store t)
  | .nilCheck x => ev1 e x .nilc
  | .binOp op t x y _ => ev2 e x y fun a b => .bin op t a b (isC x) (isC y)
  | .unOp op _ x => ev1 e x (.un op)
  | .convert s d x => ev1 e x (.conv s d)
  | .makeInterface t x => ev1 e x (.mkI t)
  | .makeFunc fn first caps => match evL e first.toList with | some vs => evLL e caps.toList (.mkF fn vs) | none => none
  | .makeMap t r => match evO e r with | some v => some (.mkM t v) | none => none
  | .makeSlice t l c => ev2 e l c (.mkS t)
  | .slice t x lo hi mx => match e.ev x with
    | some v => match evO e lo with
      | some l => match evO e hi with
        | some h => match evO e mx with
          | some m => some (.slice t v l h m)
          | none => none
        | none => none
      | none => none
    | none => none
  | .fieldAddr s x f => ev1 e x fun v => .faddr s v f
  | .field s x f => ev1 e x fun v => .field s v f
  | .indexAddr t x i => ev2 e x i (.iaddr t)
  | .index t x i => ev2 e x i (.index t)
  | .lookup t x i ok => ev2 e x i fun a b => .lookup t a b ok
  | .mapUpdate t m k x | .insert t m k x => ev3 e m k x (.mupd t)
  | .mapEntry t m k => ev2 e m k (.ment t)
  | .entryStore t m s x => ev3 e m s x (.esto t)
  | .range t x => ev1 e x (.range t)
  | .next x s => ev1 e x fun v => .next v s
  | .typeAssert x t u ok => ev1 e x fun v => .tass v t u ok
  | .extract x i => ev1 e x fun v => .extr v i
  | .call c => match c.callee with
    | .value f => match e.ev f with | some v => evLL e c.args.toList (.call v) | none => none
    | .invoke r name => match e.ev r with | some v => evLL e c.args.toList (.invoke v name) | none => none
    | .builtin b => evLL e c.args.toList (.bi b c.argTypes (c.args.map fun | .const _ => true | _ => false))
  | _ => none
theorem evL_map {e : Env} {f : Operand → Value} : ∀ {l : List Operand} {vs}, evL e l = some vs → (∀ x, x ∈ l → ∀ v, e.ev x = some v → f x = v) → l.map f = vs
  | [], _, h, _ => by simp [evL] at h; simp [h]
  | x :: l, vs, h, k => by
    simp only [evL] at h
    cases h1 : e.ev x with
    | none => simp [h1] at h
    | some v =>
      rw [h1] at h; simp only at h
      cases h2 : evL e l with
      | none => simp [h2] at h
      | some us =>
        simp [h2] at h
        subst h
        simp only [List.map_cons, k x (by simp) v h1, evL_map h2 fun y hy => k y (by simp [hy])]
theorem evP_map {e : Env} {f : Operand → Value} : ∀ {l : List (Nat × Operand)} {vs}, evP e l = some vs → (∀ x, x ∈ l.map (·.2) → ∀ v, e.ev x = some v → f x = v) → (l.map fun p => (p.1, f p.2)) = vs
  | [], _, h, _ => by simp [evP] at h; simp [h]
  | (i, x) :: l, vs, h, k => by
    simp only [evP] at h
    cases h1 : e.ev x with
    | none => simp [h1] at h
    | some v =>
      rw [h1] at h; simp only at h
      cases h2 : evP e l with
      | none => simp [h2] at h
      | some us =>
        simp [h2] at h
        subst h
        simp only [List.map_cons, k x (by simp) v h1, evP_map h2 fun y hy => k y (by simp; right; simpa using hy)]
theorem evO_map {e : Env} {f : Operand → Value} {x : Option Operand} {v} (h : evO e x = some v) (k : ∀ y, y ∈ x.toList → ∀ v, e.ev y = some v → f y = v) : x.map f = v := by
  cases x with
  | none => simp [evO] at h; simp [h]
  | some y =>
    simp only [evO] at h
    cases h1 : e.ev y with
    | none => simp [h1] at h
    | some u => simp [h1] at h; simp [← h, k y (by simp) u h1]
theorem ev1_inv {e : Env} {x f vop} (h : ev1 e x f = some vop) : ∃ v, e.ev x = some v ∧ vop = f v := by
  unfold ev1 at h; split at h
  · rename_i v hv; exact ⟨v, hv, by simpa using h.symm⟩
  · cases h
theorem ev2_inv {e : Env} {x y f vop} (h : ev2 e x y f = some vop) : ∃ v u, e.ev x = some v ∧ e.ev y = some u ∧ vop = f v u := by
  unfold ev2 at h; split at h
  · rename_i v hv; obtain ⟨u, hu, e⟩ := ev1_inv h; exact ⟨v, u, hv, hu, e⟩
  · cases h
theorem ev3_inv {e : Env} {x y z f vop} (h : ev3 e x y z f = some vop) : ∃ v u t, e.ev x = some v ∧ e.ev y = some u ∧ e.ev z = some t ∧ vop = f v u t := by
  unfold ev3 at h; split at h
  · rename_i v hv; obtain ⟨u, t, hu, ht, e⟩ := ev2_inv h; exact ⟨v, u, t, hv, hu, ht, e⟩
  · cases h
theorem evLL_inv {e : Env} {l f vop} (h : evLL e l f = some vop) : ∃ v, evL e l = some v ∧ vop = f v := by
  unfold evLL at h; split at h
  · rename_i v hv; exact ⟨v, hv, by simpa using h.symm⟩
  · cases h
theorem eqGuard_const (op : BinOp) (t : TypeId) (x y x' y' : Operand) (a b : Value) (hx : isC x = isC x') (hy : isC y = isC y') : eqGuard op t x y a b = eqGuard op t x' y' a b := by
  unfold eqGuard
  cases x <;> cases x' <;> simp [isC] at hx <;> cases y <;> cases y' <;> simp [isC] at hy <;> rfl
set_option maxHeartbeats 2000000 in
theorem sub_exec {e : Env} {o : Oper} {a : Act} {vop : VOp} (h : Op.sub e o.op = some vop) (k : Rd1 e o.op a) : execOp a.eval o = vop.exec o.type := by
  obtain ⟨dst, op, ty, pos, after, guard⟩ := o
  replace h : Op.sub e op = some vop := h
  replace k : Rd1 e op a := k
  unfold Rd1 at k
  cases op with
  | move x => obtain ⟨v, h1, rfl⟩ := ev1_inv h; have e1 := k x (by simp [Op.operands]) v h1; simp only [execOp, VOp.exec, e1]
  | assign x => obtain ⟨v, h1, rfl⟩ := ev1_inv h; have e1 := k x (by simp [Op.operands]) v h1; simp only [execOp, VOp.exec, e1]
  | pick x y z =>
    obtain ⟨v, u, t, h1, h2, h3, rfl⟩ := ev3_inv h
    have e1 := k x (by simp [Op.operands]) v h1; have e2 := k y (by simp [Op.operands]) u h2; have e3 := k z (by simp [Op.operands]) t h3
    simp only [execOp, VOp.exec, e1, e2, e3]
  | alloc t => simp [Op.sub] at h; subst h; rfl
  | box t x => obtain ⟨v, h1, rfl⟩ := ev1_inv h; have e1 := k x (by simp [Op.operands]) v h1; simp only [execOp, VOp.exec, e1]
  | build t ps =>
    simp only [Op.sub] at h; split at h
    · rename_i vs hv; simp at h; subst h
      have := evP_map (f := a.eval) hv (fun x hx => k x (by simpa [Op.operands] using hx))
      simp only [execOp, VOp.exec, ← this]; congr 2; simp [← Array.toList_map]
    · cases h
  | buildSlice t n ps =>
    simp only [Op.sub] at h; split at h
    · rename_i vs hv; simp at h; subst h
      have := evP_map (f := a.eval) hv (fun x hx => k x (by simpa [Op.operands] using hx))
      simp only [execOp, VOp.exec, ← this]; congr 2; simp [← Array.toList_map]
    · cases h
  | load t x => obtain ⟨v, h1, rfl⟩ := ev1_inv h; have e1 := k x (by simp [Op.operands]) v h1; simp only [execOp, VOp.exec, e1]
  | store t x y => obtain ⟨v, u, h1, h2, rfl⟩ := ev2_inv h; have e1 := k x (by simp [Op.operands]) v h1; have e2 := k y (by simp [Op.operands]) u h2; simp only [execOp, VOp.exec, e1, e2]
  | nilCheck x => obtain ⟨v, h1, rfl⟩ := ev1_inv h; have e1 := k x (by simp [Op.operands]) v h1; simp only [execOp, VOp.exec, e1]
  | binOp op t x y u =>
    obtain ⟨v, u, h1, h2, rfl⟩ := ev2_inv h; have e1 := k x (by simp [Op.operands]) v h1; have e2 := k y (by simp [Op.operands]) u h2
    simp only [execOp, VOp.exec, e1, e2]
    rw [eqGuard_const op t x y (if isC x = true then .const .nilIface else .tmp 0) (if isC y = true then .const .nilIface else .tmp 0)]
    · cases isC x <;> rfl
    · cases isC y <;> rfl
  | unOp op t x => obtain ⟨v, h1, rfl⟩ := ev1_inv h; have e1 := k x (by simp [Op.operands]) v h1; simp only [execOp, VOp.exec, e1]
  | convert s d x => obtain ⟨v, h1, rfl⟩ := ev1_inv h; have e1 := k x (by simp [Op.operands]) v h1; simp only [execOp, VOp.exec, e1]
  | makeInterface t x => obtain ⟨v, h1, rfl⟩ := ev1_inv h; have e1 := k x (by simp [Op.operands]) v h1; simp only [execOp, VOp.exec, e1]
  | makeFunc fn first caps =>
    simp only [Op.sub] at h; split at h
    · rename_i vs hv; obtain ⟨us, hu, rfl⟩ := evLL_inv h
      have m1 := evL_map (f := a.eval) hv (fun x hx => k x (by simp [Op.operands]; left; simpa using hx))
      have m2 := evL_map (f := a.eval) hu (fun x hx => k x (by simp [Op.operands]; right; simpa using hx))
      simp only [execOp, VOp.exec, ← m1, ← m2]; congr 2 <;> simp [← Array.toList_map]
    · cases h
  | makeMap t r =>
    simp only [Op.sub] at h; split at h
    · rename_i v hv; simp at h; subst h
      have := evO_map (f := a.eval) hv (fun x hx => k x (by simpa [Op.operands] using hx))
      simp only [execOp, VOp.exec, this]
    · cases h
  | makeSlice t x y => obtain ⟨v, u, h1, h2, rfl⟩ := ev2_inv h; have e1 := k x (by simp [Op.operands]) v h1; have e2 := k y (by simp [Op.operands]) u h2; simp only [execOp, VOp.exec, e1, e2]
  | slice t x lo hi mx =>
    simp only [Op.sub] at h
    split at h
    · rename_i v h1; split at h
      · rename_i l hl; split at h
        · rename_i hh hhi; split at h
          · rename_i m hm; simp at h; subst h
            have e1 := k x (by simp [Op.operands]) v h1
            have e2 := evO_map (f := a.eval) hl (fun y hy => k y (by simp [Op.operands]; right; left; simpa using hy))
            have e3 := evO_map (f := a.eval) hhi (fun y hy => k y (by simp [Op.operands]; right; right; left; simpa using hy))
            have e4 := evO_map (f := a.eval) hm (fun y hy => k y (by simp [Op.operands]; right; right; right; simpa using hy))
            simp only [execOp, VOp.exec, e1, e2, e3, e4]
          · cases h
        · cases h
      · cases h
    · cases h
  | fieldAddr s x f => obtain ⟨v, h1, rfl⟩ := ev1_inv h; have e1 := k x (by simp [Op.operands]) v h1; simp only [execOp, VOp.exec, e1]
  | field s x f => obtain ⟨v, h1, rfl⟩ := ev1_inv h; have e1 := k x (by simp [Op.operands]) v h1; simp only [execOp, VOp.exec, e1]
  | indexAddr t x y => obtain ⟨v, u, h1, h2, rfl⟩ := ev2_inv h; have e1 := k x (by simp [Op.operands]) v h1; have e2 := k y (by simp [Op.operands]) u h2; simp only [execOp, VOp.exec, e1, e2]
  | index t x y => obtain ⟨v, u, h1, h2, rfl⟩ := ev2_inv h; have e1 := k x (by simp [Op.operands]) v h1; have e2 := k y (by simp [Op.operands]) u h2; simp only [execOp, VOp.exec, e1, e2]
  | lookup t x y ok => obtain ⟨v, u, h1, h2, rfl⟩ := ev2_inv h; have e1 := k x (by simp [Op.operands]) v h1; have e2 := k y (by simp [Op.operands]) u h2; simp only [execOp, VOp.exec, e1, e2]
  | mapUpdate t x y z =>
    obtain ⟨v, u, t, h1, h2, h3, rfl⟩ := ev3_inv h
    have e1 := k x (by simp [Op.operands]) v h1; have e2 := k y (by simp [Op.operands]) u h2; have e3 := k z (by simp [Op.operands]) t h3
    simp only [execOp, VOp.exec, e1, e2, e3]
  | insert t x y z =>
    obtain ⟨v, u, t, h1, h2, h3, rfl⟩ := ev3_inv h
    have e1 := k x (by simp [Op.operands]) v h1; have e2 := k y (by simp [Op.operands]) u h2; have e3 := k z (by simp [Op.operands]) t h3
    simp only [execOp, VOp.exec, e1, e2, e3]
  | mapEntry t x y => obtain ⟨v, u, h1, h2, rfl⟩ := ev2_inv h; have e1 := k x (by simp [Op.operands]) v h1; have e2 := k y (by simp [Op.operands]) u h2; simp only [execOp, VOp.exec, e1, e2]
  | entryStore t x y z =>
    obtain ⟨v, u, t, h1, h2, h3, rfl⟩ := ev3_inv h
    have e1 := k x (by simp [Op.operands]) v h1; have e2 := k y (by simp [Op.operands]) u h2; have e3 := k z (by simp [Op.operands]) t h3
    simp only [execOp, VOp.exec, e1, e2, e3]
  | range t x => obtain ⟨v, h1, rfl⟩ := ev1_inv h; have e1 := k x (by simp [Op.operands]) v h1; simp only [execOp, VOp.exec, e1]
  | next x s => obtain ⟨v, h1, rfl⟩ := ev1_inv h; have e1 := k x (by simp [Op.operands]) v h1; simp only [execOp, VOp.exec, e1]
  | typeAssert x t u ok => obtain ⟨v, h1, rfl⟩ := ev1_inv h; have e1 := k x (by simp [Op.operands]) v h1; simp only [execOp, VOp.exec, e1]
  | extract x i => obtain ⟨v, h1, rfl⟩ := ev1_inv h; have e1 := k x (by simp [Op.operands]) v h1; simp only [execOp, VOp.exec, e1]
  | call c =>
    obtain ⟨callee, args, argTypes⟩ := c
    simp only [Op.sub] at h
    cases callee with
    | value f =>
      simp only at h; split at h
      · rename_i v h1; obtain ⟨us, hu, rfl⟩ := evLL_inv h
        have e1 := k f (by simp [Op.operands, Call.operands]) v h1
        have m2 := evL_map (f := a.eval) hu (fun x hx => k x (by simp [Op.operands, Call.operands]; right; simpa using hx))
        simp only [execOp, VOp.exec, resolve, e1, ← m2]; congr 2; simp [← Array.toList_map]
      · cases h
    | invoke r name =>
      simp only at h; split at h
      · rename_i v h1; obtain ⟨us, hu, rfl⟩ := evLL_inv h
        have e1 := k r (by simp [Op.operands, Call.operands]) v h1
        have m2 := evL_map (f := a.eval) hu (fun x hx => k x (by simp [Op.operands, Call.operands]; right; simpa using hx))
        have hp : ∀ d : Deferred, (do let d' ← (Pure.pure d : Sem Deferred); Go.invoke d'.target d'.args) = Go.invoke d.target d.args := fun _ => rfl
        simp only [execOp, VOp.exec, resolve, e1, ← m2, hp]
        congr 2; simp [← Array.toList_map]
      · cases h
    | builtin b =>
      simp only at h; obtain ⟨us, hu, rfl⟩ := evLL_inv h
      have m2 := evL_map (f := a.eval) hu (fun x hx => k x (by simp [Op.operands, Call.operands]; simpa using hx))
      have hp : ∀ d : Deferred, (do let d' ← (Pure.pure d : Sem Deferred); Go.invoke d'.target d'.args) = Go.invoke d.target d.args := fun _ => rfl
      simp only [execOp, VOp.exec, resolve, ← m2, hp]
      show Go.builtin _ _ _ _ _ = _
      congr 1; simp [← Array.toList_map]
  | _ => simp [Op.sub] at h
end Go.Sl

namespace Go.Sl
open Go
set_option linter.unusedVariables false
set_option linter.unusedSectionVars false
/-! Judgements: operations in the text's order, code, functions. -/
def Upon (P : Program) (r : Result Next) (N : Value → World → Prop) : Prop :=
  match r with
  | .ok (.value v) w' => N v w'
  | .ok .skip w' => N undef w'
  | .ok (.enter f args) w' => Calls P f args w' fun e w'' => ∃ v, e = .returned v ∧ N v w''
  | _ => False
theorem Upon.mono {P r} {N M : Value → World → Prop} (h : Upon P r N) (k : ∀ v w, N v w → M v w) : Upon P r M := by
  unfold Upon at *
  split at h
  · exact k _ _ h
  · exact k _ _ h
  · exact Calls.mono h fun e w ⟨v, he, hn⟩ => ⟨v, he, k _ _ hn⟩
  · exact h.elim
theorem Upon.wp {P : Program} {o : Oper} {a : Act} {w : World} {next Q} {N : Value → World → Prop} (h : Upon P ((execOp a.eval o).run P w) N) (k : ∀ v w', N v w' → next (a.put o.dst v) w') : o.wp P a w next Q := by
  unfold Oper.wp
  generalize (execOp a.eval o).run P w = r at h
  unfold Upon at h
  split at h
  · exact k _ _ h
  · exact k _ _ h
  · exact Calls.mono h fun e w ⟨v, he, hn⟩ => by subst he; exact k _ _ hn
  · exact h.elim
/-- An operation that leaves the world alone, and what it yields. -/
class Q1 (P : Program) (vop : VOp) (ty : TypeId) (H : List HProp) (pre : outParam Prop) (v : outParam Value) : Prop where
  run : pre → ∀ w, sat w (stars H) → (vop.exec ty).run P w = .ok (.value v) w
/-- An operation with an effect. -/
def Eff (P : Program) (w0 : World) (vop : VOp) (ty : TypeId) (H : List HProp) (K : Value → List HProp → Prop) : Prop :=
  ∀ w N, St w0 H w → (∀ v H' w', K v H' → St w0 H' w' → N v w') → Upon P ((vop.exec ty).run P w) N
theorem Eff.mono {P w0 vop ty H} {K K' : Value → List HProp → Prop} (h : Eff P w0 vop ty H K) (k : ∀ v H', K v H' → K' v H') : Eff P w0 vop ty H K' :=
  fun w N hs hn => h w N hs fun v H' w' hk hw => hn v H' w' (k v H' hk) hw
theorem Eff.q {P w0 vop ty H K pre v} [q : Q1 P vop ty H pre v] (hp : pre) (h : K v H) : Eff P w0 vop ty H K :=
  fun w N hs hn => by rw [q.run hp w hs.2]; exact hn v H w h hs
/-- Does the guard let the operation run? -/
def gw (ops : Array Oper) (e : Env) : Option (Nat × Bool) → Option Bool
  | none => some true
  | some (j, want) => match ops[j]? with
    | some o => match o.dst with
      | some d => match e.get d with
        | some (.bool b) => some (b == want)
        | some (.tuple _) => some false
        | _ => none
      | none => none
    | none => none
theorem gw_wanted {ops : Array Oper} {e : Env} {n} {a : Act} {o : Oper} {b} (h : gw ops e o.guard = some b) (k : Agr e n a) : Region.wanted o (yielded ops a.tmps) = b := by
  unfold Region.wanted
  cases hg : o.guard with
  | none => rw [hg] at h; simpa [gw] using h
  | some p =>
    obtain ⟨j, want⟩ := p
    rw [hg] at h
    simp only [gw] at h
    split at h
    · rename_i oj ho; split at h
      · rename_i d hd; split at h
        · rename_i bb hb
          have := k.2.2 d _ hb
          simp only [Option.some.injEq] at h; subst h
          simp only [yielded, ho, Option.bind_some, hd, this]
          cases bb <;> cases want <;> rfl
        · rename_i bb hb
          have := k.2.2 d _ hb
          simp only [Option.some.injEq] at h; subst h
          simp only [yielded, ho, Option.bind_some, hd, this]
          cases want <;> rfl
        · cases h
      · cases h
    · cases h
def Ol (P : Program) (w0 : World) (n : Nat) (ops : Array Oper) (Q : Exit → Act → World → Prop) (l : List Oper) (e : Env) (H : List HProp) : Prop :=
  ∀ a w, Agr e n a → St w0 H w → wpList P ops Q l a w
def Cd (P : Program) (w0 : World) (n : Nat) (c : Code) (Q : Exit → Act → World → Prop) (e : Env) (H : List HProp) : Prop :=
  ∀ a w, Agr e n a → St w0 H w → c.wp P Q a w
def Dn (w0 : World) (n : Nat) (Q : Exit → Act → World → Prop) (x : Exit) (e : Env) (H : List HProp) : Prop :=
  ∀ a w, Agr e n a → St w0 H w → Q x a w
section
variable {P : Program} {w0 : World} {n : Nat} {ops : Array Oper} {Q : Exit → Act → World → Prop} {e : Env} {H : List HProp} {rest : List Oper}
  {d : Nat} {op : Op} {ty : TypeId} {pos : String} {after : Array Edge} {g : Option (Nat × Bool)} {vop : VOp}
theorem Ol.nil (h : Dn w0 n Q .normal e H) : Ol P w0 n ops Q [] e H := h
theorem Ol.eff (hw : gw ops e g = some true) (hs : Op.sub e op = some vop) (hd : Nat.blt d n = true) (h : Eff P w0 vop ty H fun v H' => Ol P w0 n ops Q rest ((d, v) :: e) H') :
    Ol P w0 n ops Q (⟨some d, op, ty, pos, after, g⟩ :: rest) e H := by
  intro a w ha hst
  unfold wpList
  rw [if_pos (gw_wanted (o := ⟨some d, op, ty, pos, after, g⟩) hw ha)]
  refine .inl (Upon.wp (N := fun v w' => ∃ H', Ol P w0 n ops Q rest ((d, v) :: e) H' ∧ St w0 H' w') ?_ fun v w' ⟨H', h1, h2⟩ => h1 _ _ (ha.put (d := some d) hd v) h2)
  rw [sub_exec (o := ⟨some d, op, ty, pos, after, g⟩) hs (ha.rd _)]
  exact h w _ hst fun v H' w' hk hw => ⟨H', hk, hw⟩
theorem Ol.eff0 (hw : gw ops e g = some true) (hs : Op.sub e op = some vop) (h : Eff P w0 vop ty H fun v H' => Ol P w0 n ops Q rest e H') :
    Ol P w0 n ops Q (⟨none, op, ty, pos, after, g⟩ :: rest) e H := by
  intro a w ha hst
  unfold wpList
  rw [if_pos (gw_wanted (o := ⟨none, op, ty, pos, after, g⟩) hw ha)]
  refine .inl (Upon.wp (N := fun v w' => ∃ H', Ol P w0 n ops Q rest e H' ∧ St w0 H' w') ?_ fun v w' ⟨H', h1, h2⟩ => h1 _ _ (ha.put (d := none) rfl v) h2)
  rw [sub_exec (o := ⟨none, op, ty, pos, after, g⟩) hs (ha.rd _)]
  exact h w _ hst fun v H' w' hk hw => ⟨H', hk, hw⟩
theorem Ol.q {pre : Prop} {v : Value} (hw : gw ops e g = some true) (hs : Op.sub e op = some vop) (hd : Nat.blt d n = true) [Q1 P vop ty H pre v] (hp : pre) (h : Ol P w0 n ops Q rest ((d, v) :: e) H) :
    Ol P w0 n ops Q (⟨some d, op, ty, pos, after, g⟩ :: rest) e H := Ol.eff hw hs hd (Eff.q hp h)
theorem Ol.skip (hw : gw ops e g = some false) (hd : Nat.blt d n = true) (h : Ol P w0 n ops Q rest ((d, undef) :: e) H) :
    Ol P w0 n ops Q (⟨some d, op, ty, pos, after, g⟩ :: rest) e H := by
  intro a w ha hst
  unfold wpList
  rw [if_neg (by rw [gw_wanted (o := ⟨some d, op, ty, pos, after, g⟩) hw ha]; simp)]
  exact h _ _ (ha.put (d := some d) hd undef) hst
theorem Ol.skip0 (hw : gw ops e g = some false) (h : Ol P w0 n ops Q rest e H) :
    Ol P w0 n ops Q (⟨none, op, ty, pos, after, g⟩ :: rest) e H := by
  intro a w ha hst
  unfold wpList
  rw [if_neg (by rw [gw_wanted (o := ⟨none, op, ty, pos, after, g⟩) hw ha]; simp)]
  exact h _ _ (ha.put (d := none) rfl undef) hst
/-! control -/
theorem Cd.seq {x y : Code} (h : Cd P w0 n x (Exit.then (y.wp P Q) Q) e H) : Cd P w0 n (.seq x y) Q e H := fun a w ha hs => wp_seq (h a w ha hs)
theorem Dn.then {y : Code} (h : Cd P w0 n y Q e H) : Dn w0 n (Exit.then (y.wp P Q) Q) .normal e H := h
theorem Dn.ret_then {K} (h : Dn w0 n Q .ret e H) : Dn w0 n (Exit.then K Q) .ret e H := h
theorem Dn.exit_then {K id} (h : Dn w0 n Q (.exit id) e H) : Dn w0 n (Exit.then K Q) (.exit id) e H := h
theorem Cd.region {id : Nat} {l : List Oper} (h : Ol P w0 n l.toArray Q l e H) : Cd P w0 n (.region id l.toArray false) Q e H := fun a w ha hs => wp_region_lit (h a w ha hs)
theorem Cd.skip (h : Dn w0 n Q .normal e H) : Cd P w0 n .skip Q e H := fun a w ha hs => wp_skip (h a w ha hs)
theorem Cd.label {l} (h : Dn w0 n Q .normal e H) : Cd P w0 n (.label l) Q e H := fun a w ha hs => wp_label (h a w ha hs)
theorem Cd.ret (h : Dn w0 n Q .ret e H) : Cd P w0 n .ret Q e H := fun a w ha hs => wp_ret (h a w ha hs)
theorem Cd.exit {id} (h : Dn w0 n Q (.exit id) e H) : Cd P w0 n (.exit id) Q e H := fun a w ha hs => wp_exit (h a w ha hs)
theorem Cd.cond {c : Operand} {x y : Code} {b : Bool} (hc : e.ev c = some (.bool b)) (h1 : b = true → Cd P w0 n x Q e H) (h2 : b = false → Cd P w0 n y Q e H) : Cd P w0 n (.cond c x y) Q e H :=
  fun a w ha hs => wp_cond_split (ha.ev hc) (fun h => h1 h a w ha hs) (fun h => h2 h a w ha hs)
theorem Cd.condP {c : Operand} {x y : Code} {p : Prop} [Decidable p] (hc : e.ev c = some (.bool (decide p))) (h1 : p → Cd P w0 n x Q e H) (h2 : ¬ p → Cd P w0 n y Q e H) : Cd P w0 n (.cond c x y) Q e H :=
  Cd.cond hc (fun h => h1 (of_decide_eq_true h)) (fun h => h2 (of_decide_eq_false h))
theorem Cd.cond_t {c : Operand} {x y : Code} (hc : e.ev c = some (.bool true)) (h1 : Cd P w0 n x Q e H) : Cd P w0 n (.cond c x y) Q e H := Cd.cond hc (fun _ => h1) (fun h => by cases h)
theorem Cd.cond_f {c : Operand} {x y : Code} (hc : e.ev c = some (.bool false)) (h1 : Cd P w0 n y Q e H) : Cd P w0 n (.cond c x y) Q e H := Cd.cond hc (fun h => by cases h) (fun _ => h1)
theorem Cd.block {id : Nat} {c : Code} (h : Cd P w0 n c (Exit.inBlock id Q) e H) : Cd P w0 n (.block id c) Q e H := fun a w ha hs => wp_block (h a w ha hs)
theorem Dn.block {id : Nat} (h : Dn w0 n Q .normal e H) : Dn w0 n (Exit.inBlock id Q) .normal e H := h
theorem Dn.ret_block {id : Nat} (h : Dn w0 n Q .ret e H) : Dn w0 n (Exit.inBlock id Q) .ret e H := h
theorem Dn.exit_at {id : Nat} (h : Dn w0 n Q .normal e H) : Dn w0 n (Exit.inBlock id Q) (.exit id) e H := fun a w ha hs => by
  show (if id = id then _ else _); rw [if_pos rfl]; exact h a w ha hs
theorem Dn.exit_by {id id' : Nat} (hne : Nat.beq id' id = false) (h : Dn w0 n Q (.exit id') e H) : Dn w0 n (Exit.inBlock id Q) (.exit id') e H := fun a w ha hs => by
  show (if id' = id then _ else _); rw [if_neg (fun h => by simp [h] at hne)]; exact h a w ha hs
/-! weakening -/
def Env.le (e E : Env) : Prop := ∀ t v, E.get t = some v → e.get t = some v
theorem Env.le_nil (e : Env) : Env.le e [] := fun t v h => by cases h
theorem Env.le_cons {e E : Env} {t v u} (h : e.get t = some u) (hu : u = v) (k : Env.le e E) : Env.le e ((t, v) :: E) := fun s x hx => by
  subst hu
  simp only [Env.get] at hx
  cases hb : Nat.beq t s with
  | true => rw [hb] at hx; simp at hx; subst hx; rw [← Nat.eq_of_beq_eq_true hb]; exact h
  | false => rw [hb] at hx; exact k s x hx
theorem Agr.le {e E : Env} {n a} (k : Env.le e E) (h : Agr e n a) : Agr E n a := ⟨h.1, h.2.1, fun t v x => h.2.2 t v (k t v x)⟩
def ents (H H' : List HProp) : Prop := went (stars H) (stars H')
theorem St.conv {w0 w H H'} (k : Sl.ents H H') (h : St w0 H w) : St w0 H' w := ⟨h.1, h.2.went k⟩
theorem ents.refl (H : List HProp) : ents H H := went.refl _
theorem ents.nil (H : List HProp) : ents H [] := fun h _ => ⟨h, fun _ _ e => e, trivial⟩
theorem ents.trans {H H' H'' : List HProp} (p : ents H H') (q : ents H' H'') : ents H H'' := went.trans p q
theorem ents.drop {A : HProp} {H H' : List HProp} (k : ents H H') : ents (A :: H) H' := (went.right _ _).trans k
/-- A taken out of H leaves H'. -/
def Tk (H : List HProp) (A : HProp) (H' : List HProp) : Prop := went (stars H) (star A (stars H'))
theorem Tk.hd (A : HProp) (H : List HProp) : Tk (A :: H) A H := went.refl _
theorem Tk.tl {A B : HProp} {H H' : List HProp} (k : Tk H A H') : Tk (B :: H) A (B :: H') := (went.star (went.refl B) k).trans (went.of (star_left_comm _ _ _))
theorem ents.cons {A : HProp} {H H1 L : List HProp} (t : Tk H A H1) (k : ents H1 L) : ents H (A :: L) := went.trans t (went.star (went.refl A) k)
/-- A list taken out of H leaves R. -/
def TkL (H L R : List HProp) : Prop := ents H (L ++ R)
theorem TkL.nil (H : List HProp) : TkL H [] H := ents.refl H
theorem TkL.cons {A : HProp} {H H1 L R : List HProp} (t : Tk H A H1) (k : TkL H1 L R) : TkL H (A :: L) R := ents.cons t k
theorem Cd.weak {c E H'} (he : Env.le e E) (k : ents H H') (h : Cd P w0 n c Q E H') : Cd P w0 n c Q e H := fun a w ha hs => h a w (ha.le he) (hs.conv k)
theorem Ol.weak {l E H'} (he : Env.le e E) (k : ents H H') (h : Ol P w0 n ops Q l E H') : Ol P w0 n ops Q l e H := fun a w ha hs => h a w (ha.le he) (hs.conv k)
theorem Dn.weak {x E H'} (he : Env.le e E) (k : ents H H') (h : Dn w0 n Q x E H') : Dn w0 n Q x e H := fun a w ha hs => h a w (ha.le he) (hs.conv k)
theorem Cd.conv {c H'} (k : ents H H') (h : Cd P w0 n c Q e H') : Cd P w0 n c Q e H := fun a w ha hs => h a w ha (hs.conv k)
theorem Ol.conv {l H'} (k : ents H H') (h : Ol P w0 n ops Q l e H') : Ol P w0 n ops Q l e H := fun a w ha hs => h a w ha (hs.conv k)
theorem Dn.conv {x H'} (k : ents H H') (h : Dn w0 n Q x e H') : Dn w0 n Q x e H := fun a w ha hs => h a w ha (hs.conv k)
/-- What the world says may be used. -/
theorem Cd.know {c} {p : Prop} (k : ∀ w, sat w (stars H) → p) (h : p → Cd P w0 n c Q e H) : Cd P w0 n c Q e H := fun a w ha hs => h (k w hs.2) a w ha hs
theorem Ol.know {l} {p : Prop} (k : ∀ w, sat w (stars H) → p) (h : p → Ol P w0 n ops Q l e H) : Ol P w0 n ops Q l e H := fun a w ha hs => h (k w hs.2) a w ha hs
theorem Dn.know {x} {p : Prop} (k : ∀ w, sat w (stars H) → p) (h : p → Dn w0 n Q x e H) : Dn w0 n Q x e H := fun a w ha hs => h (k w hs.2) a w ha hs
/-! loops -/
theorem Cd.loop {α : Type} {c : Code} (Φ : α → Prop) (μ : α → Nat) (E : α → Env) (I : α → List HProp) (x0 : α) (h0 : Φ x0) (he : Env.le e (E x0)) (hH : ents H (I x0))
    (round : ∀ x, Φ x → Cd P w0 n c (Exit.then (fun a w => ∃ y, (Φ y ∧ μ y < μ x) ∧ Agr (E y) n a ∧ St w0 (I y) w) Q) (E x) (I x)) : Cd P w0 n (.loop c) Q e H := by
  intro a w ha hs
  refine wp_loop_ghost (fun k a w => ∃ x, Φ x ∧ μ x ≤ k ∧ Agr (E x) n a ∧ St w0 (I x) w) (μ x0) ⟨x0, h0, Nat.le_refl _, ha.le he, hs.conv hH⟩ ?_
  intro k a w ⟨x, hx, hk, h1, h2⟩
  refine Code.wp_mono ?_ (round x hx a w h1 h2)
  intro ex a w hq
  cases ex with
  | normal => obtain ⟨y, ⟨hy, hlt⟩, h3, h4⟩ := hq; exact ⟨μ y, by omega, y, hy, Nat.le_refl _, h3, h4⟩
  | _ => exact hq
theorem Dn.round {α : Type} {Φ : α → Prop} {μ : α → Nat} {E : α → Env} {I : α → List HProp} {m : Nat} (y : α) (hy : Φ y) (hm : μ y < m) (he : Env.le e (E y)) (hH : ents H (I y)) :
    Dn w0 n (Exit.then (fun a w => ∃ y, (Φ y ∧ μ y < m) ∧ Agr (E y) n a ∧ St w0 (I y) w) Q) .normal e H :=
  fun a w ha hs => ⟨y, ⟨hy, hm⟩, ha.le he, hs.conv hH⟩
end
/-! functions -/
def envOf : Nat → List Value → Env
  | _, [] => []
  | k, v :: l => (k, v) :: envOf (k + 1) l
theorem envOf_get : ∀ (l : List Value) (k t : Nat) (v : Value), (envOf k l).get t = some v → k ≤ t ∧ l[t - k]? = some v
  | [], _, _, _, h => by cases h
  | u :: l, k, t, v, h => by
    simp only [envOf, Env.get] at h
    cases hb : Nat.beq k t with
    | true => rw [hb] at h; simp at h; have := Nat.eq_of_beq_eq_true hb; subst this; simp [h]
    | false =>
      rw [hb] at h
      obtain ⟨h1, h2⟩ := envOf_get l (k + 1) t v h
      refine ⟨by omega, ?_⟩
      have : t - k = (t - (k + 1)) + 1 := by omega
      rw [this]; simpa using h2
/-- What a function does with its arguments and its memory, whatever else there is. -/
def Sp (P : Program) (f : FuncId) (args : List Value) (H : List HProp) {β : Type} (pp : β → Prop) (val : β → Value) (H' : β → List HProp) : Prop :=
  ∀ w0 w R, St w0 (H ++ R) w → Calls P f args.toArray w fun e w' => ∃ v, e = .returned v ∧ ∃ x, v = val x ∧ pp x ∧ St w0 (H' x ++ R) w'
def Rt (P : Program) (fn : Func) (Post : Value → World → Prop) : Exit → Act → World → Prop := bodyPost P fn fun e w' => ∃ v, e = .returned v ∧ Post v w'
theorem Sp.intro {P : Program} {f : FuncId} {fn : Func} {c : Code} {args : List Value} {H : List HProp} {β : Type} {pp : β → Prop} {val : β → Value} {H' : β → List HProp} {n : Nat}
    (hf : P.funcs[f]? = some fn) (hb : fn.body = some c) (hn : args.length + (fn.ntmps - args.length) = n)
    (h : ∀ w0 R, Cd P w0 n c (Rt P fn fun v w' => ∃ x, v = val x ∧ pp x ∧ St w0 (H' x ++ R) w') (envOf 0 args) (H ++ R)) : Sp P f args H pp val H' := by
  intro w0 w R hs
  refine calls_of_wp hf hb (h w0 R _ _ ⟨rfl, by simp [← hn], fun t v hv => ?_⟩ hs)
  obtain ⟨_, h2⟩ := envOf_get args 0 t v hv
  simp at h2 ⊢
  obtain ⟨hlt, h3⟩ := List.getElem?_eq_some_iff.1 h2
  rw [Array.getElem?_append_left (by simpa using hlt)]
  simp [h2]
/-- A result of a function. -/
inductive ResL (P : Program) (e : Env) (H : List HProp) : List ResultVar → List Value → Prop
  | nil : ResL P e H [] []
  | tmp {t v rs vs} : e.get t = some v → ResL P e H rs vs → ResL P e H (.tmp t :: rs) (v :: vs)
  | cell {a t p pre v rs vs} : e.get a = some p → Q1 P (.load t p) t H pre v → pre → ResL P e H rs vs → ResL P e H (.cell a t :: rs) (v :: vs)
theorem run_bind {P : Program} {α β : Type} (s : Sem α) (f : α → Sem β) (w : World) : (s.bind f).run P w = (match s.run P w with | .ok a w' => (f a).run P w' | .halt h w' => .halt h w') := by
  induction s generalizing w with
  | pure a => rfl
  | load m a k ih => simp only [Sem.bind, Sem.run]; split; · exact ih _ _
                     · split <;> first | exact ih _ _ | rfl
  | store m a v k ih =>
    cases v <;> simp only [Sem.bind, Sem.run] <;> first
      | rfl
      | (split
         · split <;> first | exact ih _ | rfl
         · split <;> first | exact ih _ | rfl)
  | new o k ih => exact ih _ _
  | shape r k ih => exact ih _ _
  | freeze a n k ih => exact ih _
  | frozen a k ih => exact ih _ _
  | getObj r k ih => simp only [Sem.bind, Sem.run]; split <;> first | exact ih _ _ | rfl
  | setObj r o k ih => simp only [Sem.bind, Sem.run]; split <;> first | exact ih _ | rfl
  | choose q k ih => simp only [Sem.bind, Sem.run]; split <;> exact ih _ _
  | sys c k ih => exact ih _ _
  | program k ih => exact ih _ _
  | mark m k ih => exact ih _
  | halt h => rfl
theorem run_bind' {P : Program} {α β : Type} (s : Sem α) (f : α → Sem β) (w : World) : (s >>= f).run P w = (match s.run P w with | .ok a w' => (f a).run P w' | .halt h w' => .halt h w') := run_bind s f w
/-- What the exec of an operation on values comes to, out of its meaning. -/
theorem exec_v {P : Program} {s : Sem Value} {w w' : World} {v : Value} (h : s.run P w = .ok v w') : (do pure (Next.value (← s)) : Sem Next).run P w = .ok (.value v) w' := by
  rw [run_bind', h]; rfl
theorem exec_u {P : Program} {s : Sem Unit} {w w' : World} (h : s.run P w = .ok () w') : (do s; pure Next.skip : Sem Next).run P w = .ok .skip w' := by
  rw [run_bind', h]; rfl
theorem exec_v_inv {P : Program} {s : Sem Value} {w w' : World} {v : Value} (h : (do pure (Next.value (← s)) : Sem Next).run P w = .ok (.value v) w') : s.run P w = .ok v w' := by
  rw [run_bind'] at h
  cases e : s.run P w with
  | ok a w1 => rw [e] at h; simp [pure, Sem.run] at h; obtain ⟨rfl, rfl⟩ := h; rfl
  | halt x w1 => rw [e] at h; cases h
def resOne (tmps : Array Value) : ResultVar → Sem Value
  | .tmp t => Pure.pure (tmps.getD t undef)
  | .cell c t => do loadVar t (← asAddr (tmps.getD c undef))
theorem resL_run {P : Program} {e : Env} {H : List HProp} {n} {a : Act} {w w0 : World} (ha : Agr e n a) (hs : St w0 H w) :
    ∀ {rs vs}, ResL P e H rs vs → (rs.mapM (resOne a.tmps)).run P w = .ok vs w := by
  intro rs vs h
  induction h with
  | nil => rfl
  | @tmp t v rs vs he _ ih =>
    rw [List.mapM_cons, run_bind']
    have h1 : (resOne a.tmps (.tmp t)).run P w = .ok v w := by
      have := ha.2.2 t v he
      simp only [resOne, Array.getD_eq_getD_getElem?, this, Option.getD_some]; rfl
    rw [h1]
    simp only
    rw [run_bind', ih]; rfl
  | @cell c t p pre v rs vs he q hp _ ih =>
    rw [List.mapM_cons, run_bind']
    have h1 : (resOne a.tmps (.cell c t)).run P w = .ok v w := by
      have h1 := ha.2.2 c p he
      simp only [resOne, Array.getD_eq_getD_getElem?, h1, Option.getD_some]
      have h2 := exec_v_inv (q.run hp w hs.2)
      unfold Instr.loadAt at h2
      rw [run_bind'] at h2 ⊢
      cases p with
      | pointer x =>
        cases x with
        | some x => exact h2
        | none => cases h2
      | _ => cases h2
    rw [h1]
    simp only
    rw [run_bind', ih]; rfl
def oneOf : List Value → Value
  | [v] => v
  | vs => .tuple vs.toArray
theorem results_run {P : Program} {fn : Func} {e : Env} {H : List HProp} {n} {a : Act} {w w0 : World} {rs vs} (hr : fn.results = rs.toArray) (h : ResL P e H rs vs) (ha : Agr e n a) (hs : St w0 H w) :
    (results fn a.tmps).run P w = .ok (oneOf vs) w := by
  have h1 := resL_run ha hs h
  have h2 : (rs.toArray.mapM (resOne a.tmps)).run P w = .ok vs.toArray w := by
    rw [List.mapM_toArray, ← bind_pure_comp, run_bind', h1]; rfl
  unfold results
  rw [hr]
  show (rs.toArray.mapM (resOne a.tmps) >>= _).run P w = _
  rw [run_bind', h2]
  cases vs with
  | nil => rfl
  | cons v vs =>
    cases vs with
    | nil => rfl
    | cons u vs => simp [oneOf]
section
variable {P : Program} {w0 : World} {n : Nat} {e : Env} {H : List HProp} {fn : Func} {Post : Value → World → Prop}
theorem Dn.ret {rs vs} (hr : fn.results = rs.toArray) (h : ResL P e H rs vs) (k : ∀ w, St w0 H w → Post (oneOf vs) w) : Dn w0 n (Rt P fn Post) .ret e H :=
  fun a w ha hs => ⟨ha.1, _, results_run hr h ha hs, _, rfl, k w hs⟩
theorem Dn.fin {rs vs} (hr : fn.results = rs.toArray) (h : ResL P e H rs vs) (k : ∀ w, St w0 H w → Post (oneOf vs) w) : Dn w0 n (Rt P fn Post) .normal e H :=
  fun a w ha hs => ⟨ha.1, _, results_run hr h ha hs, _, rfl, k w hs⟩
theorem Dn.ret0 (hr : fn.results = #[]) (k : ∀ w, St w0 H w → Post (.tuple #[]) w) : Dn w0 n (Rt P fn Post) .ret e H := Dn.ret (rs := []) hr .nil k
theorem Dn.fin0 (hr : fn.results = #[]) (k : ∀ w, St w0 H w → Post (.tuple #[]) w) : Dn w0 n (Rt P fn Post) .normal e H := Dn.fin (rs := []) hr .nil k
theorem Dn.ret1 {t v} (hr : fn.results = #[.tmp t]) (hv : e.get t = some v) (k : ∀ w, St w0 H w → Post v w) : Dn w0 n (Rt P fn Post) .ret e H := Dn.ret (rs := [.tmp t]) hr (.tmp hv .nil) k
theorem Dn.ret2 {t t' v v'} (hr : fn.results = #[.tmp t, .tmp t']) (hv : e.get t = some v) (hv' : e.get t' = some v') (k : ∀ w, St w0 H w → Post (.tuple #[v, v']) w) : Dn w0 n (Rt P fn Post) .ret e H := Dn.ret (rs := [.tmp t, .tmp t']) hr (.tmp hv (.tmp hv' .nil)) k
theorem Dn.ret3 {t t' t'' v v' v''} (hr : fn.results = #[.tmp t, .tmp t', .tmp t'']) (hv : e.get t = some v) (hv' : e.get t' = some v') (hv'' : e.get t'' = some v'') (k : ∀ w, St w0 H w → Post (.tuple #[v, v', v'']) w) : Dn w0 n (Rt P fn Post) .ret e H := Dn.ret (rs := [.tmp t, .tmp t', .tmp t'']) hr (.tmp hv (.tmp hv' (.tmp hv'' .nil))) k
theorem Dn.retC {a t p pre v} (hr : fn.results = #[.cell a t]) (hv : e.get a = some p) [q : Q1 P (.load t p) t H pre v] (hp : pre) (k : ∀ w, St w0 H w → Post v w) : Dn w0 n (Rt P fn Post) .ret e H := Dn.ret (rs := [.cell a t]) hr (.cell hv q hp .nil) k
end
end Go.Sl

namespace Go.Sl
open Go
set_option linter.unusedVariables false
set_option linter.unusedSectionVars false
/-! What is asked of types. -/
class TyU (P : Program) (t : TypeId) (d : outParam TypeDesc) : Prop where u : P.underlying t = some d
class TySz (P : Program) (t : TypeId) (n : outParam Nat) : Prop where s : (P.info? t).map (·.size) = some n
class TyZ (P : Program) (t : TypeId) (z : outParam Value) : Prop where z : (P.info? t).map (·.zero) = some (some z)
class TyB (P : Program) (t : TypeId) (n : outParam Nat) : Prop where b : (P.info? t).map (·.bytes) = some n
class TyF (P : Program) (s : TypeId) (f : Nat) (off ft : outParam Nat) : Prop where f : ∃ fs fd, P.underlying s = some (.struct fs) ∧ fs[f]? = some fd ∧ fd.offset = off ∧ fd.type = ft
def aggD : TypeDesc → Bool | .struct _ | .array _ _ => true | _ => false
class Agg (P : Program) (t : TypeId) (b : outParam Bool) : Prop where a : (P.underlying t).map aggD = some b
section
variable {P : Program} {w : World} {t : TypeId}
theorem run_pure {α} (a : α) : (Pure.pure a : Sem α).run P w = .ok a w := rfl
theorem run_underlying {d} (h : P.underlying t = some d) : (underlying t).run P w = .ok d w := by
  simp only [underlying, program, run_bind', Sem.run, h]; rfl
theorem run_typeInfo {i} (h : P.info? t = some i) : (typeInfo t).run P w = .ok i w := by
  simp only [typeInfo, program, run_bind', Sem.run, h]; rfl
theorem run_sizeOf {n} (h : TySz P t n) : (sizeOf t).run P w = .ok n w := by
  obtain ⟨h⟩ := h
  cases hi : P.info? t with
  | none => rw [hi] at h; cases h
  | some i => rw [hi] at h; simp at h; subst h; simp only [sizeOf, run_bind', run_typeInfo hi]; rfl
theorem run_zeroValue {z} (h : TyZ P t z) : (zeroValue t).run P w = .ok z w := by
  obtain ⟨h⟩ := h
  cases hi : P.info? t with
  | none => rw [hi] at h; cases h
  | some i => rw [hi] at h; simp at h; simp only [zeroValue, run_bind', run_typeInfo hi, h]; rfl
theorem run_isAgg {b} (h : Agg P t b) : (isAgg t).run P w = .ok b w := by
  obtain ⟨h⟩ := h
  cases hd : P.underlying t with
  | none => rw [hd] at h; cases h
  | some d => rw [hd] at h; simp at h; subst h; simp only [isAgg, run_bind', run_underlying hd]; cases d <;> rfl
theorem run_load {a : Addr} {m v} (h : w.cell? a = some v) : (load a m).run P w = .ok v w := by
  simp only [load, Sem.run, h]
theorem cell_of {b off : Nat} {c : Array Value} {T fz} (h : w.heap[b]? = some (.cells c T fz)) : w.cell? ⟨b, off, none⟩ = c[off]? := by
  simp [World.cell?, h]
theorem add_none (b off n : Nat) : (Addr.add ⟨b, off, none⟩ n) = ⟨b, off + n, none⟩ := by
  unfold Addr.add; split
  · subst_vars; rfl
  · rfl
theorem run_loadCells {b : Nat} {c : Array Value} {T fz} (h : w.heap[b]? = some (.cells c T fz)) : ∀ (n i off : Nat) (acc : Array Value) (l : List Value),
    l.length = n → (∀ j, j < n → c[off + i + j]? = l[j]?) → (loadCellsFrom ⟨b, off, none⟩ i n acc).run P w = .ok (acc ++ l.toArray) w
  | 0, i, off, acc, l, hl, _ => by
    have : l = [] := List.length_eq_zero_iff.1 hl
    subst this; simp [loadCellsFrom, run_pure]
  | n + 1, i, off, acc, l, hl, hc => by
    cases l with
    | nil => simp at hl
    | cons x l =>
      have h0 := hc 0 (by omega)
      simp at h0
      rw [loadCellsFrom, run_bind', add_none, run_load (v := x) (by rw [cell_of h, h0])]
      have := run_loadCells h n (i + 1) off (acc.push x) l (by simpa using hl) (fun j hj => by
        have := hc (j + 1) (by omega)
        rw [show off + i + (j + 1) = off + (i + 1) + j from by omega] at this
        simpa using this)
      simp only [this]
      congr 1
      apply Array.ext'; simp
/-- One variable's value among the cells of its block. -/
def Lies (P : Program) (t : TypeId) (c : Array Value) (off : Nat) (v : Value) : Prop :=
  (Agg P t false ∧ c[off]? = some v) ∨ ∃ (n : Nat) (l : List Value), Agg P t true ∧ TySz P t n ∧ v = .agg l.toArray ∧ l.length = n ∧ ∀ j, j < n → c[off + j]? = l[j]?
theorem run_loadVar {b off : Nat} {c : Array Value} {T fz} {v} (h : w.heap[b]? = some (.cells c T fz)) (k : Lies P t c off v) : (loadVar t ⟨b, off, none⟩).run P w = .ok v w := by
  rcases k with ⟨ha, hc⟩ | ⟨n, l, ha, hn, rfl, hl, hc⟩
  · simp only [loadVar, run_bind', run_isAgg ha]
    exact run_load (by rw [cell_of h, hc])
  · simp only [loadVar, run_bind', run_isAgg ha, run_sizeOf hn, if_true, loadCells]
    rw [run_loadCells h n 0 off #[] l hl (fun j hj => by simpa using hc j hj)]
    simp [run_pure]
end
/-! lists at given places -/
class At (l : List Value) (i : Nat) (v : outParam Value) : Prop where at_ : l[i]? = some v
instance At.tl (x : Value) (l : List Value) (i : Nat) (v : Value) [h : At l i v] : At (x :: l) (i + 1) v := ⟨by simpa using h.at_⟩
instance At.hd (x : Value) (l : List Value) : At (x :: l) 0 x := ⟨rfl⟩
class Pre (l : List Value) (n : Nat) (m : outParam (List Value)) : Prop where pre : m.length = n ∧ ∀ j, j < n → l[j]? = m[j]?
instance Pre.z (l : List Value) : Pre l 0 [] := ⟨rfl, fun j hj => by omega⟩
instance Pre.s (x : Value) (l : List Value) (n : Nat) (m : List Value) [h : Pre l n m] : Pre (x :: l) (n + 1) (x :: m) := ⟨by simp [h.pre.1], fun j hj => by
  cases j with
  | zero => rfl
  | succ j => simpa using h.pre.2 j (by omega)⟩
class Cut (l : List Value) (i n : Nat) (m : outParam (List Value)) : Prop where cut : m.length = n ∧ ∀ j, j < n → l[i + j]? = m[j]?
instance Cut.s (x : Value) (l : List Value) (i n : Nat) (m : List Value) [h : Cut l i n m] : Cut (x :: l) (i + 1) n m := ⟨h.cut.1, fun j hj => by
  rw [show i + 1 + j = (i + j) + 1 from by omega]; simpa using h.cut.2 j hj⟩
instance Cut.z (l : List Value) (n : Nat) (m : List Value) [h : Pre l n m] : Cut l 0 n m := ⟨h.pre.1, fun j hj => by simpa using h.pre.2 j hj⟩
class LiesL (P : Program) (t : TypeId) (l : List Value) (off : Nat) (v : outParam Value) : Prop where lies : Lies P t l.toArray off v
instance LiesL.s (P : Program) (t : TypeId) (l : List Value) (off : Nat) (v : Value) [a : Agg P t false] [h : At l off v] : LiesL P t l off v := ⟨.inl ⟨a, by simpa using h.at_⟩⟩
instance LiesL.a (P : Program) (t : TypeId) (l : List Value) (off n : Nat) (m : List Value) [a : Agg P t true] [s : TySz P t n] [h : Cut l off n m] : LiesL P t l off (.agg m.toArray) :=
  ⟨.inr ⟨n, m, a, s, rfl, h.cut.1, fun j hj => by simpa using h.cut.2 j hj⟩⟩
/-! blocks -/
def celB (r : Bool) (b : Nat) (T : TypeId) (l : List Value) : HProp := fun h => h b = some (r, .cells l.toArray T (0, 0))
abbrev cel (b : Nat) (T : TypeId) (l : List Value) : HProp := celB false b T l
abbrev rcel (b : Nat) (T : TypeId) (l : List Value) : HProp := celB true b T l
class RdC (H : List HProp) (b : Nat) (l : outParam (List Value)) : Prop where rd : ∀ w, sat w (stars H) → ∃ T fz, w.heap[b]? = some (.cells l.toArray T fz)
instance RdC.tl (A : HProp) (H : List HProp) (b : Nat) (l : List Value) [h : RdC H b l] : RdC (A :: H) b l := ⟨fun w hw => h.rd w hw.right⟩
instance RdC.hd (H : List HProp) (r : Bool) (b : Nat) (T : TypeId) (l : List Value) : RdC (celB r b T l :: H) b l := ⟨fun w hw => ⟨T, _, by obtain ⟨h, le, x⟩ := hw.left; exact le b _ _ x⟩⟩
section
variable {P : Program} {ty : TypeId} {H : List HProp}
instance Q1.load (t : TypeId) (b off : Nat) (l : List Value) (v : Value) [r : RdC H b l] [k : LiesL P t l off v] : Q1 P (.load t (.pointer (some ⟨b, off, none⟩))) ty H True v :=
  ⟨fun _ w hw => by
    obtain ⟨T, fz, h⟩ := r.rd w hw
    exact exec_v (by show (loadVar t ⟨b, off, none⟩).run P w = _; exact run_loadVar h k.lies)⟩
theorem ibeq (a b : Int) : (a == b) = decide (a = b) := by by_cases h : a = b <;> simp [h]
/-! operations that look at no memory -/
instance Q1.move (v : Value) : Q1 P (.move v) ty H True v := ⟨fun _ _ _ => rfl⟩
instance Q1.pick (c : Bool) (a b : Value) : Q1 P (.pick (.bool c) a b) ty H True (if c then a else b) := ⟨fun _ _ _ => rfl⟩
instance Q1.pickB (c x y : Bool) : Q1 P (.pick (.bool c) (.bool x) (.bool y)) ty H True (.bool (if c then x else y)) := ⟨fun _ _ _ => by cases c <;> rfl⟩
instance Q1.pickI (c : Bool) (k : IntKind) (x y : Int) : Q1 P (.pick (.bool c) (.int k x) (.int k y)) ty H True (.int k (if c then x else y)) := ⟨fun _ _ _ => by cases c <;> rfl⟩
instance Q1.pickT (a b : Value) : Q1 P (.pick (.bool true) a b) ty H True a := ⟨fun _ _ _ => rfl⟩
instance Q1.pickF (a b : Value) : Q1 P (.pick (.bool false) a b) ty H True b := ⟨fun _ _ _ => rfl⟩
instance Q1.nilc (a : Addr) : Q1 P (.nilc (.pointer (some a))) ty H True (.pointer (some a)) := ⟨fun _ _ _ => rfl⟩
instance Q1.nilcF (f : FuncId) (first caps : Array Value) : Q1 P (.nilc (.func (.func f) first caps)) ty H True (.func (.func f) first caps) := ⟨fun _ _ _ => rfl⟩
def in64 (n : Int) : Prop := -9223372036854775808 ≤ n ∧ n ≤ 9223372036854775807
theorem wrap_in64 {n : Int} (h : in64 n) : IntKind.i64.wrap n = n := IntWalk.i64_in _ (by unfold in64 at h; omega)
theorem eqg_int (op : BinOp) (t : TypeId) (x y : Operand) (k k' : IntKind) (a b : Int) (w : World) : (eqGuard op t x y (.int k a) (.int k' b)).run P w = .ok () w := by
  unfold eqGuard; split <;> rfl
theorem bin_int {op : BinOp} {t : TypeId} {k : IntKind} {a b : Int} {ca cb : Bool} {w : World} {v : Value} (h : (binOp op t (.int k a) (.int k b)).run P w = .ok v w) :
    ((VOp.bin op t (.int k a) (.int k b) ca cb).exec ty).run P w = .ok (.value v) w :=
  exec_v (by rw [run_bind', eqg_int]; exact h)
instance Q1.add (t : TypeId) (a b : Int) (ca cb : Bool) : Q1 P (.bin .add t (.int .i64 a) (.int .i64 b) ca cb) ty H (in64 (a + b)) (.int .i64 (a + b)) :=
  ⟨fun h w _ => bin_int (by simp [binOp, Op.intArith, wrap_in64 h, run_pure])⟩
instance Q1.sub (t : TypeId) (a b : Int) (ca cb : Bool) : Q1 P (.bin .sub t (.int .i64 a) (.int .i64 b) ca cb) ty H (in64 (a - b)) (.int .i64 (a - b)) :=
  ⟨fun h w _ => bin_int (by simp [binOp, Op.intArith, wrap_in64 h, run_pure])⟩
instance Q1.mul (t : TypeId) (a b : Int) (ca cb : Bool) : Q1 P (.bin .mul t (.int .i64 a) (.int .i64 b) ca cb) ty H (in64 (a * b)) (.int .i64 (a * b)) :=
  ⟨fun h w _ => bin_int (by simp [binOp, Op.intArith, wrap_in64 h, run_pure])⟩
instance Q1.add32 (t : TypeId) (a b : Int) (ca cb : Bool) : Q1 P (.bin .add t (.int .i32 a) (.int .i32 b) ca cb) ty H True (.int .i32 (IntKind.i32.wrap (a + b))) := ⟨fun h w _ => bin_int rfl⟩
instance Q1.sub32 (t : TypeId) (a b : Int) (ca cb : Bool) : Q1 P (.bin .sub t (.int .i32 a) (.int .i32 b) ca cb) ty H True (.int .i32 (IntKind.i32.wrap (a - b))) := ⟨fun h w _ => bin_int rfl⟩
instance Q1.mul32 (t : TypeId) (a b : Int) (ca cb : Bool) : Q1 P (.bin .mul t (.int .i32 a) (.int .i32 b) ca cb) ty H True (.int .i32 (IntKind.i32.wrap (a * b))) := ⟨fun h w _ => bin_int rfl⟩
instance Q1.lss (t : TypeId) (k : IntKind) (a b : Int) (ca cb : Bool) : Q1 P (.bin .lss t (.int k a) (.int k b) ca cb) ty H True (.bool (decide (a < b))) := ⟨fun h w _ => bin_int (by simp [binOp, Op.intCmp, run_pure])⟩
instance Q1.leq (t : TypeId) (k : IntKind) (a b : Int) (ca cb : Bool) : Q1 P (.bin .leq t (.int k a) (.int k b) ca cb) ty H True (.bool (decide (a ≤ b))) := ⟨fun h w _ => bin_int (by simp [binOp, Op.intCmp, run_pure])⟩
instance Q1.gtr (t : TypeId) (k : IntKind) (a b : Int) (ca cb : Bool) : Q1 P (.bin .gtr t (.int k a) (.int k b) ca cb) ty H True (.bool (decide (b < a))) := ⟨fun h w _ => bin_int (by simp [binOp, Op.intCmp, run_pure])⟩
instance Q1.geq (t : TypeId) (k : IntKind) (a b : Int) (ca cb : Bool) : Q1 P (.bin .geq t (.int k a) (.int k b) ca cb) ty H True (.bool (decide (b ≤ a))) := ⟨fun h w _ => bin_int (by simp [binOp, Op.intCmp, run_pure])⟩
instance Q1.eql (t : TypeId) (k : IntKind) (a b : Int) (ca cb : Bool) : Q1 P (.bin .eql t (.int k a) (.int k b) ca cb) ty H True (.bool (decide (a = b))) := ⟨fun h w _ => bin_int (by simp [binOp, Op.intCmp, run_pure, ibeq])⟩
instance Q1.neq (t : TypeId) (k : IntKind) (a b : Int) (ca cb : Bool) : Q1 P (.bin .neq t (.int k a) (.int k b) ca cb) ty H True (.bool (decide (a ≠ b))) := ⟨fun h w _ => bin_int (by simp [binOp, Op.intCmp, run_pure, bne, ibeq])⟩
theorem in64_div {a b : Int} (ha : in64 a) (h0 : 0 ≤ a) (hb : 0 < b) : in64 (a / b) := by
  unfold in64 at *
  have h1 := Int.ediv_le_self b h0
  have h2 := Int.ediv_nonneg h0 (Int.le_of_lt hb)
  omega
instance Q1.quo (t : TypeId) (a b : Int) (ca cb : Bool) : Q1 P (.bin .quo t (.int .i64 a) (.int .i64 b) ca cb) ty H (in64 a ∧ 0 ≤ a ∧ 0 < b) (.int .i64 (a / b)) :=
  ⟨fun ⟨h, h0, hb⟩ w _ => bin_int (by
    have hne : b ≠ 0 := by omega
    simp [binOp, Op.intDiv, hne, Int.tdiv_eq_ediv_of_nonneg h0, wrap_in64 (in64_div h h0 hb), run_pure])⟩
instance Q1.rem (t : TypeId) (k : IntKind) (a b : Int) (ca cb : Bool) : Q1 P (.bin .rem t (.int k a) (.int k b) ca cb) ty H (0 ≤ a ∧ 0 < b) (.int k (a % b)) :=
  ⟨fun ⟨h0, hb⟩ w _ => bin_int (by
    have hne : b ≠ 0 := by omega
    simp [binOp, Op.intDiv, hne, Int.tmod_eq_emod_of_nonneg h0, run_pure])⟩
instance Q1.not (b : Bool) : Q1 P (.un .not (.bool b)) ty H True (.bool (!b)) := ⟨fun _ _ _ => rfl⟩
instance Q1.notT : Q1 P (.un .not (.bool true)) ty H True (.bool false) := ⟨fun _ _ _ => rfl⟩
instance Q1.notF : Q1 P (.un .not (.bool false)) ty H True (.bool true) := ⟨fun _ _ _ => rfl⟩
instance Q1.notP (p : Prop) [Decidable p] : Q1 P (.un .not (.bool (decide p))) ty H True (.bool (decide (¬ p))) := ⟨fun _ _ _ => by rw [decide_not]; rfl⟩
instance Q1.mkF (fn : Fn) (first caps : List Value) : Q1 P (.mkF fn first caps) ty H True (.func fn first.toArray caps.toArray) := ⟨fun _ _ _ => rfl⟩
instance Q1.extr (l : List Value) (i : Nat) (v : Value) [h : At l i v] : Q1 P (.extr (.tuple l.toArray) i) ty H True v :=
  ⟨fun _ w _ => exec_v (by have := h.at_; simp [Instr.extract, this, run_pure])⟩
theorem run_part {t : TypeId} {c : Array Value} {off : Nat} {v : Value} {w : World} (k : Lies P t c off v) : (part t c off).run P w = .ok v w := by
  rcases k with ⟨ha, hc⟩ | ⟨n, l, ha, hn, rfl, hl, hc⟩
  · simp only [part, run_bind', run_isAgg ha, hc]; rfl
  · simp only [part, run_bind', run_isAgg ha, run_sizeOf hn, if_true, run_pure]
    congr 2
    apply Array.ext'
    apply List.ext_getElem?
    intro j
    have hlen : ∀ j, j < n → off + j < c.size := fun j hj => by
      have := hc j hj
      rw [List.getElem?_eq_getElem (by omega)] at this
      exact (Array.getElem?_eq_some_iff.1 this).1
    by_cases hj : j < n
    · rw [← hc j hj]; simp [List.getElem?_drop, List.getElem?_take]; omega
    · rw [List.getElem?_eq_none (by omega : l.length ≤ j)]
      simp; omega
instance Q1.field (t : TypeId) (l : List Value) (f off ft : Nat) (v : Value) [k : TyF P t f off ft] [h : LiesL P ft l off v] : Q1 P (.field t (.agg l.toArray) f) ty H True v :=
  ⟨fun _ w _ => by
    obtain ⟨fs, fd, h1, h2, rfl, rfl⟩ := k.f
    exact exec_v (by simp only [Instr.field, run_bind', run_underlying h1, h2, asAgg, run_pure]; exact run_part h.lies)⟩
theorem run_fieldPlace {b off : Nat} {fd : Field} {n : Nat} {w : World} (h : TySz P fd.type n) (hn : n ≠ 0) : (fieldPlace ⟨b, off, none⟩ fd).run P w = .ok ⟨b, off + fd.offset, none⟩ w := by
  simp only [fieldPlace, run_bind', run_sizeOf h, if_neg hn, add_none, run_pure]
class NZ (n : Nat) : Prop where nz : n ≠ 0
instance NZ.s (n : Nat) : NZ (n + 1) := ⟨by omega⟩
instance Q1.faddr (s b o f off ft n : Nat) [k : TyF P s f off ft] [h : TySz P ft n] [z : NZ n] : Q1 P (.faddr s (.pointer (some ⟨b, o, none⟩)) f) ty H True (.pointer (some ⟨b, o + off, none⟩)) :=
  ⟨fun _ w _ => by
    obtain ⟨fs, fd, h1, h2, rfl, rfl⟩ := k.f
    exact exec_v (by simp only [Instr.fieldAt, run_bind', run_underlying h1, h2, Instr.sureAddr, run_pure, run_fieldPlace h z.nz])⟩
instance Q1.faddr0 (s b f off ft n : Nat) [k : TyF P s f off ft] [h : TySz P ft n] [z : NZ n] : Q1 P (.faddr s (.pointer (some ⟨b, 0, none⟩)) f) ty H True (.pointer (some ⟨b, off, none⟩)) :=
  ⟨fun p w hw => by have := (Q1.faddr (P := P) (H := H) (ty := ty) s b 0 f off ft n).run p w hw; simpa using this⟩
instance Q1.len (e : TypeId) (t : TypeId) (cs : Array Bool) (a : Option Addr) (n c : Nat) [k : TyU P t (.slice e)] : Q1 P (.bi .len #[t] cs [.slice a n c]) ty H True (.int .i64 n) :=
  ⟨fun _ w _ => exec_v (by simp only [Builtin.len_, run_bind', List.getElem?_toArray, List.getElem?_cons_zero, run_underlying k.u]; rfl)⟩
instance Q1.lenS (t : TypeId) (cs : Array Bool) (s : ByteArray) [k : TyU P t .string] : Q1 P (.bi .len #[t] cs [.string s]) ty H True (.int .i64 s.size) :=
  ⟨fun _ w _ => exec_v (by simp only [Builtin.len_, run_bind', List.getElem?_toArray, List.getElem?_cons_zero, run_underlying k.u]; rfl)⟩
def imax (a b : Int) : Int := if b > a then b else a
def imin (a b : Int) : Int := if b < a then b else a
instance Q1.max (ts : Array TypeId) (cs : Array Bool) (k : IntKind) (a b : Int) : Q1 P (.bi .max ts cs [.int k a, .int k b]) ty H True (.int k (imax a b)) :=
  ⟨fun _ w _ => exec_v (by simp [Builtin.max_, Builtin.max2, imax])⟩
class NI (d : TypeDesc) : Prop where ni : ∀ ms, d ≠ .interface ms
instance (k) : NI (.int k) := ⟨fun _ h => by cases h⟩
instance (k) : NI (.struct k) := ⟨fun _ h => by cases h⟩
instance (k) : NI (.pointer k) := ⟨fun _ h => by cases h⟩
instance (k) : NI (.slice k) := ⟨fun _ h => by cases h⟩
instance : NI .bool := ⟨fun _ h => by cases h⟩
instance : NI .string := ⟨fun _ h => by cases h⟩
instance Q1.mkI (t : TypeId) (v : Value) (d : TypeDesc) [k : TyU P t d] [n : NI d] : Q1 P (.mkI t v) ty H True (.iface t v) :=
  ⟨fun _ w _ => exec_v (by
    simp only [Instr.makeInterface, run_bind', run_underlying k.u]
    have := n.ni
    cases d <;> first | rfl | exact absurd rfl (this _))⟩
end
end Go.Sl

namespace Go.Sl
open Go
set_option linter.unusedVariables false
set_option linter.unusedSectionVars false
/-! A region that draws its order: quiet operations are taken as soon as what they hang on is there, the others ('specials') one by one. -/
def bnds (o : Oper) : List Nat := o.after.toList.filterMap fun e => if Region.binds .any e then some e.on else none
def befL (ops : List Oper) : List (List Nat) := ops.foldl (fun acc o => acc ++ [((bnds o).flatMap fun k => k :: acc.getD k []).eraseDups]) []
def dstOf (ops : List Oper) (i : Nat) : Option Nat := (ops[i]?).bind (·.dst)
def tmpsOf (l : List Operand) : List Nat := l.filterMap fun | .tmp t => some t | _ => none
def readsOf (ops : List Oper) (i : Nat) : List Nat := match ops[i]? with
  | none => []
  | some o => tmpsOf o.op.operands.toList ++ (match o.guard with | some (j, _) => (dstOf ops j).toList | none => [])
/-- What must hold of the region's text. -/
def chk (ops : List Oper) (B : List (List Nat)) (n : Nat) : Bool :=
  (List.range ops.length).all fun i =>
    (match ops[i]? with | none => true | some o => (bnds o).all fun k => Nat.blt k i) &&
    ((B.getD i []).all fun j => match ops[i]? with | none => false | some o => (bnds o).any fun k => k == j || (B.getD k []).contains j) &&
    ((readsOf ops i).all fun t => (List.range ops.length).all fun j => dstOf ops j != some t || (B.getD i []).contains j) &&
    (match dstOf ops i with | none => true | some d => Nat.blt d n && (List.range ops.length).all fun j => j == i || dstOf ops j != some d)
def sbOf (B : List (List Nat)) (sp : List Nat) (j : Nat) : List Nat := sp.filter fun s => (B.getD j []).contains s
def todoOf (N : Nat) (B : List (List Nat)) (sp : List Nat) (done : List Nat) (last : Option Nat) : List (Nat × Bool) :=
  (List.range N).filterMap fun j =>
    if sp.contains j then none
    else if (sbOf B sp j).all done.contains then
      (match last with
       | none => some (j, true)
       | some i => if (sbOf B sp j).contains i then some (j, true)
         else if done.any fun s => (B.getD s []).contains j then none
         else some (j, false))
    else none
def readySp (B : List (List Nat)) (sp done : List Nat) : List Nat := sp.filter fun s => !done.contains s && (sbOf B sp s).all done.contains
section
variable (P : Program) (w0 : World) (n : Nat) (ops : List Oper) (B : List (List Nat)) (sp : List Nat) (Q : Exit → Act → World → Prop)
/-- Operation i, quiet, yields v. -/
def QV (i : Nat) (e : Env) (H : List HProp) (v : Value) : Prop :=
  ∃ o, ops[i]? = some o ∧ ((gw ops.toArray e o.guard = some true ∧ ∃ vop, Op.sub e o.op = some vop ∧ ∀ w, sat w (stars H) → (vop.exec o.type).run P w = .ok (.value v) w) ∨ (gw ops.toArray e o.guard = some false ∧ v = undef))
def GrL (H : List HProp) : List (Nat × Bool) → Env → (Env → Prop) → Prop
  | [], e, K => K e
  | (i, true) :: r, e, K => ∃ v d, dstOf ops i = some d ∧ e.get d = none ∧ QV P ops i e H v ∧ GrL H r ((d, v) :: e) K
  | (i, false) :: r, e, K => (∃ v d, dstOf ops i = some d ∧ e.get d = some v ∧ QV P ops i e H v) ∧ GrL H r e K
/-- A special operation. -/
def SpOp (i : Nat) (e : Env) (H : List HProp) (K : Env → List HProp → Prop) : Prop :=
  ∃ o, ops[i]? = some o ∧ (∀ d, o.dst = some d → e.get d = none) ∧
    ((gw ops.toArray e o.guard = some true ∧ ∃ vop, Op.sub e o.op = some vop ∧ Eff P w0 vop o.type H fun v H' => K (e.put o.dst v) H') ∨ (gw ops.toArray e o.guard = some false ∧ K (e.put o.dst undef) H))
def Sg : Nat → List Nat → Env → List HProp → Prop
  | 0, done, e, H => Dn w0 n Q .normal e H
  | k + 1, done, e, H => ∀ i, i ∈ readySp B sp done → SpOp P w0 ops i e H fun e' H' => GrL P ops H' (todoOf ops.length B sp (i :: done) (some i)) e' fun e'' => Sg k (i :: done) e'' H'
end
section
variable {P : Program} {w0 : World} {n : Nat} {ops : List Oper} {B : List (List Nat)} {sp : List Nat} {Q : Exit → Act → World → Prop}
theorem Env.get_cons_ne {e : Env} {d t : Nat} {v : Value} (h : t ≠ d) : Env.get ((d, v) :: e) t = e.get t := by
  simp only [Env.get]
  cases hb : Nat.beq d t with
  | true => exact absurd (Nat.eq_of_beq_eq_true hb).symm h
  | false => rfl
theorem Env.get_cons_eq {e : Env} {d : Nat} {v : Value} : Env.get ((d, v) :: e) d = some v := by
  simp [Env.get]
theorem Env.le_put {e : Env} {d : Nat} {v : Value} (h : e.get d = none) : Env.le ((d, v) :: e) e := fun t u hu => by
  by_cases ht : t = d
  · subst ht; rw [h] at hu; cases hu
  · rw [Env.get_cons_ne ht]; exact hu
theorem Env.le_trans {a b c : Env} (h : Env.le a b) (k : Env.le b c) : Env.le a c := fun t v hv => h t v (k t v hv)
theorem Env.le_refl (a : Env) : Env.le a a := fun _ _ h => h
theorem GrL.out {H : List HProp} : ∀ {todo : List (Nat × Bool)} {e : Env} {K : Env → Prop}, GrL P ops H todo e K →
    ∃ e', K e' ∧ Env.le e' e ∧ (∀ t u, e'.get t = some u → e.get t = some u ∨ ∃ i, (i, true) ∈ todo ∧ dstOf ops i = some t) ∧
      ∀ i b, (i, b) ∈ todo → ∃ ei v d, dstOf ops i = some d ∧ Env.le e' ei ∧ e'.get d = some v ∧ QV P ops i ei H v
  | [], e, K, h => ⟨e, h, Env.le_refl e, fun t u hu => .inl hu, fun i b hb => by cases hb⟩
  | (i, true) :: r, e, K, h => by
    obtain ⟨v, d, hd, hn, hq, hr⟩ := h
    obtain ⟨e', h1, h2, h3, h4⟩ := GrL.out hr
    refine ⟨e', h1, Env.le_trans h2 (Env.le_put hn), fun t u hu => ?_, fun j b hb => ?_⟩
    · rcases h3 t u hu with h5 | ⟨j, hj, hjd⟩
      · by_cases ht : t = d
        · subst ht; exact .inr ⟨i, by simp, hd⟩
        · rw [Env.get_cons_ne ht] at h5; exact .inl h5
      · exact .inr ⟨j, by simp [hj], hjd⟩
    · rcases List.mem_cons.1 hb with h5 | h5
      · cases h5
        exact ⟨e, v, d, hd, Env.le_trans h2 (Env.le_put hn), h2 d v Env.get_cons_eq, hq⟩
      · exact h4 j b h5
  | (i, false) :: r, e, K, h => by
    obtain ⟨⟨v, d, hd, hv, hq⟩, hr⟩ := h
    obtain ⟨e', h1, h2, h3, h4⟩ := GrL.out hr
    refine ⟨e', h1, h2, fun t u hu => ?_, fun j b hb => ?_⟩
    · rcases h3 t u hu with h5 | ⟨j, hj, hjd⟩
      · exact .inl h5
      · exact .inr ⟨j, by simp [hj], hjd⟩
    · rcases List.mem_cons.1 hb with h5 | h5
      · cases h5
        exact ⟨e, v, d, hd, h2, h2 d v hv, hq⟩
      · exact h4 j b h5
/-- What has been listed is closed. -/
def Cl (ops : List Oper) (L : Array Bool) : Prop := ∀ j o, ops[j]? = some o → L.getD j true = true → ∀ k, k ∈ bnds o → L.getD k false = true
theorem chk_get (hB : chk ops B n = true) {i : Nat} {o : Oper} (h : ops[i]? = some o) :
    (∀ k, k ∈ bnds o → k < i) ∧ (∀ j, j ∈ B.getD i [] → ∃ k, k ∈ bnds o ∧ (k = j ∨ j ∈ B.getD k [])) ∧
    (∀ t, t ∈ readsOf ops i → ∀ j, dstOf ops j = some t → j ∈ B.getD i []) ∧ (∀ d, o.dst = some d → d < n ∧ ∀ j, dstOf ops j = some d → j = i) := by
  have hi : i < ops.length := (List.getElem?_eq_some_iff.1 h).1
  have := (List.all_eq_true.1 hB) i (List.mem_range.2 hi)
  simp only [Bool.and_eq_true, h, List.all_eq_true] at this
  obtain ⟨⟨⟨h1, h2⟩, h3⟩, h4⟩ := this
  have hdl : ∀ j t, dstOf ops j = some t → j < ops.length := fun j t hj => by
    unfold dstOf at hj
    cases ho : ops[j]? with
    | none => rw [ho] at hj; cases hj
    | some o => exact (List.getElem?_eq_some_iff.1 ho).1
  refine ⟨fun k hk => by simpa using h1 k hk, fun j hj => ?_, fun t ht j hj => ?_, fun d hd => ?_⟩
  · have := h2 j hj
    simp only [List.any_eq_true, Bool.or_eq_true, beq_iff_eq, List.contains_iff_mem] at this
    exact this
  · have := h3 t ht j (List.mem_range.2 (hdl j t hj))
    simpa [hj] using this
  · have hd' : dstOf ops i = some d := by simp [dstOf, h, hd]
    rw [hd'] at h4
    simp only [Bool.and_eq_true, List.all_eq_true] at h4
    refine ⟨by simpa using h4.1, fun j hj => ?_⟩
    have := h4.2 j (List.mem_range.2 (hdl j d hj))
    simpa [hj] using this
/-- All that stands ahead of a listed operation is listed. -/
theorem cl_bef (hB : chk ops B n = true) {L : Array Bool} (hL : Cl ops L) : ∀ (i : Nat) (o : Oper), ops[i]? = some o → (∀ k, k ∈ bnds o → L.getD k false = true) → ∀ j, j ∈ B.getD i [] → L.getD j false = true := by
  intro i
  induction i using Nat.strongRecOn with
  | _ i ih =>
    intro o ho hb j hj
    obtain ⟨h1, h2, _, _⟩ := chk_get hB ho
    obtain ⟨k, hk, rfl | hkj⟩ := h2 j hj
    · exact hb _ hk
    · have hki := h1 k hk
      have hil : i < ops.length := (List.getElem?_eq_some_iff.1 ho).1
      have hok : ops[k]? = some ops[k] := List.getElem?_eq_getElem (by omega)
      have hkL : L.getD k false = true := hb k hk
      have hks : k < L.size := by
        rcases Nat.lt_or_ge k L.size with h | h
        · exact h
        · simp [Array.getD, Nat.not_lt.2 h] at hkL
      exact ih k hki _ hok (hL k _ hok (by simpa [Array.getD, hks] using hkL)) j hkj
theorem ready_mem {L : Array Bool} {i : Nat} (h : i ∈ Region.ready .any ops.toArray L) : ∃ o, ops[i]? = some o ∧ L.getD i true = false ∧ ∀ k, k ∈ bnds o → L.getD k false = true := by
  unfold Region.ready at h
  simp only [List.mem_filter, List.mem_range, Bool.and_eq_true] at h
  obtain ⟨h0, h1, h2⟩ := h
  have hi : i < ops.length := by simpa using h0
  refine ⟨ops[i], List.getElem?_eq_getElem hi, by simpa using h1, fun k hk => ?_⟩
  simp only [List.getElem?_toArray, List.getElem?_eq_getElem hi, Option.map_some, Option.getD_some] at h2
  unfold bnds at hk
  simp only [List.mem_filterMap] at hk
  obtain ⟨e, he, hek⟩ := hk
  have := Array.all_eq_true'.1 h2 e (by simpa using he)
  split at hek
  · rename_i hbd
    simp at hek; subst hek
    simpa [hbd] using this
  · cases hek
theorem ready_nil (hB : chk ops B n = true) {L : Array Bool} (hs : L.size = ops.length) (h : Region.ready .any ops.toArray L = []) : ∀ i, i < ops.length → L.getD i true = true := by
  intro i
  induction i using Nat.strongRecOn with
  | _ i ih =>
    intro hi
    cases hL : L.getD i true with
    | true => rfl
    | false =>
      have : i ∈ Region.ready .any ops.toArray L := by
        unfold Region.ready
        simp only [List.mem_filter, List.mem_range, Bool.and_eq_true]
        refine ⟨by simpa using hi, by simp [hL], ?_⟩
        simp only [List.getElem?_toArray, List.getElem?_eq_getElem hi, Option.map_some, Option.getD_some]
        refine Array.all_eq_true'.2 fun e he => ?_
        cases hb : Region.binds .any e with
        | false => simp
        | true =>
          have hk : e.on ∈ bnds ops[i] := by
            unfold bnds; simp only [List.mem_filterMap]; exact ⟨e, by simpa using he, by simp [hb]⟩
          have hlt := (chk_get hB (List.getElem?_eq_getElem hi)).1 _ hk
          have := ih e.on hlt (by omega)
          have hsz : e.on < L.size := by omega
          simp [Array.getD, hsz] at this ⊢
          exact this
      rw [h] at this; cases this
/-- The state of a drawn region under way. -/
structure Inv (P : Program) (w0 : World) (n : Nat) (ops : List Oper) (B : List (List Nat)) (sp : List Nat) (L : Array Bool) (done : List Nat) (e : Env) (H : List HProp) (a : Act) (w : World) : Prop where
  size : L.size = ops.length
  cl : Cl ops L
  dn : ∀ s, s ∈ sp → (s ∈ done ↔ L.getD s false = true)
  dnsp : ∀ s, s ∈ done → s ∈ sp
  act : a.defers = [] ∧ a.tmps.size = n
  agr : ∀ t u, e.get t = some u → (∀ i, dstOf ops i = some t → L.getD i true = true) → a.tmps[t]? = some u
  st : St w0 H w
  pend : ∀ i o, ops[i]? = some o → L.getD i true = false → i ∉ sp → (∀ s, s ∈ sbOf B sp i → s ∈ done) → ∃ ei v d, dstOf ops i = some d ∧ Env.le e ei ∧ e.get d = some v ∧ QV P ops i ei H v
theorem getD_set {L : Array Bool} {i j : Nat} {b c : Bool} (hi : i < L.size) : (L.setIfInBounds i b).getD j c = if j = i then b else L.getD j c := by
  by_cases h : j = i
  · subst h; simp [Array.getD, hi]
  · have : i ≠ j := fun e => h e.symm
    by_cases hj : j < L.size
    · simp [Array.getD, hj, h, Array.getElem_setIfInBounds, this]
    · simp [Array.getD, hj, h]
theorem gw_wanted' {e : Env} {a : Act} {o : Oper} {b} (h : gw ops.toArray e o.guard = some b) (k : ∀ j want, o.guard = some (j, want) → ∀ d v, dstOf ops j = some d → e.get d = some v → a.tmps[d]? = some v) : Region.wanted o (yielded ops.toArray a.tmps) = b := by
  unfold Region.wanted
  cases hg : o.guard with
  | none => rw [hg] at h; simpa [gw] using h
  | some p =>
    obtain ⟨j, want⟩ := p
    have k := k j want hg
    rw [hg] at h
    simp only [gw] at h
    split at h
    · rename_i oj ho; split at h
      · rename_i d hd; split at h
        · rename_i bb hb
          have := k d _ (by simpa [dstOf, hd] using congrArg (·.bind (·.dst)) ho) hb
          simp only [Option.some.injEq] at h; subst h
          simp only [yielded, ho, Option.bind_some, hd, this]
          cases bb <;> cases want <;> rfl
        · rename_i bb hb
          have := k d _ (by simpa [dstOf, hd] using congrArg (·.bind (·.dst)) ho) hb
          simp only [Option.some.injEq] at h; subst h
          simp only [yielded, ho, Option.bind_some, hd, this]
          cases want <;> rfl
        · cases h
      · cases h
    · cases h
/-- Where all that is read is there, the operation runs as the frame says. -/
theorem reads_agr (hB : chk ops B n = true) {L : Array Bool} {done e H a w} (I : Inv P w0 n ops B sp L done e H a w) {i : Nat} {o : Oper} (ho : ops[i]? = some o) (hu : L.getD i true = false) (hb : ∀ k, k ∈ bnds o → L.getD k false = true) {ei : Env} (hle : Env.le e ei) :
    ∀ t, t ∈ readsOf ops i → ∀ u, ei.get t = some u → a.tmps[t]? = some u := by
  intro t ht u hu
  refine I.agr t u (hle t u hu) fun j hj => ?_
  have := cl_bef hB I.cl i o ho hb j ((chk_get hB ho).2.2.1 t ht j hj)
  have hjs : j < L.size := by
    rcases Nat.lt_or_ge j L.size with h | h
    · exact h
    · simp [Array.getD, Nat.not_lt.2 h] at this
  simpa [Array.getD, hjs] using this
theorem mem_reads_op {i : Nat} {o : Oper} (ho : ops[i]? = some o) {t : Nat} (h : Operand.tmp t ∈ o.op.operands) : t ∈ readsOf ops i := by
  simp only [readsOf, ho, List.mem_append]
  left
  simp only [tmpsOf, List.mem_filterMap]
  exact ⟨.tmp t, by simpa using h, rfl⟩
theorem mem_reads_g {i j d : Nat} {want : Bool} {o : Oper} (ho : ops[i]? = some o) (hg : o.guard = some (j, want)) (hd : dstOf ops j = some d) : d ∈ readsOf ops i := by
  simp [readsOf, ho, hg, hd]
theorem rd_of_reads {i : Nat} {o : Oper} {e : Env} {a : Act} (ho : ops[i]? = some o) (h : ∀ t, t ∈ readsOf ops i → ∀ u, e.get t = some u → a.tmps[t]? = some u) : Rd1 e o.op a := by
  intro x hx v hv
  cases x with
  | tmp t => have := h t (mem_reads_op ho hx) v hv; simp [Act.eval, Array.getD_eq_getD_getElem?, this]
  | const u => simpa [Env.ev, Act.eval] using hv
  | global g => simpa [Env.ev, Act.eval] using hv
  | func f => simpa [Env.ev, Act.eval] using hv
theorem act_put (hB : chk ops B n = true) {L : Array Bool} {done e H a w} (I : Inv P w0 n ops B sp L done e H a w) {i : Nat} {o : Oper} (ho : ops[i]? = some o) {v : Value} {e' : Env}
    (hv : ∀ d, o.dst = some d → e'.get d = some v) (hold : ∀ t u, e'.get t = some u → e.get t = some u ∨ ∃ j, dstOf ops j = some t ∧ (L.setIfInBounds i true).getD j true = false ∨ o.dst = some t) :
    ∀ t u, e'.get t = some u → (∀ j, dstOf ops j = some t → (L.setIfInBounds i true).getD j true = true) → (a.put o.dst v).tmps[t]? = some u := by
  intro t u ht hall
  have hi : i < L.size := by rw [I.size]; exact (List.getElem?_eq_some_iff.1 ho).1
  have hn := (chk_get hB ho).2.2.2
  cases hd : o.dst with
  | none =>
    simp only [Act.put]
    rcases hold t u ht with h1 | ⟨j, ⟨h1, h2⟩ | h1⟩
    · refine I.agr t u h1 fun j hj => ?_
      have := hall j hj
      rw [getD_set hi] at this
      by_cases hji : j = i
      · subst hji; simp [dstOf, ho, hd] at hj
      · rwa [if_neg hji] at this
    · rw [hall j h1] at h2; cases h2
    · rw [hd] at h1; cases h1
  | some d =>
    obtain ⟨hdn, hdj⟩ := hn d hd
    simp only [Act.put]
    by_cases htd : t = d
    · subst htd
      rw [hv t hd] at ht; cases ht
      simp [I.act.2, hdn]
    · rw [Array.getElem?_setIfInBounds_ne (fun h => htd h.symm)]
      rcases hold t u ht with h1 | ⟨j, ⟨h1, h2⟩ | h1⟩
      · refine I.agr t u h1 fun j hj => ?_
        have := hall j hj
        rw [getD_set hi] at this
        by_cases hji : j = i
        · subst hji; simp [dstOf, ho, hd] at hj; exact absurd hj.symm htd
        · rwa [if_neg hji] at this
      · rw [hall j h1] at h2; cases h2
      · rw [hd] at h1; cases h1; exact absurd rfl htd
theorem cl_set {L : Array Bool} (hs : L.size = ops.length) (hL : Cl ops L) {i : Nat} {o : Oper} (ho : ops[i]? = some o) (hb : ∀ k, k ∈ bnds o → L.getD k false = true) : Cl ops (L.setIfInBounds i true) := by
  intro j oj hoj hj k hk
  have hi : i < L.size := by rw [hs]; exact (List.getElem?_eq_some_iff.1 ho).1
  rw [getD_set hi] at hj ⊢
  by_cases hki : k = i
  · rw [if_pos hki]
  · rw [if_neg hki]
    by_cases hji : j = i
    · subst hji; rw [ho] at hoj; cases hoj; exact hb k hk
    · rw [if_neg hji] at hj; exact hL j oj hoj hj k hk
def unl (L : Array Bool) : Nat := L.toList.countP (! ·)
theorem unl_set {L : Array Bool} {i : Nat} (hi : i < L.size) (h : L.getD i true = false) : unl (L.setIfInBounds i true) + 1 = unl L := by
  unfold unl
  have h1 : L[i] = false := by simpa [Array.getD, hi] using h
  rw [Array.toList_setIfInBounds, List.countP_set (by simpa using hi)]
  have h2 : L.toList[i]'(by simpa using hi) = false := by simpa using h1
  have hp : 0 < List.countP (! ·) L.toList := List.countP_pos_iff.2 ⟨false, by rw [← h2]; exact List.getElem_mem _, rfl⟩
  have h3 : (L.toList[i]'(by simpa using hi)) = false := h2
  rw [h3]
  simp only [Bool.not_false, if_true, Bool.not_true, Bool.false_eq_true, if_false]
  omega
theorem Sg.done {k : Nat} {L : Array Bool} {done : List Nat} {e : Env} {H : List HProp} {a : Act} {w : World}
    (I : Inv P w0 n ops B sp L done e H a w) (hk : Sg P w0 n ops B sp Q k done e H) (hlen : k + done.length = sp.length) (hnd : done.Nodup) (hall : ∀ i, i < ops.length → L.getD i true = true) (hspl : ∀ s, s ∈ sp → s < ops.length) (hspn : sp.Nodup) : Q .normal a w := by
  have hsd : ∀ s, s ∈ sp → s ∈ done := fun s hs => (I.dn s hs).2 (by
    have h1 := hall s (hspl s hs)
    have h2 : s < L.size := by rw [I.size]; exact hspl s hs
    simpa [Array.getD, h2] using h1)
  have hk0 : k = 0 := by
    have := List.Nodup.length_le_of_subset hspn (fun x hx => hsd x hx)
    omega
  subst hk0
  refine hk a w ⟨I.act.1, I.act.2, fun t u hu => I.agr t u hu fun i hi => ?_⟩ I.st
  have : i < ops.length := by
    unfold dstOf at hi
    cases ho : ops[i]? with
    | none => rw [ho] at hi; cases hi
    | some o => exact (List.getElem?_eq_some_iff.1 ho).1
  exact hall i this
theorem Sg.sound (hB : chk ops B n = true) (hspn : sp.Nodup) (hspl : ∀ s, s ∈ sp → s < ops.length) : ∀ (fuel : Nat) (k : Nat) (L : Array Bool) (done : List Nat) (e : Env) (H : List HProp) (a : Act) (w : World),
    Inv P w0 n ops B sp L done e H a w → Sg P w0 n ops B sp Q k done e H → k + done.length = sp.length → done.Nodup → unl L ≤ fuel → wpAny P .any ops.toArray Q fuel L a w := by
  intro fuel
  induction fuel with
  | zero =>
    intro k L done e H a w I hk hlen hnd hu
    have hall : ∀ i, i < ops.length → L.getD i true = true := fun i hi => by
      cases h : L.getD i true with
      | true => rfl
      | false => have := unl_set (by rw [I.size]; exact hi) h; omega
    refine ⟨?_, ?_⟩
    · cases hr : Region.ready .any ops.toArray L with
      | nil => rfl
      | cons i l =>
        obtain ⟨o, ho, h1, _⟩ := ready_mem (i := i) (by rw [hr]; simp)
        rw [hall i (List.getElem?_eq_some_iff.1 ho).1] at h1; cases h1
    · exact Sg.done I hk hlen hnd hall hspl hspn
  | succ fuel ih =>
    intro k L done e H a w I hk hlen hnd hu
    refine ⟨fun hr => Sg.done I hk hlen hnd (ready_nil hB I.size hr) hspl hspn, fun i hi => ?_⟩
    obtain ⟨o, ho, hui, hbn⟩ := ready_mem hi
    have hil : i < L.size := by rw [I.size]; exact (List.getElem?_eq_some_iff.1 ho).1
    have hul := unl_set hil hui
    have hbl := cl_bef hB I.cl i o ho hbn
    have hav : ∀ s, s ∈ sbOf B sp i → s ∈ done := fun s hs => by
      simp only [sbOf, List.mem_filter, List.contains_iff_mem] at hs
      exact (I.dn s hs.1).2 (hbl s hs.2)
    unfold wpOp
    simp only [List.getElem?_toArray, ho]
    by_cases hsp : i ∈ sp
    · -- a special
      have hnot : i ∉ done := fun h => by
        have := (I.dn i hsp).1 h
        simp [Array.getD, hil] at this hui
        rw [this] at hui; cases hui
      obtain ⟨k, rfl⟩ : ∃ m, k = m + 1 := ⟨k - 1, by
        have h1 : (i :: done).length ≤ sp.length := List.Nodup.length_le_of_subset (List.nodup_cons.2 ⟨hnot, hnd⟩) (fun x hx => by
          rcases List.mem_cons.1 hx with rfl | h
          · exact hsp
          · exact I.dnsp x h)
        simp at h1; omega⟩
      obtain ⟨o', ho', hdn, hop⟩ := hk i (by
        simp only [readySp, List.mem_filter, Bool.and_eq_true, Bool.not_eq_true', List.all_eq_true, List.contains_iff_mem]
        exact ⟨hsp, by simpa using hnot, fun s hs => hav s hs⟩)
      rw [ho] at ho'; cases ho'
      -- what follows
      have next : ∀ v H' w', St w0 H' w' → GrL P ops H' (todoOf ops.length B sp (i :: done) (some i)) (e.put o.dst v) (fun e'' => Sg P w0 n ops B sp Q k (i :: done) e'' H') →
          wpAny P .any ops.toArray Q fuel (L.setIfInBounds i true) (a.put o.dst v) w' := by
        intro v H' w' hst hg
        obtain ⟨e', h1, h2, h3, h4⟩ := GrL.out hg
        have hle1 : Env.le (e.put o.dst v) e := by
          cases hd : o.dst with
          | none => exact Env.le_refl _
          | some d => exact Env.le_put (hdn d hd)
        refine ih k _ (i :: done) e' H' _ w' ?_ h1 (by simp; omega) (List.nodup_cons.2 ⟨hnot, hnd⟩) (by omega)
        refine ⟨by simpa using I.size, cl_set I.size I.cl ho hbn, fun s hs => ?_, fun s hs => ?_, ⟨by cases hd : o.dst <;> simp [Act.put, I.act.1], by cases hd : o.dst <;> simp [Act.put, I.act.2]⟩, ?_, hst, ?_⟩
        · rw [getD_set hil]
          by_cases hsi : s = i
          · simp [hsi]
          · simp [hsi, I.dn s hs]
        · rcases List.mem_cons.1 hs with rfl | h
          · exact hsp
          · exact I.dnsp s h
        · refine act_put hB I ho (fun d hd => h2 d v (by rw [hd]; exact Env.get_cons_eq)) fun t u ht => ?_
          rcases h3 t u ht with h5 | ⟨j, hj, hjd⟩
          · cases hd : o.dst with
            | none => rw [hd] at h5; exact .inl h5
            | some d =>
              rw [hd] at h5
              by_cases htd : t = d
              · subst htd; exact .inr ⟨0, .inr rfl⟩
              · simp only [Env.put] at h5; rw [Env.get_cons_ne htd] at h5; exact .inl h5
          · refine .inr ⟨j, .inl ⟨hjd, ?_⟩⟩
            -- j hangs on i: it cannot have been listed
            simp only [todoOf, List.mem_filterMap, List.mem_range] at hj
            obtain ⟨j', hj', hj2⟩ := hj
            have hij : j' = j ∧ i ∈ sbOf B sp j := by
              split at hj2
              · cases hj2
              · split at hj2
                · split at hj2
                  · rename_i hc; simp at hj2; subst hj2; exact ⟨rfl, by simpa using hc⟩
                  · split at hj2 <;> simp at hj2
                · cases hj2
            obtain ⟨rfl, hij⟩ := hij
            simp only [sbOf, List.mem_filter, List.contains_iff_mem] at hij
            rw [getD_set hil]
            by_cases hji : j' = i
            · -- then i would stand ahead of itself
              subst hji
              have := hbl j' hij.2
              simp [Array.getD, hil] at this hui
              rw [this] at hui; cases hui
            · rw [if_neg hji]
              cases hL : L.getD j' true with
              | false => rfl
              | true =>
                have hoj : ops[j']? = some ops[j'] := List.getElem?_eq_getElem hj'
                have := cl_bef hB I.cl j' _ hoj (I.cl j' _ hoj hL) i hij.2
                simp [Array.getD, hil] at this hui
                rw [this] at hui; cases hui
        · intro j oj hoj hL hjsp hjs
          have hj' : j < ops.length := (List.getElem?_eq_some_iff.1 hoj).1
          rw [getD_set hil] at hL
          have hji : j ≠ i := fun h => by rw [if_pos h] at hL; cases hL
          rw [if_neg hji] at hL
          have hmem : ∃ b, (j, b) ∈ todoOf ops.length B sp (i :: done) (some i) := by
            simp only [todoOf, List.mem_filterMap, List.mem_range]
            have h5 : sp.contains j = false := by simpa using hjsp
            have h6 : (sbOf B sp j).all (i :: done).contains = true := by
              simp only [List.all_eq_true, List.contains_iff_mem]; exact fun s hs => hjs s hs
            by_cases h7 : (sbOf B sp j).contains i = true
            · exact ⟨true, j, hj', by rw [if_neg (by rw [h5]; simp), if_pos h6, if_pos h7]⟩
            · have h8 : ((i :: done).any fun s => (B.getD s []).contains j) = false := by
                rw [Bool.eq_false_iff]
                intro h8
                simp only [List.any_eq_true, List.contains_iff_mem] at h8
                obtain ⟨s, hs, hjB⟩ := h8
                -- then j would have been listed
                have hjL : L.getD j false = true := by
                  rcases List.mem_cons.1 hs with rfl | hs
                  · exact hbl j hjB
                  · have h9 := (I.dn s (I.dnsp s hs)).1 hs
                    have hss : s < L.size := by
                      rcases Nat.lt_or_ge s L.size with h | h
                      · exact h
                      · simp [Array.getD, Nat.not_lt.2 h] at h9
                    have hos : ops[s]? = some (ops[s]'(by rw [← I.size]; exact hss)) := List.getElem?_eq_getElem _
                    exact cl_bef hB I.cl s _ hos (I.cl s _ hos (by simpa [Array.getD, hss] using h9)) j hjB
                have hjl : j < L.size := by rw [I.size]; exact hj'
                simp [Array.getD, hjl] at hjL hL
                rw [hjL] at hL; cases hL
              exact ⟨false, j, hj', by rw [if_neg (by rw [h5]; simp), if_pos h6, if_neg h7, h8]; rfl⟩
          obtain ⟨b, hb⟩ := hmem
          exact h4 j b hb
      have hrd : ∀ t, t ∈ readsOf ops i → ∀ u, e.get t = some u → a.tmps[t]? = some u := reads_agr hB I ho hui hbn (Env.le_refl _)
      rcases hop with ⟨hg, vop, hs, heff⟩ | ⟨hg, hK⟩
      · rw [if_pos (gw_wanted' hg fun j want hgd d v hd hv => hrd d (mem_reads_g ho hgd hd) v hv)]
        refine .inl (Upon.wp (N := fun v w' => ∃ H', GrL P ops H' (todoOf ops.length B sp (i :: done) (some i)) (e.put o.dst v) (fun e'' => Sg P w0 n ops B sp Q k (i :: done) e'' H') ∧ St w0 H' w') ?_ fun v w' ⟨H', h1, h2⟩ => next v H' w' h2 h1)
        rw [sub_exec hs (rd_of_reads ho hrd)]
        exact heff w _ I.st fun v H' w' h1 h2 => ⟨H', h1, h2⟩
      · rw [if_neg (by rw [gw_wanted' hg fun j want hgd d v hd hv => hrd d (mem_reads_g ho hgd hd) v hv]; simp)]
        exact next undef H w I.st hK
    · -- a quiet one
      obtain ⟨ei, v, d, hd, hle, hev, o', ho', hop⟩ := I.pend i o ho hui hsp hav
      rw [ho] at ho'; cases ho'
      have hod : o.dst = some d := by simpa [dstOf, ho] using hd
      have hrd := reads_agr hB I ho hui hbn hle
      have next : wpAny P .any ops.toArray Q fuel (L.setIfInBounds i true) (a.put o.dst v) w := by
        refine ih k _ done e H _ w ?_ hk hlen hnd (by omega)
        refine ⟨by simpa using I.size, cl_set I.size I.cl ho hbn, fun s hs => ?_, I.dnsp, ⟨by simp [Act.put, hod, I.act.1], by simp [Act.put, hod, I.act.2]⟩, ?_, I.st, ?_⟩
        · rw [getD_set hil]
          have hsi : s ≠ i := fun h => hsp (h ▸ hs)
          rw [if_neg hsi]; exact I.dn s hs
        · exact act_put hB I ho (fun d' hd' => by rw [hod] at hd'; cases hd'; exact hev) fun t u ht => .inl ht
        · intro j oj hoj hL hjsp hjs
          rw [getD_set hil] at hL
          have hji : j ≠ i := fun h => by rw [if_pos h] at hL; cases hL
          rw [if_neg hji] at hL
          exact I.pend j oj hoj hL hjsp hjs
      rcases hop with ⟨hg, vop, hs, hrun⟩ | ⟨hg, rfl⟩
      · rw [if_pos (gw_wanted' hg fun j want hgd d v hd hv => hrd d (mem_reads_g ho hgd hd) v hv)]
        refine .inl (Upon.wp (N := fun u w' => u = v ∧ w' = w) ?_ fun u w' ⟨h1, h2⟩ => by subst h1; subst h2; exact next)
        rw [sub_exec hs (rd_of_reads ho hrd), hrun w I.st.2]
        exact ⟨rfl, rfl⟩
      · rw [if_neg (by rw [gw_wanted' hg fun j want hgd d v hd hv => hrd d (mem_reads_g ho hgd hd) v hv]; simp)]
        exact next
theorem Cd.draw {id : Nat} {e : Env} {H : List HProp} (B : List (List Nat)) (sp : List Nat) {td : List (Nat × Bool)} (hm : P.follows .mixedOrders = true) (hB : chk ops B n = true) (hnd : sp.Nodup) (hsp : ∀ s, s ∈ sp → s < ops.length) (ht : todoOf ops.length B sp [] none = td)
    (h : GrL P ops H td e fun e' => Sg P w0 n ops B sp Q sp.length [] e' H) : Cd P w0 n (.region id ops.toArray true) Q e H := by
  intro a w ha hs
  subst ht
  obtain ⟨e', h1, h2, h3, h4⟩ := GrL.out h
  refine wp_region_any hm ?_
  refine Sg.sound hB hnd hsp _ sp.length _ [] e' H a _ ?_ h1 (by simp) (by simp) (by simp only [unl, Array.toList_replicate, List.countP_replicate]; simp)
  have hrep : ∀ i, (Array.replicate ops.toArray.size false).getD i false = false := fun i => by
    simp [Array.getD]
  refine ⟨by simp, fun j o ho hj => ?_, fun s hs => ?_, fun s hs => (by cases hs), ⟨ha.1, ha.2.1⟩, fun t u hu hall => ?_, ⟨⟨hs.1.os, hs.1.tape, hs.1.output, hs.1.size⟩, sat.heap rfl hs.2⟩, fun i o ho hL hi hs => ?_⟩
  · have := (List.getElem?_eq_some_iff.1 ho).1
    simp [Array.getD, this] at hj
  · rw [hrep]; simp
  · rcases h3 t u hu with h5 | ⟨i, hi, hid⟩
    · exact ha.2.2 t u h5
    · have := hall i hid
      have hil : i < ops.length := by
        unfold dstOf at hid
        cases ho : ops[i]? with
        | none => rw [ho] at hid; cases hid
        | some o => exact (List.getElem?_eq_some_iff.1 ho).1
      simp [Array.getD, hil] at this
  · have hil : i < ops.length := (List.getElem?_eq_some_iff.1 ho).1
    have h5 : sp.contains i = false := by simpa using hi
    have h6 : sbOf B sp i = [] := by
      cases h : sbOf B sp i with
      | nil => rfl
      | cons s l => have := hs s (by rw [h]; simp); cases this
    exact h4 i true (by
      simp only [todoOf, List.mem_filterMap, List.mem_range]
      exact ⟨i, hil, by rw [if_neg (by rw [h5]; simp), h6]; rfl⟩)

theorem Sg.one {k : Nat} {done : List Nat} {e : Env} {H : List HProp} (i : Nat) {td : List (Nat × Bool)} (hr : readySp B sp done = [i]) (ht : todoOf ops.length B sp (i :: done) (some i) = td)
    (h : SpOp P w0 ops i e H fun e' H' => GrL P ops H' td e' fun e'' => Sg P w0 n ops B sp Q k (i :: done) e'' H') : Sg P w0 n ops B sp Q (k + 1) done e H := by
  intro j hj
  rw [hr] at hj
  simp at hj; subst hj; subst ht; exact h
theorem Sg.two {k : Nat} {done : List Nat} {e : Env} {H : List HProp} (i i' : Nat) {td td' : List (Nat × Bool)} (hr : readySp B sp done = [i, i']) (ht : todoOf ops.length B sp (i :: done) (some i) = td) (ht' : todoOf ops.length B sp (i' :: done) (some i') = td')
    (h : SpOp P w0 ops i e H fun e' H' => GrL P ops H' td e' fun e'' => Sg P w0 n ops B sp Q k (i :: done) e'' H') (h' : SpOp P w0 ops i' e H fun e' H' => GrL P ops H' td' e' fun e'' => Sg P w0 n ops B sp Q k (i' :: done) e'' H') : Sg P w0 n ops B sp Q (k + 1) done e H := by
  intro j hj
  rw [hr] at hj
  simp at hj
  rcases hj with rfl | rfl
  · subst ht; exact h
  · subst ht'; exact h'
theorem Sg.three {k : Nat} {done : List Nat} {e : Env} {H : List HProp} (i i' i'' : Nat) {td td' td'' : List (Nat × Bool)} (hr : readySp B sp done = [i, i', i'']) (ht : todoOf ops.length B sp (i :: done) (some i) = td) (ht' : todoOf ops.length B sp (i' :: done) (some i') = td') (ht'' : todoOf ops.length B sp (i'' :: done) (some i'') = td'')
    (h : SpOp P w0 ops i e H fun e' H' => GrL P ops H' td e' fun e'' => Sg P w0 n ops B sp Q k (i :: done) e'' H') (h' : SpOp P w0 ops i' e H fun e' H' => GrL P ops H' td' e' fun e'' => Sg P w0 n ops B sp Q k (i' :: done) e'' H')
    (h'' : SpOp P w0 ops i'' e H fun e' H' => GrL P ops H' td'' e' fun e'' => Sg P w0 n ops B sp Q k (i'' :: done) e'' H') : Sg P w0 n ops B sp Q (k + 1) done e H := by
  intro j hj
  rw [hr] at hj
  simp at hj
  rcases hj with rfl | rfl | rfl
  · subst ht; exact h
  · subst ht'; exact h'
  · subst ht''; exact h''
/-- All that may come up next. -/
def AllSp (P : Program) (w0 : World) (n : Nat) (ops : List Oper) (B : List (List Nat)) (sp : List Nat) (Q : Exit → Act → World → Prop) (k : Nat) (done : List Nat) (e : Env) (H : List HProp) : List Nat → Prop
  | [] => True
  | i :: l => (SpOp P w0 ops i e H fun e' H' => GrL P ops H' (todoOf ops.length B sp (i :: done) (some i)) e' fun e'' => Sg P w0 n ops B sp Q k (i :: done) e'' H') ∧ AllSp P w0 n ops B sp Q k done e H l
theorem Sg.all {k : Nat} {done l : List Nat} {e : Env} {H : List HProp} (hr : readySp B sp done = l) (h : AllSp P w0 n ops B sp Q k done e H l) : Sg P w0 n ops B sp Q (k + 1) done e H := by
  intro j hj
  rw [hr] at hj
  clear hr
  induction l with
  | nil => cases hj
  | cons i l ih =>
    rcases List.mem_cons.1 hj with rfl | hj
    · exact h.1
    · exact ih h.2 hj
theorem AllSp.nil {k : Nat} {done : List Nat} {e : Env} {H : List HProp} : AllSp P w0 n ops B sp Q k done e H [] := trivial
theorem AllSp.cons {k i : Nat} {done l : List Nat} {e : Env} {H : List HProp} {td : List (Nat × Bool)} (ht : todoOf ops.length B sp (i :: done) (some i) = td) (h : SpOp P w0 ops i e H fun e' H' => GrL P ops H' td e' fun e'' => Sg P w0 n ops B sp Q k (i :: done) e'' H') (h2 : AllSp P w0 n ops B sp Q k done e H l) :
    AllSp P w0 n ops B sp Q k done e H (i :: l) := by subst ht; exact ⟨h, h2⟩
theorem Sg.fin {done : List Nat} {e : Env} {H : List HProp} (h : Dn w0 n Q .normal e H) : Sg P w0 n ops B sp Q 0 done e H := h
section
variable {i d : Nat} {r : List (Nat × Bool)} {e : Env} {H : List HProp} {K : Env → Prop} {K2 : Env → List HProp → Prop} {o : Oper} {vop : VOp} {v : Value} {pre : Prop}
theorem GrL.done (h : K e) : GrL P ops H [] e K := h
theorem GrL.x (ho : ops[i]? = some o) (hd : o.dst = some d) (hw : gw ops.toArray e o.guard = some true) (hs : Op.sub e o.op = some vop) (hf : e.get d = none) (q : ∀ w, sat w (stars H) → (vop.exec o.type).run P w = .ok (.value v) w) (k : GrL P ops H r ((d, v) :: e) K) :
    GrL P ops H ((i, true) :: r) e K := ⟨v, d, by simp [dstOf, ho, hd], hf, ⟨o, ho, .inl ⟨hw, vop, hs, q⟩⟩, k⟩
theorem GrL.q (ho : ops[i]? = some o) (hd : o.dst = some d) (hw : gw ops.toArray e o.guard = some true) (hs : Op.sub e o.op = some vop) (hf : e.get d = none) [q : Q1 P vop o.type H pre v] (hp : pre) (k : GrL P ops H r ((d, v) :: e) K) :
    GrL P ops H ((i, true) :: r) e K := GrL.x ho hd hw hs hf (q.run hp) k
theorem GrL.skip (ho : ops[i]? = some o) (hd : o.dst = some d) (hw : gw ops.toArray e o.guard = some false) (hf : e.get d = none) (k : GrL P ops H r ((d, undef) :: e) K) :
    GrL P ops H ((i, true) :: r) e K := ⟨undef, d, by simp [dstOf, ho, hd], hf, ⟨o, ho, .inr ⟨hw, rfl⟩⟩, k⟩
theorem GrL.oldx (ho : ops[i]? = some o) (hd : o.dst = some d) (hw : gw ops.toArray e o.guard = some true) (hs : Op.sub e o.op = some vop) (hf : e.get d = some v) (q : ∀ w, sat w (stars H) → (vop.exec o.type).run P w = .ok (.value v) w) (k : GrL P ops H r e K) :
    GrL P ops H ((i, false) :: r) e K := ⟨⟨v, d, by simp [dstOf, ho, hd], hf, ⟨o, ho, .inl ⟨hw, vop, hs, q⟩⟩⟩, k⟩
theorem GrL.old (ho : ops[i]? = some o) (hd : o.dst = some d) (hw : gw ops.toArray e o.guard = some true) (hs : Op.sub e o.op = some vop) (hf : e.get d = some v) [q : Q1 P vop o.type H pre v] (hp : pre) (k : GrL P ops H r e K) :
    GrL P ops H ((i, false) :: r) e K := GrL.oldx ho hd hw hs hf (q.run hp) k
theorem GrL.oldskip (ho : ops[i]? = some o) (hd : o.dst = some d) (hw : gw ops.toArray e o.guard = some false) (hf : e.get d = some undef) (k : GrL P ops H r e K) :
    GrL P ops H ((i, false) :: r) e K := ⟨⟨undef, d, by simp [dstOf, ho, hd], hf, ⟨o, ho, .inr ⟨hw, rfl⟩⟩⟩, k⟩
theorem SpOp.eff (ho : ops[i]? = some o) (hd : o.dst = some d) (hf : e.get d = none) (hw : gw ops.toArray e o.guard = some true) (hs : Op.sub e o.op = some vop) (h : Eff P w0 vop o.type H fun v H' => K2 ((d, v) :: e) H') : SpOp P w0 ops i e H K2 :=
  ⟨o, ho, fun d' h' => (by rw [hd] at h'; cases h'; exact hf), .inl ⟨hw, vop, hs, h.mono fun v H' h => by rw [hd]; exact h⟩⟩
theorem SpOp.eff0 (ho : ops[i]? = some o) (hd : o.dst = none) (hw : gw ops.toArray e o.guard = some true) (hs : Op.sub e o.op = some vop) (h : Eff P w0 vop o.type H fun v H' => K2 e H') : SpOp P w0 ops i e H K2 :=
  ⟨o, ho, fun d' h' => (by rw [hd] at h'; cases h'), .inl ⟨hw, vop, hs, h.mono fun v H' h => by rw [hd]; exact h⟩⟩
theorem SpOp.skip (ho : ops[i]? = some o) (hd : o.dst = some d) (hf : e.get d = none) (hw : gw ops.toArray e o.guard = some false) (h : K2 ((d, undef) :: e) H) : SpOp P w0 ops i e H K2 :=
  ⟨o, ho, fun d' h' => (by rw [hd] at h'; cases h'; exact hf), .inr ⟨hw, by rw [hd]; exact h⟩⟩
theorem SpOp.skip0 (ho : ops[i]? = some o) (hd : o.dst = none) (hw : gw ops.toArray e o.guard = some false) (h : K2 e H) : SpOp P w0 ops i e H K2 :=
  ⟨o, ho, fun d' h' => (by rw [hd] at h'; cases h'), .inr ⟨hw, by rw [hd]; exact h⟩⟩
end
/-! slots forgotten -/
def Env.delO : Env → Nat → Option Env
  | [], _ => some []
  | (k, v) :: e, t => match Env.delO e t with
    | some e' => match Nat.beq k t with
      | true => some e'
      | false => some ((k, v) :: e')
    | none => none
theorem Env.del_le : ∀ {e e' : Env} {t : Nat}, Env.delO e t = some e' → ∀ s v, e'.get s = some v → s ≠ t ∧ e.get s = some v
  | [], e', t, h, s, v, hv => by simp [Env.delO] at h; subst h; cases hv
  | (k, u) :: e, e', t, h, s, v, hv => by
    simp only [Env.delO] at h
    cases h1 : Env.delO e t with
    | none => rw [h1] at h; cases h
    | some e1 =>
      rw [h1] at h
      simp only at h
      cases hb : Nat.beq k t with
      | true =>
        rw [hb] at h; simp at h; subst h
        obtain ⟨h2, h3⟩ := Env.del_le h1 s v hv
        refine ⟨h2, ?_⟩
        have : k ≠ s := fun e => h2 (by rw [← e]; exact Nat.eq_of_beq_eq_true hb)
        rw [Env.get_cons_ne (fun e => this e.symm)]; exact h3
      | false =>
        rw [hb] at h; simp at h; subst h
        have hkt : k ≠ t := fun e => by simp [e] at hb
        by_cases hs : s = k
        · subst hs; refine ⟨hkt, ?_⟩; simpa [Env.get] using hv
        · rw [Env.get_cons_ne hs] at hv ⊢
          exact Env.del_le h1 s v hv
theorem Cd.forget {c : Code} {e e' : Env} {H : List HProp} (t : Nat) (h : Env.delO e t = some e') (k : Cd P w0 n c Q e' H) : Cd P w0 n c Q e H :=
  Cd.weak (fun s v hv => (Env.del_le h s v hv).2) (ents.refl _) k
/-! for looking at a goal alone -/
def Peek {α : Type} (x : α) (e : Env) (H : List HProp) : Prop := True
theorem Ol.peek {ops' : Array Oper} {d : Option Tmp} {op : Op} {ty : TypeId} {pos : String} {after : Array Edge} {g : Option (Nat × Bool)} {rest : List Oper} {e : Env} {H : List HProp} (h : Peek (d, op, g) e H → Ol P w0 n ops' Q (⟨d, op, ty, pos, after, g⟩ :: rest) e H) : Ol P w0 n ops' Q (⟨d, op, ty, pos, after, g⟩ :: rest) e H := h trivial
theorem Ol.peek0 {ops' : Array Oper} {e : Env} {H : List HProp} (h : Peek 0 e H → Ol P w0 n ops' Q [] e H) : Ol P w0 n ops' Q [] e H := h trivial
theorem Cd.peek {c : Code} {e : Env} {H : List HProp} (h : Peek c e H → Cd P w0 n c Q e H) : Cd P w0 n c Q e H := h trivial
theorem Dn.peek {x : Exit} {e : Env} {H : List HProp} (h : Peek x e H → Dn w0 n Q x e H) : Dn w0 n Q x e H := h trivial
theorem GrL.peek {i : Nat} {b : Bool} {r : List (Nat × Bool)} {e : Env} {H : List HProp} {K : Env → Prop} (h : Peek ((ops[i]?).map fun o => (o.dst, o.op, o.guard), i, b) e H → GrL P ops H ((i, b) :: r) e K) : GrL P ops H ((i, b) :: r) e K := h trivial
end
end Go.Sl

namespace Go.Sl
open Go
set_option linter.unusedVariables false
set_option linter.unusedSectionVars false
/-! Elements of rows. -/
structure Enc (T : Type) where
  size : Nat
  cells : T → List Value
  len : ∀ x, (cells x).length = size
/-- The cells of an element, written out. -/
class EncC {T : Type} (E : Enc T) (x : T) (l : outParam (List Value)) : Prop where c : E.cells x = l
/-- The element whose value this is. -/
class EncI {T : Type} (E : Enc T) (v : Value) (x : outParam T) : Prop where c : v.cells = (E.cells x).toArray
/-- What a type's variables hold. -/
class TyE (P : Program) (t : TypeId) {T : outParam Type} (E : outParam (Enc T)) : Prop where s : TySz P t E.size
def eInt (k : IntKind) : Enc Int := ⟨1, fun n => [.int k n], fun _ => rfl⟩
def eBool : Enc Bool := ⟨1, fun n => [.bool n], fun _ => rfl⟩
def eVal : Enc Value := ⟨1, fun n => [n], fun _ => rfl⟩
instance (k n) : EncC (eInt k) n [.int k n] := ⟨rfl⟩
instance (b) : EncC eBool b [.bool b] := ⟨rfl⟩
instance (b) : EncC eVal b [b] := ⟨rfl⟩
instance (k n) : EncI (eInt k) (.int k n) n := ⟨rfl⟩
instance (b) : EncI eBool (.bool b) b := ⟨rfl⟩
instance (a l c) : EncI eVal (.slice a l c) (.slice a l c) := ⟨rfl⟩
instance (a) : EncI eVal (.pointer a) (.pointer a) := ⟨rfl⟩
def flat {T : Type} (E : Enc T) (xs : List T) : List Value := xs.flatMap E.cells
theorem flat_length {T : Type} (E : Enc T) : ∀ xs : List T, (flat E xs).length = xs.length * E.size
  | [] => by simp [flat]
  | x :: xs => by
    have := flat_length E xs
    simp only [flat, List.flatMap_cons, List.length_append, E.len, List.length_cons] at this ⊢
    rw [this, Nat.add_mul]; omega
theorem flat_append {T : Type} (E : Enc T) (xs ys : List T) : flat E (xs ++ ys) = flat E xs ++ flat E ys := by simp [flat]
theorem flat_at {T : Type} (E : Enc T) : ∀ (xs : List T) (i j : Nat) (hi : i < xs.length), j < E.size → (flat E xs)[i * E.size + j]? = (E.cells xs[i])[j]?
  | x :: xs, 0, j, _, hj => by
    simp only [flat, List.flatMap_cons, Nat.zero_mul, Nat.zero_add, List.getElem_cons_zero]
    rw [List.getElem?_append_left (by rw [E.len]; exact hj)]
  | x :: xs, i + 1, j, hi, hj => by
    have := flat_at E xs i j (by simpa using hi) hj
    simp only [flat, List.flatMap_cons, List.getElem_cons_succ] at this ⊢
    rw [List.getElem?_append_right (by rw [E.len, Nat.add_mul]; omega), E.len, ← this]
    congr 1; rw [Nat.add_mul]; omega
theorem flat_drop {T : Type} (E : Enc T) : ∀ (xs : List T) (k : Nat), (flat E xs).drop (k * E.size) = flat E (xs.drop k)
  | xs, 0 => by simp
  | [], k + 1 => by simp [flat]
  | x :: xs, k + 1 => by
    have := flat_drop E xs k
    simp only [flat, List.flatMap_cons, List.drop_succ_cons] at this ⊢
    rw [← this, List.drop_append, E.len, List.drop_eq_nil_of_le (by rw [E.len, Nat.add_mul]; omega), List.nil_append]
    congr 1; rw [Nat.add_mul]; omega
/-- A slice whose elements these are, in a world. -/
def SlIn (w : World) {T : Type} (E : Enc T) (v : Value) (xs : List T) : Prop :=
  ((∃ a, v = .slice a 0 0) ∧ xs = []) ∨ ∃ b off cap c ty fz, v = .slice (some ⟨b, off, none⟩) xs.length cap ∧ xs.length ≤ cap ∧ w.heap[b]? = some (.cells c ty fz) ∧ ∀ j, j < (flat E xs).length → c[off + j]? = (flat E xs)[j]?
/-- The slice is ours, with its room; it may be shared. -/
def fl : Value → Bool | .agg _ | .tuple _ => false | _ => true
def slB (r : Bool) {T : Type} (E : Enc T) (v : Value) (xs : List T) : HProp := fun h =>
  ((∃ a, v = .slice a 0 0) ∧ xs = []) ∨ ∃ (b off cap : Nat) (c : Array Value) (ty : TypeId × Nat × Nat), v = .slice (some ⟨b, off, none⟩) xs.length cap ∧ xs.length ≤ cap ∧ off + cap * E.size ≤ c.size ∧ h b = some (r, .cells c ty.1 (bif r then ty.2 else (0, 0))) ∧ (∀ j, j < (flat E xs).length → c[off + j]? = (flat E xs)[j]?) ∧ ∀ x, x ∈ flat E xs → fl x = true
abbrev sl {T : Type} (E : Enc T) (v : Value) (xs : List T) : HProp := slB false E v xs
abbrev rsl {T : Type} (E : Enc T) (v : Value) (xs : List T) : HProp := slB true E v xs
theorem slB_in {r : Bool} {T : Type} {E : Enc T} {v : Value} {xs : List T} {w : World} (h : sat w (slB r E v xs)) : SlIn w E v xs := by
  obtain ⟨f, l, h⟩ := h
  rcases h with h | ⟨b, off, cap, c, ty, h1, h2, h3, h4, h5, _⟩
  · exact .inl h
  · exact .inr ⟨b, off, cap, c, ty.1, _, h1, h2, l b _ _ h4, h5⟩
theorem slB_fl {r : Bool} {T : Type} {E : Enc T} {v : Value} {xs : List T} {w : World} (h : sat w (slB r E v xs)) : ∀ x, x ∈ flat E xs → Sl.fl x = true := by
  obtain ⟨f, l, h⟩ := h
  rcases h with ⟨_, rfl⟩ | ⟨b, off, cap, c, ty, h1, h2, h3, h4, h5, h6⟩
  · intro x hx; simp [flat] at hx
  · exact h6
theorem rsl_dup {T : Type} (E : Enc T) (v : Value) (xs : List T) : ent (rsl E v xs) (star (rsl E v xs) (rsl E v xs)) := by
  intro h x
  rcases x with x | ⟨b, off, cap, c, ty, h1, h2, h3, h4, h5⟩
  · exact ⟨fun _ => none, h, fun b x y hx => by simp at hx, by funext b; rfl, .inl x, .inl x⟩
  · obtain ⟨f, g, k, e, a, b'⟩ := ro_dup b _ h h4
    exact ⟨f, g, k, e, .inr ⟨b, off, cap, c, ty, h1, h2, h3, a, h5⟩, .inr ⟨b, off, cap, c, ty, h1, h2, h3, b', h5⟩⟩
class RdS (H : List HProp) {T : Type} (E : Enc T) (v : Value) (xs : outParam (List T)) : Prop where rd : ∀ w, sat w (stars H) → SlIn w E v xs
instance RdS.tl (A : HProp) (H : List HProp) {T : Type} (E : Enc T) (v : Value) (xs : List T) [h : RdS H E v xs] : RdS (A :: H) E v xs := ⟨fun w hw => h.rd w hw.right⟩
instance RdS.hd (H : List HProp) (r : Bool) {T : Type} (E : Enc T) (v : Value) (xs : List T) : RdS (slB r E v xs :: H) E v xs := ⟨fun w hw => slB_in hw.left⟩
instance RdS.nil (H : List HProp) {T : Type} (E : Enc T) : RdS H E (.slice none 0 0) [] := ⟨fun w hw => .inl ⟨⟨_, rfl⟩, rfl⟩⟩
/-- a slice's elements, of whatever type -/
class SlT (H : List HProp) (v : Value) {T : outParam Type} (E : outParam (Enc T)) (xs : outParam (List T)) : Prop where
  rd : ∀ w, sat w (stars H) → SlIn w E v xs
  fl : ∀ w, sat w (stars H) → ∀ x, x ∈ flat E xs → Sl.fl x = true
instance SlT.tl (A : HProp) (H : List HProp) (v : Value) {T : Type} (E : Enc T) (xs : List T) [h : SlT H v E xs] : SlT (A :: H) v E xs := ⟨fun w hw => h.rd w hw.right, fun w hw => h.fl w hw.right⟩
instance SlT.hd (H : List HProp) (r : Bool) {T : Type} (E : Enc T) (v : Value) (xs : List T) : SlT (slB r E v xs :: H) v E xs := ⟨fun w hw => slB_in hw.left, fun w hw => slB_fl hw.left⟩
/-- What stands where there is nothing. -/
class Dfl (T : Type) where d : T
instance : Dfl Int := ⟨0⟩
instance : Dfl Bool := ⟨false⟩
instance : Dfl Value := ⟨.slice none 0 0⟩
instance {T : Type} : Dfl (List T) := ⟨[]⟩
instance {T U : Type} [Dfl T] [Dfl U] : Dfl (T × U) := ⟨(Dfl.d, Dfl.d)⟩
def rd {T : Type} [Dfl T] (xs : List T) (i : Int) : T := xs.getD i.toNat Dfl.d
theorem rd_eq {T : Type} [Dfl T] {xs : List T} {i : Int} (h : i.toNat < xs.length) : rd xs i = xs[i.toNat] := by simp [rd, h]
/-- Rows: each value is the slice of its row. -/
def rws (r : Bool) {T : Type} (E : Enc T) (rows : List Value) (xss : List (List T)) : HProp := star (fun _ => rows.length = xss.length) (stars ((rows.zip xss).map fun p => slB r E p.1 p.2))
theorem stars_mem : ∀ {l : List HProp} {A : HProp} {w : World}, A ∈ l → sat w (stars l) → sat w A
  | B :: l, A, w, h, hs => by
    rcases List.mem_cons.1 h with rfl | h
    · exact hs.left
    · exact stars_mem h hs.right
theorem rws_in {r : Bool} {T : Type} {E : Enc T} {rows : List Value} {xss : List (List T)} {w : World} (h : sat w (rws r E rows xss)) (i : Int) : SlIn w E (rd rows i) (rd xss i) ∧ ∀ x, x ∈ flat E (rd xss i) → Sl.fl x = true := by
  have hl : rows.length = xss.length := by obtain ⟨_, _, _, _, _, _, h, _⟩ := h; exact h
  unfold rd
  by_cases hi : i.toNat < rows.length
  · have h2 : i.toNat < xss.length := by omega
    have hm : slB r E rows[i.toNat] xss[i.toNat] ∈ (rows.zip xss).map fun p => slB r E p.1 p.2 := by
      refine List.mem_map.2 ⟨(rows[i.toNat], xss[i.toNat]), ?_, rfl⟩
      exact List.mem_of_getElem? (i := i.toNat) (by rw [List.getElem?_zip_eq_some]; exact ⟨List.getElem?_eq_getElem hi, List.getElem?_eq_getElem h2⟩)
    have := stars_mem hm h.right
    rw [List.getD_eq_getElem?_getD, List.getD_eq_getElem?_getD, List.getElem?_eq_getElem hi, List.getElem?_eq_getElem h2]
    exact ⟨slB_in this, slB_fl this⟩
  · rw [List.getD_eq_getElem?_getD, List.getD_eq_getElem?_getD, List.getElem?_eq_none (by omega), List.getElem?_eq_none (by omega)]
    exact ⟨.inl ⟨⟨_, rfl⟩, rfl⟩, fun x hx => by simp [flat, Dfl.d] at hx⟩
instance SlT.rows (H : List HProp) (r : Bool) {T : Type} (E : Enc T) (rows : List Value) (xss : List (List T)) (i : Int) : SlT (rws r E rows xss :: H) (Sl.rd rows i) E (Sl.rd xss i) :=
  ⟨fun w hw => (rws_in hw.left i).1, fun w hw => (rws_in hw.left i).2⟩
/-- The address of a part of an element. -/
def elp (v : Value) (i : Int) (n o : Nat) : Value := match v with
  | .slice (some a) _ _ => .pointer (some ⟨a.block, a.off + i.toNat * n + o, none⟩)
  | _ => undef
section
variable {P : Program} {ty : TypeId} {H : List HProp}
instance (priority := low) Q1.lenR (e t : TypeId) (cs : Array Bool) {T : Type} (E : Enc T) (v : Value) (xs : List T) [k : TyU P t (.slice e)] [r : SlT H v E xs] : Q1 P (.bi .len #[t] cs [v]) ty H True (.int .i64 xs.length) :=
  ⟨fun _ w hw => by
    rcases r.rd w hw with ⟨⟨a0, rfl⟩, rfl⟩ | ⟨b, off, cap, c, ty', fz, rfl, h2, h3, h4⟩
    · exact (Q1.len (P := P) (H := H) (ty := ty) e t cs a0 0 0).run trivial w hw
    · exact (Q1.len (P := P) (H := H) (ty := ty) e t cs _ _ _).run trivial w hw⟩
instance Q1.iaddr (e t : TypeId) (n : Nat) {T : Type} (E : Enc T) (v : Value) (xs : List T) (k : IntKind) (i : Int) [u : TyU P t (.slice e)] [s : TySz P e n] [r : SlT H v E xs] :
    Q1 P (.iaddr t v (.int k i)) ty H (0 ≤ i ∧ i < xs.length) (elp v i n 0) :=
  ⟨fun ⟨h0, h1⟩ w hw => by
    rcases r.rd w hw with ⟨⟨a0, rfl⟩, rfl⟩ | ⟨b, off, cap, c, ty', fz, rfl, h2, h3, h4⟩
    · simp at h1; omega
    · refine exec_v ?_
      simp only [Instr.indexAt, run_bind', asIntOf, run_pure, run_underlying u.u, h0, h1, true_and, and_self, if_true, run_sizeOf s, elp, add_none, Nat.add_zero]⟩
theorem lies_shift {t : TypeId} {l : List Value} {c : Array Value} {B o : Nat} {u : Value} (h : ∀ j, j < l.length → c[B + j]? = l[j]?) (k : Lies P t l.toArray o u) : Lies P t c (B + o) u := by
  have hs : ∀ j x, l[j]? = some x → c[B + j]? = some x := fun j x hj => by
    rw [h j (List.getElem?_eq_some_iff.1 hj).1, hj]
  rcases k with ⟨ha, hc⟩ | ⟨n, m, ha, hn, rfl, hl, hc⟩
  · exact .inl ⟨ha, hs _ _ (by simpa using hc)⟩
  · refine .inr ⟨n, m, ha, hn, rfl, hl, fun j hj => ?_⟩
    have h1 := hc j hj
    rw [List.getElem?_eq_getElem (by omega)] at h1 ⊢
    rw [Nat.add_assoc]
    exact hs _ _ (by simpa using h1)
theorem flat_rd {T : Type} [Dfl T] {E : Enc T} {xs : List T} {i : Int} {c : Array Value} {off : Nat} (h0 : 0 ≤ i) (h1 : i < xs.length) (h : ∀ j, j < (flat E xs).length → c[off + j]? = (flat E xs)[j]?) :
    ∀ j, j < (E.cells (rd xs i)).length → c[off + i.toNat * E.size + j]? = (E.cells (rd xs i))[j]? := by
  intro j hj
  have hi : i.toNat < xs.length := by omega
  rw [E.len] at hj
  rw [rd_eq hi, ← flat_at E xs i.toNat j hi hj, Nat.add_assoc]
  refine h _ ?_
  rw [flat_length]
  have : (i.toNat + 1) * E.size ≤ xs.length * E.size := Nat.mul_le_mul_right _ hi
  rw [Nat.add_mul] at this; omega
class EncS {T : Type} (E : Enc T) (n : outParam Nat) : Prop where s : E.size = n
instance (k) : EncS (eInt k) 1 := ⟨rfl⟩
instance : EncS eBool 1 := ⟨rfl⟩
instance : EncS eVal 1 := ⟨rfl⟩
instance Q1.loadE (t : TypeId) (n o : Nat) {T : Type} [Dfl T] (E : Enc T) (v : Value) (xs : List T) (i : Int) (l : List Value) (u : Value) [r : SlT H v E xs] [z : EncS E n] [ec : EncC E (rd xs i) l] [k : LiesL P t l o u] :
    Q1 P (.load t (elp v i n o)) ty H (0 ≤ i ∧ i < xs.length) u :=
  ⟨fun ⟨h0, h1⟩ w hw => by
    rcases r.rd w hw with ⟨⟨a0, rfl⟩, rfl⟩ | ⟨b, off, cap, c, ty', fz, rfl, h2, h3, h4⟩
    · simp at h1; omega
    · refine exec_v ?_
      have := flat_rd h0 h1 h4
      rw [ec.c, z.s] at this
      show (loadVar t ⟨b, off + i.toNat * n + o, none⟩).run P w = _
      exact run_loadVar h3 (lies_shift this k.lies)⟩
instance Q1.faddrE (s : TypeId) (v : Value) (i : Int) (m o f off ft n : Nat) [k : TyF P s f off ft] [h : TySz P ft n] [z : NZ n] {T : Type} (E : Enc T) (xs : List T) [r : SlT H v E xs] :
    Q1 P (.faddr s (elp v i m o) f) ty H (0 ≤ i ∧ i < xs.length) (elp v i m (o + off)) :=
  ⟨fun ⟨h0, h1⟩ w hw => by
    rcases r.rd w hw with ⟨⟨a0, rfl⟩, rfl⟩ | ⟨b, o', cap, c, ty', fz, rfl, h2, h3, h4⟩
    · simp at h1; omega
    · obtain ⟨fs, fd, h1, h2, rfl, rfl⟩ := k.f
      refine exec_v ?_
      simp only [Instr.fieldAt, run_bind', run_underlying h1, h2, elp, Instr.sureAddr, run_pure, run_fieldPlace h z.nz]
      simp [Nat.add_assoc]⟩
end
end Go.Sl

namespace Go.Sl
open Go
set_option linter.unusedVariables false
set_option linter.unusedSectionVars false
/-! Effects: new blocks, stores, appends, calls. -/
class Fl1 (H : List HProp) (v : Value) : Prop where f : ∀ w, sat w (stars H) → fl v = true ∧ v.cells = #[v]
class FlL (H : List HProp) (l : List Value) : Prop where f : ∀ w, sat w (stars H) → ∀ x, x ∈ l → fl x = true
class VC (H : List HProp) (v : Value) (l : outParam (List Value)) : Prop where c : ∀ w, sat w (stars H) → v.cells = l.toArray ∧ ∀ x, x ∈ l → fl x = true
class VCL (H : List HProp) (ps : List (Nat × Value)) (ls : outParam (List (Nat × List Value))) : Prop where c : ∀ w, sat w (stars H) → ps.map (fun p => (p.1, p.2.cells)) = ls.map (fun p => (p.1, p.2.toArray))
/-- A value of one cell, whatever it is. -/
class One (v : Value) : Prop where one : fl v = true
section
variable {P : Program} {ty : TypeId} {H : List HProp}
theorem cells_one {v : Value} (h : fl v = true) : v.cells = #[v] := by cases v <;> first | rfl | cases h
instance (k n) : Fl1 H (.int k n) := ⟨fun _ _ => ⟨rfl, rfl⟩⟩
instance (b) : Fl1 H (.bool b) := ⟨fun _ _ => ⟨rfl, rfl⟩⟩
instance (b) : Fl1 H (.string b) := ⟨fun _ _ => ⟨rfl, rfl⟩⟩
instance (a) : Fl1 H (.pointer a) := ⟨fun _ _ => ⟨rfl, rfl⟩⟩
instance (a n c) : Fl1 H (.slice a n c) := ⟨fun _ _ => ⟨rfl, rfl⟩⟩
instance (a) : Fl1 H (.map a) := ⟨fun _ _ => ⟨rfl, rfl⟩⟩
instance (f a b) : Fl1 H (.func f a b) := ⟨fun _ _ => ⟨rfl, rfl⟩⟩
instance : Fl1 H .nilFunc := ⟨fun _ _ => ⟨rfl, rfl⟩⟩
instance (a b) : Fl1 H (.iface a b) := ⟨fun _ _ => ⟨rfl, rfl⟩⟩
instance : Fl1 H .nilIface := ⟨fun _ _ => ⟨rfl, rfl⟩⟩
instance (priority := low) (v : Value) [o : One v] : Fl1 H v := ⟨fun _ _ => ⟨o.one, cells_one o.one⟩⟩
theorem SlIn.fl {w : World} {T : Type} {E : Enc T} {v : Value} {xs : List T} (h : SlIn w E v xs) : fl v = true := by
  rcases h with ⟨⟨a0, rfl⟩, _⟩ | ⟨b, off, cap, c, ty, fz, rfl, _⟩ <;> rfl
instance (priority := low) Fl1.sl (v : Value) {T : Type} (E : Enc T) (xs : List T) [r : SlT H v E xs] : Fl1 H v := ⟨fun w hw => by
  have := (r.rd w hw).fl; exact ⟨this, cells_one this⟩⟩
instance FlL.nil : FlL H [] := ⟨fun _ _ x hx => by cases hx⟩
instance FlL.cons (v : Value) (l : List Value) [a : Fl1 H v] [b : FlL H l] : FlL H (v :: l) := ⟨fun w hw x hx => by
  rcases List.mem_cons.1 hx with rfl | h
  · exact (a.f w hw).1
  · exact b.f w hw x h⟩
instance VC.agg (l : List Value) [f : FlL H l] : VC H (.agg l.toArray) l := ⟨fun w hw => ⟨rfl, f.f w hw⟩⟩
instance (priority := low) VC.one (v : Value) [f : Fl1 H v] : VC H v [v] := ⟨fun w hw => ⟨by rw [(f.f w hw).2], fun x hx => by simp at hx; subst hx; exact (f.f w hw).1⟩⟩
instance VCL.nil : VCL H [] [] := ⟨fun _ _ => rfl⟩
instance VCL.cons (i : Nat) (v : Value) (l : List Value) (ps : List (Nat × Value)) (ls : List (Nat × List Value)) [a : VC H v l] [b : VCL H ps ls] : VCL H ((i, v) :: ps) ((i, l) :: ls) :=
  ⟨fun w hw => by simp only [List.map_cons, (a.c w hw).1, b.c w hw]⟩
/-- What an operation yields that leaves the world alone. -/
abbrev Qx (P : Program) (vop : VOp) (ty : TypeId) (H : List HProp) (v : Value) : Prop := ∀ w, sat w (stars H) → (vop.exec ty).run P w = .ok (.value v) w
theorem Qx.q {vop : VOp} {pre : Prop} {v : Value} [q : Q1 P vop ty H pre v] (hp : pre) : Qx P vop ty H v := q.run hp
theorem Eff.x {w0 : World} {vop : VOp} {v : Value} {K : Value → List HProp → Prop} (q : Qx P vop ty H v) (h : K v H) : Eff P w0 vop ty H K :=
  fun w N hs hn => by rw [q w hs.2]; exact hn v H w h hs
/-! building values -/
def spl : List Value → Nat → List Value → Option (List Value)
  | z, 0, [] => some z
  | _ :: z, 0, y :: ys => match spl z 0 ys with | some r => some (y :: r) | none => none
  | x :: z, n + 1, ys => match spl z n ys with | some r => some (x :: r) | none => none
  | [], _ + 1, _ => none
  | [], 0, _ :: _ => none
theorem spl_spec : ∀ {z : List Value} {n : Nat} {ys r : List Value}, spl z n ys = some r → r.length = z.length ∧ n + ys.length ≤ z.length ∧ ∀ j, r[j]? = if n ≤ j ∧ j < n + ys.length then ys[j - n]? else z[j]?
  | z, 0, [], r, h => by simp [spl] at h; subst h; exact ⟨rfl, by simp, fun j => by simp⟩
  | x :: z, 0, y :: ys, r, h => by
    simp only [spl] at h
    cases h1 : spl z 0 ys with
    | none => rw [h1] at h; cases h
    | some s =>
      rw [h1] at h; simp at h; subst h
      obtain ⟨a, b, c⟩ := spl_spec h1
      refine ⟨by simp [a], by simp at b ⊢; omega, fun j => ?_⟩
      cases j with
      | zero => simp
      | succ j => simp only [List.getElem?_cons_succ, c j]; simp
  | x :: z, n + 1, ys, r, h => by
    simp only [spl] at h
    cases h1 : spl z n ys with
    | none => rw [h1] at h; cases h
    | some s =>
      rw [h1] at h; simp at h; subst h
      obtain ⟨a, b, c⟩ := spl_spec h1
      refine ⟨by simp [a], by simp at b ⊢; omega, fun j => ?_⟩
      cases j with
      | zero => simp
      | succ j =>
        simp only [List.getElem?_cons_succ, c j]
        have : (n + 1 ≤ j + 1 ∧ j + 1 < n + 1 + ys.length) ↔ (n ≤ j ∧ j < n + ys.length) := by omega
        simp only [this, Nat.add_sub_add_right]
  | [], n + 1, ys, r, h => by simp [spl] at h
  | [], 0, _ :: _, r, h => by simp [spl] at h
/-- The element with one part of it written anew. -/
class EncU (H : List HProp) {T : Type} (E : Enc T) (x : T) (o : Nat) (v : Value) (y : outParam T) : Prop where u : ∀ w, sat w (stars H) → ∃ l, v.cells = l.toArray ∧ spl (E.cells x) o l = some (E.cells y)
theorem foldl_put (off : Nat) : ∀ (ys : List Value) (k : Nat) (c : Array Value) (j : Nat), off + k + ys.length ≤ c.size →
    ((ys.zipIdx k).foldl (fun cs (p : Value × Nat) => cs.setIfInBounds (off + p.2) p.1) c).size = c.size ∧
    ((ys.zipIdx k).foldl (fun cs (p : Value × Nat) => cs.setIfInBounds (off + p.2) p.1) c)[j]? = if off + k ≤ j ∧ j < off + k + ys.length then ys[j - (off + k)]? else c[j]?
  | [], k, c, j, h => ⟨rfl, by simp; intro h1 h2; omega⟩
  | y :: ys, k, c, j, h => by
    simp only [List.zipIdx_cons, List.foldl_cons]
    simp only [List.length_cons] at h
    obtain ⟨h1, h2⟩ := foldl_put off ys (k + 1) (c.setIfInBounds (off + k) y) j (by simp; omega)
    refine ⟨by rw [h1]; simp, ?_⟩
    rw [h2]
    by_cases hj : j = off + k
    · subst hj
      have h5 : off + k < c.size := by omega
      simp only [List.length_cons, Nat.sub_self, List.getElem?_cons_zero]
      rw [if_neg (by omega), if_pos (by omega), Array.getElem?_setIfInBounds_self_of_lt h5]
    · simp only [List.length_cons]
      by_cases h3 : off + (k + 1) ≤ j ∧ j < off + (k + 1) + ys.length
      · rw [if_pos h3, if_pos (by omega)]
        rw [show j - (off + k) = (j - (off + (k + 1))) + 1 from by omega]; simp
      · rw [if_neg h3, if_neg (by omega), Array.getElem?_setIfInBounds_ne (by omega)]
def fillO (pl : List (Nat × Nat)) : List Value → List (Nat × List Value) → Option (List Value)
  | z, [] => some z
  | z, (i, l) :: ps => match pl[i]? with
    | some (off, size) => match Nat.beq l.length size with
      | true => match spl z off l with
        | some r => fillO pl r ps
        | none => none
      | false => none
    | none => none
theorem fill_of {pl : List (Nat × Nat)} : ∀ {ls : List (Nat × List Value)} {ps : List (Nat × Value)} {z r : List Value}, fillO pl z ls = some r → ps.map (fun p => (p.1, p.2.cells)) = ls.map (fun p => (p.1, p.2.toArray)) →
    Instr.fill (fun i => pl[i]?) z.toArray ps = some r.toArray
  | [], ps, z, r, h, k => by
    simp only [List.map_nil, List.map_eq_nil_iff] at k; subst k
    simp [fillO] at h; subst h; rfl
  | (i, l) :: ls, ps, z, r, h, k => by
    cases ps with
    | nil => simp at k
    | cons p ps =>
      obtain ⟨i', v⟩ := p
      simp only [List.map_cons, List.cons.injEq, Prod.mk.injEq] at k
      obtain ⟨⟨rfl, hv⟩, k⟩ := k
      simp only [fillO] at h
      simp only [Instr.fill]
      cases hp : pl[i']? with
      | none => rw [hp] at h; cases h
      | some q =>
        obtain ⟨off, size⟩ := q
        rw [hp] at h
        simp only at h ⊢
        split at h
        · rename_i hb
          have hsz := Nat.eq_of_beq_eq_true hb
          split at h
          · rename_i r1 hr1
            obtain ⟨a, b, c⟩ := spl_spec hr1
            rw [if_neg (by simp [hv, hsz]; omega)]
            have := fill_of h k
            rw [← this]
            congr 1
            apply Array.ext'
            apply List.ext_getElem?
            intro j
            obtain ⟨h1, h2⟩ := foldl_put off l 0 z.toArray j (by simp; omega)
            have h3 := c j
            simp only [Nat.add_zero, List.getElem?_toArray] at h2
            rw [hv, h3, ← h2]
            simp [← Array.getElem?_toList]
          · cases h
        · cases h
class TyPl (P : Program) (t : TypeId) (pl : outParam (List (Nat × Nat))) : Prop where pl : ∃ fs, P.underlying t = some (.struct fs) ∧ fs.toList.map (fun f => (f.offset, (P.info? f.type).map (·.size))) = pl.map (fun p => (p.1, some p.2))
theorem run_places {w : World} : ∀ {fs : List Field} {pl : List (Nat × Nat)}, fs.map (fun f => (f.offset, (P.info? f.type).map (·.size))) = pl.map (fun p => (p.1, some p.2)) →
    (fs.mapM (m := Sem) fun f => do Pure.pure (f.offset, ← sizeOf f.type)).run P w = .ok pl w
  | [], pl, h => by simp at h; subst h; rfl
  | f :: fs, pl, h => by
    cases pl with
    | nil => simp at h
    | cons p pl =>
      obtain ⟨o, n⟩ := p
      simp only [List.map_cons, List.cons.injEq, Prod.mk.injEq] at h
      obtain ⟨⟨rfl, h1⟩, h2⟩ := h
      rw [List.mapM_cons, run_bind', run_bind', run_sizeOf ⟨h1⟩]
      simp only [run_pure]
      rw [run_bind', run_places h2]; rfl
theorem run_places' {w : World} {fs : Array Field} {pl : List (Nat × Nat)} (h : fs.toList.map (fun f => (f.offset, (P.info? f.type).map (·.size))) = pl.map (fun p => (p.1, some p.2))) :
    (fs.mapM (m := Sem) fun f => do Pure.pure (f.offset, ← sizeOf f.type)).run P w = .ok pl.toArray w := by
  have : fs = fs.toList.toArray := rfl
  rw [this, List.mapM_toArray, ← bind_pure_comp, run_bind', run_places h]; rfl
theorem Qx.build {t : TypeId} {z out : List Value} {ps : List (Nat × Value)} {ls : List (Nat × List Value)} {pl : List (Nat × Nat)} [hz : TyZ P t (.agg z.toArray)] [hp : TyPl P t pl] [v : VCL H ps ls] (h : fillO pl z ls = some out) :
    Qx P (.build t ps) ty H (.agg out.toArray) := fun w hw => by
  obtain ⟨fs, h1, h2⟩ := hp.pl
  refine exec_v ?_
  unfold Instr.build
  rw [run_bind', run_zeroValue hz]
  simp only []
  rw [run_bind', run_underlying h1]
  simp only []
  rw [run_bind']
  have := run_places' (P := P) (w := w) h2
  rw [this]
  have h3 := fill_of h (v.c w hw)
  have h4 : (fun (i : Nat) => pl.toArray[i]?) = fun (i : Nat) => pl[i]? := by funext i; simp
  show Sem.run P (match Instr.fill (fun (i : Nat) => pl.toArray[i]?) z.toArray ps.toArray.toList with | some cells => Pure.pure (Value.agg cells) | _ => stuck _) w = _
  rw [h4, show ps.toArray.toList = ps from rfl, h3]; rfl
end
end Go.Sl

namespace Go.Sl
open Go
set_option linter.unusedVariables false
set_option linter.unusedSectionVars false
section
variable {P : Program} {ty : TypeId} {H : List HProp} {w0 : World} {K : Value → List HProp → Prop}
theorem Ext.push {w0 w w' : World} (h : Ext w0 w) (o : Obj) (e : w' = { w with heap := w.heap.push o }) : Ext w0 w' := by
  subst e; exact ⟨h.os, h.tape, h.output, by have := h.size; simp; omega⟩
theorem run_newRow {w : World} (t : TypeId) (cells : Array Value) : (newRow t cells).run P w = .ok ⟨w.heap.size, 0, none⟩ { w with heap := w.heap.push (.cells cells t) } := rfl
theorem St.push {w : World} {H : List HProp} {l : List Value} {t : TypeId} (h : St w0 H w) : St w0 (cel w.heap.size t l :: H) { w with heap := w.heap.push (.cells l.toArray t) } :=
  ⟨h.1.push _ rfl, sat.push rfl h.2⟩
/-! new variables -/
class ZCells (P : Program) (t : TypeId) (l : outParam (List Value)) : Prop where z : ∃ z, TyZ P t z ∧ z.cells = l.toArray
instance (t : TypeId) (l : List Value) [h : TyZ P t (.agg l.toArray)] : ZCells P t l := ⟨_, h, rfl⟩
instance (t k n) [h : TyZ P t (.int k n)] : ZCells P t [.int k n] := ⟨_, h, rfl⟩
instance (t n) [h : TyZ P t (.bool n)] : ZCells P t [.bool n] := ⟨_, h, rfl⟩
instance (t a n c) [h : TyZ P t (.slice a n c)] : ZCells P t [.slice a n c] := ⟨_, h, rfl⟩
instance (t a) [h : TyZ P t (.pointer a)] : ZCells P t [.pointer a] := ⟨_, h, rfl⟩
instance (t a) [h : TyZ P t (.map a)] : ZCells P t [.map a] := ⟨_, h, rfl⟩
instance (t) [h : TyZ P t .nilFunc] : ZCells P t [.nilFunc] := ⟨_, h, rfl⟩
theorem Eff.alloc {t : TypeId} {z : List Value} [hz : ZCells P t z] (k : ∀ b, K (.pointer (some ⟨b, 0, none⟩)) (cel b t z :: H)) : Eff P w0 (.alloc t) ty H K := by
  intro w N hs hn
  obtain ⟨v, h1, h2⟩ := hz.z
  have : ((VOp.alloc t).exec ty).run P w = .ok (.value (.pointer (some ⟨w.heap.size, 0, none⟩))) { w with heap := w.heap.push (.cells z.toArray t) } := by
    refine exec_v ?_
    simp only [Instr.alloc, run_bind', run_zeroValue h1, newVar, h2, run_newRow, run_pure]
  rw [this]
  exact hn _ _ _ (k _) hs.push
theorem Eff.box {t : TypeId} {v : Value} {l : List Value} [hv : VC H v l] (k : ∀ b, K (.pointer (some ⟨b, 0, none⟩)) (cel b t l :: H)) : Eff P w0 (.box t v) ty H K := by
  intro w N hs hn
  have : ((VOp.box t v).exec ty).run P w = .ok (.value (.pointer (some ⟨w.heap.size, 0, none⟩))) { w with heap := w.heap.push (.cells l.toArray t) } := by
    refine exec_v ?_
    simp only [Instr.box, run_bind', newVar, (hv.c w hs.2).1, run_newRow, run_pure]
  rw [this]
  exact hn _ _ _ (k _) hs.push
/-! stores -/
class TkC (H : List HProp) (b : Nat) (T : outParam TypeId) (l : outParam (List Value)) (H' : outParam (List HProp)) : Prop where
  tk : ent (stars H) (star (cel b T l) (stars H'))
  back : ∀ l', ent (star (cel b T l') (stars H')) (star (cel b T l') (stars H'))
instance TkC.tl (A : HProp) (H : List HProp) (b T l H') [h : TkC H b T l H'] : TkC (A :: H) b T l (A :: H') :=
  ⟨ent.trans (star_mono (ent.refl A) h.tk) (star_left_comm _ _ _), fun _ => ent.refl _⟩
instance TkC.hd (H : List HProp) (b T l) : TkC (celB false b T l :: H) b T l H := ⟨ent.refl _, fun _ => ent.refl _⟩
theorem run_storeCells {b : Nat} {T : TypeId} : ∀ (vs : List Value) (i off : Nat) (c : Array Value) (w : World), w.heap[b]? = some (.cells c T (0, 0)) → off + i + vs.length ≤ c.size → (∀ x, x ∈ vs → fl x = true) →
    ∃ c' w', (storeCells ⟨b, off, none⟩ vs i).run P w = .ok () w' ∧ (∀ k, w'.heap[k]? = if k = b then some (.cells c' T (0, 0)) else w.heap[k]?) ∧ Ext w w' ∧ w'.heap.size = w.heap.size ∧ c'.size = c.size ∧
      ∀ j, c'[j]? = if off + i ≤ j ∧ j < off + i + vs.length then vs[j - (off + i)]? else c[j]?
  | [], i, off, c, w, h, hl, _ => ⟨c, w, rfl, fun k => by split <;> simp_all, Ext.refl w, rfl, rfl, fun j => by
      rw [if_neg (by simp only [List.length_nil]; omega)]⟩
  | v :: vs, i, off, c, w, h, hl, hf => by
    simp only [List.length_cons] at hl
    have hfv := hf v (by simp)
    have hcell : w.cell? ⟨b, off + i, none⟩ = some c[off + i] := by rw [cell_of h, Array.getElem?_eq_getElem (by omega)]
    have hfz : w.frozen? ⟨b, off + i, none⟩ = false := by simp [World.frozen?, h]
    have hb : b < w.heap.size := by
      rcases Nat.lt_or_ge b w.heap.size with h1 | h1
      · exact h1
      · simp [Array.getElem?_eq_none h1] at h
    have hst : (store ⟨b, off + i, none⟩ v).run P w = .ok () (w.setCell ⟨b, off + i, none⟩ v) := by
      cases v <;> simp only [store, Sem.run, hcell, hfz] <;> first | rfl | cases hfv
    have hh : ∀ k, (w.setCell ⟨b, off + i, none⟩ v).heap[k]? = if k = b then some (.cells (c.setIfInBounds (off + i) v) T (0, 0)) else w.heap[k]? := by
      intro k
      simp only [World.setCell, Array.getElem?_modify]
      by_cases hk : k = b
      · subst hk; simp [h]
      · rw [if_neg (fun e => hk e.symm), if_neg hk]
    obtain ⟨c', w', h1, h2, h3, h4, h5, h6⟩ := run_storeCells vs (i + 1) off (c.setIfInBounds (off + i) v) (w.setCell ⟨b, off + i, none⟩ v) (by rw [hh, if_pos rfl]) (by simp; omega) (fun x hx => hf x (by simp [hx]))
    refine ⟨c', w', ?_, fun k => ?_, Ext.trans (b := w.setCell ⟨b, off + i, none⟩ v) ⟨rfl, rfl, rfl, by simp [World.setCell]⟩ h3, by rw [h4]; simp [World.setCell], by rw [h5]; simp, fun j => ?_⟩
    · rw [storeCells, run_bind', add_none, hst]; exact h1
    · rw [h2 k]
      by_cases hk : k = b
      · rw [if_pos hk, if_pos hk]
      · rw [if_neg hk, if_neg hk, hh k, if_neg hk]
    · rw [h6 j]
      simp only [List.length_cons]
      by_cases hj : j = off + i
      · subst hj
        rw [if_neg (by omega), if_pos (by omega), Array.getElem?_setIfInBounds_self_of_lt (by omega)]; simp
      · by_cases h7 : off + (i + 1) ≤ j ∧ j < off + (i + 1) + vs.length
        · rw [if_pos h7, if_pos (by omega), show j - (off + i) = (j - (off + (i + 1))) + 1 from by omega]; simp
        · rw [if_neg h7, if_neg (by omega), Array.getElem?_setIfInBounds_ne (by omega)]
theorem run_storeVar {w : World} {t : TypeId} {a : Addr} {v : Value} {ls : List Value} (hv : v.cells = ls.toArray) (hn : TySz P t ls.length) : (storeVar t a v).run P w = (storeCells a ls).run P w := by
  simp only [storeVar, run_bind', run_sizeOf hn, hv]
  simp
theorem Eff.store {t b off : Nat} {T : TypeId} {l l' ls : List Value} {v : Value} {H' : List HProp} {n : Nat} [hv : VC H v ls] [hn : TySz P t n] [tk : TkC H b T l H'] (hl : Nat.beq ls.length n = true) (h : spl l off ls = some l') (k : K undef (cel b T l' :: H')) :
    Eff P w0 (.store t (.pointer (some ⟨b, off, none⟩)) v) ty H K := by
  intro w N hs hn'
  have hlen := Nat.eq_of_beq_eq_true hl
  subst hlen
  obtain ⟨hv1, hv2⟩ := hv.c w hs.2
  have hsat := hs.2.mono tk.tk
  have hb := sat.pt hsat.left
  obtain ⟨s1, s2, s3⟩ := spl_spec h
  obtain ⟨c', w', h1, h2, h3, h4, h5, h6⟩ := run_storeCells (P := P) ls 0 off l.toArray w hb (by simpa using s2) hv2
  have hc : c' = l'.toArray := by
    apply Array.ext'
    apply List.ext_getElem?
    intro j
    have := h6 j
    simp only [Nat.add_zero] at this
    rw [Array.getElem?_toList, this, s3 j]; simp
  have : ((VOp.store t (.pointer (some ⟨b, off, none⟩)) v).exec ty).run P w = .ok .skip w' := by
    refine exec_u ?_
    show (storeVar t ⟨b, off, none⟩ v).run P w = _
    rw [run_storeVar hv1 hn, h1]
  rw [this]
  refine hn' _ _ _ k ⟨hs.1.trans h3, ?_⟩
  subst hc
  exact sat.set (o := .cells l.toArray T (0, 0)) h2 hsat
/-! slices -/
class TkS (H : List HProp) {T : Type} (E : Enc T) (v : Value) (xs : outParam (List T)) (H' : outParam (List HProp)) : Prop where tk : ent (stars H) (star (sl E v xs) (stars H'))
instance TkS.tl (A : HProp) (H : List HProp) {T : Type} (E : Enc T) (v xs H') [h : TkS H E v xs H'] : TkS (A :: H) E v xs (A :: H') := ⟨ent.trans (star_mono (ent.refl A) h.tk) (star_left_comm _ _ _)⟩
instance TkS.hd (H : List HProp) {T : Type} (E : Enc T) (v xs) : TkS (slB false E v xs :: H) E v xs H := ⟨ent.refl _⟩
theorem sl_nil {T : Type} (E : Enc T) (A : HProp) {a : Option Addr} : ent A (star (sl E (.slice a 0 0) []) A) :=
  fun h x => ⟨fun _ => none, h, fun b x y hx => by simp at hx, by funext b; rfl, .inl ⟨⟨_, rfl⟩, rfl⟩, x⟩
instance TkS.nil (H : List HProp) {T : Type} (E : Enc T) : TkS H E (.slice none 0 0) [] H := ⟨sl_nil E _⟩
/-- a slice taken out, of whatever type -/
class TkT (H : List HProp) (v : Value) {T : outParam Type} (E : outParam (Enc T)) (xs : outParam (List T)) (H' : outParam (List HProp)) : Prop where tk : ent (stars H) (star (sl E v xs) (stars H'))
instance TkT.tl (A : HProp) (H : List HProp) (v : Value) {T : Type} (E : Enc T) (xs H') [h : TkT H v E xs H'] : TkT (A :: H) v E xs (A :: H') := ⟨ent.trans (star_mono (ent.refl A) h.tk) (star_left_comm _ _ _)⟩
instance TkT.hd (H : List HProp) {T : Type} (E : Enc T) (v xs) : TkT (slB false E v xs :: H) v E xs H := ⟨ent.refl _⟩
/-- A new row is a slice. -/
theorem pt_sl {T : Type} {E : Enc T} {b n cap : Nat} {ty : TypeId} {xs : List T} {c : Array Value} (hn : n = xs.length) (hcap : n ≤ cap) (hsz : cap * E.size ≤ c.size) (hc : ∀ j, j < (flat E xs).length → c[j]? = (flat E xs)[j]?) (hf : ∀ x, x ∈ flat E xs → fl x = true) :
    ent (pt b (.cells c ty (0, 0))) (sl E (.slice (some ⟨b, 0, none⟩) n cap) xs) := by
  intro h x
  subst hn
  exact .inr ⟨b, 0, cap, c, (ty, 0, 0), rfl, hcap, by omega, x, fun j hj => by simpa using hc j hj, hf⟩
/-- what an element's cells are, all flat -/
class EncF {T : Type} (E : Enc T) : Prop where f : ∀ x v, v ∈ E.cells x → fl v = true
instance (k) : EncF (eInt k) := ⟨fun x v h => by simp [eInt] at h; subst h; rfl⟩
instance : EncF eBool := ⟨fun x v h => by simp [eBool] at h; subst h; rfl⟩
theorem flat_fl {T : Type} {E : Enc T} [e : EncF E] (xs : List T) : ∀ x, x ∈ flat E xs → fl x = true := fun x hx => by
  simp only [flat, List.mem_flatMap] at hx
  obtain ⟨a, _, h⟩ := hx
  exact e.f a x h
end
end Go.Sl

