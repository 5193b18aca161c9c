/- The pure side of PrivAll: what chapter 4's printed functions answer, for every number. Conditions: none beside the statement's own. -/
import Derived.Test.YtpeeneaapmmciaaVPrivAll
namespace Go.Proofs.Ytpeeneaapmmciaa.Pure
open Go.RowKit Go.Proofs.Ytpeeneaapmmciaa.PPrivAll Go.Proofs.YtpeeneaapmmciaaW.PrintWords Go.Proofs.YtpeeneaapmmciaaW.PrintLast Go.Proofs.YtpeeneaapmmciaaW.PrintMore

theorem wrap_small (i : Int) (h0 : 0 ≤ i) (h : i < 4294967296) : wrap64 (i + 1) = i + 1 := by unfold wrap64; omega

theorem u32_wrap_nat (n : Nat) (h : n < 4294967296) : IntKind.u32.wrap (n : Int) = n := by rw [IntKind.wrap_u32]; omega

theorem u32_bits (a b : Nat) (ha : a < 2 ^ 32) (hb : b < 2 ^ 32) :
    Go.bits .and .u32 a b = ((a &&& b : Nat) : Int) ∧ Go.bits .or .u32 a b = ((a ||| b : Nat) : Int) :=
  bits_nat .u32 32 (by decide) (fun n h0 h1 => by rw [IntKind.wrap_u32]; omega) a b ha hb

/-- The bit that List asks for. -/
theorem bit_ask (p i : Nat) (hp : p < 2 ^ 32) (hi : i < 32) :
    (Go.bits .and .u32 (shr .u32 (p : Int) (i : Int)) 1 = 1) ↔ p.testBit i = true := by
  have e1 : shr .u32 (p : Int) (i : Int) = ((p / 2 ^ i : Nat) : Int) := by
    unfold shr
    have : min (Int.toNat (i : Int)) (IntKind.u32.bits) = i := by simp [IntKind.bits]; omega
    rw [this]; simp
  have hq : p / 2 ^ i < 2 ^ 32 := Nat.lt_of_le_of_lt (Nat.div_le_self _ _) hp
  rw [e1, show (1 : Int) = ((1 : Nat) : Int) from rfl, (u32_bits _ 1 hq (by decide)).1]
  rw [Nat.and_one_is_mod, Nat.testBit_eq_decide_div_mod_eq, decide_eq_true_iff]
  omega

theorem shl_one (n : Nat) (h : n < 16) : shl .u32 1 (n : Int) = ((2 ^ n : Nat) : Int) := by
  unfold shl
  have : min (Int.toNat (n : Int)) (IntKind.u32.bits) = n := by simp [IntKind.bits]; omega
  rw [this, Int.one_mul]
  have h2 : (2 : Nat) ^ n < 4294967296 := Nat.lt_of_lt_of_le (Nat.pow_lt_pow_right (by decide) h) (by decide)
  have := u32_wrap_nat (2 ^ n) h2
  simpa using this

/-! ### List -/
def listF (p : Nat) (i : Nat) : Nat → List Int → List Int
  | 0, acc => acc
  | d + 1, acc => listF p (i + 1) d (if p.testBit i then acc ++ [(i : Int)] else acc)

theorem list_l0 (p : Nat) (hp : p < 2 ^ 32) (d : Nat) : ∀ (k i : Nat) (acc : List Int), i + d = 32 → acc.length ≤ i → d < k →
    priv_List.l0 k p acc i = some (listF p i d acc) := by
  induction d with
  | zero =>
    intro k i acc hi ha hk
    obtain ⟨k, rfl⟩ : ∃ m, k = m + 1 := ⟨k - 1, by omega⟩
    simp only [priv_List.l0]; rw [if_neg (by omega)]; rfl
  | succ d ih =>
    intro k i acc hi ha hk
    obtain ⟨k, rfl⟩ : ∃ m, k = m + 1 := ⟨k - 1, by omega⟩
    simp only [priv_List.l0]
    rw [if_pos (by omega), if_pos (by omega), wrap_small _ (by omega) (by omega)]
    have e : ((i : Int) + 1) = ((i + 1 : Nat) : Int) := by simp
    by_cases hb : p.testBit i = true
    · rw [if_pos ((bit_ask p i hp (by omega)).2 hb), if_pos (by omega), e, ih k (i + 1) _ (by omega) (by simp; omega) (by omega)]
      simp [listF, hb]
    · rw [if_neg (fun h => hb ((bit_ask p i hp (by omega)).1 h)), e, ih k (i + 1) _ (by omega) (by omega) (by omega)]
      simp [listF, hb]


/-! ### Of -/
def orStep (a : Int) (n : Int) : Int := if 0 ≤ n ∧ n < 16 then Go.bits .or .u32 a (shl .u32 1 n) else a

theorem of_l0 (l : List Int) (hl : l.length < 4294967296) (d : Nat) : ∀ (k i : Nat) (acc : Int), i + d = l.length → d < k →
    priv_Of.l0 k acc l (l.length : Int) i = some ((l.drop i).foldl orStep acc) := by
  induction d with
  | zero =>
    intro k i acc hi hk
    obtain ⟨k, rfl⟩ : ∃ m, k = m + 1 := ⟨k - 1, by omega⟩
    simp only [priv_Of.l0]; rw [if_neg (by omega), List.drop_of_length_le (by omega)]; rfl
  | succ d ih =>
    intro k i acc hi hk
    obtain ⟨k, rfl⟩ : ∃ m, k = m + 1 := ⟨k - 1, by omega⟩
    have hlt : i < l.length := by omega
    have hr : rd l (i : Int) = l[i] := by unfold rd; simp [hlt]
    have hd : l.drop i = l[i] :: l.drop (i + 1) := List.drop_eq_getElem_cons hlt
    simp only [priv_Of.l0]
    rw [if_pos (by omega), if_pos (by omega), if_pos (by omega), wrap_small _ (by omega) (by omega), hr, hd, List.foldl_cons]
    have e : ((i : Int) + 1) = ((i + 1 : Nat) : Int) := by simp
    rw [e]
    by_cases h0 : l[i] ≥ 0
    · by_cases h1 : l[i] < 16
      · rw [if_pos h0, if_pos h1, if_pos h0, ih k (i + 1) _ (by omega) (by omega)]
        simp [orStep, h1, show (0 : Int) ≤ l[i] from h0]
      · rw [if_pos h0, if_neg h1, ih k (i + 1) _ (by omega) (by omega)]
        simp [orStep, h1]
    · rw [if_neg h0, ih k (i + 1) _ (by omega) (by omega)]
      simp [orStep, show ¬ (0 : Int) ≤ l[i] from h0]


/-- The fold over a list of numbers, as a number's bits. -/
theorem fold_bits (l : List Int) : ∀ (a : Nat), a < 2 ^ 32 → ∃ b : Nat, b < 2 ^ 32 ∧ l.foldl orStep (a : Int) = (b : Int) ∧
    ∀ i, b.testBit i = (a.testBit i || decide (i < 16 ∧ (i : Int) ∈ l)) := by
  induction l with
  | nil => intro a ha; exact ⟨a, ha, rfl, fun i => by simp⟩
  | cons x l ih =>
    intro a ha
    rw [List.foldl_cons]
    by_cases hx : 0 ≤ x ∧ x < 16
    · obtain ⟨n, rfl⟩ := Int.eq_ofNat_of_zero_le hx.1
      have hn : n < 16 := by omega
      have h2 : (2 : Nat) ^ n < 2 ^ 32 := Nat.pow_lt_pow_right (by decide) (by omega)
      have e : orStep (a : Int) (n : Int) = ((a ||| 2 ^ n : Nat) : Int) := by
        unfold orStep; rw [if_pos hx, shl_one n hn, (u32_bits a (2 ^ n) ha h2).2]
      obtain ⟨b, hb, h, t⟩ := ih (a ||| 2 ^ n) (Nat.or_lt_two_pow ha h2)
      refine ⟨b, hb, by rw [e]; exact h, fun i => ?_⟩
      rw [t i, Nat.testBit_or, Nat.testBit_two_pow]
      by_cases hi : n = i
      · subst hi; simp [hn]
      · have : ¬ ((i : Int) = (n : Int)) := by omega
        simp [hi, this]
    · obtain ⟨b, hb, h, t⟩ := ih a ha
      have e : orStep (a : Int) x = a := by unfold orStep; rw [if_neg hx]
      refine ⟨b, hb, by rw [e]; exact h, fun i => ?_⟩
      rw [t i]
      by_cases hi : (i : Int) = x
      · have : ¬ i < 16 := by omega
        simp [this]
      · simp [hi]


theorem listF_length (p : Nat) (d : Nat) : ∀ (i : Nat) (acc : List Int), (listF p i d acc).length ≤ acc.length + d := by
  induction d with
  | zero => intro i acc; simp [listF]
  | succ d ih =>
    intro i acc
    simp only [listF]
    by_cases hb : p.testBit i = true
    · rw [if_pos hb]; have := ih (i + 1) (acc ++ [(i : Int)]); simp at this; omega
    · rw [if_neg hb]; have := ih (i + 1) acc; omega



/-! ### Has -/
theorem has_bv (a b : BitVec 32) : (b &&& ~~~a = 0#32) ↔ (a &&& b = b) := by
  constructor
  · intro h
    ext i hi
    have := congrArg (fun v => v.getLsbD i) h
    simp [hi] at this ⊢
    exact this
  · intro h
    ext i hi
    have := congrArg (fun v => v.getLsbD i) h
    simp [hi] at this ⊢
    exact this

theorem u32_toNat (v : BitVec 32) : IntKind.u32.wrap (v.toNat : Int) = v.toNat := u32_wrap_nat _ v.isLt

theorem wf_u32 {a : Int} (h : (Lit.int .u32 a).wf = true) : 0 ≤ a ∧ a < 4294967296 := by
  have h1 : IntKind.u32.min = 0 := rfl
  have h2 : IntKind.u32.max = 4294967295 := rfl
  simp [Lit.wf] at h; omega


/-- What Has answers. -/
def hasB (p need : Int) : Bool := Go.bits .andNot .u32 need p == 0

theorem hasB_iff (p need : Int) : hasB p need = true ↔ (BitVec.ofInt 32 need) &&& ~~~(BitVec.ofInt 32 p) = 0#32 := by
  have k1 : Go.bits .andNot .u32 need p = (((BitVec.ofInt 32 need) &&& ~~~(BitVec.ofInt 32 p)).toNat : Int) := u32_toNat _
  unfold hasB
  rw [k1, beq_iff_eq]
  constructor
  · intro h; apply BitVec.eq_of_toNat_eq; simpa using h
  · intro h; rw [h]; rfl

theorem ofInt_or (a b : Int) : BitVec.ofInt 32 (Go.bits .or .u32 a b) = BitVec.ofInt 32 a ||| BitVec.ofInt 32 b := by
  have k : Go.bits .or .u32 a b = (((BitVec.ofInt 32 a) ||| (BitVec.ofInt 32 b)).toNat : Int) := u32_toNat _
  rw [k]
  apply BitVec.eq_of_toNat_eq
  simp only [BitVec.ofInt_natCast, BitVec.toNat_ofNat]
  exact Nat.mod_eq_of_lt (BitVec.isLt _)

theorem bv_or (a b p : BitVec 32) : ((a ||| b) &&& ~~~p = 0#32) ↔ (a &&& ~~~p = 0#32 ∧ b &&& ~~~p = 0#32) := by
  constructor
  · intro h
    constructor
    · ext i hi
      have := congrArg (fun v => v.getLsbD i) h
      simp [hi] at this ⊢
      intro ha; exact this (.inl ha)
    · ext i hi
      have := congrArg (fun v => v.getLsbD i) h
      simp [hi] at this ⊢
      intro hb; exact this (.inr hb)
  · rintro ⟨h1, h2⟩
    ext i hi
    have e1 := congrArg (fun v => v.getLsbD i) h1
    have e2 := congrArg (fun v => v.getLsbD i) h2
    simp [hi] at e1 e2 ⊢
    rintro (h | h)
    · exact e1 h
    · exact e2 h

theorem hasB_or (p a b : Int) : hasB p (Go.bits .or .u32 a b) = (hasB p a && hasB p b) := by
  rw [Bool.eq_iff_iff, Bool.and_eq_true, hasB_iff, hasB_iff, hasB_iff, ofInt_or]
  exact bv_or _ _ _

theorem hasB_more (p m a : Int) (h : hasB p a = true) : hasB (Go.bits .or .u32 p m) a = true := by
  rw [hasB_iff] at h ⊢
  rw [ofInt_or]
  ext i hi
  have e1 := congrArg (fun v => v.getLsbD i) h
  simp [hi] at e1 ⊢
  intro h1 h2
  rw [e1 h1] at h2
  cases h2

theorem hasB_zero (p : Int) : hasB p 0 = true := by
  rw [hasB_iff]
  ext i hi; simp

theorem has_eq (p need : Int) : priv_Has.f p need = some (hasB p need) := rfl

/-- Of of one number, and of it twice. -/
theorem of_one (x : Int) : ∃ o : Nat, o < 65536 ∧ orStep 0 x = (o : Int) ∧ orStep (orStep 0 x) x = (o : Int) ∧ ((0 ≤ x ∧ x < 16) ↔ o ≠ 0) := by
  by_cases hx : 0 ≤ x ∧ x < 16
  · obtain ⟨n, rfl⟩ := Int.eq_ofNat_of_zero_le hx.1
    have hn : n < 16 := by omega
    have h2 : (2 : Nat) ^ n < 2 ^ 32 := Nat.pow_lt_pow_right (by decide) (by omega)
    have h3 : (2 : Nat) ^ n < 2 ^ 16 := Nat.pow_lt_pow_right (by decide) (by omega)
    have e : ∀ a : Nat, a < 2 ^ 32 → orStep (a : Int) (n : Int) = ((a ||| 2 ^ n : Nat) : Int) := by
      intro a ha; unfold orStep; rw [if_pos hx, shl_one n hn, (u32_bits a (2 ^ n) ha h2).2]
    refine ⟨2 ^ n, by omega, ?_, ?_, ?_⟩
    · have := e 0 (by decide); simpa using this
    · have h0 := e 0 (by decide)
      have e1 : orStep 0 (n : Int) = ((2 ^ n : Nat) : Int) := by simpa using h0
      rw [e1, e _ h2, Nat.or_self]
    · have : 0 < 2 ^ n := Nat.two_pow_pos n
      constructor
      · intro _; omega
      · intro _; exact hx
  · have e : ∀ a : Int, orStep a x = a := fun a => by unfold orStep; rw [if_neg hx]
    exact ⟨0, by decide, by rw [e]; rfl, by rw [e, e]; rfl, by constructor <;> intro h; exact absurd h hx; exact absurd rfl h⟩

theorem PrivAll : confidantlaw4_PrivAll.Pure := by
  intro p a b m x _ _ _ _ _
  refine ⟨100, ?_⟩
  obtain ⟨o, ho, h1, h2, hx⟩ := of_one x
  have hk : confidantlaw4_known.f 100 = some true := by decide +kernel
  have e1 : priv_Of.f 100 [x] = some (o : Int) := by
    have := of_l0 [x] (by simp) 1 100 0 0 rfl (by omega)
    rw [List.drop_zero] at this
    rw [← h1]; exact this
  have e2 : priv_Of.f 100 [x, x] = some (o : Int) := by
    have := of_l0 [x, x] (by simp) 2 100 0 0 rfl (by omega)
    rw [List.drop_zero] at this
    rw [← h2]; exact this
  obtain ⟨L, hL⟩ : ∃ L, priv_List.f 100 (o : Int) = some L := ⟨_, list_l0 o (by omega) 32 100 0 [] rfl (by simp) (by omega)⟩
  have hr : priv_Right.f (o : Int) = some true := by
    unfold priv_Right.f; congr 1; rw [beq_iff_eq]; omega
  unfold confidantlaw4_PrivAll.f
  simp only [hk, e1, e2, hL, hr, has_eq, hasB_or, hasB_zero, Option.bind_some, if_true]
  have c1 : x ≥ 0 → ((decide (x < 16)) == ((o : Int) != 0)) = true := by
    intro h0
    by_cases h16 : x < 16
    · have : o ≠ 0 := hx.1 ⟨h0, h16⟩
      have : ((o : Int) != 0) = true := by rw [bne_iff_ne]; omega
      rw [this]; simp [h16]
    · have : ¬ o ≠ 0 := fun h => h16 (hx.2 h).2
      have : ((o : Int) != 0) = false := by rw [bne_eq_false_iff_eq]; omega
      rw [this]; simp [h16]
  have c2 : ¬ x ≥ 0 → (false == ((o : Int) != 0)) = true := by
    intro h0
    have : ¬ o ≠ 0 := fun h => h0 (hx.2 h).1
    have : ((o : Int) != 0) = false := by rw [bne_eq_false_iff_eq]; omega
    rw [this]; rfl
  have hm := hasB_more p m a
  generalize hasB p a = A at *
  generalize hasB p b = B at *
  generalize hasB (Go.bits .or .u32 p m) a = C at *
  by_cases h0 : x ≥ 0
  · have c := c1 h0
    clear c1 c2
    cases A
    · cases B <;> simp [h0, c]
    · have hm' := hm rfl
      subst hm'
      cases B <;> simp [h0, c]
  · have c := c2 h0
    clear c1 c2
    cases A
    · cases B <;> simp [h0, c]
    · have hm' := hm rfl
      subst hm'
      cases B <;> simp [h0, c]

end Go.Proofs.Ytpeeneaapmmciaa.Pure
