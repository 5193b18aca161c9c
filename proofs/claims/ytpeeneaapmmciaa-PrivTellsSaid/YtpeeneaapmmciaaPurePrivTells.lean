/- The pure side of PrivTells: the printed functions of chapter 4 and of its reference give the same answers, for every number and every list. Conditions: none beside the statement's own. -/
import Derived.Test.YtpeeneaapmmciaaVPrivTells
namespace Go.Proofs.Ytpeeneaapmmciaa.Pure
open Go.RowKit Go.Proofs.Ytpeeneaapmmciaa.PPrivTells Go.Proofs.YtpeeneaapmmciaaW.PrintWords Go.Proofs.YtpeeneaapmmciaaW.PrintLast Go.Proofs.YtpeeneaapmmciaaW.PrintMore

theorem wrap_small (i : Int) (h0 : 0 ≤ i) (h : i < 4294967296) : wrap64 (i + 1) = i + 1 := by unfold wrap64; omega

theorem u32_wrap_nat (n : Nat) (h : n < 4294967296) : IntKind.u32.wrap (n : Int) = n := by rw [IntKind.wrap_u32]; omega

theorem u32_bits (a b : Nat) (ha : a < 2 ^ 32) (hb : b < 2 ^ 32) :
    Go.bits .and .u32 a b = ((a &&& b : Nat) : Int) ∧ Go.bits .or .u32 a b = ((a ||| b : Nat) : Int) :=
  bits_nat .u32 32 (by decide) (fun n h0 h1 => by rw [IntKind.wrap_u32]; omega) a b ha hb

/-- The bit that List asks for. -/
theorem bit_ask (p i : Nat) (hp : p < 2 ^ 32) (hi : i < 32) :
    (Go.bits .and .u32 (shr .u32 (p : Int) (i : Int)) 1 = 1) ↔ p.testBit i = true := by
  have e1 : shr .u32 (p : Int) (i : Int) = ((p / 2 ^ i : Nat) : Int) := by
    unfold shr
    have : min (Int.toNat (i : Int)) (IntKind.u32.bits) = i := by simp [IntKind.bits]; omega
    rw [this]; simp
  have hq : p / 2 ^ i < 2 ^ 32 := Nat.lt_of_le_of_lt (Nat.div_le_self _ _) hp
  rw [e1, show (1 : Int) = ((1 : Nat) : Int) from rfl, (u32_bits _ 1 hq (by decide)).1]
  rw [Nat.and_one_is_mod, Nat.testBit_eq_decide_div_mod_eq, decide_eq_true_iff]
  omega

theorem shl_one (n : Nat) (h : n < 16) : shl .u32 1 (n : Int) = ((2 ^ n : Nat) : Int) := by
  unfold shl
  have : min (Int.toNat (n : Int)) (IntKind.u32.bits) = n := by simp [IntKind.bits]; omega
  rw [this, Int.one_mul]
  have h2 : (2 : Nat) ^ n < 4294967296 := Nat.lt_of_lt_of_le (Nat.pow_lt_pow_right (by decide) h) (by decide)
  have := u32_wrap_nat (2 ^ n) h2
  simpa using this

/-! ### List -/
def listF (p : Nat) (i : Nat) : Nat → List Int → List Int
  | 0, acc => acc
  | d + 1, acc => listF p (i + 1) d (if p.testBit i then acc ++ [(i : Int)] else acc)

theorem list_l0 (p : Nat) (hp : p < 2 ^ 32) (d : Nat) : ∀ (k i : Nat) (acc : List Int), i + d = 32 → acc.length ≤ i → d < k →
    priv_List.l0 k p acc i = some (listF p i d acc) := by
  induction d with
  | zero =>
    intro k i acc hi ha hk
    obtain ⟨k, rfl⟩ : ∃ m, k = m + 1 := ⟨k - 1, by omega⟩
    simp only [priv_List.l0]; rw [if_neg (by omega)]; rfl
  | succ d ih =>
    intro k i acc hi ha hk
    obtain ⟨k, rfl⟩ : ∃ m, k = m + 1 := ⟨k - 1, by omega⟩
    simp only [priv_List.l0]
    rw [if_pos (by omega), if_pos (by omega), wrap_small _ (by omega) (by omega)]
    have e : ((i : Int) + 1) = ((i + 1 : Nat) : Int) := by simp
    by_cases hb : p.testBit i = true
    · rw [if_pos ((bit_ask p i hp (by omega)).2 hb), if_pos (by omega), e, ih k (i + 1) _ (by omega) (by simp; omega) (by omega)]
      simp [listF, hb]
    · rw [if_neg (fun h => hb ((bit_ask p i hp (by omega)).1 h)), e, ih k (i + 1) _ (by omega) (by omega) (by omega)]
      simp [listF, hb]

theorem list_same (k : Nat) : ∀ (x : Int) (acc : List Int) (i : Int), confidantref2_List.l0 k x acc i = priv_List.l0 k x acc i := by
  induction k with
  | zero => intro x acc i; rfl
  | succ k ih => intro x acc i; simp only [confidantref2_List.l0, priv_List.l0, ih]

/-! ### Of -/
def orStep (a : Int) (n : Int) : Int := if 0 ≤ n ∧ n < 16 then Go.bits .or .u32 a (shl .u32 1 n) else a

theorem of_l0 (l : List Int) (hl : l.length < 4294967296) (d : Nat) : ∀ (k i : Nat) (acc : Int), i + d = l.length → d < k →
    priv_Of.l0 k acc l (l.length : Int) i = some ((l.drop i).foldl orStep acc) := by
  induction d with
  | zero =>
    intro k i acc hi hk
    obtain ⟨k, rfl⟩ : ∃ m, k = m + 1 := ⟨k - 1, by omega⟩
    simp only [priv_Of.l0]; rw [if_neg (by omega), List.drop_of_length_le (by omega)]; rfl
  | succ d ih =>
    intro k i acc hi hk
    obtain ⟨k, rfl⟩ : ∃ m, k = m + 1 := ⟨k - 1, by omega⟩
    have hlt : i < l.length := by omega
    have hr : rd l (i : Int) = l[i] := by unfold rd; simp [hlt]
    have hd : l.drop i = l[i] :: l.drop (i + 1) := List.drop_eq_getElem_cons hlt
    simp only [priv_Of.l0]
    rw [if_pos (by omega), if_pos (by omega), if_pos (by omega), wrap_small _ (by omega) (by omega), hr, hd, List.foldl_cons]
    have e : ((i : Int) + 1) = ((i + 1 : Nat) : Int) := by simp
    rw [e]
    by_cases h0 : l[i] ≥ 0
    · by_cases h1 : l[i] < 16
      · rw [if_pos h0, if_pos h1, if_pos h0, ih k (i + 1) _ (by omega) (by omega)]
        simp [orStep, h1, show (0 : Int) ≤ l[i] from h0]
      · rw [if_pos h0, if_neg h1, ih k (i + 1) _ (by omega) (by omega)]
        simp [orStep, h1]
    · rw [if_neg h0, ih k (i + 1) _ (by omega) (by omega)]
      simp [orStep, show ¬ (0 : Int) ≤ l[i] from h0]

theorem of_same (k : Nat) : ∀ (l : List Int) (acc i : Int), confidantref2_PrivsOf.l0 k l acc i = priv_Of.l0 k acc l (l.length : Int) i := by
  induction k with
  | zero => intro l acc i; rfl
  | succ k ih =>
    intro l acc i
    simp only [confidantref2_PrivsOf.l0, priv_Of.l0, ih]
    by_cases h : i < (l.length : Int)
    · by_cases h0 : 0 ≤ i <;> simp [h, h0]
    · simp [h]

/-- The fold over a list of numbers, as a number's bits. -/
theorem fold_bits (l : List Int) : ∀ (a : Nat), a < 2 ^ 32 → ∃ b : Nat, b < 2 ^ 32 ∧ l.foldl orStep (a : Int) = (b : Int) ∧
    ∀ i, b.testBit i = (a.testBit i || decide (i < 16 ∧ (i : Int) ∈ l)) := by
  induction l with
  | nil => intro a ha; exact ⟨a, ha, rfl, fun i => by simp⟩
  | cons x l ih =>
    intro a ha
    rw [List.foldl_cons]
    by_cases hx : 0 ≤ x ∧ x < 16
    · obtain ⟨n, rfl⟩ := Int.eq_ofNat_of_zero_le hx.1
      have hn : n < 16 := by omega
      have h2 : (2 : Nat) ^ n < 2 ^ 32 := Nat.pow_lt_pow_right (by decide) (by omega)
      have e : orStep (a : Int) (n : Int) = ((a ||| 2 ^ n : Nat) : Int) := by
        unfold orStep; rw [if_pos hx, shl_one n hn, (u32_bits a (2 ^ n) ha h2).2]
      obtain ⟨b, hb, h, t⟩ := ih (a ||| 2 ^ n) (Nat.or_lt_two_pow ha h2)
      refine ⟨b, hb, by rw [e]; exact h, fun i => ?_⟩
      rw [t i, Nat.testBit_or, Nat.testBit_two_pow]
      by_cases hi : n = i
      · subst hi; simp [hn]
      · have : ¬ ((i : Int) = (n : Int)) := by omega
        simp [hi, this]
    · obtain ⟨b, hb, h, t⟩ := ih a ha
      have e : orStep (a : Int) x = a := by unfold orStep; rw [if_neg hx]
      refine ⟨b, hb, by rw [e]; exact h, fun i => ?_⟩
      rw [t i]
      by_cases hi : (i : Int) = x
      · have : ¬ i < 16 := by omega
        simp [this]
      · simp [hi]

theorem listF_mem (p : Nat) (d : Nat) : ∀ (i : Nat) (acc : List Int) (j : Nat), ((j : Int) ∈ listF p i d acc) ↔ ((j : Int) ∈ acc ∨ (i ≤ j ∧ j < i + d ∧ p.testBit j = true)) := by
  induction d with
  | zero => intro i acc j; simp only [listF]; constructor
            · exact fun h => .inl h
            · rintro (h | ⟨h1, h2, _⟩)
              · exact h
              · omega
  | succ d ih =>
    intro i acc j
    simp only [listF]
    rw [ih]
    by_cases hb : p.testBit i = true
    · rw [if_pos hb]
      constructor
      · rintro (h | ⟨h1, h2, h3⟩)
        · rcases List.mem_append.1 h with h | h
          · exact .inl h
          · have : j = i := by have := List.mem_singleton.1 h; omega
            subst this; exact .inr ⟨by omega, by omega, hb⟩
        · exact .inr ⟨by omega, by omega, h3⟩
      · rintro (h | ⟨h1, h2, h3⟩)
        · exact .inl (List.mem_append_left _ h)
        · by_cases e : j = i
          · subst e; exact .inl (List.mem_append_right _ (List.mem_singleton.2 rfl))
          · exact .inr ⟨by omega, by omega, h3⟩
    · rw [if_neg hb]
      constructor
      · rintro (h | ⟨h1, h2, h3⟩)
        · exact .inl h
        · exact .inr ⟨by omega, by omega, h3⟩
      · rintro (h | ⟨h1, h2, h3⟩)
        · exact .inl h
        · by_cases e : j = i
          · subst e; exact absurd h3 hb
          · exact .inr ⟨by omega, by omega, h3⟩

theorem listF_length (p : Nat) (d : Nat) : ∀ (i : Nat) (acc : List Int), (listF p i d acc).length ≤ acc.length + d := by
  induction d with
  | zero => intro i acc; simp [listF]
  | succ d ih =>
    intro i acc
    simp only [listF]
    by_cases hb : p.testBit i = true
    · rw [if_pos hb]; have := ih (i + 1) (acc ++ [(i : Int)]); simp at this; omega
    · rw [if_neg hb]; have := ih (i + 1) acc; omega

/-- Of what List tells: the bits below 16. -/
theorem of_list (p : Nat) (hp : p < 2 ^ 32) : (listF p 0 32 []).foldl orStep 0 = Go.bits .and .u32 (p : Int) 65535 := by
  obtain ⟨b, hb, h, t⟩ := fold_bits (listF p 0 32 []) 0 (by decide)
  have h' : (listF p 0 32 []).foldl orStep 0 = (b : Int) := h
  rw [h', show (65535 : Int) = ((65535 : Nat) : Int) from rfl, (u32_bits p 65535 hp (by decide)).1]
  congr 1
  apply Nat.eq_of_testBit_eq
  intro i
  rw [t i, Nat.testBit_and]
  have hm : (65535 : Nat).testBit i = decide (i < 16) := by
    rw [show (65535 : Nat) = 2 ^ 16 - 1 from rfl, Nat.testBit_two_pow_sub_one]
  rw [hm]
  have hmem := listF_mem p 32 0 [] i
  by_cases hi : i < 16
  · by_cases hpi : p.testBit i = true
    · have : (i : Int) ∈ listF p 0 32 [] := hmem.2 (.inr ⟨by omega, by omega, hpi⟩)
      simp [hi, hpi, this]
    · have : ¬ (i : Int) ∈ listF p 0 32 [] := fun h => by
        rcases hmem.1 h with h | ⟨_, _, h⟩
        · cases h
        · exact hpi h
      simp [hi, hpi, this]
  · simp [hi]

/-! ### Ints -/
theorem ints_same (l : List Int) (hl : l.length < 4294967296) (d : Nat) : ∀ (k i : Nat), i + d = l.length → d < k → confidanthelp_Ints.l0 k l l i = some true := by
  induction d with
  | zero =>
    intro k i hi hk
    obtain ⟨k, rfl⟩ : ∃ m, k = m + 1 := ⟨k - 1, by omega⟩
    simp only [confidanthelp_Ints.l0]; rw [if_neg (by omega)]
  | succ d ih =>
    intro k i hi hk
    obtain ⟨k, rfl⟩ : ∃ m, k = m + 1 := ⟨k - 1, by omega⟩
    simp only [confidanthelp_Ints.l0]
    rw [if_pos (by omega), if_pos (by omega), if_pos (by omega), if_pos trivial, wrap_small _ (by omega) (by omega), show ((i : Int) + 1) = ((i + 1 : Nat) : Int) from by simp]
    exact ih k (i + 1) (by omega) (by omega)

/-! ### Has -/
theorem has_bv (a b : BitVec 32) : (b &&& ~~~a = 0#32) ↔ (a &&& b = b) := by
  constructor
  · intro h
    ext i hi
    have := congrArg (fun v => v.getLsbD i) h
    simp [hi] at this ⊢
    exact this
  · intro h
    ext i hi
    have := congrArg (fun v => v.getLsbD i) h
    simp [hi] at this ⊢
    exact this

theorem u32_toNat (v : BitVec 32) : IntKind.u32.wrap (v.toNat : Int) = v.toNat := u32_wrap_nat _ v.isLt

theorem wf_u32 {a : Int} (h : (Lit.int .u32 a).wf = true) : 0 ≤ a ∧ a < 4294967296 := by
  have h1 : IntKind.u32.min = 0 := rfl
  have h2 : IntKind.u32.max = 4294967295 := rfl
  simp [Lit.wf] at h; omega

theorem has_same (p need : Int) (hn : (Lit.int .u32 need).wf = true) : priv_Has.f p need = confidantref2_Has.f p need := by
  obtain ⟨h0, h1⟩ := wf_u32 hn
  obtain ⟨n, rfl⟩ := Int.eq_ofNat_of_zero_le h0
  unfold priv_Has.f confidantref2_Has.f
  congr 1
  have en : (BitVec.ofInt 32 (n : Int)).toNat = n := by simp [BitVec.ofInt_natCast]; omega
  have k1 : Go.bits .andNot .u32 (n : Int) p = (((BitVec.ofInt 32 (n : Int)) &&& ~~~(BitVec.ofInt 32 p)).toNat : Int) := u32_toNat _
  have k2 : Go.bits .and .u32 p (n : Int) = (((BitVec.ofInt 32 p) &&& (BitVec.ofInt 32 (n : Int))).toNat : Int) := u32_toNat _
  rw [k1, k2, Bool.eq_iff_iff, beq_iff_eq, beq_iff_eq]
  have hb := has_bv (BitVec.ofInt 32 p) (BitVec.ofInt 32 (n : Int))
  constructor
  · intro h
    have h' : (BitVec.ofInt 32 (n : Int)) &&& ~~~(BitVec.ofInt 32 p) = 0#32 := by apply BitVec.eq_of_toNat_eq; simpa using h
    rw [hb.1 h', en]
  · intro h
    have h' : (BitVec.ofInt 32 p) &&& (BitVec.ofInt 32 (n : Int)) = BitVec.ofInt 32 (n : Int) := by apply BitVec.eq_of_toNat_eq; rw [en]; omega
    rw [hb.2 h']; rfl

theorem has_and (p need : Int) : priv_Has.f p (Go.bits .and .u32 need p) = some true := by
  unfold priv_Has.f
  congr 1
  rw [beq_iff_eq]
  have k2 : Go.bits .and .u32 need p = (((BitVec.ofInt 32 need) &&& (BitVec.ofInt 32 p)).toNat : Int) := u32_toNat _
  rw [k2]
  have k1 : ∀ x : Int, Go.bits .andNot .u32 x p = (((BitVec.ofInt 32 x) &&& ~~~(BitVec.ofInt 32 p)).toNat : Int) := fun x => u32_toNat _
  rw [k1]
  have e : BitVec.ofInt 32 (((BitVec.ofInt 32 need) &&& (BitVec.ofInt 32 p)).toNat : Int) = (BitVec.ofInt 32 need) &&& (BitVec.ofInt 32 p) := by
    apply BitVec.eq_of_toNat_eq; simp only [BitVec.ofInt_natCast, BitVec.toNat_ofNat]; exact Nat.mod_eq_of_lt (BitVec.isLt _)
  rw [e]
  have z : ((BitVec.ofInt 32 need) &&& (BitVec.ofInt 32 p)) &&& ~~~(BitVec.ofInt 32 p) = 0#32 := by
    ext i hi; simp
  rw [z]; rfl

theorem known_true : confidantlaw4_known.f 40 = some true := by decide +kernel

theorem right_same (p : Int) (hp : (Lit.int .u32 p).wf = true) : priv_Right.f p = confidantref2_Privs.f p := by
  obtain ⟨h0, h1⟩ := wf_u32 hp
  unfold priv_Right.f confidantref2_Privs.f
  congr 1
  rw [Bool.eq_iff_iff, beq_iff_eq, decide_eq_true_iff]
  omega

/-- Behind the loop that makes the second list. -/
theorem tells_loop (p need : Int) (l : List Int) (hp : (Lit.int .u32 p).wf = true) (hn : (Lit.int .u32 need).wf = true) (hl : l.length ≤ 30) (d : Nat) :
    ∀ (k i : Nat) (m : List Int), i + d = l.length → m.length ≤ i → d + 45 < k → confidantlaw4_PrivTells.l0 k p need l m i = some true := by
  induction d with
  | zero =>
    intro k i m hi hm hk
    obtain ⟨k, rfl⟩ : ∃ q, k = q + 1 := ⟨k - 1, by omega⟩
    obtain ⟨h0, h1⟩ := wf_u32 hp
    obtain ⟨n, rfl⟩ := Int.eq_ofNat_of_zero_le h0
    have hnat : n < 2 ^ 32 := by omega
    simp only [confidantlaw4_PrivTells.l0]
    rw [if_neg (by omega)]
    have hlist : priv_List.f k (n : Int) = some (listF n 0 32 []) := list_l0 n hnat 32 k 0 [] rfl (by simp) (by omega)
    have hlist' : confidantref2_List.f k (n : Int) = some (listF n 0 32 []) := by rw [← hlist]; exact list_same k _ _ _
    have hlen := listF_length n 32 0 []
    simp at hlen
    have hof : ∀ x : List Int, x.length ≤ 40 → priv_Of.f k x = some (x.foldl orStep 0) ∧ confidantref2_PrivsOf.f k x = some (x.foldl orStep 0) := fun x hx => by
      have e : priv_Of.f k x = some (x.foldl orStep 0) := by
        have := of_l0 x (by omega) x.length k 0 0 (by omega) (by omega)
        rw [List.drop_zero] at this
        exact this
      exact ⟨e, by rw [← e]; exact of_same k _ _ _⟩
    have hints : confidanthelp_Ints.f k (listF n 0 32 []) (listF n 0 32 []) = some true := by
      unfold confidanthelp_Ints.f
      rw [if_pos rfl]
      exact ints_same _ (by omega) (listF n 0 32 []).length k 0 (by omega) (by omega)
    rw [right_same _ hp, has_same _ _ hn, has_and, hlist, hlist', (hof l (by omega)).1, (hof l (by omega)).2, (hof m (by omega)).1, (hof m (by omega)).2]
    obtain ⟨t1, e1⟩ : ∃ t, confidantref2_Privs.f (n : Int) = some t := ⟨_, rfl⟩
    obtain ⟨t2, e2⟩ : ∃ t, confidantref2_Has.f (n : Int) need = some t := ⟨_, rfl⟩
    rw [e1, e2]
    simp only [Option.bind_some, beq_self_eq_true, if_true, hints, (hof _ (by omega : (listF n 0 32 []).length ≤ 40)).1]
    rw [of_list n hnat]
    simp
  | succ d ih =>
    intro k i m hi hm hk
    obtain ⟨k, rfl⟩ : ∃ q, k = q + 1 := ⟨k - 1, by omega⟩
    simp only [confidantlaw4_PrivTells.l0]
    rw [if_pos (by omega), if_pos (by omega), if_pos (by omega), wrap_small _ (by omega) (by omega), show ((i : Int) + 1) = ((i + 1 : Nat) : Int) from by simp]
    exact ih k (i + 1) _ (by omega) (by simp; omega) (by omega)

theorem PrivTells : confidantlaw4_PrivTells.Pure := by
  intro p need l hp hn _ _ _
  refine ⟨100, ?_⟩
  unfold confidantlaw4_PrivTells.f
  have hk : confidantlaw4_known.f 100 = some true := by decide +kernel
  rw [hk]
  simp only [Option.bind_some, if_true]
  by_cases h : (l.length : Int) > 30
  · rw [if_pos h]
  · rw [if_neg h]
    exact tells_loop p need l hp hn (by omega) l.length 100 0 [] (by omega) (by simp) (by omega)

end Go.Proofs.Ytpeeneaapmmciaa.Pure
