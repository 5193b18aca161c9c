/- Contracts of functions of the program, proved in a small separation logic. Conditions: those that each theorem states. -/
import Derived.Test.YtcgjmlapmdbnmaaQueue6
namespace Go.Proofs.Ytcgjmlapmdbnmaa
open Go Go.Sl
set_option maxHeartbeats 4000000
set_option maxRecDepth 100000
set_option linter.unusedVariables false
abbrev tI (i pc : Int) : S_api_Task := ⟨i, 0, pc, .slice none 0 0, 0, 0, 0, 0, 0, 0, 0, 0⟩
abbrev aI (i pc : Int) : AT := ⟨i, 0, pc, [], 0, 0, 0, 0, 0, 0, 0, 0⟩
theorem tkFreeI (i pc : Int) (h : -1099511627776 ≤ pc ∧ pc ≤ 1099511627776) : Free (tkC (tI i pc) (aI i pc)) :=
  ⟨fun B => (went_one B).trans (went.trans (show went (stars [B]) (star (tkC _ _) (stars [B])) from ents.tk0 (H := [B]) (L := [B]) rfl ⟨by simp, h⟩ rfl rfl (ents.refl _)) (went.star (went.refl _) (went_one' B)))⟩
-- FN confidant/confidantlaw19.known
theorem law19_known : Sp Try.prog 32 [] [] (fun _ : Unit => True) (fun _ => .bool true) (fun _ => []) := by
  have f1 := tkFreeI 1 0 (by omega)
  have f9 := tkFreeI 9 0 (by omega)
  have f4 := tkFreeI 4 0 (by omega)
  refine Sp.intro (n := 57) Try.func32 rfl rfl fun w0 R => ?_
  dsimp only [List.cons_append, List.nil_append, envOf]
  refine go ?_
  with_reducible refine Ol.g ?_
  refine Ol.eff rfl rfl rfl (Eff.call (R := ?_) queue_New rfl ?_ ?_)
  rotate_left
  · exact tkl_
  rintro p -
  dsimp only [List.cons_append, List.nil_append]
  refine Ol.conv (H' := queueS p [] 0 :: R) (queueS_nil (by exact ent_)) ?_
  refine go ?_
  with_reducible refine Ol.g ?_
  refine Ol.eff rfl rfl rfl (Eff.call (R := ?_) (queue_Push p [] 0 3 (tI 1 0) (aI 1 0) (by omega) (by simp)) rfl ?_ ?_)
  rotate_left
  · exact tkl_
  rintro _ -
  dsimp only [List.cons_append, List.nil_append]
  rw [show insQ ⟨3, aI 1 0, 0⟩ [] = [⟨3, aI 1 0, 0⟩] from rfl, show (0 : Int) + 1 = 1 from rfl]
  refine go ?_
  with_reducible refine Ol.g ?_
  refine Ol.eff rfl rfl rfl (Eff.call (R := ?_) (queue_Push p [⟨3, aI 1 0, 0⟩] 1 2 (tI 9 0) (aI 9 0) (by omega) (by simp)) rfl ?_ ?_)
  rotate_left
  · exact tkl_
  rintro _ -
  dsimp only [List.cons_append, List.nil_append]
  rw [show insQ ⟨2, aI 9 0, 1⟩ [⟨3, aI 1 0, 0⟩] = [⟨2, aI 9 0, 1⟩, ⟨3, aI 1 0, 0⟩] from by decide +kernel, show (1 : Int) + 1 = 2 from rfl]
  refine go ?_
  with_reducible refine Ol.g ?_
  refine Ol.eff rfl rfl rfl (Eff.call (R := ?_) (queue_Push p [⟨2, aI 9 0, 1⟩, ⟨3, aI 1 0, 0⟩] 2 2 (tI 4 0) (aI 4 0) (by omega) (by simp)) rfl ?_ ?_)
  rotate_left
  · exact tkl_
  rintro _ -
  dsimp only [List.cons_append, List.nil_append]
  rw [show insQ ⟨2, aI 4 0, 2⟩ [⟨2, aI 9 0, 1⟩, ⟨3, aI 1 0, 0⟩] = [⟨2, aI 4 0, 2⟩, ⟨2, aI 9 0, 1⟩, ⟨3, aI 1 0, 0⟩] from by decide +kernel, show (2 : Int) + 1 = 3 from rfl]
  refine go ?_
  with_reducible refine Ol.g ?_
  refine Ol.eff rfl rfl rfl (Eff.call (R := ?_) (queue_AllW p [⟨2, aI 4 0, 2⟩, ⟨2, aI 9 0, 1⟩, ⟨3, aI 1 0, 0⟩] 3 (by simp)) rfl ?_ ?_)
  rotate_left
  · exact tkl_
  rintro ⟨va, es⟩ hes
  dsimp only [List.cons_append, List.nil_append] at hes ⊢
  have hes3 : es.length = 3 := hes
  refine go ?_
  with_reducible refine Ol.g ?_
  refine Ol.eff rfl rfl rfl (Eff.call (R := ?_) (queue_Pop p [⟨2, aI 4 0, 2⟩, ⟨2, aI 9 0, 1⟩, ⟨3, aI 1 0, 0⟩] 3) rfl ?_ ?_)
  rotate_left
  · exact tkl_
  rintro u -
  dsimp only [List.cons_append, List.nil_append, List.tail_cons]
  rw [decide_eq_true (show ([⟨2, aI 4 0, 2⟩, ⟨2, aI 9 0, 1⟩, ⟨3, aI 1 0, 0⟩] : List QI) ≠ [] by simp), show popA [⟨2, aI 4 0, 2⟩, ⟨2, aI 9 0, 1⟩, ⟨3, aI 1 0, 0⟩] = ⟨2, aI 4 0, 2⟩ from rfl]
  first | (with_reducible refine Cd.g ?_; refine Cd.know (fun w_ hw_ => tkC_ok (Tk.sat (A := (tkC u (aI 4 0))) (by exact tk_) hw_)) fun hu => ?_) | (with_reducible refine Ol.g ?_; refine Ol.know (fun w_ hw_ => tkC_ok (Tk.sat (A := (tkC u (aI 4 0))) (by exact tk_) hw_)) fun hu => ?_) | (with_reducible refine Dn.g ?_; refine Dn.know (fun w_ hw_ => tkC_ok (Tk.sat (A := (tkC u (aI 4 0))) (by exact tk_) hw_)) fun hu => ?_)
  have eu : u.f_Id = 4 := congrArg AT.id hu.1
  refine go ?_;repeat((with_reducible refine Ol.g ?_);(first|refine Ol.eff rfl rfl rfl (Eff.alloc fun _=>?_)|refine Ol.eff rfl rfl rfl (Eff.box fun _=>?_)|refine Ol.eff0 rfl rfl (Eff.store rfl rfl ?_)|refine Ol.eff rfl rfl rfl (Eff.bslice rfl rfl fun _=>?_)|(refine Ol.eff0 rfl rfl (Eff.storeE rfl ?_ ?_);exact pre_)|(refine Ol.eff rfl rfl rfl (Eff.append1 rfl ?_ fun _=>?_);exact pre_));refine go ?_)
  rw [hes3]
  refine go ?_
  rw [eu]
  refine go ?_
  first | (with_reducible refine Cd.g ?_; refine Cd.pk (A := (queueS p [⟨2, aI 9 0, 1⟩, ⟨3, aI 1 0, 0⟩] 3)) rfl (by exact tk_) fun arr ha => ?_) | (with_reducible refine Ol.g ?_; refine Ol.pk (A := (queueS p [⟨2, aI 9 0, 1⟩, ⟨3, aI 1 0, 0⟩] 3)) rfl (by exact tk_) fun arr ha => ?_) | (with_reducible refine Dn.g ?_; refine Dn.pk (A := (queueS p [⟨2, aI 9 0, 1⟩, ⟨3, aI 1 0, 0⟩] 3)) rfl (by exact tk_) fun arr ha => ?_)
  dsimp only [List.cons_append, List.nil_append]
  have hal : arr.length = 2 := ha.perm.length_eq
  with_reducible refine Ol.g ?_
  refine Ol.eff rfl rfl rfl (Eff.call (R := ?_) (queue_Len p arr 3) rfl ?_ ?_)
  rotate_left
  · exact tkl_
  rintro _ -
  dsimp only [List.cons_append, List.nil_append]
  rw [hal]
  refine go ?_
  with_reducible refine Ol.g ?_
  refine Ol.eff rfl rfl rfl (Eff.call (R := ?_) (queue_Less ⟨1, tI 0 0⟩ ⟨2, tI 0 0⟩ ⟨rfl⟩ ⟨rfl⟩) rfl ?_ ?_)
  rotate_left
  · exact tkl_
  rintro _ -
  dsimp only [List.cons_append, List.nil_append]
  rw [show lessE 1 0 2 0 = true from rfl]
  refine go ?_
  with_reducible refine Ol.g ?_
  refine Ol.eff rfl rfl rfl (Eff.call (R := ?_) (queue_Less ⟨0, tI 0 0⟩ ⟨0, tI 0 0⟩ ⟨rfl⟩ ⟨rfl⟩) rfl ?_ ?_)
  rotate_left
  · exact tkl_
  rintro _ -
  dsimp only [List.cons_append, List.nil_append]
  rw [show lessE 0 0 0 0 = false from rfl]
  refine go ?_
  refine Dn.ret1 rfl rfl fun w hs => ⟨(), rfl, trivial, hs.conv (by exact ent_)⟩
/-! the story of pushes -/
def pushK (e : Int → QI) : Nat → List QI
  | 0 => []
  | k + 1 => insQ (e k) (pushK e k)
theorem pushK_len (e : Int → QI) : ∀ k, (pushK e k).length = k
  | 0 => rfl
  | k + 1 => by
    have := (insQ_perm (e k) (pushK e k)).length_eq
    show (insQ (e k) (pushK e k)).length = _
    rw [this, List.length_cons, pushK_len e k]
theorem pushK_sorted (e : Int → QI) : ∀ k, sortedQ (pushK e k)
  | 0 => List.Pairwise.nil
  | k + 1 => insQ_sorted _ _ (pushK_sorted e k)
theorem sorted_two {l : List QI} (hs : sortedQ l) {j : Nat} (h : j + 1 < l.length) : nah (rd l ((j + 1 : Nat) : Int)) (rd l j) := by
  have := List.pairwise_iff_getElem.1 hs j (j + 1) (by omega) h (by omega)
  rw [rd_eq (by omega), rd_eq (by omega)]
  simpa using this
abbrev enL (e : S_queue_Entry) : List Value := [.int .i64 e.f_Round, .int .i32 e.f_Task.f_Id, .int .i64 e.f_Task.f_Func, .int .i64 e.f_Task.f_Pc, e.f_Task.f_Stack, .int .i32 e.f_Task.f_Vars0, .int .i32 e.f_Task.f_Vars1, .int .i32 e.f_Task.f_Vars2, .int .i32 e.f_Task.f_Vars3, .int .i64 e.f_Task.f_Label, .int .i64 e.f_Task.f_Clear, .int .u32 e.f_Task.f_Privs, .int .i64 e.f_Task.f_Worker]
structure QZ where
  k : Nat
  e : S_queue_Entry
abbrev eS (l : List S_confidantlaw19_Act) (i : Int) : QI := ⟨(rd l i).f_Round, aI (rd l i).f_Id 0, i⟩
-- FN confidant/confidantlaw19.QueueSorts
theorem law_QueueSorts (v : Value) (l : List S_confidantlaw19_Act) (hb : ∀ x, x ∈ l → (0 ≤ x.f_Round ∧ x.f_Round ≤ 255) ∧ 0 ≤ x.f_Id ∧ x.f_Id ≤ 255) :
    Sp Try.prog 9 [v] [rsl e_confidantlaw19_Act v l] (fun _ : Unit => True) (fun _ => .bool true) (fun _ => []) := by
  refine Sp.intro (n := 73) Try.func9 rfl rfl fun w0 R => ?_
  dsimp only [List.cons_append, List.nil_append, envOf]
  refine go ?_
  with_reducible refine Ol.g ?_
  refine Ol.eff rfl rfl rfl (Eff.call (R := ?_) law19_known rfl ?_ ?_)
  rotate_left
  · exact tkl_
  rintro _ -
  dsimp only [List.cons_append, List.nil_append]
  refine go ?_
  refine Cd.condP rfl (fun h => ?_) (fun h60 => ?_)
  · refine go ?_
    refine Dn.ret1 rfl rfl fun w hs => ⟨(), ?_, by trivial, by first | exact hs | (refine hs.conv ?_; exact ent_)⟩
    rfl
  refine go ?_
  with_reducible refine Ol.g ?_
  refine Ol.eff rfl rfl rfl (Eff.call (R := ?_) queue_New rfl ?_ ?_)
  rotate_left
  · exact tkl_
  rintro p -
  dsimp only [List.cons_append, List.nil_append]
  refine go ?_
  refine Cd.loop (fun k : Nat => k ≤ l.length) (fun k => l.length - k) (fun k => [(0, v), (3, .pointer (some ⟨p, 0, none⟩)), (4, .int .i64 k)]) (fun k => rsl e_confidantlaw19_Act v l :: queueS p (pushK (eS l) k) k :: R) 0 (by omega) ?_ ?_ ?_
  · repeat(first|exact Env.le_nil _|(refine Env.le_cons rfl ?_ ?_;first|rfl|(simp;done)|exact congrArg _ (by omega)|rotate_left))
  · exact ents.cons (by exact tk_) (queueS_nil (by exact ent_))
  intro k hk
  refine go ?_
  refine Cd.condP rfl (fun h => ?_) (fun h => ?_)
  · have hb2 := hb (rd l k) (rd_mem (by omega) (by omega))
    have fr := tkFreeI (rd l k).f_Id 0 (by omega)
    refine go ?_
    refine Cd.draw2 [[], [], [], [1, 2], [1, 2, 3], [1, 2, 3, 4], [1, 2, 3, 4, 5], [], [], [7, 8], [7, 8, 9], [7, 8, 9, 10], [7, 8, 9, 10, 11], [7, 8, 9, 10, 11, 12], [0, 1, 2, 3, 4, 5, 6, 7, 8, 9, 10, 11, 12, 13]] [14] [] (td := [(0, .fresh), (1, .fresh), (2, .fresh), (3, .fresh), (4, .fresh), (5, .fresh), (6, .fresh), (7, .fresh), (8, .fresh), (9, .fresh), (10, .fresh), (11, .fresh), (12, .fresh), (13, .fresh)]) mixed (by kernel_rfl) (by kernel_rfl) (by decide) (by decide) rfl (by kernel_rfl) ?_
    refine god2 ?_
    refine Sg2.one (td := []) rfl (by kernel_rfl) fun F14_ => ?_
    dsimp only [List.cons_append, List.nil_append]
    refine SpOp.eff rfl rfl rfl rfl rfl (Eff.call (R := ?_) (queue_Push p (pushK (eS l) k) k (rd l k).f_Round (tI (rd l k).f_Id 0) (aI (rd l k).f_Id 0) (by omega) (by rw [pushK_len]; omega)) rfl ?_ ?_)
    rotate_left
    · exact tkl_
    rintro _ -
    dsimp only [List.cons_append, List.nil_append]
    refine Sn.ok ?_
    refine god2 ?_
    refine go ?_
    refine Dn.round (k + 1) (by omega) (by omega) (by repeat(first|exact Env.le_nil _|(refine Env.le_cons rfl ?_ ?_;first|rfl|(simp;done)|exact congrArg _ (by omega)|rotate_left))) ?_
    rw [show pushK (eS l) (k + 1) = insQ ⟨(rd l k).f_Round, aI (rd l k).f_Id 0, k⟩ (pushK (eS l) k) from rfl, show ((k + 1 : Nat) : Int) = (k : Int) + 1 by omega]
    exact ent_
  have hkk : k = l.length := by omega
  subst hkk
  have hSl := pushK_len (eS l) l.length
  have hSs := pushK_sorted (eS l) l.length
  generalize pushK (eS l) l.length = S at hSl hSs ⊢
  refine go ?_;repeat((with_reducible refine Ol.g ?_);(first|refine Ol.eff rfl rfl rfl (Eff.alloc fun _=>?_)|refine Ol.eff rfl rfl rfl (Eff.box fun _=>?_)|refine Ol.eff0 rfl rfl (Eff.store rfl rfl ?_)|refine Ol.eff rfl rfl rfl (Eff.bslice rfl rfl fun _=>?_)|(refine Ol.eff0 rfl rfl (Eff.storeE rfl ?_ ?_);exact pre_)|(refine Ol.eff rfl rfl rfl (Eff.append1 rfl ?_ fun _=>?_);exact pre_));refine go ?_)
  rename_i c5
  refine Cd.loop (fun z : QZ => z.k ≤ l.length ∧ One z.e.f_Task.f_Stack ∧ (0 < z.k → z.e.f_Round = (rd S ((z.k : Int) - 1)).round ∧ z.e.f_Task.f_Id = (rd S ((z.k : Int) - 1)).task.id)) (fun z => l.length - z.k) (fun z => [(0, v), (3, .pointer (some ⟨p, 0, none⟩)), (5, .pointer (some ⟨c5, 0, none⟩)), (6, .int .i64 z.k)])
    (fun z => cel c5 79 (enL z.e) :: rsl e_confidantlaw19_Act v l :: queueS p (S.drop z.k) l.length :: R) ⟨0, ⟨0, tI 0 0⟩⟩ ⟨by simp, ⟨rfl⟩, fun h => absurd h (by simp)⟩ ?_ ?_ ?_
  · repeat(first|exact Env.le_nil _|(refine Env.le_cons rfl ?_ ?_;first|rfl|(simp;done)|exact congrArg _ (by omega)|rotate_left))
  · rw [List.drop_zero]
    exact ent_
  rintro ⟨j, le⟩ ⟨hj, o1, hle⟩
  dsimp only at hj o1 hle ⊢
  refine go ?_
  refine Cd.condP rfl (fun h => ?_) (fun h => ?_)
  · have hj2 : j < S.length := by omega
    have hdr : S.drop j = rd S j :: S.drop (j + 1) := by rw [rd_eq (by omega)]; simp
    rw [hdr]
    refine go ?_
    with_reducible refine Ol.g ?_
    refine Ol.eff rfl rfl rfl (Eff.call (R := ?_) (queue_Pop p (rd S j :: S.drop (j + 1)) l.length) rfl ?_ ?_)
    rotate_left
    · exact tkl_
    rintro u -
    dsimp only [List.cons_append, List.nil_append]
    rw [decide_eq_true (show (rd S j :: S.drop (j + 1)) ≠ [] by simp), show popA (rd S j :: S.drop (j + 1)) = rd S j from rfl, List.tail_cons]
    first | (with_reducible refine Cd.g ?_; refine Cd.know (fun w_ hw_ => tkC_ok (Tk.sat (A := (tkC u (rd S j).task)) (by exact tk_) hw_)) fun hu => ?_) | (with_reducible refine Ol.g ?_; refine Ol.know (fun w_ hw_ => tkC_ok (Tk.sat (A := (tkC u (rd S j).task)) (by exact tk_) hw_)) fun hu => ?_) | (with_reducible refine Dn.g ?_; refine Dn.know (fun w_ hw_ => tkC_ok (Tk.sat (A := (tkC u (rd S j).task)) (by exact tk_) hw_)) fun hu => ?_)
    first | (with_reducible refine Cd.g ?_; refine Cd.know (fun w_ hw_ => tkC_one (Tk.sat (A := (tkC u (rd S j).task)) (by exact tk_) hw_)) fun o2 => ?_) | (with_reducible refine Ol.g ?_; refine Ol.know (fun w_ hw_ => tkC_one (Tk.sat (A := (tkC u (rd S j).task)) (by exact tk_) hw_)) fun o2 => ?_) | (with_reducible refine Dn.g ?_; refine Dn.know (fun w_ hw_ => tkC_one (Tk.sat (A := (tkC u (rd S j).task)) (by exact tk_) hw_)) fun o2 => ?_)
    have eu : u.f_Id = (rd S j).task.id := congrArg AT.id hu.1
    refine go ?_;repeat((with_reducible refine Ol.g ?_);(first|refine Ol.eff rfl rfl rfl (Eff.alloc fun _=>?_)|refine Ol.eff rfl rfl rfl (Eff.box fun _=>?_)|refine Ol.eff0 rfl rfl (Eff.store rfl rfl ?_)|refine Ol.eff rfl rfl rfl (Eff.bslice rfl rfl fun _=>?_)|(refine Ol.eff0 rfl rfl (Eff.storeE rfl ?_ ?_);exact pre_)|(refine Ol.eff rfl rfl rfl (Eff.append1 rfl ?_ fun _=>?_);exact pre_));refine go ?_)
    rename_i c7
    have next : ∀ (KK : Exit → Act → World → Prop), True := fun _ => trivial
    rcases j with _ | j
    · rw [decide_eq_false (show ¬ ((0 : Nat) : Int) > 0 by omega)]
      refine go ?_;repeat((with_reducible refine Ol.g ?_);(first|refine Ol.eff rfl rfl rfl (Eff.alloc fun _=>?_)|refine Ol.eff rfl rfl rfl (Eff.box fun _=>?_)|refine Ol.eff0 rfl rfl (Eff.store rfl rfl ?_)|refine Ol.eff rfl rfl rfl (Eff.bslice rfl rfl fun _=>?_)|(refine Ol.eff0 rfl rfl (Eff.storeE rfl ?_ ?_);exact pre_)|(refine Ol.eff rfl rfl rfl (Eff.append1 rfl ?_ fun _=>?_);exact pre_));refine go ?_)
      refine Dn.round ⟨0 + 1, ⟨(rd S ((0 : Nat) : Int)).round, u⟩⟩ ⟨by dsimp only; omega, o2, fun _ => ⟨rfl, eu⟩⟩ (by dsimp only; omega) (by repeat(first|exact Env.le_nil _|(refine Env.le_cons rfl ?_ ?_;first|rfl|(simp;done)|exact congrArg _ (by omega)|rotate_left))) (by exact ent_)
    · have hnah := sorted_two hSs hj2
      have hle2 := hle (by omega)
      rw [show ((j + 1 : Nat) : Int) - 1 = (j : Int) by omega] at hle2
      rw [decide_eq_true (show ((j + 1 : Nat) : Int) > 0 by omega)]
      refine go ?_
      with_reducible refine Ol.g ?_
      refine Ol.eff rfl rfl rfl (Eff.call (R := ?_) (queue_Less ⟨(rd S ((j + 1 : Nat) : Int)).round, u⟩ le o2 o1) rfl ?_ ?_)
      rotate_left
      · exact tkl_
      rintro _ -
      dsimp only [List.cons_append, List.nil_append]
      rw [show lessE (rd S ((j + 1 : Nat) : Int)).round u.f_Id le.f_Round le.f_Task.f_Id = false from by
        unfold lessE
        rw [hle2.1, hle2.2, eu]
        rw [nah_iff] at hnah
        exact decide_eq_false (by omega)]
      refine go ?_;repeat((with_reducible refine Ol.g ?_);(first|refine Ol.eff rfl rfl rfl (Eff.alloc fun _=>?_)|refine Ol.eff rfl rfl rfl (Eff.box fun _=>?_)|refine Ol.eff0 rfl rfl (Eff.store rfl rfl ?_)|refine Ol.eff rfl rfl rfl (Eff.bslice rfl rfl fun _=>?_)|(refine Ol.eff0 rfl rfl (Eff.storeE rfl ?_ ?_);exact pre_)|(refine Ol.eff rfl rfl rfl (Eff.append1 rfl ?_ fun _=>?_);exact pre_));refine go ?_)
      refine Dn.round ⟨j + 1 + 1, ⟨(rd S ((j + 1 : Nat) : Int)).round, u⟩⟩ ⟨by dsimp only; omega, o2, fun _ => ?_⟩ (by dsimp only; omega) (by repeat(first|exact Env.le_nil _|(refine Env.le_cons rfl ?_ ?_;first|rfl|(simp;done)|exact congrArg _ (by omega)|rotate_left))) (by exact ent_)
      dsimp only
      rw [show ((j + 1 + 1 : Nat) : Int) - 1 = ((j + 1 : Nat) : Int) by omega]
      exact ⟨rfl, eu⟩
  · have hjj : j = S.length := by omega
    rw [hjj, List.drop_length]
    refine go ?_
    with_reducible refine Ol.g ?_
    refine Ol.eff rfl rfl rfl (Eff.call (R := ?_) (queue_Pop p [] l.length) rfl ?_ ?_)
    rotate_left
    · exact tkl_
    rintro u -
    dsimp only [List.cons_append, List.nil_append]
    rw [decide_eq_false (by simp), List.tail_nil]
    refine go ?_;repeat((with_reducible refine Ol.g ?_);(first|refine Ol.eff rfl rfl rfl (Eff.alloc fun _=>?_)|refine Ol.eff rfl rfl rfl (Eff.box fun _=>?_)|refine Ol.eff0 rfl rfl (Eff.store rfl rfl ?_)|refine Ol.eff rfl rfl rfl (Eff.bslice rfl rfl fun _=>?_)|(refine Ol.eff0 rfl rfl (Eff.storeE rfl ?_ ?_);exact pre_)|(refine Ol.eff rfl rfl rfl (Eff.append1 rfl ?_ fun _=>?_);exact pre_));refine go ?_)
    first | (with_reducible refine Cd.g ?_; refine Cd.pk (A := (queueS p [] l.length)) rfl (by exact tk_) fun arr ha => ?_) | (with_reducible refine Ol.g ?_; refine Ol.pk (A := (queueS p [] l.length)) rfl (by exact tk_) fun arr ha => ?_) | (with_reducible refine Dn.g ?_; refine Dn.pk (A := (queueS p [] l.length)) rfl (by exact tk_) fun arr ha => ?_)
    dsimp only [List.cons_append, List.nil_append]
    have hal : arr.length = 0 := ha.perm.length_eq
    with_reducible refine Ol.g ?_
    refine Ol.eff rfl rfl rfl (Eff.call (R := ?_) (queue_Len p arr l.length) rfl ?_ ?_)
    rotate_left
    · exact tkl_
    rintro _ -
    dsimp only [List.cons_append, List.nil_append]
    rw [hal]
    refine go ?_
    refine Dn.ret1 rfl rfl fun w hs => ⟨(), rfl, trivial, hs.conv (by exact ent_)⟩
end Go.Proofs.Ytcgjmlapmdbnmaa

