/- Contracts of functions of the program, proved in a small separation logic. Conditions: those that each theorem states. -/
import Derived.Test.YtcgjmlapmdbnmaaLawQueueSorts
namespace Go.Proofs.Ytcgjmlapmdbnmaa
open Go Go.Sl
set_option maxHeartbeats 4000000
set_option maxRecDepth 100000
set_option linter.unusedVariables false
abbrev eT (l : List Int) (i : Int) : QI := ⟨rd l i % 2, aI (rd l i / 2 % 2) i, i⟩
theorem pushK_mem {e : Int → QI} : ∀ {k : Nat} {y : QI}, y ∈ pushK e k → ∃ i : Int, 0 ≤ i ∧ i < k ∧ y = e i
  | 0, y, h => by cases h
  | k + 1, y, h => by
    have := (insQ_perm (e k) (pushK e k)).mem_iff.1 h
    rcases List.mem_cons.1 this with rfl | h
    · exact ⟨k, by omega, by omega, rfl⟩
    · obtain ⟨i, h0, h1, rfl⟩ := pushK_mem h
      exact ⟨i, h0, by omega, rfl⟩
-- FN confidant/confidantlaw19.QueueSteady
theorem law_QueueSteady (v : Value) (l : List Int) (hb : ∀ x, x ∈ l → 0 ≤ x ∧ x ≤ 255) :
    Sp Try.prog 10 [v] [rsl (eInt .u8) v l] (fun _ : Unit => True) (fun _ => .bool true) (fun _ => []) := by
  refine Sp.intro (n := 80) Try.func10 rfl rfl fun w0 R => ?_
  dsimp only [List.cons_append, List.nil_append, envOf]
  refine go ?_
  with_reducible refine Ol.g ?_
  refine Ol.eff rfl rfl rfl (Eff.call (R := ?_) law19_known rfl ?_ ?_)
  rotate_left
  · exact tkl_
  rintro _ -
  dsimp only [List.cons_append, List.nil_append]
  refine go ?_
  refine Cd.condP rfl (fun h => ?_) (fun h60 => ?_)
  · refine go ?_
    refine Dn.ret1 rfl rfl fun w hs => ⟨(), ?_, by trivial, by first | exact hs | (refine hs.conv ?_; exact ent_)⟩
    rfl
  refine go ?_
  with_reducible refine Ol.g ?_
  refine Ol.eff rfl rfl rfl (Eff.call (R := ?_) queue_New rfl ?_ ?_)
  rotate_left
  · exact tkl_
  rintro p -
  dsimp only [List.cons_append, List.nil_append]
  refine go ?_
  refine Cd.loop (fun k : Nat => k ≤ l.length) (fun k => l.length - k) (fun k => [(0, v), (3, .pointer (some ⟨p, 0, none⟩)), (4, .int .i64 k)]) (fun k => rsl (eInt .u8) v l :: queueS p (pushK (eT l) k) k :: R) 0 (by omega) ?_ ?_ ?_
  · repeat(first|exact Env.le_nil _|(refine Env.le_cons rfl ?_ ?_;first|rfl|(simp;done)|exact congrArg _ (by omega)|rotate_left))
  · exact ents.cons (by exact tk_) (queueS_nil (by exact ent_))
  intro k hk
  refine go ?_
  refine Cd.condP rfl (fun h => ?_) (fun h => ?_)
  · have hb2 := hb (rd l k) (rd_mem (by omega) (by omega))
    have fr := tkFreeI (rd l k / 2 % 2) k (by omega)
    refine go ?_
    refine Cd.draw2 [[], [], [], [1, 2], [1, 2, 3], [1, 2, 3, 4], [1, 2, 3, 4, 5], [], [], [7, 8], [7, 8, 9], [7, 8, 9, 10], [7, 8, 9, 10, 11], [7, 8, 9, 10, 11, 12], [], [7, 8, 9, 10, 11, 12, 13, 14], [0, 1, 2, 3, 4, 5, 6, 7, 8, 9, 10, 11, 12, 13, 14, 15]] [16] [] (td := [(0, .fresh), (1, .fresh), (2, .fresh), (3, .fresh), (4, .fresh), (5, .fresh), (6, .fresh), (7, .fresh), (8, .fresh), (9, .fresh), (10, .fresh), (11, .fresh), (12, .fresh), (13, .fresh), (14, .fresh), (15, .fresh)]) mixed (by kernel_rfl) (by kernel_rfl) (by decide) (by decide) rfl (by kernel_rfl) ?_
    refine god2 ?_
    refine Sg2.one (td := []) rfl (by kernel_rfl) fun F16_ => ?_
    dsimp only [List.cons_append, List.nil_append]
    refine SpOp.eff rfl rfl rfl rfl rfl (Eff.call (R := ?_) (queue_Push p (pushK (eT l) k) k (rd l k % 2) (tI (rd l k / 2 % 2) k) (aI (rd l k / 2 % 2) k) (by omega) (by rw [pushK_len]; omega)) rfl ?_ ?_)
    rotate_left
    · exact tkl_
    rintro _ -
    dsimp only [List.cons_append, List.nil_append]
    refine Sn.ok ?_
    refine god2 ?_
    refine go ?_
    refine Dn.round (k + 1) (by omega) (by omega) (by repeat(first|exact Env.le_nil _|(refine Env.le_cons rfl ?_ ?_;first|rfl|(simp;done)|exact congrArg _ (by omega)|rotate_left))) ?_
    rw [show pushK (eT l) (k + 1) = insQ ⟨rd l k % 2, aI (rd l k / 2 % 2) k, k⟩ (pushK (eT l) k) from rfl, show ((k + 1 : Nat) : Int) = (k : Int) + 1 by omega]
    exact ent_
  have hkk : k = l.length := by omega
  subst hkk
  have hSl := pushK_len (eT l) l.length
  have hSs := pushK_sorted (eT l) l.length
  have hSp : ∀ y, y ∈ pushK (eT l) l.length → y.seq = y.task.pc := fun y hy => by
    obtain ⟨i, _, _, rfl⟩ := pushK_mem hy; rfl
  generalize pushK (eT l) l.length = S at hSl hSs hSp ⊢
  refine go ?_;repeat((with_reducible refine Ol.g ?_);(first|refine Ol.eff rfl rfl rfl (Eff.alloc fun _=>?_)|refine Ol.eff rfl rfl rfl (Eff.box fun _=>?_)|refine Ol.eff0 rfl rfl (Eff.store rfl rfl ?_)|refine Ol.eff rfl rfl rfl (Eff.bslice rfl rfl fun _=>?_)|(refine Ol.eff0 rfl rfl (Eff.storeE rfl ?_ ?_);exact pre_)|(refine Ol.eff rfl rfl rfl (Eff.append1 rfl ?_ fun _=>?_);exact pre_));refine go ?_)
  rename_i c5
  refine Cd.loop (fun z : QZ => z.k ≤ l.length ∧ One z.e.f_Task.f_Stack ∧ (0 < z.k → z.e.f_Round = (rd S ((z.k : Int) - 1)).round ∧ z.e.f_Task.f_Id = (rd S ((z.k : Int) - 1)).task.id ∧ z.e.f_Task.f_Pc = (rd S ((z.k : Int) - 1)).task.pc)) (fun z => l.length - z.k) (fun z => [(0, v), (3, .pointer (some ⟨p, 0, none⟩)), (5, .pointer (some ⟨c5, 0, none⟩)), (6, .int .i64 z.k)])
    (fun z => cel c5 79 (enL z.e) :: rsl (eInt .u8) v l :: queueS p (S.drop z.k) l.length :: R) ⟨0, ⟨0, tI 0 0⟩⟩ ⟨by simp, ⟨rfl⟩, fun h => absurd h (by simp)⟩ ?_ ?_ ?_
  · repeat(first|exact Env.le_nil _|(refine Env.le_cons rfl ?_ ?_;first|rfl|(simp;done)|exact congrArg _ (by omega)|rotate_left))
  · rw [List.drop_zero]
    exact ent_
  rintro ⟨j, le⟩ ⟨hj, o1, hle⟩
  dsimp only at hj o1 hle ⊢
  refine go ?_
  refine Cd.condP rfl (fun h => ?_) (fun h => ?_)
  · have hj2 : j < S.length := by omega
    have hdr : S.drop j = rd S j :: S.drop (j + 1) := by rw [rd_eq (by omega)]; simp
    rw [hdr]
    refine go ?_
    with_reducible refine Ol.g ?_
    refine Ol.eff rfl rfl rfl (Eff.call (R := ?_) (queue_Pop p (rd S j :: S.drop (j + 1)) l.length) rfl ?_ ?_)
    rotate_left
    · exact tkl_
    rintro u -
    dsimp only [List.cons_append, List.nil_append]
    rw [decide_eq_true (show (rd S j :: S.drop (j + 1)) ≠ [] by simp), show popA (rd S j :: S.drop (j + 1)) = rd S j from rfl, List.tail_cons]
    first | (with_reducible refine Cd.g ?_; refine Cd.know (fun w_ hw_ => tkC_ok (Tk.sat (A := (tkC u (rd S j).task)) (by exact tk_) hw_)) fun hu => ?_) | (with_reducible refine Ol.g ?_; refine Ol.know (fun w_ hw_ => tkC_ok (Tk.sat (A := (tkC u (rd S j).task)) (by exact tk_) hw_)) fun hu => ?_) | (with_reducible refine Dn.g ?_; refine Dn.know (fun w_ hw_ => tkC_ok (Tk.sat (A := (tkC u (rd S j).task)) (by exact tk_) hw_)) fun hu => ?_)
    first | (with_reducible refine Cd.g ?_; refine Cd.know (fun w_ hw_ => tkC_one (Tk.sat (A := (tkC u (rd S j).task)) (by exact tk_) hw_)) fun o2 => ?_) | (with_reducible refine Ol.g ?_; refine Ol.know (fun w_ hw_ => tkC_one (Tk.sat (A := (tkC u (rd S j).task)) (by exact tk_) hw_)) fun o2 => ?_) | (with_reducible refine Dn.g ?_; refine Dn.know (fun w_ hw_ => tkC_one (Tk.sat (A := (tkC u (rd S j).task)) (by exact tk_) hw_)) fun o2 => ?_)
    have eu : u.f_Id = (rd S j).task.id := congrArg AT.id hu.1
    have ep : u.f_Pc = (rd S j).task.pc := congrArg AT.pc hu.1
    refine go ?_;repeat((with_reducible refine Ol.g ?_);(first|refine Ol.eff rfl rfl rfl (Eff.alloc fun _=>?_)|refine Ol.eff rfl rfl rfl (Eff.box fun _=>?_)|refine Ol.eff0 rfl rfl (Eff.store rfl rfl ?_)|refine Ol.eff rfl rfl rfl (Eff.bslice rfl rfl fun _=>?_)|(refine Ol.eff0 rfl rfl (Eff.storeE rfl ?_ ?_);exact pre_)|(refine Ol.eff rfl rfl rfl (Eff.append1 rfl ?_ fun _=>?_);exact pre_));refine go ?_)
    rename_i c7
    rcases j with _ | j
    · rw [decide_eq_false (show ¬ ((0 : Nat) : Int) > 0 by omega)]
      refine go ?_;repeat((with_reducible refine Ol.g ?_);(first|refine Ol.eff rfl rfl rfl (Eff.alloc fun _=>?_)|refine Ol.eff rfl rfl rfl (Eff.box fun _=>?_)|refine Ol.eff0 rfl rfl (Eff.store rfl rfl ?_)|refine Ol.eff rfl rfl rfl (Eff.bslice rfl rfl fun _=>?_)|(refine Ol.eff0 rfl rfl (Eff.storeE rfl ?_ ?_);exact pre_)|(refine Ol.eff rfl rfl rfl (Eff.append1 rfl ?_ fun _=>?_);exact pre_));refine go ?_)
      refine Dn.round ⟨0 + 1, ⟨(rd S ((0 : Nat) : Int)).round, u⟩⟩ ⟨by dsimp only; omega, o2, fun _ => ⟨rfl, eu, ep⟩⟩ (by dsimp only; omega) (by repeat(first|exact Env.le_nil _|(refine Env.le_cons rfl ?_ ?_;first|rfl|(simp;done)|exact congrArg _ (by omega)|rotate_left))) (by exact ent_)
    · have hnah := sorted_two hSs hj2
      have hle2 := hle (by omega)
      have q0 := hSp _ (rd_mem (xs := S) (i := (j : Int)) (by omega) (by omega))
      have q1 := hSp _ (rd_mem (xs := S) (i := ((j + 1 : Nat) : Int)) (by omega) (by omega))
      rw [show ((j + 1 : Nat) : Int) - 1 = (j : Int) by omega] at hle2
      rw [decide_eq_true (show ((j + 1 : Nat) : Int) > 0 by omega)]
      refine go ?_
      with_reducible refine Ol.g ?_
      refine Ol.eff rfl rfl rfl (Eff.call (R := ?_) (queue_Less le ⟨(rd S ((j + 1 : Nat) : Int)).round, u⟩ o1 o2) rfl ?_ ?_)
      rotate_left
      · exact tkl_
      rintro _ -
      dsimp only [List.cons_append, List.nil_append]
      have fin : ∀ (z : QZ), z = ⟨j + 1 + 1, ⟨(rd S ((j + 1 : Nat) : Int)).round, u⟩⟩ → z.k ≤ l.length ∧ One z.e.f_Task.f_Stack ∧ (0 < z.k → z.e.f_Round = (rd S ((z.k : Int) - 1)).round ∧ z.e.f_Task.f_Id = (rd S ((z.k : Int) - 1)).task.id ∧ z.e.f_Task.f_Pc = (rd S ((z.k : Int) - 1)).task.pc) := by
        rintro _ rfl
        refine ⟨by dsimp only; omega, o2, fun _ => ?_⟩
        dsimp only
        rw [show ((j + 1 + 1 : Nat) : Int) - 1 = ((j + 1 : Nat) : Int) by omega]
        exact ⟨rfl, eu, ep⟩
      cases hc : lessE le.f_Round le.f_Task.f_Id (rd S ((j + 1 : Nat) : Int)).round u.f_Id with
      | true =>
        refine go ?_;repeat((with_reducible refine Ol.g ?_);(first|refine Ol.eff rfl rfl rfl (Eff.alloc fun _=>?_)|refine Ol.eff rfl rfl rfl (Eff.box fun _=>?_)|refine Ol.eff0 rfl rfl (Eff.store rfl rfl ?_)|refine Ol.eff rfl rfl rfl (Eff.bslice rfl rfl fun _=>?_)|(refine Ol.eff0 rfl rfl (Eff.storeE rfl ?_ ?_);exact pre_)|(refine Ol.eff rfl rfl rfl (Eff.append1 rfl ?_ fun _=>?_);exact pre_));refine go ?_)
        refine Dn.round ⟨j + 1 + 1, ⟨(rd S ((j + 1 : Nat) : Int)).round, u⟩⟩ (fin _ rfl) (by dsimp only; omega) (by repeat(first|exact Env.le_nil _|(refine Env.le_cons rfl ?_ ?_;first|rfl|(simp;done)|exact congrArg _ (by omega)|rotate_left))) (by exact ent_)
      | false =>
        have hc2 := of_decide_eq_false hc
        rw [hle2.1, hle2.2.1, eu] at hc2
        rw [nah_iff] at hnah
        refine go ?_
        rw [decide_eq_false (show ¬ le.f_Task.f_Pc > u.f_Pc by rw [hle2.2.2, ep]; omega)]
        refine go ?_;repeat((with_reducible refine Ol.g ?_);(first|refine Ol.eff rfl rfl rfl (Eff.alloc fun _=>?_)|refine Ol.eff rfl rfl rfl (Eff.box fun _=>?_)|refine Ol.eff0 rfl rfl (Eff.store rfl rfl ?_)|refine Ol.eff rfl rfl rfl (Eff.bslice rfl rfl fun _=>?_)|(refine Ol.eff0 rfl rfl (Eff.storeE rfl ?_ ?_);exact pre_)|(refine Ol.eff rfl rfl rfl (Eff.append1 rfl ?_ fun _=>?_);exact pre_));refine go ?_)
        refine Dn.round ⟨j + 1 + 1, ⟨(rd S ((j + 1 : Nat) : Int)).round, u⟩⟩ (fin _ rfl) (by dsimp only; omega) (by repeat(first|exact Env.le_nil _|(refine Env.le_cons rfl ?_ ?_;first|rfl|(simp;done)|exact congrArg _ (by omega)|rotate_left))) (by exact ent_)
  · have hjj : j = S.length := by omega
    rw [hjj, List.drop_length]
    refine go ?_
    first | (with_reducible refine Cd.g ?_; refine Cd.pk (A := (queueS p [] l.length)) rfl (by exact tk_) fun arr ha => ?_) | (with_reducible refine Ol.g ?_; refine Ol.pk (A := (queueS p [] l.length)) rfl (by exact tk_) fun arr ha => ?_) | (with_reducible refine Dn.g ?_; refine Dn.pk (A := (queueS p [] l.length)) rfl (by exact tk_) fun arr ha => ?_)
    dsimp only [List.cons_append, List.nil_append]
    have hal : arr.length = 0 := ha.perm.length_eq
    with_reducible refine Ol.g ?_
    refine Ol.eff rfl rfl rfl (Eff.call (R := ?_) (queue_Len p arr l.length) rfl ?_ ?_)
    rotate_left
    · exact tkl_
    rintro _ -
    dsimp only [List.cons_append, List.nil_append]
    rw [hal]
    refine Ol.conv (H' := queueS p [] l.length :: rsl (eInt .u8) v l :: R) (ents.pk arr ha (by dsimp only [List.cons_append, List.nil_append]; exact ent_)) ?_
    refine go ?_
    with_reducible refine Ol.g ?_
    refine Ol.eff rfl rfl rfl (Eff.call (R := ?_) (queue_AllW p [] l.length (by simp)) rfl ?_ ?_)
    rotate_left
    · exact tkl_
    rintro ⟨va, es⟩ hes
    dsimp only [List.cons_append, List.nil_append] at hes ⊢
    have hes0 : es.length = 0 := hes
    refine go ?_
    rw [hes0]
    refine go ?_
    refine Dn.ret1 rfl rfl fun w hs => ⟨(), rfl, trivial, hs.conv (by exact ent_)⟩
end Go.Proofs.Ytcgjmlapmdbnmaa

