/- Contracts of functions of the program, proved in a small separation logic. Conditions: those that each theorem states. -/
import Derived.Test.YtcgjmlapmdbnmaaQueue5
namespace Go.Proofs.Ytcgjmlapmdbnmaa
open Go Go.Sl
set_option maxHeartbeats 4000000
set_option maxRecDepth 100000
set_option linter.unusedVariables false
-- FN slices.pdqsortCmpFunc[confidant/queue.item]
theorem pdq_w (v : Value) (l : List S_queue_item) (q : List QI) (c : Nat) (m : Int) (hm : l.length ≤ 12) :
    Sp Try.prog 109 [v, .int .i64 0, .int .i64 l.length, .int .i64 m, befV c] [sl e_queue_item v l, rel2 itC l q, befC c] (fun y : List S_queue_item × List QI => y.1.length = l.length) (fun _ => .tuple #[]) (fun y => [sl e_queue_item v y.1, rel2 itC y.1 y.2]) := by
  refine Sp.intro (n := 148) Try.func109 rfl rfl fun w0 R => ?_
  dsimp only [List.cons_append, List.nil_append, envOf]
  refine go ?_
  refine Cd.loop (fun _ : Unit => True) (fun _ => 0) (fun _ => [(0, v), (1, .int .i64 0), (2, .int .i64 l.length), (4, befV c)]) (fun _ => sl e_queue_item v l :: rel2 itC l q :: befC c :: R) () trivial ?_ ?_ ?_
  · repeat(first|exact Env.le_nil _|(refine Env.le_cons rfl ?_ ?_;first|rfl|(simp;done)|exact congrArg _ (by omega)|rotate_left))
  · exact ent_
  rintro - -
  refine go ?_
  refine Cd.condP rfl (fun h => ?_) (fun h => absurd (show (l.length : Int) - 0 ≤ 12 by omega) h)
  refine go ?_
  with_reducible refine Ol.g ?_
  refine Ol.eff rfl rfl rfl (Eff.call (R := ?_) (insertion_w v l q c (by omega)) rfl ?_ ?_)
  rotate_left
  · exact tkl_
  rintro ⟨l', q'⟩ hl'
  dsimp only [List.cons_append, List.nil_append] at hl' ⊢
  refine go ?_
  refine Dn.fin0 rfl fun w hs => ⟨(l', q'), rfl, hl', hs.conv (by exact ent_)⟩
-- FN slices.SortFunc[confidant/queue.items,confidant/queue.item]
theorem sort_w (v : Value) (l : List S_queue_item) (q : List QI) (c : Nat) (hm : l.length ≤ 12) :
    Sp Try.prog 74 [v, befV c] [sl e_queue_item v l, rel2 itC l q, befC c] (fun y : List S_queue_item × List QI => y.1.length = l.length) (fun _ => .tuple #[]) (fun y => [sl e_queue_item v y.1, rel2 itC y.1 y.2]) := by
  refine Sp.intro (n := 14) Try.func74 rfl rfl fun w0 R => ?_
  dsimp only [List.cons_append, List.nil_append, envOf]
  refine go ?_
  with_reducible refine Ol.g ?_
  refine Ol.eff rfl rfl rfl (Eff.call (R := ?_) (bits_Len l.length (by omega)) rfl ?_ ?_)
  rotate_left
  · exact tkl_
  rintro m hm2
  dsimp only [List.cons_append, List.nil_append]
  refine go ?_
  with_reducible refine Ol.g ?_
  refine Ol.eff rfl rfl rfl (Eff.call (R := ?_) (pdq_w v l q c m hm) rfl ?_ ?_)
  rotate_left
  · exact tkl_
  rintro ⟨l', q'⟩ hl'
  dsimp only [List.cons_append, List.nil_append] at hl' ⊢
  refine go ?_
  refine Dn.fin0 rfl fun w hs => ⟨(l', q'), rfl, hl', hs.conv (by exact ent_)⟩
structure AZ where
  k : Nat
  v : Value
  es : List S_queue_Entry
-- FN (*confidant/queue.Queue).All
theorem queue_AllW (p : Nat) (l : List QI) (n : Int) (hl : l.length ≤ 12) :
    Sp Try.prog 39 [.pointer (some ⟨p, 0, none⟩)] [queueS p l n] (fun y : Value × List S_queue_Entry => y.2.length = l.length) (fun y => y.1) (fun y => [queueS p l n, sl e_queue_Entry y.1 y.2]) := by
  refine Sp.intro (n := 29) Try.func39 rfl rfl fun w0 R => ?_
  dsimp only [List.cons_append, List.nil_append, envOf]
  first | (with_reducible refine Cd.g ?_; refine Cd.pk (A := (queueS p l n)) rfl (by exact tk_) fun arr ha => ?_) | (with_reducible refine Ol.g ?_; refine Ol.pk (A := (queueS p l n)) rfl (by exact tk_) fun arr ha => ?_) | (with_reducible refine Dn.g ?_; refine Dn.pk (A := (queueS p l n)) rfl (by exact tk_) fun arr ha => ?_)
  dsimp only [List.cons_append, List.nil_append]
  first | (with_reducible refine Cd.g ?_; refine Cd.pk (A := (queueH p arr n)) rfl (by exact tk_) fun x hx => ?_) | (with_reducible refine Ol.g ?_; refine Ol.pk (A := (queueH p arr n)) rfl (by exact tk_) fun x hx => ?_) | (with_reducible refine Dn.g ?_; refine Dn.pk (A := (queueH p arr n)) rfl (by exact tk_) fun x hx => ?_)
  dsimp only [List.cons_append, List.nil_append]
  have hal : arr.length = l.length := ha.perm.length_eq
  have hxl : x.2.length = l.length := by rw [← hal]; exact hx.1
  refine go ?_
  with_reducible refine Ol.g ?_
  refine Ol.eff rfl rfl rfl (Eff.call (R := ?_) (clone_items false x.1 x.2 (by omega)) rfl ?_ ?_)
  rotate_left
  · exact tkl_
  rintro u -
  dsimp only [List.cons_append, List.nil_append, id]
  refine go ?_
  with_reducible refine Ol.g ?_
  refine Ol.eff rfl rfl rfl (Eff.call (R := ?_) queue_before rfl ?_ ?_)
  rotate_left
  · exact tkl_
  rintro c -
  dsimp only [List.cons_append, List.nil_append]
  refine go ?_
  refine Ol.conv (Tk.more (p := rel2_pers (fun _ _ => inferInstance) _ _) (A := rel2 itC x.2 arr) (went.refl _) (by exact tk_)) ?_
  with_reducible refine Ol.g ?_
  refine Ol.eff rfl rfl rfl (Eff.call (R := ?_) (sort_w u x.2 arr c (by omega)) rfl ?_ ?_)
  rotate_left
  · exact tkl_
  rintro ⟨l', q'⟩ hl'
  dsimp only [List.cons_append, List.nil_append] at hl' ⊢
  first | (with_reducible refine Cd.g ?_; refine Cd.know (fun w_ hw_ => rel2_len (Tk.sat (A := (rel2 itC l' q')) (by exact tk_) hw_)) fun hlq => ?_) | (with_reducible refine Ol.g ?_; refine Ol.know (fun w_ hw_ => rel2_len (Tk.sat (A := (rel2 itC l' q')) (by exact tk_) hw_)) fun hlq => ?_) | (with_reducible refine Dn.g ?_; refine Dn.know (fun w_ hw_ => rel2_len (Tk.sat (A := (rel2 itC l' q')) (by exact tk_) hw_)) fun hlq => ?_)
  refine go ?_
  refine Cd.loop (fun z : AZ => z.k ≤ l'.length ∧ z.es.length = z.k) (fun z => l'.length - z.k) (fun z => [(0, .pointer (some ⟨p, 0, none⟩)), (4, z.v), (15, u), (16, .int .i64 l'.length), (17, .int .i64 z.k)])
    (fun z => sl e_queue_Entry z.v z.es :: sl e_queue_item u l' :: rel2 itC l' q' :: queueS p l n :: R) ⟨0, .slice none 0 0, []⟩ ⟨by simp, rfl⟩ ?_ ?_ ?_
  · repeat(first|exact Env.le_nil _|(refine Env.le_cons rfl ?_ ?_;first|rfl|(simp;done)|exact congrArg _ (by omega)|rotate_left))
  · exact ents.free (ents.cons (by exact tk_) (ents.cons (by exact tk_) (ents.pk arr ha (ents.cons (Tk.pk (A := queueH p arr n) rfl x hx (by exact tkl_)) (show ents _ R from by exact ent_)))))
  rintro ⟨k, v4, es⟩ ⟨hk, hel⟩
  dsimp only at hk hel ⊢
  refine go ?_
  refine Cd.condP rfl (fun h => ?_) (fun h => ?_)
  · have hk2 : k < l'.length := by omega
    refine Cd.conv (Tk.more (p := rel2_pers (fun _ _ => inferInstance) _ _) (A := rel2 itC l' q') (rel2_gotI (i := k) (by omega) (by omega)) (by exact tk_)) ?_
    first | (with_reducible refine Cd.g ?_; refine Cd.pk (A := (itC (rd l' k) (rd q' k))) rfl (by exact tk_) fun y hy => ?_) | (with_reducible refine Ol.g ?_; refine Ol.pk (A := (itC (rd l' k) (rd q' k))) rfl (by exact tk_) fun y hy => ?_) | (with_reducible refine Dn.g ?_; refine Dn.pk (A := (itC (rd l' k) (rd q' k))) rfl (by exact tk_) fun y hy => ?_)
    dsimp only [List.cons_append, List.nil_append]
    refine go ?_;repeat((with_reducible refine Ol.g ?_);(first|refine Ol.eff rfl rfl rfl (Eff.alloc fun _=>?_)|refine Ol.eff rfl rfl rfl (Eff.box fun _=>?_)|refine Ol.eff0 rfl rfl (Eff.store rfl rfl ?_)|refine Ol.eff rfl rfl rfl (Eff.bslice rfl rfl fun _=>?_)|(refine Ol.eff0 rfl rfl (Eff.storeE rfl ?_ ?_);exact pre_)|(refine Ol.eff rfl rfl rfl (Eff.append1 rfl ?_ fun _=>?_);exact pre_));refine go ?_)
    with_reducible refine Ol.g ?_
    refine Ol.eff rfl rfl rfl (Eff.call (R := ?_) (queue_entry (rd l' k).f_Entry.f_Round (rd l' k).f_Entry.f_Task (rd q' k).task) rfl ?_ ?_)
    rotate_left
    · exact tkl_
    rintro t' -
    dsimp only [List.cons_append, List.nil_append]
    refine go ?_;repeat((with_reducible refine Ol.g ?_);(first|refine Ol.eff rfl rfl rfl (Eff.alloc fun _=>?_)|refine Ol.eff rfl rfl rfl (Eff.box fun _=>?_)|refine Ol.eff0 rfl rfl (Eff.store rfl rfl ?_)|refine Ol.eff rfl rfl rfl (Eff.bslice rfl rfl fun _=>?_)|(refine Ol.eff0 rfl rfl (Eff.storeE rfl ?_ ?_);exact pre_)|(refine Ol.eff rfl rfl rfl (Eff.append1 rfl ?_ fun _=>?_);exact pre_));refine go ?_)
    rename_i v1 v4'
    refine Dn.round ⟨k + 1, v4', es ++ [⟨(rd l' k).f_Entry.f_Round, t'⟩]⟩ ⟨by dsimp only; omega, by simp [hel]⟩ (by dsimp only; omega) (by repeat(first|exact Env.le_nil _|(refine Env.le_cons rfl ?_ ?_;first|rfl|(simp;done)|exact congrArg _ (by omega)|rotate_left))) (by exact ent_)
  · refine go ?_
    refine Dn.ret1 rfl rfl fun w hs => ⟨(v4, es), rfl, by dsimp only; omega, hs.conv (by exact ent_)⟩
end Go.Proofs.Ytcgjmlapmdbnmaa

