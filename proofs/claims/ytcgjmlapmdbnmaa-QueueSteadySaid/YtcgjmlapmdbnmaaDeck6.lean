/- Contracts of functions of the program, proved in a small separation logic. Conditions: those that each theorem states. -/
import Derived.Test.YtcgjmlapmdbnmaaDeck5
namespace Go.Proofs.Ytcgjmlapmdbnmaa
open Go Go.Sl
set_option maxHeartbeats 4000000
set_option maxRecDepth 100000
set_option linter.unusedVariables false
/-! who comes, who waits -/
structure QI where
  round : Int
  task : AT
  seq : Int
  deriving DecidableEq
instance : Dfl QI := ⟨⟨0, zA, 0⟩⟩
def itC (t : S_queue_item) (y : QI) : HProp := pk (fun _ : Unit => t.f_Entry.f_Round = y.round ∧ t.f_seq = y.seq) (fun _ => [tkC t.f_Entry.f_Task y.task])
instance (t : S_queue_item) (y : QI) : Pers (itC t y) := Pers.ex fun _ => inferInstance
def queueH (p : Nat) (l : List QI) (n : Int) : HProp := pk (fun x : Value × List S_queue_item => x.2.length = l.length ∧ l.length ≤ 1048576 ∧ 0 ≤ n ∧ n ≤ 1048576) (fun x => [cel p 111 [x.1, .int .i64 n], sl e_queue_item x.1 x.2, rel2 itC x.2 l])
structure WT where
  task : AT
  fut : Int
  deriving DecidableEq
instance : Dfl WT := ⟨⟨zA, 0⟩⟩
-- FN confidant/queue.New
theorem queue_New : Sp Try.prog 33 [] [] (fun _ : Nat => True) (fun p => .pointer (some ⟨p, 0, none⟩)) (fun p => [queueH p [] 0]) := by
  refine Sp.intro (n := 3) Try.func33 rfl rfl fun w0 R => ?_
  dsimp only [List.cons_append, List.nil_append, envOf]
  refine go ?_;repeat((with_reducible refine Ol.g ?_);(first|refine Ol.eff rfl rfl rfl (Eff.alloc fun _=>?_)|refine Ol.eff rfl rfl rfl (Eff.box fun _=>?_)|refine Ol.eff0 rfl rfl (Eff.store rfl rfl ?_)|refine Ol.eff rfl rfl rfl (Eff.bslice rfl rfl fun _=>?_)|(refine Ol.eff0 rfl rfl (Eff.storeE rfl ?_ ?_);exact pre_)|(refine Ol.eff rfl rfl rfl (Eff.append1 rfl ?_ fun _=>?_);exact pre_));refine go ?_)
  rename_i c
  refine Dn.ret1 rfl rfl fun w hs => ⟨c, rfl, trivial, hs.conv (ents.pk (.slice none 0 0, []) ⟨rfl, by decide, by decide, by decide⟩ (by dsimp only [List.cons_append, List.nil_append]; exact ent_))⟩
-- FN (*confidant/queue.Queue).Len
theorem queue_Len (p : Nat) (l : List QI) (n : Int) : Sp Try.prog 40 [.pointer (some ⟨p, 0, none⟩)] [queueH p l n] (fun _ : Unit => l.length ≤ 1048576) (fun _ => .int .i64 l.length) (fun _ => [queueH p l n]) := by
  refine Sp.intro (n := 8) Try.func40 rfl rfl fun w0 R => ?_
  dsimp only [List.cons_append, List.nil_append, envOf]
  first | (with_reducible refine Cd.g ?_; refine Cd.pk (A := (queueH p l n)) rfl (by exact tk_) fun x hx => ?_) | (with_reducible refine Ol.g ?_; refine Ol.pk (A := (queueH p l n)) rfl (by exact tk_) fun x hx => ?_) | (with_reducible refine Dn.g ?_; refine Dn.pk (A := (queueH p l n)) rfl (by exact tk_) fun x hx => ?_)
  dsimp only [List.cons_append, List.nil_append]
  refine go ?_;repeat((with_reducible refine Ol.g ?_);(first|refine Ol.eff rfl rfl rfl (Eff.alloc fun _=>?_)|refine Ol.eff rfl rfl rfl (Eff.box fun _=>?_)|refine Ol.eff0 rfl rfl (Eff.store rfl rfl ?_)|refine Ol.eff rfl rfl rfl (Eff.bslice rfl rfl fun _=>?_)|(refine Ol.eff0 rfl rfl (Eff.storeE rfl ?_ ?_);exact pre_)|(refine Ol.eff rfl rfl rfl (Eff.append1 rfl ?_ fun _=>?_);exact pre_));refine go ?_)
  refine Dn.ret1 rfl rfl fun w hs => ⟨(), by rw [hx.1], hx.2.1, hs.conv (ents.pk x hx (by dsimp only [List.cons_append, List.nil_append]; exact ent_))⟩
def Hand.live (h : Hand) : Nat := h.q.length + (if h.full then 1 else 0)
def liveK (hs : List Hand) (k : Nat) : Nat := ((hs.take k).map Hand.live).sum
theorem liveK_succ (hs : List Hand) {k : Nat} (h : k < hs.length) : liveK hs (k + 1) = liveK hs k + (rd hs k).live := by
  unfold liveK; rw [take_rd h]; simp
end Go.Proofs.Ytcgjmlapmdbnmaa

