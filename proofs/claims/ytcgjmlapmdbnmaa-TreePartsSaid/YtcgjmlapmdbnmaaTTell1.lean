/- Contracts of functions of the program, proved in a small separation logic. Conditions: those that each theorem states. -/
import Derived.Test.YtcgjmlapmdbnmaaRTree6
import Derived.Test.YtcgjmlapmdbnmaaTree8
import Derived.Test.YtcgjmlapmdbnmaaSeat1
namespace Go.Proofs.Ytcgjmlapmdbnmaa
open Go Go.Sl
set_option maxHeartbeats 4000000
set_option maxRecDepth 100000
set_option linter.unusedVariables false
/-- What both joins must share for the labels of a tree to be the same. -/
def labOkB (q : List (List Bool)) : Bool :=
  decide (0 ≤ botK q q.length ∧ botK q q.length < (q.length : Int)) &&
  (ints q.length).all fun a => decide (joinI q (botK q q.length) a = a) && (ints q.length).all fun b => decide (joinI q a b = joinR q a b ∧ 0 ≤ joinI q a b ∧ joinI q a b < (q.length : Int))
theorem lab_ok0 : labOkB (tabT 2 2 leI) = true := by decide +kernel
theorem lab_ok1 : labOkB (tabT 3 3 leI) = true := by decide +kernel
theorem lab_ok4 : labOkB (tabT 5 5 seatF5) = true := by decide +kernel
theorem lab_ok5 : labOkB (tabT 8 8 andLe) = true := by decide +kernel
theorem lab_ok2 : labOkB (tabT 4 4 andLe) = true := by decide +kernel
theorem lab_ok (r : Int) : labOkB (seatR r) = true := by
  unfold seatR
  split
  · exact lab_ok0
  split
  · exact lab_ok1
  split
  · exact lab_ok4
  split
  · exact lab_ok5
  exact lab_ok2
theorem lab_joinR {q : List (List Bool)} (h : labOkB q = true) {a b : Int} (ha : 0 ≤ a ∧ a < q.length) (hb : 0 ≤ b ∧ b < q.length) : joinI q a b = joinR q a b ∧ 0 ≤ joinI q a b ∧ joinI q a b < (q.length : Int) := by
  unfold labOkB at h
  simp only [Bool.and_eq_true, List.all_eq_true] at h
  exact of_decide_eq_true ((h.2 a (ints_mem.2 ha)).2 b (ints_mem.2 hb))
theorem lab_bot {q : List (List Bool)} (h : labOkB q = true) {a : Int} (ha : 0 ≤ a ∧ a < q.length) : joinI q (botK q q.length) a = a := by
  unfold labOkB at h
  simp only [Bool.and_eq_true, List.all_eq_true] at h
  exact of_decide_eq_true (h.2 a (ints_mem.2 ha)).1
theorem lab_botIn {q : List (List Bool)} (h : labOkB q = true) : 0 ≤ botK q q.length ∧ botK q q.length < (q.length : Int) := by
  unfold labOkB at h
  simp only [Bool.and_eq_true] at h
  exact of_decide_eq_true h.1
theorem lab_at {q : List (List Bool)} {V : LatV} (hV : isLat q V) {a b : Int} (ha : 0 ≤ a ∧ a < q.length) (hb : 0 ≤ b ∧ b < q.length) : atB V.join a b (-1) = joinI q a b := by
  unfold atB
  rw [hV.join, rowsL_length, if_pos ⟨ha, hb⟩, rowsL_rd ha.1 ha.2, map_rd _ hb.1 (by rw [ints_length]; exact hb.2), ints_rd hb.1 hb.2]
theorem labs_eq {q : List (List Bool)} {V : LatV} (hV : isLat q V) (h : labOkB q = true) : ∀ (l : List TN) (c : Int), (0 ≤ c ∧ c < q.length) → (∀ n, n ∈ l → 0 ≤ n.label ∧ n.label < (q.length : Int)) →
    l.foldl (fun c n => atB V.join c n.label (-1)) c = l.foldl (fun c n => joinR q c n.label) c
  | [], _, _, _ => rfl
  | n :: l, c, hc, hl => by
    have hn := hl n List.mem_cons_self
    have hj := lab_joinR h hc hn
    simp only [List.foldl_cons]
    rw [lab_at hV hc hn, ← hj.1]
    exact labs_eq hV h l _ hj.2 fun m hm => hl m (List.mem_cons_of_mem _ hm)
theorem lab_same {q : List (List Bool)} {V : LatV} (hV : isLat q V) (h : labOkB q = true) {T : List TN} (hl : ∀ n, n ∈ T → 0 ≤ n.label ∧ n.label < (q.length : Int)) (hT : 1 ≤ T.length) : labT V T T.length = labR q T T.length := by
  unfold labT labR
  rw [List.take_length]
  match T, hT, hl with
  | n :: l, _, hl =>
    have hn := hl n List.mem_cons_self
    rw [hV.bot, List.foldl_cons, lab_at hV (lab_botIn h) hn, lab_bot h hn]
    rw [show rd (n :: l) 0 = n from rfl, List.drop_one, List.tail_cons]
    exact labs_eq hV h l _ hn fun m hm => hl m (List.mem_cons_of_mem _ hm)
end Go.Proofs.Ytcgjmlapmdbnmaa

