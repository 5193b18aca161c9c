/- Contracts of functions of the program, proved in a small separation logic. Conditions: those that each theorem states. -/
import Derived.Test.YtcgjmlapmdbnmaaGate1
--LAT
namespace Go.Proofs.Ytcgjmlapmdbnmaa
open Go Go.Sl
set_option maxHeartbeats 4000000
set_option maxRecDepth 100000
set_option linter.unusedVariables false
-- FN slices.Clone[[]bool,bool]
theorem clone_bool (r : Bool) (v : Value) (xs : List Bool) (hm : xs.length ≤ 1048576) :
    Sp Try.prog 114 [v] [slB r eBool v xs] (fun _ : Value => True) id (fun v' => [slB r eBool v xs, sl eBool v' xs]) := by
  refine Sp.intro (n := 8) Try.func114 rfl rfl fun w0 R => ?_
  dsimp only [List.cons_append, List.nil_append, envOf]
  refine go ?_
  first | (with_reducible refine Cd.g ?_; refine Cd.know (fun w_ hw_ => nilS_nil (Tk.sat (A := (slB r eBool v xs)) (by exact tk_) hw_)) fun hn => ?_) | (with_reducible refine Ol.g ?_; refine Ol.know (fun w_ hw_ => nilS_nil (Tk.sat (A := (slB r eBool v xs)) (by exact tk_) hw_)) fun hn => ?_) | (with_reducible refine Dn.g ?_; refine Dn.know (fun w_ hw_ => nilS_nil (Tk.sat (A := (slB r eBool v xs)) (by exact tk_) hw_)) fun hn => ?_)
  cases hv : nilS v with
  | true =>
    obtain ⟨rfl, rfl⟩ := hn hv
    refine go ?_
    refine Dn.ret1 rfl rfl fun w hs => ⟨.slice none 0 0, rfl, trivial, hs.conv (show ents _ (slB r eBool (.slice none 0 0) [] :: sl eBool (.slice none 0 0) [] :: R) from by exact ent_)⟩
  | false =>
    refine go ?_;repeat((with_reducible refine Ol.g ?_);(first|refine Ol.eff rfl rfl rfl (Eff.alloc fun _=>?_)|refine Ol.eff rfl rfl rfl (Eff.box fun _=>?_)|refine Ol.eff0 rfl rfl (Eff.store rfl rfl ?_)|refine Ol.eff rfl rfl rfl (Eff.bslice rfl rfl fun _=>?_)|(refine Ol.eff0 rfl rfl (Eff.storeE rfl ?_ ?_);exact pre_)|(refine Ol.eff rfl rfl rfl (Eff.append1 rfl ?_ fun _=>?_);exact pre_));refine go ?_)
    refine Ol.eff rfl rfl rfl (Eff.appendR rfl ?_ fun u => ?_)
    · simp; omega
    refine go ?_
    refine Dn.ret1 rfl rfl fun w hs => ⟨u, rfl, trivial, hs.conv (show ents _ (slB r eBool v xs :: sl eBool u xs :: R) from by exact ent_)⟩
end Go.Proofs.Ytcgjmlapmdbnmaa

