/- The walk of a region that draws, a step at a time, in an order that is given: what yields alike in every world of a class is taken first. It restates the library's law with the operation read off the list. No condition. -/
import Derived.Test.YtgeofijddhflaaaGreatDoorQMem
import Derived.Deep.RegionHeld3
import Derived.RangeFuncNested
import Derived.RangeFuncCalls
import Derived.OrdersIn
set_option linter.unusedVariables false
namespace Go.Proofs.YtgeofijddhflaaaGreatDoor
section
variable {P : Program} {md : Region.Mode} {Q : Exit → Act → World → Prop} {S S' : World → Prop} {l : List Oper}
theorem held_take (i : Nat) {v : Value} {fuel : Nat} {listed : Array Bool} {a : Act} {w : World} (hlt : i < l.length)
  (hs : Region.noSelect l.toArray = true) (hf : Region.free md l.toArray listed i = true) (hr : (Region.ready md l.toArray listed).contains i = true)
  (hQ : ∀ c a w, Q (.panic c) (a.put l[i].dst v) w → Q (.panic c) a w) (hy : YieldsIf P l.toArray S l[i] v a) (hS : S w)
  (h : wpAnyH P md l.toArray Q S fuel (listed.setIfInBounds i true) (a.put l[i].dst v) w) : wpAnyH P md l.toArray Q S (fuel + 1) listed a w :=
 wpAnyH_take (oi := l[i]) (v := v) (by rw [List.getElem?_toArray, List.getElem?_eq_getElem hlt]) hs hf hr hQ hy hS h
theorem held_sole (i : Nat) {fuel : Nat} {listed : Array Bool} {a : Act} {w : World} (hlt : i < l.length) (hr : Region.ready md l.toArray listed = [i])
  (h : ∀ K' : Act → World → Prop, Shut (∀ a w, S w → (S w → wpAnyH P md l.toArray Q S fuel (listed.setIfInBounds i true) a w) → K' a w) → if Region.wanted l[i] (yielded l.toArray a.tmps) = true then Oper.wp P l[i] a w K' Q else K' (a.put l[i].dst undef) w) : wpAnyH P md l.toArray Q S (fuel + 1) listed a w :=
 wpAnyH_ready hr (by simp) (AllReadyH.cons (by rw [List.getElem?_toArray, List.getElem?_eq_getElem hlt]) h AllReadyH.nil)
end
end Go.Proofs.YtgeofijddhflaaaGreatDoor
set_option linter.unusedVariables false
namespace Go.Proofs.YtgeofijddhflaaaGreatDoor
section
variable {P : Program} {ops : Array Oper} {Q : Exit → Act → World → Prop} {md : Region.Mode} {S : World → Prop} {t : Nat}
def wpAnyT (P : Program) (md : Region.Mode) (ops : Array Oper) (Q : Exit → Act → World → Prop) (S : World → Prop) (t : Nat) : Nat → Array Bool → Act → World → Prop
 | 0, listed, a, w => Region.ready md ops listed = [] ∧ Q .normal a w
 | fuel + 1, listed, a, w =>
  (Region.ready md ops listed = [] → Q .normal a w) ∧
  ∀ i ∈ Region.ready md ops listed, wpOp P ops Q i (fun a' w' => (i ≠ t → S w') ∧ wpAnyT P md ops Q S t fuel (listed.setIfInBounds i true) a' w') a w
theorem wpAny_of_T : ∀ (fuel : Nat) (listed : Array Bool) (a : Act) (w : World), wpAnyT P md ops Q S t fuel listed a w → wpAny P md ops Q fuel listed a w
 | 0, _, _, _, h => h
 | fuel + 1, _, _, _, h => ⟨h.1, fun i hi => wpOp_mono (fun a' w' h' => wpAny_of_T fuel _ a' w' h'.2) (h.2 i hi)⟩
def waitsFor (md : Region.Mode) (ops : Array Oper) (t i : Nat) : Bool := match ops[t]? with | some o => o.after.any (fun e => Region.binds md e && e.on == i) | none => true
theorem not_ready_of_waits {i : Nat} {listed : Array Bool} (h : waitsFor md ops t i = true) (hi : listed.getD i true = false) : t ∉ Region.ready md ops listed := by
 intro hr
 obtain ⟨_, ot, hot, hall⟩ := mem_ready.1 hr
 unfold waitsFor at h
 rw [hot] at h
 simp only [Array.any_eq_true] at h
 obtain ⟨k, hk, he⟩ := h
 simp only [Bool.and_eq_true, beq_iff_eq] at he
 have h1 := hall _ (Array.getElem_mem hk) he.1
 rw [he.2] at h1
 rcases Nat.lt_or_ge i listed.size with h' | h'
 ·simp [h'] at hi h1; rw [hi] at h1; cases h1
 ·simp [Array.getElem?_eq_none h'] at hi
theorem wpAnyT_first {i : Nat} {oi : Oper} {v : Value} (hi : ops[i]? = some oi) (hsel : ∀ (j : Nat) (o : Oper) cs b, ops[j]? = some o → o.op ≠ .select cs b) (hwt : waitsFor md ops t i = true)
  (hQ : ∀ c a w, Q (.panic c) (a.put oi.dst v) w → Q (.panic c) a w) :
  ∀ (fuel : Nat) (listed : Array Bool) (a : Act) (w : World),
   (∀ j oj, ops[j]? = some oj → j ≠ i → listed.getD j true = false → (∀ e ∈ oj.after, Region.binds md e = true → e.on ≠ i) → oi.apart ops oj = true) →
   i ∈ Region.ready md ops listed → YieldsIf P ops S oi v a → S w →
   wpAnyT P md ops Q S t fuel (listed.setIfInBounds i true) (a.put oi.dst v) w → wpAnyT P md ops Q S t (fuel + 1) listed a w := by
 intro fuel
 induction fuel with
 | zero =>
  intro listed a w _ hr hy hS H
  refine ⟨fun h => (by rw [h] at hr; cases hr), fun j hj => ?_⟩
  by_cases hji : j = i
  ·subst hji; exact hy.wpOp hi hS ⟨fun _ => hS, H⟩
  ·have := ready_mono hj hji
   rw [H.1] at this
   cases this
 | succ fuel ih =>
  intro listed a w hfree hr hy hS H
  refine ⟨fun h => (by rw [h] at hr; cases hr), fun j hj => ?_⟩
  by_cases hji : j = i
  ·subst hji; exact hy.wpOp hi hS ⟨fun _ => hS, H⟩
  ·have hjt : j ≠ t := fun e => not_ready_of_waits hwt (mem_ready.1 hr).1 (e ▸ hj)
   have h1 := H.2 j (ready_mono hj hji)
   obtain ⟨hjun, oj, hoj, hall⟩ := mem_ready.1 hj
   have hnot : ∀ e ∈ oj.after, Region.binds md e = true → e.on ≠ i := fun e he hb heq => by
    have h1 := hall e he hb
    have h0 := (mem_ready.1 hr).1
    rw [heq] at h1
    rcases Nat.lt_or_ge i listed.size with h' | h'
    ·simp [h'] at h0 h1; rw [h0] at h1; cases h1
    ·simp [Array.getElem?_eq_none h'] at h1
   have h2 := wpOp_putIf hoj (hfree j oj hoj hji hjun hnot) (fun cs b => hsel i oi cs b hi) (fun cs b => hsel j oj cs b hoj) hQ hy h1
   have hfree' : ∀ k ok, ops[k]? = some ok → k ≠ i → (listed.setIfInBounds j true).getD k true = false →
     (∀ e ∈ ok.after, Region.binds md e = true → e.on ≠ i) → oi.apart ops ok = true := fun k ok hk hki hun hno => by
    refine hfree k ok hk hki ?_ hno
    by_cases hjk : j = k
    ·subst hjk; exact hjun
    ·rw [getD_set_ne true hjk] at hun; exact hun
   refine wpOp_mono (fun a' w' h3 => ⟨h3.2.1, ih (listed.setIfInBounds j true) a' w' hfree' (ready_mono hr (Ne.symm hji)) h3.1 (h3.2.1 hjt) ?_⟩) h2
   rw [Array.setIfInBounds_comm _ _ hji]
   exact h3.2.2
theorem wpAnyT_done {listed : Array Bool} {a : Act} {w : World} (hr : Region.ready md ops listed = []) (h : Q .normal a w) :
  ∀ fuel, wpAnyT P md ops Q S t fuel listed a w
 | 0 => ⟨hr, h⟩
 | _ + 1 => ⟨fun _ => h, by rw [hr]; simp⟩
end
section
variable {P : Program} {md : Region.Mode} {Q : Exit → Act → World → Prop} {S S' : World → Prop} {l : List Oper} {t : Nat}
theorem heldT_take (i : Nat) {v : Value} {fuel : Nat} {listed : Array Bool} {a : Act} {w : World} (hlt : i < l.length)
  (hs : Region.noSelect l.toArray = true) (hf : Region.free md l.toArray listed i = true) (hr : (Region.ready md l.toArray listed).contains i = true) (hwt : waitsFor md l.toArray t i = true)
  (hQ : ∀ c a w, Q (.panic c) (a.put l[i].dst v) w → Q (.panic c) a w) (hy : YieldsIf P l.toArray S l[i] v a) (hS : S w)
  (h : wpAnyT P md l.toArray Q S t fuel (listed.setIfInBounds i true) (a.put l[i].dst v) w) : wpAnyT P md l.toArray Q S t (fuel + 1) listed a w := by
 have hi : l.toArray[i]? = some l[i] := by rw [List.getElem?_toArray, List.getElem?_eq_getElem hlt]
 exact wpAnyT_first hi (Region.noSelect_spec hs) hwt hQ fuel listed a w (Region.free_spec hi hf) (by simpa using hr) hy hS h
theorem heldT_sole (i : Nat) {fuel : Nat} {listed : Array Bool} {a : Act} {w : World} (hlt : i < l.length) (hr : Region.ready md l.toArray listed = [i])
  (h : ∀ K' : Act → World → Prop, Shut (∀ a w, S w → (S w → wpAnyT P md l.toArray Q S t fuel (listed.setIfInBounds i true) a w) → K' a w) → if Region.wanted l[i] (yielded l.toArray a.tmps) = true then Oper.wp P l[i] a w K' Q else K' (a.put l[i].dst undef) w) : wpAnyT P md l.toArray Q S t (fuel + 1) listed a w :=
 ⟨fun h0 => absurd (hr ▸ h0) (by simp), fun j hj => by
  rw [hr] at hj
  obtain rfl := List.mem_singleton.1 hj
  exact wpOp_step (by rw [List.getElem?_toArray, List.getElem?_eq_getElem hlt]) (fun K' hK => h K' (fun a w hS hW => hK a w ⟨fun _ => hS, hW hS⟩))⟩
theorem heldT_last {fuel : Nat} {listed : Array Bool} {a : Act} {w : World} (hlt : t < l.length) (hr : Region.ready md l.toArray listed = [t]) (hr2 : Region.ready md l.toArray (listed.setIfInBounds t true) = [])
  (h : ∀ K' : Act → World → Prop, Shut (∀ a w, Q .normal a w → K' a w) → if Region.wanted l[t] (yielded l.toArray a.tmps) = true then Oper.wp P l[t] a w K' Q else K' (a.put l[t].dst undef) w) : wpAnyT P md l.toArray Q S t (fuel + 1) listed a w :=
 ⟨fun h0 => absurd (hr ▸ h0) (by simp), fun j hj => by
  rw [hr] at hj
  obtain rfl := List.mem_singleton.1 hj
  exact wpOp_step (by rw [List.getElem?_toArray, List.getElem?_eq_getElem hlt]) (fun K' hK => h K' (fun a w hW => hK a w ⟨fun e => absurd rfl e, wpAnyT_done hr2 hW _⟩))⟩
theorem wp_region_heldT {ops : Array Oper} {id : Nat} {a : Act} {w : World} (t : Nat) (hm : P.follows .mixedOrders = true) (hS : S w.drew)
  (h : S w.drew → wpAnyT P .any ops Q S t ops.size (Array.replicate ops.size false) a w.drew) : (Code.region id ops true).wp P Q a w :=
 wp_region_any hm (wpAny_of_T _ _ _ _ (h hS))
end
end Go.Proofs.YtgeofijddhflaaaGreatDoor
