/- The walk of a region that draws by what holds of it, whatever was carried out so far: one proof a operation, none an order. No condition. -/
import Derived.Test.YtaadbklimfngiaaHeld
set_option linter.unusedVariables false
namespace Go.Proofs.Ytaadbklimfngiaa
section
variable {P : Program} {ops : Array Oper} {Q : Exit → Act → World → Prop} {md : Region.Mode} {S : World → Prop}
/-- Each operation waits for earlier ones alone. -/
def downward (ops : Array Oper) : Bool := (List.range ops.size).all fun i => match ops[i]? with | some o => o.after.all fun e => decide (e.on < i) | none => true
theorem downward_spec (h : downward ops = true) {i : Nat} {o : Oper} (ho : ops[i]? = some o) : ∀ e ∈ o.after, e.on < i := by
  unfold downward at h
  rw [List.all_eq_true] at h
  have hlt : i < ops.size := (Array.getElem?_eq_some_iff.1 ho).1
  have h2 := h i (List.mem_range.2 hlt)
  rw [ho] at h2
  intro e he
  simp only [Array.all_eq_true_iff_forall_mem, decide_eq_true_eq] at h2
  exact h2 e he
theorem all_listed (h : downward ops = true) {listed : Array Bool} (hr : Region.ready md ops listed = []) : ∀ i, i < ops.size → listed.getD i true = true := by
  intro i
  induction i using Nat.strongRecOn with
  | ind i ih =>
    intro hi
    cases hb : listed.getD i true with
    | true => rfl
    | false =>
      exfalso
      have hm : i ∈ Region.ready md ops listed := mem_ready.2 ⟨hb, ops[i], Array.getElem?_eq_getElem hi, fun e he _ => by
        have hlt := downward_spec h (Array.getElem?_eq_getElem hi) e he
        have h1 := ih e.on hlt (Nat.lt_trans hlt hi)
        have hs : e.on < listed.size := by
          rcases Nat.lt_or_ge i listed.size with h2 | h2
          · omega
          · simp [Array.getD, Nat.not_lt.2 h2] at hb
        simp [Array.getD, hs] at h1 ⊢
        exact h1⟩
      rw [hr] at hm
      cases hm
theorem count_set {listed : Array Bool} {i : Nat} (h : listed.getD i true = false) : (listed.setIfInBounds i true).toList.countP (fun b => !b) + 1 = listed.toList.countP (fun b => !b) := by
  obtain ⟨l⟩ := listed
  have hlt : i < l.length := by
    rcases Nat.lt_or_ge i l.length with h2 | h2
    · exact h2
    · simp [Array.getD, Nat.not_lt.2 h2] at h
  have hv : l[i] = false := by simpa [Array.getD, hlt] using h
  simp only [List.setIfInBounds_toArray]
  clear h
  induction l generalizing i with
  | nil => simp at hlt
  | cons b l ih =>
    cases i with
    | zero =>
      simp at hv
      subst hv
      simp
    | succ i =>
      simp only [List.length_cons, Nat.add_lt_add_iff_right] at hlt
      simp only [List.getElem_cons_succ] at hv
      have := ih hlt hv
      simp only [List.set_cons_succ, List.countP_cons]
      omega
theorem wpAny_inv (I : Array Bool → Act → World → Prop) (hd : downward ops = true)
    (hend : ∀ listed a w, I listed a w → (∀ i, i < ops.size → listed.getD i true = true) → Q .normal a w)
    (hstep : ∀ (i : Nat) (o : Oper) (listed : Array Bool) (a : Act) (w : World), ops[i]? = some o → listed.getD i true = false → (∀ e ∈ o.after, Region.binds md e = true → listed.getD e.on true = true) → I listed a w →
      ∀ K : Act → World → Prop, Shut (∀ a' w', I (listed.setIfInBounds i true) a' w' → K a' w') → if Region.wanted o (yielded ops a.tmps) = true then o.wp P a w K Q else K (a.put o.dst undef) w) :
    ∀ (fuel : Nat) (listed : Array Bool) (a : Act) (w : World), listed.toList.countP (fun b => !b) ≤ fuel → I listed a w → wpAny P md ops Q fuel listed a w := by
  intro fuel
  induction fuel with
  | zero =>
    intro listed a w hc hI
    have hr : Region.ready md ops listed = [] := by
      rw [List.eq_nil_iff_forall_not_mem]
      intro i hi
      obtain ⟨h0, _⟩ := mem_ready.1 hi
      have := count_set h0
      omega
    exact ⟨hr, hend listed a w hI (all_listed hd hr)⟩
  | succ fuel ih =>
    intro listed a w hc hI
    refine ⟨fun hr => hend listed a w hI (all_listed hd hr), fun i hi => ?_⟩
    obtain ⟨h0, o, ho, hall⟩ := mem_ready.1 hi
    have hcs := count_set h0
    have h2 := hstep i o listed a w ho h0 (fun e he hb => by
      have h3 := hall e he hb
      rcases Nat.lt_or_ge e.on listed.size with h4 | h4
      · simp [Array.getD, h4] at h3 ⊢
        exact h3
      · simp [Array.getD, Nat.not_lt.2 h4] at h3) hI (fun a' w' => I (listed.setIfInBounds i true) a' w') (fun _ _ h => h)
    unfold wpOp
    rw [ho]
    simp only
    split
    · rename_i hw
      rw [if_pos hw] at h2
      exact .inl (Oper.wp_mono (fun a' w' h => ih _ _ _ (by omega) h) h2)
    · rename_i hw
      rw [if_neg hw] at h2
      exact ih _ _ _ (by omega) h2
/-- The same from a point on, in a class of worlds. -/
theorem wpAnyH_inv (I : Array Bool → Act → World → Prop) (hd : downward ops = true) (hIS : ∀ listed a w, I listed a w → S w)
    (hend : ∀ listed a w, I listed a w → (∀ i, i < ops.size → listed.getD i true = true) → Q .normal a w)
    (hstep : ∀ (i : Nat) (o : Oper) (listed : Array Bool) (a : Act) (w : World), ops[i]? = some o → listed.getD i true = false → (∀ e ∈ o.after, Region.binds md e = true → listed.getD e.on true = true) → I listed a w →
      ∀ K : Act → World → Prop, Shut (∀ a' w', I (listed.setIfInBounds i true) a' w' → K a' w') → if Region.wanted o (yielded ops a.tmps) = true then o.wp P a w K Q else K (a.put o.dst undef) w) :
    ∀ (fuel : Nat) (listed : Array Bool) (a : Act) (w : World), listed.toList.countP (fun b => !b) ≤ fuel → I listed a w → wpAnyH P md ops Q S fuel listed a w := by
  intro fuel
  induction fuel with
  | zero =>
    intro listed a w hc hI
    have hr : Region.ready md ops listed = [] := by
      rw [List.eq_nil_iff_forall_not_mem]
      intro i hi
      obtain ⟨h0, _⟩ := mem_ready.1 hi
      have := count_set h0
      omega
    exact wpAnyH_done hr (hend listed a w hI (all_listed hd hr)) _
  | succ fuel ih =>
    intro listed a w hc hI
    by_cases hr : Region.ready md ops listed = []
    · exact wpAnyH_done hr (hend listed a w hI (all_listed hd hr)) _
    · refine wpAnyH_ready rfl hr fun i hi => ?_
      obtain ⟨h0, o, ho, hall⟩ := mem_ready.1 hi
      have hcs := count_set h0
      have h2 := hstep i o listed a w ho h0 (fun e he hb => by
        have h3 := hall e he hb
        rcases Nat.lt_or_ge e.on listed.size with h4 | h4
        · simp [Array.getD, h4] at h3 ⊢
          exact h3
        · simp [Array.getD, Nat.not_lt.2 h4] at h3) hI (fun a' w' => I (listed.setIfInBounds i true) a' w') (fun _ _ h => h)
      unfold wpOp
      rw [ho]
      simp only
      split
      · rename_i hw
        rw [if_pos hw] at h2
        exact .inl (Oper.wp_mono (fun a' w' h => ⟨hIS _ _ _ h, ih _ _ _ (by omega) h⟩) h2)
      · rename_i hw
        rw [if_neg hw] at h2
        exact ⟨hIS _ _ _ h2, ih _ _ _ (by omega) h2⟩
theorem getD_set_self {listed : Array Bool} {i : Nat} : (listed.setIfInBounds i true).getD i true = true := by
  rcases Nat.lt_or_ge i listed.size with h | h <;> simp [Array.getD, h]
theorem getD_set_true {listed : Array Bool} {i j : Nat} (h : listed.getD j true = true) : (listed.setIfInBounds i true).getD j true = true := by
  by_cases e : i = j
  · subst e; exact getD_set_self
  · rw [getD_set_ne true e]; exact h
theorem getD_set_back {listed : Array Bool} {i j : Nat} (h : (listed.setIfInBounds i true).getD j true = true) (hne : i ≠ j) : listed.getD j true = true := by
  rwa [getD_set_ne true hne] at h
/-- A region that draws, by what holds of it. -/
theorem wp_region_inv {id : Nat} {a : Act} {w : World} (I : Array Bool → Act → World → Prop) (hm : P.follows .mixedOrders = true) (hd : downward ops = true)
    (hend : ∀ listed a w, I listed a w → (∀ i, i < ops.size → listed.getD i true = true) → Q .normal a w)
    (hstep : ∀ (i : Nat) (o : Oper) (listed : Array Bool) (a : Act) (w : World), ops[i]? = some o → listed.getD i true = false → (∀ e ∈ o.after, Region.binds .any e = true → listed.getD e.on true = true) → I listed a w →
      ∀ K : Act → World → Prop, Shut (∀ a' w', I (listed.setIfInBounds i true) a' w' → K a' w') → if Region.wanted o (yielded ops a.tmps) = true then o.wp P a w K Q else K (a.put o.dst undef) w)
    (hI : I (Array.replicate ops.size false) a w.drew) : (Code.region id ops true).wp P Q a w :=
  wp_region_any hm (wpAny_inv I hd hend hstep _ _ _ _ (Nat.le_trans List.countP_le_length (by simp)) hI)
end
end Go.Proofs.Ytaadbklimfngiaa
