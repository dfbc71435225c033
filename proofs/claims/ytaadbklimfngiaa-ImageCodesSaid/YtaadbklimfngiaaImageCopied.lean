/- The reference copies an instance (pavaneref15.Copied). Condition: the instance can be read. -/
import Derived.Test.YtaadbklimfngiaaImageRead
import Derived.Test.YtaadbklimfngiaaInv
import Derived.ArgAppend
import Derived.Deep.DeepCutAuto
set_option linter.unusedVariables false
namespace Go.Proofs.Ytaadbklimfngiaa
open Go.RowKit Oct

/-- 'append(T{}, x...)': nothing that was is turned. -/
theorem run_append_zero {P : Program} (w : World) (base : Nat) (t ty e : TypeId) (i : TypeInfo) (size : Nat) (ht : P.underlying t = some (.slice e)) (hi : P.info? e = some i)
    (v : Value) (n : Nat) (xs : List Value) (hown : w.ownsRow base e size v n xs) (A : Option Addr) (c : Nat) :
    (Builtin.append_ #[t, t] ty #[v, .slice A 0 c]).run P w = .ok v w := by
  rcases hown.2 with ⟨rfl, rfl⟩ | ⟨g, cap, cur, rfl, _, _, hnc, _⟩
  · cases A <;> simp [Builtin.append_, run_underlying ht, sizeOf, typeInfo, hi, Builtin.lenOf, Builtin.firstCells, loadCells, loadCellsFrom]
  · cases A <;> simp [Builtin.append_, run_underlying ht, sizeOf, typeInfo, hi, Builtin.lenOf, Builtin.firstCells, hnc, storeCells, loadCells, loadCellsFrom]
theorem wp_append_fresh {P : Program} {w : World} {o : Oper} {a : Act} {K : Act → World → Prop} {Q : Exit → Act → World → Prop} (s x : Operand) (t : TypeId)
    (ho : o.op = .call { callee := .builtin .append, args := #[s, x], argTypes := #[t, t] })
    (base : Nat) (e : TypeId) (z : Value) (size bytes : Nat) (ht : P.underlying t = some (.slice e)) (hinfo : (P.info? e).map (fun i => (i.zero, i.size, i.bytes)) = some (some z, size, bytes)) (hzs : z.cells.size = size) (hsz : 0 < size)
    (D : Option Addr) (hs : a.eval s = .slice D 0 0) (hown : w.ownsRow base e size (.slice D 0 0) 0 [])
    (A : Option Addr) (m c : Nat) (news : List Value) (hx : a.eval x = .slice A m c) (hl : news.length = m * size) (hnews : 0 < m → ∃ ad, A = some ad ∧ ∀ j u, news[j]? = some u → w.cell? (ad.add j) = some u) (h1 : ∀ u ∈ news, u.oneCell' = true)
    (h63 : m ≤ maxLen) (hbytes : m * bytes ≤ 140737488355328) (hbase : base ≤ w.heap.size)
    (h : ∀ v' w', w'.ownsRow base e size v' m news → Below w.heap.size w w' → K (a.put o.dst v') w') : o.wp P a w K Q := by
  obtain ⟨i, hi, hz, hsize, hby⟩ := info_parts hinfo
  rcases Nat.eq_zero_or_pos m with hm | hm
  · subst hm
    have hn : news = [] := List.eq_nil_of_length_eq_zero (by simpa using hl)
    subst hn
    have hrun := run_append_zero (P := P) w base t o.type e i size ht hi _ 0 [] hown A c
    unfold Oper.wp execOp
    simp only [ho, resolve, invoke, builtin, Sem.run_bind, Sem.run_pure, Result.andThen_ok, List.map_toArray, List.map_cons, List.map_nil, hs, hx, hrun]
    exact h _ _ hown (Below.refl _ _)
  · obtain ⟨ad, rfl, hc⟩ := hnews hm
    have hnone : D = none → (0 : Nat) = 0 ∧ (0 : Nat) = 0 := fun _ => ⟨rfl, rfl⟩
    have key : ∀ v' w', w'.ownsRow w.heap.size e size v' (0 + m) ([] ++ news) → w.grownBy w' none → K (a.put o.dst v') w' := fun v' w' h2 h3 => by
      rw [Nat.zero_add, List.nil_append] at h2
      refine h v' w' ⟨h2.1, ?_⟩ (below_of_grown h3)
      rcases h2.2 with h4 | ⟨g, cap, cur, hv, hb2, r⟩
      · exact .inl h4
      · exact .inr ⟨g, cap, cur, hv, by omega, r⟩
    cases D with
    | some b =>
      obtain ⟨v', w', hrun, r1, r2⟩ := run_append_arg_grows (P := P) w t o.type e i z size bytes ht hi hz hsize hby hzs hsz b 0 0 [] (by simp) (fun j u hj => by simp at hj) ad m c news hl hc (by omega) (by rw [Nat.zero_add]; exact h63) (by rw [Nat.zero_add]; exact hbytes)
      unfold Oper.wp execOp
      simp only [ho, resolve, invoke, builtin, Sem.run_bind, Sem.run_pure, Result.andThen_ok, List.map_toArray, List.map_cons, List.map_nil, hs, hx, hrun]
      exact key _ _ r1 r2
    | none =>
      exact wp_append_size s x t ho w.heap.size e z size bytes ht hinfo hzs hsz (.slice none 0 0) 0 [] hs (World.ownsRow_nil _ _ _ _) ad m c news hx hl hc h1 (by rw [Nat.zero_add]; exact h63) (by rw [Nat.zero_add]; exact hbytes) (Nat.le_refl _) fun v' w' h2 h3 _ => key v' w' h2 h3
/-- An instance that is being made. -/
structure YAt (w : World) (base gx : Nat) (v1 : Value) (z1 : List Int) (v2 : Value) (z2 : List Int) (v3 : Value) (es : List PE) (v4 : Value) (ts : List TimD) (now : Int) : Prop where
  blk : Blk w gx 87 #[v1, v2, v3, v4, .int .i64 now]
  act : Is w base v1 z1
  nums : Is w base v2 z2
  past : GotPast w base v3 es
  tms : GotTims w base v4 ts
  hb : base ≤ gx
section
variable {w w' : World} {base gx : Nat} {v1 : Value} {z1 : List Int} {v2 : Value} {z2 : List Int} {v3 : Value} {es : List PE} {v4 : Value} {ts : List TimD} {now : Int}
theorem YAt.new (h : YAt w base gx v1 z1 v2 z2 v3 es v4 ts now) (hb : Below w.heap.size w w') : YAt w' base gx v1 z1 v2 z2 v3 es v4 ts now :=
  ⟨h.blk.below hb h.blk.lt, Own.below h.act hb (Nat.le_refl _), Own.below h.nums hb (Nat.le_refl _), h.past.below hb (Nat.le_refl _), h.tms.below hb (Nat.le_refl _), h.hb⟩
theorem own_blk_ne {e T : TypeId} {size n : Nat} {v : Value} {xs : List Value} {cs : Array Value} (h : w.ownsRow base e size v n xs) (hB : Blk w gx T cs) (he : e ≠ T) : v.ownBlock = none ∨ v.ownBlock ≠ some gx := by
  cases hv : v.ownBlock with
  | none => exact .inl rfl
  | some q =>
    refine .inr fun e' => ?_
    injection e' with e'
    subst e'
    obtain ⟨cs', hc⟩ := ownsRow_held h hv
    have h2 : w.heap[q]? = some (Obj.cells cs T (0, 0)) := hB
    rw [hc] at h2
    injection h2 with h2
    injection h2 with _ h2 _
    exact he h2
theorem YAt.push {w2 : World} {v' : Value} {p : PastD} {x : Value} (h : YAt w base gx v1 z1 v2 z2 v3 es v4 ts now) (hx : Is w base x p.z)
    (hown : w2.ownsRow base 129 2 v' (es.length + 1) (es.flatMap pastC ++ [.int .i64 p.n, x])) (hg : w.grownBy w2 v3.ownBlock) : YAt (w2.setCell ⟨gx, 2, none⟩ v') base gx v1 z1 v2 z2 v' (es ++ [(p, x)]) v4 ts now := by
  have k0 : some gx ≠ v3.ownBlock := by
    rcases own_blk_ne h.past.own h.blk (by decide) with h2 | h2
    · rw [h2]; simp
    · exact fun e => h2 e.symm
  have k1 : Blk w2 gx 87 _ := h.blk.grown hg k0
  have hsc := grown_setCell w2 gx 2 v'
  have h1 : Is w2 base v1 z1 := World.ownsRow.kept h.act hg (own_type_ne h.act h.past.own (by decide))
  have h2 : Is w2 base v2 z2 := World.ownsRow.kept h.nums hg (own_type_ne h.nums h.past.own (by decide))
  have h3 : GotTims w2 base v4 ts := World.ownsRow.kept h.tms hg (own_type_ne h.tms h.past.own (by decide))
  have h4 := GotPast.push (w := w) h.past hx hown hg
  refine ⟨Blk.set_ k1 2 _, Own.kept h1 hsc (own_blk_ne h1 k1 (by decide)), Own.kept h2 hsc (own_blk_ne h2 k1 (by decide)), h4.grown hsc ?_, World.ownsRow.kept h3 hsc (own_blk_ne h3 k1 (by decide)), h.hb⟩
  intro r hr cs e hc
  injection hr with hr
  subst hr
  have k2 : w2.heap[gx]? = some (Obj.cells _ _ (0, 0)) := k1
  rw [hc] at k2
  injection k2 with k2
  injection k2 with _ k2 _
  subst k2
  exact ⟨by decide, by decide⟩
end
theorem TimRd.cells {w : World} {B : Nat} {A : Option Addr} {ts : List TimD} (h : TimRd w B A ts) (hm : 0 < ts.length) : ∃ ad, A = some ad ∧ ∀ j u, (ts.flatMap timC)[j]? = some u → w.cell? (ad.add j) = some u := by
  obtain ⟨ad, rfl, hb, o, ho, c0, c1, c2⟩ := h 0 hm
  refine ⟨ad, rfl, fun j u hj => ?_⟩
  have hsp : ad = ⟨ad.block, ad.off, none⟩ := by
    obtain ⟨b, o', sp⟩ := ad
    cases sp with
    | none => rfl
    | some s => simp [Addr.add] at ho
  have hjl : j < ts.length * 3 := by
    have h1 := (List.getElem?_eq_some_iff.1 hj).1
    rwa [flat_length timC_len] at h1
  have hk : j / 3 < ts.length := by omega
  obtain ⟨ad2, e2, _, o2, ho2, d0, d1, d2⟩ := h (j / 3) hk
  injection e2 with e2
  subst e2
  have hg := fun r hr => flat_get timC_len ts (j / 3) r hk hr
  have hj3 : j = j / 3 * 3 + j % 3 := by omega
  rw [hsp, lit_add] at ho2
  injection ho2 with _ ho2 _
  have hr : j % 3 = 0 ∨ j % 3 = 1 ∨ j % 3 = 2 := by omega
  rw [hsp, lit_add]
  rcases hr with hr | hr | hr
  · have h2 := hg 0 (by omega)
    rw [hr] at hj3
    rw [← hj3] at h2
    rw [h2] at hj
    injection hj with hj
    subst hj
    have : ad.off + j = o2 := by omega
    rw [this]; exact d0
  · have h2 := hg 1 (by omega)
    rw [hr] at hj3
    rw [← hj3] at h2
    rw [h2] at hj
    injection hj with hj
    subst hj
    have : ad.off + j = o2 + 1 := by omega
    rw [this]; exact d1
  · have h2 := hg 2 (by omega)
    rw [hr] at hj3
    rw [← hj3] at h2
    rw [h2] at hj
    injection hj with hj
    subst hj
    have : ad.off + j = o2 + 2 := by omega
    rw [this]; exact d2
/-- What holds of the copy's making, whatever was carried out so far. -/
structure CpAt (W : World) (x : InstD) (l : Array Bool) (w : World) (s3 s5 s8 s9 s12 s13 s16 s19 : Value) : Prop where
  rd : ∀ i ∈ [1, 2, 5, 6, 9, 10, 12, 13], l.getD i true = true
  o14 : l.getD 14 true = true → l.getD 3 true = true ∧ l.getD 7 true = true ∧ l.getD 11 true = true
  o16 : l.getD 16 true = true → l.getD 14 true = true ∧ l.getD 15 true = true
  below : Below W.heap.size W w
  k5 : l.getD 0 true = true → ∃ D, s5 = .slice D 0 0 ∧ Own w W.heap.size 3 (.slice D 0 0) []
  k8 : l.getD 3 true = true → Is w W.heap.size s8 x.act
  k9 : l.getD 4 true = true → ∃ D, s9 = .slice D 0 0 ∧ Own w W.heap.size 3 (.slice D 0 0) []
  k12 : l.getD 7 true = true → Is w W.heap.size s12 x.nums
  k13 : l.getD 8 true = true → ∃ D, s13 = .slice D 0 0 ∧ GotTims w W.heap.size (.slice D 0 0) []
  k16 : l.getD 11 true = true → GotTims w W.heap.size s16 x.tms
  k19 : l.getD 14 true = true → s19 = .agg #[s8, s12, .slice none 0 0, s16, .int .i64 x.now]
  k3 : l.getD 15 true = true → ∃ g, s3 = .pointer (some ⟨g, 0, none⟩) ∧ W.heap.size ≤ g ∧ Blk w g 87 (if l.getD 16 true = true then #[s8, s12, .slice none 0 0, s16, .int .i64 x.now] else #[.slice none 0 0, .slice none 0 0, .slice none 0 0, .slice none 0 0, .int .i64 0])
section
variable {W w w' : World} {x : InstD} {l : Array Bool} {s3 s5 s8 s9 s12 s13 s16 s19 : Value}
theorem CpAt.grow (h : CpAt W x l w s3 s5 s8 s9 s12 s13 s16 s19) (hb : Below w.heap.size w w') : CpAt W x l w' s3 s5 s8 s9 s12 s13 s16 s19 :=
  { h with
    below := h.below.trans (hb.mono h.below.size)
    k5 := fun q => by obtain ⟨D, e, k⟩ := h.k5 q; exact ⟨D, e, Own.below k hb (Nat.le_refl _)⟩
    k8 := fun q => Own.below (h.k8 q) hb (Nat.le_refl _)
    k9 := fun q => by obtain ⟨D, e, k⟩ := h.k9 q; exact ⟨D, e, Own.below k hb (Nat.le_refl _)⟩
    k12 := fun q => Own.below (h.k12 q) hb (Nat.le_refl _)
    k13 := fun q => by obtain ⟨D, e, k⟩ := h.k13 q; exact ⟨D, e, GotTims.below k hb (Nat.le_refl _)⟩
    k16 := fun q => GotTims.below (h.k16 q) hb (Nat.le_refl _)
    k3 := fun q => by obtain ⟨g, e, h1, h2⟩ := h.k3 q; exact ⟨g, e, h1, h2.below hb h2.lt⟩ }
theorem CpAt.bits (h : CpAt W x l w s3 s5 s8 s9 s12 s13 s16 s19) {i : Nat} (h14 : i ≠ 14) (h16 : i ≠ 16) :
    (∀ j ∈ [1, 2, 5, 6, 9, 10, 12, 13], (l.setIfInBounds i true).getD j true = true) ∧
    ((l.setIfInBounds i true).getD 14 true = true → (l.setIfInBounds i true).getD 3 true = true ∧ (l.setIfInBounds i true).getD 7 true = true ∧ (l.setIfInBounds i true).getD 11 true = true) ∧
    ((l.setIfInBounds i true).getD 16 true = true → (l.setIfInBounds i true).getD 14 true = true ∧ (l.setIfInBounds i true).getD 15 true = true) := by
  refine ⟨fun j hj => getD_set_true (h.rd j hj), fun q => ?_, fun q => ?_⟩
  · obtain ⟨a, b, c⟩ := h.o14 (getD_set_back q h14)
    exact ⟨getD_set_true a, getD_set_true b, getD_set_true c⟩
  · obtain ⟨a, b⟩ := h.o16 (getD_set_back q h16)
    exact ⟨getD_set_true a, getD_set_true b⟩
theorem CpAt.op5 {v : Value} (h : CpAt W x l w s3 s5 s8 s9 s12 s13 s16 s19) (h0 : l.getD 0 true = false) (hv : ∃ D, v = .slice D 0 0 ∧ Own w W.heap.size 3 (.slice D 0 0) []) : CpAt W x (l.setIfInBounds 0 true) w s3 v s8 s9 s12 s13 s16 s19 := by
  obtain ⟨b1, b2, b3⟩ := h.bits (i := 0) (by decide) (by decide)
  exact ⟨b1, b2, b3, h.below,
    fun _ => hv,
    fun q => h.k8 (getD_set_back q (by decide)),
    fun q => h.k9 (getD_set_back q (by decide)),
    fun q => h.k12 (getD_set_back q (by decide)),
    fun q => h.k13 (getD_set_back q (by decide)),
    fun q => h.k16 (getD_set_back q (by decide)),
    fun q => h.k19 (getD_set_back q (by decide)),
    fun q => by
      obtain ⟨g, e1, e2, e3⟩ := h.k3 (getD_set_back q (by decide))
      exact ⟨g, e1, e2, by rw [getD_set_ne true (by decide)]; exact e3⟩⟩
theorem CpAt.op8 {v : Value} (h : CpAt W x l w s3 s5 s8 s9 s12 s13 s16 s19) (h0 : l.getD 3 true = false) (hv : Is w W.heap.size v x.act) : CpAt W x (l.setIfInBounds 3 true) w s3 s5 v s9 s12 s13 s16 s19 := by
  obtain ⟨b1, b2, b3⟩ := h.bits (i := 3) (by decide) (by decide)
  have n14 : l.getD 14 true ≠ true := fun q => by have := h.o14 q; simp_all
  have n16 : l.getD 16 true ≠ true := fun q => by have := h.o16 q; (try have := h.o14 this.1); simp_all
  exact ⟨b1, b2, b3, h.below,
    fun q => h.k5 (getD_set_back q (by decide)),
    fun _ => hv,
    fun q => h.k9 (getD_set_back q (by decide)),
    fun q => h.k12 (getD_set_back q (by decide)),
    fun q => h.k13 (getD_set_back q (by decide)),
    fun q => h.k16 (getD_set_back q (by decide)),
    fun q => absurd (getD_set_back q (by decide)) n14,
    fun q => by
      obtain ⟨g, e1, e2, e3⟩ := h.k3 (getD_set_back q (by decide))
      rw [if_neg n16] at e3
      exact ⟨g, e1, e2, by rw [if_neg (fun q => n16 (getD_set_back q (by decide)))]; exact e3⟩⟩
theorem CpAt.op9 {v : Value} (h : CpAt W x l w s3 s5 s8 s9 s12 s13 s16 s19) (h0 : l.getD 4 true = false) (hv : ∃ D, v = .slice D 0 0 ∧ Own w W.heap.size 3 (.slice D 0 0) []) : CpAt W x (l.setIfInBounds 4 true) w s3 s5 s8 v s12 s13 s16 s19 := by
  obtain ⟨b1, b2, b3⟩ := h.bits (i := 4) (by decide) (by decide)
  exact ⟨b1, b2, b3, h.below,
    fun q => h.k5 (getD_set_back q (by decide)),
    fun q => h.k8 (getD_set_back q (by decide)),
    fun _ => hv,
    fun q => h.k12 (getD_set_back q (by decide)),
    fun q => h.k13 (getD_set_back q (by decide)),
    fun q => h.k16 (getD_set_back q (by decide)),
    fun q => h.k19 (getD_set_back q (by decide)),
    fun q => by
      obtain ⟨g, e1, e2, e3⟩ := h.k3 (getD_set_back q (by decide))
      exact ⟨g, e1, e2, by rw [getD_set_ne true (by decide)]; exact e3⟩⟩
theorem CpAt.op12 {v : Value} (h : CpAt W x l w s3 s5 s8 s9 s12 s13 s16 s19) (h0 : l.getD 7 true = false) (hv : Is w W.heap.size v x.nums) : CpAt W x (l.setIfInBounds 7 true) w s3 s5 s8 s9 v s13 s16 s19 := by
  obtain ⟨b1, b2, b3⟩ := h.bits (i := 7) (by decide) (by decide)
  have n14 : l.getD 14 true ≠ true := fun q => by have := h.o14 q; simp_all
  have n16 : l.getD 16 true ≠ true := fun q => by have := h.o16 q; (try have := h.o14 this.1); simp_all
  exact ⟨b1, b2, b3, h.below,
    fun q => h.k5 (getD_set_back q (by decide)),
    fun q => h.k8 (getD_set_back q (by decide)),
    fun q => h.k9 (getD_set_back q (by decide)),
    fun _ => hv,
    fun q => h.k13 (getD_set_back q (by decide)),
    fun q => h.k16 (getD_set_back q (by decide)),
    fun q => absurd (getD_set_back q (by decide)) n14,
    fun q => by
      obtain ⟨g, e1, e2, e3⟩ := h.k3 (getD_set_back q (by decide))
      rw [if_neg n16] at e3
      exact ⟨g, e1, e2, by rw [if_neg (fun q => n16 (getD_set_back q (by decide)))]; exact e3⟩⟩
theorem CpAt.op13 {v : Value} (h : CpAt W x l w s3 s5 s8 s9 s12 s13 s16 s19) (h0 : l.getD 8 true = false) (hv : ∃ D, v = .slice D 0 0 ∧ GotTims w W.heap.size (.slice D 0 0) []) : CpAt W x (l.setIfInBounds 8 true) w s3 s5 s8 s9 s12 v s16 s19 := by
  obtain ⟨b1, b2, b3⟩ := h.bits (i := 8) (by decide) (by decide)
  exact ⟨b1, b2, b3, h.below,
    fun q => h.k5 (getD_set_back q (by decide)),
    fun q => h.k8 (getD_set_back q (by decide)),
    fun q => h.k9 (getD_set_back q (by decide)),
    fun q => h.k12 (getD_set_back q (by decide)),
    fun _ => hv,
    fun q => h.k16 (getD_set_back q (by decide)),
    fun q => h.k19 (getD_set_back q (by decide)),
    fun q => by
      obtain ⟨g, e1, e2, e3⟩ := h.k3 (getD_set_back q (by decide))
      exact ⟨g, e1, e2, by rw [getD_set_ne true (by decide)]; exact e3⟩⟩
theorem CpAt.op16v {v : Value} (h : CpAt W x l w s3 s5 s8 s9 s12 s13 s16 s19) (h0 : l.getD 11 true = false) (hv : GotTims w W.heap.size v x.tms) : CpAt W x (l.setIfInBounds 11 true) w s3 s5 s8 s9 s12 s13 v s19 := by
  obtain ⟨b1, b2, b3⟩ := h.bits (i := 11) (by decide) (by decide)
  have n14 : l.getD 14 true ≠ true := fun q => by have := h.o14 q; simp_all
  have n16 : l.getD 16 true ≠ true := fun q => by have := h.o16 q; (try have := h.o14 this.1); simp_all
  exact ⟨b1, b2, b3, h.below,
    fun q => h.k5 (getD_set_back q (by decide)),
    fun q => h.k8 (getD_set_back q (by decide)),
    fun q => h.k9 (getD_set_back q (by decide)),
    fun q => h.k12 (getD_set_back q (by decide)),
    fun q => h.k13 (getD_set_back q (by decide)),
    fun _ => hv,
    fun q => absurd (getD_set_back q (by decide)) n14,
    fun q => by
      obtain ⟨g, e1, e2, e3⟩ := h.k3 (getD_set_back q (by decide))
      rw [if_neg n16] at e3
      exact ⟨g, e1, e2, by rw [if_neg (fun q => n16 (getD_set_back q (by decide)))]; exact e3⟩⟩
theorem CpAt.op3 {v : Value} (h : CpAt W x l w s3 s5 s8 s9 s12 s13 s16 s19) (h0 : l.getD 15 true = false) (hv : ∃ g, v = .pointer (some ⟨g, 0, none⟩) ∧ W.heap.size ≤ g ∧ Blk w g 87 #[.slice none 0 0, .slice none 0 0, .slice none 0 0, .slice none 0 0, .int .i64 0]) : CpAt W x (l.setIfInBounds 15 true) w v s5 s8 s9 s12 s13 s16 s19 := by
  obtain ⟨b1, b2, b3⟩ := h.bits (i := 15) (by decide) (by decide)
  have n16 : l.getD 16 true ≠ true := fun q => by have := h.o16 q; (try have := h.o14 this.1); simp_all
  exact ⟨b1, b2, b3, h.below,
    fun q => h.k5 (getD_set_back q (by decide)),
    fun q => h.k8 (getD_set_back q (by decide)),
    fun q => h.k9 (getD_set_back q (by decide)),
    fun q => h.k12 (getD_set_back q (by decide)),
    fun q => h.k13 (getD_set_back q (by decide)),
    fun q => h.k16 (getD_set_back q (by decide)),
    fun q => h.k19 (getD_set_back q (by decide)),
    fun _ => by
      obtain ⟨g, e1, e2, e3⟩ := hv
      exact ⟨g, e1, e2, by rw [if_neg (fun q => n16 (getD_set_back q (by decide)))]; exact e3⟩⟩
theorem CpAt.op19 (h : CpAt W x l w s3 s5 s8 s9 s12 s13 s16 s19) (h0 : l.getD 14 true = false) (p3 : l.getD 3 true = true) (p7 : l.getD 7 true = true) (p11 : l.getD 11 true = true) : CpAt W x (l.setIfInBounds 14 true) w s3 s5 s8 s9 s12 s13 s16 (.agg #[s8, s12, .slice none 0 0, s16, .int .i64 x.now]) := by
  have n16 : l.getD 16 true ≠ true := fun q => by have := h.o16 q; simp_all
  exact ⟨fun j hj => getD_set_true (h.rd j hj), fun _ => ⟨getD_set_true p3, getD_set_true p7, getD_set_true p11⟩, fun q => absurd (getD_set_back q (by decide)) n16, h.below,
    fun q => h.k5 (getD_set_back q (by decide)), fun q => h.k8 (getD_set_back q (by decide)), fun q => h.k9 (getD_set_back q (by decide)), fun q => h.k12 (getD_set_back q (by decide)), fun q => h.k13 (getD_set_back q (by decide)), fun q => h.k16 (getD_set_back q (by decide)), fun _ => rfl,
    fun q => by
      obtain ⟨g, e1, e2, e3⟩ := h.k3 (getD_set_back q (by decide))
      exact ⟨g, e1, e2, by rw [getD_set_ne true (by decide)]; exact e3⟩⟩

theorem CpAt.op16 (h : CpAt W x l w s3 s5 s8 s9 s12 s13 s16 s19) {g : Nat} {cs : Array Value} (e3 : s3 = .pointer (some ⟨g, 0, none⟩)) (hle : W.heap.size ≤ g) (hB : Blk w g 87 cs) (p14 : l.getD 14 true = true) (p15 : l.getD 15 true = true)
    (hg : w.grownBy w' (some g)) (hB' : Blk w' g 87 #[s8, s12, .slice none 0 0, s16, .int .i64 x.now]) : CpAt W x (l.setIfInBounds 16 true) w' s3 s5 s8 s9 s12 s13 s16 s19 := by
  have hbW : W.heap.size ≤ w.heap.size := h.below.size
  have kI : ∀ v (z : List Value), Own w W.heap.size 3 v z → Own w' W.heap.size 3 v z := fun v z hv => Own.kept hv hg (own_blk_ne hv hB (by decide))
  have kT : ∀ v (z : List TimD), GotTims w W.heap.size v z → GotTims w' W.heap.size v z := fun v z hv => World.ownsRow.kept hv hg (own_blk_ne hv hB (by decide))
  refine ⟨fun j hj => getD_set_true (h.rd j hj), fun q => ?_, fun _ => ⟨getD_set_true p14, getD_set_true p15⟩, h.below.grown hg hbW (fun j hj => by injection hj with hj; omega),
    fun q => ?_, fun q => kI _ _ (h.k8 (getD_set_back q (by decide))), fun q => ?_, fun q => kI _ _ (h.k12 (getD_set_back q (by decide))), fun q => ?_, fun q => kT _ _ (h.k16 (getD_set_back q (by decide))), fun q => h.k19 (getD_set_back q (by decide)),
    fun _ => ⟨g, e3, hle, by rw [if_pos getD_set_self]; exact hB'⟩⟩
  · obtain ⟨a, b, c⟩ := h.o14 (getD_set_back q (by decide))
    exact ⟨getD_set_true a, getD_set_true b, getD_set_true c⟩
  · obtain ⟨D, e, k⟩ := h.k5 (getD_set_back q (by decide))
    exact ⟨D, e, kI _ _ k⟩
  · obtain ⟨D, e, k⟩ := h.k9 (getD_set_back q (by decide))
    exact ⟨D, e, kI _ _ k⟩
  · obtain ⟨D, e, k⟩ := h.k13 (getD_set_back q (by decide))
    exact ⟨D, e, kT _ _ k⟩
end
theorem results_inst1 {fn : Func} (h : fn.results = #[.cell 2 87]) (tmps : Array Value) (W : World) (g : Nat) (a b c d e : Value) (hp : tmps[2]?.getD undef = .pointer (some ⟨g, 0, none⟩)) (hB : Blk W g 87 #[a, b, c, d, e]) :
    (results fn tmps).run Try.prog W = .ok (.agg #[a, b, c, d, e]) W := by
  have e0 := hB.cell 0
  have e1 := hB.cell 1
  have e2 := hB.cell 2
  have e3 := hB.cell 3
  have e4 := hB.cell 4
  simp at e0 e1 e2 e3 e4
  simp [results, h, go_sem, hp, e0, e1, e2, e3, e4]
theorem GotTims.mono {w : World} {base base' : Nat} {v : Value} {ts : List TimD} (h : GotTims w base v ts) (hb : base' ≤ base) : GotTims w base' v ts := by
  refine ⟨h.1, ?_⟩
  rcases h.2 with h2 | ⟨g, cap, cur, hv, hb2, r⟩
  · exact .inl h2
  · exact .inr ⟨g, cap, cur, hv, by omega, r⟩
set_option maxHeartbeats 4000000 in
set_option maxRecDepth 100000 in
theorem copied_any (x : InstD) (A1 : Option Addr) (c1 : Nat) (A2 : Option Addr) (c2 : Nat) (A3 : Option Addr) (c3 : Nat) (A4 : Option Addr) (c4 : Nat) (w : World) (hR : InstRd w w.heap.size x A1 c1 A2 c2 A3 c3 A4 c4) :
    Calls Try.prog 68 #[instV x A1 c1 A2 c2 A3 c3 A4 c4] w fun e w' => ∃ V, e = .returned V ∧ GotInst w' w.heap.size V x ∧ Below w.heap.size w w' := by
  unfold instV
  have hbA := (Below.refl w.heap.size w).alloc (Nat.le_refl _) (.cells #[.slice A1 x.act.length c1, .slice A2 x.nums.length c2, .slice A3 x.past.length c3, .slice A4 x.tms.length c4, .int .i64 x.now] 87)
  have hKA := Blk.new w 87 #[.slice A1 x.act.length c1, .slice A2 x.nums.length c2, .slice A3 x.past.length c3, .slice A4 x.tms.length c4, .int .i64 x.now]
  have hsA : (w.alloc (.cells #[.slice A1 x.act.length c1, .slice A2 x.nums.length c2, .slice A3 x.past.length c3, .slice A4 x.tms.length c4, .int .i64 x.now] 87)).heap.size = w.heap.size + 1 := by simp
  have HR := Lib.hid hR
  clear hR
  go_enter Try.func68, Try.ntmps68
  go_upto_region 1 with fail
  have hbB := hbA.alloc (by omega) (.cells #[.slice none 0 0, .slice none 0 0, .slice none 0 0, .slice none 0 0, .int .i64 0] 87)
  have HKA := Lib.hid (hKA.alloc (.cells #[.slice none 0 0, .slice none 0 0, .slice none 0 0, .slice none 0 0, .int .i64 0] 87))
  have HKB : Hid (Blk _ (w.heap.size + 1) _ _) := Lib.hid (by rw [← hsA]; exact Blk.new (w.alloc (.cells #[.slice A1 x.act.length c1, .slice A2 x.nums.length c2, .slice A3 x.past.length c3, .slice A4 x.tms.length c4, .int .i64 x.now] 87)) 87 #[.slice none 0 0, .slice none 0 0, .slice none 0 0, .slice none 0 0, .int .i64 0])
  have HB0 := Lib.hid hbB
  have hs0 : w.heap.size + 2 ≤ ((w.alloc (.cells #[.slice A1 x.act.length c1, .slice A2 x.nums.length c2, .slice A3 x.past.length c3, .slice A4 x.tms.length c4, .int .i64 x.now] 87)).alloc (.cells #[.slice none 0 0, .slice none 0 0, .slice none 0 0, .slice none 0 0, .int .i64 0] 87)).heap.size := by simp
  clear hbA hKA hsA hbB
  generalize (w.alloc (.cells #[.slice A1 x.act.length c1, .slice A2 x.nums.length c2, .slice A3 x.past.length c3, .slice A4 x.tms.length c4, .int .i64 x.now] 87)).alloc (.cells #[.slice none 0 0, .slice none 0 0, .slice none 0 0, .slice none 0 0, .int .i64 0] 87) = w0 at HKA HKB HB0 hs0 ⊢
  have HR0 := Lib.hid (HR.out.below HB0.out (Nat.le_refl _))
  clear HR
  obtain ⟨⟨e0, _⟩, ⟨e1, _⟩, ⟨e2, _⟩, ⟨e3, _⟩, ⟨e4, _⟩⟩ := blk5_fr HKA.out
  go_cut [3] (fun s3 wx => ∃ gy v1 v2 v4, s3 = .pointer (some ⟨gy, 0, none⟩) ∧ Hid (YAt wx w0.heap.size gy v1 x.act v2 x.nums (.slice none 0 0) [] v4 x.tms x.now) ∧ Hid (Below w0.heap.size w0 wx))
  case first =>
    refine wp_region_held_drew (S := fun W => W.cell? ⟨w.heap.size, 0, none⟩ = some (.slice A1 x.act.length c1) ∧ W.cell? ⟨w.heap.size, 1, none⟩ = some (.slice A2 x.nums.length c2) ∧ W.cell? ⟨w.heap.size, 3, none⟩ = some (.slice A4 x.tms.length c4) ∧ W.cell? ⟨w.heap.size, 4, none⟩ = some (.int .i64 x.now)) (by kernel_rfl) ⟨e0, e1, e3, e4⟩ (fun hHeld => ?_)
    refine held_take 1 (v := ?_) (by simp) (by kernel_rfl) (by kernel_rfl) (by kernel_rfl) (fun _ _ _ h => h) (Or.inl ⟨by rfl, ?_⟩) hHeld ?_
    case refine_2 => (intro w hSw; (try dsimp only at hSw); (try (obtain ⟨s0, s1, s2, s3⟩ := hSw)); simp only [List.getElem_cons_zero, List.getElem_cons_succ]; go_simp <;> with_reducible rfl)
    simp only [List.getElem_cons_zero, List.getElem_cons_succ, Act.put, List.setIfInBounds_toArray, List.set_cons_zero, List.set_cons_succ]
    refine held_take 2 (v := ?_) (by simp) (by kernel_rfl) (by kernel_rfl) (by kernel_rfl) (fun _ _ _ h => h) (Or.inl ⟨by rfl, ?_⟩) hHeld ?_
    case refine_2 => (intro w hSw; (try dsimp only at hSw); (try (obtain ⟨s0, s1, s2, s3⟩ := hSw)); simp only [List.getElem_cons_zero, List.getElem_cons_succ]; go_simp <;> with_reducible rfl)
    simp only [List.getElem_cons_zero, List.getElem_cons_succ, Act.put, List.setIfInBounds_toArray, List.set_cons_zero, List.set_cons_succ]
    refine held_take 5 (v := ?_) (by simp) (by kernel_rfl) (by kernel_rfl) (by kernel_rfl) (fun _ _ _ h => h) (Or.inl ⟨by rfl, ?_⟩) hHeld ?_
    case refine_2 => (intro w hSw; (try dsimp only at hSw); (try (obtain ⟨s0, s1, s2, s3⟩ := hSw)); simp only [List.getElem_cons_zero, List.getElem_cons_succ]; go_simp <;> with_reducible rfl)
    simp only [List.getElem_cons_zero, List.getElem_cons_succ, Act.put, List.setIfInBounds_toArray, List.set_cons_zero, List.set_cons_succ]
    refine held_take 6 (v := ?_) (by simp) (by kernel_rfl) (by kernel_rfl) (by kernel_rfl) (fun _ _ _ h => h) (Or.inl ⟨by rfl, ?_⟩) hHeld ?_
    case refine_2 => (intro w hSw; (try dsimp only at hSw); (try (obtain ⟨s0, s1, s2, s3⟩ := hSw)); simp only [List.getElem_cons_zero, List.getElem_cons_succ]; go_simp <;> with_reducible rfl)
    simp only [List.getElem_cons_zero, List.getElem_cons_succ, Act.put, List.setIfInBounds_toArray, List.set_cons_zero, List.set_cons_succ]
    refine held_take 9 (v := ?_) (by simp) (by kernel_rfl) (by kernel_rfl) (by kernel_rfl) (fun _ _ _ h => h) (Or.inl ⟨by rfl, ?_⟩) hHeld ?_
    case refine_2 => (intro w hSw; (try dsimp only at hSw); (try (obtain ⟨s0, s1, s2, s3⟩ := hSw)); simp only [List.getElem_cons_zero, List.getElem_cons_succ]; go_simp <;> with_reducible rfl)
    simp only [List.getElem_cons_zero, List.getElem_cons_succ, Act.put, List.setIfInBounds_toArray, List.set_cons_zero, List.set_cons_succ]
    refine held_take 10 (v := ?_) (by simp) (by kernel_rfl) (by kernel_rfl) (by kernel_rfl) (fun _ _ _ h => h) (Or.inl ⟨by rfl, ?_⟩) hHeld ?_
    case refine_2 => (intro w hSw; (try dsimp only at hSw); (try (obtain ⟨s0, s1, s2, s3⟩ := hSw)); simp only [List.getElem_cons_zero, List.getElem_cons_succ]; go_simp <;> with_reducible rfl)
    simp only [List.getElem_cons_zero, List.getElem_cons_succ, Act.put, List.setIfInBounds_toArray, List.set_cons_zero, List.set_cons_succ]
    refine held_take 12 (v := ?_) (by simp) (by kernel_rfl) (by kernel_rfl) (by kernel_rfl) (fun _ _ _ h => h) (Or.inl ⟨by rfl, ?_⟩) hHeld ?_
    case refine_2 => (intro w hSw; (try dsimp only at hSw); (try (obtain ⟨s0, s1, s2, s3⟩ := hSw)); simp only [List.getElem_cons_zero, List.getElem_cons_succ]; go_simp <;> with_reducible rfl)
    simp only [List.getElem_cons_zero, List.getElem_cons_succ, Act.put, List.setIfInBounds_toArray, List.set_cons_zero, List.set_cons_succ]
    refine held_take 13 (v := ?_) (by simp) (by kernel_rfl) (by kernel_rfl) (by kernel_rfl) (fun _ _ _ h => h) (Or.inl ⟨by rfl, ?_⟩) hHeld ?_
    case refine_2 => (intro w hSw; (try dsimp only at hSw); (try (obtain ⟨s0, s1, s2, s3⟩ := hSw)); simp only [List.getElem_cons_zero, List.getElem_cons_succ]; go_simp <;> with_reducible rfl)
    simp only [List.getElem_cons_zero, List.getElem_cons_succ, Act.put, List.setIfInBounds_toArray, List.set_cons_zero, List.set_cons_succ]
    refine wpAnyH_inv (I := fun l a wv => ∃ s3 s5 s8 s9 s12 s13 s16 s19, a = ⟨#[.agg #[.slice A1 x.act.length c1, .slice A2 x.nums.length c2, .slice A3 x.past.length c3, .slice A4 x.tms.length c4, .int .i64 x.now], .pointer (some ⟨w.heap.size, 0, none⟩), .pointer (some ⟨w.heap.size + 1, 0, none⟩), s3, undef, s5, .pointer (some ⟨w.heap.size, 0, none⟩), .slice A1 x.act.length c1, s8, s9, .pointer (some ⟨w.heap.size, 1, none⟩), .slice A2 x.nums.length c2, s12, s13, .pointer (some ⟨w.heap.size, 3, none⟩), .slice A4 x.tms.length c4, s16, .pointer (some ⟨w.heap.size, 4, none⟩), .int .i64 x.now, s19, undef, undef, undef, undef, undef, undef, undef, undef, undef, undef, undef, undef, undef, undef, undef, undef, undef, undef, undef, undef, undef, undef, undef, undef, undef, undef, undef, undef], []⟩ ∧ CpAt w0 x l wv s3 s5 s8 s9 s12 s13 s16 s19) (by kernel_rfl) ?_ ?_ ?_ _ _ _ _ (by decide) ⟨undef, undef, undef, undef, undef, undef, undef, undef, rfl, ?_⟩
    · rintro l a wv ⟨s3, s5, s8, s9, s12, s13, s16, s19, -, hC⟩
      exact ⟨(hC.below.cell (p := ⟨w.heap.size, 0, none⟩) (by show w.heap.size < _; omega)).trans e0, (hC.below.cell (p := ⟨w.heap.size, 1, none⟩) (by show w.heap.size < _; omega)).trans e1, (hC.below.cell (p := ⟨w.heap.size, 3, none⟩) (by show w.heap.size < _; omega)).trans e3, (hC.below.cell (p := ⟨w.heap.size, 4, none⟩) (by show w.heap.size < _; omega)).trans e4⟩
    · rintro l a wv ⟨s3, s5, s8, s9, s12, s13, s16, s19, rfl, hC⟩ hall
      obtain ⟨g, rfl, hle, hB⟩ := hC.k3 (hall 15 (by decide))
      rw [if_pos (hall 16 (by decide))] at hB
      have hY : Hid (YAt wv w0.heap.size g s8 x.act s12 x.nums (.slice none 0 0) [] s16 x.tms x.now) := Lib.hid ⟨hB, hC.k8 (hall 3 (by decide)), hC.k12 (hall 7 (by decide)), GotPast.nil _ _, hC.k16 (hall 11 (by decide)), hle⟩
      have hbl := Lib.hid hC.below
      clear hC hall hB e0 e1 e2 e3 e4
      go_wp2_with fail
      go_meet
      exact ⟨g, s8, s12, s16, rfl, hY, hbl⟩
    · rintro i o l a wv ho h0 hpre ⟨s3, s5, s8, s9, s12, s13, s16, s19, rfl, hC⟩ K hK
      have hi : i < 17 := (Array.getElem?_eq_some_iff.1 ho).1
      clear e0 e1 e2 e3 e4
      obtain rfl | rfl | rfl | rfl | rfl | rfl | rfl | rfl | rfl | rfl | rfl | rfl | rfl | rfl | rfl | rfl | rfl : i = 0 ∨ i = 1 ∨ i = 2 ∨ i = 3 ∨ i = 4 ∨ i = 5 ∨ i = 6 ∨ i = 7 ∨ i = 8 ∨ i = 9 ∨ i = 10 ∨ i = 11 ∨ i = 12 ∨ i = 13 ∨ i = 14 ∨ i = 15 ∨ i = 16 := by omega
      all_goals (simp only [List.getElem?_toArray, List.getElem?_cons_succ, List.getElem?_cons_zero, Option.some.injEq] at ho; subst ho; clear hi)
      any_goals (exfalso; first | (have q := hC.rd 1 (by decide); rw [h0] at q; cases q; done) | (have q := hC.rd 2 (by decide); rw [h0] at q; cases q; done) | (have q := hC.rd 5 (by decide); rw [h0] at q; cases q; done) | (have q := hC.rd 6 (by decide); rw [h0] at q; cases q; done) | (have q := hC.rd 9 (by decide); rw [h0] at q; cases q; done) | (have q := hC.rd 10 (by decide); rw [h0] at q; cases q; done) | (have q := hC.rd 12 (by decide); rw [h0] at q; cases q; done) | (have q := hC.rd 13 (by decide); rw [h0] at q; cases q; done))
      all_goals (rw [if_pos (by rfl)])
      · have hK' := Lib.hid hK
        have hC' := Lib.hid hC
        clear hK hC hpre
        go_simp
        exact hK'.out _ _ ⟨s3, _, s8, s9, s12, s13, s16, s19, rfl, (hC'.out.grow ((Below.refl _ wv).alloc (Nat.le_refl _) _)).op5 h0 ⟨_, rfl, World.ownsRow_lit wv #[] 0 hC'.out.below.size (by decide) rfl⟩⟩
      · obtain ⟨D, rfl, hD⟩ := hC.k5 (hpre ⟨0, .data⟩ (by simp) rfl)
        refine wp_append_fresh (.tmp 5) (.tmp 7) 41 rfl w0.heap.size 3 (.int .i64 0) 1 8 Try.underlying41 info_int rfl (by decide) D rfl hD A1 x.act.length c1 (x.act.map (Value.int .i64)) rfl (by simp) (fun hm => by obtain ⟨ad, e, hb, hc⟩ := ((HR0.out.act.more (by omega)).below hC.below) (by simpa using hm); exact ⟨ad, e, hc⟩) (by simp [Value.oneCell']) (by have := HR0.out.r1; unfold maxLen; omega) (by have := HR0.out.r1; omega) hC.below.size ?_
        intro v' w' h2 h3
        have h4 : Is w' w0.heap.size v' x.act := by unfold Is Own; rw [List.length_map]; exact h2
        exact hK _ _ ⟨s3, _, _, s9, s12, s13, s16, s19, rfl, (hC.grow h3).op8 h0 h4⟩
      · have hK' := Lib.hid hK
        have hC' := Lib.hid hC
        clear hK hC hpre
        go_simp
        exact hK'.out _ _ ⟨s3, s5, s8, _, s12, s13, s16, s19, rfl, (hC'.out.grow ((Below.refl _ wv).alloc (Nat.le_refl _) _)).op9 h0 ⟨_, rfl, World.ownsRow_lit wv #[] 0 hC'.out.below.size (by decide) rfl⟩⟩
      · obtain ⟨D, rfl, hD⟩ := hC.k9 (hpre ⟨4, .data⟩ (by simp) rfl)
        refine wp_append_fresh (.tmp 9) (.tmp 11) 41 rfl w0.heap.size 3 (.int .i64 0) 1 8 Try.underlying41 info_int rfl (by decide) D rfl hD A2 x.nums.length c2 (x.nums.map (Value.int .i64)) rfl (by simp) (fun hm => by obtain ⟨ad, e, hb, hc⟩ := ((HR0.out.nums.more (by omega)).below hC.below) (by simpa using hm); exact ⟨ad, e, hc⟩) (by simp [Value.oneCell']) (by have := HR0.out.r2; unfold maxLen; omega) (by have := HR0.out.r2; omega) hC.below.size ?_
        intro v' w' h2 h3
        have h4 : Is w' w0.heap.size v' x.nums := by unfold Is Own; rw [List.length_map]; exact h2
        exact hK _ _ ⟨s3, s5, s8, _, _, s13, s16, s19, rfl, (hC.grow h3).op12 h0 h4⟩
      · have hK' := Lib.hid hK
        have hC' := Lib.hid hC
        clear hK hC hpre
        go_simp
        exact hK'.out _ _ ⟨s3, s5, s8, s9, s12, _, s16, s19, rfl, (hC'.out.grow ((Below.refl _ wv).alloc (Nat.le_refl _) _)).op13 h0 ⟨_, rfl, World.ownsRow_lit wv #[] 0 hC'.out.below.size (by decide) rfl⟩⟩
      · obtain ⟨D, rfl, hD⟩ := hC.k13 (hpre ⟨8, .data⟩ (by simp) rfl)
        refine wp_append_fresh (.tmp 13) (.tmp 15) 85 rfl w0.heap.size 136 (.agg #[.int .i64 0, .int .i64 0, .int .i64 0]) 3 24 Try.underlying85 info_tim rfl (by decide) D rfl hD A4 x.tms.length c4 (x.tms.flatMap timC) rfl (flat_length timC_len _) (fun hm => ((HR0.out.tms.more (by omega)).below hC.below (Nat.le_refl _)).cells hm) (by intro u hu; obtain ⟨t, _, ht⟩ := List.mem_flatMap.1 hu; simp [timC] at ht; rcases ht with rfl | rfl | rfl <;> rfl) (by have := HR0.out.r4; unfold maxLen; omega) (by have := HR0.out.r4; omega) hC.below.size ?_
        intro v' w' h2 h3
        exact hK _ _ ⟨s3, s5, s8, s9, s12, _, _, s19, rfl, (hC.grow h3).op16v h0 h2⟩
      · have p3 := hpre ⟨3, .data⟩ (by simp) rfl
        have p7 := hpre ⟨7, .data⟩ (by simp) rfl
        have p11 := hpre ⟨11, .data⟩ (by simp) rfl
        obtain ⟨a8, q8, rfl, -, -, -⟩ := is_shape (hC.k8 p3)
        obtain ⟨a12, q12, rfl, -, -, -⟩ := is_shape (hC.k12 p7)
        obtain ⟨a16, q16, rfl, -, -, -⟩ := own_row_shape (hC.k16 p11)
        have hK' := Lib.hid hK
        have hC' := Lib.hid (And.intro hC (And.intro p3 (And.intro p7 p11)))
        clear hK hC hpre p3 p7 p11
        go_simp
        exact hK'.out _ _ ⟨s3, s5, _, s9, _, s13, _, _, rfl, hC'.out.1.op19 h0 hC'.out.2.1 hC'.out.2.2.1 hC'.out.2.2.2⟩
      · have hK' := Lib.hid hK
        have hC' := Lib.hid hC
        clear hK hC hpre
        go_simp
        exact hK'.out _ _ ⟨_, s5, s8, s9, s12, s13, s16, s19, rfl, (hC'.out.grow ((Below.refl _ wv).alloc (Nat.le_refl _) _)).op3 h0 ⟨wv.heap.size, rfl, hC'.out.below.size, Blk.new _ _ _⟩⟩
      · have p14 := hpre ⟨14, .data⟩ (by simp) rfl
        have p15 := hpre ⟨15, .data⟩ (by simp) rfl
        obtain ⟨p3, p7, p11⟩ := hC.o14 p14
        obtain ⟨g, rfl, hle, hB⟩ := hC.k3 p15
        rw [if_neg (by rw [h0]; decide)] at hB
        have e19 := hC.k19 p14
        subst e19
        obtain ⟨a8, q8, rfl, -, -, -⟩ := is_shape (hC.k8 p3)
        obtain ⟨a12, q12, rfl, -, -, -⟩ := is_shape (hC.k12 p7)
        obtain ⟨a16, q16, rfl, -, -, -⟩ := own_row_shape (hC.k16 p11)
        obtain ⟨⟨b0, f0⟩, ⟨b1, f1⟩, ⟨b2, f2⟩, ⟨b3, f3⟩, ⟨b4, f4⟩⟩ := blk5_fr hB
        have hK' := Lib.hid hK
        have hC' := Lib.hid (And.intro hC (And.intro hle (And.intro hB (And.intro p14 p15))))
        clear hK hC hpre p3 p7 p11 p14 p15 hB hle
        go_simp
        refine hK'.out _ _ ⟨_, s5, _, s9, _, s13, _, _, rfl, hC'.out.1.op16 rfl hC'.out.2.1 hC'.out.2.2.1 hC'.out.2.2.2.1 hC'.out.2.2.2.2 (grown_s5 wv g _ _ _ _ _) ?_⟩
        exact ((((hC'.out.2.2.1.set_ 0 _).set_ 1 _).set_ 2 _).set_ 3 _).set_ 4 _
    · refine ⟨by decide, fun q => ?_, fun q => ?_, (Below.refl _ w0).drew, fun q => ?_, fun q => ?_, fun q => ?_, fun q => ?_, fun q => ?_, fun q => ?_, fun q => ?_, fun q => ?_⟩
      all_goals (exfalso; revert q; decide)
  case rest =>
    obtain ⟨gy, v1, v2, v4, rfl, hY, hb1⟩ := hcut
    clear e0 e1 e2 e3 e4
    go_wp2_with fail
    go_loopw [4] (fun i wq => ∃ (k : Nat) (v3 : Value) (es : List PE), i = .int .i64 k ∧ k ≤ x.past.length ∧ Hid (es.map (·.1) = x.past.take k ∧ es.length = k) ∧ Hid (YAt wq w0.heap.size gy v1 x.act v2 x.nums v3 es v4 x.tms x.now) ∧ Hid (Below w0.heap.size w0 wq)) (fun i _ => x.past.length - (intOf i).toNat)
    case atStart => exact ⟨0, .slice none 0 0, [], rfl, Nat.zero_le _, Lib.hid ⟨rfl, rfl⟩, hY, hb1⟩
    case round =>
      obtain ⟨k, v3, es, rfl, hk, HES, HY, HB⟩ := hrel
      clear hY hb1
      have hs0r := HB.out.size
      have hKr := HKA.out.below HB.out (by omega)
      obtain ⟨⟨e0, _⟩, ⟨e1, _⟩, ⟨e2, _⟩, ⟨e3, _⟩, ⟨e4, _⟩⟩ := blk5_fr hKr
      by_cases hlt : k < x.past.length
      · have hltI : (k : Int) < x.past.length := by omega
        obtain ⟨ad, rfl, had, o, Az, cz, hao, p0, p1, hz, hzc, hzm⟩ := (HR0.out.past.below HB.out (by omega)) k hlt
        have HZL := Lib.hid (HR0.out.rz _ (List.getElem_mem hlt))
        have HST : Hid (x.past.take (k + 1) = x.past.take k ++ [x.past[k]]) := Lib.hid (List.take_succ_eq_append_getElem hlt)
        have HPL := Lib.hid HR0.out.r3
        have hkb : k < 9223372036854775807 := by have := HPL.out; omega
        generalize x.past[k] = q at p0 p1 hz hzc HZL HST
        have HZ := Lib.hid hz
        obtain ⟨⟨y0, _⟩, ⟨y1, _⟩, ⟨y2, _⟩, ⟨y3, _⟩, ⟨y4, _⟩⟩ := blk5_fr HY.out.blk
        have hgy := HY.out.blk.lt
        have HGY := Lib.hid HY.out.hb
        have HKR := Lib.hid hKr
        have HP0 := Lib.hid p0
        have HP1 := Lib.hid p1
        clear hz hKr
        go_wp2_with fail
        refine wp_region_heldT 20 (by kernel_rfl) (S := fun W => W.cell? ⟨gy, 2, none⟩ = some v3 ∧ W.cell? ⟨w.heap.size, 2, none⟩ = some (.slice (some ad) x.past.length c3) ∧ W.cell? ⟨ad.block, o, none⟩ = some (.int .i64 q.n) ∧ W.cell? ⟨ad.block, o + 1, none⟩ = some (.slice Az q.z.length cz)) ⟨y2, e2, p0, p1⟩ (fun hHeld => ?_)
        refine heldT_take 0 (v := ?_) (by simp) (by kernel_rfl) (by kernel_rfl) (by kernel_rfl) (by kernel_rfl) (fun _ _ _ h => h) (Or.inl ⟨by rfl, ?_⟩) hHeld ?_
        case refine_2 => (intro w hSw; (try dsimp only at hSw); (try (obtain ⟨s0, s1, s2, s3⟩ := hSw)); simp only [List.getElem_cons_zero]; go_simp <;> with_reducible rfl)
        simp only [List.getElem_cons_zero, Act.put, List.setIfInBounds_toArray, List.set_cons_zero, List.set_cons_succ]
        refine heldT_take 1 (v := ?_) (by simp) (by kernel_rfl) (by kernel_rfl) (by kernel_rfl) (by kernel_rfl) (fun _ _ _ h => h) (Or.inl ⟨by rfl, ?_⟩) hHeld ?_
        case refine_2 => (intro w hSw; (try dsimp only at hSw); (try (obtain ⟨s0, s1, s2, s3⟩ := hSw)); simp only [List.getElem_cons_zero, List.getElem_cons_succ]; go_simp <;> with_reducible rfl)
        simp only [List.getElem_cons_zero, List.getElem_cons_succ, Act.put, List.setIfInBounds_toArray, List.set_cons_zero, List.set_cons_succ]
        refine heldT_take 2 (v := ?_) (by simp) (by kernel_rfl) (by kernel_rfl) (by kernel_rfl) (by kernel_rfl) (fun _ _ _ h => h) (Or.inl ⟨by rfl, ?_⟩) hHeld ?_
        case refine_2 => (intro w hSw; (try dsimp only at hSw); (try (obtain ⟨s0, s1, s2, s3⟩ := hSw)); simp only [List.getElem_cons_zero, List.getElem_cons_succ]; go_simp <;> with_reducible rfl)
        simp only [List.getElem_cons_zero, List.getElem_cons_succ, Act.put, List.setIfInBounds_toArray, List.set_cons_zero, List.set_cons_succ]
        refine heldT_take 3 (v := ?_) (by simp) (by kernel_rfl) (by kernel_rfl) (by kernel_rfl) (by kernel_rfl) (fun _ _ _ h => h) (Or.inl ⟨by rfl, ?_⟩) hHeld ?_
        case refine_2 => (intro w hSw; (try dsimp only at hSw); (try (obtain ⟨s0, s1, s2, s3⟩ := hSw)); simp only [List.getElem_cons_zero, List.getElem_cons_succ]; go_simp <;> with_reducible rfl)
        simp only [List.getElem_cons_zero, List.getElem_cons_succ, Act.put, List.setIfInBounds_toArray, List.set_cons_zero, List.set_cons_succ]
        refine heldT_take 4 (v := ?_) (by simp) (by kernel_rfl) (by kernel_rfl) (by kernel_rfl) (by kernel_rfl) (fun _ _ _ h => h) (Or.inl ⟨by rfl, ?_⟩) hHeld ?_
        case refine_2 => (intro w hSw; (try dsimp only at hSw); (try (obtain ⟨s0, s1, s2, s3⟩ := hSw)); simp only [List.getElem_cons_zero, List.getElem_cons_succ]; go_simp <;> with_reducible rfl)
        simp only [List.getElem_cons_zero, List.getElem_cons_succ, Act.put, List.setIfInBounds_toArray, List.set_cons_zero, List.set_cons_succ]
        refine heldT_take 5 (v := ?_) (by simp) (by kernel_rfl) (by kernel_rfl) (by kernel_rfl) (by kernel_rfl) (fun _ _ _ h => h) (Or.inl ⟨by rfl, ?_⟩) hHeld ?_
        case refine_2 => (intro w hSw; (try dsimp only at hSw); (try (obtain ⟨s0, s1, s2, s3⟩ := hSw)); simp only [List.getElem_cons_zero, List.getElem_cons_succ]; go_simp <;> with_reducible rfl)
        simp only [List.getElem_cons_zero, List.getElem_cons_succ, Act.put, List.setIfInBounds_toArray, List.set_cons_zero, List.set_cons_succ]
        refine heldT_take 6 (v := ?_) (by simp) (by kernel_rfl) (by kernel_rfl) (by kernel_rfl) (by kernel_rfl) (fun _ _ _ h => h) (Or.inl ⟨by rfl, ?_⟩) hHeld ?_
        case refine_2 => (intro w hSw; (try dsimp only at hSw); (try (obtain ⟨s0, s1, s2, s3⟩ := hSw)); simp only [List.getElem_cons_zero, List.getElem_cons_succ]; go_simp <;> with_reducible rfl)
        simp only [List.getElem_cons_zero, List.getElem_cons_succ, Act.put, List.setIfInBounds_toArray, List.set_cons_zero, List.set_cons_succ]
        refine heldT_take 7 (v := ?_) (by simp) (by kernel_rfl) (by kernel_rfl) (by kernel_rfl) (by kernel_rfl) (fun _ _ _ h => h) (Or.inl ⟨by rfl, ?_⟩) hHeld ?_
        case refine_2 => (intro w hSw; (try dsimp only at hSw); (try (obtain ⟨s0, s1, s2, s3⟩ := hSw)); simp only [List.getElem_cons_zero, List.getElem_cons_succ]; go_simp <;> with_reducible rfl)
        simp only [List.getElem_cons_zero, List.getElem_cons_succ, Act.put, List.setIfInBounds_toArray, List.set_cons_zero, List.set_cons_succ]
        refine heldT_take 9 (v := ?_) (by simp) (by kernel_rfl) (by kernel_rfl) (by kernel_rfl) (by kernel_rfl) (fun _ _ _ h => h) (Or.inl ⟨by rfl, ?_⟩) hHeld ?_
        case refine_2 => (intro w hSw; (try dsimp only at hSw); (try (obtain ⟨s0, s1, s2, s3⟩ := hSw)); simp only [List.getElem_cons_zero, List.getElem_cons_succ]; go_simp <;> with_reducible rfl)
        simp only [List.getElem_cons_zero, List.getElem_cons_succ, Act.put, List.setIfInBounds_toArray, List.set_cons_zero, List.set_cons_succ]
        refine heldT_take 10 (v := ?_) (by simp) (by kernel_rfl) (by kernel_rfl) (by kernel_rfl) (by kernel_rfl) (fun _ _ _ h => h) (Or.inl ⟨by rfl, ?_⟩) hHeld ?_
        case refine_2 => (intro w hSw; (try dsimp only at hSw); (try (obtain ⟨s0, s1, s2, s3⟩ := hSw)); simp only [List.getElem_cons_zero, List.getElem_cons_succ]; go_simp <;> with_reducible rfl)
        simp only [List.getElem_cons_zero, List.getElem_cons_succ, Act.put, List.setIfInBounds_toArray, List.set_cons_zero, List.set_cons_succ]
        refine heldT_take 11 (v := ?_) (by simp) (by kernel_rfl) (by kernel_rfl) (by kernel_rfl) (by kernel_rfl) (fun _ _ _ h => h) (Or.inl ⟨by rfl, ?_⟩) hHeld ?_
        case refine_2 => (intro w hSw; (try dsimp only at hSw); (try (obtain ⟨s0, s1, s2, s3⟩ := hSw)); simp only [List.getElem_cons_zero, List.getElem_cons_succ]; go_simp <;> with_reducible rfl)
        simp only [List.getElem_cons_zero, List.getElem_cons_succ, Act.put, List.setIfInBounds_toArray, List.set_cons_zero, List.set_cons_succ]
        refine heldT_take 12 (v := ?_) (by simp) (by kernel_rfl) (by kernel_rfl) (by kernel_rfl) (by kernel_rfl) (fun _ _ _ h => h) (Or.inl ⟨by rfl, ?_⟩) hHeld ?_
        case refine_2 => (intro w hSw; (try dsimp only at hSw); (try (obtain ⟨s0, s1, s2, s3⟩ := hSw)); simp only [List.getElem_cons_zero, List.getElem_cons_succ]; go_simp <;> with_reducible rfl)
        simp only [List.getElem_cons_zero, List.getElem_cons_succ, Act.put, List.setIfInBounds_toArray, List.set_cons_zero, List.set_cons_succ]
        refine heldT_take 13 (v := ?_) (by simp) (by kernel_rfl) (by kernel_rfl) (by kernel_rfl) (by kernel_rfl) (fun _ _ _ h => h) (Or.inl ⟨by rfl, ?_⟩) hHeld ?_
        case refine_2 => (intro w hSw; (try dsimp only at hSw); (try (obtain ⟨s0, s1, s2, s3⟩ := hSw)); simp only [List.getElem_cons_zero, List.getElem_cons_succ]; go_simp <;> with_reducible rfl)
        simp only [List.getElem_cons_zero, List.getElem_cons_succ, Act.put, List.setIfInBounds_toArray, List.set_cons_zero, List.set_cons_succ]
        refine heldT_take 14 (v := ?_) (by simp) (by kernel_rfl) (by kernel_rfl) (by kernel_rfl) (by kernel_rfl) (fun _ _ _ h => h) (Or.inl ⟨by rfl, ?_⟩) hHeld ?_
        case refine_2 => (intro w hSw; (try dsimp only at hSw); (try (obtain ⟨s0, s1, s2, s3⟩ := hSw)); simp only [List.getElem_cons_zero, List.getElem_cons_succ]; go_simp <;> with_reducible rfl)
        simp only [List.getElem_cons_zero, List.getElem_cons_succ, Act.put, List.setIfInBounds_toArray, List.set_cons_zero, List.set_cons_succ]
        refine heldT_sole 8 (by simp) (by kernel_rfl) (fun K hK => ?_)
        simp only [List.getElem_cons_zero, List.getElem_cons_succ]
        go_simp
        have hbA : Below wr.heap.size wr (wr.alloc (.cells #[] 3)).drew := ((Below.refl _ wr).alloc (Nat.le_refl _) _).drew
        have hoA : Own (wr.alloc (.cells #[] 3)).drew wr.heap.size 3 (.slice (some ⟨wr.heap.size, 0, none⟩) 0 0) [] := World.ownsRow_lit wr #[] 0 (Nat.le_refl _) (by decide) rfl
        have hsA : wr.heap.size ≤ (wr.alloc (.cells #[] 3)).drew.heap.size := hbA.size
        generalize (wr.alloc (.cells #[] 3)).drew = wA at hbA hoA hsA ⊢
        refine hK.out _ _ ⟨(hbA.cell (p := ⟨gy, 2, none⟩) hgy).trans y2, (hbA.cell (p := ⟨w.heap.size, 2, none⟩) (by show w.heap.size < _; omega)).trans e2, (hbA.cell (p := ⟨ad.block, o, none⟩) (by show ad.block < _; omega)).trans p0, (hbA.cell (p := ⟨ad.block, o + 1, none⟩) (by show ad.block < _; omega)).trans p1⟩ (fun hHeld => ?_)
        clear hK K
        try simp only [Act.put, List.setIfInBounds_toArray, List.set_cons_zero, List.set_cons_succ]
        refine heldT_sole 15 (by simp) (by kernel_rfl) (fun K hK => ?_)
        simp only [List.getElem_cons_zero, List.getElem_cons_succ]
        rw [if_pos (by rfl)]
        refine wp_append_fresh (.tmp 35) (.tmp 41) 41 rfl wr.heap.size 3 (.int .i64 0) 1 8 Try.underlying41 info_int rfl (by decide) (some ⟨wr.heap.size, 0, none⟩) rfl hoA Az q.z.length cz (q.z.map (Value.int .i64)) rfl (by simp) (fun hm => by obtain ⟨ad, e, hb, hc⟩ := ((HZ.out.more (by omega : w.heap.size ≤ wr.heap.size)).below hbA) (by simpa using hm); exact ⟨ad, e, hc⟩) (by simp [Value.oneCell']) (by have := HZL.out; unfold maxLen; omega) (by have := HZL.out; omega) hsA ?_
        intro v6 w6 hx6' hb6
        have hx6 : Is w6 wr.heap.size v6 q.z := by unfold Is Own; rw [List.length_map]; exact hx6'
        obtain ⟨A6, c6, rfl, -, -, -⟩ := is_shape hx6
        have hbB := hbA.trans (hb6.mono hsA)
        have HX6 := Lib.hid hx6
        clear hx6' hx6 hb6 hbA hoA hsA
        refine hK.out _ _ ⟨(hbB.cell (p := ⟨gy, 2, none⟩) hgy).trans y2, (hbB.cell (p := ⟨w.heap.size, 2, none⟩) (by show w.heap.size < _; omega)).trans e2, (hbB.cell (p := ⟨ad.block, o, none⟩) (by show ad.block < _; omega)).trans p0, (hbB.cell (p := ⟨ad.block, o + 1, none⟩) (by show ad.block < _; omega)).trans p1⟩ (fun hHeld => ?_)
        clear hK K
        try simp only [Act.put, List.setIfInBounds_toArray, List.set_cons_zero, List.set_cons_succ]
        refine heldT_sole 16 (by simp) (by kernel_rfl) (fun K hK => ?_)
        simp only [List.getElem_cons_zero, List.getElem_cons_succ]
        go_simp
        refine hK.out _ _ ⟨(hbB.cell (p := ⟨gy, 2, none⟩) hgy).trans y2, (hbB.cell (p := ⟨w.heap.size, 2, none⟩) (by show w.heap.size < _; omega)).trans e2, (hbB.cell (p := ⟨ad.block, o, none⟩) (by show ad.block < _; omega)).trans p0, (hbB.cell (p := ⟨ad.block, o + 1, none⟩) (by show ad.block < _; omega)).trans p1⟩ (fun hHeld => ?_)
        clear hK K
        try simp only [Act.put, List.setIfInBounds_toArray, List.set_cons_zero, List.set_cons_succ]
        refine heldT_sole 17 (by simp) (by kernel_rfl) (fun K hK => ?_)
        simp only [List.getElem_cons_zero, List.getElem_cons_succ]
        go_simp
        have hbC : Below w6.heap.size w6 (w6.alloc (.cells [.int .i64 q.n, .slice A6 q.z.length c6].toArray 129)) := (Below.refl _ w6).alloc (Nat.le_refl _) _
        have hKC : Blk (w6.alloc (.cells [.int .i64 q.n, .slice A6 q.z.length c6].toArray 129)) w6.heap.size 129 [.int .i64 q.n, .slice A6 q.z.length c6].toArray := Blk.new _ _ _
        have hXC := Lib.hid (Own.below HX6.out hbC (Nat.le_refl _))
        have hb6s := hbB.size
        have hbD := hbB.trans (hbC.mono hb6s)
        clear hbC
        generalize w6.alloc (.cells [.int .i64 q.n, .slice A6 q.z.length c6].toArray 129) = w7 at hKC hXC hbD ⊢
        have HY7 := Lib.hid (HY.out.new hbD)
        refine hK.out _ _ ⟨(hbD.cell (p := ⟨gy, 2, none⟩) hgy).trans y2, (hbD.cell (p := ⟨w.heap.size, 2, none⟩) (by show w.heap.size < _; omega)).trans e2, (hbD.cell (p := ⟨ad.block, o, none⟩) (by show ad.block < _; omega)).trans p0, (hbD.cell (p := ⟨ad.block, o + 1, none⟩) (by show ad.block < _; omega)).trans p1⟩ (fun hHeld => ?_)
        clear hK K
        try simp only [Act.put, List.setIfInBounds_toArray, List.set_cons_zero, List.set_cons_succ]
        refine heldT_sole 18 (by simp) (by kernel_rfl) (fun K hK => ?_)
        simp only [List.getElem_cons_zero, List.getElem_cons_succ]
        rw [if_pos (by rfl)]
        refine wp_append_size (.tmp 28) (.tmp 44) 84 rfl w0.heap.size 129 (.agg #[.int .i64 0, .slice none 0 0]) 2 32 Try.underlying84 info_past rfl (by decide) _ es.length _ rfl HY7.out.past.own ⟨w6.heap.size, 0, none⟩ 1 1 [.int .i64 q.n, .slice A6 q.z.length c6] rfl rfl (blk_addr hKC) (by simp [Value.oneCell']) (by have := HES.out.2; have := HPL.out; unfold maxLen; omega) (by have := HES.out.2; have := HPL.out; omega) (by have := hbD.size; omega) ?_
        intro v5 w5 hown5 hg5 hf5
        obtain ⟨A5, c5, rfl, -, -, -⟩ := own_row_shape hown5
        have k0 : some gy ≠ v3.ownBlock := by
          rcases own_blk_ne HY7.out.past.own HY7.out.blk (by decide) with h2 | h2
          · rw [h2]; simp
          · exact fun e => h2 e.symm
        have hlow : ∀ j, v3.ownBlock = some j → w0.heap.size ≤ j := fun j hj => (World.ownsRow.lt HY7.out.past.own j hj).1
        have hb5 : Below w0.heap.size w7 w5 := (Below.refl _ w7).grown hg5 (by have := hbD.size; omega) hlow
        have hgy5 := (HY7.out.blk.grown hg5 k0)
        obtain ⟨⟨z0, g0⟩, ⟨z1, g1⟩, ⟨z2, g2⟩, ⟨z3, g3⟩, ⟨z4, g4⟩⟩ := blk5_fr hgy5
        have HFIN := Lib.hid (And.intro (HY7.out.push (p := q) (Own.mono hXC.out (by omega)) hown5 hg5) (((HB.out.trans (hbD.mono (by omega))).trans hb5).setCell (p := ⟨gy, 2, none⟩) HGY.out (.slice A5 (es.length + 1) c5)))
        refine hK.out _ _ ⟨z2, (hb5.cell (p := ⟨w.heap.size, 2, none⟩) (by show w.heap.size < _; omega)).trans ((hbD.cell (p := ⟨w.heap.size, 2, none⟩) (by show w.heap.size < _; omega)).trans e2), (hb5.cell (p := ⟨ad.block, o, none⟩) (by show ad.block < _; omega)).trans ((hbD.cell (p := ⟨ad.block, o, none⟩) (by show ad.block < _; omega)).trans p0), (hb5.cell (p := ⟨ad.block, o + 1, none⟩) (by show ad.block < _; omega)).trans ((hbD.cell (p := ⟨ad.block, o + 1, none⟩) (by show ad.block < _; omega)).trans p1)⟩ (fun hHeld => ?_)
        clear hK K
        try simp only [Act.put, List.setIfInBounds_toArray, List.set_cons_zero, List.set_cons_succ]
        refine heldT_sole 19 (by simp) (by kernel_rfl) (fun K hK => ?_)
        simp only [List.getElem_cons_zero, List.getElem_cons_succ]
        go_simp
        refine hK.out _ _ ⟨z2, (hb5.cell (p := ⟨w.heap.size, 2, none⟩) (by show w.heap.size < _; omega)).trans ((hbD.cell (p := ⟨w.heap.size, 2, none⟩) (by show w.heap.size < _; omega)).trans e2), (hb5.cell (p := ⟨ad.block, o, none⟩) (by show ad.block < _; omega)).trans ((hbD.cell (p := ⟨ad.block, o, none⟩) (by show ad.block < _; omega)).trans p0), (hb5.cell (p := ⟨ad.block, o + 1, none⟩) (by show ad.block < _; omega)).trans ((hbD.cell (p := ⟨ad.block, o + 1, none⟩) (by show ad.block < _; omega)).trans p1)⟩ (fun hHeld => ?_)
        clear hK K hown5 hg5 hf5 hb5 hgy5 hlow k0 HY7 hKC hXC hbD hbB hb6s y0 y1 y2 y3 y4 e0 e1 e2 e3 e4 p0 p1
        try simp only [Act.put, List.setIfInBounds_toArray, List.set_cons_zero, List.set_cons_succ]
        refine heldT_last (t := 20) (by simp) (by kernel_rfl) (by kernel_rfl) (fun K hK => ?_)
        simp only [List.getElem_cons_zero, List.getElem_cons_succ]
        go_simp
        refine hK.out _ _ ?_
        clear hK K hHeld
        go_wp2
        go_roundw
        case rel => exact ⟨k + 1, _, _, by go_num, by omega, Lib.hid ⟨by rw [HST.out, List.map_append, HES.out.1]; rfl, by simp [HES.out.2]⟩, HFIN.out.1, HFIN.out.2⟩
        case measure => simp [intOf]; omega
      · have hltI : ¬ (k : Int) < x.past.length := by omega
        have hkl : k = x.past.length := by omega
        have HEA : Hid (es.map (·.1) = x.past) := Lib.hid (by rw [HES.out.1, hkl, List.take_length])
        have hKB := HKB.out.below HB.out (by omega)
        obtain ⟨⟨r0, g0⟩, ⟨r1, g1⟩, ⟨r2, g2⟩, ⟨r3, g3⟩, ⟨r4, g4⟩⟩ := blk5_fr hKB
        obtain ⟨A3v, c3v, hv3, -, -, -⟩ := own_row_shape HY.out.past.own
        obtain ⟨A1v, c1v, hv1, -, -, -⟩ := is_shape HY.out.act
        obtain ⟨A2v, c2v, hv2, -, -, -⟩ := is_shape HY.out.nums
        obtain ⟨A4v, c4v, hv4, -, -, -⟩ := own_row_shape HY.out.tms
        subst hv1 hv2 hv3 hv4
        obtain ⟨⟨y0, _⟩, ⟨y1, _⟩, ⟨y2, _⟩, ⟨y3, _⟩, ⟨y4, _⟩⟩ := blk5_fr HY.out.blk
        have hg1 := grown_s5 wr (w.heap.size + 1) (.slice A1v x.act.length c1v) (.slice A2v x.nums.length c2v) (.slice A3v es.length c3v) (.slice A4v x.tms.length c4v) (.int .i64 x.now)
        have KF := Lib.hid (((((hKB.set_ 0 (.slice A1v x.act.length c1v)).set_ 1 (.slice A2v x.nums.length c2v)).set_ 2 (.slice A3v es.length c3v)).set_ 3 (.slice A4v x.tms.length c4v)).set_ 4 (.int .i64 x.now))
        have HG1 := Lib.hid hg1
        have HBW := Lib.hid ((HB0.out.trans (HB.out.mono (by omega))).grown hg1 (by omega) (fun j hj => by injection hj with hj; omega))
        clear hKB hKr hg1 e0 e1 e3 e4
        go_wp2_with fail
        refine bodyPost_ret (results_inst1 (fn := Try.f68) rfl _ _ (w.heap.size + 1) _ _ _ _ _ rfl KF.out) rfl ?_
        exact ⟨_, rfl, ⟨_, _, _, _, es, rfl, Own.mono (Own.far HY.out.act HG1.out (by omega)) (by omega), Own.mono (Own.far HY.out.nums HG1.out (by omega)) (by omega), (HY.out.past.far HG1.out (by omega)).mono (by omega), HEA.out, (HY.out.tms.far HG1.out (by omega)).mono (by omega)⟩, HBW.out⟩
end Go.Proofs.Ytaadbklimfngiaa
