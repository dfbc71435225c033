/- Opening an argument that is an instance: rows, places of the past, timers. No condition. -/
import Derived.Test.YtaadbklimfngiaaOpenP
import Derived.Test.YtaadbklimfngiaaImagePlain
set_option linter.unusedVariables false
namespace Go.Proofs.Ytaadbklimfngiaa
open Go.ChangeShapes Go.WideShapes Go.ChangeAt Go.RowKit Go.Joins Go.Deep Oct

def wf64 (n : Int) : Prop := -9223372036854775808 ≤ n ∧ n ≤ 9223372036854775807
/-- One of the past, in memory. -/
def PastAt (w : World) (B : Nat) (ad : Addr) (k : Nat) (p : PastD) : Prop :=
  ∃ o A c, ad.add (k * 2) = ⟨ad.block, o, none⟩ ∧ w.cell? ⟨ad.block, o, none⟩ = some (.int .i64 p.n) ∧ w.cell? ⟨ad.block, o + 1, none⟩ = some (.slice A p.z.length c) ∧ Rd w B A (p.z.map (Value.int .i64)) ∧ p.z.length ≤ c ∧ c ≤ 9223372036854775807
def PastRd (w : World) (B : Nat) (A : Option Addr) (ps : List PastD) : Prop := ∀ k (hk : k < ps.length), ∃ ad, A = some ad ∧ ad.block < B ∧ PastAt w B ad k ps[k]
/-- A timer, in memory. -/
def TimAt (w : World) (ad : Addr) (k : Nat) (p : TimD) : Prop :=
  ∃ o, ad.add (k * 3) = ⟨ad.block, o, none⟩ ∧ w.cell? ⟨ad.block, o, none⟩ = some (.int .i64 p.d) ∧ w.cell? ⟨ad.block, o + 1, none⟩ = some (.int .i64 p.n) ∧ w.cell? ⟨ad.block, o + 2, none⟩ = some (.int .i64 p.s)
def TimRd (w : World) (B : Nat) (A : Option Addr) (ts : List TimD) : Prop := ∀ k (hk : k < ts.length), ∃ ad, A = some ad ∧ ad.block < B ∧ TimAt w ad k ts[k]
theorem PastRd.keep {w w' : World} {B : Nat} {A : Option Addr} {ps : List PastD} (h : PastRd w B A ps) (hk : ∀ p : Addr, p.block < B → w'.cell? p = w.cell? p) : PastRd w' B A ps := fun k hlt => by
  obtain ⟨ad, h1, h2, o, A', c, h3, h4, h5, h6, h7, h8⟩ := h k hlt
  exact ⟨ad, h1, h2, o, A', c, h3, (hk ⟨ad.block, _, none⟩ h2).trans h4, (hk ⟨ad.block, _, none⟩ h2).trans h5, h6.keep hk, h7, h8⟩
theorem PastRd.below {w w' : World} {B B' : Nat} {A : Option Addr} {ps : List PastD} (h : PastRd w B A ps) (hb : Below B' w w') (hB : B ≤ B') : PastRd w' B A ps :=
  h.keep fun p hp => hb.cell (by omega)
theorem PastRd.more {w : World} {B B' : Nat} {A : Option Addr} {ps : List PastD} (h : PastRd w B A ps) (hB : B ≤ B') : PastRd w B' A ps := fun k hlt => by
  obtain ⟨ad, h1, h2, o, A', c, h3, h4, h5, h6, h7, h8⟩ := h k hlt
  exact ⟨ad, h1, by omega, o, A', c, h3, h4, h5, h6.more hB, h7, h8⟩
theorem PastRd.drewN {w : World} {B : Nat} {A : Option Addr} {ps : List PastD} (h : PastRd w B A ps) (n : Nat) : PastRd (w.drewN n) B A ps := h
theorem TimRd.keep {w w' : World} {B : Nat} {A : Option Addr} {ps : List TimD} (h : TimRd w B A ps) (hk : ∀ p : Addr, p.block < B → w'.cell? p = w.cell? p) : TimRd w' B A ps := fun k hlt => by
  obtain ⟨ad, h1, h2, o, h3, h4, h5, h6⟩ := h k hlt
  exact ⟨ad, h1, h2, o, h3, (hk ⟨ad.block, _, none⟩ h2).trans h4, (hk ⟨ad.block, _, none⟩ h2).trans h5, (hk ⟨ad.block, _, none⟩ h2).trans h6⟩
theorem TimRd.below {w w' : World} {B B' : Nat} {A : Option Addr} {ps : List TimD} (h : TimRd w B A ps) (hb : Below B' w w') (hB : B ≤ B') : TimRd w' B A ps :=
  h.keep fun p hp => hb.cell (by omega)
theorem TimRd.more {w : World} {B B' : Nat} {A : Option Addr} {ps : List TimD} (h : TimRd w B A ps) (hB : B ≤ B') : TimRd w B' A ps := fun k hlt => by
  obtain ⟨ad, h1, h2, h3⟩ := h k hlt
  exact ⟨ad, h1, by omega, h3⟩
theorem TimRd.drewN {w : World} {B : Nat} {A : Option Addr} {ps : List TimD} (h : TimRd w B A ps) (n : Nat) : TimRd (w.drewN n) B A ps := h
structure InstD.wf (x : InstD) : Prop where
  act : ∀ n ∈ x.act, wf64 n
  nums : ∀ n ∈ x.nums, wf64 n
  past : ∀ p ∈ x.past, wf64 p.n ∧ ∀ n ∈ p.z, wf64 n
  tms : ∀ p ∈ x.tms, wf64 p.d ∧ wf64 p.n ∧ wf64 p.s
  now : wf64 x.now
/-- An instance in memory, to be read. -/
structure InstRd (w : World) (B : Nat) (x : InstD) (A1 : Option Addr) (c1 : Nat) (A2 : Option Addr) (c2 : Nat) (A3 : Option Addr) (c3 : Nat) (A4 : Option Addr) (c4 : Nat) : Prop where
  act : Rd w B A1 (x.act.map (Value.int .i64))
  nums : Rd w B A2 (x.nums.map (Value.int .i64))
  past : PastRd w B A3 x.past
  tms : TimRd w B A4 x.tms
  l1 : x.act.length ≤ c1
  l2 : x.nums.length ≤ c2
  l3 : x.past.length ≤ c3
  l4 : x.tms.length ≤ c4
  m1 : c1 ≤ 9223372036854775807
  m2 : c2 ≤ 9223372036854775807
  m3 : c3 ≤ 9223372036854775807
  m4 : c4 ≤ 9223372036854775807
  r1 : x.act.length * 8 ≤ 140737488351232
  r2 : x.nums.length * 8 ≤ 140737488351232
  r3 : x.past.length * 32 ≤ 140737488351232
  r4 : x.tms.length * 24 ≤ 140737488351232
  rz : ∀ p ∈ x.past, p.z.length * 8 ≤ 140737488351232
theorem InstRd.keep {w w' : World} {B : Nat} {x : InstD} {A1 A2 A3 A4 : Option Addr} {c1 c2 c3 c4 : Nat} (h : InstRd w B x A1 c1 A2 c2 A3 c3 A4 c4) (hk : ∀ p : Addr, p.block < B → w'.cell? p = w.cell? p) : InstRd w' B x A1 c1 A2 c2 A3 c3 A4 c4 :=
  { h with act := h.act.keep hk, nums := h.nums.keep hk, past := h.past.keep hk, tms := h.tms.keep hk }
theorem InstRd.below {w w' : World} {B B' : Nat} {x : InstD} {A1 A2 A3 A4 : Option Addr} {c1 c2 c3 c4 : Nat} (h : InstRd w B x A1 c1 A2 c2 A3 c3 A4 c4) (hb : Below B' w w') (hB : B ≤ B') : InstRd w' B x A1 c1 A2 c2 A3 c3 A4 c4 :=
  h.keep fun p hp => hb.cell (by omega)
theorem InstRd.more {w : World} {B B' : Nat} {x : InstD} {A1 A2 A3 A4 : Option Addr} {c1 c2 c3 c4 : Nat} (h : InstRd w B x A1 c1 A2 c2 A3 c3 A4 c4) (hB : B ≤ B') : InstRd w B' x A1 c1 A2 c2 A3 c3 A4 c4 :=
  { h with act := h.act.more hB, nums := h.nums.more hB, past := h.past.more hB, tms := h.tms.more hB }
def instV (x : InstD) (A1 : Option Addr) (c1 : Nat) (A2 : Option Addr) (c2 : Nat) (A3 : Option Addr) (c3 : Nat) (A4 : Option Addr) (c4 : Nat) : Value :=
  .agg #[.slice A1 x.act.length c1, .slice A2 x.nums.length c2, .slice A3 x.past.length c3, .slice A4 x.tms.length c4, .int .i64 x.now]
/-- An address whose cell can be read bears no spot. -/
theorem addr_lit {w : World} {x : Addr} {u : Value} (h : w.cell? x = some u) : x = ⟨x.block, x.off, none⟩ := by
  obtain ⟨b, o, s⟩ := x
  cases s with
  | none => rfl
  | some s =>
    exfalso
    unfold World.cell? at h
    split at h <;> simp at h
theorem row_lit {w : World} {ad : Addr} {j : Nat} {u : Value} (h : w.cell? (ad.add j) = some u) : ∃ o, ad.add j = ⟨ad.block, o, none⟩ :=
  ⟨_, by rw [← block_of_add ad j]; exact addr_lit h⟩
theorem lit_add (b o j : Nat) : (⟨b, o, none⟩ : Addr).add j = ⟨b, o + j, none⟩ := by unfold Addr.add; split <;> simp_all

section
variable {H : Type} {enc : TypeId × Value → H} {P : Program} {W : World} {base : Nat}
def PastGood (w : World) (ad : Addr) (k : Nat) (p : PastD) : Prop := PastAt w w.heap.size ad k p ∧ wf64 p.n ∧ (∀ n ∈ p.z, wf64 n) ∧ p.z.length * 8 ≤ 140737488351232 ∧ ad.block < w.heap.size
theorem past_cell {t e ei : TypeId} {f0 f1 : Field} (ht : P.underlying t = some (.slice e)) (he : P.underlying e = some (.struct #[f0, f1])) (hone : oneCellFields P #[f0, f1] = true) (hC : P.cellsOf e = 2) (be : P.bytesOf e = 32)
    (u0 : P.underlying f0.type = some (.int .i64)) (u1 : P.underlying f1.type = some (.slice ei)) (ui : P.underlying ei = some (.int .i64)) (ci : P.cellsOf ei = 1) (bi : P.bytesOf ei = 8)
    {v : Value} {fuel : Nat} {y : DataW H × List MemPlace} (hf : DataW.trod enc P W 0 (fun _ => true) true fuel t [v] = some y) (hw : ∀ n ∈ y.1.weights P t, n ≤ reachBytes) :
    ∃ (A : Option Addr) (ps : List PastD) (c : Nat), v = .slice A ps.length c ∧ PastRd W W.heap.size A ps ∧ ps.length ≤ c ∧ c * 32 ≤ 140737488351232 ∧ ∀ p ∈ ps, (wf64 p.n ∧ ∀ n ∈ p.z, wf64 n) ∧ p.z.length * 8 ≤ 140737488351232 := by
  rcases open_slice ht hf with ⟨hcs, hx⟩ | ⟨a, l, c, m, n, D, Pl, hcs, _, hl, hm, hmm, hx, hi⟩
  · simp at hcs
    subst hcs
    exact ⟨none, [], 0, rfl, fun k hk => absurd hk (by simp), by simp, by simp, by simp⟩
  · simp at hcs
    subst hcs
    simp only [if_true] at hmm
    subst hmm
    subst hx
    have hcap : m * 32 ≤ 140737488351232 := by
      have := hw (((List.range l).length + (List.range (m - l)).length) * P.bytesOf e) (by simp [DataW.weights, ht])
      simp only [List.length_range, reachBytes, be] at this
      rw [show l + (m - l) = m by omega] at this
      omega
    obtain ⟨ps, hps, hgood⟩ := list_of (G := fun k p => PastGood W a k p) l (fun k hk => by
      obtain ⟨cs', hc, ht'⟩ := hi k (by omega)
      rw [hC] at hc
      obtain ⟨ys, n', _, hy, hlen, hyl, hfl⟩ := DataW.trod_struct he ht'
      obtain ⟨_, hcl, hat⟩ := World.cells?_some hc
      have hDw : ∀ x ∈ (D k).weights P e, x ≤ reachBytes := fun x hx => hw x (by
        simp only [DataW.weights, ht]
        exact List.mem_cons_of_mem _ (List.mem_append_left _ (weights_mem_all (List.mem_map.2 ⟨k, List.mem_range.2 hk, rfl⟩) hx)))
      simp only [Prod.mk.injEq] at hy
      match cs', hcl, ys, hyl with
      | [c0, c1], _, [y0, y1], _ =>
        obtain ⟨o0, k0⟩ := hone_of hone 0 f0 rfl
        obtain ⟨o1, k1⟩ := hone_of hone 1 f1 rfl
        have t0 := hfl 0 f0 rfl
        have t1 := hfl 1 f1 rfl
        simp [o0, k0] at t0
        simp [o1, k1] at t1
        obtain ⟨i, rfl, hib⟩ := int_cell u0 t0
        obtain ⟨B, zb, cb, rfl, hB⟩ := ints_cell u1 ui ci bi t1 (fun x hx => hDw x (by
          rw [hy.1]
          simp only [DataW.weights, he, List.map_cons, List.map_nil, DataW.weightsEach, List.mem_append]
          exact .inr (.inl hx)))
        have h0 := hat 0 (by omega)
        have h1 := hat 1 (by omega)
        obtain ⟨o, ho⟩ := row_lit (ad := a) (j := k * 2) h0
        have hb := World.block_lt_of_cell? W _ h0
        rw [ho] at h0 h1
        rw [lit_add] at h0 h1
        have h4 := hB.le
        have h5 := hB.cap
        exact ⟨⟨i, zb⟩, ⟨o, B, cb, ho, h0, h1, hB.rd, h4, by omega⟩, hib, hB.wf, by show zb.length * 8 ≤ _; omega, by rw [block_of_add, block_of_add] at hb; exact hb⟩)
    refine ⟨some a, ps, m, by rw [hps], fun k hk => ⟨a, rfl, (hgood k hk).2.2.2.2, (hgood k hk).1⟩, by omega, hcap, fun p hp => ?_⟩
    obtain ⟨k, hk, rfl⟩ := List.getElem_of_mem hp
    exact ⟨⟨(hgood k hk).2.1, (hgood k hk).2.2.1⟩, (hgood k hk).2.2.2.1⟩
def TimGood (w : World) (ad : Addr) (k : Nat) (p : TimD) : Prop := TimAt w ad k p ∧ (wf64 p.d ∧ wf64 p.n ∧ wf64 p.s) ∧ ad.block < w.heap.size
theorem tim_cell {t e : TypeId} {f0 f1 f2 : Field} (ht : P.underlying t = some (.slice e)) (he : P.underlying e = some (.struct #[f0, f1, f2])) (hone : oneCellFields P #[f0, f1, f2] = true) (hC : P.cellsOf e = 3) (be : P.bytesOf e = 24)
    (u0 : P.underlying f0.type = some (.int .i64)) (u1 : P.underlying f1.type = some (.int .i64)) (u2 : P.underlying f2.type = some (.int .i64))
    {v : Value} {fuel : Nat} {y : DataW H × List MemPlace} (hf : DataW.trod enc P W 0 (fun _ => true) true fuel t [v] = some y) (hw : ∀ n ∈ y.1.weights P t, n ≤ reachBytes) :
    ∃ (A : Option Addr) (ps : List TimD) (c : Nat), v = .slice A ps.length c ∧ TimRd W W.heap.size A ps ∧ ps.length ≤ c ∧ c * 24 ≤ 140737488351232 ∧ ∀ p ∈ ps, wf64 p.d ∧ wf64 p.n ∧ wf64 p.s := by
  rcases open_slice ht hf with ⟨hcs, hx⟩ | ⟨a, l, c, m, n, D, Pl, hcs, _, hl, hm, hmm, hx, hi⟩
  · simp at hcs
    subst hcs
    exact ⟨none, [], 0, rfl, fun k hk => absurd hk (by simp), by simp, by simp, by simp⟩
  · simp at hcs
    subst hcs
    simp only [if_true] at hmm
    subst hmm
    subst hx
    have hcap : m * 24 ≤ 140737488351232 := by
      have := hw (((List.range l).length + (List.range (m - l)).length) * P.bytesOf e) (by simp [DataW.weights, ht])
      simp only [List.length_range, reachBytes, be] at this
      rw [show l + (m - l) = m by omega] at this
      omega
    obtain ⟨ps, hps, hgood⟩ := list_of (G := fun k p => TimGood W a k p) l (fun k hk => by
      obtain ⟨cs', hc, ht'⟩ := hi k (by omega)
      rw [hC] at hc
      obtain ⟨ys, n', _, hy, hlen, hyl, hfl⟩ := DataW.trod_struct he ht'
      obtain ⟨_, hcl, hat⟩ := World.cells?_some hc
      match cs', hcl, ys, hyl with
      | [c0, c1, c2], _, [y0, y1, y2], _ =>
        obtain ⟨o0, k0⟩ := hone_of hone 0 f0 rfl
        obtain ⟨o1, k1⟩ := hone_of hone 1 f1 rfl
        obtain ⟨o2, k2⟩ := hone_of hone 2 f2 rfl
        have t0 := hfl 0 f0 rfl
        have t1 := hfl 1 f1 rfl
        have t2 := hfl 2 f2 rfl
        simp [o0, k0] at t0
        simp [o1, k1] at t1
        simp [o2, k2] at t2
        obtain ⟨i, rfl, hib⟩ := int_cell u0 t0
        obtain ⟨j, rfl, hjb⟩ := int_cell u1 t1
        obtain ⟨s, rfl, hsb⟩ := int_cell u2 t2
        have h0 := hat 0 (by omega)
        have h1 := hat 1 (by omega)
        have h2 := hat 2 (by omega)
        obtain ⟨o, ho⟩ := row_lit (ad := a) (j := k * 3) h0
        have hb := World.block_lt_of_cell? W _ h0
        rw [ho] at h0 h1 h2
        rw [lit_add] at h0 h1 h2
        exact ⟨⟨i, j, s⟩, ⟨o, ho, h0, h1, h2⟩, ⟨hib, hjb, hsb⟩, by rw [block_of_add, block_of_add] at hb; exact hb⟩)
    refine ⟨some a, ps, m, by rw [hps], fun k hk => ⟨a, rfl, (hgood k hk).2.2, (hgood k hk).1⟩, by omega, hcap, fun p hp => ?_⟩
    obtain ⟨k, hk, rfl⟩ := List.getElem_of_mem hp
    exact (hgood k hk).2.1
/-- An instance by value. -/
theorem open_inst {t ei ep et : TypeId} {f0 f1 f2 f3 f4 g0 g1 h0 h1 h2 : Field} (hs : P.underlying t = some (.struct #[f0, f1, f2, f3, f4])) (hone : oneCellFields P #[f0, f1, f2, f3, f4] = true) (hC : P.cellsOf t = 5)
    (u0 : P.underlying f0.type = some (.slice ei)) (u1 : P.underlying f1.type = some (.slice ei)) (u2 : P.underlying f2.type = some (.slice ep)) (u3 : P.underlying f3.type = some (.slice et)) (u4 : P.underlying f4.type = some (.int .i64))
    (ui : P.underlying ei = some (.int .i64)) (ci : P.cellsOf ei = 1) (bi : P.bytesOf ei = 8)
    (up : P.underlying ep = some (.struct #[g0, g1])) (onep : oneCellFields P #[g0, g1] = true) (cp : P.cellsOf ep = 2) (bp : P.bytesOf ep = 32) (p0 : P.underlying g0.type = some (.int .i64)) (p1 : P.underlying g1.type = some (.slice ei))
    (ut : P.underlying et = some (.struct #[h0, h1, h2])) (onet : oneCellFields P #[h0, h1, h2] = true) (ct : P.cellsOf et = 3) (bt : P.bytesOf et = 24) (q0 : P.underlying h0.type = some (.int .i64)) (q1 : P.underlying h1.type = some (.int .i64)) (q2 : P.underlying h2.type = some (.int .i64))
    {v : Value} {d : DataW H} {p : List MemPlace} (hv : Value.okWide P W .any base t v) (h : DataW.Trod enc P W 0 (fun _ => true) true t v d p) (hw : ∀ n ∈ d.weights P t, n ≤ reachBytes) :
    ∃ (x : InstD) (A1 : Option Addr) (c1 : Nat) (A2 : Option Addr) (c2 : Nat) (A3 : Option Addr) (c3 : Nat) (A4 : Option Addr) (c4 : Nat), v = instV x A1 c1 A2 c2 A3 c3 A4 c4 ∧ x.wf ∧ InstRd W W.heap.size x A1 c1 A2 c2 A3 c3 A4 c4 := by
  obtain ⟨cs, rfl, hsz⟩ := okWide_struct hs hv
  obtain ⟨l⟩ := cs
  match l, hsz.trans hC with
  | [e0, e1, e2, e3, e4], _ =>
    obtain ⟨fuel, hf⟩ := h
    obtain ⟨xs, n, _, hx, _, hlen, hg⟩ := DataW.trod_struct hs hf
    obtain ⟨o0, k0⟩ := hone_of hone 0 f0 rfl
    obtain ⟨o1, k1⟩ := hone_of hone 1 f1 rfl
    obtain ⟨o2, k2⟩ := hone_of hone 2 f2 rfl
    obtain ⟨o3, k3⟩ := hone_of hone 3 f3 rfl
    obtain ⟨o4, k4⟩ := hone_of hone 4 f4 rfl
    match xs, hlen with
    | [y0, y1, y2, y3, y4], _ =>
      simp only [Prod.mk.injEq] at hx
      have t0 := hg 0 f0 rfl
      have t1 := hg 1 f1 rfl
      have t2 := hg 2 f2 rfl
      have t3 := hg 3 f3 rfl
      have t4 := hg 4 f4 rfl
      simp [Value.cells, o0, k0] at t0
      simp [Value.cells, o1, k1] at t1
      simp [Value.cells, o2, k2] at t2
      simp [Value.cells, o3, k3] at t3
      simp [Value.cells, o4, k4] at t4
      have hww : ∀ n, n ∈ y0.1.weights P f0.type ∨ n ∈ y1.1.weights P f1.type ∨ n ∈ y2.1.weights P f2.type ∨ n ∈ y3.1.weights P f3.type → n ≤ reachBytes := fun n hn => hw n (by
        rw [hx.1]
        simp only [DataW.weights, hs]
        simp only [List.map_cons, List.map_nil, DataW.weightsEach, List.mem_append]
        rcases hn with hn | hn | hn | hn
        · exact .inl hn
        · exact .inr (.inl hn)
        · exact .inr (.inr (.inl hn))
        · exact .inr (.inr (.inr (.inl hn))))
      obtain ⟨A1, z1, c1, rfl, r1⟩ := ints_cell u0 ui ci bi t0 (fun n hn => hww n (.inl hn))
      obtain ⟨A2, z2, c2, rfl, r2⟩ := ints_cell u1 ui ci bi t1 (fun n hn => hww n (.inr (.inl hn)))
      obtain ⟨A3, ps, c3, rfl, r3, l3, m3, w3⟩ := past_cell u2 up onep cp bp p0 p1 ui ci bi t2 (fun n hn => hww n (.inr (.inr (.inl hn))))
      obtain ⟨A4, ts, c4, rfl, r4, l4, m4, w4⟩ := tim_cell u3 ut onet ct bt q0 q1 q2 t3 (fun n hn => hww n (.inr (.inr (.inr hn))))
      obtain ⟨now, rfl, hnow⟩ := int_cell u4 t4
      have a1 := r1.le
      have a2 := r1.cap
      have a3 := r2.le
      have a4 := r2.cap
      exact ⟨⟨z1, z2, ps, ts, now⟩, A1, c1, A2, c2, A3, c3, A4, c4, rfl, ⟨r1.wf, r2.wf, fun p hp => (w3 p hp).1, w4, hnow⟩,
        ⟨r1.rd, r2.rd, r3, r4, a1, a3, l3, l4, by omega, by omega, by omega, by omega, by show z1.length * 8 ≤ _; omega, by show z2.length * 8 ≤ _; omega, by show ps.length * 32 ≤ _; omega, by show ts.length * 24 ≤ _; omega, fun p hp => (w3 p hp).2⟩⟩
end
end Go.Proofs.Ytaadbklimfngiaa
