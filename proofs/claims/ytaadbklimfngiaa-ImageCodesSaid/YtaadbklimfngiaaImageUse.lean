/- What an instance of a call's own is good for: it is read; its owner writes over it. No condition. -/
import Derived.Test.YtaadbklimfngiaaImageOverW
import Derived.Test.YtaadbklimfngiaaImageCopied
set_option linter.unusedVariables false
namespace Go.Proofs.Ytaadbklimfngiaa
open Go.RowKit Oct

/-- An instance whose lists are short. -/
structure InstD.short (x : InstD) : Prop where
  a1 : x.act.length ≤ 4096
  a2 : x.nums.length ≤ 4096
  a3 : x.past.length ≤ 4096
  a4 : x.tms.length ≤ 4096
  az : ∀ p ∈ x.past, p.z.length ≤ 4096
theorem tkRow_all {α : Type} {f : List UInt8 → Option (α × List UInt8)} {Q : α → Prop} (hf : ∀ l a, f l = some a → Q a.1) : ∀ (k : Nat) (l : List UInt8) (acc : List α) (r : List α × List UInt8), (∀ a ∈ acc, Q a) → tkRow f k l acc = some r → r.1.length = acc.length + k ∧ ∀ a ∈ r.1, Q a
  | 0, l, acc, r, h0, h => by
    simp only [tkRow, Option.some.injEq] at h
    subst h
    exact ⟨rfl, h0⟩
  | k + 1, l, acc, r, h0, h => by
    simp only [tkRow, Option.bind_eq_some_iff] at h
    obtain ⟨a, h1, h2⟩ := h
    obtain ⟨h3, h4⟩ := tkRow_all hf k a.2 (acc ++ [a.1]) r (fun b hb => by
      rcases List.mem_append.1 hb with hb | hb
      · exact h0 b hb
      · obtain rfl := List.mem_singleton.1 hb
        exact hf _ _ h1) h2
    exact ⟨by rw [h3]; simp; omega, h4⟩
theorem tkZ_short {l : List UInt8} {a : List Int × List UInt8} (h : tkZ l = some a) : a.1.length ≤ 4096 := by
  unfold tkZ at h
  split at h
  · rename_i h0
    injection h with h
    subst h
    exact (takeZ_form h0).2.2.1
  · cases h
theorem tkN_short {l : List UInt8} {a : Nat × List UInt8} (h : tkN l = some a) : a.1 ≤ 4096 := by
  unfold tkN at h
  split at h
  · rename_i h0
    injection h with h
    subst h
    exact h0.2
  · cases h
theorem tkPast_short {l : List UInt8} {a : PastD × List UInt8} (h : tkPast l = some a) : a.1.z.length ≤ 4096 := by
  simp only [tkPast, Option.bind_eq_some_iff, Option.map_eq_some_iff] at h
  obtain ⟨b, _, c, h2, h3⟩ := h
  subst h3
  exact tkZ_short h2
theorem readI_short {p : List UInt8} {x : InstD} (h : readI p = some x) : x.short := by
  simp only [readI, Option.bind_eq_some_iff] at h
  obtain ⟨a, h1, n, h2, k, h3, ps, h4, k2, h5, ts, h6, w, h7, h8⟩ := h
  split at h8
  · injection h8 with h8
    subst h8
    obtain ⟨e1, e2⟩ := tkRow_all (Q := fun p : PastD => p.z.length ≤ 4096) (fun l a h => tkPast_short h) k.1 k.2 [] ps (by simp) h4
    obtain ⟨e3, _⟩ := tkRow_all (Q := fun p : TimD => True) (fun l a h => trivial) k2.1 k2.2 [] ts (by simp) h6
    exact ⟨tkZ_short h1, tkZ_short h2, by have := tkN_short h3; simp at e1; show ps.1.length ≤ _; omega, by have := tkN_short h5; simp at e3; show ts.1.length ≤ _; omega, e2⟩
  · cases h8
theorem rX_short (b : List UInt8) : (rX b).short := by
  unfold rX
  cases h : instR b with
  | none => exact ⟨by decide, by decide, by decide, by decide, fun p hp => by cases hp⟩
  | some x =>
    unfold instR at h
    split at h
    · exact readI_short h
    · cases h
structure InstD.fits (x : InstD) : Prop where
  r1 : x.act.length * 8 ≤ 140737488351232
  r2 : x.nums.length * 8 ≤ 140737488351232
  r3 : x.past.length * 32 ≤ 140737488351232
  r4 : x.tms.length * 24 ≤ 140737488351232
  rz : ∀ p ∈ x.past, p.z.length * 8 ≤ 140737488351232
theorem InstD.short.fits {x : InstD} (h : x.short) : x.fits :=
  ⟨by have := h.a1; omega, by have := h.a2; omega, by have := h.a3; omega, by have := h.a4; omega, fun p hp => by have := h.az p hp; omega⟩
theorem InstRd.fits {w : World} {B : Nat} {x : InstD} {A1 A2 A3 A4 : Option Addr} {c1 c2 c3 c4 : Nat} (h : InstRd w B x A1 c1 A2 c2 A3 c3 A4 c4) : x.fits := ⟨h.r1, h.r2, h.r3, h.r4, h.rz⟩
theorem ownsRow_keep {w w' : World} {base : Nat} {e : TypeId} {size n : Nat} {v : Value} {xs : List Value} (h : w.ownsRow base e size v n xs) (hk : ∀ k, base ≤ k → k < w.heap.size → w'.heap[k]? = w.heap[k]?) : w'.ownsRow base e size v n xs := by
  refine ⟨h.1, ?_⟩
  rcases h.2 with h2 | ⟨g, cap, cur, hv, hb2, hg2, r⟩
  · exact .inl h2
  · exact .inr ⟨g, cap, cur, hv, hb2, (hk g hb2 (Array.getElem?_eq_some_iff.1 hg2).1).trans hg2, r⟩
/-- An instance of a call's own, its rows by name. -/
structure InstO (w : World) (base : Nat) (x : InstD) (es : List PE) (A1 : Option Addr) (c1 : Nat) (A2 : Option Addr) (c2 : Nat) (A3 : Option Addr) (c3 : Nat) (A4 : Option Addr) (c4 : Nat) : Prop where
  act : Is w base (.slice A1 x.act.length c1) x.act
  nums : Is w base (.slice A2 x.nums.length c2) x.nums
  past : GotPast w base (.slice A3 x.past.length c3) es
  pes : es.map (·.1) = x.past
  tms : GotTims w base (.slice A4 x.tms.length c4) x.tms
theorem GotInst.opened {w : World} {base : Nat} {V : Value} {x : InstD} (h : GotInst w base V x) : ∃ es A1 c1 A2 c2 A3 c3 A4 c4, V = instV x A1 c1 A2 c2 A3 c3 A4 c4 ∧ InstO w base x es A1 c1 A2 c2 A3 c3 A4 c4 := by
  obtain ⟨u1, u2, u3, u4, es, rfl, hu1, hu2, hu3, hes, hu4⟩ := h.shape
  obtain ⟨B1, d1, rfl, -, -, -⟩ := is_shape hu1
  obtain ⟨B2, d2, rfl, -, -, -⟩ := is_shape hu2
  obtain ⟨B3, d3, rfl, -, -, -⟩ := own_row_shape hu3.own
  obtain ⟨B4, d4, rfl, -, -, -⟩ := own_row_shape hu4
  have hl : es.length = x.past.length := by rw [← hes, List.length_map]
  rw [hl] at hu3
  refine ⟨es, B1, d1, B2, d2, B3, d3, B4, d4, ?_, hu1, hu2, hu3, hes, hu4⟩
  unfold instV
  rw [hl]
section
variable {w w' : World} {base : Nat} {x : InstD} {es : List PE} {A1 A2 A3 A4 : Option Addr} {c1 c2 c3 c4 : Nat}
theorem InstO.keep (h : InstO w base x es A1 c1 A2 c2 A3 c3 A4 c4) (hk : ∀ k, base ≤ k → k < w.heap.size → w'.heap[k]? = w.heap[k]?) : InstO w' base x es A1 c1 A2 c2 A3 c3 A4 c4 :=
  ⟨ownsRow_keep h.act hk, ownsRow_keep h.nums hk, ⟨ownsRow_keep h.past.own hk, fun e he => ownsRow_keep (h.past.got e he) hk⟩, h.pes, ownsRow_keep h.tms hk⟩
theorem InstO.below (h : InstO w base x es A1 c1 A2 c2 A3 c3 A4 c4) (hb : Below w.heap.size w w') : InstO w' base x es A1 c1 A2 c2 A3 c3 A4 c4 := h.keep fun k _ hk => hb.block k hk
theorem InstO.rd (h : InstO w base x es A1 c1 A2 c2 A3 c3 A4 c4) (hf : x.fits) : InstRd w w.heap.size x A1 c1 A2 c2 A3 c3 A4 c4 := by
  obtain ⟨_, _, e1, a1, b1, d1⟩ := is_shape h.act
  injection e1 with e1 _ e1'
  subst e1 e1'
  obtain ⟨_, _, e2, a2, b2, d2⟩ := is_shape h.nums
  injection e2 with e2 _ e2'
  subst e2 e2'
  have hl : es.length = x.past.length := by rw [← h.pes, List.length_map]
  obtain ⟨_, _, e3, a3, b3, d3⟩ := GotPast.rd (es := es) (by rw [hl]; exact h.past : GotPast w base (.slice A3 es.length c3) es)
  injection e3 with e3 _ e3'
  subst e3 e3'
  rw [h.pes] at d3
  rw [hl] at a3
  obtain ⟨_, _, e4, a4, b4, d4⟩ := GotTims.rd h.tms
  injection e4 with e4 _ e4'
  subst e4 e4'
  exact ⟨d1, d2, d3, d4, a1, a2, a3, a4, b1, b2, b3, b4, hf.r1, hf.r2, hf.r3, hf.r4, hf.rz⟩
theorem InstO.ov (h : InstO w base x es A1 c1 A2 c2 A3 c3 A4 c4) : OvAt w base (.slice A1 x.act.length c1) x.act.length (.slice A2 x.nums.length c2) x.nums.length (.slice A3 es.length c3) es (.slice A4 x.tms.length c4) x.tms.length 0 := by
  have hl : es.length = x.past.length := by rw [← h.pes, List.length_map]
  have hp : GotPast w base (.slice A3 es.length c3) es := by rw [hl]; exact h.past
  have ha : RowS w base 3 1 (.slice A1 x.act.length c1) x.act.length := by have := RowS.of h.act; rwa [List.length_map] at this
  have hn : RowS w base 3 1 (.slice A2 x.nums.length c2) x.nums.length := by have := RowS.of h.nums; rwa [List.length_map] at this
  refine ⟨ha, hn, RowS.of hp.own, RowS.of h.tms, fun k hk _ => ?_, fun e he => ?_⟩
  · obtain ⟨A, c, hv, _, _, hg⟩ := own_row_shape hp.own
    obtain ⟨g, cur, rfl, _, _, _, _, hc⟩ := hg (by omega)
    refine ⟨g, c, hv, ?_⟩
    exact hc (k * 2 + 1) _ (by rw [flat_get pastC_len es k 1 hk (by omega)]; rfl)
  · have := RowS.of (hp.got e he)
    rwa [List.length_map] at this
end
end Go.Proofs.Ytaadbklimfngiaa
