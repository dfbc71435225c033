/- Opening an argument that is a slice of a journal's acts, and how many values it holds. No condition. -/
import Derived.Test.YtgeofijddhflaaaGreatDoorQOpenP
import Derived.Test.YtgeofijddhflaaaGreatDoorQJnSeg
import Derived.Test.YtgeofijddhflaaaGreatDoorRows
set_option linter.unusedVariables false
namespace Go.Proofs.YtgeofijddhflaaaGreatDoor
open Go.ChangeShapes Go.WideShapes Go.ChangeAt Go.RowKit Go.Joins Go.Deep Oct
theorem bulk_one {H : Type} (d : DataW H) : 1 ≤ Rows.uptoBulk d := by
 cases d with
 | lit l => cases l <;> simp [Rows.uptoBulk]
 | nil => simp [Rows.uptoBulk]
 | ptr d => simp [Rows.uptoBulk]
 | slice elems spare => simp [Rows.uptoBulk]
 | agg parts => simp [Rows.uptoBulk]
 | iface t d => simp [Rows.uptoBulk]
 | map entries => simp [Rows.uptoBulk]
 | held h => simp [Rows.uptoBulk]
theorem bulk_all {H : Type} : ∀ (l : List (DataW H)), Rows.uptoBulkAll l = (l.map Rows.uptoBulk).sum
 | [] => rfl
 | x :: r => by rw [Rows.uptoBulkAll, bulk_all r]; rfl
theorem bulk_len {H : Type} (l : List (DataW H)) : l.length ≤ Rows.uptoBulkAll l := by
 induction l with
 | nil => simp
 | cons x r ih => have := bulk_one x; simp only [Rows.uptoBulkAll, List.length_cons]; omega
theorem bulk_range {H : Type} {α : Type} (f : α → Nat) (D : Nat → DataW H) : ∀ (n : Nat) (xs : List α), xs.length = n → (∀ k (hk : k < xs.length), f xs[k] ≤ Rows.uptoBulk (D k)) → (xs.map f).sum ≤ Rows.uptoBulkAll ((List.range n).map D)
 | 0, xs, hx, _ => by
  rw [List.eq_nil_of_length_eq_zero hx]
  simp
 | n + 1, xs, hx, h => by
  rcases List.eq_nil_or_concat xs with h0 | ⟨r, x, h0⟩
  ·rw [h0] at hx; cases hx
  ·rw [List.concat_eq_append] at h0
   subst h0
   have hr : r.length = n := by simpa using hx
   have h1 := bulk_range f D n r hr (fun k hk => by
    have := h k (by simp; omega)
    rwa [List.getElem_append_left hk] at this)
   have h2 := h r.length (by simp)
   rw [List.getElem_append_right (Nat.le_refl _)] at h2
   simp only [Nat.sub_self, List.getElem_cons_zero] at h2
   rw [hr] at h2
   rw [bulk_all] at h1 ⊢
   rw [List.range_succ, List.map_append, List.map_append, List.map_append, List.sum_append, List.sum_append]
   simp only [List.map_cons, List.map_nil, List.sum_cons, List.sum_nil]
   omega
theorem rdF_of {w : World} {A : Option Addr} {xs : List Value} (h : Rd w w.heap.size A xs) : RdF w (fun k => k < w.heap.size) A xs := fun h0 => by
 obtain ⟨ad, rfl, hb, hc⟩ := h h0
 have h1 := hc 0 xs[0] (List.getElem?_eq_getElem h0)
 have e0 : ad.add 0 = ad := rfl
 rw [e0] at h1
 obtain ⟨b, o, s⟩ := ad
 cases s with
 | none => exact ⟨b, o, rfl, hb, hb, fun j u hu => by rw [← add_lit]; exact hc j u hu⟩
 | some s =>
  exfalso
  unfold World.cell? at h1
  split at h1 <;> simp at h1
structure InEnts (w : World) (A : Option Addr) (rs : List EntR) (c : Nat) : Prop where
 rd : RdF w (fun k => k < w.heap.size) A (erCells rs)
 dat : ∀ q ∈ rs, DatF w (fun k => k < w.heap.size) q.v q.e.b
 num : ∀ q ∈ rs, (-9223372036854775808 ≤ q.e.ix ∧ q.e.ix ≤ 9223372036854775807) ∧ (-9223372036854775808 ≤ q.e.tm ∧ q.e.tm ≤ 9223372036854775807) ∧ (-9223372036854775808 ≤ q.e.kd ∧ q.e.kd ≤ 9223372036854775807)
 le : rs.length ≤ c
 cap : c * 48 ≤ 140737488351232
def entsWt (rs : List EntR) : Nat := (rs.map fun q => q.e.b.length + 5).sum
section
variable {H : Type} {enc : TypeId × Value → H} {P : Program} {W : World} {base : Nat}
theorem row_cellB {t e : TypeId} {k : IntKind} (ht : P.underlying t = some (.slice e)) (he : P.underlying e = some (.int k)) (hc : P.cellsOf e = 1)
  {v : Value} {fuel : Nat} {y : DataW H × List MemPlace} (hf : DataW.trod enc P W 0 (fun _ => true) true fuel t [v] = some y) (hw : ∀ n ∈ y.1.weights P t, n ≤ reachBytes) :
  ∃ (A : Option Addr) (z : List Int) (c : Nat), v = .slice A z.length c ∧ Rd W W.heap.size A (z.map (Value.int k)) ∧ z.length ≤ c ∧ c * P.bytesOf e ≤ reachBytes ∧ (∀ n ∈ z, (Lit.int k n).wf = true) ∧ z.length + 1 ≤ Rows.uptoBulk y.1 := by
 rcases open_ints ht he hc hf with ⟨hcs, hx⟩ | ⟨a, l, c, zs, hcs, _, hl, hm, hz, hx, hcell, hwz⟩
 ·simp at hcs
  subst hcs
  exact ⟨none, [], 0, rfl, Rd.none_, by simp, by simp, by simp, bulk_one _⟩
 ·simp at hcs
  subst hcs
  subst hx
  simp only [if_true] at hz
  have hlen : (zs.take l).length = l := by simp; omega
  refine ⟨some a, zs.take l, c, by rw [hlen], ?_, by omega, ?_, fun n hn => hwz n (List.mem_of_mem_take hn), ?_⟩
  ·intro h0
   have h1 : 0 < zs.length := by
    rw [List.length_map, hlen] at h0
    omega
   refine ⟨a, rfl, ?_, fun j u hu => ?_⟩
   ·exact World.block_lt_of_cell? W a (by have := hcell 0 h1; simpa [Addr.add] using this)
   ·rw [List.getElem?_map] at hu
    obtain ⟨n, hn, rfl⟩ := Option.map_eq_some_iff.1 hu
    rw [List.getElem?_take] at hn
    split at hn
    ·have hj : j < zs.length := (List.getElem?_eq_some_iff.1 hn).1
     rw [hcell j hj]
     simp [List.getD, hn]
    ·cases hn
  ·have := hw (((lits (H := H) k (zs.take l)).length + (lits (H := H) k (zs.drop l)).length) * P.bytesOf e) (by simp [DataW.weights, ht])
   simp only [lits, List.length_map, List.length_take, List.length_drop] at this
   rw [show min l zs.length + (zs.length - l) = c by omega] at this
   exact this
  ·have h1 := bulk_len (lits (H := H) k (zs.take l))
   have h2 : (lits (H := H) k (zs.take l)).length = (zs.take l).length := by simp [lits]
   simp only [Rows.uptoBulk]
   omega
theorem bytes_cellB {t e : TypeId} (ht : P.underlying t = some (.slice e)) (he : P.underlying e = some (.int .u8)) (hc : P.cellsOf e = 1) (hby : P.bytesOf e = 1)
  {v : Value} {fuel : Nat} {y : DataW H × List MemPlace} (hf : DataW.trod enc P W 0 (fun _ => true) true fuel t [v] = some y) (hw : ∀ n ∈ y.1.weights P t, n ≤ reachBytes) :
  ∃ (A : Option Addr) (l : List UInt8) (c : Nat), v = .slice A l.length c ∧ In8 W A l c ∧ l.length + 1 ≤ Rows.uptoBulk y.1 := by
 obtain ⟨A, z, c, rfl, hr, hl, hcap, hwf, hbk⟩ := row_cellB ht he hc hf hw
 refine ⟨A, z.map fun n => UInt8.ofNat n.toNat, c, by rw [List.length_map], ⟨by rw [← map_u8 z hwf]; exact hr, by rw [List.length_map]; exact hl, ?_⟩, by rw [List.length_map]; exact hbk⟩
 rw [hby] at hcap
 simp only [reachBytes] at hcap
 omega
def EnGood (w : World) (ad : Addr) (k : Nat) (q : EntR) : Prop :=
 (∀ j, (hj : j < 4) → w.cell? ((ad.add (k * 4)).add j) = (erOne q)[j]?) ∧ DatF w (fun k => k < w.heap.size) q.v q.e.b ∧ ((-9223372036854775808 ≤ q.e.ix ∧ q.e.ix ≤ 9223372036854775807) ∧ (-9223372036854775808 ≤ q.e.tm ∧ q.e.tm ≤ 9223372036854775807) ∧ (-9223372036854775808 ≤ q.e.kd ∧ q.e.kd ≤ 9223372036854775807))
theorem ents_cell {t e q : TypeId} {f0 f1 f2 f3 : Field} (ht : P.underlying t = some (.slice e)) (he : P.underlying e = some (.struct #[f0, f1, f2, f3])) (hone : oneCellFields P #[f0, f1, f2, f3] = true) (hC : P.cellsOf e = 4) (be : P.bytesOf e = 48)
  (u0 : P.underlying f0.type = some (.int .i64)) (u1 : P.underlying f1.type = some (.int .i64)) (u2 : P.underlying f2.type = some (.int .i64)) (u3 : P.underlying f3.type = some (.slice q)) (uq : P.underlying q = some (.int .u8)) (cq : P.cellsOf q = 1) (bq : P.bytesOf q = 1)
  {v : Value} {fuel : Nat} {y : DataW H × List MemPlace} (hf : DataW.trod enc P W 0 (fun _ => true) true fuel t [v] = some y) (hw : ∀ n ∈ y.1.weights P t, n ≤ reachBytes) :
  ∃ (A : Option Addr) (rs : List EntR) (c : Nat), v = .slice A rs.length c ∧ InEnts W A rs c ∧ entsWt rs + 1 ≤ Rows.uptoBulk y.1 := by
 rcases open_slice ht hf with ⟨hcs, hx⟩ | ⟨a, l, c, m, n, D, Pl, hcs, _, hl, hm, hmm, hx, hi⟩
 ·simp at hcs
  subst hcs
  exact ⟨none, [], 0, rfl, ⟨RdF.nil, (fun q hq => by cases hq), (fun q hq => by cases hq), by simp, by simp⟩, bulk_one _⟩
 ·simp at hcs
  subst hcs
  simp only [if_true] at hmm
  subst hmm
  subst hx
  have hcap : m * 48 ≤ 140737488351232 := by
   have := hw (((List.range l).length + (List.range (m - l)).length) * P.bytesOf e) (by simp [DataW.weights, ht])
   simp only [List.length_range, reachBytes, be] at this
   rw [show l + (m - l) = m by omega] at this
   omega
  obtain ⟨rs, hrs, hgood⟩ := list_of (G := fun k p => EnGood W a k p ∧ p.e.b.length + 5 ≤ Rows.uptoBulk (D k)) l (fun k hk => by
   obtain ⟨cs', hc, ht'⟩ := hi k (by omega)
   rw [hC] at hc
   obtain ⟨ys, n', _, hy, hlen, hyl, hfl⟩ := DataW.trod_struct he ht'
   obtain ⟨_, hcl, hat⟩ := World.cells?_some hc
   have hDw : ∀ x ∈ (D k).weights P e, x ≤ reachBytes := fun x hx => hw x (by
    simp only [DataW.weights, ht]
    exact List.mem_cons_of_mem _ (List.mem_append_left _ (weights_mem_all (List.mem_map.2 ⟨k, List.mem_range.2 hk, rfl⟩) hx)))
   simp only [Prod.mk.injEq] at hy
   match cs', hcl, ys, hyl with
   | [c0, c1, c2, c3], _, [y0, y1, y2, y3], _ =>
    obtain ⟨o0, k0⟩ := hone_of hone 0 f0 rfl
    obtain ⟨o1, k1⟩ := hone_of hone 1 f1 rfl
    obtain ⟨o2, k2⟩ := hone_of hone 2 f2 rfl
    obtain ⟨o3, k3⟩ := hone_of hone 3 f3 rfl
    have t0 := hfl 0 f0 rfl
    have t1 := hfl 1 f1 rfl
    have t2 := hfl 2 f2 rfl
    have t3 := hfl 3 f3 rfl
    simp [o0, k0] at t0
    simp [o1, k1] at t1
    simp [o2, k2] at t2
    simp [o3, k3] at t3
    obtain ⟨i, rfl, hib⟩ := int_cell u0 t0
    obtain ⟨tt, rfl, htb⟩ := int_cell u1 t1
    obtain ⟨nn, rfl, hnb⟩ := int_cell u2 t2
    obtain ⟨B, lb, cb, rfl, hB, hbk⟩ := bytes_cellB u3 uq cq bq t3 (fun x hx => hDw x (by
     rw [hy.1]
     simp only [DataW.weights, he, List.map_cons, List.map_nil, DataW.weightsEach, List.mem_append]
     exact .inr (.inr (.inr (.inl hx)))))
    have hble := hB.le
    have hbca := hB.cap
    refine ⟨⟨.slice B lb.length cb, ⟨i, tt, nn, lb⟩⟩, ⟨fun j hj => ?_, ⟨B, cb, rfl, hble, by omega, rdF_of hB.rd⟩, hib, htb, hnb⟩, ?_⟩
    ·match j, hj with
     | 0, _ => exact hat 0 (by omega)
     | 1, _ => exact hat 1 (by omega)
     | 2, _ => exact hat 2 (by omega)
     | 3, _ => exact hat 3 (by omega)
    ·rw [hy.1]
     have b0 := bulk_one y0.1
     have b1 := bulk_one y1.1
     have b2 := bulk_one y2.1
     simp only [List.map_cons, List.map_nil, Rows.uptoBulk, Rows.uptoBulkAll]
     show lb.length + 5 ≤ _
     omega)
  have hadd : ∀ k j, (a.add (k * 4)).add j = a.add (k * 4 + j) := fun k j => by rw [Addr.add_add]
  refine ⟨some a, rs, m, by rw [hrs], ⟨rdF_of (fun h0 => ?_), fun q hq => ?_, fun q hq => ?_, by omega, hcap⟩, ?_⟩
  ·rw [erCells_len] at h0
   have h1 := (hgood 0 (by omega)).1.1 0 (by omega)
   refine ⟨a, rfl, ?_, fun j u hu => ?_⟩
   ·have h2 := World.block_lt_of_cell? W _ h1
    rwa [block_of_add, block_of_add] at h2
   ·have hj : j < 4 * rs.length := by
     have := (List.getElem?_eq_some_iff.1 hu).1
     rwa [erCells_len] at this
    have e : j = j / 4 * 4 + j % 4 := by omega
    rw [e, erCells_at rs (by omega) (by omega)] at hu
    rw [e, ← hadd, (hgood (j / 4) (by omega)).1.1 (j % 4) (by omega), hu]
  ·obtain ⟨k, hk, rfl⟩ := List.getElem_of_mem hq
   exact (hgood k hk).1.2.1
  ·obtain ⟨k, hk, rfl⟩ := List.getElem_of_mem hq
   exact (hgood k hk).1.2.2
  ·have h1 := bulk_range (fun q : EntR => q.e.b.length + 5) D l rs hrs (fun k hk => (hgood k hk).2)
   unfold entsWt
   simp only [Rows.uptoBulk]
   omega
end
structure LAct where
 o : Int
 n : Int
 m : Int
 Al : Option Addr
 rs : List EntR
 cl : Nat
 Ak : Option Addr
 kz : List Int
 ck : Nat
 nm : ByteArray
 Ab : Option Addr
 b : List UInt8
 cb : Nat
def LAct.cs (a : LAct) : List Value := [.int .i64 a.o, .int .i64 a.n, .int .i64 a.m, .slice a.Al a.rs.length a.cl, .slice a.Ak a.kz.length a.ck, .string a.nm, .slice a.Ab a.b.length a.cb]
structure LAct.Ok (w : World) (a : LAct) : Prop where
 n : -9223372036854775808 ≤ a.n ∧ a.n ≤ 9223372036854775807
 m : -9223372036854775808 ≤ a.m ∧ a.m ≤ 9223372036854775807
 l : InEnts w a.Al a.rs a.cl
 k : InInts w a.Ak a.kz a.ck
 nl : a.nm.size ≤ 140737488351232
 b : In8 w a.Ab a.b a.cb
def LAct.wt (a : LAct) : Nat := entsWt a.rs + a.kz.length + a.nm.size + a.b.length + 7
theorem lacs_at (acs : List LAct) {k : Nat} (hk : k < acs.length) {j : Nat} (hj : j < 7) : (acs.flatMap LAct.cs)[k * 7 + j]? = (acs[k].cs)[j]? := by
 induction acs generalizing k with
 | nil => simp at hk
 | cons x r ih =>
  rw [List.flatMap_cons]
  cases k with
  | zero => rw [List.getElem?_append_left (by simp [LAct.cs]; omega)]; simp
  | succ k =>
   rw [List.getElem?_append_right (by simp [LAct.cs]; omega)]
   have : (k + 1) * 7 + j - x.cs.length = k * 7 + j := by simp [LAct.cs]; omega
   rw [this, ih (by simpa using hk)]
   rfl
theorem lacs_len (acs : List LAct) : (acs.flatMap LAct.cs).length = 7 * acs.length := by
 induction acs with
 | nil => rfl
 | cons x r ih => rw [List.flatMap_cons, List.length_append, ih]; simp [LAct.cs]; omega
structure InLActs (w : World) (A : Option Addr) (acs : List LAct) (c : Nat) : Prop where
 rd : RdF w (fun k => k < w.heap.size) A (acs.flatMap LAct.cs)
 ok : ∀ a ∈ acs, a.Ok w
 le : acs.length ≤ 4611686018427387904
def LaGood (w : World) (ad : Addr) (k : Nat) (a : LAct) : Prop :=
 (∀ j, (hj : j < 7) → w.cell? ((ad.add (k * 7)).add j) = a.cs[j]?) ∧ a.Ok w
section
variable {H : Type} {enc : TypeId × Value → H} {P : Program} {W : World} {base : Nat}
theorem act_fields {e q ee ei : TypeId} {f0 f1 f2 f3 f4 f5 f6 s0 s1 s2 s3 : Field} (he : P.underlying e = some (.struct #[f0, f1, f2, f3, f4, f5, f6])) (hone : oneCellFields P #[f0, f1, f2, f3, f4, f5, f6] = true)
  (u0 : P.underlying f0.type = some (.int .i64)) (u1 : P.underlying f1.type = some (.int .i64)) (u2 : P.underlying f2.type = some (.int .i64))
  (u3 : P.underlying f3.type = some (.slice ee)) (hs : P.underlying ee = some (.struct #[s0, s1, s2, s3])) (hsone : oneCellFields P #[s0, s1, s2, s3] = true) (cee : P.cellsOf ee = 4) (bee : P.bytesOf ee = 48)
  (v0 : P.underlying s0.type = some (.int .i64)) (v1 : P.underlying s1.type = some (.int .i64)) (v2 : P.underlying s2.type = some (.int .i64)) (v3 : P.underlying s3.type = some (.slice q)) (uq : P.underlying q = some (.int .u8)) (cq : P.cellsOf q = 1) (bq : P.bytesOf q = 1)
  (u4 : P.underlying f4.type = some (.slice ei)) (ue : P.underlying ei = some (.int .i64)) (ce : P.cellsOf ei = 1) (bei : P.bytesOf ei = 8) (u5 : P.underlying f5.type = some .string) (u6 : P.underlying f6.type = some (.slice q))
  {fuel : Nat} {cs' : List Value} {y : DataW H × List MemPlace} (ht' : DataW.trod enc P W 0 (fun _ => true) true fuel e cs' = some y) (hcl : cs'.length = 7) (hDw : ∀ x ∈ y.1.weights P e, x ≤ reachBytes) :
  ∃ a : LAct, cs' = a.cs ∧ a.Ok W ∧ a.wt + 1 ≤ Rows.uptoBulk y.1 := by
 obtain ⟨ys, n', _, hy, hlen, hyl, hfl⟩ := DataW.trod_struct he ht'
 have hy1 : y.1 = .agg (ys.map (·.1)) := congrArg Prod.fst hy
 obtain ⟨y0, y1, y2, y3, y4, y5, y6, rfl⟩ : ∃ y0 y1 y2 y3 y4 y5 y6, ys = [y0, y1, y2, y3, y4, y5, y6] := by
  match ys, hyl with
  | [y0, y1, y2, y3, y4, y5, y6], _ => exact ⟨_, _, _, _, _, _, _, rfl⟩
 match cs', hcl with
 | [c0, c1, c2, c3, c4, c5, c6], _ =>
  obtain ⟨o0, k0⟩ := hone_of hone 0 f0 rfl
  obtain ⟨o1, k1⟩ := hone_of hone 1 f1 rfl
  obtain ⟨o2, k2⟩ := hone_of hone 2 f2 rfl
  obtain ⟨o3, k3⟩ := hone_of hone 3 f3 rfl
  obtain ⟨o4, k4⟩ := hone_of hone 4 f4 rfl
  obtain ⟨o5, k5⟩ := hone_of hone 5 f5 rfl
  obtain ⟨o6, k6⟩ := hone_of hone 6 f6 rfl
  have t0 := hfl 0 f0 rfl
  have t1 := hfl 1 f1 rfl
  have t2 := hfl 2 f2 rfl
  have t3 := hfl 3 f3 rfl
  have t4 := hfl 4 f4 rfl
  have t5 := hfl 5 f5 rfl
  have t6 := hfl 6 f6 rfl
  simp [o0, k0] at t0
  simp [o1, k1] at t1
  simp [o2, k2] at t2
  simp [o3, k3] at t3
  simp [o4, k4] at t4
  simp [o5, k5] at t5
  simp [o6, k6] at t6
  have hWk : ∀ x, (x ∈ y3.1.weights P f3.type ∨ x ∈ y4.1.weights P f4.type ∨ x ∈ y5.1.weights P f5.type ∨ x ∈ y6.1.weights P f6.type) → x ≤ reachBytes := fun x hx => hDw x (by
   rw [hy1]
   simp only [DataW.weights, he, List.map_cons, List.map_nil, DataW.weightsEach, List.mem_append]
   rcases hx with h | h | h | h
   ·exact .inr (.inr (.inr (.inl h)))
   ·exact .inr (.inr (.inr (.inr (.inl h))))
   ·exact .inr (.inr (.inr (.inr (.inr (.inl h)))))
   ·exact .inr (.inr (.inr (.inr (.inr (.inr (.inl h)))))))
  obtain ⟨o, rfl, hob⟩ := int_cell u0 t0
  obtain ⟨nn, rfl, hnb⟩ := int_cell u1 t1
  obtain ⟨mm, rfl, hmb⟩ := int_cell u2 t2
  obtain ⟨eA, rs, ec, rfl, hE, hEw⟩ := ents_cell u3 hs hsone cee bee v0 v1 v2 v3 uq cq bq t3 (fun x hx => hWk x (.inl hx))
  obtain ⟨kA, kz, kc, rfl, hkr, hkl, hkc, hkw, hkb⟩ := row_cellB u4 ue ce t4 (fun x hx => hWk x (.inr (.inl hx)))
  obtain ⟨s, hs1, hs2, _⟩ := DataW.trod_string u5 t5
  simp at hs1
  subst hs1
  have hsl : s.size ≤ 140737488351232 := by
   have := hWk s.data.toList.length (.inr (.inr (.inl (by rw [hs2]; simp [DataW.weights]))))
   simp only [reachBytes] at this
   simpa using this
  obtain ⟨bA, lb, bc, rfl, hB, hBw⟩ := bytes_cellB u6 uq cq bq t6 (fun x hx => hWk x (.inr (.inr (.inr hx))))
  refine ⟨⟨o, nn, mm, eA, rs, ec, kA, kz, kc, s, bA, lb, bc⟩, rfl, ⟨hnb, hmb, hE, ⟨hkr, hkl, ?_, fun n hn => bd_i64 (hkw n hn)⟩, hsl, hB⟩, ?_⟩
  ·rw [bei] at hkc
   simp only [reachBytes] at hkc
   omega
  ·have b0 := bulk_one y0.1
   have b1 := bulk_one y1.1
   have b2 := bulk_one y2.1
   have b5 : s.size + 1 ≤ Rows.uptoBulk y5.1 := by rw [hs2]; simp [Rows.uptoBulk]
   rw [hy1]
   simp only [List.map_cons, List.map_nil, Rows.uptoBulk, Rows.uptoBulkAll]
   unfold LAct.wt
   simp only
   omega
theorem open_lacts {t e q ee ei : TypeId} {f0 f1 f2 f3 f4 f5 f6 s0 s1 s2 s3 : Field} (ht : P.underlying t = some (.slice e)) (he : P.underlying e = some (.struct #[f0, f1, f2, f3, f4, f5, f6])) (hone : oneCellFields P #[f0, f1, f2, f3, f4, f5, f6] = true) (hC : P.cellsOf e = 7)
  (u0 : P.underlying f0.type = some (.int .i64)) (u1 : P.underlying f1.type = some (.int .i64)) (u2 : P.underlying f2.type = some (.int .i64))
  (u3 : P.underlying f3.type = some (.slice ee)) (hs : P.underlying ee = some (.struct #[s0, s1, s2, s3])) (hsone : oneCellFields P #[s0, s1, s2, s3] = true) (cee : P.cellsOf ee = 4) (bee : P.bytesOf ee = 48)
  (v0 : P.underlying s0.type = some (.int .i64)) (v1 : P.underlying s1.type = some (.int .i64)) (v2 : P.underlying s2.type = some (.int .i64)) (v3 : P.underlying s3.type = some (.slice q)) (uq : P.underlying q = some (.int .u8)) (cq : P.cellsOf q = 1) (bq : P.bytesOf q = 1)
  (u4 : P.underlying f4.type = some (.slice ei)) (ue : P.underlying ei = some (.int .i64)) (ce : P.cellsOf ei = 1) (bei : P.bytesOf ei = 8) (u5 : P.underlying f5.type = some .string) (u6 : P.underlying f6.type = some (.slice q))
  {v : Value} {d : DataW H} {p : List MemPlace} (hv : Value.okWide P W .any base t v) (h : DataW.Trod enc P W 0 (fun _ => true) true t v d p) (hw : ∀ n ∈ d.weights P t, n ≤ reachBytes) (hbk : Rows.uptoBulk d ≤ 1048576) :
  ∃ (A : Option Addr) (acs : List LAct) (c : Nat), v = .slice A acs.length c ∧ InLActs W A acs c ∧ (acs.map LAct.wt).sum + 1 ≤ Rows.uptoBulk d := by
 obtain ⟨A, len, cap, rfl⟩ := okWide_slice ht hv
 obtain ⟨fuel, hf⟩ := h
 rcases open_slice ht hf with ⟨hcs, hx⟩ | ⟨a, l, c, m, n, D, Pl, hcs, _, hl, hm, hmm, hx, hi⟩
 ·simp [Value.cells] at hcs
  obtain ⟨rfl, rfl, rfl⟩ := hcs
  exact ⟨none, [], 0, rfl, ⟨RdF.nil, (fun s hs => by cases hs), by simp⟩, bulk_one _⟩
 ·simp [Value.cells] at hcs
  obtain ⟨rfl, rfl, rfl⟩ := hcs
  simp only [if_true] at hmm
  subst hmm
  simp only [Prod.mk.injEq] at hx
  obtain ⟨rfl, rfl⟩ := hx
  obtain ⟨ss, hss, hgood⟩ := list_of (G := fun k s => LaGood W a k s ∧ s.wt ≤ Rows.uptoBulk (D k)) len (fun k hk => by
   obtain ⟨cs', hc, ht'⟩ := hi k (by omega)
   rw [hC] at hc
   obtain ⟨_, hcl, hat⟩ := World.cells?_some hc
   have hDw : ∀ x ∈ (D k).weights P e, x ≤ reachBytes := fun x hx => hw x (by
    simp only [DataW.weights, ht]
    exact List.mem_cons_of_mem _ (List.mem_append_left _ (weights_mem_all (List.mem_map.2 ⟨k, List.mem_range.2 hk, rfl⟩) hx)))
   obtain ⟨ac, rfl, h2, h3⟩ := act_fields he hone u0 u1 u2 u3 hs hsone cee bee v0 v1 v2 v3 uq cq bq u4 ue ce bei u5 u6 ht' hcl hDw
   refine ⟨ac, ⟨fun j hj => ?_, h2⟩, ?_⟩
   ·rw [hat j hj]
   ·show ac.wt ≤ Rows.uptoBulk (D k)
    have h4 : ac.wt + 1 ≤ Rows.uptoBulk (D k) := h3
    omega)
  have hadd : ∀ k j, (a.add (k * 7)).add j = a.add (k * 7 + j) := fun k j => by rw [Addr.add_add]
  have hsum := bulk_range LAct.wt D len ss hss (fun k hk => (hgood k hk).2)
  have hb2 : Rows.uptoBulkAll ((List.range len).map D) + 1 ≤ 1048576 := by
   simp only [Rows.uptoBulk] at hbk
   omega
  have hlen := bulk_len ((List.range len).map D)
  rw [List.length_map, List.length_range] at hlen
  refine ⟨some a, ss, m, by rw [hss], ⟨rdF_of (fun h0 => ?_), fun s hs => ?_, by omega⟩, ?_⟩
  ·rw [lacs_len] at h0
   have h1 := (hgood 0 (by omega)).1.1 0 (by omega)
   refine ⟨a, rfl, ?_, fun j u hu => ?_⟩
   ·have h2 := World.block_lt_of_cell? W _ h1
    rwa [block_of_add, block_of_add] at h2
   ·have hj : j < 7 * ss.length := by
     have := (List.getElem?_eq_some_iff.1 hu).1
     rwa [lacs_len] at this
    have e : j = j / 7 * 7 + j % 7 := by omega
    rw [e, lacs_at ss (by omega) (by omega)] at hu
    rw [e, ← hadd, (hgood (j / 7) (by omega)).1.1 (j % 7) (by omega), hu]
  ·obtain ⟨k, hk, rfl⟩ := List.getElem_of_mem hs
   exact (hgood k hk).1.2
  ·simp only [Rows.uptoBulk]
   omega
end
end Go.Proofs.YtgeofijddhflaaaGreatDoor
