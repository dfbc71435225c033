/- Acts as function values. No condition. -/
import Derived.Test.YteehkcpokgeipaaGreatDoorKeepSaveP
set_option linter.unusedVariables false
namespace Go.Proofs.YteehkcpokgeipaaGreatDoor
open Go.RowKit Oct
theorem info_fn : (Tryz.prog.info? 60).map (fun i => (i.zero, i.size, i.bytes)) = some (some .nilFunc, 1, 8) := by kernel_rfl
theorem Rd.off {w w' : World} {B : Nat} {A : Option Addr} {xs : List Value} (h : Rd w B A xs) (hk : ∀ ad, A = some ad → ad.block < B → w'.heap[ad.block]? = w.heap[ad.block]?) : Rd w' B A xs := fun hn => by
  obtain ⟨ad, e, hb, hc⟩ := h hn
  exact ⟨ad, e, hb, fun j u hu => (World.cell?_of_block (w := w) (by rw [block_of_add]; exact hk ad e hb)).trans (hc j u hu)⟩
theorem Got.lo {w : World} {base : Nat} {A : Option Addr} {n c : Nat} {l : List UInt8} (h : Got w base (.slice A n c) l) : ∀ ad, A = some ad → base ≤ ad.block := fun ad e => h.row.base ad.block (by subst e; rfl)
/-- A function value that stands for an act. -/
def ActV (w3 W : World) (lo b2 b3 : Nat) (v : Value) : SAct → Prop
  | .rm => v = .func (.func 18) #[] #[.pointer (some ⟨b2, 0, none⟩)]
  | .sync => v = .func (.func 22) #[] #[.pointer (some ⟨b2, 0, none⟩)]
  | .ren i => v = .func (.func 24) #[] #[.pointer (some ⟨b2, 0, none⟩), .pointer (some ⟨b3, 0, none⟩)]
  | .app l => ∃ b A c, v = .func (.func 20) #[] #[.pointer (some ⟨b2, 0, none⟩), .pointer (some ⟨b, 0, none⟩)] ∧ w3.heap.size ≤ b ∧ Blk W b 27 #[.slice A l.length c] ∧ l.length ≤ c ∧ l.length ≤ 1048616 ∧ Rd w3 w3.heap.size A (cells l) ∧ ∀ ad, A = some ad → lo ≤ ad.block
def ActsV (w3 W : World) (lo b2 b3 : Nat) (vs : List Value) (al : List SAct) : Prop := vs.length = al.length ∧ ∀ k (h : k < vs.length) (h' : k < al.length), ActV w3 W lo b2 b3 vs[k] al[k]
theorem ActV.keep {w3 W W' : World} {lo b2 b3 : Nat} {v : Value} {a : SAct} (h : ActV w3 W lo b2 b3 v a) (hk : ∀ b cs, w3.heap.size ≤ b → Blk W b 27 cs → W'.heap[b]? = W.heap[b]?) : ActV w3 W' lo b2 b3 v a := by
  cases a with
  | rm => exact h
  | sync => exact h
  | ren i => exact h
  | app l =>
    obtain ⟨b, A, c, h1, h2, h3, h4⟩ := h
    exact ⟨b, A, c, h1, h2, (hk b _ h2 h3).trans h3, h4⟩
theorem ActsV.keep {w3 W W' : World} {lo b2 b3 : Nat} {vs : List Value} {al : List SAct} (h : ActsV w3 W lo b2 b3 vs al) (hk : ∀ b cs, w3.heap.size ≤ b → Blk W b 27 cs → W'.heap[b]? = W.heap[b]?) : ActsV w3 W' lo b2 b3 vs al :=
  ⟨h.1, fun k h1 h2 => (h.2 k h1 h2).keep hk⟩
theorem ActsV.push {w3 W : World} {lo b2 b3 : Nat} {vs us : List Value} {al bs : List SAct} (h : ActsV w3 W lo b2 b3 vs al) (k : ActsV w3 W lo b2 b3 us bs) : ActsV w3 W lo b2 b3 (vs ++ us) (al ++ bs) := by
  refine ⟨by rw [List.length_append, List.length_append, h.1, k.1], fun j h1 h2 => ?_⟩
  by_cases hj : j < vs.length
  · rw [List.getElem_append_left hj, List.getElem_append_left (by rw [← h.1]; exact hj)]
    exact h.2 j _ _
  · rw [List.getElem_append_right (by omega), List.getElem_append_right (by rw [← h.1]; omega)]
    have := k.2 (j - vs.length) (by rw [List.length_append] at h1; omega) (by rw [List.length_append] at h2; have := h.1; omega)
    simpa only [h.1] using this
theorem ActsV.one {w3 W : World} {lo b2 b3 : Nat} {v : Value} {a : SAct} (h : ActV w3 W lo b2 b3 v a) : ActsV w3 W lo b2 b3 [v] [a] := ⟨rfl, fun k h1 h2 => by
  obtain rfl : k = 0 := by simp at h1; exact h1
  exact h⟩
theorem ActsV.nil {w3 W : World} {lo b2 b3 : Nat} : ActsV w3 W lo b2 b3 [] [] := ⟨rfl, fun k h1 => by simp at h1⟩
/-- An append to the acts' own row leaves the boxes be. -/
theorem ActsV.grown {w3 W W' : World} {lo b2 b3 base : Nat} {v : Value} {xs vs : List Value} {al : List SAct} (h : ActsV w3 W lo b2 b3 vs al) (hown : Own W base 60 v xs) (hg : W.grownBy W' v.ownBlock) : ActsV w3 W' lo b2 b3 vs al :=
  h.keep fun b cs _ hb => hg.block b hb.lt fun e => by
    obtain ⟨cs', hc⟩ := ownsRow_held hown e.symm
    have hb' : W.heap[b]? = some (Obj.cells cs 27 (0, 0)) := hb
    rw [hb'] at hc
    injection hc with hc
    injection hc with _ hc _
    exact absurd hc (by decide)
theorem ActsV.below {w3 W W' : World} {lo b2 b3 : Nat} {vs : List Value} {al : List SAct} (h : ActsV w3 W lo b2 b3 vs al) (hb : Below W.heap.size W W') : ActsV w3 W' lo b2 b3 vs al := h.keep fun b cs _ hk => hb.block b hk.lt
end Go.Proofs.YteehkcpokgeipaaGreatDoor

/- An act that is called. Condition: as its parts'. -/
set_option linter.unusedVariables false
namespace Go.Proofs.YteehkcpokgeipaaGreatDoor
open Go.RowKit Go.Shelf Oct

theorem act_calls {w3 W : World} {lo b2 b3 base g m : Nat} {pw : PWD} {room : Int} {es : List (Nm × FE)} {a : SAct} {v : Value} {i : Int} (hD : DiskAt W base g m pw room es) (ha : ActV w3 W lo b2 b3 v a)
    (c2 : W.cell? ⟨b2, 0, none⟩ = some (.pointer (some ⟨g, 0, none⟩))) (c3 : W.cell? ⟨b3, 0, none⟩ = some (.int .i64 i)) (hren : ∀ j, a = .ren j → j = i) (hi : -9223372036854775808 ≤ i ∧ i ≤ 9223372036854775807) (ht : Tab W)
    (hrd : ∀ (A : Option Addr) (l : List UInt8), Rd w3 w3.heap.size A (cells l) → (∀ ad, A = some ad → lo ≤ ad.block) → Rd W W.heap.size A (cells l)) {M : Nat} (hok : DOk M (dkOf pw room es)) (hM : M < 4398046511104) (hnb : ¬ DFoot g m es b2) (hnb' : ¬ DFoot g m es b3) :
    ∃ F caps, v = .func (.func F) #[] caps ∧ Enters Tryz.prog F ∧ Calls Tryz.prog F caps W fun e w' => e = .returned (.int .i64 (a.run (dkOf pw room es)).1) ∧ DiskTo W base g m es (a.run (dkOf pw room es)).2 w' := by
  have hes : es.length < 4398046511104 := by
    have := hok.len
    have e : (dkOf pw room es).fs.length = es.length := by show (sec FE.f es).length = _; simp
    omega
  have hsz : sizes (sec FE.f es) ≤ 549755813888 := Int.le_trans hok.sz hok.room
  cases a with
  | rm => exact ⟨_, _, ha, enters_of Tryz.func18 (by kernel_rfl) rfl, act1_any hD b2 c2⟩
  | sync => exact ⟨_, _, ha, enters_of Tryz.func22 (by kernel_rfl) rfl, act3_any hD b2 c2⟩
  | ren j =>
    obtain rfl := hren j rfl
    exact ⟨_, _, ha, enters_of Tryz.func24 (by kernel_rfl) rfl, act4_any hD b2 b3 j hi c2 c3 ht hes hnb hnb'⟩
  | app l =>
    obtain ⟨b, A, c, hv, hlo, hb, hlc, hl, hr, hA⟩ := ha
    exact ⟨_, _, hv, enters_of Tryz.func20 (by kernel_rfl) rfl, act2_any hD b2 b A l c c2 (hb.cell 0) (hrd A l hr hA) hlc (by omega) (fun q hq => by
      have h1 := sizes_mem (q := (q.1, q.2.f)) (l := sec FE.f es) (List.mem_map.2 ⟨q, hq, rfl⟩)
      simp only at h1
      omega) (by omega) hes⟩
end Go.Proofs.YteehkcpokgeipaaGreatDoor
