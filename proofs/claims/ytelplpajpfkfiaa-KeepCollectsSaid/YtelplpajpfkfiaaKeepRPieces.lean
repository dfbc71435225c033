/- The reference's pieces; pieces that can be read. Condition: as keep.Bytes. -/
import Derived.Test.YtelplpajpfkfiaaKeepPieces
import Derived.Lib.SlBytesConst
import Derived.BigQuiet
set_option linter.unusedVariables false
namespace Go.Proofs.Ytelplpajpfkfiaa
open Go.RowKit Oct

/-- Pieces that can be read. -/
def PcRd (w : World) (B : Nat) (A : Option Addr) (i t many : Int) (ls : List (List UInt8)) : Prop :=
  ∀ k (hk : k < ls.length), ∃ g a c, A = some ⟨g, 0, none⟩ ∧ g < B ∧ w.cell? ⟨g, k * 5, none⟩ = some (.int .i64 i) ∧ w.cell? ⟨g, k * 5 + 1, none⟩ = some (.int .i64 t) ∧ w.cell? ⟨g, k * 5 + 2, none⟩ = some (.int .i64 k) ∧ w.cell? ⟨g, k * 5 + 3, none⟩ = some (.int .i64 many) ∧ w.cell? ⟨g, k * 5 + 4, none⟩ = some (.slice a ls[k].length c) ∧ Rd w B a (cells ls[k]) ∧ ls[k].length ≤ c
theorem PcRd.below {w w' : World} {B B' : Nat} {A : Option Addr} {i t many : Int} {ls : List (List UInt8)} (h : PcRd w B A i t many ls) (hb : Below B' w w') (hB : B ≤ B') : PcRd w' B A i t many ls := fun k hk => by
  obtain ⟨g, a, c, h1, h2, h3, h4, h5, h6, h7, h8, h9⟩ := h k hk
  have hc : ∀ j, w'.cell? ⟨g, j, none⟩ = w.cell? ⟨g, j, none⟩ := fun j => hb.cell (p := ⟨g, j, none⟩) (Nat.lt_of_lt_of_le h2 hB)
  exact ⟨g, a, c, h1, h2, (hc _).trans h3, (hc _).trans h4, (hc _).trans h5, (hc _).trans h6, (hc _).trans h7, h8.below (hb.mono hB), h9⟩
theorem PcRd.more {w : World} {B B' : Nat} {A : Option Addr} {i t many : Int} {ls : List (List UInt8)} (h : PcRd w B A i t many ls) (hB : B ≤ B') : PcRd w B' A i t many ls := fun k hk => by
  obtain ⟨g, a, c, h1, h2, h3, h4, h5, h6, h7, h8, h9⟩ := h k hk
  exact ⟨g, a, c, h1, by omega, h3, h4, h5, h6, h7, h8.more hB, h9⟩
theorem add_zero_lit (g j : Nat) : (⟨g, 0, none⟩ : Addr).add j = ⟨g, j, none⟩ := by unfold Addr.add; split <;> simp_all
theorem pcCells_get (i t many : Int) : ∀ (b : Nat) (xs : List Value) (k : Nat) (hk : k < xs.length), (pcCells i t many b xs)[k * 5]? = some (.int .i64 i) ∧ (pcCells i t many b xs)[k * 5 + 1]? = some (.int .i64 t) ∧ (pcCells i t many b xs)[k * 5 + 2]? = some (.int .i64 ((b + k : Nat) : Int)) ∧ (pcCells i t many b xs)[k * 5 + 3]? = some (.int .i64 many) ∧ (pcCells i t many b xs)[k * 5 + 4]? = some xs[k]
  | b, [], k, hk => absurd hk (by simp)
  | b, x :: r, 0, _ => by simp [pcCells]
  | b, x :: r, k + 1, hk => by
    have h := pcCells_get i t many (b + 1) r k (by simpa using hk)
    have e : ∀ j, (pcCells i t many b (x :: r))[(k + 1) * 5 + j]? = (pcCells i t many (b + 1) r)[k * 5 + j]? := fun j => by
      rw [show (k + 1) * 5 + j = (k * 5 + j) + 1 + 1 + 1 + 1 + 1 by omega]
      simp [pcCells]
    have e0 := e 0
    simp only [Nat.add_zero] at e0
    rw [e0, e 1, e 2, e 3, e 4, show b + (k + 1) = b + 1 + k by omega]
    simpa using h
theorem pcRd_of {w : World} {base B : Nat} {A : Option Addr} {c n : Nat} {i t many : Int} {xs : List Value} {ls : List (List UInt8)} (h : w.ownsRow base 71 5 (.slice A n c) n (pcCells i t many 0 xs)) (hn : n = xs.length) (hl : xs.length = ls.length) (hB : w.heap.size ≤ B)
    (hx : ∀ k (hk : k < xs.length) (hk' : k < ls.length), ∃ a c, xs[k] = .slice a ls[k].length c ∧ Rd w B a (cells ls[k]) ∧ ls[k].length ≤ c) : PcRd w B A i t many ls := fun k hk => by
  subst hn
  have hk' : k < xs.length := by omega
  obtain ⟨a, c', h1, h2, h2'⟩ := hx k hk' hk
  rcases h.2 with ⟨hv, h0⟩ | ⟨g, cap, cur, hv, hb, hg, r⟩
  · omega
  · injection hv with hA
    subst hA
    have hlt : g < w.heap.size := (Array.getElem?_eq_some_iff.1 hg).1
    obtain ⟨e0, e1, e2, e3, e4⟩ := pcCells_get i t many 0 xs k hk'
    have hc : ∀ j u, (pcCells i t many 0 xs)[j]? = some u → w.cell? ⟨g, j, none⟩ = some u := fun j u hj => by have := World.ownsRow.cells h (g := g) rfl j u hj; rwa [add_zero_lit] at this
    rw [Nat.zero_add] at e2
    rw [h1] at e4
    exact ⟨_, a, c', rfl, by show g < B; omega, hc _ _ e0, hc _ _ e1, hc _ _ e2, hc _ _ e3, hc _ _ e4, h2, h2'⟩
theorem GotPcs.pcRd {w : World} {base : Nat} {v : Value} {i t many : Int} {xs : List Value} {ls : List (List UInt8)} (h : GotPcs w base v i t many xs ls) : ∃ A c, v = .slice A ls.length c ∧ ls.length ≤ c ∧ PcRd w w.heap.size A i t many ls := by
  obtain ⟨A, c, rfl, h1, _⟩ := h.shape
  have hl := h.len
  refine ⟨A, c, by rw [hl], by omega, pcRd_of h.own rfl hl (Nat.le_refl _) (fun k hk hk' => ?_)⟩
  obtain ⟨a, c', h2, h3, _, h4⟩ := (h.got k hk hk').shape
  exact ⟨a, c', h2, h4, h3⟩

theorem ownsRow_shape {w : World} {base : Nat} {e : TypeId} {size n : Nat} {v : Value} {xs : List Value} (h : w.ownsRow base e size v n xs) : ∃ A c, v = .slice A n c ∧ n ≤ c ∧ c ≤ maxLen := by
  rcases h.2 with ⟨hv, h0⟩ | ⟨g, cap, cur, hv, hb, hg, hn, hc, _⟩
  · exact ⟨none, 0, by rw [hv, h0], by omega, by simp⟩
  · exact ⟨_, cap, hv, hn, hc⟩
set_option maxHeartbeats 4000000 in
set_option maxRecDepth 100000 in
theorem rpieces_ok (i t : Int) (Av Ad : Option Addr) (z : List Int) (l : List UInt8) (nv cv nd cd : Nat) (hv : nv = z.length) (hd : nd = l.length) (w : World) (hr : Rd w w.heap.size Av (z.map (Value.int .i64))) (hr2 : Rd w w.heap.size Ad (cells l))
    (hz : ∀ n ∈ z, -9223372036854775808 ≤ n ∧ n ≤ 9223372036854775807) (hl : z.length ≤ 140737488351232) (hl2 : l.length ≤ 4611686018427387904) (hm : mayB i t z l = true) :
    Calls Try.prog 56 #[snapV i t Av nv cv Ad nd cd] w fun e w' => ∃ A c, e = .returned (.tuple #[.slice A (chunksL (snapS i t z l)).length c, .int .i64 0]) ∧ PcRd w' w'.heap.size A i t (chunksL (snapS i t z l)).length (chunksL (snapS i t z l)) ∧ Below w.heap.size w w' := by
  subst hv; subst hd
  have hE : snapE i t z l = 0 := if_pos hm
  have hby := rbytes_any i t Av Ad z l _ cv _ cd rfl rfl
  rw [hE] at hby
  unfold snapV at hby ⊢
  have hS0 := Lib.hid (snapAt_new w i t (.slice Av z.length cv) (.slice Ad l.length cd))
  have hb0 := Lib.hid ((Below.refl w.heap.size w).alloc (Nat.le_refl _) (Obj.cells #[.int .i64 i, .int .i64 t, .slice Av z.length cv, .slice Ad l.length cd] 59))
  have hby := Lib.hid (hby (w.alloc (Obj.cells #[.int .i64 i, .int .i64 t, .slice Av z.length cv, .slice Ad l.length cd] 59)) ((hr.below hb0.out).more hb0.out.size) ((hr2.below hb0.out).more hb0.out.size) hz hl hl2)
  have hlS : (snapS i t z l).length ≤ 1052000 := snapS_le hm hz
  obtain ⟨L, hL⟩ : ∃ L, L = snapS i t z l := ⟨_, rfl⟩
  rw [← hL] at hby hlS ⊢
  clear hL hE
  go_enter Try.func56, Try.ntmps56
  go_wp2_with fail
  refine hby.out.mono ?_
  clear hby
  rintro e w1 ⟨v1, rfl, hg1, hb1⟩
  obtain ⟨A1, c1, rfl, hc1, hm1, hr1⟩ := bs_shape hg1
  have hS1 := Lib.hid (hS0.out.below hb1 (by simp))
  have hb01 := Lib.hid (hb0.out.trans (hb1.mono hb0.out.size))
  clear hS0 hb0 hb1 hg1
  go_wp2_with fail
  refine (rchunks_any A1 L _ c1 rfl w1 hr1 hc1 ⟨by omega, hm1⟩).mono ?_
  rintro e w2 ⟨v2, xs, rfl, hg2, hb2⟩
  have hws : w.heap.size + 1 ≤ w1.heap.size := snapAt_lt hS1.out
  have hs12 : w1.heap.size ≤ w2.heap.size := hb2.size
  have hS2 := Lib.hid (hS1.out.below hb2 (by omega))
  have hb02 := Lib.hid (hb01.out.trans (hb2.mono hb01.out.size))
  have HG := Lib.hid hg2
  have hlen : xs.length = (chunksL L).length := hg2.len
  have hxl : xs.length ≤ 3000 := by rw [hlen, chunksL_length]; omega
  have HL := Lib.hid hlen
  obtain ⟨A2, c2, rfl, hc2, hm2, _⟩ := hg2.own.shape
  have hrow : Hid (∀ k (hk : k < xs.length), ∃ g a q ck, A2 = some ⟨g, 0, none⟩ ∧ g < w2.heap.size ∧ w2.cell? ⟨g, k, none⟩ = some xs[k] ∧ xs[k] = .slice a q ck) := Lib.hid fun k hk => by
    rcases hg2.own.whole with ⟨_, h0⟩ | ⟨g, cap, cur, hv, hb, hg, hblk, _, _, _, ht⟩
    · subst h0; simp at hk
    · injection hv with hA
      obtain ⟨a, ck, hv2, _⟩ := (hg2.got k hk (by omega)).shape
      refine ⟨g, a, _, ck, hA, hg, ?_, hv2⟩
      have := World.ownsRow.cells hg2.own (g := g) (by rw [hA]; rfl) k xs[k] (List.getElem?_eq_getElem hk)
      simpa [Addr.add_lit] using this
  clear hg2 hlen hb2 hS1 hb01
  go_wp2_with fail
  go_loopw [7, 8] (fun v n wr => ∃ k : Nat, k ≤ xs.length ∧ n = .int .i64 k ∧ Hid (wr.ownsRow w2.heap.size 71 5 v k (pcCells i t xs.length 0 (xs.take k))) ∧ Below w2.heap.size w2 wr) (fun _ n _ => xs.length - (intOf n).toNat)
  case atStart => exact ⟨0, by omega, rfl, Lib.hid (World.ownsRow_nil _ _ _ _), Below.refl _ _⟩
  case round =>
    obtain ⟨k, hk, rfl, hown, hb⟩ := hrel
    by_cases hlt : k < xs.length
    · have hltI : (k : Int) < xs.length := by omega
      obtain ⟨g, a, q, ck, rfl, hgl, hcell, hxk⟩ := hrow.out k hlt
      have hS3 := hS2.out.below hb (by omega)
      obtain ⟨s0, s1, _, _⟩ := hS3
      have hc3 : wr.cell? ⟨g, k, none⟩ = some (.slice a q ck) := by rw [← hxk]; exact (hb.cell (p := ⟨g, k, none⟩) hgl).trans hcell
      have HX := Lib.hid hxk
      clear hxk hcell
      go_wp2_with fail
      refine wp_region_held_drew (S := fun W => W.cell? ⟨g, k, none⟩ = some (.slice a q ck) ∧ W.cell? ⟨w.heap.size, 0, none⟩ = some (.int .i64 i) ∧ W.cell? ⟨w.heap.size, 1, none⟩ = some (.int .i64 t) ∧ True) (by kernel_rfl) ⟨hc3, s0, s1, trivial⟩ (fun hHeld => ?_)
      refine held_take 0 (v := ?_) (by simp) (by kernel_rfl) (by kernel_rfl) (by kernel_rfl) (fun _ _ _ h => h) (Or.inl ⟨by rfl, ?_⟩) hHeld ?_
      case refine_2 => (intro w hSw; (try dsimp only at hSw); (try (obtain ⟨s0, s1, s2, s3⟩ := hSw)); simp only [List.getElem_cons_zero]; go_simp <;> with_reducible rfl)
      simp only [List.getElem_cons_zero, Act.put, List.setIfInBounds_toArray, List.set_cons_zero, List.set_cons_succ]
      refine held_take 1 (v := ?_) (by simp) (by kernel_rfl) (by kernel_rfl) (by kernel_rfl) (fun _ _ _ h => h) (Or.inl ⟨by rfl, ?_⟩) hHeld ?_
      case refine_2 => (intro w hSw; (try dsimp only at hSw); (try (obtain ⟨s0, s1, s2, s3⟩ := hSw)); simp only [List.getElem_cons_zero, List.getElem_cons_succ]; go_simp <;> with_reducible rfl)
      simp only [List.getElem_cons_zero, List.getElem_cons_succ, Act.put, List.setIfInBounds_toArray, List.set_cons_zero, List.set_cons_succ]
      refine held_take 2 (v := ?_) (by simp) (by kernel_rfl) (by kernel_rfl) (by kernel_rfl) (fun _ _ _ h => h) (Or.inl ⟨by rfl, ?_⟩) hHeld ?_
      case refine_2 => (intro w hSw; (try dsimp only at hSw); (try (obtain ⟨s0, s1, s2, s3⟩ := hSw)); simp only [List.getElem_cons_zero, List.getElem_cons_succ]; go_simp <;> with_reducible rfl)
      simp only [List.getElem_cons_zero, List.getElem_cons_succ, Act.put, List.setIfInBounds_toArray, List.set_cons_zero, List.set_cons_succ]
      refine held_take 3 (v := ?_) (by simp) (by kernel_rfl) (by kernel_rfl) (by kernel_rfl) (fun _ _ _ h => h) (Or.inl ⟨by rfl, ?_⟩) hHeld ?_
      case refine_2 => (intro w hSw; (try dsimp only at hSw); (try (obtain ⟨s0, s1, s2, s3⟩ := hSw)); simp only [List.getElem_cons_zero, List.getElem_cons_succ]; go_simp <;> with_reducible rfl)
      simp only [List.getElem_cons_zero, List.getElem_cons_succ, Act.put, List.setIfInBounds_toArray, List.set_cons_zero, List.set_cons_succ]
      refine held_take 4 (v := ?_) (by simp) (by kernel_rfl) (by kernel_rfl) (by kernel_rfl) (fun _ _ _ h => h) (Or.inl ⟨by rfl, ?_⟩) hHeld ?_
      case refine_2 => (intro w hSw; (try dsimp only at hSw); (try (obtain ⟨s0, s1, s2, s3⟩ := hSw)); simp only [List.getElem_cons_zero, List.getElem_cons_succ]; go_simp <;> with_reducible rfl)
      simp only [List.getElem_cons_zero, List.getElem_cons_succ, Act.put, List.setIfInBounds_toArray, List.set_cons_zero, List.set_cons_succ]
      refine held_take 5 (v := ?_) (by simp) (by kernel_rfl) (by kernel_rfl) (by kernel_rfl) (fun _ _ _ h => h) (Or.inl ⟨by rfl, ?_⟩) hHeld ?_
      case refine_2 => (intro w hSw; (try dsimp only at hSw); (try (obtain ⟨s0, s1, s2, s3⟩ := hSw)); simp only [List.getElem_cons_zero, List.getElem_cons_succ]; go_simp <;> with_reducible rfl)
      simp only [List.getElem_cons_zero, List.getElem_cons_succ, Act.put, List.setIfInBounds_toArray, List.set_cons_zero, List.set_cons_succ]
      refine held_take 6 (v := ?_) (by simp) (by kernel_rfl) (by kernel_rfl) (by kernel_rfl) (fun _ _ _ h => h) (Or.inl ⟨by rfl, ?_⟩) hHeld ?_
      case refine_2 => (intro w hSw; (try dsimp only at hSw); (try (obtain ⟨s0, s1, s2, s3⟩ := hSw)); simp only [List.getElem_cons_zero, List.getElem_cons_succ]; go_simp <;> with_reducible rfl)
      simp only [List.getElem_cons_zero, List.getElem_cons_succ, Act.put, List.setIfInBounds_toArray, List.set_cons_zero, List.set_cons_succ]
      refine held_take 7 (v := ?_) (by simp) (by kernel_rfl) (by kernel_rfl) (by kernel_rfl) (fun _ _ _ h => h) (Or.inl ⟨by rfl, ?_⟩) hHeld ?_
      case refine_2 => (intro w hSw; (try dsimp only at hSw); (try (obtain ⟨s0, s1, s2, s3⟩ := hSw)); simp only [List.getElem_cons_zero, List.getElem_cons_succ]; go_simp <;> with_reducible rfl)
      simp only [List.getElem_cons_zero, List.getElem_cons_succ, Act.put, List.setIfInBounds_toArray, List.set_cons_zero, List.set_cons_succ]
      refine held_take 8 (v := ?_) (by simp) (by kernel_rfl) (by kernel_rfl) (by kernel_rfl) (fun _ _ _ h => h) (Or.inl ⟨by rfl, ?_⟩) hHeld ?_
      case refine_2 => (intro w hSw; (try dsimp only at hSw); (try (obtain ⟨s0, s1, s2, s3⟩ := hSw)); simp only [List.getElem_cons_zero, List.getElem_cons_succ]; go_simp <;> with_reducible rfl)
      simp only [List.getElem_cons_zero, List.getElem_cons_succ, Act.put, List.setIfInBounds_toArray, List.set_cons_zero, List.set_cons_succ]
      refine held_take 9 (v := ?_) (by simp) (by kernel_rfl) (by kernel_rfl) (by kernel_rfl) (fun _ _ _ h => h) (Or.inl ⟨by rfl, ?_⟩) hHeld ?_
      case refine_2 => (intro w hSw; (try dsimp only at hSw); (try (obtain ⟨s0, s1, s2, s3⟩ := hSw)); simp only [List.getElem_cons_zero, List.getElem_cons_succ]; go_simp <;> with_reducible rfl)
      simp only [List.getElem_cons_zero, List.getElem_cons_succ, Act.put, List.setIfInBounds_toArray, List.set_cons_zero, List.set_cons_succ]
      refine held_take 10 (v := ?_) (by simp) (by kernel_rfl) (by kernel_rfl) (by kernel_rfl) (fun _ _ _ h => h) (Or.inl ⟨by rfl, ?_⟩) hHeld ?_
      case refine_2 => (intro w hSw; (try dsimp only at hSw); (try (obtain ⟨s0, s1, s2, s3⟩ := hSw)); simp only [List.getElem_cons_zero, List.getElem_cons_succ]; go_simp <;> with_reducible rfl)
      simp only [List.getElem_cons_zero, List.getElem_cons_succ, Act.put, List.setIfInBounds_toArray, List.set_cons_zero, List.set_cons_succ]
      refine held_take 11 (v := ?_) (by simp) (by kernel_rfl) (by kernel_rfl) (by kernel_rfl) (fun _ _ _ h => h) (Or.inl ⟨by rfl, ?_⟩) hHeld ?_
      case refine_2 => (intro w hSw; (try dsimp only at hSw); (try (obtain ⟨s0, s1, s2, s3⟩ := hSw)); simp only [List.getElem_cons_zero, List.getElem_cons_succ]; go_simp <;> with_reducible rfl)
      simp only [List.getElem_cons_zero, List.getElem_cons_succ, Act.put, List.setIfInBounds_toArray, List.set_cons_zero, List.set_cons_succ]
      refine held_take 12 (v := ?_) (by simp) (by kernel_rfl) (by kernel_rfl) (by kernel_rfl) (fun _ _ _ h => h) (Or.inl ⟨by rfl, ?_⟩) hHeld ?_
      case refine_2 => (intro w hSw; (try dsimp only at hSw); (try (obtain ⟨s0, s1, s2, s3⟩ := hSw)); simp only [List.getElem_cons_zero, List.getElem_cons_succ]; go_simp <;> with_reducible rfl)
      simp only [List.getElem_cons_zero, List.getElem_cons_succ, Act.put, List.setIfInBounds_toArray, List.set_cons_zero, List.set_cons_succ]
      refine held_sole 13 (by simp) (by kernel_rfl) (fun K hK => ?_)
      simp only [List.getElem_cons_zero, List.getElem_cons_succ]
      go_simp
      have hbA : Below wr.heap.size wr (wr.alloc (.cells #[.int .i64 i, .int .i64 t, .int .i64 (k : Int), .int .i64 (xs.length : Int), .slice a q ck] 71)).drew := ((Below.refl _ wr).alloc (Nat.le_refl _) _).drew
      have hKA : Blk (wr.alloc (.cells #[.int .i64 i, .int .i64 t, .int .i64 (k : Int), .int .i64 (xs.length : Int), .slice a q ck] 71)).drew wr.heap.size 71 [.int .i64 i, .int .i64 t, .int .i64 (k : Int), .int .i64 (xs.length : Int), .slice a q ck].toArray := Blk.new wr 71 _
      have hsA : (wr.alloc (.cells #[.int .i64 i, .int .i64 t, .int .i64 (k : Int), .int .i64 (xs.length : Int), .slice a q ck] 71)).drew.heap.size = wr.heap.size + 1 := by simp
      generalize hWA : (wr.alloc (.cells #[.int .i64 i, .int .i64 t, .int .i64 (k : Int), .int .i64 (xs.length : Int), .slice a q ck] 71)).drew = WA at hbA hKA hsA ⊢
      clear hWA
      have hsr : w2.heap.size ≤ wr.heap.size := hb.size
      have hgA : g < wr.heap.size := by omega
      have hc3 : WA.cell? ⟨g, k, none⟩ = some (.slice a q ck) := (hbA.cell (p := ⟨g, k, none⟩) hgA).trans hc3
      have s0 : WA.cell? ⟨w.heap.size, 0, none⟩ = some (.int .i64 i) := (hbA.cell (p := ⟨w.heap.size, 0, none⟩) (by show w.heap.size < wr.heap.size; omega)).trans s0
      have s1 : WA.cell? ⟨w.heap.size, 1, none⟩ = some (.int .i64 t) := (hbA.cell (p := ⟨w.heap.size, 1, none⟩) (by show w.heap.size < wr.heap.size; omega)).trans s1
      have HOA := Lib.hid (World.ownsRow.kept hown.out (grown_of_below hbA none) (by cases Value.ownBlock u7 <;> simp))
      have HBA := Lib.hid (hb.trans (hbA.mono hsr))
      refine hK.out _ _ ⟨hc3, s0, s1, trivial⟩ (fun hHeld => ?_)
      clear hK K
      try simp only [Act.put, List.setIfInBounds_toArray, List.set_cons_zero, List.set_cons_succ]
      refine held_sole 14 (by simp) (by kernel_rfl) (fun K hK => ?_)
      simp only [List.getElem_cons_zero, List.getElem_cons_succ]
      rw [if_pos (by rfl)]
      refine wp_append_size (.tmp 25) (.tmp 38) 65 rfl w2.heap.size 71 (.agg #[.int .i64 0, .int .i64 0, .int .i64 0, .int .i64 0, .slice none 0 0]) 5 56 Try.underlying65 info_piece rfl (by decide) _ k _ rfl HOA.out ⟨wr.heap.size, 0, none⟩ 1 1 [.int .i64 i, .int .i64 t, .int .i64 (k : Int), .int .i64 (xs.length : Int), .slice a q ck] rfl rfl (blk_add hKA) (by simp [Value.oneCell']) (by unfold maxLen; omega) (by omega) (by omega) ?_
      intro v4 w4 hown4 hg4 hf4
      have HO4 : Hid (w4.ownsRow w2.heap.size 71 5 v4 (k + 1) (pcCells i t xs.length 0 (xs.take (k + 1)))) := Lib.hid (by
        rw [List.take_succ_eq_append_getElem hlt, pcCells_snoc, List.length_take, Nat.min_eq_left (by omega), HX.out, Nat.zero_add]
        exact hown4)
      have hb4 : Below w2.heap.size WA w4 := (Below.refl _ WA).grown hg4 (by omega) (fun j hj => (HOA.out.lt j hj).1)
      have HB4 := Lib.hid (HBA.out.trans hb4)
      obtain ⟨A4, c4, rfl, _, _⟩ := ownsRow_shape hown4
      have hc3 : w4.cell? ⟨g, k, none⟩ = some (.slice a q ck) := (hb4.cell (p := ⟨g, k, none⟩) hgl).trans hc3
      have s0 : w4.cell? ⟨w.heap.size, 0, none⟩ = some (.int .i64 i) := (hb4.cell (p := ⟨w.heap.size, 0, none⟩) (by show w.heap.size < w2.heap.size; omega)).trans s0
      have s1 : w4.cell? ⟨w.heap.size, 1, none⟩ = some (.int .i64 t) := (hb4.cell (p := ⟨w.heap.size, 1, none⟩) (by show w.heap.size < w2.heap.size; omega)).trans s1
      clear hown4 hg4 hf4 hb4
      refine hK.out _ _ ⟨hc3, s0, s1, trivial⟩ (fun hHeld => ?_)
      clear hK K
      try simp only [Act.put, List.setIfInBounds_toArray, List.set_cons_zero, List.set_cons_succ]
      refine held_take 15 (v := ?_) (by simp) (by kernel_rfl) (by kernel_rfl) (by kernel_rfl) (fun _ _ _ h => h) (Or.inl ⟨by rfl, ?_⟩) hHeld ?_
      case refine_2 => (intro w hSw; (try dsimp only at hSw); (try (obtain ⟨s0, s1, s2, s3⟩ := hSw)); simp only [List.getElem_cons_zero, List.getElem_cons_succ]; go_simp <;> with_reducible rfl)
      simp only [List.getElem_cons_zero, List.getElem_cons_succ, Act.put, List.setIfInBounds_toArray, List.set_cons_zero, List.set_cons_succ]
      refine wpAnyH_done (by kernel_rfl) ?_ _
      go_wp2
      go_roundw
      case rel => exact ⟨k + 1, by omega, by go_num, HO4, HB4.out⟩
      case measure => simp [intOf]; omega
    · obtain rfl : k = xs.length := by omega
      have HO := Lib.hid hown.out
      clear hown
      obtain ⟨A4, c4, rfl, _, _⟩ := ownsRow_shape HO.out
      go_wp2
      go_ret2
      have ho := HO.out
      rw [List.take_length] at ho
      have hgot := HG.out.below hb (Nat.le_refl _)
      refine ⟨A4, c4, (by rw [HL.out]; rfl), ?_, hb02.out.trans (hb.mono hb02.out.size)⟩
      rw [← HL.out]
      exact pcRd_of ho rfl HL.out (Nat.le_refl _) (fun j hj hj' => by
        obtain ⟨a, c', h2, h3, _, h4⟩ := (hgot.got j hj hj').shape
        exact ⟨a, c', h2, h4, h3⟩)
set_option maxHeartbeats 1000000 in
set_option maxRecDepth 100000 in
theorem rpieces_any (i t : Int) (Av Ad : Option Addr) (z : List Int) (l : List UInt8) (nv cv nd cd : Nat) (hv : nv = z.length) (hd : nd = l.length) (w : World) (hr : Rd w w.heap.size Av (z.map (Value.int .i64))) (hr2 : Rd w w.heap.size Ad (cells l))
    (hz : ∀ n ∈ z, -9223372036854775808 ≤ n ∧ n ≤ 9223372036854775807) (hl : z.length ≤ 140737488351232) (hl2 : l.length ≤ 4611686018427387904) :
    Calls Try.prog 56 #[snapV i t Av nv cv Ad nd cd] w fun e w' => ∃ A c, e = .returned (.tuple #[.slice A (chunksL (snapS i t z l)).length c, .int .i64 (snapE i t z l)]) ∧ PcRd w' w'.heap.size A i t (chunksL (snapS i t z l)).length (chunksL (snapS i t z l)) ∧ Below w.heap.size w w' := by
  by_cases hm : mayB i t z l = true
  · have hE : snapE i t z l = 0 := if_pos hm
    rw [hE]
    exact rpieces_ok i t Av Ad z l nv cv nd cd hv hd w hr hr2 hz hl hl2 hm
  · have hE : snapE i t z l = 1 := if_neg hm
    have hS : snapS i t z l = [] := if_neg hm
    subst hv; subst hd
    have hby := rbytes_any i t Av Ad z l _ cv _ cd rfl rfl
    rw [hE] at hby ⊢
    rw [hS] at hby ⊢
    unfold snapV at hby ⊢
    have hb0 := Lib.hid ((Below.refl w.heap.size w).alloc (Nat.le_refl _) (Obj.cells #[.int .i64 i, .int .i64 t, .slice Av z.length cv, .slice Ad l.length cd] 59))
    have hby := Lib.hid (hby (w.alloc (Obj.cells #[.int .i64 i, .int .i64 t, .slice Av z.length cv, .slice Ad l.length cd] 59)) ((hr.below hb0.out).more hb0.out.size) ((hr2.below hb0.out).more hb0.out.size) hz hl hl2)
    have hS0 := Lib.hid (snapAt_new w i t (.slice Av z.length cv) (.slice Ad l.length cd))
    clear hm hE hS
    go_enter Try.func56, Try.ntmps56
    go_wp2_with fail
    refine hby.out.mono ?_
    clear hby
    rintro e w1 ⟨v1, rfl, hg1, hb1⟩
    have hb01 := Lib.hid (hb0.out.trans (hb1.mono hb0.out.size))
    clear hb0 hb1
    go_wp2
    go_ret2
    exact ⟨none, 0, rfl, fun k hk => absurd hk (by simp [chunksL]), hb01.out⟩
end Go.Proofs.Ytelplpajpfkfiaa

/- Two rows of pieces that are one (pavaneref23.SamePieces). Condition: they can be read and hold the same. -/
set_option linter.unusedVariables false
namespace Go.Proofs.Ytelplpajpfkfiaa
open Go.RowKit Oct

set_option maxHeartbeats 2000000 in
set_option maxRecDepth 100000 in
theorem sameP_any (i t many : Int) (ls : List (List UInt8)) (A B : Option Addr) (n c m d K : Nat) (hn : n = ls.length) (hm : m = ls.length) (w : World) (ha : PcRd w K A i t many ls) (hb : PcRd w K B i t many ls) (hK : K ≤ w.heap.size) (hl : ls.length ≤ 4611686018427387904) :
    Calls Try.prog 58 #[.slice A n c, .slice B m d] w fun e w' => e = .returned (.bool true) ∧ Below w.heap.size w w' := by
  subst hn
  rw [hm]
  have HA := Lib.hid ha
  have HB := Lib.hid hb
  clear hm ha hb
  go_enter Try.func58, Try.ntmps58
  go_wp2_with fail
  go_loopw [5] (fun n wr => ∃ k : Nat, k ≤ ls.length ∧ n = .int .i64 k ∧ Below w.heap.size w wr) (fun n _ => ls.length - (intOf n).toNat)
  case atStart => exact ⟨0, by omega, rfl, Below.refl _ _⟩
  case round =>
    obtain ⟨k, hk, rfl, hb⟩ := hrel
    by_cases hlt : k < ls.length
    · obtain ⟨g, a, c1, rfl, a0, a1, a2, a3, a4, a5, a6, _⟩ := (HA.out.below hb hK) k hlt
      obtain ⟨f, b, d1, rfl, b0, b1, b2, b3, b4, b5, b6, _⟩ := (HB.out.below hb hK) k hlt
      have q1 := fun n => str_of c1 (a6.drewN n)
      have q2 := fun n => str_of d1 (b6.drewN n)
      have hltI : (k : Int) < ls.length := by omega
      clear HA HB a6 b6
      go_wp2_with fail
      go_quiet (fail)
      go_wp2
      go_roundw
      case rel => exact ⟨k + 1, by omega, by go_num, below_drewN hb _⟩
      case measure => simp [intOf]; omega
    · clear HA HB
      go_wp2
      go_ret
      exact ⟨rfl, hb⟩
end Go.Proofs.Ytelplpajpfkfiaa

/- The small case of layer 23 comes out right. No condition. -/
set_option linter.unusedVariables false
namespace Go.Proofs.Ytelplpajpfkfiaa
open Go.RowKit Oct

theorem small_facts : snapE 3 1 [1, 2] [100] = 0 ∧ snapS 3 1 [1, 2] [100] = [6, 2, 2, 2, 4, 100] ∧ oE [6, 2, 2, 2, 4, 100] = 0 ∧ oI [6, 2, 2, 2, 4, 100] = 3 := by
  refine ⟨by decide +kernel, by decide +kernel, by decide +kernel, by decide +kernel⟩
theorem small_facts2 : snapE 0 0 [] (List.replicate 500 0) = 0 ∧ (chunksL (snapS 0 0 [] (List.replicate 500 0))).length = 2 := by
  refine ⟨by decide +kernel, ?_⟩
  rw [chunksL_length]
  decide +kernel
set_option maxHeartbeats 4000000 in
set_option maxRecDepth 100000 in
theorem keepSmall (w : World) : Calls Try.prog 48 #[] w fun e w' => e = .returned (.bool true) ∧ Below w.heap.size w w' := by
  obtain ⟨F1, F2, F3, F4⟩ := small_facts
  obtain ⟨F5, F6⟩ := small_facts2
  have hF1 := Lib.hid F1
  have hF2 := Lib.hid F2
  have hF3 := Lib.hid F3
  have hF4 := Lib.hid F4
  have hF5 := Lib.hid F5
  have hF6 := Lib.hid F6
  have hsz1 : (w.alloc (.cells #[.int .i64 1, .int .i64 2] 3)).heap.size = w.heap.size + 1 := by simp
  have kc := Lib.run_convert_bytes_const (P := Try.prog) (w.alloc (.cells #[.int .i64 1, .int .i64 2] 3)) 22 5 #[.int .u8 100] 1 1 Try.underlying22 Try.underlying5
  rw [hsz1] at kc
  have hb0 := Lib.hid (((Below.refl w.heap.size w).alloc (Nat.le_refl _) (.cells #[.int .i64 1, .int .i64 2] 3)).alloc (by rw [hsz1]; omega) (.cells #[.int .u8 100] 5 (1, 2)))
  have hR1 : Rd ((w.alloc (.cells #[.int .i64 1, .int .i64 2] 3)).alloc (.cells #[.int .u8 100] 5 (1, 2))) ((w.alloc (.cells #[.int .i64 1, .int .i64 2] 3)).alloc (.cells #[.int .u8 100] 5 (1, 2))).heap.size (some ⟨w.heap.size, 0, none⟩) ([1, 2].map (Value.int .i64)) := fun _ =>
    ⟨_, rfl, by simp; omega, fun j u hj => by
      rw [add_zero_lit, World.cell?_alloc_lt _ _ _ (by rw [hsz1]; show w.heap.size < _; omega)]
      exact ((Blk.new w 3 #[.int .i64 1, .int .i64 2]).cell j).trans (by simpa using hj)⟩
  have hR2 : Rd ((w.alloc (.cells #[.int .i64 1, .int .i64 2] 3)).alloc (.cells #[.int .u8 100] 5 (1, 2))) ((w.alloc (.cells #[.int .i64 1, .int .i64 2] 3)).alloc (.cells #[.int .u8 100] 5 (1, 2))).heap.size (some ⟨w.heap.size + 1, 0, none⟩) (cells [100]) := fun _ =>
    ⟨_, rfl, by simp, fun j u hj => by
      rw [add_zero_lit]
      have h := cell_of_row ((w.alloc (.cells #[.int .i64 1, .int .i64 2] 3)).alloc (.cells #[.int .u8 100] 5 (1, 2))) (w.heap.size + 1) j #[.int .u8 100] 5 (1, 2) (by rw [← hsz1]; exact World.alloc_heap_new _ _)
      exact h.trans (by simpa [cells] using hj)⟩
  have HR1 := Lib.hid hR1
  have HR2 := Lib.hid hR2
  clear F1 F2 F3 F4 F5 F6 hR1 hR2 hsz1
  go_enter Try.func48, Try.ntmps48
  go_wp2_with fail
  generalize hW0 : (w.alloc (.cells #[.int .i64 1, .int .i64 2] 3)).alloc (.cells #[.int .u8 100] 5 (1, 2)) = W0 at HR1 HR2 hb0 ⊢
  clear kc hW0
  refine (bytes_any 3 1 (some ⟨w.heap.size, 0, none⟩) (some ⟨w.heap.size + 1, 0, none⟩) [1, 2] [100] 2 2 1 1 rfl rfl W0 HR1.out HR2.out (by simp) (by simp) (by simp)).mono ?_
  rintro e w1 ⟨v1, rfl, hg1, hb1⟩
  rw [hF1.out]
  rw [hF2.out] at hg1
  obtain ⟨A1, c1, rfl, hc1, hm1, hr1⟩ := hg1.shape
  have HG1 := Lib.hid hr1
  have hb01 := Lib.hid (hb0.out.trans (hb1.mono hb0.out.size))
  clear hb1 hb0 HR1 HR2 hg1
  go_wp2_with fail
  refine (read_any A1 [6, 2, 2, 2, 4, 100] 6 c1 rfl w1 HG1.out hc1 (by simp) hm1).mono ?_
  rintro e w2 ⟨V, rfl, hV, hb2⟩
  rw [hF3.out]
  rw [hF4.out] at hV
  obtain ⟨x, y, rfl, hx, hy, _⟩ := hV
  obtain ⟨Ax, cx, rfl, _⟩ := is_shape hx
  obtain ⟨Ay, cy, rfl, _⟩ := bs_shape hy
  generalize oT [6, 2, 2, 2, 4, 100] = T2
  generalize (oZ [6, 2, 2, 2, 4, 100]).length = nz
  generalize (oD [6, 2, 2, 2, 4, 100]).length = nd
  have hs12 : w1.heap.size ≤ w2.heap.size := hb2.size
  have hb02 := Lib.hid (hb01.out.trans (hb2.mono hb01.out.size))
  replace HG1 := Lib.hid ((HG1.out.below hb2).more hs12)
  clear hx hy hb2 hb01 hs12
  have hmk := fun W : World => run_make_one (P := Try.prog) Try.underlying22 info_u8 500 500 500 500 rfl rfl (Nat.le_refl _) (by decide) (by decide) W
  have hmk2 : (w2.alloc (.cells #[.int .i64 3, .int .i64 T2, .slice Ax nz cx, .slice Ay nd cy] 59)).heap.size = w2.heap.size + 1 := by simp
  have hb03 := Lib.hid ((hb02.out.alloc hb02.out.size (.cells #[.int .i64 3, .int .i64 T2, .slice Ax nz cx, .slice Ay nd cy] 59)).alloc (by rw [hmk2]; have := hb02.out.size; omega) (.cells (madeCells #[.int .u8 0] 500) 5))
  have hK := (Blk.new w2 59 #[.int .i64 3, .int .i64 T2, .slice Ax nz cx, .slice Ay nd cy]).alloc (.cells (madeCells #[.int .u8 0] 500) 5)
  have hZ : Blk ((w2.alloc (.cells #[.int .i64 3, .int .i64 T2, .slice Ax nz cx, .slice Ay nd cy] 59)).alloc (.cells (madeCells #[.int .u8 0] 500) 5)) (w2.heap.size + 1) 5 (cells (List.replicate 500 0)).toArray := by
    have h := Blk.new (w2.alloc (.cells #[.int .i64 3, .int .i64 T2, .slice Ax nz cx, .slice Ay nd cy] 59)) 5 (madeCells #[.int .u8 0] 500)
    rw [hmk2] at h
    have e : madeCells #[Value.int .u8 0] 500 = (cells (List.replicate 500 0)).toArray := by
      apply Array.toList_inj.1
      rw [toList_madeCells_one]
      simp [cells]
    rw [e] at h ⊢
    exact h
  have hK := Lib.hid hK
  have hZ := Lib.hid hZ
  clear hmk2
  go_wp2_with fail
  have hs3 : ((w2.alloc (.cells #[.int .i64 3, .int .i64 T2, .slice Ax nz cx, .slice Ay nd cy] 59)).alloc (.cells (madeCells #[.int .u8 0] 500) 5)).heap.size = w2.heap.size + 2 := by simp
  have hB23 : Below w2.heap.size w2 ((w2.alloc (.cells #[.int .i64 3, .int .i64 T2, .slice Ax nz cx, .slice Ay nd cy] 59)).alloc (.cells (madeCells #[.int .u8 0] 500) 5)) := ((Below.refl _ w2).alloc (Nat.le_refl _) _).alloc (by simp) _
  generalize hW3 : (w2.alloc (.cells #[.int .i64 3, .int .i64 T2, .slice Ax nz cx, .slice Ay nd cy] 59)).alloc (.cells (madeCells #[.int .u8 0] 500) 5) = W3 at hK hZ hb03 hs3 hB23 ⊢
  clear hW3 hmk
  have hR3 : Rd W3 W3.heap.size (some ⟨w2.heap.size + 1, 0, none⟩) (cells (List.replicate 500 0)) := fun _ => ⟨_, rfl, by rw [hs3]; show w2.heap.size + 1 < _; omega, fun j u hj => blk_add hZ.out j u hj⟩
  have hE5 : snapE 0 0 [] (List.replicate 500 0) = 0 := hF5.out
  refine (pieces_any 0 0 none (some ⟨w2.heap.size + 1, 0, none⟩) [] (List.replicate 500 0) 0 0 500 500 rfl (by simp) W3 Rd.none_ hR3 (by simp) (by simp) (by simp)).mono ?_
  rintro e w4 ⟨v4, xs, rfl, hp4, hb4⟩
  rw [hE5]
  obtain ⟨A4, c4, rfl, _⟩ := hp4.shape
  have hl4 : xs.length = 2 := hp4.len.trans hF6.out
  rw [hl4]
  have k0 : w4.cell? ⟨w2.heap.size, 0, none⟩ = some (.int .i64 3) := (hb4.cell (p := ⟨w2.heap.size, 0, none⟩) (by show w2.heap.size < _; omega)).trans (hK.out.cell 0)
  have q1 : (convert 22 9 (.slice A1 6 c1)).run Try.prog w4 = .ok (.string { data := #[6, 2, 2, 2, 4, 100] }) w4 := str_of c1 (((HG1.out.below hB23).below (hb4.mono hB23.size)))
  have hb04 := Lib.hid (hb03.out.trans (hb4.mono hb03.out.size))
  clear hp4 hb4 hb03 hK hZ HG1 hE5 hR3 hB23
  go_wp2
  go_ret
  exact ⟨rfl, hb04.out⟩
end Go.Proofs.Ytelplpajpfkfiaa
