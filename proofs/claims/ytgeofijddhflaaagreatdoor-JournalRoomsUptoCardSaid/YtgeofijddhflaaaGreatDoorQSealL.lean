/- Rows of bytes that a call has made; which pieces bytes begin with, in plain words. No condition. -/
import Derived.Test.YtgeofijddhflaaaGreatDoorQJoin
import Derived.Lib.SlBytesConst
set_option linter.unusedVariables false
namespace Go.Proofs.YtgeofijddhflaaaGreatDoor
open Go.RowKit Oct
structure GotRows (w : World) (base : Nat) (v : Value) (xs : List Value) (ls : List (List UInt8)) : Prop where
 own : Own w base 34 v xs
 len : xs.length = ls.length
 got : ∀ i (h : i < xs.length) (h' : i < ls.length), Got w base xs[i] ls[i]
 apart : Apart xs
 off : ∀ x ∈ xs, ∀ g, x.ownBlock = some g → v.ownBlock ≠ some g
theorem GotRows.nil (w : World) (base : Nat) : GotRows w base (.slice none 0 0) [] [] :=
 ⟨Own.nil _ _ _, rfl, fun i h _ => absurd h (by simp), fun i j hi => absurd hi (by simp), fun x hx => by cases hx⟩
theorem GotRows.below {w w' : World} {base : Nat} {v : Value} {xs : List Value} {ls : List (List UInt8)} (h : GotRows w base v xs ls) {B : Nat} (hb : Below B w w') (hB : w.heap.size ≤ B) : GotRows w' base v xs ls :=
 ⟨h.own.below hb hB, h.len, fun i hi hi' => (h.got i hi hi').below hb hB, h.apart, h.off⟩
theorem GotRows.drewN {w : World} {base : Nat} {v : Value} {xs : List Value} {ls : List (List UInt8)} (h : GotRows w base v xs ls) (n : Nat) : GotRows (w.drewN n) base v xs ls :=
 h.below (below_drewN (Below.refl _ w) n) (Nat.le_refl _)
theorem Got.kept {w w' : World} {base : Nat} {v : Value} {l : List UInt8} (h : Got w base v l) (hk : ∀ g, v.ownBlock = some g → w'.heap[g]? = w.heap[g]?) (hs : w.heap.size ≤ w'.heap.size) : Got w' base v l := by
 obtain ⟨⟨A, c, rfl, h2, h3, h4⟩, r⟩ := h
 refine ⟨⟨A, c, rfl, h2, h3, fun hn => ?_⟩, r.keep hk⟩
 rcases r with r | ⟨g, n, cap, cur, r, _⟩
 ·obtain ⟨ad, h5, _⟩ := h4 hn
  injection r with r1
  rw [h5] at r1
  cases r1
 ·obtain ⟨ad, h5, h6, h7⟩ := h4 hn
  injection r with r1
  refine ⟨ad, h5, by omega, fun j u hu => ?_⟩
  rw [h5] at r1
  injection r1 with r1
  subst r1
  exact (World.cell?_of_block (w := w) (by rw [block_of_add]; exact hk g (by rw [h5]; rfl))).trans (h7 j u hu)
theorem GotRows.push {w w1 w2 : World} {base : Nat} {v v' x : Value} {xs : List Value} {ls : List (List UInt8)} {l : List UInt8} (h : GotRows w base v xs ls) (hb : Below w.heap.size w w1) (hx : Got w1 w.heap.size x l) (hbase : base ≤ w.heap.size)
  (hown : Own w2 base 34 v' (xs ++ [x])) (hg : w1.grownBy w2 v.ownBlock) (hf : Fresh v' v.ownBlock w1.heap.size) : GotRows w2 base v' (xs ++ [x]) (ls ++ [l]) := by
 have h1 := h.below hb (Nat.le_refl _)
 have hvlt : ∀ g, v.ownBlock = some g → g < w.heap.size := fun g hv => (h.own.lt g hv).2
 have hxlo : ∀ g, x.ownBlock = some g → w.heap.size ≤ g := hx.row.base
 have hxlt : ∀ g, x.ownBlock = some g → g < w1.heap.size := hx.row.lt
 have hxslt : ∀ y ∈ xs, ∀ g, y.ownBlock = some g → g < w.heap.size := fun y hy g hg' => by
  obtain ⟨i, hi, rfl⟩ := List.getElem_of_mem hy
  exact (h.got i hi (by rw [← h.len]; exact hi)).row.lt g hg'
 refine ⟨hown, by simp [h.len], fun i hi hi' => ?_, ?_, ?_⟩
 ·by_cases hlt : i < xs.length
  ·rw [List.getElem_append_left hlt, List.getElem_append_left (by rw [← h.len]; exact hlt)]
   refine (h1.got i hlt (by rw [← h.len]; exact hlt)).kept (fun g hg' => hg.block g ?_ ?_) hg.size
   ·exact Nat.lt_of_lt_of_le (hxslt _ (List.getElem_mem hlt) g hg') hb.size
   ·exact fun e => h.off _ (List.getElem_mem hlt) g hg' e.symm
  ·have hi2 : i = xs.length := by simp at hi; omega
   subst hi2
   rw [List.getElem_append_right (Nat.le_refl _)]
   have e2 : (ls ++ [l])[xs.length]'hi' = l := by
    rw [List.getElem_append_right (by rw [h.len]; exact Nat.le_refl _)]
    simp
   rw [e2]
   simp only [Nat.sub_self, List.getElem_cons_zero]
   refine (hx.mono hbase).kept (fun g hg' => hg.block g (hxlt g hg') ?_) hg.size
   intro e
   have a1 := hvlt g e.symm
   have a2 := hxlo g hg'
   omega
 ·intro i j hi hj hij g hg1 hg2
  simp only [List.length_append, List.length_cons, List.length_nil] at hi hj
  by_cases h1 : i < xs.length <;> by_cases h2 : j < xs.length
  ·rw [List.getElem_append_left h1] at hg1
   rw [List.getElem_append_left h2] at hg2
   exact h.apart i j h1 h2 hij g hg1 hg2
  ·rw [List.getElem_append_left h1] at hg1
   have hj2 : j = xs.length := by omega
   subst hj2
   rw [List.getElem_append_right (Nat.le_refl _)] at hg2
   simp at hg2
   have a1 := hxslt _ (List.getElem_mem h1) g hg1
   have a2 := hxlo g hg2
   omega
  ·rw [List.getElem_append_left h2] at hg2
   have hi2 : i = xs.length := by omega
   subst hi2
   rw [List.getElem_append_right (Nat.le_refl _)] at hg1
   simp at hg1
   have a1 := hxslt _ (List.getElem_mem h2) g hg2
   have a2 := hxlo g hg1
   omega
  ·omega
 ·intro y hy g hg1 hg2
  have hfr : v.ownBlock = some g ∨ w1.heap.size ≤ g := by
   rcases hf with hf | ⟨k, hf, hk⟩
   ·exact .inl (hf.symm.trans hg2)
   ·rw [hf] at hg2
    injection hg2 with hg2
    subst hg2
    exact .inr hk
  rcases List.mem_append.1 hy with hy | hy
  ·rcases hfr with hfr | hfr
   ·exact h.off y hy g hg1 hfr
   ·have := hxslt y hy g hg1
    have := hb.size
    omega
  ·obtain rfl := List.mem_singleton.1 hy
   rcases hfr with hfr | hfr
   ·have a1 := hvlt g hfr
    have a2 := hxlo g hg1
    omega
   ·have := hxlt g hg1
    omega
theorem info_bytes : (Tryz.prog.info? 34).map (fun i => (i.zero, i.size, i.bytes)) = some (some (.slice none 0 0), 1, 24) := by kernel_rfl
theorem wpList_push2 {P : Program} {W w : World} {ops : Array Oper} {rest : List Oper} {o : Oper} {a : Act} {Q : Exit → Act → World → Prop} (hgd : o.guard = none) (s x : Operand) (t : TypeId)
  (ho : o.op = .call { callee := .builtin .append, args := #[s, x], argTypes := #[t, t] })
  (base : Nat) (e : TypeId) (z : Value) (bytes : Nat) (ht : P.underlying t = some (.slice e)) (hinfo : (P.info? e).map (fun i => (i.zero, i.size, i.bytes)) = some (some z, 1, bytes)) (hzs : z.cells.size = 1)
  (v : Value) (xs : List Value) (u : Value) (hW : W = w.alloc (.cells #[u] e)) (hs : a.eval s = v) (hown : Own w base e v xs)
  (hx : a.eval x = .slice (some ⟨w.heap.size, 0, none⟩) 1 1) (h1 : u.oneCell' = true)
  (hlen : xs.length + 1 ≤ 9223372036854775807) (hbytes : (xs.length + 1) * bytes ≤ 140737488355328) (hbase : base ≤ w.heap.size)
  (h : ∀ v' w', Own w' base e v' (xs ++ [u]) → w.grownBy w' v.ownBlock → Fresh v' v.ownBlock w.heap.size → wpList P ops Q rest (a.put o.dst v') w') : wpList P ops Q (o :: rest) a W := by
 subst hW
 exact wpList_push hgd s x t ho base e z bytes ht hinfo hzs v xs u u rfl hs hown hx h1 hlen hbytes hbase h
def RowsAt (l : List UInt8) (a : Nat) (acc : List (List UInt8)) : Prop := ∃ f, l.length < a + f ∧ rowsS l = (acc ++ (rowsF l f a).1, (rowsF l f a).2)
theorem RowsAt.start (l : List UInt8) : RowsAt l 0 [] := ⟨l.length + 1, by omega, by simp [rowsS]⟩
theorem RowsAt.done {l : List UInt8} {a : Nat} {acc : List (List UInt8)} (h : RowsAt l a acc) (ha : l.length ≤ a) : rowsS l = (acc, a, 0) := by
 obtain ⟨f, hf, h⟩ := h
 rw [h]
 cases f with
 | zero => simp [rowsF]
 | succ f => simp [rowsF, ha]
theorem RowsAt.bad {l : List UInt8} {a : Nat} {acc : List (List UInt8)} (h : RowsAt l a acc) (ha : a < l.length) (he : (openS (l.drop a)).2.2 ≠ 0) : rowsS l = (acc, a, (openS (l.drop a)).2.2) := by
 obtain ⟨f, hf, h⟩ := h
 rw [h]
 cases f with
 | zero => omega
 | succ f => simp [rowsF, show ¬ l.length ≤ a by omega, he]
theorem RowsAt.step {l : List UInt8} {a : Nat} {acc : List (List UInt8)} (h : RowsAt l a acc) (ha : a < l.length) (he : (openS (l.drop a)).2.2 = 0) : RowsAt l (a + (openS (l.drop a)).2.1) (acc ++ [(openS (l.drop a)).1]) := by
 obtain ⟨f, hf, h⟩ := h
 have hp := (open_form he).2.1
 cases f with
 | zero => omega
 | succ f =>
  refine ⟨f, by omega, ?_⟩
  rw [h]
  simp [rowsF, show ¬ l.length ≤ a by omega, he]
theorem GotRows.rd {w : World} {base : Nat} {A : Option Addr} {n c : Nat} {xs : List Value} {ls : List (List UInt8)} (h : GotRows w base (.slice A n c) xs ls) : Rd w w.heap.size A xs := by
 obtain ⟨A', c', hv, _, _, hr⟩ := Own.shape h.own
 injection hv with hv _ _
 rw [hv]
 exact hr
theorem GotRows.at_ {w : World} {base : Nat} {A : Option Addr} {n c : Nat} {xs : List Value} {ls : List (List UInt8)} (h : GotRows w base (.slice A n c) xs ls) {k : Nat} (hk : k < ls.length) :
  ∃ ad a c', A = some ad ∧ ad.block < w.heap.size ∧ w.cell? (ad.add k) = some (.slice a ls[k].length c') ∧ Rd w w.heap.size a (cells ls[k]) ∧ ls[k].length ≤ c' := by
 have hk' : k < xs.length := by rw [h.len]; exact hk
 obtain ⟨ad, h1, h2, h3⟩ := h.rd.at_ hk'
 obtain ⟨a, c', h4, h5, _, h6⟩ := (h.got k hk' hk).shape
 rw [h4] at h3
 exact ⟨ad, a, c', h1, h2, h3, h6, h5⟩
end Go.Proofs.YtgeofijddhflaaaGreatDoor
set_option linter.unusedVariables false
namespace Go.Proofs.YtgeofijddhflaaaGreatDoor
open Go.RowKit Oct
set_option maxHeartbeats 2000000 in
set_option maxRecDepth 100000 in
theorem rows_any (A : Option Addr) (l : List UInt8) (n c : Nat) (hn : n = l.length) (w : World) (hr : Rd w w.heap.size A (cells l)) (hlc : l.length ≤ c) (hl : l.length ≤ 1099511627776 ∧ c ≤ 9223372036854775807) :
  Calls Tryz.prog 144 #[.slice A n c] w fun e w' => ∃ v xs, e = .returned (.tuple #[v, .int .i64 (rowsS l).2.1, .int .i64 (rowsS l).2.2]) ∧ GotRows w' w.heap.size v xs (rowsS l).1 ∧ Below w.heap.size w w' := by
 subst hn
 obtain ⟨hl1, hl2⟩ := hl
 go_enter Tryz.func144, Tryz.ntmps144
 go_wp2_with fail
 go_loopw [5, 6, 7, 8, 9] (fun v at_ _ _ _ wr => ∃ (a : Nat) (acc : List (List UInt8)) (xs : List Value), a ≤ l.length ∧ at_ = .int .i64 a ∧ acc.length ≤ a ∧ RowsAt l a acc ∧ GotRows wr w.heap.size v xs acc ∧ Below w.heap.size w wr) (fun _ i _ _ _ _ => l.length - (intOf i).toNat)
 case atStart => exact ⟨0, [], [], by omega, rfl, by simp, RowsAt.start l, GotRows.nil _ _, Below.refl _ _⟩
 case round =>
  obtain ⟨a, acc, xs, ha, rfl, hacc, hat, hgot, hb⟩ := hrel
  by_cases hlt : a < l.length
  ·have hdl : (l.drop a).length = l.length - a := List.length_drop
   have hcut := fun W : World => run_cut_from (P := Tryz.prog) Tryz.underlying34 info_u8 A l.length c a ha (a : Int) rfl W
   have hrd : Rd wr wr.heap.size (cutA A a c) (cells (l.drop a)) := by
    have := (Rd.cutA hr (k := a) (cap := c) (by rw [cells_length]; omega) (by rw [cells_length]; exact hlc)).below hb
    exact (by simpa [cells, List.map_drop] using this : Rd wr w.heap.size (cutA A a c) (cells (l.drop a))).more hb.size
   have hltI : (a : Int) < l.length := by omega
   have HDL := Lib.hid hdl.symm
   have HAT := Lib.hid hat
   have hlen := hgot.len
   have HLEN := Lib.hid hlen
   have HG := Lib.hid hgot
   obtain ⟨d, hd⟩ : ∃ d, d = l.drop a := ⟨_, rfl⟩
   have hd1 : d.length ≤ c - a := by rw [hd, hdl]; omega
   have hd2 : d.length ≤ 140737488351232 := by rw [hd, hdl]; omega
   rw [← hd] at hrd HDL
   have HD := Lib.hid hd
   clear hdl hat hgot hlen hd
   go_wp2_with fail
   refine (open_any (cutA A a c) d (l.length - a) (c - a) HDL.out wr hrd hd1 ⟨hd2, by omega⟩).mono ?_
   rintro e w1 ⟨p, rfl, hov, hb1⟩
   obtain ⟨Ap, cp, rfl, _⟩ := bs_shape hov
   have hb01 := hb.trans (hb1.mono hb.size)
   by_cases he : (openS d).2.2 = 0
   ·have hform := open_form he
    have hstep : RowsAt l (a + (openS d).2.1) (acc ++ [(openS d).1]) := by
     have h1 := HD.out
     rw [h1] at he ⊢
     exact HAT.out.step hlt he
    have hgp := Got.of_own hov
    have hu1 := hform.2.1
    have hu2 := hform.2.2.1
    have hd3 : d.length = l.length - a := HDL.out.symm
    have hxs : xs.length ≤ a := by rw [HLEN.out]; exact hacc
    rw [he]
    have HST := Lib.hid hstep
    have HGP := Lib.hid hgp
    generalize (openS d).2.1 = U at hu1 hu2 HST ⊢
    have hU : a + U ≤ l.length := by omega
    clear hrd hform hstep hgp hov hd3 he HDL
    have hvo := HG.out.own
    have hvo1 := hvo.below hb1 (Nat.le_refl _)
    go_wp2_with (at_builtin; refine wpList_push2 (w := w1) rfl (.tmp 27) (.tmp 29) 23 rfl w.heap.size 34 (.slice none 0 0) 24 Tryz.underlying23 info_bytes rfl u5 xs _ rfl rfl hvo1 rfl rfl (by omega) (by omega) hb01.size ?_; intro v2 w2 hov2 hg2 hf2)
    have hb02 : Below w.heap.size w w2 := hb01.grown hg2 hb01.size (fun k hk => (hvo1.lt k hk).1)
    have hgr := HG.out.push hb1 HGP.out hb.size hov2 hg2 hf2
    clear hov2 hg2 hf2 hvo hvo1 hb1 hb01
    go_wp2
    go_roundw
    case rel => exact ⟨a + U, _, _, hU, by go_num, by simp; omega, HST.out, hgr, hb02⟩
    case measure => simp [intOf]; omega
   ·have hfin : rowsS l = (acc, a, (openS d).2.2) := by
     have h1 := HD.out
     rw [h1] at he ⊢
     exact HAT.out.bad hlt he
    have h1 : ((openS d).2.2 != 0) = true := by simpa using he
    have HF := Lib.hid hfin
    have hg1 := HG.out.below hb1 (Nat.le_refl _)
    clear hrd he hfin hov
    go_wp2
    go_ret3
    rw [HF.out]
    exact ⟨_, _, rfl, hg1, hb01⟩
  ·obtain rfl : a = l.length := by omega
   have HF := Lib.hid (hat.done (Nat.le_refl _))
   clear hat
   go_wp2
   go_ret3
   rw [HF.out]
   exact ⟨_, _, rfl, hgot, hb⟩
end Go.Proofs.YtgeofijddhflaaaGreatDoor
set_option linter.unusedVariables false
namespace Go.Proofs.YtgeofijddhflaaaGreatDoor
open Go.RowKit Oct
theorem RowOk.mono {w : World} {base base' : Nat} {v : Value} (h : RowOk w base v) (hb : base' ≤ base) : RowOk w base' v := by
 rcases h with r | ⟨g, n, cap, cur, r, hg, x⟩
 ·exact .inl r
 ·exact .inr ⟨g, n, cap, cur, r, by omega, x⟩
theorem RowOk.below {w w' : World} {base B : Nat} {v : Value} (h : RowOk w base v) (hb : Below B w w') (hB : w.heap.size ≤ B) : RowOk w' base v :=
 h.keep fun g hg => hb.block g (Nat.lt_of_lt_of_le (h.lt g hg) hB)
theorem Got.rd {w : World} {base : Nat} {A : Option Addr} {n c : Nat} {l : List UInt8} (h : Got w base (.slice A n c) l) : Rd w w.heap.size A (cells l) ∧ n = l.length ∧ l.length ≤ c ∧ c ≤ 9223372036854775807 := by
 obtain ⟨A', c', h1, h2, h3, h4⟩ := h.shape
 injection h1 with h1 h5 h6
 subst h1; subst h5; subst h6
 exact ⟨h4, rfl, h2, h3⟩
end Go.Proofs.YtgeofijddhflaaaGreatDoor
