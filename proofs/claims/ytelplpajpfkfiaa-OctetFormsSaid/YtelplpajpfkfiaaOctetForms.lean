/- Whatever is taken was written just so: the walk of the statement. No condition. -/
import Derived.Test.YtelplpajpfkfiaaOctPlain2
import Derived.Test.YtelplpajpfkfiaaApp
import Derived.Deep.DeepCutAuto
import Derived.Test.YtelplpajpfkfiaaHeld
set_option linter.unusedVariables false
namespace Go.Proofs.Ytelplpajpfkfiaa
open Go.RowKit Oct

/-- 's[:hi]'. -/
theorem run_cut_to {P : Program} {T e : TypeId} {z : Value} {bytes : Nat} (ht : P.underlying T = some (.slice e)) (hinfo : (P.info? e).map (fun i => (i.zero, i.size, i.bytes)) = some (some z, 1, bytes)) (A : Option Addr) (len cap hi : Nat) (h1 : hi ≤ cap) (X : Int) (hX : X = (hi : Int)) (w : World) :
    (Instr.slice T (.slice A len cap) none (some (.int .i64 X)) none).run P w = .ok (.slice A hi cap) w := by
  obtain ⟨i, hi', hz, hsize, hby⟩ := info_parts hinfo
  subst hX
  rw [run_slice_h w T A len cap (by rw [ht]; simp [Program.elem, ht]) .i64 hi (by omega) (by omega)]
  have he : P.elem T = e := by simp [Program.elem, ht]
  rw [he, sizeOf_one hi' hsize]
  have hm : A.map (·.add 0) = A := by cases A <;> simp [Addr.add]
  simp [sliced, Result.andThen, hm]
theorem takeU_form {m : Nat} {l : List UInt8} (h : (takeU m l).2.2 = 0) : 0 < (takeU m l).2.1 ∧ (takeU m l).2.1 ≤ l.length ∧ l.take (takeU m l).2.1 = enc (takeU m l).1 := by
  rw [takeU_at h]
  exact cnt_form h
/-- The string of a row's first bytes. -/
theorem str_cut {w : World} {B : Nat} {A : Option Addr} {l X : List UInt8} (c u : Nat) (h : Rd w B A (cells l)) (hu : u ≤ l.length) (hX : l.take u = X) : (convert 22 9 (.slice A u c)).run Try.prog w = .ok (.string (str X)) w := by
  subst hX
  have := str_of c (show Rd w B A (cells (l.take u)) by simpa [cells, List.map_take] using h.take u)
  rwa [List.length_take, Nat.min_eq_left hu] at this
theorem unfold_in (u : Nat) (h : u ≤ 18446744073709551615) : -9223372036854775808 ≤ unfold1 u ∧ unfold1 u ≤ 9223372036854775807 := by
  unfold unfold1
  split <;> omega
theorem encI_128 : encI 128 = [129, 0] := by
  show digs 1 ++ [low7 128] = _
  rw [digs_pos 1 (by omega), digs_zero]
  rfl
theorem errI_128 : errI 128 = 0 := rfl
theorem str_128 : ((str (encI 128)).toList == [129, 0]) = true := by
  rw [str_toList, encI_128]
  rfl

set_option maxHeartbeats 8000000 in
set_option maxRecDepth 100000 in
theorem octetForms_walk (w : World) (A : Option Addr) (l : List UInt8) (c : Nat) (hin : In8 w A l c) :
    Calls Try.prog 10 #[.slice A l.length c] w fun e w' => e = .returned (.bool true) ∧ Below w.heap.size w w' := by
  have hll := hin.le
  have hcap := hin.cap
  have hlc : l.length ≤ c := hin.le
  go_enter Try.func10, Try.ntmps10
  go_wp2_with fail
  refine (uint_tot 128 (by omega) _).mono ?_
  rintro e w1 ⟨va, rfl, hova, hb1⟩
  rw [errI_128]
  go_wp2_with fail
  refine (takeUint_any A l c w1 ((hin.rd.below hb1).more hb1.size) (by omega)).mono ?_
  rintro e w2 ⟨rfl, hb2⟩
  have hova2 := hova.below hb2 (Nat.le_refl _)
  obtain ⟨A1, c1, rfl, hc1, _, hr1⟩ := bs_shape hova2
  have k1 := str_of c1 hr1
  have h128 := str_128
  replace hb2 := hb1.trans (hb2.mono hb1.size)
  clear hova hova2 hr1 hb1
  go_upto_if 35 with fail
  go_cut [] (fun wx => Below w.heap.size w wx)
  case first =>
    by_cases hU : (takeU maxI l).2.2 = 0
    · obtain ⟨p1, p2, p3⟩ := takeU_form hU
      have hle := takeU_le maxI l
      have hlt : (takeU maxI l).1 ≤ 9223372036854775807 := hle
      have he : encI ((takeU maxI l).1 : Int) = enc (takeU maxI l).1 := by unfold encI; rw [if_neg (by omega), Int.toNat_natCast]
      have he2 : errI ((takeU maxI l).1 : Int) = 0 := if_neg (by omega)
      have HU := Lib.hid hU
      have hd : ((takeU maxI l).2.2 == 0) = true := beq_iff_eq.2 hU
      clear hU k1 h128 hle
      go_wp2_with fail
      refine (uint_tot ((takeU maxI l).1 : Int) (by omega) _).mono ?_
      rintro e w3 ⟨va, rfl, hova, hb3⟩
      rw [he2]
      rw [he] at hova
      obtain ⟨A3, c3, rfl, hc3, _, hr3⟩ := bs_shape hova
      have q1 : ∀ q, (convert 22 9 (.slice A3 (enc (takeU maxI l).1).length c3)).run Try.prog (w3.drewN q) = .ok (.string (str (enc (takeU maxI l).1))) (w3.drewN q) := fun q => str_of c3 (hr3.drewN q)
      have q2 : ∀ q, (convert 22 9 (.slice A (takeU maxI l).2.1 c)).run Try.prog (w3.drewN q) = .ok (.string (str (enc (takeU maxI l).1))) (w3.drewN q) := fun q => str_cut c _ ((hin.rd.below (hb2.trans (hb3.mono hb2.size))).drewN q) p2 p3
      have q3 := fun W : World => run_cut_to (P := Try.prog) Try.underlying22 info_u8 A l.length c (takeU maxI l).2.1 (by omega) _ rfl W
      have q4 : decide (((takeU maxI l).2.1 : Int) < 1) = false := by simp; omega
      have q5 : decide ((l.length : Int) < ((takeU maxI l).2.1 : Int)) = false := by simp; omega
      have hb23 := hb2.trans (hb3.mono hb2.size)
      clear hova hb2 hb3 hr3 he he2 p3
      go_wp2_with fail
      go_quiet (fail)
      go_wp2
      go_meet
      exact below_drewN hb23 _
    · have hd : ((takeU maxI l).2.2 == 0) = false := beq_eq_false_iff_ne.2 hU
      go_wp2
      go_meet
      exact hb2
  case rest =>
    rename Below _ _ _ => hb3
    clear k1 h128 hb2
    go_wp2_with fail
    refine (takeInt_any A l c _ ((hin.rd.below hb3).more hb3.size) (by omega)).mono ?_
    rintro e w4 ⟨rfl, hb4⟩
    replace hb4 := hb3.trans (hb4.mono hb3.size)
    go_upto_region 10 with fail
    go_cut [89] (fun s89 wx => s89 = .bool false ∧ Below w.heap.size w wx)
    case first =>
      by_cases hI : (takeU maxU l).2.2 = 0
      · obtain ⟨p1, p2, p3⟩ := takeU_form hI
        have hle : (takeU maxU l).1 ≤ 18446744073709551615 := takeU_le maxU l
        have hun := Lib.hid (unfold_in _ hle)
        have hfo := fold_unfold (takeU maxU l).1
        have HI := Lib.hid hI
        have HFO := Lib.hid hfo
        have q2 : (convert 22 9 (.slice A (takeU maxU l).2.1 c)).run Try.prog w4.drew = .ok (.string (str (enc (takeU maxU l).1))) w4.drew := str_cut c _ (hin.rd.below hb4.drew) p2 p3
        have q3 := fun W : World => run_cut_to (P := Try.prog) Try.underlying22 info_u8 A l.length c (takeU maxU l).2.1 (by omega) _ rfl W
        have q4 : decide (((takeU maxU l).2.1 : Int) < 1) = false := by simp; omega
        have q5 : decide ((l.length : Int) < ((takeU maxU l).2.1 : Int)) = false := by simp; omega
        have q6 : decide (l.length < (takeU maxU l).2.1) = false := by simp; omega
        have P3 := Lib.hid p3
        have hd : ((takeU maxU l).2.2 == 0) = true := beq_iff_eq.2 hI
        clear hI hle hfo p3
        have P2 := Lib.hid p2
        have HIN := Lib.hid hin
        have HB4 := Lib.hid hb4.drew
        clear p1 p2 hin hll hcap hlc hb3 hb4
        refine wp_region_held_drew (S := fun W => (convert 22 9 (.slice A (takeU maxU l).2.1 c)).run Try.prog W = .ok (.string (str (enc (takeU maxU l).1))) W) (by kernel_rfl) q2 (fun hHeld => ?_)
        refine held_take 0 (v := ?_) (by simp) (by kernel_rfl) (by kernel_rfl) (by kernel_rfl) (fun _ _ _ h => h) (Or.inl ⟨by rfl, ?_⟩) hHeld ?_
        case refine_2 => (intro w hSw; (try dsimp only at hSw); simp only [List.getElem_cons_zero]; go_simp <;> with_reducible rfl)
        simp only [List.getElem_cons_zero, Act.put, List.setIfInBounds_toArray, List.set_cons_zero, List.set_cons_succ]
        refine held_take 1 (v := ?_) (by simp) (by kernel_rfl) (by kernel_rfl) (by kernel_rfl) (fun _ _ _ h => h) (Or.inl ⟨by rfl, ?_⟩) hHeld ?_
        case refine_2 => (intro w hSw; (try dsimp only at hSw); simp only [List.getElem_cons_zero, List.getElem_cons_succ]; go_simp <;> with_reducible rfl)
        simp only [List.getElem_cons_zero, List.getElem_cons_succ, Act.put, List.setIfInBounds_toArray, List.set_cons_zero, List.set_cons_succ]
        refine held_take 2 (v := ?_) (by simp) (by kernel_rfl) (by kernel_rfl) (by kernel_rfl) (fun _ _ _ h => h) (Or.inl ⟨by rfl, ?_⟩) hHeld ?_
        case refine_2 => (intro w hSw; (try dsimp only at hSw); simp only [List.getElem_cons_zero, List.getElem_cons_succ]; go_simp <;> with_reducible rfl)
        simp only [List.getElem_cons_zero, List.getElem_cons_succ, Act.put, List.setIfInBounds_toArray, List.set_cons_zero, List.set_cons_succ]
        refine held_take 3 (v := ?_) (by simp) (by kernel_rfl) (by kernel_rfl) (by kernel_rfl) (fun _ _ _ h => h) (Or.inl ⟨by rfl, ?_⟩) hHeld ?_
        case refine_2 => (intro w hSw; (try dsimp only at hSw); simp only [List.getElem_cons_zero, List.getElem_cons_succ]; go_simp <;> with_reducible rfl)
        simp only [List.getElem_cons_zero, List.getElem_cons_succ, Act.put, List.setIfInBounds_toArray, List.set_cons_zero, List.set_cons_succ]
        refine held_take 4 (v := ?_) (by simp) (by kernel_rfl) (by kernel_rfl) (by kernel_rfl) (fun _ _ _ h => h) (Or.inl ⟨by rfl, ?_⟩) hHeld ?_
        case refine_2 => (intro w hSw; (try dsimp only at hSw); simp only [List.getElem_cons_zero, List.getElem_cons_succ]; go_simp <;> with_reducible rfl)
        simp only [List.getElem_cons_zero, List.getElem_cons_succ, Act.put, List.setIfInBounds_toArray, List.set_cons_zero, List.set_cons_succ]
        refine held_take 5 (v := ?_) (by simp) (by kernel_rfl) (by kernel_rfl) (by kernel_rfl) (fun _ _ _ h => h) (Or.inl ⟨by rfl, ?_⟩) hHeld ?_
        case refine_2 => (intro w hSw; (try dsimp only at hSw); simp only [List.getElem_cons_zero, List.getElem_cons_succ]; go_simp <;> with_reducible rfl)
        simp only [List.getElem_cons_zero, List.getElem_cons_succ, Act.put, List.setIfInBounds_toArray, List.set_cons_zero, List.set_cons_succ]
        refine held_take 6 (v := ?_) (by simp) (by kernel_rfl) (by kernel_rfl) (by kernel_rfl) (fun _ _ _ h => h) (Or.inl ⟨by rfl, ?_⟩) hHeld ?_
        case refine_2 => (intro w hSw; (try dsimp only at hSw); simp only [List.getElem_cons_zero, List.getElem_cons_succ]; go_simp <;> with_reducible rfl)
        simp only [List.getElem_cons_zero, List.getElem_cons_succ, Act.put, List.setIfInBounds_toArray, List.set_cons_zero, List.set_cons_succ]
        refine held_take 7 (v := ?_) (by simp) (by kernel_rfl) (by kernel_rfl) (by kernel_rfl) (fun _ _ _ h => h) (Or.inl ⟨by rfl, ?_⟩) hHeld ?_
        case refine_2 => (intro w hSw; (try dsimp only at hSw); simp only [List.getElem_cons_zero, List.getElem_cons_succ]; go_simp <;> with_reducible rfl)
        simp only [List.getElem_cons_zero, List.getElem_cons_succ, Act.put, List.setIfInBounds_toArray, List.set_cons_zero, List.set_cons_succ]
        refine held_take 8 (v := ?_) (by simp) (by kernel_rfl) (by kernel_rfl) (by kernel_rfl) (fun _ _ _ h => h) (Or.inl ⟨by rfl, ?_⟩) hHeld ?_
        case refine_2 => (intro w hSw; (try dsimp only at hSw); simp only [List.getElem_cons_zero, List.getElem_cons_succ]; go_simp <;> with_reducible rfl)
        simp only [List.getElem_cons_zero, List.getElem_cons_succ, Act.put, List.setIfInBounds_toArray, List.set_cons_zero, List.set_cons_succ]
        refine held_take 9 (v := ?_) (by simp) (by kernel_rfl) (by kernel_rfl) (by kernel_rfl) (fun _ _ _ h => h) (Or.inl ⟨by rfl, ?_⟩) hHeld ?_
        case refine_2 => (intro w hSw; (try dsimp only at hSw); simp only [List.getElem_cons_zero, List.getElem_cons_succ]; go_simp <;> with_reducible rfl)
        simp only [List.getElem_cons_zero, List.getElem_cons_succ, Act.put, List.setIfInBounds_toArray, List.set_cons_zero, List.set_cons_succ]
        refine held_take 10 (v := ?_) (by simp) (by kernel_rfl) (by kernel_rfl) (by kernel_rfl) (fun _ _ _ h => h) (Or.inl ⟨by rfl, ?_⟩) hHeld ?_
        case refine_2 => (intro w hSw; (try dsimp only at hSw); simp only [List.getElem_cons_zero, List.getElem_cons_succ]; go_simp <;> with_reducible rfl)
        simp only [List.getElem_cons_zero, List.getElem_cons_succ, Act.put, List.setIfInBounds_toArray, List.set_cons_zero, List.set_cons_succ]
        refine held_take 11 (v := ?_) (by simp) (by kernel_rfl) (by kernel_rfl) (by kernel_rfl) (fun _ _ _ h => h) (Or.inl ⟨by rfl, ?_⟩) hHeld ?_
        case refine_2 => (intro w hSw; (try dsimp only at hSw); simp only [List.getElem_cons_zero, List.getElem_cons_succ]; go_simp <;> with_reducible rfl)
        simp only [List.getElem_cons_zero, List.getElem_cons_succ, Act.put, List.setIfInBounds_toArray, List.set_cons_zero, List.set_cons_succ]
        refine held_take 12 (v := ?_) (by simp) (by kernel_rfl) (by kernel_rfl) (by kernel_rfl) (fun _ _ _ h => h) (Or.inl ⟨by rfl, ?_⟩) hHeld ?_
        case refine_2 => (intro w hSw; (try dsimp only at hSw); simp only [List.getElem_cons_zero, List.getElem_cons_succ]; go_simp <;> with_reducible rfl)
        simp only [List.getElem_cons_zero, List.getElem_cons_succ, Act.put, List.setIfInBounds_toArray, List.set_cons_zero, List.set_cons_succ]
        refine held_take 15 (v := ?_) (by simp) (by kernel_rfl) (by kernel_rfl) (by kernel_rfl) (fun _ _ _ h => h) (Or.inl ⟨by rfl, ?_⟩) hHeld ?_
        case refine_2 => (intro w hSw; (try dsimp only at hSw); simp only [List.getElem_cons_zero, List.getElem_cons_succ]; go_simp <;> with_reducible rfl)
        simp only [List.getElem_cons_zero, List.getElem_cons_succ, Act.put, List.setIfInBounds_toArray, List.set_cons_zero, List.set_cons_succ]
        refine held_take 16 (v := ?_) (by simp) (by kernel_rfl) (by kernel_rfl) (by kernel_rfl) (fun _ _ _ h => h) (Or.inl ⟨by rfl, ?_⟩) hHeld ?_
        case refine_2 => (intro w hSw; (try dsimp only at hSw); simp only [List.getElem_cons_zero, List.getElem_cons_succ]; go_simp <;> with_reducible rfl)
        simp only [List.getElem_cons_zero, List.getElem_cons_succ, Act.put, List.setIfInBounds_toArray, List.set_cons_zero, List.set_cons_succ]
        refine held_take 17 (v := ?_) (by simp) (by kernel_rfl) (by kernel_rfl) (by kernel_rfl) (fun _ _ _ h => h) (Or.inl ⟨by rfl, ?_⟩) hHeld ?_
        case refine_2 => (intro w hSw; (try dsimp only at hSw); simp only [List.getElem_cons_zero, List.getElem_cons_succ]; go_simp <;> with_reducible rfl)
        simp only [List.getElem_cons_zero, List.getElem_cons_succ, Act.put, List.setIfInBounds_toArray, List.set_cons_zero, List.set_cons_succ]
        refine held_take 18 (v := ?_) (by simp) (by kernel_rfl) (by kernel_rfl) (by kernel_rfl) (fun _ _ _ h => h) (Or.inl ⟨by rfl, ?_⟩) hHeld ?_
        case refine_2 => (intro w hSw; (try dsimp only at hSw); simp only [List.getElem_cons_zero, List.getElem_cons_succ]; go_simp <;> with_reducible rfl)
        simp only [List.getElem_cons_zero, List.getElem_cons_succ, Act.put, List.setIfInBounds_toArray, List.set_cons_zero, List.set_cons_succ]
        refine held_sole 13 (by simp) (by kernel_rfl) (fun K hK => ?_)
        simp only [List.getElem_cons_zero, List.getElem_cons_succ]
        go_simp
        refine (int_any (unfold1 (takeU maxU l).1) hun.out _).mono ?_
        rintro e w6 ⟨vb, rfl, hovb, hb6⟩
        rw [HFO.out] at hovb
        obtain ⟨A6, c6, rfl, hc6, _, hr6⟩ := bs_shape hovb
        have k6 := str_of c6 hr6
        have hb46 := HB4.out.trans (hb6.mono HB4.out.size)
        have k7 := str_cut c _ (HIN.out.rd.below hb46) P2.out P3.out
        go_wp2_with fail
        refine hK.out _ _ k7 (fun hHeld => ?_)
        clear hK K
        try simp only [Act.put, List.setIfInBounds_toArray, List.set_cons_zero, List.set_cons_succ]
        refine held_sole 14 (by simp) (by kernel_rfl) (fun K hK => ?_)
        simp only [List.getElem_cons_zero, List.getElem_cons_succ]
        go_simp
        refine hK.out _ _ k7 (fun hHeld => ?_)
        clear hK K
        try simp only [Act.put, List.setIfInBounds_toArray, List.set_cons_zero, List.set_cons_succ]
        refine held_take 19 (v := ?_) (by simp) (by kernel_rfl) (by kernel_rfl) (by kernel_rfl) (fun _ _ _ h => h) (Or.inl ⟨by rfl, ?_⟩) hHeld ?_
        case refine_2 => (intro w hSw; (try dsimp only at hSw); simp only [List.getElem_cons_zero, List.getElem_cons_succ]; go_simp <;> with_reducible rfl)
        simp only [List.getElem_cons_zero, List.getElem_cons_succ, Act.put, List.setIfInBounds_toArray, List.set_cons_zero, List.set_cons_succ]
        refine held_take 20 (v := ?_) (by simp) (by kernel_rfl) (by kernel_rfl) (by kernel_rfl) (fun _ _ _ h => h) (Or.inl ⟨by rfl, ?_⟩) hHeld ?_
        case refine_2 => (intro w hSw; (try dsimp only at hSw); simp only [List.getElem_cons_zero, List.getElem_cons_succ]; go_simp <;> with_reducible rfl)
        simp only [List.getElem_cons_zero, List.getElem_cons_succ, Act.put, List.setIfInBounds_toArray, List.set_cons_zero, List.set_cons_succ]
        refine held_take 21 (v := ?_) (by simp) (by kernel_rfl) (by kernel_rfl) (by kernel_rfl) (fun _ _ _ h => h) (Or.inl ⟨by rfl, ?_⟩) hHeld ?_
        case refine_2 => (intro w hSw; (try dsimp only at hSw); simp only [List.getElem_cons_zero, List.getElem_cons_succ]; go_simp <;> with_reducible rfl)
        simp only [List.getElem_cons_zero, List.getElem_cons_succ, Act.put, List.setIfInBounds_toArray, List.set_cons_zero, List.set_cons_succ]
        refine wpAnyH_done (by kernel_rfl) ?_ _
        clear hb6 hovb hr6
        go_wp2_with fail
        go_meet
        exact ⟨rfl, hb46⟩
      · have hd : ((takeU maxU l).2.2 == 0) = false := beq_eq_false_iff_ne.2 hI
        go_quiet (fail)
        go_wp2
        go_meet
        exact ⟨rfl, below_drewN hb4 _⟩
    case rest =>
      obtain ⟨rfl, hb5⟩ := hcut
      clear hb3 hb4
      go_wp2_with fail
      refine (takeText_any A l c _ ((hin.rd.below hb5).more hb5.size) (by omega) (by omega)).mono ?_
      rintro e w6 ⟨rfl, hb6⟩
      replace hb6 := hb5.trans (hb6.mono hb5.size)
      clear hb5
      go_upto_if 97 with fail
      go_cut [] (fun wx => Below w.heap.size w wx)
      case first =>
        by_cases hT : (takeT l).2.2 = 0
        · obtain ⟨p1, p2, p3⟩ := takeT_form hT
          have hsz : (str (takeT l).1).size ≤ 65535 := p3
          have he : encT (str (takeT l).1).data.toList = enc (takeT l).1.length ++ (takeT l).1 := if_neg (show ¬ 65535 < (takeT l).1.length by omega)
          have he2 : errT (str (takeT l).1).data.toList = 0 := if_neg (show ¬ 65535 < (takeT l).1.length by omega)
          obtain ⟨X, hX⟩ : ∃ X, X = enc (takeT l).1.length ++ (takeT l).1 := ⟨_, rfl⟩
          rw [← hX] at p2 he
          clear hX
          have HT := Lib.hid hT
          have P2 := Lib.hid p2
          have HE := Lib.hid he
          have HE2 := Lib.hid he2
          have hd : ((takeT l).2.2 == 0) = true := beq_iff_eq.2 hT
          clear hT p2 he he2
          go_wp2_with fail
          refine (text_tot (str (takeT l).1) (by omega) _).mono ?_
          rintro e w7 ⟨va, rfl, hova, hb7⟩
          rw [HE2.out]
          rw [HE.out] at hova
          have hb67 := hb6.trans (hb7.mono hb6.size)
          obtain ⟨A3, c3, rfl, hc3, _, hr3⟩ := bs_shape hova
          have q1 : ∀ q, (convert 22 9 (.slice A3 X.length c3)).run Try.prog (w7.drewN q) = .ok (.string (str X)) (w7.drewN q) := fun q => str_of c3 (hr3.drewN q)
          have q2 : ∀ q, (convert 22 9 (.slice A (takeT l).2.1 c)).run Try.prog (w7.drewN q) = .ok (.string (str X)) (w7.drewN q) := fun q => str_cut c _ ((hin.rd.below hb67).drewN q) p1 P2.out
          have q3 := fun W : World => run_cut_to (P := Try.prog) Try.underlying22 info_u8 A l.length c (takeT l).2.1 (by omega) _ rfl W
          have q5 : decide ((l.length : Int) < ((takeT l).2.1 : Int)) = false := by simp; omega
          have q6 : decide (l.length < (takeT l).2.1) = false := by simp; omega
          clear hova hb6 hb7 hr3
          go_wp2_with fail
          go_quiet (fail)
          go_wp2
          go_meet
          exact below_drewN hb67 _
        · have hd : ((takeT l).2.2 == 0) = false := beq_eq_false_iff_ne.2 hT
          go_wp2
          go_meet
          exact hb6
      case rest =>
        rename Below _ _ _ => hb7
        clear hb6
        go_wp2_with fail
        refine (takeInts_any A l c _ ((hin.rd.below hb7).more hb7.size) (by omega)).mono ?_
        rintro e w8 ⟨vz, rfl, hovz, hb8⟩
        replace hb8 := hb7.trans (hb8.mono hb7.size)
        clear hb7
        by_cases hZ : (takeZ l).2.2 = 0
        · obtain ⟨p1, p2, p3, p4⟩ := takeZ_form hZ
          have he : encZ (takeZ l).1 = enc (takeZ l).1.length ++ encs (takeZ l).1 := if_neg (by omega)
          have he2 : errZ (takeZ l).1 = 0 := if_neg (by omega)
          obtain ⟨X, hX⟩ : ∃ X, X = enc (takeZ l).1.length ++ encs (takeZ l).1 := ⟨_, rfl⟩
          rw [← hX] at p2 he
          clear hX
          have HT := Lib.hid hZ
          have P2 := Lib.hid p2
          have P4 := Lib.hid p4
          have HE := Lib.hid he
          have HE2 := Lib.hid he2
          obtain ⟨Az, cz, rfl, hcz, hczx, hrz⟩ := is_shape hovz
          clear hZ p2 p4 he he2 hovz
          rw [HT.out]
          go_wp2_with fail
          refine (ints_tot Az (takeZ l).1 _ cz rfl _ hrz P4.out (by omega)).mono ?_
          rintro e w9 ⟨va, rfl, hova, hb9⟩
          rw [HE2.out]
          rw [HE.out] at hova
          have hb89 := hb8.trans (hb9.mono hb8.size)
          obtain ⟨A3, c3, rfl, hc3, _, hr3⟩ := bs_shape hova
          have q1 : ∀ q, (convert 22 9 (.slice A3 X.length c3)).run Try.prog (w9.drewN q) = .ok (.string (str X)) (w9.drewN q) := fun q => str_of c3 (hr3.drewN q)
          have q2 : ∀ q, (convert 22 9 (.slice A (takeZ l).2.1 c)).run Try.prog (w9.drewN q) = .ok (.string (str X)) (w9.drewN q) := fun q => str_cut c _ ((hin.rd.below hb89).drewN q) p1 P2.out
          have q3 := fun W : World => run_cut_to (P := Try.prog) Try.underlying22 info_u8 A l.length c (takeZ l).2.1 (by omega) _ rfl W
          have q5 : decide (((takeZ l).2.1 : Int) ≤ (l.length : Int)) = true := by simp; omega
          have q6 : decide ((takeZ l).2.1 ≤ l.length) = true := by simp; omega
          clear hova hb8 hb9 hr3 hrz
          go_wp2_with fail
          go_quiet (fail)
          go_wp2
          go_ret
          exact ⟨rfl, below_drewN hb89 _⟩
        · go_wp2
          go_ret
          exact ⟨rfl, hb8⟩
end Go.Proofs.Ytelplpajpfkfiaa
