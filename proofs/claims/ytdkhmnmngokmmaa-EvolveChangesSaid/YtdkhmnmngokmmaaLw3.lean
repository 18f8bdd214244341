/- The law EvolveChanges: its walk at two right schemas. -/
import Derived.Test.YtdkhmnmngokmmaaLw2
import Derived.BigQuiet
import Derived.Deep.RegionHeld3
namespace Go.Proofs.Ytdkhmnmngokmmaa.Lw
open Go.RowKit Go.Maps Go.Proofs.Ytdkhmnmngokmmaa.B Go.Proofs.Ytdkhmnmngokmmaa.K Go.Proofs.Ytdkhmnmngokmmaa.Spec Go.Proofs.Ytdkhmnmngokmmaa.Sch Go.Proofs.Ytdkhmnmngokmmaa.Ev Go.Proofs.Ytdkhmnmngokmmaa.Rf Go.Proofs.Ytdkhmnmngokmmaa.Al Go.Proofs.YtdkhmnmngokmmaaW.PrintWords
set_option linter.unusedVariables false
set_option linter.unusedSimpArgs false
theorem box3 (w : World) (s : ByteArray) (x y : Int) : (w.alloc (.cells #[.int .i64 x, .string s, .int .i64 y] 36)).drew.heap[w.heap.size]? = some (.cells #[.int .i64 x, .string s, .int .i64 y] 36 (0, 0)) := alloc_at _ _
section
variable (a b : List Msg) (A B : Option Addr) (ca cb : Nat) (w : World) (ha : Kd.C k41 w A a.length a) (hb : Kd.C k41 w B b.length b) (hca : a.length ≤ ca) (hcb : b.length ≤ cb) (sa : Sized a) (sb : Sized b)
include ha hb hca hcb sa sb
set_option maxHeartbeats 8000000 in
set_option maxRecDepth 100000 in
theorem law_fit (hRa : right a = true) (hRb : right b = true) : Calls Try.prog 3 #[.slice A a.length ca, .slice B b.length cb] w fun e w' => e = .returned (.bool true) ∧ Below w.heap.size w w' := by
  have hu3 := Try.underlying36
  have hu4 := Try.underlying34
  have hLn := chRes_len a b
  have hR := chRes_fit hRa hRb
  have RW := Aside0.mk (fun W ha hb => rchanges_fit a b A B ca cb W ha hb hRa hRb)
  rw [hR] at hLn
  obtain ⟨L, hL⟩ : ∃ L, L = changesCh a b := ⟨_, rfl⟩
  rw [← hL] at hR hLn RW
  have HR := Aside0.mk hR
  have RA := Aside0.mk hRa
  have RB := Aside0.mk hRb
  have HA := Aside0.mk ha
  have HB := Aside0.mk hb
  have SA := Aside0.mk sa
  have SB := Aside0.mk sb
  have hMn : (toldCh breaksB L).length ≤ 1000000 := Nat.le_trans (toldCh_len breaksB L) hLn
  clear ha hb sa sb hRa hRb hR hL
  go_enter Try.func3, Try.ntmps3
  go_wp2_with (first
    | (go_at_call 4; refine (alive_calls _).mono ?_; rintro e w1 ⟨rfl, hb1⟩; have B1 := Aside0.mk hb1; clear hb1)
    | (go_at_call 5; (with_reducible refine (few_calls A ca a _ (Kd.C_below HA.out B1.out) SA.out).mono ?_); rintro e w2 ⟨b2, rfl, hb2⟩; have B2 := Aside0.mk (bt B1.out hb2); clear hb2)
    | (go_at_call 5; (with_reducible refine (few_calls B cb b _ (Kd.C_below HB.out B2.out) SB.out).mono ?_); rintro e w3 ⟨b3, rfl, hb3⟩; have B3 := Aside0.mk (bt B2.out hb3); clear hb3)
    | (go_at_call 6; (with_reducible refine (changes_fit a b A B ca cb _ (Kd.C_below HA.out B3.out) (Kd.C_below HB.out B3.out) hca hcb SA.out SB.out L HR.out).mono ?_); rintro e w4 ⟨A4, c4, rfl, hr4, hb4⟩; have R4 := Aside0.mk hr4; have B4 := Aside0.mk (bt B3.out hb4); clear hb4 hr4)
    | (go_at_call 7; (with_reducible refine (breaks_fit a b A B ca cb _ (Kd.C_below HA.out B4.out) (Kd.C_below HB.out B4.out) hca hcb SA.out SB.out L HR.out).mono ?_); rintro e w5 ⟨A5, c5, rfl, hr5, hb5⟩; have R5 := Aside0.mk hr5; have Q5 := Aside0.mk (Kd.C_below R4.out hb5); have B5 := Aside0.mk (bt B4.out hb5); clear hb5 hr5 R4)
    | (go_at_call 8; (with_reducible refine (rright_r A ca a true RA.out _ (Kd.C_below HA.out B5.out) SA.out).mono ?_); rintro e w6 ⟨rfl, hb6⟩; have Q6 := Aside0.mk (Kd.C_below Q5.out hb6); have R6 := Aside0.mk (Kd.C_below R5.out hb6); have B6 := Aside0.mk (bt B5.out hb6); clear hb6 Q5 R5)
    | (go_at_call 8; (with_reducible refine (rright_r B cb b true RB.out _ (Kd.C_below HB.out B6.out) SB.out).mono ?_); rintro e w7 ⟨rfl, hb7⟩; have Q7 := Aside0.mk (Kd.C_below Q6.out hb7); have R7 := Aside0.mk (Kd.C_below R6.out hb7); have B7 := Aside0.mk (bt B6.out hb7); clear hb7 Q6 R6)
    | (go_at_call 10; refine (RW.out _ (Kd.C_below HA.out B7.out) (Kd.C_below HB.out B7.out)).mono ?_; rintro e w8 ⟨A8, c8, rfl, hr8, hb8⟩; have R8 := Aside0.mk hr8; have Q8 := Aside0.mk (Kd.C_below Q7.out hb8); have M8 := Aside0.mk (Kd.C_below R7.out hb8); have B8 := Aside0.mk (bt B7.out hb8); clear hb8 hr8 Q7 R7))
  rotate_left
  · go_loopg [10, 11] L.length (fun kq v10 v11 wr => ∃ i : Nat, v11 = .int .i64 i ∧ i ≤ L.length ∧ L.length - i ≤ kq ∧ v10 = .int .i64 (toldCh breaksB (L.take i)).length ∧ Aside0 (Below w8.heap.size w8 wr))
    case atStart => exact ⟨0, rfl, by omega, by omega, rfl, ⟨Below.refl _ _⟩⟩
    case round =>
      obtain ⟨i, rfl, hi, hg, rfl, HW⟩ := hrel
      by_cases hlt : i < L.length
      · have hlt' : (i : Int) < L.length := by omega
        obtain ⟨ad8, e, x0, x1, x2, x3⟩ := at_T34 R8.out i (by omega) hlt'
        cases e
        obtain ⟨ad4, e, y0, y1, y2⟩ := at_T36 Q8.out i (by omega) hlt'
        cases e
        simp only [Int.toNat_natCast] at x0 x1 x2 x3 y0 y1 y2
        rw [rdM_R L i hlt] at x0 x1 x2 x3
        rw [rdM_C L i hlt] at y0 y1 y2
        have HT := Aside0.mk (show toldCh breaksB (L.take (i + 1)) = toldCh breaksB (L.take i) ++ (if breaksB (rd_T47 L i) then [(rd_T47 L i).f0] else []) from by rw [take_rdC L i hlt, toldCh_snoc])
        have HN := Aside0.mk (fun hp => told_next breaksB L i hlt hp)
        obtain ⟨x, hx⟩ : ∃ x, x = rd_T47 L i := ⟨_, rfl⟩
        rw [← hx] at x0 x1 x2 x3 y0 y1 y2 HT HN
        clear hx
        obtain ⟨⟨xw, xm, xn⟩, xf, xg⟩ := x
        simp only [rc] at x0 x1 x2 x3
        simp only at y0 y1 y2
        obtain ⟨br, hbr⟩ : ∃ v, v = breaksB ⟨⟨xw, xm, xn⟩, xf, xg⟩ := ⟨_, rfl⟩
        rw [← hbr] at x3 HT HN
        clear hbr
        have X3 := Aside0.mk x3
        have Y0 := Aside0.mk y0
        have Y1 := Aside0.mk y1
        have Y2 := Aside0.mk y2
        have HK : Aside0 (∀ W, Below w8.heap.size w8 W → Aside0 (Below w8.heap.size w8 W) ∧ W.cell? (ad8.add (i * 4)) = some (.int .i64 xw) ∧ W.cell? ⟨(ad8.add (i * 4)).block, (ad8.add (i * 4)).off + 1, none⟩ = some (.string xm) ∧ W.cell? ⟨(ad8.add (i * 4)).block, (ad8.add (i * 4)).off + 2, none⟩ = some (.int .i64 xn)) := ⟨fun W h => ⟨⟨h⟩, pw_cell_below h x0, pw_cell_below h x1, pw_cell_below h x2⟩⟩
        have hs8 := HW.out.size
        clear x0 x1 x2 x3 y0 y1 y2
        obtain ⟨k, hk⟩ : ∃ k, k = (toldCh breaksB (L.take i)).length := ⟨_, rfl⟩
        rw [← hk] at HN
        rw [← hk]
        have HKK := Aside0.mk hk
        clear hk
        go_upto_region 16 with (fail)
        go_cut [12] (fun v12 wc => ∃ g, v12 = .pointer (some ⟨g, 0, none⟩) ∧ Aside0 (wc.heap[g]? = some (.cells #[.int .i64 xw, .string xm, .int .i64 xn] 36 (0, 0))) ∧ Aside0 (Below w8.heap.size w8 wc))
        case first =>
          go_region_held3 (fun W => Aside0 (Below w8.heap.size w8 W) ∧ W.cell? (ad8.add (i * 4)) = some (.int .i64 xw) ∧ W.cell? ⟨(ad8.add (i * 4)).block, (ad8.add (i * 4)).off + 1, none⟩ = some (.string xm) ∧ W.cell? ⟨(ad8.add (i * 4)).block, (ad8.add (i * 4)).off + 2, none⟩ = some (.int .i64 xn))
            ((refine HK.out _ ?_; (repeat (first | exact HW.out | refine Below.drew ?_ | exact (HW.out.alloc HW.out.size _) | refine Below.setCell ?_ ?_ _)); all_goals (first | exact HW.out.size | (simp; done) | (simp; omega) | omega)))
            (fail)
          all_goals
            go_wp2_with fail
            go_meet
            case rel => exact ⟨_, rfl, ⟨box3 _ _ _ _⟩, ⟨(HW.out.alloc HW.out.size _).drew⟩⟩
        case rest =>
          obtain ⟨g, rfl, HG, HWc⟩ := hcut
          obtain ⟨w9, rfl⟩ : ∃ x : World, x = wc := ⟨_, rfl⟩
          have q0 := cellOf HG.out 0
          have q1 := cellOf HG.out 1
          have q2 := cellOf HG.out 2
          simp only [List.getElem?_toArray, List.getElem?_cons_zero, List.getElem?_cons_succ] at q0 q1 q2
          have y0 := pw_cell_below HWc.out Y0.out
          have y1 := pw_cell_below HWc.out Y1.out
          have y2 := pw_cell_below HWc.out Y2.out
          have x3 := pw_cell_below HWc.out X3.out
          clear HW HK
          cases br with
          | false =>
            go_wp2_with fail
            go_quiet (fail)
            go_wp2_with fail
            go_roundg (L.length - (i + 1))
            case measure => omega
            case rel =>
              refine ⟨i + 1, by go_num, by omega, by omega, ?_, ⟨pw_below_drewN HWc.out _⟩⟩
              rw [HT.out, HKK.out]
              simp
          | true =>
            obtain ⟨hkl, hkr⟩ := HN.out rfl
            have hkl' : (k : Int) < (toldCh breaksB L).length := by omega
            have hd : decide (((toldCh breaksB L).length : Int) ≤ (k : Int)) = false := by simpa using hkl
            have hd2 : decide ((toldCh breaksB L).length ≤ k) = false := by simpa using hkl
            obtain ⟨ad5, e, z0, z1, z2⟩ := at_T36 M8.out k (by omega) hkl'
            cases e
            simp only [Int.toNat_natCast] at z0 z1 z2
            rw [hkr] at z0 z1 z2
            simp only at z0 z1 z2
            replace z0 := pw_cell_below HWc.out z0
            replace z1 := pw_cell_below HWc.out z1
            replace z2 := pw_cell_below HWc.out z2
            clear hkr
            go_wp2_with fail
            go_quiet (fail)
            go_wp2_with fail
            go_quiet (fail)
            go_wp2_with fail
            go_roundg (L.length - (i + 1))
            case measure => omega
            case rel =>
              refine ⟨i + 1, by go_num, by omega, by omega, ?_, ⟨pw_below_drewN HWc.out _⟩⟩
              rw [HT.out, HKK.out]
              simp
      · obtain rfl : i = L.length := by omega
        have hkM : (toldCh breaksB (L.take L.length)).length = (toldCh breaksB L).length := by rw [List.take_length]
        rw [hkM]
        clear hkM
        obtain ⟨M, hM⟩ : ∃ M, M = toldCh breaksB L := ⟨_, rfl⟩
        have HRD := Aside0.mk (fun W ha hb => reads_fit a b A B ca cb W ha hb hca hcb SA.out SB.out L HR.out)
        rw [← hM] at HRD hMn
        rw [← hM]
        have M9 := M8
        rw [← hM] at M9
        clear hM
        cases h0 : (M.length == 0) with
        | true =>
          have h0' : ((M.length : Int) == 0) = true := by simpa using h0
          have h1 := Aside0.mk h0
          have H2 := Aside0.mk h0'
          clear h0 h0'
          go_wp2_with (go_at_call 9; refine (HRD.out _ (Kd.C_below HA.out (bt B8.out HW.out)) (Kd.C_below HB.out (bt B8.out HW.out))).mono ?_; rintro e w9 ⟨rfl, hb9⟩)
          go_ret
          exact ⟨by show Ending.returned (.bool ((M.length == 0) == ((M.length : Int) == 0))) = _; rw [h1.out]; simp only [H2.out]; rfl, bt (bt B8.out HW.out) hb9⟩
        | false =>
          have h0' : ((M.length : Int) == 0) = false := by simpa using h0
          have h1 := Aside0.mk h0
          have H2 := Aside0.mk h0'
          clear h0 h0'
          go_wp2_with (go_at_call 9; refine (HRD.out _ (Kd.C_below HA.out (bt B8.out HW.out)) (Kd.C_below HB.out (bt B8.out HW.out))).mono ?_; rintro e w9 ⟨rfl, hb9⟩)
          go_ret
          exact ⟨by show Ending.returned (.bool ((M.length == 0) == ((M.length : Int) == 0))) = _; rw [h1.out]; simp only [H2.out]; rfl, bt (bt B8.out HW.out) hb9⟩
  all_goals (go_ret; first | exact ⟨rfl, B3.out⟩ | exact ⟨rfl, B2.out⟩)
end
/-- The law's walk: at any two schemas. -/
theorem law_calls (a b : List Msg) (A B : Option Addr) (ca cb : Nat) (w : World) (ha : Kd.C k41 w A a.length a) (hb : Kd.C k41 w B b.length b) (hca : a.length ≤ ca) (hcb : b.length ≤ cb) (sa : Sized a) (sb : Sized b) :
    Calls Try.prog 3 #[.slice A a.length ca, .slice B b.length cb] w fun e w' => e = .returned (.bool true) ∧ Below w.heap.size w w' := by
  cases hRa : right a with
  | false => exact law_ill1 a b A B ca cb w ha hb hca hcb sa sb hRa
  | true =>
    cases hRb : right b with
    | false => exact law_ill2 a b A B ca cb w ha hb hca hcb sa sb hRa hRb
    | true => exact law_fit a b A B ca cb w ha hb hca hcb sa sb hRa hRb
end Go.Proofs.Ytdkhmnmngokmmaa.Lw
