/- The reference of layer 7: Fault of a field. -/
import Derived.Test.YtdkhmnmngokmmaaRf1
import Derived.BigQuiet
namespace Go.Proofs.Ytdkhmnmngokmmaa.Rf
open Go.RowKit Go.Maps Go.Proofs.Ytdkhmnmngokmmaa.B Go.Proofs.Ytdkhmnmngokmmaa.K Go.Proofs.Ytdkhmnmngokmmaa.Spec Go.Proofs.Ytdkhmnmngokmmaa.Sch Go.Proofs.Ytdkhmnmngokmmaa.Ev Go.Proofs.YtdkhmnmngokmmaaW.PrintWords
set_option linter.unusedVariables false
set_option linter.unusedSimpArgs false

def anyN (l : List Fld) (f : Fld) : Bool := l.any fun g => decide (g.f0 = f.f0)
def anyI (l : List Fld) (f : Fld) : Bool := l.any fun g => decide (g.f1 = f.f1)
theorem anyN_snoc (l : List Fld) (g f : Fld) : anyN (l ++ [g]) f = (anyN l f || (g.f0.toList == f.f0.toList)) := by
  unfold anyN
  rw [List.any_append, toList_beq]
  simp
theorem anyI_snoc (l : List Fld) (g f : Fld) : anyI (l ++ [g]) f = (anyI l f || (g.f1 == f.f1)) := by
  unfold anyI
  rw [List.any_append]
  simp
  rfl
def faultPost (s : List Msg) (prev : List Fld) (f : Fld) (w : World) (e : Ending) (w' : World) : Prop :=
  ∃ r : Int, e = .returned (.int .i64 r) ∧ ((fieldOk s.length prev f = true ∧ r = 0) ∨ (fieldOk s.length prev f = false ∧ 1 ≤ r ∧ r ≤ 11)) ∧ Below w.heap.size w w'
theorem faultPost.no {s : List Msg} {prev : List Fld} {f : Fld} {w w' : World} {r : Int} (h : fieldOk s.length prev f = false) (h1 : 1 ≤ r ∧ r ≤ 11) (hb : Below w.heap.size w w') : faultPost s prev f w (.returned (.int .i64 r)) w' :=
  ⟨r, rfl, .inr ⟨h, h1⟩, hb⟩
theorem faultPost.yes {s : List Msg} {prev : List Fld} {f : Fld} {w w' : World} (h : fieldOk s.length prev f = true) (hb : Below w.heap.size w w') : faultPost s prev f w (.returned (.int .i64 0)) w' :=
  ⟨0, rfl, .inl ⟨h, rfl⟩, hb⟩
theorem fo_eq (n : Int) (prev : List Fld) (f : Fld) : fieldOk n prev f =
    (nameOk f.f0 && !(anyN prev f) && usable f.f1 && !(anyI prev f) && kindIn f.f2 && (!f.f4 || (f.f3 && isNum f.f2)) && (if f.f2 = 17 then decide (0 ≤ f.f5) && decide (f.f5 < n) else f.f5 == 0)) := rfl
theorem usable_split (n : Int) : (usable n = true ∧ ((1 ≤ n ∧ n < 19000) ∨ (20000 ≤ n ∧ n ≤ 536870911))) ∨ (usable n = false ∧ (n < 1 ∨ 536870911 < n ∨ (19000 ≤ n ∧ n < 20000))) := by
  cases h : usable n with
  | true => left; refine ⟨rfl, ?_⟩; unfold usable at h; simp at h; omega
  | false =>
    right; refine ⟨rfl, ?_⟩
    unfold usable at h
    rw [← Bool.not_eq_true, Bool.and_eq_true, Bool.and_eq_true, Bool.or_eq_true] at h
    simp only [decide_eq_true_eq] at h
    omega
set_option maxHeartbeats 8000000 in
set_option maxRecDepth 100000 in
theorem fault_calls (A : Option Addr) (c : Nat) (s : List Msg) (i k : Nat) (w : World) (hr : Kd.C k41 w A s.length s) (hi : i < s.length) (hk : k < (rd_T41 s i).f1.length) (hz : (rd_T38 (rd_T41 s i).f1 k).f0.size ≤ 9223372036854775807) :
    Calls Try.prog 24 #[.slice A s.length c, .int .i64 i, .int .i64 k] w (faultPost s ((rd_T41 s i).f1.take k) (rd_T38 (rd_T41 s i).f1 k) w) := by
  have hu := Try.underlying41
  have hu2 := Try.underlying38
  have hi' : (i : Int) < s.length := by omega
  obtain ⟨ad, A1, c1, e, y0, y1, hl1, hC1⟩ := at_T41 hr i (by omega) hi'
  cases e
  simp only [Int.toNat_natCast] at y0 y1
  obtain ⟨m, hm⟩ : ∃ m, m = rd_T41 s i := ⟨_, rfl⟩
  rw [← hm] at y0 y1 hC1 hk hz ⊢
  have hk' : (k : Int) < m.f1.length := by omega
  obtain ⟨ad1, e, z0, z1, z2, z3, z4, z5⟩ := at_T38 hC1 k (by omega) hk'
  cases e
  simp only [Int.toNat_natCast] at z0 z1 z2 z3 z4 z5
  obtain ⟨f, hf⟩ : ∃ f, f = rd_T38 m.f1 k := ⟨_, rfl⟩
  rw [← hf] at z0 z1 z2 z3 z4 z5 hz ⊢
  have hkb : m.f1.length ≤ 9223372036854775807 := hC1.2.1
  have hsb : s.length ≤ 9223372036854775807 := hr.2.1
  have Y1 := Aside0.mk y1
  have HC := Aside0.mk hC1
  have HZ := Aside0.mk hz
  have HB0 := Aside0.mk (below_alloc' (Below.refl _ w) (.cells #[.string f.f0, .int .i64 f.f1, .int .i64 f.f2, .bool f.f3, .bool f.f4, .int .i64 f.f5] 38))
  have HX0 := Aside0.mk (alloc_at w (.cells #[.string f.f0, .int .i64 f.f1, .int .i64 f.f2, .bool f.f3, .bool f.f4, .int .i64 f.f5] 38))
  clear hm hf hl1 hC1 hr hz
  go_enter Try.func24, Try.ntmps24
  go_wp2
  go_loopg [8, 9, 10] k (fun kq v8 v9 v10 wr => ∃ j : Nat, v10 = .int .i64 j ∧ v8 = .bool (anyN (m.f1.take j) f) ∧ v9 = .bool (anyI (m.f1.take j) f) ∧ j ≤ k ∧ k - j ≤ kq ∧ Aside0 (wr.heap[w.heap.size]? = some (.cells #[.string f.f0, .int .i64 f.f1, .int .i64 f.f2, .bool f.f3, .bool f.f4, .int .i64 f.f5] 38 (0, 0))) ∧ Aside0 (Below w.heap.size w wr))
  case atStart => exact ⟨0, rfl, rfl, rfl, by omega, by omega, HX0, HB0⟩
  case round =>
    obtain ⟨j, rfl, rfl, rfl, hj, hg4, HX, HB⟩ := hrel
    clear y0 y1 z0 z1 z2 z3 z4 z5
    have x0 := cellOf HX.out 0
    have x1 := cellOf HX.out 1
    have x2 := cellOf HX.out 2
    have x3 := cellOf HX.out 3
    have x4 := cellOf HX.out 4
    have x5 := cellOf HX.out 5
    simp only [List.getElem?_toArray, List.getElem?_cons_zero, List.getElem?_cons_succ] at x0 x1 x2 x3 x4 x5
    by_cases hlt : j < k
    · have hlt' : (j : Int) < k := by omega
      have hlt2 : (j : Int) < m.f1.length := by omega
      obtain ⟨ad2, e, z0, z1, z2, z3, z4, z5⟩ := at_T38 HC.out j (by omega) hlt2
      cases e
      simp only [Int.toNat_natCast] at z0 z1 z2 z3 z4 z5
      have HT := Aside0.mk (take_rdF m.f1 j (by omega))
      obtain ⟨q, hq⟩ : ∃ q, q = rd_T38 m.f1 j := ⟨_, rfl⟩
      rw [← hq] at z0 z1 HT
      clear hq z2 z3 z4 z5 x2 x3 x4 x5
      replace z0 := pw_cell_below HB.out z0
      replace z1 := pw_cell_below HB.out z1
      have y1 := pw_cell_below HB.out Y1.out
      have HN : Aside0 (∀ b, anyN (m.f1.take j) f = b → anyN (m.f1.take (j + 1)) f = (b || (q.f0.toList == f.f0.toList))) := ⟨fun b e => by rw [HT.out, anyN_snoc, e]⟩
      have HI : Aside0 (∀ b, anyI (m.f1.take j) f = b → anyI (m.f1.take (j + 1)) f = (b || (q.f1 == f.f1))) := ⟨fun b e => by rw [HT.out, anyI_snoc, e]⟩
      cases h1 : anyN (m.f1.take j) f with
      | true =>
        have H1 := Aside0.mk (HN.out _ h1)
        cases h2 : anyI (m.f1.take j) f with
        | true =>
          have H2 := Aside0.mk (HI.out _ h2)
          clear h1 h2
          go_wp2
          go_quiet (fail)
          go_wp2
          go_quiet (fail)
          go_wp2
          go_roundg (k - (j + 1))
          case measure => omega
          case rel => exact ⟨j + 1, by go_num, val_bool (by rw [H1.out]; first | rfl | (rw [Bool.false_or])), val_bool (by rw [H2.out]; first | rfl | (rw [Bool.false_or])), by omega, by omega, ⟨HX.out⟩, ⟨pw_below_drewN HB.out _⟩⟩
        | false =>
          have H2 := Aside0.mk (HI.out _ h2)
          clear h1 h2
          go_wp2
          go_quiet (fail)
          go_wp2
          go_quiet (fail)
          go_wp2
          go_roundg (k - (j + 1))
          case measure => omega
          case rel => exact ⟨j + 1, by go_num, val_bool (by rw [H1.out]; first | rfl | (rw [Bool.false_or])), val_bool (by rw [H2.out]; first | rfl | (rw [Bool.false_or])), by omega, by omega, ⟨HX.out⟩, ⟨pw_below_drewN HB.out _⟩⟩
      | false =>
        have H1 := Aside0.mk (HN.out _ h1)
        cases h2 : anyI (m.f1.take j) f with
        | true =>
          have H2 := Aside0.mk (HI.out _ h2)
          clear h1 h2
          go_wp2
          go_quiet (fail)
          go_wp2
          go_quiet (fail)
          go_wp2
          go_roundg (k - (j + 1))
          case measure => omega
          case rel => exact ⟨j + 1, by go_num, val_bool (by rw [H1.out]; first | rfl | (rw [Bool.false_or])), val_bool (by rw [H2.out]; first | rfl | (rw [Bool.false_or])), by omega, by omega, ⟨HX.out⟩, ⟨pw_below_drewN HB.out _⟩⟩
        | false =>
          have H2 := Aside0.mk (HI.out _ h2)
          clear h1 h2
          go_wp2
          go_quiet (fail)
          go_wp2
          go_quiet (fail)
          go_wp2
          go_roundg (k - (j + 1))
          case measure => omega
          case rel => exact ⟨j + 1, by go_num, val_bool (by rw [H1.out]; first | rfl | (rw [Bool.false_or])), val_bool (by rw [H2.out]; first | rfl | (rw [Bool.false_or])), by omega, by omega, ⟨HX.out⟩, ⟨pw_below_drewN HB.out _⟩⟩
    · obtain rfl : j = k := by omega
      have HF := Aside0.mk (fo_eq s.length (m.f1.take j) f)
      have hnm := rname_calls f.f0 HZ.out
      cases hN : nameOk f.f0 with
      | false =>
        have HF0 := Aside0.mk (show fieldOk s.length (m.f1.take j) f = false by rw [HF.out, hN]; rfl)
        rw [hN] at hnm
        clear hN
        go_wp2_with (go_at_call 23; refine (hnm _).mono ?_; rintro e w5 ⟨rfl, hb5⟩)
        go_ret
        exact faultPost.no HF0.out (by decide) (HB.out.trans (hb5.mono HB.out.size))
      | true =>
        have HN1 := Aside0.mk hN
        rw [hN] at hnm
        clear hN
        go_upto_region 10 with (go_at_call 23; refine (hnm _).mono ?_; rintro e w5 ⟨rfl, hb5⟩)
        replace x0 := pw_cell_below hb5 x0
        replace x1 := pw_cell_below hb5 x1
        replace x2 := pw_cell_below hb5 x2
        replace x3 := pw_cell_below hb5 x3
        replace x4 := pw_cell_below hb5 x4
        replace x5 := pw_cell_below hb5 x5
        have HBW := Aside0.mk (HB.out.trans (hb5.mono HB.out.size))
        have HX5 := Aside0.mk (heap_below hb5 (Nat.le_refl _) HX.out)
        clear hb5 hnm HB HX
        cases h1 : anyN (m.f1.take j) f with
        | true =>
          have HF0 := Aside0.mk (show fieldOk s.length (m.f1.take j) f = false by rw [HF.out, HN1.out, h1]; rfl)
          go_wp2
          go_ret
          exact faultPost.no HF0.out (by decide) HBW.out
        | false =>
          have H1 := Aside0.mk h1
          clear h1
          have hcase : (usable f.f1 = true ∧ ((1 ≤ f.f1 ∧ f.f1 < 19000) ∨ (20000 ≤ f.f1 ∧ f.f1 ≤ 536870911))) ∨ (usable f.f1 = false ∧ (f.f1 < 1 ∨ 536870911 < f.f1 ∨ (19000 ≤ f.f1 ∧ f.f1 < 20000))) := usable_split f.f1
          rcases hcase with ⟨hU, ⟨u1, u2⟩ | ⟨u1, u2⟩⟩ | ⟨hU, hbad⟩
          · have HU := Aside0.mk hU
            have u3 : f.f1 ≤ 536870911 := by omega
            clear hU
            go_upto_region 14 with (fail)
            cases h2 : anyI (m.f1.take j) f with
            | true =>
              have HF0 := Aside0.mk (show fieldOk s.length (m.f1.take j) f = false by rw [HF.out, HN1.out, H1.out, HU.out, h2]; rfl)
              go_wp2
              go_ret
              exact faultPost.no HF0.out (by decide) HBW.out
            | false =>
              have H2 := Aside0.mk h2
              clear h2
              have hkr := rkind_calls f.f2
              cases hK : kindIn f.f2 with
              | false =>
                have HF0 := Aside0.mk (show fieldOk s.length (m.f1.take j) f = false by rw [HF.out, HN1.out, H1.out, HU.out, H2.out, hK]; rfl)
                rw [hK] at hkr
                clear hK
                go_wp2_with (go_at_call 34; refine (hkr _).mono ?_; rintro e w' ⟨rfl, rfl⟩)
                go_ret
                exact faultPost.no HF0.out (by decide) HBW.out
              | true =>
                have HK := Aside0.mk hK
                rw [hK] at hkr
                clear hK
                go_upto_region 18 with (go_at_call 34; refine (hkr _).mono ?_; rintro e w' ⟨rfl, rfl⟩)
                clear hkr
                cases h4 : f.f4 with
                | false =>
                  rw [h4] at x4
                  have HP := Aside0.mk (show (!f.f4 || (f.f3 && isNum f.f2)) = true by rw [h4]; rfl)
                  clear h4
                  go_upto_region 20 with (fail)
                  by_cases h17 : f.f2 = 17
                  · have h17' : (f.f2 == 17) = true := beq_iff_eq.2 h17
                    have h17'' : (f.f2 != 17) = false := bne_eq_false_iff_eq.2 h17
                    have H17 := Aside0.mk h17
                    by_cases ho1 : f.f5 < 0
                    · have HF0 := Aside0.mk (show fieldOk s.length (m.f1.take j) f = false by rw [HF.out, HN1.out, H1.out, HU.out, H2.out, HK.out, HP.out, if_pos H17.out]; simp; omega)
                      clear h17
                      go_wp2
                      go_ret
                      exact faultPost.no HF0.out (by decide) HBW.out
                    · have ho1' : 0 ≤ f.f5 := by omega
                      by_cases ho2 : f.f5 < s.length
                      · have HF1 := Aside0.mk (show fieldOk s.length (m.f1.take j) f = true by rw [HF.out, HN1.out, H1.out, HU.out, H2.out, HK.out, HP.out, if_pos H17.out]; simp; omega)
                        clear h17
                        go_wp2
                        go_ret
                        exact faultPost.yes HF1.out HBW.out
                      · have ho2' : (s.length : Int) ≤ f.f5 := by omega
                        have HF0 := Aside0.mk (show fieldOk s.length (m.f1.take j) f = false by rw [HF.out, HN1.out, H1.out, HU.out, H2.out, HK.out, HP.out, if_pos H17.out]; simp; omega)
                        clear h17
                        go_wp2
                        go_ret
                        exact faultPost.no HF0.out (by decide) HBW.out
                  · have h17' : (f.f2 == 17) = false := beq_eq_false_iff_ne.2 h17
                    have h17'' : (f.f2 != 17) = true := bne_iff_ne.2 h17
                    have H17 := Aside0.mk h17
                    by_cases ho1 : f.f5 = 0
                    · have ho1' : (f.f5 != 0) = false := bne_eq_false_iff_eq.2 ho1
                      have HF1 := Aside0.mk (show fieldOk s.length (m.f1.take j) f = true by rw [HF.out, HN1.out, H1.out, HU.out, H2.out, HK.out, HP.out, if_neg H17.out, ho1]; rfl)
                      clear h17 ho1
                      go_wp2
                      go_ret
                      exact faultPost.yes HF1.out HBW.out
                    · have ho1' : (f.f5 != 0) = true := bne_iff_ne.2 ho1
                      have HF0 := Aside0.mk (show fieldOk s.length (m.f1.take j) f = false by rw [HF.out, HN1.out, H1.out, HU.out, H2.out, HK.out, HP.out, if_neg H17.out]; simp [ho1])
                      clear h17 ho1
                      go_wp2
                      go_ret
                      exact faultPost.no HF0.out (by decide) HBW.out
                | true =>
                  rw [h4] at x4
                  cases h3 : f.f3 with
                  | false =>
                    rw [h3] at x3
                    have HF0 := Aside0.mk (show fieldOk s.length (m.f1.take j) f = false by rw [HF.out, HN1.out, H1.out, HU.out, H2.out, HK.out, h3, h4]; rfl)
                    clear h3 h4
                    go_wp2
                    go_ret
                    exact faultPost.no HF0.out (by decide) HBW.out
                  | true =>
                    rw [h3] at x3
                    have hnu := rnum_calls f.f2
                    cases hM : isNum f.f2 with
                    | false =>
                      have HF0 := Aside0.mk (show fieldOk s.length (m.f1.take j) f = false by rw [HF.out, HN1.out, H1.out, HU.out, H2.out, HK.out, h3, h4, hM]; rfl)
                      rw [hM] at hnu
                      clear h3 h4 hM
                      go_wp2_with (go_at_call 35; refine (hnu _).mono ?_; rintro e w' ⟨rfl, rfl⟩)
                      go_ret
                      exact faultPost.no HF0.out (by decide) HBW.out
                    | true =>
                      have HP := Aside0.mk (show (!f.f4 || (f.f3 && isNum f.f2)) = true by rw [h3, h4, hM]; rfl)
                      rw [hM] at hnu
                      clear h3 h4 hM
                      go_upto_region 20 with (go_at_call 35; refine (hnu _).mono ?_; rintro e w' ⟨rfl, rfl⟩)
                      clear hnu
                      by_cases h17 : f.f2 = 17
                      · have h17' : (f.f2 == 17) = true := beq_iff_eq.2 h17
                        have h17'' : (f.f2 != 17) = false := bne_eq_false_iff_eq.2 h17
                        have H17 := Aside0.mk h17
                        by_cases ho1 : f.f5 < 0
                        · have HF0 := Aside0.mk (show fieldOk s.length (m.f1.take j) f = false by rw [HF.out, HN1.out, H1.out, HU.out, H2.out, HK.out, HP.out, if_pos H17.out]; simp; omega)
                          clear h17
                          go_wp2
                          go_ret
                          exact faultPost.no HF0.out (by decide) HBW.out
                        · have ho1' : 0 ≤ f.f5 := by omega
                          by_cases ho2 : f.f5 < s.length
                          · have HF1 := Aside0.mk (show fieldOk s.length (m.f1.take j) f = true by rw [HF.out, HN1.out, H1.out, HU.out, H2.out, HK.out, HP.out, if_pos H17.out]; simp; omega)
                            clear h17
                            go_wp2
                            go_ret
                            exact faultPost.yes HF1.out HBW.out
                          · have ho2' : (s.length : Int) ≤ f.f5 := by omega
                            have HF0 := Aside0.mk (show fieldOk s.length (m.f1.take j) f = false by rw [HF.out, HN1.out, H1.out, HU.out, H2.out, HK.out, HP.out, if_pos H17.out]; simp; omega)
                            clear h17
                            go_wp2
                            go_ret
                            exact faultPost.no HF0.out (by decide) HBW.out
                      · have h17' : (f.f2 == 17) = false := beq_eq_false_iff_ne.2 h17
                        have h17'' : (f.f2 != 17) = true := bne_iff_ne.2 h17
                        have H17 := Aside0.mk h17
                        by_cases ho1 : f.f5 = 0
                        · have ho1' : (f.f5 != 0) = false := bne_eq_false_iff_eq.2 ho1
                          have HF1 := Aside0.mk (show fieldOk s.length (m.f1.take j) f = true by rw [HF.out, HN1.out, H1.out, HU.out, H2.out, HK.out, HP.out, if_neg H17.out, ho1]; rfl)
                          clear h17 ho1
                          go_wp2
                          go_ret
                          exact faultPost.yes HF1.out HBW.out
                        · have ho1' : (f.f5 != 0) = true := bne_iff_ne.2 ho1
                          have HF0 := Aside0.mk (show fieldOk s.length (m.f1.take j) f = false by rw [HF.out, HN1.out, H1.out, HU.out, H2.out, HK.out, HP.out, if_neg H17.out]; simp [ho1])
                          clear h17 ho1
                          go_wp2
                          go_ret
                          exact faultPost.no HF0.out (by decide) HBW.out
          · have HU := Aside0.mk hU
            have u3 : 1 ≤ f.f1 := by omega
            have u4 : 19000 ≤ f.f1 := by omega
            clear hU
            go_upto_region 14 with (fail)
            cases h2 : anyI (m.f1.take j) f with
            | true =>
              have HF0 := Aside0.mk (show fieldOk s.length (m.f1.take j) f = false by rw [HF.out, HN1.out, H1.out, HU.out, h2]; rfl)
              go_wp2
              go_ret
              exact faultPost.no HF0.out (by decide) HBW.out
            | false =>
              have H2 := Aside0.mk h2
              clear h2
              have hkr := rkind_calls f.f2
              cases hK : kindIn f.f2 with
              | false =>
                have HF0 := Aside0.mk (show fieldOk s.length (m.f1.take j) f = false by rw [HF.out, HN1.out, H1.out, HU.out, H2.out, hK]; rfl)
                rw [hK] at hkr
                clear hK
                go_wp2_with (go_at_call 34; refine (hkr _).mono ?_; rintro e w' ⟨rfl, rfl⟩)
                go_ret
                exact faultPost.no HF0.out (by decide) HBW.out
              | true =>
                have HK := Aside0.mk hK
                rw [hK] at hkr
                clear hK
                go_upto_region 18 with (go_at_call 34; refine (hkr _).mono ?_; rintro e w' ⟨rfl, rfl⟩)
                clear hkr
                cases h4 : f.f4 with
                | false =>
                  rw [h4] at x4
                  have HP := Aside0.mk (show (!f.f4 || (f.f3 && isNum f.f2)) = true by rw [h4]; rfl)
                  clear h4
                  go_upto_region 20 with (fail)
                  by_cases h17 : f.f2 = 17
                  · have h17' : (f.f2 == 17) = true := beq_iff_eq.2 h17
                    have h17'' : (f.f2 != 17) = false := bne_eq_false_iff_eq.2 h17
                    have H17 := Aside0.mk h17
                    by_cases ho1 : f.f5 < 0
                    · have HF0 := Aside0.mk (show fieldOk s.length (m.f1.take j) f = false by rw [HF.out, HN1.out, H1.out, HU.out, H2.out, HK.out, HP.out, if_pos H17.out]; simp; omega)
                      clear h17
                      go_wp2
                      go_ret
                      exact faultPost.no HF0.out (by decide) HBW.out
                    · have ho1' : 0 ≤ f.f5 := by omega
                      by_cases ho2 : f.f5 < s.length
                      · have HF1 := Aside0.mk (show fieldOk s.length (m.f1.take j) f = true by rw [HF.out, HN1.out, H1.out, HU.out, H2.out, HK.out, HP.out, if_pos H17.out]; simp; omega)
                        clear h17
                        go_wp2
                        go_ret
                        exact faultPost.yes HF1.out HBW.out
                      · have ho2' : (s.length : Int) ≤ f.f5 := by omega
                        have HF0 := Aside0.mk (show fieldOk s.length (m.f1.take j) f = false by rw [HF.out, HN1.out, H1.out, HU.out, H2.out, HK.out, HP.out, if_pos H17.out]; simp; omega)
                        clear h17
                        go_wp2
                        go_ret
                        exact faultPost.no HF0.out (by decide) HBW.out
                  · have h17' : (f.f2 == 17) = false := beq_eq_false_iff_ne.2 h17
                    have h17'' : (f.f2 != 17) = true := bne_iff_ne.2 h17
                    have H17 := Aside0.mk h17
                    by_cases ho1 : f.f5 = 0
                    · have ho1' : (f.f5 != 0) = false := bne_eq_false_iff_eq.2 ho1
                      have HF1 := Aside0.mk (show fieldOk s.length (m.f1.take j) f = true by rw [HF.out, HN1.out, H1.out, HU.out, H2.out, HK.out, HP.out, if_neg H17.out, ho1]; rfl)
                      clear h17 ho1
                      go_wp2
                      go_ret
                      exact faultPost.yes HF1.out HBW.out
                    · have ho1' : (f.f5 != 0) = true := bne_iff_ne.2 ho1
                      have HF0 := Aside0.mk (show fieldOk s.length (m.f1.take j) f = false by rw [HF.out, HN1.out, H1.out, HU.out, H2.out, HK.out, HP.out, if_neg H17.out]; simp [ho1])
                      clear h17 ho1
                      go_wp2
                      go_ret
                      exact faultPost.no HF0.out (by decide) HBW.out
                | true =>
                  rw [h4] at x4
                  cases h3 : f.f3 with
                  | false =>
                    rw [h3] at x3
                    have HF0 := Aside0.mk (show fieldOk s.length (m.f1.take j) f = false by rw [HF.out, HN1.out, H1.out, HU.out, H2.out, HK.out, h3, h4]; rfl)
                    clear h3 h4
                    go_wp2
                    go_ret
                    exact faultPost.no HF0.out (by decide) HBW.out
                  | true =>
                    rw [h3] at x3
                    have hnu := rnum_calls f.f2
                    cases hM : isNum f.f2 with
                    | false =>
                      have HF0 := Aside0.mk (show fieldOk s.length (m.f1.take j) f = false by rw [HF.out, HN1.out, H1.out, HU.out, H2.out, HK.out, h3, h4, hM]; rfl)
                      rw [hM] at hnu
                      clear h3 h4 hM
                      go_wp2_with (go_at_call 35; refine (hnu _).mono ?_; rintro e w' ⟨rfl, rfl⟩)
                      go_ret
                      exact faultPost.no HF0.out (by decide) HBW.out
                    | true =>
                      have HP := Aside0.mk (show (!f.f4 || (f.f3 && isNum f.f2)) = true by rw [h3, h4, hM]; rfl)
                      rw [hM] at hnu
                      clear h3 h4 hM
                      go_upto_region 20 with (go_at_call 35; refine (hnu _).mono ?_; rintro e w' ⟨rfl, rfl⟩)
                      clear hnu
                      by_cases h17 : f.f2 = 17
                      · have h17' : (f.f2 == 17) = true := beq_iff_eq.2 h17
                        have h17'' : (f.f2 != 17) = false := bne_eq_false_iff_eq.2 h17
                        have H17 := Aside0.mk h17
                        by_cases ho1 : f.f5 < 0
                        · have HF0 := Aside0.mk (show fieldOk s.length (m.f1.take j) f = false by rw [HF.out, HN1.out, H1.out, HU.out, H2.out, HK.out, HP.out, if_pos H17.out]; simp; omega)
                          clear h17
                          go_wp2
                          go_ret
                          exact faultPost.no HF0.out (by decide) HBW.out
                        · have ho1' : 0 ≤ f.f5 := by omega
                          by_cases ho2 : f.f5 < s.length
                          · have HF1 := Aside0.mk (show fieldOk s.length (m.f1.take j) f = true by rw [HF.out, HN1.out, H1.out, HU.out, H2.out, HK.out, HP.out, if_pos H17.out]; simp; omega)
                            clear h17
                            go_wp2
                            go_ret
                            exact faultPost.yes HF1.out HBW.out
                          · have ho2' : (s.length : Int) ≤ f.f5 := by omega
                            have HF0 := Aside0.mk (show fieldOk s.length (m.f1.take j) f = false by rw [HF.out, HN1.out, H1.out, HU.out, H2.out, HK.out, HP.out, if_pos H17.out]; simp; omega)
                            clear h17
                            go_wp2
                            go_ret
                            exact faultPost.no HF0.out (by decide) HBW.out
                      · have h17' : (f.f2 == 17) = false := beq_eq_false_iff_ne.2 h17
                        have h17'' : (f.f2 != 17) = true := bne_iff_ne.2 h17
                        have H17 := Aside0.mk h17
                        by_cases ho1 : f.f5 = 0
                        · have ho1' : (f.f5 != 0) = false := bne_eq_false_iff_eq.2 ho1
                          have HF1 := Aside0.mk (show fieldOk s.length (m.f1.take j) f = true by rw [HF.out, HN1.out, H1.out, HU.out, H2.out, HK.out, HP.out, if_neg H17.out, ho1]; rfl)
                          clear h17 ho1
                          go_wp2
                          go_ret
                          exact faultPost.yes HF1.out HBW.out
                        · have ho1' : (f.f5 != 0) = true := bne_iff_ne.2 ho1
                          have HF0 := Aside0.mk (show fieldOk s.length (m.f1.take j) f = false by rw [HF.out, HN1.out, H1.out, HU.out, H2.out, HK.out, HP.out, if_neg H17.out]; simp [ho1])
                          clear h17 ho1
                          go_wp2
                          go_ret
                          exact faultPost.no HF0.out (by decide) HBW.out
          · have HF0 := Aside0.mk (show fieldOk s.length (m.f1.take j) f = false by rw [HF.out, HN1.out, H1.out, hU]; rfl)
            clear hU
            rcases hbad with u1 | u1 | ⟨u1, u2⟩
            · go_wp2
              go_ret
              exact faultPost.no HF0.out (by decide) HBW.out
            · have u3 : 1 ≤ f.f1 := by omega
              go_wp2
              go_ret
              exact faultPost.no HF0.out (by decide) HBW.out
            · have u3 : 1 ≤ f.f1 := by omega
              have u4 : f.f1 ≤ 536870911 := by omega
              go_wp2
              go_ret
              exact faultPost.no HF0.out (by decide) HBW.out
end Go.Proofs.Ytdkhmnmngokmmaa.Rf
