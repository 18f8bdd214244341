/- The reference's Changes: the walk. -/
import Derived.Test.YtdkhmnmngokmmaaRf8
namespace Go.Proofs.Ytdkhmnmngokmmaa.Rf
open Go.RowKit Go.Maps Go.Proofs.Ytdkhmnmngokmmaa.B Go.Proofs.Ytdkhmnmngokmmaa.K Go.Proofs.Ytdkhmnmngokmmaa.Spec Go.Proofs.Ytdkhmnmngokmmaa.Sch Go.Proofs.Ytdkhmnmngokmmaa.Ev Go.Proofs.YtdkhmnmngokmmaaW.PrintWords
set_option linter.unusedVariables false
set_option linter.unusedSimpArgs false
theorem zat1 (w : World) (o : Obj) : ((w.alloc (.cells #[.string ⟨#[]⟩, .slice none 0 0] 41)).alloc o).drew.heap[w.heap.size]? = some (.cells #[.string ⟨#[]⟩, .slice none 0 0] 41 (0, 0)) := alloc_old (alloc_at _ _) _
theorem zat2 (w : World) (o : Obj) : ((w.alloc o).alloc (.cells #[.string ⟨#[]⟩, .slice none 0 0] 41)).drew.heap[w.heap.size + 1]? = some (.cells #[.string ⟨#[]⟩, .slice none 0 0] 41 (0, 0)) := by
  have h := alloc_at (w.alloc o) (.cells #[.string ⟨#[]⟩, .slice none 0 0] 41)
  rw [show (w.alloc o).heap.size = w.heap.size + 1 from by simp] at h
  exact h
theorem ne1 (n : Nat) : some n ≠ some (n + 1) := by simp
theorem ne2 (n : Nat) : some (n + 1) ≠ some n := by simp
theorem zc2 (w : World) (o : Obj) : ((w.alloc o).alloc (.cells #[] 38)).drew.heap[w.heap.size + 1]? = some (.cells #[] 38 (0, 0)) := by
  have h := alloc_at (w.alloc o) (.cells #[] 38)
  rw [show (w.alloc o).heap.size = w.heap.size + 1 from by simp] at h
  exact h
theorem sz2 (w : World) (o : Obj) : (w.alloc o).heap.size = w.heap.size + 1 := by simp
theorem keep2 {w3 W : World} {a0 a1 : Addr} {v0 v1 : Value} (h0 : w3.cell? a0 = some v0) (h1 : w3.cell? a1 = some v1) (h : Below w3.heap.size w3 W) : Aside0 (Below w3.heap.size w3 W) ∧ W.cell? a0 = some v0 ∧ W.cell? a1 = some v1 := ⟨⟨h⟩, pw_cell_below h h0, pw_cell_below h h1⟩
theorem made0G {W : World} {base g : Nat} (h : W.heap[g]? = some (.cells #[] 38 (0, 0))) (hb : base ≤ g) : Kd.R k38 38 W base (fun _ => True) (.slice (some ⟨g, 0, none⟩) 0 0) [] :=
  ⟨fun _ _ => trivial, [], ⟨rfl, .inr ⟨g, 0, #[], rfl, hb, h, Nat.le_refl _, Nat.zero_le _, rfl, rfl⟩⟩, Reps.none _ _⟩
set_option maxHeartbeats 8000000 in
set_option maxRecDepth 100000 in
theorem rchanges_calls (a b : List Msg) (A B : Option Addr) (ca cb : Nat) (w : World) (ha : Kd.C k41 w A a.length a) (hb : Kd.C k41 w B b.length b) (hRa : right a = true) (hRb : right b = true) :
    Calls Try.prog 10 #[.slice A a.length ca, .slice B b.length cb] w fun e w' =>
      ∃ v, e = .returned v ∧ Kd.R k34 34 w' w.heap.size (fun _ => True) v ((changesCh a b).map rc) ∧ Below w.heap.size w w' := by
  have hu := Try.underlying41
  have hu2 := Try.underlying38
  have HA := Aside0.mk ha
  have HB := Aside0.mk hb
  have RA := Aside0.mk hRa
  have RB := Aside0.mk hRb
  have LA := right_len hRa
  have LB := right_len hRb
  clear ha hb hRa hRb
  go_enter Try.func10, Try.ntmps10
  go_wp2
  go_loopg [5, 6] a.length (fun kq v5 v6 wr => ∃ i : Nat, v6 = .int .i64 i ∧ i ≤ a.length ∧ a.length - i ≤ kq ∧ Aside0 (Kd.R k34 34 wr w.heap.size (fun _ => True) v5 (((a.take i).flatMap (firstCh a b)).map rc)) ∧ Aside0 (Below w.heap.size w wr))
  case atStart => exact ⟨0, rfl, by omega, by omega, ⟨Kd.R_nil _ _ _ _ _⟩, ⟨Below.refl _ _⟩⟩
  case round =>
    obtain ⟨i, rfl, hi, hg4, HO, HW⟩ := hrel
    by_cases hlt : i < a.length
    · have hlt' : (i : Int) < a.length := by omega
      obtain ⟨ad, A1, c1, e, y0, y1, hl1, hC1⟩ := at_T41 HA.out i (by omega) hlt'
      cases e
      simp only [Int.toNat_natCast] at y0 y1
      have HT := Aside0.mk (Sch.take_rdM a i hlt)
      have FM := Aside0.mk (right_fit RA.out _ (rdM_mem a i hlt))
      have UM := Aside0.mk (right_uniq RA.out _ (rdM_mem a i hlt))
      obtain ⟨m, hm⟩ : ∃ m, m = rd_T41 a i := ⟨_, rfl⟩
      rw [← hm] at y0 y1 HT FM UM hC1
      clear hm
      have HC1 := Aside0.mk hC1
      have HL := Aside0.mk (rcs_len RA.out RB.out i)
      have Y0 := Aside0.mk y0
      have Y1 := Aside0.mk y1
      clear hl1 hC1
      replace y0 := pw_cell_below HW.out y0
      replace y1 := pw_cell_below HW.out y1
      cases hf : findM b m.f0 with
      | none =>
        as_aux_lemma =>
          have HF := Aside0.mk hf
          go_upto_region 7 with (go_at_call 16; refine (named_r B cb b m.f0 none hf (-1) rfl _ (Kd.C_below HB.out HW.out)).mono ?_; rintro e w3 ⟨rfl, hb3⟩)
          have HO3 := Aside0.mk (Kd.R_below HO.out hb3)
          have HW3 := Aside0.mk (HW.out.trans (hb3.mono HW.out.size))
          replace y0 := pw_cell_below HW3.out Y0.out
          clear hb3 y1 hf
          go_wp2_with (at_builtin; (refine Kd.R_append k34 (w0 := w) (W := w3) w.heap.size rfl (.tmp 32) (.tmp 39) 31 34 _ 40 rfl Try.underlying31 info34 rfl (by decide) (by decide) _ (((a.take i).flatMap (firstCh a b)).map rc) ⟨1, m.f0, 0, true⟩ [.int .i64 1, .string m.f0, .int .i64 0, .bool true] (fun _ => True) (fun _ => False) rfl (by first | rfl | (go_simp; done) | (go_simp; rfl)) (k34_mkM _ _ _ _) (fun _ h => h.elim) (fun _ _ => trivial) HO3.out HW3.out HW3.out.size (by have := HL.out; omega) ?_); intro v1 w4 ho1 hb1 hg1 ha1)
          go_roundg (a.length - (i + 1))
          case measure => omega
          case rel =>
            refine ⟨i + 1, by go_num, by omega, by omega, ⟨?_⟩, ⟨hb1⟩⟩
            rw [HT.out, List.flatMap_append, List.flatMap_singleton, show firstCh a b m = [⟨⟨1, m.f0, 0⟩, z38, z38⟩] from by unfold firstCh; rw [HF.out], List.map_append]
            exact ho1
      | some j =>
        have HF := Aside0.mk hf
        have hjl := findM_lt hf
        have hjl' : (j : Int) < b.length := by omega
        obtain ⟨adb, Aj, cj, e, z0, z1, hl2, hCj⟩ := at_T41 HB.out j (by omega) hjl'
        cases e
        simp only [Int.toNat_natCast] at z0 z1
        have HN := Aside0.mk (show firstCh a b m = fieldsCh a b m (rd_T41 b j) from by unfold firstCh; rw [HF.out]; show fieldsCh a b m _ = _; rw [rdM_eq b j hjl]; congr 1; simp [hjl])
        have FN := Aside0.mk (right_fit RB.out _ (rdM_mem b j hjl))
        have UN := Aside0.mk (right_uniq RB.out _ (rdM_mem b j hjl))
        obtain ⟨n, hn⟩ : ∃ n, n = rd_T41 b j := ⟨_, rfl⟩
        rw [← hn] at z0 z1 HN FN UN hCj
        clear hn hl2
        have HCj := Aside0.mk hCj
        have Z0 := Aside0.mk z0
        have Z1 := Aside0.mk z1
        clear hCj z0 z1
        go_upto_region 8 with (go_at_call 16; refine (named_r (some adb) cb b m.f0 (some j) hf j rfl _ (Kd.C_below HB.out HW.out)).mono ?_; rintro e w3 ⟨rfl, hb3⟩)
        have HO3 := Aside0.mk (Kd.R_below HO.out hb3)
        have HW3 := Aside0.mk (HW.out.trans (hb3.mono HW.out.size))
        clear hb3 y0 y1 hf HO HW
        obtain ⟨fs, hfs⟩ : ∃ x, x = m.f1 ++ n.f1 := ⟨_, rfl⟩
        have HFS := Aside0.mk hfs
        have hnl : fs.length ≤ 400 := by have := FM.out.1; have := FN.out.1; rw [hfs, List.length_append]; omega
        clear hfs
        go_cut [8] (fun v8 wc => ∃ g8 Aall call, v8 = .pointer (some ⟨g8, 0, none⟩) ∧ Aside0 (wc.heap[g8]? = some (.cells #[.string ⟨#[]⟩, .slice Aall fs.length call] 41 (0, 0))) ∧ Aside0 (Kd.R k38 38 wc w3.heap.size (fun _ => True) (.slice Aall fs.length call) fs) ∧ Aside0 (Below w3.heap.size w3 wc))
        case first =>
          as_aux_lemma =>
            have HB3d := Aside0.mk (show Below w.heap.size w w3.drew from HW3.out.drew)
            have u0 := pw_cell_below HB3d.out Y1.out
            have u1 := pw_cell_below HB3d.out Z1.out
            have U0 := Aside0.mk (pw_cell_below HW3.out Y1.out)
            have U1 := Aside0.mk (pw_cell_below HW3.out Z1.out)
            have HC3 := Aside0.mk (Kd.C_below HC1.out HW3.out)
            have HD3 := Aside0.mk (Kd.C_below HCj.out HW3.out)
            have lm := FM.out.1
            have ln := FN.out.1
            have v0 := U0.out
            have v1 := U1.out
            have hbl0 := World.block_lt_of_cell? w3 _ U0.out
            have hbl1 := World.block_lt_of_cell? w3 _ U1.out
            have hs3 := sz2 w3
            clear Y0 Y1 Z0
            go_region_held3 (fun W => Aside0 (Below w3.heap.size w3 W) ∧ W.cell? ⟨(ad.add (i * 2)).block, (ad.add (i * 2)).off + 1, none⟩ = some (.slice A1 m.f1.length c1) ∧ W.cell? ⟨(adb.add (j * 2)).block, (adb.add (j * 2)).off + 1, none⟩ = some (.slice Aj n.f1.length cj))
              ((refine keep2 U0.out U1.out ?_; (repeat (first | exact Aside0.out (by assumption) | exact Below.refl _ _ | refine Below.drew ?_ | refine below_alloc' ?_ _ | refine Below.setCell ?_ ?_ _)); all_goals (first | exact Nat.le_refl _ | exact Nat.le_succ _ | exact B1.out.size | exact B2.out.size | (simp; done) | (simp; omega) | omega)))
              (first
                | (refine Kd.R_append_rows_step k38 (w0 := w3) w3.heap.size rfl (.tmp 41) (.tmp 46) 39 38 _ 48 rfl Try.underlying39 info38 rfl (by decide) (by decide) _ [] m.f1 A1 m.f1.length c1 (fun _ => True) (fun _ => False) rfl rfl ?_ ?_ (k38_KM _ _ _) (fun _ h => h.elim) (fun _ _ => trivial) ?_ ?_ (by simp; omega) ?_; (· refine made0G (by first | exact alloc_at _ _ | exact alloc_old (alloc_at _ _) _ | exact zc2 w3 _) ?_; first | exact Nat.le_refl _ | (simp; done) | (simp; omega)); (· refine Kd.C_below HC3.out ?_; (repeat (first | exact Aside0.out (by assumption) | exact Below.refl _ _ | refine Below.drew ?_ | refine below_alloc' ?_ _ | refine Below.setCell ?_ ?_ _)); all_goals (first | exact Nat.le_refl _ | exact Nat.le_succ _ | exact B1.out.size | exact B2.out.size | (simp; done) | (simp; omega) | omega)); (· (repeat (first | exact Aside0.out (by assumption) | exact Below.refl _ _ | refine Below.drew ?_ | refine below_alloc' ?_ _ | refine Below.setCell ?_ ?_ _)); all_goals (first | exact Nat.le_refl _ | exact Nat.le_succ _ | exact B1.out.size | exact B2.out.size | (simp; done) | (simp; omega) | omega)); (· refine Below.size (B := w3.heap.size) (w := w3) ?_; (repeat (first | exact Aside0.out (by assumption) | exact Below.refl _ _ | refine Below.drew ?_ | refine below_alloc' ?_ _ | refine Below.setCell ?_ ?_ _)); all_goals (first | exact Nat.le_refl _ | exact Nat.le_succ _ | exact B1.out.size | exact B2.out.size | (simp; done) | (simp; omega) | omega)); intro v1 w1 ho1 hb1 hg1 ha1; have O1 := Aside0.mk ho1; have B1 := Aside0.mk hb1; (first | (have hx1 := heap_grownR hg1 (zat1 w3 _) (ne1 _)) | (have hx1 := heap_grownR hg1 (zat2 w3 _) (ne2 _)) | skip); clear ho1 hb1 hg1 ha1)
                | (refine Kd.R_append_rows_step k38 (w0 := w3) w3.heap.size rfl (.tmp 47) (.tmp 52) 39 38 _ 48 rfl Try.underlying39 info38 rfl (by decide) (by decide) _ ([] ++ m.f1) n.f1 Aj n.f1.length cj (fun _ => True) (fun _ => False) rfl rfl ?_ ?_ (k38_KM _ _ _) (fun _ h => h.elim) (fun _ _ => trivial) ?_ ?_ (by simp; omega) ?_; (· first | exact O1.out | exact Kd.R_alloc O1.out _); (· refine Kd.C_below HD3.out ?_; (repeat (first | exact Aside0.out (by assumption) | exact Below.refl _ _ | refine Below.drew ?_ | refine below_alloc' ?_ _ | refine Below.setCell ?_ ?_ _)); all_goals (first | exact Nat.le_refl _ | exact Nat.le_succ _ | exact B1.out.size | exact B2.out.size | (simp; done) | (simp; omega) | omega)); (· (repeat (first | exact Aside0.out (by assumption) | exact Below.refl _ _ | refine Below.drew ?_ | refine below_alloc' ?_ _ | refine Below.setCell ?_ ?_ _)); all_goals (first | exact Nat.le_refl _ | exact Nat.le_succ _ | exact B1.out.size | exact B2.out.size | (simp; done) | (simp; omega) | omega)); (· refine Below.size (B := w3.heap.size) (w := w3) ?_; (repeat (first | exact Aside0.out (by assumption) | exact Below.refl _ _ | refine Below.drew ?_ | refine below_alloc' ?_ _ | refine Below.setCell ?_ ?_ _)); all_goals (first | exact Nat.le_refl _ | exact Nat.le_succ _ | exact B1.out.size | exact B2.out.size | (simp; done) | (simp; omega) | omega)); intro v2 w2 ho2 hb2 hg2 ha2; (rw [List.nil_append, ← HFS.out] at ho2); obtain ⟨A2, c2, rfl, hl2, hC2⟩ := Kd.R_reads ho2; clear hl2 hC2; have O2 := Aside0.mk ho2; have B2 := Aside0.mk hb2; (first | (have hx2 := heap_grownR hg2 hx1 (Kd.R_ne O1.out hx1 (by decide))) | (have hx2 := heap_grownR hg2 (alloc_at w1 (.cells #[.string ⟨#[]⟩, .slice none 0 0] 41)) (Kd.R_ne (Kd.R_alloc O1.out _) (alloc_at w1 (.cells #[.string ⟨#[]⟩, .slice none 0 0] 41)) (by decide))) | skip); (first | (have hcz0 := cellOf hx2 0; have hcz1 := cellOf hx2 1; simp only [List.getElem?_toArray, List.getElem?_cons_zero, List.getElem?_cons_succ] at hcz0 hcz1; have hfz0 := frozenOf hx2 0; have hfz1 := frozenOf hx2 1) | skip); clear ho2 hb2 hg2 ha2))
            all_goals
              go_wp2_with fail
              go_meet
              case rel => first
                | exact ⟨_, _, _, rfl, ⟨alloc_at _ _⟩, ⟨Kd.R_alloc O2.out _⟩, ⟨below_alloc' B2.out _⟩⟩
                | exact ⟨_, _, _, rfl, ⟨blk_put (blk_put hx2 0 _ rfl) 1 _ rfl⟩, ⟨Kd.R_set (Kd.R_set O2.out hx2 (by decide) 0 _) (blk_put hx2 0 _ rfl) (by decide) 1 _⟩, ⟨by (repeat (first | exact Aside0.out (by assumption) | exact Below.refl _ _ | refine Below.drew ?_ | refine below_alloc' ?_ _ | refine Below.setCell ?_ ?_ _)); all_goals (first | exact Nat.le_refl _ | exact Nat.le_succ _ | exact B1.out.size | exact B2.out.size | (simp; done) | (simp; omega) | omega)⟩⟩
        case rest =>
          obtain ⟨g8, Aall, call, rfl, HX8, HAL, HBc⟩ := hcut
          obtain ⟨wa, rfl⟩ : ∃ x : World, x = wc := ⟨_, rfl⟩
          have x0 := cellOf HX8.out 0
          have x1 := cellOf HX8.out 1
          simp only [List.getElem?_toArray, List.getElem?_cons_zero, List.getElem?_cons_succ] at x0 x1
          have HX8' := HX8
          have HAL' := HAL
          go_wp2_with (go_at_call 17; (refine (rsorted_calls ⟨⟨#[]⟩, fs⟩ Aall call _ (Kd.R_reads' HAL.out).2.2 (by simp only; omega)).mono ?_); rintro e w5 ⟨v9, order, rfl, ho9, hs9, hb9⟩; obtain ⟨A9, c9, rfl, hl9, hC9⟩ := Kd.R_reads ho9)
          have HS9 := Aside0.mk hs9
          have HO5 := Aside0.mk (Kd.R_below (Kd.R_below HO3.out HBc.out) hb9)
          have HC5 := Aside0.mk (show RCtx w w3 wa g8 Aall call fs A9 c9 order w5 from ⟨heap_below hb9 (Nat.le_refl _) HX8.out, Kd.R_below HAL.out hb9, ho9, (HW3.out.trans (HBc.out.mono HW3.out.size)).trans (hb9.mono (HW3.out.trans (HBc.out.mono HW3.out.size)).size)⟩)
          have hol : order.length ≤ 400 := by rw [hs9.len]; exact hnl
          clear x0 x1 hs9 ho9 hb9 hl9 hC9 HX8 HAL HBc HX8' HAL' HO3 HW3
          go_loopg [5, 10] order.length (fun kq v5 v10 wr => ∃ t : Nat, v10 = .int .i64 t ∧ t ≤ order.length ∧ order.length - t ≤ kq ∧ Aside0 (Kd.R k34 34 wr w.heap.size (fun _ => True) v5 (accR a b m n i fs order t)) ∧ Aside0 (RCtx w w3 wa g8 Aall call fs A9 c9 order wr))
          case atStart => exact ⟨0, rfl, by omega, by omega, ⟨by rw [accR_zero]; exact HO5.out⟩, HC5⟩
          case round =>
            obtain ⟨t, rfl, ht, hg6, HO, HC⟩ := hrel
            by_cases hlk : t < order.length
            · skip
              as_aux_lemma =>
                have hlk' : (t : Int) < order.length := by omega
                have hob := HS9.out.bound (x := order.getD t 0) (by simp [hlk])
                have hol9 := Aside0.mk HS9.out.len
                obtain ⟨ad9, e9, z9⟩ := int_at (Kd.R_reads' HC.out.2.2.1).2.2 t hlk
                cases e9
                have ho0 := hob.1
                have ho1 : order.getD t 0 < fs.length := hob.2
                obtain ⟨ad8, e8, q0, q1, q2, q3, q4, q5⟩ := at_T38 (Kd.R_reads' HC.out.2.1).2.2 (order.getD t 0) ho0 ho1
                cases e8
                have HNA := Aside0.mk (show numAt fs (order.getD t 0) = (rd_T38 fs (order.getD t 0)).f1 from rfl)
                clear q0 q2 q3 q4 q5 hob
                have p8 := cellOf HC.out.1 1
                simp only [List.getElem?_toArray, List.getElem?_cons_zero, List.getElem?_cons_succ] at p8
                have Q1 := Aside0.mk q1
                clear q1
                obtain ⟨num, hnum⟩ : ∃ x, x = (rd_T38 fs (order.getD t 0)).f1 := ⟨_, rfl⟩
                have q1 := Q1.out
                rw [← hnum] at q1 HNA
                have HNUM := Aside0.mk hnum
                clear hnum
                generalize hoo : order.getD t 0 = o at q1 ho0 ho1 z9
                have HOO := Aside0.mk hoo
                clear hoo
                have hg8 := heap_lt HC.out.1
                go_wp2
                go_quiet (fail)
                have HOq := Aside0.mk (Kd.R_drewN HO.out nq)
                have HCq := Aside0.mk (HC.out.drewN nq)
                obtain ⟨wq, hwq⟩ : ∃ x : World, x = (wr.drewN nq) := ⟨_, rfl⟩
                rw [← hwq] at HOq HCq
                rw [← hwq]
                clear hwq HO HC p8 q1 z9
                obtain ⟨sk, hsk⟩ : ∃ b : Bool, b = (decide (0 < t) && (numAt fs (order.getD (t - 1) 0) == num)) := ⟨_, rfl⟩
                have HSK := Aside0.mk hsk
                clear hsk
                go_upto_region 14 with (fail)
                go_cut [87] (fun v87 w4 => v87 = .bool sk ∧ Aside0 (Kd.R k34 34 w4 w.heap.size (fun _ => True) u5 (accR a b m n i fs order t)) ∧ Aside0 (RCtx w w3 wa g8 (some ad8) call fs (some ad9) c9 order w4))
                case first =>
                  as_aux_lemma =>
                    have p8 := cellOf HCq.out.1 1
                    simp only [List.getElem?_toArray, List.getElem?_cons_zero, List.getElem?_cons_succ] at p8
                    by_cases ht0 : 0 < t
                    · have h0' : (0 : Int) ≤ (t : Int) - 1 := by omega
                      have h1' : (t : Int) - 1 < order.length := by omega
                      have htn : ((t : Int) - 1).toNat = t - 1 := by omega
                      have hd0 : decide ((0 : Int) < (t : Int)) = true := by simpa using ht0
                      have hd1 : decide (0 < t) = true := by simpa using ht0
                      obtain ⟨adx, ex, z9⟩ := int_atI (Kd.R_reads' HCq.out.2.2.1).2.2 ((t : Int) - 1) h0' h1'
                      cases ex
                      have hob := HS9.out.bound (x := order.getD (t - 1) 0) (by have hq : t - 1 < order.length := (by omega); simp [hq])
                      rw [htn] at z9
                      have ho0p := hob.1
                      have ho1p : order.getD (t - 1) 0 < fs.length := hob.2
                      obtain ⟨ad8x, e8, q0, q1, q2, q3, q4, q5⟩ := at_T38 (Kd.R_reads' HCq.out.2.1).2.2 (order.getD (t - 1) 0) ho0p ho1p
                      cases e8
                      clear q0 q2 q3 q4 q5 hob
                      have HSK2 := Aside0.mk (show sk = ((rd_T38 fs (order.getD (t - 1) 0)).f1 == num) from by rw [HSK.out, hd1, Bool.true_and]; rfl)
                      obtain ⟨nump, hnump⟩ : ∃ x, x = (rd_T38 fs (order.getD (t - 1) 0)).f1 := ⟨_, rfl⟩
                      rw [← hnump] at q1 HSK2
                      clear hnump
                      generalize order.getD (t - 1) 0 = op at q1 z9 ho0p ho1p
                      go_wp2_with fail
                      go_quiet (fail)
                      go_wp2_with fail
                      go_meet
                      case rel => exact ⟨by rw [HSK2.out], ⟨Kd.R_drewN HOq.out _⟩, ⟨HCq.out.drewN _⟩⟩
                    · have hd0 : decide ((0 : Int) < (t : Int)) = false := by simpa using ht0
                      have hd1 : decide (0 < t) = false := by simpa using ht0
                      have HSK2 := Aside0.mk (show sk = false from by rw [HSK.out, hd1, Bool.false_and])
                      go_wp2_with fail
                      go_quiet (fail)
                      go_wp2_with fail
                      go_meet
                      case rel => exact ⟨by rw [HSK2.out], ⟨Kd.R_drewN HOq.out _⟩, ⟨HCq.out.drewN _⟩⟩
                case rest =>
                  obtain ⟨rfl, HO, HC⟩ := hcut
                  obtain ⟨w4, rfl⟩ : ∃ x : World, x = wc := ⟨_, rfl⟩
                  cases hks : sk with
                  | true =>
                    go_wp2
                    go_roundg (order.length - (t + 1))
                    case measure => omega
                    case rel =>
                      refine ⟨t + 1, by go_num, by omega, by omega, ⟨?_⟩, HC⟩
                      have h1 := HSK.out
                      rw [hks] at h1
                      have h2 := Bool.and_eq_true_iff.1 h1.symm
                      rw [accR_same (adj_same hlk (of_decide_eq_true h2.1) (by rw [eq_of_beq h2.2, HNA.out]))]
                      exact HO.out
                  | false =>
                    have HAD := Aside0.mk (show adj ((order.take (t + 1)).map (numAt fs)) = adj ((order.take t).map (numAt fs)) ++ [num] from by
                      rw [← HNA.out]
                      refine adj_first hlk ?_
                      have h1 := HSK.out
                      rw [hks] at h1
                      by_cases h0 : t = 0
                      · exact .inl h0
                      · refine .inr fun h2 => ?_
                        rw [h2, HNA.out, show decide (0 < t) = true from by simpa using (by omega : 0 < t)] at h1
                        simp at h1)
                    clear HSK HNA hks HOq HCq
                    clear HOO HNUM
                    have HO0 := HO
                    go_upto_region 15 with (fail)
                    go_cut [12, 13] (fun v12 v13 wc => v12 = .int .i64 (idxI (fieldIx m.f1 num)) ∧ v13 = .int .i64 (idxI (fieldIx n.f1 num)) ∧ Aside0 (Below w4.heap.size w4 wc))
                    case first =>
                      as_aux_lemma =>
                        have HB4 := Aside0.mk HC.out.2.2.2
                        have HB4d := Aside0.mk (show Below w.heap.size w w4.drew from HC.out.2.2.2.drew)
                        have u0 := pw_cell_below HB4d.out Y0.out
                        have u1 := pw_cell_below HB4d.out Y1.out
                        have z0 := pw_cell_below HB4d.out Z0.out
                        have z1 := pw_cell_below HB4d.out Z1.out
                        have HBW : Aside0 (Below w4.heap.size w4 w4.drew) := ⟨(Below.refl _ _).drew⟩
                        clear HB4d
                        go_region_held3 (fun W => Aside0 (Below w4.heap.size w4 W) ∧ W.cell? (ad.add (i * 2)) = some (.string m.f0) ∧ W.cell? ⟨(ad.add (i * 2)).block, (ad.add (i * 2)).off + 1, none⟩ = some (.slice A1 m.f1.length c1) ∧ W.cell? (adb.add (j * 2)) = some (.string n.f0) ∧ W.cell? ⟨(adb.add (j * 2)).block, (adb.add (j * 2)).off + 1, none⟩ = some (.slice Aj n.f1.length cj))
                          (first | ((repeat' apply And.intro) <;> (first | assumption | (go_keep; done))))
                          (first
                            | (go_at_call 18; (with_reducible refine Calls.mono (rfield_calls m A1 c1 num _ ?_) ?_); (· exact Kd.C_below HC1.out (HB4.out.trans (Below.mono (Aside0.out (by assumption)) HB4.out.size))); rintro e w5 ⟨rfl, hb5⟩; have qu0 := pw_cell_below hb5 (a := ad.add (i * 2)) (v := .string m.f0) (by assumption); have qu1 := pw_cell_below hb5 (a := ⟨(ad.add (i * 2)).block, (ad.add (i * 2)).off + 1, none⟩) (v := .slice A1 m.f1.length c1) (by assumption); have qz0 := pw_cell_below hb5 (a := adb.add (j * 2)) (v := .string n.f0) (by assumption); have qz1 := pw_cell_below hb5 (a := ⟨(adb.add (j * 2)).block, (adb.add (j * 2)).off + 1, none⟩) (v := .slice Aj n.f1.length cj) (by assumption); have qb : Aside0 (Below w4.heap.size w4 w5) := ⟨Below.trans (Aside0.out (by assumption)) (Below.mono hb5 (Aside0.out (p := Below w4.heap.size w4 _) (by assumption)).size)⟩; clear hb5)
                            | (go_at_call 18; (with_reducible refine Calls.mono (rfield_calls n Aj cj num _ ?_) ?_); (· exact Kd.C_below HCj.out (HB4.out.trans (Below.mono (Aside0.out (by assumption)) HB4.out.size))); rintro e w5 ⟨rfl, hb5⟩; have qu0 := pw_cell_below hb5 (a := ad.add (i * 2)) (v := .string m.f0) (by assumption); have qu1 := pw_cell_below hb5 (a := ⟨(ad.add (i * 2)).block, (ad.add (i * 2)).off + 1, none⟩) (v := .slice A1 m.f1.length c1) (by assumption); have qz0 := pw_cell_below hb5 (a := adb.add (j * 2)) (v := .string n.f0) (by assumption); have qz1 := pw_cell_below hb5 (a := ⟨(adb.add (j * 2)).block, (adb.add (j * 2)).off + 1, none⟩) (v := .slice Aj n.f1.length cj) (by assumption); have qb : Aside0 (Below w4.heap.size w4 w5) := ⟨Below.trans (Aside0.out (by assumption)) (Below.mono hb5 (Aside0.out (p := Below w4.heap.size w4 _) (by assumption)).size)⟩; clear hb5))
                        all_goals
                          go_wp2_with fail
                          go_meet
                          case rel => exact ⟨rfl, rfl, by assumption⟩
                    case rest =>
                      obtain ⟨e12, e13, HB15⟩ := hcut
                      obtain ⟨w5, rfl⟩ : ∃ x : World, x = wc := ⟨_, rfl⟩
                      have HO5 := Aside0.mk (Kd.R_below HO.out HB15.out)
                      have HC5 := Aside0.mk (HC.out.below HB15.out)
                      clear HO HO0 HC HB15
                      have HLN := Aside0.mk (accR_len (m := m) (n := n) (fs := fs) (order := order) (t := t) HL.out (by omega))
                      have y0 := pw_cell_below HC5.out.2.2.2 Y0.out
                      cases hY : fieldIx n.f1 num with
                      | none =>
                        have HY := Aside0.mk hY
                        rw [hY] at e13
                        replace e13 : u13 = .int .i64 (-1) := e13
                        subst e12 e13
                        clear hY
                        as_aux_lemma =>
                          go_wp2_with (at_builtin; (refine Kd.R_append k34 (w0 := w) (W := w5) w.heap.size rfl (.tmp 102) (.tmp 110) 31 34 _ 40 rfl Try.underlying31 info34 rfl (by decide) (by decide) _ (accR a b m n i fs order t) ⟨3, m.f0, num, false⟩ [.int .i64 3, .string m.f0, .int .i64 num, .bool false] (fun _ => True) (fun _ => False) rfl (by first | rfl | (go_simp; done) | (go_simp; rfl)) (k34_mkM _ _ _ _) (fun _ h => h.elim) (fun _ _ => trivial) HO5.out HC5.out.2.2.2 HC5.out.2.2.2.size (by have := HLN.out; omega) ?_); intro v1 w9 ho1 hb1 hg1 ha1)
                          go_roundg (order.length - (t + 1))
                          case measure => omega
                          case rel =>
                            refine ⟨t + 1, by go_num, by omega, by omega, ⟨?_⟩, ⟨HC5.out.grown HO5.out hg1 hb1⟩⟩
                            rw [accR_step HAD.out, one_less UN.out HY.out]
                            exact ho1
                      | some y =>
                        have HY := Aside0.mk hY
                        have hyl := fieldIx_lt hY
                        rw [hY] at e13
                        replace e13 : u13 = .int .i64 y := e13
                        have hyn : ¬ ((y : Int) < 0) := by omega
                        cases hX : fieldIx m.f1 num with
                        | none =>
                          have HX := Aside0.mk hX
                          rw [hX] at e12
                          replace e12 : u12 = .int .i64 (-1) := e12
                          subst e12 e13
                          clear hY hX
                          as_aux_lemma =>
                            go_wp2_with (at_builtin; (refine Kd.R_append k34 (w0 := w) (W := w5) w.heap.size rfl (.tmp 114) (.tmp 122) 31 34 _ 40 rfl Try.underlying31 info34 rfl (by decide) (by decide) _ (accR a b m n i fs order t) ⟨4, m.f0, num, false⟩ [.int .i64 4, .string m.f0, .int .i64 num, .bool false] (fun _ => True) (fun _ => False) rfl (by first | rfl | (go_simp; done) | (go_simp; rfl)) (k34_mkM _ _ _ _) (fun _ h => h.elim) (fun _ _ => trivial) HO5.out HC5.out.2.2.2 HC5.out.2.2.2.size (by have := HLN.out; omega) ?_); intro v1 w9 ho1 hb1 hg1 ha1)
                            go_roundg (order.length - (t + 1))
                            case measure => omega
                            case rel =>
                              refine ⟨t + 1, by go_num, by omega, by omega, ⟨?_⟩, ⟨HC5.out.grown HO5.out hg1 hb1⟩⟩
                              rw [accR_step HAD.out, one_more UM.out UN.out HX.out HY.out]
                              exact ho1
                        | some x =>
                          have HX := Aside0.mk hX
                          have hxl := fieldIx_lt hX
                          rw [hX] at e12
                          replace e12 : u12 = .int .i64 x := e12
                          have hxn : ¬ ((x : Int) < 0) := by omega
                          subst e12 e13
                          clear hY hX
                          have hxl' : (x : Int) < m.f1.length := by omega
                          have hyl' : (y : Int) < n.f1.length := by omega
                          obtain ⟨adf, e, f0, f1, f2, f3, f4, f5⟩ := at_T38 HC1.out x (by omega) hxl'
                          cases e
                          obtain ⟨adg, e, g0, g1, g2, g3, g4, g5⟩ := at_T38 HCj.out y (by omega) hyl'
                          cases e
                          simp only [Int.toNat_natCast] at f0 f1 f2 f3 f4 f5 g0 g1 g2 g3 g4 g5
                          have HFO := Aside0.mk (show OfOk a (rd_T38 m.f1 x) from by rw [rdF_eq m.f1 x hxl]; exact (FM.out.2 _ (List.getElem_mem hxl)).2)
                          have HGO := Aside0.mk (show OfOk b (rd_T38 n.f1 y) from by rw [rdF_eq n.f1 y hyl]; exact (FN.out.2 _ (List.getElem_mem hyl)).2)
                          have HONE := Aside0.mk (fun f g hf hg => one_both (a := a) (b := b) UM.out UN.out HX.out HY.out (f := f) (g := g) hf hg)
                          obtain ⟨f, hf⟩ : ∃ x', x' = rd_T38 m.f1 x := ⟨_, rfl⟩
                          obtain ⟨g, hg⟩ : ∃ x', x' = rd_T38 n.f1 y := ⟨_, rfl⟩
                          rw [← hf] at f0 f1 f2 f3 f4 f5 HFO
                          rw [← hg] at g0 g1 g2 g3 g4 g5 HGO
                          have HON := Aside0.mk (HONE.out f g hf.symm hg.symm)
                          clear hf hg HONE HX HY
                          go_upto_region 20 with (fail)
                          go_cut [14, 15] (fun v14 v15 wc => ∃ g14 g15, v14 = .pointer (some ⟨g14, 0, none⟩) ∧ v15 = .pointer (some ⟨g15, 0, none⟩) ∧ Aside0 (wc.heap[g14]? = some (.cells #[.string f.f0, .int .i64 f.f1, .int .i64 f.f2, .bool f.f3, .bool f.f4, .int .i64 f.f5] 38 (0, 0))) ∧ Aside0 (wc.heap[g15]? = some (.cells #[.string g.f0, .int .i64 g.f1, .int .i64 g.f2, .bool g.f3, .bool g.f4, .int .i64 g.f5] 38 (0, 0))) ∧ Aside0 (Below w5.heap.size w5 wc))
                          case first =>
                            as_aux_lemma =>
                              have HKP : Aside0 (∀ W, Below w5.heap.size w5 W → Aside0 (Below w5.heap.size w5 W) ∧ W.cell? ⟨(ad.add (i * 2)).block, (ad.add (i * 2)).off + 1, none⟩ = some (.slice (some adf) m.f1.length c1) ∧ W.cell? ⟨(adb.add (j * 2)).block, (adb.add (j * 2)).off + 1, none⟩ = some (.slice (some adg) n.f1.length cj) ∧ W.cell? (adf.add (x * 6)) = some (.string f.f0) ∧ W.cell? ⟨(adf.add (x * 6)).block, (adf.add (x * 6)).off + 1, none⟩ = some (.int .i64 f.f1) ∧ W.cell? ⟨(adf.add (x * 6)).block, (adf.add (x * 6)).off + 2, none⟩ = some (.int .i64 f.f2) ∧ W.cell? ⟨(adf.add (x * 6)).block, (adf.add (x * 6)).off + 3, none⟩ = some (.bool f.f3) ∧ W.cell? ⟨(adf.add (x * 6)).block, (adf.add (x * 6)).off + 4, none⟩ = some (.bool f.f4) ∧ W.cell? ⟨(adf.add (x * 6)).block, (adf.add (x * 6)).off + 5, none⟩ = some (.int .i64 f.f5) ∧ W.cell? (adg.add (y * 6)) = some (.string g.f0) ∧ W.cell? ⟨(adg.add (y * 6)).block, (adg.add (y * 6)).off + 1, none⟩ = some (.int .i64 g.f1) ∧ W.cell? ⟨(adg.add (y * 6)).block, (adg.add (y * 6)).off + 2, none⟩ = some (.int .i64 g.f2) ∧ W.cell? ⟨(adg.add (y * 6)).block, (adg.add (y * 6)).off + 3, none⟩ = some (.bool g.f3) ∧ W.cell? ⟨(adg.add (y * 6)).block, (adg.add (y * 6)).off + 4, none⟩ = some (.bool g.f4) ∧ W.cell? ⟨(adg.add (y * 6)).block, (adg.add (y * 6)).off + 5, none⟩ = some (.int .i64 g.f5)) := ⟨fun W h => ⟨⟨h⟩, pw_cell_below h (pw_cell_below HC5.out.2.2.2 Y1.out), pw_cell_below h (pw_cell_below HC5.out.2.2.2 Z1.out), pw_cell_below h (pw_cell_below HC5.out.2.2.2 f0), pw_cell_below h (pw_cell_below HC5.out.2.2.2 f1), pw_cell_below h (pw_cell_below HC5.out.2.2.2 f2), pw_cell_below h (pw_cell_below HC5.out.2.2.2 f3), pw_cell_below h (pw_cell_below HC5.out.2.2.2 f4), pw_cell_below h (pw_cell_below HC5.out.2.2.2 f5), pw_cell_below h (pw_cell_below HC5.out.2.2.2 g0), pw_cell_below h (pw_cell_below HC5.out.2.2.2 g1), pw_cell_below h (pw_cell_below HC5.out.2.2.2 g2), pw_cell_below h (pw_cell_below HC5.out.2.2.2 g3), pw_cell_below h (pw_cell_below HC5.out.2.2.2 g4), pw_cell_below h (pw_cell_below HC5.out.2.2.2 g5)⟩⟩
                              clear f0 f1 f2 f3 f4 f5 g0 g1 g2 g3 g4 g5 y0
                              go_region_held3 (fun W => Aside0 (Below w5.heap.size w5 W) ∧ W.cell? ⟨(ad.add (i * 2)).block, (ad.add (i * 2)).off + 1, none⟩ = some (.slice (some adf) m.f1.length c1) ∧ W.cell? ⟨(adb.add (j * 2)).block, (adb.add (j * 2)).off + 1, none⟩ = some (.slice (some adg) n.f1.length cj) ∧ W.cell? (adf.add (x * 6)) = some (.string f.f0) ∧ W.cell? ⟨(adf.add (x * 6)).block, (adf.add (x * 6)).off + 1, none⟩ = some (.int .i64 f.f1) ∧ W.cell? ⟨(adf.add (x * 6)).block, (adf.add (x * 6)).off + 2, none⟩ = some (.int .i64 f.f2) ∧ W.cell? ⟨(adf.add (x * 6)).block, (adf.add (x * 6)).off + 3, none⟩ = some (.bool f.f3) ∧ W.cell? ⟨(adf.add (x * 6)).block, (adf.add (x * 6)).off + 4, none⟩ = some (.bool f.f4) ∧ W.cell? ⟨(adf.add (x * 6)).block, (adf.add (x * 6)).off + 5, none⟩ = some (.int .i64 f.f5) ∧ W.cell? (adg.add (y * 6)) = some (.string g.f0) ∧ W.cell? ⟨(adg.add (y * 6)).block, (adg.add (y * 6)).off + 1, none⟩ = some (.int .i64 g.f1) ∧ W.cell? ⟨(adg.add (y * 6)).block, (adg.add (y * 6)).off + 2, none⟩ = some (.int .i64 g.f2) ∧ W.cell? ⟨(adg.add (y * 6)).block, (adg.add (y * 6)).off + 3, none⟩ = some (.bool g.f3) ∧ W.cell? ⟨(adg.add (y * 6)).block, (adg.add (y * 6)).off + 4, none⟩ = some (.bool g.f4) ∧ W.cell? ⟨(adg.add (y * 6)).block, (adg.add (y * 6)).off + 5, none⟩ = some (.int .i64 g.f5))
                                ((refine HKP.out _ ?_; (repeat (first | exact Aside0.out (by assumption) | exact Below.refl _ _ | refine Below.drew ?_ | refine below_alloc' ?_ _ | refine Below.setCell ?_ ?_ _)); all_goals (first | exact Nat.le_refl _ | exact Nat.le_succ _ | (simp; done) | (simp; omega) | omega)))
                                (fail)
                              all_goals
                                go_wp2_with fail
                                go_meet
                                case rel => first
                                  | exact ⟨_, _, rfl, rfl, ⟨(two_new _ _ _).1⟩, ⟨(two_new _ _ _).2.1⟩, ⟨(two_new _ _ _).2.2⟩⟩
                                  | exact ⟨_, _, rfl, rfl, ⟨(two_new _ _ _).2.1⟩, ⟨(two_new _ _ _).1⟩, ⟨(two_new _ _ _).2.2⟩⟩
                          case rest =>
                            obtain ⟨g14, g15, rfl, rfl, HF4, HG4, HB20⟩ := hcut
                            obtain ⟨w6, rfl⟩ : ∃ x : World, x = wc := ⟨_, rfl⟩
                            have HO6 := Aside0.mk (Kd.R_below HO5.out HB20.out)
                            have HC6 := Aside0.mk (HC5.out.below HB20.out)
                            clear HO5 HC5 HB20 f0 f1 f2 f3 f4 f5 g0 g1 g2 g3 g4 g5 y0 hxn hyn hxl hyl hxl' hyl'
                            have c0 := cellOf HF4.out 0
                            have d0 := cellOf HG4.out 0
                            simp only [List.getElem?_toArray, List.getElem?_cons_zero, List.getElem?_cons_succ] at c0 d0
                            go_upto_if 144 with (fail)
                            go_cut [5] (fun v5 wc => Aside0 (Kd.R k34 34 wc w.heap.size (fun _ => True) v5 (accR a b m n i fs order t ++ opt (!(f.f0.toList == g.f0.toList)) ⟨5, m.f0, num, false⟩)) ∧ Aside0 (RCtx w w3 wa g8 (some ad8) call fs (some ad9) c9 order wc) ∧ Aside0 (wc.heap[g14]? = some (.cells #[.string f.f0, .int .i64 f.f1, .int .i64 f.f2, .bool f.f3, .bool f.f4, .int .i64 f.f5] 38 (0, 0))) ∧ Aside0 (wc.heap[g15]? = some (.cells #[.string g.f0, .int .i64 g.f1, .int .i64 g.f2, .bool g.f3, .bool g.f4, .int .i64 g.f5] 38 (0, 0))))
                            case first =>
                              as_aux_lemma =>
                                have y0 := pw_cell_below HC6.out.2.2.2 Y0.out
                                cases hq : (f.f0.toList == g.f0.toList) with
                                | true =>
                                  go_wp2_with fail
                                  go_meet
                                  case rel => exact ⟨⟨by simp only [opt, hq, Bool.not_true, Bool.not_false, Bool.false_eq_true, if_false, List.append_nil]; exact HO6.out⟩, HC6, HF4, HG4⟩
                                | false =>
                                  go_wp2_with (at_builtin; (refine Kd.R_append k34 (w0 := w) (W := w6) w.heap.size rfl (.tmp 145) (.tmp 153) 31 34 _ 40 rfl Try.underlying31 info34 rfl (by decide) (by decide) _ (accR a b m n i fs order t) ⟨5, m.f0, num, false⟩ [.int .i64 5, .string m.f0, .int .i64 num, .bool false] (fun _ => True) (fun _ => False) rfl (by first | rfl | (go_simp; done) | (go_simp; rfl)) (k34_mkM _ _ _ _) (fun _ h => h.elim) (fun _ _ => trivial) HO6.out HC6.out.2.2.2 HC6.out.2.2.2.size (by have := HLN.out; have hX : (accR a b m n i fs order t).length ≤ 161610 := (by (try simp only [List.length_append]); omega); omega) ?_); intro v1 w9 ho1 hb1 hg1 ha1)
                                  go_meet
                                  case rel => exact ⟨⟨by rw [hq]; exact ho1⟩, ⟨HC6.out.grown HO6.out hg1 hb1⟩, ⟨heap_grownR hg1 HF4.out (Kd.R_ne HO6.out HF4.out (by decide))⟩, ⟨heap_grownR hg1 HG4.out (Kd.R_ne HO6.out HG4.out (by decide))⟩⟩
                            case rest =>
                              obtain ⟨HO7, HC7, HF7, HG7⟩ := hcut
                              obtain ⟨w7, rfl⟩ : ∃ x : World, x = wc := ⟨_, rfl⟩
                              clear HO6 HC6 HF4 HG4 c0 d0
                              go_upto_region 23 with (fail)
                              go_cut [168] (fun v168 wc => v168 = .bool (!(f.f2 == g.f2) || !((nmOf a f).toList == (nmOf b g).toList)) ∧ Aside0 (Below w7.heap.size w7 wc))
                              case first =>
                                as_aux_lemma =>
                                  have HKP : Aside0 (∀ W, Below w7.heap.size w7 W → Aside0 (Below w7.heap.size w7 W) ∧ W.cell? ⟨g14, 0, none⟩ = some (.string f.f0) ∧ W.cell? ⟨g14, 1, none⟩ = some (.int .i64 f.f1) ∧ W.cell? ⟨g14, 2, none⟩ = some (.int .i64 f.f2) ∧ W.cell? ⟨g14, 3, none⟩ = some (.bool f.f3) ∧ W.cell? ⟨g14, 4, none⟩ = some (.bool f.f4) ∧ W.cell? ⟨g14, 5, none⟩ = some (.int .i64 f.f5) ∧ W.cell? ⟨g15, 0, none⟩ = some (.string g.f0) ∧ W.cell? ⟨g15, 1, none⟩ = some (.int .i64 g.f1) ∧ W.cell? ⟨g15, 2, none⟩ = some (.int .i64 g.f2) ∧ W.cell? ⟨g15, 3, none⟩ = some (.bool g.f3) ∧ W.cell? ⟨g15, 4, none⟩ = some (.bool g.f4) ∧ W.cell? ⟨g15, 5, none⟩ = some (.int .i64 g.f5)) := ⟨fun W h => ⟨⟨h⟩, pw_cell_below h (cellOf HF7.out 0), pw_cell_below h (cellOf HF7.out 1), pw_cell_below h (cellOf HF7.out 2), pw_cell_below h (cellOf HF7.out 3), pw_cell_below h (cellOf HF7.out 4), pw_cell_below h (cellOf HF7.out 5), pw_cell_below h (cellOf HG7.out 0), pw_cell_below h (cellOf HG7.out 1), pw_cell_below h (cellOf HG7.out 2), pw_cell_below h (cellOf HG7.out 3), pw_cell_below h (cellOf HG7.out 4), pw_cell_below h (cellOf HG7.out 5)⟩⟩
                                  cases hk : (f.f2 == g.f2) with
                                  | true =>
                                    have hk2 : (f.f2 != g.f2) = false := by rw [bne, hk]; rfl
                                    have HBW : Aside0 (Below w7.heap.size w7 w7.drew) := ⟨(Below.refl _ _).drew⟩
                                    have HK := Aside0.mk hk
                                    clear hk
                                    go_region_held3 (fun W => Aside0 (Below w7.heap.size w7 W) ∧ W.cell? ⟨g14, 0, none⟩ = some (.string f.f0) ∧ W.cell? ⟨g14, 1, none⟩ = some (.int .i64 f.f1) ∧ W.cell? ⟨g14, 2, none⟩ = some (.int .i64 f.f2) ∧ W.cell? ⟨g14, 3, none⟩ = some (.bool f.f3) ∧ W.cell? ⟨g14, 4, none⟩ = some (.bool f.f4) ∧ W.cell? ⟨g14, 5, none⟩ = some (.int .i64 f.f5) ∧ W.cell? ⟨g15, 0, none⟩ = some (.string g.f0) ∧ W.cell? ⟨g15, 1, none⟩ = some (.int .i64 g.f1) ∧ W.cell? ⟨g15, 2, none⟩ = some (.int .i64 g.f2) ∧ W.cell? ⟨g15, 3, none⟩ = some (.bool g.f3) ∧ W.cell? ⟨g15, 4, none⟩ = some (.bool g.f4) ∧ W.cell? ⟨g15, 5, none⟩ = some (.int .i64 g.f5))
                                      ((refine HKP.out _ ?_; (repeat (first | exact Aside0.out (by assumption) | exact Below.refl _ _ | refine Below.drew ?_ | refine below_alloc' ?_ _ | refine Below.setCell ?_ ?_ _)); all_goals (first | exact Nat.le_refl _ | exact Nat.le_succ _ | (simp; done) | (simp; omega) | omega)))
                                      (first
                                        | (go_at_call 19; (with_reducible refine Calls.mono (rfname_calls a (some ad) ca f _ ?_ HFO.out) ?_); (· exact Kd.C_below HA.out (HC7.out.2.2.2.trans (Below.mono (Aside0.out (by assumption)) HC7.out.2.2.2.size))); rintro e w8 ⟨rfl, hb8⟩; have qb : Aside0 (Below w7.heap.size w7 w8) := ⟨Below.trans (Aside0.out (by assumption)) (Below.mono hb8 (Aside0.out (p := Below w7.heap.size w7 _) (by assumption)).size)⟩; clear hb8)
                                        | (go_at_call 19; (with_reducible refine Calls.mono (rfname_calls b (some adb) cb g _ ?_ HGO.out) ?_); (· exact Kd.C_below HB.out (HC7.out.2.2.2.trans (Below.mono (Aside0.out (by assumption)) HC7.out.2.2.2.size))); rintro e w8 ⟨rfl, hb8⟩; have qb : Aside0 (Below w7.heap.size w7 w8) := ⟨Below.trans (Aside0.out (by assumption)) (Below.mono hb8 (Aside0.out (p := Below w7.heap.size w7 _) (by assumption)).size)⟩; clear hb8))
                                    all_goals
                                      go_wp2_with fail
                                      go_meet
                                      case rel => exact ⟨by rw [HK.out]; rfl, by assumption⟩
                                  | false =>
                                    have hk2 : (f.f2 != g.f2) = true := by rw [bne, hk]; rfl
                                    have HK := Aside0.mk hk
                                    clear hk
                                    have c2 := cellOf HF7.out 2
                                    have d2 := cellOf HG7.out 2
                                    simp only [List.getElem?_toArray, List.getElem?_cons_zero, List.getElem?_cons_succ] at c2 d2
                                    clear HKP
                                    go_quiet (fail)
                                    go_wp2_with fail
                                    go_meet
                                    case rel => exact ⟨by rw [HK.out]; rfl, ⟨pw_below_drewN (Below.refl _ _) _⟩⟩
                              case rest =>
                                obtain ⟨rfl, HB23⟩ := hcut
                                obtain ⟨w8, rfl⟩ : ∃ x : World, x = wc := ⟨_, rfl⟩
                                have HO8 := Aside0.mk (Kd.R_below HO7.out HB23.out)
                                have HC8 := Aside0.mk (HC7.out.below HB23.out)
                                have HF8 := Aside0.mk (heap_below HB23.out (Nat.le_refl _) HF7.out)
                                have HG8 := Aside0.mk (heap_below HB23.out (Nat.le_refl _) HG7.out)
                                clear HO7 HC7 HF7 HG7 HB23
                                skip
                                go_upto_if 168 with (fail)
                                go_cut [5] (fun v5 wc => Aside0 (Kd.R k34 34 wc w.heap.size (fun _ => True) v5 (accR a b m n i fs order t ++ opt (!(f.f0.toList == g.f0.toList)) ⟨5, m.f0, num, false⟩ ++ opt (!(f.f2 == g.f2) || !((nmOf a f).toList == (nmOf b g).toList)) ⟨6, m.f0, num, true⟩)) ∧ Aside0 (RCtx w w3 wa g8 (some ad8) call fs (some ad9) c9 order wc) ∧ Aside0 (wc.heap[g14]? = some (.cells #[.string f.f0, .int .i64 f.f1, .int .i64 f.f2, .bool f.f3, .bool f.f4, .int .i64 f.f5] 38 (0, 0))) ∧ Aside0 (wc.heap[g15]? = some (.cells #[.string g.f0, .int .i64 g.f1, .int .i64 g.f2, .bool g.f3, .bool g.f4, .int .i64 g.f5] 38 (0, 0))))
                                case first =>
                                  as_aux_lemma =>
                                    have y0 := pw_cell_below HC8.out.2.2.2 Y0.out
                                    cases hq : (!(f.f2 == g.f2) || !((nmOf a f).toList == (nmOf b g).toList)) with
                                    | true =>
                                      go_wp2_with (at_builtin; (refine Kd.R_append k34 (w0 := w) (W := w8) w.heap.size rfl (.tmp 169) (.tmp 177) 31 34 _ 40 rfl Try.underlying31 info34 rfl (by decide) (by decide) _ (accR a b m n i fs order t ++ opt (!(f.f0.toList == g.f0.toList)) ⟨5, m.f0, num, false⟩) ⟨6, m.f0, num, true⟩ [.int .i64 6, .string m.f0, .int .i64 num, .bool true] (fun _ => True) (fun _ => False) rfl (by first | rfl | (go_simp; done) | (go_simp; rfl)) (k34_mkM _ _ _ _) (fun _ h => h.elim) (fun _ _ => trivial) HO8.out HC8.out.2.2.2 HC8.out.2.2.2.size (by have := HLN.out; have q0 := opt_len (!(f.f0.toList == g.f0.toList)) ⟨5, m.f0, num, false⟩; have hX : (accR a b m n i fs order t ++ opt (!(f.f0.toList == g.f0.toList)) ⟨5, m.f0, num, false⟩).length ≤ 161610 := (by (try simp only [List.length_append]); omega); omega) ?_); intro v1 w9 ho1 hb1 hg1 ha1)
                                      go_meet
                                      case rel => exact ⟨⟨by rw [hq]; exact ho1⟩, ⟨HC8.out.grown HO8.out hg1 hb1⟩, ⟨heap_grownR hg1 HF8.out (Kd.R_ne HO8.out HF8.out (by decide))⟩, ⟨heap_grownR hg1 HG8.out (Kd.R_ne HO8.out HG8.out (by decide))⟩⟩
                                    | false =>
                                      go_wp2_with fail
                                      go_meet
                                      case rel => exact ⟨⟨by simp only [opt, hq, Bool.not_true, Bool.not_false, Bool.false_eq_true, if_false, List.append_nil]; exact HO8.out⟩, HC8, HF8, HG8⟩
                                case rest =>
                                  obtain ⟨HO9, HC9, HF9, HG9⟩ := hcut
                                  obtain ⟨wn, rfl⟩ : ∃ x : World, x = wc := ⟨_, rfl⟩
                                  clear HO8 HC8 HF8 HG8
                                  have c3 := cellOf HF9.out 3
                                  have d3 := cellOf HG9.out 3
                                  simp only [List.getElem?_toArray, List.getElem?_cons_zero, List.getElem?_cons_succ] at c3 d3
                                  go_upto_if 183 with (fail)
                                  go_cut [5] (fun v5 wc => Aside0 (Kd.R k34 34 wc w.heap.size (fun _ => True) v5 (accR a b m n i fs order t ++ opt (!(f.f0.toList == g.f0.toList)) ⟨5, m.f0, num, false⟩ ++ opt (!(f.f2 == g.f2) || !((nmOf a f).toList == (nmOf b g).toList)) ⟨6, m.f0, num, true⟩ ++ opt (!(f.f3 == g.f3)) ⟨7, m.f0, num, f.f3⟩)) ∧ Aside0 (RCtx w w3 wa g8 (some ad8) call fs (some ad9) c9 order wc) ∧ Aside0 (wc.heap[g14]? = some (.cells #[.string f.f0, .int .i64 f.f1, .int .i64 f.f2, .bool f.f3, .bool f.f4, .int .i64 f.f5] 38 (0, 0))) ∧ Aside0 (wc.heap[g15]? = some (.cells #[.string g.f0, .int .i64 g.f1, .int .i64 g.f2, .bool g.f3, .bool g.f4, .int .i64 g.f5] 38 (0, 0))))
                                  case first =>
                                    as_aux_lemma =>
                                      have y0 := pw_cell_below HC9.out.2.2.2 Y0.out
                                      cases hq : (f.f3 == g.f3) with
                                      | true =>
                                        go_wp2_with fail
                                        go_meet
                                        case rel => exact ⟨⟨by simp only [opt, hq, Bool.not_true, Bool.not_false, Bool.false_eq_true, if_false, List.append_nil]; exact HO9.out⟩, HC9, HF9, HG9⟩
                                      | false =>
                                        have HOd := Aside0.mk (Kd.R_drew HO9.out)
                                        have HFd := Aside0.mk (show wn.drew.heap[g14]? = some (.cells #[.string f.f0, .int .i64 f.f1, .int .i64 f.f2, .bool f.f3, .bool f.f4, .int .i64 f.f5] 38 (0, 0)) from HF9.out)
                                        have u0 : wn.drew.cell? (ad.add (i * 2)) = some (.string m.f0) := pw_cell_below HC9.out.2.2.2.drew Y0.out
                                        have u1 : wn.drew.cell? ⟨g14, 3, none⟩ = some (.bool f.f3) := c3
                                        go_wp2_with fail
                                        go_region_held3 (fun W => W.cell? (ad.add (i * 2)) = some (.string m.f0) ∧ W.cell? ⟨g14, 3, none⟩ = some (.bool f.f3))
                                          (first | ((repeat' apply And.intro) <;> (first | assumption | (go_keep; done))))
                                          ((refine Kd.R_append_step k34 (w0 := w) (W := wn.drew) w.heap.size rfl (.tmp 184) (.tmp 194) 31 34 _ 40 rfl Try.underlying31 info34 rfl (by decide) (by decide) _ (accR a b m n i fs order t ++ opt (!(f.f0.toList == g.f0.toList)) ⟨5, m.f0, num, false⟩ ++ opt (!(f.f2 == g.f2) || !((nmOf a f).toList == (nmOf b g).toList)) ⟨6, m.f0, num, true⟩) ⟨7, m.f0, num, f.f3⟩ [.int .i64 7, .string m.f0, .int .i64 num, .bool f.f3] (fun _ => True) (fun _ => False) rfl rfl (k34_mkM _ _ _ _) (fun _ h => h.elim) (fun _ _ => trivial) HOd.out HC9.out.2.2.2.drew HC9.out.2.2.2.drew.size (by have := HLN.out; have q0 := opt_len (!(f.f0.toList == g.f0.toList)) ⟨5, m.f0, num, false⟩; have q1 := opt_len (!(f.f2 == g.f2) || !((nmOf a f).toList == (nmOf b g).toList)) ⟨6, m.f0, num, true⟩; have hX : (accR a b m n i fs order t ++ opt (!(f.f0.toList == g.f0.toList)) ⟨5, m.f0, num, false⟩ ++ opt (!(f.f2 == g.f2) || !((nmOf a f).toList == (nmOf b g).toList)) ⟨6, m.f0, num, true⟩).length ≤ 161610 := (by (try simp only [List.length_append]); omega); omega) ?_; intro v1 w9 ho1 hb1 hg1 ha1; have HOx := Aside0.mk ho1; have HBx := Aside0.mk hb1; have HGx := Aside0.mk hg1; have qy := pw_cell_below hb1 Y0.out; have qc : w9.cell? ⟨g14, 3, none⟩ = some (.bool f.f3) := cellOf (heap_grownR hg1 HFd.out (Kd.R_ne HOd.out HFd.out (by decide))) 3; clear ho1 hb1 hg1 ha1))
                                        go_wp2_with fail
                                        have ho1 := HOx.out
                                        have hb1 := HBx.out
                                        have hg1 : wn.grownBy w9 _ := drew_grown HGx.out
                                        go_meet
                                        case rel => exact ⟨⟨by rw [hq]; exact ho1⟩, ⟨HC9.out.grown HO9.out hg1 hb1⟩, ⟨heap_grownR hg1 HF9.out (Kd.R_ne HO9.out HF9.out (by decide))⟩, ⟨heap_grownR hg1 HG9.out (Kd.R_ne HO9.out HG9.out (by decide))⟩⟩
                                  case rest =>
                                    obtain ⟨HOa, HCa, HFa, HGa⟩ := hcut
                                    obtain ⟨wz, rfl⟩ : ∃ x : World, x = wc := ⟨_, rfl⟩
                                    clear HO9 HC9 HF9 HG9 c3 d3
                                    have c4 := cellOf HFa.out 4
                                    have d4 := cellOf HGa.out 4
                                    simp only [List.getElem?_toArray, List.getElem?_cons_zero, List.getElem?_cons_succ] at c4 d4
                                    as_aux_lemma =>
                                      have y0 := pw_cell_below HCa.out.2.2.2 Y0.out
                                      cases hq : (f.f4 == g.f4) with
                                      | true =>
                                        go_wp2_with fail
                                        go_roundg (order.length - (t + 1))
                                        case measure => omega
                                        case rel =>
                                          refine ⟨t + 1, by go_num, by omega, by omega, ⟨?_⟩, HCa⟩
                                          rw [accR_step HAD.out, HON.out, hq]
                                          simpa [opt] using HOa.out
                                      | false =>
                                        go_wp2_with (at_builtin; (refine Kd.R_append k34 (w0 := w) (W := wz) w.heap.size rfl (.tmp 201) (.tmp 209) 31 34 _ 40 rfl Try.underlying31 info34 rfl (by decide) (by decide) _ (accR a b m n i fs order t ++ opt (!(f.f0.toList == g.f0.toList)) ⟨5, m.f0, num, false⟩ ++ opt (!(f.f2 == g.f2) || !((nmOf a f).toList == (nmOf b g).toList)) ⟨6, m.f0, num, true⟩ ++ opt (!(f.f3 == g.f3)) ⟨7, m.f0, num, f.f3⟩) ⟨8, m.f0, num, false⟩ [.int .i64 8, .string m.f0, .int .i64 num, .bool false] (fun _ => True) (fun _ => False) rfl (by first | rfl | (go_simp; done) | (go_simp; rfl)) (k34_mkM _ _ _ _) (fun _ h => h.elim) (fun _ _ => trivial) HOa.out HCa.out.2.2.2 HCa.out.2.2.2.size (by have := HLN.out; have q0 := opt_len (!(f.f0.toList == g.f0.toList)) ⟨5, m.f0, num, false⟩; have q1 := opt_len (!(f.f2 == g.f2) || !((nmOf a f).toList == (nmOf b g).toList)) ⟨6, m.f0, num, true⟩; have q2 := opt_len (!(f.f3 == g.f3)) ⟨7, m.f0, num, f.f3⟩; have hX : (accR a b m n i fs order t ++ opt (!(f.f0.toList == g.f0.toList)) ⟨5, m.f0, num, false⟩ ++ opt (!(f.f2 == g.f2) || !((nmOf a f).toList == (nmOf b g).toList)) ⟨6, m.f0, num, true⟩ ++ opt (!(f.f3 == g.f3)) ⟨7, m.f0, num, f.f3⟩).length ≤ 161610 := (by (try simp only [List.length_append]); omega); omega) ?_); intro v1 w9 ho1 hb1 hg1 ha1)
                                        go_roundg (order.length - (t + 1))
                                        case measure => omega
                                        case rel =>
                                          refine ⟨t + 1, by go_num, by omega, by omega, ⟨?_⟩, ⟨HCa.out.grown HOa.out hg1 hb1⟩⟩
                                          rw [accR_step HAD.out, HON.out, hq]
                                          simpa [opt] using ho1
            · obtain rfl : t = order.length := by omega
              go_wp2
              go_roundg (a.length - (i + 1))
              case measure => omega
              case rel =>
                refine ⟨i + 1, by go_num, by omega, by omega, ⟨?_⟩, ⟨HC.out.2.2.2⟩⟩
                have h1 := HO.out
                have h2 := adj_numsOf (m := m) (n := n) (order := order) (HFS.out ▸ HS9.out)
                unfold accR at h1
                rw [List.take_length] at h1
                rw [HT.out, List.flatMap_append, List.flatMap_singleton, HN.out]
                unfold fieldsCh
                rw [← h2, ← HFS.out]
                exact h1
    · skip
      as_aux_lemma =>
        obtain rfl : i = a.length := by omega
        have HO1 := Aside0.mk (show Kd.R k34 34 wr w.heap.size (fun _ => True) _ ((a.flatMap (firstCh a b)).map rc) from by have := HO.out; rwa [List.take_length] at this)
        have HLa := Aside0.mk (show ((a.flatMap (firstCh a b)).map rc).length ≤ 160000 from by have := rcs_len RA.out RB.out a.length; rwa [List.take_length] at this)
        clear HO
        go_wp2
        go_loopg [5, 16] b.length (fun kq v5 v16 wr => ∃ k : Nat, v16 = .int .i64 k ∧ k ≤ b.length ∧ b.length - k ≤ kq ∧ Aside0 (Kd.R k34 34 wr w.heap.size (fun _ => True) v5 ((a.flatMap (firstCh a b) ++ (b.take k).flatMap (secondCh a)).map rc)) ∧ Aside0 (Below w.heap.size w wr))
        case atStart => exact ⟨0, rfl, by omega, by omega, ⟨by simpa using HO1.out⟩, HW⟩
        case round =>
          obtain ⟨k, rfl, hk2, hg5, HO, HW⟩ := hrel
          clear HO1
          by_cases hlt : k < b.length
          · have hlt' : (k : Int) < b.length := by omega
            obtain ⟨ad, A1, c1, e, y0, y1, hl1, hC1⟩ := at_T41 HB.out k (by omega) hlt'
            cases e
            simp only [Int.toNat_natCast] at y0 y1
            have HT := Aside0.mk (Sch.take_rdM b k hlt)
            obtain ⟨m, hm⟩ : ∃ m, m = rd_T41 b k := ⟨_, rfl⟩
            rw [← hm] at y0 y1 HT
            have Y0 := Aside0.mk y0
            clear hm hl1 hC1 y1
            replace y0 := pw_cell_below HW.out y0
            have HL := Aside0.mk (seconds_len (a := a) RB.out k)
            cases hf : findM a m.f0 with
            | none =>
              have HF := Aside0.mk hf
              go_upto_region 33 with (go_at_call 16; refine (named_r A ca a m.f0 none hf (-1) rfl _ (Kd.C_below HA.out HW.out)).mono ?_; rintro e w3 ⟨rfl, hb3⟩)
              have HO3 := Aside0.mk (Kd.R_below HO.out hb3)
              have HW3 := Aside0.mk (HW.out.trans (hb3.mono HW.out.size))
              replace y0 := pw_cell_below HW3.out Y0.out
              clear hb3 hf HO HW
              go_wp2_with (at_builtin; (refine Kd.R_append k34 (w0 := w) (W := w3) w.heap.size rfl (.tmp 225) (.tmp 232) 31 34 _ 40 rfl Try.underlying31 info34 rfl (by decide) (by decide) _ ((a.flatMap (firstCh a b) ++ (b.take k).flatMap (secondCh a)).map rc) ⟨2, m.f0, 0, false⟩ [.int .i64 2, .string m.f0, .int .i64 0, .bool false] (fun _ => True) (fun _ => False) rfl (by first | rfl | (go_simp; done) | (go_simp; rfl)) (k34_mkM _ _ _ _) (fun _ h => h.elim) (fun _ _ => trivial) HO3.out HW3.out HW3.out.size (by have := HL.out; have := HLa.out; rw [List.length_map] at this; rw [List.length_map, List.length_append]; omega) ?_); intro v1 w4 ho1 hb1 hg1 ha1)
              go_roundg (b.length - (k + 1))
              case measure => omega
              case rel =>
                refine ⟨k + 1, by go_num, by omega, by omega, ⟨?_⟩, ⟨hb1⟩⟩
                rw [HT.out, List.flatMap_append, List.flatMap_singleton, show secondCh a m = [⟨⟨2, m.f0, 0⟩, z38, z38⟩] from by unfold secondCh; rw [HF.out], ← List.append_assoc, List.map_append]
                exact ho1
            | some j =>
              have HF := Aside0.mk hf
              have hjn : ¬ ((j : Int) < 0) := by omega
              go_wp2_with (go_at_call 16; refine (named_r A ca a m.f0 (some j) hf j rfl _ (Kd.C_below HA.out HW.out)).mono ?_; rintro e w3 ⟨rfl, hb3⟩)
              go_roundg (b.length - (k + 1))
              case measure => omega
              case rel =>
                refine ⟨k + 1, by go_num, by omega, by omega, ⟨?_⟩, ⟨HW.out.trans (hb3.mono HW.out.size)⟩⟩
                rw [HT.out, List.flatMap_append, List.flatMap_singleton, show secondCh a m = [] from by unfold secondCh; rw [HF.out], List.append_nil]
                exact Kd.R_below HO.out hb3
          · obtain rfl : k = b.length := by omega
            go_wp2
            go_ret
            exact ⟨_, rfl, by simpa [changesCh] using HO.out, HW.out⟩
end Go.Proofs.Ytdkhmnmngokmmaa.Rf
