/- The reference's Sorted: places of fields by numbers. -/
import Derived.Test.YtdkhmnmngokmmaaRf5
namespace Go.Proofs.Ytdkhmnmngokmmaa.Rf
open Go.RowKit Go.Maps Go.Proofs.Ytdkhmnmngokmmaa.B Go.Proofs.Ytdkhmnmngokmmaa.K Go.Proofs.Ytdkhmnmngokmmaa.Spec Go.Proofs.Ytdkhmnmngokmmaa.Sch Go.Proofs.Ytdkhmnmngokmmaa.Ev Go.Proofs.YtdkhmnmngokmmaaW.PrintWords
set_option linter.unusedVariables false
set_option linter.unusedSimpArgs false
theorem infoInt : (Try.prog.info? 3).map (fun i => (i.zero, i.size, i.bytes)) = some (some (.int .i64 0), 1, 8) := by kernel_rfl
theorem made0 (w : World) : Kd.R (Kd.int .i64) 3 (w.alloc (.cells #[] 3)) w.heap.size (fun _ => True) (.slice (some ⟨w.heap.size, 0, none⟩) 0 0) [] :=
  ⟨fun _ _ => trivial, [], ⟨rfl, .inr ⟨w.heap.size, 0, #[], rfl, Nat.le_refl _, alloc_at _ _, Nat.le_refl _, Nat.zero_le _, rfl, rfl⟩⟩, Reps.none _ _⟩
theorem int_at {w : World} {A : Option Addr} {n : Nat} {xs : List Int} (h : Kd.C (Kd.int .i64) w A n xs) (i : Nat) (hi : i < n) : ∃ ad, A = some ad ∧ w.cell? (ad.add i) = some (.int .i64 (xs.getD i 0)) := by
  obtain ⟨ad, c, e, hl, hK, hc⟩ := Kd.C_get h 0 (i : Int) (by omega) (by omega)
  refine ⟨ad, e, ?_⟩
  have hK' : c = [.int .i64 (xs.getD (i : Int).toNat 0)] := hK
  have := hc 0 (.int .i64 (xs.getD i 0)) (by rw [hK']; simp)
  simpa [show (Kd.int .i64).sz = 1 from rfl] using this
def numAt (fs : List Fld) (x : Int) : Int := (rd_T38 fs x).f1
structure SortedIx (fs : List Fld) (n : Nat) (order : List Int) : Prop where
  perm : order.Perm ((List.range n).map Int.ofNat)
  sorted : order.Pairwise fun x y => numAt fs x ≤ numAt fs y
theorem SortedIx.len {fs : List Fld} {n : Nat} {order : List Int} (h : SortedIx fs n order) : order.length = n := by rw [h.perm.length_eq]; simp
theorem SortedIx.bound {fs : List Fld} {n : Nat} {order : List Int} (h : SortedIx fs n order) {x : Int} (hx : x ∈ order) : 0 ≤ x ∧ x < n := by
  have := h.perm.mem_iff.1 hx
  rw [List.mem_map] at this
  obtain ⟨k, hk, rfl⟩ := this
  have := List.mem_range.1 hk
  constructor
  · exact Int.natCast_nonneg k
  · exact Int.ofNat_lt.2 this
theorem sortedIx_ins {fs : List Fld} {i k : Nat} {out : List Int} (h : SortedIx fs i out) (hk : k ≤ out.length) (h1 : ∀ j, j < k → numAt fs (out.getD j 0) ≤ numAt fs i) (h2 : k < out.length → numAt fs i < numAt fs (out.getD k 0)) :
    SortedIx fs (i + 1) ([] ++ out.take k ++ [(i : Int)] ++ out.drop k) := by
  have hs := h.sorted
  rw [List.pairwise_iff_getElem] at hs
  constructor
  · rw [List.range_succ, List.map_append, List.nil_append, List.append_assoc]
    refine (List.perm_append_comm_assoc _ _ _).trans ?_
    rw [List.take_append_drop]
    refine (List.perm_append_comm).trans ?_
    exact h.perm.append (List.Perm.refl _)
  · rw [List.nil_append, List.append_assoc]
    refine List.pairwise_append.2 ⟨h.sorted.take, ?_, ?_⟩
    · refine List.pairwise_append.2 ⟨by simp, h.sorted.drop, ?_⟩
      intro a ha b hb
      rw [List.mem_singleton] at ha
      subst ha
      obtain ⟨j, hj, rfl⟩ := List.getElem_of_mem hb
      rw [List.getElem_drop]
      rw [List.length_drop] at hj
      have h3 := h2 (by omega)
      rw [show out.getD k 0 = out[k]'(by omega) from by simp [show k < out.length by omega]] at h3
      by_cases e : j = 0
      · subst e; simp only [Nat.add_zero]; omega
      · have := hs k (k + j) (by omega) (by omega) (by omega)
        omega
    · intro a ha b hb
      obtain ⟨j, hj, rfl⟩ := List.getElem_of_mem ha
      rw [List.length_take] at hj
      rw [List.getElem_take]
      have h3 := h1 j (by omega)
      rw [show out.getD j 0 = out[j]'(by omega) from by simp [show j < out.length by omega]] at h3
      rcases List.mem_append.1 hb with hb | hb
      · rw [List.mem_singleton] at hb; subst hb; exact h3
      · obtain ⟨t, ht, rfl⟩ := List.getElem_of_mem hb
        rw [List.getElem_drop]
        rw [List.length_drop] at ht
        exact hs j (k + t) (by omega) (by omega) (by omega)
set_option maxHeartbeats 8000000 in
set_option maxRecDepth 100000 in
theorem rsorted_calls (m : Msg) (A : Option Addr) (c : Nat) (w : World) (hr : Kd.C k38 w A m.f1.length m.f1) (hmx : m.f1.length ≤ 1000) :
    Calls Try.prog 17 #[.agg #[.string m.f0, .slice A m.f1.length c]] w fun e w' => ∃ v order, e = .returned v ∧ Kd.R (Kd.int .i64) 3 w' w.heap.size (fun _ => True) v order ∧ SortedIx m.f1 m.f1.length order ∧ Below w.heap.size w w' := by
  have hu := Try.underlying41
  have hu2 := Try.underlying38
  have HR := Aside0.mk hr
  have HB0 := Aside0.mk (below_alloc' (Below.refl _ w) (.cells #[.string m.f0, .slice A m.f1.length c] 41))
  have HX0 := Aside0.mk (alloc_at w (.cells #[.string m.f0, .slice A m.f1.length c] 41))
  clear hr
  go_enter Try.func17, Try.ntmps17
  go_wp2
  go_loopg [3, 4] m.f1.length (fun kq v3 v4 wr => ∃ (i : Nat) (out : List Int), v4 = .int .i64 i ∧ i ≤ m.f1.length ∧ m.f1.length - i ≤ kq ∧ Aside0 (Kd.R (Kd.int .i64) 3 wr w.heap.size (fun _ => True) v3 out) ∧ Aside0 (SortedIx m.f1 i out) ∧
    Aside0 (wr.heap[w.heap.size]? = some (.cells #[.string m.f0, .slice A m.f1.length c] 41 (0, 0))) ∧ Aside0 (Below w.heap.size w wr))
  case atStart => exact ⟨0, [], rfl, by omega, by omega, ⟨Kd.R_nil _ _ _ _ _⟩, ⟨⟨by simp, List.Pairwise.nil⟩⟩, HX0, HB0⟩
  case round =>
    obtain ⟨i, out, rfl, hi, hg, HO, HS, HX, HB⟩ := hrel
    have x0 := cellOf HX.out 0
    have x1 := cellOf HX.out 1
    simp only [List.getElem?_toArray, List.getElem?_cons_zero, List.getElem?_cons_succ] at x0 x1
    by_cases hlt : i < m.f1.length
    · have hlt' : (i : Int) < m.f1.length := by omega
      obtain ⟨ad, e, y0, y1, y2, y3, y4, y5⟩ := at_T38 HR.out i (by omega) hlt'
      cases e
      simp only [Int.toNat_natCast] at y1
      have Y1 := Aside0.mk y1
      clear y0 y1 y2 y3 y4 y5
      obtain ⟨A3, c3, rfl, hl3, hC3⟩ := Kd.R_reads HO.out
      have hol2 : out.length ≤ 1000 := by have := HS.out.len; omega
      clear hl3 hC3
      go_wp2
      go_loopg [5] out.length (fun kq v5 wi => ∃ k : Nat, v5 = .int .i64 k ∧ k ≤ out.length ∧ out.length - k ≤ kq ∧ Aside0 (∀ j, j < k → numAt m.f1 (out.getD j 0) ≤ numAt m.f1 i) ∧ Aside0 (Kd.R (Kd.int .i64) 3 wi w.heap.size (fun _ => True) (.slice A3 out.length c3) out) ∧
        Aside0 (wi.heap[w.heap.size]? = some (.cells #[.string m.f0, .slice (some ad) m.f1.length c] 41 (0, 0))) ∧ Aside0 (Below w.heap.size w wi))
      case atStart => exact ⟨0, rfl, by omega, by omega, ⟨fun j hj => absurd hj (by omega)⟩, HO, HX, HB⟩
      case round =>
        obtain ⟨k, rfl, hk, hg5, HJ, HOi, HXi, HBi⟩ := hrel
        clear HO HX HB x0 x1
        have x0 := cellOf HXi.out 0
        have x1 := cellOf HXi.out 1
        simp only [List.getElem?_toArray, List.getElem?_cons_zero, List.getElem?_cons_succ] at x0 x1
        have y1 := pw_cell_below HBi.out Y1.out
        by_cases hlk : k < out.length
        · have hlk' : (k : Int) < out.length := by omega
          obtain ⟨ad3, e, z0⟩ := int_at (Kd.R_reads' HOi.out).2.2 k hlk
          cases e
          have hbo := HS.out.bound (x := out.getD k 0) (by simp [hlk])
          have ho1 : out.getD k 0 < m.f1.length := by have := HS.out.len; omega
          have ho0 := hbo.1
          have HG : Aside0 (∀ b, decide (numAt m.f1 (out.getD k 0) ≤ numAt m.f1 i) = b → decide ((rd_T38 m.f1 (out.getD k 0)).f1 ≤ (rd_T38 m.f1 i).f1) = b) := ⟨fun b e => e⟩
          obtain ⟨adx, e, q0, q1, q2, q3, q4, q5⟩ := at_T38 HR.out (out.getD k 0) hbo.1 ho1
          cases e
          replace q1 := pw_cell_below HBi.out q1
          clear q0 q2 q3 q4 q5 hbo
          cases hq : decide (numAt m.f1 (out.getD k 0) ≤ numAt m.f1 i) with
          | true =>
            have hd := HG.out _ hq
            have HQ := Aside0.mk (of_decide_eq_true hq)
            clear hq
            generalize hoo : out.getD k 0 = o at *
            have HOO := Aside0.mk hoo
            clear hoo
            go_wp2
            go_quiet (fail)
            go_wp2
            go_roundg (out.length - (k + 1))
            case measure => omega
            case rel =>
              refine ⟨k + 1, by go_num, by omega, by omega, ⟨fun j hj => ?_⟩, ⟨Kd.R_drewN HOi.out _⟩, ⟨HXi.out⟩, ⟨pw_below_drewN HBi.out _⟩⟩
              by_cases e : j = k
              · subst e; rw [HOO.out]; exact HQ.out
              · exact HJ.out j (by omega)
          | false =>
            have hd := HG.out _ hq
            have HQ := Aside0.mk (of_decide_eq_false hq)
            clear hq
            generalize hoo : out.getD k 0 = o at *
            have HOO := Aside0.mk hoo
            clear hoo
            go_wp2
            go_quiet (fail)
            go_upto_region 8 with (fail)
            have HOq := Aside0.mk (show Kd.R (Kd.int .i64) 3 (wr.drewN nq) w.heap.size (fun _ => True) (.slice (some ad3) out.length c3) out from Kd.R_drewN HOi.out _)
            have HBq := Aside0.mk (show Below w.heap.size w (wr.drewN nq) from pw_below_drewN HBi.out _)
            have HXq := Aside0.mk (show (wr.drewN nq).heap[w.heap.size]? = some (.cells #[.string m.f0, .slice (some ad) m.f1.length c] 41 (0, 0)) from HXi.out)
            obtain ⟨wq, hwq⟩ : ∃ x : World, x = (wr.drewN nq) := ⟨_, rfl⟩
            rw [← hwq] at HOq HBq HXq
            rw [← hwq]
            clear hwq
            have hCq := (Kd.R_reads' HOq.out).2.2
            have hcc := (Kd.R_reads' HOq.out).2.1
            have HCT := Aside0.mk (Kd.C_take hCq hk)
            have hcd0 := Kd.C_drop (c := c3) hCq hk hcc
            have hlt3 : (out.take k).length = k := by rw [List.length_take]; omega
            have hld3 : (out.drop k).length = out.length - k := List.length_drop
            rw [hlt3] at HCT
            rw [hld3, show k * (Kd.int .i64).sz = k from Nat.mul_one k] at hcd0
            have hct : ∀ W, (Instr.slice 52 (.slice (some ad3) out.length c3) none (some (.int .i64 k)) none).run Try.prog W = .ok (.slice (some ad3) k c3) W := by
              obtain ⟨i3, hi3, hz3⟩ := Option.map_eq_some_iff.1 infoInt
              simpa using cut_to 52 3 .i64 Try.underlying52 hi3 (some ad3) out.length c3 k (by omega) (by omega) hcc
            have hcf : ∀ W, (Instr.slice 52 (.slice (some ad3) out.length c3) (some (.int .i64 k)) none none).run Try.prog W = .ok (.slice (if c3 = k then (some ad3) else (some ad3).map (·.add k)) (out.length - k) (c3 - k)) W := by
              obtain ⟨i3, hi3, hz3⟩ := Option.map_eq_some_iff.1 infoInt
              simpa using cut_from 52 3 .i64 Try.underlying52 hi3 1 (by simpa using congrArg (fun x => x.2.1) hz3) (some ad3) out.length c3 k (by omega) (by omega)
            generalize (if c3 = k then (some ad3) else (some ad3).map (·.add k)) = Ad at hcd0 hcf
            have HCD := Aside0.mk hcd0
            clear hcd0
            clear hCq hcc hlt3 hld3 x0 x1 y1 z0 q1 hd
            have HMD := Aside0.mk (made0 wq)
            have HBm := Aside0.mk (below_alloc' (Below.refl _ wq) (.cells #[] 3))
            go_wp2_with (first
              | (at_builtin; (refine Kd.R_append_rows (Kd.int .i64) (w0 := wq) (W := wq.alloc (.cells #[] 3)) wq.heap.size rfl (.tmp 38) (.tmp 41) 52 3 _ 8 rfl Try.underlying52 infoInt rfl (by decide) (by decide) _ [] (out.take k) (some ad3) k c3 (fun _ => True) (fun _ => False) rfl rfl HMD.out (Kd.C_below HCT.out HBm.out) (fun _ _ h => h) (fun _ h => h.elim) (fun _ _ => trivial) HBm.out HBm.out.size (by simp; omega) ?_); intro v1 w1 ho1 hb1 hg1 ha1; have O1 := Aside0.mk ho1; have B1 := Aside0.mk hb1; clear ho1 hb1 hg1 ha1)
              | (at_builtin; (refine Kd.R_append (Kd.int .i64) (w0 := wq) (W := w1) wq.heap.size rfl (.tmp 43) (.tmp 45) 52 3 _ 8 rfl Try.underlying52 infoInt rfl (by decide) (by decide) _ ([] ++ out.take k) (i : Int) [.int .i64 i] (fun _ => True) (fun _ => False) rfl (by first | rfl | (go_simp; done) | (go_simp; rfl)) rfl (fun _ h => h.elim) (fun _ _ => trivial) O1.out B1.out B1.out.size (by simp; omega) ?_); intro v2 w2 ho2 hb2 hg2 ha2; have O2 := Aside0.mk ho2; have B2 := Aside0.mk hb2; clear ho2 hb2 hg2 ha2)
              | (at_builtin; (refine Kd.R_append_rows (Kd.int .i64) (w0 := wq) (W := w2) wq.heap.size rfl (.tmp 47) (.tmp 50) 52 3 _ 8 rfl Try.underlying52 infoInt rfl (by decide) (by decide) _ ([] ++ out.take k ++ [(i : Int)]) (out.drop k) Ad (out.length - k) (c3 - k) (fun _ => True) (fun _ => False) rfl rfl O2.out (Kd.C_below HCD.out B2.out) (fun _ _ h => h) (fun _ h => h.elim) (fun _ _ => trivial) B2.out B2.out.size (by simp; omega) ?_); intro v3 w3 ho3 hb3 hg3 ha3))
            go_roundg (m.f1.length - (i + 1))
            case measure => omega
            case rel =>
              refine ⟨i + 1, _, by go_num, by omega, by omega, ⟨Kd.R_lower ho3 HBq.out.size⟩, ⟨?_⟩, ⟨heap_below hb3 (Nat.le_refl _) HXq.out⟩, ⟨HBq.out.trans (hb3.mono HBq.out.size)⟩⟩
              exact sortedIx_ins HS.out hk HJ.out (fun _ => by rw [HOO.out]; have := HQ.out; omega)
        · have hko : k = out.length := by omega
          have hlk2 : ((k : Int) < out.length) = False := by simp [hko]
          have HKO := Aside0.mk hko
          clear hko
          go_wp2
          go_quiet (fail)
          go_upto_region 8 with (fail)
          have HOq := Aside0.mk (show Kd.R (Kd.int .i64) 3 (wr.drewN nq) w.heap.size (fun _ => True) (.slice A3 out.length c3) out from Kd.R_drewN HOi.out _)
          have HBq := Aside0.mk (show Below w.heap.size w (wr.drewN nq) from pw_below_drewN HBi.out _)
          have HXq := Aside0.mk (show (wr.drewN nq).heap[w.heap.size]? = some (.cells #[.string m.f0, .slice (some ad) m.f1.length c] 41 (0, 0)) from HXi.out)
          obtain ⟨wq, hwq⟩ : ∃ x : World, x = (wr.drewN nq) := ⟨_, rfl⟩
          rw [← hwq] at HOq HBq HXq
          rw [← hwq]
          clear hwq
          have hCq := (Kd.R_reads' HOq.out).2.2
          have hcc := (Kd.R_reads' HOq.out).2.1
          have HCT := Aside0.mk (Kd.C_take hCq hk)
          have hcd0 := Kd.C_drop (c := c3) hCq hk hcc
          have hlt3 : (out.take k).length = k := by rw [List.length_take]; omega
          have hld3 : (out.drop k).length = out.length - k := List.length_drop
          rw [hlt3] at HCT
          rw [hld3, show k * (Kd.int .i64).sz = k from Nat.mul_one k] at hcd0
          have hct : ∀ W, (Instr.slice 52 (.slice A3 out.length c3) none (some (.int .i64 k)) none).run Try.prog W = .ok (.slice A3 k c3) W := by
            obtain ⟨i3, hi3, hz3⟩ := Option.map_eq_some_iff.1 infoInt
            simpa using cut_to 52 3 .i64 Try.underlying52 hi3 A3 out.length c3 k (by omega) (by omega) hcc
          have hcf : ∀ W, (Instr.slice 52 (.slice A3 out.length c3) (some (.int .i64 k)) none none).run Try.prog W = .ok (.slice (if c3 = k then A3 else A3.map (·.add k)) (out.length - k) (c3 - k)) W := by
            obtain ⟨i3, hi3, hz3⟩ := Option.map_eq_some_iff.1 infoInt
            simpa using cut_from 52 3 .i64 Try.underlying52 hi3 1 (by simpa using congrArg (fun x => x.2.1) hz3) A3 out.length c3 k (by omega) (by omega)
          generalize (if c3 = k then A3 else A3.map (·.add k)) = Ad at hcd0 hcf
          have HCD := Aside0.mk hcd0
          clear hcd0
          clear hCq hcc hlt3 hld3 x0 x1 y1
          have HMD := Aside0.mk (made0 wq)
          have HBm := Aside0.mk (below_alloc' (Below.refl _ wq) (.cells #[] 3))
          go_wp2_with (first
            | (at_builtin; (refine Kd.R_append_rows (Kd.int .i64) (w0 := wq) (W := wq.alloc (.cells #[] 3)) wq.heap.size rfl (.tmp 38) (.tmp 41) 52 3 _ 8 rfl Try.underlying52 infoInt rfl (by decide) (by decide) _ [] (out.take k) A3 k c3 (fun _ => True) (fun _ => False) rfl rfl HMD.out (Kd.C_below HCT.out HBm.out) (fun _ _ h => h) (fun _ h => h.elim) (fun _ _ => trivial) HBm.out HBm.out.size (by simp; omega) ?_); intro v1 w1 ho1 hb1 hg1 ha1; have O1 := Aside0.mk ho1; have B1 := Aside0.mk hb1; clear ho1 hb1 hg1 ha1)
            | (at_builtin; (refine Kd.R_append (Kd.int .i64) (w0 := wq) (W := w1) wq.heap.size rfl (.tmp 43) (.tmp 45) 52 3 _ 8 rfl Try.underlying52 infoInt rfl (by decide) (by decide) _ ([] ++ out.take k) (i : Int) [.int .i64 i] (fun _ => True) (fun _ => False) rfl (by first | rfl | (go_simp; done) | (go_simp; rfl)) rfl (fun _ h => h.elim) (fun _ _ => trivial) O1.out B1.out B1.out.size (by simp; omega) ?_); intro v2 w2 ho2 hb2 hg2 ha2; have O2 := Aside0.mk ho2; have B2 := Aside0.mk hb2; clear ho2 hb2 hg2 ha2)
            | (at_builtin; (refine Kd.R_append_rows (Kd.int .i64) (w0 := wq) (W := w2) wq.heap.size rfl (.tmp 47) (.tmp 50) 52 3 _ 8 rfl Try.underlying52 infoInt rfl (by decide) (by decide) _ ([] ++ out.take k ++ [(i : Int)]) (out.drop k) Ad (out.length - k) (c3 - k) (fun _ => True) (fun _ => False) rfl rfl O2.out (Kd.C_below HCD.out B2.out) (fun _ _ h => h) (fun _ h => h.elim) (fun _ _ => trivial) B2.out B2.out.size (by simp; omega) ?_); intro v3 w3 ho3 hb3 hg3 ha3))
          go_roundg (m.f1.length - (i + 1))
          case measure => omega
          case rel =>
            refine ⟨i + 1, _, by go_num, by omega, by omega, ⟨Kd.R_lower ho3 HBq.out.size⟩, ⟨?_⟩, ⟨heap_below hb3 (Nat.le_refl _) HXq.out⟩, ⟨HBq.out.trans (hb3.mono HBq.out.size)⟩⟩
            exact sortedIx_ins HS.out hk HJ.out (fun h => absurd h (by have := HKO.out; omega))
    · obtain rfl : i = m.f1.length := by omega
      go_wp2
      go_ret
      exact ⟨_, _, rfl, HO.out, HS.out, HB.out⟩
end Go.Proofs.Ytdkhmnmngokmmaa.Rf
