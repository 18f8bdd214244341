/- The reference of layer 7: Check and Right of a schema; Few. -/
import Derived.Test.YtdkhmnmngokmmaaRf2
namespace Go.Proofs.Ytdkhmnmngokmmaa.Rf
open Go.RowKit Go.Maps Go.Proofs.Ytdkhmnmngokmmaa.B Go.Proofs.Ytdkhmnmngokmmaa.K Go.Proofs.Ytdkhmnmngokmmaa.Spec Go.Proofs.Ytdkhmnmngokmmaa.Sch Go.Proofs.Ytdkhmnmngokmmaa.Ev Go.Proofs.YtdkhmnmngokmmaaW.PrintWords
set_option linter.unusedVariables false
set_option linter.unusedSimpArgs false

def anyM (l : List Msg) (m : Msg) : Bool := l.any fun x => decide (x.f0 = m.f0)
theorem anyM_snoc (l : List Msg) (g f : Msg) : anyM (l ++ [g]) f = (anyM l f || (g.f0.toList == f.f0.toList)) := by
  unfold anyM
  rw [List.any_append, toList_beq]
  simp
theorem msgOk_eq (n : Int) (prev : List Msg) (m : Msg) : msgOk n prev m = (nameOk m.f0 && !(anyM prev m) && decide (m.f1.length ≤ 200) && fieldsOk n m.f1) := rfl
theorem fieldsOk_not {n : Int} {fs : List Fld} {k : Nat} (hk : k < fs.length) (h : fieldOk n (fs.take k) (rd_T38 fs k) = false) : fieldsOk n fs = false := by
  unfold fieldsOk
  rw [List.all_eq_false]
  refine ⟨k, List.mem_range.2 hk, ?_⟩
  rw [show fs.getD k z38 = rd_T38 fs k from rfl, h]
  simp
theorem fieldsOk_yes {n : Int} {fs : List Fld} (h : ∀ k, k < fs.length → fieldOk n (fs.take k) (rd_T38 fs k) = true) : fieldsOk n fs = true := by
  unfold fieldsOk
  rw [List.all_eq_true]
  intro k hk
  exact h k (List.mem_range.1 hk)
theorem right_not {s : List Msg} {i : Nat} (hi : i < s.length) (h : msgOk s.length (s.take i) (rd_T41 s i) = false) : right s = false := by
  unfold right
  have : ((List.range s.length).all fun i => msgOk s.length (s.take i) (s.getD i z41)) = false := by
    rw [List.all_eq_false]
    refine ⟨i, List.mem_range.2 hi, ?_⟩
    rw [show s.getD i z41 = rd_T41 s i from rfl, h]
    simp
  rw [this, Bool.and_false]
theorem right_yes {s : List Msg} (h1 : 1 ≤ s.length) (h2 : s.length ≤ 100) (h : ∀ i, i < s.length → msgOk s.length (s.take i) (rd_T41 s i) = true) : right s = true := by
  unfold right
  rw [decide_eq_true h1, decide_eq_true h2, Bool.true_and, Bool.true_and, List.all_eq_true]
  intro i hi
  exact h i (List.mem_range.1 hi)
def RCheck (s : List Msg) (w : World) (e : Ending) (w' : World) : Prop :=
  ∃ a b c : Int, e = .returned (.tuple #[.int .i64 a, .int .i64 b, .int .i64 c]) ∧ ((right s = true ∧ c = 0) ∨ (right s = false ∧ 1 ≤ c ∧ c ≤ 11)) ∧ Below w.heap.size w w'
theorem RCheck.no {s : List Msg} {w w' : World} {a b c : Int} (h : right s = false) (h1 : 1 ≤ c ∧ c ≤ 11) (hb : Below w.heap.size w w') : RCheck s w (.returned (.tuple #[.int .i64 a, .int .i64 b, .int .i64 c])) w' :=
  ⟨a, b, c, rfl, .inr ⟨h, h1⟩, hb⟩
theorem fault_no {s : List Msg} {prev : List Fld} {f : Fld} {g : FuncId} {args : Array Value} {w : World} (h : Calls Try.prog g args w (faultPost s prev f w)) (hf : fieldOk s.length prev f = false) :
    Calls Try.prog g args w fun e w' => ∃ r : Int, e = .returned (.int .i64 r) ∧ 1 ≤ r ∧ r ≤ 11 ∧ Below w.heap.size w w' := h.mono fun e w' ⟨r, he, hc, hb⟩ => by
  rcases hc with ⟨h1, _⟩ | ⟨_, h1, h2⟩
  · rw [hf] at h1; cases h1
  · exact ⟨r, he, h1, h2, hb⟩
theorem fault_yes {s : List Msg} {prev : List Fld} {f : Fld} {g : FuncId} {args : Array Value} {w : World} (h : Calls Try.prog g args w (faultPost s prev f w)) (hf : fieldOk s.length prev f = true) :
    Calls Try.prog g args w fun e w' => e = .returned (.int .i64 0) ∧ Below w.heap.size w w' := h.mono fun e w' ⟨r, he, hc, hb⟩ => by
  rcases hc with ⟨_, rfl⟩ | ⟨h1, _⟩
  · exact ⟨he, hb⟩
  · rw [hf] at h1; cases h1
set_option maxHeartbeats 8000000 in
set_option maxRecDepth 100000 in
theorem rcheck_calls (A : Option Addr) (c : Nat) (s : List Msg) (w : World) (hr : Kd.C k41 w A s.length s) (hz : Sized s) :
    Calls Try.prog 15 #[.slice A s.length c] w (RCheck s w) := by
  have hu := Try.underlying41
  have hu2 := Try.underlying38
  have HR := Aside0.mk hr
  have HZ := Aside0.mk hz
  have hsb : s.length ≤ 9223372036854775807 := hr.2.1
  clear hr hz
  by_cases hl0 : s.length = 0
  · have hl0' : ((s.length : Int) == 0) = true := by simp [hl0]
    have HF := Aside0.mk (show right s = false by unfold right; simp [hl0])
    clear hl0
    go_enter Try.func15, Try.ntmps15
    go_wp2
    refine bodyPost_ret (v := .tuple #[_, _, _]) (by simp [results, Try.results15, go_sem]; exact ⟨rfl, rfl, rfl⟩) rfl ?_
    exact RCheck.no HF.out (by decide) (Below.refl _ _)
  have hl0' : ((s.length : Int) == 0) = false := beq_eq_false_iff_ne.2 (by omega)
  by_cases hl1 : 100 < s.length
  · have hl1' : (100 : Int) < s.length := by omega
    have HF := Aside0.mk (show right s = false by unfold right; rw [decide_eq_false (show ¬ s.length ≤ 100 by omega), Bool.and_false, Bool.false_and])
    clear hl0 hl1
    go_enter Try.func15, Try.ntmps15
    go_wp2
    refine bodyPost_ret (v := .tuple #[_, _, _]) (by simp [results, Try.results15, go_sem]; exact ⟨rfl, rfl, rfl⟩) rfl ?_
    exact RCheck.no HF.out (by decide) (Below.refl _ _)
  have hl1' : (s.length : Int) ≤ 100 := by omega
  go_enter Try.func15, Try.ntmps15
  go_wp2
  go_loopg [5] s.length (fun kq v5 wr => ∃ i : Nat, v5 = .int .i64 i ∧ i ≤ s.length ∧ s.length - i ≤ kq ∧ Aside0 (∀ j, j < i → msgOk s.length (s.take j) (rd_T41 s j) = true) ∧ Aside0 (Below w.heap.size w wr))
  case atStart => exact ⟨0, rfl, by omega, by omega, ⟨fun j hj => absurd hj (by omega)⟩, ⟨Below.refl _ _⟩⟩
  case round =>
    obtain ⟨i, rfl, hi, hg4, HM, HB⟩ := hrel
    by_cases hlt : i < s.length
    · have hlt' : (i : Int) < s.length := by omega
      obtain ⟨ad, A1, c1, e, y0, y1, hl2, hC1⟩ := at_T41 HR.out i (by omega) hlt'
      cases e
      simp only [Int.toNat_natCast] at y0 y1
      have HNM := Aside0.mk (HZ.out i hlt).1
      have HNF := Aside0.mk (HZ.out i hlt).2
      have HNO := Aside0.mk (right_not hlt)
      have HFL := Aside0.mk (fun k hk => fault_calls (some ad) c s i k wr (Kd.C_below HR.out HB.out) hlt hk ((HZ.out i hlt).2 k hk))
      have HEQ := Aside0.mk (msgOk_eq s.length (s.take i) (rd_T41 s i))
      have HYS : Aside0 (msgOk s.length (s.take i) (rd_T41 s i) = true → ∀ j, j < i + 1 → msgOk s.length (s.take j) (rd_T41 s j) = true) := ⟨fun h j hj => by
        by_cases e : j = i
        · subst e; exact h
        · exact HM.out j (by omega)⟩
      have HFLT := Aside0.mk (fun (wx : World) (hbx : Below w.heap.size w wx) (k : Nat) hk => fault_calls (some ad) c s i k wx (Kd.C_below HR.out hbx) hlt hk ((HZ.out i hlt).2 k hk))
      obtain ⟨m, hm⟩ : ∃ m, m = rd_T41 s i := ⟨_, rfl⟩
      rw [← hm] at y0 y1 HNM HNF HNO HEQ HYS HFLT hC1 hl2
      have hmb : m.f1.length ≤ 9223372036854775807 := hC1.2.1
      clear hm HFL hC1 HM
      have Y0 := Aside0.mk y0
      have Y1 := Aside0.mk y1
      clear y0 y1 hl2
      go_wp2
      go_loopg [6, 7] i (fun kq v6 v7 wi => ∃ k : Nat, v7 = .int .i64 k ∧ v6 = .bool (anyM (s.take k) m) ∧ k ≤ i ∧ i - k ≤ kq ∧ Aside0 (Below w.heap.size w wi))
      case atStart => exact ⟨0, rfl, rfl, by omega, by omega, HB⟩
      case round =>
        obtain ⟨k, rfl, rfl, hk, hg5, HBi⟩ := hrel
        have y0 := pw_cell_below HBi.out Y0.out
        have y1 := pw_cell_below HBi.out Y1.out
        by_cases hlk : k < i
        · have hlk' : (k : Int) < i := by omega
          have hlk2 : (k : Int) < s.length := by omega
          obtain ⟨ad2, A2, c2, e, z0, z1, hl3, hC2⟩ := at_T41 HR.out k (by omega) hlk2
          cases e
          simp only [Int.toNat_natCast] at z0 z1
          replace z0 := pw_cell_below HBi.out z0
          have HT := Aside0.mk (Sch.take_rdM s k (by omega))
          obtain ⟨q, hq⟩ : ∃ q, q = rd_T41 s k := ⟨_, rfl⟩
          rw [← hq] at z0 HT
          clear hq z1 hl3 hC2
          have HN : Aside0 (∀ b, anyM (s.take k) m = b → anyM (s.take (k + 1)) m = (b || (q.f0.toList == m.f0.toList))) := ⟨fun b e => by rw [HT.out, anyM_snoc, e]⟩
          cases h1 : anyM (s.take k) m with
          | true =>
            have H1 := Aside0.mk (HN.out _ h1)
            clear h1
            go_wp2
            go_quiet (fail)
            go_wp2
            go_roundg (i - (k + 1))
            case measure => omega
            case rel => exact ⟨k + 1, by go_num, val_bool (by rw [H1.out]; rfl), by omega, by omega, ⟨pw_below_drewN HBi.out _⟩⟩
          | false =>
            have H1 := Aside0.mk (HN.out _ h1)
            clear h1
            go_wp2
            go_quiet (fail)
            go_wp2
            go_roundg (i - (k + 1))
            case measure => omega
            case rel => exact ⟨k + 1, by go_num, val_bool (by rw [H1.out, Bool.false_or]), by omega, by omega, ⟨pw_below_drewN HBi.out _⟩⟩
        · obtain rfl : k = i := by omega
          have hnm := rname_calls m.f0 HNM.out
          cases hN : nameOk m.f0 with
          | false =>
            have HF0 := Aside0.mk (show right s = false from HNO.out (by rw [HEQ.out, hN]; rfl))
            rw [hN] at hnm
            clear hN
            go_wp2_with (go_at_call 23; refine (hnm _).mono ?_; rintro e w5 ⟨rfl, hb5⟩)
            refine bodyPost_ret (v := .tuple #[_, _, _]) (by simp [results, Try.results15, go_sem]; exact ⟨rfl, rfl, rfl⟩) rfl ?_
            exact RCheck.no HF0.out (by decide) (HBi.out.trans (hb5.mono HBi.out.size))
          | true =>
            have HN1 := Aside0.mk hN
            rw [hN] at hnm
            clear hN
            go_upto_region 13 with (go_at_call 23; refine (hnm _).mono ?_; rintro e w5 ⟨rfl, hb5⟩)
            replace y0 := pw_cell_below hb5 y0
            replace y1 := pw_cell_below hb5 y1
            have HB5 := Aside0.mk (HBi.out.trans (hb5.mono HBi.out.size))
            clear hb5 hnm HBi
            cases h1 : anyM (s.take k) m with
            | true =>
              have HF0 := Aside0.mk (show right s = false from HNO.out (by rw [HEQ.out, HN1.out, h1]; rfl))
              clear h1
              go_wp2
              refine bodyPost_ret (v := .tuple #[_, _, _]) (by simp [results, Try.results15, go_sem]; exact ⟨rfl, rfl, rfl⟩) rfl ?_
              exact RCheck.no HF0.out (by decide) HB5.out
            | false =>
              have H1 := Aside0.mk h1
              clear h1
              by_cases hl : 200 < m.f1.length
              · have hl' : (200 : Int) < m.f1.length := by omega
                have HF0 := Aside0.mk (show right s = false from HNO.out (by rw [HEQ.out, HN1.out, H1.out, decide_eq_false (show ¬ m.f1.length ≤ 200 by omega)]; rfl))
                go_wp2
                refine bodyPost_ret (v := .tuple #[_, _, _]) (by simp [results, Try.results15, go_sem]; exact ⟨rfl, rfl, rfl⟩) rfl ?_
                exact RCheck.no HF0.out (by decide) HB5.out
              · have hl' : (m.f1.length : Int) ≤ 200 := by omega
                have HEQ2 : Aside0 (∀ b, fieldsOk s.length m.f1 = b → msgOk s.length (s.take k) m = b) := ⟨fun b e => by rw [HEQ.out, HN1.out, H1.out, decide_eq_true (show m.f1.length ≤ 200 by omega), e]; cases b <;> rfl⟩
                clear y0
                go_wp2
                go_loopg [8] m.f1.length (fun kq v8 wj => ∃ j : Nat, v8 = .int .i64 j ∧ j ≤ m.f1.length ∧ m.f1.length - j ≤ kq ∧ Aside0 (∀ t, t < j → fieldOk s.length (m.f1.take t) (rd_T38 m.f1 t) = true) ∧ Aside0 (Below w.heap.size w wj))
                case atStart => exact ⟨0, rfl, by omega, by omega, ⟨fun t ht => absurd ht (by omega)⟩, HB5⟩
                case round =>
                  obtain ⟨j, rfl, hj, hg6, HFJ, HBj⟩ := hrel
                  clear y1
                  have y1 := pw_cell_below HBj.out Y1.out
                  by_cases hlj : j < m.f1.length
                  · have hlj' : (j : Int) < m.f1.length := by omega
                    have hfc := HFLT.out wr HBj.out j hlj
                    cases hO : fieldOk s.length (m.f1.take j) (rd_T38 m.f1 j) with
                    | false =>
                      have HF0 := Aside0.mk (show right s = false from HNO.out (HEQ2.out _ (fieldsOk_not hlj hO)))
                      have HFC := Aside0.mk (fault_no hfc hO)
                      clear hO hfc
                      go_wp2_with (go_at_call 24; refine HFC.out.mono ?_; rintro e w6 ⟨r, rfl, hr1, hr2, hb6⟩)
                      refine bodyPost_ret (v := .tuple #[_, _, _]) (by simp [results, Try.results15, go_sem]; exact ⟨rfl, rfl, rfl⟩) rfl ?_
                      exact RCheck.no HF0.out ⟨hr1, hr2⟩ (HBj.out.trans (hb6.mono HBj.out.size))
                    | true =>
                      have HO := Aside0.mk hO
                      have HFC := Aside0.mk (fault_yes hfc hO)
                      clear hO hfc
                      go_wp2_with (go_at_call 24; refine HFC.out.mono ?_; rintro e w6 ⟨rfl, hb6⟩)
                      go_roundg (m.f1.length - (j + 1))
                      case measure => omega
                      case rel =>
                        refine ⟨j + 1, by go_num, by omega, by omega, ⟨fun t ht => ?_⟩, ⟨HBj.out.trans (hb6.mono HBj.out.size)⟩⟩
                        by_cases e : t = j
                        · subst e; exact HO.out
                        · exact HFJ.out t (by omega)
                  · obtain rfl : j = m.f1.length := by omega
                    have HOK := Aside0.mk (HYS.out (HEQ2.out _ (fieldsOk_yes HFJ.out)))
                    go_wp2
                    go_roundg (s.length - (k + 1))
                    case measure => omega
                    case rel => exact ⟨k + 1, by go_num, by omega, by omega, HOK, HBj⟩
    · obtain rfl : i = s.length := by omega
      have HF := Aside0.mk (right_yes (s := s) (by omega) (by omega) HM.out)
      go_wp2
      refine bodyPost_ret (v := .tuple #[_, _, _]) (by simp [results, Try.results15, go_sem]; exact ⟨rfl, rfl, rfl⟩) rfl ?_
      exact ⟨0, 0, 0, rfl, .inl ⟨HF.out, rfl⟩, HB.out⟩
set_option maxHeartbeats 4000000 in
theorem rright_calls (A : Option Addr) (c : Nat) (s : List Msg) (w : World) (hr : Kd.C k41 w A s.length s) (hz : Sized s) :
    Calls Try.prog 8 #[.slice A s.length c] w fun e w' => e = .returned (.bool (right s)) ∧ Below w.heap.size w w' := by
  have hcall := rcheck_calls A c s w hr hz
  clear hr hz
  go_enter Try.func8, Try.ntmps8
  go_upto_region 2 with (go_at_call 15; refine hcall.mono ?_; rintro e w2 ⟨a, b, d, rfl, hcd, hb⟩)
  have HB := Aside0.mk hb
  rcases hcd with ⟨hR, rfl⟩ | ⟨hR, h1, h2⟩
  · have HR := Aside0.mk hR
    clear hb hcall hR
    go_wp2
    go_ret
    exact ⟨ret_bool HR.out.symm, HB.out⟩
  · have HR := Aside0.mk hR
    have hd : (d == 0) = false := by simp; omega
    clear hb hcall hR
    go_wp2
    go_ret
    exact ⟨ret_bool HR.out.symm, HB.out⟩
end Go.Proofs.Ytdkhmnmngokmmaa.Rf
