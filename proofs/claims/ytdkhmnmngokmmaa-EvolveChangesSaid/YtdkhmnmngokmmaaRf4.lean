/- Few of a schema. -/
import Derived.Test.YtdkhmnmngokmmaaRf3
namespace Go.Proofs.Ytdkhmnmngokmmaa.Rf
open Go.RowKit Go.Maps Go.Proofs.Ytdkhmnmngokmmaa.B Go.Proofs.Ytdkhmnmngokmmaa.K Go.Proofs.Ytdkhmnmngokmmaa.Spec Go.Proofs.Ytdkhmnmngokmmaa.Sch Go.Proofs.Ytdkhmnmngokmmaa.Ev Go.Proofs.YtdkhmnmngokmmaaW.PrintWords
set_option linter.unusedVariables false
set_option linter.unusedSimpArgs false
set_option maxHeartbeats 8000000 in
set_option maxRecDepth 100000 in
theorem few_calls (A : Option Addr) (c : Nat) (s : List Msg) (w : World) (hr : Kd.C k41 w A s.length s) (hz : Sized s) :
    Calls Try.prog 5 #[.slice A s.length c] w fun e w' => ∃ b : Bool, e = .returned (.bool b) ∧ Below w.heap.size w w' := by
  have hu := Try.underlying41
  have hu2 := Try.underlying38
  have HR := Aside0.mk hr
  have HZ := Aside0.mk hz
  have hsb : s.length ≤ 9223372036854775807 := hr.2.1
  clear hr hz
  go_enter Try.func5, Try.ntmps5
  go_wp2
  go_loopg [3, 4] s.length (fun kq v3 v4 wr => ∃ (i : Nat) (n : Int), v4 = .int .i64 i ∧ v3 = .int .i64 n ∧ i ≤ s.length ∧ s.length - i ≤ kq ∧ Aside0 (Below w.heap.size w wr))
  case atStart => exact ⟨0, 0, rfl, rfl, by omega, by omega, ⟨Below.refl _ _⟩⟩
  case round =>
    obtain ⟨i, n, rfl, rfl, hi, hg4, HB⟩ := hrel
    by_cases hlt : i < s.length
    · have hlt' : (i : Int) < s.length := by omega
      obtain ⟨ad, A1, c1, e, y0, y1, hl2, hC1⟩ := at_T41 HR.out i (by omega) hlt'
      cases e
      simp only [Int.toNat_natCast] at y0 y1
      have HNF := Aside0.mk (HZ.out i hlt).2
      have hnz := (HZ.out i hlt).1
      obtain ⟨m, hm⟩ : ∃ m, m = rd_T41 s i := ⟨_, rfl⟩
      rw [← hm] at y0 y1 HNF hC1 hnz
      have hmb : m.f1.length ≤ 9223372036854775807 := hC1.2.1
      have HC := Aside0.mk hC1
      clear hm hl2 hC1
      have Y0 := Aside0.mk y0
      have Y1 := Aside0.mk y1
      replace y0 := pw_cell_below HB.out y0
      replace y1 := pw_cell_below HB.out y1
      go_wp2
      go_quiet (fail)
      go_wp2
      go_loopg [3, 5] m.f1.length (fun kq v3 v5 wi => ∃ (k : Nat) (n : Int), v5 = .int .i64 k ∧ v3 = .int .i64 n ∧ k ≤ m.f1.length ∧ m.f1.length - k ≤ kq ∧ Aside0 (Below w.heap.size w wi))
      case atStart => exact ⟨0, _, rfl, rfl, by omega, by omega, ⟨pw_below_drewN HB.out _⟩⟩
      case round =>
        obtain ⟨k, n2, rfl, rfl, hk, hg5, HBi⟩ := hrel
        clear y0 y1
        have y0 := pw_cell_below HBi.out Y0.out
        have y1 := pw_cell_below HBi.out Y1.out
        by_cases hlk : k < m.f1.length
        · have hlk' : (k : Int) < m.f1.length := by omega
          obtain ⟨ad2, e, z0, z1, z2, z3, z4, z5⟩ := at_T38 HC.out k (by omega) hlk'
          cases e
          simp only [Int.toNat_natCast] at z0
          have hfz := HNF.out k hlk
          obtain ⟨q, hq⟩ : ∃ q, q = rd_T38 m.f1 k := ⟨_, rfl⟩
          rw [← hq] at z0 hfz
          clear hq z1 z2 z3 z4 z5
          replace z0 := pw_cell_below HBi.out z0
          go_wp2
          go_roundg (m.f1.length - (k + 1))
          case measure => omega
          case rel => exact ⟨k + 1, _, by go_num, rfl, by omega, by omega, HBi⟩
        · obtain rfl : k = m.f1.length := by omega
          go_wp2
          go_roundg (s.length - (i + 1))
          case measure => omega
          case rel => exact ⟨i + 1, _, by go_num, rfl, by omega, by omega, HBi⟩
    · obtain rfl : i = s.length := by omega
      go_wp2
      go_ret
      exact ⟨_, rfl, HB.out⟩
end Go.Proofs.Ytdkhmnmngokmmaa.Rf
