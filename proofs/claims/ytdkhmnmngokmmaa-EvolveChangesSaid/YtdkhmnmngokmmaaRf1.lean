/- The reference of layer 7: Name, Right of a kind, Number. -/
import Derived.Test.YtdkhmnmngokmmaaEv8
namespace Go.Proofs.Ytdkhmnmngokmmaa.Rf
open Go.RowKit Go.Maps Go.Proofs.Ytdkhmnmngokmmaa.B Go.Proofs.Ytdkhmnmngokmmaa.K Go.Proofs.Ytdkhmnmngokmmaa.Spec Go.Proofs.Ytdkhmnmngokmmaa.Sch Go.Proofs.Ytdkhmnmngokmmaa.Ev Go.Proofs.YtdkhmnmngokmmaaW.PrintWords
set_option linter.unusedVariables false
set_option linter.unusedSimpArgs false

theorem rkind_calls (k : Int) (w : World) : Calls Try.prog 34 #[.int .i64 k] w fun e w' => e = .returned (.bool (kindIn k)) ∧ w = w' := by
  go_enter Try.func34, Try.ntmps34
  go_wp2
  all_goals
    go_ret
    exact ⟨ret_bool (by unfold kindIn; simp; try omega), rfl⟩
theorem rnum_calls (k : Int) (w : World) : Calls Try.prog 35 #[.int .i64 k] w fun e w' => e = .returned (.bool (isNum k)) ∧ w = w' := by
  go_enter Try.func35, Try.ntmps35
  go_wp2
  all_goals
    go_ret
    exact ⟨ret_bool (by unfold isNum; simp; try omega), rfl⟩
set_option maxHeartbeats 4000000 in
theorem rname_calls (s : ByteArray) (hs : s.size ≤ 9223372036854775807) (w : World) :
    Calls Try.prog 23 #[.string s] w fun e w' => e = .returned (.bool (nameOk s)) ∧ Below w.heap.size w w' := by
  go_enter Try.func23, Try.ntmps23
  go_wp2
  go_loopg [3] s.size (fun kq v3 w' => ∃ k : Nat, v3 = .int .i64 k ∧ k ≤ s.size ∧ s.size - k ≤ kq ∧ Aside0 (∀ j, j < k → nb j (bt s j) = true) ∧ Aside0 (Below w.heap.size w w'))
  case atStart => exact ⟨0, rfl, by omega, by omega, ⟨by simp⟩, ⟨Below.refl _ _⟩⟩
  case round =>
    obtain ⟨k, rfl, hk, hg, HA, HD⟩ := hrel
    by_cases hlt : k < s.size
    · have h1 : (k : Int) < s.size := by omega
      have hbb := bt_at s k (by omega)
      simp only [Int.toNat_natCast] at hbb
      have Hr := Aside0.mk (bt_range s k)
      have hno : nb k (bt s k) = false → nameOk s = false := nameOk_not hlt
      have hyes : nb k (bt s k) = true → ∀ j, j < k + 1 → nb j (bt s j) = true := fun h j hj => by
        by_cases e : j = k
        · rw [e]; exact h
        · exact HA.out j (by omega)
      have Hno := Aside0.mk hno
      have Hyes := Aside0.mk hyes
      clear hno hyes
      obtain ⟨c, hc⟩ : ∃ c, c = bt s k := ⟨_, rfl⟩
      have HC := Aside0.mk hc
      rw [← hc] at hbb Hr Hno Hyes
      clear hc
      have Hn : Aside0 (nb k c = (((decide (65 ≤ c) && decide (c ≤ 90)) || (decide (97 ≤ c) && decide (c ≤ 122)) || c == 95) || (decide (0 < k) && (decide (48 ≤ c) && decide (c ≤ 57))))) := ⟨rfl⟩
      by_cases hz : k = 0
      · subst hz
        go_wp2
        all_goals first
          | (exfalso; simp only [Bool.not_eq_eq_eq_not, Bool.not_true, Bool.not_false, decide_eq_false_iff_not, decide_eq_true_eq, beq_eq_false_iff_ne, beq_iff_eq, ne_eq] at *; omega)
          | ((try simp only [Bool.not_eq_eq_eq_not, Bool.not_true, Bool.not_false, decide_eq_false_iff_not, decide_eq_true_eq, beq_eq_false_iff_ne, beq_iff_eq, ne_eq] at *); go_ret; exact ⟨ret_bool (Hno.out (by rw [Hn.out]; first | (simp [*]; done) | (simp <;> omega) | (simp [*] <;> omega))).symm, HD.out⟩)
          | ((try simp only [Bool.not_eq_eq_eq_not, Bool.not_true, Bool.not_false, decide_eq_false_iff_not, decide_eq_true_eq, beq_eq_false_iff_ne, beq_iff_eq, ne_eq] at *); go_roundg (s.size - (0 + 1)); (case measure => omega); (case rel => exact ⟨0 + 1, by go_num, by omega, by omega, ⟨Hyes.out (by rw [Hn.out]; first | (simp [*]; done) | (simp <;> omega) | (simp [*] <;> omega))⟩, HD⟩))
      · have hz' : (0 : Int) < k := by omega
        go_wp2
        all_goals first
          | (exfalso; simp only [Bool.not_eq_eq_eq_not, Bool.not_true, Bool.not_false, decide_eq_false_iff_not, decide_eq_true_eq, beq_eq_false_iff_ne, beq_iff_eq, ne_eq] at *; omega)
          | ((try simp only [Bool.not_eq_eq_eq_not, Bool.not_true, Bool.not_false, decide_eq_false_iff_not, decide_eq_true_eq, beq_eq_false_iff_ne, beq_iff_eq, ne_eq] at *); go_ret; exact ⟨ret_bool (Hno.out (by rw [Hn.out]; first | (simp [*]; done) | (simp <;> omega) | (simp [*] <;> omega))).symm, HD.out⟩)
          | ((try simp only [Bool.not_eq_eq_eq_not, Bool.not_true, Bool.not_false, decide_eq_false_iff_not, decide_eq_true_eq, beq_eq_false_iff_ne, beq_iff_eq, ne_eq] at *); go_roundg (s.size - (k + 1)); (case measure => omega); (case rel => exact ⟨k + 1, by go_num, by omega, by omega, ⟨Hyes.out (by rw [Hn.out]; first | (simp [*]; done) | (simp <;> omega) | (simp [*] <;> omega))⟩, HD⟩))
    · have hkk : k = s.size := by omega
      have hn := nameOk_all (s := s) (fun j hj => HA.out j (by omega))
      have Hn := Aside0.mk hn
      clear hn
      go_wp2
      all_goals
        go_ret
        refine ⟨ret_bool ?_, HD.out⟩
        rw [Hn.out]
        first
          | (rw [decide_eq_true (show 1 ≤ s.size by omega), Bool.true_and]; exact decide_eq_decide.2 (by omega))
          | (rw [decide_eq_false (show ¬ 1 ≤ s.size by omega), Bool.false_and])
end Go.Proofs.Ytdkhmnmngokmmaa.Rf
