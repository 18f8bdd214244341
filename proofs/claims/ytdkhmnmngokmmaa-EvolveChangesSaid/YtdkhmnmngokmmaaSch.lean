/- Contracts of package schema. -/
import Derived.Test.YtdkhmnmngokmmaaSpec
import Derived.Test.YtdkhmnmngokmmaaKind
import Derived.Outline
namespace Go.Proofs.Ytdkhmnmngokmmaa.Sch
open Go.RowKit Go.Maps Go.Proofs.Ytdkhmnmngokmmaa.B Go.Proofs.Ytdkhmnmngokmmaa.K Go.Proofs.Ytdkhmnmngokmmaa.Spec Go.Proofs.YtdkhmnmngokmmaaW.PrintWords
set_option linter.unusedVariables false
set_option linter.unusedSimpArgs false

theorem letter_eq (c : Int) (h0 : 0 ≤ c) (h1 : c ≤ 255) : ((decide (97 ≤ Go.bits .or .u8 c 32) && decide (Go.bits .or .u8 c 32 ≤ 122)) || c == 95) = isLet c := by
  obtain ⟨n, rfl⟩ := Int.eq_ofNat_of_zero_le h0
  have : ∀ n : Nat, n < 256 → ((decide (97 ≤ Go.bits .or .u8 (n : Int) 32) && decide (Go.bits .or .u8 (n : Int) 32 ≤ 122)) || (n : Int) == 95) = isLet n := by decide +kernel
  exact this n (by omega)
set_option maxHeartbeats 1000000 in
theorem letter_calls (c : Int) (h0 : 0 ≤ c) (h1 : c ≤ 255) (w : World) :
    Calls Try.prog 43 #[.int .u8 c] w fun e w' => e = .returned (.bool (isLet c)) ∧ w = w' := by
  have HL := Lib.hid (letter_eq c h0 h1)
  go_enter Try.func43, Try.ntmps43
  go_wp2
  all_goals
    go_ret
    exact ⟨ret_bool (by rw [← HL.out]; first | (simp [*]; done) | (simp [*]; omega)), rfl⟩
set_option maxHeartbeats 1000000 in
theorem usable_calls (c : Int) (w : World) :
    Calls Try.prog 44 #[.int .i64 c] w fun e w' => e = .returned (.bool (usable c)) ∧ w = w' := by
  go_enter Try.func44, Try.ntmps44
  go_wp2
  all_goals
    go_ret
    exact ⟨ret_bool (by first | (simp [usable, *]; done) | (simp [usable, *]; omega)), rfl⟩
set_option maxHeartbeats 1000000 in
theorem kindRight_calls (c : Int) (w : World) :
    Calls Try.prog 45 #[.int .i64 c] w fun e w' => e = .returned (.bool (kindIn c)) ∧ w = w' := by
  go_enter Try.func45, Try.ntmps45
  go_wp2
  all_goals
    go_ret
    exact ⟨ret_bool (by first | (simp [kindIn, *]; done) | (simp [kindIn, *]; omega)), rfl⟩

set_option maxHeartbeats 4000000 in
theorem named_calls (s : ByteArray) (hs : s.size ≤ 9223372036854775807) (w : World) :
    Calls Try.prog 36 #[.string s] w fun e w' => e = .returned (.bool (nameOk s)) ∧ Drawn0 w w' := by
  go_enter Try.func36, Try.ntmps36
  go_wp2
  go_loopg [3, 6] s.size (fun kq v3 v6 w' => ∃ k : Nat, v6 = .int .i64 k ∧ k ≤ s.size ∧ s.size - k ≤ kq ∧ Aside0 (∀ j, j < k → nb j (bt s j) = true) ∧ Drawn0 w w')
  case atStart => exact ⟨0, rfl, by omega, by omega, ⟨by simp⟩, Drawn0.refl _⟩
  case round =>
    obtain ⟨k, rfl, hk, hg, HA, HD⟩ := hrel
    by_cases hlt : k < s.size
    · have h1 : (k : Int) < s.size := by omega
      have hbb := bt_at s k (by omega)
      simp only [Int.toNat_natCast] at hbb
      have hr := bt_range s k
      have hlc := letter_calls (bt s k) hr.1 hr.2
      have hno : nb k (bt s k) = false → nameOk s = false := nameOk_not hlt
      have hyes : nb k (bt s k) = true → ∀ j, j < k + 1 → nb j (bt s j) = true := fun h j hj => by
        by_cases e : j = k
        · rw [e]; exact h
        · exact HA.out j (by omega)
      have Hno := Aside0.mk hno
      have Hyes := Aside0.mk hyes
      clear hno hyes
      have Hd : Aside0 (∀ b, isLet (bt s k) = b → nb k (bt s k) = (b || (decide (0 < k) && isDig (bt s k)))) := ⟨fun b e => by unfold nb; rw [e]⟩
      cases hL : isLet (bt s k) with
      | true =>
        rw [hL] at hlc
        have HL := Lib.hid hL
        clear hL
        go_wp2_with (go_at_call 43; refine (hlc _).mono ?_; rintro e w' ⟨rfl, rfl⟩)
        go_roundg (s.size - (k + 1))
        case measure => omega
        case rel => exact ⟨k + 1, by go_num, by omega, by omega, ⟨Hyes.out (by rw [Hd.out _ HL.out]; rfl)⟩, HD⟩
      | false =>
        rw [hL] at hlc
        have HL := Lib.hid hL
        clear hL
        by_cases hz : k = 0
        · subst hz
          go_wp2_with (go_at_call 43; refine (hlc _).mono ?_; rintro e w' ⟨rfl, rfl⟩)
          go_ret
          exact ⟨ret_bool (Hno.out (by rw [Hd.out _ HL.out]; rfl)).symm, HD⟩
        · have hz' : ((k : Int) == 0) = false := by simp [hz]
          go_wp2_with (go_at_call 43; refine (hlc _).mono ?_; rintro e w' ⟨rfl, rfl⟩)
          all_goals first
            | (go_ret; exact ⟨ret_bool (Hno.out (by rw [Hd.out _ HL.out]; simp only [isDig]; simp; omega)).symm, HD⟩)
            | (go_roundg (s.size - (k + 1)); (case measure => omega); (case rel => exact ⟨k + 1, by go_num, by omega, by omega, ⟨Hyes.out (by rw [Hd.out _ HL.out]; simp only [isDig]; simp; omega)⟩, HD⟩))
    · have hkk : k = s.size := by omega
      have hn := nameOk_all (s := s) (fun j hj => HA.out j (by omega))
      have Hn := Aside0.mk hn
      clear hn
      have he := empty_size s
      by_cases h0 : s.size = 0
      · rw [decide_eq_true h0] at he
        go_wp2
        go_ret
        exact ⟨ret_bool (by rw [Hn.out]; simp [h0]), HD⟩
      · rw [decide_eq_false h0] at he
        have hl : ¬ s.toList = [] := fun e => by rw [e] at he; simp at he
        go_wp2
        go_ret
        exact ⟨ret_bool (by rw [Hn.out, decide_eq_true (show 1 ≤ s.size by omega), Bool.true_and]; simp; omega), HD⟩
end Go.Proofs.Ytdkhmnmngokmmaa.Sch
