/- evolve.Changes, Breaks, Reads. -/
import Derived.Test.YtdkhmnmngokmmaaEv7
namespace Go.Proofs.Ytdkhmnmngokmmaa.Ev
open Go.RowKit Go.Maps Go.Proofs.Ytdkhmnmngokmmaa.B Go.Proofs.Ytdkhmnmngokmmaa.K Go.Proofs.Ytdkhmnmngokmmaa.Spec Go.Proofs.Ytdkhmnmngokmmaa.Sch Go.Proofs.YtdkhmnmngokmmaaW.PrintWords
set_option linter.unusedVariables false
set_option linter.unusedSimpArgs false

theorem chRes_len (a b : List Msg) : (chRes a b).1.length ≤ 1000000 := by
  unfold chRes
  cases hA : right a <;> cases hB : right b <;> simp
  unfold changesCh
  have h1 := firsts_len hA hB a.length
  have h2 := seconds_len (a := a) hB b.length
  rw [List.take_length] at h1 h2
  rw [List.length_append]
  omega
theorem chRes_cd (a b : List Msg) : (chRes a b).2 = 0 ∨ (chRes a b).2 = 9 := by
  unfold chRes
  split
  · exact .inl rfl
  · exact .inr rfl
set_option maxHeartbeats 4000000 in
set_option maxRecDepth 100000 in
theorem changesR_calls (a b : List Msg) (A B : Option Addr) (ca cb : Nat) (w : World) (ha : Kd.C k41 w A a.length a) (hb : Kd.C k41 w B b.length b) (hca : a.length ≤ ca) (hcb : b.length ≤ cb) (sa : Sized a) (sb : Sized b) :
    Calls Try.prog 6 #[.slice A a.length ca, .slice B b.length cb] w fun e w' =>
      ∃ v, e = .returned (.tuple #[v, .int .u8 (chRes a b).2]) ∧ Kd.R k36 36 w' w.heap.size (fun _ => True) v (toldCh (fun _ => true) (chRes a b).1) ∧ Below w.heap.size w w' := by
  have hcall := changes_calls a b A B ca cb w ha hb hca hcb sa sb
  have HL := Aside0.mk (chRes_len a b)
  generalize (chRes a b).1 = l at hcall HL ⊢
  generalize (chRes a b).2 = cd at hcall ⊢
  clear ha hb sa sb
  go_enter Try.func6, Try.ntmps6
  go_wp2_with (first
    | (go_at_call 11; refine hcall.mono ?_; rintro e w1 ⟨v1, rfl, hr1, hb1⟩; obtain ⟨A1, c1, rfl, hl1, hC1⟩ := Kd.R_reads hr1)
    | (go_at_call 12; refine (told_calls 13 (fun _ => true) (enters_of Try.func13 (by kernel_rfl) rfl) all_calls A1 c1 l _ hC1 HL.out).mono ?_; rintro e w2 ⟨v2, rfl, hr2, hb2⟩))
  go_ret2
  exact ⟨_, rfl, Kd.R_lower hr2 hb1.size, hb1.trans (hb2.mono hb1.size)⟩
set_option maxHeartbeats 4000000 in
set_option maxRecDepth 100000 in
theorem breaksR_calls (a b : List Msg) (A B : Option Addr) (ca cb : Nat) (w : World) (ha : Kd.C k41 w A a.length a) (hb : Kd.C k41 w B b.length b) (hca : a.length ≤ ca) (hcb : b.length ≤ cb) (sa : Sized a) (sb : Sized b) :
    Calls Try.prog 7 #[.slice A a.length ca, .slice B b.length cb] w fun e w' =>
      ∃ v, e = .returned (.tuple #[v, .int .u8 (chRes a b).2]) ∧ Kd.R k36 36 w' w.heap.size (fun _ => True) v (toldCh breaksB (chRes a b).1) ∧ Below w.heap.size w w' := by
  have hcall := changes_calls a b A B ca cb w ha hb hca hcb sa sb
  have HL := Aside0.mk (chRes_len a b)
  generalize (chRes a b).1 = l at hcall HL ⊢
  generalize (chRes a b).2 = cd at hcall ⊢
  clear ha hb sa sb
  go_enter Try.func7, Try.ntmps7
  go_wp2_with (first
    | (go_at_call 11; refine hcall.mono ?_; rintro e w1 ⟨v1, rfl, hr1, hb1⟩; obtain ⟨A1, c1, rfl, hl1, hC1⟩ := Kd.R_reads hr1)
    | (go_at_call 12; refine (told_calls 14 breaksB (enters_of Try.func14 (by kernel_rfl) rfl) breaks_calls A1 c1 l _ hC1 HL.out).mono ?_; rintro e w2 ⟨v2, rfl, hr2, hb2⟩))
  go_ret2
  exact ⟨_, rfl, Kd.R_lower hr2 hb1.size, hb1.trans (hb2.mono hb1.size)⟩

def readsB (a b : List Msg) : Bool := (chRes a b).2 == 0 && (toldCh breaksB (chRes a b).1).length == 0
set_option maxHeartbeats 4000000 in
set_option maxRecDepth 100000 in
theorem reads_calls (a b : List Msg) (A B : Option Addr) (ca cb : Nat) (w : World) (ha : Kd.C k41 w A a.length a) (hb : Kd.C k41 w B b.length b) (hca : a.length ≤ ca) (hcb : b.length ≤ cb) (sa : Sized a) (sb : Sized b) :
    Calls Try.prog 9 #[.slice A a.length ca, .slice B b.length cb] w fun e w' => e = .returned (.bool (readsB a b)) ∧ Below w.heap.size w w' := by
  have hcall := breaksR_calls a b A B ca cb w ha hb hca hcb sa sb
  have HL := Aside0.mk (Nat.le_trans (toldCh_len breaksB _) (chRes_len a b))
  have hc := chRes_cd a b
  unfold readsB
  generalize toldCh breaksB (chRes a b).1 = l at hcall HL ⊢
  generalize (chRes a b).2 = cd at hcall hc ⊢
  clear ha hb sa sb
  rcases hc with rfl | rfl
  · cases hl0 : ((l.length : Int) == 0) with
    | true =>
      have hR : (((0 : Int) == 0) && (l.length == 0)) = true := by simp at hl0; simp [hl0]
      have HRR := Aside0.mk hR
      rw [hR]
      clear hR
      go_enter Try.func9, Try.ntmps9
      go_wp2_with (go_at_call 7; refine hcall.mono ?_; rintro e w1 ⟨v1, rfl, hr1, hb1⟩; obtain ⟨A1, c1, rfl, hl1, hC1⟩ := Kd.R_reads hr1)
      go_ret
      exact ⟨rfl, hb1⟩
    | false =>
      have hR : (((0 : Int) == 0) && (l.length == 0)) = false := by simp at hl0; simp [hl0]
      have HRR := Aside0.mk hR
      rw [hR]
      clear hR
      go_enter Try.func9, Try.ntmps9
      go_wp2_with (go_at_call 7; refine hcall.mono ?_; rintro e w1 ⟨v1, rfl, hr1, hb1⟩; obtain ⟨A1, c1, rfl, hl1, hC1⟩ := Kd.R_reads hr1)
      go_ret
      exact ⟨rfl, hb1⟩
  · rw [show (((9 : Int) == 0) && (l.length == 0)) = false from rfl]
    go_enter Try.func9, Try.ntmps9
    go_wp2_with (go_at_call 7; refine hcall.mono ?_; rintro e w1 ⟨v1, rfl, hr1, hb1⟩; obtain ⟨A1, c1, rfl, hl1, hC1⟩ := Kd.R_reads hr1)
    go_ret
    exact ⟨rfl, hb1⟩
end Go.Proofs.Ytdkhmnmngokmmaa.Ev
