/- The references: Named, name of a field's message, Field of a number. -/
import Derived.Test.YtdkhmnmngokmmaaRf4
namespace Go.Proofs.Ytdkhmnmngokmmaa.Rf
open Go.RowKit Go.Maps Go.Proofs.Ytdkhmnmngokmmaa.B Go.Proofs.Ytdkhmnmngokmmaa.K Go.Proofs.Ytdkhmnmngokmmaa.Spec Go.Proofs.Ytdkhmnmngokmmaa.Sch Go.Proofs.Ytdkhmnmngokmmaa.Ev Go.Proofs.YtdkhmnmngokmmaaW.PrintWords
set_option linter.unusedVariables false
set_option linter.unusedSimpArgs false
set_option maxHeartbeats 4000000 in
theorem rnamed_calls (A : Option Addr) (c : Nat) (s : List Msg) (n : ByteArray) (w : World) (hr : Kd.C k41 w A s.length s) :
    Calls Try.prog 16 #[.slice A s.length c, .string n] w fun e w' => e = .returned (.int .i64 (idxI (findM s n))) ∧ Below w.heap.size w w' := by
  have hu := Try.underlying41
  have HR := Aside0.mk hr
  have hmx : s.length ≤ 9223372036854775807 := hr.2.1
  clear hr
  go_enter Try.func16, Try.ntmps16
  go_wp2
  go_loopg [5] s.length (fun kq v5 wr => ∃ k : Nat, v5 = .int .i64 k ∧ k ≤ s.length ∧ s.length - k ≤ kq ∧ Aside0 (∀ j (hj : j < s.length), j < k → decide (s[j].f0 = n) = false) ∧ Aside0 (Below w.heap.size w wr))
  case atStart => exact ⟨0, rfl, by omega, by omega, ⟨fun j hj h => absurd h (by omega)⟩, ⟨Below.refl _ _⟩⟩
  case round =>
    obtain ⟨k, rfl, hk, hg, HA, HB⟩ := hrel
    by_cases hlt : k < s.length
    · have hlt' : (k : Int) < s.length := by omega
      obtain ⟨ad, A1, c1, e, x0, x1, hl, hif⟩ := at_T41 HR.out k (by omega) hlt'
      cases e
      simp only [Int.toNat_natCast] at x0 x1
      replace x0 := pw_cell_below HB.out x0
      have HE := Aside0.mk (rdM_eq s k hlt)
      obtain ⟨m, hm⟩ : ∃ m, m = rd_T41 s k := ⟨_, rfl⟩
      rw [← hm] at x0 HE
      clear hm hl hif x1
      cases hq : (m.f0.toList == n.toList) with
      | true =>
        have Hq := Aside0.mk (show decide (s[k].f0 = n) = true by rw [← HE.out, ← toList_beq]; exact hq)
        go_wp2
        go_ret
        refine ⟨ret_int ?_, HB.out⟩
        unfold findM
        rw [idx_hit _ s k hlt Hq.out (fun j hj => HA.out j _ hj)]
        rfl
      | false =>
        have Hq := Aside0.mk (show decide (s[k].f0 = n) = false by rw [← HE.out, ← toList_beq]; exact hq)
        go_wp2
        go_roundg (s.length - (k + 1))
        case measure => omega
        case rel =>
          refine ⟨k + 1, by go_num, by omega, by omega, ⟨fun j hj h => ?_⟩, HB⟩
          by_cases e : j = k
          · subst e; exact Hq.out
          · exact HA.out j hj (by omega)
    · go_wp2
      go_ret
      refine ⟨ret_int ?_, HB.out⟩
      unfold findM
      rw [idx_miss _ s (fun j hj => HA.out j hj (by omega))]
      rfl
/-- The place of the first field of a number. -/
def fieldIx (fs : List Fld) (n : Int) : Option Nat := fs.findIdx? fun f => f.f1 == n
set_option maxHeartbeats 4000000 in
theorem rfield_calls (m : Msg) (A : Option Addr) (c : Nat) (n : Int) (w : World) (hr : Kd.C k38 w A m.f1.length m.f1) :
    Calls Try.prog 18 #[.agg #[.string m.f0, .slice A m.f1.length c], .int .i64 n] w fun e w' => e = .returned (.int .i64 (idxI (fieldIx m.f1 n))) ∧ Below w.heap.size w w' := by
  have hu := Try.underlying41
  have hu2 := Try.underlying38
  have HR := Aside0.mk hr
  have hmx : m.f1.length ≤ 9223372036854775807 := hr.2.1
  have HB0 := Aside0.mk (below_alloc' (Below.refl _ w) (.cells #[.string m.f0, .slice A m.f1.length c] 41))
  have HX0 := Aside0.mk (alloc_at w (.cells #[.string m.f0, .slice A m.f1.length c] 41))
  clear hr
  go_enter Try.func18, Try.ntmps18
  go_wp2
  go_loopg [5] m.f1.length (fun kq v5 wr => ∃ k : Nat, v5 = .int .i64 k ∧ k ≤ m.f1.length ∧ m.f1.length - k ≤ kq ∧ Aside0 (∀ j (hj : j < m.f1.length), j < k → (m.f1[j].f1 == n) = false) ∧ wr = w.alloc (.cells #[.string m.f0, .slice A m.f1.length c] 41))
  case atStart => exact ⟨0, rfl, by omega, by omega, ⟨fun j hj h => absurd h (by omega)⟩, rfl⟩
  case round =>
    obtain ⟨k, rfl, hk, hg, HA, rfl⟩ := hrel
    have x0 := cellOf HX0.out 0
    have x1 := cellOf HX0.out 1
    simp only [List.getElem?_toArray, List.getElem?_cons_zero, List.getElem?_cons_succ] at x0 x1
    by_cases hlt : k < m.f1.length
    · have hlt' : (k : Int) < m.f1.length := by omega
      obtain ⟨ad, e, y0, y1, y2, y3, y4, y5⟩ := at_T38 HR.out k (by omega) hlt'
      cases e
      simp only [Int.toNat_natCast] at y1
      replace y1 := pw_cell_below HB0.out y1
      have HE := Aside0.mk (rdF_eq m.f1 k hlt)
      obtain ⟨q, hq⟩ : ∃ q, q = rd_T38 m.f1 k := ⟨_, rfl⟩
      rw [← hq] at y1 HE
      clear hq y0 y2 y3 y4 y5
      cases hq : (q.f1 == n) with
      | true =>
        have Hq := Aside0.mk (show (m.f1[k].f1 == n) = true by rw [← HE.out]; exact hq)
        go_wp2
        go_ret
        refine ⟨ret_int ?_, HB0.out⟩
        unfold fieldIx
        rw [idx_hit _ m.f1 k hlt Hq.out (fun j hj => HA.out j _ hj)]
        rfl
      | false =>
        have Hq := Aside0.mk (show (m.f1[k].f1 == n) = false by rw [← HE.out]; exact hq)
        go_wp2
        go_roundg (m.f1.length - (k + 1))
        case measure => omega
        case rel =>
          refine ⟨k + 1, by go_num, by omega, by omega, ⟨fun j hj h => ?_⟩, rfl⟩
          by_cases e : j = k
          · subst e; exact Hq.out
          · exact HA.out j hj (by omega)
    · go_wp2
      go_ret
      refine ⟨ret_int ?_, HB0.out⟩
      unfold fieldIx
      rw [idx_miss _ m.f1 (fun j hj => HA.out j hj (by omega))]
      rfl
set_option maxRecDepth 100000 in
theorem rfname_calls (s : List Msg) (A : Option Addr) (c : Nat) (f : Fld) (w : World) (hr : Kd.C k41 w A s.length s) (hf : OfOk s f) :
    Calls Try.prog 19 #[.slice A s.length c, .agg #[.string f.f0, .int .i64 f.f1, .int .i64 f.f2, .bool f.f3, .bool f.f4, .int .i64 f.f5]] w fun e w' => e = .returned (.string (nmOf s f)) ∧ Below w.heap.size w w' := by
  have hu := Try.underlying41
  have hu2 := Try.underlying38
  by_cases h17 : f.f2 = 17
  · obtain ⟨h0, h1⟩ := hf h17
    obtain ⟨ad, A1, c1, e, x0, x1, hl, hif⟩ := at_T41 hr f.f5 h0 h1
    cases e
    have hnm : nmOf s f = (rd_T41 s f.f5).f0 := by unfold nmOf; rw [if_pos h17]
    rw [hnm]
    have h17' : (f.f2 == 17) = true := beq_iff_eq.2 h17
    have hbl := World.block_lt_of_cell? w _ x0
    clear hr hf hnm h17 x1 hl hif
    go_enter Try.func19, Try.ntmps19
    go_wp2
    go_ret
    exact ⟨rfl, below_alloc' (Below.refl _ _) _⟩
  · have hnm : nmOf s f = ⟨#[]⟩ := by unfold nmOf; rw [if_neg h17]
    rw [hnm]
    have h17' : (f.f2 == 17) = false := beq_eq_false_iff_ne.2 h17
    clear hr hf hnm h17
    go_enter Try.func19, Try.ntmps19
    go_wp2
    go_ret
    exact ⟨rfl, below_alloc' (Below.refl _ _) _⟩
end Go.Proofs.Ytdkhmnmngokmmaa.Rf
