/- The law EvolveChanges: its walk. -/
import Derived.Test.YtdkhmnmngokmmaaLw1
namespace Go.Proofs.Ytdkhmnmngokmmaa.Lw
open Go.RowKit Go.Maps Go.Proofs.Ytdkhmnmngokmmaa.B Go.Proofs.Ytdkhmnmngokmmaa.K Go.Proofs.Ytdkhmnmngokmmaa.Spec Go.Proofs.Ytdkhmnmngokmmaa.Sch Go.Proofs.Ytdkhmnmngokmmaa.Ev Go.Proofs.Ytdkhmnmngokmmaa.Rf Go.Proofs.Ytdkhmnmngokmmaa.Al Go.Proofs.YtdkhmnmngokmmaaW.PrintWords
set_option linter.unusedVariables false
set_option linter.unusedSimpArgs false
section
variable (a b : List Msg) (A B : Option Addr) (ca cb : Nat) (w : World) (ha : Kd.C k41 w A a.length a) (hb : Kd.C k41 w B b.length b) (hca : a.length ≤ ca) (hcb : b.length ≤ cb) (sa : Sized a) (sb : Sized b)
include ha hb hca hcb sa sb
set_option maxHeartbeats 4000000 in
set_option maxRecDepth 100000 in
theorem law_ill1 (hRa : right a = false) : Calls Try.prog 3 #[.slice A a.length ca, .slice B b.length cb] w fun e w' => e = .returned (.bool true) ∧ Below w.heap.size w w' := by
  have HR := Aside0.mk (chRes_ill (a := a) (b := b) (by rw [hRa]; rfl))
  have RA := Aside0.mk hRa
  have HA := Aside0.mk ha
  have HB := Aside0.mk hb
  have SA := Aside0.mk sa
  have SB := Aside0.mk sb
  clear ha hb sa sb hRa
  go_enter Try.func3, Try.ntmps3
  go_wp2_with (first
    | (go_at_call 4; refine (alive_calls _).mono ?_; rintro e w1 ⟨rfl, hb1⟩; have B1 := Aside0.mk hb1; clear hb1)
    | (go_at_call 5; (with_reducible refine (few_calls A ca a _ (Kd.C_below HA.out B1.out) SA.out).mono ?_); rintro e w2 ⟨b2, rfl, hb2⟩; have B2 := Aside0.mk (bt B1.out hb2); clear hb2)
    | (go_at_call 5; (with_reducible refine (few_calls B cb b _ (Kd.C_below HB.out B2.out) SB.out).mono ?_); rintro e w3 ⟨b3, rfl, hb3⟩; have B3 := Aside0.mk (bt B2.out hb3); clear hb3)
    | (go_at_call 6; (with_reducible refine (changes_ill a b A B ca cb _ (Kd.C_below HA.out B3.out) (Kd.C_below HB.out B3.out) hca hcb SA.out SB.out HR.out).mono ?_); rintro e w4 ⟨A4, c4, rfl, hb4⟩; have B4 := Aside0.mk (bt B3.out hb4); clear hb4)
    | (go_at_call 7; (with_reducible refine (breaks_ill a b A B ca cb _ (Kd.C_below HA.out B4.out) (Kd.C_below HB.out B4.out) hca hcb SA.out SB.out HR.out).mono ?_); rintro e w5 ⟨A5, c5, rfl, hb5⟩; have B5 := Aside0.mk (bt B4.out hb5); clear hb5)
    | (go_at_call 8; (with_reducible refine (rright_r A ca a false RA.out _ (Kd.C_below HA.out B5.out) SA.out).mono ?_); rintro e w6 ⟨rfl, hb6⟩; have B6 := Aside0.mk (bt B5.out hb6); clear hb6)
    | (go_at_call 9; (with_reducible refine (reads_ill a b A B ca cb _ (Kd.C_below HA.out B6.out) (Kd.C_below HB.out B6.out) hca hcb SA.out SB.out HR.out).mono ?_); rintro e w7 ⟨rfl, hb7⟩; have B7 := Aside0.mk (bt B6.out hb7); clear hb7))
  all_goals (go_ret; first | exact ⟨rfl, B7.out⟩ | exact ⟨rfl, B3.out⟩ | exact ⟨rfl, B2.out⟩)
set_option maxHeartbeats 4000000 in
set_option maxRecDepth 100000 in
theorem law_ill2 (hRa : right a = true) (hRb : right b = false) : Calls Try.prog 3 #[.slice A a.length ca, .slice B b.length cb] w fun e w' => e = .returned (.bool true) ∧ Below w.heap.size w w' := by
  have HR := Aside0.mk (chRes_ill (a := a) (b := b) (by rw [hRa, hRb]; rfl))
  have RA := Aside0.mk hRa
  have RB := Aside0.mk hRb
  have HA := Aside0.mk ha
  have HB := Aside0.mk hb
  have SA := Aside0.mk sa
  have SB := Aside0.mk sb
  clear ha hb sa sb hRa hRb
  go_enter Try.func3, Try.ntmps3
  go_wp2_with (first
    | (go_at_call 4; refine (alive_calls _).mono ?_; rintro e w1 ⟨rfl, hb1⟩; have B1 := Aside0.mk hb1; clear hb1)
    | (go_at_call 5; (with_reducible refine (few_calls A ca a _ (Kd.C_below HA.out B1.out) SA.out).mono ?_); rintro e w2 ⟨b2, rfl, hb2⟩; have B2 := Aside0.mk (bt B1.out hb2); clear hb2)
    | (go_at_call 5; (with_reducible refine (few_calls B cb b _ (Kd.C_below HB.out B2.out) SB.out).mono ?_); rintro e w3 ⟨b3, rfl, hb3⟩; have B3 := Aside0.mk (bt B2.out hb3); clear hb3)
    | (go_at_call 6; (with_reducible refine (changes_ill a b A B ca cb _ (Kd.C_below HA.out B3.out) (Kd.C_below HB.out B3.out) hca hcb SA.out SB.out HR.out).mono ?_); rintro e w4 ⟨A4, c4, rfl, hb4⟩; have B4 := Aside0.mk (bt B3.out hb4); clear hb4)
    | (go_at_call 7; (with_reducible refine (breaks_ill a b A B ca cb _ (Kd.C_below HA.out B4.out) (Kd.C_below HB.out B4.out) hca hcb SA.out SB.out HR.out).mono ?_); rintro e w5 ⟨A5, c5, rfl, hb5⟩; have B5 := Aside0.mk (bt B4.out hb5); clear hb5)
    | (go_at_call 8; (with_reducible refine (rright_r A ca a true RA.out _ (Kd.C_below HA.out B5.out) SA.out).mono ?_); rintro e w6 ⟨rfl, hb6⟩; have B6 := Aside0.mk (bt B5.out hb6); clear hb6)
    | (go_at_call 8; (with_reducible refine (rright_r B cb b false RB.out _ (Kd.C_below HB.out B6.out) SB.out).mono ?_); rintro e w8 ⟨rfl, hb8⟩; have B8 := Aside0.mk (bt B6.out hb8); clear hb8)
    | (go_at_call 9; (with_reducible refine (reads_ill a b A B ca cb _ (Kd.C_below HA.out B8.out) (Kd.C_below HB.out B8.out) hca hcb SA.out SB.out HR.out).mono ?_); rintro e w7 ⟨rfl, hb7⟩; have B7 := Aside0.mk (bt B8.out hb7); clear hb7))
  all_goals (go_ret; first | exact ⟨rfl, B7.out⟩ | exact ⟨rfl, B3.out⟩ | exact ⟨rfl, B2.out⟩)
end
end Go.Proofs.Ytdkhmnmngokmmaa.Lw
