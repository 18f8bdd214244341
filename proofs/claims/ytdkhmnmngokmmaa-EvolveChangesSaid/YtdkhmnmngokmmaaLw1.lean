/- The law EvolveChanges: plain lemmas and contracts in the form that its walk wants. -/
import Derived.Test.YtdkhmnmngokmmaaAl
import Derived.Test.YtdkhmnmngokmmaaRf9
namespace Go.Proofs.Ytdkhmnmngokmmaa.Lw
open Go.RowKit Go.Maps Go.Proofs.Ytdkhmnmngokmmaa.B Go.Proofs.Ytdkhmnmngokmmaa.K Go.Proofs.Ytdkhmnmngokmmaa.Spec Go.Proofs.Ytdkhmnmngokmmaa.Sch Go.Proofs.Ytdkhmnmngokmmaa.Ev Go.Proofs.Ytdkhmnmngokmmaa.Rf Go.Proofs.Ytdkhmnmngokmmaa.Al Go.Proofs.YtdkhmnmngokmmaaW.PrintWords
set_option linter.unusedVariables false
set_option linter.unusedSimpArgs false
theorem bt {w w1 w2 : World} (h1 : Below w.heap.size w w1) (h2 : Below w1.heap.size w1 w2) : Below w.heap.size w w2 := h1.trans (h2.mono h1.size)
theorem told_all (L : List Chg) : toldCh (fun _ => true) L = L.map (·.f0) := by
  unfold toldCh
  rw [List.filter_eq_self.2 (fun _ _ => rfl)]
section
variable (a b : List Msg) (A B : Option Addr) (ca cb : Nat) (W : World) (ha : Kd.C k41 W A a.length a) (hb : Kd.C k41 W B b.length b) (hca : a.length ≤ ca) (hcb : b.length ≤ cb) (sa : Sized a) (sb : Sized b)
include ha hb hca hcb sa sb
theorem changes_fit (L : List Chg) (hr : chRes a b = (L, 0)) : Calls Try.prog 6 #[.slice A a.length ca, .slice B b.length cb] W fun e w' => ∃ A1 c1, e = .returned (.tuple #[.slice A1 L.length c1, .int .u8 0]) ∧ Kd.C k36 w' A1 L.length (L.map (·.f0)) ∧ Below W.heap.size W w' := by
  refine (changesR_calls a b A B ca cb W ha hb hca hcb sa sb).mono ?_
  rintro e w' ⟨v, rfl, h, hB⟩
  rw [hr, told_all] at h
  obtain ⟨A1, c1, rfl, hl, hC⟩ := Kd.R_reads h
  simp only [List.length_map] at hC ⊢
  exact ⟨A1, c1, by rw [hr], hC, hB⟩
theorem breaks_fit (L : List Chg) (hr : chRes a b = (L, 0)) : Calls Try.prog 7 #[.slice A a.length ca, .slice B b.length cb] W fun e w' => ∃ A1 c1, e = .returned (.tuple #[.slice A1 (toldCh breaksB L).length c1, .int .u8 0]) ∧ Kd.C k36 w' A1 (toldCh breaksB L).length (toldCh breaksB L) ∧ Below W.heap.size W w' := by
  refine (breaksR_calls a b A B ca cb W ha hb hca hcb sa sb).mono ?_
  rintro e w' ⟨v, rfl, h, hB⟩
  rw [hr] at h
  obtain ⟨A1, c1, rfl, hl, hC⟩ := Kd.R_reads h
  exact ⟨A1, c1, by rw [hr], hC, hB⟩
theorem reads_fit (L : List Chg) (hr : chRes a b = (L, 0)) : Calls Try.prog 9 #[.slice A a.length ca, .slice B b.length cb] W fun e w' => e = .returned (.bool ((toldCh breaksB L).length == 0)) ∧ Below W.heap.size W w' := by
  refine (reads_calls a b A B ca cb W ha hb hca hcb sa sb).mono ?_
  rintro e w' ⟨rfl, hB⟩
  refine ⟨?_, hB⟩
  unfold readsB
  rw [hr]
  rfl
theorem changes_ill (hr : chRes a b = ([], 9)) : Calls Try.prog 6 #[.slice A a.length ca, .slice B b.length cb] W fun e w' => ∃ A1 c1, e = .returned (.tuple #[.slice A1 0 c1, .int .u8 9]) ∧ Below W.heap.size W w' := by
  refine (changesR_calls a b A B ca cb W ha hb hca hcb sa sb).mono ?_
  rintro e w' ⟨v, rfl, h, hB⟩
  rw [hr] at h
  obtain ⟨A1, c1, rfl, hl, hC⟩ := Kd.R_reads h
  exact ⟨A1, c1, by rw [hr]; rfl, hB⟩
theorem breaks_ill (hr : chRes a b = ([], 9)) : Calls Try.prog 7 #[.slice A a.length ca, .slice B b.length cb] W fun e w' => ∃ A1 c1, e = .returned (.tuple #[.slice A1 0 c1, .int .u8 9]) ∧ Below W.heap.size W w' := by
  refine (breaksR_calls a b A B ca cb W ha hb hca hcb sa sb).mono ?_
  rintro e w' ⟨v, rfl, h, hB⟩
  rw [hr] at h
  obtain ⟨A1, c1, rfl, hl, hC⟩ := Kd.R_reads h
  exact ⟨A1, c1, by rw [hr]; rfl, hB⟩
theorem reads_ill (hr : chRes a b = ([], 9)) : Calls Try.prog 9 #[.slice A a.length ca, .slice B b.length cb] W fun e w' => e = .returned (.bool false) ∧ Below W.heap.size W w' := by
  refine (reads_calls a b A B ca cb W ha hb hca hcb sa sb).mono ?_
  rintro e w' ⟨rfl, hB⟩
  refine ⟨?_, hB⟩
  unfold readsB
  rw [hr]
  rfl
omit hca hcb sa sb in
theorem rchanges_fit (hRa : right a = true) (hRb : right b = true) : Calls Try.prog 10 #[.slice A a.length ca, .slice B b.length cb] W fun e w' => ∃ A1 c1, e = .returned (.slice A1 (changesCh a b).length c1) ∧ Kd.C k34 w' A1 (changesCh a b).length ((changesCh a b).map rc) ∧ Below W.heap.size W w' := by
  refine (rchanges_calls a b A B ca cb W ha hb hRa hRb).mono ?_
  rintro e w' ⟨v, rfl, h, hB⟩
  obtain ⟨A1, c1, rfl, hl, hC⟩ := Kd.R_reads h
  simp only [List.length_map] at hC ⊢
  exact ⟨A1, c1, rfl, hC, hB⟩
end
theorem rright_r (A : Option Addr) (c : Nat) (s : List Msg) (r : Bool) (hr' : right s = r) (w : World) (hr : Kd.C k41 w A s.length s) (hz : Sized s) :
    Calls Try.prog 8 #[.slice A s.length c] w fun e w' => e = .returned (.bool r) ∧ Below w.heap.size w w' := by
  subst hr'
  exact rright_calls A c s w hr hz
theorem chRes_fit {a b : List Msg} (hRa : right a = true) (hRb : right b = true) : chRes a b = (changesCh a b, 0) := by unfold chRes; rw [hRa, hRb]; rfl
theorem chRes_ill {a b : List Msg} (h : (right a && right b) = false) : chRes a b = ([], 9) := by unfold chRes; rw [h]; rfl
theorem rdM_C (L : List Chg) (k : Nat) (h : k < L.length) : rd_T36 (L.map (·.f0)) k = (rd_T47 L k).f0 := by
  unfold rd_T36 rd_T47
  simp [List.getElem?_eq_getElem h]
theorem rdM_R (L : List Chg) (k : Nat) (h : k < L.length) : rd_T34 (L.map rc) k = rc (rd_T47 L k) := by
  unfold rd_T34 rd_T47
  simp [List.getElem?_eq_getElem h]
/-- The next one that breaks. -/
theorem told_next (p : Chg → Bool) (L : List Chg) (i : Nat) (hi : i < L.length) (hp : p (rd_T47 L i) = true) :
    (toldCh p (L.take i)).length < (toldCh p L).length ∧ rd_T36 (toldCh p L) ((toldCh p (L.take i)).length : Nat) = (rd_T47 L i).f0 := by
  have e : toldCh p L = toldCh p (L.take i) ++ ([(rd_T47 L i).f0] ++ toldCh p (L.drop (i + 1))) := by
    have h1 : L = L.take i ++ [rd_T47 L i] ++ L.drop (i + 1) := by
      rw [← take_rdC L i hi, List.take_append_drop]
    have h2 : ∀ x y, toldCh p (x ++ y) = toldCh p x ++ toldCh p y := fun x y => by unfold toldCh; simp
    have h3 : toldCh p [rd_T47 L i] = [(rd_T47 L i).f0] := by unfold toldCh; simp [hp]
    have h4 : toldCh p (L.take i ++ [rd_T47 L i] ++ L.drop (i + 1)) = toldCh p (L.take i) ++ ([(rd_T47 L i).f0] ++ toldCh p (L.drop (i + 1))) := by rw [h2, h2, h3, List.append_assoc]
    rw [← h4, ← h1]
  constructor
  · rw [e, List.length_append, List.length_append, List.length_singleton]; omega
  · rw [e]
    unfold rd_T36
    simp
end Go.Proofs.Ytdkhmnmngokmmaa.Lw
