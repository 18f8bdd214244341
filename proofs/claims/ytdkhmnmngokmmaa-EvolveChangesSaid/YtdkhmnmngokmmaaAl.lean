/- The law's own example: alive. -/
import Derived.Test.YtdkhmnmngokmmaaEv8
namespace Go.Proofs.Ytdkhmnmngokmmaa.Al
open Go.RowKit Go.Maps Go.Proofs.Ytdkhmnmngokmmaa.B Go.Proofs.Ytdkhmnmngokmmaa.K Go.Proofs.Ytdkhmnmngokmmaa.Spec Go.Proofs.Ytdkhmnmngokmmaa.Sch Go.Proofs.Ytdkhmnmngokmmaa.Ev Go.Proofs.YtdkhmnmngokmmaaW.PrintWords
set_option linter.unusedVariables false
set_option linter.unusedSimpArgs false
theorem one_fld {w : World} {g : Nat} {fr : Nat × Nat} (x : Fld) (h : w.heap[g]? = some (.cells #[.string x.f0, .int .i64 x.f1, .int .i64 x.f2, .bool x.f3, .bool x.f4, .int .i64 x.f5] 38 fr)) : Kd.C k38 w (some ⟨g, 0, none⟩) 1 [x] := by
  refine ⟨rfl, by omega, fun _ => ⟨_, rfl, fun j p hj => ?_⟩⟩
  have hc := fun i => cellOf h i
  have hadd : ∀ n : Nat, (⟨g, 0, none⟩ : Addr).add n = ⟨g, n, none⟩ := fun n => add_plain g n
  have hjl := (List.getElem?_eq_some_iff.1 hj).1
  simp only [List.length_cons, List.length_nil] at hjl
  obtain rfl : j = 0 := by omega
  simp only [List.getElem?_cons_zero, Option.some.injEq] at hj
  subst hj
  refine ⟨_, rfl, k38_mk w _, fun i u hu => ?_⟩
  rw [hadd, hc, Nat.zero_mul, Nat.zero_add]
  simpa using hu
theorem one_msg {w : World} {g h : Nat} {fr fr2 : Nat × Nat} (nm : ByteArray) (x : Fld) (hg : w.heap[g]? = some (.cells #[.string nm, .slice (some ⟨h, 0, none⟩) 1 1] 41 fr))
    (hh : w.heap[h]? = some (.cells #[.string x.f0, .int .i64 x.f1, .int .i64 x.f2, .bool x.f3, .bool x.f4, .int .i64 x.f5] 38 fr2)) : Kd.C k41 w (some ⟨g, 0, none⟩) 1 [⟨nm, [x]⟩] := by
  refine ⟨rfl, by omega, fun _ => ⟨_, rfl, fun j p hj => ?_⟩⟩
  have hc := fun i => cellOf hg i
  have hadd : ∀ n : Nat, (⟨g, 0, none⟩ : Addr).add n = ⟨g, n, none⟩ := fun n => add_plain g n
  have hjl := (List.getElem?_eq_some_iff.1 hj).1
  simp only [List.length_cons, List.length_nil] at hjl
  obtain rfl : j = 0 := by omega
  simp only [List.getElem?_cons_zero, Option.some.injEq] at hj
  subst hj
  refine ⟨_, rfl, k41_mk w ⟨nm, [x]⟩ (A1 := some ⟨h, 0, none⟩) (c1 := 1) (by simp) (one_fld x hh), fun i u hu => ?_⟩
  rw [hadd, hc, Nat.zero_mul, Nat.zero_add]
  simpa using hu
def nI : ByteArray := ⟨#[105]⟩
def nM : ByteArray := ⟨#[109]⟩
def fA : Fld := ⟨nI, 1, 1, false, false, 0⟩
def fB : Fld := ⟨nI, 1, 2, false, false, 0⟩
def sA : List Msg := [⟨nM, [fA]⟩]
def sB : List Msg := [⟨nM, [fB]⟩]
theorem rA : right sA = true := by decide
theorem rB : right sB = true := by decide
theorem nums1 {m n : Msg} {f g : Fld} (h1 : m.f1 = [f]) (h2 : n.f1 = [g]) (h : f.f1 = g.f1) : numsOf m n = [f.f1] := by
  unfold numsOf
  rw [h1, h2]
  simp [dd, h]
theorem chAB : changesCh sA sB = [⟨⟨6, nM, 1⟩, fA, fB⟩] := by
  have h1 : numsOf ⟨nM, [fA]⟩ ⟨nM, [fB]⟩ = [1] := nums1 (f := fA) (g := fB) rfl rfl rfl
  have h2 : findM sB nM = some 0 := by decide
  have h3 : findM sA nM = some 0 := by decide
  simp only [changesCh, sA, sB, List.flatMap_cons, List.flatMap_nil, List.append_nil]
  simp only [firstCh, secondCh]
  rw [show findM [⟨nM, [fB]⟩] nM = some 0 from h2, show findM [⟨nM, [fA]⟩] nM = some 0 from h3]
  simp only [List.append_nil, fieldsCh, List.getD_cons_zero]
  rw [h1, List.flatMap_singleton]
  show fieldCh [⟨nM, [fA]⟩] [⟨nM, [fB]⟩] nM fA fB = _
  simp [fieldCh, four, chgs, fA, fB, nmOf]
theorem chAA : changesCh sA sA = [] := by
  have h1 : numsOf ⟨nM, [fA]⟩ ⟨nM, [fA]⟩ = [1] := nums1 (f := fA) (g := fA) rfl rfl rfl
  have h3 : findM sA nM = some 0 := by decide
  simp only [changesCh, sA, List.flatMap_cons, List.flatMap_nil, List.append_nil]
  simp only [firstCh, secondCh]
  rw [show findM [⟨nM, [fA]⟩] nM = some 0 from h3]
  simp only [List.append_nil, fieldsCh, List.getD_cons_zero]
  rw [h1, List.flatMap_singleton]
  show fieldCh [⟨nM, [fA]⟩] [⟨nM, [fA]⟩] nM fA fA = _
  simp [fieldCh, four, chgs]
theorem resAB : chRes sA sB = ([⟨⟨6, nM, 1⟩, fA, fB⟩], 0) := by unfold chRes; rw [rA, rB, chAB]; rfl
theorem resAA : chRes sA sA = ([], 0) := by unfold chRes; rw [rA, chAA]; rfl
theorem sizA : Sized sA := by
  intro i hi
  simp only [sA, List.length_singleton] at hi
  obtain rfl : i = 0 := by omega
  refine ⟨by decide, fun k hk => ?_⟩
  have hk' : k < 1 := hk
  obtain rfl : k = 0 := by omega
  decide
theorem sizB : Sized sB := by
  intro i hi
  simp only [sB, List.length_singleton] at hi
  obtain rfl : i = 0 := by omega
  refine ⟨by decide, fun k hk => ?_⟩
  have hk' : k < 1 := hk
  obtain rfl : k = 0 := by omega
  decide
theorem breaksAB (A B : Option Addr) (w : World) (ha : Kd.C k41 w A 1 sA) (hb : Kd.C k41 w B 1 sB) :
    Calls Try.prog 7 #[.slice A 1 1, .slice B 1 1] w fun e w' => ∃ g c, e = .returned (.tuple #[.slice (some ⟨g, 0, none⟩) 1 c, .int .u8 0]) ∧ w'.cell? ⟨g, 0, none⟩ = some (.int .i64 6) ∧ w'.cell? ⟨g, 1, none⟩ = some (.string ⟨#[109]⟩) ∧ w'.cell? ⟨g, 2, none⟩ = some (.int .i64 1) ∧ Below w.heap.size w w' := by
  refine (breaksR_calls sA sB A B 1 1 w ha hb (Nat.le_refl _) (Nat.le_refl _) sizA sizB).mono ?_
  rintro e w' ⟨v, rfl, hr, hb⟩
  rw [resAB] at hr ⊢
  obtain ⟨g, c, rfl, _⟩ := Kd.R_form hr (by decide)
  have hC := (Kd.R_reads' hr).2.2
  obtain ⟨ad, e, x0, x1, x2⟩ := at_T36 hC 0 (by omega) (by decide)
  cases e
  have e0 : (⟨g, 0, none⟩ : Addr).add ((0 : Int).toNat * 3) = ⟨g, 0, none⟩ := add_plain g 0
  rw [e0] at x0 x1 x2
  exact ⟨g, c, rfl, x0, x1, x2, hb⟩
theorem readsAA (A : Option Addr) (w : World) (ha : Kd.C k41 w A 1 sA) : Calls Try.prog 9 #[.slice A 1 1, .slice A 1 1] w fun e w' => e = .returned (.bool true) ∧ Below w.heap.size w w' := by
  refine (reads_calls sA sA A A 1 1 w ha ha (Nat.le_refl _) (Nat.le_refl _) sizA sizA).mono ?_
  rintro e w' ⟨rfl, hb⟩
  refine ⟨?_, hb⟩
  unfold readsB
  rw [resAA]
  rfl
set_option maxHeartbeats 4000000 in
set_option maxRecDepth 100000 in
theorem alive_calls (w : World) : Calls Try.prog 4 #[] w fun e w' => e = .returned (.bool true) ∧ Below w.heap.size w w' := by
  have hu := Try.underlying41
  have hu2 := Try.underlying38
  have hu3 := Try.underlying36
  obtain ⟨w4, hw4⟩ : ∃ x : World, x = (((w.alloc (.cells #[.string ⟨#[105]⟩, .int .i64 1, .int .i64 1, .bool false, .bool false, .int .i64 0] 38)).alloc (.cells #[.string ⟨#[109]⟩, .slice (some ⟨w.heap.size, 0, none⟩) 1 1] 41)).alloc (.cells #[.string ⟨#[105]⟩, .int .i64 1, .int .i64 2, .bool false, .bool false, .int .i64 0] 38)).alloc (.cells #[.string ⟨#[109]⟩, .slice (some ⟨w.heap.size + 1 + 1, 0, none⟩) 1 1] 41) := ⟨_, rfl⟩
  have h0 : w4.heap[w.heap.size]? = some (.cells #[.string ⟨#[105]⟩, .int .i64 1, .int .i64 1, .bool false, .bool false, .int .i64 0] 38 (0, 0)) := by rw [hw4]; exact alloc_old (alloc_old (alloc_old (alloc_at _ _) _) _) _
  have h1 : w4.heap[w.heap.size + 1]? = some (.cells #[.string ⟨#[109]⟩, .slice (some ⟨w.heap.size, 0, none⟩) 1 1] 41 (0, 0)) := by
    rw [hw4]
    have := alloc_at (w.alloc (.cells #[.string ⟨#[105]⟩, .int .i64 1, .int .i64 1, .bool false, .bool false, .int .i64 0] 38)) (.cells #[.string ⟨#[109]⟩, .slice (some ⟨w.heap.size, 0, none⟩) 1 1] 41)
    rw [show ∀ o, (w.alloc o).heap.size = w.heap.size + 1 from fun o => by simp] at this
    exact alloc_old (alloc_old this _) _
  have h2 : w4.heap[w.heap.size + 1 + 1]? = some (.cells #[.string ⟨#[105]⟩, .int .i64 1, .int .i64 2, .bool false, .bool false, .int .i64 0] 38 (0, 0)) := by
    rw [hw4]
    have := alloc_at ((w.alloc (.cells #[.string ⟨#[105]⟩, .int .i64 1, .int .i64 1, .bool false, .bool false, .int .i64 0] 38)).alloc (.cells #[.string ⟨#[109]⟩, .slice (some ⟨w.heap.size, 0, none⟩) 1 1] 41)) (.cells #[.string ⟨#[105]⟩, .int .i64 1, .int .i64 2, .bool false, .bool false, .int .i64 0] 38)
    rw [show ∀ o o2, ((w.alloc o).alloc o2).heap.size = w.heap.size + 1 + 1 from fun o o2 => by simp] at this
    exact alloc_old this _
  have h3 : w4.heap[w.heap.size + 1 + 1 + 1]? = some (.cells #[.string ⟨#[109]⟩, .slice (some ⟨w.heap.size + 1 + 1, 0, none⟩) 1 1] 41 (0, 0)) := by
    rw [hw4]
    have := alloc_at (((w.alloc (.cells #[.string ⟨#[105]⟩, .int .i64 1, .int .i64 1, .bool false, .bool false, .int .i64 0] 38)).alloc (.cells #[.string ⟨#[109]⟩, .slice (some ⟨w.heap.size, 0, none⟩) 1 1] 41)).alloc (.cells #[.string ⟨#[105]⟩, .int .i64 1, .int .i64 2, .bool false, .bool false, .int .i64 0] 38)) (.cells #[.string ⟨#[109]⟩, .slice (some ⟨w.heap.size + 1 + 1, 0, none⟩) 1 1] 41)
    rw [show ∀ o o2 o3, (((w.alloc o).alloc o2).alloc o3).heap.size = w.heap.size + 1 + 1 + 1 from fun o o2 o3 => by simp] at this
    exact this
  have HA := Aside0.mk (show Kd.C k41 w4 (some ⟨w.heap.size + 1, 0, none⟩) 1 sA from one_msg nM fA h1 h0)
  have HB := Aside0.mk (show Kd.C k41 w4 (some ⟨w.heap.size + 1 + 1 + 1, 0, none⟩) 1 sB from one_msg nM fB h3 h2)
  have HW := Aside0.mk (show Below w.heap.size w w4 from by rw [hw4]; exact below_alloc' (below_alloc' (below_alloc' (below_alloc' (Below.refl _ _) _) _) _) _)
  have HW4 := Aside0.mk hw4
  clear h0 h1 h2 h3 hw4
  go_enter Try.func4, Try.ntmps4
  go_upto_region 3 with (fail)
  rw [← HW4.out]
  go_wp2_with (first
    | (go_at_call 7; refine (breaksAB _ _ _ HA.out HB.out).mono ?_; rintro e w5 ⟨g5, c5, rfl, x0, x1, x2, hb5⟩)
    | (go_at_call 9; refine (readsAA _ _ (Kd.C_below HA.out hb5)).mono ?_; rintro e w6 ⟨rfl, hb6⟩))
  go_ret
  exact ⟨rfl, HW.out.trans ((hb5.trans (hb6.mono hb5.size)).mono HW.out.size)⟩
end Go.Proofs.Ytdkhmnmngokmmaa.Al
