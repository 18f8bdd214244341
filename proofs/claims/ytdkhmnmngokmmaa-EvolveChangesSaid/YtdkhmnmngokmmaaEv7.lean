/- evolve.told, the predicates, Changes, Breaks, Reads. -/
import Derived.Test.YtdkhmnmngokmmaaEv6
namespace Go.Proofs.Ytdkhmnmngokmmaa.Ev
open Go.RowKit Go.Maps Go.Proofs.Ytdkhmnmngokmmaa.B Go.Proofs.Ytdkhmnmngokmmaa.K Go.Proofs.Ytdkhmnmngokmmaa.Spec Go.Proofs.Ytdkhmnmngokmmaa.Sch Go.Proofs.YtdkhmnmngokmmaaW.PrintWords
set_option linter.unusedVariables false
set_option linter.unusedSimpArgs false

theorem infoCg : (Try.prog.info? 36).map (fun i => (i.zero, i.size, i.bytes)) = some (some (.agg #[.int .i64 0, .string ⟨#[]⟩, .int .i64 0]), 3, 32) := by kernel_rfl
abbrev Cg := S36
def encC (x : Chg) : Value := .agg #[.int .i64 x.f0.f0, .string x.f0.f1, .int .i64 x.f0.f2, .string x.f1.f0, .int .i64 x.f1.f1, .int .i64 x.f1.f2, .bool x.f1.f3, .bool x.f1.f4, .int .i64 x.f1.f5, .string x.f2.f0, .int .i64 x.f2.f1, .int .i64 x.f2.f2, .bool x.f2.f3, .bool x.f2.f4, .int .i64 x.f2.f5]
def breaksB (x : Chg) : Bool := x.f0.f0 == 1 || x.f0.f0 == 6 || (x.f0.f0 == 7 && x.f1.f3)
set_option maxRecDepth 100000 in
theorem all_calls (x : Chg) (w : World) : Calls Try.prog 13 #[encC x] w fun e w' => e = .returned (.bool true) ∧ Below w.heap.size w w' := by
  unfold encC
  go_enter Try.func13, Try.ntmps13
  go_wp2
  go_ret
  exact ⟨rfl, below_alloc' (Below.refl _ _) _⟩
set_option maxHeartbeats 4000000 in
set_option maxRecDepth 100000 in
theorem breaks_calls (x : Chg) (w : World) : Calls Try.prog 14 #[encC x] w fun e w' => e = .returned (.bool (breaksB x)) ∧ Below w.heap.size w w' := by
  have hu := Try.underlying47
  have hu2 := Try.underlying36
  have hu3 := Try.underlying38
  unfold encC
  cases h1 : x.f0.f0 == 1 with
  | true =>
    have hb : breaksB x = true := by unfold breaksB; rw [h1]; rfl
    rw [hb]
    clear hb
    go_enter Try.func14, Try.ntmps14
    go_wp2
    go_ret
    exact ⟨rfl, below_alloc' (Below.refl _ _) _⟩
  | false =>
    cases h6 : x.f0.f0 == 6 with
    | true =>
      have hb : breaksB x = true := by unfold breaksB; rw [h1, h6]; rfl
      rw [hb]
      clear hb
      go_enter Try.func14, Try.ntmps14
      go_wp2
      go_ret
      exact ⟨rfl, below_alloc' (Below.refl _ _) _⟩
    | false =>
      cases h7 : x.f0.f0 == 7 with
      | true =>
        have hb : breaksB x = x.f1.f3 := by unfold breaksB; rw [h1, h6, h7]; rfl
        rw [hb]
        clear hb
        go_enter Try.func14, Try.ntmps14
        go_wp2
        go_ret
        exact ⟨rfl, below_alloc' (Below.refl _ _) _⟩
      | false =>
        have hb : breaksB x = false := by unfold breaksB; rw [h1, h6, h7]; rfl
        rw [hb]
        clear hb
        go_enter Try.func14, Try.ntmps14
        go_wp2
        go_ret
        exact ⟨rfl, below_alloc' (Below.refl _ _) _⟩

def PredC (g : Nat) (p : Chg → Bool) : Prop := ∀ (x : Chg) (w : World), Calls Try.prog g #[encC x] w fun e w' => e = .returned (.bool (p x)) ∧ Below w.heap.size w w'
def toldCh (p : Chg → Bool) (l : List Chg) : List Cg := (l.filter p).map (·.f0)
theorem toldCh_snoc (p : Chg → Bool) (l : List Chg) (x : Chg) : toldCh p (l ++ [x]) = toldCh p l ++ (if p x then [x.f0] else []) := by
  unfold toldCh
  rw [List.filter_append, List.map_append]
  cases h : p x <;> simp [h]
theorem toldCh_len (p : Chg → Bool) (l : List Chg) : (toldCh p l).length ≤ l.length := by
  unfold toldCh
  rw [List.length_map]
  exact List.length_filter_le _ _
theorem take_rdC (l : List Chg) (k : Nat) (h : k < l.length) : l.take (k + 1) = l.take k ++ [rd_T47 l k] := by
  rw [List.take_add_one]
  congr 1
  simp [rd_T47, List.getElem?_eq_getElem h]

set_option maxHeartbeats 8000000 in
set_option maxRecDepth 100000 in
theorem told_calls (g : Nat) (p : Chg → Bool) (eg : ∀ args w, (callFunc g args).run Try.prog w = .ok (.enter g args) w) (hp : PredC g p) (A : Option Addr) (c : Nat) (l : List Chg) (w : World) (hr : Kd.C k47 w A l.length l) (hlen : l.length ≤ 1000000) :
    Calls Try.prog 12 #[.slice A l.length c, .func (.func g) #[] #[]] w fun e w' =>
      ∃ v, e = .returned v ∧ Kd.R k36 36 w' w.heap.size (fun _ => True) v (toldCh p l) ∧ Below w.heap.size w w' := by
  have hu := Try.underlying47
  have hu2 := Try.underlying36
  have HR := Aside0.mk hr
  have HP := Aside0.mk hp
  clear hr hp
  go_enter Try.func12, Try.ntmps12
  go_wp2
  go_loopg [5, 10] l.length (fun kq v5 v10 wr => ∃ k : Nat, v10 = .int .i64 k ∧ k ≤ l.length ∧ l.length - k ≤ kq ∧ Aside0 (Kd.R k36 36 wr w.heap.size (fun _ => True) v5 (toldCh p (l.take k))) ∧ Aside0 (Below w.heap.size w wr))
  case atStart => exact ⟨0, rfl, by omega, by omega, ⟨Kd.R_nil _ _ _ _ _⟩, ⟨Below.refl _ _⟩⟩
  case round =>
    obtain ⟨k, rfl, hk, hg4, HO, HB⟩ := hrel
    by_cases hlt : k < l.length
    · have hlt' : (k : Int) < l.length := by omega
      obtain ⟨ad, e, y0, y1, y2, y3, y4, y5, y6, y7, y8, y9, y10, y11, y12, y13, y14⟩ := at_T47 HR.out k (by omega) hlt'
      cases e
      simp only [Int.toNat_natCast] at y0 y1 y2 y3 y4 y5 y6 y7 y8 y9 y10 y11 y12 y13 y14
      replace y0 := pw_cell_below HB.out y0
      replace y1 := pw_cell_below HB.out y1
      replace y2 := pw_cell_below HB.out y2
      replace y3 := pw_cell_below HB.out y3
      replace y4 := pw_cell_below HB.out y4
      replace y5 := pw_cell_below HB.out y5
      replace y6 := pw_cell_below HB.out y6
      replace y7 := pw_cell_below HB.out y7
      replace y8 := pw_cell_below HB.out y8
      replace y9 := pw_cell_below HB.out y9
      replace y10 := pw_cell_below HB.out y10
      replace y11 := pw_cell_below HB.out y11
      replace y12 := pw_cell_below HB.out y12
      replace y13 := pw_cell_below HB.out y13
      replace y14 := pw_cell_below HB.out y14
      have HT := Aside0.mk (take_rdC l k hlt)
      obtain ⟨x, hx⟩ : ∃ x, x = rd_T47 l k := ⟨_, rfl⟩
      rw [← hx] at y0 y1 y2 y3 y4 y5 y6 y7 y8 y9 y10 y11 y12 y13 y14 HT
      clear hx
      have HL := Aside0.mk (show (toldCh p (l.take k)).length ≤ 1000000 from by have h1 := toldCh_len p (l.take k); have h2 : (l.take k).length ≤ 1000000 := (by rw [List.length_take]; omega); omega)
      have HO2 := Aside0.mk (Kd.R_alloc HO.out (.cells #[.int .i64 x.f0.f0, .string x.f0.f1, .int .i64 x.f0.f2, .string x.f1.f0, .int .i64 x.f1.f1, .int .i64 x.f1.f2, .bool x.f1.f3, .bool x.f1.f4, .int .i64 x.f1.f5, .string x.f2.f0, .int .i64 x.f2.f1, .int .i64 x.f2.f2, .bool x.f2.f3, .bool x.f2.f4, .int .i64 x.f2.f5] 47))
      have HB2 := Aside0.mk (below_alloc' HB.out (.cells #[.int .i64 x.f0.f0, .string x.f0.f1, .int .i64 x.f0.f2, .string x.f1.f0, .int .i64 x.f1.f1, .int .i64 x.f1.f2, .bool x.f1.f3, .bool x.f1.f4, .int .i64 x.f1.f5, .string x.f2.f0, .int .i64 x.f2.f1, .int .i64 x.f2.f2, .bool x.f2.f3, .bool x.f2.f4, .int .i64 x.f2.f5] 47))
      have HBX := Aside0.mk (alloc_at wr (.cells #[.int .i64 x.f0.f0, .string x.f0.f1, .int .i64 x.f0.f2, .string x.f1.f0, .int .i64 x.f1.f1, .int .i64 x.f1.f2, .bool x.f1.f3, .bool x.f1.f4, .int .i64 x.f1.f5, .string x.f2.f0, .int .i64 x.f2.f1, .int .i64 x.f2.f2, .bool x.f2.f3, .bool x.f2.f4, .int .i64 x.f2.f5] 47))
      have hcall := HP.out x
      unfold encC at hcall
      cases hq : p x with
      | true =>
        have HQ := Aside0.mk hq
        rw [hq] at hcall
        clear hq
        go_upto_region 6 with (go_at_fn g; refine (hcall _).mono ?_; rintro e w3 ⟨rfl, hb3⟩)
        have q := heap_below hb3 (Nat.le_refl _) HBX.out
        have x0 := cellOf q 0
        have x1 := cellOf q 1
        have x2 := cellOf q 2
        simp only [List.getElem?_toArray, List.getElem?_cons_zero, List.getElem?_cons_succ] at x0 x1 x2
        have HO3 := Aside0.mk (Kd.R_below HO2.out hb3)
        have HB3 := Aside0.mk (HB2.out.trans (hb3.mono HB2.out.size))
        clear q hb3 hcall y0 y1 y2 y3 y4 y5 y6 y7 y8 y9 y10 y11 y12 y13 y14
        go_wp2_with (at_builtin; (refine Kd.R_append k36 (w0 := w) (W := w3) w.heap.size rfl (.tmp 17) (.tmp 20) 26 36 _ 32 rfl Try.underlying26 infoCg rfl (by decide) (by decide) _ (toldCh p (l.take k)) x.f0 [.int .i64 x.f0.f0, .string x.f0.f1, .int .i64 x.f0.f2] (fun _ => True) (fun _ => False) rfl (by first | rfl | (go_simp; done) | (go_simp; rfl)) (k36_mkM _ _ _ _) (fun _ h => h.elim) (fun _ _ => trivial) HO3.out HB3.out HB3.out.size (by have := HL.out; omega) ?_); intro v1 w4 ho1 hb1 hg1 ha1)
        go_roundg (l.length - (k + 1))
        case measure => omega
        case rel =>
          refine ⟨k + 1, by go_num, by omega, by omega, ⟨?_⟩, ⟨hb1⟩⟩
          rw [HT.out, toldCh_snoc, HQ.out]
          exact ho1
      | false =>
        have HQ := Aside0.mk hq
        rw [hq] at hcall
        clear hq
        go_wp2_with (go_at_fn g; refine (hcall _).mono ?_; rintro e w3 ⟨rfl, hb3⟩)
        go_roundg (l.length - (k + 1))
        case measure => omega
        case rel =>
          refine ⟨k + 1, by go_num, by omega, by omega, ⟨?_⟩, ⟨HB2.out.trans (hb3.mono HB2.out.size)⟩⟩
          rw [HT.out, toldCh_snoc, HQ.out]
          simpa using Kd.R_below HO2.out hb3
    · obtain rfl : k = l.length := by omega
      go_wp2
      go_ret
      exact ⟨_, rfl, by have := HO.out; rwa [List.take_length] at this, HB.out⟩
end Go.Proofs.Ytdkhmnmngokmmaa.Ev
