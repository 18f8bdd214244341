/- The contract of schema.field: what isn't right of a field, and what has been met. -/
import Derived.Test.YtdkhmnmngokmmaaSch
import Derived.RegionTactic
import Derived.ChangeAlike
import Derived.BigRegion
import Derived.Deep.DeepCutAuto
import Derived.Deep.CutBlock
import Derived.DeepKeys4
namespace Go.Proofs.Ytdkhmnmngokmmaa.Sch
open Go.RowKit Go.Maps Go.Proofs.Ytdkhmnmngokmmaa.B Go.Proofs.Ytdkhmnmngokmmaa.K Go.Proofs.Ytdkhmnmngokmmaa.Spec Go.Proofs.YtdkhmnmngokmmaaW.PrintWords
set_option linter.unusedVariables false
set_option linter.unusedSimpArgs false

theorem laidOut : laidOutB Try.prog = true := by kernel_rfl
theorem metRow : (87 : TypeId) < Try.prog.types.size := of_decide_eq_true (by kernel_rfl)
theorem metWide : (match Try.prog.underlying 87 with | some (.array _ _) | some (.struct _) => true | _ => false) = true := by kernel_rfl
set_option maxRecDepth 100000 in
theorem lawMet : WideMaps.KeyLaw Try.prog 87 := deep_law_laid laidOut (m := 3) (by omega) metRow (by kernel_rfl) metWide
def metV (i : Int) (s : ByteArray) (n : Int) : Value := .agg #[.int .i64 i, .string s, .int .i64 n]
def isMet (i : Int) (s : ByteArray) (n : Int) (kl : Lit) : Prop := keyOf Try.prog 87 (metV i s n) = some kl
theorem metInj {i j n m : Int} {s u : ByteArray} {kl : Lit} (h : isMet i s n kl) (h' : isMet j u m kl) : i = j ∧ s = u ∧ n = m := by
  have := lawMet.inj h h'
  simp only [metV, Value.agg.injEq] at this
  simpa using this
theorem metKey {i n : Int} {s : ByteArray} (h1 : -9223372036854775808 ≤ i) (h2 : i ≤ 9223372036854775807) (h3 : -9223372036854775808 ≤ n) (h4 : n ≤ 9223372036854775807) (h5 : s.size ≤ maxLen) : ∃ kl, isMet i s n kl := by
  unfold isMet keyOf
  rw [Try.underlying87]
  have f1 : Try.prog.keyType 87 = true := by kernel_rfl
  have f2 : (metV i s n).formed Try.prog 87 = true := by
    have : Try.prog.cellsOf 87 = 3 := by kernel_rfl
    simp [metV, Value.formed, Try.underlying87, this]
  simp only [f1, f2, Bool.and_self, if_true]
  obtain ⟨m, hm⟩ : ∃ m, Try.prog.types.size + 1 = m + 2 := ⟨Try.prog.types.size - 1, by have h : (87 : Nat) < Try.prog.types.size := metRow; omega⟩
  have c87 : Try.prog.cellsOf 87 = 3 := by kernel_rfl
  have c3 : Try.prog.cellsOf 3 = 1 := by kernel_rfl
  have c9 : Try.prog.cellsOf 9 = 1 := by kernel_rfl
  rw [hm]
  simp [Program.keyLits, Try.underlying87, Try.underlying3, Try.underlying9, c87, c3, c9, wf_i64 h1 h2, wf_i64 h3 h4, h5, metV, Value.cells]
/-- What of the fields ahead of this one, of message i, has been met. -/
structure SeenD (D : DataW Value) (i : Int) (prev : List Fld) : Prop where
  isMap : IsMap D
  names : ∀ s kl, isMet i s 0 kl → 1 ≤ s.size → mget D kl = if (prev.any fun g => decide (g.f0 = s)) = true then some (.int .i64 1) else none
  nums : ∀ c kl, isMet i ⟨#[]⟩ c kl → 1 ≤ c → mget D kl = if (prev.any fun g => decide (g.f1 = c)) = true then some (.int .i64 1) else none
  later : ∀ j s c kl, i < j → isMet j s c kl → mget D kl = none
theorem SeenD.start : SeenD (.map []) (-1) [] := ⟨isMap_empty, fun _ _ _ _ => by simp [mget_empty], fun _ _ _ _ => by simp [mget_empty], fun _ _ _ _ _ _ => mget_empty _⟩
theorem SeenD.next {D : DataW Value} {i : Int} {prev : List Fld} (h : SeenD D i prev) : SeenD D (i + 1) [] :=
  ⟨h.isMap, fun s kl hk _ => by rw [h.later _ _ _ _ (by omega) hk]; simp, fun c kl hk _ => by rw [h.later _ _ _ _ (by omega) hk]; simp, fun j s c kl hj hk => h.later j s c kl (by omega) hk⟩
theorem SeenD.at {D : DataW Value} {i j : Int} {prev : List Fld} (h : SeenD D i prev) (hij : i < j) : SeenD D j [] :=
  ⟨h.isMap, fun s kl hk _ => by rw [h.later _ _ _ _ hij hk]; simp, fun c kl hk _ => by rw [h.later _ _ _ _ hij hk]; simp, fun j' s c kl hj hk => h.later j' s c kl (by omega) hk⟩
theorem SeenD.add {D : DataW Value} {i : Int} {prev : List Fld} {f : Fld} {k1 k2 : Lit} (h : SeenD D i prev) (h1 : isMet i f.f0 0 k1) (h2 : isMet i ⟨#[]⟩ f.f1 k2) (hs : 1 ≤ f.f0.size) (hn : 1 ≤ f.f1) :
    SeenD ((D.put k1 (.held (.int .i64 1))).put k2 (.held (.int .i64 1))) i (prev ++ [f]) := by
  have K := Keyed.of_law lawMet
  have m1 := h.isMap.put k1 (.held (.int .i64 1))
  have he : ∀ s : ByteArray, 1 ≤ s.size → s ≠ ⟨#[]⟩ := fun s hs e => by rw [e] at hs; exact absurd hs (by decide)
  refine ⟨m1.put _ _, fun s kl hk hs1 => ?_, fun c kl hk hc => ?_, fun j s c kl hj hk => ?_⟩
  · rw [mget_put_other (fun e => he s hs1 (by subst e; exact (metInj hk h2).2.1))]
    by_cases e : f.f0 = s
    · subst e
      have : kl = k1 := by rw [isMet] at hk h1; rw [h1] at hk; exact (Option.some.inj hk).symm
      rw [this, mget_put_same h.isMap (K.key h1)]
      simp
    · rw [mget_put_other (fun e' => e (by subst e'; exact (metInj hk h1).2.1.symm)), h.names s kl hk hs1]
      simp [e]
  · by_cases e : f.f1 = c
    · subst e
      have : kl = k2 := by rw [isMet] at hk h2; rw [h2] at hk; exact (Option.some.inj hk).symm
      rw [this, mget_put_same m1 (K.key h2)]
      simp
    · rw [mget_put_other (fun e' => e (by subst e'; exact (metInj hk h2).2.2.symm)), mget_put_other (fun e' => he f.f0 hs (by subst e'; exact (metInj hk h1).2.1.symm)), h.nums c kl hk hc]
      simp [e]
  · rw [mget_put_other (fun e' => by subst e'; have := (metInj hk h2).1; omega), mget_put_other (fun e' => by subst e'; have := (metInj hk h1).1; omega)]
    exact h.later j s c kl hj hk

def FieldPost (w : World) (b N : Nat) (i : Int) (prev : List Fld) (n : Nat) (f : Fld) (e : Ending) (w' : World) : Prop :=
  ∃ what : Int, e = .returned (.int .i64 what) ∧ ((fieldOk n prev f = true ∧ what = 0 ∧ (∃ D', w'.ownsMap Try.prog 87 hv b (N + 2) D' ∧ SeenD D' i (prev ++ [f])) ∧ w.grownBy w' (some b)) ∨
    (fieldOk n prev f = false ∧ what ≠ 0 ∧ Below w.heap.size w w'))
theorem FieldPost.no {w : World} {b N : Nat} {i : Int} {prev : List Fld} {n : Nat} {f : Fld} {w' : World} {what : Int} (h : fieldOk n prev f = false) (hw : what ≠ 0) (hb : Below w.heap.size w w') : FieldPost w b N i prev n f (.returned (.int .i64 what)) w' :=
  ⟨_, rfl, .inr ⟨h, hw, hb⟩⟩
theorem nameOk_size {s : ByteArray} (h : nameOk s = true) : 1 ≤ s.size ∧ s.size ≤ 60 := by
  simp only [nameOk, Bool.and_eq_true, decide_eq_true_eq] at h
  exact h.1
theorem usable_range {n : Int} (h : usable n = true) : 1 ≤ n ∧ n ≤ 536870911 := by
  simp only [usable, Bool.and_eq_true, decide_eq_true_eq] at h
  exact h.1
theorem kindIn_range {n : Int} (h : kindIn n = true) : 1 ≤ n ∧ n ≤ 17 := by
  simp only [kindIn, Bool.and_eq_true, decide_eq_true_eq] at h
  exact h
theorem fieldOk_eq (n : Int) (prev : List Fld) (s : ByteArray) (num kd : Int) (rep pk : Bool) (ofn : Int) : fieldOk n prev ⟨s, num, kd, rep, pk, ofn⟩ =
    (nameOk s && !(prev.any fun g => decide (g.f0 = s)) && usable num && !(prev.any fun g => decide (g.f1 = num)) && kindIn kd && (!pk || (rep && Spec.isNum kd)) &&
    (if kd = 17 then decide (0 ≤ ofn) && decide (ofn < n) else ofn == 0)) := rfl
theorem zero_int (w : World) : (zeroValue 3).run Try.prog w = .ok (.int .i64 0) w := by kernel_rfl

def badOf1 (kd ofn : Int) (n : Nat) : Bool := (kd == 17) && (decide (ofn < 0) || decide ((n : Int) ≤ ofn))
def badOf2 (kd ofn : Int) : Bool := (kd != 17) && (ofn != 0)
set_option maxHeartbeats 8000000 in
set_option maxRecDepth 100000 in
theorem field_calls (A : Option Addr) (n c : Nat) (i : Int) (s : ByteArray) (num kd : Int) (rep pk : Bool) (ofn : Int) (b N : Nat) (D : DataW Value) (prev : List Fld) (w : World) (hown : w.ownsMap Try.prog 87 hv b N D) (hD : SeenD D i prev) (hN : N + 2 < maxLen)
    (hi0 : 0 ≤ i) (hi1 : i ≤ 1000000) (hn : n ≤ 9223372036854775807) (hs : s.size ≤ 9223372036854775807) :
    Calls Try.prog 37 #[.slice A n c, .int .i64 i, .agg #[.string s, .int .i64 num, .int .i64 kd, .bool rep, .bool pk, .int .i64 ofn], .map (some b)] w (FieldPost w b N i prev n ⟨s, num, kd, rep, pk, ofn⟩) := by
  have hu38 := Try.underlying38
  have hu87 := Try.underlying87
  have KK := Keyed.of_law lawMet
  have Hown := Aside0.mk hown
  have HD := Aside0.mk hD
  clear hown hD
  go_enter Try.func37, Try.ntmps37
  go_upto_region 1 with (fail)
  go_cut [9, 10] (fun v9 v10 wc => ∃ g9 g10 : Nat, v9 = .pointer (some ⟨g9, 0, none⟩) ∧ v10 = .pointer (some ⟨g10, 0, none⟩) ∧ wc.heap[w.heap.size]? = some (.cells #[.string s, .int .i64 num, .int .i64 kd, .bool rep, .bool pk, .int .i64 ofn] 38 (0, 0)) ∧
    wc.heap[g9]? = some (.cells #[.int .i64 i, .string s, .int .i64 0] 87 (0, 0)) ∧ wc.heap[g10]? = some (.cells #[.int .i64 i, .string ⟨#[]⟩, .int .i64 num] 87 (0, 0)) ∧ Below w.heap.size w wc)
  case first =>
    go_region
    all_goals
      go_wp2_with fail
      go_meet
      case rel => first
        | exact ⟨_, _, rfl, rfl, (three_new w _ _ _).1, (three_new w _ _ _).2.1, (three_new w _ _ _).2.2.1, (three_new w _ _ _).2.2.2⟩
        | exact ⟨_, _, rfl, rfl, (three_new w _ _ _).1, (three_new w _ _ _).2.2.1, (three_new w _ _ _).2.1, (three_new w _ _ _).2.2.2⟩
  case rest =>
    obtain ⟨g9, g10, rfl, rfl, hf, h9, h10, hb⟩ := hcut
    have c0 := cellOf hf 0
    have c1 := cellOf hf 1
    have c2 := cellOf hf 2
    have c3 := cellOf hf 3
    have c4 := cellOf hf 4
    have c5 := cellOf hf 5
    have d0 := cellOf h9 0
    have d1 := cellOf h9 1
    have d2 := cellOf h9 2
    have e0 := cellOf h10 0
    have e1 := cellOf h10 1
    have e2 := cellOf h10 2
    simp only [List.getElem?_toArray, List.getElem?_cons_zero, List.getElem?_cons_succ] at c0 c1 c2 c3 c4 c5 d0 d1 d2 e0 e1 e2
    have Hf := Aside0.mk hf
    have H9 := Aside0.mk h9
    have H10 := Aside0.mk h10
    have HB := Aside0.mk hb
    clear hf h9 h10 hb
    have hnm := named_calls s hs
    cases hN0 : nameOk s with
    | false =>
      rw [hN0] at hnm
      have hno : fieldOk n prev ⟨s, num, kd, rep, pk, ofn⟩ = false := by simp [fieldOk, hN0]
      have Hno := Aside0.mk hno
      clear hno hN0
      go_wp2_with (go_at_call 36; refine (hnm _).mono ?_; rintro e w' ⟨rfl, ⟨m1, rfl⟩⟩)
      go_ret
      exact FieldPost.no Hno.out (by decide) (pw_below_drewN HB.out _)
    | true =>
      rw [hN0] at hnm
      have HN0 := Aside0.mk hN0
      clear hN0
      go_upto_region 4 with (go_at_call 36; refine (hnm _).mono ?_; rintro e w' ⟨rfl, ⟨m1, rfl⟩⟩)
      have hsz := nameOk_size HN0.out
      obtain ⟨k1, hk1⟩ := metKey (i := i) (s := s) (n := 0) (by omega) (by omega) (by omega) (by omega) (by unfold maxLen; omega)
      have Ho1 := Aside0.mk (Hown.out.kept (grown_of_below (pw_below_drewN HB.out m1) none) (by simp))
      have hm1 := HD.out.names s k1 hk1 hsz.1
      have HK1 := Aside0.mk hk1
      have HB1 := Aside0.mk (pw_below_drewN HB.out m1)
      clear hk1
      cases hA1 : (prev.any fun g => decide (g.f0 = s)) with
      | true =>
        rw [hA1, if_pos rfl] at hm1
        have Hm1 := Lib.hid hm1
        have Hno := Aside0.mk (show fieldOk n prev ⟨s, num, kd, rep, pk, ofn⟩ = false by simp [fieldOk, hA1])
        clear hm1 hA1
        go_wp2_with (first | (refine wpList_look _ rfl (.tmp 25) (.tmp 26) 79 false rfl 87 3 KK Try.underlying79 _ (zero_int _) b N D rfl Ho1.out _ k1 rfl HK1.out _ Hm1.out ?_; simp only [lookRes]))
        go_ret
        exact FieldPost.no Hno.out (by decide) HB1.out
      | false =>
        rw [hA1, if_neg (by decide)] at hm1
        have Hm1 := Lib.hid hm1
        have HA1 := Aside0.mk hA1
        clear hm1 hA1
        have hus := usable_calls num
        cases hU : usable num with
        | false =>
          rw [hU] at hus
          have Hno := Aside0.mk (show fieldOk n prev ⟨s, num, kd, rep, pk, ofn⟩ = false by simp [fieldOk, hU])
          clear hU
          go_wp2_with (first | (refine wpList_look _ rfl (.tmp 25) (.tmp 26) 79 false rfl 87 3 KK Try.underlying79 _ (zero_int _) b N D rfl Ho1.out _ k1 rfl HK1.out _ Hm1.out ?_; simp only [lookRes]) | (go_at_call 44; refine (hus _).mono ?_; rintro e w' ⟨rfl, rfl⟩))
          go_ret
          exact FieldPost.no Hno.out (by decide) HB1.out
        | true =>
          rw [hU] at hus
          have HU := Aside0.mk hU
          have hnb := usable_range hU
          clear hU
          obtain ⟨k2, hk2⟩ := metKey (i := i) (s := ⟨#[]⟩) (n := num) (by omega) (by omega) (by omega) (by omega) (by decide)
          have hm2 := HD.out.nums num k2 hk2 hnb.1
          have HK2 := Aside0.mk hk2
          clear hk2
          go_upto_region 8 with (first | (refine wpList_look _ rfl (.tmp 25) (.tmp 26) 79 false rfl 87 3 KK Try.underlying79 _ (zero_int _) b N D rfl Ho1.out _ k1 rfl HK1.out _ Hm1.out ?_; simp only [lookRes]) | (go_at_call 44; refine (hus _).mono ?_; rintro e w' ⟨rfl, rfl⟩))
          clear Hm1
          cases hA2 : (prev.any fun g => decide (g.f1 = num)) with
          | true =>
            rw [hA2, if_pos rfl] at hm2
            have Hm2 := Lib.hid hm2
            have Hno := Aside0.mk (show fieldOk n prev ⟨s, num, kd, rep, pk, ofn⟩ = false by simp [fieldOk, hA2])
            clear hm2 hA2
            go_wp2_with (first | (refine wpList_look _ rfl (.tmp 35) (.tmp 36) 79 false rfl 87 3 KK Try.underlying79 _ (zero_int _) b N D rfl Ho1.out _ k2 rfl HK2.out _ Hm2.out ?_; simp only [lookRes]))
            go_ret
            exact FieldPost.no Hno.out (by decide) HB1.out
          | false =>
            rw [hA2, if_neg (by decide)] at hm2
            have Hm2 := Lib.hid hm2
            have HA2 := Aside0.mk hA2
            clear hm2 hA2
            have hkr := kindRight_calls kd
            cases hK : kindIn kd with
            | false =>
              rw [hK] at hkr
              have Hno := Aside0.mk (show fieldOk n prev ⟨s, num, kd, rep, pk, ofn⟩ = false by simp [fieldOk, hK])
              clear hK
              go_wp2_with (first | (refine wpList_look _ rfl (.tmp 35) (.tmp 36) 79 false rfl 87 3 KK Try.underlying79 _ (zero_int _) b N D rfl Ho1.out _ k2 rfl HK2.out _ Hm2.out ?_; simp only [lookRes]) | (go_at_call 45; refine (hkr _).mono ?_; rintro e w' ⟨rfl, rfl⟩))
              go_ret
              exact FieldPost.no Hno.out (by decide) HB1.out
            | true =>
              rw [hK] at hkr
              have HK := Aside0.mk hK
              have hkb := kindIn_range hK
              clear hK
              go_upto_region 12 with (first | (refine wpList_look _ rfl (.tmp 35) (.tmp 36) 79 false rfl 87 3 KK Try.underlying79 _ (zero_int _) b N D rfl Ho1.out _ k2 rfl HK2.out _ Hm2.out ?_; simp only [lookRes]) | (go_at_call 45; refine (hkr _).mono ?_; rintro e w' ⟨rfl, rfl⟩))
              clear Hm2
              go_cut [44] (fun v44 wd => v44 = .bool (pk && (!rep || !Spec.isNum kd)) ∧ Below wc.heap.size wc wd)
              case first =>
                have hnk := Kind.number_calls kd (by omega) (by omega)
                cases pk
                · go_wp2_with fail
                  go_meet
                  case rel => exact ⟨rfl, pw_below_drewN (Below.refl _ _) _⟩
                · cases rep
                  · go_wp2_with fail
                    go_meet
                    case rel => exact ⟨rfl, pw_below_drewN (Below.refl _ _) _⟩
                  · go_wp2_with (go_at_call 46; refine (hnk _).mono ?_; rintro e w' ⟨rfl, hb'⟩)
                    go_meet
                    case rel => exact ⟨rfl, (pw_below_drewN (Below.refl _ wc) m1).trans hb'⟩
              case rest =>
                obtain ⟨wd, hwd⟩ : ∃ x : World, x = wc := ⟨wc, rfl⟩
                obtain ⟨rfl, hbd⟩ := hcut
                subst hwd
                clear c0 c1 c2 c3 c4 c5 d0 d1 d2 e0 e1 e2
                have hf' := heap_below hbd (Nat.le_refl _) Hf.out
                have h9' := heap_below hbd (Nat.le_refl _) H9.out
                have h10' := heap_below hbd (Nat.le_refl _) H10.out
                clear Hf H9 H10 HB1
                have HBd := Aside0.mk (HB.out.trans (hbd.mono HB.out.size))
                have Ho2 := Aside0.mk (Hown.out.kept (grown_of_below HBd.out none) (by simp))
                clear hbd Ho1
                have c0 := cellOf hf' 0
                have c1 := cellOf hf' 1
                have c2 := cellOf hf' 2
                have c5 := cellOf hf' 5
                have d0 := cellOf h9' 0
                have d1 := cellOf h9' 1
                have d2 := cellOf h9' 2
                have e0 := cellOf h10' 0
                have e1 := cellOf h10' 1
                have e2 := cellOf h10' 2
                simp only [List.getElem?_toArray, List.getElem?_cons_zero, List.getElem?_cons_succ] at c0 c1 c2 c5 d0 d1 d2 e0 e1 e2
                have Hf := Aside0.mk hf'
                have H9 := Aside0.mk h9'
                have H10 := Aside0.mk h10'
                clear hf' h9' h10'
                cases hP : (pk && (!rep || !Spec.isNum kd)) with
                | true =>
                  have Hno := Aside0.mk (show fieldOk n prev ⟨s, num, kd, rep, pk, ofn⟩ = false by
                    have : (!pk || (rep && Spec.isNum kd)) = false := by cases pk <;> cases rep <;> cases h : Spec.isNum kd <;> simp_all
                    simp [fieldOk, this])
                  clear hP
                  go_wp2
                  go_ret
                  exact FieldPost.no Hno.out (by decide) HBd.out
                | false =>
                  have HP := Aside0.mk (show (!pk || (rep && Spec.isNum kd)) = true by cases pk <;> cases rep <;> cases h : Spec.isNum kd <;> simp_all)
                  clear hP
                  go_upto_region 14 with (fail)
                  go_cut [58] (fun v58 we => v58 = .bool (badOf1 kd ofn n) ∧ ∃ q, we = wd.drewN q)
                  case first =>
                    by_cases a : kd = 17
                    · have a' : (kd == 17) = true := beq_iff_eq.2 a
                      clear a
                      by_cases a2 : ofn < 0
                      · go_wp2_with fail
                        go_meet
                        case rel => exact ⟨val_bool (by first | (simp [badOf1, *]; done) | (simp [badOf1, *]; omega)), 0, rfl⟩
                      · go_wp2_with fail
                        go_meet
                        case rel => exact ⟨val_bool (by first | (simp [badOf1, *]; done) | (simp [badOf1, *]; omega)), 0, rfl⟩
                    · have a' : (kd == 17) = false := beq_eq_false_iff_ne.2 a
                      clear a
                      go_wp2_with fail
                      go_meet
                      case rel => exact ⟨val_bool (by first | (simp [badOf1, *]; done) | (simp [badOf1, *]; omega)), 0, rfl⟩
                  case rest =>
                    obtain ⟨rfl, q1, rfl⟩ := hcut
                    cases hO1 : badOf1 kd ofn n with
                    | true =>
                      have Hno := Aside0.mk (show fieldOk n prev ⟨s, num, kd, rep, pk, ofn⟩ = false by
                        unfold badOf1 at hO1
                        simp only [Bool.and_eq_true, Bool.or_eq_true, beq_iff_eq, decide_eq_true_eq] at hO1
                        obtain ⟨rfl, h2⟩ := hO1
                        have : (if (17 : Int) = 17 then decide (0 ≤ ofn) && decide (ofn < (n : Int)) else ofn == 0) = false := by rw [if_pos rfl]; rcases h2 with h2 | h2 <;> simp <;> omega
                        rw [fieldOk_eq, this, Bool.and_false])
                      clear hO1
                      go_wp2
                      go_ret
                      exact FieldPost.no Hno.out (by decide) (pw_below_drewN HBd.out _)
                    | false =>
                      have HO1 := Aside0.mk hO1
                      clear hO1
                      go_upto_region 15 with (fail)
                      go_cut [58] (fun v58 we => v58 = .bool (badOf2 kd ofn) ∧ ∃ q, we = wd.drewN q)
                      case first =>
                        by_cases a : kd = 17
                        · have a' : (kd != 17) = false := bne_eq_false_iff_eq.2 a
                          clear a
                          go_wp2_with fail
                          go_meet
                          case rel => exact ⟨val_bool (by first | (simp [badOf2, *]; done) | (simp [badOf2, *]; omega)), q1, rfl⟩
                        · have a' : (kd != 17) = true := bne_iff_ne.2 a
                          clear a
                          go_wp2_with fail
                          go_meet
                          case rel => exact ⟨val_bool (by first | (simp [badOf2, *]; done) | (simp [badOf2, *]; omega)), q1, rfl⟩
                      case rest =>
                        obtain ⟨rfl, q2, rfl⟩ := hcut
                        cases hO2 : badOf2 kd ofn with
                        | true =>
                          have Hno := Aside0.mk (show fieldOk n prev ⟨s, num, kd, rep, pk, ofn⟩ = false by
                            unfold badOf2 at hO2
                            simp only [Bool.and_eq_true, bne_iff_ne] at hO2
                            have : (if kd = 17 then decide (0 ≤ ofn) && decide (ofn < (n : Int)) else ofn == 0) = false := by rw [if_neg hO2.1]; simp; exact hO2.2
                            rw [fieldOk_eq, this, Bool.and_false])
                          clear hO2
                          go_wp2
                          go_ret
                          exact FieldPost.no Hno.out (by decide) (pw_below_drewN HBd.out _)
                        | false =>
                          have HY := Aside0.mk (show fieldOk n prev ⟨s, num, kd, rep, pk, ofn⟩ = true by
                            have hl : (if kd = 17 then decide (0 ≤ ofn) && decide (ofn < (n : Int)) else ofn == 0) = true := by
                              have h1 := HO1.out
                              unfold badOf1 at h1
                              unfold badOf2 at hO2
                              by_cases e : kd = 17
                              · rw [if_pos e]; simp [e] at h1; simp; omega
                              · rw [if_neg e]; simpa [e] using hO2
                            rw [fieldOk_eq, HN0.out, HA1.out, HU.out, HA2.out, HK.out, HP.out, hl]; rfl)
                          clear hO2
                          have hne : k2 ≠ k1 := fun e => by
                            have := (metInj HK2.out (e ▸ HK1.out)).2.1
                            rw [← this] at hsz
                            exact absurd hsz.1 (by decide)
                          have hm1 := HD.out.names s k1 HK1.out hsz.1
                          rw [show (prev.any fun g => decide (g.f0 = s)) = false from HA1.out, if_neg (by decide)] at hm1
                          have hm2 := HD.out.nums num k2 HK2.out hnb.1
                          rw [show (prev.any fun g => decide (g.f1 = num)) = false from HA2.out, if_neg (by decide)] at hm2
                          have Hadd := Aside0.mk (HD.out.add (f := ⟨s, num, kd, rep, pk, ofn⟩) HK1.out HK2.out hsz.1 hnb.1)
                          clear HO1 HP HK HA1 HA2 HU HN0 hnm hus hkr hsz hnb hkb
                          obtain ⟨wx, hwx⟩ : ∃ x : World, x = wd.drewN q2 := ⟨_, rfl⟩
                          have Hox := Aside0.mk (show wx.ownsMap Try.prog 87 hv b N D by rw [hwx]; exact Ho2.out.kept (grown_of_below (pw_below_drewN (Below.refl _ wd) q2) none) (by simp))
                          have HBx := Aside0.mk (show Below w.heap.size w wx by rw [hwx]; exact pw_below_drewN HBd.out q2)
                          have Hhx : Aside0 (∀ g : Nat, wx.heap[g]? = wd.heap[g]?) := ⟨fun g => by rw [hwx]; rfl⟩
                          have Hcx : Aside0 (∀ a : Addr, wx.cell? a = wd.cell? a) := ⟨fun a => by rw [hwx]; exact World.cell?_of_block (w := wd) rfl⟩
                          rw [← Hcx.out] at c0 c1 c2 c5 d0 d1 d2 e0 e1 e2
                          rw [← hwx]
                          clear hwx
                          obtain ⟨st, wA, hmE, hL1, hL2, hst⟩ := owns_incr Hox.out.drew lawMet Try.underlying79 (fun u => zero_int u) (by omega) HK1.out
                          rw [hm1] at hmE hL1 hL2
                          simp only [lookRes, metV, Bool.false_eq_true, if_false] at hmE hL1 hL2
                          obtain ⟨wB, hS, hoB, hgB⟩ := hst (.int .i64 1)
                          simp only [goInt] at hS hmE
                          clear hst hm1
                          go_upto_region 17 with (fail)
                          go_cut [] (fun we => we.ownsMap Try.prog 87 hv b (N + 1) (D.put k1 (.held (.int .i64 1))) ∧ wx.grownBy we (some b))
                          case first =>
                            go_region
                            all_goals
                              go_wp2_with fail
                              go_meet
                              case rel => exact ⟨hoB, drew_grown hgB⟩
                          case rest =>
                            obtain ⟨hoC, hgC⟩ := hcut
                            have g10b := map_ne Hox.out ((Hhx.out g10).trans H10.out)
                            have h10' := heap_grown hgC ((Hhx.out g10).trans H10.out) g10b
                            clear c0 c1 c2 c5 d0 d1 d2 e0 e1 e2 hmE hL1 hL2 hS hoB hgB
                            have e0 := cellOf h10' 0
                            have e1 := cellOf h10' 1
                            have e2 := cellOf h10' 2
                            simp only [List.getElem?_toArray, List.getElem?_cons_zero, List.getElem?_cons_succ] at e0 e1 e2
                            obtain ⟨st', wA', hmE, hL1, hL2, hst⟩ := owns_incr hoC.drew lawMet Try.underlying79 (fun u => zero_int u) (by omega) HK2.out
                            rw [mget_put_other hne, hm2] at hmE hL1 hL2
                            simp only [lookRes, metV, Bool.false_eq_true, if_false] at hmE hL1 hL2
                            obtain ⟨wB', hS, hoB, hgB⟩ := hst (.int .i64 1)
                            simp only [goInt] at hS hmE
                            have HoB := Aside0.mk hoB
                            have HgB := Aside0.mk (World.grownBy.trans hgC (drew_grown hgB))
                            have Hne := Aside0.mk hne
                            clear hst hm2 h10' g10b hoC hgC hoB hgB hne
                            go_upto_region 18 with (fail)
                            go_cut [] (fun we => we.ownsMap Try.prog 87 hv b (N + 2) ((D.put k1 (.held (.int .i64 1))).put k2 (.held (.int .i64 1))) ∧ wx.grownBy we (some b))
                            case first =>
                              go_region
                              all_goals
                                go_wp2_with fail
                                go_meet
                                case rel => exact ⟨HoB.out, HgB.out⟩
                            case rest =>
                              obtain ⟨hoE, hgE⟩ := hcut
                              clear e0 e1 e2 hmE hL1 hL2 hS
                              go_wp2
                              go_ret
                              exact ⟨0, rfl, .inl ⟨HY.out, rfl, ⟨_, hoE, Hadd.out⟩, World.grownBy.trans (grown_of_below HBx.out _) hgE⟩⟩
end Go.Proofs.Ytdkhmnmngokmmaa.Sch
