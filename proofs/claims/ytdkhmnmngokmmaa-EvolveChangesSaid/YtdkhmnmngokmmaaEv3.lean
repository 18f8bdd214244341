/- evolve.name and evolve.field: what changes of one field. -/
import Derived.Test.YtdkhmnmngokmmaaEv2
import Derived.Deep.RegionHeld3
import Derived.Outline
namespace Go.Proofs.Ytdkhmnmngokmmaa.Ev
open Go.RowKit Go.Maps Go.Proofs.Ytdkhmnmngokmmaa.B Go.Proofs.Ytdkhmnmngokmmaa.K Go.Proofs.Ytdkhmnmngokmmaa.Spec Go.Proofs.Ytdkhmnmngokmmaa.Sch Go.Proofs.YtdkhmnmngokmmaaW.PrintWords
set_option linter.unusedVariables false
set_option linter.unusedSimpArgs false

/-- The name of a field's message. -/
def nmOf (s : List Msg) (f : Fld) : ByteArray := if f.f2 = 17 then (rd_T41 s f.f5).f0 else ⟨#[]⟩
def OfOk (s : List Msg) (f : Fld) : Prop := f.f2 = 17 → 0 ≤ f.f5 ∧ f.f5 < s.length
set_option maxRecDepth 100000 in
theorem name_calls (s : List Msg) (A : Option Addr) (c : Nat) (f : Fld) (w : World) (hr : Kd.C k41 w A s.length s) (hf : OfOk s f) :
    Calls Try.prog 42 #[.slice A s.length c, .agg #[.string f.f0, .int .i64 f.f1, .int .i64 f.f2, .bool f.f3, .bool f.f4, .int .i64 f.f5]] w fun e w' => e = .returned (.string (nmOf s f)) ∧ Below w.heap.size w w' := by
  have hu := Try.underlying41
  have hu2 := Try.underlying38
  by_cases h17 : f.f2 = 17
  · obtain ⟨h0, h1⟩ := hf h17
    obtain ⟨ad, A1, c1, e, x0, x1, hl, hif⟩ := at_T41 hr f.f5 h0 h1
    cases e
    have hnm : nmOf s f = (rd_T41 s f.f5).f0 := by unfold nmOf; rw [if_pos h17]
    rw [hnm]
    have h17' : (f.f2 != 17) = false := bne_eq_false_iff_eq.2 h17
    have hbl := World.block_lt_of_cell? w _ x0
    clear hr hf hnm h17 x1 hl hif
    go_enter Try.func42, Try.ntmps42
    go_wp2
    go_ret
    exact ⟨rfl, below_alloc' (Below.refl _ _) _⟩
  · have hnm : nmOf s f = ⟨#[]⟩ := by unfold nmOf; rw [if_neg h17]
    rw [hnm]
    have h17' : (f.f2 != 17) = true := bne_iff_ne.2 h17
    clear hr hf hnm h17
    go_enter Try.func42, Try.ntmps42
    go_wp2
    go_ret
    exact ⟨rfl, below_alloc' (Below.refl _ _) _⟩

abbrev Chg := S47
abbrev It := S83
def four (a b : List Msg) (f g : Fld) : List It :=
  [⟨5, !(f.f0.toList == g.f0.toList)⟩, ⟨6, !(f.f2 == g.f2) || !((nmOf a f).toList == (nmOf b g).toList)⟩, ⟨7, !(f.f3 == g.f3)⟩, ⟨8, !(f.f4 == g.f4)⟩]
def chgs (m : ByteArray) (f g : Fld) (l : List It) : List Chg := l.filterMap fun x => if x.f1 then some ⟨⟨x.f0, m, f.f1⟩, f, g⟩ else none
def fieldCh (a b : List Msg) (m : ByteArray) (f g : Fld) : List Chg := chgs m f g (four a b f g)

theorem four_reads {w : World} {g : Nat} {fr : Nat × Nat} {t : Nat} (x0 x1 x2 x3 : It) (h : w.heap[g]? = some (.cells #[.int .i64 x0.f0, .bool x0.f1, .int .i64 x1.f0, .bool x1.f1, .int .i64 x2.f0, .bool x2.f1, .int .i64 x3.f0, .bool x3.f1] t fr)) :
    Kd.C k83 w (some ⟨g, 0, none⟩) 4 [x0, x1, x2, x3] := by
  refine ⟨rfl, by omega, fun _ => ⟨_, rfl, fun j p hj => ?_⟩⟩
  have hc := fun i => cellOf h i
  have hadd : ∀ n : Nat, (⟨g, 0, none⟩ : Addr).add n = ⟨g, n, none⟩ := fun n => add_plain g n
  have hjl := (List.getElem?_eq_some_iff.1 hj).1
  simp only [List.length_cons, List.length_nil] at hjl
  have h4 : j = 0 ∨ j = 1 ∨ j = 2 ∨ j = 3 := by omega
  rcases h4 with rfl | rfl | rfl | rfl <;>
  · simp only [List.getElem?_cons_zero, List.getElem?_cons_succ, Option.some.injEq] at hj
    subst hj
    refine ⟨_, rfl, k83_mk w _, fun i u hu => ?_⟩
    have hi := (List.getElem?_eq_some_iff.1 hu).1
    simp only [List.length_cons, List.length_nil] at hi
    have h2 : i = 0 ∨ i = 1 := by omega
    have hsz : k83.sz = 2 := rfl
    rcases h2 with rfl | rfl <;> (rw [hadd, hc, hsz]; simpa using hu)

theorem chgs_snoc (m : ByteArray) (f g : Fld) (l : List It) (x : It) : chgs m f g (l ++ [x]) = chgs m f g l ++ (if x.f1 then [⟨⟨x.f0, m, f.f1⟩, f, g⟩] else []) := by
  unfold chgs
  rw [List.filterMap_append]
  cases h : x.f1 <;> simp [h]
theorem take_rdI (l : List It) (k : Nat) (h : k < l.length) : l.take (k + 1) = l.take k ++ [rd_T83 l k] := by
  rw [List.take_add_one]
  congr 1
  simp [rd_T83, List.getElem?_eq_getElem h]
theorem heap_lt {w : World} {g : Nat} {o : Obj} (h : w.heap[g]? = some o) : g < w.heap.size := (Array.getElem?_eq_some_iff.1 h).1
set_option maxHeartbeats 8000000 in
set_option maxRecDepth 100000 in
theorem field_calls (a b : List Msg) (A B : Option Addr) (ca cb : Nat) (m : ByteArray) (f g : Fld) (w : World) (ha : Kd.C k41 w A a.length a) (hb : Kd.C k41 w B b.length b) (hf : OfOk a f) (hg : OfOk b g) :
    Calls Try.prog 33 #[.slice A a.length ca, .slice B b.length cb, .string m, .agg #[.string f.f0, .int .i64 f.f1, .int .i64 f.f2, .bool f.f3, .bool f.f4, .int .i64 f.f5], .agg #[.string g.f0, .int .i64 g.f1, .int .i64 g.f2, .bool g.f3, .bool g.f4, .int .i64 g.f5]] w fun e w' =>
      ∃ v, e = .returned v ∧ Kd.R k47 47 w' w.heap.size (fun _ => True) v (fieldCh a b m f g) ∧ Below w.heap.size w w' := by
  have hu2 := Try.underlying38
  have hu3 := Try.underlying83
  have HA := Aside0.mk ha
  have HB := Aside0.mk hb
  have HF := Aside0.mk hf
  have HG := Aside0.mk hg
  clear ha hb hf hg
  go_enter Try.func33, Try.ntmps33
  go_upto_region 2 with (fail)
  go_cut [47, 48, 49] (fun v47 v48 v49 wc => ∃ ad, v47 = .slice (some ad) 4 4 ∧ v48 = .int .i64 4 ∧ v49 = .int .i64 0 ∧ Aside0 (Kd.C k83 wc (some ad) 4 (four a b f g)) ∧
    Aside0 (wc.heap[w.heap.size]? = some (.cells #[.string f.f0, .int .i64 f.f1, .int .i64 f.f2, .bool f.f3, .bool f.f4, .int .i64 f.f5] 38 (0, 0))) ∧
    Aside0 (wc.heap[w.heap.size + 1]? = some (.cells #[.string g.f0, .int .i64 g.f1, .int .i64 g.f2, .bool g.f3, .bool g.f4, .int .i64 g.f5] 38 (0, 0))) ∧ Aside0 (Below w.heap.size w wc))
  case first =>
    obtain ⟨w0, hw0⟩ : ∃ x : World, x = (w.alloc (.cells #[.string f.f0, .int .i64 f.f1, .int .i64 f.f2, .bool f.f3, .bool f.f4, .int .i64 f.f5] 38)).alloc (.cells #[.string g.f0, .int .i64 g.f1, .int .i64 g.f2, .bool g.f3, .bool g.f4, .int .i64 g.f5] 38) := ⟨_, rfl⟩
    rw [← hw0]
    have hbf : w0.heap[w.heap.size]? = some (.cells #[.string f.f0, .int .i64 f.f1, .int .i64 f.f2, .bool f.f3, .bool f.f4, .int .i64 f.f5] 38 (0, 0)) := by rw [hw0]; exact alloc_old (alloc_at _ _) _
    have hbg : w0.heap[w.heap.size + 1]? = some (.cells #[.string g.f0, .int .i64 g.f1, .int .i64 g.f2, .bool g.f3, .bool g.f4, .int .i64 g.f5] 38 (0, 0)) := by rw [hw0]; simpa using alloc_at (w.alloc _) (.cells #[.string g.f0, .int .i64 g.f1, .int .i64 g.f2, .bool g.f3, .bool g.f4, .int .i64 g.f5] 38)
    have HW0 := Aside0.mk (show Below w.heap.size w w0 by rw [hw0]; exact below_alloc' (below_alloc' (Below.refl _ _) _) _)
    clear hw0
    have c0 := cellOf hbf 0
    have c1 := cellOf hbf 1
    have c2 := cellOf hbf 2
    have c3 := cellOf hbf 3
    have c4 := cellOf hbf 4
    have c5 := cellOf hbf 5
    have d0 := cellOf hbg 0
    have d1 := cellOf hbg 1
    have d2 := cellOf hbg 2
    have d3 := cellOf hbg 3
    have d4 := cellOf hbg 4
    have d5 := cellOf hbg 5
    simp only [List.getElem?_toArray, List.getElem?_cons_zero, List.getElem?_cons_succ] at c0 c1 c2 c3 c4 c5 d0 d1 d2 d3 d4 d5
    have HBF := Aside0.mk hbf
    have HBG := Aside0.mk hbg
    clear hbf hbg
    have HBW : Aside0 (Below w0.heap.size w0 w0.drew) := ⟨(Below.refl _ _).drew⟩
    by_cases hk : f.f2 = g.f2
    · have hk' : (f.f2 != g.f2) = false := bne_eq_false_iff_eq.2 hk
      have HK := Aside0.mk hk
      clear hk
      go_region_held3 (fun W => Aside0 (Below w0.heap.size w0 W) ∧ W.cell? ⟨w.heap.size, 0, none⟩ = some (.string f.f0) ∧ W.cell? ⟨w.heap.size, 1, none⟩ = some (.int .i64 f.f1) ∧ W.cell? ⟨w.heap.size, 2, none⟩ = some (.int .i64 f.f2) ∧ W.cell? ⟨w.heap.size, 3, none⟩ = some (.bool f.f3) ∧ W.cell? ⟨w.heap.size, 4, none⟩ = some (.bool f.f4) ∧ W.cell? ⟨w.heap.size, 5, none⟩ = some (.int .i64 f.f5) ∧
        W.cell? ⟨w.heap.size + 1, 0, none⟩ = some (.string g.f0) ∧ W.cell? ⟨w.heap.size + 1, 1, none⟩ = some (.int .i64 g.f1) ∧ W.cell? ⟨w.heap.size + 1, 2, none⟩ = some (.int .i64 g.f2) ∧ W.cell? ⟨w.heap.size + 1, 3, none⟩ = some (.bool g.f3) ∧ W.cell? ⟨w.heap.size + 1, 4, none⟩ = some (.bool g.f4) ∧ W.cell? ⟨w.heap.size + 1, 5, none⟩ = some (.int .i64 g.f5))
        (first | ((repeat' apply And.intro) <;> (first | assumption | (go_keep; done) | exact ⟨below_alloc' (Aside0.out (by assumption)) _⟩)))
        (first
          | (go_at_call 42; (with_reducible refine (name_calls a A ca f _ ?hA HF.out).mono ?_); (case hA => exact Kd.C_below HA.out (HW0.out.trans (Below.mono (Aside0.out (by assumption)) HW0.out.size))); rintro e w2 ⟨rfl, hb2⟩; have qf0 := pw_cell_below hb2 (a := ⟨w.heap.size, 0, none⟩) (v := .string f.f0) (by assumption); have qf1 := pw_cell_below hb2 (a := ⟨w.heap.size, 1, none⟩) (v := .int .i64 f.f1) (by assumption); have qf2 := pw_cell_below hb2 (a := ⟨w.heap.size, 2, none⟩) (v := .int .i64 f.f2) (by assumption); have qf3 := pw_cell_below hb2 (a := ⟨w.heap.size, 3, none⟩) (v := .bool f.f3) (by assumption); have qf4 := pw_cell_below hb2 (a := ⟨w.heap.size, 4, none⟩) (v := .bool f.f4) (by assumption); have qf5 := pw_cell_below hb2 (a := ⟨w.heap.size, 5, none⟩) (v := .int .i64 f.f5) (by assumption); have qg0 := pw_cell_below hb2 (a := ⟨w.heap.size + 1, 0, none⟩) (v := .string g.f0) (by assumption); have qg1 := pw_cell_below hb2 (a := ⟨w.heap.size + 1, 1, none⟩) (v := .int .i64 g.f1) (by assumption); have qg2 := pw_cell_below hb2 (a := ⟨w.heap.size + 1, 2, none⟩) (v := .int .i64 g.f2) (by assumption); have qg3 := pw_cell_below hb2 (a := ⟨w.heap.size + 1, 3, none⟩) (v := .bool g.f3) (by assumption); have qg4 := pw_cell_below hb2 (a := ⟨w.heap.size + 1, 4, none⟩) (v := .bool g.f4) (by assumption); have qg5 := pw_cell_below hb2 (a := ⟨w.heap.size + 1, 5, none⟩) (v := .int .i64 g.f5) (by assumption); have qb : Aside0 (Below w0.heap.size w0 w2) := ⟨Below.trans (Aside0.out (by assumption)) (Below.mono hb2 (Aside0.out (p := Below w0.heap.size w0 _) (by assumption)).size)⟩)
          | (go_at_call 42; (with_reducible refine (name_calls b B cb g _ ?hA HG.out).mono ?_); (case hA => exact Kd.C_below HB.out (HW0.out.trans (Below.mono (Aside0.out (by assumption)) HW0.out.size))); rintro e w2 ⟨rfl, hb2⟩; have qf0 := pw_cell_below hb2 (a := ⟨w.heap.size, 0, none⟩) (v := .string f.f0) (by assumption); have qf1 := pw_cell_below hb2 (a := ⟨w.heap.size, 1, none⟩) (v := .int .i64 f.f1) (by assumption); have qf2 := pw_cell_below hb2 (a := ⟨w.heap.size, 2, none⟩) (v := .int .i64 f.f2) (by assumption); have qf3 := pw_cell_below hb2 (a := ⟨w.heap.size, 3, none⟩) (v := .bool f.f3) (by assumption); have qf4 := pw_cell_below hb2 (a := ⟨w.heap.size, 4, none⟩) (v := .bool f.f4) (by assumption); have qf5 := pw_cell_below hb2 (a := ⟨w.heap.size, 5, none⟩) (v := .int .i64 f.f5) (by assumption); have qg0 := pw_cell_below hb2 (a := ⟨w.heap.size + 1, 0, none⟩) (v := .string g.f0) (by assumption); have qg1 := pw_cell_below hb2 (a := ⟨w.heap.size + 1, 1, none⟩) (v := .int .i64 g.f1) (by assumption); have qg2 := pw_cell_below hb2 (a := ⟨w.heap.size + 1, 2, none⟩) (v := .int .i64 g.f2) (by assumption); have qg3 := pw_cell_below hb2 (a := ⟨w.heap.size + 1, 3, none⟩) (v := .bool g.f3) (by assumption); have qg4 := pw_cell_below hb2 (a := ⟨w.heap.size + 1, 4, none⟩) (v := .bool g.f4) (by assumption); have qg5 := pw_cell_below hb2 (a := ⟨w.heap.size + 1, 5, none⟩) (v := .int .i64 g.f5) (by assumption); have qb : Aside0 (Below w0.heap.size w0 w2) := ⟨Below.trans (Aside0.out (by assumption)) (Below.mono hb2 (Aside0.out (p := Below w0.heap.size w0 _) (by assumption)).size)⟩))
      go_wp2_with fail
      have hfin : Below w0.heap.size w0 (w2.alloc _) := ((by assumption : Aside0 (Below w0.heap.size w0 (w2.alloc _)) ∧ _).1).out
      go_meet
      case rel => exact ⟨⟨w2.heap.size, 0, none⟩, rfl, rfl, rfl, ⟨by rw [show four a b f g = [⟨5, !(f.f0.toList == g.f0.toList)⟩, ⟨6, !((nmOf a f).toList == (nmOf b g).toList)⟩, ⟨7, !(f.f3 == g.f3)⟩, ⟨8, !(f.f4 == g.f4)⟩] from by simp [four, HK.out]]; exact four_reads _ _ _ _ (alloc_at _ _)⟩, ⟨heap_below hfin (Nat.le_refl _) HBF.out⟩, ⟨heap_below hfin (Nat.le_refl _) HBG.out⟩, ⟨HW0.out.trans (hfin.mono HW0.out.size)⟩⟩
    · have hk' : (f.f2 != g.f2) = true := bne_iff_ne.2 hk
      have HK := Aside0.mk hk
      clear hk
      have hs0 : (w0.drew.cell? ⟨w.heap.size, 0, none⟩ = some (.string f.f0)) := c0
      refine wp_region_held_drew (S := (fun W => Aside0 (Below w0.heap.size w0 W) ∧ W.cell? ⟨w.heap.size, 0, none⟩ = some (.string f.f0) ∧ W.cell? ⟨w.heap.size, 1, none⟩ = some (.int .i64 f.f1) ∧ W.cell? ⟨w.heap.size, 2, none⟩ = some (.int .i64 f.f2) ∧ W.cell? ⟨w.heap.size, 3, none⟩ = some (.bool f.f3) ∧ W.cell? ⟨w.heap.size, 4, none⟩ = some (.bool f.f4) ∧ W.cell? ⟨w.heap.size, 5, none⟩ = some (.int .i64 f.f5) ∧
        W.cell? ⟨w.heap.size + 1, 0, none⟩ = some (.string g.f0) ∧ W.cell? ⟨w.heap.size + 1, 1, none⟩ = some (.int .i64 g.f1) ∧ W.cell? ⟨w.heap.size + 1, 2, none⟩ = some (.int .i64 g.f2) ∧ W.cell? ⟨w.heap.size + 1, 3, none⟩ = some (.bool g.f3) ∧ W.cell? ⟨w.heap.size + 1, 4, none⟩ = some (.bool g.f4) ∧ W.cell? ⟨w.heap.size + 1, 5, none⟩ = some (.int .i64 g.f5))) (by kernel_rfl) ?_ (fun hHeld => ?_)
      · (first | ((repeat' apply And.intro) <;> (first | assumption | (go_keep; done) | exact ⟨below_alloc' (Aside0.out (by assumption)) _⟩)))
      refine wpAnyH_take (i := 0) (oi := { dst := some 14, op := Go.Op.fieldAddr 38 (Go.Operand.tmp 8) 0, type := 0, pos := "evolve.go:65", after := #[], guard := none }) (v := ?_) rfl (by kernel_rfl) (by kernel_rfl) (by kernel_rfl) (fun _ _ _ h => h) (Or.inl ⟨by rfl, ?_⟩) (by assumption) ?_
      rotate_left
      · (intro w hSw; (try dsimp only at hSw); go_simp; try with_reducible rfl)
      try simp only [Act.put, List.setIfInBounds_toArray, List.set_cons_zero, List.set_cons_succ]
      refine wpAnyH_take (i := 1) (oi := { dst := some 15, op := Go.Op.load 9 (Go.Operand.tmp 14), type := 9, pos := "evolve.go:65", after := #[{ on := 0, ground := Go.Ground.data }], guard := none }) (v := ?_) rfl (by kernel_rfl) (by kernel_rfl) (by kernel_rfl) (fun _ _ _ h => h) (Or.inl ⟨by rfl, ?_⟩) (by assumption) ?_
      rotate_left
      · (intro w hSw; (try dsimp only at hSw); go_simp; try with_reducible rfl)
      try simp only [Act.put, List.setIfInBounds_toArray, List.set_cons_zero, List.set_cons_succ]
      refine wpAnyH_take (i := 2) (oi := { dst := some 16, op := Go.Op.fieldAddr 38 (Go.Operand.tmp 9) 0, type := 0, pos := "evolve.go:65", after := #[], guard := none }) (v := ?_) rfl (by kernel_rfl) (by kernel_rfl) (by kernel_rfl) (fun _ _ _ h => h) (Or.inl ⟨by rfl, ?_⟩) (by assumption) ?_
      rotate_left
      · (intro w hSw; (try dsimp only at hSw); go_simp; try with_reducible rfl)
      try simp only [Act.put, List.setIfInBounds_toArray, List.set_cons_zero, List.set_cons_succ]
      refine wpAnyH_take (i := 3) (oi := { dst := some 17, op := Go.Op.load 9 (Go.Operand.tmp 16), type := 9, pos := "evolve.go:65", after := #[{ on := 2, ground := Go.Ground.data }], guard := none }) (v := ?_) rfl (by kernel_rfl) (by kernel_rfl) (by kernel_rfl) (fun _ _ _ h => h) (Or.inl ⟨by rfl, ?_⟩) (by assumption) ?_
      rotate_left
      · (intro w hSw; (try dsimp only at hSw); go_simp; try with_reducible rfl)
      try simp only [Act.put, List.setIfInBounds_toArray, List.set_cons_zero, List.set_cons_succ]
      refine wpAnyH_take (i := 4) (oi := { dst := some 18, op := Go.Op.binOp Go.BinOp.neq 9 (Go.Operand.tmp 15) (Go.Operand.tmp 17) 9, type := 4, pos := "evolve.go:65", after := #[{ on := 1, ground := Go.Ground.data }, { on := 3, ground := Go.Ground.data }], guard := none }) (v := ?_) rfl (by kernel_rfl) (by kernel_rfl) (by kernel_rfl) (fun _ _ _ h => h) (Or.inl ⟨by rfl, ?_⟩) (by assumption) ?_
      rotate_left
      · (intro w hSw; (try dsimp only at hSw); go_simp; try with_reducible rfl)
      try simp only [Act.put, List.setIfInBounds_toArray, List.set_cons_zero, List.set_cons_succ]
      refine wpAnyH_take (i := 5) (oi := { dst := some 19, op := Go.Op.build 83 #[(0, Go.Operand.const (Go.Value.int Go.IntKind.i64 5)), (1, Go.Operand.tmp 18)], type := 83, pos := "evolve.go:65", after := #[{ on := 4, ground := Go.Ground.data }], guard := none }) (v := ?_) rfl (by kernel_rfl) (by kernel_rfl) (by kernel_rfl) (fun _ _ _ h => h) (Or.inl ⟨by rfl, ?_⟩) (by assumption) ?_
      rotate_left
      · (intro w hSw; (try dsimp only at hSw); go_simp; try with_reducible rfl)
      try simp only [Act.put, List.setIfInBounds_toArray, List.set_cons_zero, List.set_cons_succ]
      refine wpAnyH_take (i := 6) (oi := { dst := some 20, op := Go.Op.fieldAddr 38 (Go.Operand.tmp 8) 2, type := 0, pos := "evolve.go:65", after := #[], guard := none }) (v := ?_) rfl (by kernel_rfl) (by kernel_rfl) (by kernel_rfl) (fun _ _ _ h => h) (Or.inl ⟨by rfl, ?_⟩) (by assumption) ?_
      rotate_left
      · (intro w hSw; (try dsimp only at hSw); go_simp; try with_reducible rfl)
      try simp only [Act.put, List.setIfInBounds_toArray, List.set_cons_zero, List.set_cons_succ]
      refine wpAnyH_take (i := 7) (oi := { dst := some 21, op := Go.Op.load 3 (Go.Operand.tmp 20), type := 3, pos := "evolve.go:65", after := #[{ on := 6, ground := Go.Ground.data }], guard := none }) (v := ?_) rfl (by kernel_rfl) (by kernel_rfl) (by kernel_rfl) (fun _ _ _ h => h) (Or.inl ⟨by rfl, ?_⟩) (by assumption) ?_
      rotate_left
      · (intro w hSw; (try dsimp only at hSw); go_simp; try with_reducible rfl)
      try simp only [Act.put, List.setIfInBounds_toArray, List.set_cons_zero, List.set_cons_succ]
      refine wpAnyH_take (i := 8) (oi := { dst := some 22, op := Go.Op.fieldAddr 38 (Go.Operand.tmp 9) 2, type := 0, pos := "evolve.go:65", after := #[], guard := none }) (v := ?_) rfl (by kernel_rfl) (by kernel_rfl) (by kernel_rfl) (fun _ _ _ h => h) (Or.inl ⟨by rfl, ?_⟩) (by assumption) ?_
      rotate_left
      · (intro w hSw; (try dsimp only at hSw); go_simp; try with_reducible rfl)
      try simp only [Act.put, List.setIfInBounds_toArray, List.set_cons_zero, List.set_cons_succ]
      refine wpAnyH_take (i := 9) (oi := { dst := some 23, op := Go.Op.load 3 (Go.Operand.tmp 22), type := 3, pos := "evolve.go:65", after := #[{ on := 8, ground := Go.Ground.data }], guard := none }) (v := ?_) rfl (by kernel_rfl) (by kernel_rfl) (by kernel_rfl) (fun _ _ _ h => h) (Or.inl ⟨by rfl, ?_⟩) (by assumption) ?_
      rotate_left
      · (intro w hSw; (try dsimp only at hSw); go_simp; try with_reducible rfl)
      try simp only [Act.put, List.setIfInBounds_toArray, List.set_cons_zero, List.set_cons_succ]
      refine wpAnyH_take (i := 10) (oi := { dst := some 24, op := Go.Op.binOp Go.BinOp.neq 3 (Go.Operand.tmp 21) (Go.Operand.tmp 23) 3, type := 4, pos := "evolve.go:65", after := #[{ on := 7, ground := Go.Ground.data }, { on := 9, ground := Go.Ground.data }], guard := none }) (v := ?_) rfl (by kernel_rfl) (by kernel_rfl) (by kernel_rfl) (fun _ _ _ h => h) (Or.inl ⟨by rfl, ?_⟩) (by assumption) ?_
      rotate_left
      · (intro w hSw; (try dsimp only at hSw); go_simp; try with_reducible rfl)
      try simp only [Act.put, List.setIfInBounds_toArray, List.set_cons_zero, List.set_cons_succ]
      refine wpAnyH_take (i := 11) (oi := { dst := some 25, op := Go.Op.move (Go.Operand.tmp 24), type := 4, pos := "evolve.go:65", after := #[{ on := 10, ground := Go.Ground.data }], guard := none }) (v := ?_) rfl (by kernel_rfl) (by kernel_rfl) (by kernel_rfl) (fun _ _ _ h => h) (Or.inl ⟨by rfl, ?_⟩) (by assumption) ?_
      rotate_left
      · (intro w hSw; (try dsimp only at hSw); go_simp; try with_reducible rfl)
      try simp only [Act.put, List.setIfInBounds_toArray, List.set_cons_zero, List.set_cons_succ]
      refine wpAnyH_take (i := 12) (oi := { dst := some 26, op := Go.Op.move (Go.Operand.tmp 0), type := 23, pos := "evolve.go:65", after := #[{ on := 11, ground := Go.Ground.guard }], guard := some (11, false) }) (v := undef) rfl (by kernel_rfl) (by kernel_rfl) (by kernel_rfl) (fun _ _ _ h => h) (Or.inr ⟨by with_unfolding_all rfl, rfl⟩) (by assumption) ?_
      try simp only [Act.put, List.setIfInBounds_toArray, List.set_cons_zero, List.set_cons_succ]
      refine wpAnyH_take (i := 13) (oi := { dst := some 27, op := Go.Op.load 38 (Go.Operand.tmp 8), type := 38, pos := "evolve.go:65", after := #[{ on := 11, ground := Go.Ground.guard }], guard := some (11, false) }) (v := undef) rfl (by kernel_rfl) (by kernel_rfl) (by kernel_rfl) (fun _ _ _ h => h) (Or.inr ⟨by with_unfolding_all rfl, rfl⟩) (by assumption) ?_
      try simp only [Act.put, List.setIfInBounds_toArray, List.set_cons_zero, List.set_cons_succ]
      refine wpAnyH_take (i := 14) (oi := { dst := some 28, op := Go.Op.call { callee := Go.Callee.value (Go.Operand.func 42), args := #[Go.Operand.tmp 26, Go.Operand.tmp 27], argTypes := #[23, 38] }, type := 9, pos := "evolve.go:68", after := #[{ on := 12, ground := Go.Ground.data }, { on := 13, ground := Go.Ground.data }, { on := 11, ground := Go.Ground.chain }, { on := 11, ground := Go.Ground.guard }], guard := some (11, false) }) (v := undef) rfl (by kernel_rfl) (by kernel_rfl) (by kernel_rfl) (fun _ _ _ h => h) (Or.inr ⟨by with_unfolding_all rfl, rfl⟩) (by assumption) ?_
      try simp only [Act.put, List.setIfInBounds_toArray, List.set_cons_zero, List.set_cons_succ]
      refine wpAnyH_take (i := 15) (oi := { dst := some 29, op := Go.Op.move (Go.Operand.tmp 1), type := 23, pos := "evolve.go:65", after := #[{ on := 11, ground := Go.Ground.guard }], guard := some (11, false) }) (v := undef) rfl (by kernel_rfl) (by kernel_rfl) (by kernel_rfl) (fun _ _ _ h => h) (Or.inr ⟨by with_unfolding_all rfl, rfl⟩) (by assumption) ?_
      try simp only [Act.put, List.setIfInBounds_toArray, List.set_cons_zero, List.set_cons_succ]
      refine wpAnyH_take (i := 16) (oi := { dst := some 30, op := Go.Op.load 38 (Go.Operand.tmp 9), type := 38, pos := "evolve.go:65", after := #[{ on := 11, ground := Go.Ground.guard }], guard := some (11, false) }) (v := undef) rfl (by kernel_rfl) (by kernel_rfl) (by kernel_rfl) (fun _ _ _ h => h) (Or.inr ⟨by with_unfolding_all rfl, rfl⟩) (by assumption) ?_
      try simp only [Act.put, List.setIfInBounds_toArray, List.set_cons_zero, List.set_cons_succ]
      refine wpAnyH_take (i := 17) (oi := { dst := some 31, op := Go.Op.call { callee := Go.Callee.value (Go.Operand.func 42), args := #[Go.Operand.tmp 29, Go.Operand.tmp 30], argTypes := #[23, 38] }, type := 9, pos := "evolve.go:68", after := #[{ on := 15, ground := Go.Ground.data }, { on := 16, ground := Go.Ground.data }, { on := 14, ground := Go.Ground.chain }, { on := 11, ground := Go.Ground.guard }], guard := some (11, false) }) (v := undef) rfl (by kernel_rfl) (by kernel_rfl) (by kernel_rfl) (fun _ _ _ h => h) (Or.inr ⟨by with_unfolding_all rfl, rfl⟩) (by assumption) ?_
      try simp only [Act.put, List.setIfInBounds_toArray, List.set_cons_zero, List.set_cons_succ]
      refine wpAnyH_take (i := 18) (oi := { dst := some 32, op := Go.Op.binOp Go.BinOp.neq 9 (Go.Operand.tmp 28) (Go.Operand.tmp 31) 9, type := 4, pos := "evolve.go:65", after := #[{ on := 14, ground := Go.Ground.data }, { on := 17, ground := Go.Ground.data }, { on := 11, ground := Go.Ground.guard }], guard := some (11, false) }) (v := undef) rfl (by kernel_rfl) (by kernel_rfl) (by kernel_rfl) (fun _ _ _ h => h) (Or.inr ⟨by with_unfolding_all rfl, rfl⟩) (by assumption) ?_
      try simp only [Act.put, List.setIfInBounds_toArray, List.set_cons_zero, List.set_cons_succ]
      refine wpAnyH_take (i := 19) (oi := { dst := some 33, op := Go.Op.pick (Go.Operand.tmp 25) (Go.Operand.const (Go.Value.bool true)) (Go.Operand.tmp 32), type := 4, pos := "evolve.go:65", after := #[{ on := 11, ground := Go.Ground.data }, { on := 18, ground := Go.Ground.data }], guard := none }) (v := ?_) rfl (by kernel_rfl) (by kernel_rfl) (by kernel_rfl) (fun _ _ _ h => h) (Or.inl ⟨by rfl, ?_⟩) (by assumption) ?_
      rotate_left
      · (intro w hSw; (try dsimp only at hSw); go_simp; try with_reducible rfl)
      try simp only [Act.put, List.setIfInBounds_toArray, List.set_cons_zero, List.set_cons_succ]
      refine wpAnyH_take (i := 20) (oi := { dst := some 34, op := Go.Op.build 83 #[(0, Go.Operand.const (Go.Value.int Go.IntKind.i64 6)), (1, Go.Operand.tmp 33)], type := 83, pos := "evolve.go:65", after := #[{ on := 19, ground := Go.Ground.data }], guard := none }) (v := ?_) rfl (by kernel_rfl) (by kernel_rfl) (by kernel_rfl) (fun _ _ _ h => h) (Or.inl ⟨by rfl, ?_⟩) (by assumption) ?_
      rotate_left
      · (intro w hSw; (try dsimp only at hSw); go_simp; try with_reducible rfl)
      try simp only [Act.put, List.setIfInBounds_toArray, List.set_cons_zero, List.set_cons_succ]
      refine wpAnyH_take (i := 21) (oi := { dst := some 35, op := Go.Op.fieldAddr 38 (Go.Operand.tmp 8) 3, type := 0, pos := "evolve.go:65", after := #[], guard := none }) (v := ?_) rfl (by kernel_rfl) (by kernel_rfl) (by kernel_rfl) (fun _ _ _ h => h) (Or.inl ⟨by rfl, ?_⟩) (by assumption) ?_
      rotate_left
      · (intro w hSw; (try dsimp only at hSw); go_simp; try with_reducible rfl)
      try simp only [Act.put, List.setIfInBounds_toArray, List.set_cons_zero, List.set_cons_succ]
      refine wpAnyH_take (i := 22) (oi := { dst := some 36, op := Go.Op.load 4 (Go.Operand.tmp 35), type := 4, pos := "evolve.go:65", after := #[{ on := 21, ground := Go.Ground.data }], guard := none }) (v := ?_) rfl (by kernel_rfl) (by kernel_rfl) (by kernel_rfl) (fun _ _ _ h => h) (Or.inl ⟨by rfl, ?_⟩) (by assumption) ?_
      rotate_left
      · (intro w hSw; (try dsimp only at hSw); go_simp; try with_reducible rfl)
      try simp only [Act.put, List.setIfInBounds_toArray, List.set_cons_zero, List.set_cons_succ]
      refine wpAnyH_take (i := 23) (oi := { dst := some 37, op := Go.Op.fieldAddr 38 (Go.Operand.tmp 9) 3, type := 0, pos := "evolve.go:65", after := #[], guard := none }) (v := ?_) rfl (by kernel_rfl) (by kernel_rfl) (by kernel_rfl) (fun _ _ _ h => h) (Or.inl ⟨by rfl, ?_⟩) (by assumption) ?_
      rotate_left
      · (intro w hSw; (try dsimp only at hSw); go_simp; try with_reducible rfl)
      try simp only [Act.put, List.setIfInBounds_toArray, List.set_cons_zero, List.set_cons_succ]
      refine wpAnyH_take (i := 24) (oi := { dst := some 38, op := Go.Op.load 4 (Go.Operand.tmp 37), type := 4, pos := "evolve.go:65", after := #[{ on := 23, ground := Go.Ground.data }], guard := none }) (v := ?_) rfl (by kernel_rfl) (by kernel_rfl) (by kernel_rfl) (fun _ _ _ h => h) (Or.inl ⟨by rfl, ?_⟩) (by assumption) ?_
      rotate_left
      · (intro w hSw; (try dsimp only at hSw); go_simp; try with_reducible rfl)
      try simp only [Act.put, List.setIfInBounds_toArray, List.set_cons_zero, List.set_cons_succ]
      refine wpAnyH_take (i := 25) (oi := { dst := some 39, op := Go.Op.binOp Go.BinOp.neq 4 (Go.Operand.tmp 36) (Go.Operand.tmp 38) 4, type := 4, pos := "evolve.go:65", after := #[{ on := 22, ground := Go.Ground.data }, { on := 24, ground := Go.Ground.data }], guard := none }) (v := ?_) rfl (by kernel_rfl) (by kernel_rfl) (by kernel_rfl) (fun _ _ _ h => h) (Or.inl ⟨by rfl, ?_⟩) (by assumption) ?_
      rotate_left
      · (intro w hSw; (try dsimp only at hSw); go_simp; try with_reducible rfl)
      try simp only [Act.put, List.setIfInBounds_toArray, List.set_cons_zero, List.set_cons_succ]
      refine wpAnyH_take (i := 26) (oi := { dst := some 40, op := Go.Op.build 83 #[(0, Go.Operand.const (Go.Value.int Go.IntKind.i64 7)), (1, Go.Operand.tmp 39)], type := 83, pos := "evolve.go:65", after := #[{ on := 25, ground := Go.Ground.data }], guard := none }) (v := ?_) rfl (by kernel_rfl) (by kernel_rfl) (by kernel_rfl) (fun _ _ _ h => h) (Or.inl ⟨by rfl, ?_⟩) (by assumption) ?_
      rotate_left
      · (intro w hSw; (try dsimp only at hSw); go_simp; try with_reducible rfl)
      try simp only [Act.put, List.setIfInBounds_toArray, List.set_cons_zero, List.set_cons_succ]
      refine wpAnyH_take (i := 27) (oi := { dst := some 41, op := Go.Op.fieldAddr 38 (Go.Operand.tmp 8) 4, type := 0, pos := "evolve.go:65", after := #[], guard := none }) (v := ?_) rfl (by kernel_rfl) (by kernel_rfl) (by kernel_rfl) (fun _ _ _ h => h) (Or.inl ⟨by rfl, ?_⟩) (by assumption) ?_
      rotate_left
      · (intro w hSw; (try dsimp only at hSw); go_simp; try with_reducible rfl)
      try simp only [Act.put, List.setIfInBounds_toArray, List.set_cons_zero, List.set_cons_succ]
      refine wpAnyH_take (i := 28) (oi := { dst := some 42, op := Go.Op.load 4 (Go.Operand.tmp 41), type := 4, pos := "evolve.go:65", after := #[{ on := 27, ground := Go.Ground.data }], guard := none }) (v := ?_) rfl (by kernel_rfl) (by kernel_rfl) (by kernel_rfl) (fun _ _ _ h => h) (Or.inl ⟨by rfl, ?_⟩) (by assumption) ?_
      rotate_left
      · (intro w hSw; (try dsimp only at hSw); go_simp; try with_reducible rfl)
      try simp only [Act.put, List.setIfInBounds_toArray, List.set_cons_zero, List.set_cons_succ]
      refine wpAnyH_take (i := 29) (oi := { dst := some 43, op := Go.Op.fieldAddr 38 (Go.Operand.tmp 9) 4, type := 0, pos := "evolve.go:65", after := #[], guard := none }) (v := ?_) rfl (by kernel_rfl) (by kernel_rfl) (by kernel_rfl) (fun _ _ _ h => h) (Or.inl ⟨by rfl, ?_⟩) (by assumption) ?_
      rotate_left
      · (intro w hSw; (try dsimp only at hSw); go_simp; try with_reducible rfl)
      try simp only [Act.put, List.setIfInBounds_toArray, List.set_cons_zero, List.set_cons_succ]
      refine wpAnyH_take (i := 30) (oi := { dst := some 44, op := Go.Op.load 4 (Go.Operand.tmp 43), type := 4, pos := "evolve.go:65", after := #[{ on := 29, ground := Go.Ground.data }], guard := none }) (v := ?_) rfl (by kernel_rfl) (by kernel_rfl) (by kernel_rfl) (fun _ _ _ h => h) (Or.inl ⟨by rfl, ?_⟩) (by assumption) ?_
      rotate_left
      · (intro w hSw; (try dsimp only at hSw); go_simp; try with_reducible rfl)
      try simp only [Act.put, List.setIfInBounds_toArray, List.set_cons_zero, List.set_cons_succ]
      refine wpAnyH_take (i := 31) (oi := { dst := some 45, op := Go.Op.binOp Go.BinOp.neq 4 (Go.Operand.tmp 42) (Go.Operand.tmp 44) 4, type := 4, pos := "evolve.go:65", after := #[{ on := 28, ground := Go.Ground.data }, { on := 30, ground := Go.Ground.data }], guard := none }) (v := ?_) rfl (by kernel_rfl) (by kernel_rfl) (by kernel_rfl) (fun _ _ _ h => h) (Or.inl ⟨by rfl, ?_⟩) (by assumption) ?_
      rotate_left
      · (intro w hSw; (try dsimp only at hSw); go_simp; try with_reducible rfl)
      try simp only [Act.put, List.setIfInBounds_toArray, List.set_cons_zero, List.set_cons_succ]
      refine wpAnyH_take (i := 32) (oi := { dst := some 46, op := Go.Op.build 83 #[(0, Go.Operand.const (Go.Value.int Go.IntKind.i64 8)), (1, Go.Operand.tmp 45)], type := 83, pos := "evolve.go:65", after := #[{ on := 31, ground := Go.Ground.data }], guard := none }) (v := ?_) rfl (by kernel_rfl) (by kernel_rfl) (by kernel_rfl) (fun _ _ _ h => h) (Or.inl ⟨by rfl, ?_⟩) (by assumption) ?_
      rotate_left
      · (intro w hSw; (try dsimp only at hSw); go_simp; try with_reducible rfl)
      try simp only [Act.put, List.setIfInBounds_toArray, List.set_cons_zero, List.set_cons_succ]
      refine wpAnyH_take (i := 35) (oi := { dst := some 49, op := Go.Op.move (Go.Operand.const (Go.Value.int Go.IntKind.i64 0)), type := 3, pos := "evolve.go:65", after := #[], guard := none }) (v := ?_) rfl (by kernel_rfl) (by kernel_rfl) (by kernel_rfl) (fun _ _ _ h => h) (Or.inl ⟨by rfl, ?_⟩) (by assumption) ?_
      rotate_left
      · (intro w hSw; (try dsimp only at hSw); go_simp; try with_reducible rfl)
      try simp only [Act.put, List.setIfInBounds_toArray, List.set_cons_zero, List.set_cons_succ]
      refine wpAnyH_ready (rs := [33]) (by kernel_rfl) (by simp) ?_
      refine AllReadyH.cons (o := { dst := some 47, op := Go.Op.buildSlice 84 4 #[(0, Go.Operand.tmp 19), (1, Go.Operand.tmp 34), (2, Go.Operand.tmp 40), (3, Go.Operand.tmp 46)], type := 84, pos := "evolve.go:65", after := #[{ on := 5, ground := Go.Ground.data }, { on := 20, ground := Go.Ground.data }, { on := 26, ground := Go.Ground.data }, { on := 32, ground := Go.Ground.data }], guard := none }) rfl (fun K hK => ?_) AllReadyH.nil
      go_simp
      refine hK.out _ _ ?_ (fun hHeld2 => ?_)
      · (try dsimp only); (first | ((repeat' apply And.intro) <;> (first | assumption | (go_keep; done) | exact ⟨below_alloc' (Aside0.out (by assumption)) _⟩)))
      clear hK K hHeld
      try simp only [Act.put, List.setIfInBounds_toArray, List.set_cons_zero, List.set_cons_succ]
      refine wpAnyH_take (i := 34) (oi := { dst := some 48, op := Go.Op.call { callee := Go.Callee.builtin Go.Builtin.len, args := #[Go.Operand.tmp 47], argTypes := #[84] }, type := 3, pos := "evolve.go:65", after := #[{ on := 33, ground := Go.Ground.data }], guard := none }) (v := ?_) rfl (by kernel_rfl) (by kernel_rfl) (by kernel_rfl) (fun _ _ _ h => h) (Or.inl ⟨by rfl, ?_⟩) (by assumption) ?_
      rotate_left
      · (intro w hSw; (try dsimp only at hSw); go_simp; try with_reducible rfl)
      try simp only [Act.put, List.setIfInBounds_toArray, List.set_cons_zero, List.set_cons_succ]
      refine wpAnyH_done (by kernel_rfl) ?_ _
      go_wp2_with fail
      have hfin : Below w0.heap.size w0 (w0.drew.alloc _) := ((by assumption : Aside0 (Below w0.heap.size w0 (w0.drew.alloc _)) ∧ _).1).out
      go_meet
      case rel => exact ⟨⟨w0.heap.size, 0, none⟩, rfl, rfl, rfl, ⟨by rw [show four a b f g = [⟨5, !(f.f0.toList == g.f0.toList)⟩, ⟨6, true⟩, ⟨7, !(f.f3 == g.f3)⟩, ⟨8, !(f.f4 == g.f4)⟩] from by simp [four, HK.out]]; exact four_reads _ _ _ _ (alloc_at _ _)⟩, ⟨heap_below hfin (Nat.le_refl _) HBF.out⟩, ⟨heap_below hfin (Nat.le_refl _) HBG.out⟩, ⟨HW0.out.trans (hfin.mono HW0.out.size)⟩⟩
  case rest =>
    obtain ⟨ad, rfl, rfl, rfl, HC, HBF, HBG, HW⟩ := hcut
    go_wp2_with fail
    go_loopg [11, 49] 4 (fun kq v11 v49 wr => ∃ k : Nat, v49 = .int .i64 k ∧ k ≤ 4 ∧ 4 - k ≤ kq ∧ Aside0 (Kd.R k47 47 wr wc.heap.size (fun _ => True) v11 (chgs m f g ((four a b f g).take k))) ∧ Aside0 (Below wc.heap.size wc wr))
    case atStart => exact ⟨0, rfl, by omega, by omega, ⟨Kd.R_nil _ _ _ _ _⟩, ⟨Below.refl _ _⟩⟩
    case round =>
      obtain ⟨k, rfl, hk, hg4, HO, HBc⟩ := hrel
      by_cases hlt : k < 4
      · have hlt' : (k : Int) < 4 := by omega
        obtain ⟨ad1, e, y0, y1⟩ := at_T83 HC.out k (by omega) hlt'
        cases e
        simp only [Int.toNat_natCast] at y0 y1
        replace y0 := pw_cell_below HBc.out y0
        replace y1 := pw_cell_below HBc.out y1
        have HT := Aside0.mk (take_rdI (four a b f g) k (by simpa [four] using hlt))
        obtain ⟨x, hx⟩ : ∃ x, x = rd_T83 (four a b f g) k := ⟨_, rfl⟩
        rw [← hx] at y0 y1 HT
        clear hx
        obtain ⟨wh, bx⟩ := x
        have c0 := cellOf (heap_below HBc.out (Nat.le_refl _) HBF.out) 0
        have c1 := cellOf (heap_below HBc.out (Nat.le_refl _) HBF.out) 1
        have c2 := cellOf (heap_below HBc.out (Nat.le_refl _) HBF.out) 2
        have c3 := cellOf (heap_below HBc.out (Nat.le_refl _) HBF.out) 3
        have c4 := cellOf (heap_below HBc.out (Nat.le_refl _) HBF.out) 4
        have c5 := cellOf (heap_below HBc.out (Nat.le_refl _) HBF.out) 5
        have d0 := cellOf (heap_below HBc.out (Nat.le_refl _) HBG.out) 0
        have d1 := cellOf (heap_below HBc.out (Nat.le_refl _) HBG.out) 1
        have d2 := cellOf (heap_below HBc.out (Nat.le_refl _) HBG.out) 2
        have d3 := cellOf (heap_below HBc.out (Nat.le_refl _) HBG.out) 3
        have d4 := cellOf (heap_below HBc.out (Nat.le_refl _) HBG.out) 4
        have d5 := cellOf (heap_below HBc.out (Nat.le_refl _) HBG.out) 5
        simp only [List.getElem?_toArray, List.getElem?_cons_zero, List.getElem?_cons_succ] at c0 c1 c2 c3 c4 c5 d0 d1 d2 d3 d4 d5
        have hs0 : w.heap.size < wr.heap.size := heap_lt (heap_below HBc.out (Nat.le_refl _) HBF.out)
        have hs1 : w.heap.size + 1 < wr.heap.size := heap_lt (heap_below HBc.out (Nat.le_refl _) HBG.out)
        have hlen : (chgs m f g ((four a b f g).take k)).length ≤ 4 := Nat.le_trans (List.length_filterMap_le _ _) (by simp [four]; omega)
        have HL := Aside0.mk hlen
        clear hlen
        have HO2 := Aside0.mk (Kd.R_alloc HO.out (.cells #[.int .i64 wh, .bool bx] 83))
        have HBc2 := Aside0.mk (below_alloc' HBc.out (.cells #[.int .i64 wh, .bool bx] 83))
        cases bx with
        | true =>
          go_wp2_with (at_builtin; refine Kd.R_append k47 (w0 := wc) (W := wr.alloc (.cells #[.int .i64 wh, .bool true] 83)) wc.heap.size rfl (.tmp 55) (.tmp 65) 42 47 _ 128 rfl Try.underlying42 info47 rfl (by decide) (by decide) _ (chgs m f g ((four a b f g).take k)) ⟨⟨wh, m, f.f1⟩, f, g⟩ [.int .i64 wh, .string m, .int .i64 f.f1, .string f.f0, .int .i64 f.f1, .int .i64 f.f2, .bool f.f3, .bool f.f4, .int .i64 f.f5, .string g.f0, .int .i64 g.f1, .int .i64 g.f2, .bool g.f3, .bool g.f4, .int .i64 g.f5] (fun _ => True) (fun _ => False) rfl (by first | (go_simp; done) | (go_simp; rfl)) (k47_mkM _ _ _ _) (fun _ h => h.elim) (fun _ _ => trivial) HO2.out HBc2.out HBc2.out.size (by have := HL.out; omega) ?_; intro v1 w1 ho1 hb1 hg1 ha1)
          go_roundg (4 - (k + 1))
          case measure => omega
          case rel =>
            refine ⟨k + 1, by go_num, by omega, by omega, ⟨?_⟩, ⟨hb1⟩⟩
            rw [HT.out, chgs_snoc]
            exact ho1
        | false =>
          go_wp2
          go_roundg (4 - (k + 1))
          case measure => omega
          case rel =>
            refine ⟨k + 1, by go_num, by omega, by omega, ⟨?_⟩, HBc2⟩
            rw [HT.out, chgs_snoc]
            simpa using HO2.out
      · obtain rfl : k = 4 := by omega
        go_wp2
        go_ret
        exact ⟨_, rfl, Kd.R_lower HO.out HW.out.size, HW.out.trans (HBc.out.mono HW.out.size)⟩
end Go.Proofs.Ytdkhmnmngokmmaa.Ev
