/- Maps of fields by numbers: made, copied, their keys sorted (package evolve). -/
import Derived.Test.YtdkhmnmngokmmaaSm
import Derived.Test.YtdkhmnmngokmmaaLay
import Derived.Maps.RangeWalk
namespace Go.Proofs.Ytdkhmnmngokmmaa.Ev
open Go.RowKit Go.Maps Go.Proofs.Ytdkhmnmngokmmaa.B Go.Proofs.Ytdkhmnmngokmmaa.K Go.Proofs.Ytdkhmnmngokmmaa.Spec Go.Proofs.Ytdkhmnmngokmmaa.Sch Go.Proofs.YtdkhmnmngokmmaaW.PrintWords
set_option linter.unusedVariables false
set_option linter.unusedSimpArgs false

def fldV (f : Fld) : Value := .agg #[.string f.f0, .int .i64 f.f1, .int .i64 f.f2, .bool f.f3, .bool f.f4, .int .i64 f.f5]
def fldOf (v : Value) : Option Fld := match v with
  | .agg a => match a.toList with
    | [.string s, .int .i64 n, .int .i64 k, .bool r, .bool p, .int .i64 o] => some ⟨s, n, k, r, p, o⟩
    | _ => none
  | _ => none
theorem fldOf_V (f : Fld) : fldOf (fldV f) = some f := rfl
theorem fldV_of {v : Value} {f : Fld} (h : fldOf v = some f) : v = fldV f := by
  unfold fldOf at h
  split at h
  · rename_i a
    split at h
    · rename_i ha
      cases h
      rw [fldV]
      congr 1
      exact Array.ext' ha
    · cases h
  · cases h
/-- A field in a map. -/
def hvF (v : Value) : Option (DataW Fld × List MemPlace) := (fldOf v).map fun f => (.held f, [])
def fget (D : DataW Fld) (n : Int) : Option Fld := match D.atKey (.int .i64 n) .nil with
  | .held f => some f
  | _ => none
theorem hvF_V (f : Fld) : hvF (fldV f) = some (.held f, []) := by rw [hvF, fldOf_V]; rfl
theorem hvF_inv {v : Value} {y : DataW Fld × List MemPlace} (h : hvF v = some y) : ∃ f, v = fldV f ∧ y = (.held f, []) := by
  unfold hvF at h
  rw [Option.map_eq_some_iff] at h
  obtain ⟨f, h1, h2⟩ := h
  exact ⟨f, fldV_of h1, h2.symm⟩
abbrev OwnF (w : World) (b n : Nat) (D : DataW Fld) : Prop := w.ownsMap Try.prog 3 hvF b n D
theorem lawInt : Keyed Try.prog 3 := int_keyed Try.underlying3
theorem keyInt {n : Int} (h : (Lit.int .i64 n).wf = true) : keyOf Try.prog 3 (.int .i64 n) = some (.int .i64 n) := keyOf_int_mk Try.underlying3 h
theorem isKeyInt (n : Int) : WideAt.IsKeyLit (.int .i64 n) := by simp [WideAt.IsKeyLit]
theorem fget_empty (n : Int) : fget (.map []) n = none := rfl
theorem fget_put_same {D : DataW Fld} (hD : IsMap D) (n : Int) (f : Fld) : fget (D.put (.int .i64 n) (.held f)) n = some f := by
  unfold fget; rw [atKey_put_same hD (isKeyInt n)]
theorem fget_put_other {D : DataW Fld} {n m : Int} (hne : m ≠ n) (d : DataW Fld) : fget (D.put (.int .i64 n) d) m = fget D m := by
  unfold fget; rw [atKey_put_other (by intro e; injection e with _ e; exact hne e)]
theorem OwnF.isMap {w : World} {b n : Nat} {D : DataW Fld} (h : OwnF w b n D) : IsMap D := by
  obtain ⟨es, clock, hb, F, _, rfl⟩ := h
  exact ⟨_, rfl⟩
theorem zero_fld (w : World) : (zeroValue 38).run Try.prog w = .ok (fldV z38) w := by kernel_rfl
theorem OwnF.look {w : World} {b n : Nat} {D : DataW Fld} (h : OwnF w b n D) {k : Int} (hk : (Lit.int .i64 k).wf = true) (c : Bool) :
    (Instr.lookup 67 (.map (some b)) (.int .i64 k) c).run Try.prog w = .ok (lookRes c (fldV z38) ((fget D k).map fldV)) w := by
  obtain ⟨es, clock, hb, F, _, rfl⟩ := h
  rcases Maps.fit_look c lawInt Try.underlying67 (zero_fld w) hb F (keyInt hk) with ⟨hrun, _, hat⟩ | ⟨e0, y, _, _, hrun, hRv, hat, _⟩
  · rw [hrun]; unfold fget; rw [hat]; rfl
  · rw [hrun]; unfold fget; rw [hat]
    obtain ⟨f, hv, rfl⟩ := hvF_inv hRv
    rw [hv]; rfl
theorem OwnF.has {w : World} {b n : Nat} {D : DataW Fld} (h : OwnF w b n D) {k : Int} (hk : (Lit.int .i64 k).wf = true) : Maps.has D (.int .i64 k) = (fget D k).isSome := by
  obtain ⟨es, clock, hb, F, _, rfl⟩ := h
  rcases Maps.fit_look true lawInt Try.underlying67 (zero_fld w) hb F (keyInt hk) with ⟨hrun, _, hat⟩ | ⟨e0, y, _, _, hrun, hRv, hat, _⟩
  · rw [has_false_of_atKey hat]; unfold fget; rw [hat]; rfl
  · rw [has_true_of_atKey hat]; unfold fget; rw [hat]
    obtain ⟨f, hv, rfl⟩ := hvF_inv hRv
    rfl
section
variable (w : World) {ops : Array Oper} {rest : List Oper} {o : Oper} {a : Act} {Q : Exit → Act → World → Prop}
theorem wpList_lookF (hg : o.guard = none) (m x : Operand) (c : Bool) (hop : o.op = Op.lookup 67 m x c) (b n : Nat) (D : DataW Fld)
    (hm : a.eval m = .map (some b)) (hown : OwnF w b n D) (k : Int) (hx : a.eval x = .int .i64 k) (hk : (Lit.int .i64 k).wf = true) (r : Option Fld) (hr : fget D k = r)
    (hK : wpList Try.prog ops Q rest (a.put o.dst (lookRes c (fldV z38) (r.map fldV))) w) : wpList Try.prog ops Q (o :: rest) a w := by
  refine wpList_plain hg fun K' hK' => ?_
  have hrun := OwnF.look hown hk c
  rw [hr] at hrun
  unfold Oper.wp
  simp [execOp, hop, hm, hx, hrun, Result.andThen]
  exact hK' _ _ hK
end
/-- The last field of a number. -/
def byF (fs : List Fld) (n : Int) : Option Fld := fs.reverse.find? fun f => decide (f.f1 = n)
theorem byF_nil (n : Int) : byF [] n = none := rfl
theorem byF_snoc (fs : List Fld) (f : Fld) (n : Int) : byF (fs ++ [f]) n = if f.f1 = n then some f else byF fs n := by
  unfold byF
  rw [List.reverse_append, List.reverse_singleton, List.singleton_append, List.find?_cons]
  by_cases h : f.f1 = n <;> simp [h]

set_option maxHeartbeats 4000000 in
set_option maxRecDepth 100000 in
theorem by_calls (m : Msg) (A : Option Addr) (c : Nat) (w : World) (hr : Kd.C k38 w A m.f1.length m.f1) (hn : ∀ k : Nat, k < m.f1.length → (Lit.int .i64 (rd_T38 m.f1 k).f1).wf = true) (hlen : m.f1.length ≤ 1000000) :
    Calls Try.prog 28 #[.agg #[.string m.f0, .slice A m.f1.length c]] w fun e w' => ∃ b D, e = .returned (.map (some b)) ∧ w.heap.size ≤ b ∧ OwnF w' b m.f1.length D ∧ (∀ n, fget D n = byF m.f1 n) ∧ Below w.heap.size w w' := by
  have hmm := @run_makeMap Try.prog
  have hu := Try.underlying41
  have hu2 := Try.underlying38
  have HR := Aside0.mk hr
  have HN := Aside0.mk hn
  clear hr hn
  go_enter Try.func28, Try.ntmps28
  go_wp2
  go_loopg [10] m.f1.length (fun kq v10 wr => ∃ k : Nat, v10 = .int .i64 k ∧ k ≤ m.f1.length ∧ m.f1.length - k ≤ kq ∧ ∃ D : DataW Fld, Aside0 (OwnF wr (w.heap.size + 1) k D) ∧ Aside0 (∀ n, fget D n = byF (m.f1.take k) n) ∧ Aside0 (Below w.heap.size w wr))
  case atStart => exact ⟨0, rfl, by omega, by omega, _, ⟨by simpa using World.ownsMap_made (w.alloc (.cells #[.string m.f0, .slice A m.f1.length c] 41)) Try.prog 3 hvF⟩, ⟨fun n => rfl⟩, ⟨below_alloc' (below_alloc' (Below.refl _ _) _) _⟩⟩
  case round =>
    obtain ⟨k, rfl, hk, hg, D, HO, HD, HB⟩ := hrel
    by_cases hlt : k < m.f1.length
    · have hlt' : (k : Int) < m.f1.length := by omega
      obtain ⟨ad, e, y0, y1, y2, y3, y4, y5⟩ := at_T38 HR.out k (by omega) hlt'
      cases e
      simp only [Int.toNat_natCast] at y0 y1 y2 y3 y4 y5
      replace y0 := pw_cell_below HB.out y0
      replace y1 := pw_cell_below HB.out y1
      replace y2 := pw_cell_below HB.out y2
      replace y3 := pw_cell_below HB.out y3
      replace y4 := pw_cell_below HB.out y4
      replace y5 := pw_cell_below HB.out y5
      have hw := HN.out k hlt
      have HT := Aside0.mk (take_rdF m.f1 k hlt)
      obtain ⟨f, hf⟩ : ∃ f, f = rd_T38 m.f1 k := ⟨_, rfl⟩
      rw [← hf] at y0 y1 y2 y3 y4 y5 hw HT
      have HW := Aside0.mk hw
      have HO2 := Aside0.mk (World.ownsMap.alloc HO.out (.cells #[.string f.f0, .int .i64 f.f1, .int .i64 f.f2, .bool f.f3, .bool f.f4, .int .i64 f.f5] 38))
      have HB2 := Aside0.mk (below_alloc' HB.out (.cells #[.string f.f0, .int .i64 f.f1, .int .i64 f.f2, .bool f.f3, .bool f.f4, .int .i64 f.f5] 38))
      clear hf hw
      go_wp2_with (refine wpList_mapUpdate_own _ rfl (.tmp 14) (.tmp 16) (.tmp 17) 67 rfl 3 38 lawInt Try.underlying67 hvF (w.heap.size + 1) k D rfl HO2.out (by unfold maxLen; omega) _ _ (.int .i64 f.f1) rfl rfl (keyInt HW.out) (.held f) [] (hvF_V f) ?_; intro w1 ho1 hg1)
      go_roundg (m.f1.length - (k + 1))
      case measure => omega
      case rel =>
        refine ⟨k + 1, by go_num, by omega, by omega, _, ⟨ho1⟩, ⟨fun n => ?_⟩, ⟨HB2.out.grown hg1 HB2.out.size (fun j hj => by cases hj; omega)⟩⟩
        rw [HT.out, byF_snoc]
        by_cases e : f.f1 = n
        · subst e; rw [if_pos rfl, fget_put_same (OwnF.isMap HO.out)]
        · rw [if_neg e, fget_put_other (Ne.symm e), HD.out]
    · obtain rfl : k = m.f1.length := by omega
      go_wp2
      go_ret
      exact ⟨_, _, rfl, by omega, HO.out, fun n => by rw [HD.out, List.take_length], HB.out⟩
end Go.Proofs.Ytdkhmnmngokmmaa.Ev
