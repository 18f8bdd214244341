/- How the arguments open: a schema that is read as data is a row of messages, each a row of fields. -/
import Derived.Test.YtdkhmnmngokmmaaRows
import Derived.Test.YtdkhmnmngokmmaaSm
import Derived.Deep.Slices
import Derived.Deep.Fields
import Derived.ProofKit
import Derived.Lib.SmallJoins
namespace Go.Proofs.Ytdkhmnmngokmmaa.Op
open Go.RowKit Go.Maps Go.ChangeShapes Go.WideShapes Go.Deep Go.Joins Go.Proofs.Ytdkhmnmngokmmaa.B Go.Proofs.Ytdkhmnmngokmmaa.K Go.Proofs.Ytdkhmnmngokmmaa.Spec Go.Proofs.Ytdkhmnmngokmmaa.Sch Go.Proofs.YtdkhmnmngokmmaaW.PrintWords
set_option linter.unusedVariables false
set_option linter.unusedSimpArgs false
section
variable {H : Type} {enc : TypeId × Value → H} {P : Program} {W : World} {base : Nat} {sp : Nat → Bool} {held : Bool}
/-- A slice whose elements open as d's is a row of d's. -/
theorem open_C {α : Type} {d : Kd α} {okx : α → Prop} (z : α) {t e : TypeId} (ht : P.underlying t = some (.slice e)) (hce : P.cellsOf e = d.sz)
    (hop : ∀ n cs y, cs.length = d.sz → DataW.trod enc P W base sp held n e cs = some y → ∃ a, d.K W a cs ∧ okx a) {fuel : Nat} {cs : List Value} {x : DataW H × List MemPlace} (h : DataW.trod enc P W base sp held fuel t cs = some x) :
    ∃ A len c xs, cs = [.slice A len c] ∧ len ≤ c ∧ c ≤ maxLen ∧ xs.length = len ∧ Kd.C d W A len xs ∧ ∀ y ∈ xs, okx y := by
  rcases open_slice ht h with ⟨rfl, _⟩ | ⟨a, len, cap, m, n, D, Pl, rfl, _, hl, hm, hmm, _, hi⟩
  · exact ⟨none, 0, 0, [], rfl, Nat.le_refl _, Nat.zero_le _, rfl, ⟨rfl, by omega, fun h => absurd h (by simp)⟩, by simp⟩
  · have hlm : len ≤ m := by rw [hmm]; split <;> omega
    have hall : ∀ i : Nat, ∃ y : α, i < len → ∃ c, c.length = d.sz ∧ d.K W y c ∧ (∀ k u, c[k]? = some u → W.cell? (a.add (i * d.sz + k)) = some u) ∧ okx y := by
      intro i
      by_cases hil : i < len
      · obtain ⟨cs', hc, htr⟩ := hi i (by omega)
        rw [hce] at hc
        obtain ⟨_, hcl, hat⟩ := World.cells?_some hc
        obtain ⟨y, hK, hok⟩ := hop n cs' _ hcl htr
        refine ⟨y, fun _ => ⟨cs', hcl, hK, fun k u hu => ?_, hok⟩⟩
        have hk : k < d.sz := by rw [← hcl]; exact (List.getElem?_eq_some_iff.1 hu).1
        rw [← Go.Deep.add_add, hat k hk, hu]
      · exact ⟨z, fun h => absurd h hil⟩
    obtain ⟨f, hf⟩ := Classical.axiomOfChoice hall
    have hml : maxLen = 9223372036854775807 := rfl
    refine ⟨some a, len, cap, (List.range len).map f, rfl, hl, hm, by simp, ⟨by simp, by omega, fun _ => ⟨a, rfl, fun j p hj => ?_⟩⟩, fun y hy => ?_⟩
    · rw [List.getElem?_map, Option.map_eq_some_iff] at hj
      obtain ⟨i, hi', rfl⟩ := hj
      have hjl := (List.getElem?_eq_some_iff.1 hi').1
      rw [List.length_range] at hjl
      rw [List.getElem?_range hjl, Option.some.injEq] at hi'
      subst hi'
      obtain ⟨c, h1, h2, h3, _⟩ := hf j hjl
      exact ⟨c, h1, h2, h3⟩
    · obtain ⟨i, hi', rfl⟩ := List.mem_map.1 hy
      obtain ⟨c, _, _, _, h4⟩ := hf i (List.mem_range.1 hi')
      exact h4
theorem open_six {t : TypeId} {f0 f1 f2 f3 f4 f5 : Field} {fuel : Nat} {cs : List Value} {x : DataW H × List MemPlace} (hs : P.underlying t = some (.struct #[f0, f1, f2, f3, f4, f5])) (hone : oneCellFields P #[f0, f1, f2, f3, f4, f5] = true) (hC : P.cellsOf t = 6)
    (h : DataW.trod enc P W base sp held fuel t cs = some x) :
    ∃ (v0 v1 v2 v3 v4 v5 : Value) (y0 y1 y2 y3 y4 y5 : DataW H × List MemPlace) (n : Nat), cs = [v0, v1, v2, v3, v4, v5] ∧
      DataW.trod enc P W base sp held n f0.type [v0] = some y0 ∧ DataW.trod enc P W base sp held n f1.type [v1] = some y1 ∧ DataW.trod enc P W base sp held n f2.type [v2] = some y2 ∧ DataW.trod enc P W base sp held n f3.type [v3] = some y3 ∧ DataW.trod enc P W base sp held n f4.type [v4] = some y4 ∧ DataW.trod enc P W base sp held n f5.type [v5] = some y5 := by
  obtain ⟨xs, n, _, hx, hcl, hlen, hg⟩ := DataW.trod_struct hs h
  rw [hC] at hcl
  match cs, hcl with
  | [c0, c1, c2, c3, c4, c5], _ =>
    obtain ⟨o0, k0⟩ := hone_of hone 0 f0 rfl
    obtain ⟨o1, k1⟩ := hone_of hone 1 f1 rfl
    obtain ⟨o2, k2⟩ := hone_of hone 2 f2 rfl
    obtain ⟨o3, k3⟩ := hone_of hone 3 f3 rfl
    obtain ⟨o4, k4⟩ := hone_of hone 4 f4 rfl
    obtain ⟨o5, k5⟩ := hone_of hone 5 f5 rfl
    match xs, hlen with
    | [y0, y1, y2, y3, y4, y5], _ =>
      exact ⟨c0, c1, c2, c3, c4, c5, y0, y1, y2, y3, y4, y5, n, rfl, by simpa [o0, k0] using hg 0 f0 rfl, by simpa [o1, k1] using hg 1 f1 rfl, by simpa [o2, k2] using hg 2 f2 rfl, by simpa [o3, k3] using hg 3 f3 rfl, by simpa [o4, k4] using hg 4 f4 rfl, by simpa [o5, k5] using hg 5 f5 rfl⟩
theorem open_two {t : TypeId} {f0 f1 : Field} {fuel : Nat} {cs : List Value} {x : DataW H × List MemPlace} (hs : P.underlying t = some (.struct #[f0, f1])) (hone : oneCellFields P #[f0, f1] = true) (hC : P.cellsOf t = 2)
    (h : DataW.trod enc P W base sp held fuel t cs = some x) :
    ∃ (v0 v1 : Value) (y0 y1 : DataW H × List MemPlace) (n : Nat), cs = [v0, v1] ∧ DataW.trod enc P W base sp held n f0.type [v0] = some y0 ∧ DataW.trod enc P W base sp held n f1.type [v1] = some y1 := by
  obtain ⟨xs, n, _, hx, hcl, hlen, hg⟩ := DataW.trod_struct hs h
  rw [hC] at hcl
  match cs, hcl with
  | [c0, c1], _ =>
    obtain ⟨o0, k0⟩ := hone_of hone 0 f0 rfl
    obtain ⟨o1, k1⟩ := hone_of hone 1 f1 rfl
    match xs, hlen with
    | [y0, y1], _ => exact ⟨c0, c1, y0, y1, n, rfl, by simpa [o0, k0] using hg 0 f0 rfl, by simpa [o1, k1] using hg 1 f1 rfl⟩
end
section
variable {H : Type} {enc : TypeId × Value → H} {W : World} {base : Nat} {sp : Nat → Bool} {held : Bool}
def FldSz (f : Fld) : Prop := f.f0.size ≤ 9223372036854775807
def MsgSz (m : Msg) : Prop := m.f0.size ≤ 9223372036854775807 ∧ ∀ f ∈ m.f1, FldSz f
theorem open_fld (n : Nat) (cs : List Value) (y : DataW H × List MemPlace) (hl : cs.length = k38.sz) (h : DataW.trod enc Try.prog W base sp held n 38 cs = some y) : ∃ f : Fld, k38.K W f cs ∧ FldSz f := by
  obtain ⟨v0, v1, v2, v3, v4, v5, y0, y1, y2, y3, y4, y5, m, rfl, t0, t1, t2, t3, t4, t5⟩ := open_six Try.underlying38 (by kernel_rfl) (by kernel_rfl) h
  obtain ⟨s, e0, _, hs⟩ := DataW.trod_string Try.underlying9 t0
  obtain ⟨n1, e1, _, _⟩ := DataW.trod_int Try.underlying3 t1
  obtain ⟨n2, e2, _, _⟩ := DataW.trod_int Try.underlying3 t2
  obtain ⟨b3, e3, _⟩ := DataW.trod_bool Try.underlying4 t3
  obtain ⟨b4, e4, _⟩ := DataW.trod_bool Try.underlying4 t4
  obtain ⟨n5, e5, _, _⟩ := DataW.trod_int Try.underlying3 t5
  cases e0; cases e1; cases e2; cases e3; cases e4; cases e5
  exact ⟨⟨s, n1, n2, b3, b4, n5⟩, k38_mk W _, hs⟩
theorem open_msg (n : Nat) (cs : List Value) (y : DataW H × List MemPlace) (hl : cs.length = k41.sz) (h : DataW.trod enc Try.prog W base sp held n 41 cs = some y) : ∃ m : Msg, k41.K W m cs ∧ MsgSz m := by
  obtain ⟨v0, v1, y0, y1, q, rfl, t0, t1⟩ := open_two Try.underlying41 (by kernel_rfl) (by kernel_rfl) h
  obtain ⟨s, e0, _, hs⟩ := DataW.trod_string Try.underlying9 t0
  obtain ⟨A1, len, c, xs, e1, hlc, _, hxl, hC, hok⟩ := open_C (d := k38) (okx := FldSz) z38 Try.underlying39 (by kernel_rfl) open_fld t1
  cases e0; cases e1
  subst hxl
  exact ⟨⟨s, xs⟩, k41_mk W ⟨s, xs⟩ (A1 := A1) (c1 := c) hlc hC, hs, hok⟩

set_option maxRecDepth 100000 in
theorem open_schema {v : Value} {x : DataW H} {p : List MemPlace} {r : Reach} {b0 : Nat} (hv : Value.okWide Try.prog W r b0 23 v) (h : DataW.Trod enc Try.prog W base sp held 23 v x p) :
    ∃ A c xs, v = .slice A xs.length c ∧ xs.length ≤ c ∧ Kd.C k41 W A xs.length xs ∧ Sized xs := by
  obtain ⟨A0, len0, c0, rfl⟩ := okWide_slice Try.underlying23 hv
  obtain ⟨fuel, hf⟩ := h
  obtain ⟨A, len, c, xs, e, hlc, _, rfl, hC, hok⟩ := open_C (d := k41) (okx := MsgSz) z41 Try.underlying23 (by kernel_rfl) open_msg hf
  simp only [Value.cells, List.cons.injEq, Value.slice.injEq, and_true] at e
  obtain ⟨rfl, rfl, rfl⟩ := e
  refine ⟨_, _, xs, rfl, hlc, hC, fun i hi => ?_⟩
  have h1 := hok xs[i] (List.getElem_mem hi)
  rw [rdM_eq xs i hi]
  refine ⟨h1.1, fun k hk => ?_⟩
  rw [rdF_eq _ k hk]
  exact h1.2 _ (List.getElem_mem hk)
end
end Go.Proofs.Ytdkhmnmngokmmaa.Op
