/- evolve.fields: the numbers of two messages' fields, sorted. -/
import Derived.Test.YtdkhmnmngokmmaaEv3
import Derived.Lib.SlKeysI
import Derived.Lib.SlMapMerge
namespace Go.Proofs.Ytdkhmnmngokmmaa.Ev
open Go.RowKit Go.Maps Go.Proofs.Ytdkhmnmngokmmaa.B Go.Proofs.Ytdkhmnmngokmmaa.K Go.Proofs.Ytdkhmnmngokmmaa.Spec Go.Proofs.Ytdkhmnmngokmmaa.Sch Go.Proofs.YtdkhmnmngokmmaaW.PrintWords
set_option linter.unusedVariables false
set_option linter.unusedSimpArgs false

def dd : List Int → List Int
  | [] => []
  | x :: l => if x ∈ l then dd l else x :: dd l
theorem mem_dd (x : Int) : ∀ l, x ∈ dd l ↔ x ∈ l
  | [] => by simp [dd]
  | y :: l => by
    rw [dd]
    by_cases h : y ∈ l
    · rw [if_pos h, mem_dd x l]
      constructor
      · exact List.mem_cons_of_mem _
      · intro hx
        rcases List.mem_cons.1 hx with rfl | hx
        · exact h
        · exact hx
    · rw [if_neg h, List.mem_cons, List.mem_cons, mem_dd x l]
theorem nodup_dd : ∀ l, (dd l).Nodup
  | [] => by simp [dd]
  | y :: l => by
    rw [dd]
    by_cases h : y ∈ l
    · rw [if_pos h]; exact nodup_dd l
    · rw [if_neg h]; exact List.nodup_cons.2 ⟨fun hm => h ((mem_dd y l).1 hm), nodup_dd l⟩
/-- The numbers of two messages' fields, sorted. -/
def numsOf (m n : Msg) : List Int := (dd ((m.f1 ++ n.f1).map (·.f1))).mergeSort Go.leI
def oneCh (a b : List Msg) (m n : Msg) (k : Int) : List Chg :=
  match byF m.f1 k, byF n.f1 k with
  | f, none => [⟨⟨3, m.f0, k⟩, f.getD z38, z38⟩]
  | none, some g => [⟨⟨4, m.f0, k⟩, z38, g⟩]
  | some f, some g => fieldCh a b m.f0 f g
def fieldsCh (a b : List Msg) (m n : Msg) : List Chg := (numsOf m n).flatMap (oneCh a b m n)

theorem byF_isSome (l : List Fld) (k : Int) : (byF l k).isSome = true ↔ k ∈ l.map (·.f1) := by
  unfold byF
  rw [List.find?_isSome]
  simp
theorem OwnF.has_wf {w : World} {b n : Nat} {D : DataW Fld} (h : OwnF w b n D) {x : Int} (hh : Maps.has D (.int .i64 x) = true) : (Lit.int .i64 x).wf = true := by
  obtain ⟨es, rfl, hko⟩ := World.ownsMap.keysOf h
  rw [has_eq, List.any_eq_true] at hh
  obtain ⟨p, hp, hs⟩ := hh
  obtain ⟨v, hv⟩ := hko p hp
  obtain ⟨y, _, hy, hl⟩ := Maps.keyOf_i64 Try.underlying3 hv
  rw [hy] at hs
  simp [Lit.sameKey] at hs
  rw [← hs]; exact hl
theorem keys_numsOf {w : World} {b nn : Nat} {D0 Dx Dy : DataW Fld} {bx nx bY ny : Nat} {wx wy : World} (m n : Msg) (h : OwnF w b nn D0) (hx : OwnF wx bx nx Dx) (hy : OwnF wy bY ny Dy) (hM : Merged D0 Dx Dy (fun _ => false)) (hgx : ∀ k, fget Dx k = byF m.f1 k) (hgy : ∀ k, fget Dy k = byF n.f1 k)
    (hw : ∀ k ∈ (m.f1 ++ n.f1).map (·.f1), (Lit.int .i64 k).wf = true) {ss : List Int} (hp : ss.Perm (intKeys D0)) : ss.mergeSort Go.leI = numsOf m n := by
  refine mergeSort_of_perm_i (hp.trans ?_)
  refine (CollectedI.perm (left := fun _ => false) ⟨nodup_dd _, fun x => ?_⟩ h lawInt Try.underlying3 (fun _ => rfl)).symm
  rw [mem_dd]
  have hhas := hM.1 (.int .i64 x)
  simp only [Bool.not_false, Bool.and_true] at hhas
  have key : (Lit.int .i64 x).wf = true → (Maps.has D0 (.int .i64 x) = true ↔ x ∈ (m.f1 ++ n.f1).map (·.f1)) := by
    intro hwf
    rw [hhas, OwnF.has hx hwf, OwnF.has hy hwf, hgx, hgy, Bool.or_eq_true, byF_isSome, byF_isSome, List.map_append, List.mem_append]
  constructor
  · intro hm
    exact ⟨(key (hw x hm)).2 hm, rfl⟩
  · rintro ⟨hm, _⟩
    exact (key (h.has_wf hm)).1 hm
theorem ints_at {w : World} {base : Nat} {v : Value} {ks : List Int} {n : Nat} (hn : n = ks.length) (h : w.ownsRow base 3 1 v n (nums .i64 ks)) :
    ∃ A c, v = .slice A n c ∧ ∀ i (hi : i < ks.length), ∃ ad, A = some ad ∧ w.cell? (ad.add i) = some (.int .i64 (ks.getD i 0)) := by
  subst hn
  rcases h.2 with ⟨rfl, h0⟩ | ⟨g, cap, cur, rfl, _, hg, hc, _, hs, ht⟩
  · exact ⟨none, 0, by rw [h0], fun i hi => by omega⟩
  · refine ⟨_, cap, rfl, fun i hi => ⟨_, rfl, ?_⟩⟩
    rw [add_plain, cellOf hg]
    have : (cur.toList.take (ks.length * 1))[i]? = (nums .i64 ks)[i]? := by rw [ht]
    rw [List.getElem?_take_of_lt (by omega), Array.getElem?_toList] at this
    rw [this]
    simp [nums, hi]
end Go.Proofs.Ytdkhmnmngokmmaa.Ev
