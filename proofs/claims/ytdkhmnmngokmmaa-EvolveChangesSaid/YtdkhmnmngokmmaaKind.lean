/- Contracts of package kind: which wire type a kind has, whether it is a number's kind. -/
import Derived.Test.YtdkhmnmngokmmaaProg
import Derived.Test.YtdkhmnmngokmmaaB
import Derived.Test.YtdkhmnmngokmmaaSpec
import Derived.KernelRfl
import Derived.Lib.Hide
import Derived.OwnWalk
import Derived.Carry
import Derived.Outline
namespace Go.Proofs.Ytdkhmnmngokmmaa.Kind
open Go.RowKit Go.Maps Go.Proofs.Ytdkhmnmngokmmaa.B Go.Proofs.Ytdkhmnmngokmmaa.Spec
set_option linter.unusedVariables false
set_option linter.unusedSimpArgs false

def formList : List (Int × List UInt8 × Int × Int) :=
  [(1, [105, 110, 116, 51, 50], 0, 32), (2, [105, 110, 116, 54, 52], 0, 64), (3, [117, 105, 110, 116, 51, 50], 0, 32), (4, [117, 105, 110, 116, 54, 52], 0, 64),
   (5, [115, 105, 110, 116, 51, 50], 0, 32), (6, [115, 105, 110, 116, 54, 52], 0, 64), (7, [98, 111, 111, 108], 0, 1), (8, [101, 110, 117, 109], 0, 32),
   (9, [102, 105, 120, 101, 100, 51, 50], 5, 32), (10, [115, 102, 105, 120, 101, 100, 51, 50], 5, 32), (11, [102, 108, 111, 97, 116], 5, 32),
   (12, [102, 105, 120, 101, 100, 54, 52], 1, 64), (13, [115, 102, 105, 120, 101, 100, 54, 52], 1, 64), (14, [100, 111, 117, 98, 108, 101], 1, 64),
   (15, [115, 116, 114, 105, 110, 103], 2, 0), (16, [98, 121, 116, 101, 115], 2, 0), (17, [109, 101, 115, 115, 97, 103, 101], 2, 0)]
def formVal (f : List UInt8 × Int × Int) : Value := .agg #[.string ⟨f.1.toArray⟩, .int .i64 f.2.1, .int .i64 f.2.2]
def formsD : DataW Value := formList.foldl (fun D f => D.put (.int .i64 f.1) (.held (formVal f.2))) (.map [])
def formOf (k : Int) : Option Value := (formList.find? fun f => f.1 == k).map fun f => formVal f.2

theorem mget_fold (k : Int) : ∀ (l : List (Int × List UInt8 × Int × Int)) (D : DataW Value), IsMap D → (l.map (·.1)).Nodup →
    mget (l.foldl (fun D f => D.put (.int .i64 f.1) (.held (formVal f.2))) D) (.int .i64 k) = ((l.find? fun f => f.1 == k).map fun f => formVal f.2).or (mget D (.int .i64 k))
  | [], D, _, _ => by simp
  | f :: l, D, hD, hn => by
    simp only [List.map_cons, List.nodup_cons] at hn
    rw [List.foldl_cons, mget_fold k l _ (hD.put _ _) hn.2]
    by_cases h : f.1 = k
    · subst h
      have hno : (l.find? fun g => g.1 == f.1) = none := by
        rw [List.find?_eq_none]
        intro g hg he
        exact hn.1 (by rw [← (by simpa using he : g.1 = f.1)]; exact List.mem_map_of_mem hg)
      rw [hno, mget_put_same hD (by simp [WideAt.IsKeyLit])]
      simp
    · rw [mget_put_other (by intro e; injection e with e1 e2; exact h e2.symm)]
      simp [List.find?_cons, h]
theorem mget_forms (k : Int) : mget formsD (.int .i64 k) = formOf k := by
  unfold formsD
  rw [mget_fold k _ _ isMap_empty (by decide), mget_empty]
  simp [formOf]

set_option maxHeartbeats 4000000 in
set_option maxRecDepth 100000 in
theorem forms_calls (w : World) :
    Calls Try.prog 62 #[] w fun e w' => ∃ b, e = .returned (.map (some b)) ∧ w'.ownsMap Try.prog 3 hv b 17 formsD ∧ Below w.heap.size w w' := by
  have hmm := @run_makeMap Try.prog
  have law := int_keyed (P := Try.prog) Try.underlying3
  have kf : ∀ a : Int, (Lit.int .i64 a).wf = true → keyOf Try.prog 3 (.int .i64 a) = some (.int .i64 a) := fun a h => keyOf_int_mk Try.underlying3 h
  have h0 : (w.alloc (.map #[] 0)).ownsMap Try.prog 3 hv w.heap.size 0 (.map []) := World.ownsMap_made w _ _ _
  have hb0 := (Below.refl w.heap.size w).alloc (Nat.le_refl _) (.map #[] 0)
  have hlt : w.heap.size < (w.alloc (.map #[] 0)).heap.size := by simp
  go_enter Try.func62, Try.ntmps62
  go_wp2_with (first
    | (refine wpList_ins _ rfl (.tmp 1) (.const (.int .i64 _)) (.tmp _) 109 rfl 3 107 law Try.underlying109 w.heap.size _ _ rfl h0 (by unfold maxLen; omega) _ _ _ rfl rfl (kf _ (by decide)) ?_; intro w1 ho1 hg1; replace hb0 := hb0.grown hg1 (Nat.le_of_lt hlt) (fun k hk => by cases hk; exact Nat.le_refl _); replace hlt := Nat.lt_of_lt_of_le hlt hg1.size; replace h0 := ho1; clear ho1 hg1))
  go_ret
  exact ⟨_, rfl, h0, hb0⟩
/-- The wire type. -/
def wireOf (k : Int) : Int := if 15 ≤ k then 2 else if 12 ≤ k then 1 else if 9 ≤ k then 5 else 0
theorem formOf_some {k : Int} (h1 : 1 ≤ k) (h2 : k ≤ 17) : ∃ s b, formOf k = some (.agg #[.string s, .int .i64 (wireOf k), .int .i64 b]) := by
  have : k = 1 ∨ k = 2 ∨ k = 3 ∨ k = 4 ∨ k = 5 ∨ k = 6 ∨ k = 7 ∨ k = 8 ∨ k = 9 ∨ k = 10 ∨ k = 11 ∨ k = 12 ∨ k = 13 ∨ k = 14 ∨ k = 15 ∨ k = 16 ∨ k = 17 := by omega
  rcases this with rfl | rfl | rfl | rfl | rfl | rfl | rfl | rfl | rfl | rfl | rfl | rfl | rfl | rfl | rfl | rfl | rfl <;> exact ⟨_, _, rfl⟩
theorem formOf_none {k : Int} (h : ¬ (1 ≤ k ∧ k ≤ 17)) : formOf k = none := by
  unfold formOf
  rw [List.find?_eq_none.2 ?_]
  · rfl
  · intro x hx
    have : ∀ x ∈ formList, 1 ≤ x.1 ∧ x.1 ≤ 17 := by decide
    have := this x hx
    simp only [beq_iff_eq]
    omega
theorem zero_form (w : World) : (zeroValue 107).run Try.prog w = .ok (.agg #[.string ⟨#[]⟩, .int .i64 0, .int .i64 0]) w := by kernel_rfl


set_option maxHeartbeats 4000000 in
set_option maxRecDepth 100000 in
theorem wire_some (k : Int) (h1 : 1 ≤ k) (h2 : k ≤ 17) (w : World) :
    Calls Try.prog 50 #[.int .i64 k] w fun e w' => e = .returned (.tuple #[.int .i64 (wireOf k), .int .u8 0]) ∧ Below w.heap.size w w' := by
  have law := int_keyed (P := Try.prog) Try.underlying3
  have kf : (Lit.int .i64 k).wf = true := wf_i64 (by omega) (by omega)
  have kk := keyOf_int_mk Try.underlying3 kf
  obtain ⟨s, b, hf⟩ := formOf_some h1 h2
  have hm := mget_forms k
  rw [hf] at hm
  generalize wireOf k = wk at hm
  clear hf
  have Hm := Lib.hid hm
  clear hm
  go_enter Try.func50, Try.ntmps50
  go_wp2_with (first
    | (go_at_call 62; refine (forms_calls _).mono ?_; rintro e w' ⟨bm, rfl, hown, hb⟩)
    | (refine wpList_look _ rfl (.tmp 7) (.tmp 8) 109 true rfl 3 107 law Try.underlying109 _ (zero_form _) bm 17 _ rfl hown _ _ rfl kk _ Hm.out ?_; simp only [lookRes, if_true]))
  go_ret2
  exact ⟨rfl, hb.alloc hb.size _⟩

set_option maxHeartbeats 4000000 in
set_option maxRecDepth 100000 in
theorem wire_none (k : Int) (hn : ¬ (1 ≤ k ∧ k ≤ 17)) (h1 : -9223372036854775808 ≤ k) (h2 : k ≤ 9223372036854775807) (w : World) :
    Calls Try.prog 50 #[.int .i64 k] w fun e w' => e = .returned (.tuple #[.int .i64 0, .int .u8 2]) ∧ Below w.heap.size w w' := by
  have law := int_keyed (P := Try.prog) Try.underlying3
  have kk := keyOf_int_mk Try.underlying3 (wf_i64 h1 h2)
  have hm := mget_forms k
  rw [formOf_none hn] at hm
  have Hm := Lib.hid hm
  clear hm hn
  go_enter Try.func50, Try.ntmps50
  go_wp2_with (first
    | (go_at_call 62; refine (forms_calls _).mono ?_; rintro e w' ⟨bm, rfl, hown, hb⟩)
    | (refine wpList_look _ rfl (.tmp 7) (.tmp 8) 109 true rfl 3 107 law Try.underlying109 _ (zero_form _) bm 17 _ rfl hown _ _ rfl kk _ Hm.out ?_; simp only [lookRes, if_true]))
  go_ret2
  exact ⟨rfl, hb.alloc hb.size _⟩

set_option maxHeartbeats 4000000 in
set_option maxRecDepth 100000 in
theorem number_calls (k : Int) (h1 : -9223372036854775808 ≤ k) (h2 : k ≤ 9223372036854775807) (w : World) :
    Calls Try.prog 46 #[.int .i64 k] w fun e w' => e = .returned (.bool (isNum k)) ∧ Below w.heap.size w w' := by
  by_cases hk : 1 ≤ k ∧ k ≤ 17
  · have hw : isNum k = (wireOf k != 2) := by unfold isNum wireOf; by_cases a : k ≤ 14 <;> by_cases b : 12 ≤ k <;> by_cases c : 9 ≤ k <;> simp [a, b, c, hk.1] <;> (first | omega | (split <;> omega))
    have hc := wire_some k hk.1 hk.2 w
    rw [hw]
    clear hw
    generalize wireOf k = wk at hc
    clear h1 h2 hk
    go_enter Try.func46, Try.ntmps46
    go_wp2_with (first | (go_at_call 50; refine hc.mono ?_; rintro e w' ⟨rfl, hb⟩))
    go_ret
    exact ⟨rfl, hb⟩
  · have hw : isNum k = false := by unfold isNum; by_cases a : k ≤ 14 <;> by_cases b : 1 ≤ k <;> simp [a, b] <;> omega
    have hc := wire_none k hk h1 h2 w
    rw [hw]
    clear hw h1 h2 hk
    go_enter Try.func46, Try.ntmps46
    go_wp2_with (first | (go_at_call 50; refine hc.mono ?_; rintro e w' ⟨rfl, hb⟩))
    go_ret
    exact ⟨rfl, hb⟩
end Go.Proofs.Ytdkhmnmngokmmaa.Kind
