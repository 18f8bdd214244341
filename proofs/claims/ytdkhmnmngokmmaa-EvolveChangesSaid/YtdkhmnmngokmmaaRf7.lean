/- The reference's Changes: plain part: numbers of both, without neighbours alike. -/
import Derived.Test.YtdkhmnmngokmmaaRf6
namespace Go.Proofs.Ytdkhmnmngokmmaa.Rf
open Go.RowKit Go.Maps Go.Proofs.Ytdkhmnmngokmmaa.B Go.Proofs.Ytdkhmnmngokmmaa.K Go.Proofs.Ytdkhmnmngokmmaa.Spec Go.Proofs.Ytdkhmnmngokmmaa.Sch Go.Proofs.Ytdkhmnmngokmmaa.Ev Go.Proofs.YtdkhmnmngokmmaaW.PrintWords
set_option linter.unusedVariables false
set_option linter.unusedSimpArgs false
abbrev RC := S34
def rc (x : Chg) : RC := ⟨x.f0.f0, x.f0.f1, x.f0.f2, breaksB x⟩
theorem rev_ind {P : List Int → Prop} (h0 : P []) (h1 : ∀ l x, P l → P (l ++ [x])) (l : List Int) : P l := by
  have : ∀ l : List Int, P l.reverse := by
    intro l
    induction l with
    | nil => simpa using h0
    | cons x l ih => rw [List.reverse_cons]; exact h1 _ _ ih
  simpa using this l.reverse
def adjF (acc : List Int) (x : Int) : List Int := if acc.getLast? = some x then acc else acc ++ [x]
/-- Without neighbours alike. -/
def adj (l : List Int) : List Int := l.foldl adjF []
theorem adj_snoc (l : List Int) (x : Int) : adj (l ++ [x]) = if (adj l).getLast? = some x then adj l else adj l ++ [x] := by
  unfold adj
  rw [List.foldl_append]
  rfl
theorem adj_last (l : List Int) : (adj l).getLast? = l.getLast? := by
  refine rev_ind (P := fun l => (adj l).getLast? = l.getLast?) rfl (fun l x ih => ?_) l
  rw [adj_snoc]
  split
  · rename_i h; rw [h]; simp
  · simp
theorem adj_mem (l : List Int) (y : Int) : y ∈ adj l ↔ y ∈ l := by
  refine rev_ind (P := fun l => y ∈ adj l ↔ y ∈ l) Iff.rfl (fun l x ih => ?_) l
  · rw [adj_snoc]
    split
    · rename_i h
      have hx' : x ∈ adj l := List.mem_of_getLast? h
      rw [ih]
      constructor
      · intro h; exact List.mem_append_left _ h
      · intro h
        rcases List.mem_append.1 h with h | h
        · exact h
        · rw [List.mem_singleton] at h; subst h; exact ih.1 hx'
    · rw [List.mem_append, List.mem_append, ih]
theorem adj_strict (l : List Int) : l.Pairwise (· ≤ ·) → (adj l).Pairwise (· < ·) := by
  refine rev_ind (P := fun l => l.Pairwise (· ≤ ·) → (adj l).Pairwise (· < ·)) (fun _ => List.Pairwise.nil) (fun l x ih hs => ?_) l
  · have h1 := List.pairwise_append.1 hs
    rw [adj_snoc]
    split
    · exact ih h1.1
    · rename_i hne
      refine List.pairwise_append.2 ⟨ih h1.1, by simp, fun a ha b hb => ?_⟩
      rw [List.mem_singleton] at hb
      subst hb
      have hal := (adj_mem l a).1 ha
      have hle := h1.2.2 a hal b (by simp)
      rcases Int.lt_or_eq_of_le hle with h | h
      · exact h
      · exfalso
        subst h
        apply hne
        rw [adj_last]
        -- the last of a sorted list that holds its bound is that bound
        have hl : l ≠ [] := List.ne_nil_of_mem hal
        rw [List.getLast?_eq_some_getLast hl]
        congr 1
        have hm := List.getLast_mem hl
        have h2 := h1.2.2 _ hm a (by simp)
        have h3 : a ≤ l.getLast hl := by
          obtain ⟨i, hi, rfl⟩ := List.getElem_of_mem hal
          rw [List.getLast_eq_getElem]
          have hp := List.pairwise_iff_getElem.1 h1.1
          by_cases e : i = l.length - 1
          · subst e; exact Int.le_refl _
          · exact hp i (l.length - 1) hi (by omega) (by omega)
        omega
theorem strict_ext {l1 l2 : List Int} (h1 : l1.Pairwise (· < ·)) (h2 : l2.Pairwise (· < ·)) (hm : ∀ x, x ∈ l1 ↔ x ∈ l2) : l1 = l2 := by
  have n1 : l1.Nodup := h1.imp (fun h => by omega)
  have n2 : l2.Nodup := h2.imp (fun h => by omega)
  have hp := (List.perm_ext_iff_of_nodup n1 n2).2 hm
  exact hp.eq_of_pairwise (le := fun a b => a < b) (fun a b _ _ h h' => by omega) h1 h2
theorem numsOf_strict (m n : Msg) : (numsOf m n).Pairwise (· < ·) := by
  have hnd : (numsOf m n).Nodup := (List.mergeSort_perm _ _).nodup_iff.2 (nodup_dd _)
  have hs : (numsOf m n).Pairwise (fun a b => Go.leI a b = true) := List.pairwise_mergeSort (le := Go.leI) (fun a b c h h' => by simp [Go.leI] at *; omega) (fun a b => by simp [Go.leI]; omega) _
  exact (hs.and hnd).imp (fun ⟨h, h'⟩ => by simp [Go.leI] at h; omega)
theorem adj_numsOf {m n : Msg} {order : List Int} (h : SortedIx (m.f1 ++ n.f1) (m.f1 ++ n.f1).length order) : adj (order.map (numAt (m.f1 ++ n.f1))) = numsOf m n := by
  refine strict_ext (adj_strict _ ?_) (numsOf_strict m n) fun x => ?_
  · exact List.pairwise_map.2 h.sorted
  · rw [adj_mem]
    have hN : x ∈ numsOf m n ↔ x ∈ (m.f1 ++ n.f1).map (·.f1) := by
      constructor
      · exact numsOf_mem
      · intro hx; unfold numsOf; rw [List.mem_mergeSort]; exact (mem_dd _ _).2 hx
    rw [hN]
    generalize m.f1 ++ n.f1 = fs at h
    constructor
    · intro hx
      obtain ⟨i, hi, rfl⟩ := List.mem_map.1 hx
      have hb := h.bound hi
      obtain ⟨k, rfl⟩ := Int.eq_ofNat_of_zero_le hb.1
      have hk : k < fs.length := by omega
      unfold numAt
      rw [show rd_T38 fs (k : Int) = fs[k] from rdF_eq fs k hk]
      exact List.mem_map.2 ⟨fs[k], List.getElem_mem hk, rfl⟩
    · intro hx
      obtain ⟨f, hf, rfl⟩ := List.mem_map.1 hx
      obtain ⟨k, hk, rfl⟩ := List.getElem_of_mem hf
      refine List.mem_map.2 ⟨(k : Int), h.perm.mem_iff.2 (List.mem_map.2 ⟨k, List.mem_range.2 hk, rfl⟩), ?_⟩
      unfold numAt
      rw [rdF_eq fs k hk]
end Go.Proofs.Ytdkhmnmngokmmaa.Rf
