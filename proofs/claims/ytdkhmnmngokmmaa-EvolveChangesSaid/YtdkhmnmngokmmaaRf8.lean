/- The reference's Changes: lemmas for the walk. -/
import Derived.Test.YtdkhmnmngokmmaaRf7
namespace Go.Proofs.Ytdkhmnmngokmmaa.Rf
open Go.RowKit Go.Maps Go.Proofs.Ytdkhmnmngokmmaa.B Go.Proofs.Ytdkhmnmngokmmaa.K Go.Proofs.Ytdkhmnmngokmmaa.Spec Go.Proofs.Ytdkhmnmngokmmaa.Sch Go.Proofs.Ytdkhmnmngokmmaa.Ev Go.Proofs.YtdkhmnmngokmmaaW.PrintWords
set_option linter.unusedVariables false
set_option linter.unusedSimpArgs false
theorem named_r (A : Option Addr) (c : Nat) (s : List Msg) (n : ByteArray) (r : Option Nat) (hrr : findM s n = r) (i : Int) (hi : idxI r = i) (w : World) (hr : Kd.C k41 w A s.length s) :
    Calls Try.prog 16 #[.slice A s.length c, .string n] w fun e w' => e = .returned (.int .i64 i) ∧ Below w.heap.size w w' := by
  subst hrr hi
  exact rnamed_calls A c s n w hr
/-- A row of another type is kept where the out row grows. -/
theorem R_keep {α β : Type} {d : Kd α} {d2 : Kd β} {e e2 base base2 : Nat} {w w1 : World} {v u : Value} {xs : List α} {ys : List β} (h : d.R e w base (fun _ => True) v xs) (hO : d2.R e2 w base2 (fun _ => True) u ys) (hg : w.grownBy w1 u.ownBlock) (hE : ∀ q ∈ e :: d.E, e2 ≠ q) : d.R e w1 base (fun _ => True) v xs := by
  refine Kd.R_mono (Kd.R_move (Kd.R_bound h) (fun k ⟨_, _, hk, q, hq, cells, hc⟩ => ?_)) (fun _ _ => trivial)
  exact hg.block k hk (Kd.R_ne hO hc (hE q hq))
theorem right_uniq {s : List Msg} (h : right s = true) : ∀ m ∈ s, ∀ j k : Nat, j < k → k < m.f1.length → (rd_T38 m.f1 j).f1 ≠ (rd_T38 m.f1 k).f1 := by
  intro m hm j k hjk hk
  unfold right at h
  simp only [Bool.and_eq_true, decide_eq_true_eq, List.all_eq_true, List.mem_range] at h
  obtain ⟨i, hi, rfl⟩ := List.getElem_of_mem hm
  have h1 := h.2 i hi
  rw [show s.getD i z41 = s[i] from by simp [hi]] at h1
  rw [msgOk_eq] at h1
  simp only [Bool.and_eq_true] at h1
  have h2 := h1.2
  unfold fieldsOk at h2
  simp only [List.all_eq_true, List.mem_range] at h2
  have h3 := h2 k hk
  rw [show s[i].f1.getD k z38 = s[i].f1[k] from by simp [hk], fo_eq] at h3
  simp only [Bool.and_eq_true] at h3
  have h4 := h3.1.1.1.2
  unfold anyI at h4
  rw [Bool.not_eq_true', List.any_eq_false] at h4
  rw [rdF_eq _ _ (show j < s[i].f1.length by omega), rdF_eq _ _ hk]
  have h5 := h4 (s[i].f1[j]'(by omega)) (by
    rw [List.mem_take_iff_getElem]
    exact ⟨j, by omega, rfl⟩)
  simpa using h5
theorem byF_ix {l : List Fld} (hu : ∀ j k : Nat, j < k → k < l.length → (rd_T38 l j).f1 ≠ (rd_T38 l k).f1) (n : Int) : byF l n = (fieldIx l n).map fun i => rd_T38 l i := by
  cases h : fieldIx l n with
  | none =>
    unfold fieldIx at h
    rw [List.findIdx?_eq_none_iff] at h
    unfold byF
    rw [List.find?_eq_none.2 (fun x hx => by
      have := h x (List.mem_reverse.1 hx)
      simpa using this)]
    rfl
  | some i =>
    unfold fieldIx at h
    rw [List.findIdx?_eq_some_iff_getElem] at h
    obtain ⟨hi, hp, _⟩ := h
    rw [beq_iff_eq] at hp
    show byF l n = some (rd_T38 l i)
    cases hb : byF l n with
    | none =>
      unfold byF at hb
      rw [List.find?_eq_none] at hb
      have := hb l[i] (List.mem_reverse.2 (List.getElem_mem hi))
      simp [hp] at this
    | some f =>
      unfold byF at hb
      have hm := List.mem_of_find?_eq_some hb
      have hn := List.find?_some hb
      simp only [decide_eq_true_eq] at hn
      rw [List.mem_reverse] at hm
      obtain ⟨j, hj, rfl⟩ := List.getElem_of_mem hm
      rw [rdF_eq l i hi]
      have : i = j := by
        by_cases h1 : i < j
        · have := hu i j h1 hj
          rw [rdF_eq l i hi, rdF_eq l j hj, hp, hn] at this
          exact absurd rfl this
        · by_cases h2 : j < i
          · have := hu j i h2 hi
            rw [rdF_eq l i hi, rdF_eq l j hj, hp, hn] at this
            exact absurd rfl this
          · omega
      subst this
      rfl
theorem rcs_len {a b : List Msg} (ha : right a = true) (hb : right b = true) (k : Nat) : (((a.take k).flatMap (firstCh a b)).map rc).length ≤ 160000 := by
  rw [List.length_map]; exact firsts_len ha hb k
theorem k38_KM (W : World) (base : Nat) (okp : Nat → Prop) (x : Fld) (cs : List Value) (h : k38.K W x cs) : k38.M W base okp x cs := by
  rw [k38_open h]; exact k38_mkM _ _ _ _
theorem made0F (w : World) : Kd.R k38 38 (w.alloc (.cells #[] 38)) w.heap.size (fun _ => True) (.slice (some ⟨w.heap.size, 0, none⟩) 0 0) [] :=
  ⟨fun _ _ => trivial, [], ⟨rfl, .inr ⟨w.heap.size, 0, #[], rfl, Nat.le_refl _, alloc_at _ _, Nat.le_refl _, Nat.zero_le _, rfl, rfl⟩⟩, Reps.none _ _⟩
/-- What stays in the inner loop: the box of all fields, their row, their order. -/
def RCtx (w w3 wc : World) (g8 : Nat) (Aall : Option Addr) (call : Nat) (fs : List Fld) (A9 : Option Addr) (c9 : Nat) (order : List Int) (W : World) : Prop :=
  W.heap[g8]? = some (.cells #[.string ⟨#[]⟩, .slice Aall fs.length call] 41 (0, 0)) ∧ Kd.R k38 38 W w3.heap.size (fun _ => True) (.slice Aall fs.length call) fs ∧
    Kd.R (Kd.int .i64) 3 W wc.heap.size (fun _ => True) (.slice A9 order.length c9) order ∧ Below w.heap.size w W
section
variable {w w3 wc : World} {g8 : Nat} {Aall : Option Addr} {call : Nat} {fs : List Fld} {A9 : Option Addr} {c9 : Nat} {order : List Int} {W W1 : World}
theorem RCtx.below (h : RCtx w w3 wc g8 Aall call fs A9 c9 order W) (hb : Below W.heap.size W W1) : RCtx w w3 wc g8 Aall call fs A9 c9 order W1 :=
  ⟨heap_below hb (Nat.le_refl _) h.1, Kd.R_below h.2.1 hb, Kd.R_below h.2.2.1 hb, h.2.2.2.trans (hb.mono h.2.2.2.size)⟩
theorem RCtx.grown (h : RCtx w w3 wc g8 Aall call fs A9 c9 order W) {base : Nat} {ok : Nat → Prop} {v : Value} {xs : List RC} (hO : Kd.R k34 34 W base ok v xs) (hg : W.grownBy W1 v.ownBlock) (hB : Below w.heap.size w W1) :
    RCtx w w3 wc g8 Aall call fs A9 c9 order W1 :=
  ⟨heap_grownR hg h.1 (Kd.R_ne hO h.1 (by decide)), Kd.R_over h.2.1 hO (by decide) hg, Kd.R_over h.2.2.1 hO (by decide) hg, hB⟩
theorem RCtx.drewN (h : RCtx w w3 wc g8 Aall call fs A9 c9 order W) (n : Nat) : RCtx w w3 wc g8 Aall call fs A9 c9 order (W.drewN n) := h.below (pw_below_drewN (Below.refl _ _) n)
end
theorem adj_first {order : List Int} {fs : List Fld} {t : Nat} (ht : t < order.length) (h : t = 0 ∨ numAt fs (order.getD (t - 1) 0) ≠ numAt fs (order.getD t 0)) :
    adj ((order.take (t + 1)).map (numAt fs)) = adj ((order.take t).map (numAt fs)) ++ [numAt fs (order.getD t 0)] := by
  have e : order.take (t + 1) = order.take t ++ [order.getD t 0] := by rw [List.take_add_one]; simp [List.getElem?_eq_getElem ht]
  rw [e, List.map_append, List.map_singleton, adj_snoc, if_neg]
  rw [adj_last]
  intro hh
  rcases h with h | h
  · subst h; simp at hh
  · by_cases h0 : t = 0
    · subst h0; simp at hh
    · apply h
      rw [List.getLast?_map, List.getLast?_eq_getElem?, List.length_take, List.getElem?_take, Nat.min_eq_left (by omega)] at hh
      rw [if_pos (by omega), List.getElem?_eq_getElem (by omega)] at hh
      simp only [Option.map_some, Option.some.injEq] at hh
      rw [show order.getD (t - 1) 0 = order[t - 1]'(by omega) from by simp [show t - 1 < order.length by omega]]
      exact hh
theorem adj_same {order : List Int} {fs : List Fld} {t : Nat} (ht : t < order.length) (h0 : 0 < t) (h : numAt fs (order.getD (t - 1) 0) = numAt fs (order.getD t 0)) :
    adj ((order.take (t + 1)).map (numAt fs)) = adj ((order.take t).map (numAt fs)) := by
  have e : order.take (t + 1) = order.take t ++ [order.getD t 0] := by rw [List.take_add_one]; simp [List.getElem?_eq_getElem ht]
  rw [e, List.map_append, List.map_singleton, adj_snoc, if_pos]
  rw [adj_last, List.getLast?_map, List.getLast?_eq_getElem?, List.length_take, List.getElem?_take, Nat.min_eq_left (by omega), if_pos (by omega), List.getElem?_eq_getElem (by omega)]
  simp only [Option.map_some, Option.some.injEq]
  rw [← h, show order.getD (t - 1) 0 = order[t - 1]'(by omega) from by simp [show t - 1 < order.length by omega]]
theorem fieldIx_lt {l : List Fld} {n : Int} {i : Nat} (h : fieldIx l n = some i) : i < l.length := by
  unfold fieldIx at h
  rw [List.findIdx?_eq_some_iff_getElem] at h
  exact h.1
theorem fieldIx_num {l : List Fld} {n : Int} {i : Nat} (h : fieldIx l n = some i) : (rd_T38 l i).f1 = n := by
  have hi := fieldIx_lt h
  unfold fieldIx at h
  rw [List.findIdx?_eq_some_iff_getElem] at h
  obtain ⟨_, hp, _⟩ := h
  rw [rdF_eq l i hi]
  simpa using hp
def UqF (l : List Fld) : Prop := ∀ j k : Nat, j < k → k < l.length → (rd_T38 l j).f1 ≠ (rd_T38 l k).f1
theorem one_less {a b : List Msg} {m n : Msg} {k : Int} (hn : UqF n.f1) (hy : fieldIx n.f1 k = none) : (oneCh a b m n k).map rc = [⟨3, m.f0, k, false⟩] := by
  have h1 : byF n.f1 k = none := by rw [byF_ix hn, hy]; rfl
  unfold oneCh
  rw [h1]
  cases byF m.f1 k <;> rfl
theorem one_more {a b : List Msg} {m n : Msg} {k : Int} {y : Nat} (hm : UqF m.f1) (hn : UqF n.f1) (hx : fieldIx m.f1 k = none) (hy : fieldIx n.f1 k = some y) : (oneCh a b m n k).map rc = [⟨4, m.f0, k, false⟩] := by
  have h1 : byF n.f1 k = some (rd_T38 n.f1 y) := by rw [byF_ix hn, hy]; rfl
  have h2 : byF m.f1 k = none := by rw [byF_ix hm, hx]; rfl
  unfold oneCh
  rw [h1, h2]
  rfl
def opt (b : Bool) (x : RC) : List RC := if b then [x] else []
theorem one_both {a b : List Msg} {m n : Msg} {k : Int} {x y : Nat} (hm : UqF m.f1) (hn : UqF n.f1) (hx : fieldIx m.f1 k = some x) (hy : fieldIx n.f1 k = some y) {f g : Fld} (hf : rd_T38 m.f1 x = f) (hg : rd_T38 n.f1 y = g) :
    (oneCh a b m n k).map rc = opt (!(f.f0.toList == g.f0.toList)) ⟨5, m.f0, k, false⟩ ++ opt (!(f.f2 == g.f2) || !((nmOf a f).toList == (nmOf b g).toList)) ⟨6, m.f0, k, true⟩ ++ opt (!(f.f3 == g.f3)) ⟨7, m.f0, k, f.f3⟩ ++ opt (!(f.f4 == g.f4)) ⟨8, m.f0, k, false⟩ := by
  have h1 : byF n.f1 k = some g := by rw [byF_ix hn, hy, ← hg]; rfl
  have h2 : byF m.f1 k = some f := by rw [byF_ix hm, hx, ← hf]; rfl
  have h3 : f.f1 = k := by rw [← hf]; exact fieldIx_num hx
  unfold oneCh
  rw [h1, h2]
  show (fieldCh a b m.f0 f g).map rc = _
  unfold fieldCh four chgs
  rw [← h3]
  generalize (!(f.f0.toList == g.f0.toList)) = b1
  generalize (!(f.f2 == g.f2) || !((nmOf a f).toList == (nmOf b g).toList)) = b2
  generalize (!(f.f3 == g.f3)) = b3
  generalize (!(f.f4 == g.f4)) = b4
  cases b1 <;> cases b2 <;> cases b3 <;> cases b4 <;> simp [opt, rc, breaksB]
theorem opt_len (b : Bool) (x : RC) : (opt b x).length ≤ 1 := by cases b <;> simp [opt]
/-- A row of numbers is read at a place. -/
theorem int_atI {w : World} {A : Option Addr} {n : Nat} {xs : List Int} (h : Kd.C (Kd.int .i64) w A n xs) (i : Int) (h0 : 0 ≤ i) (hi : i < n) : ∃ ad, A = some ad ∧ w.cell? (ad.add i.toNat) = some (.int .i64 (xs.getD i.toNat 0)) := by
  obtain ⟨k, rfl⟩ := Int.eq_ofNat_of_zero_le h0
  exact int_at h k (by omega)
theorem adj_len (l : List Int) : (adj l).length ≤ l.length := by
  refine rev_ind (P := fun l => (adj l).length ≤ l.length) (Nat.le_refl _) (fun l x ih => ?_) l
  rw [adj_snoc]
  split
  · rw [List.length_append, List.length_singleton]; omega
  · rw [List.length_append, List.length_append]; simpa using ih
/-- What has been collected behind t of the places. -/
def accR (a b : List Msg) (m n : Msg) (i : Nat) (fs : List Fld) (order : List Int) (t : Nat) : List RC := ((a.take i).flatMap (firstCh a b) ++ (adj ((order.take t).map (numAt fs))).flatMap (oneCh a b m n)).map rc
theorem accR_zero (a b : List Msg) (m n : Msg) (i : Nat) (fs : List Fld) (order : List Int) : accR a b m n i fs order 0 = ((a.take i).flatMap (firstCh a b)).map rc := by simp [accR, adj]
theorem accR_len {a b : List Msg} {m n : Msg} {i : Nat} {fs : List Fld} {order : List Int} {t : Nat} (h : (((a.take i).flatMap (firstCh a b)).map rc).length ≤ 160000) (ht : t ≤ 400) : (accR a b m n i fs order t).length ≤ 161600 := by
  unfold accR
  rw [List.map_append, List.length_append]
  have h1 := fm_len (oneCh a b m n) 4 (oneCh_len a b m n) (adj ((order.take t).map (numAt fs)))
  have h2 := adj_len ((order.take t).map (numAt fs))
  rw [List.length_map, List.length_take] at h2
  simp only [List.length_map] at h ⊢
  omega
theorem accR_same {a b : List Msg} {m n : Msg} {i : Nat} {fs : List Fld} {order : List Int} {t : Nat} (h : adj ((order.take (t + 1)).map (numAt fs)) = adj ((order.take t).map (numAt fs))) : accR a b m n i fs order (t + 1) = accR a b m n i fs order t := by
  unfold accR; rw [h]
theorem accR_step {a b : List Msg} {m n : Msg} {i : Nat} {fs : List Fld} {order : List Int} {t : Nat} {num : Int} (h : adj ((order.take (t + 1)).map (numAt fs)) = adj ((order.take t).map (numAt fs)) ++ [num]) : accR a b m n i fs order (t + 1) = accR a b m n i fs order t ++ (oneCh a b m n num).map rc := by
  unfold accR; rw [h, List.flatMap_append, List.flatMap_singleton, ← List.append_assoc, List.map_append]
theorem two_new (w : World) (o1 o2 : Obj) : ((w.alloc o1).alloc o2).drew.heap[w.heap.size]? = some o1 ∧ ((w.alloc o1).alloc o2).drew.heap[w.heap.size + 1]? = some o2 ∧ Below w.heap.size w ((w.alloc o1).alloc o2).drew := by
  rw [drew_heap]
  have s1 : (w.alloc o1).heap.size = w.heap.size + 1 := by simp
  refine ⟨alloc_old (alloc_at _ _) _, ?_, (((Below.refl _ w).alloc (Nat.le_refl _) _).alloc (by omega) _).drew⟩
  have := alloc_at (w.alloc o1) o2; rw [s1] at this; exact this
end Go.Proofs.Ytdkhmnmngokmmaa.Rf
