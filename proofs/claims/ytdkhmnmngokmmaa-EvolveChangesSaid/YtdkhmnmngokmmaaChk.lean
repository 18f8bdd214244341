/- The contract of schema.Check, as far as it says whether a schema is right, and of schema.Right. -/
import Derived.Test.YtdkhmnmngokmmaaFld
import Derived.Outline
namespace Go.Proofs.Ytdkhmnmngokmmaa.Sch
open Go.RowKit Go.Maps Go.Proofs.Ytdkhmnmngokmmaa.B Go.Proofs.Ytdkhmnmngokmmaa.K Go.Proofs.Ytdkhmnmngokmmaa.Spec Go.Proofs.YtdkhmnmngokmmaaW.PrintWords
set_option linter.unusedVariables false
set_option linter.unusedSimpArgs false

theorem lawStr : Keyed Try.prog 9 := string_keyed Try.underlying9
def isStr (s : ByteArray) (kl : Lit) : Prop := keyOf Try.prog 9 (.string s) = some kl
theorem strKey {s : ByteArray} (h : s.size ≤ maxLen) : ∃ kl, isStr s kl := ⟨_, WideMaps.keyOf_string_mk Try.underlying9 h⟩
theorem strInj {s u : ByteArray} {kl : Lit} (h : isStr s kl) (h' : isStr u kl) : s = u := by
  have := lawStr.inj h h'
  simpa using this
structure NamesD (D : DataW Value) (prev : List Msg) : Prop where
  isMap : IsMap D
  names : ∀ s kl, isStr s kl → mget D kl = if (prev.any fun x => decide (x.f0 = s)) = true then some (.int .i64 1) else none
theorem NamesD.start : NamesD (.map []) [] := ⟨isMap_empty, fun _ _ _ => by simp [mget_empty]⟩
theorem NamesD.add {D : DataW Value} {prev : List Msg} {m : Msg} {kl : Lit} (h : NamesD D prev) (hk : isStr m.f0 kl) : NamesD (D.put kl (.held (.int .i64 1))) (prev ++ [m]) := by
  refine ⟨h.isMap.put _ _, fun s k' hk' => ?_⟩
  by_cases e : m.f0 = s
  · subst e
    have : k' = kl := by rw [isStr] at hk hk'; rw [hk] at hk'; exact (Option.some.inj hk').symm
    rw [this, mget_put_same h.isMap (lawStr.key hk)]
    simp
  · rw [mget_put_other (fun e' => e (by subst e'; exact (strInj hk' hk).symm)), h.names s k' hk']
    simp [e]
theorem right_len {s : List Msg} (h : ¬ (1 ≤ s.length ∧ s.length ≤ 100)) : right s = false := by
  unfold right
  by_cases a : 1 ≤ s.length <;> by_cases b : s.length ≤ 100 <;> simp [a, b] <;> omega
theorem right_not {s : List Msg} {i : Nat} (hi : i < s.length) (h : msgOk s.length (s.take i) (rd_T41 s i) = false) : right s = false := by
  unfold right
  have : (List.range s.length).all (fun i => msgOk s.length (s.take i) (s.getD i z41)) = false := by
    rw [List.all_eq_false]
    exact ⟨i, List.mem_range.2 hi, by unfold rd_T41 at h; simpa using h⟩
  rw [this, Bool.and_false]
theorem right_all {s : List Msg} (h1 : 1 ≤ s.length) (h2 : s.length ≤ 100) (h : ∀ i, i < s.length → msgOk s.length (s.take i) (rd_T41 s i) = true) : right s = true := by
  unfold right
  have : (List.range s.length).all (fun i => msgOk s.length (s.take i) (s.getD i z41)) = true := by
    rw [List.all_eq_true]
    intro i hi
    have := h i (List.mem_range.1 hi)
    unfold rd_T41 at this
    simpa using this
  rw [this]
  simp [h1, h2]
theorem fieldsOk_not {n : Int} {fs : List Fld} {k : Nat} (hk : k < fs.length) (h : fieldOk n (fs.take k) (rd_T38 fs k) = false) : fieldsOk n fs = false := by
  unfold fieldsOk
  rw [List.all_eq_false]
  exact ⟨k, List.mem_range.2 hk, by unfold rd_T38 at h; simpa using h⟩
theorem fieldsOk_all {n : Int} {fs : List Fld} (h : ∀ k, k < fs.length → fieldOk n (fs.take k) (rd_T38 fs k) = true) : fieldsOk n fs = true := by
  unfold fieldsOk
  rw [List.all_eq_true]
  intro k hk
  have := h k (List.mem_range.1 hk)
  unfold rd_T38 at this
  simpa using this
theorem take_rdM (s : List Msg) (k : Nat) (h : k < s.length) : s.take (k + 1) = s.take k ++ [rd_T41 s k] := by
  rw [List.take_succ_eq_append_getElem h]; unfold rd_T41; simp [h]
theorem take_rdF (s : List Fld) (k : Nat) (h : k < s.length) : s.take (k + 1) = s.take k ++ [rd_T38 s k] := by
  rw [List.take_succ_eq_append_getElem h]; unfold rd_T38; simp [h]
def CheckPost (s : List Msg) (w : World) (e : Ending) (w' : World) : Prop :=
  ∃ a b c code : Int, e = .returned (.tuple #[.agg #[.int .i64 a, .int .i64 b, .int .i64 c], .int .u8 code]) ∧ ((right s = true ∧ code = 0) ∨ (right s = false ∧ code = 9)) ∧ Below w.heap.size w w'
theorem CheckPost.no {s : List Msg} {w w' : World} {a b c : Int} (h : right s = false) (hb : Below w.heap.size w w') : CheckPost s w (.returned (.tuple #[.agg #[.int .i64 a, .int .i64 b, .int .i64 c], .int .u8 9])) w' :=
  ⟨a, b, c, 9, rfl, .inr ⟨h, rfl⟩, hb⟩

structure Outer (w wr : World) (s : List Msg) (i : Nat) : Prop where
  below : Below w.heap.size w wr
  place : wr.heap[w.heap.size]? = some (.cells #[.int .i64 0, .int .i64 0, .int .i64 0] 62 (0, 0))
  names : ∃ N D, N ≤ i ∧ wr.ownsMap Try.prog 9 hv (w.heap.size + 1) N D ∧ NamesD D (s.take i)
  seen : ∃ N D, N ≤ 400 * i ∧ wr.ownsMap Try.prog 87 hv (w.heap.size + 1 + 1) N D ∧ ∃ (j : Int) (prev : List Fld), j < (i : Int) ∧ SeenD D j prev
  ok : ∀ j, j < i → msgOk s.length (s.take j) (rd_T41 s j) = true
structure Inner (w wi : World) (s : List Msg) (i : Nat) (m : Msg) (k : Nat) : Prop where
  below : Below w.heap.size w wi
  place : wi.heap[w.heap.size]? = some (.cells #[.int .i64 0, .int .i64 0, .int .i64 0] 62 (0, 0))
  names : ∃ N D, N ≤ i + 1 ∧ wi.ownsMap Try.prog 9 hv (w.heap.size + 1) N D ∧ NamesD D (s.take i ++ [m])
  seen : ∃ N D, N ≤ 400 * i + 2 * k ∧ wi.ownsMap Try.prog 87 hv (w.heap.size + 1 + 1) N D ∧ SeenD D i (m.f1.take k)
  ok : ∀ j, j < k → fieldOk s.length (m.f1.take j) (rd_T38 m.f1 j) = true
set_option maxHeartbeats 8000000 in
set_option maxRecDepth 100000 in
theorem check_calls (A : Option Addr) (c : Nat) (s : List Msg) (w : World) (hr : Kd.C k41 w A s.length s) (hc : s.length ≤ c) (hz : ∀ i, i < s.length → (rd_T41 s i).f0.size ≤ 9223372036854775807 ∧ ∀ k, k < (rd_T41 s i).f1.length → (rd_T38 (rd_T41 s i).f1 k).f0.size ≤ 9223372036854775807) :
    Calls Try.prog 25 #[.slice A s.length c] w (CheckPost s w) := by
  have hmm := @run_makeMap Try.prog
  have HR := Aside0.mk hr
  have HZ := Aside0.mk hz
  have hmx : s.length ≤ 9223372036854775807 := hr.2.1
  clear hr hz
  by_cases hlen : 1 ≤ s.length ∧ s.length ≤ 100
  · obtain ⟨hl1, hl2⟩ := hlen
    have b1 : ¬ (s.length : Int) < 1 := by omega
    have b2 : ¬ (100 : Int) < s.length := by omega
    go_enter Try.func25, Try.ntmps25
    go_wp2
    go_loopg [25] s.length (fun kq v25 wr => ∃ i : Nat, v25 = .int .i64 i ∧ i ≤ s.length ∧ s.length - i ≤ kq ∧ Outer w wr s i)
    case atStart =>
      refine ⟨0, rfl, by omega, by omega, ⟨(((Below.refl _ w).alloc (Nat.le_refl _) _).alloc (by simp) _).alloc (by simp; omega) _, alloc_old (alloc_old (alloc_at _ _) _) _, ⟨0, _, Nat.le_refl _, ?_, NamesD.start⟩, ⟨0, _, Nat.le_refl _, ?_, ⟨-1, [], by omega, SeenD.start⟩⟩, fun j hj => absurd hj (by omega)⟩⟩
      · have := World.ownsMap_made (w.alloc (.cells #[.int .i64 0, .int .i64 0, .int .i64 0] 62)) Try.prog 9 hv
        simp only [World.size_alloc] at this
        exact this.alloc _
      · have := World.ownsMap_made ((w.alloc (.cells #[.int .i64 0, .int .i64 0, .int .i64 0] 62)).alloc (.map #[] 0)) Try.prog 87 hv
        simp only [World.size_alloc] at this
        exact this
    case round =>
      obtain ⟨i, rfl, hi, hg, HO⟩ := hrel
      by_cases hlt : i < s.length
      · have hlt' : (i : Int) < s.length := by omega
        obtain ⟨ad, A1, c1, e, hx0, hx1, hl, hif⟩ := at_T41 HR.out i (by omega) hlt'
        cases e
        simp only [Int.toNat_natCast] at hx0 hx1
        replace hx0 := pw_cell_below HO.below hx0
        replace hx1 := pw_cell_below HO.below hx1
        have hsz := HZ.out i hlt
        have Hsz := Aside0.mk hsz.2
        have hnm := named_calls _ hsz.1
        have hm0 : Aside0 (msgOk s.length (s.take i) (rd_T41 s i) = false → right s = false) := ⟨right_not hlt⟩
        obtain ⟨m, hm⟩ : ∃ m, m = rd_T41 s i := ⟨_, rfl⟩
        rw [← hm] at hx0 hx1 hl hif hnm hsz Hsz hm0
        have Hm := Lib.hid hm
        have HIF := Aside0.mk hif
        have HL := Aside0.mk hl
        clear hm hif hl hsz
        have p0 := cellOf HO.place 0
        have p1 := cellOf HO.place 1
        have p2 := cellOf HO.place 2
        have f0 := frozenOf HO.place 0
        have f1 := frozenOf HO.place 1
        have f2 := frozenOf HO.place 2
        simp only [List.getElem?_toArray, List.getElem?_cons_zero, List.getElem?_cons_succ] at p0 p1 p2
        have hB0 : w.heap.size < wr.heap.size := (Array.getElem?_eq_some_iff.1 HO.place).1
        cases hN0 : nameOk m.f0 with
        | false =>
          rw [hN0] at hnm
          have Hno := Aside0.mk (hm0.out (by simp [msgOk, hN0]))
          clear hN0
          go_wp2_with (go_at_call 36; refine (hnm _).mono ?_; rintro e w' ⟨rfl, ⟨m1, rfl⟩⟩)
          refine bodyPost_ret (v := .tuple #[.agg #[.int .i64 i, .int .i64 (-1), .int .i64 2], .int .u8 9]) (by simp [results, Try.results25, go_sem, p0, p1, p2, hB0]) rfl ?_
          exact CheckPost.no Hno.out (below_set (below_set (below_set (pw_below_drewN (below_alloc' HO.below _) _) _ _) _ _) _ _)
        | true =>
          rw [hN0] at hnm
          have HN0 := Aside0.mk hN0
          have hs60 := nameOk_size hN0
          clear hN0
          obtain ⟨kl, hkl⟩ := strKey (s := m.f0) (by unfold maxLen; omega)
          have HKL := Aside0.mk hkl
          obtain ⟨N4, D4, hN4, ho4, hD4⟩ := HO.names
          obtain ⟨N5, D5, hN5, ho5, j5, prev5, hj5, hD5⟩ := HO.seen
          have hm4 := hD4.names m.f0 kl hkl
          clear hkl
          go_upto_region 10 with (go_at_call 36; refine (hnm _).mono ?_; rintro e w' ⟨rfl, ⟨m1, rfl⟩⟩)
          obtain ⟨wx, hwx⟩ : ∃ x : World, x = (wr.alloc (.cells #[.string m.f0, .slice A1 m.f1.length c1] 41)).drewN m1 := ⟨_, rfl⟩
          rw [← hwx]
          have HBx := Aside0.mk (show Below w.heap.size w wx by rw [hwx]; exact pw_below_drewN (below_alloc' HO.below _) _)
          have hrx : Below wr.heap.size wr wx := by rw [hwx]; exact pw_below_drewN (below_alloc' (Below.refl _ _) _) _
          have Ho4 := Aside0.mk (ho4.kept (grown_of_below hrx none) (by simp))
          have Ho5 := Aside0.mk (ho5.kept (grown_of_below hrx none) (by simp))
          have hpl := heap_below hrx (Nat.le_refl _) HO.place
          have hbx : wx.heap[wr.heap.size]? = some (.cells #[.string m.f0, .slice A1 m.f1.length c1] 41 (0, 0)) := by rw [hwx]; exact alloc_at _ _
          have hB1 : w.heap.size + 1 < wr.heap.size := ho4.lt
          have hB2 : w.heap.size + 1 + 1 < wr.heap.size := ho5.lt
          have hb0 := cellOf hbx 0
          have hb1 := cellOf hbx 1
          have HOk := Aside0.mk HO.ok
          simp only [List.getElem?_toArray, List.getElem?_cons_zero, List.getElem?_cons_succ] at hb0 hb1
          clear p0 p1 p2 f0 f1 f2 ho4 ho5 hx0 hx1 hwx HO hnm
          have p0 := cellOf hpl 0
          have p1 := cellOf hpl 1
          have p2 := cellOf hpl 2
          have f0 := frozenOf hpl 0
          have f1 := frozenOf hpl 1
          have f2 := frozenOf hpl 2
          simp only [List.getElem?_toArray, List.getElem?_cons_zero, List.getElem?_cons_succ] at p0 p1 p2
          have Hpl := Aside0.mk hpl
          have Hbx := Aside0.mk hbx
          have Hrx := Aside0.mk hrx
          clear hpl hbx hrx
          cases hA : ((s.take i).any fun x => decide (x.f0 = m.f0)) with
          | true =>
            rw [hA, if_pos rfl] at hm4
            have Hm4 := Lib.hid hm4
            have Hno := Aside0.mk (hm0.out (by simp [msgOk, hA]))
            clear hm4 hA
            go_wp2_with (first | (refine wpList_look _ rfl (.tmp 36) (.tmp 38) 78 false rfl 9 3 lawStr Try.underlying78 _ (zero_int _) (w.heap.size + 1) N4 D4 rfl Ho4.out _ kl rfl HKL.out _ Hm4.out ?_; simp only [lookRes]))
            refine bodyPost_ret (v := .tuple #[.agg #[.int .i64 i, .int .i64 (-1), .int .i64 3], .int .u8 9]) (by simp [results, Try.results25, go_sem, p0, p1, p2]) rfl ?_
            exact CheckPost.no Hno.out (below_set (below_set (below_set HBx.out _ _) _ _) _ _)
          | false =>
            rw [hA, if_neg (by decide)] at hm4
            have Hm4 := Lib.hid hm4
            have HA := Aside0.mk hA
            clear hm4 hA
            by_cases h200 : m.f1.length ≤ 200
            · have h200' : ¬ (200 : Int) < m.f1.length := by omega
              go_upto_region 16 with (first | (refine wpList_look _ rfl (.tmp 36) (.tmp 38) 78 false rfl 9 3 lawStr Try.underlying78 _ (zero_int _) (w.heap.size + 1) N4 D4 rfl Ho4.out _ kl rfl HKL.out _ Hm4.out ?_; simp only [lookRes]))
              clear p0 p1 p2 f0 f1 f2
              go_upto_region 17 with (first | (refine wpList_look _ rfl (.tmp 51) (.tmp 53) 78 false rfl 9 3 lawStr Try.underlying78 _ (zero_int _) (w.heap.size + 1) N4 D4 rfl Ho4.out _ kl rfl HKL.out _ Hm4.out ?_; simp only [lookRes]) | (refine wpList_mapUpdate_own _ rfl (.tmp 51) (.tmp 53) (.tmp 55) 78 rfl 9 3 lawStr Try.underlying78 hv (w.heap.size + 1) N4 D4 rfl Ho4.out (by unfold maxLen; omega) _ _ kl rfl rfl HKL.out (.held (.int .i64 1)) [] rfl ?_; intro w1 ho1 hg1))
              have HB1 := Aside0.mk (HBx.out.grown hg1 HBx.out.size (fun k hk => by cases hk; omega))
              have hpl := heap_grown hg1 Hpl.out (by omega)
              have hbx := heap_grown hg1 Hbx.out (by omega)
              have Ho5' := Aside0.mk (Ho5.out.kept hg1 (by simp))
              have Hnd := Aside0.mk (hD4.add HKL.out)
              have Hsd := Aside0.mk (hD5.at hj5)
              have Ho1 := Aside0.mk ho1
              clear hb0 hb1
              have hb1 := cellOf hbx 1
              simp only [List.getElem?_toArray, List.getElem?_cons_zero, List.getElem?_cons_succ] at hb1
              have Hpl1 := Aside0.mk hpl
              clear hpl hbx ho1 hg1 Ho4 Ho5 Hm4 Hpl Hbx Hrx hD4 hD5 HBx
              go_wp2
              go_loopg [59] m.f1.length (fun kq v59 wi => ∃ k : Nat, v59 = .int .i64 k ∧ k ≤ m.f1.length ∧ m.f1.length - k ≤ kq ∧ Inner w wi s i m k)
              case atStart => exact ⟨0, rfl, by omega, by omega, ⟨HB1.out, Hpl1.out, ⟨_, _, by omega, Ho1.out, Hnd.out⟩, ⟨_, _, by omega, Ho5'.out, Hsd.out⟩, fun j hj => absurd hj (by omega)⟩⟩
              case round =>
                clear HB1 Hpl1 Hnd Hsd Ho1 Ho5' hb1
                obtain ⟨k, rfl, hk, hg2, HI⟩ := hrel
                by_cases hlt2 : k < m.f1.length
                · have hlt2' : (k : Int) < m.f1.length := by omega
                  obtain ⟨ad2, e, y0, y1, y2, y3, y4, y5⟩ := at_T38 HIF.out k (by omega) hlt2'
                  cases e
                  simp only [Int.toNat_natCast] at y0 y1 y2 y3 y4 y5
                  replace y0 := pw_cell_below HI.below y0
                  replace y1 := pw_cell_below HI.below y1
                  replace y2 := pw_cell_below HI.below y2
                  replace y3 := pw_cell_below HI.below y3
                  replace y4 := pw_cell_below HI.below y4
                  replace y5 := pw_cell_below HI.below y5
                  have hfz := Hsz.out k hlt2
                  have hno1 : Aside0 (fieldOk s.length (m.f1.take k) (rd_T38 m.f1 k) = false → fieldsOk s.length m.f1 = false) := ⟨fieldsOk_not hlt2⟩
                  have htk := Aside0.mk (take_rdF m.f1 k hlt2)
                  obtain ⟨f, hf⟩ : ∃ f, f = rd_T38 m.f1 k := ⟨_, rfl⟩
                  rw [← hf] at y0 y1 y2 y3 y4 y5 hfz hno1 htk
                  have Hf := Lib.hid hf
                  clear hf
                  obtain ⟨N6, D6, hN6, ho6, hD6⟩ := HI.seen
                  obtain ⟨N7, D7, hN7, ho7, hD7⟩ := HI.names
                  have hcall := fun W (hown : W.ownsMap Try.prog 87 hv (w.heap.size + 1 + 1) N6 D6) => field_calls (some ad) s.length c i f.f0 f.f1 f.f2 f.f3 f.f4 f.f5 (w.heap.size + 1 + 1) N6 D6 (m.f1.take k) W hown hD6 (by unfold maxLen; omega) (by omega) (by omega) hmx hfz
                  have Ho6 := Aside0.mk ho6
                  have Ho7 := Aside0.mk ho7
                  have Hd7 := Aside0.mk hD7
                  clear ho6 ho7 hD6 hD7 hfz
                  go_upto_region 21 with (go_at_call 37; refine (hcall _ (Ho6.out.alloc _)).mono ?_; rintro e w2 ⟨what, rfl, hp⟩)
                  have Hal := Aside0.mk (below_alloc' HI.below (.cells #[.string f.f0, .int .i64 f.f1, .int .i64 f.f2, .bool f.f3, .bool f.f4, .int .i64 f.f5] 38))
                  have Hpa := Aside0.mk (alloc_old HI.place (.cells #[.string f.f0, .int .i64 f.f1, .int .i64 f.f2, .bool f.f3, .bool f.f4, .int .i64 f.f5] 38))
                  have HIok := Aside0.mk HI.ok
                  clear y0 y1 y2 y3 y4 y5 hcall HI
                  rcases hp with ⟨hok, rfl, ⟨D', ho', hD'⟩, hg'⟩ | ⟨hno, hne, hb'⟩
                  · have HG := Aside0.mk hg'
                    have Hok := Aside0.mk hok
                    have Ho' := Aside0.mk ho'
                    have Hd' := Aside0.mk hD'
                    clear hg' hok ho' hD'
                    go_wp2
                    go_roundg (m.f1.length - (k + 1))
                    case measure => omega
                    case rel =>
                      refine ⟨k + 1, by go_num, by omega, by omega, ⟨Hal.out.grown HG.out Hal.out.size (fun k hk => by cases hk; omega), heap_grown HG.out Hpa.out (by omega), ⟨N7, D7, hN7, (Ho7.out.alloc _).kept HG.out (by simp), Hd7.out⟩, ⟨N6 + 2, D', by omega, Ho'.out, by rw [htk.out]; exact Hd'.out⟩, fun j hj => ?_⟩⟩
                      by_cases e : j = k
                      · subst e; rw [← Hf.out]; exact Hok.out
                      · exact HIok.out j (by omega)
                  · have Hno := Aside0.mk (hm0.out (by rw [msgOk, hno1.out hno, Bool.and_false]))
                    have hne' : (what != 0) = true := bne_iff_ne.2 hne
                    have hpl := heap_below hb' (Nat.le_refl _) Hpa.out
                    have Hbb := Aside0.mk (Hal.out.trans (hb'.mono Hal.out.size))
                    have p0 := cellOf hpl 0
                    have p1 := cellOf hpl 1
                    have p2 := cellOf hpl 2
                    have f0 := frozenOf hpl 0
                    have f1 := frozenOf hpl 1
                    have f2 := frozenOf hpl 2
                    simp only [List.getElem?_toArray, List.getElem?_cons_zero, List.getElem?_cons_succ] at p0 p1 p2
                    clear hno hne hpl hb'
                    go_wp2
                    refine bodyPost_ret (v := .tuple #[.agg #[.int .i64 i, .int .i64 k, .int .i64 what], .int .u8 9]) (by simp [results, Try.results25, go_sem, p0, p1, p2]) rfl ?_
                    exact CheckPost.no Hno.out (below_set (below_set (below_set Hbb.out _ _) _ _) _ _)
                · obtain rfl : k = m.f1.length := by omega
                  have hok : msgOk s.length (s.take i) m = true := by
                    rw [msgOk, HN0.out, HA.out, decide_eq_true h200, fieldsOk_all HI.ok]; rfl
                  have Hok := Aside0.mk hok
                  clear hok
                  go_wp2
                  go_roundg (s.length - (i + 1))
                  case measure => omega
                  case rel =>
                    obtain ⟨N6, D6, hN6, ho6, hD6⟩ := HI.seen
                    obtain ⟨N7, D7, hN7, ho7, hD7⟩ := HI.names
                    refine ⟨i + 1, by go_num, by omega, by omega, ⟨HI.below, HI.place, ⟨N7, D7, hN7, ho7, by rw [take_rdM s i hlt, ← Hm.out]; exact hD7⟩, ⟨N6, D6, by omega, ho6, ⟨i, _, by omega, hD6⟩⟩, fun j hj => ?_⟩⟩
                    by_cases e : j = i
                    · subst e; rw [← Hm.out]; exact Hok.out
                    · exact HOk.out j (by omega)
            · have h200' : (200 : Int) < m.f1.length := by omega
              have Hno := Aside0.mk (hm0.out (by simp [msgOk, h200]))
              clear h200
              go_wp2_with (first | (refine wpList_look _ rfl (.tmp 36) (.tmp 38) 78 false rfl 9 3 lawStr Try.underlying78 _ (zero_int _) (w.heap.size + 1) N4 D4 rfl Ho4.out _ kl rfl HKL.out _ Hm4.out ?_; simp only [lookRes]))
              refine bodyPost_ret (v := .tuple #[.agg #[.int .i64 i, .int .i64 (-1), .int .i64 4], .int .u8 9]) (by simp [results, Try.results25, go_sem, p0, p1, p2]) rfl ?_
              exact CheckPost.no Hno.out (below_set (below_set (below_set HBx.out _ _) _ _) _ _)
      · obtain rfl : i = s.length := by omega
        have Hy := Aside0.mk (right_all hl1 hl2 HO.ok)
        have HBo := Aside0.mk HO.below
        have p0 := cellOf HO.place 0
        have p1 := cellOf HO.place 1
        have p2 := cellOf HO.place 2
        have f0 := frozenOf HO.place 0
        have f1 := frozenOf HO.place 1
        have f2 := frozenOf HO.place 2
        simp only [List.getElem?_toArray, List.getElem?_cons_zero, List.getElem?_cons_succ] at p0 p1 p2
        clear HO
        go_wp2
        refine bodyPost_ret (v := .tuple #[.agg #[.int .i64 0, .int .i64 0, .int .i64 0], .int .u8 0]) (by simp [results, Try.results25, go_sem, p0, p1, p2]) rfl ?_
        exact ⟨0, 0, 0, 0, rfl, .inl ⟨Hy.out, rfl⟩, below_set (below_set (below_set HBo.out _ _) _ _) _ _⟩
  · have Hno := Aside0.mk (right_len hlen)
    by_cases b1 : s.length < 1
    · have b1' : (s.length : Int) < 1 := by omega
      clear hlen
      go_enter Try.func25, Try.ntmps25
      go_wp2
      refine bodyPost_ret (v := .tuple #[.agg #[.int .i64 (-1), .int .i64 (-1), .int .i64 1], .int .u8 9]) (by simp [results, Try.results25, go_sem]) rfl ?_
      exact CheckPost.no Hno.out ((Below.refl _ w).alloc (Nat.le_refl _) _)
    · have b1' : ¬ (s.length : Int) < 1 := by omega
      have b2 : (100 : Int) < s.length := by omega
      clear hlen
      go_enter Try.func25, Try.ntmps25
      go_wp2
      refine bodyPost_ret (v := .tuple #[.agg #[.int .i64 (-1), .int .i64 (-1), .int .i64 1], .int .u8 9]) (by simp [results, Try.results25, go_sem]) rfl ?_
      exact CheckPost.no Hno.out ((Below.refl _ w).alloc (Nat.le_refl _) _)
end Go.Proofs.Ytdkhmnmngokmmaa.Sch
