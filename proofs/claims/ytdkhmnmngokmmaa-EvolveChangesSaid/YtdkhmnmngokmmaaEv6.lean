/- evolve.changes: what changes from one schema to another one. -/
import Derived.Test.YtdkhmnmngokmmaaEv5
namespace Go.Proofs.Ytdkhmnmngokmmaa.Ev
open Go.RowKit Go.Maps Go.Proofs.Ytdkhmnmngokmmaa.B Go.Proofs.Ytdkhmnmngokmmaa.K Go.Proofs.Ytdkhmnmngokmmaa.Spec Go.Proofs.Ytdkhmnmngokmmaa.Sch Go.Proofs.YtdkhmnmngokmmaaW.PrintWords
set_option linter.unusedVariables false
set_option linter.unusedSimpArgs false

theorem right_r (A : Option Addr) (c : Nat) (s : List Msg) (r : Bool) (hrr : right s = r) (w : World) (hr : Kd.C k41 w A s.length s) (hc : s.length ≤ c) (hz : Sized s) :
    Calls Try.prog 20 #[.slice A s.length c] w fun e w' => e = .returned (.bool r) ∧ Below w.heap.size w w' := hrr ▸ right_calls A c s w hr hc hz
theorem message_r (A : Option Addr) (c : Nat) (s : List Msg) (n : ByteArray) (r : Option Nat) (hrr : findM s n = r) (i : Int) (cd : Int) (hi : (msgRes r).1 = i) (hcd : (msgRes r).2 = cd) (w : World) (hr : Kd.C k41 w A s.length s) :
    Calls Try.prog 21 #[.slice A s.length c, .string n] w fun e w' => e = .returned (.tuple #[.int .i64 i, .int .u8 cd]) ∧ Below w.heap.size w w' := by
  subst hrr hi hcd
  exact message_calls A c s n w hr

def firstCh (a b : List Msg) (m : Msg) : List Chg :=
  match findM b m.f0 with
  | none => [⟨⟨1, m.f0, 0⟩, z38, z38⟩]
  | some j => fieldsCh a b m (b.getD j z41)
def secondCh (a : List Msg) (m : Msg) : List Chg :=
  match findM a m.f0 with
  | none => [⟨⟨2, m.f0, 0⟩, z38, z38⟩]
  | some _ => []
def changesCh (a b : List Msg) : List Chg := a.flatMap (firstCh a b) ++ b.flatMap (secondCh a)
def chRes (a b : List Msg) : List Chg × Int := if right a && right b then (changesCh a b, 0) else ([], 9)

theorem right_len {s : List Msg} (h : right s = true) : s.length ≤ 100 := by
  unfold right at h
  simp only [Bool.and_eq_true, decide_eq_true_eq] at h
  exact h.1.2
theorem right_fit {s : List Msg} (h : right s = true) : ∀ m ∈ s, MsgFit s m := by
  intro m hm
  unfold right at h
  simp only [Bool.and_eq_true, decide_eq_true_eq, List.all_eq_true, List.mem_range] at h
  obtain ⟨i, hi, rfl⟩ := List.getElem_of_mem hm
  have h1 := h.2 i hi
  rw [show s.getD i z41 = s[i] from by simp [hi]] at h1
  unfold msgOk at h1
  simp only [Bool.and_eq_true, decide_eq_true_eq] at h1
  refine ⟨h1.1.2, fun f hf => ?_⟩
  have h2 := h1.2
  unfold fieldsOk at h2
  simp only [List.all_eq_true, List.mem_range] at h2
  obtain ⟨k, hk, rfl⟩ := List.getElem_of_mem hf
  have h3 := h2 k hk
  rw [show s[i].f1.getD k z38 = s[i].f1[k] from by simp [hk]] at h3
  unfold fieldOk at h3
  simp only [Bool.and_eq_true] at h3
  refine ⟨h3.1.1.1.1.2, fun h17 => ?_⟩
  have h4 := h3.2
  rw [if_pos h17] at h4
  simpa using h4
theorem findM_lt {s : List Msg} {n : ByteArray} {j : Nat} (h : findM s n = some j) : j < s.length := by
  unfold findM at h
  rw [List.findIdx?_eq_some_iff_getElem] at h
  exact h.1
theorem fm_lenm {α β : Type} (f : α → List β) (c : Nat) : ∀ l : List α, (∀ x ∈ l, (f x).length ≤ c) → (l.flatMap f).length ≤ c * l.length
  | [], _ => by simp
  | x :: l, hf => by
    rw [List.flatMap_cons, List.length_append, List.length_cons]
    have := hf x (by simp)
    have := fm_lenm f c l (fun y hy => hf y (List.mem_cons_of_mem _ hy))
    rw [Nat.mul_succ]
    omega
theorem fieldsCh_len {a b s t : List Msg} {m n : Msg} (hm : MsgFit s m) (hn : MsgFit t n) : (fieldsCh a b m n).length ≤ 1600 := by
  have h1 := fm_len (oneCh a b m n) 4 (oneCh_len a b m n) (numsOf m n)
  have h2 := numsOf_len m n
  have := hm.1
  have := hn.1
  unfold fieldsCh
  omega
theorem firstCh_len {a b : List Msg} (ha : right a = true) (hb : right b = true) : ∀ m ∈ a, (firstCh a b m).length ≤ 1600 := by
  intro m hm
  unfold firstCh
  split
  · simp
  · rename_i j hj
    have hl := findM_lt hj
    exact fieldsCh_len (right_fit ha m hm) (right_fit hb _ (by rw [show b.getD j z41 = b[j] from by simp [hl]]; exact List.getElem_mem hl))
theorem secondCh_len (a : List Msg) (m : Msg) : (secondCh a m).length ≤ 1 := by
  unfold secondCh
  split <;> simp
theorem firsts_len {a b : List Msg} (ha : right a = true) (hb : right b = true) (k : Nat) : ((a.take k).flatMap (firstCh a b)).length ≤ 160000 := by
  have h1 := fm_lenm (firstCh a b) 1600 (a.take k) (fun m hm => firstCh_len ha hb m (List.mem_of_mem_take hm))
  have h2 := right_len ha
  have h3 : (a.take k).length ≤ 100 := by rw [List.length_take]; omega
  omega
theorem seconds_len {a b : List Msg} (hb : right b = true) (k : Nat) : ((b.take k).flatMap (secondCh a)).length ≤ 100 := by
  have h1 := fm_len (secondCh a) 1 (secondCh_len a) (b.take k)
  have h2 := right_len hb
  have h3 : (b.take k).length ≤ 100 := by rw [List.length_take]; omega
  omega
theorem take_rdM (l : List Msg) (k : Nat) (h : k < l.length) : l.take (k + 1) = l.take k ++ [rd_T41 l k] := by
  rw [List.take_add_one]
  congr 1
  simp [rd_T41, List.getElem?_eq_getElem h]
theorem rdM_mem (l : List Msg) (k : Nat) (h : k < l.length) : rd_T41 l k ∈ l := by
  rw [rdM_eq _ _ h]; exact List.getElem_mem h

theorem heap_grownR {w w' : World} {row : Option Nat} {g : Nat} {o : Obj} (h : w.grownBy w' row) (hg : w.heap[g]? = some o) (hne : some g ≠ row) : w'.heap[g]? = some o := by
  rw [h.block g (heap_lt hg) hne]; exact hg
set_option maxHeartbeats 8000000 in
set_option maxRecDepth 100000 in
theorem changes_calls (a b : List Msg) (A B : Option Addr) (ca cb : Nat) (w : World) (ha : Kd.C k41 w A a.length a) (hb : Kd.C k41 w B b.length b) (hca : a.length ≤ ca) (hcb : b.length ≤ cb) (sa : Sized a) (sb : Sized b) :
    Calls Try.prog 11 #[.slice A a.length ca, .slice B b.length cb] w fun e w' =>
      ∃ v, e = .returned (.tuple #[v, .int .u8 (chRes a b).2]) ∧ Kd.R k47 47 w' w.heap.size (fun _ => True) v (chRes a b).1 ∧ Below w.heap.size w w' := by
  have hu := Try.underlying41
  have HA := Aside0.mk ha
  have HB := Aside0.mk hb
  have SA := Aside0.mk sa
  have SB := Aside0.mk sb
  clear ha hb sa sb
  cases hRa : right a with
  | false =>
    have hcr : chRes a b = ([], 9) := by unfold chRes; rw [hRa]; rfl
    rw [hcr]
    go_enter Try.func11, Try.ntmps11
    go_wp2_with (go_at_call 20; with_reducible refine (right_r A ca a false hRa _ HA.out hca SA.out).mono ?_; rintro e w1 ⟨rfl, hb1⟩)
    go_ret2
    exact ⟨_, rfl, Kd.R_nil _ _ _ _ _, hb1⟩
  | true =>
    cases hRb : right b with
    | false =>
      have hcr : chRes a b = ([], 9) := by unfold chRes; rw [hRa, hRb]; rfl
      rw [hcr]
      go_enter Try.func11, Try.ntmps11
      go_wp2_with (first
        | (go_at_call 20; with_reducible refine (right_r A ca a true hRa _ HA.out hca SA.out).mono ?_; rintro e w1 ⟨rfl, hb1⟩)
        | (go_at_call 20; with_reducible refine (right_r B cb b false hRb _ (Kd.C_below HB.out hb1) hcb SB.out).mono ?_; rintro e w2 ⟨rfl, hb2⟩))
      go_ret2
      exact ⟨_, rfl, Kd.R_nil _ _ _ _ _, hb1.trans (hb2.mono hb1.size)⟩
    | true =>
      have hcr : chRes a b = (changesCh a b, 0) := by unfold chRes; rw [hRa, hRb]; rfl
      rw [hcr]
      have RA := Aside0.mk hRa
      have RB := Aside0.mk hRb
      clear hRa hRb hcr
      go_enter Try.func11, Try.ntmps11
      go_wp2_with (first
        | (go_at_call 20; with_reducible refine (right_r A ca a true RA.out _ HA.out hca SA.out).mono ?_; rintro e w1 ⟨rfl, hb1⟩; have B1 := Aside0.mk hb1; clear hb1)
        | (go_at_call 20; with_reducible refine (right_r B cb b true RB.out _ (Kd.C_below HB.out B1.out) hcb SB.out).mono ?_; rintro e w2 ⟨rfl, hb2⟩; have B2 := Aside0.mk hb2; clear hb2))
      have BW := Aside0.mk (B1.out.trans (B2.out.mono B1.out.size))
      have HA2 := Aside0.mk (Kd.C_below HA.out BW.out)
      have HB2 := Aside0.mk (Kd.C_below HB.out BW.out)
      have LA := right_len RA.out
      have LB := right_len RB.out
      clear B1 B2 HA HB
      go_loopg [6, 25] a.length (fun kq v6 v25 wr => ∃ k : Nat, v25 = .int .i64 k ∧ k ≤ a.length ∧ a.length - k ≤ kq ∧ Aside0 (Kd.R k47 47 wr w2.heap.size (fun _ => True) v6 ((a.take k).flatMap (firstCh a b))) ∧ Aside0 (Below w2.heap.size w2 wr))
      case atStart => exact ⟨0, rfl, by omega, by omega, ⟨Kd.R_nil _ _ _ _ _⟩, ⟨Below.refl _ _⟩⟩
      case round =>
        obtain ⟨k, rfl, hk, hg4, HO, HBc⟩ := hrel
        by_cases hlt : k < a.length
        · have hlt' : (k : Int) < a.length := by omega
          obtain ⟨ad, A1, c1, e, y0, y1, hl1, hC1⟩ := at_T41 HA2.out k (by omega) hlt'
          cases e
          simp only [Int.toNat_natCast] at y0 y1
          replace y0 := pw_cell_below HBc.out y0
          replace y1 := pw_cell_below HBc.out y1
          have HT := Aside0.mk (take_rdM a k hlt)
          have FM := Aside0.mk (right_fit RA.out _ (rdM_mem a k hlt))
          obtain ⟨m, hm⟩ : ∃ m, m = rd_T41 a k := ⟨_, rfl⟩
          rw [← hm] at y0 y1 HT FM hC1
          clear hm
          have HC1 := Aside0.mk hC1
          have HL := Aside0.mk (firsts_len RA.out RB.out k)
          have HO2 := Aside0.mk (Kd.R_alloc HO.out (.cells #[.string m.f0, .slice A1 m.f1.length c1] 41))
          have HBc2 := Aside0.mk (below_alloc' HBc.out (.cells #[.string m.f0, .slice A1 m.f1.length c1] 41))
          have HBX := Aside0.mk (alloc_at wr (.cells #[.string m.f0, .slice A1 m.f1.length c1] 41))
          clear hl1 hC1
          cases hf : findM b m.f0 with
          | none =>
            have HF := Aside0.mk hf
            go_upto_region 9 with (go_at_call 21; refine (message_r B cb b m.f0 none hf 0 11 rfl rfl _ (Kd.C_below HB2.out HBc2.out)).mono ?_; rintro e w3 ⟨rfl, hb3⟩)
            have hbx := cellOf (heap_below hb3 (Nat.le_refl _) HBX.out) 0
            simp only [List.getElem?_toArray, List.getElem?_cons_zero, List.getElem?_cons_succ] at hbx
            have HO3 := Aside0.mk (Kd.R_below HO2.out hb3)
            have HB3 := Aside0.mk (HBc2.out.trans (hb3.mono HBc2.out.size))
            clear hb3 y0 y1 hf
            go_wp2_with (at_builtin; (refine Kd.R_append k47 (w0 := w2) (W := w3) w2.heap.size rfl (.tmp 38) (.tmp 43) 42 47 _ 128 rfl Try.underlying42 info47 rfl (by decide) (by decide) _ ((a.take k).flatMap (firstCh a b)) ⟨⟨1, m.f0, 0⟩, z38, z38⟩ [.int .i64 1, .string m.f0, .int .i64 0, .string ⟨#[]⟩, .int .i64 0, .int .i64 0, .bool false, .bool false, .int .i64 0, .string ⟨#[]⟩, .int .i64 0, .int .i64 0, .bool false, .bool false, .int .i64 0] (fun _ => True) (fun _ => False) rfl (by first | rfl | (go_simp; done) | (go_simp; rfl)) (k47_mkM _ _ _ _) (fun _ h => h.elim) (fun _ _ => trivial) HO3.out HB3.out HB3.out.size (by have := HL.out; omega) ?_); intro v1 w4 ho1 hb1 hg1 ha1)
            go_roundg (a.length - (k + 1))
            case measure => omega
            case rel =>
              refine ⟨k + 1, by go_num, by omega, by omega, ⟨?_⟩, ⟨hb1⟩⟩
              rw [HT.out, List.flatMap_append, List.flatMap_singleton, show firstCh a b m = [⟨⟨1, m.f0, 0⟩, z38, z38⟩] from by unfold firstCh; rw [HF.out]]
              exact ho1
          | some j =>
            have HF := Aside0.mk hf
            have hjl := findM_lt hf
            have hjl' : (j : Int) < b.length := by omega
            obtain ⟨adb, Aj, cj, e, z0, z1, hl2, hCj⟩ := at_T41 HB2.out j (by omega) hjl'
            cases e
            simp only [Int.toNat_natCast] at z0 z1
            have HN := Aside0.mk (show firstCh a b m = fieldsCh a b m (rd_T41 b j) from by unfold firstCh; rw [HF.out]; show fieldsCh a b m _ = _; rw [rdM_eq b j hjl]; congr 1; simp [hjl])
            have FN := Aside0.mk (right_fit RB.out _ (rdM_mem b j hjl))
            obtain ⟨n, hn⟩ : ∃ n, n = rd_T41 b j := ⟨_, rfl⟩
            rw [← hn] at z0 z1 HN FN hCj
            clear hn hl2
            have HCj := Aside0.mk hCj
            have HLf := Aside0.mk (fieldsCh_len (a := a) (b := b) FM.out FN.out)
            clear hCj
            go_upto_region 10 with (go_at_call 21; (refine (message_r (some adb) cb b m.f0 (some j) hf j 0 rfl rfl _ (Kd.C_below HB2.out HBc2.out)).mono ?_); (rintro e w3 ⟨rfl, hb3⟩))
            have HBX3 := Aside0.mk (heap_below hb3 (Nat.le_refl _) HBX.out)
            have HO3 := Aside0.mk (Kd.R_below HO2.out hb3)
            have HB3 := Aside0.mk (HBc2.out.trans (hb3.mono HBc2.out.size))
            clear hb3 y0 y1 hf HBX HO2 HBc2 HO HBc
            have x0 : w3.drew.cell? ⟨wr.heap.size, 0, none⟩ = some (.string m.f0) := by simpa using cellOf HBX3.out 0
            have x1 : w3.drew.cell? ⟨wr.heap.size, 1, none⟩ = some (.slice A1 m.f1.length c1) := by simpa using cellOf HBX3.out 1
            have HB3d := Aside0.mk (show Below w2.heap.size w2 w3.drew from HB3.out.drew)
            have HBX3d := Aside0.mk (show w3.drew.heap[wr.heap.size]? = some (.cells #[.string m.f0, .slice A1 m.f1.length c1] 41 (0, 0)) from HBX3.out)
            have u0 := pw_cell_below HB3d.out z0
            have u1 := pw_cell_below HB3d.out z1
            have HO3d := Aside0.mk (Kd.R_drew HO3.out)
            have Z0 := Aside0.mk z0
            have Z1 := Aside0.mk z1
            clear z0 z1
            go_region_held3 (fun W => Aside0 (Below w2.heap.size w2 W) ∧ Aside0 (W.heap[wr.heap.size]? = some (.cells #[.string m.f0, .slice A1 m.f1.length c1] 41 (0, 0))) ∧ W.cell? ⟨wr.heap.size, 0, none⟩ = some (.string m.f0) ∧ W.cell? ⟨wr.heap.size, 1, none⟩ = some (.slice A1 m.f1.length c1) ∧
                W.cell? (adb.add (j * 2)) = some (.string n.f0) ∧ W.cell? ⟨(adb.add (j * 2)).block, (adb.add (j * 2)).off + 1, none⟩ = some (.slice Aj n.f1.length cj))
              (first | ((repeat' apply And.intro) <;> (first | assumption | (go_keep; done))))
              (first
                | (go_at_call 22; (with_reducible refine (fields_calls a b (some ad) (some adb) A1 Aj ca cb c1 cj m n _ (Kd.C_below HA2.out HB3d.out) (Kd.C_below HB2.out HB3d.out) (Kd.C_below HC1.out HB3d.out) (Kd.C_below HCj.out HB3d.out) FM.out FN.out).mono ?_); (rintro e w4 ⟨v4, rfl, hr4, hb4⟩); (obtain ⟨A4, c4, rfl, hl4, hC4⟩ := Kd.R_reads hr4); have C4 := Aside0.mk hC4; have B4 := Aside0.mk (HB3d.out.trans (hb4.mono HB3d.out.size)); have X4 := Aside0.mk (heap_below hb4 (Nat.le_refl _) HBX3d.out); have R4 := Aside0.mk (Kd.R_below HO3d.out hb4); have q0 := cellOf X4.out 0; have q1 := cellOf X4.out 1; simp only [List.getElem?_toArray, List.getElem?_cons_zero, List.getElem?_cons_succ] at q0 q1; have q2 := pw_cell_below B4.out Z0.out; have q3 := pw_cell_below B4.out Z1.out; clear hC4 hb4 hr4)
                | (refine Kd.R_append_rows_step k47 (w0 := w2) w2.heap.size rfl (.tmp 45) (.tmp 53) 42 47 _ 128 rfl Try.underlying42 info47 rfl (by decide) (by decide) _ ((a.take k).flatMap (firstCh a b)) (fieldsCh a b m n) _ _ _ (fun _ => True) (fun _ => False) rfl rfl R4.out C4.out (k47_KM _ _ _) (fun _ h => h.elim) (fun _ _ => trivial) B4.out B4.out.size (by have := HL.out; have := HLf.out; omega) ?_; intro v5 w5 ho5 hb5 hg5 ha5; have R5 := Aside0.mk ho5; have B5 := Aside0.mk hb5; have X5 := Aside0.mk (heap_grownR hg5 X4.out (Kd.R_ne R4.out X4.out (by decide))); have q0 := cellOf X5.out 0; have q1 := cellOf X5.out 1; simp only [List.getElem?_toArray, List.getElem?_cons_zero, List.getElem?_cons_succ] at q0 q1; have q2 := pw_cell_below B5.out Z0.out; have q3 := pw_cell_below B5.out Z1.out; clear ho5 hb5 hg5 ha5))
            go_wp2_with fail
            go_roundg (a.length - (k + 1))
            case measure => omega
            case rel =>
              refine ⟨k + 1, by go_num, by omega, by omega, ⟨?_⟩, B5⟩
              rw [HT.out, List.flatMap_append, List.flatMap_singleton, HN.out]
              exact R5.out
        · obtain rfl : k = a.length := by omega
          have HO1 := Aside0.mk (show Kd.R k47 47 wr w2.heap.size (fun _ => True) _ (a.flatMap (firstCh a b)) from by have := HO.out; rwa [List.take_length] at this)
          have HLa := Aside0.mk (show (a.flatMap (firstCh a b)).length ≤ 160000 from by have := firsts_len RA.out RB.out a.length; rwa [List.take_length] at this)
          clear HO
          go_wp2
          go_loopg [6, 58] b.length (fun kq v6 v58 wr => ∃ k : Nat, v58 = .int .i64 k ∧ k ≤ b.length ∧ b.length - k ≤ kq ∧ Aside0 (Kd.R k47 47 wr w2.heap.size (fun _ => True) v6 (a.flatMap (firstCh a b) ++ (b.take k).flatMap (secondCh a))) ∧ Aside0 (Below w2.heap.size w2 wr))
          case atStart => exact ⟨0, rfl, by omega, by omega, ⟨by simpa using HO1.out⟩, HBc⟩
          case round =>
            obtain ⟨k, rfl, hk2, hg5, HO, HBc⟩ := hrel
            clear HO1
            by_cases hlt : k < b.length
            · have hlt' : (k : Int) < b.length := by omega
              obtain ⟨ad, A1, c1, e, y0, y1, hl1, hC1⟩ := at_T41 HB2.out k (by omega) hlt'
              cases e
              simp only [Int.toNat_natCast] at y0 y1
              replace y0 := pw_cell_below HBc.out y0
              replace y1 := pw_cell_below HBc.out y1
              have HT := Aside0.mk (take_rdM b k hlt)
              obtain ⟨m, hm⟩ : ∃ m, m = rd_T41 b k := ⟨_, rfl⟩
              rw [← hm] at y0 y1 HT
              clear hm hl1 hC1
              have HL := Aside0.mk (seconds_len (a := a) RB.out k)
              have HO2 := Aside0.mk (Kd.R_alloc HO.out (.cells #[.string m.f0, .slice A1 m.f1.length c1] 41))
              have HBc2 := Aside0.mk (below_alloc' HBc.out (.cells #[.string m.f0, .slice A1 m.f1.length c1] 41))
              have HBX := Aside0.mk (alloc_at wr (.cells #[.string m.f0, .slice A1 m.f1.length c1] 41))
              cases hf : findM a m.f0 with
              | none =>
                have HF := Aside0.mk hf
                go_upto_region 17 with (go_at_call 21; refine (message_r A ca a m.f0 none hf 0 11 rfl rfl _ (Kd.C_below HA2.out HBc2.out)).mono ?_; rintro e w3 ⟨rfl, hb3⟩)
                have hbx := cellOf (heap_below hb3 (Nat.le_refl _) HBX.out) 0
                simp only [List.getElem?_toArray, List.getElem?_cons_zero, List.getElem?_cons_succ] at hbx
                have HO3 := Aside0.mk (Kd.R_below HO2.out hb3)
                have HB3 := Aside0.mk (HBc2.out.trans (hb3.mono HBc2.out.size))
                clear hb3 y0 y1 hf
                go_wp2_with (at_builtin; (refine Kd.R_append k47 (w0 := w2) (W := w3) w2.heap.size rfl (.tmp 71) (.tmp 76) 42 47 _ 128 rfl Try.underlying42 info47 rfl (by decide) (by decide) _ (a.flatMap (firstCh a b) ++ (b.take k).flatMap (secondCh a)) ⟨⟨2, m.f0, 0⟩, z38, z38⟩ [.int .i64 2, .string m.f0, .int .i64 0, .string ⟨#[]⟩, .int .i64 0, .int .i64 0, .bool false, .bool false, .int .i64 0, .string ⟨#[]⟩, .int .i64 0, .int .i64 0, .bool false, .bool false, .int .i64 0] (fun _ => True) (fun _ => False) rfl (by first | rfl | (go_simp; done) | (go_simp; rfl)) (k47_mkM _ _ _ _) (fun _ h => h.elim) (fun _ _ => trivial) HO3.out HB3.out HB3.out.size (by have := HL.out; have := HLa.out; rw [List.length_append]; omega) ?_); intro v1 w4 ho1 hb1 hg1 ha1)
                go_roundg (b.length - (k + 1))
                case measure => omega
                case rel =>
                  refine ⟨k + 1, by go_num, by omega, by omega, ⟨?_⟩, ⟨hb1⟩⟩
                  rw [HT.out, List.flatMap_append, List.flatMap_singleton, show secondCh a m = [⟨⟨2, m.f0, 0⟩, z38, z38⟩] from by unfold secondCh; rw [HF.out], ← List.append_assoc]
                  exact ho1
              | some j =>
                have HF := Aside0.mk hf
                go_wp2_with (go_at_call 21; refine (message_r A ca a m.f0 (some j) hf j 0 rfl rfl _ (Kd.C_below HA2.out HBc2.out)).mono ?_; rintro e w3 ⟨rfl, hb3⟩)
                go_roundg (b.length - (k + 1))
                case measure => omega
                case rel =>
                  refine ⟨k + 1, by go_num, by omega, by omega, ⟨?_⟩, ⟨HBc2.out.trans (hb3.mono HBc2.out.size)⟩⟩
                  rw [HT.out, List.flatMap_append, List.flatMap_singleton, show secondCh a m = [] from by unfold secondCh; rw [HF.out], List.append_nil]
                  exact Kd.R_below HO2.out hb3
            · obtain rfl : k = b.length := by omega
              go_wp2
              go_ret2
              exact ⟨_, rfl, by simpa [changesCh] using Kd.R_lower HO.out BW.out.size, BW.out.trans (HBc.out.mono BW.out.size)⟩
end Go.Proofs.Ytdkhmnmngokmmaa.Ev
