/- evolve.fields: what changes of two messages' fields. -/
import Derived.Test.YtdkhmnmngokmmaaEv4
namespace Go.Proofs.Ytdkhmnmngokmmaa.Ev
open Go.RowKit Go.Maps Go.Proofs.Ytdkhmnmngokmmaa.B Go.Proofs.Ytdkhmnmngokmmaa.K Go.Proofs.Ytdkhmnmngokmmaa.Spec Go.Proofs.Ytdkhmnmngokmmaa.Sch Go.Proofs.YtdkhmnmngokmmaaW.PrintWords
set_option linter.unusedVariables false
set_option linter.unusedSimpArgs false

theorem usable_wf {n : Int} (h : usable n = true) : (Lit.int .i64 n).wf = true := by
  unfold usable at h
  simp only [Bool.and_eq_true, decide_eq_true_eq] at h
  exact wf_i64 (by omega) (by omega)
def MsgFit (s : List Msg) (m : Msg) : Prop := m.f1.length ≤ 200 ∧ ∀ f ∈ m.f1, usable f.f1 = true ∧ OfOk s f
theorem MsgFit.wf {s : List Msg} {m : Msg} (h : MsgFit s m) (k : Nat) (hk : k < m.f1.length) : (Lit.int .i64 (rd_T38 m.f1 k).f1).wf = true := by
  rw [rdF_eq _ _ hk]
  exact usable_wf (h.2 _ (List.getElem_mem hk)).1
theorem dd_len : ∀ l, (dd l).length ≤ l.length
  | [] => by simp [dd]
  | y :: l => by
    rw [dd]
    split
    · exact Nat.le_trans (dd_len l) (by simp)
    · simpa using dd_len l
theorem numsOf_len (m n : Msg) : (numsOf m n).length ≤ m.f1.length + n.f1.length := by
  unfold numsOf
  rw [List.length_mergeSort]
  exact Nat.le_trans (dd_len _) (by simp)
theorem numsOf_mem {m n : Msg} {k : Int} (h : k ∈ numsOf m n) : k ∈ (m.f1 ++ n.f1).map (·.f1) := by
  unfold numsOf at h
  rw [List.mem_mergeSort] at h
  exact (mem_dd _ _).1 h
theorem fieldCh_len (a b : List Msg) (m : ByteArray) (f g : Fld) : (fieldCh a b m f g).length ≤ 4 := Nat.le_trans (List.length_filterMap_le _ _) (by simp [four])
theorem oneCh_len (a b : List Msg) (m n : Msg) (k : Int) : (oneCh a b m n k).length ≤ 4 := by
  unfold oneCh
  split
  · simp
  · simp
  · exact fieldCh_len _ _ _ _ _
theorem fm_len {α β : Type} (f : α → List β) (c : Nat) (hf : ∀ x, (f x).length ≤ c) : ∀ l : List α, (l.flatMap f).length ≤ c * l.length
  | [] => by simp
  | x :: l => by
    rw [List.flatMap_cons, List.length_append, List.length_cons]
    have := hf x
    have := fm_len f c hf l
    rw [Nat.mul_succ]
    omega
theorem k47_KM (W : World) (base : Nat) (okp : Nat → Prop) (x : Chg) (cs : List Value) (h : k47.K W x cs) : k47.M W base okp x cs := by
  rw [k47_open h]; exact k47_mkM _ _ _ _
section
variable (w : World) {ops : Array Oper} {rest : List Oper} {o : Oper} {a : Act} {Q : Exit → Act → World → Prop}
theorem wpList_lookF_some (hg : o.guard = none) (m x : Operand) (hop : o.op = Op.lookup 67 m x true) (b n : Nat) (D : DataW Fld)
    (hm : a.eval m = .map (some b)) (hown : OwnF w b n D) (k : Int) (hx : a.eval x = .int .i64 k) (hk : (Lit.int .i64 k).wf = true) (f : Fld) (hr : fget D k = some f)
    (hK : wpList Try.prog ops Q rest (a.put o.dst (.tuple #[.agg #[.string f.f0, .int .i64 f.f1, .int .i64 f.f2, .bool f.f3, .bool f.f4, .int .i64 f.f5], .bool true])) w) : wpList Try.prog ops Q (o :: rest) a w :=
  wpList_lookF w hg m x true hop b n D hm hown k hx hk _ hr hK
theorem wpList_lookF_none (hg : o.guard = none) (m x : Operand) (hop : o.op = Op.lookup 67 m x true) (b n : Nat) (D : DataW Fld)
    (hm : a.eval m = .map (some b)) (hown : OwnF w b n D) (k : Int) (hx : a.eval x = .int .i64 k) (hk : (Lit.int .i64 k).wf = true) (hr : fget D k = none)
    (hK : wpList Try.prog ops Q rest (a.put o.dst (.tuple #[.agg #[.string ⟨#[]⟩, .int .i64 0, .int .i64 0, .bool false, .bool false, .int .i64 0], .bool false])) w) : wpList Try.prog ops Q (o :: rest) a w :=
  wpList_lookF w hg m x true hop b n D hm hown k hx hk _ hr hK
end
theorem fits_wf {a b : List Msg} {m n : Msg} (FM : MsgFit a m) (FN : MsgFit b n) : ∀ k ∈ (m.f1 ++ n.f1).map (·.f1), (Lit.int .i64 k).wf = true := by
  intro k hk
  rw [List.map_append, List.mem_append, List.mem_map, List.mem_map] at hk
  rcases hk with ⟨f, hf, rfl⟩ | ⟨f, hf, rfl⟩
  · exact usable_wf (FM.2 f hf).1
  · exact usable_wf (FN.2 f hf).1
theorem fm_ofok {s : List Msg} {m : Msg} (h : MsgFit s m) {k : Int} {f : Fld} (hf : byF m.f1 k = some f) : OfOk s f := by
  unfold byF at hf
  exact (h.2 f (List.mem_reverse.1 (List.mem_of_find?_eq_some hf))).2
set_option maxHeartbeats 8000000 in
set_option maxRecDepth 100000 in
theorem fields_calls (a b : List Msg) (A B Am Bm : Option Addr) (ca cb cm cn : Nat) (m n : Msg) (w : World) (ha : Kd.C k41 w A a.length a) (hb : Kd.C k41 w B b.length b)
    (hm : Kd.C k38 w Am m.f1.length m.f1) (hn : Kd.C k38 w Bm n.f1.length n.f1) (fm : MsgFit a m) (fn : MsgFit b n) :
    Calls Try.prog 22 #[.slice A a.length ca, .slice B b.length cb, .agg #[.string m.f0, .slice Am m.f1.length cm], .agg #[.string n.f0, .slice Bm n.f1.length cn]] w fun e w' =>
      ∃ v, e = .returned v ∧ Kd.R k47 47 w' w.heap.size (fun _ => True) v (fieldsCh a b m n) ∧ Below w.heap.size w w' := by
  have hu := Try.underlying41
  have HA := Aside0.mk ha
  have HB := Aside0.mk hb
  have HM := Aside0.mk hm
  have HN := Aside0.mk hn
  have FM := Aside0.mk fm
  have FN := Aside0.mk fn
  clear ha hb hm hn fm fn
  go_enter Try.func22, Try.ntmps22
  go_upto_region 2 with (fail)
  go_cut [10, 11] (fun v10 v11 wc => ∃ bx by' Dx Dy, v10 = .map (some bx) ∧ v11 = .map (some by') ∧ Aside0 (OwnF wc bx m.f1.length Dx) ∧ Aside0 (OwnF wc by' n.f1.length Dy) ∧ Aside0 (∀ k, fget Dx k = byF m.f1 k) ∧ Aside0 (∀ k, fget Dy k = byF n.f1 k) ∧ Aside0 (bx ≠ by') ∧ Aside0 (w.heap.size + 1 < wc.heap.size) ∧
    Aside0 (wc.heap[w.heap.size]? = some (.cells #[.string m.f0, .slice Am m.f1.length cm] 41 (0, 0))) ∧ Aside0 (Below w.heap.size w wc))
  case first =>
    obtain ⟨w0, hw0⟩ : ∃ x : World, x = (w.alloc (.cells #[.string m.f0, .slice Am m.f1.length cm] 41)).alloc (.cells #[.string n.f0, .slice Bm n.f1.length cn] 41) := ⟨_, rfl⟩
    rw [← hw0]
    have hbf : w0.heap[w.heap.size]? = some (.cells #[.string m.f0, .slice Am m.f1.length cm] 41 (0, 0)) := by rw [hw0]; exact alloc_old (alloc_at _ _) _
    have hbg : w0.heap[w.heap.size + 1]? = some (.cells #[.string n.f0, .slice Bm n.f1.length cn] 41 (0, 0)) := by rw [hw0]; simpa using alloc_at (w.alloc _) (.cells #[.string n.f0, .slice Bm n.f1.length cn] 41)
    have HW0 := Aside0.mk (show Below w.heap.size w w0 by rw [hw0]; exact below_alloc' (below_alloc' (Below.refl _ _) _) _)
    clear hw0
    have c0 := cellOf hbf 0
    have c1 := cellOf hbf 1
    have d0 := cellOf hbg 0
    have d1 := cellOf hbg 1
    simp only [List.getElem?_toArray, List.getElem?_cons_zero, List.getElem?_cons_succ] at c0 c1 d0 d1
    have HBF := Aside0.mk hbf
    have HBG := Aside0.mk hbg
    clear hbf hbg
    have L1 := Aside0.mk (show m.f1.length ≤ 1000000 from by have := FM.out.1; omega)
    have L2 := Aside0.mk (show n.f1.length ≤ 1000000 from by have := FN.out.1; omega)
    have HBW : Aside0 (Below w0.heap.size w0 w0.drew) := ⟨(Below.refl _ _).drew⟩
    go_region_held3 (fun W => Aside0 (Below w0.heap.size w0 W) ∧ W.cell? ⟨w.heap.size, 0, none⟩ = some (.string m.f0) ∧ W.cell? ⟨w.heap.size, 1, none⟩ = some (.slice Am m.f1.length cm) ∧
        W.cell? ⟨w.heap.size + 1, 0, none⟩ = some (.string n.f0) ∧ W.cell? ⟨w.heap.size + 1, 1, none⟩ = some (.slice Bm n.f1.length cn))
        (first | ((repeat' apply And.intro) <;> (first | assumption | (go_keep; done) | exact ⟨below_alloc' (Aside0.out (by assumption)) _⟩)))
        (first
          | (go_at_call 28; (with_reducible refine (by_calls m Am cm _ ?hA FM.out.wf L1.out).mono ?_); (case hA => exact Kd.C_below HM.out (HW0.out.trans (Below.mono (Aside0.out (by assumption)) HW0.out.size))); rintro e w2 ⟨bx, Dx, rfl, hbx, hox, hdx, hb2⟩; have BX := Aside0.mk hbx; have OX := Aside0.mk hox; have DX := Aside0.mk hdx; have LX := Aside0.mk hb2; clear hbx hox hdx hb2; have qf0 := pw_cell_below LX.out (a := ⟨w.heap.size, 0, none⟩) (v := .string m.f0) (by assumption); have qf1 := pw_cell_below LX.out (a := ⟨w.heap.size, 1, none⟩) (v := .slice Am m.f1.length cm) (by assumption); have qg0 := pw_cell_below LX.out (a := ⟨w.heap.size + 1, 0, none⟩) (v := .string n.f0) (by assumption); have qg1 := pw_cell_below LX.out (a := ⟨w.heap.size + 1, 1, none⟩) (v := .slice Bm n.f1.length cn) (by assumption); have qb : Aside0 (Below w0.heap.size w0 w2) := ⟨Below.trans (Aside0.out (by assumption)) (Below.mono LX.out (Aside0.out (p := Below w0.heap.size w0 _) (by assumption)).size)⟩)
          | (go_at_call 28; (with_reducible refine (by_calls n Bm cn _ ?hA FN.out.wf L2.out).mono ?_); (case hA => exact Kd.C_below HN.out (HW0.out.trans (Below.mono (Aside0.out (by assumption)) HW0.out.size))); rintro e w2 ⟨bx, Dx, rfl, hbx, hox, hdx, hb2⟩; have BY := Aside0.mk hbx; have OY := Aside0.mk hox; have DY := Aside0.mk hdx; have LY := Aside0.mk hb2; clear hbx hox hdx hb2; have qf0 := pw_cell_below LY.out (a := ⟨w.heap.size, 0, none⟩) (v := .string m.f0) (by assumption); have qf1 := pw_cell_below LY.out (a := ⟨w.heap.size, 1, none⟩) (v := .slice Am m.f1.length cm) (by assumption); have qg0 := pw_cell_below LY.out (a := ⟨w.heap.size + 1, 0, none⟩) (v := .string n.f0) (by assumption); have qg1 := pw_cell_below LY.out (a := ⟨w.heap.size + 1, 1, none⟩) (v := .slice Bm n.f1.length cn) (by assumption); have qb : Aside0 (Below w0.heap.size w0 w2) := ⟨Below.trans (Aside0.out (by assumption)) (Below.mono LY.out (Aside0.out (p := Below w0.heap.size w0 _) (by assumption)).size)⟩))
    · go_wp2_with fail
      have QB : Below w0.heap.size w0 w2 := Aside0.out (by assumption)
      go_meet
      case rel =>
        refine ⟨_, _, _, _, rfl, rfl, ⟨?_⟩, ⟨?_⟩, DX, DY, ⟨?_⟩, ⟨?_⟩, ⟨heap_below QB (Nat.le_refl _) HBF.out⟩, ⟨HW0.out.trans (QB.mono HW0.out.size)⟩⟩
        · first | exact OX.out | exact OX.out.kept (grown_of_below LY.out none) (by simp)
        · first | exact OY.out | exact OY.out.kept (grown_of_below LX.out none) (by simp)
        · have := OX.out.lt; have := OY.out.lt; have := BX.out; have := BY.out; omega
        · have := heap_lt HBG.out; have := QB.size; omega
  case rest =>
    obtain ⟨bx, by', Dx, Dy, rfl, rfl, OX, OY, DX, DY, NE, SZ, BF, BW⟩ := hcut
    go_wp2_with (first
      | (go_at_call 29; refine (clone_calls bx _ Dx _ OX.out).mono ?_; rintro e w1 ⟨rfl, ho1, ho2, hb1⟩; have O1 := Aside0.mk ho1; have O2 := Aside0.mk ho2; have B1 := Aside0.mk hb1; clear ho1 ho2 hb1)
      | (go_at_call 30; refine (copy_calls wc.heap.size by' _ _ Dx Dy _ O1.out (OY.out.kept (grown_of_below B1.out none) (by simp)) (by have := OY.out.lt; omega) (by have := World.ownsMap.size_le OY.out; have := FM.out.1; have := FN.out.1; unfold maxLen; omega)).mono ?_; rintro e w2 ⟨rfl, ⟨Dout, hod, hM⟩, hoy2, hg2⟩; have OD := Aside0.mk hod; have MM := Aside0.mk hM; have OY2 := Aside0.mk hoy2; have G2 := Aside0.mk hg2; clear hod hM hoy2 hg2)
      | (go_at_call 32; refine (keys_calls wc.heap.size _).mono ?_; rintro e w3 ⟨rfl, rfl⟩)
      | (go_at_call 31; (refine (sorted_calls wc.heap.size _ Dout w2 OD.out (by have := World.ownsMap.size_le OD.out; have := World.ownsMap.size_le OY.out; have := FM.out.1; have := FN.out.1; omega)).mono ?_); (rintro e w4 ⟨v, ss, rfl, hp, hrow, hb4⟩); (have hkn := keys_numsOf m n OD.out OX.out OY.out MM.out DX.out DY.out (fits_wf FM.out FN.out) hp); (rw [hkn] at hrow); (have hsl : ss.length = (numsOf m n).length := by rw [← hkn]; exact (List.length_mergeSort _).symm); (rw [hsl] at hrow); (obtain ⟨As, cs, rfl, hat⟩ := ints_at rfl hrow);  have AT := Aside0.mk hat; have B4 := Aside0.mk hb4; clear hat hb4 hrow hkn hp))
    have OX4 : Aside0 (OwnF w4 bx m.f1.length Dx) := ⟨(O2.out.kept G2.out (by have := OX.out.lt; intro e; cases e; omega)).kept (grown_of_below B4.out none) (by simp)⟩
    have OY4 : Aside0 (OwnF w4 by' n.f1.length Dy) := ⟨OY2.out.kept (grown_of_below B4.out none) (by simp)⟩
    have BF4 := Aside0.mk (heap_below B4.out (Nat.le_refl _) (heap_grown G2.out (heap_below B1.out (Nat.le_refl _) BF.out) (by have := SZ.out; omega)))
    have B2 : Below w.heap.size w w2 := (BW.out.trans (B1.out.mono BW.out.size)).grown G2.out (BW.out.trans (B1.out.mono BW.out.size)).size (fun j hj => by cases hj; have := SZ.out; omega)
    have BW4 : Aside0 (Below w.heap.size w w4) := ⟨B2.trans (B4.out.mono B2.size)⟩
    have NL := Aside0.mk (show (numsOf m n).length ≤ 400 from by have := numsOf_len m n; have := FM.out.1; have := FN.out.1; omega)
    clear OX OY O1 O2 OD MM OY2 G2 B1 B4 B2 BF BW SZ NE hsl
    go_loopg [9, 32] (numsOf m n).length (fun kq v9 v32 wr => ∃ k : Nat, v32 = .int .i64 k ∧ k ≤ (numsOf m n).length ∧ (numsOf m n).length - k ≤ kq ∧ Aside0 (Kd.R k47 47 wr w4.heap.size (fun _ => True) v9 (((numsOf m n).take k).flatMap (oneCh a b m n))) ∧ Aside0 (Below w4.heap.size w4 wr))
    case atStart => exact ⟨0, rfl, by omega, by omega, ⟨Kd.R_nil _ _ _ _ _⟩, ⟨Below.refl _ _⟩⟩
    case round =>
      obtain ⟨k, rfl, hk, hg4, HO, HBc⟩ := hrel
      by_cases hlt : k < (numsOf m n).length
      · have hlt' : (k : Int) < (numsOf m n).length := by omega
        have hkm := NL.out
        obtain ⟨ad, e, y0⟩ := AT.out k hlt
        cases e
        replace y0 := pw_cell_below HBc.out y0
        have HT := Aside0.mk (show (numsOf m n).take (k + 1) = (numsOf m n).take k ++ [(numsOf m n).getD k 0] from by rw [List.take_add_one]; simp [List.getElem?_eq_getElem hlt])
        have HWF := Aside0.mk (show (Lit.int .i64 ((numsOf m n).getD k 0)).wf = true from by
          have := numsOf_mem (m := m) (n := n) (k := (numsOf m n).getD k 0) (by simp [List.getD, List.getElem?_eq_getElem hlt])
          rw [List.map_append, List.mem_append, List.mem_map, List.mem_map] at this
          rcases this with ⟨f, hf, e⟩ | ⟨f, hf, e⟩
          · rw [← e]; exact usable_wf (FM.out.2 f hf).1
          · rw [← e]; exact usable_wf (FN.out.2 f hf).1)
        obtain ⟨num, hnum⟩ : ∃ x, x = (numsOf m n).getD k 0 := ⟨_, rfl⟩
        rw [← hnum] at y0 HT HWF
        clear hnum
        have c0 := cellOf (heap_below HBc.out (Nat.le_refl _) BF4.out) 0
        simp only [List.getElem?_toArray, List.getElem?_cons_zero, List.getElem?_cons_succ] at c0
        have hs0 : w.heap.size < wr.heap.size := heap_lt (heap_below HBc.out (Nat.le_refl _) BF4.out)
        have HL := Aside0.mk (show (((numsOf m n).take k).flatMap (oneCh a b m n)).length ≤ 1600 from by have := fm_len (oneCh a b m n) 4 (oneCh_len a b m n) ((numsOf m n).take k); have h2 : ((numsOf m n).take k).length ≤ 400 := (by rw [List.length_take]; omega); omega)
        cases hX : byF m.f1 num with
        | none =>
          cases hY : byF n.f1 num with
          | none =>
            have HX := Aside0.mk hX
            have HY := Aside0.mk hY
            have hX' : fget Dx num = none := by rw [DX.out]; exact hX
            have hY' : fget Dy num = none := by rw [DY.out]; exact hY
            clear hX hY
            have OX5 := Aside0.mk (World.ownsMap.alloc (OX4.out.kept (grown_of_below HBc.out none) (by simp)) (.cells #[.string ⟨#[]⟩, .int .i64 0, .int .i64 0, .bool false, .bool false, .int .i64 0] 38))
            have OX6 := Aside0.mk (OX4.out.kept (grown_of_below HBc.out none) (by simp))
            have OY5 := Aside0.mk (World.ownsMap.alloc (OY4.out.kept (grown_of_below HBc.out none) (by simp)) (.cells #[.string ⟨#[]⟩, .int .i64 0, .int .i64 0, .bool false, .bool false, .int .i64 0] 38))
            have HO2 := Aside0.mk (Kd.R_alloc (Kd.R_alloc HO.out (.cells #[.string ⟨#[]⟩, .int .i64 0, .int .i64 0, .bool false, .bool false, .int .i64 0] 38)) (.cells #[.string ⟨#[]⟩, .int .i64 0, .int .i64 0, .bool false, .bool false, .int .i64 0] 38))
            have HBc2 := Aside0.mk (below_alloc' (below_alloc' HBc.out (.cells #[.string ⟨#[]⟩, .int .i64 0, .int .i64 0, .bool false, .bool false, .int .i64 0] 38)) (.cells #[.string ⟨#[]⟩, .int .i64 0, .int .i64 0, .bool false, .bool false, .int .i64 0] 38))
            go_wp2_with (first | (refine wpList_lookF_none _ rfl (.tmp 37) (.tmp 38) rfl _ _ Dx rfl OX6.out _ rfl HWF.out hX' ?_) | (refine wpList_lookF_none _ rfl (.tmp 43) (.tmp 44) rfl _ _ Dy rfl OY5.out _ rfl HWF.out hY' ?_) | (at_builtin; (refine Kd.R_append k47 (w0 := w4) (W := ((wr.alloc (.cells #[.string ⟨#[]⟩, .int .i64 0, .int .i64 0, .bool false, .bool false, .int .i64 0] 38)).alloc (.cells #[.string ⟨#[]⟩, .int .i64 0, .int .i64 0, .bool false, .bool false, .int .i64 0] 38))) w4.heap.size rfl (.tmp 60) (.tmp 68) 42 47 _ 128 rfl Try.underlying42 info47 rfl (by decide) (by decide) _ (((numsOf m n).take k).flatMap (oneCh a b m n)) ⟨⟨3, m.f0, num⟩, z38, z38⟩ [.int .i64 3, .string m.f0, .int .i64 num, .string ⟨#[]⟩, .int .i64 0, .int .i64 0, .bool false, .bool false, .int .i64 0, .string ⟨#[]⟩, .int .i64 0, .int .i64 0, .bool false, .bool false, .int .i64 0] (fun _ => True) (fun _ => False) rfl (by first | (go_simp; done) | (go_simp; rfl)) (k47_mkM _ _ _ _) (fun _ h => h.elim) (fun _ _ => trivial) HO2.out HBc2.out HBc2.out.size (by have := HL.out; omega) ?_); intro v1 w1 ho1 hb1 hg1 ha1))
            go_roundg ((numsOf m n).length - (k + 1))
            case measure => omega
            case rel =>
              refine ⟨k + 1, by go_num, by omega, by omega, ⟨?_⟩, ⟨hb1⟩⟩
              rw [HT.out, List.flatMap_append, List.flatMap_singleton, show oneCh a b m n num = [⟨⟨3, m.f0, num⟩, z38, z38⟩] from by unfold oneCh; rw [HX.out, HY.out]; try rfl]
              exact ho1
          | some g =>
            have HX := Aside0.mk hX
            have HY := Aside0.mk hY
            have hX' : fget Dx num = none := by rw [DX.out]; exact hX
            have hY' : fget Dy num = some g := by rw [DY.out]; exact hY
            clear hX hY
            have OX5 := Aside0.mk (World.ownsMap.alloc (OX4.out.kept (grown_of_below HBc.out none) (by simp)) (.cells #[.string ⟨#[]⟩, .int .i64 0, .int .i64 0, .bool false, .bool false, .int .i64 0] 38))
            have OX6 := Aside0.mk (OX4.out.kept (grown_of_below HBc.out none) (by simp))
            have OY5 := Aside0.mk (World.ownsMap.alloc (OY4.out.kept (grown_of_below HBc.out none) (by simp)) (.cells #[.string ⟨#[]⟩, .int .i64 0, .int .i64 0, .bool false, .bool false, .int .i64 0] 38))
            have HO2 := Aside0.mk (Kd.R_alloc (Kd.R_alloc HO.out (.cells #[.string ⟨#[]⟩, .int .i64 0, .int .i64 0, .bool false, .bool false, .int .i64 0] 38)) (.cells #[.string g.f0, .int .i64 g.f1, .int .i64 g.f2, .bool g.f3, .bool g.f4, .int .i64 g.f5] 38))
            have HBc2 := Aside0.mk (below_alloc' (below_alloc' HBc.out (.cells #[.string ⟨#[]⟩, .int .i64 0, .int .i64 0, .bool false, .bool false, .int .i64 0] 38)) (.cells #[.string g.f0, .int .i64 g.f1, .int .i64 g.f2, .bool g.f3, .bool g.f4, .int .i64 g.f5] 38))
            go_wp2_with (first | (refine wpList_lookF_none _ rfl (.tmp 37) (.tmp 38) rfl _ _ Dx rfl OX6.out _ rfl HWF.out hX' ?_) | (refine wpList_lookF_some _ rfl (.tmp 43) (.tmp 44) rfl _ _ Dy rfl OY5.out _ rfl HWF.out g hY' ?_) | (at_builtin; (refine Kd.R_append k47 (w0 := w4) (W := ((wr.alloc (.cells #[.string ⟨#[]⟩, .int .i64 0, .int .i64 0, .bool false, .bool false, .int .i64 0] 38)).alloc (.cells #[.string g.f0, .int .i64 g.f1, .int .i64 g.f2, .bool g.f3, .bool g.f4, .int .i64 g.f5] 38))) w4.heap.size rfl (.tmp 73) (.tmp 81) 42 47 _ 128 rfl Try.underlying42 info47 rfl (by decide) (by decide) _ (((numsOf m n).take k).flatMap (oneCh a b m n)) ⟨⟨4, m.f0, num⟩, z38, g⟩ [.int .i64 4, .string m.f0, .int .i64 num, .string ⟨#[]⟩, .int .i64 0, .int .i64 0, .bool false, .bool false, .int .i64 0, .string g.f0, .int .i64 g.f1, .int .i64 g.f2, .bool g.f3, .bool g.f4, .int .i64 g.f5] (fun _ => True) (fun _ => False) rfl (by first | (go_simp; done) | (go_simp; rfl)) (k47_mkM _ _ _ _) (fun _ h => h.elim) (fun _ _ => trivial) HO2.out HBc2.out HBc2.out.size (by have := HL.out; omega) ?_); intro v1 w1 ho1 hb1 hg1 ha1))
            go_roundg ((numsOf m n).length - (k + 1))
            case measure => omega
            case rel =>
              refine ⟨k + 1, by go_num, by omega, by omega, ⟨?_⟩, ⟨hb1⟩⟩
              rw [HT.out, List.flatMap_append, List.flatMap_singleton, show oneCh a b m n num = [⟨⟨4, m.f0, num⟩, z38, g⟩] from by unfold oneCh; rw [HX.out, HY.out]; try rfl]
              exact ho1
        | some f =>
          cases hY : byF n.f1 num with
          | none =>
            have HX := Aside0.mk hX
            have HY := Aside0.mk hY
            have hX' : fget Dx num = some f := by rw [DX.out]; exact hX
            have hY' : fget Dy num = none := by rw [DY.out]; exact hY
            clear hX hY
            have OX5 := Aside0.mk (World.ownsMap.alloc (OX4.out.kept (grown_of_below HBc.out none) (by simp)) (.cells #[.string f.f0, .int .i64 f.f1, .int .i64 f.f2, .bool f.f3, .bool f.f4, .int .i64 f.f5] 38))
            have OX6 := Aside0.mk (OX4.out.kept (grown_of_below HBc.out none) (by simp))
            have OY5 := Aside0.mk (World.ownsMap.alloc (OY4.out.kept (grown_of_below HBc.out none) (by simp)) (.cells #[.string f.f0, .int .i64 f.f1, .int .i64 f.f2, .bool f.f3, .bool f.f4, .int .i64 f.f5] 38))
            have HO2 := Aside0.mk (Kd.R_alloc (Kd.R_alloc HO.out (.cells #[.string f.f0, .int .i64 f.f1, .int .i64 f.f2, .bool f.f3, .bool f.f4, .int .i64 f.f5] 38)) (.cells #[.string ⟨#[]⟩, .int .i64 0, .int .i64 0, .bool false, .bool false, .int .i64 0] 38))
            have HBc2 := Aside0.mk (below_alloc' (below_alloc' HBc.out (.cells #[.string f.f0, .int .i64 f.f1, .int .i64 f.f2, .bool f.f3, .bool f.f4, .int .i64 f.f5] 38)) (.cells #[.string ⟨#[]⟩, .int .i64 0, .int .i64 0, .bool false, .bool false, .int .i64 0] 38))
            go_wp2_with (first | (refine wpList_lookF_some _ rfl (.tmp 37) (.tmp 38) rfl _ _ Dx rfl OX6.out _ rfl HWF.out f hX' ?_) | (refine wpList_lookF_none _ rfl (.tmp 43) (.tmp 44) rfl _ _ Dy rfl OY5.out _ rfl HWF.out hY' ?_) | (at_builtin; (refine Kd.R_append k47 (w0 := w4) (W := ((wr.alloc (.cells #[.string f.f0, .int .i64 f.f1, .int .i64 f.f2, .bool f.f3, .bool f.f4, .int .i64 f.f5] 38)).alloc (.cells #[.string ⟨#[]⟩, .int .i64 0, .int .i64 0, .bool false, .bool false, .int .i64 0] 38))) w4.heap.size rfl (.tmp 60) (.tmp 68) 42 47 _ 128 rfl Try.underlying42 info47 rfl (by decide) (by decide) _ (((numsOf m n).take k).flatMap (oneCh a b m n)) ⟨⟨3, m.f0, num⟩, f, z38⟩ [.int .i64 3, .string m.f0, .int .i64 num, .string f.f0, .int .i64 f.f1, .int .i64 f.f2, .bool f.f3, .bool f.f4, .int .i64 f.f5, .string ⟨#[]⟩, .int .i64 0, .int .i64 0, .bool false, .bool false, .int .i64 0] (fun _ => True) (fun _ => False) rfl (by first | (go_simp; done) | (go_simp; rfl)) (k47_mkM _ _ _ _) (fun _ h => h.elim) (fun _ _ => trivial) HO2.out HBc2.out HBc2.out.size (by have := HL.out; omega) ?_); intro v1 w1 ho1 hb1 hg1 ha1))
            go_roundg ((numsOf m n).length - (k + 1))
            case measure => omega
            case rel =>
              refine ⟨k + 1, by go_num, by omega, by omega, ⟨?_⟩, ⟨hb1⟩⟩
              rw [HT.out, List.flatMap_append, List.flatMap_singleton, show oneCh a b m n num = [⟨⟨3, m.f0, num⟩, f, z38⟩] from by unfold oneCh; rw [HX.out, HY.out]; try rfl]
              exact ho1
          | some g =>
            have HX := Aside0.mk hX
            have HY := Aside0.mk hY
            have hX' : fget Dx num = some f := by rw [DX.out]; exact hX
            have hY' : fget Dy num = some g := by rw [DY.out]; exact hY
            clear hX hY
            have HFf := Aside0.mk (fm_ofok FM.out HX.out)
            have HFg := Aside0.mk (fm_ofok FN.out HY.out)
            have OX5 := Aside0.mk (World.ownsMap.alloc (OX4.out.kept (grown_of_below HBc.out none) (by simp)) (.cells #[.string f.f0, .int .i64 f.f1, .int .i64 f.f2, .bool f.f3, .bool f.f4, .int .i64 f.f5] 38))
            have OX6 := Aside0.mk (OX4.out.kept (grown_of_below HBc.out none) (by simp))
            have OY5 := Aside0.mk (World.ownsMap.alloc (OY4.out.kept (grown_of_below HBc.out none) (by simp)) (.cells #[.string f.f0, .int .i64 f.f1, .int .i64 f.f2, .bool f.f3, .bool f.f4, .int .i64 f.f5] 38))
            have HO2 := Aside0.mk (Kd.R_alloc (Kd.R_alloc HO.out (.cells #[.string f.f0, .int .i64 f.f1, .int .i64 f.f2, .bool f.f3, .bool f.f4, .int .i64 f.f5] 38)) (.cells #[.string g.f0, .int .i64 g.f1, .int .i64 g.f2, .bool g.f3, .bool g.f4, .int .i64 g.f5] 38))
            have HBc2 := Aside0.mk (below_alloc' (below_alloc' HBc.out (.cells #[.string f.f0, .int .i64 f.f1, .int .i64 f.f2, .bool f.f3, .bool f.f4, .int .i64 f.f5] 38)) (.cells #[.string g.f0, .int .i64 g.f1, .int .i64 g.f2, .bool g.f3, .bool g.f4, .int .i64 g.f5] 38))
            go_wp2_with (first
              | (refine wpList_lookF_some _ rfl (.tmp 37) (.tmp 38) rfl _ _ Dx rfl OX6.out _ rfl HWF.out f hX' ?_)
              | (refine wpList_lookF_some _ rfl (.tmp 43) (.tmp 44) rfl _ _ Dy rfl OY5.out _ rfl HWF.out g hY' ?_)
              | (go_at_call 33; (refine (field_calls a b A B ca cb m.f0 f g _ (Kd.C_below HA.out (BW4.out.trans (HBc2.out.mono BW4.out.size))) (Kd.C_below HB.out (BW4.out.trans (HBc2.out.mono BW4.out.size))) HFf.out HFg.out).mono ?_); (rintro e w5 ⟨v5, rfl, hr5, hb5⟩); (obtain ⟨A5, c5, rfl, hl5, hC5⟩ := Kd.R_reads hr5); have C5 := Aside0.mk hC5; have B5 := Aside0.mk hb5; clear hC5 hb5 hr5)
              | (at_builtin; (refine Kd.R_append_rows k47 (w0 := w4) w4.heap.size rfl (.tmp 48) (.tmp 55) 42 47 _ 128 rfl Try.underlying42 info47 rfl (by decide) (by decide) _ (((numsOf m n).take k).flatMap (oneCh a b m n)) (fieldCh a b m.f0 f g) _ _ _ (fun _ => True) (fun _ => False) rfl rfl (Kd.R_below HO2.out B5.out) C5.out (k47_KM _ _ _) (fun _ h => h.elim) (fun _ _ => trivial) (HBc2.out.trans (B5.out.mono HBc2.out.size)) (HBc2.out.trans (B5.out.mono HBc2.out.size)).size (by have := HL.out; have := fieldCh_len a b m.f0 f g; omega) ?_); intro v1 w1 ho1 hb1 hg1 ha1))
            go_roundg ((numsOf m n).length - (k + 1))
            case measure => omega
            case rel =>
              refine ⟨k + 1, by go_num, by omega, by omega, ⟨?_⟩, ⟨hb1⟩⟩
              rw [HT.out, List.flatMap_append, List.flatMap_singleton, show oneCh a b m n num = fieldCh a b m.f0 f g from by unfold oneCh; rw [HX.out, HY.out]]
              exact ho1
      · obtain rfl : k = (numsOf m n).length := by omega
        go_wp2
        go_ret
        exact ⟨_, rfl, by simpa [fieldsCh] using Kd.R_lower HO.out BW4.out.size, BW4.out.trans (HBc.out.mono BW4.out.size)⟩
end Go.Proofs.Ytdkhmnmngokmmaa.Ev
