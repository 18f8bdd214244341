/- maps.Clone, maps.Copy, and the sorted keys, at maps of fields by numbers. -/
import Derived.Test.YtdkhmnmngokmmaaEv1
namespace Go.Proofs.Ytdkhmnmngokmmaa.Ev
open Go.RowKit Go.Maps Go.Proofs.Ytdkhmnmngokmmaa.B Go.Proofs.Ytdkhmnmngokmmaa.K Go.Proofs.Ytdkhmnmngokmmaa.Spec Go.Proofs.Ytdkhmnmngokmmaa.Sch Go.Proofs.YtdkhmnmngokmmaaW.PrintWords
set_option linter.unusedVariables false
set_option linter.unusedSimpArgs false

theorem clone_calls (b n : Nat) (D : DataW Fld) (w : World) (h : OwnF w b n D) :
    Calls Try.prog 29 #[.map (some b)] w fun e w' => e = .returned (.map (some w.heap.size)) ∧ OwnF w' w.heap.size n D ∧ OwnF w' b n D ∧ Below w.heap.size w w' :=
  AnyW.maps_Clone_owns Try.cloneA 3 hvF b n D w h

set_option maxHeartbeats 4000000 in
set_option maxRecDepth 100000 in
theorem copy_calls (bd bs nd ns : Nat) (Dd Ds : DataW Fld) (w : World) (hd : OwnF w bd nd Dd) (hs : OwnF w bs ns Ds) (hne : bd ≠ bs) (hroom : nd + Maps.size Ds ≤ maxLen) :
    Calls Try.prog 30 #[.map (some bd), .map (some bs)] w fun e w' => e = .returned (.tuple #[]) ∧ (∃ Dout, OwnF w' bd (nd + Maps.size Ds) Dout ∧ Merged Dout Dd Ds (fun _ => false)) ∧ OwnF w' bs ns Ds ∧ w.grownBy w' (some bd) := by
  have hbd := hd.lt
  have hbs := hs.lt
  have hu2 := Try.underlying38
  go_enter Try.func30, Try.ntmps30
  go_wp2_with (first
    | (at_range; refine wpList_range_own _ rfl _ 67 rfl 3 38 lawInt Try.underlying67 hvF bs ns _ rfl hs ?_; intro w0 hrg0 hg0 hs0)
    | go_in)
  go_frame
  go_loopw [8] (fun _ wr => ∃ (left : Lit → Bool) (cnt : Nat) (Dout : DataW Fld), wr.ranges Try.prog 3 hvF bs w.heap.size ns Ds left cnt ∧ cnt ≤ Maps.size Ds ∧
      OwnF wr bd (nd + (Maps.size Ds - cnt)) Dout ∧ Merged Dout Dd Ds left ∧ w.grownBy wr (some bd))
    (fun _ wr => wr.rangeLeft bs w.heap.size)
  case atStart =>
    exact ⟨_, _, Dd, hrg0, Nat.le_refl _, (World.ownsMap.kept hd hg0 (by simp)).mono (by omega), merged_start Dd Ds, hg0.but _⟩
  case round =>
    obtain ⟨left, cnt, Dout, hrg, hcs, hout, hM, hgw⟩ := hrel
    go_wp2_with (first
      | (at_next; refine wpList_next_ranges _ rfl _ rfl 3 lawInt hvF (Value.int .i64) fldV (fun key _ hk => by obtain ⟨x, hx, _⟩ := Maps.keyOf_i64 Try.underlying3 hk; exact ⟨x, hx⟩) (fun v _ hv => by obtain ⟨f, hf, _⟩ := hvF_inv hv; exact ⟨f, hf⟩) bs w.heap.size ns _ _ _ rfl hrg ?_ ?_)
      | go_in)
    · intro hc0 hl0
      go_wp2
      go_end0
      subst hc0
      exact ⟨rfl, ⟨Dout, by simpa using hout, by rw [show (fun _ => false) = left from funext fun k => (hl0 k).symm]; exact hM⟩, hrg.owns, hgw⟩
    · intro x f kl yd yp w1 cnt1 hkey hlx hv hat hrg1 hlt hg1 hs1 hen
      obtain ⟨x', hx', hkl, hwx⟩ := Maps.keyOf_i64 Try.underlying3 hkey
      have hout1 := World.ownsMap.alloc (World.ownsMap.kept hout hg1 (fun e => by have := Option.some.inj e; omega)) (.cells #[.string f.f0, .int .i64 f.f1, .int .i64 f.f2, .bool f.f3, .bool f.f4, .int .i64 f.f5] 38)
      have hga := World.grownBy_alloc w1 (.cells #[.string f.f0, .int .i64 f.f1, .int .i64 f.f2, .bool f.f3, .bool f.f4, .int .i64 f.f5] 38) none
      have hrgA := hrg1.kept hga (by simp) (by simp)
      have Hout1 := Aside0.mk hout1
      have Hga := Aside0.mk hga
      have HrgA := Aside0.mk hrgA
      have Hkey := Aside0.mk hkey
      have Hv := Aside0.mk hv
      have Hg1 := Aside0.mk hg1
      rw [fldV] at hen
      clear hout1 hga hrgA hkey hv hrg1 hg1 hkl hx'
      go_wp2_with (first
        | (at_mapUpdate; refine wpList_mapUpdate_own _ rfl _ _ _ 67 rfl 3 38 lawInt Try.underlying67 hvF bd _ _ rfl Hout1.out (by omega) _ _ kl rfl rfl Hkey.out yd yp Hv.out ?_; intro w2 hout2 hg2; go_frame)
        | go_in)
      have hrg2 := HrgA.out.kept hg2 (fun e => hne (Option.some.inj e).symm) (fun e => by have := Option.some.inj e; omega)
      go_roundw
      case rel =>
        refine ⟨_, cnt1, _, hrg2, by omega, hout2.mono (by omega), merged_step hM (OwnF.isMap hout) (lawInt.key Hkey.out) hat, ((hgw.andThen Hg1.out (fun j hj => .inl (by cases hj; exact Nat.le_refl _))).andThen Hga.out (fun j hj => by cases hj)).andThen hg2 (fun j hj => .inr hj)⟩
      case measure => rw [hrg2.left_eq, hrg.left_eq]; exact hlt

open Go.Sort in
theorem sorts (m : Nat) : AnyZI.SortsIn Try.prog Try.sortedA_ren Fence.wide m :=
  ⟨fun blk off cap ss W hH hblk hsz => callsIn_wide.2 (AnyM.slices_Sort_int Try.sortA blk off cap ss W hH hblk hsz),
   fun p cap W => callsIn_wide.2 (AnyM.slices_Sort_int_none Try.sortA p cap W)⟩
theorem keys_calls (b : Nat) (W : World) : Calls Try.prog 32 #[.map (some b)] W fun e w' =>
    e = .returned (.func (.func 41) #[] #[.pointer (some ⟨W.heap.size, 0, none⟩)]) ∧ w' = W.alloc (.cells #[.map (some b)] 67) :=
  (callsIn_wide (n := 5)).1 (AnyZI.keys_in Try.keysA Fence.wide 5 trivial rfl (some b) W)
open Go.Sort in
theorem sorted_calls (b nn : Nat) (D0 : DataW Fld) (w : World) (hown : OwnF w b nn D0) (hmax : Maps.size D0 ≤ 1000000) :
    Calls Try.prog 31 #[.func (.func 41) #[] #[.pointer (some ⟨w.heap.size, 0, none⟩)]] (w.alloc (.cells #[.map (some b)] 67)) fun e w' =>
      ∃ (v : Value) (ss : List Int), e = .returned v ∧ ss.Perm (intKeys D0) ∧ w'.ownsRow (w.heap.size + 1) 3 1 v ss.length (nums .i64 (ss.mergeSort (fun x y => decide (x ≤ y)))) ∧ Below w.heap.size w w' := by
  have hbl := hown.lt
  have hseq : SeqGives Fence.wide 2 Try.prog 41 #[.pointer (some ⟨w.heap.size, 0, none⟩)] encZ (fun ss => ss.Perm (intKeys D0)) (Maps.size D0) (w.alloc (.cells #[.map (some b)] 67)) :=
    AnyZI.keys_gives (ρ := Try.keysA_ren) { Try.keysA with } Fence.wide _ trivial rfl (by omega) w.heap.size b nn D0 _ (by simp) (by simp) (World.ownsMap.alloc hown _)
  have cS := AnyZI.sorted_in Try.sortedA Fence.wide 5 trivial trivial trivial trivial rfl (by omega) (sorts _) (enters_of Try.func40 (by kernel_rfl) rfl) 41 #[.pointer (some ⟨w.heap.size, 0, none⟩)] trivial (enters_of Try.func41 (by kernel_rfl) rfl) _ _ (by unfold maxLen; omega) (by omega) _ hseq
  refine ((callsIn_wide (n := 5)).1 cS).mono ?_
  rintro e w' ⟨v, ss, he, hS, hrow, hnil, hb⟩
  refine ⟨v, ss, he, hS, ?_, (below_alloc' (Below.refl _ w) _).trans (hb.mono (by simp))⟩
  change w'.ownsRow _ 3 1 v ss.length _ at hrow
  simpa [nums, encZ] using hrow
end Go.Proofs.Ytdkhmnmngokmmaa.Ev
