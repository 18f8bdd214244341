/- Contracts of schema.Right, and of schema.Message with the search behind it. -/
import Derived.Test.YtdkhmnmngokmmaaChk
import Derived.Deep.QuietTactic
import Derived.Shelf.Abstract
namespace Go.Proofs.Ytdkhmnmngokmmaa.Sch
open Go.RowKit Go.Maps Go.Proofs.Ytdkhmnmngokmmaa.B Go.Proofs.Ytdkhmnmngokmmaa.K Go.Proofs.Ytdkhmnmngokmmaa.Spec Go.Proofs.YtdkhmnmngokmmaaW.PrintWords
set_option linter.unusedVariables false
set_option linter.unusedSimpArgs false

/-- All names of a schema are strings that lie in memory. -/
def Sized (s : List Msg) : Prop := ∀ i : Nat, i < s.length → (rd_T41 s i).f0.size ≤ 9223372036854775807 ∧ ∀ k : Nat, k < (rd_T41 s i).f1.length → (rd_T38 (rd_T41 s i).f1 k).f0.size ≤ 9223372036854775807
set_option maxHeartbeats 4000000 in
theorem right_calls (A : Option Addr) (c : Nat) (s : List Msg) (w : World) (hr : Kd.C k41 w A s.length s) (hc : s.length ≤ c) (hz : Sized s) :
    Calls Try.prog 20 #[.slice A s.length c] w fun e w' => e = .returned (.bool (right s)) ∧ Below w.heap.size w w' := by
  have hcall := check_calls A c s w hr hc hz
  clear hr hz hc
  go_enter Try.func20, Try.ntmps20
  go_upto_region 2 with (go_at_call 25; refine hcall.mono ?_; rintro e w2 ⟨a, b, d, code, rfl, hcd, hb⟩)
  have HB := Aside0.mk hb
  clear hb hcall
  rcases hcd with ⟨hR, rfl⟩ | ⟨hR, rfl⟩
  · have H := Aside0.mk hR
    clear hR
    go_wp2
    go_ret
    exact ⟨ret_bool H.out.symm, below_alloc' HB.out _⟩
  · have H := Aside0.mk hR
    clear hR
    go_wp2
    go_ret
    exact ⟨ret_bool H.out.symm, below_alloc' HB.out _⟩

/-- The place of the message of a name. -/
def findM (s : List Msg) (n : ByteArray) : Option Nat := s.findIdx? fun m => decide (m.f0 = n)
set_option maxHeartbeats 4000000 in
theorem msgPred_calls (v : List Value) (x : Msg) (n : ByteArray) (g : Nat) (w : World) (hg : w.cell? ⟨g, 0, none⟩ = some (.string n)) (A : Option Addr) (c : Nat) (hb : g < w.heap.size) :
    Calls Try.prog 27 #[.agg #[.string x.f0, .slice A x.f1.length c], .pointer (some ⟨g, 0, none⟩)] w fun e w' => e = .returned (.bool (decide (x.f0 = n))) ∧ Below w.heap.size w w' := by
  have hu := Try.underlying41
  go_enter Try.func27, Try.ntmps27
  go_wp2
  go_ret
  exact ⟨ret_bool (toList_beq _ _), below_alloc' (Below.refl _ _) _⟩

/-- What is asked of a predicate on messages. -/
def PredM (g : Nat) (lb : Array Value) (p : Msg → Bool) (w : World) : Prop :=
  ∀ (W : World) (x : Msg) (A : Option Addr) (c : Nat), Below w.heap.size w W → Calls Try.prog g (#[.agg #[.string x.f0, .slice A x.f1.length c]] ++ lb) W fun e w' => e = .returned (.bool (p x)) ∧ Below W.heap.size W w'
theorem idx_hit {α : Type} (p : α → Bool) (l : List α) (k : Nat) (h : k < l.length) (hp : p l[k] = true) (hn : ∀ j (hj : j < k), p (l[j]'(by omega)) = false) : l.findIdx? p = some k := by
  rw [List.findIdx?_eq_some_iff_getElem]
  exact ⟨h, hp, fun j hj => by simpa using hn j hj⟩
theorem idx_miss {α : Type} (p : α → Bool) (l : List α) (hn : ∀ j (hj : j < l.length), p l[j] = false) : l.findIdx? p = none := by
  rw [List.findIdx?_eq_none_iff]
  intro x hx
  obtain ⟨j, hj, rfl⟩ := List.getElem_of_mem hx
  exact hn j hj
theorem rdM_eq (s : List Msg) (k : Nat) (h : k < s.length) : rd_T41 s k = s[k] := by unfold rd_T41; simp [h]
theorem rdF_eq (s : List Fld) (k : Nat) (h : k < s.length) : rd_T38 s k = s[k] := by unfold rd_T38; simp [h]
def idxI (r : Option Nat) : Int := match r with
  | some k => k
  | none => -1
set_option maxHeartbeats 4000000 in
theorem indexM_calls (g : Nat) (lb : Array Value) (p : Msg → Bool) (eg : ∀ args w, (callFunc g args).run Try.prog w = .ok (.enter g args) w) (A : Option Addr) (c : Nat) (s : List Msg) (w : World) (hr : Kd.C k41 w A s.length s) (hp : PredM g lb p w) :
    Calls Try.prog 26 #[.slice A s.length c, .func (.func g) #[] lb] w fun e w' => e = .returned (.int .i64 (idxI (s.findIdx? p))) ∧ Below w.heap.size w w' := by
  have hu := Try.underlying41
  have HR := Aside0.mk hr
  have HP := Aside0.mk hp
  have hmx : s.length ≤ 9223372036854775807 := hr.2.1
  clear hr hp
  go_enter Try.func26, Try.ntmps26
  go_wp2
  go_loopg [5, 8] s.length (fun kq v5 v8 wr => ∃ k : Nat, v8 = .int .i64 k ∧ k ≤ s.length ∧ s.length - k ≤ kq ∧ Aside0 (∀ j (hj : j < s.length), j < k → p s[j] = false) ∧ Aside0 (Below w.heap.size w wr))
  case atStart => exact ⟨0, rfl, by omega, by omega, ⟨fun j hj h => absurd h (by omega)⟩, ⟨Below.refl _ _⟩⟩
  case round =>
    obtain ⟨k, rfl, hk, hg, HA, HB⟩ := hrel
    by_cases hlt : k < s.length
    · have hlt' : (k : Int) < s.length := by omega
      obtain ⟨ad, A1, c1, e, x0, x1, hl, hif⟩ := at_T41 HR.out k (by omega) hlt'
      cases e
      simp only [Int.toNat_natCast] at x0 x1
      replace x0 := pw_cell_below HB.out x0
      replace x1 := pw_cell_below HB.out x1
      have hcall := HP.out wr (rd_T41 s k) A1 c1 HB.out
      have HE := Aside0.mk (rdM_eq s k hlt)
      obtain ⟨m, hm⟩ : ∃ m, m = rd_T41 s k := ⟨_, rfl⟩
      rw [← hm] at x0 x1 hcall HE
      clear hm hl hif
      have HS : Aside0 (∀ b, p m = b → p s[k] = b) := ⟨fun b e => by rw [← HE.out]; exact e⟩
      cases hq : p m with
      | true =>
        have Hq := Aside0.mk (HS.out _ hq)
        rw [hq] at hcall
        clear hq
        go_wp2_with (go_at_fn g; refine hcall.mono ?_; rintro e w' ⟨rfl, hb'⟩)
        go_ret
        refine ⟨ret_int ?_, HB.out.trans (hb'.mono HB.out.size)⟩
        rw [idx_hit p s k hlt Hq.out (fun j hj => HA.out j _ hj)]
        rfl
      | false =>
        have Hq := Aside0.mk (HS.out _ hq)
        rw [hq] at hcall
        clear hq
        go_wp2_with (go_at_fn g; refine hcall.mono ?_; rintro e w' ⟨rfl, hb'⟩)
        go_roundg (s.length - (k + 1))
        case measure => omega
        case rel =>
          refine ⟨k + 1, by go_num, by omega, by omega, ⟨fun j hj h => ?_⟩, ⟨HB.out.trans (hb'.mono HB.out.size)⟩⟩
          by_cases e : j = k
          · subst e; exact Hq.out
          · exact HA.out j hj (by omega)
    · go_wp2
      go_ret
      refine ⟨ret_int ?_, HB.out⟩
      rw [idx_miss p s (fun j hj => HA.out j hj (by omega))]
      rfl

def msgRes (r : Option Nat) : Int × Int := match r with
  | some k => (k, 0)
  | none => (0, 11)
set_option maxHeartbeats 4000000 in
theorem message_calls (A : Option Addr) (c : Nat) (s : List Msg) (n : ByteArray) (w : World) (hr : Kd.C k41 w A s.length s) :
    Calls Try.prog 21 #[.slice A s.length c, .string n] w fun e w' => e = .returned (.tuple #[.int .i64 (msgRes (findM s n)).1, .int .u8 (msgRes (findM s n)).2]) ∧ Below w.heap.size w w' := by
  have hcall := indexM_calls 27 #[.pointer (some ⟨w.heap.size, 0, none⟩)] (fun m => decide (m.f0 = n)) (enters_of Try.func27 (by kernel_rfl) rfl) A c s (w.alloc (.cells #[.string n] 9))
    (Kd.C_below hr (below_alloc' (Below.refl _ _) _)) (fun W x A c hb => by
      have hcell : W.cell? ⟨w.heap.size, 0, none⟩ = some (.string n) := by
        have := cellOf (heap_below hb (Nat.le_refl _) (alloc_at w (.cells #[.string n] 9))) 0
        simpa using this
      have hlt : w.heap.size < W.heap.size := Nat.lt_of_lt_of_le (by simp) hb.size
      exact msgPred_calls [] x n w.heap.size W hcell A c hlt)
  cases hf : s.findIdx? (fun m => decide (m.f0 = n)) with
  | none =>
    rw [hf] at hcall
    have hff : findM s n = none := hf
    rw [hff]
    clear hff hf hr
    simp only [idxI] at hcall
    go_enter Try.func21, Try.ntmps21
    go_wp2_with (go_at_call 26; refine hcall.mono ?_; rintro e w' ⟨rfl, hb'⟩)
    go_ret2
    exact ⟨rfl, (below_alloc' (Below.refl _ w) _).trans (hb'.mono (by simp))⟩
  | some k =>
    rw [hf] at hcall
    have hff : findM s n = some k := hf
    rw [hff]
    clear hff hf hr
    simp only [idxI] at hcall
    have hk : ¬ (k : Int) < 0 := by omega
    go_enter Try.func21, Try.ntmps21
    go_wp2_with (go_at_call 26; refine hcall.mono ?_; rintro e w' ⟨rfl, hb'⟩)
    go_ret2
    exact ⟨rfl, (below_alloc' (Below.refl _ w) _).trans (hb'.mono (by simp))⟩
end Go.Proofs.Ytdkhmnmngokmmaa.Sch
