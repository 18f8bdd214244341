/- Plain laws on maps whose elements are held as values, and small lemmas for walks; no program in sight. -/
import Derived.Maps.OwnOps
import Derived.Maps.Ext
import Derived.WideKeyEntry
import Derived.WalkKit
import Derived.Below
namespace Go.Proofs.Ytdkhmnmngokmmaa.B
open Go.Maps Go.RowKit
set_option linter.unusedVariables false
set_option linter.unusedSimpArgs false

/-- An element as it is. -/
def hv (v : Value) : Option (DataW Value × List MemPlace) := some (.held v, [])
/-- What a map holds at a key. -/
def mget (D : DataW Value) (kl : Lit) : Option Value := match D.atKey kl .nil with
  | .held v => some v
  | _ => none
def lookRes (c : Bool) (z : Value) (r : Option Value) : Value := match r with
  | some v => if c then .tuple #[v, .bool true] else v
  | none => if c then .tuple #[z, .bool false] else z

theorem mget_empty (kl : Lit) : mget (.map []) kl = none := rfl
theorem mget_put_same {D : DataW Value} {k : Lit} (hD : IsMap D) (hk : WideAt.IsKeyLit k) (v : Value) : mget (D.put k (.held v)) k = some v := by
  unfold mget; rw [atKey_put_same hD hk]
theorem mget_put_other {D : DataW Value} {k k' : Lit} (hne : k' ≠ k) (d : DataW Value) : mget (D.put k d) k' = mget D k' := by
  unfold mget; rw [atKey_put_other hne]
theorem mget_del_same {D : DataW Value} {k : Lit} : mget (D.del k) k = none := by
  unfold mget; rw [atKey_del_same]
theorem mget_del_other {D : DataW Value} {k k' : Lit} (hne : k' ≠ k) : mget (D.del k) k' = mget D k' := by
  unfold mget; rw [atKey_del_other hne]

theorem ownsMap_look {P : Program} {k t e : TypeId} {w : World} {b n : Nat} {D : DataW Value} (h : w.ownsMap P k hv b n D) (K : Keyed P k) (ht : P.underlying t = some (.map k e)) {z : Value} (hz : (zeroValue e).run P w = .ok z w)
    {key : Value} {kl : Lit} (hkey : keyOf P k key = some kl) (c : Bool) : (Instr.lookup t (.map (some b)) key c).run P w = .ok (lookRes c z (mget D kl)) w := by
  obtain ⟨es, clock, hb, F, _, rfl⟩ := h
  rcases Maps.fit_look c K ht hz hb F hkey with ⟨hrun, _, hat⟩ | ⟨e0, y, _, _, hrun, hRv, hat, _⟩
  · rw [hrun]; unfold mget; rw [hat]; rfl
  · rw [hrun]; unfold mget; rw [hat]
    simp only [hv, Option.some.injEq] at hRv
    rw [← hRv]; rfl

section
variable {P : Program} (w : World) {ops : Array Oper} {rest : List Oper} {o : Oper} {a : Act} {Q : Exit → Act → World → Prop}
/-- 'v, ok := m[k]' and 'm[k]'. -/
theorem wpList_look (hg : o.guard = none) (m x : Operand) (t : TypeId) (c : Bool) (hop : o.op = Op.lookup t m x c)
    (k e : TypeId) (K : Keyed P k) (ht : P.underlying t = some (.map k e)) (z : Value) (hz : (zeroValue e).run P w = .ok z w) (b n : Nat) (D : DataW Value)
    (hm : a.eval m = .map (some b)) (hown : w.ownsMap P k hv b n D) (key : Value) (kl : Lit) (hx : a.eval x = key) (hkey : keyOf P k key = some kl) (r : Option Value) (hr : mget D kl = r)
    (hK : wpList P ops Q rest (a.put o.dst (lookRes c z r)) w) :
    wpList P ops Q (o :: rest) a w := by
  refine wpList_plain hg fun K' hK' => ?_
  have hrun := ownsMap_look hown K ht hz hkey c
  rw [hr] at hrun
  unfold Oper.wp
  simp [execOp, hop, hm, hx, hrun, Result.andThen]
  exact hK' _ _ hK
/-- 'm[k] = v' in a literal. -/
theorem wpList_ins (hg : o.guard = none) (m x v : Operand) (t : TypeId) (hop : o.op = Op.insert t m x v)
    (k e : TypeId) (K : Keyed P k) (ht : P.underlying t = some (.map k e)) (b n : Nat) (D : DataW Value)
    (hm : a.eval m = .map (some b)) (hown : w.ownsMap P k hv b n D) (hn : n < maxLen) (key val : Value) (kl : Lit) (hx : a.eval x = key) (hv' : a.eval v = val) (hkey : keyOf P k key = some kl)
    (hK : ∀ w', w'.ownsMap P k hv b (n + 1) (D.put kl (.held val)) → w.grownBy w' (some b) → wpList P ops Q rest (a.put o.dst undef) w') :
    wpList P ops Q (o :: rest) a w := by
  refine wpList_plain hg fun K' hK' => ?_
  obtain ⟨w', hrun, r1, r2⟩ := hown.update K ht hn hkey (val := val) (d := .held val) (ps := []) rfl
  unfold Oper.wp
  simp [execOp, hop, hm, hx, hv', hrun, Result.andThen]
  exact hK' _ _ (hK w' r1 r2)
end
/-- What an entry asked for holds, stored as it is: the world that asking for the entry leaves. -/
theorem entry_is_update {P : Program} {k t e : TypeId} {w : World} {b : Nat} {es : Array MapEntry} {clock : Nat} (K : WideMaps.KeyLaw P k) (ht : P.underlying t = some (.map k e)) {z : Value} (hz : ∀ u : World, (zeroValue e).run P u = .ok z u)
    (hb : w.heap[b]? = some (.map es clock)) (hks : ∀ x ∈ es.toList, ∃ l, keyOf P k x.key = some l) {key : Value} {kl : Lit} (hkey : keyOf P k key = some kl) {v0 : Value} {st : Value} {w2 : World}
    (h : (Instr.mapEntry t (.map (some b)) key).run P w = .ok (.tuple #[v0, st]) w2) : (Instr.mapUpdate t (.map (some b)) key v0).run P w = .ok () w2 := by
  rcases K.find w hkey es.toList hks with ⟨h1, h2⟩ | ⟨j, e0, h1, h2, h3⟩
  · simp [Instr.mapEntry, run_underlying ht, MapKept.run_getObj_map hb, K.check w false hkey, h1, hz, MapKept.run_setObj_map _ hb, Result.andThen, ChangeMaps.setBlock] at h
    obtain ⟨⟨rfl, _⟩, rfl⟩ := h
    simp [Instr.mapUpdate, run_underlying ht, MapKept.run_getObj_map hb, K.check w false hkey, h1, MapKept.run_setObj_map _ hb, Result.andThen, ChangeMaps.setBlock]
  · have hj : es[j]? = some e0 := by simpa using h2
    simp [Instr.mapEntry, run_underlying ht, MapKept.run_getObj_map hb, K.check w false hkey, h1, hj, h3, K.stays w hkey, MapKept.run_setObj_map _ hb, Result.andThen, ChangeMaps.setBlock] at h
    obtain ⟨⟨rfl, _⟩, rfl⟩ := h
    simp [Instr.mapUpdate, run_underlying ht, MapKept.run_getObj_map hb, K.check w false hkey, h1, hj, h3, K.stays w hkey, MapKept.run_setObj_map _ hb, Result.andThen, ChangeMaps.setBlock]
    have hm : es.modify j (fun e => { key := key, val := e0.val, born := e.born }) = es.modify j (fun e => { key := key, val := e.val, born := e.born }) := by
      apply Array.ext'
      rw [Array.toList_modify, Array.toList_modify, ChangeMaps.modify_eq_set _ _ _ _ h2, ChangeMaps.modify_eq_set _ _ _ _ h2]
    rw [hm]
theorem owns_incr {P : Program} {k t e : TypeId} {w : World} {b n : Nat} {D : DataW Value} (h : w.ownsMap P k hv b n D) (K : WideMaps.KeyLaw P k) (ht : P.underlying t = some (.map k e)) {z : Value} (hz : ∀ u : World, (zeroValue e).run P u = .ok z u)
    (hn : n < maxLen) {key : Value} {kl : Lit} (hkey : keyOf P k key = some kl) :
    ∃ (st : Nat) (w2 : World), (Instr.mapEntry t (.map (some b)) key).run P w = .ok (.tuple #[lookRes false z (mget D kl), goInt st]) w2 ∧ (Instr.lookup t (.map (some b)) key false).run P w = .ok (lookRes false z (mget D kl)) w ∧
      (Instr.lookup t (.map (some b)) key false).run P w2 = .ok (lookRes false z (mget D kl)) w2 ∧
      ∀ val, ∃ w4, (Instr.entryStore t (.map (some b)) (goInt st) val).run P w2 = .ok () w4 ∧ w4.ownsMap P k hv b (n + 1) (D.put kl (.held val)) ∧ w.grownBy w4 (some b) := by
  have KK := Keyed.of_law K
  have hlook := ownsMap_look h KK ht (hz w) hkey false
  have hupd := fun val => h.update KK ht hn hkey (val := val) (d := .held val) (ps := []) rfl
  have hisd : IsMap D := by obtain ⟨es, clock, hb, F, _, rfl⟩ := h; exact ⟨_, rfl⟩
  obtain ⟨es, clock, hb, F, hs, hD⟩ := h
  obtain ⟨v0, st, es1, clock1, hrun, hv0, hst⟩ := WideElems.entry_then_store K ht hz hb F hkey
  have hval : v0 = lookRes false z (mget D kl) := by
    rcases hv0 with ⟨e0, hm, hk, hv⟩ | ⟨hno, hv⟩
    · have hat := WideElems.atKey_some K F hkey hm hk (z := (.held e0.val, [])) rfl .nil
      rw [← hD] at hat
      rw [hv]; unfold mget; rw [hat]; rfl
    · have hat := WideElems.atKey_none K F hkey hno .nil
      rw [← hD] at hat
      rw [hv]; unfold mget; rw [hat]; rfl
  subst hval
  have hu := entry_is_update K ht hz hb F.keys hkey hrun
  obtain ⟨w', hr', ho', hg'⟩ := hupd (lookRes false z (mget D kl))
  rw [hu] at hr'
  injection hr' with _ hww
  subst hww
  have hl2 := ownsMap_look ho' KK ht (hz _) hkey false
  rw [mget_put_same hisd (KK.key hkey)] at hl2
  refine ⟨st, _, hrun, hlook, hl2, fun val => ?_⟩
  obtain ⟨es', clock', hs1, hs2⟩ := hst (ChangeMaps.setBlock w b (.map es1 clock1)) val (ChangeMaps.heap_setBlock_same hb _)
  obtain ⟨w4, hr4, ho4, hg4⟩ := hupd val
  rw [hs2] at hr4
  injection hr4 with _ hw4
  subst hw4
  refine ⟨_, ?_, ho4, hg4⟩
  rw [hs1]
  simp [ChangeMaps.setBlock]
theorem wf_i64 {k : Int} (h1 : -9223372036854775808 ≤ k) (h2 : k ≤ 9223372036854775807) : (Lit.int .i64 k).wf = true := by
  have e1 : IntKind.i64.min = -9223372036854775808 := by decide
  have e2 : IntKind.i64.max = 9223372036854775807 := by decide
  simp only [Lit.wf, e1, e2, Bool.and_eq_true, decide_eq_true_eq]
  exact ⟨h1, h2⟩
theorem wf_i64_inv {k : Int} (h : (Lit.int .i64 k).wf = true) : -9223372036854775808 ≤ k ∧ k ≤ 9223372036854775807 := by
  have e1 : IntKind.i64.min = -9223372036854775808 := by decide
  have e2 : IntKind.i64.max = 9223372036854775807 := by decide
  simpa only [Lit.wf, e1, e2, Bool.and_eq_true, decide_eq_true_eq] using h
theorem toList_data (s : ByteArray) : s.toList = s.data.toList := by simp [ByteArray.toList_eq]
theorem empty_size (s : ByteArray) : s.toList.isEmpty = decide (s.size = 0) := by
  rw [toList_data, Bool.eq_iff_iff, List.isEmpty_iff, decide_eq_true_iff]
  constructor
  · intro h
    have : s.data.toList.length = 0 := by rw [h]; rfl
    simpa using this
  · intro h
    exact List.eq_nil_of_length_eq_zero (by simpa using h)
theorem toList_inj {a b : ByteArray} (h : a.toList = b.toList) : a = b := by
  rw [toList_data, toList_data] at h
  cases a; cases b; simp only [ByteArray.mk.injEq] at *; exact Array.ext' h
theorem toList_beq (a b : ByteArray) : (a.toList == b.toList) = decide (a = b) := by
  rw [Bool.eq_iff_iff, beq_iff_eq, decide_eq_true_iff]
  exact ⟨toList_inj, fun h => by rw [h]⟩
theorem alloc_at (w : World) (o : Obj) : (w.alloc o).heap[w.heap.size]? = some o := by show (w.heap.push o)[w.heap.size]? = some o; simp
theorem alloc_old {w : World} {i : Nat} {o : Obj} (h : w.heap[i]? = some o) (o' : Obj) : (w.alloc o').heap[i]? = some o := by
  have hlt : i < w.heap.size := (Array.getElem?_eq_some_iff.1 h).1
  rw [← h]; show (w.heap.push o')[i]? = _; rw [Array.getElem?_push]; rw [if_neg (by omega)]
theorem drew_heap (w : World) : w.drew.heap = w.heap := rfl
theorem three_new (w : World) (o1 o2 o3 : Obj) : (((w.alloc o1).alloc o2).alloc o3).drew.heap[w.heap.size]? = some o1 ∧ (((w.alloc o1).alloc o2).alloc o3).drew.heap[w.heap.size + 1]? = some o2 ∧
    (((w.alloc o1).alloc o2).alloc o3).drew.heap[w.heap.size + 1 + 1]? = some o3 ∧ Below w.heap.size w (((w.alloc o1).alloc o2).alloc o3).drew := by
  rw [drew_heap]
  have s1 : (w.alloc o1).heap.size = w.heap.size + 1 := by simp
  have s2 : ((w.alloc o1).alloc o2).heap.size = w.heap.size + 1 + 1 := by simp
  refine ⟨alloc_old (alloc_old (alloc_at _ _) _) _, ?_, ?_, ((((Below.refl _ w).alloc (Nat.le_refl _) _).alloc (by omega) _).alloc (by omega) _).drew⟩
  · have := alloc_at (w.alloc o1) o2; rw [s1] at this; exact alloc_old this _
  · have := alloc_at ((w.alloc o1).alloc o2) o3; rw [s2] at this; exact this
theorem heap_below {B : Nat} {w w' : World} (h : Below B w w') (hB : w.heap.size ≤ B) {g : Nat} {o : Obj} (hg : w.heap[g]? = some o) : w'.heap[g]? = some o := by
  have hlt : g < w.heap.size := (Array.getElem?_eq_some_iff.1 hg).1
  rw [h.block g (by omega)]; exact hg
theorem map_ne {P : Program} {k : TypeId} {R : Value → Option (DataW Value × List MemPlace)} {w : World} {b n g t : Nat} {D : DataW Value} {cs : Array Value} {fr : Nat × Nat} (h : w.ownsMap P k R b n D) (hg : w.heap[g]? = some (.cells cs t fr)) : g ≠ b := by
  rintro rfl
  obtain ⟨es, clock, hb, _⟩ := h
  rw [hg] at hb
  cases hb
theorem heap_grown {w w' : World} {b g : Nat} {o : Obj} (h : w.grownBy w' (some b)) (hg : w.heap[g]? = some o) (hne : g ≠ b) : w'.heap[g]? = some o := by
  have hlt : g < w.heap.size := (Array.getElem?_eq_some_iff.1 hg).1
  rw [h.block g hlt (by intro e; cases e; exact hne rfl)]; exact hg
theorem val_bool {a b : Bool} (h : a = b) : Value.bool a = Value.bool b := by rw [h]
theorem grown_drew {w w' : World} {row : Option Nat} (h : w.grownBy w' row) : w.grownBy w'.drew row := ⟨h.os, h.tape, h.output, h.size, h.block⟩
theorem drew_grown {w w' : World} {row : Option Nat} (h : w.drew.grownBy w' row) : w.grownBy w' row := ⟨h.os, h.tape, h.output, h.size, h.block⟩
theorem frozenOf {w : World} {g t : Nat} {cs : Array Value} (h : w.heap[g]? = some (.cells cs t (0, 0))) (j : Nat) : w.frozen? ⟨g, j, none⟩ = false := by simp [World.frozen?, h]
theorem cellOf {w : World} {g t : Nat} {cs : Array Value} {fr : Nat × Nat} (h : w.heap[g]? = some (.cells cs t fr)) (j : Nat) : w.cell? ⟨g, j, none⟩ = cs[j]? := by simp [World.cell?, h]
theorem below_set {w w' : World} (h : Below w.heap.size w w') (j : Nat) (v : Value) : Below w.heap.size w (w'.setCell ⟨w.heap.size, j, none⟩ v) := h.setCell (Nat.le_refl _) v
theorem below_alloc' {w w' : World} (h : Below w.heap.size w w') (o : Obj) : Below w.heap.size w (w'.alloc o) := h.alloc h.size o
theorem ret_bool {a b : Bool} (h : a = b) : Ending.returned (.bool a) = Ending.returned (.bool b) := by rw [h]
theorem ret_int {k : IntKind} {a b : Int} (h : a = b) : Ending.returned (.int k a) = Ending.returned (.int k b) := by rw [h]
end Go.Proofs.Ytdkhmnmngokmmaa.B
