/- Maps as functions: block b is a map that tells f, with so many entries; what looking up, storing, deleting and counting do to f. Any program; key and element types as bundles. -/
import Derived.Maps.OwnSet
import Derived.Maps.OwnOps
import Derived.Maps.StringElems
import Derived.Maps.RangeWalk
import Derived.WalkKit
import Derived.WideKeyArgs2
import Derived.StringKeys
import Derived.Deep.QuietTactic
import Derived.BigQuiet
import Derived.Below
namespace Go.Proofs.Ytkmopmoglgcamaa.MapF
open Go Go.Maps Go.RowKit
set_option linter.unusedVariables false
structure KeyT (P : Program) (k : TypeId) (α : Type) where
  ke : α → Value
  kl : α → Lit
  good : α → Prop
  keyed : Keyed P k
  key : ∀ x, good x → keyOf P k (ke x) = some (kl x)
  lit : ∀ x, WideAt.IsKeyLit (kl x)
  inj : ∀ x y, kl x = kl y → x = y
  back : ∀ v l, keyOf P k v = some l → ∃ x, v = ke x ∧ l = kl x ∧ good x
structure ElT (P : Program) (e : TypeId) (β : Type) where
  enc : β → Value
  dat : β → DataW Unit
  good : β → Prop
  elem : ∀ v, good v → plainElem P e (enc v) = some (dat v, [])
  inv : ∀ u z, plainElem P e u = some z → ∃ v, u = enc v ∧ z = (dat v, [])
  dinj : ∀ a b, dat a = dat b → a = b
  zero : β
  zgood : good zero
  hz : ∀ w, (zeroValue e).run P w = .ok (enc zero) w
def keyInt {P : Program} {k : TypeId} (h : P.underlying k = some (.int .i64)) : KeyT P k Int where
  ke := fun x => .int .i64 x
  kl := fun x => .int .i64 x
  good := fun x => (Lit.int .i64 x).wf = true
  keyed := int_keyed h
  key := fun x hx => keyOf_int_mk h hx
  lit := fun _ => trivial
  inj := fun x y e => by injection e
  back := fun v l hv => Maps.keyOf_int_inv h hv
def keyString {P : Program} {k : TypeId} (h : P.underlying k = some .string) : KeyT P k ByteArray where
  ke := fun x => .string x
  kl := fun x => .string x.data.toList
  good := fun x => x.size ≤ maxLen
  keyed := string_keyed h
  key := fun x hx => Go.WideMaps.keyOf_string_mk h hx
  lit := fun _ => trivial
  inj := fun x y e => by
    injection e with e
    cases x; cases y
    congr 1
    exact Array.toList_inj.1 e
  back := fun v l hv => by
    cases v <;> simp [keyOf, h, mapKey] at hv
    obtain ⟨h1, h2⟩ := hv
    exact ⟨_, rfl, h2.symm, h1⟩
def elInt {P : Program} {e : TypeId} (q : IntKind) (h : P.underlying e = some (.int q)) (hz : ∀ w, (zeroValue e).run P w = .ok (.int q 0) w) : ElT P e Int where
  enc := fun x => .int q x
  dat := fun x => .lit (.int q x)
  good := fun x => (Lit.int q x).wf = true
  elem := fun x hx => plainElem_int h hx
  inv := fun u z hu => by obtain ⟨a, h1, h2, _⟩ := plainElem_int_inv h hu; exact ⟨a, h1, h2⟩
  dinj := fun x y e => by injection e with e; injection e
  zero := 0
  zgood := by cases q <;> decide
  hz := hz
def elString {P : Program} {e : TypeId} (h : P.underlying e = some .string) (hz : ∀ w, (zeroValue e).run P w = .ok (.string ⟨#[]⟩) w) : ElT P e ByteArray where
  enc := fun x => .string x
  dat := fun x => .lit (.string x.data.toList)
  good := fun x => x.size ≤ maxLen
  elem := fun x hx => plainElem_string h hx
  inv := fun u z hu => by obtain ⟨a, h1, h2, _⟩ := plainElem_string_inv h hu; exact ⟨a, h1, h2⟩
  dinj := fun x y e => by
    injection e with e; injection e with e
    cases x; cases y
    congr 1
    exact Array.toList_inj.1 e
  zero := ⟨#[]⟩
  zgood := by show (0 : Nat) ≤ _; exact Nat.zero_le _
  hz := hz
theorem plainBool_inv {H : Type} {P : Program} {e : TypeId} (he : P.underlying e = some .bool) {v : Value} {z : DataW H × List MemPlace} (h : plainElem P e v = some z) : ∃ a, v = .bool a ∧ z = (.lit (.bool a), []) := by
  unfold plainElem at h
  rw [he] at h
  cases v <;> simp at h
  exact ⟨_, rfl, h.symm⟩
def elBool {P : Program} {e : TypeId} (h : P.underlying e = some .bool) (hz : ∀ w, (zeroValue e).run P w = .ok (.bool false) w) : ElT P e Bool where
  enc := fun x => .bool x
  dat := fun x => .lit (.bool x)
  good := fun _ => True
  elem := fun x _ => plainElem_bool h x
  inv := fun u z hu => plainBool_inv h hu
  dinj := fun x y e => by injection e with e; injection e
  zero := false
  zgood := trivial
  hz := hz
open Classical in
/-- One more key, or another element at it. -/
noncomputable def upd {α β : Type} (f : α → Option β) (x : α) (v : Option β) : α → Option β := fun y => if y = x then v else f y
theorem upd_same {α β : Type} (f : α → Option β) (x : α) (v : Option β) : upd f x v x = v := by unfold upd; simp
theorem upd_other {α β : Type} (f : α → Option β) {x y : α} (v : Option β) (h : y ≠ x) : upd f x v y = f y := by unfold upd; simp [h]
section
variable {P : Program} {k e : TypeId} {α β : Type} (K : KeyT P k α) (E : ElT P e β)
/-- BLOCK b IS A MAP of c entries (at most n) that tells f. -/
def MapF (w : World) (b n : Nat) (f : α → Option β) (c : Nat) : Prop :=
  ∃ D : DataW Unit, w.ownsMap P k (plainElem P e) b n D ∧ Tidy D ∧ Maps.size D = c ∧ ∀ x, has D (K.kl x) = (f x).isSome ∧ D.atKey (K.kl x) (E.dat E.zero) = E.dat ((f x).getD E.zero)
variable {K E} {w : World} {b n c : Nat} {f : α → Option β}
theorem MapF.made (w : World) : MapF K E (w.alloc (.map #[] 0)) w.heap.size 0 (fun _ => none) 0 :=
  ⟨_, World.ownsMap_made _ _ _ _, tidy_empty, rfl, fun x => ⟨rfl, rfl⟩⟩
theorem MapF.kept {w' : World} {row : Option Nat} (h : MapF K E w b n f c) (hg : w.grownBy w' row) (hne : some b ≠ row) : MapF K E w' b n f c := by
  obtain ⟨D, h1, h2⟩ := h
  exact ⟨D, h1.kept hg hne, h2⟩
theorem MapF.block {w' : World} (h : MapF K E w b n f c) (hb : w'.heap[b]? = w.heap[b]?) : MapF K E w' b n f c := by
  obtain ⟨D, ⟨es, clock, h0, h1⟩, h2⟩ := h
  exact ⟨D, ⟨es, clock, hb.trans h0, h1⟩, h2⟩
theorem MapF.lt (h : MapF K E w b n f c) : b < w.heap.size := by
  obtain ⟨D, h1, _⟩ := h
  exact h1.lt
theorem MapF.below {w' : World} (h : MapF K E w b n f c) (hb : Below w.heap.size w w') : MapF K E w' b n f c := h.block (hb.block b h.lt)
theorem MapF.alloc (h : MapF K E w b n f c) (o : Obj) : MapF K E (w.alloc o) b n f c := h.kept (World.grownBy_alloc w o none) (by simp)
theorem MapF.drewN (h : MapF K E w b n f c) (m : Nat) : MapF K E (w.drewN m) b n f c := h
theorem MapF.drew (h : MapF K E w b n f c) : MapF K E w.drew b n f c := h
theorem MapF.setCell (h : MapF K E w b n f c) {p : Addr} (hp : b ≠ p.block) (u : Value) : MapF K E (w.setCell p u) b n f c := h.block (RowKit.Below.heap_setCell _ _ _ _ hp)
theorem MapF.mono (h : MapF K E w b n f c) {m : Nat} (hm : n ≤ m) : MapF K E w b m f c := by
  obtain ⟨D, h1, h2⟩ := h
  exact ⟨D, h1.mono hm, h2⟩
theorem MapF.size_le (h : MapF K E w b n f c) : c ≤ n := by
  obtain ⟨D, h1, _, h3, _⟩ := h
  rw [← h3]
  exact h1.size_le
theorem MapF.look {t : TypeId} (h : MapF K E w b n f c) (ht : P.underlying t = some (.map k e)) (x : α) (hx : K.good x) :
    (Instr.lookup t (.map (some b)) (K.ke x) false).run P w = .ok (E.enc ((f x).getD E.zero)) w := by
  obtain ⟨D, h1, _, _, h3⟩ := h
  obtain ⟨v, ps, hrun, hv⟩ := h1.lookup K.keyed ht (E.hz w) (E.elem _ E.zgood) (K.key x hx)
  obtain ⟨u, rfl, hu⟩ := E.inv _ _ hv
  injection hu with hu _
  rw [(h3 x).2] at hu
  rw [hrun, E.dinj _ _ hu]
theorem MapF.look_ok {t : TypeId} (h : MapF K E w b n f c) (ht : P.underlying t = some (.map k e)) (x : α) (hx : K.good x) :
    (Instr.lookup t (.map (some b)) (K.ke x) true).run P w = .ok (.tuple #[E.enc ((f x).getD E.zero), .bool (f x).isSome]) w := by
  obtain ⟨D, h1, _, _, h3⟩ := h
  obtain ⟨v, ps, hrun, hv⟩ := h1.look_ok K.keyed ht (E.hz w) (E.elem _ E.zgood) (K.key x hx)
  obtain ⟨u, rfl, hu⟩ := E.inv _ _ hv
  injection hu with hu _
  rw [(h3 x).2] at hu
  rw [hrun, E.dinj _ _ hu, (h3 x).1]
theorem MapF.len {t : TypeId} (h : MapF K E w b n f c) (ht : P.underlying t = some (.map k e)) (ty : TypeId) : (Builtin.len_ #[t] ty #[.map (some b)]).run P w = .ok (.int .i64 (c : Int)) w := by
  obtain ⟨D, h1, _, h3, _⟩ := h
  rw [← h3]
  exact h1.len ht ty
theorem MapF.put' {D : DataW Unit} {w' : World} {x : α} {v : β} (hT : Tidy D) (hs : Maps.size D = c) (h3 : ∀ x, has D (K.kl x) = (f x).isSome ∧ D.atKey (K.kl x) (E.dat E.zero) = E.dat ((f x).getD E.zero))
    (h : w'.ownsMap P k (plainElem P e) b n (D.put (K.kl x) (E.dat v))) : MapF K E w' b n (upd f x (some v)) (if (f x).isSome then c else c + 1) := by
  refine ⟨_, h, hT.put (K.lit x) _, ?_, fun y => ?_⟩
  · rw [size_put hT, (h3 x).1, hs]
  · by_cases ey : y = x
    · subst ey
      rw [has_put_same hT.isMap (K.lit y), atKey_put_same hT.isMap (K.lit y), upd_same]
      exact ⟨rfl, rfl⟩
    · have hne : K.kl y ≠ K.kl x := fun q => ey (K.inj _ _ q)
      rw [has_put_other hne, atKey_put_other hne, upd_other _ _ ey]
      exact h3 y
/-- 'delete(m, k)'. -/
theorem MapF.drop {t : TypeId} (h : MapF K E w b n f c) (ht : P.underlying t = some (.map k e)) (x : α) (hx : K.good x) (ty : TypeId) :
    ∃ w', (Builtin.delete_ #[t, k] ty #[.map (some b), K.ke x]).run P w = .ok (.tuple #[]) w' ∧ MapF K E w' b n (upd f x none) (if (f x).isSome then c - 1 else c) ∧ w.grownBy w' (some b) := by
  obtain ⟨D, h1, h2, h3, h4⟩ := h
  obtain ⟨w', hrun, hown, hturn⟩ := h1.drop K.keyed ht (K.key x hx) ty
  refine ⟨w', hrun, ⟨_, hown, h2.del _, ?_, fun y => ?_⟩, hturn.grown⟩
  · have hs := size_del h2 (k := K.kl x)
    rw [(h4 x).1] at hs
    cases hf : (f x).isSome <;> rw [hf] at hs <;> simp at hs ⊢ <;> omega
  · by_cases ey : y = x
    · subst ey
      rw [has_del_same, atKey_del_same, upd_same]
      exact ⟨rfl, rfl⟩
    · have hne : K.kl y ≠ K.kl x := fun q => ey (K.inj _ _ q)
      rw [has_del_other hne, atKey_del_other hne, upd_other _ _ ey]
      exact h4 y
end
section
variable {P : Program} {k e : TypeId} {α β : Type} {K : KeyT P k α} {E : ElT P e β} {ops : Array Oper} {rest : List Oper} {o : Oper} {a : Act} {Q : Exit → Act → World → Prop}
theorem wp_put (w : World) (hg : o.guard = none) (m x v : Operand) (t : TypeId) (hop : o.op = Op.mapUpdate t m x v) (ht : P.underlying t = some (.map k e)) {b n c : Nat} {f : α → Option β} (hM : MapF K E w b n f c) (hn : n < maxLen)
    (hm : a.eval m = .map (some b)) (y : α) (u : β) (hx : a.eval x = K.ke y) (hv : a.eval v = E.enc u) (gy : K.good y) (gu : E.good u)
    (hK : ∀ w', MapF K E w' b (n + 1) (upd f y (some u)) (if (f y).isSome then c else c + 1) → w.grownBy w' (some b) → wpList P ops Q rest (a.put o.dst undef) w') : wpList P ops Q (o :: rest) a w := by
  obtain ⟨D, h1, h2, h3, h4⟩ := hM
  refine wpList_mapUpdate_own w hg m x v t hop k e K.keyed ht (plainElem P e) b n D hm h1 hn (K.ke y) (E.enc u) (K.kl y) hx hv (K.key y gy) (E.dat u) [] (E.elem u gu) ?_
  intro w' hown hgrow
  exact hK w' (MapF.put' h2 h3 h4 hown) hgrow
theorem wp_look_ok (w : World) (hg : o.guard = none) (m x : Operand) (t : TypeId) (hop : o.op = Op.lookup t m x true) (ht : P.underlying t = some (.map k e)) {b n c : Nat} {f : α → Option β} (hM : MapF K E w b n f c)
    (hm : a.eval m = .map (some b)) (y : α) (hx : a.eval x = K.ke y) (gy : K.good y)
    (hK : wpList P ops Q rest (a.put o.dst (.tuple #[E.enc ((f y).getD E.zero), .bool (f y).isSome])) w) : wpList P ops Q (o :: rest) a w := by
  obtain ⟨D, h1, h2, h3, h4⟩ := hM
  refine wpList_lookup_own_ok w hg m x t hop k e K.keyed ht (plainElem P e) (E.hz w) (E.dat E.zero) [] (E.elem _ E.zgood) b n D hm h1 (K.ke y) (K.kl y) hx (K.key y gy) ?_
  intro v ps hv
  obtain ⟨u, rfl, hu⟩ := E.inv _ _ hv
  injection hu with hu _
  rw [(h4 y).2] at hu
  rw [(h4 y).1, ← E.dinj _ _ hu]
  exact hK
end
section
variable {P : Program} {k e : TypeId} {α β : Type} (K : KeyT P k α) (E : ElT P e β)
open Classical in
/-- One key less. -/
noncomputable def strike {α : Type} (left : α → Bool) (x : α) : α → Bool := fun z => left z && !decide (z = x)
theorem strike_same {α : Type} (left : α → Bool) (x : α) : strike left x x = false := by unfold strike; simp
theorem strike_other {α : Type} (left : α → Bool) {x z : α} (h : z ≠ x) : strike left x z = left z := by unfold strike; simp [h]
/-- BLOCK r RANGES over the map in block b; 'left': what is still to come. -/
def MapR (w : World) (b r n : Nat) (f : α → Option β) (left : α → Bool) (cnt : Nat) : Prop :=
  ∃ (D : DataW Unit) (lt : Lit → Bool), w.ranges P k (plainElem P e) b r n D lt cnt ∧ (∀ x, lt (K.kl x) = left x) ∧ ∀ x, has D (K.kl x) = (f x).isSome ∧ D.atKey (K.kl x) (E.dat E.zero) = E.dat ((f x).getD E.zero)
variable {K E} {w : World} {b r n c : Nat} {f : α → Option β} {left : α → Bool}
theorem MapR.kept {w' : World} {row : Option Nat} (h : MapR K E w b r n f left c) (hg : w.grownBy w' row) (hb : some b ≠ row) (hr : some r ≠ row) : MapR K E w' b r n f left c := by
  obtain ⟨D, lt, h1, h2⟩ := h
  exact ⟨D, lt, h1.kept hg hb hr, h2⟩
theorem MapR.lt (h : MapR K E w b r n f left c) : r < w.heap.size := by
  obtain ⟨D, lt, h1, _⟩ := h
  exact h1.lt
theorem MapR.ltMap (h : MapR K E w b r n f left c) : b < w.heap.size := by
  obtain ⟨D, lt, h1, _⟩ := h
  exact h1.owns.lt
theorem MapR.setCell (h : MapR K E w b r n f left c) {p : Addr} (hb : b ≠ p.block) (hr : r ≠ p.block) (u : Value) : MapR K E (w.setCell p u) b r n f left c := by
  obtain ⟨D, lt, ⟨es, clock, since, seen, c0, g1, g2, g3, g4, g5, g6⟩, h2⟩ := h
  exact ⟨D, lt, ⟨es, clock, since, seen, c0, (RowKit.Below.heap_setCell _ _ _ _ hb).trans g1, g2, g3, g4, (RowKit.Below.heap_setCell _ _ _ _ hr).trans g5, g6⟩, h2⟩
theorem MapR.notCells (h : MapR K E w b r n f left c) {g t : Nat} {cs : Array Value} {fr : Nat × Nat} (hc : w.heap[g]? = some (.cells cs t fr)) : b ≠ g ∧ r ≠ g := by
  obtain ⟨D, lt, ⟨es, clock, since, seen, c0, g1, _, _, _, g5, _⟩, _⟩ := h
  refine ⟨fun q => ?_, fun q => ?_⟩
  · rw [q, hc] at g1; cases g1
  · rw [q, hc] at g5; cases g5
theorem MapR.rangeLeft (h : MapR K E w b r n f left c) : w.rangeLeft b r = c := by
  obtain ⟨D, lt, h1, _⟩ := h
  exact h1.left_eq
end
section
variable {P : Program} {k e : TypeId} {α β : Type} {K : KeyT P k α} {E : ElT P e β} {ops : Array Oper} {rest : List Oper} {o : Oper} {a : Act} {Q : Exit → Act → World → Prop}
theorem wp_range (w : World) (hg : o.guard = none) (m : Operand) (t : TypeId) (hop : o.op = Op.range t m) (ht : P.underlying t = some (.map k e)) {b n c : Nat} {f : α → Option β} (hM : MapF K E w b n f c) (hm : a.eval m = .map (some b))
    (hK : ∀ w', MapR K E w' b w.heap.size n f (fun x => (f x).isSome) c → w.grownBy w' none → w'.heap.size = w.heap.size + 1 → wpList P ops Q rest (a.put o.dst (.pointer (some ⟨w.heap.size, 0, none⟩))) w') : wpList P ops Q (o :: rest) a w := by
  obtain ⟨D, h1, h2, h3, h4⟩ := hM
  refine wpList_range_own w hg m t hop k e K.keyed ht (plainElem P e) b n D hm h1 ?_
  intro w' hr hgr hsz
  rw [h3] at hr
  exact hK w' ⟨D, _, hr, fun x => (h4 x).1, h4⟩ hgr hsz
theorem wp_next (w : World) (hg : o.guard = none) (it : Operand) (hop : o.op = Op.next it false) {b r n c : Nat} {f : α → Option β} {left : α → Bool} (hM : MapR K E w b r n f left c) (hit : a.eval it = .pointer (some ⟨r, 0, none⟩))
    (hDone : (∀ x, left x = false) → wpList P ops Q rest (a.put o.dst (.tuple #[.bool false])) w)
    (hMore : ∀ (x : α) (u : β) (w' : World) (c' : Nat), left x = true → f x = some u → K.good x → MapR K E w' b r n f (strike left x) c' → c' < c → w.grownBy w' (some r) → w'.heap.size = w.heap.size →
      (Instr.entry (.pointer (some ⟨r, 0, none⟩))).run P w' = .ok (.tuple #[K.ke x, E.enc u]) w' → wpList P ops Q rest (a.put o.dst (.tuple #[.bool true, K.ke x, E.enc u])) w') : wpList P ops Q (o :: rest) a w := by
  obtain ⟨D, lt, h1, h2, h3⟩ := hM
  refine wpList_next_ranges w hg it hop k K.keyed (plainElem P e) K.ke E.enc (fun v l hv => by obtain ⟨x, e1, _⟩ := K.back v l hv; exact ⟨x, e1⟩) (fun v y hv => by obtain ⟨u, e1, _⟩ := E.inv v y hv; exact ⟨u, e1⟩) b r n D lt c hit h1 ?_ ?_
  · intro _ hl
    exact hDone (fun x => by rw [← h2]; exact hl _)
  · intro x u kl y w' c' hkey hl hy hat hr hc hgr hsz hen
    obtain ⟨x2, e1, e2, gx⟩ := K.back _ _ hkey
    obtain ⟨u2, e3, e4⟩ := E.inv _ _ hy
    have e5 : kl = K.kl x2 := e2
    subst e5
    have hf : f x2 = some u2 := by
      have hh := Maps.has_true_of_atKey hat
      rw [(h3 x2).1] at hh
      have ha := hat (E.dat E.zero)
      rw [(h3 x2).2, e4] at ha
      obtain ⟨v, hv⟩ := Option.isSome_iff_exists.1 hh
      rw [hv] at ha
      rw [hv]
      exact congrArg some (E.dinj _ _ ha)
    rw [e1, e3] at hen ⊢
    refine hMore x2 u2 w' c' ((h2 x2).symm.trans hl) hf gx ⟨D, _, hr, fun z => ?_, h3⟩ hc hgr hsz hen
    by_cases ez : z = x2
    · subst ez
      rw [strike_same, WideAt.sameKey_self (K.lit z)]
      simp
    · rw [strike_other _ ez, Maps.sameKey_ne (fun q => ez (K.inj _ _ q)), h2 z]
      simp
end
end Go.Proofs.Ytkmopmoglgcamaa.MapF
