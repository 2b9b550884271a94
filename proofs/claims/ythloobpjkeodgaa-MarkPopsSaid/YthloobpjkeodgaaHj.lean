/- The heap logic, part 10: reading and writing told objects, appends to an owned field, bytes and strings. No condition. -/
import Derived.Test.YthloobpjkeodgaaHi
namespace Go.Proofs.Ythloobpjkeodgaa.H
open Go
set_option linter.unusedVariables false

section
variable {P : Program} {B : RO} {h : Heap}

/-- All that the one has, the other one has, too. -/
def Le (h h' : Heap) : Prop := ∀ c o, h c = some o → h' c = some o
theorem Le.refl (h : Heap) : Le h h := fun _ _ e => e
theorem Le.trans {h h' h'' : Heap} (a : Le h h') (b : Le h' h'') : Le h h'' := fun c o e => b c o (a c o e)
theorem Le.set {h h' : Heap} {b : Nat} {o : AObj} (a : Le h h') (hb : h b = none) : Le h (h'.set b o) := fun c o' e => by
  rw [Heap.set_ne _ _ _ _ (fun e1 => by rw [e1, hb] at e; cases e)]; exact a c o' e
theorem Le.new {h : Heap} {b : Nat} {o : AObj} (hb : h b = none) : Le h (h.set b o) := (Le.refl h).set hb
theorem Le.none {h h' : Heap} {b : Nat} (a : Le h h') (hb : h' b = none) : h b = none := by
  cases e : h b with
  | none => rfl
  | some o => rw [a b o e] at hb; cases hb
theorem Heap.ne_of {h : Heap} {b c : Nat} {o : AObj} (hb : h b = none) (hc : h c = some o) : b ≠ c := fun e => by rw [e, hc] at hb; cases hb
theorem Heap.get_new {h : Heap} {b c : Nat} {o o' : AObj} (hb : h b = none) (hc : h c = some o) : h.set b o' c = some o := by
  rw [Heap.set_ne _ _ _ _ (Ne.symm (Heap.ne_of hb hc))]; exact hc
theorem Heap.get_set {h : Heap} {b c : Nat} {o' : AObj} {r : Option AObj} (hn : c ≠ b) (hc : h c = r) : h.set b o' c = r := by
  rw [Heap.set_ne _ _ _ _ hn]; exact hc
theorem Heap.made {h h' : Heap} {k : Nat} {o : AObj} (a : h k = none) (e : h' = h.set k o) : h' k = some o ∧ Le h h' ∧ ∀ c o', h c = some o' → k ≠ c ∧ h' c = some o' := by
  subst e
  exact ⟨Heap.set_same _ _ _, Le.new a, fun c o' hc => ⟨Heap.ne_of a hc, Heap.get_new a hc⟩⟩
theorem Heap.put {h h' : Heap} {k : Nat} {o : AObj} (e : h.set k o = h') : h' k = some o ∧ (∀ c, c ≠ k → h' c = h c) ∧ ∀ h0, Le h0 h → h0 k = none → Le h0 h' := by
  subst e
  exact ⟨Heap.set_same _ _ _, fun c hc => Heap.set_ne _ _ _ _ hc, fun h0 l n => l.set n⟩
theorem cellH_vec {b i n : Nat} {t : TypeId} {fs : List Fld} {v : Value} (hb : h b = some (.vec t fs n)) (hi : fs[i]? = some (.plain v)) : cellH B h ⟨b, i, none⟩ = some v := by
  simp [cellH, hb, hi]
theorem cellH_ro {b i : Nat} {c : Array Value} {t : TypeId} {fr : Nat × Nat} {v : Value} (hh : h b = none) (hb : B b = some (.cells c t fr)) (hi : c[i]? = some v) : cellH B h ⟨b, i, none⟩ = some v := by
  simp [cellH, hh, hb, hi]
theorem cellH_set_ne {b : Nat} {o : AObj} {A : Addr} (hn : A.block ≠ b) : cellH B (h.set b o) A = cellH B h A := by
  unfold cellH
  rw [Heap.set_ne _ _ _ _ hn]
theorem storeH_vec {b i n : Nat} {t : TypeId} {fs : List Fld} {u v : Value} (hb : h b = some (.vec t fs n)) (hi : fs[i]? = some (.plain u)) : storeH h ⟨b, i, none⟩ v = some (h.set b (.vec t (fs.set i (.plain v)) n)) := by
  have hl := (List.getElem?_eq_some_iff.1 hi).1
  unfold storeH
  simp only [hb]
  rw [hi]
  simp [hl]
theorem Ent.of_eq {h h' : Heap} (e : h = h') : Ent B h h' := e ▸ Ent.refl B h

theorem Appd.slice {v v' : Value} {e : TypeId} {sz : Nat} {xs ys : List Value} {h' : Heap} (hv : SlRow h v e sz xs) (ha : Appd B h v e sz xs ys v' h') : ∃ a n c, v' = .slice a n c := by
  rcases ha with ⟨_, rfl, _⟩ | ⟨k, m, n, c, nn, js, hn, rfl, _⟩
  · rcases hv with ⟨rfl, _⟩ | ⟨k, m, c, nn, js, rfl, _⟩
    · exact ⟨_, _, _, rfl⟩
    · exact ⟨_, _, _, rfl⟩
  · exact ⟨_, _, _, rfl⟩

/-- What stands behind an append to a field's slice, seen from the heap in which it was owned. -/
theorem Appd.back {b n i : Nat} {t e : TypeId} {sz : Nat} {fs : List Fld} {xs ys : List Value} {v v' : Value} {h1 h2 h3 : Heap} (hi : fs[i]? = some (.own e sz xs)) (ho : Opened B h b t fs n i e sz xs v h1) (h12 : ∀ c o, h1 c = some o → h2 c = some o) (hr : SlRow h2 v e sz xs) (ha : Appd B h2 v e sz xs ys v' h3) :
    ∃ h4, storeH h3 ⟨b, i, none⟩ v' = some h4 ∧ Ent B h4 (h.set b (.vec t (fs.set i (.own e sz (xs ++ ys))) n)) := by
  have hil := (List.getElem?_eq_some_iff.1 hi).1
  have hb2 : h2 b = some (.vec t (fs.set i (.plain v)) n) := h12 _ _ ho.blk
  have hnb : ∀ k m cc, v = .slice (some ⟨k, 0, none⟩) m cc → b ≠ k := fun k m cc e0 => Ne.symm (ho.new k m cc e0).2
  have hb3 := ha.get hb2 hnb
  have hst := storeH_vec (v := v') hb3 (i := i) (u := v) (by simp [hil])
  refine ⟨_, hst, ?_⟩
  have hsub2 : Sub h b h2 := fun c o hc hh => h12 _ _ (ho.sub c o hc hh)
  have hclose := Ent.close_row (B := B) (h0 := h) (h := h3.set b (.vec t ((fs.set i (.plain v)).set i (.plain v')) n)) (b := b) (n := n) (i := i) (t := t) (e := e) (sz := sz) (fs := (fs.set i (.plain v)).set i (.plain v')) (v := v') (xs := xs ++ ys)
    (by
      intro c o hc hh
      rw [Heap.set_ne _ _ _ _ hc]
      refine ha.get (hsub2 c o hc hh) (fun k m cc e0 e1 => ?_)
      have := (ho.new k m cc e0).1
      rw [e1, this] at hh; cases hh)
    (Heap.set_same _ _ _) (by simp [hil])
    (by
      have hrow := Appd.row hr ha
      rcases hrow with ⟨e1, e2⟩ | ⟨k, m, c, nn, js, e1, e2, e3, e4, e5⟩
      · exact .inl ⟨e1, e2⟩
      · refine .inr ⟨k, m, c, nn, js, e1, ?_, e3, e4, e5⟩
        rw [Heap.set_ne _ _ _ _ ?_]
        · exact e2
        · intro e6
          subst e6
          rcases ha with ⟨_, e7, _⟩ | ⟨k', m', n', c', nn', js', _, e7, _, _, _, _, _, e8⟩
          · subst e7; exact hnb k m c e1 rfl
          · rw [e7] at e1
            cases e1
            rcases e8 with ⟨e8, _⟩ | ⟨e8, _⟩
            · exact hnb _ _ _ e8 rfl
            · rw [e8] at hb2; cases hb2)
    (by
      intro k m c e1
      rcases ha with ⟨_, e7, _⟩ | ⟨k', m', n', c', nn', js', _, e7, _, _, _, _, _, e8⟩
      · subst e7; exact ho.new k m c e1
      · rw [e7] at e1
        cases e1
        rcases e8 with ⟨e8, _⟩ | ⟨e8, _⟩
        · exact ho.new _ _ _ e8
        · have hkb : k ≠ b := fun e9 => by rw [e9, hb2] at e8; cases e8
          refine ⟨?_, hkb⟩
          cases hk : h k with
          | none => rfl
          | some o => rw [hsub2 k o hkb hk] at e8; cases e8)
  simpa using hclose

/-- 'x.f = append(x.f, e1, ..)': x.f owned; the new ones written out. -/
theorem app_own {b n i len : Nat} {t t0 tx ty e : TypeId} {sz bz : Nat} {fs : List Fld} {xs ys zs : List Value} {K : Value → Heap → Prop} (ht : slcB P t0 = some (e, sz, bz)) (hz : zeroB P e = some zs) (hzs : zs.length = sz) (hsz : 0 < sz) (hbz : 0 < bz) (hux : slT P tx = true)
    (hb : h b = some (.vec t fs n)) (hi : fs[i]? = some (.own e sz xs)) (hy : ys.length = len * sz) (ho1 : ∀ y ∈ ys, isOne y = true) (hbd : (xs.length + ys.length) * bz ≤ 1099511627776)
    (hK : ∀ a' n' c' h3 h4, storeH h3 ⟨b, i, none⟩ (.slice a' n' c') = some h4 → Ent B h4 (h.set b (.vec t (fs.set i (.own e sz (xs ++ ys))) n)) → K (.slice a' n' c') h3) :
    LdSl B h ⟨b, i, none⟩ (fun a m c h1 => ∀ k, h1 k = none → B k = none → ∀ h2, h2 = Heap.set h1 k (.vec e (plains ys) ys.length) → semH P B (Builtin.append_ #[t0, tx] ty #[.slice a m c, .slice (some ⟨k, 0, none⟩) len len]) h2 K) := by
  refine .inr ⟨t, fs, n, e, sz, xs, rfl, hb, hi, fun a m c h1 ho k hk hB h2 e2 => ?_⟩
  subst e2
  have h12 : ∀ c' o, h1 c' = some o → (Heap.set h1 k (.vec e (plains ys) ys.length)) c' = some o := fun c' o hc => by
    rw [Heap.set_ne _ _ _ _ (fun e0 => by rw [e0, hk] at hc; cases hc)]; exact hc
  have hrow : SlRow (Heap.set h1 k (.vec e (plains ys) ys.length)) (.slice a m c) e sz xs := by
    rcases ho.row with ⟨e1, e2⟩ | ⟨k', m', c', nn, js, e1, e2, e3, e4, e5⟩
    · exact .inl ⟨e1, e2⟩
    · exact .inr ⟨k', m', c', nn, js, e1, h12 _ _ e2, e3, e4, e5⟩
  have hu : (P.underlying tx).isSome = true ∧ intB P tx = none := by
    unfold slT at hux
    unfold intB
    split at hux
    · rename_i e' hu; rw [hu]; exact ⟨rfl, rfl⟩
    · cases hux
  refine semH_append ht hz hzs hsz hbz hu.1 hu.2 hrow ⟨hy, ho1, .inl ⟨⟨k, 0, none⟩, len, rfl, ?_⟩⟩ hbd ?_
  · refine CellsAt.of_vec ys 0 (Heap.set_same _ _ _) (fun j y hj => ?_)
    simp only [Nat.zero_add]
    exact plains_get_some hj
  · intro v' h3 ha
    obtain ⟨a', n', c', rfl⟩ := ha.slice hrow
    obtain ⟨h4, s1, s2⟩ := ha.back hi ho h12 hrow
    exact hK a' n' c' h3 h4 s1 s2

/-- 'x.f = append(x.f, s...)', s a string. -/
theorem app_str {b n i : Nat} {t t0 tx ty e : TypeId} {bz : Nat} {fs : List Fld} {xs zs : List Value} {s : ByteArray} {K : Value → Heap → Prop} (ht : slcB P t0 = some (e, 1, bz)) (hz : zeroB P e = some zs) (hzs : zs.length = 1) (hbz : 0 < bz) (hux : isStr P tx = true)
    (hb : h b = some (.vec t fs n)) (hi : fs[i]? = some (.own e 1 xs)) (hbd : (xs.length + s.size) * bz ≤ 1099511627776)
    (hK : ∀ a' n' c' h3 h4, storeH h3 ⟨b, i, none⟩ (.slice a' n' c') = some h4 → Ent B h4 (h.set b (.vec t (fs.set i (.own e 1 (xs ++ s.data.toList.map fun c => .int .u8 c.toNat))) n)) → K (.slice a' n' c') h3) :
    LdSl B h ⟨b, i, none⟩ (fun a m c h1 => semH P B (Builtin.append_ #[t0, tx] ty #[.slice a m c, .string s]) h1 K) := by
  refine .inr ⟨t, fs, n, e, 1, xs, rfl, hb, hi, fun a m c h1 ho => ?_⟩
  have hu : (P.underlying tx).isSome = true ∧ intB P tx = none := by
    unfold isStr at hux
    unfold intB
    split at hux
    · rename_i hu; rw [hu]; exact ⟨rfl, rfl⟩
    · cases hux
  have hlen : (s.data.toList.map fun c => (Value.int .u8 c.toNat)).length = s.size := by simp
  refine semH_append ht hz hzs (by omega) hbz hu.1 hu.2 ho.row ⟨by rw [hlen, Nat.mul_one], ?_, .inr (.inr ⟨s, rfl, rfl, rfl⟩)⟩ (by rw [hlen]; exact hbd) ?_
  · intro y hy
    obtain ⟨c, _, rfl⟩ := List.mem_map.1 hy
    rfl
  · intro v' h3 ha
    obtain ⟨a', n', c', rfl⟩ := ha.slice ho.row
    obtain ⟨h4, s1, s2⟩ := ha.back hi ho (fun _ _ hh => hh) ho.row
    exact hK a' n' c' h3 h4 s1 s2

/-! Bytes and strings -/
def byteV (c : UInt8) : Value := .int .u8 c.toNat
theorem forIn_byteV (f : Value → ByteArray → Sem (ForInStep ByteArray)) (hf : ∀ (c : UInt8) (r : ByteArray), f (byteV c) r = pure (.yield (r.push c))) : ∀ (l : List UInt8) (s : ByteArray), (forIn (l.map byteV) s f : Sem ByteArray) = pure ⟨s.data ++ l.toArray⟩
  | [], s => by simp
  | c :: l, s => by
    simp only [List.map_cons, List.forIn_cons, hf, pure_bind]
    rw [forIn_byteV f hf l]
    congr 1
    simp [ByteArray.push]
theorem semH_bytesToString {v : Value} {e : TypeId} {bs : List UInt8} {K : Value → Heap → Prop} (hr : SlRow h v e 1 (bs.map byteV)) (k : K (.string ⟨bs.toArray⟩) h) : semH P B (Conv.bytesToString v) h K := by
  rcases hr with ⟨rfl, h2⟩ | ⟨k', m, c, nn, js, rfl, h2, h3, h4, h5⟩
  · have : bs = [] := by simpa using h2
    subst this
    exact k
  · unfold Conv.bytesToString
    simp only [Nat.mul_one, List.length_map] at h3
    subst h3
    rw [semH_bind]
    have e0 : bs.length = (bs.map byteV).length := by simp
    show semH P B (loadCellsFrom ⟨k', 0, none⟩ 0 bs.length #[]) h _
    rw [e0]
    refine semH_loadCells (bs.map byteV) 0 #[] (CellsAt.of_vec _ 0 h2 (fun j y hj => ?_)) ?_
    · simp only [Nat.zero_add]
      exact plains_get_some (by rw [List.getElem?_append_left (List.getElem?_eq_some_iff.1 hj).1]; exact hj)
    · simp only [List.nil_append, List.append_toArray]
      rw [List.forIn_toArray, forIn_byteV, pure_bind, semH_pure]
      · simpa using k
      · intro c r
        simp [byteV]
def byteStr (P : Program) (src dst : TypeId) : Bool := match P.underlying src, P.underlying dst with
  | some (.slice e), some .string => (match P.underlying e with | some (.int .u8) => true | _ => false)
  | _, _ => false
theorem semH_convB {src dst : TypeId} {a : Option Addr} {l c : Nat} {K : Value → Heap → Prop} (ht : byteStr P src dst = true) (k : semH P B (Conv.bytesToString (.slice a l c)) h K) : semH P B (convert src dst (.slice a l c)) h K := by
  unfold byteStr at ht
  split at ht
  · rename_i e e1 e2
    split at ht
    · rename_i e3
      unfold convert
      rw [semH_und e1, semH_und e2]
      simp only
      rw [semH_und e3]
      exact k
    · cases ht
  · cases ht
/-- A field that was looked at, and not changed, is as it was. -/
theorem Opened.back {b n i : Nat} {t e : TypeId} {sz : Nat} {fs : List Fld} {xs : List Value} {v : Value} {h1 : Heap} (hb : h b = some (.vec t fs n)) (hi : fs[i]? = some (.own e sz xs)) (ho : Opened B h b t fs n i e sz xs v h1) : Ent B h1 h := by
  have hl := (List.getElem?_eq_some_iff.1 hi).1
  have := Ent.close_row (B := B) (h0 := h) (h := h1) (e := e) (sz := sz) (xs := xs) (i := i) (fs := fs.set i (.plain v)) (n := n) (b := b) (t := t) (v := v) ho.sub ho.blk (by simp [hl]) ho.row ho.new
  refine this.trans (Ent.of_eq ?_)
  rw [List.set_set]
  have e1 : fs.set i (.own e sz xs) = fs := by
    obtain ⟨_, h2⟩ := List.getElem?_eq_some_iff.1 hi
    rw [← h2]; exact List.set_getElem_self hl
  rw [e1, Heap.set_self _ _ _ hb]
end
end Go.Proofs.Ythloobpjkeodgaa.H
