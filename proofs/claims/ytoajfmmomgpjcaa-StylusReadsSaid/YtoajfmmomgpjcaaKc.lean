/- What the functions of the document's answer for the stylus do, and put and great: contracts. No condition. -/
import Derived.Test.YtoajfmmomgpjcaaKa
import Derived.Test.YtoajfmmomgpjcaaHl
namespace Go.Proofs.Ytoajfmmomgpjcaa.H
open Go
set_option linter.unusedVariables false
set_option maxRecDepth 100000

theorem TK.byteStr : byteStr PG TY.s_uint8 TY.string = true := by kernel_rfl

section
variable {B : RO} {h : Heap}

theorem one_string {k : Nat} {x : Int} {u : UInt8} {K : Value → Heap → Prop} (hk : h k = some (.vec TY.uint8 (plains [.int .u8 x]) 1)) (hx : x = ((u.toNat : Nat) : Int)) (hK : K (.string (ba [u])) h) :
    semH PG B (convert TY.s_uint8 TY.string (.slice (some ⟨k, 0, none⟩) 1 1)) h K := by
  subst hx
  refine semH_convB TK.byteStr (semH_bytesToString (e := TY.uint8) (bs := [u]) (.inr ⟨k, 1, 1, 1, [], rfl, hk, rfl, by omega, by omega⟩) hK)

theorem wide_wp {n : Nat} {Q : ByteArray → Heap → Prop} (hn : n < 18446744073709551616) (hQ : Q (ba (natB n)) h) : C_countermandref01_Wide B n h Q := by
  refine C_countermandref01_Wide.of ?_
  unfold S_countermandref01_Wide
  refine ⟨fun i s m h' => ∃ (v : Nat) (pre : List UInt8), i = v ∧ v = m ∧ s = ba pre ∧ pre ++ natB v = natB n ∧ v ≤ n ∧ h' = h, n, Fin.of ⟨n, [], rfl, rfl, rfl, rfl, Nat.le_refl _, rfl⟩, ?_⟩
  rintro _ _ _ _ ⟨v, pre, rfl, rfl, rfl, hpre, hvn, rfl⟩
  have hpl : pre.length ≤ 10 := by
    have := congrArg List.length hpre
    have := natB_length hn
    simp only [List.length_append] at *; omega
  have hvl : v < 18446744073709551616 := by omega
  refine ⟨fun hgt => ⟨by decide, fun k hk1 hk2 h20 e20 => ?_⟩, fun hle => Fin.of ?_⟩
  · obtain ⟨g, l, -⟩ := Heap.made hk1 e20
    refine one_string (u := UInt8.ofNat (v % 128 + 128)) g ?_ ?_
    · rw [wu8, wu64, Int.tmod_eq_emod_of_nonneg (by omega)]
      simp only [UInt8.toNat_ofNat']; omega
    · refine ⟨_, rfl, by rw [ba_size, ba_size]; simp; omega, by decide, Fin.ent (Ent.forget l) (Fin.of ⟨v / 128, by omega, v / 128, pre ++ [UInt8.ofNat (v % 128 + 128)], ?_, rfl, (ba_append _ _).symm, ?_, by omega, rfl⟩)⟩
      · rw [Int.tdiv_eq_ediv_of_nonneg (by omega), wu64]; omega
      · rw [← hpre, natB_hi (n := v) (by omega)]; simp
  · unfold S_countermandref01_Wide_J1
    intro k hk1 hk2 h8 e8
    obtain ⟨g, l, -⟩ := Heap.made hk1 e8
    refine one_string (u := UInt8.ofNat v) g (lowByte (by omega)) ⟨_, rfl, by rw [ba_size, ba_size]; simp; omega, Fin.ent (Ent.forget l) (Fin.of ?_)⟩
    rw [← ba_append, ← natB_lo (n := v) (by omega), hpre]
    exact hQ

theorem refNat_wp {i : Int} {Q : ByteArray → Heap → Prop} (hi : i ≤ 9223372036854775807) (hQ : Q (ba (natI i)) h) : C_countermandref01_Nat B i h Q := by
  refine C_countermandref01_Nat.of ?_
  unfold S_countermandref01_Nat
  refine ⟨fun hn => Fin.of ?_, fun hn => ?_⟩
  · rw [natI, if_pos hn] at hQ; exact hQ
  · have e : IntKind.wrap .u64 i = ((i.toNat : Nat) : Int) := by rw [wu64]; omega
    rw [e]
    refine wide_wp (by omega) (Fin.of ?_)
    rw [natI, if_neg hn] at hQ; exact hQ

theorem refInt_wp {i : Int} {Q : ByteArray → Heap → Prop} (hi : -9223372036854775808 ≤ i ∧ i ≤ 9223372036854775807) (hQ : Q (ba (natB (zig i))) h) : C_countermandref01_Int B i h Q := by
  refine C_countermandref01_Int.of ?_
  unfold S_countermandref01_Int
  refine ⟨fun hn => ?_, fun hn => ?_⟩
  · have e : IntKind.wrap .u64 ((IntKind.wrap .u64 ((2) * (IntKind.wrap .u64 (IntKind.wrap .i64 (0 - (IntKind.wrap .i64 ((i) + (1)))))))) + (1)) = ((zig i : Nat) : Int) := by
      have e1 : IntKind.wrap .i64 ((i) + (1)) = i + 1 := w64 (by omega) (by omega)
      rw [e1, w64 (by omega) (by omega), wu64, wu64, wu64, zig, if_pos hn]; omega
    rw [e]
    exact wide_wp (zig_lt hi.1 hi.2) (Fin.of hQ)
  · have e : IntKind.wrap .u64 ((2) * (IntKind.wrap .u64 (i))) = ((zig i : Nat) : Int) := by
      rw [wu64, wu64, zig, if_neg hn]; omega
    rw [e]
    exact wide_wp (zig_lt hi.1 hi.2) (Fin.of hQ)

theorem refText_wp {s : ByteArray} {Q : ByteArray → Heap → Prop} (hs : s.size ≤ 1099511627776) (hQ : Q (ba (natB s.size ++ bl s)) h) : C_countermandref01_Text B s h Q := by
  refine C_countermandref01_Text.of ?_
  unfold S_countermandref01_Text
  refine refNat_wp (by omega) ?_
  have e : natI ((s.size : Nat) : Int) = natB s.size := by rw [natI, if_neg (by omega)]; rfl
  rw [e]
  have := natB_length (n := s.size) (by omega)
  refine ⟨by rw [ba_size]; omega, Fin.of ?_⟩
  rw [ba_append, ba_bl] at hQ
  exact hQ

/-! Items -/
structure Item where
  kind : Int
  n : Int
  s : ByteArray
def Item.cells (x : Item) : List Value := [.int .i64 x.kind, .int .i64 x.n, .string x.s]
def Item.ok (x : Item) : Prop := -9223372036854775808 ≤ x.n ∧ x.n ≤ 9223372036854775807
theorem TK.item_sl : PG.underlying TY.s_countermandlaw01_Item = some (.slice TY.countermandlaw01_Item) := by kernel_rfl
theorem TK.item_kd : leafB PG 5 TY.countermandlaw01_Item = some [.int .i64, .int .i64, .str] := by kernel_rfl
theorem Item_key {H : Type} {enc : TypeId × Value → H} {P : Program} {w : World} {base : Nat} {spare : Nat → Bool} {held : Bool} (vs : List Value) (h : KdsOk enc P w base spare held [.int .i64, .int .i64, .str] vs) : ∃ x : Item, vs = x.cells ∧ x.ok := by
  obtain ⟨z1, v1, rfl, _, h⟩ := h.int
  obtain ⟨z2, v2, rfl, w2, h⟩ := h.int
  obtain ⟨s, v3, rfl, _, h⟩ := h.str
  obtain rfl := h.nil
  exact ⟨⟨z1, z2, s⟩, rfl, wf64 w2⟩
theorem Item_arg {H : Type} {enc : TypeId × Value → H} {w : World} {base : Nat} {spare : Nat → Bool} {held : Bool} {a : Option Addr} {len cap : Nat} {d : DataW H} {p : List MemPlace} (h : DataW.Trod enc PG w base spare held TY.s_countermandlaw01_Item (.slice a len cap) d p) :
    ∃ l : List Item, len = l.length ∧ Reads (roOf w) noHeap a 3 Item.cells l ∧ ∀ x ∈ l, x.ok :=
  arg_rows Item.cells Item.ok TK.item_sl TK.item_kd rfl (by omega) Item_key h
def Item.bytes (x : Item) : List UInt8 :=
  if x.kind = 0 then natI x.n else if x.kind = 1 then natB (zig x.n) else if x.kind = 2 then bl x.s else if x.kind = 3 then natB x.s.size ++ bl x.s else []
def itemsB (l : List Item) : List UInt8 := l.flatMap Item.bytes

def itemsRoom (l : List Item) : Nat := (l.map fun x => x.s.size + 50).sum
theorem Item.bytes_length {x : Item} (h : x.ok) (hs : x.s.size ≤ 1099511627776) : x.bytes.length ≤ x.s.size + 10 := by
  unfold Item.bytes
  split
  · have := natI_length h.2; omega
  · split
    · have := natB_length (zig_lt h.1 h.2); omega
    · split
      · rw [bl_length]; omega
      · split
        · have := natB_length (n := x.s.size) (by omega)
          rw [List.length_append, bl_length]; omega
        · simp
theorem itemsB_length : ∀ (l : List Item), (∀ x ∈ l, x.ok) → itemsRoom l ≤ 1099511627776 → (itemsB l).length + 40 * l.length ≤ itemsRoom l
  | [], _, _ => by simp [itemsB, itemsRoom]
  | x :: l, h, hr => by
    simp only [itemsRoom, List.map_cons, List.sum_cons] at hr
    have h1 := Item.bytes_length (h x (by simp)) (by omega)
    have h2 := itemsB_length l (fun y hy => h y (by simp [hy])) (by simp only [itemsRoom]; omega)
    simp only [itemsB, itemsRoom, List.flatMap_cons, List.length_append, List.map_cons, List.sum_cons, List.length_cons] at *
    omega
theorem itemsB_take_succ (l : List Item) (k : Nat) (hk : k < l.length) : itemsB (l.take (k + 1)) = itemsB (l.take k) ++ l[k].bytes := by
  unfold itemsB; rw [List.take_succ_eq_append_getElem hk, List.flatMap_append, List.flatMap_cons, List.flatMap_nil, List.append_nil]
theorem itemsRoom_at (l : List Item) (k : Nat) (hk : k < l.length) : itemsRoom (l.take k) + (l[k].s.size + 50) ≤ itemsRoom l := by
  have : l = l.take k ++ (l[k] :: l.drop (k + 1)) := by rw [← List.drop_eq_getElem_cons hk, List.take_append_drop]
  conv => rhs; rw [this]
  simp only [itemsRoom, List.map_append, List.sum_append, List.map_cons, List.sum_cons]; omega

theorem put_wp {a : Option Addr} {c : Nat} {l : List Item} {Q : ByteArray → ByteArray → Heap → Prop} (hr : Reads B h a 3 Item.cells l) (hok : ∀ x ∈ l, x.ok) (hroom : itemsRoom l ≤ 1099511627000)
    (hQ : Q (ba (itemsB l)) (ba (itemsB l)) h) : C_countermandlaw01_put B a l.length c h Q := by
  refine C_countermandlaw01_put.of ?_
  unfold S_countermandlaw01_put
  intro k6 a6 b6 h7 e7
  obtain ⟨g7, l7, -⟩ := Heap.made a6 e7
  refine ⟨fun s i m h' => ∃ k : Nat, k ≤ l.length ∧ i = k ∧ m = l.length - k ∧ s = ba (itemsB (l.take k)) ∧ h' = h.set k6 (stylO (itemsB (l.take k))), l.length, Fin.ent (styl_new g7) (Fin.of ⟨0, by omega, rfl, by omega, rfl, by rw [e7, Heap.set_set]; rfl⟩), ?_⟩
  rintro _ _ _ _ ⟨k, hk, rfl, rfl, rfl, rfl⟩
  have hlen := itemsB_length l hok (by omega)
  have gs : (h.set k6 (stylO (itemsB (l.take k)))) k6 = some (stylO (itemsB (l.take k))) := Heap.set_same _ _ _
  refine ⟨fun hlt => ?_, fun hge => ?_⟩
  · have hk' : k < l.length := by omega
    have hw : IntKind.wrap .i64 ((k : Int) + 1) = ((k + 1 : Nat) : Int) := by rw [w64 (by omega) (by omega)]; omega
    have hrm := itemsRoom_at l k hk'
    have htl := itemsB_length (l.take k) (fun x hx => hok x (List.mem_of_mem_take hx)) (by omega)
    have hokk := hok l[k] (List.getElem_mem hk')
    obtain ⟨A, e1, e3, e4⟩ := hr k l[k] (List.getElem?_eq_getElem hk')
    have hAk : A.block ≠ k6 := fun e => by rw [e] at e3; exact e3 a6 b6
    refine ⟨A, e1, by omega, hlt, l[k].kind, l[k].n, l[k].s, ?_, fun k21 a21 b21 h22 e22 => ?_⟩
    · have e5 := CellsAt.set (o := stylO (itemsB (l.take k))) (b := k6) (by rw [Addr.add_block']; exact hAk) e4
      simpa [Item.cells] using e5
    obtain ⟨g22, l22, f22⟩ := Heap.made a21 e22
    obtain ⟨n216, g22'⟩ := f22 _ _ gs
    refine ⟨_, stores_whole g22 rfl (by simp) (by simp [isOne]) (by simp), ?_⟩
    generalize e23 : h22.set k21 _ = h23
    obtain ⟨g23, f23, -⟩ := Heap.put e23
    have g23' : h23 k6 = _ := f23 _ (Ne.symm n216)
    rw [g22'] at g23'
    -- what is left at a round's end
    have back : ∀ (h' : Heap) (bs : List UInt8), h' k6 = some (stylO bs) → (∀ c o, c ≠ k6 → h c = some o → h' c = some o) → bs = itemsB (l.take k) ++ l[k].bytes →
        Fin B h' (fun h' => ∃ m', m' < l.length - k ∧ ∃ k_1 : Nat, k_1 ≤ l.length ∧ IntKind.wrap .i64 ((k : Int) + 1) = (k_1 : Int) ∧ m' = l.length - k_1 ∧ ba (itemsB (l.take k)) ++ ba (l[k].bytes) = ba (itemsB (l.take k_1)) ∧ h' = h.set k6 (stylO (itemsB (l.take k_1)))) := by
      intro h' bs q1 q2 q3
      refine Fin.ent (Ent.forget (h' := h.set k6 (stylO (itemsB (l.take (k + 1))))) ?_) (Fin.of ⟨_, by omega, k + 1, by omega, hw, rfl, by rw [itemsB_take_succ l k hk', ba_append], rfl⟩)
      intro c o hc
      by_cases hck : c = k6
      · subst hck
        rw [Heap.set_same] at hc
        rw [q1, q3, ← itemsB_take_succ l k hk']; exact hc
      · rw [Heap.set_ne _ _ _ _ hck] at hc
        exact q2 c o hck hc
    have q23 : ∀ c o, c ≠ k6 → h c = some o → h23 c = some o := by
      intro c o hc hh
      have h1 : (h.set k6 (stylO (itemsB (l.take k)))) c = some o := Heap.get_set hc hh
      rw [f23 c (fun e => by rw [e, a21] at h1; cases h1)]
      exact l22 _ _ h1
    have hbl := Item.bytes_length hokk (by omega)
    have fits : ∀ bs : List UInt8, bs.length ≤ l[k].s.size + 10 → ByteArray.size (ba (itemsB (l.take k))) + ByteArray.size (ba bs) ≤ 4611686018427387904 := by
      intro bs hb; rw [ba_size, ba_size]; omega
    refine ⟨l[k].kind, cellH_vec g23 rfl, fun hk0 => ?_, fun hk0 => ⟨fun hk1 => ?_, fun hk1 => ⟨fun hk2 => ?_, fun hk2 => ⟨fun hk3 => ?_, fun hk3 => ?_⟩⟩⟩⟩
    · have hb : l[k].bytes = natI l[k].n := by simp [Item.bytes, hk0]
      refine ⟨l[k].n, cellH_vec g23 rfl, fun k27 a27 b27 h28 e28 => ?_⟩
      obtain ⟨g28, l28, f28⟩ := Heap.made a27 e28
      obtain ⟨n1, g1⟩ := f28 _ _ g23'
      obtain ⟨n2, g2⟩ := f28 _ _ g23
      refine nat1_wp g1 g28 n1 hokk.2 (by omega) ?_
      generalize e29 : h28.set k6 _ = h29
      obtain ⟨g29, f29, -⟩ := Heap.put e29
      have g3 := f29 k21 n216
      rw [g2] at g3
      refine ⟨l[k].n, cellH_vec g3 rfl, refNat_wp hokk.2 ⟨fits _ (by rw [← hb]; exact hbl), ?_⟩⟩
      rw [← hb] at g29 ⊢
      exact back h29 _ g29 (fun c o hc hh => (f29 c hc).trans (l28 _ _ (q23 c o hc hh))) rfl
    · have hb : l[k].bytes = natB (zig l[k].n) := by simp [Item.bytes, hk1]
      refine ⟨l[k].n, cellH_vec g23 rfl, fun k27 a27 b27 h28 e28 => ?_⟩
      obtain ⟨g28, l28, f28⟩ := Heap.made a27 e28
      obtain ⟨n1, g1⟩ := f28 _ _ g23'
      obtain ⟨n2, g2⟩ := f28 _ _ g23
      refine int1_wp g1 g28 n1 hokk (by omega) ?_
      generalize e29 : h28.set k6 _ = h29
      obtain ⟨g29, f29, -⟩ := Heap.put e29
      have g3 := f29 k21 n216
      rw [g2] at g3
      refine ⟨l[k].n, cellH_vec g3 rfl, refInt_wp hokk ⟨fits _ (by rw [← hb]; exact hbl), ?_⟩⟩
      rw [← hb] at g29 ⊢
      exact back h29 _ g29 (fun c o hc hh => (f29 c hc).trans (l28 _ _ (q23 c o hc hh))) rfl
    · have hb : l[k].bytes = bl l[k].s := by simp [Item.bytes, hk2]
      refine ⟨l[k].s, cellH_vec g23 rfl, raw_wp g23' (by omega) ?_⟩
      generalize e29 : h23.set k6 _ = h29
      obtain ⟨g29, f29, -⟩ := Heap.put e29
      have g3 := f29 k21 n216
      rw [g23] at g3
      refine ⟨l[k].s, cellH_vec g3 rfl, by rw [ba_size]; omega, ?_⟩
      rw [← hb] at g29
      have := back h29 _ g29 (fun c o hc hh => (f29 c hc).trans (q23 c o hc hh)) rfl
      rw [hb, ba_bl] at this
      exact this
    · have hb : l[k].bytes = natB l[k].s.size ++ bl l[k].s := by simp [Item.bytes, hk3]
      refine ⟨l[k].s, cellH_vec g23 rfl, fun k27 a27 b27 h28 e28 => ?_⟩
      obtain ⟨g28, l28, f28⟩ := Heap.made a27 e28
      obtain ⟨n1, g1⟩ := f28 _ _ g23'
      obtain ⟨n2, g2⟩ := f28 _ _ g23
      refine text1_wp g1 g28 n1 (by omega) ?_
      generalize e29 : h28.set k6 _ = h29
      obtain ⟨g29, f29, -⟩ := Heap.put e29
      have g3 := f29 k21 n216
      rw [g2] at g3
      refine ⟨l[k].s, cellH_vec g3 rfl, refText_wp (by omega) ⟨fits _ (by rw [← hb]; exact hbl), ?_⟩⟩
      rw [← hb] at g29 ⊢
      exact back h29 _ g29 (fun c o hc hh => (f29 c hc).trans (l28 _ _ (q23 c o hc hh))) rfl
    · have hb : l[k].bytes = [] := by simp [Item.bytes, hk0, hk1, hk2, hk3]
      have := back h23 (itemsB (l.take k)) g23' q23 (by rw [hb, List.append_nil])
      rw [hb, show ba [] = ByteArray.mk #[] from rfl] at this
      have e0 : ba (itemsB (l.take k)) ++ ByteArray.mk #[] = ba (itemsB (l.take k)) := by
        rw [show ByteArray.mk #[] = ba [] from rfl, ← ba_append, List.append_nil]
      rw [e0] at this
      exact this
  · have : k = l.length := by omega
    subst this
    rw [List.take_length] at gs ⊢
    exact bytes_wp gs (Fin.ent (Ent.forget (fun c o hc => by rw [Heap.get_new a6 hc])) (Fin.of hQ))

def itemsSum (l : List Item) : Nat := (l.map fun x => x.s.size).sum
theorem itemsSum_take_succ (l : List Item) (k : Nat) (hk : k < l.length) : itemsSum (l.take (k + 1)) = itemsSum (l.take k) + l[k].s.size := by
  unfold itemsSum; rw [List.take_succ_eq_append_getElem hk, List.map_append, List.sum_append]; rfl
theorem itemsRoom_sum (l : List Item) : itemsRoom l = itemsSum l + 50 * l.length := by
  unfold itemsRoom itemsSum
  induction l with
  | nil => rfl
  | cons x l ih => simp only [List.map_cons, List.sum_cons, List.length_cons]; omega

theorem great_wp {a : Option Addr} {c : Nat} {l : List Item} {Q : Bool → Heap → Prop} (hr : Reads B h a 3 Item.cells l)
    (hQ : ∀ b, (b = false → l.length ≤ 50 ∧ itemsSum l ≤ 2048) → Q b h) : C_countermandlaw01_great B a l.length c h Q := by
  refine C_countermandlaw01_great.of ?_
  unfold S_countermandlaw01_great
  refine ⟨fun _ => Fin.of (hQ true (fun e => by cases e)), fun h50 => ?_⟩
  refine ⟨fun s i m h' => ∃ k : Nat, k ≤ l.length ∧ i = k ∧ m = l.length - k ∧ s = (itemsSum (l.take k) : Nat) ∧ itemsSum (l.take k) ≤ 2048 ∧ h' = h, l.length, Fin.of ⟨0, by omega, rfl, by omega, rfl, by simp [itemsSum], rfl⟩, ?_⟩
  rintro _ _ _ _ ⟨k, hk, rfl, rfl, rfl, hs, rfl⟩
  refine ⟨fun hlt => ?_, fun hge => ?_⟩
  · have hk' : k < l.length := by omega
    have hw : IntKind.wrap .i64 ((k : Int) + 1) = ((k + 1 : Nat) : Int) := by rw [w64 (by omega) (by omega)]; omega
    obtain ⟨A, e1, e3, e4⟩ := hr k l[k] (List.getElem?_eq_getElem hk')
    refine ⟨A, e1, by omega, hlt, l[k].kind, l[k].n, l[k].s, (by simpa [Item.cells] using e4), fun k19 a19 b19 h20 e20 => ?_⟩
    obtain ⟨g20, l20, -⟩ := Heap.made a19 e20
    refine ⟨_, stores_whole g20 rfl (by simp) (by simp [isOne]) (by simp), ?_⟩
    generalize e21 : h20.set k19 _ = h21
    obtain ⟨g21, f21, p21⟩ := Heap.put e21
    have back := Ent.forget (B := B) (p21 _ l20 a19)
    refine ⟨l[k].s, cellH_vec g21 rfl, fun _ => Fin.ent back (Fin.of (hQ true (fun e => by cases e))), fun hle => ⟨l[k].s, cellH_vec g21 rfl, ?_⟩⟩
    have hw2 : IntKind.wrap .i64 ((itemsSum (l.take k) : Nat) + ((ByteArray.size l[k].s : Nat) : Int)) = ((itemsSum (l.take (k + 1)) : Nat) : Int) := by
      rw [itemsSum_take_succ l k hk', w64 (by omega) (by omega)]; omega
    rw [hw2]
    refine ⟨fun _ => Fin.ent back (Fin.of (hQ true (fun e => by cases e))), fun hle2 => ?_⟩
    exact Fin.ent back (Fin.of ⟨_, by omega, k + 1, by omega, hw, rfl, rfl, by omega, rfl⟩)
  · have : k = l.length := by omega
    subst this
    rw [List.take_length] at hs
    exact Fin.of (hQ false (fun _ => ⟨by omega, hs⟩))

end
end Go.Proofs.Ytoajfmmomgpjcaa.H
