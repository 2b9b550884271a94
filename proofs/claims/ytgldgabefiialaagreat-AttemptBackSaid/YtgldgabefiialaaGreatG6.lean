/- What the law's proof stands on, part 6. No condition. -/
import Derived.Test.YtgldgabefiialaaGreatG5
namespace Go.Proofs.YtgldgabefiialaaGreat.H
open Go Go.RowKit
set_option linter.unusedVariables false
set_option maxRecDepth 100000
section
variable {B : RO} {h0 h h' : Heap} {L : List (Option (Nat × AObj))} {r rd : Option (Nat × AObj)} {v vd : Value} {l z : FL} {d : DFL} {n : Int} {x : ShI} {f : FileS} {from' tj : Int}
theorem make_wp {b : Bool} {s : ByteArray} {Q : Bool → ByteArray → Heap → Prop} (hQ : ∀ h', Wk B h h' → Q true s h') : C_file_Make B b s h Q := by
  refine C_file_Make.of ?_
  unfold S_file_Make
  intro k5 a5 b5 h6 e6 k7 a7 b7 h8 e8
  have E := ((Keep.nil B h).made a5 b5 e6).made a7 b7 e8
  refine ⟨_, E.cell 0 rfl rfl, _, stores_whole E.last rfl (by simp) (by simp [isOne]) (by simp), ?_⟩
  have E1 := E.putLast (fO (true, s))
  exact ⟨_, _, ⟨cellH_vec E1.last rfl, cellH_vec E1.last rfl, trivial⟩, Fin.of (hQ _ E1.w)⟩
end
end Go.Proofs.YtgldgabefiialaaGreat.H
namespace Go.Proofs.YtgldgabefiialaaGreat.H
open Go Go.RowKit
set_option linter.unusedVariables false
set_option maxRecDepth 100000
theorem semH_convStr {P : Program} {B : RO} {h : Heap} {src dst e : TypeId} {s : ByteArray} {K : Value → Heap → Prop} (h1 : P.underlying src = some .string) (h2 : P.underlying dst = some (.slice e)) (h3 : P.underlying e = some (.int .u8)) (he : e = 5)
    (hk : ∀ k c nn js, h k = none → B k = none → s.size ≤ c → c ≤ nn → K (.slice (some ⟨k, 0, none⟩) s.size c) (h.set k (.vec e (plains ((bl s).map byteV ++ js)) nn))) : semH P B (convert src dst (.string s)) h K := by
  unfold convert
  rw [semH_und h1, semH_und h2]
  simp only
  rw [semH_und h3]
  show semH P B (Conv.stringToBytes e s) h K
  unfold Conv.stringToBytes
  refine semH_choose rfl fun q => ?_
  have hcut : s.size ≤ (Question.appendCap s.size 0 e).cut q := by simp [Question.cut]
  generalize (Question.appendCap s.size 0 e).cut q = c at hcut
  refine semH_newRow fun b hb1 hb2 => ?_
  have e1 : ((s.data.map fun b => (Value.int .u8 b.toNat)) ++ Array.replicate (c - s.size) (Value.int .u8 0)).toList = (bl s).map byteV ++ List.replicate (c - s.size) (.int .u8 0) := by
    simp [bl, byteV]
  have e2 : ((s.data.map fun b => (Value.int .u8 b.toNat)) ++ Array.replicate (c - s.size) (Value.int .u8 0)).size = c := by
    simp only [Array.size_append, Array.size_map, Array.size_replicate]
    have : s.data.size = s.size := rfl
    omega
  rw [e1, e2, semH_bind]
  unfold markStringish
  rw [semH_bind]
  refine ⟨some (e, c), by simp [shapeH, Heap.set_same], ?_⟩
  refine ⟨⟨e, _, c, Heap.set_same _ _ _, Nat.le_refl _, he⟩, by omega, ?_⟩
  exact hk b c c _ hb1 hb2 hcut (Nat.le_refl _)
theorem TK.und_str : PG.underlying TY.string = some .string := by kernel_rfl
theorem TK.und_bytes : PG.underlying TY.s_uint8 = some (.slice TY.uint8) := by kernel_rfl
theorem TK.und_u8 : PG.underlying TY.uint8 = some (.int .u8) := by kernel_rfl
def padT (n : Nat) (l : List UInt8) : List UInt8 := l ++ List.replicate (n - l.length) 0
theorem padT_len (n : Nat) (l : List UInt8) : (padT n l).length = max l.length n := by simp [padT]; omega
theorem padT_self {n : Nat} {l : List UInt8} (h : n ≤ l.length) : padT n l = l := by
  unfold padT; rw [show n - l.length = 0 by omega]; simp
theorem padT_succ {n : Nat} {l : List UInt8} (h : l.length ≤ n) : padT n l ++ [0] = padT (n + 1) l := by
  unfold padT; rw [show n + 1 - l.length = n - l.length + 1 by omega, List.replicate_succ', List.append_assoc]
def putT (l : List UInt8) (k : Nat) (c : UInt8) : List UInt8 := (padT (k + 1) l).set k c
def putF (f : FileS) (at' : Int) (c : UInt8) : FileS := if 0 ≤ at' ∧ at' < 32 then (true, ba (putT (bl f.2) at'.toNat c)) else f
def cutT (l : List UInt8) (n : Nat) : List UInt8 := (padT n l).take n
def cutF (f : FileS) (n : Int) : FileS := if f.1 = true ∧ 0 ≤ n ∧ n ≤ 32 then (true, ba (cutT (bl f.2) n.toNat)) else f
theorem cutT_len (l : List UInt8) (n : Nat) : (cutT l n).length = n := by unfold cutT; rw [List.length_take, padT_len]; omega
theorem putT_len (l : List UInt8) (k : Nat) (c : UInt8) : (putT l k c).length = max l.length (k + 1) := by unfold putT; rw [List.length_set, padT_len]
theorem map_flat (l : List UInt8) : l.map byteV = l.flatMap fun c => [byteV c] := by induction l with | nil => rfl | cons c l ih => simp [ih]
section
variable {B : RO} {h h0 : Heap} {L : List (Option (Nat × AObj))} {b : Bool} {s : ByteArray}
def fiO (f : FileS) : AObj := .vec TY.file_File (plains [.bool f.1, .string f.2]) 2
theorem fput_wp {at' v : Int} {c : UInt8} (hv : v = ((c.toNat : Nat) : Int)) (hs : s.size ≤ 1000000) {Q : Bool → ByteArray → Heap → Prop} (hQ : ∀ h', Wk B h h' → Q (putF (b, s) at' c).1 (putF (b, s) at' c).2 h') : C_file_Put B b s at' v h Q := by
  refine C_file_Put.of ?_
  unfold S_file_Put
  intro k7 a7 b7 h8 e8 k9 a9 b9 h10 e10
  have E := ((Keep.nil B h).made a7 b7 e8).made a9 b9 e10
  have E : Keep B h [some (k7, fiO (b, s)), some (k9, fiO (false, ByteArray.empty))] h10 := E
  have done : ¬ (0 ≤ at' ∧ at' < 32) → ∃ b45 : Bool, ∃ s46 : ByteArray, CellsAt B h10 ⟨k7, 0, none⟩ 0 [(.bool b45), (.string s46)] ∧ ∃ h47 : Heap, StoresAt ⟨k9, 0, none⟩ h10 0 [(.bool b45), (.string s46)] h47 ∧
      ∃ b48 : Bool, ∃ s49 : ByteArray, CellsAt B h47 ⟨k9, 0, none⟩ 0 [(.bool b48), (.string s49)] ∧ Fin B h47 (Q (b48) s49) := fun hn => by
    unfold putF at hQ
    rw [if_neg hn] at hQ
    refine ⟨b, s, ⟨E.cell 0 rfl (j := 0) rfl, E.cell 0 rfl (j := 1) rfl, trivial⟩, _, stores_whole (E.at 1 rfl) rfl (by simp) (by simp [isOne]) (by simp), ?_⟩
    have E1 := E.put (o' := fiO (b, s)) 1 rfl
    exact ⟨_, _, ⟨E1.cell 1 rfl (j := 0) rfl, E1.cell 1 rfl (j := 1) rfl, trivial⟩, Fin.of (hQ _ E1.w)⟩
  refine ⟨fun hlt => done (by omega), fun hge => ⟨fun h32 => done (by omega), fun hlt => Fin.of ?_⟩⟩
  clear done
  have hin : 0 ≤ at' ∧ at' < 32 := by omega
  obtain ⟨k, rfl⟩ := Int.eq_ofNat_of_zero_le hin.1
  unfold putF at hQ
  rw [if_pos hin, Int.toNat_natCast] at hQ
  unfold S_file_Put_J1
  refine ⟨s, E.cell 0 rfl (j := 1) rfl, semH_convStr TK.und_str TK.und_bytes TK.und_u8 rfl fun kr c0 nn js hk1 hk2 hc1 hc2 => ⟨_, _, _, rfl, ?_⟩⟩
  have E1 := E.new (o := .vec TY.uint8 (plains ((bl s).map byteV ++ js)) nn) hk1 hk2
  have R1 : Row (some (kr, .vec TY.uint8 (plains ((bl s).map byteV ++ js)) nn)) (.slice (some ⟨kr, 0, none⟩) s.size c0) TY.uint8 1 ((bl s).map byteV) := .inr ⟨kr, s.size, c0, nn, js, rfl, rfl, by simp [bl_length], hc1, by omega⟩
  refine ⟨fun a n c m h' => ∃ r l, Row r (.slice a n c) TY.uint8 1 (l.map byteV) ∧ l.length = n ∧ l = padT n (bl s) ∧ s.size ≤ n ∧ n ≤ max s.size (k + 1) ∧ m = k + 1 - n ∧ Keep B h [some (k7, fiO (b, s)), some (k9, fiO (false, ByteArray.empty)), r] h', k + 1 - s.size, Fin.of ⟨_, bl s, R1, bl_length s, (padT_self (by rw [bl_length]; omega)).symm, by omega, by omega, rfl, E1⟩, ?_⟩
  clear E1 R1 E
  rintro a n c1 _ h34 ⟨r, l, R, hl, hp, hn1, hn2, rfl, E⟩
  refine ⟨fun hle k39 hk1 hk2 h40 e40 => ?_, fun hgt => Fin.of ?_⟩
  · refine E.push1 2 rfl R TK.slc_bytes TK.zero_byte rfl (by omega) (by omega) TK.sl_bytes (ys := [.int .u8 0]) rfl (by simp [isOne]) (by simp; omega) hk1 hk2 e40 fun a' m' c' r' h'' R' E' => ⟨_, _, _, rfl, Fin.of ?_⟩
    have e1 : m' = n + 1 := by
      have := R'.len
      simp only [List.length_append, List.length_map, List.length_cons, List.length_nil] at this
      omega
    subst e1
    refine ⟨k + 1 - (n + 1), by omega, r', l ++ [0], ?_, by simp [hl], by rw [← padT_succ (by rw [bl_length]; omega), ← hp], by omega, by omega, rfl, E'⟩
    rw [List.map_append]; exact R'
  · have hkn : k < n := by omega
    have hn3 : n = max s.size (k + 1) := by omega
    unfold S_file_Put_J2
    rw [map_flat] at R
    obtain ⟨A, h25, r', ea, st, R', E2⟩ := E.rowSet 2 rfl R (fun _ => rfl) (by omega) k (by omega) c (by simp [byteV, isOne])
    refine ⟨A, ea, by omega, by omega, h25, ?_, ?_⟩
    · obtain ⟨_, w, e1, e2⟩ := st
      obtain rfl : h25 = w := e2
      rw [Int.toNat_natCast, hv]; exact e1
    · rw [← map_flat] at R'
      have e3 : l.set k c = putT (bl s) k c := by
        unfold putT
        rw [hp, hn3]
        by_cases e4 : s.size ≤ k + 1
        · rw [Nat.max_eq_right e4]
        · rw [Nat.max_eq_left (by omega), padT_self (by rw [bl_length]; omega), padT_self (by rw [bl_length]; omega)]
      rw [e3] at R'
      refine semH_convB TK.byteStr (semH_bytesToString (E2.sl 2 rfl R') ⟨_, rfl, _, stores_whole (E2.at 1 rfl) rfl (by simp) (by simp [isOne]) (by simp), ?_⟩)
      have E3 := E2.put (o' := fiO (true, ba (putT (bl s) k c))) 1 rfl
      exact ⟨_, _, ⟨E3.cell 1 rfl (j := 0) rfl, E3.cell 1 rfl (j := 1) rfl, trivial⟩, Fin.of (hQ _ E3.w)⟩
end
end Go.Proofs.YtgldgabefiialaaGreat.H
namespace Go.Proofs.YtgldgabefiialaaGreat.H
open Go
set_option linter.unusedVariables false
set_option maxRecDepth 100000
theorem TK.slc_slot_int : slcB PG TY.s_cell_slot_int = some (TY.cell_slot_int, 2, 16) := by kernel_rfl
theorem TK.zero_slot_int : zeroB PG TY.cell_slot_int = some [.int .i64 0, .int .i64 0] := by kernel_rfl
theorem TK.sl_slot_int : slT PG TY.s_cell_slot_int = true := by kernel_rfl
def slotC_int (x : Int × Int) : List Value := [.int .i64 x.1, .int .i64 x.2]
theorem slotC_int_len (x : Int × Int) : (slotC_int x).length = 2 := rfl
def rowO_int (l : List (Int × Int)) : AObj := .vec TY.cell_Row_int [.own TY.cell_slot_int 2 (l.flatMap slotC_int)] 1
def RowP_int (h : Heap) (b : Nat) (a : Option Addr) (m c : Nat) (l : List (Int × Int)) : Prop := FP h b 0 TY.cell_slot_int 2 (l.flatMap slotC_int) a m c
def RowV_int (h : Heap) (b : Nat) (l : List (Int × Int)) : Prop := FV h b 0 TY.cell_slot_int 2 (l.flatMap slotC_int)
theorem rowO_int_v {h : Heap} {b : Nat} {l : List (Int × Int)} (hb : h b = some (rowO_int l)) : RowV_int h b l := .inl ⟨_, _, _, hb, rfl⟩
theorem RowP_int.v {h : Heap} {b m c : Nat} {a : Option Addr} {l : List (Int × Int)} (R : RowP_int h b a m c l) : RowV_int h b l := FP.fv R
def cellAt_int (l : List (Int × Int)) (i : Int) : Int × Int := if 0 ≤ i then (l[i.toNat]?).getD (0, 0) else (0, 0)
section
variable {B : RO} {h : Heap} {b : Nat} {a : Option Addr} {m c : Nat} {l : List (Int × Int)}
theorem Opened.row_int {v : Value} {h1 : Heap} (ho : Opened B h b TY.cell_Row_int [.own TY.cell_slot_int 2 (l.flatMap slotC_int)] 1 0 TY.cell_slot_int 2 (l.flatMap slotC_int) v h1) : ∃ a m c, v = .slice a m c ∧ RowP_int h1 b a m c l := by
  obtain ⟨a, m, c, rfl⟩ := ho.slice
  exact ⟨a, m, c, rfl, ⟨_, _, _, ho.blk, rfl⟩, ho.row⟩
theorem RowP_int.len (R : RowP_int h b a m c l) : m = l.length := (R.2.reads (B := fun _ => none) slotC_int_len (by omega)).1
theorem RowP_int.at (R : RowP_int h b a m c l) : ∀ i x, l[i]? = some x → ∃ A, a = some A ∧ CellsAt B h (A.add (i * 2)) 0 (slotC_int x) := fun i x hx =>
  let ⟨A, e, _, q⟩ := (R.2.reads (B := B) slotC_int_len (by omega)).2 i x hx
  ⟨A, e, q⟩
theorem cellAt_int_in {i : Int} (h0 : 0 ≤ i) (h1 : i.toNat < l.length) : cellAt_int l i = l[i.toNat] := by
  rw [cellAt_int, if_pos h0, List.getElem?_eq_getElem h1]; rfl
theorem cellAt_int_out {i : Int} (hn : ¬ (0 ≤ i ∧ i < (l.length : Int))) : cellAt_int l i = (0, 0) := by
  unfold cellAt_int
  split
  · rw [List.getElem?_eq_none (by omega)]; rfl
  · rfl
theorem is_p_int {i : Int} {Q : Bool → Heap → Prop} (R : RowP_int h b a m c l) (hQ : Q (decide (0 ≤ i ∧ i < (l.length : Int))) h) : C_cell_Row_int_is B (some ⟨b, 0, none⟩) i h Q := by
  refine C_cell_Row_int_is.of ?_
  unfold S_cell_Row_int_is
  have hm := R.len
  refine ⟨(fun e => by cases e), fun _ => ⟨fun h0 => ⟨_, rfl, .inl ⟨a, m, c, R.1.cell, Fin.of ?_⟩⟩, fun h0 => Fin.of ?_⟩⟩
  · have : decide (i < (m : Int)) = decide (0 ≤ i ∧ i < (l.length : Int)) := by
      rw [decide_eq_decide, hm]; exact ⟨fun x => ⟨by omega, x⟩, fun x => x.2⟩
    rw [this]; exact hQ
  · rw [decide_eq_false (by omega)] at hQ; exact hQ
theorem get_p_int {i : Int} {Q : Int → Int → Heap → Prop} (R : RowP_int h b a m c l) (hQ : Q (cellAt_int l i).1 (cellAt_int l i).2 h) : C_cell_Row_int_Get B (some ⟨b, 0, none⟩) i h Q := by
  refine C_cell_Row_int_Get.of ?_
  unfold S_cell_Row_int_Get
  have hm := R.len
  refine is_p_int R ⟨fun hT => ?_, fun hF => Fin.of ?_⟩
  · rw [decide_eq_true_eq] at hT
    have hi : i.toNat < l.length := by omega
    rw [cellAt_int_in hT.1 hi] at hQ
    obtain ⟨A, e, q⟩ := R.at (B := B) i.toNat _ (List.getElem?_eq_getElem hi)
    refine ⟨_, rfl, a, m, c, R.1.cell, A, e, hT.1, by omega, _, q.1, _, rfl, a, m, c, R.1.cell, A, e, hT.1, by omega, _, q.2.1, Fin.of hQ⟩
  · rw [decide_eq_false_iff_not] at hF
    rw [cellAt_int_out hF] at hQ
    exact hQ
theorem get_wp_int {i : Int} {Q : Int → Int → Heap → Prop} (hv : RowV_int h b l) (hQ : Q (cellAt_int l i).1 (cellAt_int l i).2 h) : C_cell_Row_int_Get B (some ⟨b, 0, none⟩) i h Q := by
  refine FV.spec hv fun a m c h1 sh => ?_
  exact Spec.fin (Spec.mono (get_p_int (Q := fun x y h' => Fin B h' (Q x y)) sh.1 (Fin.ent sh.2.1 (Fin.of hQ))) fun v h' ⟨x, y, e, q⟩ => q.imp fun h'' q' => ⟨x, y, e, q'⟩)
theorem version_wp_int {i : Int} {Q : Int → Heap → Prop} (hb : RowV_int h b l) (hQ : Q (cellAt_int l i).2 h) : C_cell_Row_int_Version B (some ⟨b, 0, none⟩) i h Q := by
  refine C_cell_Row_int_Version.of ?_
  unfold S_cell_Row_int_Version
  exact get_wp_int hb (Fin.of hQ)
theorem is_wp_int {i : Int} {Q : Bool → Heap → Prop} (hb : RowV_int h b l) (hQ : Q (decide (0 ≤ i ∧ i < (l.length : Int))) h) : C_cell_Row_int_is B (some ⟨b, 0, none⟩) i h Q := by
  refine C_cell_Row_int_is.of ?_
  unfold S_cell_Row_int_is
  refine ⟨(fun e => by cases e), fun _ => ⟨fun h0 => ⟨_, rfl, FV.ld hb fun a m c h1 sh => Fin.ent sh.2.1 (Fin.of ?_)⟩, fun h0 => Fin.of ?_⟩⟩
  · have hm := RowP_int.len sh.1
    have : decide (i < (m : Int)) = decide (0 ≤ i ∧ i < (l.length : Int)) := by
      rw [decide_eq_decide, hm]; exact ⟨fun x => ⟨by omega, x⟩, fun x => x.2⟩
    rw [this]; exact hQ
  · rw [decide_eq_false (by omega)] at hQ; exact hQ
theorem flatMap_set {α : Type} {cells : α → List Value} (x : α) : ∀ (l : List α) (i : Nat) (hi : i < l.length), (l.set i x).flatMap cells = (l.take i).flatMap cells ++ cells x ++ (l.drop (i + 1)).flatMap cells
  | [], i, hi => by simp at hi
  | y :: l, 0, _ => by simp
  | y :: l, i + 1, hi => by
    simp only [List.set_cons_succ, List.flatMap_cons, List.take_succ_cons, List.drop_succ_cons]
    rw [flatMap_set x l i (by simpa using hi)]
    simp [List.append_assoc]
theorem flatMap_split {α : Type} {cells : α → List Value} (l : List α) (i : Nat) (hi : i < l.length) : l.flatMap cells = (l.take i).flatMap cells ++ (cells l[i] ++ (l.drop (i + 1)).flatMap cells) := by
  conv => lhs; rw [← List.take_append_drop i l, List.drop_eq_getElem_cons hi]
  rw [List.flatMap_append, List.flatMap_cons]
theorem set_wp_int {i : Int} {x : Int} {v : Int} {Q : Bool → Heap → Prop} (hb : h b = some (rowO_int l))
    (hT : 0 ≤ i → i.toNat < l.length → Q true (h.set b (rowO_int (l.set i.toNat (x, v))))) (hF : ¬ (0 ≤ i ∧ i < (l.length : Int)) → Q false h) : C_cell_Row_int_Set B (some ⟨b, 0, none⟩) i x v h Q := by
  refine C_cell_Row_int_Set.of ?_
  unfold S_cell_Row_int_Set
  refine is_wp_int (rowO_int_v hb) ⟨fun hD => ?_, fun hD => Fin.of (hF (by simpa using hD))⟩
  rw [decide_eq_true_eq] at hD
  have hi : i.toNat < l.length := by omega
  refine ⟨_, rfl, .inr ⟨_, _, _, _, _, _, rfl, hb, rfl, fun a m c h1 ho => ?_⟩⟩
  obtain ⟨a', m', c', e, R⟩ := ho.row_int
  cases e
  have hm := R.len
  have hbk := ho.blk
  rcases R.2 with ⟨e1, e2⟩ | ⟨k, m2, c2, nn, js, e1, e2, e3, e4, e5⟩
  · have := flatMap_length slotC_int_len l
    rw [e2] at this; simp at this; omega
  · cases e1
    have hlen := flatMap_length slotC_int_len (l.take i.toNat)
    rw [List.length_take, Nat.min_eq_left (by omega)] at hlen
    rw [flatMap_split l _ hi, List.append_assoc, List.append_assoc] at e2
    have hall := flatMap_length slotC_int_len l
    obtain ⟨h', s1, _, s3⟩ := StoresAt.over (slotC_int (x, v)) h1 (i.toNat * 2) 0 _ _ (by simp [slotC_int, isOne]) e2 (by rw [hlen]; omega) (by rw [slotC_int_len]; omega)
    have s3 := s3 (by simp [slotC_int])
    have hadd : Addr.add ⟨k, 0, none⟩ (i.toNat * 2) = ⟨k, i.toNat * 2, none⟩ := by
      unfold Addr.add; split
      · rename_i hz; rw [hz]
      · simp
    refine ⟨⟨k, 0, none⟩, rfl, hD.1, by omega, h', by rw [hadd]; exact s1, ?_⟩
    have hdrop : (slotC_int l[i.toNat] ++ ((l.drop (i.toNat + 1)).flatMap slotC_int ++ js)).drop (slotC_int (x, v)).length = (l.drop (i.toNat + 1)).flatMap slotC_int ++ js := by
      rw [slotC_int_len, ← slotC_int_len l[i.toNat], List.drop_left]
    rw [hdrop, ← List.append_assoc, ← flatMap_set (cells := slotC_int) (x, v) l _ hi] at s3
    have hkb : k ≠ b := (ho.new k _ _ rfl).2
    have hset : ((l.set i.toNat (x, v)).flatMap slotC_int).length = (l.flatMap slotC_int).length := by
      rw [flatMap_length slotC_int_len, flatMap_length slotC_int_len, List.length_set]
    have hcl := Ent.close_row (B := B) (h0 := h) (h := h') (b := b) (n := 1) (i := 0) (t := TY.cell_Row_int) (e := TY.cell_slot_int) (sz := 2) (fs := plains [Value.slice (some ⟨k, 0, none⟩) m c]) (v := .slice (some ⟨k, 0, none⟩) m c) (xs := (l.set i.toNat (x, v)).flatMap slotC_int)
      (by
        intro c' o hc' hh
        rw [s3, Heap.set_ne _ _ _ _ (fun e => by
          have := (ho.new k _ _ rfl).1
          rw [e, this] at hh; cases hh)]
        exact ho.sub c' o hc' hh)
      (by rw [s3, Heap.set_ne _ _ _ _ (Ne.symm hkb)]; exact hbk)
      rfl
      (.inr ⟨k, m, c, nn, js, rfl, by rw [s3, Heap.set_same], by rw [hset]; exact e3, e4, e5⟩)
      (fun k' m' c' e => ho.new k' m' c' e)
    exact Fin.ent hcl (Fin.of (hT hD.1 hi))
theorem new_wp_int {n : Int} {x : Int} {Q : Option Addr → Heap → Prop} (hn : n ≤ 1000000) (hQ : ∀ k, h k = none → B k = none → Q (some ⟨k, 0, none⟩) (h.set k (rowO_int (List.replicate n.toNat (x, 0))))) : C_cell_New_int B n x h Q := by
  refine C_cell_New_int.of ?_
  unfold S_cell_New_int
  intro k a1 b1 h5 e5
  obtain ⟨g5, -, -⟩ := Heap.made a1 e5
  have hcl : Ent B h5 (h.set k (rowO_int [])) := by
    have := Ent.close_nil (B := B) (e := TY.cell_slot_int) (sz := 2) (i := 0) g5 rfl
    rw [e5, Heap.set_set] at this
    rw [e5]
    exact this
  refine ⟨fun i m h' => ∃ j : Nat, (j : Int) ≤ max n 0 ∧ i = j ∧ m = n.toNat - j ∧ h' = h.set k (rowO_int (List.replicate j (x, 0))), n.toNat, Fin.ent hcl (Fin.of ⟨0, by omega, rfl, by omega, rfl⟩), ?_⟩
  rintro _ _ _ ⟨j, hj, rfl, rfl, rfl⟩
  refine ⟨fun hlt => ?_, fun hge => ?_⟩
  · have hl := flatMap_length slotC_int_len (List.replicate j (x, (0 : Int)))
    rw [List.length_replicate] at hl
    refine app_own (len := 1) (ys := slotC_int (x, 0)) TK.slc_slot_int TK.zero_slot_int rfl (by omega) (by omega) TK.sl_slot_int (Heap.set_same _ _ _) rfl rfl (by simp [slotC_int, isOne]) (by rw [hl, slotC_int_len]; omega) ?_
    intro a' n' c' h3 h4 s1 s2
    refine ⟨a', n', c', rfl, h4, s1, Fin.ent s2 (Fin.of ⟨n.toNat - (j + 1), by omega, j + 1, by omega, ?_, rfl, ?_⟩)⟩
    · rw [w64 (by omega) (by omega)]; omega
    · rw [Heap.set_set]
      unfold rowO_int
      rw [List.replicate_succ', List.flatMap_append]
      simp
  · have : j = n.toNat := by omega
    subst this
    exact Fin.of (hQ k a1 b1)
end
end Go.Proofs.YtgldgabefiialaaGreat.H
namespace Go.Proofs.YtgldgabefiialaaGreat.H
open Go
set_option linter.unusedVariables false
set_option maxRecDepth 100000
theorem plains_mid {α : Type} (f : α → Value) (a b : List Value) (l : List α) (i : Nat) (x : α) (hx : l[i]? = some x) : (plains (a ++ (l.map f ++ b)))[a.length + i]? = some (.plain (f x)) := by
  obtain ⟨hi, rfl⟩ := List.getElem?_eq_some_iff.1 hx
  simp only [plains, List.getElem?_map]
  rw [List.getElem?_append_right (by omega), show a.length + i - a.length = i by omega, List.getElem?_append_left (by simpa using hi), List.getElem?_map, hx]
  rfl
theorem plains_mid_set {α : Type} (f : α → Value) (a b : List Value) (l : List α) (i : Nat) (x : α) (hi : i < l.length) : (plains (a ++ (l.map f ++ b))).set (a.length + i) (.plain (f x)) = plains (a ++ ((l.set i x).map f ++ b)) := by
  unfold plains
  rw [← List.map_set, List.set_append_right _ _ (by omega), show a.length + i - a.length = i by omega, List.set_append_left _ _ (by simpa using hi), List.map_set]
theorem byteAt_bound (s : ByteArray) (i : Nat) : 0 ≤ byteAt s i ∧ byteAt s i < 256 := by
  unfold byteAt
  split
  · rename_i h
    have := (s[i]).toNat_lt
    omega
  · omega
def feedC (ts : List ByteArray) (kR : Nat) : List Value := ts.map Value.string ++ [.pointer (some ⟨kR, 0, none⟩)]
def feedO (ts : List ByteArray) (kR : Nat) : AObj := .vec TY.feed_Feed (plains (feedC ts kR)) 4
def textAt (ts : List ByteArray) (i : Int) : ByteArray := if 0 ≤ i ∧ i < 3 then (ts[i.toNat]?).getD (ByteArray.mk #[]) else ByteArray.mk #[]
def arrE (ts : List ByteArray) (i : Int) (s : ByteArray) : Int := if 0 ≤ i ∧ i < 3 then (if (textAt ts i).size + s.size > 64 then 6 else 0) else 1
def arrT (ts : List ByteArray) (i : Int) (s : ByteArray) : List ByteArray := if arrE ts i s = 0 then ts.set i.toNat (textAt ts i ++ s) else ts
def takeB (ts : List ByteArray) (l : List (Int × Int)) (i place : Int) : Bool := decide (0 ≤ i ∧ i < 3 ∧ (cellAt_int l i).1 ≤ place ∧ place ≤ (textAt ts i).size)
def takeL (ts : List ByteArray) (l : List (Int × Int)) (i place v : Int) : List (Int × Int) := if takeB ts l i place = true then l.set i.toNat (place, v) else l
def atOf (ts : List ByteArray) (i place : Int) : Int := if 0 ≤ i ∧ i < 3 ∧ 0 ≤ place ∧ place < (textAt ts i).size then byteAt (textAt ts i) place.toNat else -1
structure FeedOk (ts : List ByteArray) (l : List (Int × Int)) : Prop where
  t3 : ts.length = 3
  l3 : l.length = 3
  size : ∀ i, (textAt ts i).size ≤ 64
  place : ∀ i, 0 ≤ (cellAt_int l i).1 ∧ (cellAt_int l i).1 ≤ (textAt ts i).size
theorem textAt_in {ts : List ByteArray} {i : Int} (h3 : ts.length = 3) (h0 : 0 ≤ i) (h1 : i < 3) : ts[i.toNat]? = some (textAt ts i) := by
  rw [textAt, if_pos ⟨h0, h1⟩, List.getElem?_eq_getElem (by omega)]; rfl
theorem textAt_set {ts : List ByteArray} {i : Int} (h3 : ts.length = 3) (h0 : 0 ≤ i) (h1 : i < 3) (s : ByteArray) (j : Int) : textAt (ts.set i.toNat s) j = if j = i then s else textAt ts j := by
  unfold textAt
  by_cases hj : 0 ≤ j ∧ j < 3
  · rw [if_pos hj, if_pos hj]
    by_cases he : j = i
    · subst he
      rw [if_pos rfl, List.getElem?_set_self (by omega)]; rfl
    · rw [if_neg he, List.getElem?_set_ne (by omega)]
  · rw [if_neg hj, if_neg hj, if_neg (fun he => hj (by omega))]
theorem cellAt_int_set {l : List (Int × Int)} {i : Int} (h0 : 0 ≤ i) (h1 : i < l.length) (x : Int × Int) (j : Int) : cellAt_int (l.set i.toNat x) j = if j = i then x else cellAt_int l j := by
  unfold cellAt_int
  by_cases hj : 0 ≤ j
  · rw [if_pos hj, if_pos hj]
    by_cases he : j = i
    · subst he
      rw [if_pos rfl, List.getElem?_set_self (by omega)]; rfl
    · rw [if_neg he, List.getElem?_set_ne (by omega)]
  · rw [if_neg hj, if_neg hj, if_neg (fun he => hj (by omega))]
theorem FeedOk.arrive {ts : List ByteArray} {l : List (Int × Int)} (k : FeedOk ts l) (i : Int) (s : ByteArray) : FeedOk (arrT ts i s) l := by
  unfold arrT
  split
  · rename_i h
    have hi : 0 ≤ i ∧ i < 3 := by
      unfold arrE at h; split at h
      · assumption
      · cases h
    have hs : (textAt ts i).size + s.size ≤ 64 := by
      unfold arrE at h; rw [if_pos hi] at h; split at h
      · cases h
      · omega
    refine ⟨by rw [List.length_set]; exact k.t3, k.l3, fun j => ?_, fun j => ?_⟩
    · rw [textAt_set k.t3 hi.1 hi.2]; split
      · rw [ByteArray.size_append]; exact hs
      · exact k.size j
    · have := k.place j
      rw [textAt_set k.t3 hi.1 hi.2]; split
      · rename_i e; subst e; rw [ByteArray.size_append]; omega
      · exact this
  · exact k
theorem FeedOk.take {ts : List ByteArray} {l : List (Int × Int)} (k : FeedOk ts l) (i place v : Int) : FeedOk ts (takeL ts l i place v) := by
  unfold takeL
  split
  · rename_i h
    unfold takeB at h
    rw [decide_eq_true_eq] at h
    obtain ⟨h0, h1, h2, h3⟩ := h
    have l3 := k.l3
    refine ⟨k.t3, by rw [List.length_set]; exact k.l3, k.size, fun j => ?_⟩
    rw [cellAt_int_set h0 (by omega)]
    have := k.place i
    split
    · rename_i e; subst e; exact ⟨by omega, h3⟩
    · exact k.place j
  · exact k
section
variable {B : RO} {h : Heap} {kF kR kM : Nat} {ts : List ByteArray} {l l' : List (Int × Int)}
theorem feed_text (hf : h kF = some (feedO ts kR)) (h3 : ts.length = 3) {i : Int} (h0 : 0 ≤ i) (h1 : i < 3) : cellH B h (Addr.add ⟨kF, 0, none⟩ (i.toNat * 1)) = some (.string (textAt ts i)) := by
  rw [addr_more, Nat.mul_one]
  exact cellH_vec hf (plains_mid Value.string [] _ ts i.toNat _ (textAt_in h3 h0 h1))
theorem feed_ptr (hf : h kF = some (feedO ts kR)) (h3 : ts.length = 3) : cellH B h (Addr.add ⟨kF, 0, none⟩ 3) = some (.pointer (some ⟨kR, 0, none⟩)) := by
  rw [addr_more, Nat.zero_add]
  refine cellH_vec hf ?_
  have := plains_mid (fun x : Option Addr => Value.pointer x) (ts.map Value.string) [] [some ⟨kR, 0, none⟩] 0 _ rfl
  rw [List.length_map, h3] at this
  exact this
theorem feed_is_wp {i : Int} {p : Addr} {Q : Bool → Heap → Prop} (hQ : Q (decide (0 ≤ i ∧ i < 3)) h) : C_feed_Feed_is B (some p) i h Q := by
  refine C_feed_Feed_is.of ?_
  unfold S_feed_Feed_is
  refine ⟨fun e => (by cases e), fun _ => ⟨fun h0 => Fin.of ?_, fun h0 => Fin.of ?_⟩⟩
  · have : decide (i < 3) = decide (0 ≤ i ∧ i < 3) := by rw [decide_eq_decide]; exact ⟨fun x => ⟨by omega, x⟩, fun x => x.2⟩
    rw [this]; exact hQ
  · rw [decide_eq_false (by omega)] at hQ; exact hQ
theorem feedC_set (ts : List ByteArray) (kR i : Nat) (x : ByteArray) (hi : i < ts.length) : (plains (feedC ts kR)).set i (.plain (.string x)) = plains (feedC (ts.set i x) kR) := by
  have := plains_mid_set Value.string [] [.pointer (some ⟨kR, 0, none⟩)] ts i x hi
  simp only [List.length_nil, Nat.zero_add, List.nil_append] at this
  exact this
theorem feed_put (hf : h kF = some (feedO ts kR)) (h3 : ts.length = 3) {i : Int} (h0 : 0 ≤ i) (h1 : i < 3) (x : ByteArray) : storeH h (Addr.add ⟨kF, 0, none⟩ (i.toNat * 1)) (.string x) = some (h.set kF (feedO (ts.set i.toNat x) kR)) := by
  have hg : (plains (feedC ts kR))[i.toNat]? = some (.plain (.string (textAt ts i))) := by
    have := plains_mid Value.string [] [.pointer (some ⟨kR, 0, none⟩)] ts i.toNat _ (textAt_in h3 h0 h1)
    simp only [List.length_nil, Nat.zero_add, List.nil_append] at this
    exact this
  have hst := storeH_vec (v := .string x) hf hg
  rw [feedC_set ts kR i.toNat x (by omega)] at hst
  rw [addr_more, Nat.mul_one, Nat.zero_add]
  exact hst
theorem feed_arrive_wp {i : Int} {s : ByteArray} {Q : Int → Heap → Prop} (k : FeedOk ts l) (hf : h kF = some (feedO ts kR)) (hs : s.size ≤ 1000000000) (hQ : Q (arrE ts i s) (h.set kF (feedO (arrT ts i s) kR))) : C_feed_Feed_Arrive B (some ⟨kF, 0, none⟩) i s h Q := by
  refine C_feed_Feed_Arrive.of ?_
  unfold S_feed_Feed_Arrive
  refine ⟨fun e => (by cases e), fun _ => feed_is_wp ⟨fun hT => ?_, fun hF => Fin.of ?_⟩⟩
  · rw [decide_eq_true_eq] at hT
    have ht := k.size i
    refine ⟨_, rfl, hT.1, hT.2, _, feed_text hf k.t3 hT.1 hT.2, ?_⟩
    rw [w64 (by omega) (by omega)]
    refine ⟨fun hgt => Fin.of ?_, fun hle => Fin.of ?_⟩
    · have e : arrE ts i s = 6 := by rw [arrE, if_pos hT, if_pos (by omega)]
      rw [arrT, e, if_neg (by decide), Heap.set_self _ _ _ hf] at hQ
      exact hQ
    · unfold S_feed_Feed_Arrive_J1
      have e : arrE ts i s = 0 := by rw [arrE, if_pos hT, if_neg (by omega)]
      rw [arrT, e, if_pos rfl] at hQ
      exact ⟨_, rfl, hT.1, hT.2, _, feed_text hf k.t3 hT.1 hT.2, by omega, _, rfl, hT.1, hT.2, _, feed_put hf k.t3 hT.1 hT.2 _, Fin.of hQ⟩
  · rw [decide_eq_false_iff_not] at hF
    have e : arrE ts i s = 1 := by rw [arrE, if_neg hF]
    rw [arrT, e, if_neg (by decide), Heap.set_self _ _ _ hf] at hQ
    exact hQ
theorem feed_place_wp {i : Int} {Q : Int → Int → Heap → Prop} (h3 : ts.length = 3) (hf : h kF = some (feedO ts kR)) (hr : h kR = some (rowO_int l)) (hQ : Q (cellAt_int l i).1 (cellAt_int l i).2 h) : C_feed_Feed_Place B (some ⟨kF, 0, none⟩) i h Q := by
  refine C_feed_Feed_Place.of ?_
  unfold S_feed_Feed_Place
  exact ⟨fun e => (by cases e), fun _ => ⟨_, rfl, _, feed_ptr hf h3, get_wp_int (rowO_int_v hr) (Fin.of hQ)⟩⟩
theorem feed_text_wp {i : Int} {Q : ByteArray → Heap → Prop} (h3 : ts.length = 3) (hf : h kF = some (feedO ts kR)) (hQ : Q (textAt ts i) h) : C_feed_Feed_Text B (some ⟨kF, 0, none⟩) i h Q := by
  refine C_feed_Feed_Text.of ?_
  unfold S_feed_Feed_Text
  refine feed_is_wp ⟨fun hT => ?_, fun hF => Fin.of ?_⟩
  · rw [decide_eq_true_eq] at hT
    exact ⟨_, rfl, hT.1, hT.2, _, feed_text hf h3 hT.1 hT.2, Fin.of hQ⟩
  · rw [decide_eq_false_iff_not] at hF
    rw [textAt, if_neg hF] at hQ; exact hQ
theorem feed_at_wp {i place : Int} {Q : Int → Heap → Prop} (h3 : ts.length = 3) (hf : h kF = some (feedO ts kR)) (hQ : Q (atOf ts i place) h) : C_feed_Feed_At B (some ⟨kF, 0, none⟩) i place h Q := by
  refine C_feed_Feed_At.of ?_
  unfold S_feed_Feed_At
  refine feed_is_wp ⟨fun hT => ⟨fun hp => Fin.of ?_, fun hp => ?_⟩, fun hF => Fin.of ?_⟩
  · rw [atOf, if_neg (by omega)] at hQ; exact hQ
  · rw [decide_eq_true_eq] at hT
    refine ⟨_, rfl, hT.1, hT.2, _, feed_text hf h3 hT.1 hT.2, fun hg => Fin.of ?_, fun hg => Fin.of ?_⟩
    · rw [atOf, if_neg (by omega)] at hQ; exact hQ
    · unfold S_feed_Feed_At_J1
      refine ⟨_, rfl, hT.1, hT.2, _, feed_text hf h3 hT.1 hT.2, by omega, by omega, Fin.of ?_⟩
      rw [atOf, if_pos ⟨hT.1, hT.2, by omega, by omega⟩] at hQ
      have := byteAt_bound (textAt ts i) place.toNat
      rw [w64 (by omega) (by omega)]; exact hQ
  · rw [decide_eq_false_iff_not] at hF
    rw [atOf, if_neg (by omega)] at hQ; exact hQ
theorem feed_take_wp {i place v : Int} {Q : Bool → Heap → Prop} (k : FeedOk ts l) (hf : h kF = some (feedO ts kR)) (hr : h kR = some (rowO_int l)) (hQ : Q (takeB ts l i place) (h.set kR (rowO_int (takeL ts l i place v)))) : C_feed_Feed_Take B (some ⟨kF, 0, none⟩) i place v h Q := by
  refine C_feed_Feed_Take.of ?_
  unfold S_feed_Feed_Take
  have no : ¬ (0 ≤ i ∧ i < 3 ∧ (cellAt_int l i).1 ≤ place ∧ place ≤ (textAt ts i).size) → Q false h := fun hn => by
    have e : takeB ts l i place = false := by rw [takeB, decide_eq_false hn]
    rw [takeL, e, if_neg (by decide), Heap.set_self _ _ _ hr] at hQ
    exact hQ
  refine feed_place_wp k.t3 hf hr (feed_is_wp ⟨fun hT => ⟨fun hp => Fin.of (no (by omega)), fun hp => ?_⟩, fun hF => Fin.of (no ?_)⟩)
  · rw [decide_eq_true_eq] at hT
    refine ⟨_, rfl, hT.1, hT.2, _, feed_text hf k.t3 hT.1 hT.2, fun hg => Fin.of (no (by omega)), fun hg => Fin.of ?_⟩
    unfold S_feed_Feed_Take_J1
    have e : takeB ts l i place = true := by rw [takeB, decide_eq_true_eq]; omega
    have l3 := k.l3
    rw [takeL, e, if_pos rfl] at hQ
    exact ⟨_, rfl, _, feed_ptr hf k.t3, set_wp_int hr (fun _ _ => Fin.of hQ) (fun hn => absurd (show 0 ≤ i ∧ i < (l.length : Int) by omega) hn)⟩
  · rw [decide_eq_false_iff_not] at hF
    omega
def ts0 : List ByteArray := [ByteArray.empty, ByteArray.empty, ByteArray.empty]
def fl0 : List (Int × Int) := [(0, 0), (0, 0), (0, 0)]
theorem FeedOk.zero : FeedOk ts0 fl0 := by
  have key : ∀ i : Int, textAt ts0 i = ByteArray.empty ∧ (cellAt_int fl0 i) = (0, 0) := fun i => by
    by_cases h : 0 ≤ i ∧ i < 3
    · have : i = 0 ∨ i = 1 ∨ i = 2 := by omega
      rcases this with rfl | rfl | rfl <;> exact ⟨rfl, rfl⟩
    · refine ⟨by rw [textAt, if_neg h]; rfl, ?_⟩
      unfold cellAt_int
      split
      · rw [List.getElem?_eq_none (by simp [fl0]; omega)]; rfl
      · rfl
  exact ⟨rfl, rfl, fun i => by rw [(key i).1]; decide, fun i => by rw [(key i).1, (key i).2]; decide⟩
theorem feed_new_wp {Q : Option Addr → Heap → Prop} (hQ : ∀ kR kF h1 h2, h kR = none → B kR = none → h1 = h.set kR (rowO_int fl0) → h1 kF = none → B kF = none → h2 = h1.set kF (feedO ts0 kR) → Q (some ⟨kF, 0, none⟩) h2) : C_feed_New B h Q := by
  refine C_feed_New.of ?_
  unfold S_feed_New
  refine new_wp_int (by decide) fun kR a1 b1 k4 a4 b4 h5 e5 => Fin.of (hQ kR k4 _ h5 a1 b1 rfl a4 b4 e5)
end
end Go.Proofs.YtgldgabefiialaaGreat.H
namespace Go.Proofs.YtgldgabefiialaaGreat.H
open Go Go.RowKit
set_option linter.unusedVariables false
set_option maxRecDepth 100000
structure StI where
  kd : Nat
  vd : Value
  rd : Option (Nat × AObj)
  ks : Nat
  kf : Nat
  vf : Value
  rf : Option (Nat × AObj)
  kc : Nat
structure StV where
  d : List (Int × Int)
  f : List (Int × (Bool × ByteArray))
  c0 : Int
  c1 : Int
  c2 : Int
def StV.z : StV := ⟨[], [], 0, 0, 0⟩
def shO (kf : Nat) : AObj := .vec TY.sheet_Sheet (plains [.pointer (some ⟨kf, 0, none⟩)]) 1
def curO (s : StV) : AObj := .vec TY.cursor_Cursor (plains [.int .i64 s.c0, .int .i64 s.c1, .int .i64 s.c2]) 3
def StI.e (x : StI) (s : StV) : List (Option (Nat × AObj)) := [some (x.kd, drO_int x.vd), x.rd, some (x.ks, shO x.kf), some (x.kf, drO_file_File x.vf), x.rf, some (x.kc, curO s)]
structure StI.Ok (x : StI) (s : StV) : Prop where
  d : DRow_int x.rd x.vd s.d
  f : DRow_file_File x.rf x.vf s.f
structure StAt (L : List (Option (Nat × AObj))) (i : Nat) (x : StI) (s : StV) : Prop where
  d : DAt_int L i x.kd x.vd x.rd
  sh : L[i + 2]? = some (some (x.ks, shO x.kf))
  f : DAt_file_File L (i + 3) x.kf x.vf x.rf
  c : L[i + 5]? = some (some (x.kc, curO s))
theorem StAt.app {L M : List (Option (Nat × AObj))} {i : Nat} {x : StI} {s : StV} (A : StAt L i x s) : StAt (L ++ M) i x s :=
  ⟨⟨up_app _ A.d.p, up_app _ A.d.q⟩, up_app _ A.sh, ⟨up_app _ A.f.p, up_app _ A.f.q⟩, up_app _ A.c⟩
structure Reg4 where
  a : Int
  b : Int
  c : Int
  d : Int
structure MarkR where
  x : StI
  g : Reg4
  m : Reg4
  place : Int
def MarkR.cells (m : MarkR) : List Value := [.pointer (some ⟨m.x.kd, 0, none⟩), .pointer (some ⟨m.x.ks, 0, none⟩), .pointer (some ⟨m.x.kc, 0, none⟩), .int .i64 m.g.a, .int .i64 m.g.b, .int .i64 m.g.c, .int .i64 m.g.d, .int .i64 m.m.a, .int .i64 m.m.b, .int .i64 m.m.c, .int .i64 m.m.d, .int .i64 m.place]
theorem MarkR.len (m : MarkR) : m.cells.length = 12 := rfl
theorem MarkR.one (m : MarkR) : ∀ y ∈ m.cells, isOne y = true := fun y hy => by
  simp only [MarkR.cells, List.mem_cons, List.not_mem_nil, or_false] at hy
  rcases hy with rfl | rfl | rfl | rfl | rfl | rfl | rfl | rfl | rfl | rfl | rfl | rfl <;> rfl
theorem TK.slc_mark : slcB PG TY.s_mark_Mark = some (TY.mark_Mark, 12, 96) := by kernel_rfl
theorem TK.zero_mark : zeroB PG TY.mark_Mark = some [.pointer none, .pointer none, .pointer none, .int .i64 0, .int .i64 0, .int .i64 0, .int .i64 0, .int .i64 0, .int .i64 0, .int .i64 0, .int .i64 0, .int .i64 0] := by kernel_rfl
theorem TK.sl_mark : slT PG TY.s_mark_Mark = true := by kernel_rfl
def skO (v : Value) : AObj := .vec TY.mark_Stack (plains [v]) 1
def MRow (r : Option (Nat × AObj)) (v : Value) (l : List MarkR) : Prop := Row r v TY.mark_Mark 12 (l.flatMap MarkR.cells)
structure SkAt (L : List (Option (Nat × AObj))) (i k : Nat) (v : Value) (r : Option (Nat × AObj)) : Prop where
  p : L[i]? = some (some (k, skO v))
  q : L[i + 1]? = some r
section
variable {B : RO} {h0 h h' : Heap} {L : List (Option (Nat × AObj))} {r : Option (Nat × AObj)} {i j k : Nat} {a : Option Addr} {m c : Nat} {v : Value} {l : List MarkR} {x : StI} {s : StV} {g mm : Reg4} {place : Int}
theorem sheet_new_wp {Q : Option Addr → Heap → Prop} (hQ : ∀ ks kf h', Keep B h [some (ks, shO kf), some (kf, drO_file_File (.slice none 0 0)), none] h' → Q (some ⟨ks, 0, none⟩) h') : C_sheet_New B h Q := by
  refine C_sheet_New.of ?_
  unfold S_sheet_New
  intro k2 a2 b2 h3 e3 k4 a4 b4 h5 e5
  have E := ((Keep.nil B h).made a2 b2 e3).made a4 b4 e5
  exact Fin.of (hQ k4 k2 h5 (E.picks [1, 0, 9] (by decide)))
theorem sheet_copy_wp {Q : Option Addr → Heap → Prop} (E : Keep B h0 L h) (A : StAt L i x s) (O : x.Ok s) (hf : s.f.length ≤ 100000) (hQ : ∀ ks kf vf rf h', DRow_file_File rf vf s.f → Keep B h0 (L ++ [some (ks, shO kf), some (kf, drO_file_File vf), rf]) h' → Q (some ⟨ks, 0, none⟩) h') : C_sheet_Sheet_Copy B (some ⟨x.ks, 0, none⟩) h Q := by
  refine C_sheet_Sheet_Copy.of ?_
  unfold S_sheet_Sheet_Copy
  refine ⟨fun e => (by cases e), fun _ => ⟨_, rfl, _, E.cell (i + 2) A.sh rfl, copy_file_File_wp E A.f O.f hf fun k' v' r' h7 R E1 => ?_⟩⟩
  intro k9 a9 b9 h10 e10
  have E2 := E1.made a9 b9 e10
  refine Fin.of (hQ k9 k' v' r' h10 R ?_)
  have E3 := Keep.rot3 E2
  exact E3
theorem cursor_copy_wp {Q : Option Addr → Heap → Prop} (E : Keep B h0 L h) (A : StAt L i x s) (hQ : ∀ kc h', Keep B h0 (L ++ [some (kc, curO s)]) h' → Q (some ⟨kc, 0, none⟩) h') : C_cursor_Cursor_Copy B (some ⟨x.kc, 0, none⟩) h Q := by
  refine C_cursor_Cursor_Copy.of ?_
  unfold S_cursor_Cursor_Copy
  refine ⟨fun e => (by cases e), fun _ => ⟨_, rfl, _, _, _, ⟨E.cell (i + 5) A.c rfl, E.cell (i + 5) A.c rfl, E.cell (i + 5) A.c rfl, trivial⟩, fun k9 a9 b9 h10 e10 => ?_⟩⟩
  have E1 := E.made a9 b9 e10
  refine ⟨_, stores_whole E1.last rfl (by simp) (by simp [isOne]) (by simp), ?_⟩
  have E2 := E1.putLast (curO s)
  exact Fin.of (hQ k9 _ E2)
theorem fresh_wp {Q : Option Addr → Option Addr → Option Addr → Int → Int → Int → Int → Heap → Prop} (hQ : ∀ x h', StI.Ok x StV.z → Keep B h (x.e StV.z) h' → Q (some ⟨x.kd, 0, none⟩) (some ⟨x.ks, 0, none⟩) (some ⟨x.kc, 0, none⟩) g.a g.b g.c g.d h') : C_mark_Fresh B g.a g.b g.c g.d h Q := by
  refine C_mark_Fresh.of ?_
  unfold S_mark_Fresh
  intro k12 a12 b12 h13 e13 k14 a14 b14 h15 e15
  have E := ((Keep.nil B h).made a12 b12 e13).made a14 b14 e15
  have c12 : ∀ {M : List (Option (Nat × AObj))} {h1 : Heap}, Keep B h ([] ++ [some (k12, AObj.vec TY.api_Regs (plains [.int .i64 g.a, .int .i64 g.b, .int .i64 g.c, .int .i64 g.d]) 4)] ++ M) h1 → CellsAt B h1 ⟨k12, 0, none⟩ 0 [.int .i64 g.a, .int .i64 g.b, .int .i64 g.c, .int .i64 g.d] := fun {M h1} E1 => ⟨E1.cell 0 rfl rfl, E1.cell 0 rfl rfl, E1.cell 0 rfl rfl, E1.cell 0 rfl rfl, trivial⟩
  have fin : ∀ {kd ks kf kc : Nat} {h1 : Heap}, Keep B h [some (k14, .vec TY.mark_State (plains [.pointer none, .pointer none, .pointer none, .int .i64 0, .int .i64 0, .int .i64 0, .int .i64 0]) 7), some (kd, drO_int (.slice none 0 0)), some (ks, shO kf), some (kf, drO_file_File (.slice none 0 0)), some (kc, curO StV.z)] h1 → ∃ h2, StoresAt ⟨k14, 0, none⟩ h1 0 [.pointer (some ⟨kd, 0, none⟩), .pointer (some ⟨ks, 0, none⟩), .pointer (some ⟨kc, 0, none⟩), .int .i64 g.a, .int .i64 g.b, .int .i64 g.c, .int .i64 g.d] h2 ∧ ∃ p33 : Option Addr, ∃ p34 : Option Addr, ∃ p35 : Option Addr, ∃ i36 : Int, ∃ i37 : Int, ∃ i38 : Int, ∃ i39 : Int, CellsAt B h2 ⟨k14, 0, none⟩ 0 [(Value.pointer p33), (Value.pointer p34), (Value.pointer p35), (Value.int .i64 (i36)), (Value.int .i64 (i37)), (Value.int .i64 (i38)), (Value.int .i64 (i39))] ∧ Fin B h2 (Q p33 p34 p35 (i36) (i37) (i38) (i39)) := fun {kd ks kf kc h1} E1 => by
    refine ⟨_, stores_whole (E1.at 0 rfl) rfl (by simp) (by simp [isOne]) (by simp), ?_⟩
    have E2 := E1.put (o' := .vec TY.mark_State (plains [.pointer (some ⟨kd, 0, none⟩), .pointer (some ⟨ks, 0, none⟩), .pointer (some ⟨kc, 0, none⟩), .int .i64 g.a, .int .i64 g.b, .int .i64 g.c, .int .i64 g.d]) 7) 0 rfl
    refine ⟨_, _, _, _, _, _, _, ⟨E2.cell 0 rfl rfl, E2.cell 0 rfl rfl, E2.cell 0 rfl rfl, E2.cell 0 rfl rfl, E2.cell 0 rfl rfl, E2.cell 0 rfl rfl, E2.cell 0 rfl rfl, trivial⟩, Fin.of ?_⟩
    exact hQ ⟨kd, .slice none 0 0, none, ks, kf, .slice none 0 0, none, kc⟩ _ ⟨Row.nil _ _, Row.nil _ _⟩ (E2.picks [1, 9, 2, 3, 10, 4] (by decide))
  refine ⟨_, _, _, _, c12 E, fun k23 a23 b23 h24 e24 => ?_, ?_, fun k85 a85 b85 h86 e86 => ?_⟩
  · have E1 := E.made a23 b23 e24
    refine ⟨⟨E1.cell 0 rfl rfl, E1.cell 0 rfl rfl, E1.cell 0 rfl rfl, E1.cell 0 rfl rfl, trivial⟩, sheet_new_wp fun ks kf h26 E2 => ?_, fun k40 a40 b40 h41 e41 => ?_⟩
    · have E3 := E1.append E2
      refine ⟨⟨E3.cell 0 rfl rfl, E3.cell 0 rfl rfl, E3.cell 0 rfl rfl, E3.cell 0 rfl rfl, trivial⟩, fun k29 a29 b29 h30 e30 => ?_⟩
      have E4 := E3.made a29 b29 e30
      exact ⟨⟨E4.cell 0 rfl rfl, E4.cell 0 rfl rfl, E4.cell 0 rfl rfl, E4.cell 0 rfl rfl, trivial⟩, fin (E4.picks [1, 2, 3, 4, 6] (by decide))⟩
    · have E3 := E1.made a40 b40 e41
      refine ⟨⟨E3.cell 0 rfl rfl, E3.cell 0 rfl rfl, E3.cell 0 rfl rfl, E3.cell 0 rfl rfl, trivial⟩, sheet_new_wp fun ks kf h26 E2 => ?_⟩
      have E4 := E3.append E2
      exact ⟨⟨E4.cell 0 rfl rfl, E4.cell 0 rfl rfl, E4.cell 0 rfl rfl, E4.cell 0 rfl rfl, trivial⟩, fin (E4.picks [1, 2, 4, 5, 3] (by decide))⟩
  · refine sheet_new_wp fun ks kf h54 E2 => ?_
    have E3 := E.append E2
    refine ⟨⟨E3.cell 0 rfl rfl, E3.cell 0 rfl rfl, E3.cell 0 rfl rfl, E3.cell 0 rfl rfl, trivial⟩, fun k57 a57 b57 h58 e58 => ?_, fun k71 a71 b71 h72 e72 => ?_⟩
    · have E4 := E3.made a57 b57 e58
      refine ⟨⟨E4.cell 0 rfl rfl, E4.cell 0 rfl rfl, E4.cell 0 rfl rfl, E4.cell 0 rfl rfl, trivial⟩, fun k60 a60 b60 h61 e61 => ?_⟩
      have E5 := E4.made a60 b60 e61
      exact ⟨⟨E5.cell 0 rfl rfl, E5.cell 0 rfl rfl, E5.cell 0 rfl rfl, E5.cell 0 rfl rfl, trivial⟩, fin (E5.picks [1, 5, 2, 3, 6] (by decide))⟩
    · have E4 := E3.made a71 b71 e72
      refine ⟨⟨E4.cell 0 rfl rfl, E4.cell 0 rfl rfl, E4.cell 0 rfl rfl, E4.cell 0 rfl rfl, trivial⟩, fun k74 a74 b74 h75 e75 => ?_⟩
      have E5 := E4.made a74 b74 e75
      exact ⟨⟨E5.cell 0 rfl rfl, E5.cell 0 rfl rfl, E5.cell 0 rfl rfl, E5.cell 0 rfl rfl, trivial⟩, fin (E5.picks [1, 6, 2, 3, 5] (by decide))⟩
  · have E1 := E.made a85 b85 e86
    refine ⟨⟨E1.cell 0 rfl rfl, E1.cell 0 rfl rfl, E1.cell 0 rfl rfl, E1.cell 0 rfl rfl, trivial⟩, fun k88 a88 b88 h89 e89 => ?_, sheet_new_wp fun ks kf h102 E2 => ?_⟩
    · have E3 := E1.made a88 b88 e89
      refine ⟨⟨E3.cell 0 rfl rfl, E3.cell 0 rfl rfl, E3.cell 0 rfl rfl, E3.cell 0 rfl rfl, trivial⟩, sheet_new_wp fun ks kf h91 E2 => ?_⟩
      have E4 := E3.append E2
      exact ⟨⟨E4.cell 0 rfl rfl, E4.cell 0 rfl rfl, E4.cell 0 rfl rfl, E4.cell 0 rfl rfl, trivial⟩, fin (E4.picks [1, 3, 4, 5, 2] (by decide))⟩
    · have E3 := E1.append E2
      refine ⟨⟨E3.cell 0 rfl rfl, E3.cell 0 rfl rfl, E3.cell 0 rfl rfl, E3.cell 0 rfl rfl, trivial⟩, fun k105 a105 b105 h106 e106 => ?_⟩
      have E4 := E3.made a105 b105 e106
      exact ⟨⟨E4.cell 0 rfl rfl, E4.cell 0 rfl rfl, E4.cell 0 rfl rfl, E4.cell 0 rfl rfl, trivial⟩, fin (E4.picks [1, 6, 3, 4, 2] (by decide))⟩
theorem state_copy_wp {Q : Option Addr → Option Addr → Option Addr → Int → Int → Int → Int → Heap → Prop} (E : Keep B h0 L h) (A : StAt L i x s) (O : x.Ok s) (hd : s.d.length ≤ 100000) (hf : s.f.length ≤ 100000) (hQ : ∀ x' h', StI.Ok x' s → Keep B h0 (L ++ x'.e s) h' → Q (some ⟨x'.kd, 0, none⟩) (some ⟨x'.ks, 0, none⟩) (some ⟨x'.kc, 0, none⟩) g.a g.b g.c g.d h') : C_mark_State_Copy B (some ⟨x.kd, 0, none⟩) (some ⟨x.ks, 0, none⟩) (some ⟨x.kc, 0, none⟩) g.a g.b g.c g.d h Q := by
  refine C_mark_State_Copy.of ?_
  unfold S_mark_State_Copy
  intro k15 a15 b15 h16 e16 k17 a17 b17 h18 e18
  have E1 := (E.made a15 b15 e16).made a17 b17 e18
  have g15 : ∀ {M : List (Option (Nat × AObj))} {h1 : Heap}, Keep B h0 (L ++ [some (k15, AObj.vec TY.mark_State (plains [.pointer (some ⟨x.kd, 0, none⟩), .pointer (some ⟨x.ks, 0, none⟩), .pointer (some ⟨x.kc, 0, none⟩), .int .i64 g.a, .int .i64 g.b, .int .i64 g.c, .int .i64 g.d]) 7)] ++ M) h1 → h1 k15 = some (AObj.vec TY.mark_State (plains [.pointer (some ⟨x.kd, 0, none⟩), .pointer (some ⟨x.ks, 0, none⟩), .pointer (some ⟨x.kc, 0, none⟩), .int .i64 g.a, .int .i64 g.b, .int .i64 g.c, .int .i64 g.d]) 7) := fun {M h1} E2 => E2.at L.length (up_app _ (by rw [List.getElem?_append_right (Nat.le_refl _), Nat.sub_self]; rfl))
  have c15 : ∀ {h1 : Heap}, h1 k15 = some (AObj.vec TY.mark_State (plains [.pointer (some ⟨x.kd, 0, none⟩), .pointer (some ⟨x.ks, 0, none⟩), .pointer (some ⟨x.kc, 0, none⟩), .int .i64 g.a, .int .i64 g.b, .int .i64 g.c, .int .i64 g.d]) 7) → cellH B h1 ⟨k15, 0, none⟩ = some (Value.pointer (some ⟨x.kd, 0, none⟩)) ∧ cellH B h1 ⟨k15, 1, none⟩ = some (Value.pointer (some ⟨x.ks, 0, none⟩)) ∧ cellH B h1 ⟨k15, 2, none⟩ = some (Value.pointer (some ⟨x.kc, 0, none⟩)) ∧ CellsAt B h1 ⟨k15, 3, none⟩ 0 [(Value.int .i64 (g.a)), (Value.int .i64 (g.b)), (Value.int .i64 (g.c)), (Value.int .i64 (g.d))] := fun g0 => ⟨cellH_vec g0 rfl, cellH_vec g0 rfl, cellH_vec g0 rfl, cellH_vec g0 rfl, cellH_vec g0 rfl, cellH_vec g0 rfl, cellH_vec g0 rfl, trivial⟩
  obtain ⟨q1, q2, q3, q4⟩ := c15 (g15 E1)
  refine ⟨_, q1, _, q2, _, q3, _, _, _, _, q4, ?_⟩
  have A1 := (A.app (M := [some (k15, AObj.vec TY.mark_State (plains [.pointer (some ⟨x.kd, 0, none⟩), .pointer (some ⟨x.ks, 0, none⟩), .pointer (some ⟨x.kc, 0, none⟩), .int .i64 g.a, .int .i64 g.b, .int .i64 g.c, .int .i64 g.d]) 7)])).app (M := [some (k17, AObj.vec TY.mark_State (plains [.pointer none, .pointer none, .pointer none, .int .i64 0, .int .i64 0, .int .i64 0, .int .i64 0]) 7)])
  refine copy_int_wp E1 A1.d O.d hd fun kd vd rd h34 Rd E2 => ?_
  rw [List.append_assoc] at E2
  obtain ⟨q1, q2, q3, q4⟩ := c15 (g15 E2)
  refine ⟨q1, q2, q3, q4, ?_⟩
  rw [← List.append_assoc] at E2
  refine sheet_copy_wp E2 (A1.app (M := drE_int kd vd rd)) O hf fun ks kf vf rf h40 Rf E3 => ?_
  have E3' := E3
  rw [List.append_assoc, List.append_assoc] at E3'
  obtain ⟨q1, q2, q3, q4⟩ := c15 (g15 E3')
  refine ⟨q1, q2, q3, q4, ?_⟩
  refine cursor_copy_wp E3 ((A1.app (M := drE_int kd vd rd)).app (M := [some (ks, shO kf), some (kf, drO_file_File vf), rf])) fun kc h46 E4 => ?_
  have E4' := E4
  rw [List.append_assoc, List.append_assoc, List.append_assoc] at E4'
  obtain ⟨q1, q2, q3, q4⟩ := c15 (g15 E4')
  refine ⟨q1, q2, q3, q4, ?_⟩
  have hi17 : (L ++ [some (k15, AObj.vec TY.mark_State (plains [.pointer (some ⟨x.kd, 0, none⟩), .pointer (some ⟨x.ks, 0, none⟩), .pointer (some ⟨x.kc, 0, none⟩), .int .i64 g.a, .int .i64 g.b, .int .i64 g.c, .int .i64 g.d]) 7)] ++ [some (k17, AObj.vec TY.mark_State (plains [.pointer none, .pointer none, .pointer none, .int .i64 0, .int .i64 0, .int .i64 0, .int .i64 0]) 7)] ++ drE_int kd vd rd ++ [some (ks, shO kf), some (kf, drO_file_File vf), rf] ++ [some (kc, curO s)])[L.length + 1]? = some (some (k17, AObj.vec TY.mark_State (plains [.pointer none, .pointer none, .pointer none, .int .i64 0, .int .i64 0, .int .i64 0, .int .i64 0]) 7)) := by
    refine up_app _ (up_app _ (up_app _ ?_))
    rw [List.append_assoc, List.getElem?_append_right (by omega), show L.length + 1 - L.length = 1 by omega]; rfl
  refine ⟨_, stores_whole (E4.at _ hi17) rfl (by simp) (by simp [isOne]) (by simp), ?_⟩
  have E5 := E4.put (o' := .vec TY.mark_State (plains [.pointer (some ⟨kd, 0, none⟩), .pointer (some ⟨ks, 0, none⟩), .pointer (some ⟨kc, 0, none⟩), .int .i64 g.a, .int .i64 g.b, .int .i64 g.c, .int .i64 g.d]) 7) (L.length + 1) hi17
  have g17 := E5.at (L.length + 1) (by rw [List.getElem?_set_self (List.getElem?_eq_some_iff.1 hi17).1])
  refine ⟨_, _, _, _, _, _, _, ⟨cellH_vec g17 rfl, cellH_vec g17 rfl, cellH_vec g17 rfl, cellH_vec g17 rfl, cellH_vec g17 rfl, cellH_vec g17 rfl, cellH_vec g17 rfl, trivial⟩, Fin.of ?_⟩
  refine hQ ⟨kd, vd, rd, ks, kf, vf, rf, kc⟩ _ ⟨Rd, Rf⟩ ?_
  have e5 : (L ++ [some (k15, AObj.vec TY.mark_State (plains [.pointer (some ⟨x.kd, 0, none⟩), .pointer (some ⟨x.ks, 0, none⟩), .pointer (some ⟨x.kc, 0, none⟩), .int .i64 g.a, .int .i64 g.b, .int .i64 g.c, .int .i64 g.d]) 7)] ++ [some (k17, AObj.vec TY.mark_State (plains [.pointer none, .pointer none, .pointer none, .int .i64 0, .int .i64 0, .int .i64 0, .int .i64 0]) 7)] ++ drE_int kd vd rd ++ [some (ks, shO kf), some (kf, drO_file_File vf), rf] ++ [some (kc, curO s)]).set (L.length + 1) (some (k17, .vec TY.mark_State (plains [.pointer (some ⟨kd, 0, none⟩), .pointer (some ⟨ks, 0, none⟩), .pointer (some ⟨kc, 0, none⟩), .int .i64 g.a, .int .i64 g.b, .int .i64 g.c, .int .i64 g.d]) 7)) = L ++ ([some (k15, AObj.vec TY.mark_State (plains [.pointer (some ⟨x.kd, 0, none⟩), .pointer (some ⟨x.ks, 0, none⟩), .pointer (some ⟨x.kc, 0, none⟩), .int .i64 g.a, .int .i64 g.b, .int .i64 g.c, .int .i64 g.d]) 7), some (k17, .vec TY.mark_State (plains [.pointer (some ⟨kd, 0, none⟩), .pointer (some ⟨ks, 0, none⟩), .pointer (some ⟨kc, 0, none⟩), .int .i64 g.a, .int .i64 g.b, .int .i64 g.c, .int .i64 g.d]) 7)] ++ StI.e ⟨kd, vd, rd, ks, kf, vf, rf, kc⟩ s) := by
    simp only [List.append_assoc]
    rw [List.set_append_right _ _ (by omega), show L.length + 1 - L.length = 1 by omega]
    rfl
  rw [e5] at E5
  exact E5.dropMid
theorem MRow.len (R : MRow r (.slice a m c) l) : m = l.length := (Row.rd (B := fun _ => none) R MarkR.len (by omega)).1
theorem push_wp {Q : Bool → Heap → Prop} (E : Keep B h0 L h) (A : SkAt L i k v r) (R : MRow r v l) (hl : l.length ≤ 10000) (S : StAt L j x s) (O : x.Ok s) (hd : s.d.length ≤ 100000) (hf : s.f.length ≤ 100000)
    (hQ : ∀ x' v' r' h', StI.Ok x' s → MRow r' v' (l ++ [⟨x', g, mm, place⟩]) → Keep B h0 ((L.set i (some (k, skO v'))).set (i + 1) r' ++ x'.e s) h' → Q true h') : C_mark_Stack_Push B (some ⟨k, 0, none⟩) (some ⟨x.kd, 0, none⟩) (some ⟨x.ks, 0, none⟩) (some ⟨x.kc, 0, none⟩) g.a g.b g.c g.d mm.a mm.b mm.c mm.d place h Q := by
  refine C_mark_Stack_Push.of ?_
  unfold S_mark_Stack_Push
  have hil : i < L.length := (List.getElem?_eq_some_iff.1 A.p).1
  have hil1 : i + 1 < L.length := (List.getElem?_eq_some_iff.1 A.q).1
  intro k15 a15 b15 h16 e16
  have E1 := E.made a15 b15 e16
  have g1 := E1.last
  obtain ⟨a, m, c, rfl⟩ := Row.slice R
  obtain rfl := MRow.len R
  have hfl := flatMap_length MarkR.len l
  refine ⟨fun e => (by cases e), fun _ => ⟨_, _, _, _, _, _, _, ⟨cellH_vec g1 rfl, cellH_vec g1 rfl, cellH_vec g1 rfl, cellH_vec g1 rfl, cellH_vec g1 rfl, cellH_vec g1 rfl, cellH_vec g1 rfl, trivial⟩, ?_⟩⟩
  refine state_copy_wp (g := g) E1 S.app O hd hf fun x' h25 O' E2 => ?_
  have mid : ∀ (y : Option (Nat × AObj)) (M : List (Option (Nat × AObj))), (L ++ [y] ++ M)[L.length]? = some y := fun y M => up_app _ (by rw [List.getElem?_append_right (Nat.le_refl _), Nat.sub_self]; rfl)
  have midset : ∀ (y z : Option (Nat × AObj)) (M : List (Option (Nat × AObj))), (L ++ [y] ++ M).set L.length z = L ++ [z] ++ M := fun y z M => by
    rw [List.append_assoc, List.set_append_right _ _ (Nat.le_refl _), Nat.sub_self, List.append_assoc]; rfl
  obtain ⟨h33, s1, -, s3⟩ := StoresAt.over (k := k15) (nn := 12) (t := TY.mark_Mark) [.pointer (some ⟨x'.kd, 0, none⟩), .pointer (some ⟨x'.ks, 0, none⟩), .pointer (some ⟨x'.kc, 0, none⟩), .int .i64 g.a, .int .i64 g.b, .int .i64 g.c, .int .i64 g.d] h25 0 0 [] (MarkR.cells ⟨x, g, mm, place⟩) (by simp [isOne]) (E2.at L.length (mid _ _)) rfl (by simp)
  have s4 := s3 (by simp)
  refine ⟨h33, s1, _, rfl, a, l.length, c, ?_⟩
  have E3 := E2.put (o' := .vec TY.mark_Mark (plains (MarkR.cells ⟨x', g, mm, place⟩)) 12) L.length (mid _ _)
  rw [midset] at E3
  have e3 : h33 = h25.set k15 (.vec TY.mark_Mark (plains (MarkR.cells ⟨x', g, mm, place⟩)) 12) := s4
  rw [← e3] at E3
  have gp : ∀ {M : List (Option (Nat × AObj))} {h1 : Heap}, Keep B h0 (L ++ M) h1 → cellH B h1 ⟨k, 0, none⟩ = some (.slice a l.length c) := fun {M h1} E4 => E4.cell i (up_app _ A.p) rfl
  have gc : ∀ {M : List (Option (Nat × AObj))} {h1 : Heap}, Keep B h0 (L ++ [some (k15, .vec TY.mark_Mark (plains (MarkR.cells ⟨x', g, mm, place⟩)) 12)] ++ M) h1 → CellsAt B h1 ⟨k15, 0, none⟩ 0 (MarkR.cells ⟨x', g, mm, place⟩) := fun {M h1} E4 => CellsAt.of_vec (MarkR.cells ⟨x', g, mm, place⟩) 0 (E4.at L.length (mid _ _)) fun j y hj => by rw [plains_get, Nat.zero_add, hj]; rfl
  have E3a := E3
  rw [List.append_assoc] at E3a
  refine ⟨gp E3a, _, _, _, _, _, _, _, _, _, _, _, _, gc E3, fun k57 a57 b57 h58 e58 => ?_⟩
  have E4 := E3.made a57 b57 e58
  have E4a := E4
  rw [List.append_assoc, List.append_assoc] at E4a
  have E4b := E4
  rw [List.append_assoc (L ++ _)] at E4b
  refine ⟨gp E4a, gc E4b, ?_⟩
  have g57 := E4.last
  refine E4.pushS (i + 1) (n := 1) (ys := MarkR.cells ⟨x', g, mm, place⟩) (up_app _ (up_app _ (up_app _ A.q))) R TK.slc_mark TK.zero_mark rfl (by omega) (by omega) TK.sl_mark ⟨rfl, MarkR.one _, .inl ⟨_, _, rfl, CellsAt.of_vec (MarkR.cells ⟨x', g, mm, place⟩) 0 g57 fun j y hj => by show (plains (MarkR.cells ⟨x', g, mm, place⟩))[_]? = _; rw [plains_get, Nat.zero_add, hj]; rfl⟩⟩ (by rw [hfl, MarkR.len]; omega) fun a' m' c' r' h61 R' E5 => ?_
  have hset : ∀ (N : List (Option (Nat × AObj))) (y : Option (Nat × AObj)), (L ++ N).set (i + 1) y = L.set (i + 1) y ++ N := fun N y => List.set_append_left _ _ hil1
  rw [List.append_assoc, List.append_assoc, hset] at E5
  have hp5 : (L.set (i + 1) r' ++ ([some (k15, .vec TY.mark_Mark (plains (MarkR.cells ⟨x', g, mm, place⟩)) 12)] ++ (x'.e s ++ [some (k57, .vec TY.mark_Mark (plains (MarkR.cells ⟨x', g, mm, place⟩)) 12)])))[i]? = some (some (k, skO (.slice a l.length c))) := up_app _ (by rw [List.getElem?_set_ne (by omega)]; exact A.p)
  refine ⟨_, _, _, rfl, E5.cell i hp5 rfl, ?_, _, rfl, ?_⟩
  · have g6 := E5.at L.length (k := k15) (o := .vec TY.mark_Mark (plains (MarkR.cells ⟨x', g, mm, place⟩)) 12) (by rw [List.getElem?_append_right (Nat.le_of_eq (List.length_set ..)), List.length_set, Nat.sub_self]; rfl)
    exact CellsAt.of_vec (MarkR.cells ⟨x', g, mm, place⟩) 0 g6 fun j y hj => by rw [plains_get, Nat.zero_add, hj]; rfl
  · obtain ⟨es, E6⟩ := E5.store i 0 (.slice a' m' c') hp5 rfl
    refine ⟨_, es, Fin.of (hQ x' (.slice a' m' c') r' _ O' ?_ ?_)⟩
    · unfold MRow; rw [List.flatMap_append]; exact R'
    · rw [List.set_append_left _ _ (by rw [List.length_set]; omega), List.set_comm _ _ (by omega)] at E6
      rw [← List.append_assoc, ← List.append_assoc] at E6
      have E7 := Keep.pop E6
      rw [List.append_assoc] at E7
      exact E7.dropMid
end
end Go.Proofs.YtgldgabefiialaaGreat.H
namespace Go.Proofs.YtgldgabefiialaaGreat.H
open Go Go.RowKit
set_option linter.unusedVariables false
set_option maxRecDepth 100000
def dallF (k3 : Nat) : Value := Value.func (.func FN.draft_Draft_int_All_1) #[] #[(Value.pointer (some ⟨k3, 0, none⟩))]
def encD (x : Int × Int) : List Value := [.int .i64 x.1, .int .i64 x.2]
def dG (k3 k : Nat) (v : Value) (r : Option (Nat × AObj)) (h : Heap) : Prop :=
  h k3 = some (.vec TY.p_draft_Draft_int [.plain (.pointer (some ⟨k, 0, none⟩))] 1) ∧ h k = some (drO_int v) ∧ ∀ k o, r = some (k, o) → h k = some o
theorem dG_ins {k3 kk : Nat} {v : Value} {r : Option (Nat × AObj)} : Ins (dG k3 kk v r) := by
  rintro h k o hk ⟨g1, g2, g3⟩
  exact ⟨Heap.get_new hk g1, Heap.get_new hk g2, fun k' o' e => Heap.get_new hk (g3 k' o' e)⟩
section
variable {B : RO} {h0 h h' : Heap} {L : List (Option (Nat × AObj))} {r : Option (Nat × AObj)} {i k k3 : Nat} {a : Option Addr} {m c : Nat} {v : Value} {l : List (Int × Int)} {n : Int}
theorem dall_wp {p : Option Addr} {Q : Value → Heap → Prop} (hQ : ∀ k, h k = none → B k = none → Q (dallF k) (h.set k (.vec TY.p_draft_Draft_int [.plain (.pointer p)] 1))) : C_draft_Draft_int_All B p h Q := by
  refine C_draft_Draft_int_All.of ?_
  unfold S_draft_Draft_int_All
  intro k a1 b1 h4 e4
  subst e4
  exact Fin.of (hQ k a1 b1)
theorem dall_iter (R : DRow_int r v l) (hlen : l.length ≤ 100000) : Iter PG B (dallF k3) (l.map encD) (dG k3 k v r) := by
  refine ⟨_, _, _, rfl, TG.draft_Draft_int_All_1, fun y J X h hy hG h0 hcall => ?_⟩
  have main : C_draft_Draft_int_All_1 B y ⟨k3, 0, none⟩ h (fun h' => Fin B h' (fun h'' => J (l.map encD).length h'' ∨ X h'')) := by
    refine C_draft_Draft_int_All_1.of ?_
    unfold S_draft_Draft_int_All_1
    obtain ⟨a, m, c, rfl⟩ := Row.slice R
    obtain ⟨rfl, hrd⟩ := Row.rd (B := B) R entC_int_len (by omega)
    obtain ⟨g1, g2, g3⟩ := hG 0 h h0
    refine ⟨_, cellH_vec g1 rfl, fun e => (by cases e), fun _ => ⟨_, cellH_vec g1 rfl, _, rfl, .inl ⟨a, _, c, cellH_vec g2 rfl, ?_⟩⟩⟩
    refine ⟨fun i m' h' => ∃ j : Nat, j ≤ l.length ∧ i = j ∧ m' = l.length - j ∧ J j h', l.length, Fin.of ⟨0, by omega, rfl, by omega, h0⟩, ?_⟩
    rintro _ _ h13 ⟨j, hj, rfl, rfl, hJ⟩
    obtain ⟨g1, g2, g3⟩ := hG j h13 hJ
    refine ⟨fun hlt => ?_, fun hge => Fin.of ?_⟩
    · have hj' : j < l.length := by omega
      have hx := List.getElem?_eq_getElem hj'
      generalize l[j] = x at hx
      obtain ⟨A, e, _, q⟩ := hrd h13 g3 j _ hx
      refine ⟨A, e, by omega, hlt, x.1, x.2, q, fun k24 a24 b24 h25 e25 => ?_⟩
      obtain ⟨g25, l25, -⟩ := Heap.made a24 e25
      refine ⟨_, stores_whole g25 rfl (by simp) (by simp [isOne]) (by simp), ?_⟩
      generalize e26 : h25.set k24 _ = h26
      obtain ⟨g26, -, -⟩ := Heap.put e26
      refine ⟨_, cellH_vec g26 rfl, _, cellH_vec g26 rfl, ?_⟩
      have w : Wk B h13 h26 := by
        rw [← e26, e25, Heap.set_set]; exact Wk.new a24 b24
      have hc := hcall j h13 (encD x) (by rw [List.getElem?_map, hx]; rfl) hJ
      refine CallV.mono ?_ (hc.weaken w)
      rintro v h27 ⟨h28, t1, h29, t2, hor⟩
      rcases hor with ⟨rfl, hJ'⟩ | ⟨rfl, hX⟩
      · refine ⟨true, rfl, fun _ => ⟨h29, t1.trans t2, l.length - (j + 1), by omega, j + 1, by omega, ?_, rfl, hJ'⟩, fun e => by cases e⟩
        rw [w64 (by omega) (by omega)]; omega
      · exact ⟨false, rfl, fun e => (by cases e), fun _ => ⟨h29, t1.trans t2, Fin.of (.inr hX)⟩⟩
    · have : j = l.length := by omega
      subst this
      refine Fin.of (.inl ?_)
      rw [List.length_map]
      exact hJ
  exact Spec.mono main fun v h' q => q.2
end
end Go.Proofs.YtgldgabefiialaaGreat.H
namespace Go.Proofs.YtgldgabefiialaaGreat.H
open Go Go.RowKit
set_option linter.unusedVariables false
set_option maxRecDepth 100000
def zeroM : List Value := [.pointer none, .pointer none, .pointer none, .int .i64 0, .int .i64 0, .int .i64 0, .int .i64 0, .int .i64 0, .int .i64 0, .int .i64 0, .int .i64 0, .int .i64 0]
section
variable {B : RO} {h0 h h' : Heap} {L : List (Option (Nat × AObj))} {r : Option (Nat × AObj)} {i j k : Nat} {a : Option Addr} {m c : Nat} {v : Value} {l : List MarkR} {z : MarkR}
theorem delete_wp {Q : Option Addr → Nat → Nat → Heap → Prop} (E : Keep B h0 L h) (hq : L[i]? = some r) (R : MRow r (.slice a (l.length + 1) c) (l ++ [z])) (hl : l.length ≤ 10000)
    (hQ : ∀ r' h', MRow r' (.slice a l.length c) l → Keep B h0 (L.set i r') h' → Q a l.length c h') : C_slices_Delete_s_mark_Mark_mark_Mark B a (l.length + 1) c (l.length : Nat) ((l.length + 1 : Nat)) h Q := by
  refine C_slices_Delete_s_mark_Mark_mark_Mark.of ?_
  unfold S_slices_Delete_s_mark_Mark_mark_Mark
  have hcap := Row.cap R
  have hfl := flatMap_length MarkR.len l
  have hil := (List.getElem?_eq_some_iff.1 hq).1
  have Rc := Row.cut R (n := l.length) (by omega)
  have hfa : (l ++ [z]).flatMap MarkR.cells = l.flatMap MarkR.cells ++ z.cells := by rw [List.flatMap_append]; simp
  refine ⟨by omega, by omega, by omega, by omega, fun e => by omega, fun _ => ⟨by omega, by omega, by omega, by omega, by omega, by omega, ?_⟩⟩
  simp only [Int.toNat_natCast, Int.toNat_zero, Nat.sub_zero, optAddZ, Nat.sub_self]
  have tf := slT_facts TK.sl_mark
  have hsrc : ∀ A' : Option Addr, Src B h (.slice A' 0 (c - (l.length + 1))) 12 0 [] := fun A' => by
    refine ⟨rfl, by simp, ?_⟩
    cases A' with
    | none => exact .inr (.inl ⟨_, rfl, rfl⟩)
    | some A => exact .inl ⟨A, _, rfl, trivial⟩
  refine semH_append (n := 0) (ys := []) TK.slc_mark TK.zero_mark rfl (by omega) (by omega) tf.1 tf.2 (E.sl i hq Rc) (hsrc _) (by rw [hfa, ← hfl, List.take_left, hfl]; simp; omega) fun v' h'' ap => ?_
  rcases ap with ⟨_, rfl, rfl⟩ | ⟨k', m', n', c', nn, js, hn, _, _, _, h2, _⟩
  · rcases R with ⟨_, e1, e2⟩ | ⟨kr, m', c', nn, js, rfl, e1, e3, e4, e5⟩
    · rw [hfa] at e2; simp [MarkR.cells] at e2
    · cases e1
      refine ⟨_, _, _, rfl, by omega, by omega, by omega, ?_⟩
      have ne : ¬ c = l.length := by omega
      simp only [if_neg ne, Option.map_some, addr_more, Nat.zero_add, show l.length + 1 - l.length = 1 by omega]
      have h5 : (l.length + 1) * 12 ≤ nn := Nat.le_trans (Nat.mul_le_mul_right _ e4) e5
      obtain ⟨h26, st, E2⟩ := E.storesV i (k := kr) (nn := nn) (t := TY.mark_Mark) (fs := l.flatMap MarkR.cells) (gs := z.cells ++ js) (by rw [hq, hfa, List.append_assoc]) zeroM (by simp [zeroM, isOne]) (l.length * 12) hfl (by simp [zeroM]; omega)
      refine semH_clearSl TK.slc_mark TK.zero_mark (by omega) (zeroCells_one _).symm st ⟨rfl, Fin.of (hQ _ _ (.inr ⟨kr, l.length, c, nn, zeroM ++ (z.cells ++ js).drop zeroM.length, ?_, rfl, hfl.symm, by omega, e5⟩) E2)⟩
      rw [← List.append_assoc]
  · have : n' = 0 := by simp at h2; omega
    exact absurd this hn
theorem pop_wp {Q : Option Addr → Option Addr → Option Addr → Int → Int → Int → Int → Int → Int → Int → Int → Int → Bool → Heap → Prop} (E : Keep B h0 L h) (A : SkAt L i k v r) (R : MRow r v l) (hl : l.length ≤ 10000)
    (h0' : l = [] → ∀ h', Keep B h0 L h' → Q none none none 0 0 0 0 0 0 0 0 0 false h')
    (hQ : ∀ l' z v' r' h', l = l' ++ [z] → MRow r' v' l' → Keep B h0 ((L.set i (some (k, skO v'))).set (i + 1) r') h' → Q (some ⟨z.x.kd, 0, none⟩) (some ⟨z.x.ks, 0, none⟩) (some ⟨z.x.kc, 0, none⟩) z.g.a z.g.b z.g.c z.g.d z.m.a z.m.b z.m.c z.m.d z.place true h') : C_mark_Stack_Pop B (some ⟨k, 0, none⟩) h Q := by
  refine C_mark_Stack_Pop.of ?_
  unfold S_mark_Stack_Pop
  have hil : i < L.length := (List.getElem?_eq_some_iff.1 A.p).1
  have hil1 : i + 1 < L.length := (List.getElem?_eq_some_iff.1 A.q).1
  intro k15 a15 b15 h16 e16
  have E1 : Keep B h0 (L ++ [some (k15, .vec TY.mark_Mark (plains zeroM) 12)]) h16 := E.made a15 b15 e16
  obtain ⟨a, m, c, rfl⟩ := Row.slice R
  obtain rfl := MRow.len R
  refine ⟨fun e => (by cases e), fun _ => ⟨_, rfl, .inl ⟨a, _, c, E1.cell i (up_app _ A.p) rfl, fun hz => ?_, fun hnz => Fin.of ?_⟩⟩⟩
  · refine ⟨_, stores_whole (us := zeroM) E1.last rfl (by simp) (by simp [isOne]) (by simp), ?_⟩
    have E2 := E1.putLast (.vec TY.mark_Mark (plains zeroM) 12)
    have g := E2.last
    exact ⟨_, _, _, _, _, _, _, _, _, _, _, _, ⟨cellH_vec g rfl, cellH_vec g rfl, cellH_vec g rfl, cellH_vec g rfl, cellH_vec g rfl, cellH_vec g rfl, cellH_vec g rfl, cellH_vec g rfl, cellH_vec g rfl, cellH_vec g rfl, cellH_vec g rfl, cellH_vec g rfl, trivial⟩, Fin.of (h0' (List.length_eq_zero_iff.1 (by omega)) _ E2.pop)⟩
  · unfold S_mark_Stack_Pop_J1
    obtain ⟨l', z, rfl⟩ : ∃ l' z, l = l' ++ [z] := ⟨l.dropLast, l.getLast (fun e => by rw [e] at hnz; simp at hnz), (List.dropLast_concat_getLast _).symm⟩
    have hll : (l' ++ [z]).length = l'.length + 1 := by simp
    have hw1 : IntKind.wrap .i64 ((((l' ++ [z]).length : Nat) : Int) - 1) = ((l'.length : Nat) : Int) := by rw [w64 (by omega) (by omega)]; omega
    have hw2 : IntKind.wrap .i64 (((l'.length : Nat) : Int) + 1) = ((l'.length + 1 : Nat) : Int) := by rw [w64 (by omega) (by omega)]; omega
    obtain ⟨-, hrd⟩ := Row.rd (B := B) R MarkR.len (by omega)
    obtain ⟨A', e1, _, e4⟩ := hrd h16 (fun k o e => E1.at (i + 1) (by rw [up_app _ A.q, e])) l'.length z (by simp)
    refine ⟨_, rfl, .inl ⟨a, _, c, E1.cell i (up_app _ A.p) rfl, _, rfl, .inl ⟨a, _, c, E1.cell i (up_app _ A.p) rfl, A', e1, ?_⟩⟩⟩
    rw [hw1, hw2]
    refine ⟨by omega, by omega, _, _, _, _, _, _, _, _, _, _, _, _, e4, fun k45 a45 b45 h46 e46 => ?_⟩
    have E2 : Keep B h0 (L ++ [some (k15, .vec TY.mark_Mark (plains zeroM) 12)] ++ [some (k45, .vec TY.mark_Mark (plains zeroM) 12)]) h46 := E1.made a45 b45 e46
    refine ⟨_, stores_whole (us := zeroM) E2.last rfl (by simp) (by simp [isOne]) (by simp), ?_⟩
    have E3 := E2.putLast (.vec TY.mark_Mark (plains z.cells) 12)
    refine ⟨_, rfl, .inl ⟨a, (l' ++ [z]).length, c, E3.cell i (up_app _ (up_app _ A.p)) rfl, ?_⟩⟩
    rw [hll] at R hl ⊢
    refine delete_wp (i := i + 1) E3 (up_app _ (up_app _ A.q)) R (by omega) fun r' h54 R' E4 => ?_
    rw [List.append_assoc, List.set_append_left _ _ hil1] at E4
    have hp : (L.set (i + 1) r' ++ ([some (k15, .vec TY.mark_Mark (plains zeroM) 12)] ++ [some (k45, .vec TY.mark_Mark (plains z.cells) 12)]))[i]? = some (some (k, skO (.slice a (l' ++ [z]).length c))) := up_app _ (by rw [List.getElem?_set_ne (by omega)]; exact A.p)
    obtain ⟨es, E5⟩ := E4.store i 0 (.slice a l'.length c) hp rfl
    refine ⟨_, rfl, _, es, ?_⟩
    rw [List.set_append_left _ _ (by rw [List.length_set]; omega), List.set_comm _ _ (by omega), ← List.append_assoc] at E5
    have g45 := E5.last
    refine ⟨_, _, _, _, _, _, _, _, _, _, _, _, ⟨cellH_vec g45 rfl, cellH_vec g45 rfl, cellH_vec g45 rfl, cellH_vec g45 rfl, cellH_vec g45 rfl, cellH_vec g45 rfl, cellH_vec g45 rfl, cellH_vec g45 rfl, cellH_vec g45 rfl, cellH_vec g45 rfl, cellH_vec g45 rfl, cellH_vec g45 rfl, trivial⟩, ?_⟩
    have E6 := E5.swapLast.pop
    have E7 := E5.pop
    have g15 := E7.last
    refine ⟨_, stores_whole (us := zeroM) g15 rfl (by simp) (by simp [isOne]) (by simp), ?_⟩
    have E8 := E7.putLast (.vec TY.mark_Mark (plains z.cells) 12)
    have g := E8.last
    exact ⟨_, _, _, _, _, _, _, _, _, _, _, _, ⟨cellH_vec g rfl, cellH_vec g rfl, cellH_vec g rfl, cellH_vec g rfl, cellH_vec g rfl, cellH_vec g rfl, cellH_vec g rfl, cellH_vec g rfl, cellH_vec g rfl, cellH_vec g rfl, cellH_vec g rfl, cellH_vec g rfl, trivial⟩, Fin.of (hQ l' z _ r' _ rfl R' E8.pop)⟩
end
end Go.Proofs.YtgldgabefiialaaGreat.H
namespace Go.Proofs.YtgldgabefiialaaGreat.H
open Go Go.RowKit
set_option linter.unusedVariables false
set_option maxRecDepth 100000
section
variable {B : RO} {h0 h h' : Heap} {L M : List (Option (Nat × AObj))} {r : Option (Nat × AObj)} {i k : Nat} {v : Value} {l : List MarkR}
theorem semH_clear0 {t ty : TypeId} {e sz bz cc : Nat} {a : Option Addr} {K : Value → Heap → Prop} (ht : slcB PG t = some (e, sz, bz)) (hk : K (.tuple #[]) h) : semH PG B (Builtin.clear_ #[t] ty #[.slice a 0 cc]) h K := by
  unfold slcB at ht
  split at ht
  · rename_i e' hu
    show semH PG B (do
        match ← underlying t, (.slice a 0 cc : Value) with
        | _, .map none | _, .slice none _ _ | _, .slice _ 0 _ => pure ()
        | _, .map (some r) =>
          let .map _ clock ← getObj r | stuck "clear: map expected"
          setObj r (.map #[] clock)
        | .slice elem, .slice (some a) n _ =>
          storeCells a (Builtin.zeroCells (← zeroValue elem).cells n).toList
        | _, _ => stuck "clear: map or slice expected"
        pure (.tuple #[])) h K
    rw [semH_und hu]
    cases a with
    | none => exact hk
    | some A => exact hk
  · cases ht
theorem clear_wp {Q : Heap → Prop} (E : Keep B h0 L h) (A : SkAt L i k v r) (R : MRow r v l) (hQ : ∀ v' r' h', MRow r' v' [] → Keep B h0 ((L.set i (some (k, skO v'))).set (i + 1) r') h' → Q h') : C_mark_Stack_Clear B (some ⟨k, 0, none⟩) h Q := by
  refine C_mark_Stack_Clear.of ?_
  unfold S_mark_Stack_Clear
  obtain ⟨a, m, c, rfl⟩ := Row.slice R
  obtain rfl := MRow.len R
  have hil : i < L.length := (List.getElem?_eq_some_iff.1 A.p).1
  have hil1 : i + 1 < L.length := (List.getElem?_eq_some_iff.1 A.q).1
  have hcap := Row.cap R
  refine ⟨fun e => (by cases e), fun _ => ⟨_, rfl, .inl ⟨a, _, c, E.cell i A.p rfl, ?_⟩⟩⟩
  have tail : ∀ {h9 : Heap} {r' : Option (Nat × AObj)}, MRow r' (.slice a 0 c) [] → Keep B h0 (L.set (i + 1) r') h9 → ((Value.tuple #[] : Value) = Value.tuple #[] ∧ ∃ A10 : Addr, (some (⟨k, 0, none⟩ : Addr)) = some A10 ∧ LdSl B h9 A10 fun a12 n13 c14 h15 => 0 ≤ (0 : Int) ∧ (0 : Int) ≤ (0 : Int) ∧ (0 : Int) ≤ (c14 : Nat) ∧ ∃ A16 : Addr, (some (⟨k, 0, none⟩ : Addr)) = some A16 ∧ ∃ h18 : Heap, storeH h15 A16 (Value.slice (if c14 = Int.toNat (0) then a12 else Option.map (·.add (Int.toNat (0) * 12)) a12) (Int.toNat (0) - Int.toNat (0)) (c14 - Int.toNat (0))) = some h18 ∧ Fin B h18 Q) := fun {h9 r'} R' E1 => by
    have hp : (L.set (i + 1) r')[i]? = some (some (k, skO (.slice a l.length c))) := by rw [List.getElem?_set_ne (by omega)]; exact A.p
    obtain ⟨h18, es, E2⟩ : ∃ h', storeH h9 ⟨k, 0, none⟩ (.slice a 0 c) = some h' ∧ Keep B h0 ((L.set (i + 1) r').set i (some (k, skO (.slice a 0 c)))) h' := ⟨_, E1.store i 0 (.slice a 0 c) hp rfl⟩
    rw [List.set_comm _ _ (by omega)] at E2
    refine ⟨rfl, _, rfl, .inl ⟨a, _, c, E1.cell i hp rfl, by omega, by omega, by omega, _, rfl, h18, ?_, Fin.of (hQ (.slice a 0 c) r' h18 R' E2)⟩⟩
    simp only [Int.toNat_zero, optAddZ, Nat.sub_zero]; exact es
  rcases Nat.eq_zero_or_pos l.length with hz | hpz
  · have : l = [] := List.length_eq_zero_iff.1 hz
    subst this
    refine semH_clear0 TK.slc_mark ?_
    refine tail R ?_
    have : L.set (i + 1) r = L := by
      obtain ⟨hl, e⟩ := List.getElem?_eq_some_iff.1 A.q
      rw [← e]; exact List.set_getElem_self hl
    rw [this]; exact E
  · have hfl := flatMap_length MarkR.len l
    rcases R with ⟨_, e1, e2⟩ | ⟨kr, m', c', nn, js, e0, e1, e3, e4, e5⟩
    · rw [e2] at hfl; simp at hfl; omega
    · cases e1
      have hle : (l.length : Nat) * 12 ≤ nn := Nat.le_trans (Nat.mul_le_mul_right _ e4) e5
      have hzl : ((Builtin.zeroCells zeroM.toArray l.length).toList).length = l.length * 12 := by
        rw [Array.length_toList, zeroCells_size]; rfl
      have hzo : ∀ y ∈ (Builtin.zeroCells zeroM.toArray l.length).toList, isOne y = true := fun y hy => by
        rw [Builtin.zeroCells, Array.toList_map] at hy
        obtain ⟨p, _, rfl⟩ := List.mem_map.1 hy
        have hall : ∀ p, p < 12 → isOne (zeroM.toArray[p]!) = true := by decide
        exact hall _ (Nat.mod_lt _ (by decide))
      obtain ⟨h9, st, E2⟩ := E.storesV (i + 1) (k := kr) (nn := nn) (t := TY.mark_Mark) (fs := []) (gs := l.flatMap MarkR.cells ++ js) (by rw [A.q, e0]; rfl) _ hzo 0 rfl (by rw [hzl]; omega)
      refine semH_clearSl TK.slc_mark TK.zero_mark (by omega) rfl st (tail (.inr ⟨kr, 0, c, nn, _, rfl, rfl, by simp, by omega, e5⟩) E2)
end
end Go.Proofs.YtgldgabefiialaaGreat.H
namespace Go.Proofs.YtgldgabefiialaaGreat.H
open Go
set_option linter.unusedVariables false
set_option maxRecDepth 100000
def OpenC (x : Int × Int) : List Value := [.int .i64 x.1, .int .i64 x.2]
theorem OpenC_len (x : Int × Int) : (OpenC x).length = 2 := rfl
def OutC (x : Int × Int) : List Value := [.int .i64 x.1, .int .u8 x.2]
theorem OutC_len (x : Int × Int) : (OutC x).length = 2 := rfl
def NoteC (x : Int) : List Value := [.int .i64 x]
theorem NoteC_len (x : Int) : (NoteC x).length = 1 := rfl
def negD (x : Int × Int) : Int × Int := (x.1, IntKind.wrap .i64 (0 - x.2))
def undoL (l : List (Int × Int)) : List (Int × Int) := l.reverse.map negD
def actO (v0 v1 v2 v3 : Value) : AObj := .vec TY.acts_Acts (plains [v0, v1, v2, v3]) 4
theorem TK.slc_opens : slcB PG TY.s_acts_Open = some (TY.acts_Open, 2, 16) := by kernel_rfl
theorem TK.zero_open : zeroB PG TY.acts_Open = some [.int .i64 0, .int .i64 0] := by kernel_rfl
theorem TK.sl_opens : slT PG TY.s_acts_Open = true := by kernel_rfl
def bwOf (l : List (Int × Int)) : List (Int × Int × Int) := (l.zipIdx.map fun p => ((p.2 : Int), p.1)).reverse
def bwC (x : Int × Int × Int) : List Value := [.int .i64 x.1, .agg #[.int .i64 x.2.1, .int .i64 x.2.2]]
theorem bwOf_len (l : List (Int × Int)) : (bwOf l).length = l.length := by simp [bwOf]
theorem bwOf_get (l : List (Int × Int)) (q : Nat) (hq : q < l.length) : (bwOf l)[q]? = some (((l.length - 1 - q : Nat) : Int), l[l.length - 1 - q]) := by
  unfold bwOf
  rw [List.getElem?_reverse (by simpa using hq), List.getElem?_map, List.length_map, List.length_zipIdx, List.getElem?_zipIdx]
  rw [List.getElem?_eq_getElem (by omega)]
  simp
def bwF (k5 : Nat) : Value := Value.func (.func FN.slices_Backward_s_acts_Open_acts_Open_1) #[] #[(Value.pointer (some ⟨k5, 0, none⟩))]
section
variable {B : RO} {h0 h h' : Heap} {L : List (Option (Nat × AObj))} {r : Option (Nat × AObj)} {a : Option Addr} {m c k : Nat} {l : List (Int × Int)}
theorem bw_wp {Q : Value → Heap → Prop} (hQ : ∀ k, h k = none → B k = none → Q (bwF k) (h.set k (.vec TY.s_acts_Open [.plain (.slice a m c)] 1))) : C_slices_Backward_s_acts_Open_acts_Open B a m c h Q := by
  refine C_slices_Backward_s_acts_Open_acts_Open.of ?_
  unfold S_slices_Backward_s_acts_Open_acts_Open
  intro k a1 b1 h4 e4
  subst e4
  exact Fin.of (hQ k a1 b1)
def bwG (k5 : Nat) (r : Option (Nat × AObj)) (a : Option Addr) (m c : Nat) (h : Heap) : Prop := h k5 = some (.vec TY.s_acts_Open [.plain (.slice a m c)] 1) ∧ ∀ k o, r = some (k, o) → h k = some o
theorem bw_ins {k5 : Nat} : Ins (bwG k5 r a m c) := by
  rintro h k o hk ⟨g1, g2⟩
  exact ⟨Heap.get_new hk g1, fun k' o' e => Heap.get_new hk (g2 k' o' e)⟩
theorem bw_iter {k5 : Nat} (hlen : l.length ≤ 1000000000) (hrd : RowRd B r a 2 OpenC l) : Iter PG B (bwF k5) ((bwOf l).map bwC) (bwG k5 r a l.length c) := by
  refine ⟨_, _, _, rfl, TG.slices_Backward_s_acts_Open_acts_Open_1, fun y J X h hy hG h0 hcall => ?_⟩
  have main : C_slices_Backward_s_acts_Open_acts_Open_1 B y ⟨k5, 0, none⟩ h (fun h' => Fin B h' (fun h'' => J ((bwOf l).map bwC).length h'' ∨ X h'')) := by
    refine C_slices_Backward_s_acts_Open_acts_Open_1.of ?_
    unfold S_slices_Backward_s_acts_Open_acts_Open_1
    obtain ⟨g1, g2⟩ := hG 0 h h0
    refine .inl ⟨a, l.length, c, cellH_vec g1 rfl, ?_⟩
    refine ⟨fun i m' h' => ∃ j : Nat, j ≤ l.length ∧ i = (l.length : Int) - 1 - j ∧ m' = l.length - j ∧ J j h', l.length, Fin.of ⟨0, by omega, ?_, by omega, h0⟩, ?_⟩
    · rw [w64 (by omega) (by omega)]; omega
    rintro _ _ h8 ⟨j, hj, rfl, rfl, hJ⟩
    obtain ⟨g1, g2⟩ := hG j h8 hJ
    refine ⟨fun hge => ?_, fun hlt => Fin.of ?_⟩
    · have hj' : j < l.length := by omega
      have e1 : (l.length : Int) - 1 - j = ((l.length - 1 - j : Nat) : Int) := by omega
      rw [e1]
      obtain ⟨A, e, _, q⟩ := hrd h8 g2 (l.length - 1 - j) _ (List.getElem?_eq_getElem (by omega))
      refine .inl ⟨a, l.length, c, cellH_vec g1 rfl, A, e, by omega, by omega, l[l.length - 1 - j].1, l[l.length - 1 - j].2, q, ?_⟩
      have hc := hcall j h8 (bwC (((l.length - 1 - j : Nat) : Int), l[l.length - 1 - j])) (by
        rw [List.getElem?_map, bwOf_get l j hj']; rfl) hJ
      refine CallV.mono ?_ hc
      rintro v h27 ⟨h28, t1, hor⟩
      rcases hor with ⟨rfl, hJ'⟩ | ⟨rfl, hX⟩
      · refine ⟨true, rfl, fun _ => ⟨h28, t1, l.length - (j + 1), by omega, j + 1, by omega, ?_, rfl, hJ'⟩, fun e => by cases e⟩
        rw [w64 (by omega) (by omega)]; omega
      · exact ⟨false, rfl, fun e => (by cases e), fun _ => ⟨h28, t1, Fin.of (.inr hX)⟩⟩
    · have : j = l.length := by omega
      subst this
      refine Fin.of (.inl ?_)
      rw [List.length_map, bwOf_len]
      exact hJ
  exact Spec.mono main fun v h' q => q.2
theorem undo_wp {Q : Option Addr → Nat → Nat → Heap → Prop} (hlen : l.length ≤ 100000) (hrd : RowRd B r a 2 OpenC l) (hr : ∀ k o, r = some (k, o) → h k = some o)
    (hQ : ∀ a' m' c' r' h', Row r' (.slice a' m' c') TY.acts_Open 2 ((undoL l).flatMap OpenC) → Keep B h [r'] h' → Q a' m' c' h') : C_acts_undo B a l.length c h Q := by
  refine C_acts_undo.of ?_
  unfold S_acts_undo
  intro k7 a7 b7 h8 e8
  have E := (Keep.nil B h).made a7 b7 e8
  refine bw_wp fun k5 a5 b5 => ?_
  have E1 := E.new (o := .vec TY.s_acts_Open [.plain (.slice a l.length c)] 1) a5 b5
  have it := bw_iter (B := B) (k5 := k5) (c := c) (l := l) (by omega) hrd
  refine ⟨bwOf l, bwG k5 r a l.length c, fun q h' => ∃ v r', Row r' v TY.acts_Open 2 (((l.reverse.take q).map negD).flatMap OpenC) ∧ Keep B h [some (k7, .vec TY.s_acts_Open (plains [v]) 1), some (k5, .vec TY.s_acts_Open [.plain (.slice a l.length c)] 1), r'] h', it, bw_ins, ?_, Fin.of ⟨_, none, Row.nil _ _, E1.gap⟩, ?_, ?_⟩
  · rintro q h' ⟨v, r', R, E⟩
    exact ⟨E.at 1 rfl, fun k o e => E.le _ _ (hr k o e)⟩
  · rintro q h15 i i12 i13 hg ⟨v, r', R, E⟩
    have hq : q < l.length := by have := (List.getElem?_eq_some_iff.1 hg).1; rw [bwOf_len] at this; exact this
    rw [bwOf_get l q hq] at hg
    simp only [Option.some.injEq, Prod.mk.injEq] at hg
    obtain ⟨_, hx⟩ := hg
    intro k19 a19 b19 h20 e20
    have E2 := E.made a19 b19 e20
    refine ⟨_, stores_whole (E2.at 3 rfl) rfl (by simp) (by simp [isOne]) (by simp), ?_⟩
    have E3 := E2.put (o' := .vec TY.acts_Open (plains [.int .i64 i12, .int .i64 i13]) 2) 3 rfl
    obtain ⟨a22, n23, c24, rfl⟩ := R.slice
    refine .inl ⟨a22, n23, c24, E3.cell 0 rfl rfl, _, E3.cell 3 rfl rfl, _, E3.cell 3 rfl rfl, fun k28 a28 b28 h29 e29 => ?_⟩
    have hlx := flatMap_length OpenC_len ((l.reverse.take q).map negD)
    have hlq : ((l.reverse.take q).map negD).length = q := by rw [List.length_map, List.length_take, List.length_reverse]; omega
    refine E3.push1 2 rfl R TK.slc_opens TK.zero_open rfl (by omega) (by omega) TK.sl_opens rfl (by simp [isOne]) (by rw [hlx, hlq]; simp; omega) a28 b28 e29 fun a' m' c' r'' h30 R' E4 => ?_
    obtain ⟨es, E5⟩ := E4.store 0 0 (.slice a' m' c') rfl rfl
    refine ⟨a', m', c', rfl, _, es, Fin.of ⟨_, r'', ?_, E5.take 3⟩⟩
    have hxe : (l.reverse.take (q + 1)).map negD = (l.reverse.take q).map negD ++ [negD (i12, i13)] := by
      rw [List.take_succ_eq_append_getElem (by rw [List.length_reverse]; omega), List.map_append, List.getElem_reverse]
      have : l[l.length - 1 - q] = (i12, i13) := by rw [hx]
      simp only [this]
      rfl
    rw [hxe, List.flatMap_append]
    exact R'
  · rintro h15 ⟨v, r', R, E⟩
    obtain ⟨a', m', c', rfl⟩ := R.slice
    refine .inl ⟨a', m', c', E.cell 0 rfl rfl, Fin.of (hQ _ _ _ r' _ ?_ (E.pick 2 rfl))⟩
    rw [bwOf_len, ← List.length_reverse, List.take_length] at R
    exact R
theorem minX (m : Nat) (i : Int) : (if (m : Int) < (if (0 : Int) > i then (0 : Int) else i) then (m : Int) else (if (0 : Int) > i then (0 : Int) else i)) = ((min m i.toNat : Nat) : Int) := by
  split <;> split <;> omega
theorem first_open_wp {i : Int} {Q : Option Addr → Nat → Nat → Heap → Prop} (hmc : m ≤ c) (hQ : Q a (min m i.toNat) (min m i.toNat) h) : C_acts_first_acts_Open B a m c i h Q := by
  refine C_acts_first_acts_Open.of ?_
  unfold S_acts_first_acts_Open
  rw [minX, Int.toNat_natCast]
  refine ⟨by omega, Int.le_refl _, by omega, Fin.of ?_⟩
  have e : (if min m i.toNat = 0 then a else Option.map (fun x => Addr.add x (0 * 2)) a) = a := by
    split
    · rfl
    · cases a <;> rfl
  exact e.symm ▸ hQ
theorem first_out_wp {i : Int} {Q : Option Addr → Nat → Nat → Heap → Prop} (hmc : m ≤ c) (hQ : Q a (min m i.toNat) (min m i.toNat) h) : C_acts_first_acts_Out B a m c i h Q := by
  refine C_acts_first_acts_Out.of ?_
  unfold S_acts_first_acts_Out
  rw [minX, Int.toNat_natCast]
  refine ⟨by omega, Int.le_refl _, by omega, Fin.of ?_⟩
  have e : (if min m i.toNat = 0 then a else Option.map (fun x => Addr.add x (0 * 2)) a) = a := by
    split
    · rfl
    · cases a <;> rfl
  exact e.symm ▸ hQ
theorem first_int_wp {i : Int} {Q : Option Addr → Nat → Nat → Heap → Prop} (hmc : m ≤ c) (hQ : Q a (min m i.toNat) (min m i.toNat) h) : C_acts_first_int B a m c i h Q := by
  refine C_acts_first_int.of ?_
  unfold S_acts_first_int
  rw [minX, Int.toNat_natCast]
  refine ⟨by omega, Int.le_refl _, by omega, Fin.of ?_⟩
  have e : (if min m i.toNat = 0 then a else Option.map (fun x => Addr.add x (0 * 1)) a) = a := by
    split
    · rfl
    · cases a <;> rfl
  exact e.symm ▸ hQ
theorem opened_wp {i q : Nat} {v0 v1 v2 v3 : Value} {t d : Int} {Q : Bool → Heap → Prop} (E : Keep B h0 L h) (hi : L[i]? = some (some (k, actO v0 v1 v2 v3))) (hq : L[q]? = some r) (hne : q ≠ i) (R : Row r v3 TY.acts_Open 2 (l.flatMap OpenC)) (hlen : l.length ≤ 100000)
    (hF : ¬ (0 ≤ t ∧ t < 4) → Q false h) (hT : 0 ≤ t → t < 4 → ∀ v' r' h', Row r' v' TY.acts_Open 2 ((l ++ [(t, d)]).flatMap OpenC) → Keep B h0 ((L.set q r').set i (some (k, actO v0 v1 v2 v'))) h' → Q true h') : C_acts_Acts_Opened B (some ⟨k, 0, none⟩) t d h Q := by
  refine C_acts_Acts_Opened.of ?_
  unfold S_acts_Acts_Opened
  refine ⟨fun e => (by cases e), fun _ => ⟨fun h1 => Fin.of (hF (by omega)), fun h1 => ⟨fun h2 => Fin.of (hF (by omega)), fun h2 => Fin.of ?_⟩⟩⟩
  unfold S_acts_Acts_Opened_J1
  obtain ⟨a9, n10, c11, rfl⟩ := R.slice
  refine ⟨_, rfl, ?_⟩
  rw [addr_more]
  refine .inl ⟨a9, n10, c11, E.cell i hi rfl, fun k13 a13 b13 h14 e14 => ?_⟩
  have hlx := flatMap_length OpenC_len l
  refine E.push1 q hq R TK.slc_opens TK.zero_open rfl (by omega) (by omega) TK.sl_opens rfl (by simp [isOne]) (by rw [hlx]; simp; omega) a13 b13 e14 fun a' m' c' r' h' R' E' => ?_
  refine ⟨a', m', c', rfl, _, rfl, ?_⟩
  rw [addr_more]
  have hi' : (L.set q r')[i]? = some (some (k, actO v0 v1 v2 (.slice a9 n10 c11))) := by rw [List.getElem?_set_ne hne]; exact hi
  obtain ⟨es, E2⟩ := E'.store i 3 (.slice a' m' c') hi' rfl
  refine ⟨_, es, Fin.of (hT (by omega) (by omega) _ r' _ ?_ E2)⟩
  rw [List.flatMap_append]
  exact R'
theorem marks_wp {i : Nat} {a0 a1 a2 a3 : Option Addr} {m0 m1 m2 m3 c0 c1 c2 c3 : Nat} {Q : Int → Int → Int → Int → Heap → Prop} (E : Keep B h0 L h) (hi : L[i]? = some (some (k, actO (.slice a0 m0 c0) (.slice a1 m1 c1) (.slice a2 m2 c2) (.slice a3 m3 c3))))
    (hQ : ∀ h', Keep B h0 L h' → Q m0 m1 m2 m3 h') : C_acts_Acts_Mark B (some ⟨k, 0, none⟩) h Q := by
  refine C_acts_Acts_Mark.of ?_
  unfold S_acts_Acts_Mark
  intro k6 a6 b6 h7 e7
  have E1 := E.made a6 b6 e7
  have E1' : Keep B h0 L h7 := E1.pop
  refine ⟨fun e => (by cases e), fun _ => ⟨_, rfl, a0, m0, c0, E1'.cell i hi rfl, _, rfl, a1, m1, c1, ?_, _, rfl, a2, m2, c2, ?_, _, rfl, a3, m3, c3, ?_, ?_⟩⟩
  · rw [addr_more]; exact E1'.cell i hi rfl
  · rw [addr_more]; exact E1'.cell i hi rfl
  · rw [addr_more]; exact E1'.cell i hi rfl
  refine ⟨_, stores_whole E1.last rfl (by simp) (by simp [isOne]) (by simp), ?_⟩
  have E2 := E1.putLast (.vec TY.acts_Mark (plains [.int .i64 (m0 : Nat), .int .i64 (m1 : Nat), .int .i64 (m2 : Nat), .int .i64 (m3 : Nat)]) 4)
  refine ⟨_, _, _, _, ⟨cellH_vec (Heap.set_same _ _ _) rfl, cellH_vec (Heap.set_same _ _ _) rfl, cellH_vec (Heap.set_same _ _ _) rfl, cellH_vec (Heap.set_same _ _ _) rfl, trivial⟩, Fin.of (hQ _ E2.pop)⟩
def cutV (a : Option Addr) (m : Nat) (i : Int) : Value := .slice a (min m i.toNat) (min m i.toNat)
theorem back_wp {i q : Nat} {a0 a1 a2 a3 : Option Addr} {m0 m1 m2 m3 c0 c1 c2 c3 : Nat} {i0 i1 i2 i3 : Int} {Q : Option Addr → Nat → Nat → Heap → Prop} (E : Keep B h0 L h) (hi : L[i]? = some (some (k, actO (.slice a0 m0 c0) (.slice a1 m1 c1) (.slice a2 m2 c2) (.slice a3 m3 c3)))) (hq : L[q]? = some r) (hne : q ≠ i)
    (d0 : m0 ≤ c0) (d1 : m1 ≤ c1) (d2 : m2 ≤ c2) (R : Row r (.slice a3 m3 c3) TY.acts_Open 2 (l.flatMap OpenC)) (hlen : l.length ≤ 100000)
    (hQ : ∀ a' m' c' r' h', Row r' (.slice a' m' c') TY.acts_Open 2 ((undoL (l.drop (min m3 i3.toNat))).flatMap OpenC) → Keep B h0 ((L ++ [r']).set i (some (k, actO (cutV a0 m0 i0) (cutV a1 m1 i1) (cutV a2 m2 i2) (cutV a3 m3 i3)))) h' → Q a' m' c' h') : C_acts_Acts_Back B (some ⟨k, 0, none⟩) i0 i1 i2 i3 h Q := by
  refine C_acts_Acts_Back.of ?_
  unfold S_acts_Acts_Back
  intro k9 a9 b9 h10 e10
  have E1 := E.made a9 b9 e10
  have il : i < L.length := (List.getElem?_eq_some_iff.1 hi).1
  have ql : q < L.length := (List.getElem?_eq_some_iff.1 hq).1
  have up : ∀ {j : Nat} {x : Option (Nat × AObj)} (y : List (Option (Nat × AObj))), L[j]? = some x → (L ++ y)[j]? = some x := fun y hj => by rw [List.getElem?_append_left (List.getElem?_eq_some_iff.1 hj).1]; exact hj
  have d3 := R.cap
  have hk9 : ∀ {L' : List (Option (Nat × AObj))}, L'.length = L.length → (L' ++ [some (k9, AObj.vec TY.acts_Mark (plains [.int .i64 i0, .int .i64 i1, .int .i64 i2, .int .i64 i3]) 4)])[L.length]? = some (some (k9, .vec TY.acts_Mark (plains [.int .i64 i0, .int .i64 i1, .int .i64 i2, .int .i64 i3]) 4)) := fun hl => by rw [← hl]; simp
  refine ⟨fun e => (by cases e), fun _ => ⟨_, rfl, a0, m0, c0, E1.cell i (up _ hi) rfl, by decide, by decide, _, E1.cell L.length (hk9 rfl) rfl, first_out_wp d0 ⟨E1.cell i (up _ hi) rfl, E1.cell L.length (hk9 rfl) rfl, _, rfl, ?_⟩⟩⟩
  obtain ⟨e2, E2⟩ := E1.store i 0 (cutV a0 m0 i0) (up _ hi) rfl
  rw [List.set_append_left _ _ il] at E2
  have g2 : (L.set i (some (k, actO (cutV a0 m0 i0) (.slice a1 m1 c1) (.slice a2 m2 c2) (.slice a3 m3 c3))))[i]? = some (some (k, actO (cutV a0 m0 i0) (.slice a1 m1 c1) (.slice a2 m2 c2) (.slice a3 m3 c3))) := by rw [List.getElem?_set_self il]
  have up2 : ∀ {j : Nat} {x : Option (Nat × AObj)} {L' : List (Option (Nat × AObj))} (y : List (Option (Nat × AObj))), L'[j]? = some x → (L' ++ y)[j]? = some x := fun y hj => by rw [List.getElem?_append_left (List.getElem?_eq_some_iff.1 hj).1]; exact hj
  refine ⟨_, e2, _, rfl, a1, m1, c1, (by rw [addr_more]; exact E2.cell i (up2 _ g2) rfl), by decide, by decide, _, E2.cell L.length (hk9 (by simp)) rfl, first_out_wp d1 ⟨(by rw [addr_more]; exact E2.cell i (up2 _ g2) rfl), E2.cell L.length (hk9 (by simp)) rfl, _, rfl, ?_⟩⟩
  obtain ⟨e3, E3⟩ := E2.store i 1 (cutV a1 m1 i1) (up2 _ g2) rfl
  rw [List.set_append_left _ _ (by simpa using il), List.set_set] at E3
  have g3 : (L.set i (some (k, actO (cutV a0 m0 i0) (cutV a1 m1 i1) (.slice a2 m2 c2) (.slice a3 m3 c3))))[i]? = some (some (k, actO (cutV a0 m0 i0) (cutV a1 m1 i1) (.slice a2 m2 c2) (.slice a3 m3 c3))) := by rw [List.getElem?_set_self il]
  refine ⟨_, (by rw [addr_more]; exact e3), _, rfl, a2, m2, c2, (by rw [addr_more]; exact E3.cell i (up2 _ g3) rfl), by decide, by decide, _, E3.cell L.length (hk9 (by simp)) rfl, first_int_wp d2 ⟨(by rw [addr_more]; exact E3.cell i (up2 _ g3) rfl), E3.cell L.length (hk9 (by simp)) rfl, _, rfl, ?_⟩⟩
  obtain ⟨e4, E4⟩ := E3.store i 2 (cutV a2 m2 i2) (up2 _ g3) rfl
  rw [List.set_append_left _ _ (by simpa using il), List.set_set] at E4
  have g4 : (L.set i (some (k, actO (cutV a0 m0 i0) (cutV a1 m1 i1) (cutV a2 m2 i2) (.slice a3 m3 c3))))[i]? = some (some (k, actO (cutV a0 m0 i0) (cutV a1 m1 i1) (cutV a2 m2 i2) (.slice a3 m3 c3))) := by rw [List.getElem?_set_self il]
  refine ⟨_, (by rw [addr_more]; exact e4), _, rfl, a3, m3, c3, (by rw [addr_more]; exact E4.cell i (up2 _ g4) rfl), by decide, by decide, _, E4.cell L.length (hk9 (by simp)) rfl, first_open_wp d3 ⟨(by rw [addr_more]; exact E4.cell i (up2 _ g4) rfl), E4.cell L.length (hk9 (by simp)) rfl, _, rfl, ?_⟩⟩
  rw [addr_more]
  refine .inl ⟨a3, m3, c3, E4.cell i (up2 _ g4) rfl, by omega, by omega, by omega, ?_⟩
  obtain ⟨hm, -⟩ := R.rd (B := B) OpenC_len (by omega)
  have E5 := E4.popL
  have hq5 : (L.set i (some (k, actO (cutV a0 m0 i0) (cutV a1 m1 i1) (cutV a2 m2 i2) (.slice a3 m3 c3))))[q]? = some r := by rw [List.getElem?_set_ne (Ne.symm hne)]; exact hq
  have hrd := R.rd_drop (B := B) OpenC_len (by omega) (min m3 i3.toNat)
  have hlen' : Int.toNat ((m3 : Nat) : Int) - Int.toNat ((min m3 i3.toNat : Nat) : Int) = (l.drop (min m3 i3.toNat)).length := by rw [List.length_drop, Int.toNat_natCast, Int.toNat_natCast]; omega
  rw [hlen']
  refine undo_wp (by rw [List.length_drop]; omega) hrd (fun k o e => E5.at q (hq5.trans (congrArg some e))) fun a' m' c' r' h' R' E' => ?_
  have E6 := E5.append E'
  obtain ⟨e7, E7⟩ := E6.store i 3 (cutV a3 m3 i3) (up2 _ g4) rfl
  rw [List.set_append_left _ _ (by simpa using il), List.set_set] at E7
  refine ⟨_, rfl, _, (by rw [addr_more]; exact e7), Fin.of (hQ _ _ _ _ _ R' ?_)⟩
  rw [List.set_append_left _ _ il]
  exact E7
end
end Go.Proofs.YtgldgabefiialaaGreat.H
namespace Go.Proofs.YtgldgabefiialaaGreat.H
open Go
set_option linter.unusedVariables false
set_option maxRecDepth 100000
theorem TK.slc_outs : slcB PG TY.s_acts_Out = some (TY.acts_Out, 2, 16) := by kernel_rfl
theorem TK.zero_out : zeroB PG TY.acts_Out = some [.int .i64 0, .int .u8 0] := by kernel_rfl
theorem TK.sl_outs : slT PG TY.s_acts_Out = true := by kernel_rfl
theorem list_set_same {α : Type} {L : List α} {j : Nat} {x : α} (h : L[j]? = some x) : L.set j x = L := by
  obtain ⟨hl, rfl⟩ := List.getElem?_eq_some_iff.1 h
  exact List.set_getElem_self hl
structure ActS where
  outs : List (Int × Int)
  later : List (Int × Int)
  notes : List Int
  opens : List (Int × Int)
structure ActV where
  v0 : Value
  v1 : Value
  v2 : Value
  v3 : Value
  r0 : Option (Nat × AObj)
  r1 : Option (Nat × AObj)
  r2 : Option (Nat × AObj)
  r3 : Option (Nat × AObj)
def ActV.o (x : ActV) : AObj := actO x.v0 x.v1 x.v2 x.v3
def ActV.e (x : ActV) (k : Nat) : List (Option (Nat × AObj)) := [some (k, x.o), x.r0, x.r1, x.r2, x.r3]
def ActV.z : ActV := ⟨.slice none 0 0, .slice none 0 0, .slice none 0 0, .slice none 0 0, none, none, none, none⟩
def ActS.z : ActS := ⟨[], [], [], []⟩
structure ARows (s : ActS) (x : ActV) : Prop where
  w0 : Row x.r0 x.v0 TY.acts_Out 2 (s.outs.flatMap OutC)
  w1 : Row x.r1 x.v1 TY.acts_Out 2 (s.later.flatMap OutC)
  w2 : Row x.r2 x.v2 TY.int 1 (s.notes.flatMap NoteC)
  w3 : Row x.r3 x.v3 TY.acts_Open 2 (s.opens.flatMap OpenC)
  l0 : s.outs.length ≤ 10000
  l1 : s.later.length ≤ 10000
  l2 : s.notes.length ≤ 10000
  l3 : s.opens.length ≤ 10000
theorem ARows.z : ARows ActS.z ActV.z := ⟨Row.nil _ _, Row.nil _ _, Row.nil _ _, Row.nil _ _, by simp [ActS.z], by simp [ActS.z], by simp [ActS.z], by simp [ActS.z]⟩
structure ActAt (L : List (Option (Nat × AObj))) (i k : Nat) (x : ActV) : Prop where
  p : L[i]? = some (some (k, x.o))
  q0 : L[i + 1]? = some x.r0
  q1 : L[i + 2]? = some x.r1
  q2 : L[i + 3]? = some x.r2
  q3 : L[i + 4]? = some x.r3
def setA (L : List (Option (Nat × AObj))) (i k : Nat) (x : ActV) : List (Option (Nat × AObj)) := ((((L.set i (some (k, x.o))).set (i + 1) x.r0).set (i + 2) x.r1).set (i + 3) x.r2).set (i + 4) x.r3
theorem setA_0 {L : List (Option (Nat × AObj))} {i k : Nat} {x : ActV} (A : ActAt L i k x) (v : Value) (r : Option (Nat × AObj)) : (L.set (i + 1) r).set i (some (k, actO v x.v1 x.v2 x.v3)) = setA L i k { x with v0 := v, r0 := r } := by
  unfold setA
  have h1 : (((L.set i (some (k, ActV.o { x with v0 := v, r0 := r }))).set (i + 1) r)[i + 2]?) = some x.r1 := by rw [List.getElem?_set_ne (by omega), List.getElem?_set_ne (by omega)]; exact A.q1
  have h2 : (((L.set i (some (k, ActV.o { x with v0 := v, r0 := r }))).set (i + 1) r)[i + 3]?) = some x.r2 := by rw [List.getElem?_set_ne (by omega), List.getElem?_set_ne (by omega)]; exact A.q2
  have h3 : (((L.set i (some (k, ActV.o { x with v0 := v, r0 := r }))).set (i + 1) r)[i + 4]?) = some x.r3 := by rw [List.getElem?_set_ne (by omega), List.getElem?_set_ne (by omega)]; exact A.q3
  show _ = (((((L.set i (some (k, ActV.o { x with v0 := v, r0 := r }))).set (i + 1) r).set (i + 2) x.r1).set (i + 3) x.r2).set (i + 4) x.r3)
  rw [list_set_same h1, list_set_same h2, list_set_same h3, List.set_comm _ _ (by omega)]
  rfl
theorem setA_3 {L : List (Option (Nat × AObj))} {i k : Nat} {x : ActV} (A : ActAt L i k x) (v : Value) (r : Option (Nat × AObj)) : (L.set (i + 4) r).set i (some (k, actO x.v0 x.v1 x.v2 v)) = setA L i k { x with v3 := v, r3 := r } := by
  unfold setA
  have h1 : (L.set i (some (k, ActV.o { x with v3 := v, r3 := r })))[i + 1]? = some x.r0 := by rw [List.getElem?_set_ne (by omega)]; exact A.q0
  have h2 : (L.set i (some (k, ActV.o { x with v3 := v, r3 := r })))[i + 2]? = some x.r1 := by rw [List.getElem?_set_ne (by omega)]; exact A.q1
  have h3 : (L.set i (some (k, ActV.o { x with v3 := v, r3 := r })))[i + 3]? = some x.r2 := by rw [List.getElem?_set_ne (by omega)]; exact A.q2
  show _ = (((((L.set i (some (k, ActV.o { x with v3 := v, r3 := r }))).set (i + 1) x.r0).set (i + 2) x.r1).set (i + 3) x.r2).set (i + 4) r)
  rw [list_set_same h1, list_set_same h2, list_set_same h3, List.set_comm _ _ (by omega)]
  rfl
section
variable {B : RO} {h0 h h' : Heap} {L : List (Option (Nat × AObj))} {i k : Nat} {x : ActV} {s : ActS}
theorem send_wp {t d : Int} {Q : Bool → Heap → Prop} (E : Keep B h0 L h) (A : ActAt L i k x) (W : ARows s x) (hl : s.outs.length < 10000)
    (hF : ¬ (0 ≤ t ∧ t < 3) → Q false h) (hT : 0 ≤ t → t < 3 → ∀ x' h', ARows { s with outs := s.outs ++ [(t, d)] } x' → Keep B h0 (setA L i k x') h' → Q true h') : C_acts_Acts_Send B (some ⟨k, 0, none⟩) t d h Q := by
  refine C_acts_Acts_Send.of ?_
  unfold S_acts_Acts_Send
  refine ⟨fun e => (by cases e), fun _ => ⟨fun h1 => Fin.of (hF (by omega)), fun h1 => ⟨fun h2 => Fin.of (hF (by omega)), fun h2 => Fin.of ?_⟩⟩⟩
  unfold S_acts_Acts_Send_J1
  obtain ⟨a9, n10, c11, ev⟩ := W.w0.slice
  have R := W.w0
  rw [ev] at R
  have hp : L[i]? = some (some (k, actO (.slice a9 n10 c11) x.v1 x.v2 x.v3)) := by rw [← ev]; exact A.p
  refine ⟨_, rfl, .inl ⟨a9, n10, c11, E.cell i hp rfl, fun k13 a13 b13 h14 e14 => ?_⟩⟩
  have hlx := flatMap_length OutC_len s.outs
  refine E.push1 (i + 1) A.q0 R TK.slc_outs TK.zero_out rfl (by omega) (by omega) TK.sl_outs rfl (by simp [isOne]) (by rw [hlx]; simp; omega) a13 b13 e14 fun a' m' c' r' h' R' E' => ?_
  refine ⟨a', m', c', rfl, _, rfl, ?_⟩
  have hi' : (L.set (i + 1) r')[i]? = some (some (k, actO (.slice a9 n10 c11) x.v1 x.v2 x.v3)) := by rw [List.getElem?_set_ne (by omega)]; exact hp
  obtain ⟨es, E2⟩ := E'.store i 0 (.slice a' m' c') hi' rfl
  have E3 := Eq.mp (congrArg (fun z => Keep B h0 z (h'.set k (actO (.slice a' m' c') x.v1 x.v2 x.v3))) (setA_0 A (.slice a' m' c') r')) E2
  refine ⟨_, es, Fin.of (hT (by omega) (by omega) _ _ ?_ E3)⟩
  refine ⟨?_, W.w1, W.w2, W.w3, by simp; omega, W.l1, W.l2, W.l3⟩
  simp only [List.flatMap_append]
  exact R'
theorem open_wp {t d : Int} {Q : Bool → Heap → Prop} (E : Keep B h0 L h) (A : ActAt L i k x) (W : ARows s x) (hl : s.opens.length < 10000)
    (hF : ¬ (0 ≤ t ∧ t < 4) → Q false h) (hT : 0 ≤ t → t < 4 → ∀ x' h', ARows { s with opens := s.opens ++ [(t, d)] } x' → Keep B h0 (setA L i k x') h' → Q true h') : C_acts_Acts_Opened B (some ⟨k, 0, none⟩) t d h Q := by
  refine opened_wp E A.p A.q3 (by omega) W.w3 (by omega) hF fun t0 t1 v' r' h' R' E' => hT t0 t1 _ _ ?_ (by rw [← setA_3 A]; exact E')
  exact ⟨W.w0, W.w1, W.w2, R', W.l0, W.l1, W.l2, by simp; omega⟩
end
end Go.Proofs.YtgldgabefiialaaGreat.H
namespace Go.Proofs.YtgldgabefiialaaGreat.H
open Go
set_option linter.unusedVariables false
set_option maxRecDepth 100000
section
variable {B : RO} {h0 h h' : Heap} {L : List (Option (Nat × AObj))} {i k : Nat} {x : ActV} {s : ActS}
theorem grow0_wp {n : Int} {Q : Option Addr → Nat → Nat → Heap → Prop} (hn0 : 0 ≤ n) (hn : n ≤ 100000) (hQ : ∀ a c r h', Row r (.slice a 0 c) TY.acts_Out 2 [] → Keep B h [r] h' → Q a 0 c h') : C_slices_Grow_s_acts_Out_acts_Out B none 0 0 n h Q := by
  refine C_slices_Grow_s_acts_Out_acts_Out.of ?_
  unfold S_slices_Grow_s_acts_Out_acts_Out
  refine ⟨fun hlt => absurd hlt (by omega), fun _ => Fin.of ?_⟩
  unfold S_slices_Grow_s_acts_Out_acts_Out_J1
  have e1 : IntKind.wrap .i64 (n - IntKind.wrap .i64 (((0 : Nat) : Int) - ((0 : Nat) : Int))) = n := by
    rw [show IntKind.wrap .i64 (((0 : Nat) : Int) - ((0 : Nat) : Int)) = 0 by decide, w64 (by omega) (by omega)]; omega
  rw [e1]
  refine ⟨fun hgt => ⟨by decide, by decide, by decide, ?_⟩, fun _ => Fin.of (hQ _ _ _ _ (Row.nil _ _) (Keep.nil B h).gap)⟩
  refine semH_appendZ0 (ki := .i64) TK.slc_outs TK.zero_out rfl (by omega) (by omega) (by kernel_rfl) hgt (by omega) fun ys v' h' hy ap => ?_
  obtain ⟨r', R', E'⟩ := (Keep.nil B h).gap.appd 0 rfl (Row.nil TY.acts_Out 2) ap
  obtain ⟨a', m', c', rfl⟩ := R'.slice
  have R2 := R'.cut (n := 0) (by omega)
  rw [Nat.zero_mul, List.take_zero] at R2
  refine ⟨a', m', c', rfl, by decide, by decide, by omega, Fin.of ?_⟩
  rw [optAdd0]
  exact hQ _ _ _ _ R2 E'
def cat2 (j : Nat) (l1 l2 : List (Int × Int)) : List (Int × Int) := (if 0 < j then l1 else []) ++ (if 1 < j then l2 else [])
theorem concat_wp {q1 q2 m1 m2 c1 c2 : Nat} {a1 a2 : Option Addr} {r1 r2 : Option (Nat × AObj)} {l1 l2 : List (Int × Int)} {Q : Option Addr → Nat → Nat → Heap → Prop} (E : Keep B h0 L h) (hi : L[i]? = some (some (k, .vec TY.s_acts_Out (plains [.slice a1 m1 c1, .slice a2 m2 c2]) 2)))
    (hq1 : L[q1]? = some r1) (hq2 : L[q2]? = some r2) (R1 : Row r1 (.slice a1 m1 c1) TY.acts_Out 2 (l1.flatMap OutC)) (R2 : Row r2 (.slice a2 m2 c2) TY.acts_Out 2 (l2.flatMap OutC)) (hl1 : l1.length ≤ 10000) (hl2 : l2.length ≤ 10000)
    (hQ : ∀ a m c r h', Row r (.slice a m c) TY.acts_Out 2 ((l1 ++ l2).flatMap OutC) → Keep B h0 (L ++ [r]) h' → Q a m c h') : C_slices_Concat_s_acts_Out_acts_Out B (some ⟨k, 0, none⟩) 2 2 h Q := by
  refine C_slices_Concat_s_acts_Out_acts_Out.of ?_
  unfold S_slices_Concat_s_acts_Out_acts_Out
  obtain ⟨rfl, -⟩ := R1.rd (B := B) OutC_len (by omega)
  obtain ⟨rfl, -⟩ := R2.rd (B := B) OutC_len (by omega)
  have one : ∀ j : Nat, j < 2 → j = 0 ∨ j = 1 := fun j hj => by omega
  refine ⟨fun n i m h' => ∃ j : Nat, j ≤ 2 ∧ i = j ∧ m = 2 - j ∧ n = ((cat2 j l1 l2).length : Nat) ∧ h = h', 2, Fin.of ⟨0, by omega, rfl, by omega, rfl, rfl⟩, ?_⟩
  rintro _ _ _ _ ⟨j, hj, rfl, rfl, rfl, rfl⟩
  refine ⟨fun hlt => ?_, fun hge => Fin.of ?_⟩
  · have hj' : j < 2 := by omega
    have hw : IntKind.wrap .i64 ((j : Int) + 1) = ((j + 1 : Nat) : Int) := by rw [w64 (by omega) (by omega)]; omega
    refine ⟨_, rfl, by omega, hlt, ?_⟩
    rw [addr_more, Nat.mul_one, Nat.zero_add, Int.toNat_natCast]
    rcases one j hj' with rfl | rfl
    · refine .inl ⟨a1, _, c1, E.cell i hi rfl, fun hlt0 => ?_, fun _ => Fin.of ⟨1, by omega, 1, by omega, hw, rfl, ?_, rfl⟩⟩
      · have e : IntKind.wrap .i64 (((cat2 0 l1 l2).length : Int) + (l1.length : Int)) = l1.length := by rw [w64 (by simp [cat2] <;> omega) (by simp [cat2] <;> omega)] <;> simp [cat2]
        rw [e] at hlt0; omega
      · rw [w64 (by simp [cat2] <;> omega) (by simp [cat2] <;> omega)] <;> simp [cat2]
    · refine .inl ⟨a2, _, c2, E.cell i hi rfl, fun hlt0 => ?_, fun _ => Fin.of ⟨0, by omega, 2, by omega, hw, rfl, ?_, rfl⟩⟩
      · have e : IntKind.wrap .i64 (((cat2 1 l1 l2).length : Int) + (l2.length : Int)) = l1.length + l2.length := by rw [w64 (by simp [cat2] <;> omega) (by simp [cat2] <;> omega)] <;> simp [cat2]
        rw [e] at hlt0; omega
      · rw [w64 (by simp [cat2] <;> omega) (by simp [cat2] <;> omega)] <;> simp [cat2]
  · have : j = 2 := by omega
    subst this
    unfold S_slices_Concat_s_acts_Out_acts_Out_J1
    refine grow0_wp (by omega) (by simp [cat2] <;> omega) fun a11 c13 r h10 R E10 => ?_
    have E1 := E.append E10
    refine ⟨fun a n c i m h' => ∃ (j : Nat) (r' : Option (Nat × AObj)), j ≤ 2 ∧ i = j ∧ m = 2 - j ∧ Row r' (.slice a n c) TY.acts_Out 2 ((cat2 j l1 l2).flatMap OutC) ∧ Keep B h0 (L ++ [r']) h', 2, Fin.of ⟨0, r, by omega, rfl, by omega, R, E1⟩, ?_⟩
    clear E1 E10 R
    rintro a14 n15 c16 _ _ h18 ⟨j, r', hj, rfl, rfl, R, E1⟩
    have up : ∀ {j : Nat} {x : Option (Nat × AObj)}, L[j]? = some x → (L ++ [r'])[j]? = some x := fun hj => by rw [List.getElem?_append_left (List.getElem?_eq_some_iff.1 hj).1]; exact hj
    refine ⟨fun hlt => ?_, fun hge => Fin.of ?_⟩
    · have hj' : j < 2 := by omega
      have hw : IntKind.wrap .i64 ((j : Int) + 1) = ((j + 1 : Nat) : Int) := by rw [w64 (by omega) (by omega)]; omega
      refine ⟨_, rfl, by omega, hlt, ?_⟩
      rw [addr_more, Nat.mul_one, Nat.zero_add, Int.toNat_natCast]
      have hlast : (L ++ [r'])[L.length]? = some r' := by simp
      have hset : ∀ r'' : Option (Nat × AObj), (L ++ [r']).set L.length r'' = L ++ [r''] := fun r'' => by rw [List.set_append_right _ _ (Nat.le_refl _), Nat.sub_self]; rfl
      have fl1 := flatMap_length OutC_len l1
      have fl2 := flatMap_length OutC_len l2
      rcases one j hj' with rfl | rfl
      · refine .inl ⟨a1, _, c1, E1.cell i (up hi) rfl, ?_⟩
        refine E1.pushS L.length hlast R TK.slc_outs TK.zero_out rfl (by omega) (by omega) TK.sl_outs (R1.src (fun k o e => E1.at q1 (by rw [up hq1, e])) OutC_len (by omega) (fun x y hy => by simp [OutC] at hy; rcases hy with rfl | rfl <;> rfl)) (by simp [cat2, fl1]; omega) fun a' m' c' r'' h'' R' E' => ?_
        rw [hset] at E'
        refine ⟨a', m', c', rfl, Fin.of ⟨1, by omega, 1, r'', by omega, hw, rfl, ?_, E'⟩⟩
        simpa [cat2] using R'
      · refine .inl ⟨a2, _, c2, E1.cell i (up hi) rfl, ?_⟩
        refine E1.pushS L.length hlast R TK.slc_outs TK.zero_out rfl (by omega) (by omega) TK.sl_outs (R2.src (fun k o e => E1.at q2 (by rw [up hq2, e])) OutC_len (by omega) (fun x y hy => by simp [OutC] at hy; rcases hy with rfl | rfl <;> rfl)) (by simp [cat2, fl1, fl2]; omega) fun a' m' c' r'' h'' R' E' => ?_
        rw [hset] at E'
        refine ⟨a', m', c', rfl, Fin.of ⟨0, by omega, 2, r'', by omega, hw, rfl, ?_, E'⟩⟩
        simpa [cat2] using R'
    · have : j = 2 := by omega
      subst this
      have e : cat2 2 l1 l2 = l1 ++ l2 := by simp [cat2]
      rw [e] at R
      exact hQ _ _ _ _ _ R E1
theorem output_wp {Q : Option Addr → Nat → Nat → Heap → Prop} (E : Keep B h0 L h) (A : ActAt L i k x) (W : ARows s x)
    (hQ : ∀ a m c r h', Row r (.slice a m c) TY.acts_Out 2 ((s.outs ++ s.later).flatMap OutC) → Keep B h0 (L ++ [r]) h' → Q a m c h') : C_acts_Acts_Output B (some ⟨k, 0, none⟩) h Q := by
  refine C_acts_Acts_Output.of ?_
  unfold S_acts_Acts_Output
  obtain ⟨a1, m1, c1, ev1⟩ := W.w0.slice
  obtain ⟨a2, m2, c2, ev2⟩ := W.w1.slice
  have R1 := W.w0
  have R2 := W.w1
  rw [ev1] at R1
  rw [ev2] at R2
  have hp : L[i]? = some (some (k, actO (.slice a1 m1 c1) (.slice a2 m2 c2) x.v2 x.v3)) := by rw [← ev1, ← ev2]; exact A.p
  refine ⟨fun e => (by cases e), fun _ => ⟨_, rfl, a1, m1, c1, E.cell i hp rfl, _, rfl, a2, m2, c2, (by rw [addr_more]; exact E.cell i hp rfl), fun k24 a24 b24 h25 e25 => ?_⟩⟩
  have E1 := E.made a24 b24 e25
  have up : ∀ {j : Nat} {x : Option (Nat × AObj)} (y : List (Option (Nat × AObj))), L[j]? = some x → (L ++ y)[j]? = some x := fun y hj => by rw [List.getElem?_append_left (List.getElem?_eq_some_iff.1 hj).1]; exact hj
  refine ⟨E1.cell i (up _ hp) rfl, (by rw [addr_more]; exact E1.cell i (up _ hp) rfl), ?_⟩
  refine concat_wp (i := L.length) (q1 := i + 1) (q2 := i + 2) E1 (by simp) (up _ A.q0) (up _ A.q1) R1 R2 W.l0 W.l1 fun a m c r h' R E' => ?_
  have E2 : Keep B h0 (L ++ [r]) h' := by
    have e0 : L ++ [some (k24, AObj.vec 83 (plains [Value.slice a1 m1 c1, Value.slice a2 m2 c2]) 2)] ++ [r] = L ++ ([some (k24, AObj.vec 83 (plains [Value.slice a1 m1 c1, Value.slice a2 m2 c2]) 2)] ++ [r]) := by rw [List.append_assoc]
    exact E'.drop1
  exact ⟨E'.cell i (by rw [List.append_assoc]; exact up _ hp) rfl, (by rw [addr_more]; exact E'.cell i (by rw [List.append_assoc]; exact up _ hp) rfl), Fin.of (hQ _ _ _ _ _ R E2)⟩
end
end Go.Proofs.YtgldgabefiialaaGreat.H
namespace Go.Proofs.YtgldgabefiialaaGreat.H
open Go Go.RowKit
set_option linter.unusedVariables false
set_option maxRecDepth 100000
def cutA (s : ActS) (i0 i1 i2 i3 : Int) : ActS := ⟨s.outs.take (min s.outs.length i0.toNat), s.later.take (min s.later.length i1.toNat), s.notes.take (min s.notes.length i2.toNat), s.opens.take (min s.opens.length i3.toNat)⟩
section
variable {B : RO} {h0 h h' : Heap} {L : List (Option (Nat × AObj))} {i k : Nat} {x : ActV} {s : ActS}
theorem ARows.sl (W : ARows s x) : ∃ a0 c0 a1 c1 a2 c2 a3 c3, x.v0 = .slice a0 s.outs.length c0 ∧ x.v1 = .slice a1 s.later.length c1 ∧ x.v2 = .slice a2 s.notes.length c2 ∧ x.v3 = .slice a3 s.opens.length c3 ∧ s.outs.length ≤ c0 ∧ s.later.length ≤ c1 ∧ s.notes.length ≤ c2 ∧ s.opens.length ≤ c3 := by
  obtain ⟨a0, m0, c0, e0⟩ := W.w0.slice
  obtain ⟨a1, m1, c1, e1⟩ := W.w1.slice
  obtain ⟨a2, m2, c2, e2⟩ := W.w2.slice
  obtain ⟨a3, m3, c3, e3⟩ := W.w3.slice
  have R0 := W.w0; rw [e0] at R0
  have R1 := W.w1; rw [e1] at R1
  have R2 := W.w2; rw [e2] at R2
  have R3 := W.w3; rw [e3] at R3
  obtain ⟨rfl, -⟩ := R0.rd (B := fun _ => none) OutC_len (by omega)
  obtain ⟨rfl, -⟩ := R1.rd (B := fun _ => none) OutC_len (by omega)
  obtain ⟨rfl, -⟩ := R2.rd (B := fun _ => none) NoteC_len (by omega)
  obtain ⟨rfl, -⟩ := R3.rd (B := fun _ => none) OpenC_len (by omega)
  exact ⟨a0, c0, a1, c1, a2, c2, a3, c3, e0, e1, e2, e3, R0.cap, R1.cap, R2.cap, R3.cap⟩
theorem marksA_wp {Q : Int → Int → Int → Int → Heap → Prop} (E : Keep B h0 L h) (A : ActAt L i k x) (W : ARows s x) (hQ : ∀ h', Keep B h0 L h' → Q s.outs.length s.later.length s.notes.length s.opens.length h') : C_acts_Acts_Mark B (some ⟨k, 0, none⟩) h Q := by
  obtain ⟨a0, c0, a1, c1, a2, c2, a3, c3, e0, e1, e2, e3, -⟩ := W.sl
  have hp := A.p
  unfold ActV.o at hp
  rw [e0, e1, e2, e3] at hp
  exact marks_wp E hp hQ
theorem backA_wp {i0 i1 i2 i3 : Int} {Q : Option Addr → Nat → Nat → Heap → Prop} (E : Keep B h0 L h) (A : ActAt L i k x) (W : ARows s x)
    (hQ : ∀ a' m' c' r' x' h', Row r' (.slice a' m' c') TY.acts_Open 2 ((undoL (s.opens.drop (min s.opens.length i3.toNat))).flatMap OpenC) → ARows (cutA s i0 i1 i2 i3) x' → Keep B h0 (setA L i k x' ++ [r']) h' → Q a' m' c' h') : C_acts_Acts_Back B (some ⟨k, 0, none⟩) i0 i1 i2 i3 h Q := by
  obtain ⟨a0, c0, a1, c1, a2, c2, a3, c3, e0, e1, e2, e3, d0, d1, d2, d3⟩ := W.sl
  have hp := A.p
  unfold ActV.o at hp
  rw [e0, e1, e2, e3] at hp
  have R0 := W.w0; rw [e0] at R0
  have R1 := W.w1; rw [e1] at R1
  have R2 := W.w2; rw [e2] at R2
  have R3 := W.w3; rw [e3] at R3
  refine back_wp E hp A.q3 (by omega) d0 d1 d2 R3 (by have := W.l3; omega) fun a' m' c' r' h' R' E' => ?_
  have il : i < L.length := (List.getElem?_eq_some_iff.1 A.p).1
  let x' : ActV := { x with v0 := cutV a0 s.outs.length i0, v1 := cutV a1 s.later.length i1, v2 := cutV a2 s.notes.length i2, v3 := cutV a3 s.opens.length i3 }
  have hset : setA L i k x' = L.set i (some (k, x'.o)) := by
    unfold setA
    have g : ∀ {j : Nat} {y : Option (Nat × AObj)}, L[j]? = some y → j ≠ i → (L.set i (some (k, x'.o)))[j]? = some y := fun hj hn => by rw [List.getElem?_set_ne (Ne.symm hn)]; exact hj
    rw [list_set_same (g A.q0 (by omega)), list_set_same (g A.q1 (by omega)), list_set_same (g A.q2 (by omega)), list_set_same (g A.q3 (by omega))]
  refine hQ _ _ _ r' x' h' R' ?_ ?_
  · have t0 := R0.first (n := min s.outs.length i0.toNat) (by omega)
    have t1 := R1.first (n := min s.later.length i1.toNat) (by omega)
    have t2 := R2.first (n := min s.notes.length i2.toNat) (by omega)
    have t3 := R3.first (n := min s.opens.length i3.toNat) (by omega)
    rw [take_flatMap OutC_len] at t0 t1
    rw [take_flatMap NoteC_len] at t2
    rw [take_flatMap OpenC_len] at t3
    have l0 := W.l0
    have l1 := W.l1
    have l2 := W.l2
    have l3 := W.l3
    exact ⟨t0, t1, t2, t3, by simp [cutA]; omega, by simp [cutA]; omega, by simp [cutA]; omega, by simp [cutA]; omega⟩
  · rw [hset, ← List.set_append_left _ _ il]
    exact E'
def ALe (s : ActS) (j : Nat) : Prop := s.outs.length ≤ j ∧ s.later.length ≤ j ∧ s.notes.length ≤ j ∧ s.opens.length ≤ j
theorem ALe.mono {j j' : Nat} (h : ALe s j) (hj : j ≤ j') : ALe s j' := ⟨Nat.le_trans h.1 hj, Nat.le_trans h.2.1 hj, Nat.le_trans h.2.2.1 hj, Nat.le_trans h.2.2.2 hj⟩
def AExt (s t : ActS) (n : Nat) : Prop := ∃ e0 e1 e2 e3, t = ⟨s.outs ++ e0, s.later ++ e1, s.notes ++ e2, s.opens ++ e3⟩ ∧ e3.length = n
theorem AExt.refl (s : ActS) : AExt s s 0 := ⟨[], [], [], [], by simp, rfl⟩
theorem AExt.cut {t : ActS} {n : Nat} (h : AExt s t n) : cutA t s.outs.length s.later.length s.notes.length s.opens.length = s ∧ (t.opens.drop (min t.opens.length (Int.toNat (s.opens.length : Nat)))).length = n := by
  obtain ⟨e0, e1, e2, e3, rfl, rfl⟩ := h
  have mn : ∀ {α : Type} (a b : List α), (a ++ b).take (min (a ++ b).length (Int.toNat (a.length : Nat))) = a := fun a b => by
    rw [Int.toNat_natCast, List.length_append, Nat.min_eq_right (by omega), List.take_left]
  refine ⟨?_, ?_⟩
  · unfold cutA
    simp only [mn]
  · simp only [Int.toNat_natCast, List.length_append, List.length_drop]
    omega
structure ActR where
  kind : Int
  a : Int
  b : Int
def ActR.cells (x : ActR) : List Value := [.int .i64 x.kind, .int .i64 x.a, .int .i64 x.b]
end
end Go.Proofs.YtgldgabefiialaaGreat.H
