/- What the law's proof stands on, part 4. No condition. -/
import Derived.Test.YtgldgabefiialaaGreatG3
namespace Go.Proofs.YtgldgabefiialaaGreat.H
open Go
set_option linter.unusedVariables false
set_option maxRecDepth 100000
section
variable {P : Program} {B : RO} {h0 h h' : Heap} {L : List (Option (Nat × AObj))} {r : Option (Nat × AObj)} {e : TypeId} {sz : Nat} {xs : List Value} {a : Option Addr} {m c : Nat}
theorem optAddZ (a : Option Addr) (n k : Nat) : (if n = 0 then a else Option.map (fun x => Addr.add x (0 * k)) a) = a := by
  split
  · rfl
  · cases a
    · rfl
    · show some (Addr.add _ (0 * k)) = _
      rw [Nat.zero_mul]; rfl
theorem up_app {L : List (Option (Nat × AObj))} {j : Nat} {x : Option (Nat × AObj)} (y : List (Option (Nat × AObj))) (hj : L[j]? = some x) : (L ++ y)[j]? = some x := by
  rw [List.getElem?_append_left (List.getElem?_eq_some_iff.1 hj).1]; exact hj
theorem Keep.remap {L' : List (Option (Nat × AObj))} (E : Keep B h0 L h) (f : Nat → Nat) (hf : ∀ (i : Nat) (y : Nat × AObj), L'[i]? = some (some y) → L[f i]? = some (some y)) (hi : ∀ i j, i < L'.length → j < L'.length → f i = f j → i = j) : Keep B h0 L' h :=
  ⟨E.le, E.nw, fun i k o e => E.z _ k o (hf i _ e), fun i k o e => E.get _ k o (hf i _ e), fun i j k o o' e e' => hi i j (List.getElem?_eq_some_iff.1 e).1 (List.getElem?_eq_some_iff.1 e').1 (E.nd _ _ _ _ _ (hf i _ e) (hf j _ e'))⟩
theorem Keep.moveLast {x : Option (Nat × AObj)} (E : Keep B h0 (L ++ [x]) h) (q : Nat) : Keep B h0 (L.set q x) h := by
  let f : Nat → Nat := fun i => if i = q then L.length else i
  have key : ∀ (i : Nat) (y : Nat × AObj), (L.set q x)[i]? = some (some y) → (L ++ [x])[f i]? = some (some y) ∧ i < L.length := fun i y hi => by
    have hl := (List.getElem?_eq_some_iff.1 hi).1
    rw [List.length_set] at hl
    by_cases h : i = q
    · subst h
      rw [List.getElem?_set_self hl] at hi
      simp [f]; exact ⟨Option.some.inj hi, hl⟩
    · rw [List.getElem?_set_ne (Ne.symm h)] at hi
      simp only [f, if_neg h]
      rw [List.getElem?_append_left hl]; exact ⟨hi, hl⟩
  refine ⟨E.le, E.nw, fun i k o e => E.z _ k o (key i _ e).1, fun i k o e => E.get _ k o (key i _ e).1, fun i j k o o' e e' => ?_⟩
  obtain ⟨a1, a2⟩ := key i _ e
  obtain ⟨b1, b2⟩ := key j _ e'
  have := E.nd _ _ _ _ _ a1 b1
  simp only [f] at this
  by_cases h1 : i = q <;> by_cases h2 : j = q
  · rw [h1, h2]
  · rw [if_pos h1, if_neg h2] at this; omega
  · rw [if_neg h1, if_pos h2] at this; omega
  · rw [if_neg h1, if_neg h2] at this; exact this
theorem Keep.storesV (E : Keep B h0 L h) (i : Nat) {k nn : Nat} {t : TypeId} {fs gs : List Value} (hi : L[i]? = some (some (k, .vec t (plains (fs ++ gs)) nn))) (ys : List Value) (ho : ∀ y ∈ ys, isOne y = true) (o : Nat) (hf : fs.length = o) (hn : o + ys.length ≤ nn) :
    ∃ h', StoresAt ⟨k, o, none⟩ h 0 ys h' ∧ Keep B h0 (L.set i (some (k, .vec t (plains (fs ++ ys ++ gs.drop ys.length)) nn))) h' := by
  obtain ⟨h', s1, s2, s3⟩ := StoresAt.over ys h o 0 fs gs ho (E.at i hi) (by omega) (by omega)
  refine ⟨h', s1, ?_⟩
  by_cases hy : ys = []
  · rw [s2 hy, hy]
    have : L.set i (some (k, .vec t (plains (fs ++ [] ++ gs.drop ([] : List Value).length)) nn)) = L := by
      obtain ⟨hl, e⟩ := List.getElem?_eq_some_iff.1 hi
      rw [List.append_nil, List.length_nil, List.drop_zero, ← e]; exact List.set_getElem_self hl
    rw [this]; exact E
  · rw [s3 hy]; exact E.put i hi
theorem Keep.storesLast {k nn : Nat} {t : TypeId} {fs gs : List Value} (E : Keep B h0 (L ++ [some (k, .vec t (plains (fs ++ gs)) nn)]) h) (ys : List Value) (ho : ∀ y ∈ ys, isOne y = true) (o : Nat) (hf : fs.length = o) (hn : o + ys.length ≤ nn) :
    ∃ h', StoresAt ⟨k, o, none⟩ h 0 ys h' ∧ Keep B h0 (L ++ [some (k, .vec t (plains (fs ++ ys ++ gs.drop ys.length)) nn)]) h' := by
  obtain ⟨h', s, E'⟩ := E.storesV L.length (by rw [List.getElem?_append_right (Nat.le_refl _), Nat.sub_self]; rfl) ys ho o hf hn
  rw [List.set_append_right _ _ (Nat.le_refl _), Nat.sub_self] at E'
  exact ⟨h', s, E'⟩
theorem Keep.cellsV (E : Keep B h0 L h) (i : Nat) {k nn : Nat} {t : TypeId} {fs ys gs : List Value} (hi : L[i]? = some (some (k, .vec t (plains (fs ++ ys ++ gs)) nn))) (o : Nat) (hf : fs.length = o) : CellsAt B h ⟨k, o, none⟩ 0 ys :=
  CellsAt.of_vec ys 0 (E.at i hi) fun j y hj => by
    have hl := (List.getElem?_eq_some_iff.1 hj).1
    rw [plains_get, Nat.add_zero, List.append_assoc, List.getElem?_append_right (by omega), show o + j - fs.length = j by omega, List.getElem?_append_left hl, hj]
    rfl
def InsP (P : Program) (ts sz tb ti : Nat) (rot : RO → Option Addr → Nat → Nat → Int → Heap → (Heap → Prop) → Prop) (B : RO) (a1 : Option Addr) (n2 : Nat) (c3 : Nat) (i4 : Int) (a5 : Option Addr) (n6 : Nat) (c7 : Nat) (h : Heap) (Q : Option Addr → Nat → Nat → Heap → Prop) : Prop :=
 0 ≤ (i4 : Int) ∧ (i4 : Int) ≤ ((n2 : Nat) : Int) ∧ ((n2 : Nat) : Int) ≤ (c3 : Nat) ∧
 (((n6 : Nat) : Int) = 0 →
 Fin B h (Q a1 n2 c3)) ∧ (¬ (((n6 : Nat) : Int) = 0) →
 ((i4 : Int) = (n2 : Nat) →
 semH P B (Builtin.append_ #[ts, ts] ts #[(Value.slice a1 n2 c3), (Value.slice a5 n6 c7)]) h (fun v h13 => ∃ a14 : Option Addr, ∃ n15 : Nat, ∃ c16 : Nat, v = (Value.slice a14 n15 c16) ∧
 Fin B h13 (Q a14 n15 c16))) ∧ (¬ ((i4 : Int) = (n2 : Nat)) →
 ((IntKind.wrap .i64 (((n2 : Nat)) + ((n6 : Nat))) : Int) > ((c3 : Nat)) →
 0 ≤ (0 : Int) ∧ (0 : Int) ≤ (i4 : Int) ∧ (i4 : Int) ≤ (c3 : Nat) ∧
 semH P B (Builtin.append_ #[ts, ti] ts #[(Value.slice (if c3 = Int.toNat (0) then a1 else Option.map (·.add (Int.toNat (0) * sz)) a1) (Int.toNat (i4) - Int.toNat (0)) (c3 - Int.toNat (0))), (Value.int .i64 (IntKind.wrap .i64 ((IntKind.wrap .i64 (((n2 : Nat)) + ((n6 : Nat)))) - (i4))))]) h (fun v h18 => ∃ a19 : Option Addr, ∃ n20 : Nat, ∃ c21 : Nat, v = (Value.slice a19 n20 c21) ∧
 0 ≤ (i4 : Int) ∧ (i4 : Int) ≤ ((n20 : Nat) : Int) ∧ ((n20 : Nat) : Int) ≤ (c21 : Nat) ∧
 semH P B (Builtin.copy_ #[ts, ts] ti #[(Value.slice (if c21 = Int.toNat (i4) then a19 else Option.map (·.add (Int.toNat (i4) * sz)) a19) (Int.toNat ((n20 : Nat)) - Int.toNat (i4)) (c21 - Int.toNat (i4))), (Value.slice a5 n6 c7)]) h18 (fun v h22 => ∃ i23 : Int, v = (Value.int .i64 (i23)) ∧
 0 ≤ (IntKind.wrap .i64 ((i4) + ((n6 : Nat))) : Int) ∧ (IntKind.wrap .i64 ((i4) + ((n6 : Nat))) : Int) ≤ ((n20 : Nat) : Int) ∧ ((n20 : Nat) : Int) ≤ (c21 : Nat) ∧
 0 ≤ (i4 : Int) ∧ (i4 : Int) ≤ ((n2 : Nat) : Int) ∧ ((n2 : Nat) : Int) ≤ (c3 : Nat) ∧
 semH P B (Builtin.copy_ #[ts, ts] ti #[(Value.slice (if c21 = Int.toNat (IntKind.wrap .i64 ((i4) + ((n6 : Nat)))) then a19 else Option.map (·.add (Int.toNat (IntKind.wrap .i64 ((i4) + ((n6 : Nat)))) * sz)) a19) (Int.toNat ((n20 : Nat)) - Int.toNat (IntKind.wrap .i64 ((i4) + ((n6 : Nat))))) (c21 - Int.toNat (IntKind.wrap .i64 ((i4) + ((n6 : Nat)))))), (Value.slice (if c3 = Int.toNat (i4) then a1 else Option.map (·.add (Int.toNat (i4) * sz)) a1) (Int.toNat ((n2 : Nat)) - Int.toNat (i4)) (c3 - Int.toNat (i4)))]) h22 (fun v h24 => ∃ i25 : Int, v = (Value.int .i64 (i25)) ∧
 Fin B h24 (Q a19 n20 c21))))) ∧ (¬ ((IntKind.wrap .i64 (((n2 : Nat)) + ((n6 : Nat))) : Int) > ((c3 : Nat))) →
 0 ≤ (0 : Int) ∧ (0 : Int) ≤ (IntKind.wrap .i64 (((n2 : Nat)) + ((n6 : Nat))) : Int) ∧ (IntKind.wrap .i64 (((n2 : Nat)) + ((n6 : Nat))) : Int) ≤ (c3 : Nat) ∧
 0 ≤ (IntKind.wrap .i64 ((i4) + ((n6 : Nat))) : Int) ∧ (IntKind.wrap .i64 ((i4) + ((n6 : Nat))) : Int) ≤ (((Int.toNat (IntKind.wrap .i64 (((n2 : Nat)) + ((n6 : Nat)))) - Int.toNat (0)) : Nat) : Int) ∧ (((Int.toNat (IntKind.wrap .i64 (((n2 : Nat)) + ((n6 : Nat)))) - Int.toNat (0)) : Nat) : Int) ≤ ((c3 - Int.toNat (0)) : Nat) ∧
 semH P B (Extern.SlicesOverlaps.overlaps #[ts, ts] #[tb] #[(Value.slice a5 n6 c7), (Value.slice (if (c3 - Int.toNat (0)) = Int.toNat (IntKind.wrap .i64 ((i4) + ((n6 : Nat)))) then (if c3 = Int.toNat (0) then a1 else Option.map (·.add (Int.toNat (0) * sz)) a1) else Option.map (·.add (Int.toNat (IntKind.wrap .i64 ((i4) + ((n6 : Nat)))) * sz)) (if c3 = Int.toNat (0) then a1 else Option.map (·.add (Int.toNat (0) * sz)) a1)) (Int.toNat (((Int.toNat (IntKind.wrap .i64 (((n2 : Nat)) + ((n6 : Nat)))) - Int.toNat (0)) : Nat)) - Int.toNat (IntKind.wrap .i64 ((i4) + ((n6 : Nat))))) ((c3 - Int.toNat (0)) - Int.toNat (IntKind.wrap .i64 ((i4) + ((n6 : Nat))))))]) h (fun v h26 => ∃ b27 : Bool, v = (Value.bool b27) ∧
 (b27 = true →
 0 ≤ ((n2 : Nat) : Int) ∧ ((n2 : Nat) : Int) ≤ (((Int.toNat (IntKind.wrap .i64 (((n2 : Nat)) + ((n6 : Nat)))) - Int.toNat (0)) : Nat) : Int) ∧ (((Int.toNat (IntKind.wrap .i64 (((n2 : Nat)) + ((n6 : Nat)))) - Int.toNat (0)) : Nat) : Int) ≤ ((c3 - Int.toNat (0)) : Nat) ∧
 semH P B (Builtin.copy_ #[ts, ts] ti #[(Value.slice (if (c3 - Int.toNat (0)) = Int.toNat ((n2 : Nat)) then (if c3 = Int.toNat (0) then a1 else Option.map (·.add (Int.toNat (0) * sz)) a1) else Option.map (·.add (Int.toNat ((n2 : Nat)) * sz)) (if c3 = Int.toNat (0) then a1 else Option.map (·.add (Int.toNat (0) * sz)) a1)) (Int.toNat (((Int.toNat (IntKind.wrap .i64 (((n2 : Nat)) + ((n6 : Nat)))) - Int.toNat (0)) : Nat)) - Int.toNat ((n2 : Nat))) ((c3 - Int.toNat (0)) - Int.toNat ((n2 : Nat)))), (Value.slice a5 n6 c7)]) h26 (fun v h32 => ∃ i33 : Int, v = (Value.int .i64 (i33)) ∧
 0 ≤ (i4 : Int) ∧ (i4 : Int) ≤ (((Int.toNat (IntKind.wrap .i64 (((n2 : Nat)) + ((n6 : Nat)))) - Int.toNat (0)) : Nat) : Int) ∧ (((Int.toNat (IntKind.wrap .i64 (((n2 : Nat)) + ((n6 : Nat)))) - Int.toNat (0)) : Nat) : Int) ≤ ((c3 - Int.toNat (0)) : Nat) ∧
 rot B (if (c3 - Int.toNat (0)) = Int.toNat (i4) then (if c3 = Int.toNat (0) then a1 else Option.map (·.add (Int.toNat (0) * sz)) a1) else Option.map (·.add (Int.toNat (i4) * sz)) (if c3 = Int.toNat (0) then a1 else Option.map (·.add (Int.toNat (0) * sz)) a1)) (Int.toNat (((Int.toNat (IntKind.wrap .i64 (((n2 : Nat)) + ((n6 : Nat)))) - Int.toNat (0)) : Nat)) - Int.toNat (i4)) ((c3 - Int.toNat (0)) - Int.toNat (i4)) ((n6 : Nat)) h32 (fun h34 =>
 Fin B h34 (Q (if c3 = Int.toNat (0) then a1 else Option.map (·.add (Int.toNat (0) * sz)) a1) (Int.toNat (IntKind.wrap .i64 (((n2 : Nat)) + ((n6 : Nat)))) - Int.toNat (0)) (c3 - Int.toNat (0)))))) ∧ (b27 = false →
 0 ≤ (IntKind.wrap .i64 ((i4) + ((n6 : Nat))) : Int) ∧ (IntKind.wrap .i64 ((i4) + ((n6 : Nat))) : Int) ≤ (((Int.toNat (IntKind.wrap .i64 (((n2 : Nat)) + ((n6 : Nat)))) - Int.toNat (0)) : Nat) : Int) ∧ (((Int.toNat (IntKind.wrap .i64 (((n2 : Nat)) + ((n6 : Nat)))) - Int.toNat (0)) : Nat) : Int) ≤ ((c3 - Int.toNat (0)) : Nat) ∧
 0 ≤ (i4 : Int) ∧ (i4 : Int) ≤ (((Int.toNat (IntKind.wrap .i64 (((n2 : Nat)) + ((n6 : Nat)))) - Int.toNat (0)) : Nat) : Int) ∧ (((Int.toNat (IntKind.wrap .i64 (((n2 : Nat)) + ((n6 : Nat)))) - Int.toNat (0)) : Nat) : Int) ≤ ((c3 - Int.toNat (0)) : Nat) ∧
 semH P B (Builtin.copy_ #[ts, ts] ti #[(Value.slice (if (c3 - Int.toNat (0)) = Int.toNat (IntKind.wrap .i64 ((i4) + ((n6 : Nat)))) then (if c3 = Int.toNat (0) then a1 else Option.map (·.add (Int.toNat (0) * sz)) a1) else Option.map (·.add (Int.toNat (IntKind.wrap .i64 ((i4) + ((n6 : Nat)))) * sz)) (if c3 = Int.toNat (0) then a1 else Option.map (·.add (Int.toNat (0) * sz)) a1)) (Int.toNat (((Int.toNat (IntKind.wrap .i64 (((n2 : Nat)) + ((n6 : Nat)))) - Int.toNat (0)) : Nat)) - Int.toNat (IntKind.wrap .i64 ((i4) + ((n6 : Nat))))) ((c3 - Int.toNat (0)) - Int.toNat (IntKind.wrap .i64 ((i4) + ((n6 : Nat)))))), (Value.slice (if (c3 - Int.toNat (0)) = Int.toNat (i4) then (if c3 = Int.toNat (0) then a1 else Option.map (·.add (Int.toNat (0) * sz)) a1) else Option.map (·.add (Int.toNat (i4) * sz)) (if c3 = Int.toNat (0) then a1 else Option.map (·.add (Int.toNat (0) * sz)) a1)) (Int.toNat (((Int.toNat (IntKind.wrap .i64 (((n2 : Nat)) + ((n6 : Nat)))) - Int.toNat (0)) : Nat)) - Int.toNat (i4)) ((c3 - Int.toNat (0)) - Int.toNat (i4)))]) h26 (fun v h28 => ∃ i29 : Int, v = (Value.int .i64 (i29)) ∧
 0 ≤ (i4 : Int) ∧ (i4 : Int) ≤ (((Int.toNat (IntKind.wrap .i64 (((n2 : Nat)) + ((n6 : Nat)))) - Int.toNat (0)) : Nat) : Int) ∧ (((Int.toNat (IntKind.wrap .i64 (((n2 : Nat)) + ((n6 : Nat)))) - Int.toNat (0)) : Nat) : Int) ≤ ((c3 - Int.toNat (0)) : Nat) ∧
 semH P B (Builtin.copy_ #[ts, ts] ti #[(Value.slice (if (c3 - Int.toNat (0)) = Int.toNat (i4) then (if c3 = Int.toNat (0) then a1 else Option.map (·.add (Int.toNat (0) * sz)) a1) else Option.map (·.add (Int.toNat (i4) * sz)) (if c3 = Int.toNat (0) then a1 else Option.map (·.add (Int.toNat (0) * sz)) a1)) (Int.toNat (((Int.toNat (IntKind.wrap .i64 (((n2 : Nat)) + ((n6 : Nat)))) - Int.toNat (0)) : Nat)) - Int.toNat (i4)) ((c3 - Int.toNat (0)) - Int.toNat (i4))), (Value.slice a5 n6 c7)]) h28 (fun v h30 => ∃ i31 : Int, v = (Value.int .i64 (i31)) ∧
 Fin B h30 (Q (if c3 = Int.toNat (0) then a1 else Option.map (·.add (Int.toNat (0) * sz)) a1) (Int.toNat (IntKind.wrap .i64 (((n2 : Nat)) + ((n6 : Nat)))) - Int.toNat (0)) (c3 - Int.toNat (0))))))))))
theorem insP_wp {ts tb ti bz kx c7 : Nat} {ki : IntKind} {zs ys : List Value} {rot : RO → Option Addr → Nat → Nat → Int → Heap → (Heap → Prop) → Prop} {Q : Option Addr → Nat → Nat → Heap → Prop}
    (ht : slcB P ts = some (e, sz, bz)) (hz : zeroB P e = some zs) (hzs : zs.length = sz) (hsz : 0 < sz) (hbz : 0 < bz) (hst : slT P ts = true) (hti : intB P ti = some ki) (h5 : e ≠ 5)
    (E : Keep B h0 L h) (q : Nat) (hq : L[q]? = some r) (R : Row r (.slice a m c) e sz xs) (hxo : ∀ y ∈ xs, isOne y = true) (j : Nat) (hj : L[j]? = some (some (kx, .vec e (plains ys) sz))) (hys : ys.length = sz) (hone : ∀ y ∈ ys, isOne y = true) (hjq : j ≠ q) (i : Nat) (hi : i ≤ m) (hb : (xs.length + sz) * bz ≤ 1099511627776)
    (hQ : ∀ a' c' r' h', Row r' (.slice a' (m + 1) c') e sz (xs.take (i * sz) ++ ys ++ xs.drop (i * sz)) → Keep B h0 (L.set q r') h' → Q a' (m + 1) c' h') : InsP P ts sz tb ti rot B a m c (i : Nat) (some ⟨kx, 0, none⟩) 1 c7 h Q := by
  have hmx := Row.len R
  have hcap := Row.cap R
  have hm1 : m ≤ xs.length := by rw [← hmx]; exact Nat.le_mul_of_pos_right _ hsz
  have hlim : xs.length + sz ≤ 1099511627776 := Nat.le_trans (Nat.le_mul_of_pos_right _ hbz) hb
  have hw1 : IntKind.wrap .i64 (((m : Nat) : Int) + ((1 : Nat) : Int)) = ((m + 1 : Nat) : Int) := by rw [w64 (by omega) (by omega)]; omega
  have hw2 : IntKind.wrap .i64 (((i : Nat) : Int) + ((1 : Nat) : Int)) = ((i + 1 : Nat) : Int) := by rw [w64 (by omega) (by omega)]; omega
  have hw3 : IntKind.wrap .i64 (((m + 1 : Nat) : Int) - ((i : Nat) : Int)) = ((m + 1 - i : Nat) : Int) := by rw [w64 (by omega) (by omega)]; omega
  have him : i * sz ≤ m * sz := Nat.mul_le_mul_right _ hi
  have hsrc : ∀ {L' : List (Option (Nat × AObj))} {h1 : Heap}, Keep B h0 L' h1 → L'[j]? = some (some (kx, .vec e (plains ys) sz)) → CellsAt B h1 ⟨kx, 0, none⟩ 0 ys := fun E1 hj1 => E1.cellsV (fs := []) (gs := []) j (by rw [List.append_nil]; exact hj1) 0 rfl
  unfold InsP
  simp only [hw1, hw2, hw3, Int.toNat_natCast, Int.toNat_zero, Nat.sub_zero, optAddZ]
  refine ⟨by omega, by omega, by omega, fun e0 => absurd e0 (by decide), fun _ => ⟨fun hin => ?_, fun hin => ⟨fun hgr => ?_, fun hroom => ?_⟩⟩⟩
  · refine E.pushS q (n := 1) (ys := ys) hq R ht hz hzs hsz hbz hst ⟨by omega, hone, .inl ⟨_, _, rfl, hsrc E hj⟩⟩ (by rw [hys]; exact hb) fun a' m' c' r' h'' R' E' => ?_
    have hm' := Row.len R'
    have : m' = m + 1 := by
      have h1 : m' * sz = (m + 1) * sz := by rw [hm', List.length_append, hys, Nat.add_mul, hmx, Nat.one_mul]
      exact Nat.eq_of_mul_eq_mul_right hsz h1
    subst this
    have hie : i = m := by omega
    refine ⟨_, _, _, rfl, Fin.of (hQ _ _ _ _ ?_ E')⟩
    rw [hie, hmx, List.take_length, List.drop_length, List.append_nil]; exact R'
  · have hil : i < m := by omega
    have Rc := R.cut (n := i) hi
    refine ⟨by omega, by omega, by omega, semH_appendZ (n := m + 1 - i) (m := i) ht hz hzs hsz hbz hti (E.sl q hq Rc) (by omega) (by omega) ?_ fun b nc nn zz js hb1 hb2 hzl hnc hnn => ?_⟩
    · refine Nat.le_trans (Nat.mul_le_mul_right _ ?_) hb
      omega
    have him1 : (i + 1) * sz ≤ m * sz := Nat.mul_le_mul_right _ hil
    have e1 : (i + 1) * sz = i * sz + sz := by rw [Nat.add_mul, Nat.one_mul]
    have e2 : (m + 1 - i) * sz + i * sz = m * sz + sz := by rw [← Nat.add_mul, show m + 1 - i + i = m + 1 by omega, Nat.add_mul, Nat.one_mul]
    have hnc2 : (i + (m + 1 - i)) * sz ≤ nc * sz := Nat.mul_le_mul_right _ hnc
    rw [Nat.add_mul] at hnc2
    have htl : (xs.take (i * sz)).length = i * sz := by rw [List.length_take]; omega
    have E1 := E.new (o := .vec e (plains (xs.take (i * sz) ++ (zz ++ js))) nn) hb1 hb2
    rw [List.append_assoc]
    refine ⟨_, _, _, rfl, by omega, by omega, by omega, ?_⟩
    rw [if_neg (by omega), Option.map_some, addr_more, Nat.zero_add]
    obtain ⟨h22, st, E2⟩ := E1.storesLast ys hone (i * sz) htl (by omega)
    refine semH_copySl ht (hsrc E1 (by rw [List.getElem?_append_left (List.getElem?_eq_some_iff.1 hj).1]; exact hj)) (by rw [Nat.min_eq_left (by omega)]; omega) st ⟨_, rfl, by omega, by omega, by omega, by omega, by omega, by omega, ?_⟩
    rcases R with ⟨_, e3, e4⟩ | ⟨k, m', c', nk, jk, rfl, e3, e4, e5, e6⟩
    · cases e3; omega
    cases e3
    rw [if_neg (by omega), Option.map_some, addr_more, Nat.zero_add, if_neg (by omega), Option.map_some, addr_more, Nat.zero_add]
    have hql : q < L.length := (List.getElem?_eq_some_iff.1 hq).1
    have hdl : (xs.drop (i * sz)).length = (m - i) * sz := by rw [List.length_drop, Nat.sub_mul]; omega
    have hc2 : CellsAt B h22 ⟨k, i * sz, none⟩ 0 (xs.drop (i * sz)) := E2.cellsV (fs := xs.take (i * sz)) (gs := jk) q (by rw [List.getElem?_append_left hql, hq, List.take_append_drop]) (i * sz) htl
    obtain ⟨h24, st2, E3⟩ := E2.storesLast (xs.drop (i * sz)) (fun y hy => hxo y (List.mem_of_mem_drop hy)) ((i + 1) * sz) (by rw [List.length_append, htl, hys]; omega) (by rw [List.length_drop]; omega)
    refine semH_copySl ht hc2 (by rw [hdl, Nat.min_eq_left (by omega)]) st2 ⟨_, rfl, Fin.of ?_⟩
    have e7 : i + (m + 1 - i) = m + 1 := by omega
    rw [e7]
    refine hQ _ _ _ _ (.inr ⟨b, m + 1, nc, nn, _, rfl, rfl, ?_, by omega, hnn⟩) (E3.moveLast q)
    rw [List.length_append, List.length_append, htl, hys, List.length_drop, Nat.add_mul, Nat.one_mul]; omega
  · have hil : i < m := by omega
    have hmc : m + 1 ≤ c := by omega
    rcases R with ⟨_, e3, e4⟩ | ⟨k, m', c', nk, jk, rfl, e3, e4, e5, e6⟩
    · cases e3; omega
    cases e3
    have him1 : (i + 1) * sz ≤ m * sz := Nat.mul_le_mul_right _ hil
    have e1 : (i + 1) * sz = i * sz + sz := by rw [Nat.add_mul, Nat.one_mul]
    have hmc2 : (m + 1) * sz ≤ c * sz := Nat.mul_le_mul_right _ hmc
    rw [Nat.add_mul, Nat.one_mul] at hmc2
    have htl : (xs.take (i * sz)).length = i * sz := by rw [List.length_take]; omega
    have htl1 : (xs.take ((i + 1) * sz)).length = (i + 1) * sz := by rw [List.length_take]; omega
    have hql : q < L.length := (List.getElem?_eq_some_iff.1 hq).1
    refine ⟨by omega, by omega, by omega, by omega, by omega, by omega, ?_⟩
    have ni1 : ¬ c = i + 1 := by omega
    have ni : ¬ c = i := by omega
    simp only [if_neg ni1, if_neg ni, Option.map_some, addr_more, Nat.zero_add]
    refine semH_overlaps ht (E.at j hj) (E.at q hq) (fun e0 => hjq (E.nd j q kx _ _ hj (by rw [e0]; exact hq))) ⟨h5, h5⟩ ⟨by omega, by omega⟩ ⟨_, rfl, fun e0 => (by cases e0), fun _ => ⟨by omega, by omega, by omega, by omega, by omega, by omega, ?_⟩⟩
    have hdl : (xs.drop (i * sz)).length = (m - i) * sz := by rw [List.length_drop, Nat.sub_mul]; omega
    have hc2 : CellsAt B h ⟨k, i * sz, none⟩ 0 (xs.drop (i * sz)) := E.cellsV (fs := xs.take (i * sz)) (gs := jk) q (by rw [hq, List.take_append_drop]) (i * sz) htl
    obtain ⟨h28, st, E2⟩ := E.storesV q (fs := xs.take ((i + 1) * sz)) (gs := xs.drop ((i + 1) * sz) ++ jk) (by rw [hq, ← List.append_assoc, List.take_append_drop]) (xs.drop (i * sz)) (fun y hy => hxo y (List.mem_of_mem_drop hy)) ((i + 1) * sz) htl1 (by rw [List.length_drop]; omega)
    refine semH_copySl ht hc2 (by rw [hdl, Nat.min_eq_right (by omega)]; congr 1; omega) st ⟨_, rfl, by omega, by omega, by omega, ?_⟩
    have e8 : xs.take ((i + 1) * sz) = xs.take (i * sz) ++ (xs.drop (i * sz)).take sz := by rw [e1, List.take_add]
    generalize hrest : (xs.drop ((i + 1) * sz) ++ jk).drop (xs.drop (i * sz)).length = rest at E2
    obtain ⟨h30, st2, E3⟩ := E2.storesV q (k := k) (nn := nk) (t := e) (fs := xs.take (i * sz)) (gs := (xs.drop (i * sz)).take sz ++ (xs.drop (i * sz) ++ rest)) (by rw [List.getElem?_set_self hql, e8]; simp only [List.append_assoc]) ys hone (i * sz) htl (by omega)
    refine semH_copySl ht (hsrc E2 (by rw [List.getElem?_set_ne (Ne.symm hjq)]; exact hj)) (by rw [Nat.min_eq_left (by omega)]; omega) st2 ⟨_, rfl, Fin.of ?_⟩
    rw [List.set_set] at E3
    have e9 : ((xs.drop (i * sz)).take sz ++ (xs.drop (i * sz) ++ rest)).drop ys.length = xs.drop (i * sz) ++ rest := by
      rw [List.drop_left']
      rw [List.length_take, List.length_drop, hys]; omega
    rw [e9, ← List.append_assoc] at E3
    refine hQ _ _ _ _ (.inr ⟨k, m + 1, c, nk, rest, rfl, rfl, ?_, hmc, e6⟩) E3
    rw [List.length_append, List.length_append, htl, hys, List.length_drop, Nat.add_mul, Nat.one_mul]; omega
end
end Go.Proofs.YtgldgabefiialaaGreat.H
namespace Go.Proofs.YtgldgabefiialaaGreat.H
open Go
set_option linter.unusedVariables false
section
variable {V : Type} {l m : List (Int × V)} {i j : Int} {v : V} {p : Nat} {x : Int × V}
def insD : List (Int × V) → Int → V → List (Int × V)
  | [], i, v => [(i, v)]
  | y :: t, i, v => if y.1 < i then y :: insD t i v else if y.1 = i then (i, v) :: t else (i, v) :: y :: t
def SortD (l : List (Int × V)) : Prop := l.Pairwise fun x y => x.1 < y.1
def atD (l : List (Int × V)) (i : Int) : Option V := (l.find? fun x => x.1 == i).map (·.2)
structure PosD (l : List (Int × V)) (i : Int) (p : Nat) : Prop where
  le : p ≤ l.length
  lo : ∀ (q : Nat) (x : Int × V), q < p → l[q]? = some x → x.1 < i
  hi : ∀ (q : Nat) (x : Int × V), p ≤ q → l[q]? = some x → i ≤ x.1
def foundD (l : List (Int × V)) (p : Nat) (i : Int) : Bool := match l[p]? with
  | some x => x.1 == i
  | none => false
theorem PosD.tail {y : Int × V} (k : PosD (y :: l) i (p + 1)) : PosD l i p :=
  ⟨by have := k.le; simp at this; exact this, fun q x hq hx => k.lo (q + 1) x (by omega) (by simpa using hx), fun q x hq hx => k.hi (q + 1) x (by omega) (by simpa using hx)⟩
theorem insD_new : ∀ {l : List (Int × V)} {p : Nat}, PosD l i p → foundD l p i = false → insD l i v = l.take p ++ (i, v) :: l.drop p
  | [], p, k, _ => by
    have := k.le; simp at this; subst this; rfl
  | y :: t, 0, k, hf => by
    have h1 := k.hi 0 y (Nat.le_refl _) rfl
    have h2 : y.1 ≠ i := by simpa [foundD] using hf
    rw [insD, if_neg (by omega), if_neg h2]; rfl
  | y :: t, p + 1, k, hf => by
    have h1 := k.lo 0 y (by omega) rfl
    rw [insD, if_pos h1, insD_new k.tail (by simpa [foundD] using hf)]; rfl
theorem insD_old : ∀ {l : List (Int × V)} {p : Nat}, PosD l i p → foundD l p i = true → insD l i v = l.set p (i, v)
  | [], p, k, hf => by simp [foundD] at hf
  | y :: t, 0, k, hf => by
    have h2 : y.1 = i := by simpa [foundD] using hf
    rw [insD, if_neg (by omega), if_pos h2]; rfl
  | y :: t, p + 1, k, hf => by
    have h1 := k.lo 0 y (by omega) rfl
    rw [insD, if_pos h1, insD_old k.tail (by simpa [foundD] using hf)]; rfl
theorem foundD_some (hf : foundD l p i = true) : ∃ x, l[p]? = some x ∧ x.1 = i := by
  unfold foundD at hf
  split at hf
  · rename_i x hx; exact ⟨x, hx, by simpa using hf⟩
  · cases hf
theorem atD_old : ∀ {l : List (Int × V)} {p : Nat} {x : Int × V}, PosD l i p → l[p]? = some x → x.1 = i → atD l i = some x.2
  | [], p, x, _, h, _ => by simp at h
  | y :: t, 0, x, k, h, e => by
    simp at h; subst h
    simp [atD, e]
  | y :: t, p + 1, x, k, h, e => by
    have h1 := k.lo 0 y (by omega) rfl
    have := atD_old k.tail (by simpa using h) e
    have hn : (y.1 == i) = false := by simp; omega
    simp only [atD, List.find?_cons, hn]
    exact this
theorem atD_new : ∀ {l : List (Int × V)} {p : Nat}, SortD l → PosD l i p → foundD l p i = false → atD l i = none
  | [], p, _, _, _ => rfl
  | y :: t, 0, s, k, hf => by
    have h1 := k.hi 0 y (Nat.le_refl _) rfl
    have h2 : y.1 ≠ i := by simpa [foundD] using hf
    rw [SortD, List.pairwise_cons] at s
    unfold atD
    rw [Option.map_eq_none_iff, List.find?_eq_none]
    intro z hz
    rcases List.mem_cons.1 hz with rfl | hz
    · simpa using h2
    · have := s.1 z hz
      simp; omega
  | y :: t, p + 1, s, k, hf => by
    have h1 := k.lo 0 y (by omega) rfl
    rw [SortD, List.pairwise_cons] at s
    have := atD_new s.2 k.tail (by simpa [foundD] using hf)
    have hn : (y.1 == i) = false := by simp; omega
    simp only [atD, List.find?_cons, hn]
    exact this
theorem insD_mem : ∀ {l : List (Int × V)}, x ∈ insD l i v → x = (i, v) ∨ x ∈ l
  | [], h => by simp [insD] at h; exact .inl h
  | y :: t, h => by
    unfold insD at h
    split at h
    · rcases List.mem_cons.1 h with rfl | h
      · exact .inr (by simp)
      · rcases insD_mem h with h | h
        · exact .inl h
        · exact .inr (by simp [h])
    · split at h
      · rcases List.mem_cons.1 h with rfl | h
        · exact .inl rfl
        · exact .inr (by simp [h])
      · rcases List.mem_cons.1 h with rfl | h
        · exact .inl rfl
        · exact .inr h
theorem SortD.ins : ∀ {l : List (Int × V)}, SortD l → SortD (insD l i v)
  | [], _ => by simp [insD, SortD]
  | y :: t, s => by
    have s' := s
    rw [SortD, List.pairwise_cons] at s
    unfold insD
    split
    · rename_i h
      refine List.pairwise_cons.2 ⟨fun z hz => ?_, SortD.ins s.2⟩
      rcases insD_mem hz with rfl | hz
      · exact h
      · exact s.1 z hz
    · split
      · rename_i h
        refine List.pairwise_cons.2 ⟨fun z hz => ?_, s.2⟩
        have := s.1 z hz
        simp only; omega
      · rename_i h1 h2
        refine List.pairwise_cons.2 ⟨fun z hz => ?_, s'⟩
        rcases List.mem_cons.1 hz with rfl | hz
        · simp only; omega
        · have := s.1 z hz
          simp only; omega
theorem SortD.get (s : SortD l) {p q : Nat} {x y : Int × V} (h : q < p) (hx : l[q]? = some x) (hy : l[p]? = some y) : x.1 < y.1 := by
  obtain ⟨h1, rfl⟩ := List.getElem?_eq_some_iff.1 hx
  obtain ⟨h2, rfl⟩ := List.getElem?_eq_some_iff.1 hy
  exact List.pairwise_iff_getElem.1 s q p h1 h2 h
end
end Go.Proofs.YtgldgabefiialaaGreat.H
namespace Go.Proofs.YtgldgabefiialaaGreat.H
open Go
set_option linter.unusedVariables false
set_option maxRecDepth 100000
def entC_int (x : Int × Int) : List Value := [.int .i64 x.1, .int .i64 x.2]
theorem entC_int_len (x : Int × Int) : (entC_int x).length = 2 := rfl
theorem entC_int_one (x : Int × Int) : ∀ y ∈ entC_int x, isOne y = true := fun y hy => by simp [entC_int] at hy; rcases hy with rfl | rfl <;> rfl
theorem TK.slc_ent_int : slcB PG TY.s_draft_entry_int = some (TY.draft_entry_int, 2, 16) := by kernel_rfl
theorem TK.zero_ent_int : zeroB PG TY.draft_entry_int = some [.int .i64 0, .int .i64 0] := by kernel_rfl
theorem TK.sl_ent_int : slT PG TY.s_draft_entry_int = true := by kernel_rfl
theorem TK.int_ent_int : intB PG TY.int = some .i64 := by kernel_rfl
def DRow_int (r : Option (Nat × AObj)) (v : Value) (l : List (Int × Int)) : Prop := Row r v TY.draft_entry_int 2 (l.flatMap entC_int)
def drO_int (v : Value) : AObj := .vec TY.draft_Draft_int (plains [v]) 1
structure DAt_int (L : List (Option (Nat × AObj))) (i k : Nat) (v : Value) (r : Option (Nat × AObj)) : Prop where
  p : L[i]? = some (some (k, drO_int v))
  q : L[i + 1]? = some r
section
variable {B : RO} {h0 h h' : Heap} {L : List (Option (Nat × AObj))} {r : Option (Nat × AObj)} {i k : Nat} {a : Option Addr} {m c : Nat} {v : Value} {l : List (Int × Int)}
theorem by_int_wp {x : Int × Int} {n : Int} {Q : Int → Heap → Prop} (hQ : Q (if x.1 < n then -1 else if n < x.1 then 1 else 0) h) : C_draft_by_int B x.1 (x.2) n h Q := by
  refine C_draft_by_int.of ?_
  unfold S_draft_by_int
  intro k5 a5 b5 h6 e6
  have E := (Keep.nil B h).made a5 b5 e6
  refine ⟨_, E.cell 0 rfl rfl, fun h1 => Fin.ent E.back (Fin.of ?_), fun h1 => ⟨_, E.cell 0 rfl rfl, fun h2 => Fin.ent E.back (Fin.of ?_), fun h2 => Fin.ent E.back (Fin.of ?_)⟩⟩
  · rw [if_pos h1] at hQ; exact hQ
  · rw [if_neg h1, if_pos h2] at hQ; exact hQ
  · rw [if_neg h1, if_neg (fun h => h2 h)] at hQ; exact hQ
theorem bsearch_int_wp {n : Int} {Q : Int → Bool → Heap → Prop} (hr : Reads B h a 2 entC_int l) (s : SortD l) (hl : l.length ≤ 1000000) (hQ : ∀ p, PosD l n p → Q (p : Nat) (foundD l p n) h) : C_slices_BinarySearchFunc_s_draft_entry_int_draft_entry_int_int B a l.length c n (Value.func (.func FN.draft_by_int) #[] #[]) h Q := by
  refine C_slices_BinarySearchFunc_s_draft_entry_int_draft_entry_int_int.of ?_
  unfold S_slices_BinarySearchFunc_s_draft_entry_int_draft_entry_int_int
  refine ⟨fun i j m h' => ∃ lo hi : Nat, i = lo ∧ j = hi ∧ m = hi - lo ∧ lo ≤ hi ∧ hi ≤ l.length ∧ (∀ (q : Nat) (x : Int × Int), q < lo → l[q]? = some x → x.1 < n) ∧ (∀ (q : Nat) (x : Int × Int), hi ≤ q → l[q]? = some x → n ≤ x.1) ∧ h = h', l.length, Fin.of ⟨0, l.length, rfl, rfl, rfl, by omega, Nat.le_refl _, fun q x hq => by omega, fun q x hq hx => by have := (List.getElem?_eq_some_iff.1 hx).1; omega, rfl⟩, ?_⟩
  rintro _ _ _ _ ⟨lo, hi, rfl, rfl, rfl, hlh, hhl, hlo, hhi, rfl⟩
  refine ⟨fun hlt => ⟨by decide, ?_⟩, fun hge => Fin.of ?_⟩
  · have hmid : IntKind.wrap .i64 (Int.fdiv (IntKind.wrap .u64 (IntKind.wrap .i64 (((lo : Nat) : Int) + ((hi : Nat) : Int)))) (2 ^ (min (Int.toNat (1)) (IntKind.bits .u64)))) = (((lo + hi) / 2 : Nat) : Int) := by
      have e1 : IntKind.wrap .i64 (((lo : Nat) : Int) + ((hi : Nat) : Int)) = ((lo + hi : Nat) : Int) := by rw [w64 (by omega) (by omega)]; omega
      have e2 : IntKind.wrap .u64 ((lo + hi : Nat) : Int) = ((lo + hi : Nat) : Int) := by rw [wu64]; omega
      rw [e1, e2, two1, Int.fdiv_eq_ediv_of_nonneg _ (by decide), w64 (by omega) (by omega)]; omega
    rw [hmid]
    have hml : (lo + hi) / 2 < l.length := by omega
    have hx := List.getElem?_eq_getElem hml
    have hb : lo ≤ (lo + hi) / 2 ∧ (lo + hi) / 2 < hi := by omega
    generalize (lo + hi) / 2 = mid at hml hx hb
    generalize l[mid] = x at hx
    obtain ⟨A, e1, _, e4⟩ := hr mid x hx
    have hw : IntKind.wrap .i64 (((mid : Nat) : Int) + 1) = ((mid + 1 : Nat) : Int) := by rw [w64 (by omega) (by omega)]; omega
    rw [hw]
    refine ⟨A, e1, by omega, by omega, x.1, x.2, e4, ?_⟩
    refine CallV.func TG.draft_by_int (by_int_wp (x := x) ⟨fun h1 => Fin.of ⟨hi - (mid + 1), by omega, mid + 1, hi, rfl, rfl, rfl, by omega, hhl, fun q y hq hy => ?_, hhi, rfl⟩, fun h1 => Fin.of ⟨mid - lo, by omega, lo, mid, rfl, rfl, rfl, by omega, by omega, hlo, fun q y hq hy => ?_, rfl⟩⟩)
    · have hx1 : x.1 < n := by
        by_cases h2 : x.1 < n
        · exact h2
        · rw [if_neg h2] at h1; split at h1 <;> omega
      by_cases h : q = mid
      · subst h; rw [hx] at hy; cases hy; exact hx1
      · have := s.get (show q < mid by omega) hy hx; omega
    · have hx1 : n ≤ x.1 := by
        by_cases h2 : x.1 < n
        · rw [if_pos h2] at h1; omega
        · omega
      by_cases h : q = mid
      · subst h; rw [hx] at hy; cases hy; exact hx1
      · have := s.get (show mid < q by omega) hx hy; omega
  · have : lo = hi := by omega
    subst this
    have K : PosD l n lo := ⟨hhl, hlo, hhi⟩
    have hq := hQ lo K
    unfold S_slices_BinarySearchFunc_s_draft_entry_int_draft_entry_int_int_J1
    refine ⟨fun hlt2 => ?_, fun hge2 => Fin.of ?_⟩
    · have hml : lo < l.length := by omega
      have hx := List.getElem?_eq_getElem hml
      generalize l[lo] = x at hx
      obtain ⟨A, e1, _, e4⟩ := hr lo x hx
      have hf : foundD l lo n = (x.1 == n) := by rw [foundD, hx]
      rw [hf] at hq
      refine ⟨A, e1, by omega, by omega, x.1, x.2, e4, ?_⟩
      refine CallV.func TG.draft_by_int (by_int_wp (x := x) (Fin.of ?_))
      have : (((if x.1 < n then -1 else if n < x.1 then 1 else 0 : Int)) == (0 : Int)) = (x.1 == n) := by
        rw [Bool.eq_iff_iff, beq_iff_eq, beq_iff_eq]
        split
        · omega
        · split <;> omega
      rw [this]; exact hq
    · have hf : foundD l lo n = false := by rw [foundD, List.getElem?_eq_none (by omega)]
      rw [hf] at hq; exact hq
theorem DRow_int.len (R : DRow_int r (.slice a m c) l) : m = l.length := (Row.rd (B := fun _ => none) R entC_int_len (by omega)).1
theorem find_int_wp {n : Int} {Q : Int → Bool → Heap → Prop} (E : Keep B h0 L h) (A : DAt_int L i k v r) (R : DRow_int r v l) (s : SortD l) (hl : l.length ≤ 1000000) (hQ : ∀ p, PosD l n p → Q (p : Nat) (foundD l p n) h) : C_draft_Draft_int_find B (some ⟨k, 0, none⟩) n h Q := by
  refine C_draft_Draft_int_find.of ?_
  unfold S_draft_Draft_int_find
  obtain ⟨a, m, c, rfl⟩ := Row.slice R
  obtain ⟨rfl, hrd⟩ := Row.rd (B := B) R entC_int_len (by omega)
  exact ⟨_, rfl, .inl ⟨a, _, c, E.cell i A.p rfl, bsearch_int_wp (hrd h fun k o e => E.at (i + 1) (by rw [A.q, e])) s hl fun p K => Fin.of (hQ p K)⟩⟩
theorem get_int_wp {n : Int} {Q : Int → Bool → Heap → Prop} (E : Keep B h0 L h) (A : DAt_int L i k v r) (R : DRow_int r v l) (s : SortD l) (hl : l.length ≤ 1000000) (hQ : Q ((atD l n).getD 0) (atD l n).isSome h) : C_draft_Draft_int_Get B (some ⟨k, 0, none⟩) n h Q := by
  refine C_draft_Draft_int_Get.of ?_
  unfold S_draft_Draft_int_Get
  refine ⟨fun e => (by cases e), fun _ => find_int_wp E A R s hl fun p K => ⟨fun hf => ?_, fun hf => Fin.of ?_⟩⟩
  · obtain ⟨x, hx, rfl⟩ := foundD_some hf
    have hpl := (List.getElem?_eq_some_iff.1 hx).1
    rw [atD_old K hx rfl] at hQ
    obtain ⟨a, m, c, rfl⟩ := Row.slice R
    obtain ⟨rfl, hrd⟩ := Row.rd (B := B) R entC_int_len (by omega)
    obtain ⟨A', e1, _, e4⟩ := hrd h (fun k o e => E.at (i + 1) (by rw [A.q, e])) p x hx
    refine ⟨_, rfl, .inl ⟨a, _, c, E.cell i A.p rfl, A', e1, by omega, by omega, x.2, ?_, Fin.of hQ⟩⟩
    exact e4.2.1
  · rw [atD_new s K hf] at hQ; exact hQ
theorem ins_int_eq {a5 : Option Addr} {n n6 c7 : Nat} {i : Int} {Q : Option Addr → Nat → Nat → Heap → Prop} : S_slices_Insert_s_draft_entry_int_draft_entry_int B a n c i a5 n6 c7 h Q = InsP PG TY.s_draft_entry_int 2 TY.bool TY.int (fun B => C_slices_rotateRight_draft_entry_int B) B a n c i a5 n6 c7 h Q := by
  unfold S_slices_Insert_s_draft_entry_int_draft_entry_int InsP
  congr
theorem put_int_wp {n : Int} {x : Int} {Q : Bool → Heap → Prop} (E : Keep B h0 L h) (A : DAt_int L i k v r) (R : DRow_int r v l) (s : SortD l) (hl : l.length ≤ 100000) (hQ : ∀ v' r' h', DRow_int r' v' (insD l n x) → Keep B h0 ((L.set i (some (k, drO_int v'))).set (i + 1) r') h' → Q true h') : C_draft_Draft_int_Put B (some ⟨k, 0, none⟩) n x h Q := by
  refine C_draft_Draft_int_Put.of ?_
  unfold S_draft_Draft_int_Put
  have hil : i < L.length := (List.getElem?_eq_some_iff.1 A.p).1
  have hil1 : i + 1 < L.length := (List.getElem?_eq_some_iff.1 A.q).1
  refine ⟨fun e => (by cases e), fun _ => find_int_wp E A R s (by omega) fun p K => ⟨fun hf => ?_, fun hf => ?_⟩⟩
  · obtain ⟨y, hy, rfl⟩ := foundD_some hf
    have hpl := (List.getElem?_eq_some_iff.1 hy).1
    have hi := insD_old (v := x) K hf
    obtain ⟨a, m, c, rfl⟩ := Row.slice R
    have hm := DRow_int.len R
    subst hm
    have hfl := flatMap_length entC_int_len l
    rcases R with ⟨_, e1, e2⟩ | ⟨kr, m', c', nn, js, e0, e1, e3, e4, e5⟩
    · rw [e2] at hfl; simp at hfl; omega
    · cases e1
      have hq := A.q
      rw [e0] at hq
      have hsp := flatMap_splitR (cells := entC_int) l p hpl
      have hly : l[p] = y := by rw [List.getElem?_eq_getElem hpl] at hy; exact Option.some.inj hy
      have htl : ((l.take p).flatMap entC_int).length = p * 2 := by rw [flatMap_length entC_int_len, List.length_take]; omega
      have hle : (l.length : Nat) * 2 ≤ nn := Nat.le_trans (Nat.mul_le_mul_right _ e4) e5
      obtain ⟨h32, st, E2⟩ := E.storesV (i + 1) (k := kr) (nn := nn) (t := TY.draft_entry_int) (fs := (l.take p).flatMap entC_int ++ [.int .i64 y.1]) (gs := [.int .i64 y.2] ++ ((l.drop (p + 1)).flatMap entC_int ++ js)) (by
        rw [hq, hsp, hly]; simp [entC_int, List.append_assoc]) [.int .i64 x] (by simp [isOne]) (p * 2 + 1) (by rw [List.length_append, htl]; rfl) (by simp; omega)
      refine ⟨_, rfl, .inl ⟨_, _, _, E.cell i A.p rfl, _, rfl, by omega, by omega, ?_⟩⟩
      rw [addr_more, addr_more, Nat.zero_add, Int.toNat_natCast]
      have hs : L.set i (some (k, drO_int (.slice (some ⟨kr, 0, none⟩) l.length c))) = L := by
        obtain ⟨hl, e⟩ := List.getElem?_eq_some_iff.1 A.p
        rw [← e]; exact List.set_getElem_self hl
      have hfin : Q true h32 := by
        refine hQ (.slice (some ⟨kr, 0, none⟩) l.length c) _ h32 (.inr ⟨kr, l.length, c, nn, js, rfl, rfl, ?_, e4, e5⟩) ?_
        · rw [hi, flatMap_length entC_int_len, List.length_set]
        · rw [hs, hi, flatMap_setR _ _ _ hpl]
          refine cast ?_ E2
          congr 6
          simp [entC_int, List.append_assoc]
      obtain ⟨_, h33, s1, s2⟩ := st
      cases s2
      exact ⟨_, s1, Fin.of hfin⟩
  · have hi := insD_new (v := x) K hf
    obtain ⟨a, m, c, rfl⟩ := Row.slice R
    have hm := DRow_int.len R
    subst hm
    have hfl := flatMap_length entC_int_len l
    refine ⟨_, rfl, .inl ⟨a, _, c, E.cell i A.p rfl, fun k15 a15 b15 h16 e16 => ?_⟩⟩
    have E1 := E.made a15 b15 e16
    refine C_slices_Insert_s_draft_entry_int_draft_entry_int.of ?_
    rw [ins_int_eq]
    refine insP_wp TK.slc_ent_int TK.zero_ent_int rfl (by omega) (by omega) TK.sl_ent_int TK.int_ent_int (by decide) E1 (i + 1) (up_app _ A.q) R ?_ L.length (kx := k15) (ys := entC_int (n, x)) (by rw [List.getElem?_append_right (Nat.le_refl _), Nat.sub_self]; rfl) rfl (entC_int_one _) (by omega) p K.le (by rw [hfl]; omega) ?_
    · intro y hy
      obtain ⟨z, _, hz⟩ := List.mem_flatMap.1 hy
      exact entC_int_one z y hz
    · intro a' c' r' h17 R' E2
      rw [List.set_append_left _ _ hil1] at E2
      have E3 := E2.pop
      have hp3 : (L.set (i + 1) r')[i]? = some (some (k, drO_int (.slice a l.length c))) := by rw [List.getElem?_set_ne (by omega)]; exact A.p
      obtain ⟨es, E4⟩ := E3.store i 0 (.slice a' (l.length + 1) c') hp3 rfl
      refine ⟨_, rfl, _, es, Fin.of (hQ (.slice a' (l.length + 1) c') r' _ ?_ ?_)⟩
      · rw [hi]
        unfold DRow_int
        have e1 : (l.flatMap entC_int).take (p * 2) = (l.take p).flatMap entC_int := take_flatMap entC_int_len l p
        have e2 : (l.flatMap entC_int).drop (p * 2) = (l.drop p).flatMap entC_int := by
          have h2 : l.flatMap entC_int = (l.take p).flatMap entC_int ++ (l.drop p).flatMap entC_int := by rw [← List.flatMap_append, List.take_append_drop]
          rw [h2, List.drop_left']
          rw [flatMap_length entC_int_len, List.length_take, Nat.min_eq_left K.le]
        rw [e1, e2] at R'
        rw [List.flatMap_append, List.flatMap_cons, ← List.append_assoc]
        exact R'
      · rw [List.set_comm _ _ (by omega)] at E4
        exact E4
end
end Go.Proofs.YtgldgabefiialaaGreat.H
namespace Go.Proofs.YtgldgabefiialaaGreat.H
open Go
set_option linter.unusedVariables false
set_option maxRecDepth 100000
def entC_file_File (x : Int × (Bool × ByteArray)) : List Value := [.int .i64 x.1, .bool x.2.1, .string x.2.2]
theorem entC_file_File_len (x : Int × (Bool × ByteArray)) : (entC_file_File x).length = 3 := rfl
theorem entC_file_File_one (x : Int × (Bool × ByteArray)) : ∀ y ∈ entC_file_File x, isOne y = true := fun y hy => by simp [entC_file_File] at hy; rcases hy with rfl | rfl | rfl <;> rfl
theorem TK.slc_ent_file_File : slcB PG TY.s_draft_entry_file_File = some (TY.draft_entry_file_File, 3, 32) := by kernel_rfl
theorem TK.zero_ent_file_File : zeroB PG TY.draft_entry_file_File = some [.int .i64 0, .bool false, .string ByteArray.empty] := by kernel_rfl
theorem TK.sl_ent_file_File : slT PG TY.s_draft_entry_file_File = true := by kernel_rfl
theorem TK.int_ent_file_File : intB PG TY.int = some .i64 := by kernel_rfl
def DRow_file_File (r : Option (Nat × AObj)) (v : Value) (l : List (Int × (Bool × ByteArray))) : Prop := Row r v TY.draft_entry_file_File 3 (l.flatMap entC_file_File)
def drO_file_File (v : Value) : AObj := .vec TY.draft_Draft_file_File (plains [v]) 1
structure DAt_file_File (L : List (Option (Nat × AObj))) (i k : Nat) (v : Value) (r : Option (Nat × AObj)) : Prop where
  p : L[i]? = some (some (k, drO_file_File v))
  q : L[i + 1]? = some r
section
variable {B : RO} {h0 h h' : Heap} {L : List (Option (Nat × AObj))} {r : Option (Nat × AObj)} {i k : Nat} {a : Option Addr} {m c : Nat} {v : Value} {l : List (Int × (Bool × ByteArray))}
theorem by_file_File_wp {x : Int × (Bool × ByteArray)} {n : Int} {Q : Int → Heap → Prop} (hQ : Q (if x.1 < n then -1 else if n < x.1 then 1 else 0) h) : C_draft_by_file_File B x.1 x.2.1 x.2.2 n h Q := by
  refine C_draft_by_file_File.of ?_
  unfold S_draft_by_file_File
  intro k5 a5 b5 h6 e6
  have E := (Keep.nil B h).made a5 b5 e6
  refine ⟨_, E.cell 0 rfl rfl, fun h1 => Fin.ent E.back (Fin.of ?_), fun h1 => ⟨_, E.cell 0 rfl rfl, fun h2 => Fin.ent E.back (Fin.of ?_), fun h2 => Fin.ent E.back (Fin.of ?_)⟩⟩
  · rw [if_pos h1] at hQ; exact hQ
  · rw [if_neg h1, if_pos h2] at hQ; exact hQ
  · rw [if_neg h1, if_neg (fun h => h2 h)] at hQ; exact hQ
theorem bsearch_file_File_wp {n : Int} {Q : Int → Bool → Heap → Prop} (hr : Reads B h a 3 entC_file_File l) (s : SortD l) (hl : l.length ≤ 1000000) (hQ : ∀ p, PosD l n p → Q (p : Nat) (foundD l p n) h) : C_slices_BinarySearchFunc_s_draft_entry_file_File_draft_entry_file_File_int B a l.length c n (Value.func (.func FN.draft_by_file_File) #[] #[]) h Q := by
  refine C_slices_BinarySearchFunc_s_draft_entry_file_File_draft_entry_file_File_int.of ?_
  unfold S_slices_BinarySearchFunc_s_draft_entry_file_File_draft_entry_file_File_int
  refine ⟨fun i j m h' => ∃ lo hi : Nat, i = lo ∧ j = hi ∧ m = hi - lo ∧ lo ≤ hi ∧ hi ≤ l.length ∧ (∀ (q : Nat) (x : Int × (Bool × ByteArray)), q < lo → l[q]? = some x → x.1 < n) ∧ (∀ (q : Nat) (x : Int × (Bool × ByteArray)), hi ≤ q → l[q]? = some x → n ≤ x.1) ∧ h = h', l.length, Fin.of ⟨0, l.length, rfl, rfl, rfl, by omega, Nat.le_refl _, fun q x hq => by omega, fun q x hq hx => by have := (List.getElem?_eq_some_iff.1 hx).1; omega, rfl⟩, ?_⟩
  rintro _ _ _ _ ⟨lo, hi, rfl, rfl, rfl, hlh, hhl, hlo, hhi, rfl⟩
  refine ⟨fun hlt => ⟨by decide, ?_⟩, fun hge => Fin.of ?_⟩
  · have hmid : IntKind.wrap .i64 (Int.fdiv (IntKind.wrap .u64 (IntKind.wrap .i64 (((lo : Nat) : Int) + ((hi : Nat) : Int)))) (2 ^ (min (Int.toNat (1)) (IntKind.bits .u64)))) = (((lo + hi) / 2 : Nat) : Int) := by
      have e1 : IntKind.wrap .i64 (((lo : Nat) : Int) + ((hi : Nat) : Int)) = ((lo + hi : Nat) : Int) := by rw [w64 (by omega) (by omega)]; omega
      have e2 : IntKind.wrap .u64 ((lo + hi : Nat) : Int) = ((lo + hi : Nat) : Int) := by rw [wu64]; omega
      rw [e1, e2, two1, Int.fdiv_eq_ediv_of_nonneg _ (by decide), w64 (by omega) (by omega)]; omega
    rw [hmid]
    have hml : (lo + hi) / 2 < l.length := by omega
    have hx := List.getElem?_eq_getElem hml
    have hb : lo ≤ (lo + hi) / 2 ∧ (lo + hi) / 2 < hi := by omega
    generalize (lo + hi) / 2 = mid at hml hx hb
    generalize l[mid] = x at hx
    obtain ⟨A, e1, _, e4⟩ := hr mid x hx
    have hw : IntKind.wrap .i64 (((mid : Nat) : Int) + 1) = ((mid + 1 : Nat) : Int) := by rw [w64 (by omega) (by omega)]; omega
    rw [hw]
    refine ⟨A, e1, by omega, by omega, x.1, x.2.1, x.2.2, e4, ?_⟩
    refine CallV.func TG.draft_by_file_File (by_file_File_wp (x := x) ⟨fun h1 => Fin.of ⟨hi - (mid + 1), by omega, mid + 1, hi, rfl, rfl, rfl, by omega, hhl, fun q y hq hy => ?_, hhi, rfl⟩, fun h1 => Fin.of ⟨mid - lo, by omega, lo, mid, rfl, rfl, rfl, by omega, by omega, hlo, fun q y hq hy => ?_, rfl⟩⟩)
    · have hx1 : x.1 < n := by
        by_cases h2 : x.1 < n
        · exact h2
        · rw [if_neg h2] at h1; split at h1 <;> omega
      by_cases h : q = mid
      · subst h; rw [hx] at hy; cases hy; exact hx1
      · have := s.get (show q < mid by omega) hy hx; omega
    · have hx1 : n ≤ x.1 := by
        by_cases h2 : x.1 < n
        · rw [if_pos h2] at h1; omega
        · omega
      by_cases h : q = mid
      · subst h; rw [hx] at hy; cases hy; exact hx1
      · have := s.get (show mid < q by omega) hx hy; omega
  · have : lo = hi := by omega
    subst this
    have K : PosD l n lo := ⟨hhl, hlo, hhi⟩
    have hq := hQ lo K
    unfold S_slices_BinarySearchFunc_s_draft_entry_file_File_draft_entry_file_File_int_J1
    refine ⟨fun hlt2 => ?_, fun hge2 => Fin.of ?_⟩
    · have hml : lo < l.length := by omega
      have hx := List.getElem?_eq_getElem hml
      generalize l[lo] = x at hx
      obtain ⟨A, e1, _, e4⟩ := hr lo x hx
      have hf : foundD l lo n = (x.1 == n) := by rw [foundD, hx]
      rw [hf] at hq
      refine ⟨A, e1, by omega, by omega, x.1, x.2.1, x.2.2, e4, ?_⟩
      refine CallV.func TG.draft_by_file_File (by_file_File_wp (x := x) (Fin.of ?_))
      have : (((if x.1 < n then -1 else if n < x.1 then 1 else 0 : Int)) == (0 : Int)) = (x.1 == n) := by
        rw [Bool.eq_iff_iff, beq_iff_eq, beq_iff_eq]
        split
        · omega
        · split <;> omega
      rw [this]; exact hq
    · have hf : foundD l lo n = false := by rw [foundD, List.getElem?_eq_none (by omega)]
      rw [hf] at hq; exact hq
theorem DRow_file_File.len (R : DRow_file_File r (.slice a m c) l) : m = l.length := (Row.rd (B := fun _ => none) R entC_file_File_len (by omega)).1
theorem find_file_File_wp {n : Int} {Q : Int → Bool → Heap → Prop} (E : Keep B h0 L h) (A : DAt_file_File L i k v r) (R : DRow_file_File r v l) (s : SortD l) (hl : l.length ≤ 1000000) (hQ : ∀ p, PosD l n p → Q (p : Nat) (foundD l p n) h) : C_draft_Draft_file_File_find B (some ⟨k, 0, none⟩) n h Q := by
  refine C_draft_Draft_file_File_find.of ?_
  unfold S_draft_Draft_file_File_find
  obtain ⟨a, m, c, rfl⟩ := Row.slice R
  obtain ⟨rfl, hrd⟩ := Row.rd (B := B) R entC_file_File_len (by omega)
  exact ⟨_, rfl, .inl ⟨a, _, c, E.cell i A.p rfl, bsearch_file_File_wp (hrd h fun k o e => E.at (i + 1) (by rw [A.q, e])) s hl fun p K => Fin.of (hQ p K)⟩⟩
end
end Go.Proofs.YtgldgabefiialaaGreat.H
namespace Go.Proofs.YtgldgabefiialaaGreat.H
open Go
set_option linter.unusedVariables false
set_option maxRecDepth 100000
section
variable {P : Program} {B : RO} {h0 h h' : Heap} {L : List (Option (Nat × AObj))} {r : Option (Nat × AObj)} {e : TypeId} {sz : Nat} {xs : List Value} {a : Option Addr} {m c : Nat}
theorem Keep.picks (E : Keep B h0 L h) (is : List Nat) (hn : is.Nodup) : Keep B h0 (is.map fun i => L.getD i none) h := by
  refine E.remap (fun j => is.getD j 0) (fun j y hj => ?_) (fun i j hi hj e => ?_)
  · rw [List.getElem?_map] at hj
    obtain ⟨i, hi, e⟩ := Option.map_eq_some_iff.1 hj
    have : is.getD j 0 = i := by rw [List.getD_eq_getElem?_getD, hi]; rfl
    rw [this]
    rw [List.getD_eq_getElem?_getD] at e
    cases hL : L[i]? with
    | none => rw [hL] at e; cases e
    | some z => rw [hL] at e; exact congrArg some e
  · rw [List.length_map] at hi hj
    rw [List.getD_eq_getElem?_getD, List.getD_eq_getElem?_getD, List.getElem?_eq_getElem hi, List.getElem?_eq_getElem hj] at e
    have e : is[i] = is[j] := e
    have hp := List.pairwise_iff_getElem.1 hn
    rcases Nat.lt_trichotomy i j with h | h | h
    · exact absurd e (hp i j hi hj h)
    · exact h
    · exact absurd e.symm (hp j i hj hi h)
theorem Keep.dropMid {M N : List (Option (Nat × AObj))} (E : Keep B h0 (L ++ (M ++ N)) h) : Keep B h0 (L ++ N) h := by
  refine E.remap (fun i => if i < L.length then i else i + M.length) (fun i z hi => ?_) (fun i j hi hj e => ?_)
  · by_cases h1 : i < L.length
    · rw [List.getElem?_append_left h1] at hi
      rw [if_pos h1, List.getElem?_append_left h1]; exact hi
    · rw [List.getElem?_append_right (by omega)] at hi
      rw [if_neg h1, List.getElem?_append_right (by omega), List.getElem?_append_right (by omega)]
      rw [show i + M.length - L.length - M.length = i - L.length by omega]; exact hi
  · have e : (if i < L.length then i else i + M.length) = (if j < L.length then j else j + M.length) := e
    split at e <;> split at e <;> omega
end
end Go.Proofs.YtgldgabefiialaaGreat.H
namespace Go.Proofs.YtgldgabefiialaaGreat.H
open Go Go.RowKit
set_option linter.unusedVariables false
set_option maxRecDepth 100000
abbrev DFL := List (Int × (Bool × ByteArray))
section
variable {B : RO} {h0 h h' : Heap} {L : List (Option (Nat × AObj))} {r : Option (Nat × AObj)} {i k k3 : Nat} {a : Option Addr} {m c : Nat} {v : Value} {l : DFL} {n : Int}
theorem ins_file_File_eq {a5 : Option Addr} {n n6 c7 : Nat} {i : Int} {Q : Option Addr → Nat → Nat → Heap → Prop} : S_slices_Insert_s_draft_entry_file_File_draft_entry_file_File B a n c i a5 n6 c7 h Q = InsP PG TY.s_draft_entry_file_File 3 TY.bool TY.int (fun B => C_slices_rotateRight_draft_entry_file_File B) B a n c i a5 n6 c7 h Q := by
  unfold S_slices_Insert_s_draft_entry_file_File_draft_entry_file_File InsP
  congr
theorem put_file_File_wp {n : Int} {x : Bool × ByteArray} {Q : Bool → Heap → Prop} (E : Keep B h0 L h) (A : DAt_file_File L i k v r) (R : DRow_file_File r v l) (s : SortD l) (hl : l.length ≤ 100000) (hQ : ∀ v' r' h', DRow_file_File r' v' (insD l n x) → Keep B h0 ((L.set i (some (k, drO_file_File v'))).set (i + 1) r') h' → Q true h') : C_draft_Draft_file_File_Put B (some ⟨k, 0, none⟩) n x.1 x.2 h Q := by
  refine C_draft_Draft_file_File_Put.of ?_
  unfold S_draft_Draft_file_File_Put
  have hil : i < L.length := (List.getElem?_eq_some_iff.1 A.p).1
  have hil1 : i + 1 < L.length := (List.getElem?_eq_some_iff.1 A.q).1
  intro k6 a6 b6 h7 e7
  have E0 : Keep B h0 (L ++ [some (k6, .vec TY.file_File (plains [.bool x.1, .string x.2]) 2)]) h7 := E.made a6 b6 e7
  have A0 : DAt_file_File (L ++ [some (k6, .vec TY.file_File (plains [.bool x.1, .string x.2]) 2)]) i k v r := ⟨up_app _ A.p, up_app _ A.q⟩
  have c6 : ∀ {h1 : Heap}, h1 k6 = some (.vec TY.file_File (plains [.bool x.1, .string x.2]) 2) → CellsAt B h1 ⟨k6, 0, none⟩ 0 [.bool x.1, .string x.2] := fun g => ⟨cellH_vec g rfl, cellH_vec g rfl, trivial⟩
  refine ⟨fun e => (by cases e), fun _ => find_file_File_wp E0 A0 R s (by omega) fun p K => ⟨fun hf => ?_, fun hf => ?_⟩⟩
  · obtain ⟨y, hy, rfl⟩ := foundD_some hf
    have hpl := (List.getElem?_eq_some_iff.1 hy).1
    have hi := insD_old (v := x) K hf
    obtain ⟨a, m, c, rfl⟩ := Row.slice R
    have hm := DRow_file_File.len R
    subst hm
    have hfl := flatMap_length entC_file_File_len l
    rcases R with ⟨_, e1, e2⟩ | ⟨kr, m', c', nn, js, e0, e1, e3, e4, e5⟩
    · rw [e2] at hfl; simp at hfl; omega
    · cases e1
      have hq := A0.q
      rw [e0] at hq
      have hsp := flatMap_splitR (cells := entC_file_File) l p hpl
      have hly : l[p] = y := by rw [List.getElem?_eq_getElem hpl] at hy; exact Option.some.inj hy
      have htl : ((l.take p).flatMap entC_file_File).length = p * 3 := by rw [flatMap_length entC_file_File_len, List.length_take]; omega
      have hle : (l.length : Nat) * 3 ≤ nn := Nat.le_trans (Nat.mul_le_mul_right _ e4) e5
      obtain ⟨h32, st, E2⟩ := E0.storesV (i + 1) (k := kr) (nn := nn) (t := TY.draft_entry_file_File) (fs := (l.take p).flatMap entC_file_File ++ [.int .i64 y.1]) (gs := [.bool y.2.1, .string y.2.2] ++ ((l.drop (p + 1)).flatMap entC_file_File ++ js)) (by
        rw [hq, hsp, hly]; simp [entC_file_File, List.append_assoc]) [.bool x.1, .string x.2] (by simp [isOne]) (p * 3 + 1) (by rw [List.length_append, htl]; rfl) (by simp; omega)
      refine ⟨_, rfl, _, _, _, E0.cell i A0.p rfl, _, _, c6 E0.last, _, rfl, by omega, by omega, h32, ?_, ?_⟩
      · rw [addr_more, addr_more, Nat.zero_add, Int.toNat_natCast]; exact st
      · have hs : L.set i (some (k, drO_file_File (.slice (some ⟨kr, 0, none⟩) l.length c))) = L := by
          obtain ⟨hl, e⟩ := List.getElem?_eq_some_iff.1 A.p
          rw [← e]; exact List.set_getElem_self hl
        rw [List.set_append_left _ _ hil1] at E2
        refine Fin.of (hQ (.slice (some ⟨kr, 0, none⟩) l.length c) _ h32 (.inr ⟨kr, l.length, c, nn, js, rfl, rfl, ?_, e4, e5⟩) ?_)
        · rw [hi, flatMap_length entC_file_File_len, List.length_set]
        · rw [hs, hi, flatMap_setR _ _ _ hpl]
          refine cast ?_ E2.pop
          congr 6
          simp [entC_file_File, List.append_assoc]
  · have hi := insD_new (v := x) K hf
    obtain ⟨a, m, c, rfl⟩ := Row.slice R
    have hm := DRow_file_File.len R
    subst hm
    have hfl := flatMap_length entC_file_File_len l
    refine ⟨_, rfl, _, _, _, E0.cell i A0.p rfl, _, _, c6 E0.last, fun k15 a15 b15 h16 e16 => ?_⟩
    have E1 := E0.made a15 b15 e16
    have A1 : DAt_file_File (L ++ [some (k6, .vec TY.file_File (plains [.bool x.1, .string x.2]) 2)] ++ [some (k15, .vec TY.draft_entry_file_File (plains (entC_file_File (n, x))) 3)]) i k (.slice a l.length c) r := ⟨up_app _ A0.p, up_app _ A0.q⟩
    refine ⟨E1.cell i A1.p rfl, c6 (E1.at L.length (up_app _ (by rw [List.getElem?_append_right (Nat.le_refl _), Nat.sub_self]; rfl))), ?_⟩
    refine C_slices_Insert_s_draft_entry_file_File_draft_entry_file_File.of ?_
    rw [ins_file_File_eq]
    refine insP_wp TK.slc_ent_file_File TK.zero_ent_file_File rfl (by omega) (by omega) TK.sl_ent_file_File TK.int_ent_file_File (by decide) E1 (i + 1) A1.q R ?_ (L.length + 1) (kx := k15) (ys := entC_file_File (n, x)) (by rw [List.getElem?_append_right (by simp), List.length_append]; simp; rfl) rfl (entC_file_File_one _) (by omega) p K.le (by rw [hfl]; omega) ?_
    · intro y hy
      obtain ⟨z, _, hz⟩ := List.mem_flatMap.1 hy
      exact entC_file_File_one z y hz
    · intro a' c' r' h17 R' E2
      rw [List.append_assoc, List.set_append_left _ _ hil1] at E2
      have hp2 : (L.set (i + 1) r' ++ ([some (k6, .vec TY.file_File (plains [.bool x.1, .string x.2]) 2)] ++ [some (k15, .vec TY.draft_entry_file_File (plains (entC_file_File (n, x))) 3)]))[i]? = some (some (k, drO_file_File (.slice a l.length c))) := up_app _ (by rw [List.getElem?_set_ne (by omega)]; exact A.p)
      have g6 := E2.at L.length (by rw [List.getElem?_append_right (by simp), List.length_set, Nat.sub_self]; rfl)
      refine ⟨E2.cell i hp2 rfl, c6 g6, ?_⟩
      have E3 := E2.popL
      have hp3 : (L.set (i + 1) r')[i]? = some (some (k, drO_file_File (.slice a l.length c))) := by rw [List.getElem?_set_ne (by omega)]; exact A.p
      obtain ⟨es, E4⟩ := E3.store i 0 (.slice a' (l.length + 1) c') hp3 rfl
      refine ⟨_, rfl, _, es, Fin.of (hQ (.slice a' (l.length + 1) c') r' _ ?_ ?_)⟩
      · rw [hi]
        unfold DRow_file_File
        have e1 : (l.flatMap entC_file_File).take (p * 3) = (l.take p).flatMap entC_file_File := take_flatMap entC_file_File_len l p
        have e2 : (l.flatMap entC_file_File).drop (p * 3) = (l.drop p).flatMap entC_file_File := by
          have h2 : l.flatMap entC_file_File = (l.take p).flatMap entC_file_File ++ (l.drop p).flatMap entC_file_File := by rw [← List.flatMap_append, List.take_append_drop]
          rw [h2, List.drop_left']
          rw [flatMap_length entC_file_File_len, List.length_take, Nat.min_eq_left K.le]
        rw [e1, e2] at R'
        rw [List.flatMap_append, List.flatMap_cons, ← List.append_assoc]
        exact R'
      · rw [List.set_comm _ _ (by omega)] at E4
        exact E4
def fdallF (k3 : Nat) : Value := Value.func (.func FN.draft_Draft_file_File_All_1) #[] #[(Value.pointer (some ⟨k3, 0, none⟩))]
def encDF (x : Int × (Bool × ByteArray)) : List Value := [.int .i64 x.1, .agg #[.bool x.2.1, .string x.2.2]]
def fdG (k3 k : Nat) (v : Value) (r : Option (Nat × AObj)) (h : Heap) : Prop :=
  h k3 = some (.vec TY.p_draft_Draft_file_File [.plain (.pointer (some ⟨k, 0, none⟩))] 1) ∧ h k = some (drO_file_File v) ∧ ∀ k o, r = some (k, o) → h k = some o
theorem fdG_ins {k3 kk : Nat} {v : Value} {r : Option (Nat × AObj)} : Ins (fdG k3 kk v r) := by
  rintro h k o hk ⟨g1, g2, g3⟩
  exact ⟨Heap.get_new hk g1, Heap.get_new hk g2, fun k' o' e => Heap.get_new hk (g3 k' o' e)⟩
theorem fdall_wp {p : Option Addr} {Q : Value → Heap → Prop} (hQ : ∀ k, h k = none → B k = none → Q (fdallF k) (h.set k (.vec TY.p_draft_Draft_file_File [.plain (.pointer p)] 1))) : C_draft_Draft_file_File_All B p h Q := by
  refine C_draft_Draft_file_File_All.of ?_
  unfold S_draft_Draft_file_File_All
  intro k a1 b1 h4 e4
  subst e4
  exact Fin.of (hQ k a1 b1)
theorem fdall_iter (R : DRow_file_File r v l) (hlen : l.length ≤ 100000) : Iter PG B (fdallF k3) (l.map encDF) (fdG k3 k v r) := by
  refine ⟨_, _, _, rfl, TG.draft_Draft_file_File_All_1, fun y J X h hy hG h0 hcall => ?_⟩
  have main : C_draft_Draft_file_File_All_1 B y ⟨k3, 0, none⟩ h (fun h' => Fin B h' (fun h'' => J (l.map encDF).length h'' ∨ X h'')) := by
    refine C_draft_Draft_file_File_All_1.of ?_
    unfold S_draft_Draft_file_File_All_1
    obtain ⟨a, m, c, rfl⟩ := Row.slice R
    obtain ⟨rfl, hrd⟩ := Row.rd (B := B) R entC_file_File_len (by omega)
    obtain ⟨g1, g2, g3⟩ := hG 0 h h0
    refine ⟨_, cellH_vec g1 rfl, fun e => (by cases e), fun _ => ⟨_, cellH_vec g1 rfl, _, rfl, .inl ⟨a, _, c, cellH_vec g2 rfl, ?_⟩⟩⟩
    refine ⟨fun i m' h' => ∃ j : Nat, j ≤ l.length ∧ i = j ∧ m' = l.length - j ∧ J j h', l.length, Fin.of ⟨0, by omega, rfl, by omega, h0⟩, ?_⟩
    rintro _ _ h13 ⟨j, hj, rfl, rfl, hJ⟩
    obtain ⟨g1, g2, g3⟩ := hG j h13 hJ
    refine ⟨fun hlt => ?_, fun hge => Fin.of ?_⟩
    · have hj' : j < l.length := by omega
      have hx := List.getElem?_eq_getElem hj'
      generalize l[j] = x at hx
      obtain ⟨A, e, _, q⟩ := hrd h13 g3 j _ hx
      refine ⟨A, e, by omega, hlt, x.1, x.2.1, x.2.2, q, fun k24 a24 b24 h25 e25 => ?_⟩
      obtain ⟨g25, l25, -⟩ := Heap.made a24 e25
      refine ⟨_, stores_whole g25 rfl (by simp) (by simp [isOne]) (by simp), ?_⟩
      generalize e26 : h25.set k24 _ = h26
      obtain ⟨g26, -, -⟩ := Heap.put e26
      refine ⟨_, cellH_vec g26 rfl, _, _, ⟨cellH_vec g26 rfl, cellH_vec g26 rfl, trivial⟩, ?_⟩
      have w : Wk B h13 h26 := by
        rw [← e26, e25, Heap.set_set]; exact Wk.new a24 b24
      have hc := hcall j h13 (encDF x) (by rw [List.getElem?_map, hx]; rfl) hJ
      refine CallV.mono ?_ (hc.weaken w)
      rintro v h27 ⟨h28, t1, h29, t2, hor⟩
      rcases hor with ⟨rfl, hJ'⟩ | ⟨rfl, hX⟩
      · refine ⟨true, rfl, fun _ => ⟨h29, t1.trans t2, l.length - (j + 1), by omega, j + 1, by omega, ?_, rfl, hJ'⟩, fun e => by cases e⟩
        rw [w64 (by omega) (by omega)]; omega
      · exact ⟨false, rfl, fun e => (by cases e), fun _ => ⟨h29, t1.trans t2, Fin.of (.inr hX)⟩⟩
    · have : j = l.length := by omega
      subst this
      refine Fin.of (.inl ?_)
      rw [List.length_map]
      exact hJ
  exact Spec.mono main fun v h' q => q.2
end
end Go.Proofs.YtgldgabefiialaaGreat.H
namespace Go.Proofs.YtgldgabefiialaaGreat.H
open Go
set_option linter.unusedVariables false
set_option maxRecDepth 100000
abbrev FileS := Bool × ByteArray
def slotF (x : FileS × Int) : List Value := [.bool x.1.1, .string x.1.2, .int .i64 x.2]
theorem slotF_len (x : FileS × Int) : (slotF x).length = 3 := rfl
theorem slotF_one (x : FileS × Int) : ∀ y ∈ slotF x, isOne y = true := fun y hy => by simp [slotF] at hy; rcases hy with rfl | rfl | rfl <;> rfl
theorem TK.slc_fslot : slcB PG TY.s_cell_slot_file_File = some (TY.cell_slot_file_File, 3, 32) := by kernel_rfl
theorem TK.zero_fslot : zeroB PG TY.cell_slot_file_File = some [.bool false, .string ByteArray.empty, .int .i64 0] := by kernel_rfl
theorem TK.sl_fslot : slT PG TY.s_cell_slot_file_File = true := by kernel_rfl
def FRow (r : Option (Nat × AObj)) (v : Value) (l : List (FileS × Int)) : Prop := Row r v TY.cell_slot_file_File 3 (l.flatMap slotF)
def frO (v : Value) : AObj := .vec TY.cell_Row_file_File (plains [v]) 1
def tomO (kR : Nat) : AObj := .vec TY.tome_Tome (plains [.pointer (some ⟨kR, 0, none⟩)]) 1
def fileAt (l : List (FileS × Int)) (i : Int) : FileS × Int := if 0 ≤ i then (l[i.toNat]?).getD ((false, ByteArray.empty), 0) else ((false, ByteArray.empty), 0)
theorem fileAt_in {l : List (FileS × Int)} {i : Int} (h0 : 0 ≤ i) (h1 : i.toNat < l.length) : fileAt l i = l[i.toNat] := by
  rw [fileAt, if_pos h0, List.getElem?_eq_getElem h1]; rfl
theorem fileAt_out {l : List (FileS × Int)} {i : Int} (hn : ¬ (0 ≤ i ∧ i < (l.length : Int))) : fileAt l i = ((false, ByteArray.empty), 0) := by
  unfold fileAt
  split
  · rw [List.getElem?_eq_none (by omega)]; rfl
  · rfl
section
variable {B : RO} {h0 h h' : Heap} {L : List (Option (Nat × AObj))} {r : Option (Nat × AObj)} {i kT kR : Nat} {v : Value} {l : List (FileS × Int)}
theorem fnew_wp {n : Int} {b : Bool} {s : ByteArray} {Q : Option Addr → Heap → Prop} (hn : n ≤ 1000)
    (hQ : ∀ k v r h', FRow r v (List.replicate n.toNat ((b, s), 0)) → Keep B h [some (k, frO v), r] h' → Q (some ⟨k, 0, none⟩) h') : C_cell_New_file_File B n b s h Q := by
  refine C_cell_New_file_File.of ?_
  unfold S_cell_New_file_File
  intro k5 a5 b5 h6 e6 k7 a7 b7 h8 e8
  have E := ((Keep.nil B h).made a5 b5 e6).made a7 b7 e8
  refine ⟨fun i m h' => ∃ (j : Nat) (v : Value) (r : Option (Nat × AObj)), (j : Int) ≤ max n 0 ∧ i = j ∧ m = n.toNat - j ∧ FRow r v (List.replicate j ((b, s), 0)) ∧ Keep B h [some (k5, .vec TY.file_File (plains [.bool b, .string s]) 2), some (k7, frO v), r] h', n.toNat, Fin.of ⟨0, _, none, by omega, rfl, by omega, Row.nil _ _, E.gap⟩, ?_⟩
  clear E e8 e6
  rintro _ _ h10 ⟨j, v, r, hj, rfl, rfl, R, E⟩
  refine ⟨fun hlt => ?_, fun hge => Fin.of ?_⟩
  · obtain ⟨a20, n21, c22, rfl⟩ := Row.slice R
    have hfl := flatMap_length slotF_len (List.replicate j ((b, s), (0 : Int)))
    rw [List.length_replicate] at hfl
    refine ⟨a20, n21, c22, E.cell 1 rfl rfl, _, _, ⟨E.cell 0 rfl rfl, E.cell 0 rfl rfl, trivial⟩, fun k28 a28 b28 h29 e29 => ?_⟩
    have E1 := E.made a28 b28 e29
    refine ⟨E1.cell 1 rfl rfl, ⟨E1.cell 0 rfl rfl, E1.cell 0 rfl rfl, trivial⟩, ?_⟩
    refine E.push1 2 rfl R TK.slc_fslot TK.zero_fslot rfl (by omega) (by omega) TK.sl_fslot rfl (by simp [isOne]) (by rw [hfl]; simp; omega) a28 b28 e29 fun a' m' c' r' h' R' E' => ?_
    obtain ⟨es, E2⟩ := E'.store 1 0 (.slice a' m' c') rfl rfl
    refine ⟨a', m', c', rfl, E'.cell 1 rfl rfl, ⟨E'.cell 0 rfl rfl, E'.cell 0 rfl rfl, trivial⟩, _, es, Fin.of ⟨n.toNat - (j + 1), by omega, j + 1, _, r', by omega, ?_, rfl, ?_, E2⟩⟩
    · rw [w64 (by omega) (by omega)]; omega
    · unfold FRow
      rw [List.replicate_succ', List.flatMap_append]
      exact R'
  · have : j = n.toNat := by omega
    subst this
    exact hQ _ _ _ _ R (E.sub2 1 2 rfl rfl)
structure FAt (L : List (Option (Nat × AObj))) (i : Nat) (kR : Nat) (v : Value) (r : Option (Nat × AObj)) : Prop where
  p : L[i]? = some (some (kR, frO v))
  q : L[i + 1]? = some r
theorem fis_wp {n : Int} {Q : Bool → Heap → Prop} (E : Keep B h0 L h) (A : FAt L i kR v r) (R : FRow r v l) (hQ : Q (decide (0 ≤ n ∧ n < (l.length : Int))) h) : C_cell_Row_file_File_is B (some ⟨kR, 0, none⟩) n h Q := by
  refine C_cell_Row_file_File_is.of ?_
  unfold S_cell_Row_file_File_is
  obtain ⟨a, m, c, rfl⟩ := Row.slice R
  obtain ⟨rfl, -⟩ := Row.rd (B := B) R slotF_len (by omega)
  refine ⟨fun e => (by cases e), fun _ => ⟨fun h1 => ⟨_, rfl, .inl ⟨a, _, c, E.cell i A.p rfl, Fin.of ?_⟩⟩, fun h1 => Fin.of ?_⟩⟩
  · have : decide (n < (l.length : Int)) = decide (0 ≤ n ∧ n < (l.length : Int)) := by rw [decide_eq_decide]; exact ⟨fun x => ⟨by omega, x⟩, fun x => x.2⟩
    rw [this]; exact hQ
  · rw [decide_eq_false (by omega)] at hQ; exact hQ
theorem fset_wp {n ver : Int} {b : Bool} {s : ByteArray} {Q : Bool → Heap → Prop} (E : Keep B h0 L h) (A : FAt L i kR v r) (R : FRow r v l)
    (hF : ¬ (0 ≤ n ∧ n < (l.length : Int)) → ∀ h', Keep B h0 L h' → Q false h') (hT : 0 ≤ n → n.toNat < l.length → ∀ r' h', FRow r' v (l.set n.toNat ((b, s), ver)) → Keep B h0 (L.set (i + 1) r') h' → Q true h') : C_cell_Row_file_File_Set B (some ⟨kR, 0, none⟩) n b s ver h Q := by
  refine C_cell_Row_file_File_Set.of ?_
  unfold S_cell_Row_file_File_Set
  intro k7 a7 b7 h8 e8
  have E1 := E.made a7 b7 e8
  let o7 : AObj := .vec TY.file_File (plains [.bool b, .string s]) 2
  have A1 : FAt (L ++ [some (k7, o7)]) i kR v r := ⟨up_app _ A.p, up_app _ A.q⟩
  have E1 : Keep B h0 (L ++ [some (k7, o7)]) h8 := E1
  refine fis_wp E1 A1 R ⟨fun hD => ?_, fun hD => Fin.of (hF (by simpa using hD) _ E1.pop)⟩
  rw [decide_eq_true_eq] at hD
  obtain ⟨a, m, c, rfl⟩ := Row.slice R
  obtain ⟨rfl, -⟩ := Row.rd (B := B) R slotF_len (by omega)
  obtain ⟨A18, h20, r', e1, st, R', E2⟩ := E1.rowSet (i + 1) A1.q R slotF_len (by omega) n.toNat (by omega) ((b, s), ver) (slotF_one _)
  have g := E1.last
  refine ⟨_, rfl, a, _, c, E1.cell i A1.p rfl, _, _, ⟨cellH_vec g rfl, cellH_vec g rfl, trivial⟩, A18, e1, hD.1, hD.2, h20, st, Fin.of (hT hD.1 (by omega) r' h20 R' ?_)⟩
  rw [List.set_append_left _ _ (List.getElem?_eq_some_iff.1 A.q).1] at E2
  exact E2.pop
theorem fget_wp {n : Int} {Q : Bool → ByteArray → Int → Heap → Prop} (E : Keep B h0 L h) (A : FAt L i kR v r) (R : FRow r v l)
    (hQ : ∀ h', Keep B h0 L h' → Q (fileAt l n).1.1 (fileAt l n).1.2 (fileAt l n).2 h') : C_cell_Row_file_File_Get B (some ⟨kR, 0, none⟩) n h Q := by
  refine C_cell_Row_file_File_Get.of ?_
  unfold S_cell_Row_file_File_Get
  intro k6 a6 b6 h7 e7
  have E1 := E.made a6 b6 e7
  have g := E1.last
  have A1 : FAt (L ++ [some (k6, AObj.vec TY.file_File (plains [.bool false, .string ByteArray.empty]) 2)]) i kR v r := ⟨up_app _ A.p, up_app _ A.q⟩
  refine fis_wp E1 A1 R ⟨fun hD => ?_, fun hD => ?_⟩
  · rw [decide_eq_true_eq] at hD
    obtain ⟨a, m, c, rfl⟩ := Row.slice R
    obtain ⟨rfl, hrd⟩ := Row.rd (B := B) R slotF_len (by omega)
    have hi : n.toNat < l.length := by omega
    obtain ⟨A27, e1, _, q1, q2, q3, _⟩ := hrd h7 (fun k o e => E1.at (i + 1) (by rw [A1.q, e])) n.toNat _ (List.getElem?_eq_getElem hi)
    have hf := hQ
    rw [fileAt_in hD.1 hi] at hf
    have q3' : cellH B h7 (Addr.add (Addr.add A27 (n.toNat * 3)) 2) = some (.int .i64 l[n.toNat].2) := q3
    refine ⟨_, rfl, a, _, c, E1.cell i A1.p rfl, A27, e1, hD.1, hD.2, _, _, ⟨q1, q2, trivial⟩, _, rfl, a, _, c, E1.cell i A1.p rfl, A27, e1, hD.1, hD.2, _, q3', ?_⟩
    refine ⟨_, stores_whole g rfl (by simp) (by simp [isOne]) (by simp), ?_⟩
    have E2 := E1.putLast (.vec TY.file_File (plains [.bool l[n.toNat].1.1, .string l[n.toNat].1.2]) 2)
    have A2 : FAt (L ++ [some (k6, AObj.vec TY.file_File (plains [.bool l[n.toNat].1.1, .string l[n.toNat].1.2]) 2)]) i kR (.slice a l.length c) r := ⟨up_app _ A.p, up_app _ A.q⟩
    obtain ⟨A', e1', _, t1, t2, t3, _⟩ := hrd _ (fun k o e => E2.at (i + 1) (by rw [A2.q, e])) n.toNat _ (List.getElem?_eq_getElem hi)
    rw [e1] at e1'
    cases e1'
    refine ⟨E2.cell i A2.p rfl, ⟨t1, t2, trivial⟩, E2.cell i A2.p rfl, t3, _, _, ⟨cellH_vec E2.last rfl, cellH_vec E2.last rfl, trivial⟩, Fin.of (hf _ E2.pop)⟩
  · rw [decide_eq_false_iff_not] at hD
    rw [fileAt_out hD] at hQ
    intro k10 a10 b10 h11 e11
    have E2 := E1.made a10 b10 e11
    have g2 := E2.last
    refine ⟨_, _, ⟨cellH_vec g2 rfl, cellH_vec g2 rfl, trivial⟩, ?_⟩
    have g6 : h11 k6 = some (.vec TY.file_File (plains [.bool false, .string ByteArray.empty]) 2) := E2.at L.length (by rw [List.append_assoc, List.getElem?_append_right (Nat.le_refl _), Nat.sub_self]; rfl)
    refine ⟨_, stores_whole g6 rfl (by simp) (by simp [isOne]) (by simp), ?_⟩
    have E3 : Keep B h0 L (h11.set k6 (.vec TY.file_File (plains [.bool false, .string ByteArray.empty]) 2)) := by
      rw [Heap.set_self _ _ _ g6]
      exact E2.pop.pop
    exact ⟨_, _, ⟨cellH_vec (Heap.set_same _ _ _) rfl, cellH_vec (Heap.set_same _ _ _) rfl, trivial⟩, Fin.of (hQ _ E3)⟩
structure TomeAt (L : List (Option (Nat × AObj))) (i kT kR : Nat) (v : Value) (r : Option (Nat × AObj)) : Prop where
  p : L[i]? = some (some (kT, tomO kR))
  f : FAt L (i + 1) kR v r
def tomE (kT kR : Nat) (v : Value) (r : Option (Nat × AObj)) : List (Option (Nat × AObj)) := [some (kT, tomO kR), some (kR, frO v), r]
def goodF (b : Bool) (s : ByteArray) : Bool := decide (s.size ≤ 32) && (b || decide (s = ByteArray.mk #[]))
theorem goodF_wp {b : Bool} {s : ByteArray} {Q : Bool → Heap → Prop} (hQ : ∀ h', Wk B h h' → Q (goodF b s) h') : C_file_Good B b s h Q := by
  refine C_file_Good.of ?_
  unfold S_file_Good
  intro k4 a4 b4 h5 e5
  have w : Wk B h h5 := by rw [e5]; exact Wk.new a4 b4
  have g : h5 k4 = some (.vec TY.file_File (plains [.bool b, .string s]) 2) := by rw [e5]; exact Heap.set_same _ _ _
  have hq := hQ h5 w
  unfold goodF at hq
  refine ⟨_, cellH_vec g rfl, fun h1 => ⟨_, cellH_vec g rfl, fun hb => Fin.of ?_, fun hb => ⟨_, cellH_vec g rfl, Fin.of ?_⟩⟩, fun h1 => Fin.of ?_⟩
  · subst hb
    rw [decide_eq_true (by omega)] at hq; exact hq
  · subst hb
    rw [decide_eq_true (by omega)] at hq; exact hq
  · rw [decide_eq_false (by omega)] at hq; exact hq
def setB (l : List (FileS × Int)) (n : Int) (b : Bool) (s : ByteArray) : Bool := goodF b s && decide (0 ≤ n ∧ n < (l.length : Int))
def setF (l : List (FileS × Int)) (n : Int) (b : Bool) (s : ByteArray) (ver : Int) : List (FileS × Int) := if setB l n b s = true then l.set n.toNat ((b, s), ver) else l
theorem setF_len (l : List (FileS × Int)) (n : Int) (b : Bool) (s : ByteArray) (ver : Int) : (setF l n b s ver).length = l.length := by unfold setF; split <;> simp
theorem tset_wp {n ver : Int} {b : Bool} {s : ByteArray} {Q : Bool → Heap → Prop} (E : Keep B h0 L h) (A : TomeAt L i kT kR v r) (R : FRow r v l)
    (hQ : ∀ r' h', FRow r' v (setF l n b s ver) → Keep B h0 (L.set (i + 2) r') h' → Q (setB l n b s) h') : C_tome_Tome_Set B (some ⟨kT, 0, none⟩) n b s ver h Q := by
  refine C_tome_Tome_Set.of ?_
  unfold S_tome_Tome_Set
  intro k7 a7 b7 h8 e8
  have E1 := E.made a7 b7 e8
  have g7 := E1.last
  have no : setB l n b s = false → ∀ h', Keep B h0 L h' → Q false h' := fun hn h' E' => by
    have h1 : setF l n b s ver = l := by rw [setF, hn]; rfl
    have h2 : L.set (i + 2) r = L := by
      obtain ⟨hl, rfl⟩ := List.getElem?_eq_some_iff.1 A.f.q
      exact List.set_getElem_self hl
    have := hQ r h' (by rw [h1]; exact R) (by rw [h2]; exact E')
    rw [hn] at this; exact this
  refine ⟨fun e => (by cases e), fun _ => ⟨_, _, ⟨cellH_vec g7 rfl, cellH_vec g7 rfl, trivial⟩, goodF_wp fun h18 w => ?_⟩⟩
  have E2 := E1.wk w
  have g := E2.last
  refine ⟨fun hg => ?_, fun hg => ?_⟩
  · have A2 : FAt (L ++ [some (k7, AObj.vec TY.file_File (plains [.bool b, .string s]) 2)]) (i + 1) kR v r := ⟨up_app _ A.f.p, up_app _ A.f.q⟩
    have hset : C_cell_Row_file_File_Set B (some ⟨kR, 0, none⟩) n b s ver h18 (fun b28 h27 => CellsAt B h27 ⟨k7, 0, none⟩ 0 [.bool b, .string s] ∧ Fin B h27 (Q b28)) := by
      refine fset_wp E2 A2 R (fun hn h' E' => ⟨⟨cellH_vec E'.last rfl, cellH_vec E'.last rfl, trivial⟩, Fin.of (no ?_ h' E'.pop)⟩) fun h1 h2 r' h' R' E' => ?_
      · rw [setB, decide_eq_false hn, Bool.and_false]
      · rw [List.set_append_left _ _ (List.getElem?_eq_some_iff.1 A.f.q).1] at E'
        have hb : setB l n b s = true := by rw [setB, hg, decide_eq_true ⟨h1, by omega⟩]; rfl
        have := hQ r' h' (by rw [setF, if_pos hb]; exact R') E'.pop
        rw [hb] at this
        exact ⟨⟨cellH_vec E'.last rfl, cellH_vec E'.last rfl, trivial⟩, Fin.of this⟩
    refine ⟨⟨cellH_vec g rfl, cellH_vec g rfl, trivial⟩, _, rfl, ⟨_, E2.cell i (up_app _ A.p) rfl, _, _, ⟨cellH_vec g rfl, cellH_vec g rfl, trivial⟩, hset⟩, ⟨_, _, ⟨cellH_vec g rfl, cellH_vec g rfl, trivial⟩, _, E2.cell i (up_app _ A.p) rfl, hset⟩⟩
  · have hn : setB l n b s = false := by rw [setB, hg]; rfl
    exact ⟨⟨cellH_vec g rfl, cellH_vec g rfl, trivial⟩, Fin.of (no hn _ E2.pop), Fin.of (no hn _ E2.pop)⟩
theorem tget_wp {n : Int} {Q : Bool → ByteArray → Int → Heap → Prop} (E : Keep B h0 L h) (A : TomeAt L i kT kR v r) (R : FRow r v l)
    (hQ : ∀ h', Keep B h0 L h' → Q (fileAt l n).1.1 (fileAt l n).1.2 (fileAt l n).2 h') : C_tome_Tome_Get B (some ⟨kT, 0, none⟩) n h Q := by
  refine C_tome_Tome_Get.of ?_
  unfold S_tome_Tome_Get
  intro k6 a6 b6 h7 e7
  have E1 := E.made a6 b6 e7
  refine ⟨fun e => (by cases e), fun _ => ⟨_, rfl, _, E1.cell i (up_app _ A.p) rfl, ?_⟩⟩
  refine fget_wp E1 ⟨up_app _ A.f.p, up_app _ A.f.q⟩ R fun h15 E2 => ?_
  refine ⟨_, stores_whole E2.last rfl (by simp) (by simp [isOne]) (by simp), ?_⟩
  have E3 := E2.putLast (.vec TY.file_File (plains [.bool (fileAt l n).1.1, .string (fileAt l n).1.2]) 2)
  exact ⟨_, _, ⟨cellH_vec E3.last rfl, cellH_vec E3.last rfl, trivial⟩, Fin.of (hQ _ E3.pop)⟩
theorem tnew_wp {Q : Option Addr → Heap → Prop} (hQ : ∀ kT kR v r h', FRow r v (List.replicate 6 ((false, ByteArray.empty), 0)) → Keep B h (tomE kT kR v r) h' → Q (some ⟨kT, 0, none⟩) h') : C_tome_New B h Q := by
  refine C_tome_New.of ?_
  unfold S_tome_New
  refine fnew_wp (by decide) fun kR v r h2 R E => ?_
  intro k4 a4 b4 h5 e5
  have E1 := E.made a4 b4 e5
  exact Fin.of (hQ k4 kR v r h5 R (E1.sub3 2 0 1 rfl rfl rfl))
end
end Go.Proofs.YtgldgabefiialaaGreat.H
namespace Go.Proofs.YtgldgabefiialaaGreat.H
open Go
set_option linter.unusedVariables false
set_option maxRecDepth 100000
theorem TK.slc_bytes : slcB PG TY.s_uint8 = some (TY.uint8, 1, 1) := by kernel_rfl
theorem TK.zero_byte : zeroB PG TY.uint8 = some [.int .u8 0] := by kernel_rfl
theorem TK.sl_bytes : slT PG TY.s_uint8 = true := by kernel_rfl
theorem TK.str : isStr PG TY.string = true := by kernel_rfl
section
variable {B : RO} {h : Heap}
end
end Go.Proofs.YtgldgabefiialaaGreat.H
namespace Go.Proofs.YtgldgabefiialaaGreat.H
open Go
set_option linter.unusedVariables false
set_option maxRecDepth 100000
theorem NilOK.one {y : Value} (h : NilOK y) : isOne y = true := by
  rcases h with ⟨g, a, b, rfl⟩ | ⟨l, a, b, rfl⟩ <;> rfl
section
variable {B : RO} {h0 h h' : Heap} {L : List (Option (Nat × AObj))} {r : Option (Nat × AObj)} {i kT kR k3 m c : Nat} {a : Option Addr} {v : Value} {l : List (FileS × Int)}
end
end Go.Proofs.YtgldgabefiialaaGreat.H
namespace Go.Proofs.YtgldgabefiialaaGreat.H
open Go
set_option linter.unusedVariables false
set_option maxRecDepth 100000
structure TomeOk (l : List (FileS × Int)) : Prop where
  n6 : l.length = 6
  good : ∀ x ∈ l, goodF x.1.1 x.1.2 = true
theorem TomeOk.size {l : List (FileS × Int)} (k : TomeOk l) : ∀ x ∈ l, x.1.2.size ≤ 32 := fun x hx => by
  have := k.good x hx
  unfold goodF at this
  simp only [Bool.and_eq_true, decide_eq_true_eq] at this
  exact this.1
theorem TomeOk.zero : TomeOk (List.replicate 6 ((false, ByteArray.empty), 0)) := ⟨rfl, fun x hx => by
  rw [List.mem_replicate] at hx
  rw [hx.2]; decide⟩
theorem TomeOk.set {l : List (FileS × Int)} (k : TomeOk l) (n : Int) (b : Bool) (s : ByteArray) (ver : Int) : TomeOk (setF l n b s ver) := by
  refine ⟨by rw [setF_len]; exact k.n6, fun x hx => ?_⟩
  unfold setF at hx
  split at hx
  · rename_i h
    unfold setB at h
    rw [Bool.and_eq_true] at h
    rcases List.mem_or_eq_of_mem_set hx with h1 | h1
    · exact k.good x h1
    · rw [h1]; exact h.1
  · exact k.good x hx
section
variable {B : RO} {h0 h h' : Heap} {L : List (Option (Nat × AObj))} {r : Option (Nat × AObj)} {i kT kR : Nat} {v : Value} {l : List (FileS × Int)}
end
end Go.Proofs.YtgldgabefiialaaGreat.H
namespace Go.Proofs.YtgldgabefiialaaGreat.H
open Go Go.RowKit
set_option linter.unusedVariables false
set_option maxRecDepth 100000
structure FSetR where
  i : Int
  b : Bool
  s : ByteArray
  v : Int
def FSetR.cells (x : FSetR) : List Value := [.int .i64 x.i, .bool x.b, .string x.s, .int .i64 x.v]
abbrev FL := List (FileS × Int)
def apF (l : FL) (x : FSetR) : FL := setF l x.i x.b x.s x.v
theorem TomeOk.foldl {l : FL} (k : TomeOk l) (sets : List FSetR) : TomeOk (sets.foldl apF l) := by
  induction sets generalizing l with
  | nil => exact k
  | cons x t ih => exact ih (k.set x.i x.b x.s x.v)
section
variable {B : RO} {h0 h h' : Heap} {a : Option Addr} {c : Nat} {list : List FSetR} {Q : Bool → Heap → Prop} {kA kA' kB kB' : Nat} {va vb : Value} {ra rb : Option (Nat × AObj)}
end
end Go.Proofs.YtgldgabefiialaaGreat.H
namespace Go.Proofs.YtgldgabefiialaaGreat.H
open Go
set_option linter.unusedVariables false
set_option maxRecDepth 100000
theorem TK.byteStr : byteStr PG TY.s_uint8 TY.string = true := by kernel_rfl
section
variable {B : RO} {h : Heap}
structure Item where
  kind : Int
  n : Int
  s : ByteArray
def Item.cells (x : Item) : List Value := [.int .i64 x.kind, .int .i64 x.n, .string x.s]
def Item.ok (x : Item) : Prop := -9223372036854775808 ≤ x.n ∧ x.n ≤ 9223372036854775807
def Item.bytes (x : Item) : List UInt8 :=
  if x.kind = 0 then natI x.n else if x.kind = 1 then natB (zig x.n) else if x.kind = 2 then bl x.s else if x.kind = 3 then natB x.s.size ++ bl x.s else []
end
end Go.Proofs.YtgldgabefiialaaGreat.H
namespace Go.Proofs.YtgldgabefiialaaGreat.H
open Go Go.RowKit
set_option linter.unusedVariables false
set_option maxRecDepth 100000
section
variable {B : RO} {h0 h h' : Heap} {L M : List (Option (Nat × AObj))} {j k n : Nat} {o o' : AObj}
theorem upM (j : Nat) {x : Option (Nat × AObj)} (hj : M[j]? = some x) : (L ++ M)[L.length + j]? = some x := by
  rw [List.getElem?_append_right (by omega), show L.length + j - L.length = j by omega]; exact hj
theorem Keep.gM (E : Keep B h0 (L ++ M) h) (j : Nat) (hj : M[j]? = some (some (k, o))) : h k = some o := E.at (L.length + j) (upM j hj)
theorem Keep.cM (E : Keep B h0 (L ++ M) h) (j : Nat) {i n : Nat} {t : TypeId} {fs : List Fld} {v : Value} (hj : M[j]? = some (some (k, .vec t fs n))) (hi : fs[i]? = some (.plain v)) : cellH B h ⟨k, i, none⟩ = some v := cellH_vec (E.gM j hj) hi
theorem Keep.start (E : Keep B h0 L h) : Keep B h0 (L ++ []) h := by rw [List.append_nil]; exact E
theorem Keep.nM (E : Keep B h0 (L ++ M) h) (hk : h k = none) (hb : B k = none) (e : h' = h.set k o) : Keep B h0 (L ++ (M ++ [some (k, o)])) h' := by
  rw [← List.append_assoc]; exact E.made hk hb e
theorem Keep.pM (E : Keep B h0 (L ++ M) h) (j : Nat) (hj : M[j]? = some (some (k, o))) : Keep B h0 (L ++ M.set j (some (k, o'))) (h.set k o') := by
  have := E.put (o' := o') (L.length + j) (upM j hj)
  rwa [List.set_append_right _ _ (by omega), show L.length + j - L.length = j by omega] at this
theorem setM (j : Nat) (x : Option (Nat × AObj)) : (L ++ M).set (L.length + j) x = L ++ M.set j x := by
  rw [List.set_append_right _ _ (by omega), show L.length + j - L.length = j by omega]
theorem Keep.tM (E : Keep B h0 (L ++ M) h) (n : Nat) : Keep B h0 (L ++ M.take n) h := by
  have := E.take (L.length + n)
  rwa [List.take_length_add_append] at this
theorem Keep.zM (E : Keep B h0 (L ++ M) h) : Keep B h0 L h := E.popL
theorem Keep.vM (E : Keep B h0 (L ++ M) h) (j : Nat) {k nn : Nat} {t : TypeId} {fs gs : List Value} (hj : M[j]? = some (some (k, .vec t (plains (fs ++ gs)) nn))) (ys : List Value) (ho : ∀ y ∈ ys, isOne y = true) (o : Nat) (hf : fs.length = o) (hn : o + ys.length ≤ nn) :
    ∃ h', StoresAt ⟨k, o, none⟩ h 0 ys h' ∧ Keep B h0 (L ++ M.set j (some (k, .vec t (plains (fs ++ ys ++ gs.drop ys.length)) nn))) h' := by
  obtain ⟨h', s1, E1⟩ := E.storesV (L.length + j) (upM j hj) ys ho o hf hn
  rw [setM] at E1
  exact ⟨h', s1, E1⟩
theorem Keep.sM (E : Keep B h0 (L ++ M) h) (is : List Nat) (hn : is.Nodup) : Keep B h0 (L ++ is.map fun i => M.getD i none) h := by
  refine E.remap (fun i => if i < L.length then i else L.length + is.getD (i - L.length) 0) (fun i y hy => ?_) (fun i j hi hj e => ?_)
  · by_cases h1 : i < L.length
    · simp only [if_pos h1]
      rw [List.getElem?_append_left h1] at hy
      rw [List.getElem?_append_left h1]; exact hy
    · simp only [if_neg h1]
      rw [List.getElem?_append_right (by omega), List.getElem?_map] at hy
      cases hq : is[i - L.length]? with
      | none => rw [hq] at hy; cases hy
      | some q =>
        rw [hq] at hy
        simp only [Option.map_some, Option.some.injEq] at hy
        rw [List.getD_eq_getElem?_getD] at hy ⊢
        rw [hq]
        simp only [Option.getD_some]
        cases hm : M[q]? with
        | none => rw [hm] at hy; cases hy
        | some z => rw [hm] at hy; simp only [Option.getD_some] at hy; subst hy; exact upM q hm
  · rw [List.length_append, List.length_map] at hi hj
    have e : (if i < L.length then i else L.length + is.getD (i - L.length) 0) = (if j < L.length then j else L.length + is.getD (j - L.length) 0) := e
    split at e <;> split at e
    · exact e
    · omega
    · omega
    · rename_i h1 h2
      rw [List.getD_eq_getElem?_getD, List.getD_eq_getElem?_getD, List.getElem?_eq_getElem (by omega), List.getElem?_eq_getElem (by omega)] at e
      simp only [Option.getD_some] at e
      have e2 : is[i - L.length]'(by omega) = is[j - L.length]'(by omega) := by omega
      have hp := List.pairwise_iff_getElem.1 hn
      rcases Nat.lt_trichotomy (i - L.length) (j - L.length) with h | h | h
      · exact absurd e2 (hp _ _ (by omega) (by omega) h)
      · omega
      · exact absurd e2.symm (hp _ _ (by omega) (by omega) h)
end
end Go.Proofs.YtgldgabefiialaaGreat.H
namespace Go.Proofs.YtgldgabefiialaaGreat.H
open Go Go.RowKit
set_option linter.unusedVariables false
set_option maxRecDepth 100000
theorem Addr.add2 (A : Addr) (m n : Nat) : (A.add m).add n = A.add (m + n) := by
  unfold Addr.add
  by_cases hm : m = 0
  · subst hm; simp
  · by_cases hn : n = 0
    · subst hn; simp
    · simp [hm, hn, Nat.add_assoc]
theorem eqL_refl (b : Bool) (s : ByteArray) : eqL [Value.bool b, Value.string s] [Value.bool b, Value.string s] = true := by
  have e : (s == s) = true := by cases s with | mk d => exact beq_self_eq_true d
  simp [eqL, leafEq, e]
theorem eqL_file_eq {b b' : Bool} {s s' : ByteArray} (h : eqL [Value.bool b, Value.string s] [Value.bool b', Value.string s'] = true) : (b, s) = (b', s') := by
  simp only [eqL, leafEq, Bool.and_eq_true, Bool.and_true] at h
  obtain ⟨h1, h2⟩ := h
  have e1 : b = b' := by simpa using h1
  have e2 : s = s' := by
    cases s with
    | mk d => cases s' with
      | mk d' =>
        have h3 : (d == d') = true := h2
        rw [eq_of_beq h3]
  rw [e1, e2]
def shtO (kf : Nat) : AObj := .vec TY.sheet_Sheet (plains [.pointer (some ⟨kf, 0, none⟩)]) 1
def fO (f : FileS) : AObj := .vec TY.file_File (plains [.bool f.1, .string f.2]) 2
structure ShI where
  kT : Nat
  kR : Nat
  vt : Value
  rt : Option (Nat × AObj)
  ks : Nat
  kf : Nat
def ShI.m (x : ShI) (vd : Value) (rd : Option (Nat × AObj)) : List (Option (Nat × AObj)) := [some (x.kT, tomO x.kR), some (x.kR, frO x.vt), x.rt, some (x.ks, shtO x.kf), some (x.kf, drO_file_File vd), rd]
def getS (l : FL) (d : DFL) (n : Int) : FileS × Bool := match atD d n with
  | some f => (f, true)
  | none => ((fileAt l n).1, false)
theorem getS_some {l : FL} {d : DFL} {n : Int} {f : FileS} (h : atD d n = some f) : getS l d n = (f, true) := by rw [getS, h]
theorem getS_none {l : FL} {d : DFL} {n : Int} (h : atD d n = none) : getS l d n = ((fileAt l n).1, false) := by rw [getS, h]
def putS (l : FL) (d : DFL) (n : Int) (f : FileS) : DFL := if (getS l d n).1 = f then d else insD d n f
section
variable {B : RO} {h0 h h' : Heap} {L : List (Option (Nat × AObj))} {r rd : Option (Nat × AObj)} {i k : Nat} {a : Option Addr} {m c : Nat} {v vd : Value} {l : FL} {d : DFL} {n : Int} {x : ShI} {f : FileS}
theorem get_file_File_wp {Q : Bool → ByteArray → Bool → Heap → Prop} (E : Keep B h0 L h) (A : DAt_file_File L i k v r) (R : DRow_file_File r v d) (s : SortD d) (hl : d.length ≤ 1000000)
    (hQ : ∀ h', Keep B h0 L h' → Q ((atD d n).getD (false, ByteArray.empty)).1 ((atD d n).getD (false, ByteArray.empty)).2 (atD d n).isSome h') : C_draft_Draft_file_File_Get B (some ⟨k, 0, none⟩) n h Q := by
  refine C_draft_Draft_file_File_Get.of ?_
  unfold S_draft_Draft_file_File_Get
  intro k6 a6 b6 h7 e7 k8 a8 b8 h9 e9
  have E1 := (E.start.nM a6 b6 e7).nM a8 b8 e9
  refine ⟨fun e => (by cases e), fun _ => find_file_File_wp (i := i) E1 ⟨up_app _ A.p, up_app _ A.q⟩ R s hl fun p K => ⟨fun hf => ?_, fun hf => ?_⟩⟩
  · obtain ⟨y, hy, rfl⟩ := foundD_some hf
    have hpl := (List.getElem?_eq_some_iff.1 hy).1
    rw [atD_old K hy rfl] at hQ
    obtain ⟨a, m, c, rfl⟩ := Row.slice R
    obtain ⟨rfl, hrd⟩ := Row.rd (B := B) R entC_file_File_len (by omega)
    obtain ⟨A', e1, _, e4⟩ := hrd h9 (fun k o e => E1.at (i + 1) (by rw [up_app _ A.q, e])) p y hy
    obtain ⟨f1, f2, f3, _⟩ := e4
    refine ⟨_, rfl, .inl ⟨a, _, c, E1.cell i (up_app _ A.p) rfl, A', e1, by omega, by omega, y.2.1, y.2.2, ⟨?_, ?_, trivial⟩, ?_⟩⟩
    · rw [Int.toNat_natCast]; exact f2
    · rw [Int.toNat_natCast, Addr.add2]; exact f3
    · refine ⟨_, stores_whole (E1.gM 0 rfl) rfl (by simp) (by simp [isOne]) (by simp), ?_⟩
      have E2 := E1.pM (o' := fO y.2) 0 rfl
      exact ⟨_, _, ⟨E2.cM 0 rfl (i := 0) rfl, E2.cM 0 rfl (i := 1) rfl, trivial⟩, Fin.of (hQ _ E2.zM)⟩
  · rw [atD_new s K hf] at hQ
    refine ⟨_, _, ⟨E1.cM 1 rfl (i := 0) rfl, E1.cM 1 rfl (i := 1) rfl, trivial⟩, _, stores_whole (E1.gM 0 rfl) rfl (by simp) (by simp [isOne]) (by simp), ?_⟩
    have E2 := E1.pM (o' := fO (false, ByteArray.empty)) 0 rfl
    exact ⟨_, _, ⟨E2.cM 0 rfl (i := 0) rfl, E2.cM 0 rfl (i := 1) rfl, trivial⟩, Fin.of (hQ _ E2.zM)⟩
theorem sget_wp {Q : Bool → ByteArray → Bool → Heap → Prop} (E : Keep B h0 (L ++ x.m vd rd) h) (R : FRow x.rt x.vt l) (Rd : DRow_file_File rd vd d) (s : SortD d) (hd : d.length ≤ 1000)
    (hQ : ∀ h', Keep B h0 (L ++ x.m vd rd) h' → Q (getS l d n).1.1 (getS l d n).1.2 (getS l d n).2 h') : C_sheet_Sheet_Get B (some ⟨x.ks, 0, none⟩) (some ⟨x.kT, 0, none⟩) n h Q := by
  refine C_sheet_Sheet_Get.of ?_
  unfold S_sheet_Sheet_Get
  intro k7 a7 b7 h8 e8
  have E1 := E.nM a7 b7 e8
  refine ⟨fun e => (by cases e), fun _ => ⟨_, rfl, _, E1.cM 3 rfl (i := 0) rfl, ?_⟩⟩
  refine get_file_File_wp (i := L.length + 4) E1 ⟨upM 4 rfl, upM 5 rfl⟩ Rd s (by omega) fun h27 E2 => ?_
  cases hat : atD d n with
  | some f =>
    rw [getS_some hat] at hQ
    refine ⟨fun _ k34 a34 b34 h35 e35 => ?_, fun e => by cases e⟩
    have E3 := E2.nM a34 b34 e35
    refine ⟨_, stores_whole (E3.gM 7 rfl) rfl (by simp) (by simp [isOne]) (by simp), ?_⟩
    have E4 := E3.pM (o' := fO f) 7 rfl
    refine ⟨_, _, ⟨E4.cM 7 rfl (i := 0) rfl, E4.cM 7 rfl (i := 1) rfl, trivial⟩, _, stores_whole (E4.gM 6 rfl) rfl (by simp) (by simp [isOne]) (by simp), ?_⟩
    have E5 := E4.pM (o' := fO f) 6 rfl
    exact ⟨_, _, ⟨E5.cM 6 rfl (i := 0) rfl, E5.cM 6 rfl (i := 1) rfl, trivial⟩, Fin.of (hQ _ (E5.tM 6))⟩
  | none =>
    rw [getS_none hat] at hQ
    refine ⟨fun e => (by cases e), fun _ k31 a31 b31 h32 e32 => ?_⟩
    have E3 := E2.nM a31 b31 e32
    refine ⟨_, stores_whole (E3.gM 7 rfl) rfl (by simp) (by simp [isOne]) (by simp), Fin.of ?_⟩
    have E4 := (E3.pM (o' := fO (false, ByteArray.empty)) 7 rfl).tM 7
    unfold S_sheet_Sheet_Get_J1
    refine tget_wp (i := L.length) E4 ⟨upM 0 rfl, ⟨upM 1 rfl, upM 2 rfl⟩⟩ R fun h11 E5 => ?_
    intro k15 a15 b15 h16 e16
    have E6 := E5.nM a15 b15 e16
    refine ⟨_, stores_whole (E6.gM 7 rfl) rfl (by simp) (by simp [isOne]) (by simp), ?_⟩
    have E7 := E6.pM (o' := fO (fileAt l n).1) 7 rfl
    refine ⟨_, _, ⟨E7.cM 7 rfl (i := 0) rfl, E7.cM 7 rfl (i := 1) rfl, trivial⟩, _, stores_whole (E7.gM 6 rfl) rfl (by simp) (by simp [isOne]) (by simp), ?_⟩
    have E8 := E7.pM (o' := fO (fileAt l n).1) 6 rfl
    exact ⟨_, _, ⟨E8.cM 6 rfl (i := 0) rfl, E8.cM 6 rfl (i := 1) rfl, trivial⟩, Fin.of (hQ _ (E8.tM 6))⟩
theorem sput_wp {Q : Bool → Heap → Prop} (E : Keep B h0 (L ++ x.m vd rd) h) (R : FRow x.rt x.vt l) (Rd : DRow_file_File rd vd d) (s : SortD d) (hd : d.length ≤ 1000) (hn : 0 ≤ n ∧ n < 6)
    (hQ : ∀ vd' rd' h', DRow_file_File rd' vd' (putS l d n f) → Keep B h0 (L ++ x.m vd' rd') h' → Q true h') : C_sheet_Sheet_put B (some ⟨x.ks, 0, none⟩) (some ⟨x.kT, 0, none⟩) n f.1 f.2 h Q := by
  refine C_sheet_Sheet_put.of ?_
  unfold S_sheet_Sheet_put
  intro k7 a7 b7 h8 e8
  have E1 : Keep B h0 ((some (k7, fO f) :: L) ++ x.m vd rd) h8 := by
    have := E.made a7 b7 e8
    refine this.remap (fun j => if j = 0 then (L ++ x.m vd rd).length else j - 1) (fun j y hy => ?_) (fun i j hi hj e => ?_)
    · cases j with
      | zero =>
        simp only [List.cons_append, List.getElem?_cons_zero] at hy
        simp only [if_true]
        rw [List.getElem?_append_right (Nat.le_refl _), Nat.sub_self]; exact hy
      | succ j =>
        simp only [List.cons_append, List.getElem?_cons_succ] at hy
        simp only [Nat.add_one_ne_zero, if_false, Nat.add_sub_cancel]
        exact up_app _ hy
    · simp only [List.length_append, List.length_cons] at hi hj
      have e : (if i = 0 then (L ++ x.m vd rd).length else i - 1) = (if j = 0 then (L ++ x.m vd rd).length else j - 1) := e
      rw [List.length_append] at e
      split at e <;> split at e <;> omega
  refine ⟨fun e => (by cases e), fun _ => ⟨fun hlt => by omega, fun _ => ⟨fun hge => by omega, fun _ => Fin.of ?_⟩⟩⟩
  unfold S_sheet_Sheet_put_J1
  refine sget_wp E1 R Rd s hd fun h11 E2 => ?_
  intro k15 a15 b15 h16 e16
  have E3 := E2.nM a15 b15 e16
  refine ⟨_, stores_whole (E3.gM 6 rfl) rfl (by simp) (by simp [isOne]) (by simp), ?_⟩
  have E4 := E3.pM (o' := fO (getS l d n).1) 6 rfl
  refine ⟨_, _, ⟨E4.cM 6 rfl (i := 0) rfl, E4.cM 6 rfl (i := 1) rfl, trivial⟩, _, _, ⟨E4.cell 0 rfl (j := 0) rfl, E4.cell 0 rfl (j := 1) rfl, trivial⟩, fun he => ?_, fun hne => ?_⟩
  · have hf : (getS l d n).1 = f := eqL_file_eq he
    unfold putS at hQ
    rw [if_pos hf] at hQ
    refine Fin.of (hQ vd rd _ Rd ?_)
    have E5 : Keep B h0 (some (k7, fO f) :: (L ++ x.m vd rd)) _ := E4.tM 6
    exact E5.remap (fun j => j + 1) (fun j y hy => by simpa using hy) (fun i j _ _ e => by simpa using e)
  · have hf : ¬ (getS l d n).1 = f := fun e => hne (by rw [← e]; exact eqL_refl _ _)
    unfold putS at hQ
    rw [if_neg hf] at hQ
    refine ⟨_, rfl, _, E4.cM 3 rfl (i := 0) rfl, _, _, ⟨E4.cell 0 rfl (j := 0) rfl, E4.cell 0 rfl (j := 1) rfl, trivial⟩, ?_⟩
    refine put_file_File_wp (i := (some (k7, fO f) :: L).length + 4) E4 ⟨upM 4 rfl, upM 5 rfl⟩ Rd s (by omega) fun v' r' h65 R' E5 => ?_
    rw [setM, show (some (k7, fO f) :: L).length + 4 + 1 = (some (k7, fO f) :: L).length + 5 from rfl, setM] at E5
    refine ⟨E5.cM 3 rfl (i := 0) rfl, ⟨E5.cell 0 rfl (j := 0) rfl, E5.cell 0 rfl (j := 1) rfl, trivial⟩, Fin.of (hQ v' r' _ R' ?_)⟩
    have E6 : Keep B h0 (some (k7, fO f) :: (L ++ x.m v' r')) _ := E5.tM 6
    exact E6.remap (fun j => j + 1) (fun j y hy => by simpa using hy) (fun i j _ _ e => by simpa using e)
end
end Go.Proofs.YtgldgabefiialaaGreat.H
namespace Go.Proofs.YtgldgabefiialaaGreat.H
open Go Go.RowKit
set_option linter.unusedVariables false
set_option maxRecDepth 100000
section
variable {B : RO} {h0 h h' : Heap} {L : List (Option (Nat × AObj))} {r rd : Option (Nat × AObj)} {v vd : Value} {l z : FL} {d : DFL} {n : Int} {x : ShI} {f : FileS} {from' tj : Int}
theorem make_wp {b : Bool} {s : ByteArray} {Q : Bool → ByteArray → Heap → Prop} (hQ : ∀ h', Wk B h h' → Q true s h') : C_file_Make B b s h Q := by
  refine C_file_Make.of ?_
  unfold S_file_Make
  intro k5 a5 b5 h6 e6 k7 a7 b7 h8 e8
  have E := ((Keep.nil B h).made a5 b5 e6).made a7 b7 e8
  refine ⟨_, E.cell 0 rfl rfl, _, stores_whole E.last rfl (by simp) (by simp [isOne]) (by simp), ?_⟩
  have E1 := E.putLast (fO (true, s))
  exact ⟨_, _, ⟨cellH_vec E1.last rfl, cellH_vec E1.last rfl, trivial⟩, Fin.of (hQ _ E1.w)⟩
end
end Go.Proofs.YtgldgabefiialaaGreat.H
namespace Go.Proofs.YtgldgabefiialaaGreat.H
open Go Go.RowKit
set_option linter.unusedVariables false
set_option maxRecDepth 100000
theorem semH_convStr {P : Program} {B : RO} {h : Heap} {src dst e : TypeId} {s : ByteArray} {K : Value → Heap → Prop} (h1 : P.underlying src = some .string) (h2 : P.underlying dst = some (.slice e)) (h3 : P.underlying e = some (.int .u8)) (he : e = 5)
    (hk : ∀ k c nn js, h k = none → B k = none → s.size ≤ c → c ≤ nn → K (.slice (some ⟨k, 0, none⟩) s.size c) (h.set k (.vec e (plains ((bl s).map byteV ++ js)) nn))) : semH P B (convert src dst (.string s)) h K := by
  unfold convert
  rw [semH_und h1, semH_und h2]
  simp only
  rw [semH_und h3]
  show semH P B (Conv.stringToBytes e s) h K
  unfold Conv.stringToBytes
  refine semH_choose rfl fun q => ?_
  have hcut : s.size ≤ (Question.appendCap s.size 0 e).cut q := by simp [Question.cut]
  generalize (Question.appendCap s.size 0 e).cut q = c at hcut
  refine semH_newRow fun b hb1 hb2 => ?_
  have e1 : ((s.data.map fun b => (Value.int .u8 b.toNat)) ++ Array.replicate (c - s.size) (Value.int .u8 0)).toList = (bl s).map byteV ++ List.replicate (c - s.size) (.int .u8 0) := by
    simp [bl, byteV]
  have e2 : ((s.data.map fun b => (Value.int .u8 b.toNat)) ++ Array.replicate (c - s.size) (Value.int .u8 0)).size = c := by
    simp only [Array.size_append, Array.size_map, Array.size_replicate]
    have : s.data.size = s.size := rfl
    omega
  rw [e1, e2, semH_bind]
  unfold markStringish
  rw [semH_bind]
  refine ⟨some (e, c), by simp [shapeH, Heap.set_same], ?_⟩
  refine ⟨⟨e, _, c, Heap.set_same _ _ _, Nat.le_refl _, he⟩, by omega, ?_⟩
  exact hk b c c _ hb1 hb2 hcut (Nat.le_refl _)
theorem TK.und_str : PG.underlying TY.string = some .string := by kernel_rfl
theorem TK.und_bytes : PG.underlying TY.s_uint8 = some (.slice TY.uint8) := by kernel_rfl
theorem TK.und_u8 : PG.underlying TY.uint8 = some (.int .u8) := by kernel_rfl
def padT (n : Nat) (l : List UInt8) : List UInt8 := l ++ List.replicate (n - l.length) 0
theorem padT_len (n : Nat) (l : List UInt8) : (padT n l).length = max l.length n := by simp [padT]; omega
theorem padT_self {n : Nat} {l : List UInt8} (h : n ≤ l.length) : padT n l = l := by
  unfold padT; rw [show n - l.length = 0 by omega]; simp
theorem padT_succ {n : Nat} {l : List UInt8} (h : l.length ≤ n) : padT n l ++ [0] = padT (n + 1) l := by
  unfold padT; rw [show n + 1 - l.length = n - l.length + 1 by omega, List.replicate_succ', List.append_assoc]
def putT (l : List UInt8) (k : Nat) (c : UInt8) : List UInt8 := (padT (k + 1) l).set k c
def putF (f : FileS) (at' : Int) (c : UInt8) : FileS := if 0 ≤ at' ∧ at' < 32 then (true, ba (putT (bl f.2) at'.toNat c)) else f
def cutT (l : List UInt8) (n : Nat) : List UInt8 := (padT n l).take n
def cutF (f : FileS) (n : Int) : FileS := if f.1 = true ∧ 0 ≤ n ∧ n ≤ 32 then (true, ba (cutT (bl f.2) n.toNat)) else f
theorem cutT_len (l : List UInt8) (n : Nat) : (cutT l n).length = n := by unfold cutT; rw [List.length_take, padT_len]; omega
theorem putT_len (l : List UInt8) (k : Nat) (c : UInt8) : (putT l k c).length = max l.length (k + 1) := by unfold putT; rw [List.length_set, padT_len]
theorem map_flat (l : List UInt8) : l.map byteV = l.flatMap fun c => [byteV c] := by induction l with | nil => rfl | cons c l ih => simp [ih]
section
variable {B : RO} {h h0 : Heap} {L : List (Option (Nat × AObj))} {b : Bool} {s : ByteArray}
def fiO (f : FileS) : AObj := .vec TY.file_File (plains [.bool f.1, .string f.2]) 2
theorem fput_wp {at' v : Int} {c : UInt8} (hv : v = ((c.toNat : Nat) : Int)) (hs : s.size ≤ 1000000) {Q : Bool → ByteArray → Heap → Prop} (hQ : ∀ h', Wk B h h' → Q (putF (b, s) at' c).1 (putF (b, s) at' c).2 h') : C_file_Put B b s at' v h Q := by
  refine C_file_Put.of ?_
  unfold S_file_Put
  intro k7 a7 b7 h8 e8 k9 a9 b9 h10 e10
  have E := ((Keep.nil B h).made a7 b7 e8).made a9 b9 e10
  have E : Keep B h [some (k7, fiO (b, s)), some (k9, fiO (false, ByteArray.empty))] h10 := E
  have done : ¬ (0 ≤ at' ∧ at' < 32) → ∃ b45 : Bool, ∃ s46 : ByteArray, CellsAt B h10 ⟨k7, 0, none⟩ 0 [(.bool b45), (.string s46)] ∧ ∃ h47 : Heap, StoresAt ⟨k9, 0, none⟩ h10 0 [(.bool b45), (.string s46)] h47 ∧
      ∃ b48 : Bool, ∃ s49 : ByteArray, CellsAt B h47 ⟨k9, 0, none⟩ 0 [(.bool b48), (.string s49)] ∧ Fin B h47 (Q (b48) s49) := fun hn => by
    unfold putF at hQ
    rw [if_neg hn] at hQ
    refine ⟨b, s, ⟨E.cell 0 rfl (j := 0) rfl, E.cell 0 rfl (j := 1) rfl, trivial⟩, _, stores_whole (E.at 1 rfl) rfl (by simp) (by simp [isOne]) (by simp), ?_⟩
    have E1 := E.put (o' := fiO (b, s)) 1 rfl
    exact ⟨_, _, ⟨E1.cell 1 rfl (j := 0) rfl, E1.cell 1 rfl (j := 1) rfl, trivial⟩, Fin.of (hQ _ E1.w)⟩
  refine ⟨fun hlt => done (by omega), fun hge => ⟨fun h32 => done (by omega), fun hlt => Fin.of ?_⟩⟩
  clear done
  have hin : 0 ≤ at' ∧ at' < 32 := by omega
  obtain ⟨k, rfl⟩ := Int.eq_ofNat_of_zero_le hin.1
  unfold putF at hQ
  rw [if_pos hin, Int.toNat_natCast] at hQ
  unfold S_file_Put_J1
  refine ⟨s, E.cell 0 rfl (j := 1) rfl, semH_convStr TK.und_str TK.und_bytes TK.und_u8 rfl fun kr c0 nn js hk1 hk2 hc1 hc2 => ⟨_, _, _, rfl, ?_⟩⟩
  have E1 := E.new (o := .vec TY.uint8 (plains ((bl s).map byteV ++ js)) nn) hk1 hk2
  have R1 : Row (some (kr, .vec TY.uint8 (plains ((bl s).map byteV ++ js)) nn)) (.slice (some ⟨kr, 0, none⟩) s.size c0) TY.uint8 1 ((bl s).map byteV) := .inr ⟨kr, s.size, c0, nn, js, rfl, rfl, by simp [bl_length], hc1, by omega⟩
  refine ⟨fun a n c m h' => ∃ r l, Row r (.slice a n c) TY.uint8 1 (l.map byteV) ∧ l.length = n ∧ l = padT n (bl s) ∧ s.size ≤ n ∧ n ≤ max s.size (k + 1) ∧ m = k + 1 - n ∧ Keep B h [some (k7, fiO (b, s)), some (k9, fiO (false, ByteArray.empty)), r] h', k + 1 - s.size, Fin.of ⟨_, bl s, R1, bl_length s, (padT_self (by rw [bl_length]; omega)).symm, by omega, by omega, rfl, E1⟩, ?_⟩
  clear E1 R1 E
  rintro a n c1 _ h34 ⟨r, l, R, hl, hp, hn1, hn2, rfl, E⟩
  refine ⟨fun hle k39 hk1 hk2 h40 e40 => ?_, fun hgt => Fin.of ?_⟩
  · refine E.push1 2 rfl R TK.slc_bytes TK.zero_byte rfl (by omega) (by omega) TK.sl_bytes (ys := [.int .u8 0]) rfl (by simp [isOne]) (by simp; omega) hk1 hk2 e40 fun a' m' c' r' h'' R' E' => ⟨_, _, _, rfl, Fin.of ?_⟩
    have e1 : m' = n + 1 := by
      have := R'.len
      simp only [List.length_append, List.length_map, List.length_cons, List.length_nil] at this
      omega
    subst e1
    refine ⟨k + 1 - (n + 1), by omega, r', l ++ [0], ?_, by simp [hl], by rw [← padT_succ (by rw [bl_length]; omega), ← hp], by omega, by omega, rfl, E'⟩
    rw [List.map_append]; exact R'
  · have hkn : k < n := by omega
    have hn3 : n = max s.size (k + 1) := by omega
    unfold S_file_Put_J2
    rw [map_flat] at R
    obtain ⟨A, h25, r', ea, st, R', E2⟩ := E.rowSet 2 rfl R (fun _ => rfl) (by omega) k (by omega) c (by simp [byteV, isOne])
    refine ⟨A, ea, by omega, by omega, h25, ?_, ?_⟩
    · obtain ⟨_, w, e1, e2⟩ := st
      obtain rfl : h25 = w := e2
      rw [Int.toNat_natCast, hv]; exact e1
    · rw [← map_flat] at R'
      have e3 : l.set k c = putT (bl s) k c := by
        unfold putT
        rw [hp, hn3]
        by_cases e4 : s.size ≤ k + 1
        · rw [Nat.max_eq_right e4]
        · rw [Nat.max_eq_left (by omega), padT_self (by rw [bl_length]; omega), padT_self (by rw [bl_length]; omega)]
      rw [e3] at R'
      refine semH_convB TK.byteStr (semH_bytesToString (E2.sl 2 rfl R') ⟨_, rfl, _, stores_whole (E2.at 1 rfl) rfl (by simp) (by simp [isOne]) (by simp), ?_⟩)
      have E3 := E2.put (o' := fiO (true, ba (putT (bl s) k c))) 1 rfl
      exact ⟨_, _, ⟨E3.cell 1 rfl (j := 0) rfl, E3.cell 1 rfl (j := 1) rfl, trivial⟩, Fin.of (hQ _ E3.w)⟩
end
end Go.Proofs.YtgldgabefiialaaGreat.H
namespace Go.Proofs.YtgldgabefiialaaGreat.H
open Go
set_option linter.unusedVariables false
noncomputable def wordOf (l : List UInt8) : Option (Nat × List UInt8) :=
  open Classical in if h : ∃ p : Nat × List UInt8, l = natB p.1 ++ p.2 ∧ p.1 < 18446744073709551616 then some (Classical.choose h) else none
theorem wordOf_none {l : List UInt8} (h : ∀ n r, l = natB n ++ r → ¬ n < 18446744073709551616) : wordOf l = none := by
  unfold wordOf
  rw [dif_neg]
  rintro ⟨p, h1, h2⟩
  exact h _ _ h1 h2
theorem natB_cons_lo {m : Nat} {b : UInt8} {r t : List UInt8} (hb : b.toNat < 128) : b :: t = natB m ++ r ↔ m = b.toNat ∧ t = r := by
  by_cases hm : m < 128
  · rw [natB_lo hm]
    simp only [List.cons_append, List.nil_append, List.cons.injEq]
    constructor
    · rintro ⟨h1, h2⟩
      refine ⟨?_, h2⟩
      rw [h1, UInt8.toNat_ofNat']; omega
    · rintro ⟨h1, h2⟩
      refine ⟨?_, h2⟩
      rw [h1]; simp
  · rw [natB_hi hm]
    constructor
    · intro h
      simp only [List.cons_append, List.cons.injEq] at h
      rw [h.1, UInt8.toNat_ofNat'] at hb
      omega
    · intro h; omega
def Half (l : List UInt8) (k acc : Nat) (rest : List UInt8) : Prop :=
  acc < 2 ^ (7 * k) ∧ rest.length + k = l.length ∧ ∀ n r, l = natB n ++ r ↔ rest = natB (n / 2 ^ (7 * k)) ++ r ∧ n % 2 ^ (7 * k) = acc ∧ (0 < k → 2 ^ (7 * k) ≤ n)
theorem Half.zero (l : List UInt8) : Half l 0 0 l := ⟨by simp, rfl, fun n r => by simp [Nat.mod_one]⟩
theorem Half.done {l t : List UInt8} {k acc : Nat} {b : UInt8} (h : Half l k acc (b :: t)) (hb : b.toNat < 128) (h0 : 0 < k → b.toNat ≠ 0) : l = natB (acc + b.toNat * 2 ^ (7 * k)) ++ t := by
  obtain ⟨h1, h2, h3⟩ := h
  have hpos : 0 < 2 ^ (7 * k) := Nat.two_pow_pos _
  refine (h3 _ _).2 ⟨(natB_cons_lo hb).2 ⟨?_, rfl⟩, ?_, fun hk => ?_⟩
  · rw [Nat.add_mul_div_right _ _ hpos, Nat.div_eq_of_lt h1, Nat.zero_add]
  · rw [Nat.add_mul_mod_self_right, Nat.mod_eq_of_lt h1]
  · have := h0 hk
    have : 1 * 2 ^ (7 * k) ≤ b.toNat * 2 ^ (7 * k) := Nat.mul_le_mul_right _ (by omega)
    omega
theorem Half.empty {l : List UInt8} {k acc : Nat} (h : Half l k acc []) : wordOf l = none := by
  refine wordOf_none fun n r e => ?_
  have := ((h.2.2 n r).1 e).1
  have h2 := natB_pos (n / 2 ^ (7 * k))
  have h3 := congrArg List.length this
  simp only [List.length_nil, List.length_append] at h3
  omega
theorem bl_extract (s : ByteArray) (i j : Nat) : bl (s.extract i j) = ((bl s).drop i).take (j - i) := by
  unfold bl
  rw [ByteArray.data_extract, Array.toList_extract, List.extract_eq_take_drop]
end Go.Proofs.YtgldgabefiialaaGreat.H
namespace Go.Proofs.YtgldgabefiialaaGreat.H
open Go
set_option linter.unusedVariables false
set_option maxRecDepth 100000
theorem TK.slc_slot_int : slcB PG TY.s_cell_slot_int = some (TY.cell_slot_int, 2, 16) := by kernel_rfl
theorem TK.zero_slot_int : zeroB PG TY.cell_slot_int = some [.int .i64 0, .int .i64 0] := by kernel_rfl
theorem TK.sl_slot_int : slT PG TY.s_cell_slot_int = true := by kernel_rfl
def slotC_int (x : Int × Int) : List Value := [.int .i64 x.1, .int .i64 x.2]
theorem slotC_int_len (x : Int × Int) : (slotC_int x).length = 2 := rfl
def rowO_int (l : List (Int × Int)) : AObj := .vec TY.cell_Row_int [.own TY.cell_slot_int 2 (l.flatMap slotC_int)] 1
def RowP_int (h : Heap) (b : Nat) (a : Option Addr) (m c : Nat) (l : List (Int × Int)) : Prop := FP h b 0 TY.cell_slot_int 2 (l.flatMap slotC_int) a m c
def RowV_int (h : Heap) (b : Nat) (l : List (Int × Int)) : Prop := FV h b 0 TY.cell_slot_int 2 (l.flatMap slotC_int)
theorem rowO_int_v {h : Heap} {b : Nat} {l : List (Int × Int)} (hb : h b = some (rowO_int l)) : RowV_int h b l := .inl ⟨_, _, _, hb, rfl⟩
theorem RowP_int.v {h : Heap} {b m c : Nat} {a : Option Addr} {l : List (Int × Int)} (R : RowP_int h b a m c l) : RowV_int h b l := FP.fv R
def cellAt_int (l : List (Int × Int)) (i : Int) : Int × Int := if 0 ≤ i then (l[i.toNat]?).getD (0, 0) else (0, 0)
section
variable {B : RO} {h : Heap} {b : Nat} {a : Option Addr} {m c : Nat} {l : List (Int × Int)}
theorem Opened.row_int {v : Value} {h1 : Heap} (ho : Opened B h b TY.cell_Row_int [.own TY.cell_slot_int 2 (l.flatMap slotC_int)] 1 0 TY.cell_slot_int 2 (l.flatMap slotC_int) v h1) : ∃ a m c, v = .slice a m c ∧ RowP_int h1 b a m c l := by
  obtain ⟨a, m, c, rfl⟩ := ho.slice
  exact ⟨a, m, c, rfl, ⟨_, _, _, ho.blk, rfl⟩, ho.row⟩
theorem RowP_int.len (R : RowP_int h b a m c l) : m = l.length := (R.2.reads (B := fun _ => none) slotC_int_len (by omega)).1
theorem RowP_int.at (R : RowP_int h b a m c l) : ∀ i x, l[i]? = some x → ∃ A, a = some A ∧ CellsAt B h (A.add (i * 2)) 0 (slotC_int x) := fun i x hx =>
  let ⟨A, e, _, q⟩ := (R.2.reads (B := B) slotC_int_len (by omega)).2 i x hx
  ⟨A, e, q⟩
theorem cellAt_int_in {i : Int} (h0 : 0 ≤ i) (h1 : i.toNat < l.length) : cellAt_int l i = l[i.toNat] := by
  rw [cellAt_int, if_pos h0, List.getElem?_eq_getElem h1]; rfl
theorem cellAt_int_out {i : Int} (hn : ¬ (0 ≤ i ∧ i < (l.length : Int))) : cellAt_int l i = (0, 0) := by
  unfold cellAt_int
  split
  · rw [List.getElem?_eq_none (by omega)]; rfl
  · rfl
theorem is_p_int {i : Int} {Q : Bool → Heap → Prop} (R : RowP_int h b a m c l) (hQ : Q (decide (0 ≤ i ∧ i < (l.length : Int))) h) : C_cell_Row_int_is B (some ⟨b, 0, none⟩) i h Q := by
  refine C_cell_Row_int_is.of ?_
  unfold S_cell_Row_int_is
  have hm := R.len
  refine ⟨(fun e => by cases e), fun _ => ⟨fun h0 => ⟨_, rfl, .inl ⟨a, m, c, R.1.cell, Fin.of ?_⟩⟩, fun h0 => Fin.of ?_⟩⟩
  · have : decide (i < (m : Int)) = decide (0 ≤ i ∧ i < (l.length : Int)) := by
      rw [decide_eq_decide, hm]; exact ⟨fun x => ⟨by omega, x⟩, fun x => x.2⟩
    rw [this]; exact hQ
  · rw [decide_eq_false (by omega)] at hQ; exact hQ
theorem get_p_int {i : Int} {Q : Int → Int → Heap → Prop} (R : RowP_int h b a m c l) (hQ : Q (cellAt_int l i).1 (cellAt_int l i).2 h) : C_cell_Row_int_Get B (some ⟨b, 0, none⟩) i h Q := by
  refine C_cell_Row_int_Get.of ?_
  unfold S_cell_Row_int_Get
  have hm := R.len
  refine is_p_int R ⟨fun hT => ?_, fun hF => Fin.of ?_⟩
  · rw [decide_eq_true_eq] at hT
    have hi : i.toNat < l.length := by omega
    rw [cellAt_int_in hT.1 hi] at hQ
    obtain ⟨A, e, q⟩ := R.at (B := B) i.toNat _ (List.getElem?_eq_getElem hi)
    refine ⟨_, rfl, a, m, c, R.1.cell, A, e, hT.1, by omega, _, q.1, _, rfl, a, m, c, R.1.cell, A, e, hT.1, by omega, _, q.2.1, Fin.of hQ⟩
  · rw [decide_eq_false_iff_not] at hF
    rw [cellAt_int_out hF] at hQ
    exact hQ
theorem get_wp_int {i : Int} {Q : Int → Int → Heap → Prop} (hv : RowV_int h b l) (hQ : Q (cellAt_int l i).1 (cellAt_int l i).2 h) : C_cell_Row_int_Get B (some ⟨b, 0, none⟩) i h Q := by
  refine FV.spec hv fun a m c h1 sh => ?_
  exact Spec.fin (Spec.mono (get_p_int (Q := fun x y h' => Fin B h' (Q x y)) sh.1 (Fin.ent sh.2.1 (Fin.of hQ))) fun v h' ⟨x, y, e, q⟩ => q.imp fun h'' q' => ⟨x, y, e, q'⟩)
theorem version_wp_int {i : Int} {Q : Int → Heap → Prop} (hb : RowV_int h b l) (hQ : Q (cellAt_int l i).2 h) : C_cell_Row_int_Version B (some ⟨b, 0, none⟩) i h Q := by
  refine C_cell_Row_int_Version.of ?_
  unfold S_cell_Row_int_Version
  exact get_wp_int hb (Fin.of hQ)
theorem is_wp_int {i : Int} {Q : Bool → Heap → Prop} (hb : RowV_int h b l) (hQ : Q (decide (0 ≤ i ∧ i < (l.length : Int))) h) : C_cell_Row_int_is B (some ⟨b, 0, none⟩) i h Q := by
  refine C_cell_Row_int_is.of ?_
  unfold S_cell_Row_int_is
  refine ⟨(fun e => by cases e), fun _ => ⟨fun h0 => ⟨_, rfl, FV.ld hb fun a m c h1 sh => Fin.ent sh.2.1 (Fin.of ?_)⟩, fun h0 => Fin.of ?_⟩⟩
  · have hm := RowP_int.len sh.1
    have : decide (i < (m : Int)) = decide (0 ≤ i ∧ i < (l.length : Int)) := by
      rw [decide_eq_decide, hm]; exact ⟨fun x => ⟨by omega, x⟩, fun x => x.2⟩
    rw [this]; exact hQ
  · rw [decide_eq_false (by omega)] at hQ; exact hQ
theorem flatMap_set {α : Type} {cells : α → List Value} (x : α) : ∀ (l : List α) (i : Nat) (hi : i < l.length), (l.set i x).flatMap cells = (l.take i).flatMap cells ++ cells x ++ (l.drop (i + 1)).flatMap cells
  | [], i, hi => by simp at hi
  | y :: l, 0, _ => by simp
  | y :: l, i + 1, hi => by
    simp only [List.set_cons_succ, List.flatMap_cons, List.take_succ_cons, List.drop_succ_cons]
    rw [flatMap_set x l i (by simpa using hi)]
    simp [List.append_assoc]
theorem flatMap_split {α : Type} {cells : α → List Value} (l : List α) (i : Nat) (hi : i < l.length) : l.flatMap cells = (l.take i).flatMap cells ++ (cells l[i] ++ (l.drop (i + 1)).flatMap cells) := by
  conv => lhs; rw [← List.take_append_drop i l, List.drop_eq_getElem_cons hi]
  rw [List.flatMap_append, List.flatMap_cons]
theorem set_wp_int {i : Int} {x : Int} {v : Int} {Q : Bool → Heap → Prop} (hb : h b = some (rowO_int l))
    (hT : 0 ≤ i → i.toNat < l.length → Q true (h.set b (rowO_int (l.set i.toNat (x, v))))) (hF : ¬ (0 ≤ i ∧ i < (l.length : Int)) → Q false h) : C_cell_Row_int_Set B (some ⟨b, 0, none⟩) i x v h Q := by
  refine C_cell_Row_int_Set.of ?_
  unfold S_cell_Row_int_Set
  refine is_wp_int (rowO_int_v hb) ⟨fun hD => ?_, fun hD => Fin.of (hF (by simpa using hD))⟩
  rw [decide_eq_true_eq] at hD
  have hi : i.toNat < l.length := by omega
  refine ⟨_, rfl, .inr ⟨_, _, _, _, _, _, rfl, hb, rfl, fun a m c h1 ho => ?_⟩⟩
  obtain ⟨a', m', c', e, R⟩ := ho.row_int
  cases e
  have hm := R.len
  have hbk := ho.blk
  rcases R.2 with ⟨e1, e2⟩ | ⟨k, m2, c2, nn, js, e1, e2, e3, e4, e5⟩
  · have := flatMap_length slotC_int_len l
    rw [e2] at this; simp at this; omega
  · cases e1
    have hlen := flatMap_length slotC_int_len (l.take i.toNat)
    rw [List.length_take, Nat.min_eq_left (by omega)] at hlen
    rw [flatMap_split l _ hi, List.append_assoc, List.append_assoc] at e2
    have hall := flatMap_length slotC_int_len l
    obtain ⟨h', s1, _, s3⟩ := StoresAt.over (slotC_int (x, v)) h1 (i.toNat * 2) 0 _ _ (by simp [slotC_int, isOne]) e2 (by rw [hlen]; omega) (by rw [slotC_int_len]; omega)
    have s3 := s3 (by simp [slotC_int])
    have hadd : Addr.add ⟨k, 0, none⟩ (i.toNat * 2) = ⟨k, i.toNat * 2, none⟩ := by
      unfold Addr.add; split
      · rename_i hz; rw [hz]
      · simp
    refine ⟨⟨k, 0, none⟩, rfl, hD.1, by omega, h', by rw [hadd]; exact s1, ?_⟩
    have hdrop : (slotC_int l[i.toNat] ++ ((l.drop (i.toNat + 1)).flatMap slotC_int ++ js)).drop (slotC_int (x, v)).length = (l.drop (i.toNat + 1)).flatMap slotC_int ++ js := by
      rw [slotC_int_len, ← slotC_int_len l[i.toNat], List.drop_left]
    rw [hdrop, ← List.append_assoc, ← flatMap_set (cells := slotC_int) (x, v) l _ hi] at s3
    have hkb : k ≠ b := (ho.new k _ _ rfl).2
    have hset : ((l.set i.toNat (x, v)).flatMap slotC_int).length = (l.flatMap slotC_int).length := by
      rw [flatMap_length slotC_int_len, flatMap_length slotC_int_len, List.length_set]
    have hcl := Ent.close_row (B := B) (h0 := h) (h := h') (b := b) (n := 1) (i := 0) (t := TY.cell_Row_int) (e := TY.cell_slot_int) (sz := 2) (fs := plains [Value.slice (some ⟨k, 0, none⟩) m c]) (v := .slice (some ⟨k, 0, none⟩) m c) (xs := (l.set i.toNat (x, v)).flatMap slotC_int)
      (by
        intro c' o hc' hh
        rw [s3, Heap.set_ne _ _ _ _ (fun e => by
          have := (ho.new k _ _ rfl).1
          rw [e, this] at hh; cases hh)]
        exact ho.sub c' o hc' hh)
      (by rw [s3, Heap.set_ne _ _ _ _ (Ne.symm hkb)]; exact hbk)
      rfl
      (.inr ⟨k, m, c, nn, js, rfl, by rw [s3, Heap.set_same], by rw [hset]; exact e3, e4, e5⟩)
      (fun k' m' c' e => ho.new k' m' c' e)
    exact Fin.ent hcl (Fin.of (hT hD.1 hi))
theorem new_wp_int {n : Int} {x : Int} {Q : Option Addr → Heap → Prop} (hn : n ≤ 1000000) (hQ : ∀ k, h k = none → B k = none → Q (some ⟨k, 0, none⟩) (h.set k (rowO_int (List.replicate n.toNat (x, 0))))) : C_cell_New_int B n x h Q := by
  refine C_cell_New_int.of ?_
  unfold S_cell_New_int
  intro k a1 b1 h5 e5
  obtain ⟨g5, -, -⟩ := Heap.made a1 e5
  have hcl : Ent B h5 (h.set k (rowO_int [])) := by
    have := Ent.close_nil (B := B) (e := TY.cell_slot_int) (sz := 2) (i := 0) g5 rfl
    rw [e5, Heap.set_set] at this
    rw [e5]
    exact this
  refine ⟨fun i m h' => ∃ j : Nat, (j : Int) ≤ max n 0 ∧ i = j ∧ m = n.toNat - j ∧ h' = h.set k (rowO_int (List.replicate j (x, 0))), n.toNat, Fin.ent hcl (Fin.of ⟨0, by omega, rfl, by omega, rfl⟩), ?_⟩
  rintro _ _ _ ⟨j, hj, rfl, rfl, rfl⟩
  refine ⟨fun hlt => ?_, fun hge => ?_⟩
  · have hl := flatMap_length slotC_int_len (List.replicate j (x, (0 : Int)))
    rw [List.length_replicate] at hl
    refine app_own (len := 1) (ys := slotC_int (x, 0)) TK.slc_slot_int TK.zero_slot_int rfl (by omega) (by omega) TK.sl_slot_int (Heap.set_same _ _ _) rfl rfl (by simp [slotC_int, isOne]) (by rw [hl, slotC_int_len]; omega) ?_
    intro a' n' c' h3 h4 s1 s2
    refine ⟨a', n', c', rfl, h4, s1, Fin.ent s2 (Fin.of ⟨n.toNat - (j + 1), by omega, j + 1, by omega, ?_, rfl, ?_⟩)⟩
    · rw [w64 (by omega) (by omega)]; omega
    · rw [Heap.set_set]
      unfold rowO_int
      rw [List.replicate_succ', List.flatMap_append]
      simp
  · have : j = n.toNat := by omega
    subst this
    exact Fin.of (hQ k a1 b1)
end
end Go.Proofs.YtgldgabefiialaaGreat.H
namespace Go.Proofs.YtgldgabefiialaaGreat.H
open Go
set_option linter.unusedVariables false
set_option maxRecDepth 100000
theorem plains_mid {α : Type} (f : α → Value) (a b : List Value) (l : List α) (i : Nat) (x : α) (hx : l[i]? = some x) : (plains (a ++ (l.map f ++ b)))[a.length + i]? = some (.plain (f x)) := by
  obtain ⟨hi, rfl⟩ := List.getElem?_eq_some_iff.1 hx
  simp only [plains, List.getElem?_map]
  rw [List.getElem?_append_right (by omega), show a.length + i - a.length = i by omega, List.getElem?_append_left (by simpa using hi), List.getElem?_map, hx]
  rfl
theorem byteAt_bound (s : ByteArray) (i : Nat) : 0 ≤ byteAt s i ∧ byteAt s i < 256 := by
  unfold byteAt
  split
  · rename_i h
    have := (s[i]).toNat_lt
    omega
  · omega
def feedC (ts : List ByteArray) (kR : Nat) : List Value := ts.map Value.string ++ [.pointer (some ⟨kR, 0, none⟩)]
def feedO (ts : List ByteArray) (kR : Nat) : AObj := .vec TY.feed_Feed (plains (feedC ts kR)) 4
def textAt (ts : List ByteArray) (i : Int) : ByteArray := if 0 ≤ i ∧ i < 3 then (ts[i.toNat]?).getD (ByteArray.mk #[]) else ByteArray.mk #[]
def takeB (ts : List ByteArray) (l : List (Int × Int)) (i place : Int) : Bool := decide (0 ≤ i ∧ i < 3 ∧ (cellAt_int l i).1 ≤ place ∧ place ≤ (textAt ts i).size)
def takeL (ts : List ByteArray) (l : List (Int × Int)) (i place v : Int) : List (Int × Int) := if takeB ts l i place = true then l.set i.toNat (place, v) else l
def atOf (ts : List ByteArray) (i place : Int) : Int := if 0 ≤ i ∧ i < 3 ∧ 0 ≤ place ∧ place < (textAt ts i).size then byteAt (textAt ts i) place.toNat else -1
structure FeedOk (ts : List ByteArray) (l : List (Int × Int)) : Prop where
  t3 : ts.length = 3
  l3 : l.length = 3
  size : ∀ i, (textAt ts i).size ≤ 64
  place : ∀ i, 0 ≤ (cellAt_int l i).1 ∧ (cellAt_int l i).1 ≤ (textAt ts i).size
theorem textAt_in {ts : List ByteArray} {i : Int} (h3 : ts.length = 3) (h0 : 0 ≤ i) (h1 : i < 3) : ts[i.toNat]? = some (textAt ts i) := by
  rw [textAt, if_pos ⟨h0, h1⟩, List.getElem?_eq_getElem (by omega)]; rfl
theorem cellAt_int_set {l : List (Int × Int)} {i : Int} (h0 : 0 ≤ i) (h1 : i < l.length) (x : Int × Int) (j : Int) : cellAt_int (l.set i.toNat x) j = if j = i then x else cellAt_int l j := by
  unfold cellAt_int
  by_cases hj : 0 ≤ j
  · rw [if_pos hj, if_pos hj]
    by_cases he : j = i
    · subst he
      rw [if_pos rfl, List.getElem?_set_self (by omega)]; rfl
    · rw [if_neg he, List.getElem?_set_ne (by omega)]
  · rw [if_neg hj, if_neg hj, if_neg (fun he => hj (by omega))]
theorem FeedOk.take {ts : List ByteArray} {l : List (Int × Int)} (k : FeedOk ts l) (i place v : Int) : FeedOk ts (takeL ts l i place v) := by
  unfold takeL
  split
  · rename_i h
    unfold takeB at h
    rw [decide_eq_true_eq] at h
    obtain ⟨h0, h1, h2, h3⟩ := h
    have l3 := k.l3
    refine ⟨k.t3, by rw [List.length_set]; exact k.l3, k.size, fun j => ?_⟩
    rw [cellAt_int_set h0 (by omega)]
    have := k.place i
    split
    · rename_i e; subst e; exact ⟨by omega, h3⟩
    · exact k.place j
  · exact k
section
variable {B : RO} {h : Heap} {kF kR kM : Nat} {ts : List ByteArray} {l l' : List (Int × Int)}
theorem feed_text (hf : h kF = some (feedO ts kR)) (h3 : ts.length = 3) {i : Int} (h0 : 0 ≤ i) (h1 : i < 3) : cellH B h (Addr.add ⟨kF, 0, none⟩ (i.toNat * 1)) = some (.string (textAt ts i)) := by
  rw [addr_more, Nat.mul_one]
  exact cellH_vec hf (plains_mid Value.string [] _ ts i.toNat _ (textAt_in h3 h0 h1))
theorem feed_ptr (hf : h kF = some (feedO ts kR)) (h3 : ts.length = 3) : cellH B h (Addr.add ⟨kF, 0, none⟩ 3) = some (.pointer (some ⟨kR, 0, none⟩)) := by
  rw [addr_more, Nat.zero_add]
  refine cellH_vec hf ?_
  have := plains_mid (fun x : Option Addr => Value.pointer x) (ts.map Value.string) [] [some ⟨kR, 0, none⟩] 0 _ rfl
  rw [List.length_map, h3] at this
  exact this
theorem feed_is_wp {i : Int} {p : Addr} {Q : Bool → Heap → Prop} (hQ : Q (decide (0 ≤ i ∧ i < 3)) h) : C_feed_Feed_is B (some p) i h Q := by
  refine C_feed_Feed_is.of ?_
  unfold S_feed_Feed_is
  refine ⟨fun e => (by cases e), fun _ => ⟨fun h0 => Fin.of ?_, fun h0 => Fin.of ?_⟩⟩
  · have : decide (i < 3) = decide (0 ≤ i ∧ i < 3) := by rw [decide_eq_decide]; exact ⟨fun x => ⟨by omega, x⟩, fun x => x.2⟩
    rw [this]; exact hQ
  · rw [decide_eq_false (by omega)] at hQ; exact hQ
theorem feed_place_wp {i : Int} {Q : Int → Int → Heap → Prop} (h3 : ts.length = 3) (hf : h kF = some (feedO ts kR)) (hr : h kR = some (rowO_int l)) (hQ : Q (cellAt_int l i).1 (cellAt_int l i).2 h) : C_feed_Feed_Place B (some ⟨kF, 0, none⟩) i h Q := by
  refine C_feed_Feed_Place.of ?_
  unfold S_feed_Feed_Place
  exact ⟨fun e => (by cases e), fun _ => ⟨_, rfl, _, feed_ptr hf h3, get_wp_int (rowO_int_v hr) (Fin.of hQ)⟩⟩
theorem feed_text_wp {i : Int} {Q : ByteArray → Heap → Prop} (h3 : ts.length = 3) (hf : h kF = some (feedO ts kR)) (hQ : Q (textAt ts i) h) : C_feed_Feed_Text B (some ⟨kF, 0, none⟩) i h Q := by
  refine C_feed_Feed_Text.of ?_
  unfold S_feed_Feed_Text
  refine feed_is_wp ⟨fun hT => ?_, fun hF => Fin.of ?_⟩
  · rw [decide_eq_true_eq] at hT
    exact ⟨_, rfl, hT.1, hT.2, _, feed_text hf h3 hT.1 hT.2, Fin.of hQ⟩
  · rw [decide_eq_false_iff_not] at hF
    rw [textAt, if_neg hF] at hQ; exact hQ
theorem feed_at_wp {i place : Int} {Q : Int → Heap → Prop} (h3 : ts.length = 3) (hf : h kF = some (feedO ts kR)) (hQ : Q (atOf ts i place) h) : C_feed_Feed_At B (some ⟨kF, 0, none⟩) i place h Q := by
  refine C_feed_Feed_At.of ?_
  unfold S_feed_Feed_At
  refine feed_is_wp ⟨fun hT => ⟨fun hp => Fin.of ?_, fun hp => ?_⟩, fun hF => Fin.of ?_⟩
  · rw [atOf, if_neg (by omega)] at hQ; exact hQ
  · rw [decide_eq_true_eq] at hT
    refine ⟨_, rfl, hT.1, hT.2, _, feed_text hf h3 hT.1 hT.2, fun hg => Fin.of ?_, fun hg => Fin.of ?_⟩
    · rw [atOf, if_neg (by omega)] at hQ; exact hQ
    · unfold S_feed_Feed_At_J1
      refine ⟨_, rfl, hT.1, hT.2, _, feed_text hf h3 hT.1 hT.2, by omega, by omega, Fin.of ?_⟩
      rw [atOf, if_pos ⟨hT.1, hT.2, by omega, by omega⟩] at hQ
      have := byteAt_bound (textAt ts i) place.toNat
      rw [w64 (by omega) (by omega)]; exact hQ
  · rw [decide_eq_false_iff_not] at hF
    rw [atOf, if_neg (by omega)] at hQ; exact hQ
theorem feed_take_wp {i place v : Int} {Q : Bool → Heap → Prop} (k : FeedOk ts l) (hf : h kF = some (feedO ts kR)) (hr : h kR = some (rowO_int l)) (hQ : Q (takeB ts l i place) (h.set kR (rowO_int (takeL ts l i place v)))) : C_feed_Feed_Take B (some ⟨kF, 0, none⟩) i place v h Q := by
  refine C_feed_Feed_Take.of ?_
  unfold S_feed_Feed_Take
  have no : ¬ (0 ≤ i ∧ i < 3 ∧ (cellAt_int l i).1 ≤ place ∧ place ≤ (textAt ts i).size) → Q false h := fun hn => by
    have e : takeB ts l i place = false := by rw [takeB, decide_eq_false hn]
    rw [takeL, e, if_neg (by decide), Heap.set_self _ _ _ hr] at hQ
    exact hQ
  refine feed_place_wp k.t3 hf hr (feed_is_wp ⟨fun hT => ⟨fun hp => Fin.of (no (by omega)), fun hp => ?_⟩, fun hF => Fin.of (no ?_)⟩)
  · rw [decide_eq_true_eq] at hT
    refine ⟨_, rfl, hT.1, hT.2, _, feed_text hf k.t3 hT.1 hT.2, fun hg => Fin.of (no (by omega)), fun hg => Fin.of ?_⟩
    unfold S_feed_Feed_Take_J1
    have e : takeB ts l i place = true := by rw [takeB, decide_eq_true_eq]; omega
    have l3 := k.l3
    rw [takeL, e, if_pos rfl] at hQ
    exact ⟨_, rfl, _, feed_ptr hf k.t3, set_wp_int hr (fun _ _ => Fin.of hQ) (fun hn => absurd (show 0 ≤ i ∧ i < (l.length : Int) by omega) hn)⟩
  · rw [decide_eq_false_iff_not] at hF
    omega
def ts0 : List ByteArray := [ByteArray.empty, ByteArray.empty, ByteArray.empty]
def fl0 : List (Int × Int) := [(0, 0), (0, 0), (0, 0)]
theorem FeedOk.zero : FeedOk ts0 fl0 := by
  have key : ∀ i : Int, textAt ts0 i = ByteArray.empty ∧ (cellAt_int fl0 i) = (0, 0) := fun i => by
    by_cases h : 0 ≤ i ∧ i < 3
    · have : i = 0 ∨ i = 1 ∨ i = 2 := by omega
      rcases this with rfl | rfl | rfl <;> exact ⟨rfl, rfl⟩
    · refine ⟨by rw [textAt, if_neg h]; rfl, ?_⟩
      unfold cellAt_int
      split
      · rw [List.getElem?_eq_none (by simp [fl0]; omega)]; rfl
      · rfl
  exact ⟨rfl, rfl, fun i => by rw [(key i).1]; decide, fun i => by rw [(key i).1, (key i).2]; decide⟩
theorem feed_new_wp {Q : Option Addr → Heap → Prop} (hQ : ∀ kR kF h1 h2, h kR = none → B kR = none → h1 = h.set kR (rowO_int fl0) → h1 kF = none → B kF = none → h2 = h1.set kF (feedO ts0 kR) → Q (some ⟨kF, 0, none⟩) h2) : C_feed_New B h Q := by
  refine C_feed_New.of ?_
  unfold S_feed_New
  refine new_wp_int (by decide) fun kR a1 b1 k4 a4 b4 h5 e5 => Fin.of (hQ kR k4 _ h5 a1 b1 rfl a4 b4 e5)
end
end Go.Proofs.YtgldgabefiialaaGreat.H
namespace Go.Proofs.YtgldgabefiialaaGreat.H
open Go Go.RowKit
set_option linter.unusedVariables false
set_option maxRecDepth 100000
structure StI where
  kd : Nat
  vd : Value
  rd : Option (Nat × AObj)
  ks : Nat
  kf : Nat
  vf : Value
  rf : Option (Nat × AObj)
  kc : Nat
structure StV where
  d : List (Int × Int)
  f : List (Int × (Bool × ByteArray))
  c0 : Int
  c1 : Int
  c2 : Int
def StV.z : StV := ⟨[], [], 0, 0, 0⟩
def shO (kf : Nat) : AObj := .vec TY.sheet_Sheet (plains [.pointer (some ⟨kf, 0, none⟩)]) 1
def curO (s : StV) : AObj := .vec TY.cursor_Cursor (plains [.int .i64 s.c0, .int .i64 s.c1, .int .i64 s.c2]) 3
def StI.e (x : StI) (s : StV) : List (Option (Nat × AObj)) := [some (x.kd, drO_int x.vd), x.rd, some (x.ks, shO x.kf), some (x.kf, drO_file_File x.vf), x.rf, some (x.kc, curO s)]
structure StI.Ok (x : StI) (s : StV) : Prop where
  d : DRow_int x.rd x.vd s.d
  f : DRow_file_File x.rf x.vf s.f
structure StAt (L : List (Option (Nat × AObj))) (i : Nat) (x : StI) (s : StV) : Prop where
  d : DAt_int L i x.kd x.vd x.rd
  sh : L[i + 2]? = some (some (x.ks, shO x.kf))
  f : DAt_file_File L (i + 3) x.kf x.vf x.rf
  c : L[i + 5]? = some (some (x.kc, curO s))
theorem StAt.app {L M : List (Option (Nat × AObj))} {i : Nat} {x : StI} {s : StV} (A : StAt L i x s) : StAt (L ++ M) i x s :=
  ⟨⟨up_app _ A.d.p, up_app _ A.d.q⟩, up_app _ A.sh, ⟨up_app _ A.f.p, up_app _ A.f.q⟩, up_app _ A.c⟩
structure Reg4 where
  a : Int
  b : Int
  c : Int
  d : Int
structure MarkR where
  x : StI
  g : Reg4
  m : Reg4
  place : Int
def MarkR.cells (m : MarkR) : List Value := [.pointer (some ⟨m.x.kd, 0, none⟩), .pointer (some ⟨m.x.ks, 0, none⟩), .pointer (some ⟨m.x.kc, 0, none⟩), .int .i64 m.g.a, .int .i64 m.g.b, .int .i64 m.g.c, .int .i64 m.g.d, .int .i64 m.m.a, .int .i64 m.m.b, .int .i64 m.m.c, .int .i64 m.m.d, .int .i64 m.place]
theorem MarkR.len (m : MarkR) : m.cells.length = 12 := rfl
theorem MarkR.one (m : MarkR) : ∀ y ∈ m.cells, isOne y = true := fun y hy => by
  simp only [MarkR.cells, List.mem_cons, List.not_mem_nil, or_false] at hy
  rcases hy with rfl | rfl | rfl | rfl | rfl | rfl | rfl | rfl | rfl | rfl | rfl | rfl <;> rfl
def skO (v : Value) : AObj := .vec TY.mark_Stack (plains [v]) 1
def MRow (r : Option (Nat × AObj)) (v : Value) (l : List MarkR) : Prop := Row r v TY.mark_Mark 12 (l.flatMap MarkR.cells)
structure SkAt (L : List (Option (Nat × AObj))) (i k : Nat) (v : Value) (r : Option (Nat × AObj)) : Prop where
  p : L[i]? = some (some (k, skO v))
  q : L[i + 1]? = some r
section
variable {B : RO} {h0 h h' : Heap} {L : List (Option (Nat × AObj))} {r : Option (Nat × AObj)} {i j k : Nat} {a : Option Addr} {m c : Nat} {v : Value} {l : List MarkR} {x : StI} {s : StV} {g mm : Reg4} {place : Int}
theorem sheet_new_wp {Q : Option Addr → Heap → Prop} (hQ : ∀ ks kf h', Keep B h [some (ks, shO kf), some (kf, drO_file_File (.slice none 0 0)), none] h' → Q (some ⟨ks, 0, none⟩) h') : C_sheet_New B h Q := by
  refine C_sheet_New.of ?_
  unfold S_sheet_New
  intro k2 a2 b2 h3 e3 k4 a4 b4 h5 e5
  have E := ((Keep.nil B h).made a2 b2 e3).made a4 b4 e5
  exact Fin.of (hQ k4 k2 h5 (E.picks [1, 0, 9] (by decide)))
theorem fresh_wp {Q : Option Addr → Option Addr → Option Addr → Int → Int → Int → Int → Heap → Prop} (hQ : ∀ x h', StI.Ok x StV.z → Keep B h (x.e StV.z) h' → Q (some ⟨x.kd, 0, none⟩) (some ⟨x.ks, 0, none⟩) (some ⟨x.kc, 0, none⟩) g.a g.b g.c g.d h') : C_mark_Fresh B g.a g.b g.c g.d h Q := by
  refine C_mark_Fresh.of ?_
  unfold S_mark_Fresh
  intro k12 a12 b12 h13 e13 k14 a14 b14 h15 e15
  have E := ((Keep.nil B h).made a12 b12 e13).made a14 b14 e15
  have c12 : ∀ {M : List (Option (Nat × AObj))} {h1 : Heap}, Keep B h ([] ++ [some (k12, AObj.vec TY.api_Regs (plains [.int .i64 g.a, .int .i64 g.b, .int .i64 g.c, .int .i64 g.d]) 4)] ++ M) h1 → CellsAt B h1 ⟨k12, 0, none⟩ 0 [.int .i64 g.a, .int .i64 g.b, .int .i64 g.c, .int .i64 g.d] := fun {M h1} E1 => ⟨E1.cell 0 rfl rfl, E1.cell 0 rfl rfl, E1.cell 0 rfl rfl, E1.cell 0 rfl rfl, trivial⟩
  have fin : ∀ {kd ks kf kc : Nat} {h1 : Heap}, Keep B h [some (k14, .vec TY.mark_State (plains [.pointer none, .pointer none, .pointer none, .int .i64 0, .int .i64 0, .int .i64 0, .int .i64 0]) 7), some (kd, drO_int (.slice none 0 0)), some (ks, shO kf), some (kf, drO_file_File (.slice none 0 0)), some (kc, curO StV.z)] h1 → ∃ h2, StoresAt ⟨k14, 0, none⟩ h1 0 [.pointer (some ⟨kd, 0, none⟩), .pointer (some ⟨ks, 0, none⟩), .pointer (some ⟨kc, 0, none⟩), .int .i64 g.a, .int .i64 g.b, .int .i64 g.c, .int .i64 g.d] h2 ∧ ∃ p33 : Option Addr, ∃ p34 : Option Addr, ∃ p35 : Option Addr, ∃ i36 : Int, ∃ i37 : Int, ∃ i38 : Int, ∃ i39 : Int, CellsAt B h2 ⟨k14, 0, none⟩ 0 [(Value.pointer p33), (Value.pointer p34), (Value.pointer p35), (Value.int .i64 (i36)), (Value.int .i64 (i37)), (Value.int .i64 (i38)), (Value.int .i64 (i39))] ∧ Fin B h2 (Q p33 p34 p35 (i36) (i37) (i38) (i39)) := fun {kd ks kf kc h1} E1 => by
    refine ⟨_, stores_whole (E1.at 0 rfl) rfl (by simp) (by simp [isOne]) (by simp), ?_⟩
    have E2 := E1.put (o' := .vec TY.mark_State (plains [.pointer (some ⟨kd, 0, none⟩), .pointer (some ⟨ks, 0, none⟩), .pointer (some ⟨kc, 0, none⟩), .int .i64 g.a, .int .i64 g.b, .int .i64 g.c, .int .i64 g.d]) 7) 0 rfl
    refine ⟨_, _, _, _, _, _, _, ⟨E2.cell 0 rfl rfl, E2.cell 0 rfl rfl, E2.cell 0 rfl rfl, E2.cell 0 rfl rfl, E2.cell 0 rfl rfl, E2.cell 0 rfl rfl, E2.cell 0 rfl rfl, trivial⟩, Fin.of ?_⟩
    exact hQ ⟨kd, .slice none 0 0, none, ks, kf, .slice none 0 0, none, kc⟩ _ ⟨Row.nil _ _, Row.nil _ _⟩ (E2.picks [1, 9, 2, 3, 10, 4] (by decide))
  refine ⟨_, _, _, _, c12 E, fun k23 a23 b23 h24 e24 => ?_, ?_, fun k85 a85 b85 h86 e86 => ?_⟩
  · have E1 := E.made a23 b23 e24
    refine ⟨⟨E1.cell 0 rfl rfl, E1.cell 0 rfl rfl, E1.cell 0 rfl rfl, E1.cell 0 rfl rfl, trivial⟩, sheet_new_wp fun ks kf h26 E2 => ?_, fun k40 a40 b40 h41 e41 => ?_⟩
    · have E3 := E1.append E2
      refine ⟨⟨E3.cell 0 rfl rfl, E3.cell 0 rfl rfl, E3.cell 0 rfl rfl, E3.cell 0 rfl rfl, trivial⟩, fun k29 a29 b29 h30 e30 => ?_⟩
      have E4 := E3.made a29 b29 e30
      exact ⟨⟨E4.cell 0 rfl rfl, E4.cell 0 rfl rfl, E4.cell 0 rfl rfl, E4.cell 0 rfl rfl, trivial⟩, fin (E4.picks [1, 2, 3, 4, 6] (by decide))⟩
    · have E3 := E1.made a40 b40 e41
      refine ⟨⟨E3.cell 0 rfl rfl, E3.cell 0 rfl rfl, E3.cell 0 rfl rfl, E3.cell 0 rfl rfl, trivial⟩, sheet_new_wp fun ks kf h26 E2 => ?_⟩
      have E4 := E3.append E2
      exact ⟨⟨E4.cell 0 rfl rfl, E4.cell 0 rfl rfl, E4.cell 0 rfl rfl, E4.cell 0 rfl rfl, trivial⟩, fin (E4.picks [1, 2, 4, 5, 3] (by decide))⟩
  · refine sheet_new_wp fun ks kf h54 E2 => ?_
    have E3 := E.append E2
    refine ⟨⟨E3.cell 0 rfl rfl, E3.cell 0 rfl rfl, E3.cell 0 rfl rfl, E3.cell 0 rfl rfl, trivial⟩, fun k57 a57 b57 h58 e58 => ?_, fun k71 a71 b71 h72 e72 => ?_⟩
    · have E4 := E3.made a57 b57 e58
      refine ⟨⟨E4.cell 0 rfl rfl, E4.cell 0 rfl rfl, E4.cell 0 rfl rfl, E4.cell 0 rfl rfl, trivial⟩, fun k60 a60 b60 h61 e61 => ?_⟩
      have E5 := E4.made a60 b60 e61
      exact ⟨⟨E5.cell 0 rfl rfl, E5.cell 0 rfl rfl, E5.cell 0 rfl rfl, E5.cell 0 rfl rfl, trivial⟩, fin (E5.picks [1, 5, 2, 3, 6] (by decide))⟩
    · have E4 := E3.made a71 b71 e72
      refine ⟨⟨E4.cell 0 rfl rfl, E4.cell 0 rfl rfl, E4.cell 0 rfl rfl, E4.cell 0 rfl rfl, trivial⟩, fun k74 a74 b74 h75 e75 => ?_⟩
      have E5 := E4.made a74 b74 e75
      exact ⟨⟨E5.cell 0 rfl rfl, E5.cell 0 rfl rfl, E5.cell 0 rfl rfl, E5.cell 0 rfl rfl, trivial⟩, fin (E5.picks [1, 6, 2, 3, 5] (by decide))⟩
  · have E1 := E.made a85 b85 e86
    refine ⟨⟨E1.cell 0 rfl rfl, E1.cell 0 rfl rfl, E1.cell 0 rfl rfl, E1.cell 0 rfl rfl, trivial⟩, fun k88 a88 b88 h89 e89 => ?_, sheet_new_wp fun ks kf h102 E2 => ?_⟩
    · have E3 := E1.made a88 b88 e89
      refine ⟨⟨E3.cell 0 rfl rfl, E3.cell 0 rfl rfl, E3.cell 0 rfl rfl, E3.cell 0 rfl rfl, trivial⟩, sheet_new_wp fun ks kf h91 E2 => ?_⟩
      have E4 := E3.append E2
      exact ⟨⟨E4.cell 0 rfl rfl, E4.cell 0 rfl rfl, E4.cell 0 rfl rfl, E4.cell 0 rfl rfl, trivial⟩, fin (E4.picks [1, 3, 4, 5, 2] (by decide))⟩
    · have E3 := E1.append E2
      refine ⟨⟨E3.cell 0 rfl rfl, E3.cell 0 rfl rfl, E3.cell 0 rfl rfl, E3.cell 0 rfl rfl, trivial⟩, fun k105 a105 b105 h106 e106 => ?_⟩
      have E4 := E3.made a105 b105 e106
      exact ⟨⟨E4.cell 0 rfl rfl, E4.cell 0 rfl rfl, E4.cell 0 rfl rfl, E4.cell 0 rfl rfl, trivial⟩, fin (E4.picks [1, 6, 3, 4, 2] (by decide))⟩
theorem MRow.len (R : MRow r (.slice a m c) l) : m = l.length := (Row.rd (B := fun _ => none) R MarkR.len (by omega)).1
end
end Go.Proofs.YtgldgabefiialaaGreat.H
namespace Go.Proofs.YtgldgabefiialaaGreat.H
open Go Go.RowKit
set_option linter.unusedVariables false
set_option maxRecDepth 100000
def dallF (k3 : Nat) : Value := Value.func (.func FN.draft_Draft_int_All_1) #[] #[(Value.pointer (some ⟨k3, 0, none⟩))]
def encD (x : Int × Int) : List Value := [.int .i64 x.1, .int .i64 x.2]
def dG (k3 k : Nat) (v : Value) (r : Option (Nat × AObj)) (h : Heap) : Prop :=
  h k3 = some (.vec TY.p_draft_Draft_int [.plain (.pointer (some ⟨k, 0, none⟩))] 1) ∧ h k = some (drO_int v) ∧ ∀ k o, r = some (k, o) → h k = some o
theorem dG_ins {k3 kk : Nat} {v : Value} {r : Option (Nat × AObj)} : Ins (dG k3 kk v r) := by
  rintro h k o hk ⟨g1, g2, g3⟩
  exact ⟨Heap.get_new hk g1, Heap.get_new hk g2, fun k' o' e => Heap.get_new hk (g3 k' o' e)⟩
section
variable {B : RO} {h0 h h' : Heap} {L : List (Option (Nat × AObj))} {r : Option (Nat × AObj)} {i k k3 : Nat} {a : Option Addr} {m c : Nat} {v : Value} {l : List (Int × Int)} {n : Int}
theorem dall_wp {p : Option Addr} {Q : Value → Heap → Prop} (hQ : ∀ k, h k = none → B k = none → Q (dallF k) (h.set k (.vec TY.p_draft_Draft_int [.plain (.pointer p)] 1))) : C_draft_Draft_int_All B p h Q := by
  refine C_draft_Draft_int_All.of ?_
  unfold S_draft_Draft_int_All
  intro k a1 b1 h4 e4
  subst e4
  exact Fin.of (hQ k a1 b1)
theorem dall_iter (R : DRow_int r v l) (hlen : l.length ≤ 100000) : Iter PG B (dallF k3) (l.map encD) (dG k3 k v r) := by
  refine ⟨_, _, _, rfl, TG.draft_Draft_int_All_1, fun y J X h hy hG h0 hcall => ?_⟩
  have main : C_draft_Draft_int_All_1 B y ⟨k3, 0, none⟩ h (fun h' => Fin B h' (fun h'' => J (l.map encD).length h'' ∨ X h'')) := by
    refine C_draft_Draft_int_All_1.of ?_
    unfold S_draft_Draft_int_All_1
    obtain ⟨a, m, c, rfl⟩ := Row.slice R
    obtain ⟨rfl, hrd⟩ := Row.rd (B := B) R entC_int_len (by omega)
    obtain ⟨g1, g2, g3⟩ := hG 0 h h0
    refine ⟨_, cellH_vec g1 rfl, fun e => (by cases e), fun _ => ⟨_, cellH_vec g1 rfl, _, rfl, .inl ⟨a, _, c, cellH_vec g2 rfl, ?_⟩⟩⟩
    refine ⟨fun i m' h' => ∃ j : Nat, j ≤ l.length ∧ i = j ∧ m' = l.length - j ∧ J j h', l.length, Fin.of ⟨0, by omega, rfl, by omega, h0⟩, ?_⟩
    rintro _ _ h13 ⟨j, hj, rfl, rfl, hJ⟩
    obtain ⟨g1, g2, g3⟩ := hG j h13 hJ
    refine ⟨fun hlt => ?_, fun hge => Fin.of ?_⟩
    · have hj' : j < l.length := by omega
      have hx := List.getElem?_eq_getElem hj'
      generalize l[j] = x at hx
      obtain ⟨A, e, _, q⟩ := hrd h13 g3 j _ hx
      refine ⟨A, e, by omega, hlt, x.1, x.2, q, fun k24 a24 b24 h25 e25 => ?_⟩
      obtain ⟨g25, l25, -⟩ := Heap.made a24 e25
      refine ⟨_, stores_whole g25 rfl (by simp) (by simp [isOne]) (by simp), ?_⟩
      generalize e26 : h25.set k24 _ = h26
      obtain ⟨g26, -, -⟩ := Heap.put e26
      refine ⟨_, cellH_vec g26 rfl, _, cellH_vec g26 rfl, ?_⟩
      have w : Wk B h13 h26 := by
        rw [← e26, e25, Heap.set_set]; exact Wk.new a24 b24
      have hc := hcall j h13 (encD x) (by rw [List.getElem?_map, hx]; rfl) hJ
      refine CallV.mono ?_ (hc.weaken w)
      rintro v h27 ⟨h28, t1, h29, t2, hor⟩
      rcases hor with ⟨rfl, hJ'⟩ | ⟨rfl, hX⟩
      · refine ⟨true, rfl, fun _ => ⟨h29, t1.trans t2, l.length - (j + 1), by omega, j + 1, by omega, ?_, rfl, hJ'⟩, fun e => by cases e⟩
        rw [w64 (by omega) (by omega)]; omega
      · exact ⟨false, rfl, fun e => (by cases e), fun _ => ⟨h29, t1.trans t2, Fin.of (.inr hX)⟩⟩
    · have : j = l.length := by omega
      subst this
      refine Fin.of (.inl ?_)
      rw [List.length_map]
      exact hJ
  exact Spec.mono main fun v h' q => q.2
end
end Go.Proofs.YtgldgabefiialaaGreat.H
