/- Redo: the document's answers: contracts. No condition. -/
import Derived.Test.YthloobpjkeodgaaRd
import Derived.Test.YthloobpjkeodgaaKc
import Derived.Test.YthloobpjkeodgaaXrT
namespace Go.Proofs.Ythloobpjkeodgaa.H
open Go Go.RowKit
set_option linter.unusedVariables false
set_option maxRecDepth 100000

def lastC (acc : DFL) : Int := (acc.getLast?.map (·.1)).getD (-1)
theorem lastC_nil : lastC [] = -1 := rfl
theorem lastC_snoc (acc : DFL) (x : ChR) : lastC (acc ++ [x]) = x.1 := by unfold lastC; simp
section
variable {B : RO} {h0 h h' : Heap} {L : List (Option (Nat × AObj))} {r : Option (Nat × AObj)} {i k kT kR : Nat} {a : Option Addr} {m c : Nat} {v : Value} {xs : DFL} {l : FL} {s : ByteArray} {l0 : List UInt8}
theorem ref18_nat_wp {l : List UInt8} {most : Int} {m : Nat} {Q : Int → ByteArray → Bool → Heap → Prop} (hm : most = m) (hm2 : m ≤ 9223372036854775807) (hs : l.length ≤ 1099511627776) (hN : natT m l = none → Q 0 (ByteArray.mk #[]) false h) (hS : ∀ (n : Nat) (r : List UInt8), natT m l = some (n, r) → Q n (ba r) true h) : C_countermandref18_nat B (ba l) most h Q := by
  subst hm
  refine C_countermandref18_nat.of ?_
  unfold S_countermandref18_nat
  refine taken_wp (by rw [ba_size]; exact hs) ?_
  rw [bl_ba]
  cases hw : wordOf l with
  | none =>
    have et : takenOf l = (0, 0) := by rw [takenOf, hw]
    rw [et]
    exact ⟨fun _ => Fin.of (hN (by rw [natT, hw])), fun hn => absurd rfl hn⟩
  | some p =>
    obtain ⟨n, rr⟩ := p
    have et : takenOf l = (n, l.length - rr.length) := by rw [takenOf, hw]
    obtain ⟨el, ei⟩ := wordOf_eq hw
    have hp := natB_pos n
    have hlen : l.length = (natB n).length + rr.length := by rw [el, List.length_append]
    rw [et]
    refine ⟨fun e => by simp only at e; omega, fun _ => ⟨fun h5 => Fin.of (hN (by rw [natT, hw]; simp only at h5 ⊢; rw [if_pos (by omega)])), fun h5 => Fin.of ?_⟩⟩
    simp only at h5
    unfold S_countermandref18_nat_J1
    rw [ba_size]
    simp only [Int.toNat_natCast]
    have ex1 : ByteArray.extract (ba l) (l.length - rr.length) l.length = ba rr := by
      rw [extract_ba_end]
      congr 1
      conv => lhs; rw [el]
      rw [show (natB n ++ rr).length - rr.length = (natB n).length by rw [List.length_append]; omega, List.drop_left]
    rw [ex1, w64 (n := ((n : Nat) : Int)) (by omega) (by omega)]
    exact ⟨by omega, by omega, by omega, Fin.of (hS n rr (by rw [natT, hw]; simp only; rw [if_neg (by omega)]))⟩
theorem ref18_read_wp {Q : Int → Option Addr → Nat → Nat → Bool → Heap → Prop} (E : Keep B h0 L h) (hsz : l0.length ≤ 1000000000) (hN : loadOf l0 = none → ∀ h', Keep B h0 L h' → Q 0 none 0 0 false h')
    (hS : ∀ n xs, loadOf l0 = some (n, xs) → ∀ a c r h', Row r (.slice a xs.length c) TY.countermandref18_Change 3 (xs.flatMap entC_file_File) → Keep B h0 (L ++ [r]) h' → Q n a xs.length c true h') : C_countermandref18_Read B (ba l0) h Q := by
  refine C_countermandref18_Read.of ?_
  unfold S_countermandref18_Read
  refine ref18_nat_wp (m := 1099511627776) rfl (by omega) (by omega) (fun hn => ⟨fun e => (by cases e), fun _ => Fin.of (hN (loadOf_none hn) _ E)⟩) fun n0 lr hn => ⟨fun _ => ?_, fun e => by cases e⟩
  have hlo := loadOf_eq hn
  have hlr : lr.length ≤ l0.length := by rw [(natT_eq hn).1, List.length_append]; omega
  refine ⟨fun s a n c m h' => ∃ (l : List UInt8) (acc : DFL) (r : Option (Nat × AObj)), s = ba l ∧ n = acc.length ∧ m = l.length ∧ l.length ≤ l0.length ∧ -1 ≤ lastC acc ∧ lastC acc ≤ 5 ∧ (acc.length : Int) ≤ lastC acc + 1 ∧ Row r (.slice a acc.length c) TY.countermandref18_Change 3 (acc.flatMap entC_file_File) ∧ (loadOf l0 = (readC l (lastC acc)).map fun ys => (n0, acc ++ ys)) ∧ Keep B h0 (L ++ [r]) h', lr.length, Fin.of ⟨lr, [], none, rfl, rfl, rfl, hlr, by rw [lastC_nil]; omega, by rw [lastC_nil]; omega, by rw [lastC_nil]; simp, Row.nil _ _, hlo, E.gap⟩, ?_⟩
  clear E hlo
  rintro _ a _ c _ h15 ⟨l, acc, r, rfl, rfl, rfl, hll, q1, q2, q3, R, i3, E⟩
  refine ⟨fun hpos => ?_, fun hz => Fin.of ?_⟩
  · rw [ba_size] at hpos
    have hne : l ≠ [] := fun e => by rw [e] at hpos; simp at hpos
    have nope : ∀ {h1 : Heap} {M : List (Option (Nat × AObj))}, readC l (lastC acc) = none → Keep B h0 (L ++ M) h1 → Q 0 none 0 0 false h1 := fun {h1 M} e1 E1 => hN (by rw [i3, e1]; rfl) _ E1.zM
    intro k21 a21 b21 h22 e22
    have E1 := E.nM a21 b21 e22
    refine ⟨_, stores_whole (E1.gM 1 rfl) rfl (by simp) (by simp [isOne]) (by simp), ?_⟩
    have E2 := E1.pM (o' := .vec TY.countermandref18_Change (plains [.int .i64 0, .bool false, .string ByteArray.empty]) 3) 1 rfl
    refine ref18_nat_wp (m := 5) rfl (by omega) (by omega) (fun t0 => ⟨fun e => (by cases e), fun _ => ?_⟩) fun ix r1 t0 => ⟨fun _ => ?_, fun e => by cases e⟩
    · refine ⟨_, storeH_vec (E2.gM 1 rfl) rfl, Fin.of ?_⟩
      have E3 := E2.pM (o' := .vec TY.countermandref18_Change (plains [.int .i64 0, .bool false, .string ByteArray.empty]) 3) 1 rfl
      unfold S_countermandref18_Read_J1
      exact ⟨fun e => (by cases e), fun _ => Fin.of (nope (readC_none hne (stepC_0 t0)) E3)⟩
    · have hr1 : r1.length < l.length := by
        have := natB_pos ix
        rw [(natT_eq t0).1, List.length_append]; omega
      refine ⟨_, storeH_vec (E2.gM 1 rfl) rfl, ?_⟩
      have E3 := E2.pM (o' := .vec TY.countermandref18_Change (plains [.int .i64 (ix : Nat), .bool false, .string ByteArray.empty]) 3) 1 rfl
      refine ref18_nat_wp (m := 1) rfl (by omega) (by omega) (fun t1 => ⟨fun e => (by cases e), fun _ => Fin.of ?_⟩) fun kx r2 t1 => ⟨fun _ => Fin.of ?_, fun e => by cases e⟩
      · unfold S_countermandref18_Read_J5
        exact ⟨fun e => (by cases e), fun _ => Fin.of (nope (readC_none hne (stepC_1 t0 t1)) E3)⟩
      · have hr2 : r2.length < r1.length := by
          have := natB_pos kx
          rw [(natT_eq t1).1, List.length_append]; omega
        -- a change too low: none
        have low : (ix : Int) ≤ lastC acc → readC l (lastC acc) = none := fun hle => by
          cases hst : stepC l with
          | none => exact readC_none hne hst
          | some p =>
            obtain ⟨x, rr⟩ := p
            have hxi : x.1 = (ix : Int) := by
              by_cases hk : kx = 1
              · subst hk
                cases t2 : natT 32 r2 with
                | none => rw [stepC_2 t0 t1 t2] at hst; cases hst
                | some p =>
                  obtain ⟨n, r3⟩ := p
                  by_cases hs : r3.length < n
                  · rw [stepC_3 t0 t1 t2 hs] at hst; cases hst
                  · rw [stepC_on t0 t1 t2 hs] at hst; cases hst; rfl
              · rw [stepC_off t0 t1 hk] at hst; cases hst; rfl
            rw [readC_some hst, if_pos (by omega)]
        -- a change: the end of the turn
        have go : ∀ {h1 : Heap} {x : ChR} {rr : List UInt8}, stepC l = some (x, rr) → lastC acc < x.1 → Keep B h0 (L ++ [r, some (k21, .vec TY.countermandref18_Change (plains (entC_file_File x)) 3)]) h1 → ∀ k47 : Nat, h1 k47 = none → B k47 = none → ∀ h48 : Heap, h48 = Heap.set h1 k47 (.vec TY.countermandref18_Change (plains (entC_file_File x)) 3) →
            semH PG B (Builtin.append_ #[TY.s_countermandref18_Change, TY.s_countermandref18_Change] TY.s_countermandref18_Change #[(Value.slice a acc.length c), (Value.slice (some ⟨k47, 0, none⟩) 1 1)]) h48 (fun v h49 => ∃ a50 : Option Addr, ∃ n51 : Nat, ∃ c52 : Nat, v = (Value.slice a50 n51 c52) ∧
              Fin B h49 (fun h' => ∃ m', m' < l.length ∧ ∃ (l : List UInt8) (acc : DFL) (r : Option (Nat × AObj)), ba rr = ba l ∧ n51 = acc.length ∧ m' = l.length ∧ l.length ≤ l0.length ∧ -1 ≤ lastC acc ∧ lastC acc ≤ 5 ∧ (acc.length : Int) ≤ lastC acc + 1 ∧ Row r (.slice a50 acc.length c52) TY.countermandref18_Change 3 (acc.flatMap entC_file_File) ∧ (loadOf l0 = (readC l (lastC acc)).map fun ys => (n0, acc ++ ys)) ∧ Keep B h0 (L ++ [r]) h')) := fun {h1 x rr} e1 hgt E1 k47 a47 b47 h48 e48 => by
          obtain ⟨⟨g1, g2, g3⟩, -⟩ := stepC_some e1
          have hlt := stepC_lt e1
          have hrd := readC_some (last := lastC acc) e1
          rw [if_neg (by omega)] at hrd
          refine E1.push1 (L.length + 0) (upM 0 rfl) R TK.slc_xch TK.zero_xch rfl (by omega) (by omega) TK.sl_xch (ys := entC_file_File x) rfl (entC_file_File_one x) (by rw [flatMap_length entC_file_File_len, entC_file_File_len]; omega) a47 b47 e48 fun a' m' c' r' h' R' E2 => ⟨a', m', c', rfl, Fin.of ⟨rr.length, hlt, rr, acc ++ [x], r', rfl, ?_, rfl, by omega, by rw [lastC_snoc]; omega, by rw [lastC_snoc]; omega, by rw [lastC_snoc, List.length_append]; simp; omega, ?_, ?_, ?_⟩⟩
          · have := Row.len R'
            rw [List.length_append, flatMap_length entC_file_File_len, entC_file_File_len] at this
            rw [List.length_append, List.length_singleton]; omega
          · have := Row.len R'
            rw [List.length_append, flatMap_length entC_file_File_len, entC_file_File_len] at this
            rw [show m' = (acc ++ [x]).length by rw [List.length_append, List.length_singleton]; omega] at R'
            rw [List.flatMap_append, List.flatMap_singleton]; exact R'
          · rw [i3, hrd, Option.map_map, lastC_snoc]
            congr 1
            funext ys
            simp [List.append_assoc]
          · rw [setM] at E2
            exact E2.tM 1
        have six : lastC acc < (ix : Int) → S_countermandref18_Read_J6 B (n0 : Nat) a acc.length c l.length (fun s a n c m h' => ∃ (l : List UInt8) (acc : DFL) (r : Option (Nat × AObj)), s = ba l ∧ n = acc.length ∧ m = l.length ∧ l.length ≤ l0.length ∧ -1 ≤ lastC acc ∧ lastC acc ≤ 5 ∧ (acc.length : Int) ≤ lastC acc + 1 ∧ Row r (.slice a acc.length c) TY.countermandref18_Change 3 (acc.flatMap entC_file_File) ∧ (loadOf l0 = (readC l (lastC acc)).map fun ys => (n0, acc ++ ys)) ∧ Keep B h0 (L ++ [r]) h') k21 (ba r2) (kx : Nat) _ Q := fun hgt => by
          unfold S_countermandref18_Read_J6
          refine ⟨fun hk => ?_, fun hk => ?_⟩
          · have hk1 : kx = 1 := by omega
            subst hk1
            refine ref18_nat_wp (m := 32) rfl (by omega) (by omega) (fun t2 => ⟨fun e => (by cases e), fun _ => Fin.of (nope (readC_none hne (stepC_2 t0 t1 t2)) E3)⟩) fun n r3 t2 => ⟨fun _ => ⟨fun hs => Fin.of ?_, fun hs => Fin.of ?_⟩, fun e => by cases e⟩
            · rw [ba_size] at hs
              exact nope (readC_none hne (stepC_3 t0 t1 t2 (by omega))) E3
            · rw [ba_size] at hs
              have hs' : ¬ r3.length < n := by omega
              unfold S_countermandref18_Read_J8
              rw [ba_size]
              simp only [Int.toNat_natCast, Int.toNat_zero]
              rw [extract_ba, extract_ba_end]
              obtain ⟨h58, st, E4⟩ := E3.vM 1 (fs := [.int .i64 (ix : Nat)]) (gs := [.bool false, .string ByteArray.empty]) rfl [.bool true, .string (ba (r3.take n))] (by simp [isOne]) 1 rfl (by simp)
              exact ⟨by omega, by omega, by omega, h58, st, by omega, by omega, by omega, (ix : Nat), true, ba (r3.take n), ⟨E4.cM 1 rfl (i := 0) rfl, E4.cM 1 rfl (i := 1) rfl, E4.cM 1 rfl (i := 2) rfl, trivial⟩, go (stepC_on t0 t1 t2 hs') hgt E4⟩
          · exact ⟨(ix : Nat), false, ByteArray.empty, ⟨E3.cM 1 rfl (i := 0) rfl, E3.cM 1 rfl (i := 1) rfl, E3.cM 1 rfl (i := 2) rfl, trivial⟩, go (stepC_off t0 t1 (by omega)) hgt E3⟩
        unfold S_countermandref18_Read_J5
        refine ⟨fun _ => ⟨fun hn13 => ?_, fun hn13 => Fin.of (six ?_)⟩, fun e => by cases e⟩
        · obtain ⟨acc', x, rfl⟩ : ∃ acc' x, acc = acc' ++ [x] := ⟨acc.dropLast, acc.getLast (fun e => by rw [e] at hn13; simp at hn13), (List.dropLast_concat_getLast _).symm⟩
          obtain ⟨-, hrd⟩ := Row.rd (B := B) R entC_file_File_len (by omega)
          have hll : (acc' ++ [x]).length = acc'.length + 1 := by simp
          have hw : IntKind.wrap .i64 ((((acc' ++ [x]).length : Nat) : Int) - 1) = ((acc'.length : Nat) : Int) := by rw [w64 (by omega) (by omega)]; omega
          obtain ⟨A', e1, _, e4⟩ := hrd _ (fun k o e => E3.gM 0 (by rw [← e]; rfl)) acc'.length x (by simp)
          rw [hw]
          simp only [Int.toNat_natCast]
          refine ⟨A', e1, by omega, by omega, x.1, e4.1, (ix : Nat), E3.cM 1 rfl (i := 0) rfl, fun hge => Fin.of (nope (low (by rw [lastC_snoc]; omega)) E3), fun hlt => Fin.of (six (by rw [lastC_snoc]; omega))⟩
        · have : acc = [] := List.length_eq_zero_iff.1 (by omega)
          subst this
          rw [lastC_nil]; omega
  · have hl : l = [] := by
      rw [ba_size] at hz
      exact List.length_eq_zero_iff.1 (by omega)
    subst hl
    rw [readC_nil] at i3
    exact hS n0 acc (by rw [i3]; simp) a c r _ R E
theorem ref18_bytes_wp {n : Int} {Q : ByteArray → Heap → Prop} (hr : Reads B h a 3 entC_file_File xs) (g : ∀ x ∈ xs, GoodC x) (hl : xs.length ≤ 1000) (hn : n ≤ 9223372036854775807) (hQ : Q (ba (loadB n xs)) h) : C_countermandref18_Bytes B n a xs.length c h Q := by
  refine C_countermandref18_Bytes.of ?_
  unfold S_countermandref18_Bytes
  refine refNat_wp hn ?_
  refine ⟨fun s ix m h' => ∃ j : Nat, j ≤ xs.length ∧ ix = j ∧ m = xs.length - j ∧ s = ba (natI n ++ (xs.take j).flatMap chB) ∧ Keep B h [] h', xs.length, Fin.of ⟨0, by omega, rfl, by omega, by simp, Keep.nil B h⟩, ?_⟩
  rintro _ _ _ h10 ⟨j, hj, rfl, rfl, rfl, E⟩
  refine ⟨fun hlt => ?_, fun hge => Fin.ent E.back (Fin.of ?_)⟩
  · have hj' : j < xs.length := by omega
    have hw : IntKind.wrap .i64 ((j : Int) + 1) = ((j + 1 : Nat) : Int) := by rw [w64 (by omega) (by omega)]; omega
    have hx := List.getElem?_eq_getElem hj'
    have gx := g _ (List.getElem_mem hj')
    have hlen := chs_len (xs.take j) (fun x hx => g x (List.mem_of_mem_take hx))
    rw [List.length_take] at hlen
    have hn0 := natI_length hn
    generalize xs[j] = x at hx gx
    obtain ⟨g1, g2, g3⟩ := gx
    have hs : x.2.2.size ≤ 32 := by unfold goodF at g3; simp at g3; exact g3.1
    have hni := natI_length (i := x.1) (by omega)
    have hnb := natB_length (n := x.2.2.size) (by omega)
    obtain ⟨A', e1, _, e4⟩ := (hr.over E.le E.nw) j x hx
    refine ⟨A', e1, by omega, hlt, x.1, x.2.1, x.2.2, e4, fun k21 a21 b21 h22 e22 => ?_⟩
    have E1 := E.made a21 b21 e22
    refine ⟨_, stores_whole E1.last rfl (by simp) (by simp [isOne]) (by simp), ?_⟩
    have E2 := E1.putLast (.vec TY.countermandref18_Change (plains (entC_file_File x)) 3)
    refine ⟨x.1, cellH_vec E2.last rfl, refNat_wp (by omega) ⟨by rw [ba_size, ba_size, List.length_append]; omega, x.2.1, cellH_vec E2.last rfl, fun hb => ⟨?_, x.2.2, cellH_vec E2.last rfl, refText_wp (by omega) ⟨?_, Fin.of ⟨xs.length - (j + 1), by omega, j + 1, by omega, hw, rfl, ?_, E2.pop⟩⟩⟩, fun hb => ⟨?_, Fin.of ⟨xs.length - (j + 1), by omega, j + 1, by omega, hw, rfl, ?_, E2.pop⟩⟩⟩⟩
    · rw [← ba_append, ba_size]; simp only [List.length_append]; show _ + 1 ≤ _; omega
    · rw [← ba_append, show ByteArray.mk #[1] = ba [1] from rfl, ← ba_append, ba_size, ba_size]; simp only [List.length_append, List.length_singleton, bl_length]; omega
    · rw [chs_take hx, chB, if_pos hb, show ByteArray.mk #[1] = ba [1] from rfl, ← ba_append, ← ba_append, ← ba_append]; simp [List.append_assoc]
    · rw [← ba_append, ba_size]; simp only [List.length_append]; show _ + 1 ≤ _; omega
    · rw [chs_take hx, chB, if_neg (by rw [hb]; simp), show ByteArray.mk #[0] = ba [0] from rfl, ← ba_append, ← ba_append]; simp [List.append_assoc]
  · have : j = xs.length := by omega
    subst this
    rw [List.take_length]; exact hQ
end
end Go.Proofs.Ythloobpjkeodgaa.H
