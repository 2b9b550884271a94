/- Redo: the laws' own helpers: contracts. No condition. -/
import Derived.Test.YthloobpjkeodgaaRe
import Derived.Test.YthloobpjkeodgaaXrT
namespace Go.Proofs.Ythloobpjkeodgaa.H
open Go Go.RowKit
set_option linter.unusedVariables false
set_option maxRecDepth 100000

theorem Addr.add2 (A : Addr) (m n : Nat) : (A.add m).add n = A.add (m + n) := by
  unfold Addr.add
  by_cases hm : m = 0
  · subst hm; simp
  · by_cases hn : n = 0
    · subst hn; simp
    · simp [hm, hn, Nat.add_assoc]
theorem eqL_file' (b : Bool) (s : ByteArray) : eqL [Value.bool b, Value.string s] [Value.bool b, Value.string s] = true := by
  have e : (s == s) = true := by cases s with | mk d => exact beq_self_eq_true d
  simp [eqL, leafEq, e]
theorem cur_set {α : Type} (z w : List α) (hl : z.length = w.length) {j : Nat} {x : α} (h : z[j]? = some x) : (z.take j ++ w.drop j).set j x = z.take (j + 1) ++ w.drop (j + 1) := by
  obtain ⟨hj, rfl⟩ := List.getElem?_eq_some_iff.1 h
  have h1 : (z.take j).length = j := by rw [List.length_take]; omega
  rw [List.set_append_right _ _ (by omega), h1, Nat.sub_self, List.drop_eq_getElem_cons (by omega : j < w.length), List.set_cons_zero, List.take_succ_eq_append_getElem hj, List.append_assoc]; rfl
section
variable {B : RO} {h0 h h' : Heap} {L : List (Option (Nat × AObj))} {r : Option (Nat × AObj)} {i k kT kR : Nat} {a a1 : Option Addr} {m c c1 : Nat} {v : Value} {xs list : DFL} {l z : FL} {s : ByteArray}
theorem Keep.fileSet {z : FL} (E : Keep B h0 L h) (i : Nat) {k nn : Nat} {t : TypeId} {zs : List Value} (hi : L[i]? = some (some (k, .vec t (plains (filesC z ++ zs)) nn))) (q : Nat) (hq : q < z.length) (hn : z.length * 2 ≤ nn) (b : Bool) (s : ByteArray) (ver : Int) :
    ∃ h', StoresAt (Addr.add ⟨k, 0, none⟩ (q * 2)) h 0 [.bool b, .string s] h' ∧ Keep B h0 (L.set i (some (k, .vec t (plains (filesC (z.set q ((b, s), ver)) ++ zs)) nn))) h' := by
  have l1 := filesC_len (z.take q)
  rw [List.length_take] at l1
  obtain ⟨h15, s1, -, s3⟩ := StoresAt.over (k := k) (nn := nn) (t := t) [.bool b, .string s] h (q * 2) 0 (filesC (z.take q)) (fileC z[q] ++ filesC (z.drop (q + 1)) ++ zs) (by simp [isOne]) (by
    rw [E.at i hi]
    congr 2
    rw [filesC, flatMap_splitR z q hq]
    simp [filesC, List.append_assoc]) (by omega) (by simp; omega)
  have s4 := s3 (by simp)
  have e4 : filesC (z.take q) ++ [.bool b, .string s] ++ (fileC z[q] ++ filesC (z.drop (q + 1)) ++ zs).drop [Value.bool b, Value.string s].length = filesC (z.set q ((b, s), ver)) ++ zs := by
    rw [filesC_set z q hq, List.append_assoc (fileC z[q])]
    simp only [List.append_assoc]
    rfl
  rw [e4] at s4
  refine ⟨h15, by rw [addr_more, Nat.zero_add]; exact s1, ?_⟩
  rw [s4]
  exact E.put i hi
def afO (n : Nat) (z : FL) : AObj := .vec TY.a_6_countermandref09_File (plains (filesC z ++ [])) n
theorem afO_eq (n : Nat) (z : FL) : afO n z = .vec TY.a_6_countermandref09_File (plains (filesC z)) n := by rw [afO, List.append_nil]
theorem afO_cells {k n : Nat} (g : h k = some (afO n z)) : CellsAt B h ⟨k, 0, none⟩ 0 (filesC z) := by
  rw [afO_eq] at g
  exact CellsAt.of_vec _ 0 g fun j y hj => by rw [plains_get, Nat.zero_add, hj]; rfl
theorem ref18_apply_wp {ver : Int} {Q : List Value → Heap → Prop} (hr : Reads B h a 3 entC_file_File xs) (h6 : z.length = 6) (g : ∀ x ∈ xs, GoodC x) (hl : xs.length ≤ 1000) (hQ : Q (filesC (apCs ver z xs)) h) : C_countermandref18_Apply B (filesC z) a xs.length c h Q := by
  refine C_countermandref18_Apply.of ?_
  unfold S_countermandref18_Apply
  intro k6 a6 b6 h7 e7 k8 a8 b8 h9 e9
  have hzl := filesC_len z
  have E0 : Keep B h [some (k6, afO 12 z), some (k8, afO 12 zF)] h9 := by
    have := ((Keep.nil B h).made a6 b6 e7).made a8 b8 e9
    rw [afO_eq, afO_eq]
    rw [show (filesC z).length = 12 by omega] at this
    exact this
  refine ⟨fun ix m h' => ∃ j : Nat, j ≤ xs.length ∧ ix = j ∧ m = xs.length - j ∧ Keep B h [some (k6, afO 12 (apCs ver z (xs.take j))), some (k8, afO 12 zF)] h', xs.length, Fin.of ⟨0, by omega, rfl, by omega, E0⟩, ?_⟩
  clear E0 e7 e9
  rintro _ _ h11 ⟨j, hj, rfl, rfl, E⟩
  refine ⟨fun hlt => ?_, fun hge => ?_⟩
  · have hj' : j < xs.length := by omega
    have hw : IntKind.wrap .i64 ((j : Int) + 1) = ((j + 1 : Nat) : Int) := by rw [w64 (by omega) (by omega)]; omega
    have hx := List.getElem?_eq_getElem hj'
    have gx := g _ (List.getElem_mem hj')
    generalize xs[j] = x at hx gx
    obtain ⟨g1, g2, g3⟩ := gx
    obtain ⟨A', e1, _, e4⟩ := (hr.over E.le E.nw) j x hx
    refine ⟨A', e1, by omega, hlt, x.1, x.2.1, x.2.2, e4, fun k22 a22 b22 h23 e23 => ?_⟩
    have E1 := E.made a22 b22 e23
    refine ⟨_, stores_whole E1.last rfl (by simp) (by simp [isOne]) (by simp), ?_⟩
    have E2 := E1.putLast (.vec TY.countermandref18_Change (plains (entC_file_File x)) 3)
    refine ⟨x.1, cellH_vec E2.last rfl, x.2.1, x.2.2, ⟨cellH_vec E2.last rfl, cellH_vec E2.last rfl, trivial⟩, by omega, by omega, ?_⟩
    have hal := apCs_len ver (xs.take j) z
    obtain ⟨h28, st, E3⟩ := E2.fileSet 0 (zs := []) rfl x.1.toNat (by omega) (by omega) x.2.1 x.2.2 ver
    refine ⟨h28, st, Fin.of ⟨xs.length - (j + 1), by omega, j + 1, by omega, hw, rfl, ?_⟩⟩
    rw [apCs_take ver z hx]
    exact E3.take 2
  · have : j = xs.length := by omega
    subst this
    rw [List.take_length] at E
    have hfl := filesC_len (apCs ver z xs)
    rw [apCs_len, h6] at hfl
    have g6 := E.at 0 rfl
    rw [afO_eq] at g6
    have g8 := E.at 1 rfl
    rw [afO_eq] at g8
    have E3 := E.put (o' := .vec TY.a_6_countermandref09_File (plains (filesC (apCs ver z xs) ++ [])) 12) 1 rfl
    rw [List.append_nil] at E3
    refine ⟨filesC (apCs ver z xs), hfl, E.cellsP (zs := []) 0 rfl, hfl, _, stores_whole g8 (by rw [hfl]; rfl) (by omega) (filesC_one _) (fun e => by rw [e] at hfl; simp at hfl), filesC (apCs ver z xs), hfl, ?_, Fin.ent E3.back (Fin.of hQ)⟩
    exact E3.cellsP (zs := []) (ys := filesC (apCs ver z xs)) 1 (by rw [List.append_nil]; rfl)
theorem are_wp {Q : Bool → Heap → Prop} (E : Keep B h0 L h) (A : TomeAt L i kT kR v r) (R : FRow r v l) (h6 : l.length = 6) (hz : filesC z = filesC l) (hQ : ∀ h', Keep B h0 L h' → Q true h') : C_countermandlaw18_are B (some ⟨kT, 0, none⟩) (filesC z) h Q := by
  rw [hz]
  refine C_countermandlaw18_are.of ?_
  unfold S_countermandlaw18_are
  intro k4 a4 b4 h5 e5
  have hfl := filesC_len l
  have E1 := E.start.nM a4 b4 e5
  have c4 : CellsAt B h5 ⟨k4, 0, none⟩ 0 (filesC l) := by
    have : h5 k4 = some (.vec TY.a_6_countermandref09_File (plains (filesC l)) (filesC l).length) := E1.gM 0 rfl
    exact CellsAt.of_vec _ 0 this fun j y hj => by rw [plains_get, Nat.zero_add, hj]; rfl
  refine ⟨filesC l, by omega, c4, ?_⟩
  refine ⟨fun ix m h' => ∃ j : Nat, j ≤ 6 ∧ ix = j ∧ m = 6 - j ∧ Keep B h0 L h', 6, Fin.of ⟨0, by omega, rfl, by omega, E1.zM⟩, ?_⟩
  clear E E1 c4 e5
  rintro _ _ h8 ⟨j, hj, rfl, rfl, E⟩
  refine ⟨fun hlt => ?_, fun hge => Fin.of (hQ _ E)⟩
  have hj' : j < l.length := by omega
  have hw : IntKind.wrap .i64 ((j : Int) + 1) = ((j + 1 : Nat) : Int) := by rw [w64 (by omega) (by omega)]; omega
  have hx := List.getElem?_eq_getElem hj'
  have hfa : fileAt l j = l[j] := by rw [fileAt_in (by omega) (by rw [Int.toNat_natCast]; exact hj')]; simp
  generalize l[j] = x at hx hfa
  refine ⟨by omega, by omega, x.1.1, x.1.2, by rw [Int.toNat_natCast]; exact extract_files l j x hx, fun k16 a16 b16 h17 e17 => ?_⟩
  have E1 := E.start.nM a16 b16 e17
  refine ⟨_, stores_whole (E1.gM 0 rfl) rfl (by simp) (by simp [isOne]) (by simp), ?_⟩
  have E2 := E1.pM (o' := .vec TY.countermandref09_File (plains [.bool x.1.1, .string x.1.2]) 2) 0 rfl
  refine tget_wp E2 A.app R fun h19 E3 => ?_
  rw [hfa]
  intro k23 a23 b23 h24 e24
  have E4 := E3.nM a23 b23 e24
  refine ⟨_, stores_whole (E4.gM 1 rfl) rfl (by simp) (by simp [isOne]) (by simp), ?_⟩
  have E5 := E4.pM (o' := .vec TY.file_File (plains [.bool x.1.1, .string x.1.2]) 2) 1 rfl
  exact ⟨_, _, ⟨E5.cM 1 rfl (i := 0) rfl, E5.cM 1 rfl (i := 1) rfl, trivial⟩, _, _, ⟨E5.cM 0 rfl (i := 0) rfl, E5.cM 0 rfl (i := 1) rfl, trivial⟩, fun _ => Fin.of ⟨6 - (j + 1), by omega, j + 1, by omega, hw, rfl, E5.zM⟩, fun hn => absurd (eqL_file' _ _) hn⟩
theorem same_wp {Q : Bool → Heap → Prop} (hr : Reads B h a 3 entC_file_File xs) (hr1 : Reads B h a1 3 entC_file_File xs) (hl : xs.length ≤ 1000) (hQ : Q true h) : C_countermandlaw18_same B a xs.length c a1 xs.length c1 h Q := by
  refine C_countermandlaw18_same.of ?_
  unfold S_countermandlaw18_same
  refine ⟨fun _ => ?_, fun hn => absurd rfl hn⟩
  refine ⟨fun ix m h' => ∃ j : Nat, j ≤ xs.length ∧ ix = j ∧ m = xs.length - j ∧ Keep B h [] h', xs.length, Fin.of ⟨0, by omega, rfl, by omega, Keep.nil B h⟩, ?_⟩
  rintro _ _ h10 ⟨j, hj, rfl, rfl, E⟩
  refine ⟨fun hlt => ?_, fun hge => Fin.ent E.back (Fin.of hQ)⟩
  have hj' : j < xs.length := by omega
  have hw : IntKind.wrap .i64 ((j : Int) + 1) = ((j + 1 : Nat) : Int) := by rw [w64 (by omega) (by omega)]; omega
  have hx := List.getElem?_eq_getElem hj'
  generalize xs[j] = x at hx
  obtain ⟨A', e1, _, e4⟩ := (hr.over E.le E.nw) j x hx
  refine ⟨A', e1, by omega, hlt, x.1, x.2.1, x.2.2, e4, fun k21 a21 b21 h22 e22 => ?_⟩
  have E1 := E.made a21 b21 e22
  refine ⟨_, stores_whole E1.last rfl (by simp) (by simp [isOne]) (by simp), ?_⟩
  have E2 := E1.putLast (.vec TY.redo_Change (plains (entC_file_File x)) 3)
  obtain ⟨A1, f1, _, f4⟩ := (hr1.over E2.le E2.nw) j x hx
  obtain ⟨f5, f6, f7, _⟩ := f4
  refine ⟨x.1, cellH_vec E2.last rfl, A1, f1, by omega, by omega, x.1, f5, fun _ => ⟨x.2.1, x.2.2, ⟨cellH_vec E2.last rfl, cellH_vec E2.last rfl, trivial⟩, A1, f1, by omega, by omega, x.2.1, x.2.2, ⟨?_, ?_, trivial⟩, fun _ => Fin.of ⟨xs.length - (j + 1), by omega, j + 1, by omega, hw, rfl, E2.pop⟩, fun hn => absurd (eqL_file' _ _) hn⟩, fun hn => absurd rfl hn⟩
  · rw [Int.toNat_natCast]; exact f6
  · rw [Int.toNat_natCast, Addr.add2]; exact f7
theorem tomes_wp {Q : Option Addr → List Value → Bool → Heap → Prop} (E : Keep B h0 L h) (h6 : z.length = 6) (hv : ∀ x ∈ z, x.2 = 0) (hN : ∀ p (z' : FL) h', z'.length = 6 → Keep B h0 L h' → Q p (filesC z') false h')
    (hS : ∀ kT kR v r h', FRow r v z → Keep B h0 (L ++ tomE kT kR v r) h' → Q (some ⟨kT, 0, none⟩) (filesC z) true h') : C_countermandlaw18_tomes B (filesC z) h Q := by
  refine C_countermandlaw18_tomes.of ?_
  unfold S_countermandlaw18_tomes
  have hzl := filesC_len z
  intro k5 a5 b5 h6' e6 k7 a7 b7 h8 e8
  have E1 := (E.start.nM a5 b5 e6).nM a7 b7 e8
  refine tnew_wp fun kT kR v r h9 R E2 => ?_
  have E3 := E1.append E2
  rw [List.append_assoc] at E3
  intro k11 a11 b11 h12 e12
  have E4 := E3.nM a11 b11 e12
  have c5 : CellsAt B h12 ⟨k5, 0, none⟩ 0 (filesC z) := by
    have : h12 k5 = some (.vec TY.a_6_file_File (plains (filesC z)) (filesC z).length) := E4.gM 0 rfl
    exact CellsAt.of_vec _ 0 this fun j y hj => by rw [plains_get, Nat.zero_add, hj]; rfl
  refine ⟨filesC z, by omega, c5, ?_⟩
  refine ⟨fun ix m h' => ∃ (j : Nat) (r : Option (Nat × AObj)), j ≤ 6 ∧ ix = j ∧ m = 6 - j ∧ FRow r v (z.take j ++ zF.drop j) ∧ Keep B h0 (L ++ [some (k7, afO 12 zF), some (kT, tomO kR), some (kR, frO v), r, some (k11, afO 12 (z.take j ++ zF.drop j))]) h', 6, Fin.of ⟨0, r, by omega, rfl, by omega, R, ?_⟩, ?_⟩
  · rw [afO_eq, afO_eq]
    exact E4.sM [1, 2, 3, 4, 5] (by decide)
  clear E E1 E2 E3 E4 R c5 e6 e8 e12
  rintro _ _ h15 ⟨j, r, hj, rfl, rfl, R, E⟩
  have hcl : (z.take j ++ zF.drop j).length = 6 := by
    rw [List.length_append, List.length_take, List.length_drop, h6]; show min j 6 + (6 - j) = 6; omega
  have hfc := filesC_len (z.take j ++ zF.drop j)
  -- the end: what is given back
  have fin : ∀ {h1 : Heap} {M : List (Option (Nat × AObj))} {w : FL}, w.length = 6 → Keep B h0 (L ++ (some (k7, afO 12 zF) :: M)) h1 → (∃ q : Nat, M[q]? = some (some (k11, afO 12 w))) → ∀ bb p, (∀ h', Keep B h0 (L ++ (some (k7, afO 12 w) :: M)) h' → Q p (filesC w) bb h') → ∃ l31 : List Value, List.length l31 = 12 ∧ CellsAt B h1 ⟨k11, 0, none⟩ 0 l31 ∧ List.length l31 = 12 ∧ ∃ h34 : Heap, StoresAt ⟨k7, 0, none⟩ h1 0 l31 h34 ∧ CellsAt B h34 ⟨k11, 0, none⟩ 0 l31 ∧ ∃ l36 : List Value, List.length l36 = 12 ∧ CellsAt B h34 ⟨k7, 0, none⟩ 0 l36 ∧ Fin B h34 (Q p l36 bb) := fun {h1 M w} hw E1 hq bb p hQ => by
    obtain ⟨q, hq⟩ := hq
    have hwl := filesC_len w
    have g7 := E1.gM 0 rfl
    rw [afO_eq] at g7
    have E2 := E1.pM (o' := afO 12 w) 0 rfl
    have g7' := E2.gM 0 rfl
    have g11' := E2.gM (q + 1) hq
    refine ⟨filesC w, by omega, afO_cells (E1.gM (q + 1) hq), by omega, _, stores_whole g7 (by rw [hwl, hw]; rfl) (by omega) (filesC_one _) (fun e => by rw [e] at hwl; simp at hwl; omega), ?_⟩
    rw [← afO_eq]
    exact ⟨afO_cells g11', filesC w, by omega, afO_cells g7', Fin.of (hQ _ E2)⟩
  refine ⟨fun hlt => ?_, fun hge => ?_⟩
  · have hj' : j < z.length := by omega
    have hw : IntKind.wrap .i64 ((j : Int) + 1) = ((j + 1 : Nat) : Int) := by rw [w64 (by omega) (by omega)]; omega
    have hx := List.getElem?_eq_getElem hj'
    have hv0 := hv _ (List.getElem_mem hj')
    generalize z[j] = x at hx hv0
    obtain ⟨⟨fb, fs⟩, fv⟩ := x
    simp only at hv0
    subst hv0
    refine ⟨by omega, by omega, fb, fs, by rw [Int.toNat_natCast]; exact extract_files z j _ hx, fun k23 a23 b23 h24 e24 => ?_⟩
    have E1 := E.nM a23 b23 e24
    refine ⟨_, stores_whole (E1.gM 5 rfl) rfl (by simp) (by simp [isOne]) (by simp), ?_⟩
    have E2 := E1.pM (o' := .vec TY.file_File (plains [.bool fb, .string fs]) 2) 5 rfl
    refine ⟨fb, fs, ⟨E2.cM 5 rfl (i := 0) rfl, E2.cM 5 rfl (i := 1) rfl, trivial⟩, ?_⟩
    refine tset_wp (i := L.length + 1) E2 ⟨upM 1 rfl, ⟨upM 2 rfl, upM 3 rfl⟩⟩ R fun r' h28 R' E3 => ⟨fun hb => ?_, fun hb => ?_⟩
    · rw [setF, if_pos hb, Int.toNat_natCast, cur_set z zF (by rw [h6]; rfl) hx] at R'
      rw [show L.length + 1 + 2 = L.length + 3 from rfl, setM] at E3
      refine ⟨fb, fs, ⟨E3.cM 5 rfl (i := 0) rfl, E3.cM 5 rfl (i := 1) rfl, trivial⟩, by omega, by omega, ?_⟩
      obtain ⟨h39, st, E4⟩ := E3.fileSet (L.length + 4) (zs := []) (upM 4 rfl) j (by rw [hcl]; omega) (by rw [hcl]; omega) fb fs 0
      rw [cur_set z zF (by rw [h6]; rfl) hx, setM] at E4
      exact ⟨h39, by rw [Int.toNat_natCast]; exact st, Fin.of ⟨6 - (j + 1), by omega, j + 1, r', by omega, hw, rfl, R', E4.tM 5⟩⟩
    · rw [show L.length + 1 + 2 = L.length + 3 from rfl, setM] at E3
      exact fin hcl E3 ⟨3, rfl⟩ false _ fun h' E4 => hN _ _ _ hcl E4.zM
  · have : j = 6 := by omega
    subst this
    have e1 : z.take 6 ++ zF.drop 6 = z := by rw [← h6, List.take_length, List.drop_of_length_le (by rw [h6]; exact Nat.le_refl 6), List.append_nil]
    rw [e1] at E R hcl
    refine fin hcl E ⟨3, rfl⟩ true _ fun h' E4 => hS kT kR v r h' R ?_
    exact E4.sM [1, 2, 3] (by decide)
end
end Go.Proofs.Ythloobpjkeodgaa.H
