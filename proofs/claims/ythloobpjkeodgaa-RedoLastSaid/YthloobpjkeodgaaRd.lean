/- Redo: Apply, Replay, and the document's answers: contracts. No condition. -/
import Derived.Test.YthloobpjkeodgaaRc
import Derived.Test.YthloobpjkeodgaaXrT
namespace Go.Proofs.Ythloobpjkeodgaa.H
open Go Go.RowKit
set_option linter.unusedVariables false
set_option maxRecDepth 100000

theorem TK.slc_xch : slcB PG TY.s_countermandref18_Change = some (TY.countermandref18_Change, 3, 32) := by kernel_rfl
theorem TK.zero_xch : zeroB PG TY.countermandref18_Change = some [.int .i64 0, .bool false, .string ByteArray.empty] := by kernel_rfl
theorem TK.sl_xch : slT PG TY.s_countermandref18_Change = true := by kernel_rfl
section
variable {B : RO} {h0 h h' : Heap} {L : List (Option (Nat × AObj))} {r : Option (Nat × AObj)} {i k kT kR : Nat} {a : Option Addr} {m c : Nat} {v : Value} {xs : DFL} {l : FL} {s : ByteArray}
theorem TomeAt.set2 {r' : Option (Nat × AObj)} (A : TomeAt L i kT kR v r) : TomeAt (L.set (i + 2) r') i kT kR v r' :=
  ⟨by rw [List.getElem?_set_ne (by omega)]; exact A.p, by
    have hl := (List.getElem?_eq_some_iff.1 A.f.q).1
    exact ⟨by rw [List.getElem?_set_ne (by omega)]; exact A.f.p, by rw [show i + 1 + 1 = i + 2 by omega]; exact List.getElem?_set_self hl⟩⟩
theorem TomeAt.app {M : List (Option (Nat × AObj))} (A : TomeAt L i kT kR v r) : TomeAt (L ++ M) i kT kR v r := ⟨up_app _ A.p, ⟨up_app _ A.f.p, up_app _ A.f.q⟩⟩
theorem TomeAt.lt (A : TomeAt L i kT kR v r) : i + 2 < L.length := (List.getElem?_eq_some_iff.1 A.f.q).1
/-- What is read while one's blocks change. -/
def RdAll (B : RO) (h0 : Heap) (L : List (Option (Nat × AObj))) (i : Nat) (a : Option Addr) (xs : DFL) : Prop := ∀ (r' : Option (Nat × AObj)) (h' : Heap), Keep B h0 (L.set (i + 2) r') h' → Reads B h' a 3 entC_file_File xs
theorem redo_apply_wp {ver : Int} {Q : Heap → Prop} (E : Keep B h0 L h) (A : TomeAt L i kT kR v r) (R : FRow r v l) (h6 : l.length = 6) (g : ∀ x ∈ xs, GoodC x) (hl : xs.length ≤ 1000000) (hr : RdAll B h0 L i a xs)
    (hQ : ∀ r' h', FRow r' v (apCs ver l xs) → Keep B h0 (L.set (i + 2) r') h' → Q h') : C_redo_Apply B (some ⟨kT, 0, none⟩) a xs.length c ver h Q := by
  refine C_redo_Apply.of ?_
  unfold S_redo_Apply
  have hA := A.lt
  refine ⟨fun ix m h' => ∃ (j : Nat) (r' : Option (Nat × AObj)), j ≤ xs.length ∧ ix = j ∧ m = xs.length - j ∧ FRow r' v (apCs ver l (xs.take j)) ∧ Keep B h0 (L.set (i + 2) r') h', xs.length, Fin.of ⟨0, r, by omega, rfl, by omega, R, ?_⟩, ?_⟩
  · rw [show L.set (i + 2) r = L from by obtain ⟨hl, e⟩ := List.getElem?_eq_some_iff.1 A.f.q; rw [show i + 2 = i + 1 + 1 by omega, ← e]; exact List.set_getElem_self hl]; exact E
  clear E R
  rintro _ _ h7 ⟨j, r1, hj, rfl, rfl, R, E⟩
  refine ⟨fun hlt => ?_, fun hge => Fin.of ?_⟩
  · have hj' : j < xs.length := by omega
    have hw : IntKind.wrap .i64 ((j : Int) + 1) = ((j + 1 : Nat) : Int) := by rw [w64 (by omega) (by omega)]; omega
    have hx := List.getElem?_eq_getElem hj'
    have gx := g _ (List.getElem_mem hj')
    generalize xs[j] = x at hx gx
    obtain ⟨A', e1, e3, e4⟩ := (hr r1 _ E) j x hx
    refine ⟨A', e1, by omega, hlt, x.1, x.2.1, x.2.2, e4, fun k18 a18 b18 h19 e19 => ?_⟩
    have E1 := E.made a18 b18 e19
    refine ⟨_, stores_whole E1.last rfl (by simp) (by simp [isOne]) (by simp), ?_⟩
    have E2 := E1.putLast (.vec TY.redo_Change (plains (entC_file_File x)) 3)
    refine ⟨x.1, cellH_vec E2.last rfl, x.2.1, x.2.2, ⟨cellH_vec E2.last rfl, cellH_vec E2.last rfl, trivial⟩, ?_⟩
    refine tset_wp (i := i) E2 (A.set2.app) R fun r' h24 R' E3 => Fin.of ⟨xs.length - (j + 1), by omega, j + 1, r', by omega, hw, rfl, ?_, ?_⟩
    · rw [setF_good gx (by rw [apCs_len]; exact h6)] at R'
      rw [apCs_take ver l hx]; exact R'
    · rw [List.set_append_left _ _ (by rw [List.length_set]; exact hA), List.set_set] at E3
      exact E3.pop
  · have : j = xs.length := by omega
    subst this
    rw [List.take_length] at R
    exact hQ _ _ R E
theorem redo_replay_wp {bs : List ByteArray} {Q : Int → Int → Heap → Prop} (E : Keep B h0 L h) (A : TomeAt L i kT kR v r) (R : FRow r v l) (h6 : l.length = 6) (hl : bs.length ≤ 1000000)
    (hr : ∀ (r' : Option (Nat × AObj)) (h' : Heap), Keep B h0 (L.set (i + 2) r') h' → Reads B h' a 1 (fun s => [.string s]) bs)
    (hQ : ∀ r' h', FRow r' v (apCs 0 l (chsOf (goods bs))) → Keep B h0 (L.set (i + 2) r') h' → Q (lastOf (goods bs)) ((goods bs).length : Nat) h') : C_redo_Replay B (some ⟨kT, 0, none⟩) a bs.length c h Q := by
  refine C_redo_Replay.of ?_
  unfold S_redo_Replay
  have hA := A.lt
  have hg := goods_len bs
  refine ⟨fun la ix m h' => ∃ (j : Nat) (r' : Option (Nat × AObj)), j ≤ (goods bs).length ∧ ix = j ∧ m = bs.length - j ∧ la = lastOf ((goods bs).take j) ∧ FRow r' v (apCs 0 l (chsOf ((goods bs).take j))) ∧ Keep B h0 (L.set (i + 2) r') h', bs.length, Fin.of ⟨0, r, by omega, rfl, by omega, rfl, R, ?_⟩, ?_⟩
  · rw [show L.set (i + 2) r = L from by obtain ⟨hl, e⟩ := List.getElem?_eq_some_iff.1 A.f.q; rw [show i + 2 = i + 1 + 1 by omega, ← e]; exact List.set_getElem_self hl]; exact E
  clear E R
  rintro _ _ _ h9 ⟨j, r1, hj, rfl, rfl, rfl, R, E⟩
  refine ⟨fun hlt => ?_, fun hge => Fin.of ?_⟩
  · have hj' : j < bs.length := by omega
    have hw : IntKind.wrap .i64 ((j : Int) + 1) = ((j + 1 : Nat) : Int) := by rw [w64 (by omega) (by omega)]; omega
    have hx := List.getElem?_eq_getElem hj'
    generalize bs[j] = b at hx
    obtain ⟨A', e1, e3, e4⟩ := (hr r1 _ E) j b hx
    refine ⟨A', e1, by omega, hlt, b, e4.1, ?_⟩
    refine redo_read_wp E (fun hn h18 E1 => ⟨fun e => (by cases e), fun _ => Fin.of ?_⟩) fun n xs hs a20 c22 r20 h18 R20 E1 => ⟨fun _ => ?_, fun e => by cases e⟩
    · have : j = (goods bs).length := by
        rcases Nat.lt_or_ge j (goods bs).length with h | h
        · have := goods_get hx h
          rw [hn, List.getElem?_eq_getElem h] at this; cases this
        · omega
      subst this
      rw [List.take_length] at R ⊢
      exact hQ _ _ R E1
    · have hjl : j < (goods bs).length := by
        rcases Nat.lt_or_ge j (goods bs).length with h | h
        · exact h
        · have : j = (goods bs).length := by omega
          subst this
          rw [goods_end hx] at hs; cases hs
      have hgj := goods_get hx hjl
      rw [hs] at hgj
      obtain ⟨_, _, gx, _⟩ := loadOf_some hs
      obtain ⟨-, rd20⟩ := Row.rd (B := B) R20 entC_file_File_len (by omega)
      have hsz : xs.length ≤ 1000000 := by
        have : ∀ (d : DFL), SortD d → (∀ x ∈ d, GoodC x) → d.length ≤ 6 := sortGood_len
        have := this xs (loadOf_some hs).2.1 gx
        omega
      refine redo_apply_wp (i := i) E1 A.set2.app R (by rw [apCs_len]; exact h6) gx hsz (fun r' h' E' => rd20 h' fun k o e => E'.at L.length ?_) fun r' h24 R' E2 => Fin.of ⟨bs.length - (j + 1), by omega, j + 1, r', by omega, hw, rfl, ?_, ?_, ?_⟩
      · rw [List.getElem?_set_ne (by omega), List.getElem?_append_right (by simp), List.length_set, Nat.sub_self, e]; rfl
      · rw [lastOf_take hgj.symm]
      · rw [chsOf_take hgj.symm, apCs_app]; exact R'
      · rw [List.set_append_left _ _ (by rw [List.length_set]; exact hA), List.set_set] at E2
        exact E2.pop
  · have : bs.length = (goods bs).length := by omega
    have hjj : j = (goods bs).length := by omega
    subst hjj
    rw [List.take_length] at R ⊢
    have := hQ _ _ R E
    rwa [← ‹bs.length = (goods bs).length›] at this
end
end Go.Proofs.Ythloobpjkeodgaa.H
