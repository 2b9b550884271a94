/- Redo: RedoApplies, RedoReplays, RedoLast. No condition. -/
import Derived.Test.YthloobpjkeodgaaRg
import Derived.Test.YthloobpjkeodgaaXrT
namespace Go.Proofs.Ythloobpjkeodgaa.H
open Go Go.RowKit
set_option linter.unusedVariables false
set_option maxRecDepth 100000

theorem TK.files_kd : leafB PG 6 TY.a_6_file_File = some [.bool, .str, .bool, .str, .bool, .str, .bool, .str, .bool, .str, .bool, .str] := by kernel_rfl
theorem Files_arg {H : Type} {enc : TypeId × Value → H} {w : World} {base : Nat} {spare : Nat → Bool} {held : Bool} {cs : Array Value} {d : DataW H} {p : List MemPlace} (h : DataW.Trod enc PG w base spare held TY.a_6_file_File (.agg cs) d p) :
    ∃ z : FL, z.length = 6 ∧ (∀ x ∈ z, x.2 = 0) ∧ cs = (filesC z).toArray := by
  have hk := arg_agg TK.files_kd h
  obtain ⟨b1, v1, e1, g1⟩ := hk.bool
  obtain ⟨s1, w1, rfl, _, k1⟩ := g1.str
  obtain ⟨b2, v2, rfl, g2⟩ := k1.bool
  obtain ⟨s2, w2, rfl, _, k2⟩ := g2.str
  obtain ⟨b3, v3, rfl, g3⟩ := k2.bool
  obtain ⟨s3, w3, rfl, _, k3⟩ := g3.str
  obtain ⟨b4, v4, rfl, g4⟩ := k3.bool
  obtain ⟨s4, w4, rfl, _, k4⟩ := g4.str
  obtain ⟨b5, v5, rfl, g5⟩ := k4.bool
  obtain ⟨s5, w5, rfl, _, k5⟩ := g5.str
  obtain ⟨b6, v6, rfl, g6⟩ := k5.bool
  obtain ⟨s6, w6, rfl, _, k6⟩ := g6.str
  obtain rfl := k6.nil
  refine ⟨[((b1, s1), 0), ((b2, s2), 0), ((b3, s3), 0), ((b4, s4), 0), ((b5, s5), 0), ((b6, s6), 0)], rfl, fun x hx => ?_, ?_⟩
  · simp only [List.mem_cons, List.not_mem_nil, or_false] at hx
    rcases hx with rfl | rfl | rfl | rfl | rfl | rfl <;> rfl
  · rw [← Array.toList_inj, e1]; rfl
def strC (s : ByteArray) : List Value := [.string s]
theorem TK.strs_sl : PG.underlying TY.s_string = some (.slice TY.string) := by kernel_rfl
theorem TK.str_kd : leafB PG 5 TY.string = some [.str] := by kernel_rfl
theorem Strs_arg {H : Type} {enc : TypeId × Value → H} {w : World} {base : Nat} {spare : Nat → Bool} {held : Bool} {a : Option Addr} {len cap : Nat} {d : DataW H} {p : List MemPlace} (h : DataW.Trod enc PG w base spare held TY.s_string (.slice a len cap) d p) :
    ∃ l : List ByteArray, len = l.length ∧ Reads (roOf w) noHeap a 1 strC l ∧ ∀ x ∈ l, True :=
  arg_rows strC (fun _ => True) TK.strs_sl TK.str_kd rfl (by omega) (fun vs h => by
    obtain ⟨z3, v3, rfl, _, h3⟩ := h.str
    obtain rfl := h3.nil
    exact ⟨z3, rfl, trivial⟩) h
section
variable {B : RO} {h0 h h' : Heap} {L : List (Option (Nat × AObj))} {r : Option (Nat × AObj)} {i k kT kR : Nat} {a a1 : Option Addr} {m c c1 : Nat} {v : Value} {xs ys list : DFL} {l z : FL} {s : ByteArray}
theorem blk_cells {k n : Nat} {t : TypeId} {cs : List Value} (g : h k = some (.vec t (plains cs) n)) : CellsAt B h ⟨k, 0, none⟩ 0 cs :=
  CellsAt.of_vec _ 0 g fun j y hj => by rw [plains_get, Nat.zero_add, hj]; rfl
theorem newF {k11 : Nat} (E : Keep B h0 L h) (h6 : z.length = 6) (a11 : h k11 = none) (b11 : B k11 = none) (e : h' = h.set k11 (.vec TY.a_6_countermandref09_File (plains (filesC zF)) 12)) : (filesC z).length = 12 ∧ ∃ h2, StoresAt ⟨k11, 0, none⟩ h' 0 (filesC z) h2 ∧ Keep B h0 (L ++ [some (k11, afO 12 z)]) h2 := by
  have hzl := filesC_len z
  have E1 := E.made a11 b11 e
  refine ⟨by omega, _, stores_whole E1.last (by rw [hzl, h6]; rfl) (by omega) (filesC_one _) (fun e => by rw [e] at hzl; simp at hzl; omega), ?_⟩
  rw [afO_eq]
  exact E1.putLast _
def rdL (kT kR : Nat) (v : Value) (r : Option (Nat × AObj)) (k15 : Nat) (z : FL) : List (Option (Nat × AObj)) := [some (kT, tomO kR), some (kR, frO v), r, some (k15, afO 12 z)]
theorem Applies_J7 {k125 kd : Nat} {vd : Value} {rd r2 : Option (Nat × AObj)} {a2 : Option Addr} {c2 : Nat} {ver : Int} {Q : Bool → Heap → Prop} (E : Keep B h0 (rdL kT kR v r k125 z ++ [some (kd, drO_file_File vd), rd, r2]) h) (R : FRow r v z) (h6 : z.length = 6) (Rd : DRow_file_File rd vd xs) (R2 : Row r2 (.slice a2 xs.length c2) TY.countermandref18_Change 3 (xs.flatMap entC_file_File)) (hl : xs.length ≤ 40) (s : SortD xs) (g : ∀ x ∈ xs, GoodC x) (hQ : Q true h0) :
    S_countermandlaw18_RedoApplies_J7 B ver (some ⟨kT, 0, none⟩) k125 (some ⟨kd, 0, none⟩) a2 xs.length c2 h Q := by
  unfold S_countermandlaw18_RedoApplies_J7
  refine redo_bytes_wp (i := 4) E ⟨rfl, rfl⟩ Rd g (by omega) (by omega) fun h136 E1 => ?_
  have hlo := loadOf_back (n := 7) (by omega) s g
  refine redo_read_wp E1 (fun hn => by rw [bl_ba] at hn; have := hlo.symm.trans hn; cases this) fun n' xs' hl' a140 c142 r140 h138 R140 E2 => ?_
  rw [bl_ba] at hl'
  have hl2 : some (7, xs) = some (n', xs') := hlo.symm.trans hl'
  cases hl2
  obtain ⟨-, rd140⟩ := Row.rd (B := B) R140 entC_file_File_len (by omega)
  obtain ⟨-, rd2⟩ := Row.rd (B := B) R2 entC_file_File_len (by omega)
  refine redo_apply_wp (i := 0) E2 ⟨rfl, ⟨rfl, rfl⟩⟩ R h6 g (by omega) (fun r' h' E' => rd140 h' fun k o e => E'.at 7 (by rw [← e]; rfl)) fun r' h144 R' E3 => ?_
  have hzl := filesC_len z
  have hal := apCs_len ver xs z
  refine ⟨filesC z, by omega, afO_cells (E3.at 3 rfl), ref18_apply_wp (ver := ver) (rd2 h144 fun k o e => E3.at 6 (by rw [← e]; rfl)) h6 g (by omega) fun k148 a148 b148 h149 e149 => ?_⟩
  obtain ⟨n1, h150, st, E4⟩ := newF E3 (by omega : (apCs ver z xs).length = 6) a148 b148 e149
  refine ⟨n1, h150, st, filesC (apCs ver z xs), n1, afO_cells (E4.at 8 rfl), are_wp (i := 0) E4 ⟨rfl, ⟨rfl, rfl⟩⟩ R' (by omega) rfl fun h152 E5 => ⟨fun _ => ?_, fun e => by cases e⟩⟩
  refine ⟨fun ix m h' => ∃ j : Nat, j ≤ xs.length ∧ ix = j ∧ m = xs.length - j ∧ Keep B h0 [some (kT, tomO kR), some (kR, frO v), r', r140, some (k148, afO 12 (apCs ver z xs)), r2] h', xs.length, Fin.of ⟨0, by omega, rfl, by omega, E5.picks [0, 1, 2, 7, 8, 6] (by decide)⟩, ?_⟩
  clear E E1 E2 E3 E4 E5 e149
  rintro _ _ h161 ⟨j, hj, rfl, rfl, E⟩
  refine ⟨fun hlt => ?_, fun hge => Fin.of ?_⟩
  · have hj' : j < xs.length := by omega
    have hw : IntKind.wrap .i64 ((j : Int) + 1) = ((j + 1 : Nat) : Int) := by rw [w64 (by omega) (by omega)]; omega
    have hx := List.getElem?_eq_getElem hj'
    have hm := List.getElem_mem hj'
    generalize xs[j] = x at hx hm
    obtain ⟨g1, g2, g3⟩ := g x hm
    obtain ⟨f, hf⟩ := apCs_ver ver xs z x.1.toNat (by omega) ⟨x, hm, rfl⟩
    have hfa : fileAt (apCs ver z xs) x.1 = (f, ver) := by
      rw [fileAt_in g1 (by omega)]
      rw [List.getElem?_eq_getElem (by omega)] at hf
      exact Option.some.inj hf
    obtain ⟨A', e1, _, e4⟩ := (rd2 h161 fun k o e => E.at 5 (by rw [← e]; rfl)) j x hx
    refine ⟨A', e1, by omega, hlt, x.1, x.2.1, x.2.2, e4, fun k172 a172 b172 h173 e173 => ?_⟩
    have E1 := E.made a172 b172 e173
    refine ⟨_, stores_whole E1.last rfl (by simp) (by simp [isOne]) (by simp), ?_⟩
    have E2 := E1.putLast (.vec TY.countermandref18_Change (plains (entC_file_File x)) 3)
    refine ⟨x.1, cellH_vec E2.last rfl, tget_wp (i := 0) E2 ⟨rfl, ⟨rfl, rfl⟩⟩ R' fun h176 E3 => ?_⟩
    rw [hfa]
    intro k180 a180 b180 h181 e181
    have E4 := E3.made a180 b180 e181
    refine ⟨_, stores_whole E4.last rfl (by simp) (by simp [isOne]) (by simp), ?_⟩
    have E5 := E4.putLast (.vec TY.file_File (plains [.bool f.1, .string f.2]) 2)
    exact ⟨fun _ => Fin.of ⟨xs.length - (j + 1), by omega, j + 1, by omega, hw, rfl, E5.take 6⟩, fun hn => absurd rfl hn⟩
  · unfold S_countermandlaw18_RedoApplies_J8
    refine redo_apply_wp (i := 0) E ⟨rfl, ⟨rfl, rfl⟩⟩ R' (by omega) g (by omega) (fun r' h' E' => rd140 h' fun k o e => E'.at 3 (by rw [← e]; rfl)) fun r'' h206 R'' E1 => ?_
    rw [apCs_twice] at R''
    exact ⟨filesC (apCs ver z xs), n1, afO_cells (E1.at 4 rfl), are_wp (i := 0) E1 ⟨rfl, ⟨rfl, rfl⟩⟩ R'' (by omega) rfl fun h208 E2 => Fin.ent E2.back (Fin.of hQ)⟩
theorem RedoApplies_wp {ver : Int} {Q : Bool → Heap → Prop} (h6 : z.length = 6) (hv : ∀ x ∈ z, x.2 = 0) (hr : Reads B h a 3 entC_file_File list) (hQ : Q true h) : C_countermandlaw18_RedoApplies B (filesC z) a list.length c ver h Q := by
  refine C_countermandlaw18_RedoApplies.of ?_
  unfold S_countermandlaw18_RedoApplies
  intro k7 a7 b7 h8 e8
  have hzl := filesC_len z
  have E0 := (Keep.nil B h).made a7 b7 e8
  refine alive18_wp fun h9 E1 => ⟨fun _ => ?_, fun e => by cases e⟩
  have E2 := E0.append E1
  refine ⟨filesC z, by omega, blk_cells (E2.at 0 rfl), ?_⟩
  refine tomes_wp E2 h6 hv (fun p z' h12 h6' E3 => ⟨fun e => (by cases e), fun _ k16 a16 b16 h17 e17 => ?_⟩) fun kT kR v r h12 R E3 => ⟨fun _ k125 a125 b125 h126 e126 => ?_, fun e => by cases e⟩
  · obtain ⟨n1, h18, st, E4⟩ := newF E3 h6' a16 b16 e17
    exact ⟨n1, h18, st, drawn_wp (hr.over E4.le E4.nw) (fun p h19 E5 => ⟨fun e => (by cases e), fun _ => Fin.ent (E4.append E5).back (Fin.of hQ)⟩) fun xs kd v r a' c' r2 h19 _ _ _ _ _ E5 => ⟨fun _ => Fin.ent (E4.append E5).back (Fin.of hQ), fun e => by cases e⟩⟩
  · obtain ⟨n1, h127, st, E4⟩ := newF E3 h6 a125 b125 e126
    refine ⟨n1, h127, st, drawn_wp (hr.over E4.le E4.nw) (fun p h19 E5 => ⟨fun e => (by cases e), fun _ => Fin.ent (E4.append E5).back (Fin.of hQ)⟩) fun xs kd vd rd a2 c2 r2 h128 hl s g Rd R2 E5 => ⟨fun _ => Fin.of ?_, fun e => by cases e⟩⟩
    exact Applies_J7 ((E4.append E5).picks [1, 2, 3, 4, 5, 6, 7] (by decide)) R h6 Rd R2 hl s g hQ
theorem Replays_J5 {k63 : Nat} {bs : List ByteArray} {Q : Bool → Heap → Prop} (E : Keep B h0 (rdL kT kR v r k63 (apCs 0 z (chsOf (goods bs)))) h) (R : FRow r v z) (h6 : z.length = 6) (hr : Reads B h0 a 1 strC bs) (hl : bs.length ≤ 20) (hQ : Q true h0) :
    S_countermandlaw18_RedoReplays_J5 B a bs.length c (some ⟨kT, 0, none⟩) k63 (lastOf (goods bs)) ((goods bs).length : Nat) h Q := by
  unfold S_countermandlaw18_RedoReplays_J5
  have hal := apCs_len 0 (chsOf (goods bs)) z
  have hfl := filesC_len (apCs 0 z (chsOf (goods bs)))
  refine redo_replay_wp (i := 0) E ⟨rfl, ⟨rfl, rfl⟩⟩ R h6 (by omega) (fun r' h' E' => hr.over E'.le E'.nw) fun r' h72 R' E1 => ⟨fun _ => ⟨fun _ => ?_, fun hn => absurd rfl hn⟩, fun hn => absurd rfl hn⟩
  refine ⟨_, by omega, afO_cells (E1.at 3 rfl), are_wp (i := 0) E1 ⟨rfl, ⟨rfl, rfl⟩⟩ R' (by omega) rfl fun h86 E2 => ⟨fun _ => Fin.of ?_, fun e => by cases e⟩⟩
  unfold S_countermandlaw18_RedoReplays_J6
  refine redo_replay_wp (i := 0) E2 ⟨rfl, ⟨rfl, rfl⟩⟩ R' (by omega) (by omega) (fun r' h' E' => hr.over E'.le E'.nw) fun r'' h77 R'' E3 => ?_
  rw [apCs_twice] at R''
  exact ⟨_, by omega, afO_cells (E3.at 3 rfl), are_wp (i := 0) E3 ⟨rfl, ⟨rfl, rfl⟩⟩ R'' (by omega) rfl fun h81 E4 => Fin.ent E4.back (Fin.of hQ)⟩
theorem Replays_J4 {k63 : Nat} {bs : List ByteArray} {Q : Bool → Heap → Prop} (E : Keep B h0 (rdL kT kR v r k63 z) h) (R : FRow r v z) (h6 : z.length = 6) (hr : Reads B h0 a 1 strC bs) (hl : bs.length ≤ 20) (hQ : Q true h0) :
    S_countermandlaw18_RedoReplays_J4 B a bs.length c (some ⟨kT, 0, none⟩) k63 h Q := by
  unfold S_countermandlaw18_RedoReplays_J4
  have hg := goods_len bs
  refine ⟨fun la kk ix m h' => ∃ j : Nat, j ≤ (goods bs).length ∧ ix = j ∧ kk = j ∧ m = bs.length - j ∧ la = lastOf ((goods bs).take j) ∧ Keep B h0 (rdL kT kR v r k63 (apCs 0 z (chsOf ((goods bs).take j)))) h', bs.length, Fin.of ⟨0, by omega, rfl, rfl, by omega, rfl, E⟩, ?_⟩
  clear E
  rintro _ _ _ _ h91 ⟨j, hj, rfl, rfl, rfl, rfl, E⟩
  have done : j = (goods bs).length → ∀ {h1 : Heap}, Keep B h0 (rdL kT kR v r k63 (apCs 0 z (chsOf ((goods bs).take j)))) h1 → S_countermandlaw18_RedoReplays_J5 B a bs.length c (some ⟨kT, 0, none⟩) k63 (lastOf ((goods bs).take j)) ((j : Nat) : Int) h1 Q := fun e h1 E1 => by
    subst e
    rw [List.take_length] at E1 ⊢
    exact Replays_J5 E1 R h6 hr hl hQ
  refine ⟨fun hlt => ?_, fun hge => Fin.of (done (by omega) E)⟩
  have hj' : j < bs.length := by omega
  have hw : IntKind.wrap .i64 ((j : Int) + 1) = ((j + 1 : Nat) : Int) := by rw [w64 (by omega) (by omega)]; omega
  have hx := List.getElem?_eq_getElem hj'
  generalize bs[j] = b at hx
  obtain ⟨A', e1, _, e4⟩ := (hr.over E.le E.nw) j b hx
  refine ⟨A', e1, by omega, hlt, b, e4.1, fun _ => Fin.ent E.back (Fin.of hQ), fun hs => ?_⟩
  have hs' : (bl b).length ≤ 300 := by rw [bl_length]; omega
  rw [show C_countermandref18_Read B b h91 = C_countermandref18_Read B (ba (bl b)) h91 by rw [ba_bl]]
  refine ref18_read_wp E (by omega) (fun hn h18 E1 => ⟨fun e => (by cases e), fun _ => Fin.of (done ?_ E1)⟩) fun n xs hlo a103 c105 r20 h101 R20 E1 => ⟨fun _ => ?_, fun e => by cases e⟩
  · rcases Nat.lt_or_ge j (goods bs).length with h | h
    · have := goods_get hx h
      rw [hn, List.getElem?_eq_getElem h] at this; cases this
    · omega
  · have hjl : j < (goods bs).length := by
      rcases Nat.lt_or_ge j (goods bs).length with h | h
      · exact h
      · have : j = (goods bs).length := by omega
        subst this
        rw [goods_end hx] at hlo; cases hlo
    have hgj := goods_get hx hjl
    rw [hlo] at hgj
    obtain ⟨_, s, gx, _⟩ := loadOf_some hlo
    obtain ⟨-, rd20⟩ := Row.rd (B := B) R20 entC_file_File_len (by omega)
    have hsz := sortGood_len xs s gx
    have hal := apCs_len 0 (chsOf ((goods bs).take j)) z
    have hfl := filesC_len (apCs 0 z (chsOf ((goods bs).take j)))
    refine ⟨_, by omega, afO_cells (E1.at 3 rfl), ref18_apply_wp (ver := 0) (rd20 h101 fun k o e => E1.at 4 (by rw [← e]; rfl)) (by omega) gx (by omega) ?_⟩
    rw [← apCs_app, ← chsOf_take hgj.symm]
    have hal2 := apCs_len 0 (chsOf ((goods bs).take (j + 1))) z
    have hfl2 := filesC_len (apCs 0 z (chsOf ((goods bs).take (j + 1))))
    have g3 := E1.at 3 rfl
    rw [afO_eq] at g3
    refine ⟨by omega, _, stores_whole g3 (by omega) (by omega) (filesC_one _) (fun e => by rw [e] at hfl2; simp at hfl2; omega), Fin.of ⟨bs.length - (j + 1), by omega, j + 1, by omega, hw, hw, rfl, ?_, ?_⟩⟩
    · rw [lastOf_take hgj.symm]
    · rw [← afO_eq]
      exact (E1.put (o' := afO 12 (apCs 0 z (chsOf ((goods bs).take (j + 1))))) 3 rfl).take 4
theorem RedoReplays_wp {bs : List ByteArray} {Q : Bool → Heap → Prop} (h6 : z.length = 6) (hv : ∀ x ∈ z, x.2 = 0) (hr : Reads B h a 1 strC bs) (hQ : Q true h) : C_countermandlaw18_RedoReplays B (filesC z) a bs.length c h Q := by
  refine C_countermandlaw18_RedoReplays.of ?_
  unfold S_countermandlaw18_RedoReplays
  intro k7 a7 b7 h8 e8
  have hzl := filesC_len z
  have E0 := (Keep.nil B h).made a7 b7 e8
  refine alive18_wp fun h9 E1 => ⟨fun _ => ?_, fun e => by cases e⟩
  have E2 := E0.append E1
  refine ⟨filesC z, by omega, blk_cells (E2.at 0 rfl), ?_⟩
  refine tomes_wp E2 h6 hv (fun p z' h12 h6' E3 => ⟨fun e => (by cases e), fun _ k16 a16 b16 h17 e17 => ?_⟩) fun kT kR v r h12 R E3 => ⟨fun _ k125 a125 b125 h126 e126 => ?_, fun e => by cases e⟩
  · obtain ⟨n1, h18, st, E4⟩ := newF E3 h6' a16 b16 e17
    exact ⟨n1, h18, st, Fin.ent E4.back (Fin.of hQ)⟩
  · obtain ⟨n1, h127, st, E4⟩ := newF E3 h6 a125 b125 e126
    exact ⟨n1, h127, st, fun _ => Fin.ent E4.back (Fin.of hQ), fun hl => Fin.of (Replays_J4 (E4.picks [1, 2, 3, 4] (by decide)) R h6 hr (by omega) hQ)⟩
theorem Last_J8 {k119 kd ke : Nat} {vd ve : Value} {rd r2 re r3 : Option (Nat × AObj)} {a2 a3 : Option Addr} {c2 c3 : Nat} {Q : Bool → Heap → Prop} (E : Keep B h0 (rdL kT kR v r k119 z ++ [some (kd, drO_file_File vd), rd, r2, some (ke, drO_file_File ve), re, r3]) h) (R : FRow r v z) (h6 : z.length = 6) (Rd : DRow_file_File rd vd xs) (R2 : Row r2 (.slice a2 xs.length c2) TY.countermandref18_Change 3 (xs.flatMap entC_file_File)) (hl : xs.length ≤ 40) (s : SortD xs) (g : ∀ x ∈ xs, GoodC x)
    (Re : DRow_file_File re ve ys) (R3 : Row r3 (.slice a3 ys.length c3) TY.countermandref18_Change 3 (ys.flatMap entC_file_File)) (hl3 : ys.length ≤ 40) (s3 : SortD ys) (g3 : ∀ x ∈ ys, GoodC x) (hQ : Q true h0) :
    S_countermandlaw18_RedoLast_J8 B (some ⟨kT, 0, none⟩) k119 (some ⟨kd, 0, none⟩) a2 xs.length c2 (some ⟨ke, 0, none⟩) a3 ys.length c3 h Q := by
  unfold S_countermandlaw18_RedoLast_J8
  refine redo_bytes_wp (i := 4) E ⟨rfl, rfl⟩ Rd g (by omega) (by omega) fun h202 E1 => redo_bytes_wp (i := 7) E1 ⟨rfl, rfl⟩ Re g3 (by omega) (by omega) fun h204 E2 => ?_
  intro k206 a206 b206 h207 e207
  have E3 := E2.made a206 b206 e207
  have hlo1 := loadOf_back (n := 3) (by omega) s g
  have hlo2 := loadOf_back (n := 2) (by omega) s3 g3
  have hgo : goods [ba (loadB 3 xs), ba (loadB 2 ys)] = [(3, xs), (2, ys)] := by
    rw [goods_some (p := (3, xs)) (by rw [bl_ba]; exact hlo1), goods_some (p := (2, ys)) (by rw [bl_ba]; exact hlo2)]; rfl
  have Rs : Row (some (k206, .vec TY.string (plains [.string (ba (loadB 3 xs)), .string (ba (loadB 2 ys))]) 2)) (.slice (some ⟨k206, 0, none⟩) 2 2) TY.string 1 ([ba (loadB 3 xs), ba (loadB 2 ys)].flatMap strC) := .inr ⟨k206, 2, 2, 2, [], rfl, rfl, rfl, by omega, by omega⟩
  obtain ⟨-, rds⟩ := Row.rd (B := B) Rs (fun _ => rfl) (by omega)
  obtain ⟨-, rd2⟩ := Row.rd (B := B) R2 entC_file_File_len (by omega)
  obtain ⟨-, rd3⟩ := Row.rd (B := B) R3 entC_file_File_len (by omega)
  have hzl := filesC_len z
  have hal := apCs_len 0 xs z
  have hal2 := apCs_len 0 (xs ++ ys) z
  refine redo_replay_wp (i := 0) (bs := [ba (loadB 3 xs), ba (loadB 2 ys)]) E3 ⟨rfl, ⟨rfl, rfl⟩⟩ R h6 (by simp) (fun r' h' E' => rds h' fun k o e => E'.at 10 (by rw [← e]; rfl)) fun r' h208 R' E4 => ?_
  rw [hgo] at R' ⊢
  have hch : chsOf [(3, xs), (2, ys)] = xs ++ ys := by simp [chsOf]
  rw [hch] at R'
  refine ⟨fun _ => ⟨fun _ => ?_, fun hn => absurd rfl hn⟩, fun hn => absurd (by simp [lastOf]) hn⟩
  refine ⟨filesC z, by omega, afO_cells (E4.at 3 rfl), ref18_apply_wp (ver := 0) (rd2 h208 fun k o e => E4.at 6 (by rw [← e]; rfl)) h6 g (by omega) (ref18_apply_wp (ver := 0) (rd3 h208 fun k o e => E4.at 9 (by rw [← e]; rfl)) (by omega) g3 (by omega) ?_)⟩
  rw [← apCs_app]
  exact are_wp (i := 0) E4 ⟨rfl, ⟨rfl, rfl⟩⟩ R' (by omega) rfl fun h218 E5 => Fin.ent E5.back (Fin.of hQ)
theorem RedoLast_wp {list2 : DFL} {Q : Bool → Heap → Prop} (h6 : z.length = 6) (hv : ∀ x ∈ z, x.2 = 0) (hr : Reads B h a 3 entC_file_File list) (hr1 : Reads B h a1 3 entC_file_File list2) (hQ : Q true h) : C_countermandlaw18_RedoLast B (filesC z) a list.length c a1 list2.length c1 h Q := by
  refine C_countermandlaw18_RedoLast.of ?_
  unfold S_countermandlaw18_RedoLast
  intro k7 a7 b7 h8 e8
  have hzl := filesC_len z
  have E0 := (Keep.nil B h).made a7 b7 e8
  refine alive18_wp fun h9 E1 => ⟨fun _ => ?_, fun e => by cases e⟩
  have E2 := E0.append E1
  refine ⟨filesC z, by omega, blk_cells (E2.at 0 rfl), ?_⟩
  have two : ∀ {h1 : Heap} {M : List (Option (Nat × AObj))} {P : Option Addr → Option Addr → Nat → Nat → Bool → Heap → Prop}, Keep B h M h1 → (∀ p a n c b h2, P p a n c b h2 = ((b = true → Fin B h2 (Q true)) ∧ (b = false → Fin B h2 (Q true)))) → C_countermandlaw18_drawn B a1 list2.length c1 h1 P := fun {h1 M P} E hP => by
    refine drawn_wp (hr1.over E.le E.nw) (fun p h19 E5 => ?_) fun xs kd v r a' c' r2 h19 _ _ _ _ _ E5 => ?_
    · rw [hP]; exact ⟨fun _ => Fin.ent (E.append E5).back (Fin.of hQ), fun _ => Fin.ent (E.append E5).back (Fin.of hQ)⟩
    · rw [hP]; exact ⟨fun _ => Fin.ent (E.append E5).back (Fin.of hQ), fun _ => Fin.ent (E.append E5).back (Fin.of hQ)⟩
  refine tomes_wp E2 h6 hv (fun p z' h12 h6' E3 => ⟨fun e => (by cases e), fun _ k16 a16 b16 h17 e17 => ?_⟩) fun kT kR v r h12 R E3 => ⟨fun _ k125 a125 b125 h126 e126 => ?_, fun e => by cases e⟩
  · obtain ⟨n1, h18, st, E4⟩ := newF E3 h6' a16 b16 e17
    exact ⟨n1, h18, st, drawn_wp (hr.over E4.le E4.nw) (fun p h19 E5 => ⟨fun e => (by cases e), fun _ => two (E4.append E5) fun _ _ _ _ _ _ => rfl⟩) fun xs kd v r a' c' r2 h19 _ _ _ _ _ E5 => ⟨fun _ => two (E4.append E5) fun _ _ _ _ _ _ => rfl, fun e => by cases e⟩⟩
  · obtain ⟨n1, h127, st, E4⟩ := newF E3 h6 a125 b125 e126
    refine ⟨n1, h127, st, drawn_wp (hr.over E4.le E4.nw) (fun p h19 E5 => ⟨fun e => (by cases e), fun _ => two (E4.append E5) fun _ _ _ _ _ _ => rfl⟩) fun xs kd vd rd a2 c2 r2 h128 hl s g Rd R2 E5 => ⟨fun _ => ?_, fun e => by cases e⟩⟩
    have E6 := E4.append E5
    refine drawn_wp (hr1.over E6.le E6.nw) (fun p h19 E5 => ⟨fun e => (by cases e), fun _ => Fin.ent (E6.append E5).back (Fin.of hQ)⟩) fun ys ke ve re a3 c3 r3 h174 hl3 s3 g3 Re R3 E7 => ⟨fun _ => Fin.of ?_, fun e => by cases e⟩
    exact Last_J8 ((E6.append E7).picks [1, 2, 3, 4, 5, 6, 7, 8, 9, 10] (by decide)) R h6 Rd R2 hl s g Re R3 hl3 s3 g3 hQ
end
theorem RedoApplies_calls {H : Type} {enc : TypeId × Value → H} (W : World) {cs : Array Value} {d' : DataW H} {p' : List MemPlace} (k' : DataW.Trod enc PG W 0 (fun _ => true) true TY.a_6_file_File (.agg cs) d' p') {a : Option Addr} {len cap : Nat} {d : DataW H} {p : List MemPlace} (k : DataW.Trod enc PG W 0 (fun _ => true) true TY.s_redo_Change (.slice a len cap) d p) (n : Int) (wn : (Lit.int .i64 n).wf = true) :
    Calls PG FN.countermandlaw18_RedoApplies #[.agg cs, .slice a len cap, .int .i64 n] W fun e w' => e = .returned (.bool true) ∧ Below W.heap.size W w' := by
  obtain ⟨z, h6, hv, rfl⟩ := Files_arg k'
  obtain ⟨l, rfl, hr, hok⟩ := RCh_arg k
  refine Spec.calls (Spec.mono (RedoApplies_wp (Q := fun b _ => b = true) h6 hv hr rfl) ?_)
  rintro v h' ⟨b, rfl, rfl⟩
  rfl
theorem RedoReplays_calls {H : Type} {enc : TypeId × Value → H} (W : World) {cs : Array Value} {d' : DataW H} {p' : List MemPlace} (k' : DataW.Trod enc PG W 0 (fun _ => true) true TY.a_6_file_File (.agg cs) d' p') {a : Option Addr} {len cap : Nat} {d : DataW H} {p : List MemPlace} (k : DataW.Trod enc PG W 0 (fun _ => true) true TY.s_string (.slice a len cap) d p) :
    Calls PG FN.countermandlaw18_RedoReplays #[.agg cs, .slice a len cap] W fun e w' => e = .returned (.bool true) ∧ Below W.heap.size W w' := by
  obtain ⟨z, h6, hv, rfl⟩ := Files_arg k'
  obtain ⟨l, rfl, hr, hok⟩ := Strs_arg k
  refine Spec.calls (Spec.mono (RedoReplays_wp (Q := fun b _ => b = true) h6 hv hr rfl) ?_)
  rintro v h' ⟨b, rfl, rfl⟩
  rfl
theorem RedoLast_calls {H : Type} {enc : TypeId × Value → H} (W : World) {cs : Array Value} {d' : DataW H} {p' : List MemPlace} (k' : DataW.Trod enc PG W 0 (fun _ => true) true TY.a_6_file_File (.agg cs) d' p') {a : Option Addr} {len cap : Nat} {d : DataW H} {p : List MemPlace} (k : DataW.Trod enc PG W 0 (fun _ => true) true TY.s_redo_Change (.slice a len cap) d p) {a1 : Option Addr} {len1 cap1 : Nat} {d1 : DataW H} {p1 : List MemPlace} (k1 : DataW.Trod enc PG W 0 (fun _ => true) true TY.s_redo_Change (.slice a1 len1 cap1) d1 p1) :
    Calls PG FN.countermandlaw18_RedoLast #[.agg cs, .slice a len cap, .slice a1 len1 cap1] W fun e w' => e = .returned (.bool true) ∧ Below W.heap.size W w' := by
  obtain ⟨z, h6, hv, rfl⟩ := Files_arg k'
  obtain ⟨l, rfl, hr, hok⟩ := RCh_arg k
  obtain ⟨l1, rfl, hr1, hok1⟩ := RCh_arg k1
  refine Spec.calls (Spec.mono (RedoLast_wp (Q := fun b _ => b = true) h6 hv hr hr1 rfl) ?_)
  rintro v h' ⟨b, rfl, rfl⟩
  rfl
end Go.Proofs.Ythloobpjkeodgaa.H
