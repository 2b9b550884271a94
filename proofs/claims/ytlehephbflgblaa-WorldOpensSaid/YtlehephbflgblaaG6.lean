/- What the law's proof stands on, part 6. No condition. -/
import Derived.Test.YtlehephbflgblaaG5
namespace Go.Proofs.Ytlehephbflgblaa.H
open Go Go.RowKit
set_option linter.unusedVariables false
set_option maxRecDepth 100000
def appS (S : WS) (l : List UInt8) : WS := { S with cs := S.cs ++ [Chg.mk S.ar false (ba (closeL (1 :: l)))], sz := S.sz + (closeL (1 :: l)).length, ls := S.ls ++ [l] }
structure VLT (S : WS) : Prop where
  tx : bl (textD S.ar S.cs) = rowL (imgL S.e S.im :: S.ls.map (1 :: ·))
  ot : bl (textD (1 - S.ar) S.cs) = []
  sz : S.sz = (bl (textD S.ar S.cs)).length
  il : (imgL S.e S.im).length ≤ 1024
  ll : ∀ l ∈ S.ls, l.length + 1 ≤ 1024
  sm : S.sz ≤ 2340
  e1 : 1 ≤ S.e
  e2 : S.e ≤ 1099511627776
  n0 : 0 ≤ S.n
  ar : S.ar = 0 ∨ S.ar = 1
theorem VLT.app {S : WS} (T : VLT S) {l : List UInt8} (hl : l.length ≤ 216) (hs : S.sz ≤ 2048) : VLT (appS S l) := by
  have hc := closeL_len (l := 1 :: l) (by rw [List.length_cons]; omega)
  rw [List.length_cons] at hc
  have e1 : bl (textD S.ar (S.cs ++ [Chg.mk S.ar false (ba (closeL (1 :: l)))])) = bl (textD S.ar S.cs) ++ closeL (1 :: l) := by rw [tD_app, bl_append, bl_ba]
  have hsz := T.sz
  have har := T.ar
  refine ⟨?_, ?_, ?_, T.il, fun x hx => ?_, by show S.sz + (closeL (1 :: l)).length ≤ 2340; omega, T.e1, T.e2, T.n0, T.ar⟩
  · show bl (textD S.ar (S.cs ++ [Chg.mk S.ar false (ba (closeL (1 :: l)))])) = rowL (imgL S.e S.im :: (S.ls ++ [l]).map (1 :: ·))
    rw [e1, T.tx, List.map_append, ← List.cons_append, rowL_append]
    congr 1
    exact (rowL_one _).symm
  · show bl (textD (1 - S.ar) (S.cs ++ [Chg.mk S.ar false (ba (closeL (1 :: l)))])) = []
    rw [tD_other _ _ (by show S.ar ≠ 1 - S.ar; omega)]; exact T.ot
  · show S.sz + (closeL (1 :: l)).length = (bl (textD S.ar (S.cs ++ [Chg.mk S.ar false (ba (closeL (1 :: l)))]))).length
    rw [e1, List.length_append]; omega
  · rcases List.mem_append.1 hx with hx | hx
    · exact T.ll x hx
    · simp only [List.mem_singleton] at hx; subst hx; omega
theorem VLT.f {S : WS} (T : VLT S) (x : Int) : VLT { S with f := x } := ⟨T.tx, T.ot, T.sz, T.il, T.ll, T.sm, T.e1, T.e2, T.n0, T.ar⟩
def addS (t : Tal) (os : List (Int × Int)) : Tal := os.foldl talAdd t
def outW (w : WR) (o : Int × Int) : WR := setW w o.1 { wayAt w o.1 with q := (wayAt w o.1).q ++ ba [UInt8.ofNat o.2.toNat] }
theorem addS_take {t : Tal} {os : List (Int × Int)} {j : Nat} {o : Int × Int} (h : os[j]? = some o) : addS t (os.take (j + 1)) = talAdd (addS t (os.take j)) o := by
  obtain ⟨h1, rfl⟩ := List.getElem?_eq_some_iff.1 h
  rw [List.take_succ_eq_append_getElem h1, addS, List.foldl_append]; rfl
theorem wayAt_set {w : WR} {i j : Int} {x : Way} : wayAt (setW w i x) j = if j = i ∧ 0 ≤ i ∧ i < 3 then x else wayAt w j := by
  by_cases hc : j = i ∧ 0 ≤ i ∧ i < 3
  · rw [if_pos hc]
    obtain ⟨rfl, h1, h2⟩ := hc
    rcases (by omega : j = 0 ∨ j = 1 ∨ j = 2) with rfl | rfl | rfl <;> rfl
  · rw [if_neg hc]
    unfold setW
    by_cases h0 : i = 0
    · have hj : j ≠ 0 := by omega
      rw [if_pos h0]; unfold wayAt; simp [hj]
    rw [if_neg h0]
    by_cases h1 : i = 1
    · have hj : j ≠ 1 := by omega
      rw [if_pos h1]; unfold wayAt; simp [hj]
    rw [if_neg h1]
    by_cases h2 : i = 2
    · have hj : j ≠ 2 := by omega
      rw [if_pos h2]; unfold wayAt; simp [hj]
    · rw [if_neg h2]
def WLe (w : WR) (n : Nat) : Prop := ∀ i, (wayAt w i).q.size ≤ n ∧ (wayAt w i).s.size ≤ n ∧ (wayAt w i).t.size ≤ n
theorem WLe.ok {w : WR} {n : Nat} (h : WLe w n) (hn : n ≤ 1000000000000) : WOk w := fun i => by
  obtain ⟨a, b, c⟩ := h i
  exact ⟨by omega, by omega, by omega⟩
theorem WLe.zero : WLe (wz, wz, wz) 0 := fun i => by
  have : wayAt (wz, wz, wz) i = wz := by unfold wayAt; (repeat' split) <;> rfl
  rw [this]; exact ⟨Nat.le_refl _, Nat.le_refl _, Nat.le_refl _⟩
theorem WLe.out {w : WR} {n : Nat} (h : WLe w n) (o : Int × Int) : WLe (outW w o) (n + 1) := fun i => by
  unfold outW
  rw [wayAt_set]
  obtain ⟨a, b, c⟩ := h i
  split
  · rename_i e
    rw [← e.1]
    refine ⟨?_, by show (wayAt w i).s.size ≤ _; omega, by show (wayAt w i).t.size ≤ _; omega⟩
    show ((wayAt w i).q ++ ba [_]).size ≤ n + 1
    rw [ByteArray.size_append, ba_size]; simp; omega
  · exact ⟨by omega, by omega, by omega⟩
theorem TK.slc_wnotes : slcB PG TY.s_world_Note = some (TY.world_Note, 2, 16) := by kernel_rfl
theorem TK.zero_wnote : zeroB PG TY.world_Note = some [.int .i64 0, .int .i64 0] := by kernel_rfl
theorem TK.sl_wnotes : slT PG TY.s_world_Note = true := by kernel_rfl
section
variable {B : RO} {h0 h h' : Heap} {L M : List (Option (Nat × AObj))} {I : WI} {S : WS} {i j : Int} {q kd k : Nat} {xs : DFL} {v : Value} {r : Option (Nat × AObj)} {os : List (Int × Int)} {a : Option Addr} {c : Nat}
theorem WI.split (E : Keep B h0 (L ++ I.e S) h) : Keep B h0 ((L ++ I.h S) ++ vE I.kD I.kv I.kl S.cs S.k I.vd I.rd S.e true (walO I.kD S.ar S.sz false)) h := by rw [List.append_assoc]; exact E
end
end Go.Proofs.Ytlehephbflgblaa.H
namespace Go.Proofs.Ytlehephbflgblaa.H
open Go Go.RowKit
set_option linter.unusedVariables false
set_option maxRecDepth 100000
theorem talAdd_out {t : Tal} {o : Int × Int} (h : ¬ (0 ≤ o.1 ∧ o.1 < 4)) : talAdd t o = t := by
  unfold talAdd talSet
  rw [if_neg (by omega), if_neg (by omega), if_neg (by omega), if_neg (by omega)]
section
variable {B : RO} {h0 h h' : Heap} {L M : List (Option (Nat × AObj))} {I : WI} {S : WS} {i j t : Int} {k : Nat} {v : Value} {r : Option (Nat × AObj)} {os : List (Int × Int)} {ns : List Int} {a : Option Addr} {c : Nat}
theorem wadd_wp {Q : Heap → Prop} (E : Keep B h0 (L ++ (I.e S ++ M)) h) (hr : ∀ T h', Keep B h0 (L ++ (I.e { S with tl := T } ++ M)) h' → Reads B h' a 2 OpenC os) (hl : os.length ≤ 1000000)
    (hQ : ∀ h', Keep B h0 (L ++ (I.e { S with tl := addS S.tl os } ++ M)) h' → Q h') : C_world_World_Add B (some ⟨I.kW, 0, none⟩) a os.length c h Q := by
  refine C_world_World_Add.of ?_
  unfold S_world_World_Add
  refine ⟨fun e => (by cases e), fun _ => ⟨fun q m h' => ∃ j : Nat, j ≤ os.length ∧ q = j ∧ m = os.length - j ∧ Keep B h0 (L ++ (I.e { S with tl := addS S.tl (os.take j) } ++ M)) h', os.length, Fin.of ⟨0, by omega, rfl, rfl, E⟩, ?_⟩⟩
  clear E
  rintro _ _ h7 ⟨j, hj, rfl, rfl, E1⟩
  refine ⟨fun hlt => ?_, fun hge => Fin.of ?_⟩
  · have hj' : j < os.length := by omega
    have hx := List.getElem?_eq_getElem hj'
    generalize os[j] = o at hx
    obtain ⟨A, f1, _, f3⟩ := hr _ h7 E1 j o hx
    refine ⟨A, f1, by omega, by omega, o.1, o.2, by rw [Int.toNat_natCast]; exact f3, fun k16 a16 b16 h17 e17 => ?_⟩
    have E2 := E1.made a16 b16 e17
    refine ⟨_, stores_whole E2.last rfl (by simp) (by simp [isOne]) (by simp), ?_⟩
    have E3 := E2.putLast (.vec TY.acts_Open (plains [.int .i64 o.1, .int .i64 o.2]) 2)
    have g3 := E3.last
    have E4 := E3.pop
    have ht := addS_take (t := S.tl) hx
    generalize Heap.set h17 k16 _ = hh at g3 E3 E4 ⊢
    generalize addS S.tl (os.take j) = T at *
    have go : ∀ {h1 : Heap}, Keep B h0 (L ++ (I.e { S with tl := talAdd T o } ++ M)) h1 → Fin B h1 (fun h' => ∃ m', m' < os.length - j ∧ ∃ j' : Nat, j' ≤ os.length ∧ IntKind.wrap .i64 ((j : Int) + 1) = j' ∧ m' = os.length - j' ∧ Keep B h0 (L ++ (I.e { S with tl := addS S.tl (os.take j') } ++ M)) h') := fun E5 => Fin.of ⟨os.length - (j + 1), by omega, j + 1, by omega, wrapS (by omega), rfl, by rw [ht]; exact E5⟩
    have jf : ¬ (0 ≤ o.1 ∧ o.1 < 4) → ∀ {m8 : Nat} {i6 : Int} {J : Int → Nat → Heap → Prop}, (Fin B hh (fun h' => ∃ m', m' < m8 ∧ J (IntKind.wrap .i64 (i6 + 1)) m' h')) → S_world_World_Add_J1 B (some ⟨I.kW, 0, none⟩) a os.length c i6 m8 J k16 false hh Q := fun hn m8 i6 J hf => by
      unfold S_world_World_Add_J1
      exact ⟨fun e => (by cases e), fun _ => hf⟩
    have no : ¬ (0 ≤ o.1 ∧ o.1 < 4) → Keep B h0 (L ++ (I.e { S with tl := talAdd T o } ++ M)) hh := fun hn => by rw [talAdd_out hn]; exact E4
    refine ⟨o.1, cellH_vec g3 rfl, fun h1 => ⟨o.1, cellH_vec g3 rfl, fun h2 => Fin.of ?_, fun h2 => Fin.of (jf (by omega) (go (no (by omega))))⟩, fun h1 => Fin.of (jf (by omega) (go (no (by omega))))⟩
    unfold S_world_World_Add_J1
    have gW := E4.gM (k := I.kW) (o := wldO I { S with tl := T }) 7 rfl
    have hc : o.1 = 0 ∨ o.1 = 1 ∨ o.1 = 2 ∨ o.1 = 3 := by omega
    have c5 : cellH B hh (Addr.add (Addr.add ⟨I.kW, 0, none⟩ 5) (o.1.toNat * 1)) = some (.int .i64 (talAt T o.1)) := by rcases hc with e | e | e | e <;> rw [e] <;> exact cellH_vec gW rfl
    have s5 : ∀ x : Int, storeH hh (Addr.add (Addr.add ⟨I.kW, 0, none⟩ 5) (o.1.toNat * 1)) (.int .i64 x) = some (Heap.set hh I.kW (wldO I { S with tl := talSet T o.1 x })) := fun x => by rcases hc with e | e | e | e <;> rw [e] <;> exact storeH_vec gW rfl
    exact ⟨fun _ => ⟨o.1, cellH_vec g3 rfl, _, rfl, by omega, by omega, _, c5, o.2, cellH_vec g3 rfl, _, rfl, by omega, by omega, _, s5 _, go (E4.pM (o' := wldO I { S with tl := talAdd T o }) 7 rfl)⟩, fun e => by cases e⟩
  · have : j = os.length := by omega
    subst this
    rw [List.take_length] at E1
    exact hQ _ E1
theorem wclone_wp {q m c : Nat} {a : Option Addr} {r : Option (Nat × AObj)} {l : List (Int × Int)} {Q : Option Addr → Nat → Nat → Heap → Prop} (E : Keep B h0 L h) (hq : L[q]? = some r) (R : Row r (.slice a m c) TY.world_Note 2 (l.flatMap NoteW)) (hl : l.length ≤ 1000000)
    (hQ : ∀ a' m' c' r' h', Row r' (.slice a' m' c') TY.world_Note 2 (l.flatMap NoteW) → Keep B h0 (L ++ [r']) h' → Q a' m' c' h') : C_slices_Clone_s_world_Note_world_Note B a m c h Q := by
  refine C_slices_Clone_s_world_Note_world_Note.of ?_
  unfold S_slices_Clone_s_world_Note_world_Note
  have fl := flatMap_length NoteW_len l
  refine ⟨fun e => Fin.of ?_, fun hne k8 a8 b8 h9 e9 => ?_⟩
  · subst e
    have hl0 : l = [] := by
      rcases R with ⟨_, e2, e3⟩ | ⟨k, n, c, nn, is, _, e1, _⟩
      · exact List.length_eq_zero_iff.1 (by have := congrArg List.length e3; rw [fl] at this; simp at this; omega)
      · cases e1
    subst hl0
    exact hQ none 0 0 none h (Row.nil _ _) E.gap
  · have E1 := E.made a8 b8 e9
    have R0 : Row (some (k8, AObj.vec TY.world_Note [] 0)) (.slice (some ⟨k8, 0, none⟩) 0 0) TY.world_Note 2 [] := .inr ⟨k8, 0, 0, 0, [], rfl, rfl, by simp, Nat.le_refl _, by simp⟩
    refine E1.pushS L.length (by simp) R0 TK.slc_wnotes TK.zero_wnote rfl (by omega) (by omega) TK.sl_wnotes (R.src (fun k o e => E1.at q (by rw [up_app _ hq, e])) NoteW_len (by omega) NoteW_one) (by rw [fl]; simp; omega) fun a' m' c' r'' h'' R' E' => ⟨a', m', c', rfl, Fin.of (hQ a' m' c' r'' _ (by rw [List.nil_append] at R'; exact R') ?_)⟩
    rw [List.set_append_right _ _ (Nat.le_refl _), Nat.sub_self] at E'
    exact E'
theorem wnotes_wp {Q : Option Addr → Nat → Nat → Heap → Prop} (E : Keep B h0 (L ++ (I.e S ++ M)) h) (R : Row I.rn I.vn TY.world_Note 2 (S.nt.flatMap NoteW)) (hl : S.nt.length ≤ 1000000)
    (hQ : ∀ a' m' c' r' h', Row r' (.slice a' m' c') TY.world_Note 2 (S.nt.flatMap NoteW) → Keep B h0 (L ++ (I.e S ++ M) ++ [r']) h' → Q a' m' c' h') : C_world_World_Notes B (some ⟨I.kW, 0, none⟩) h Q := by
  refine C_world_World_Notes.of ?_
  unfold S_world_World_Notes
  obtain ⟨a0, m0, c0, e⟩ := Row.slice R
  have gW := E.gM (k := I.kW) (o := wldO I S) 7 rfl
  unfold wldO at gW
  rw [e] at R gW
  exact ⟨fun e => (by cases e), fun _ => ⟨_, rfl, .inl ⟨a0, m0, c0, cellH_vec gW rfl, wclone_wp (q := L.length + 10) E (upM 10 rfl) R hl fun a' m' c' r' h' R' E' => Fin.of (hQ a' m' c' r' _ R' E')⟩⟩⟩
end
end Go.Proofs.Ytlehephbflgblaa.H
namespace Go.Proofs.Ytlehephbflgblaa.H
open Go Go.RowKit
set_option linter.unusedVariables false
set_option maxRecDepth 100000
def lastC (acc : DFL) : Int := (acc.getLast?.map (·.1)).getD (-1)
theorem lastC_nil : lastC [] = -1 := rfl
theorem lastC_snoc (acc : DFL) (x : ChR) : lastC (acc ++ [x]) = x.1 := by unfold lastC; simp
section
variable {B : RO} {h0 h h' : Heap} {L : List (Option (Nat × AObj))} {r : Option (Nat × AObj)} {i k kT kR : Nat} {a : Option Addr} {m c : Nat} {v : Value} {xs : DFL} {l : FL} {s : ByteArray} {l0 : List UInt8}
theorem ref18_nat_wp {l : List UInt8} {most : Int} {m : Nat} {Q : Int → ByteArray → Bool → Heap → Prop} (hm : most = m) (hm2 : m ≤ 9223372036854775807) (hs : l.length ≤ 1099511627776) (hN : natT m l = none → Q 0 (ByteArray.mk #[]) false h) (hS : ∀ (n : Nat) (r : List UInt8), natT m l = some (n, r) → Q n (ba r) true h) : C_countermandref18_nat B (ba l) most h Q := by
  subst hm
  refine C_countermandref18_nat.of ?_
  unfold S_countermandref18_nat
  refine taken_wp (by rw [ba_size]; exact hs) ?_
  rw [bl_ba]
  cases hw : wordOf l with
  | none =>
    have et : takenOf l = (0, 0) := by rw [takenOf, hw]
    rw [et]
    exact ⟨fun _ => Fin.of (hN (by rw [natT, hw])), fun hn => absurd rfl hn⟩
  | some p =>
    obtain ⟨n, rr⟩ := p
    have et : takenOf l = (n, l.length - rr.length) := by rw [takenOf, hw]
    obtain ⟨el, ei⟩ := wordOf_eq hw
    have hp := natB_pos n
    have hlen : l.length = (natB n).length + rr.length := by rw [el, List.length_append]
    rw [et]
    refine ⟨fun e => by simp only at e; omega, fun _ => ⟨fun h5 => Fin.of (hN (by rw [natT, hw]; simp only at h5 ⊢; rw [if_pos (by omega)])), fun h5 => Fin.of ?_⟩⟩
    simp only at h5
    unfold S_countermandref18_nat_J1
    rw [ba_size]
    simp only [Int.toNat_natCast]
    have ex1 : ByteArray.extract (ba l) (l.length - rr.length) l.length = ba rr := by
      rw [extract_ba_end]
      congr 1
      conv => lhs; rw [el]
      rw [show (natB n ++ rr).length - rr.length = (natB n).length by rw [List.length_append]; omega, List.drop_left]
    rw [ex1, w64 (n := ((n : Nat) : Int)) (by omega) (by omega)]
    exact ⟨by omega, by omega, by omega, Fin.of (hS n rr (by rw [natT, hw]; simp only; rw [if_neg (by omega)]))⟩
theorem ref18_read_wp {Q : Int → Option Addr → Nat → Nat → Bool → Heap → Prop} (E : Keep B h0 L h) (hsz : l0.length ≤ 1000000000) (hN : loadOf l0 = none → ∀ h', Keep B h0 L h' → Q 0 none 0 0 false h')
    (hS : ∀ n xs, loadOf l0 = some (n, xs) → ∀ a c r h', Row r (.slice a xs.length c) TY.countermandref18_Change 3 (xs.flatMap entC_file_File) → Keep B h0 (L ++ [r]) h' → Q n a xs.length c true h') : C_countermandref18_Read B (ba l0) h Q := by
  refine C_countermandref18_Read.of ?_
  unfold S_countermandref18_Read
  refine ref18_nat_wp (m := 1099511627776) rfl (by omega) (by omega) (fun hn => ⟨fun e => (by cases e), fun _ => Fin.of (hN (loadOf_none hn) _ E)⟩) fun n0 lr hn => ⟨fun _ => ?_, fun e => by cases e⟩
  have hlo := loadOf_eq hn
  have hlr : lr.length ≤ l0.length := by rw [(natT_eq hn).1, List.length_append]; omega
  refine ⟨fun s a n c m h' => ∃ (l : List UInt8) (acc : DFL) (r : Option (Nat × AObj)), s = ba l ∧ n = acc.length ∧ m = l.length ∧ l.length ≤ l0.length ∧ -1 ≤ lastC acc ∧ lastC acc ≤ 5 ∧ (acc.length : Int) ≤ lastC acc + 1 ∧ Row r (.slice a acc.length c) TY.countermandref18_Change 3 (acc.flatMap entC_file_File) ∧ (loadOf l0 = (readC l (lastC acc)).map fun ys => (n0, acc ++ ys)) ∧ Keep B h0 (L ++ [r]) h', lr.length, Fin.of ⟨lr, [], none, rfl, rfl, rfl, hlr, by rw [lastC_nil]; omega, by rw [lastC_nil]; omega, by rw [lastC_nil]; simp, Row.nil _ _, hlo, E.gap⟩, ?_⟩
  clear E hlo
  rintro _ a _ c _ h15 ⟨l, acc, r, rfl, rfl, rfl, hll, q1, q2, q3, R, i3, E⟩
  refine ⟨fun hpos => ?_, fun hz => Fin.of ?_⟩
  · rw [ba_size] at hpos
    have hne : l ≠ [] := fun e => by rw [e] at hpos; simp at hpos
    have nope : ∀ {h1 : Heap} {M : List (Option (Nat × AObj))}, readC l (lastC acc) = none → Keep B h0 (L ++ M) h1 → Q 0 none 0 0 false h1 := fun {h1 M} e1 E1 => hN (by rw [i3, e1]; rfl) _ E1.zM
    intro k21 a21 b21 h22 e22
    have E1 := E.nM a21 b21 e22
    refine ⟨_, stores_whole (E1.gM 1 rfl) rfl (by simp) (by simp [isOne]) (by simp), ?_⟩
    have E2 := E1.pM (o' := .vec TY.countermandref18_Change (plains [.int .i64 0, .bool false, .string ByteArray.empty]) 3) 1 rfl
    refine ref18_nat_wp (m := 5) rfl (by omega) (by omega) (fun t0 => ⟨fun e => (by cases e), fun _ => ?_⟩) fun ix r1 t0 => ⟨fun _ => ?_, fun e => by cases e⟩
    · refine ⟨_, storeH_vec (E2.gM 1 rfl) rfl, Fin.of ?_⟩
      have E3 := E2.pM (o' := .vec TY.countermandref18_Change (plains [.int .i64 0, .bool false, .string ByteArray.empty]) 3) 1 rfl
      unfold S_countermandref18_Read_J1
      exact ⟨fun e => (by cases e), fun _ => Fin.of (nope (readC_none hne (stepC_0 t0)) E3)⟩
    · have hr1 : r1.length < l.length := by
        have := natB_pos ix
        rw [(natT_eq t0).1, List.length_append]; omega
      refine ⟨_, storeH_vec (E2.gM 1 rfl) rfl, ?_⟩
      have E3 := E2.pM (o' := .vec TY.countermandref18_Change (plains [.int .i64 (ix : Nat), .bool false, .string ByteArray.empty]) 3) 1 rfl
      refine ref18_nat_wp (m := 1) rfl (by omega) (by omega) (fun t1 => ⟨fun e => (by cases e), fun _ => Fin.of ?_⟩) fun kx r2 t1 => ⟨fun _ => Fin.of ?_, fun e => by cases e⟩
      · unfold S_countermandref18_Read_J4
        exact ⟨fun e => (by cases e), fun _ => Fin.of (nope (readC_none hne (stepC_1 t0 t1)) E3)⟩
      · have hr2 : r2.length < r1.length := by
          have := natB_pos kx
          rw [(natT_eq t1).1, List.length_append]; omega
        have low : (ix : Int) ≤ lastC acc → readC l (lastC acc) = none := fun hle => by
          cases hst : stepC l with
          | none => exact readC_none hne hst
          | some p =>
            obtain ⟨x, rr⟩ := p
            have hxi : x.1 = (ix : Int) := by
              by_cases hk : kx = 1
              · subst hk
                cases t2 : natT 32 r2 with
                | none => rw [stepC_2 t0 t1 t2] at hst; cases hst
                | some p =>
                  obtain ⟨n, r3⟩ := p
                  by_cases hs : r3.length < n
                  · rw [stepC_3 t0 t1 t2 hs] at hst; cases hst
                  · rw [stepC_on t0 t1 t2 hs] at hst; cases hst; rfl
              · rw [stepC_off t0 t1 hk] at hst; cases hst; rfl
            rw [readC_some hst, if_pos (by omega)]
        have go : ∀ {h1 : Heap} {x : ChR} {rr : List UInt8}, stepC l = some (x, rr) → lastC acc < x.1 → Keep B h0 (L ++ [r, some (k21, .vec TY.countermandref18_Change (plains (entC_file_File x)) 3)]) h1 → ∀ k47 : Nat, h1 k47 = none → B k47 = none → ∀ h48 : Heap, h48 = Heap.set h1 k47 (.vec TY.countermandref18_Change (plains (entC_file_File x)) 3) →
            semH PG B (Builtin.append_ #[TY.s_countermandref18_Change, TY.s_countermandref18_Change] TY.s_countermandref18_Change #[(Value.slice a acc.length c), (Value.slice (some ⟨k47, 0, none⟩) 1 1)]) h48 (fun v h49 => ∃ a50 : Option Addr, ∃ n51 : Nat, ∃ c52 : Nat, v = (Value.slice a50 n51 c52) ∧
              Fin B h49 (fun h' => ∃ m', m' < l.length ∧ ∃ (l : List UInt8) (acc : DFL) (r : Option (Nat × AObj)), ba rr = ba l ∧ n51 = acc.length ∧ m' = l.length ∧ l.length ≤ l0.length ∧ -1 ≤ lastC acc ∧ lastC acc ≤ 5 ∧ (acc.length : Int) ≤ lastC acc + 1 ∧ Row r (.slice a50 acc.length c52) TY.countermandref18_Change 3 (acc.flatMap entC_file_File) ∧ (loadOf l0 = (readC l (lastC acc)).map fun ys => (n0, acc ++ ys)) ∧ Keep B h0 (L ++ [r]) h')) := fun {h1 x rr} e1 hgt E1 k47 a47 b47 h48 e48 => by
          obtain ⟨⟨g1, g2, g3⟩, -⟩ := stepC_some e1
          have hlt := stepC_lt e1
          have hrd := readC_some (last := lastC acc) e1
          rw [if_neg (by omega)] at hrd
          refine E1.push1 (L.length + 0) (upM 0 rfl) R TK.slc_xch TK.zero_xch rfl (by omega) (by omega) TK.sl_xch (ys := entC_file_File x) rfl (entC_file_File_one x) (by rw [flatMap_length entC_file_File_len, entC_file_File_len]; omega) a47 b47 e48 fun a' m' c' r' h' R' E2 => ⟨a', m', c', rfl, Fin.of ⟨rr.length, hlt, rr, acc ++ [x], r', rfl, ?_, rfl, by omega, by rw [lastC_snoc]; omega, by rw [lastC_snoc]; omega, by rw [lastC_snoc, List.length_append]; simp; omega, ?_, ?_, ?_⟩⟩
          · have := Row.len R'
            rw [List.length_append, flatMap_length entC_file_File_len, entC_file_File_len] at this
            rw [List.length_append, List.length_singleton]; omega
          · have := Row.len R'
            rw [List.length_append, flatMap_length entC_file_File_len, entC_file_File_len] at this
            rw [show m' = (acc ++ [x]).length by rw [List.length_append, List.length_singleton]; omega] at R'
            rw [List.flatMap_append, List.flatMap_singleton]; exact R'
          · rw [i3, hrd, Option.map_map, lastC_snoc]
            congr 1
            funext ys
            simp [List.append_assoc]
          · rw [setM] at E2
            exact E2.tM 1
        have six : lastC acc < (ix : Int) → S_countermandref18_Read_J5 B (n0 : Nat) a acc.length c l.length (fun s a n c m h' => ∃ (l : List UInt8) (acc : DFL) (r : Option (Nat × AObj)), s = ba l ∧ n = acc.length ∧ m = l.length ∧ l.length ≤ l0.length ∧ -1 ≤ lastC acc ∧ lastC acc ≤ 5 ∧ (acc.length : Int) ≤ lastC acc + 1 ∧ Row r (.slice a acc.length c) TY.countermandref18_Change 3 (acc.flatMap entC_file_File) ∧ (loadOf l0 = (readC l (lastC acc)).map fun ys => (n0, acc ++ ys)) ∧ Keep B h0 (L ++ [r]) h') k21 (ba r2) (kx : Nat) _ Q := fun hgt => by
          unfold S_countermandref18_Read_J5
          refine ⟨fun hk => ?_, fun hk => ?_⟩
          · have hk1 : kx = 1 := by omega
            subst hk1
            refine ref18_nat_wp (m := 32) rfl (by omega) (by omega) (fun t2 => ⟨fun e => (by cases e), fun _ => Fin.of (nope (readC_none hne (stepC_2 t0 t1 t2)) E3)⟩) fun n r3 t2 => ⟨fun _ => ⟨fun hs => Fin.of ?_, fun hs => Fin.of ?_⟩, fun e => by cases e⟩
            · rw [ba_size] at hs
              exact nope (readC_none hne (stepC_3 t0 t1 t2 (by omega))) E3
            · rw [ba_size] at hs
              have hs' : ¬ r3.length < n := by omega
              unfold S_countermandref18_Read_J6
              rw [ba_size]
              simp only [Int.toNat_natCast, Int.toNat_zero]
              rw [extract_ba, extract_ba_end]
              obtain ⟨h58, st, E4⟩ := E3.vM 1 (fs := [.int .i64 (ix : Nat)]) (gs := [.bool false, .string ByteArray.empty]) rfl [.bool true, .string (ba (r3.take n))] (by simp [isOne]) 1 rfl (by simp)
              exact ⟨by omega, by omega, by omega, h58, st, by omega, by omega, by omega, (ix : Nat), true, ba (r3.take n), ⟨E4.cM 1 rfl (i := 0) rfl, E4.cM 1 rfl (i := 1) rfl, E4.cM 1 rfl (i := 2) rfl, trivial⟩, go (stepC_on t0 t1 t2 hs') hgt E4⟩
          · exact ⟨(ix : Nat), false, ByteArray.empty, ⟨E3.cM 1 rfl (i := 0) rfl, E3.cM 1 rfl (i := 1) rfl, E3.cM 1 rfl (i := 2) rfl, trivial⟩, go (stepC_off t0 t1 (by omega)) hgt E3⟩
        unfold S_countermandref18_Read_J4
        refine ⟨fun _ => ⟨fun hn13 => ?_, fun hn13 => Fin.of (six ?_)⟩, fun e => by cases e⟩
        · obtain ⟨acc', x, rfl⟩ : ∃ acc' x, acc = acc' ++ [x] := ⟨acc.dropLast, acc.getLast (fun e => by rw [e] at hn13; simp at hn13), (List.dropLast_concat_getLast _).symm⟩
          obtain ⟨-, hrd⟩ := Row.rd (B := B) R entC_file_File_len (by omega)
          have hll : (acc' ++ [x]).length = acc'.length + 1 := by simp
          have hw : IntKind.wrap .i64 ((((acc' ++ [x]).length : Nat) : Int) - 1) = ((acc'.length : Nat) : Int) := by rw [w64 (by omega) (by omega)]; omega
          obtain ⟨A', e1, _, e4⟩ := hrd _ (fun k o e => E3.gM 0 (by rw [← e]; rfl)) acc'.length x (by simp)
          rw [hw]
          simp only [Int.toNat_natCast]
          refine ⟨A', e1, by omega, by omega, x.1, e4.1, (ix : Nat), E3.cM 1 rfl (i := 0) rfl, fun hge => Fin.of (nope (low (by rw [lastC_snoc]; omega)) E3), fun hlt => Fin.of (six (by rw [lastC_snoc]; omega))⟩
        · have : acc = [] := List.length_eq_zero_iff.1 (by omega)
          subst this
          rw [lastC_nil]; omega
  · have hl : l = [] := by
      rw [ba_size] at hz
      exact List.length_eq_zero_iff.1 (by omega)
    subst hl
    rw [readC_nil] at i3
    exact hS n0 acc (by rw [i3]; simp) a c r _ R E
end
end Go.Proofs.Ytlehephbflgblaa.H
namespace Go.Proofs.Ytlehephbflgblaa.H
open Go Go.RowKit
set_option linter.unusedVariables false
set_option maxRecDepth 100000
theorem eqL_file' (b : Bool) (s : ByteArray) : eqL [Value.bool b, Value.string s] [Value.bool b, Value.string s] = true := by
  have e : (s == s) = true := by cases s with | mk d => exact beq_self_eq_true d
  simp [eqL, leafEq, e]
section
variable {B : RO} {h0 h h' : Heap} {L : List (Option (Nat × AObj))} {r : Option (Nat × AObj)} {i k kT kR : Nat} {a a1 : Option Addr} {m c c1 : Nat} {v : Value} {xs list : DFL} {l z : FL} {s : ByteArray}
theorem Keep.fileSet {z : FL} (E : Keep B h0 L h) (i : Nat) {k nn : Nat} {t : TypeId} {zs : List Value} (hi : L[i]? = some (some (k, .vec t (plains (filesC z ++ zs)) nn))) (q : Nat) (hq : q < z.length) (hn : z.length * 2 ≤ nn) (b : Bool) (s : ByteArray) (ver : Int) :
    ∃ h', StoresAt (Addr.add ⟨k, 0, none⟩ (q * 2)) h 0 [.bool b, .string s] h' ∧ Keep B h0 (L.set i (some (k, .vec t (plains (filesC (z.set q ((b, s), ver)) ++ zs)) nn))) h' := by
  have l1 := filesC_len (z.take q)
  rw [List.length_take] at l1
  obtain ⟨h15, s1, -, s3⟩ := StoresAt.over (k := k) (nn := nn) (t := t) [.bool b, .string s] h (q * 2) 0 (filesC (z.take q)) (fileC z[q] ++ filesC (z.drop (q + 1)) ++ zs) (by simp [isOne]) (by
    rw [E.at i hi]
    congr 2
    rw [filesC, flatMap_splitR z q hq]
    simp [filesC, List.append_assoc]) (by omega) (by simp; omega)
  have s4 := s3 (by simp)
  have e4 : filesC (z.take q) ++ [.bool b, .string s] ++ (fileC z[q] ++ filesC (z.drop (q + 1)) ++ zs).drop [Value.bool b, Value.string s].length = filesC (z.set q ((b, s), ver)) ++ zs := by
    rw [filesC_set z q hq, List.append_assoc (fileC z[q])]
    simp only [List.append_assoc]
    rfl
  rw [e4] at s4
  refine ⟨h15, by rw [addr_more, Nat.zero_add]; exact s1, ?_⟩
  rw [s4]
  exact E.put i hi
def afO (n : Nat) (z : FL) : AObj := .vec TY.a_6_countermandref09_File (plains (filesC z ++ [])) n
theorem afO_eq (n : Nat) (z : FL) : afO n z = .vec TY.a_6_countermandref09_File (plains (filesC z)) n := by rw [afO, List.append_nil]
theorem ref18_apply_wp {ver : Int} {Q : List Value → Heap → Prop} (hr : Reads B h a 3 entC_file_File xs) (h6 : z.length = 6) (g : ∀ x ∈ xs, GoodC x) (hl : xs.length ≤ 1000) (hQ : Q (filesC (apCs ver z xs)) h) : C_countermandref18_Apply B (filesC z) a xs.length c h Q := by
  refine C_countermandref18_Apply.of ?_
  unfold S_countermandref18_Apply
  intro k6 a6 b6 h7 e7 k8 a8 b8 h9 e9
  have hzl := filesC_len z
  have E0 : Keep B h [some (k6, afO 12 z), some (k8, afO 12 zF)] h9 := by
    have := ((Keep.nil B h).made a6 b6 e7).made a8 b8 e9
    rw [afO_eq, afO_eq]
    rw [show (filesC z).length = 12 by omega] at this
    exact this
  refine ⟨fun ix m h' => ∃ j : Nat, j ≤ xs.length ∧ ix = j ∧ m = xs.length - j ∧ Keep B h [some (k6, afO 12 (apCs ver z (xs.take j))), some (k8, afO 12 zF)] h', xs.length, Fin.of ⟨0, by omega, rfl, by omega, E0⟩, ?_⟩
  clear E0 e7 e9
  rintro _ _ h11 ⟨j, hj, rfl, rfl, E⟩
  refine ⟨fun hlt => ?_, fun hge => ?_⟩
  · have hj' : j < xs.length := by omega
    have hw : IntKind.wrap .i64 ((j : Int) + 1) = ((j + 1 : Nat) : Int) := by rw [w64 (by omega) (by omega)]; omega
    have hx := List.getElem?_eq_getElem hj'
    have gx := g _ (List.getElem_mem hj')
    generalize xs[j] = x at hx gx
    obtain ⟨g1, g2, g3⟩ := gx
    obtain ⟨A', e1, _, e4⟩ := (hr.over E.le E.nw) j x hx
    refine ⟨A', e1, by omega, hlt, x.1, x.2.1, x.2.2, e4, fun k22 a22 b22 h23 e23 => ?_⟩
    have E1 := E.made a22 b22 e23
    refine ⟨_, stores_whole E1.last rfl (by simp) (by simp [isOne]) (by simp), ?_⟩
    have E2 := E1.putLast (.vec TY.countermandref18_Change (plains (entC_file_File x)) 3)
    refine ⟨x.1, cellH_vec E2.last rfl, x.2.1, x.2.2, ⟨cellH_vec E2.last rfl, cellH_vec E2.last rfl, trivial⟩, by omega, by omega, ?_⟩
    have hal := apCs_len ver (xs.take j) z
    obtain ⟨h28, st, E3⟩ := E2.fileSet 0 (zs := []) rfl x.1.toNat (by omega) (by omega) x.2.1 x.2.2 ver
    refine ⟨h28, st, Fin.of ⟨xs.length - (j + 1), by omega, j + 1, by omega, hw, rfl, ?_⟩⟩
    rw [apCs_take ver z hx]
    exact E3.take 2
  · have : j = xs.length := by omega
    subst this
    rw [List.take_length] at E
    have hfl := filesC_len (apCs ver z xs)
    rw [apCs_len, h6] at hfl
    have g6 := E.at 0 rfl
    rw [afO_eq] at g6
    have g8 := E.at 1 rfl
    rw [afO_eq] at g8
    have E3 := E.put (o' := .vec TY.a_6_countermandref09_File (plains (filesC (apCs ver z xs) ++ [])) 12) 1 rfl
    rw [List.append_nil] at E3
    refine ⟨filesC (apCs ver z xs), hfl, E.cellsP (zs := []) 0 rfl, hfl, _, stores_whole g8 (by rw [hfl]; rfl) (by omega) (filesC_one _) (fun e => by rw [e] at hfl; simp at hfl), filesC (apCs ver z xs), hfl, ?_, Fin.ent E3.back (Fin.of hQ)⟩
    exact E3.cellsP (zs := []) (ys := filesC (apCs ver z xs)) 1 (by rw [List.append_nil]; rfl)
end
end Go.Proofs.Ytlehephbflgblaa.H
namespace Go.Proofs.Ytlehephbflgblaa.H
open Go Go.RowKit
set_option linter.unusedVariables false
set_option maxRecDepth 100000
theorem hd_byte {b : UInt8} {t : List UInt8} : byteAt (ba (b :: t)) (Int.toNat 0) = ((b.toNat : Nat) : Int) := by
  obtain ⟨b', e1, e2⟩ := byteAt_w (s := ba (b :: t)) (i := 0) (by rw [ba_size]; simp)
  rw [bl_ba] at e1
  cases e1
  exact e2
theorem tl_bytes {b : UInt8} {t : List UInt8} : ByteArray.extract (ba (b :: t)) (Int.toNat 1) (Int.toNat (((ba (b :: t)).size : Nat) : Int)) = ba t := by
  rw [ba_size, Int.toNat_natCast]; exact extract_ba_end (b :: t) 1
theorem u8_eq {b c : UInt8} (h : b.toNat = c.toNat) : b = c := UInt8.toNat.inj h
section
variable {B : RO} {h0 h h' : Heap} {L M : List (Option (Nat × AObj))} {r : Option (Nat × AObj)} {b b1 b2 : List UInt8} {a a1 : Option Addr} {c c1 : Nat} {ls ls1 : List (List UInt8)}
theorem told_wp {Q : Int → ByteArray → Option Addr → Nat → Nat → Heap → Prop} (hs : b.length ≤ 1000000000) (hQ : ∀ a c r' h', SRow r' (.slice a (toldL b).ls.length c) (toldL b).ls → Keep B h [r'] h' → Q ((toldL b).e : Nat) (ba (toldL b).im) a (toldL b).ls.length c h') : C_countermandref05_Told B (ba b) h Q := by
  refine C_countermandref05_Told.of ?_
  unfold S_countermandref05_Told
  refine rall_wp (by rw [ba_size]; exact hs) fun a8 c10 r h7 R E => ?_
  rw [bl_ba] at R ⊢
  have hsm := allL_small b
  have hshort := (allL_spec b).1
  unfold toldL at hQ
  generalize allL b = rs at R hsm hQ hshort
  refine ⟨fun a n c ep im i m h' => ∃ (q e : Nat) (im' : List UInt8) (acc : List (List UInt8)) (r' : Option (Nat × AObj)), ep = (e : Nat) ∧ im = ba im' ∧ n = acc.length ∧ i = q ∧ q ≤ rs.length ∧ m = rs.length - q ∧ (q = 0 → e = 0 ∧ im' = [] ∧ acc = []) ∧ (1 ≤ q → toldR rs = ⟨e, im', acc ++ loadsL (rs.drop q)⟩) ∧ acc.length ≤ q ∧ SRow r' (.slice a acc.length c) acc ∧ Keep B h [r, r'] h', rs.length, Fin.of ⟨0, 0, [], [], none, rfl, rfl, rfl, rfl, by omega, by omega, fun _ => ⟨rfl, rfl, rfl⟩, fun e => by omega, by simp, Row.nil _ _, E.gap⟩, ?_⟩
  clear E
  rintro a _ c _ _ _ _ h17 ⟨q, e, im, acc, r', rfl, rfl, rfl, rfl, hq, rfl, i0, i1, hal, R', E⟩
  have fin : ∀ {h1 : Heap}, toldR rs = ⟨e, im, acc⟩ → Keep B h [r, r'] h1 → Fin B h1 (Q (e : Nat) (ba im) a acc.length c) := fun {h1} ht E => by
    rw [ht] at hQ
    exact Fin.of (hQ a c r' _ R' (E.picks [1] (by decide)))
  have non : ∀ {h1 : Heap}, toldR rs = ⟨0, [], []⟩ → Keep B h [r, r'] h1 → Fin B h1 (Q 0 (ByteArray.mk #[]) none 0 0) := fun {h1} ht E => by
    rw [ht] at hQ
    exact Fin.of (hQ none 0 none _ (Row.nil _ _) (E.take 0).gap)
  refine ⟨fun hlt => ?_, fun hge => ?_⟩
  · have hq' : q < rs.length := by omega
    have hw : IntKind.wrap .i64 ((q : Int) + 1) = ((q + 1 : Nat) : Int) := by rw [w64 (by omega) (by omega)]; omega
    have hx := List.getElem?_eq_getElem hq'
    have hsl := hshort _ (List.getElem_mem hq')
    have hdr : rs.drop q = rs[q] :: rs.drop (q + 1) := List.drop_eq_getElem_cons hq'
    generalize rs[q] = l at hx hdr hsl
    obtain ⟨A', e1, _, e4⟩ := ((Row.rd (B := B) R strC_len (by omega)).2 h17 fun k o e => E.at 0 (by rw [← e]; rfl)) q l hx
    refine ⟨A', e1, by omega, hlt, ba l, e4.1, fun h1 => ?_, fun h1 => ?_⟩
    · have : q = 0 := by omega
      subst this
      obtain ⟨rfl, rfl, rfl⟩ := i0 rfl
      rw [List.drop_zero] at hdr
      cases l with
      | nil => exact ⟨fun _ => non (by rw [hdr, toldR_none firstL_0]) E, fun hn => absurd (by rw [ba_size]; rfl) hn⟩
      | cons x t =>
        refine ⟨fun hn => by rw [ba_size] at hn; simp at hn; omega, fun _ => ⟨by omega, by rw [ba_size]; simp, fun hb => Fin.of ?_, fun hb => ?_⟩⟩
        · rw [hd_byte] at hb
          have hx0 : x = 0 := u8_eq (by show x.toNat = 0; omega)
          subst hx0
          unfold S_countermandref05_Told_J1
          rw [tl_bytes]
          have htl : t.length ≤ 1024 := by simp at hsl; omega
          refine ⟨by omega, by rw [ba_size]; simp; omega, by omega, taken_wp (by rw [ba_size]; omega) ?_⟩
          rw [bl_ba]
          cases hwd : wordOf t with
          | none =>
            have et : takenOf t = (0, 0) := by rw [takenOf, hwd]
            rw [et]
            exact ⟨fun _ => non (by rw [hdr, toldR_none (firstL_n (by rw [natT, hwd]))]) E, fun hn => absurd rfl hn⟩
          | some p =>
            obtain ⟨n, r3⟩ := p
            have et : takenOf t = (n, t.length - r3.length) := by rw [takenOf, hwd]
            obtain ⟨el, ei⟩ := wordOf_eq hwd
            have hp := natB_pos n
            have hlen : t.length = (natB n).length + r3.length := by rw [el, List.length_append]
            rw [et]
            refine ⟨fun e => by simp only at e; omega, fun _ => ⟨fun hn0 => ?_, fun hn0 => ⟨fun hgt => ?_, fun hle => Fin.of ?_⟩⟩⟩
            · have : n = 0 := by simp only at hn0; omega
              subst this
              have tz : natT 1099511627776 t = some (0, r3) := by rw [natT, hwd]; simp
              exact non (by rw [hdr, toldR_none (firstL_z tz)]) E
            · simp only at hgt
              have tz : natT 1099511627776 t = none := by rw [natT, hwd]; simp only; rw [if_pos (by omega)]
              exact non (by rw [hdr, toldR_none (firstL_n tz)]) E
            · simp only at hle hn0
              have tz : natT 1099511627776 t = some (n, r3) := by rw [natT, hwd]; simp only; rw [if_neg (by omega)]
              have hf : firstL (0 :: t) = some (n, r3) := firstL_s tz (by omega)
              unfold S_countermandref05_Told_J2
              have hw2 : IntKind.wrap .i64 (1 + ((t.length - r3.length : Nat) : Int)) = ((1 + (t.length - r3.length) : Nat) : Int) := by rw [w64 (by omega) (by omega)]; omega
              simp only
              rw [hw2, w64 (n := ((n : Nat) : Int)) (by omega) (by omega)]
              have ex : ByteArray.extract (ba (0 :: t)) (Int.toNat ((1 + (t.length - r3.length) : Nat) : Int)) (Int.toNat (((ba (0 :: t)).size : Nat) : Int)) = ba r3 := by
                rw [ba_size, Int.toNat_natCast, Int.toNat_natCast, extract_ba_end]
                congr 1
                rw [show 1 + (t.length - r3.length) = (t.length - r3.length) + 1 by omega, List.drop_succ_cons]
                conv => lhs; rw [el]
                rw [show (natB n ++ r3).length - r3.length = (natB n).length by rw [List.length_append]; omega, List.drop_left]
              rw [ex]
              exact ⟨by omega, by rw [ba_size, List.length_cons]; omega, by omega, Fin.of ⟨rs.length - 1, by omega, 1, n, r3, [], r', rfl, rfl, rfl, hw, by omega, rfl, fun e => by omega, fun _ => by rw [hdr, toldR_some hf]; simp, by simp, R', E⟩⟩
        · rw [hd_byte] at hb
          have hx0 : x ≠ 0 := fun e => by subst e; exact hb rfl
          exact non (by rw [hdr, toldR_none (firstL_b hx0)]) E
    · have hq1 : 1 ≤ q := by omega
      have ht := i1 hq1
      rw [hdr] at ht
      cases l with
      | nil =>
        rw [loadsL_nil, List.append_nil] at ht
        exact ⟨fun _ => fin ht E, fun hn => absurd (by rw [ba_size]; rfl) hn⟩
      | cons x t =>
        refine ⟨fun hn => by rw [ba_size] at hn; simp at hn; omega, fun _ => ⟨by omega, by rw [ba_size]; simp, fun hb => Fin.of ?_, fun hb => ?_⟩⟩
        · rw [hd_byte] at hb
          have hx0 : x = 1 := u8_eq (by show x.toNat = 1; omega)
          subst hx0
          rw [loadsL_yes] at ht
          unfold S_countermandref05_Told_J3
          rw [tl_bytes]
          refine ⟨by omega, by rw [ba_size]; simp; omega, by omega, fun k41 a41 b41 h42 e42 => ?_⟩
          refine E.push1 1 rfl R' TK.slc_strs TK.zero_str rfl (by omega) (by omega) TK.sl_strs (ys := strC t) rfl (strC_one t) (by rw [flatMap_length strC_len, strC_len]; omega) a41 b41 e42 fun a' m' c' r'' h59 R2 E2 => ⟨a', m', c', rfl, ?_⟩
          have hm := Row.len R2
          rw [List.length_append, flatMap_length strC_len, strC_len] at hm
          have hm2 : m' = (acc ++ [t]).length := by rw [List.length_append, List.length_singleton]; omega
          subst hm2
          refine Fin.of ⟨rs.length - (q + 1), by omega, q + 1, e, im, acc ++ [t], r'', rfl, rfl, rfl, hw, by omega, rfl, fun e => by omega, fun _ => by rw [ht]; simp [List.append_assoc], by rw [List.length_append, List.length_singleton]; omega, ?_, E2⟩
          unfold SRow
          rw [List.flatMap_append, List.flatMap_singleton]; exact R2
        · rw [hd_byte] at hb
          have hx0 : x ≠ 1 := fun e => by subst e; exact hb rfl
          rw [loadsL_no hx0, List.append_nil] at ht
          exact fin ht E
  · have : q = rs.length := by omega
    subst this
    refine fin ?_ E
    rcases Nat.eq_zero_or_pos rs.length with hz | hp
    · have hr : rs = [] := List.length_eq_zero_iff.1 hz
      obtain ⟨rfl, rfl, rfl⟩ := i0 hz
      rw [hr, toldR_nil]
    · rw [i1 hp, List.drop_length]; simp [loadsL]
theorem found_wp {Q : Int → ByteArray → Option Addr → Nat → Nat → Heap → Prop} (hs1 : b1.length ≤ 1000000000) (hs2 : b2.length ≤ 1000000000) (hQ : ∀ a c r' h', SRow r' (.slice a (foundL b1 b2).ls.length c) (foundL b1 b2).ls → Keep B h [r'] h' → Q ((foundL b1 b2).e : Nat) (ba (foundL b1 b2).im) a (foundL b1 b2).ls.length c h') : C_countermandref05_Found B (ba b1) (ba b2) h Q := by
  refine C_countermandref05_Found.of ?_
  unfold S_countermandref05_Found
  refine told_wp hs1 fun a1 c1 r1 h8 R1 E1 => told_wp hs2 fun a2 c2 r2 h14 R2 E2 => ?_
  have E3 := E1.append E2
  unfold foundL at hQ
  refine ⟨fun hgt => Fin.of ?_, fun hle => Fin.of ?_⟩
  · rw [if_pos (by omega)] at hQ
    exact hQ a2 c2 r2 _ R2 (E3.picks [1] (by decide))
  · rw [if_neg (by omega)] at hQ
    exact hQ a1 c1 r1 _ R1 (E3.picks [0] (by decide))
end
end Go.Proofs.Ytlehephbflgblaa.H
namespace Go.Proofs.Ytlehephbflgblaa.H
open Go Go.RowKit
set_option linter.unusedVariables false
set_option maxRecDepth 100000
theorem toldL_nil : toldL [] = ⟨0, [], []⟩ := by unfold toldL; rw [allL_none openL_nil]; rfl
theorem fOf_mt {cs : List Chg} (h0 : bl (textD 0 cs) = []) (h1 : bl (textD 1 cs) = []) : fOf cs = ⟨0, [], []⟩ ∧ aOf cs = 0 := by unfold fOf foundL aOf areaL; rw [h0, h1, toldL_nil]; simp
theorem openF_mt : openF ⟨0, [], []⟩ = some (zF, 0) := by
  have h : readW (TDL.mk 0 [] []).im = some (zF, 0) := readW_nil
  rw [openF_2 h (by simp [goods])]
  simp [goods, chsOf, apCs, lastOf]
theorem WE0 {B : RO} {h0 h : Heap} {L M : List (Option (Nat × AObj))} (E : Keep B h0 (L ++ M) h) : Keep B h0 (L ++ (M ++ [])) h := by rw [List.append_nil]; exact E
theorem open_vlt {cs : List Chg} {z : FL} {n : Int} (k : TomeOk z) (hn : 0 ≤ n ∧ n ≤ 1099511627776) (he : (fOf cs).e < 1099511627776) : VLT (openS cs z n) := by
  have ha := aOf_or cs
  have hl : (imgL ((fOf cs).e + 1) (natI n ++ tomeB z)).length ≤ 217 := by
    have h1 := natI_6 hn.2
    have h2 := tomeB_len k
    have h3 := natB_6 (n := (fOf cs).e + 1) (by omega)
    unfold imgL; rw [List.length_cons, List.length_append, List.length_append]; omega
  have e1 : bl (textD (1 - aOf cs) (stl (aOf cs) (fOf cs).e (natI n ++ tomeB z) cs)) = closeL (imgL ((fOf cs).e + 1) (natI n ++ tomeB z)) := by rw [stl_new ha, bl_ba]
  refine ⟨?_, ?_, ?_, by show (imgL ((fOf cs).e + 1) (natI n ++ tomeB z)).length ≤ 1024; omega, fun l hl => (by cases hl), by show _ + 6 ≤ 2340; omega, by show 1 ≤ (fOf cs).e + 1; omega, by show (fOf cs).e + 1 ≤ _; omega, hn.1, by show 1 - aOf cs = 0 ∨ 1 - aOf cs = 1; omega⟩
  · show bl (textD (1 - aOf cs) (stl (aOf cs) (fOf cs).e (natI n ++ tomeB z) cs)) = rowL [imgL ((fOf cs).e + 1) (natI n ++ tomeB z)]
    rw [e1, rowL_one]
  · show bl (textD (1 - (1 - aOf cs)) (stl (aOf cs) (fOf cs).e (natI n ++ tomeB z) cs)) = []
    rw [show 1 - (1 - aOf cs) = aOf cs by omega, stl_old]; rfl
  · show _ + 6 = (bl (textD (1 - aOf cs) (stl (aOf cs) (fOf cs).e (natI n ++ tomeB z) cs))).length
    rw [e1, closeL_len (by omega)]
section
variable {B : RO} {h0 h h' : Heap} {L M : List (Option (Nat × AObj))} {I : WI} {S : WS} {i j : Int} {k kD : Nat} {z : FL}
noncomputable def newS : WS := openS [] zF 0
theorem newworld_wp {Q : Option Addr → Int → Heap → Prop} (E : Keep B h0 (L ++ [some (kD, dskO [] 0 (.slice none 0 0)), none]) h) (hQ : ∀ I h', I.kD = kD → WK I newS → Keep B h0 (L ++ I.e newS) h' → Q (some ⟨I.kW, 0, none⟩) 0 h') : C_world_Open B (some ⟨kD, 0, none⟩) h Q := by
  obtain ⟨f1, f2⟩ := fOf_mt (cs := []) rfl rfl
  refine worldopen_wp E (Row.nil _ _) (Nat.le_refl _) DOk.nil (by simp) (by rw [f1]; simp) (fun hn => ?_) (fun z n _ he => ?_) fun z n ho he I h' h1 h2 h3 => ?_
  · rw [f1, openF_mt] at hn; cases hn
  · rw [f1] at he; simp at he
  · rw [f1, openF_mt] at ho
    cases ho
    exact hQ I h' h1 h2 h3
theorem alive21_wp {Q : Bool → Heap → Prop} (hQ : ∀ h', Keep B h [] h' → Q true h') : C_countermandlaw21_alive B h Q := by
  refine C_countermandlaw21_alive.of ?_
  unfold S_countermandlaw21_alive
  refine dnew_wp fun kD h2 E => newworld_wp (L := []) E fun I h4 _ K E1 => ⟨fun _ k7 a7 b7 h8 e8 => ?_, fun e => absurd rfl e⟩
  have E2 := E1.nM a7 b7 e8
  refine wadd_wp (L := []) (os := [(1, 5)]) E2 (fun T h' E' j x hx => ?_) (by simp) fun h9 E3 => ?_
  · match j with
    | 0 =>
      cases hx
      have g := E'.gM (k := k7) (o := .vec TY.acts_Open (plains [.int .i64 1, .int .i64 5]) 2) 15 rfl
      exact ⟨_, rfl, fun hn => (by rw [g] at hn; cases hn), cellH_vec g rfl, cellH_vec g rfl, trivial⟩
    | j + 1 => cases hx
  refine wdone_wp E3 fun h10 E4 => wtallies_wp E4 fun h11 E5 => ⟨by omega, by omega, 5, rfl, fun _ => wblocks_wp E5 ⟨fun _ => wview_wp E5 ⟨_, rfl, 0, E5.cM 0 rfl (i := 3) rfl, Fin.of (hQ _ (E5.take 0))⟩, fun e => absurd rfl e⟩, fun e => absurd rfl e⟩
theorem are_wp {Q : Bool → Heap → Prop} (E : Keep B h0 (L ++ (I.e S ++ M)) h) (o : VOk I.V S.v) (h6 : z.length = 6) (hf : filesC S.v.f = filesC z) (hQ : ∀ h', Keep B h0 (L ++ (I.e S ++ M)) h' → Q true h') : C_countermandlaw21_are B (some ⟨I.kW, 0, none⟩) (filesC z) h Q := by
  refine C_countermandlaw21_are.of ?_
  unfold S_countermandlaw21_are
  intro k4 a4 b4 h5 e5
  have E1 := E.made (o := .vec TY.a_6_countermandref09_File (plains (filesC z)) (filesC z).length) a4 b4 e5
  refine ⟨filesC z, by rw [filesC_len]; omega, CellsAt.of_vec _ 0 E1.last fun j y hj => by rw [show 0 + 0 + j = j by omega]; exact plains_get_some hj, fun q m h' => ∃ j : Nat, j ≤ 6 ∧ q = j ∧ m = 6 - j ∧ Keep B h0 (L ++ (I.e S ++ M)) h', 6, Fin.of ⟨0, by omega, rfl, rfl, E1.pop⟩, ?_⟩
  clear E1 e5
  rintro _ _ h8 ⟨j, hj, rfl, rfl, E2⟩
  refine ⟨fun hlt => ?_, fun hge => Fin.of (hQ _ E2)⟩
  have hs6 := o.f.n6
  have hx := List.getElem?_eq_getElem (show j < z.length by omega)
  have hy := List.getElem?_eq_getElem (show j < S.v.f.length by omega)
  have hfa := fileAt_in (l := S.v.f) (i := (j : Nat)) (by omega) (by rw [Int.toNat_natCast]; omega)
  simp only [Int.toNat_natCast] at hfa
  generalize z[j] = x at hx
  generalize S.v.f[j] = y at hy hfa
  have hxy : y.1 = x.1 := by
    obtain ⟨g1, g2⟩ := filesC_get z j x hx
    obtain ⟨g3, g4⟩ := filesC_get S.v.f j y hy
    rw [hf] at g3 g4
    rw [g1] at g3
    rw [g2] at g4
    have e1 : x.1.1 = y.1.1 := by simpa using g3
    have e2 : x.1.2 = y.1.2 := by simpa using g4
    exact Prod.ext e1.symm e2.symm
  refine ⟨by omega, by omega, x.1.1, x.1.2, by rw [Int.toNat_natCast]; exact extract_files z j x hx, fun k15 a15 b15 h16 e16 => ?_⟩
  have E3 := E2.made a15 b15 e16
  refine ⟨_, stores_whole E3.last rfl (by simp) (by simp [isOne]) (by simp), ?_⟩
  have E4 := E3.putLast (.vec TY.countermandref09_File (plains [.bool x.1.1, .string x.1.2]) 2)
  rw [List.append_assoc, List.append_assoc] at E4
  refine wview_wp E4 ⟨_, rfl, _, E4.cM 0 rfl (i := 1) rfl, tget_wp (i := L.length + 2) E4 ⟨upM 2 rfl, ⟨upM 3 rfl, upM 4 rfl⟩⟩ o.r fun h23 E5 k27 a27 b27 h28 e28 => ?_⟩
  rw [← List.append_assoc, ← List.append_assoc, List.append_assoc L] at E5
  rw [hfa, hxy]
  have E6 := E5.made a27 b27 e28
  refine ⟨_, stores_whole E6.last rfl (by simp) (by simp [isOne]) (by simp), ?_⟩
  have E7 := E6.putLast (.vec TY.file_File (plains [.bool x.1.1, .string x.1.2]) 2)
  have g27 := E7.last
  have g15 := E7.at (k := k15) (o := .vec TY.countermandref09_File (plains [.bool x.1.1, .string x.1.2]) 2) (L ++ (I.e S ++ M)).length (up_app _ (by simp))
  exact ⟨_, _, ⟨cellH_vec g27 rfl, cellH_vec g27 rfl, trivial⟩, _, _, ⟨cellH_vec g15 rfl, cellH_vec g15 rfl, trivial⟩, fun _ => Fin.of ⟨6 - (j + 1), by omega, j + 1, by omega, wrapS (by omega), rfl, E7.pop.pop⟩, fun e => absurd (eqL_file' _ _) e⟩
end
end Go.Proofs.Ytlehephbflgblaa.H
namespace Go.Proofs.Ytlehephbflgblaa.H
open Go Go.RowKit
set_option linter.unusedVariables false
set_option maxRecDepth 100000
section
variable {B : RO} {h0 h h' : Heap} {L : List (Option (Nat × AObj))} {Q : Bool → Heap → Prop} {k6 kT kR k16 k18 k32 : Nat} {v : Value} {r : Option (Nat × AObj)} {l : FL} {n : Int} {s : ByteArray}
theorem ref10_read_wp {Q : List Value → Bool → Heap → Prop} (hs : s.size ≤ 1099511627776) (hN : readG (bl s) (-1) zF = none → Q (filesC zF) false h) (hS : ∀ z, readG (bl s) (-1) zF = some z → Q (filesC z) true h) : C_countermandref10_Read B s h Q := by
  refine C_countermandref10_Read.of ?_
  unfold S_countermandref10_Read
  intro k4 a4 b4 h5 e5 k6 a6 b6 h7 e7
  have E0 : Keep B h [some (k4, afO 12 zF), some (k6, afO 12 zF)] h7 := ((Keep.nil B h).made a4 b4 e5).made a6 b6 e7
  refine ⟨fun s8 m h' => ∃ (l : List UInt8) (z : FL) (last : Int), s8 = ba l ∧ m = l.length ∧ l.length ≤ (bl s).length ∧ StR z last ∧ readG l last z = readG (bl s) (-1) zF ∧ Keep B h [some (k4, afO 12 zF), some (k6, afO 12 z)] h', (bl s).length, Fin.of ⟨bl s, zF, -1, (ba_bl s).symm, rfl, Nat.le_refl _, StR.zero, rfl, E0⟩, ?_⟩
  clear E0 e5 e7
  rintro _ _ h9 ⟨l, z, last, rfl, rfl, hll, K, hg, E⟩
  rw [bl_length] at hll
  have n6 := K.n6
  have hzc := filesC_len z
  have bad : ∀ {h1 : Heap}, Keep B h [some (k4, afO 12 zF), some (k6, afO 12 z)] h1 → readG l last z = none → ∃ h', StoresAt ⟨k4, 0, none⟩ h1 0 [(Value.bool false), (Value.string ByteArray.empty), (Value.bool false), (Value.string ByteArray.empty), (Value.bool false), (Value.string ByteArray.empty), (Value.bool false), (Value.string ByteArray.empty), (Value.bool false), (Value.string ByteArray.empty), (Value.bool false), (Value.string ByteArray.empty)] h' ∧ ∃ l47 : List Value, List.length l47 = 12 ∧ CellsAt B h' ⟨k4, 0, none⟩ 0 l47 ∧ Fin B h' (Q l47 false) := fun {h1} E1 e => by
    refine ⟨_, stores_whole (us := filesC zF) (E1.at 0 rfl) rfl (by simp) (by simp [isOne]) (by simp), ?_⟩
    have E2 := E1.put (o' := afO 12 zF) 0 rfl
    exact ⟨filesC zF, rfl, E2.cellsP 0 rfl, Fin.ent E2.back (Fin.of (hN (by rw [← hg]; exact e)))⟩
  refine ⟨fun hpos => ?_, fun hz => ?_⟩
  · rw [ba_size] at hpos
    have hne : l ≠ [] := fun e => by rw [e] at hpos; simp at hpos
    refine taken_wp (by rw [ba_size]; omega) ?_
    rw [bl_ba]
    cases hw : wordOf l with
    | none =>
      have et : takenOf l = (0, 0) := by rw [takenOf, hw]
      rw [et]
      exact ⟨fun _ => bad E (readG_none hne (stepR_w0 hw)), fun hn => absurd rfl hn⟩
    | some p =>
      obtain ⟨i, rr⟩ := p
      have et : takenOf l = (i, l.length - rr.length) := by rw [takenOf, hw]
      obtain ⟨el, ei⟩ := wordOf_eq hw
      have hp := natB_pos i
      have hlen : l.length = (natB i).length + rr.length := by rw [el, List.length_append]
      rw [et]
      refine ⟨fun e => by simp only at e; omega, fun _ => ⟨fun h5 => bad E (readG_none hne (stepR_i hw (by simp only at h5; omega))), fun h5 => Fin.of ?_⟩⟩
      simp only at h5
      unfold S_countermandref10_Read_J1
      rw [ba_size]
      simp only [Int.toNat_natCast]
      have ex1 : ByteArray.extract (ba l) (l.length - rr.length) l.length = ba rr := by
        rw [extract_ba_end]
        congr 1
        conv => lhs; rw [el]
        rw [show (natB i ++ rr).length - rr.length = (natB i).length by rw [List.length_append]; omega, List.drop_left]
      rw [ex1]
      refine ⟨by omega, by omega, by omega, taken_wp (by rw [ba_size]; omega) ?_⟩
      rw [bl_ba]
      cases hw2 : wordOf rr with
      | none =>
        have et2 : takenOf rr = (0, 0) := by rw [takenOf, hw2]
        rw [et2]
        exact ⟨fun _ => bad E (readG_none hne (stepR_w1 hw hw2)), fun hn => absurd rfl hn⟩
      | some p2 =>
        obtain ⟨n, r2⟩ := p2
        have et2 : takenOf rr = (n, rr.length - r2.length) := by rw [takenOf, hw2]
        obtain ⟨er, en⟩ := wordOf_eq hw2
        have hp2 := natB_pos n
        have hlen2 : rr.length = (natB n).length + r2.length := by rw [er, List.length_append]
        rw [et2]
        have hwu : IntKind.wrap .u64 (IntKind.wrap .i64 (((rr.length : Nat) : Int) - ((rr.length - r2.length : Nat) : Int))) = ((r2.length : Nat) : Int) := by
          rw [w64 (by omega) (by omega), wu64]; omega
        rw [ba_size]
        simp only
        rw [hwu]
        refine ⟨fun e => by omega, fun _ => ⟨fun h32 => bad E (readG_none hne (stepR_n hw hw2 (.inl (by omega)))), fun h32 => ⟨fun hlt => bad E (readG_none hne (stepR_n hw hw2 (.inr (by omega)))), fun hge => Fin.of ?_⟩⟩⟩
        have hst := stepR_ok hw (by omega) hw2 (show ¬ (32 < n ∨ r2.length < n) by omega)
        obtain ⟨f1, f2, f3⟩ := stepR_some hst
        have hgo := readG_some (last := last) (z := z) hst
        unfold S_countermandref10_Read_J2
        refine ⟨by omega, by omega, by omega, ?_⟩
        refine ⟨fun i' m h' => ∃ q : Nat, q ≤ 6 - i ∧ i' = q ∧ m = 6 - i - q ∧ (∀ p x, i ≤ p → p < i + q → z[p]? = some x → x.1.1 = false) ∧ Keep B h [some (k4, afO 12 zF), some (k6, afO 12 z)] h', 6 - i, Fin.of ⟨0, by omega, rfl, by omega, fun p x h1 h2 => by omega, E⟩, ?_⟩
        clear E
        rintro _ _ h29 ⟨q, hq, rfl, rfl, hoff, E⟩
        simp only [Int.toNat_natCast]
        refine ⟨fun hlt => ?_, fun hge2 => Fin.of ?_⟩
        · have hq' : i + q < z.length := by omega
          have hwq : IntKind.wrap .i64 ((q : Int) + 1) = ((q + 1 : Nat) : Int) := by rw [w64 (by omega) (by omega)]; omega
          have hx := List.getElem?_eq_getElem hq'
          generalize z[i + q] = x at hx
          have hc := E.fileAt 1 (zs := []) rfl (i + q) x hx
          refine ⟨_, rfl, by omega, by omega, x.1.1, x.1.2, ?_, fun k39 a39 b39 h40 e40 => ?_⟩
          · have e6 : (if 6 = i then (⟨k6, 0, none⟩ : Addr) else Addr.add ⟨k6, 0, none⟩ (i * 2)) = Addr.add ⟨k6, 0, none⟩ (i * 2) := if_neg (by omega)
            rw [e6, addr_more, addr_more, show 0 + i * 2 + q * 2 = 0 + (i + q) * 2 by omega, ← addr_more]
            exact hc
          · have F1 := E.made a39 b39 e40
            refine ⟨_, stores_whole F1.last rfl (by simp) (by simp [isOne]) (by simp), ?_⟩
            have F2 := F1.putLast (.vec TY.countermandref09_File (plains [.bool x.1.1, .string x.1.2]) 2)
            refine ⟨_, cellH_vec F2.last rfl, fun hb => ?_, fun hb => Fin.of ⟨6 - i - (q + 1), by omega, q + 1, by omega, hwq, rfl, fun p y h1 h2 hy => ?_, F2.pop⟩⟩
            · have F3 : Keep B h [some (k4, afO 12 zF), some (k6, afO 12 z)] _ := F2.pop
              refine bad F3 ?_
              rw [hgo, if_pos (K.le_iff.2 ⟨i + q, x, by omega, hx, hb⟩)]
            · by_cases hpq : p < i + q
              · exact hoff p y h1 hpq hy
              · have : p = i + q := by omega
                subst this
                rw [hx] at hy; cases hy; exact hb
        · have hqe : q = 6 - i := by omega
          have hnl : ¬ (i : Int) ≤ last := fun hle => by
            obtain ⟨p, x, h1, h2, h3⟩ := K.le_iff.1 hle
            have := (List.getElem?_eq_some_iff.1 h2).1
            rw [hoff p x h1 (by omega) h2] at h3
            cases h3
          rw [if_neg hnl] at hgo
          unfold S_countermandref10_Read_J3
          have hw4 : IntKind.wrap .i64 (((rr.length - r2.length : Nat) : Int) + IntKind.wrap .i64 ((n : Nat) : Int)) = ((rr.length - r2.length + n : Nat) : Int) := by
            rw [w64 (n := ((n : Nat) : Int)) (by omega) (by omega), w64 (by omega) (by omega)]; omega
          rw [ba_size]
          simp only [Int.toNat_natCast]
          rw [ex1, ba_size, hw4]
          simp only [Int.toNat_natCast]
          have hdr : rr.drop (rr.length - r2.length) = r2 := by
            conv => lhs; rw [er]
            rw [show (natB n ++ r2).length - r2.length = (natB n).length by rw [List.length_append]; omega, List.drop_left]
          have ex2 : ByteArray.extract (ba rr) (rr.length - r2.length) (rr.length - r2.length + n) = ba (r2.take n) := bl_inj (by rw [bl_extract, bl_ba, bl_ba, hdr, show rr.length - r2.length + n - (rr.length - r2.length) = n by omega])
          have ex3 : ByteArray.extract (ba rr) (rr.length - r2.length + n) rr.length = ba (r2.drop n) := by
            rw [extract_ba_end, ← List.drop_drop, hdr]
          rw [ex2, ex3]
          obtain ⟨h27, st, E2⟩ := E.fileSet 1 (zs := []) rfl i (by omega) (by omega) true (ba (r2.take n)) 0
          refine ⟨by omega, by omega, by omega, by omega, by omega, h27, st, by omega, by omega, by omega, Fin.of ⟨(r2.drop n).length, stepR_lt hst, r2.drop n, _, i, rfl, rfl, ?_, K.step f1 hnl f2, by rw [← hgo]; exact hg, E2⟩⟩
          rw [List.length_drop, bl_length]; omega
  · rw [ba_size] at hz
    have : l = [] := List.length_eq_zero_iff.1 (by omega)
    subst this
    rw [readG_nil] at hg
    refine ⟨filesC z, by omega, E.cellsP 1 rfl, by omega, _, stores_whole (us := filesC zF) (E.at 0 rfl) (by rw [hzc, n6]; rfl) (by omega) (filesC_one z) (fun e => by rw [e] at hzc; simp at hzc; omega), ?_⟩
    have E2 := E.put (o' := .vec TY.a_6_countermandref09_File (plains (filesC z ++ [])) 12) 0 rfl
    rw [List.append_nil] at E2
    refine ⟨filesC z, by omega, ?_, Fin.ent E2.back (Fin.of (hS z hg.symm))⟩
    exact E2.cellsP (zs := []) 0 (by rw [List.append_nil]; rfl)
end
end Go.Proofs.Ytlehephbflgblaa.H
namespace Go.Proofs.Ytlehephbflgblaa.H
open Go Go.RowKit
set_option linter.unusedVariables false
set_option maxRecDepth 100000
theorem told_rows {n : Nat} {im : List UInt8} {ls : List (List UInt8)} (h0 : n ≠ 0) (h : n ≤ 1099511627776) (hi : (imgL n im).length ≤ 1024) (hl : ∀ l ∈ ls, l.length + 1 ≤ 1024) : toldL (rowL (imgL n im :: ls.map (1 :: ·))) = ⟨n, im, ls⟩ := by
  have hs : Short (imgL n im :: ls.map (1 :: ·)) := fun l hx => by
    rcases List.mem_cons.1 hx with rfl | hx
    · exact hi
    · obtain ⟨y, hy, rfl⟩ := List.mem_map.1 hx
      have := hl y hy
      simp; omega
  unfold toldL
  rw [allL_rows hs, toldR_some (firstL_img h0 h im), loadsL_ones]
theorem crash_all (cs : List Chg) (a b : Int) : crashD cs cs.length a b = cs := by
  unfold crashD; simp
theorem textD_nil (a : Int) : textD a [] = ByteArray.mk #[] := rfl
section
variable {B : RO} {h0 h h' : Heap} {Q : Bool → Heap → Prop} {s s1 s2 : ByteArray}
def twoC (s1 s2 : ByteArray) : List Chg := [] ++ [Chg.mk 0 false s1] ++ [Chg.mk 1 false s2]
theorem twoC_0 (s1 s2 : ByteArray) : textD 0 (twoC s1 s2) = s1 := by
  unfold twoC; rw [tD_other _ _ (show (1 : Int) ≠ 0 by decide), tD_app, textD_nil]; exact bl_inj (by rw [bl_append]; rfl)
theorem twoC_1 (s1 s2 : ByteArray) : textD 1 (twoC s1 s2) = s2 := by
  unfold twoC; rw [tD_app, tD_other _ _ (show (0 : Int) ≠ 1 by decide), textD_nil]; exact bl_inj (by rw [bl_append]; rfl)
theorem fOf_two (s1 s2 : ByteArray) : fOf (twoC s1 s2) = foundL (bl s1) (bl s2) := by unfold fOf; rw [twoC_0, twoC_1]
end
end Go.Proofs.Ytlehephbflgblaa.H
namespace Go.Proofs.Ytlehephbflgblaa.H
open Go Go.RowKit
set_option linter.unusedVariables false
set_option maxRecDepth 100000
def fBO (z : FL) : AObj := .vec TY.a_6_countermandref09_File (plains (filesC z)) 12
theorem fBO_cells {h : Heap} {B : RO} {k : Nat} {z : FL} (g : h k = some (fBO z)) : CellsAt B h ⟨k, 0, none⟩ 0 (filesC z) := CellsAt.of_vec _ 0 g fun j y hj => by rw [show 0 + 0 + j = j by omega]; exact plains_get_some hj
theorem fBO_store {h : Heap} {k : Nat} {z w : FL} (g : h k = some (fBO z)) (h6 : z.length = 6) (w6 : w.length = 6) : ∃ h', StoresAt ⟨k, 0, none⟩ h 0 (filesC w) h' ∧ h' = h.set k (fBO w) :=
  ⟨_, stores_whole (us := filesC z) g (by rw [filesC_len, filesC_len, h6, w6]) (by rw [filesC_len]; omega) (filesC_one w) (fun e => by have := congrArg List.length e; rw [filesC_len] at this; simp at this; omega), rfl⟩
theorem f12 {z : FL} (h6 : z.length = 6) : (filesC z).length = 12 := by rw [filesC_len]; omega
theorem apCs6 {ver : Int} {z : FL} (h6 : z.length = 6) (xs : DFL) : (apCs ver z xs).length = 6 := by rw [apCs_len]; exact h6
section
variable {B : RO} {h0 h h' : Heap} {L M : List (Option (Nat × AObj))} {k6 k14 : Nat} {z : FL} {b1 b2 : List UInt8} {a : Option Addr} {c : Nat} {ls : List (List UInt8)} {r : Option (Nat × AObj)}
theorem opened_out {Q : List Value → Int → Bool → Heap → Prop} {z w : FL} {n : Int} {b : Bool} (E : Keep B h0 [some (k6, fBO w), r, some (k14, fBO z)] h) (h6 : z.length = 6) (w6 : w.length = 6) (hQ : ∀ h', Keep B h0 [] h' → Q (filesC z) n b h') :
    ∃ l : List Value, List.length l = 12 ∧ CellsAt B h ⟨k14, 0, none⟩ 0 l ∧ List.length l = 12 ∧ ∃ h43 : Heap, StoresAt ⟨k6, 0, none⟩ h 0 l h43 ∧ ∃ l44 : List Value, List.length l44 = 12 ∧ CellsAt B h43 ⟨k6, 0, none⟩ 0 l44 ∧ Fin B h43 (Q l44 n b) := by
  obtain ⟨h2, s2, rfl⟩ := fBO_store (w := z) (E.at 0 rfl) w6 h6
  have E1 := E.put (o' := fBO z) 0 rfl
  exact ⟨_, f12 h6, fBO_cells (E.at 2 rfl), f12 h6, _, s2, _, f12 h6, fBO_cells (E1.at 0 rfl), Fin.of (hQ _ (by have := E1.take 0; simpa using this))⟩
theorem opened_J1 {n : Nat} {Q : List Value → Int → Bool → Heap → Prop} (E : Keep B h0 [some (k6, fBO zF), r, some (k14, fBO z)] h) (R : SRow r (.slice a ls.length c) ls) (hl : ls.length ≤ 1000000) (hls : ∀ l ∈ ls, l.length ≤ 1000000000) (h6 : z.length = 6)
    (hN : (goods (ls.map ba)).length < ls.length → ∀ z n h', List.length z = 6 → Keep B h0 [] h' → Q (filesC z) n false h')
    (hS : ¬ (goods (ls.map ba)).length < ls.length → ∀ h', Keep B h0 [] h' → Q (filesC (apCs 0 z (chsOf (goods (ls.map ba))))) (if lastOf (goods (ls.map ba)) > n then lastOf (goods (ls.map ba)) else n) true h') : S_countermandref21_Opened_J1 B k6 a ls.length c k14 (n : Nat) h Q := by
  unfold S_countermandref21_Opened_J1
  have hgl := goods_len (ls.map ba)
  rw [List.length_map] at hgl
  have hgg := goods_good (ls.map ba)
  have hge : ∀ {b : ByteArray}, (ls.map ba)[(goods (ls.map ba)).length]? = some b → loadOf (bl b) = none := fun h => goods_end h
  have hgt : ∀ {j : Nat} {b : ByteArray}, (ls.map ba)[j]? = some b → j < (goods (ls.map ba)).length → loadOf (bl b) = (goods (ls.map ba))[j]? := fun h1 h2 => goods_get h1 h2
  generalize goods (ls.map ba) = gs at *
  obtain ⟨-, rd⟩ := Row.rd (B := B) R strC_len (by omega)
  refine ⟨fun i19 i20 m h' => ∃ j : Nat, j ≤ gs.length ∧ i20 = j ∧ m = ls.length - j ∧ i19 = (if lastOf (gs.take j) > n then lastOf (gs.take j) else n) ∧ Keep B h0 [some (k6, fBO zF), r, some (k14, fBO (apCs 0 z (chsOf (gs.take j))))] h', ls.length, Fin.of ⟨0, by omega, rfl, rfl, by rw [List.take_zero, show lastOf [] = 0 from rfl, if_neg (by omega)], E⟩, ?_⟩
  clear E
  rintro _ _ _ h21 ⟨j, hj, rfl, rfl, rfl, E⟩
  have z6 := apCs6 (ver := 0) h6 (chsOf (gs.take j))
  refine ⟨fun hlt => ?_, fun hge' => ?_⟩
  · have hj' : j < ls.length := by omega
    have hx := List.getElem?_eq_getElem hj'
    have hxl := hls _ (List.getElem_mem hj')
    generalize ls[j] = x at hx hxl
    have hmx : (ls.map ba)[j]? = some (ba x) := by rw [List.getElem?_map, hx]; rfl
    obtain ⟨A, f1, _, f3⟩ := rd h21 (fun k o e => E.at 1 (by rw [← e]; rfl)) j x hx
    refine ⟨A, f1, by omega, by omega, ba x, by rw [Int.toNat_natCast]; exact f3.1, ?_⟩
    refine ref18_read_wp E hxl (fun hn h29 E1 => ⟨fun e => (by cases e), fun _ => opened_out E1 z6 rfl fun h' E2 => hN ?_ _ _ _ z6 E2⟩) fun nn xs hs a31 c33 r31 h29 R31 E1 => ⟨fun _ => ?_, fun e => by cases e⟩
    · by_cases hjg : j < gs.length
      · have := hgt hmx hjg
        rw [bl_ba, hn, List.getElem?_eq_getElem hjg] at this
        cases this
      · omega
    · have hjg : j < gs.length := by
        by_cases hjg : j < gs.length
        · exact hjg
        · have : j = gs.length := by omega
          subst this
          have := hge hmx
          rw [bl_ba, hs] at this; cases this
      have hgj := hgt hmx hjg
      rw [bl_ba, hs] at hgj
      obtain ⟨-, rd31⟩ := Row.rd (B := B) R31 entC_file_File_len (by omega)
      have gx := (hgg _ (List.mem_of_getElem? hgj.symm)).1
      have hx6 := sortGood_len xs (loadOf_some hs).2.1 gx
      refine ⟨_, f12 z6, fBO_cells (E1.at 2 rfl), ref18_apply_wp (ver := 0) (rd31 h29 fun k o e => E1.at 3 (by rw [← e]; rfl)) z6 gx (by omega) ?_⟩
      have w6 := apCs6 (ver := 0) z6 xs
      obtain ⟨h2, s2, rfl⟩ := fBO_store (w := apCs 0 (apCs 0 z (chsOf (gs.take j))) xs) (E1.at 2 rfl) z6 w6
      refine ⟨f12 w6, _, s2, Fin.of ⟨ls.length - (j + 1), by omega, j + 1, by omega, wrapS (by omega), rfl, ?_, ?_⟩⟩
      · rw [lastOf_take hgj.symm]
        simp only
        (repeat' split) <;> omega
      · rw [chsOf_take hgj.symm, apCs_app]
        have E2 := E1.put (o' := fBO (apCs 0 (apCs 0 z (chsOf (gs.take j))) xs)) 2 rfl
        exact E2.take 3
  · have : ¬ gs.length < ls.length := by omega
    have hjl : j = gs.length := by omega
    subst hjl
    rw [List.take_length] at E z6 ⊢
    exact opened_out E z6 rfl fun h' E2 => hS this h' E2
theorem opened21_wp {Q : List Value → Int → Bool → Heap → Prop} (hs1 : b1.length ≤ 1000000) (hs2 : b2.length ≤ 1000000) (hlf : (foundL b1 b2).ls.length ≤ 1000000 ∧ ∀ l ∈ (foundL b1 b2).ls, l.length ≤ 1000000000) (hif : (foundL b1 b2).im.length ≤ 1000000)
    (hN : openF (foundL b1 b2) = none → ∀ z n h', List.length z = 6 → Keep B h [] h' → Q (filesC z) n false h')
    (hS : ∀ z n, openF (foundL b1 b2) = some (z, n) → ∀ h', Keep B h [] h' → Q (filesC z) n true h') : C_countermandref21_Opened B (ba b1) (ba b2) h Q := by
  refine C_countermandref21_Opened.of ?_
  unfold S_countermandref21_Opened
  intro k6 a6 b6 h7 e7
  have E1 := (Keep.nil B h).made (o := fBO zF) a6 b6 e7
  refine found_wp (by omega) (by omega) fun a11 c13 r h8 R E2 k14 a14 b14 h15 e15 => ?_
  have E3 := (E1.append E2).made (o := fBO zF) a14 b14 e15
  generalize hF : foundL b1 b2 = F at *
  obtain ⟨hl1, hl2⟩ := hlf
  refine ⟨fun e => Fin.of ?_, fun e => ?_⟩
  · have hi : F.im = [] := ba_inj e
    have hr : readW F.im = some (zF, 0) := by rw [hi]; exact readW_nil
    exact opened_J1 (n := 0) E3 R hl1 hl2 rfl (fun hlt l n h' h12 E => hN (openF_1 hr hlt) l n h' h12 E) fun hge h' E => hS _ _ (openF_2 hr hge) h' E
  · have hne : F.im ≠ [] := fun h => e (by rw [h]; rfl)
    refine taken_wp (by rw [ba_size]; omega) ?_
    rw [bl_ba]
    cases hw : wordOf F.im with
    | none =>
      have et : takenOf F.im = (0, 0) := by rw [takenOf, hw]
      rw [et]
      have hn : natT 1099511627776 F.im = none := by rw [natT, hw]
      exact ⟨fun _ => opened_out E3 rfl rfl fun h' E => hN (openF_0 (readW_0 hne hn)) _ _ _ rfl E, fun hn => absurd rfl hn⟩
    | some p =>
      obtain ⟨n, rr⟩ := p
      have et : takenOf F.im = (n, F.im.length - rr.length) := by rw [takenOf, hw]
      obtain ⟨el, ei⟩ := wordOf_eq hw
      have hp := natB_pos n
      have hlen : F.im.length = (natB n).length + rr.length := by
        have := congrArg List.length el
        rw [List.length_append] at this
        exact this
      rw [et]
      refine ⟨fun e => by simp only at e; omega, fun _ => ⟨fun h5 => opened_out E3 rfl rfl fun h' E => hN (openF_0 (readW_0 hne (by rw [natT, hw]; simp only at h5 ⊢; rw [if_pos (by omega)]))) _ _ _ rfl E, fun h5 => Fin.of ?_⟩⟩
      simp only at h5
      have hn : natT 1099511627776 F.im = some (n, rr) := by rw [natT, hw]; simp only; rw [if_neg (by omega)]
      have hr := readW_1 hne hn
      unfold S_countermandref21_Opened_J2
      rw [ba_size]
      simp only [Int.toNat_natCast]
      have ex1 : ByteArray.extract (ba F.im) (F.im.length - rr.length) F.im.length = ba rr := by
        rw [extract_ba_end]
        congr 1
        conv => lhs; rw [el]
        rw [show (natB n ++ rr).length - rr.length = (natB n).length by rw [List.length_append]; omega, List.drop_left]
      rw [ex1, w64 (n := ((n : Nat) : Int)) (by omega) (by omega)]
      refine ⟨by omega, by omega, by omega, ref10_read_wp (by rw [ba_size]; omega) (fun hg => ⟨fun e => (by cases e), fun _ k54 a54 b54 h55 e55 => ?_⟩) fun z hg => ⟨fun _ k60 a60 b60 h61 e61 => ?_, fun e => by cases e⟩⟩
      · rw [bl_ba] at hg
        have E4 := E3.made (o := fBO zF) a54 b54 e55
        obtain ⟨h2, s2, rfl⟩ := fBO_store (w := zF) E4.last rfl rfl
        have E5 := (E4.putLast (fBO zF)).pop
        exact ⟨rfl, _, s2, opened_out E5 rfl rfl fun h' E => hN (openF_0 (by rw [hr, hg]; rfl)) _ _ _ rfl E⟩
      · rw [bl_ba] at hg
        have z6 : z.length = 6 := by obtain ⟨_, last, K⟩ := readG_ok hg; exact K.n6
        have hr2 : readW F.im = some (z, n) := by rw [hr, hg]; rfl
        have E4 := E3.made (o := fBO zF) a60 b60 e61
        obtain ⟨h2, s2, rfl⟩ := fBO_store (w := z) E4.last rfl z6
        have E5 := E4.putLast (fBO z)
        refine ⟨f12 z6, _, s2, _, f12 z6, fBO_cells E5.last, f12 z6, ?_⟩
        obtain ⟨h3, s3, rfl⟩ := fBO_store (w := z) (E5.pop.at 2 rfl) rfl z6
        exact ⟨_, s3, Fin.of (opened_J1 (n := n) (E5.pop.put (o' := fBO z) 2 rfl) R hl1 hl2 z6 (fun hlt l n h' h12 E => hN (openF_1 hr2 hlt) l n h' h12 E) fun hge h' E => hS _ _ (openF_2 hr2 hge) h' E)⟩
end
end Go.Proofs.Ytlehephbflgblaa.H
namespace Go.Proofs.Ytlehephbflgblaa.H
open Go Go.RowKit
set_option linter.unusedVariables false
set_option maxRecDepth 100000
theorem loadsL_mem : ∀ (ts : List (List UInt8)) (l : List UInt8), l ∈ loadsL ts → (1 :: l) ∈ ts
  | [], l, h => by cases h
  | [] :: t, l, h => by rw [loadsL_nil] at h; cases h
  | (b :: r) :: t, l, h => by
    by_cases hb : b = 1
    · subst hb
      rw [loadsL_yes] at h
      rcases List.mem_cons.1 h with rfl | h
      · simp
      · simp [loadsL_mem t l h]
    · rw [loadsL_no hb] at h; cases h
theorem told_small (b : List UInt8) : (toldL b).ls.length ≤ b.length ∧ (∀ l ∈ (toldL b).ls, l.length ≤ 1024) ∧ (toldL b).im.length ≤ 1024 := by
  have hs := (allL_spec b).1
  have hl := allL_small b
  unfold toldL
  cases hb : allL b with
  | nil => rw [toldR_nil]; exact ⟨by simp, fun l h => (by cases h), by simp⟩
  | cons x t =>
    rw [hb] at hs hl
    cases hf : firstL x with
    | none => rw [toldR_none hf]; exact ⟨by simp, fun l h => (by cases h), by simp⟩
    | some p =>
      obtain ⟨n, r⟩ := p
      rw [toldR_some hf]
      have h1 := firstL_le hf
      have h2 := hs x (by simp)
      have h3 := loadsL_len t
      refine ⟨by simp only [List.length_cons] at hl ⊢; omega, fun l hl => ?_, by simp only; omega⟩
      have := hs _ (List.mem_cons_of_mem _ (loadsL_mem t l hl))
      rw [List.length_cons] at this; omega
theorem found_small (a b : List UInt8) : (foundL a b).ls.length ≤ a.length + b.length ∧ (∀ l ∈ (foundL a b).ls, l.length ≤ 1024) ∧ (foundL a b).im.length ≤ 1024 ∧ (foundL a b).e ≤ 1099511627776 := by
  unfold foundL
  have h1 := told_small a
  have h2 := told_small b
  have h3 := toldR_le (allL a)
  have h4 := toldR_le (allL b)
  split
  · exact ⟨by omega, h2.2.1, h2.2.2, h4⟩
  · exact ⟨by omega, h1.2.1, h1.2.2, h3⟩
theorem fOf_small {cs : List Chg} (ok : DOk cs) : (fOf cs).ls.length ≤ 1000000 := by
  have h := (found_small (bl (textD 0 cs)) (bl (textD 1 cs))).1
  have h1 := ok.size 0
  have h2 := ok.size 1
  rw [bl_length, bl_length] at h
  unfold fOf; omega
theorem filesC_unver' (l : FL) : filesC (unver l) = filesC l := by unfold filesC unver; rw [List.flatMap_map]; rfl
section
variable {B : RO} {h0 h h' : Heap} {L M : List (Option (Nat × AObj))} {I : WI} {S : WS} {i j : Int} {Q : Bool → Heap → Prop} {kD : Nat} {s1 s2 : ByteArray}
theorem semH_ptrSame {t e : TypeId} {n : Nat} {x y : Operand} {a : Addr} {K : Value → Heap → Prop} (hd : PG.underlying t = some (.pointer e)) (hs : szB PG e = some (n + 1)) (k : K (.bool false) h) : semH PG B (do eqGuard .neq t x y (.pointer (some a)) (.pointer (some a)); binOp .neq t (.pointer (some a)) (.pointer (some a))) h K := by
  refine semH_eqW (.inr rfl) ⟨by simp, by simp⟩ ⟨by simp, by simp, by simp, by simp⟩ (r := true) ?_ k
  unfold Op.equal Op.maxDepth
  unfold Op.equalIn
  rw [semH_und hd]
  refine (semH_sz hs).2 ?_
  simp only [ne_eq, Nat.add_eq_zero_iff, Nat.one_ne_zero, and_false, not_false_eq_true, if_true, sameAddr, beq_self_eq_true]
  exact ⟨rfl, rfl⟩
theorem two2_wp {R1 : Heap → Prop} (E : Keep B h0 (L ++ [some (kD, dskO [] 0 (.slice none 0 0)), none]) h) (hs : s1.size ≤ 8000 ∧ s2.size ≤ 8000) {P : Int → Heap → Prop}
    (hP : ∀ x h1, P x h1 = C_disk_Disk_Append B (some ⟨kD, 0, none⟩) 1 s2 h1 (fun _ h2 => R1 h2))
    (hQ : DOk (twoC s1 s2) → ∀ v r h', CRow r v (twoC s1 s2) → Keep B h0 (L ++ [some (kD, dskO (twoC s1 s2) 0 v), r]) h' → R1 h') : C_disk_Disk_Append B (some ⟨kD, 0, none⟩) 0 s1 h P := by
  have z0 : ∀ a, (textD a []).size = 0 := fun a => rfl
  refine dappend_wp E (DAt.m 0 rfl rfl) (Row.nil _ _) (Nat.le_refl _) DOk.nil (by simp) (by omega) (fun hn => absurd (.inl rfl) hn) (fun _ hf => by rw [z0] at hf; omega) fun _ _ v1 r1 h1 Rr1 E1 => ?_
  rw [setDM] at E1
  have ok1 : DOk ([] ++ [Chg.mk 0 false s1]) := DOk.nil.snoc (.inl rfl) (by show (textD 0 _).size ≤ _; rw [tD_app, ByteArray.size_append, z0]; omega)
  have z1 : (textD 1 ([] ++ [Chg.mk 0 false s1])).size = 0 := by rw [tD_other _ _ (show (0 : Int) ≠ 1 by decide)]; rfl
  rw [hP]
  refine dappend_wp E1 (DAt.m 0 rfl rfl) Rr1 (by simp) ok1 (by simp) (by omega) (fun hn => absurd (.inr rfl) hn) (fun _ hf => by rw [z1] at hf; omega) fun _ _ v2 r2 h2 Rr2 E2 => ?_
  rw [setDM] at E2
  have ok2 : DOk (twoC s1 s2) := ok1.snoc (.inr rfl) (by show (textD 1 _).size ≤ _; rw [tD_app, ByteArray.size_append, z1]; omega)
  exact hQ ok2 v2 r2 h2 Rr2 E2
theorem fOf_at {ds : List Chg} {T : TDL} {ar : Int} (ha : ar = 0 ∨ ar = 1) (h1 : toldL (bl (textD ar ds)) = T) (h0 : bl (textD (1 - ar) ds) = []) (he : 0 < T.e) : fOf ds = T ∧ aOf ds = ar := by
  unfold fOf aOf foundL areaL
  rcases ha with rfl | rfl
  · rw [show (1 : Int) - 0 = 1 from rfl] at h0
    rw [h0, h1, toldL_nil, if_neg (Nat.not_lt_zero _), if_neg (Nat.not_lt_zero _)]; exact ⟨rfl, rfl⟩
  · rw [show (1 : Int) - 1 = 0 from rfl] at h0
    rw [h0, h1, toldL_nil, if_pos he, if_pos he]; exact ⟨rfl, rfl⟩
theorem VLT.found {S : WS} (T : VLT S) : fOf S.cs = ⟨S.e, S.im, S.ls⟩ ∧ aOf S.cs = S.ar := by
  have e1 := T.e1
  have h1 : toldL (bl (textD S.ar S.cs)) = ⟨S.e, S.im, S.ls⟩ := by rw [T.tx]; exact told_rows (by omega) T.e2 T.il T.ll
  exact fOf_at T.ar h1 T.ot (by show 0 < S.e; omega)
theorem reopen {cs : List Chg} {z : FL} {n : Int} (k : TomeOk z) (hn : 0 ≤ n ∧ n ≤ 1099511627776) (he : (fOf cs).e < 1099511627776) : fOf (openS cs z n).cs = ⟨(fOf cs).e + 1, natI n ++ tomeB z, []⟩ ∧ aOf (openS cs z n).cs = 1 - aOf cs := (open_vlt k hn he).found
theorem openF_image {z : FL} {n : Int} {e : Nat} (k : TomeOk z) (hn : 0 ≤ n ∧ n ≤ 1099511627776) : openF ⟨e, natI n ++ tomeB z, []⟩ = some (unver z, n) := by
  have hne : natI n ++ tomeB z ≠ [] := fun h => by
    have := congrArg List.length h
    have hp := natB_pos n.toNat
    rw [List.length_append] at this
    unfold natI at this; rw [if_neg (by omega)] at this
    simp only [List.length_nil] at this
    omega
  have h1 : natT 1099511627776 (natI n ++ tomeB z) = some (n.toNat, tomeB z) := by
    unfold natI; rw [if_neg (by omega)]
    exact natT_ok (by omega) (by omega) _
  have hr : readW (TDL.mk e (natI n ++ tomeB z) []).im = some (unver z, n.toNat) := by
    show readW (natI n ++ tomeB z) = _
    rw [readW_1 hne h1, readG_tome k]; rfl
  rw [openF_2 hr (by simp [goods])]
  have : (if lastOf (goods (([] : List (List UInt8)).map ba)) > ((n.toNat : Nat) : Int) then lastOf (goods (([] : List (List UInt8)).map ba)) else ((n.toNat : Nat) : Int)) = n := by
    rw [show lastOf (goods (([] : List (List UInt8)).map ba)) = 0 by simp [goods, lastOf], if_neg (by omega)]; omega
  simp only [this]
  simp [goods, chsOf, apCs]
theorem Opens_J2 {z : FL} {n : Int} {cs : List Chg} {k24 : Nat} (E : Keep B h0 ([some (k24, fBO z)] ++ I.e (openS cs z n)) h) (K : WK I (openS cs z n)) (kz : TomeOk z) (hn : 0 ≤ n ∧ n ≤ 1099511627776) (he : (fOf cs).e < 1099511627776) (hl : cs.length ≤ 9000) (hQ : ∀ h', Keep B h0 [] h' → Q true h') : S_countermandlaw21_WorldOpens_J2 B (some ⟨I.kD, 0, none⟩) n k24 ((fOf cs).e : Nat) h Q := by
  unfold S_countermandlaw21_WorldOpens_J2
  have hc : crashD (openS cs z n).cs (openS cs z n).cs.length 0 0 = (openS cs z n).cs := crash_all _ _ _
  have hk : (openS cs z n).k = (openS cs z n).cs.length := rfl
  have hlc : (openS cs z n).cs.length = cs.length + 3 := by show (stl _ _ _ cs).length = _; unfold stl; simp
  have hcr := K.cr
  obtain ⟨r1, r2⟩ := reopen kz hn he
  have hok := K.ok
  generalize hS : (openS cs z n).cs = ds at *
  have E1 : Keep B h0 (([some (k24, fBO z)] ++ I.h (openS cs z n)) ++ [some (I.kD, dskO ds ds.length I.vd), I.rd, some (I.kv, vltO I.kD I.kl (openS cs z n).e true), some (I.kl, walO I.kD (openS cs z n).ar (openS cs z n).sz false)]) h := by
    rw [List.append_assoc, ← hk, ← hS]; exact E
  rw [hk] at hcr
  refine dcrash_wp (i := 16 - 4 + 0) (keep := 0) (part := 0) E1 ⟨rfl, rfl⟩ hcr (Nat.le_refl _) hok (by omega) fun h38 E2 => ?_
  rw [hc] at E2
  have E3 : Keep B h0 ([some (k24, fBO z)] ++ [some (I.kD, dskO ds ds.length (.slice none 0 0)), none]) h38 := E2.picks [0, 12, 13] (by decide)
  refine worldopen_wp (L := [some (k24, fBO z)]) E3 (CRow.done _) (Nat.le_refl _) hok (by omega) (by rw [r1]; simp) (fun hN => ?_) (fun z' n' _ h40 h39 E4 => ⟨fun _ => ⟨fun _ => Fin.of ?_, fun e => absurd rfl e⟩, fun hne => ?_⟩) fun z' n' ho h40 I' h39 hkD K' E4 => ?_
  · rw [r1, openF_image kz hn] at hN; cases hN
  · rw [decide_eq_true rfl]; exact hQ _ (E4.take 0)
  · rw [r1] at h40
    simp only at h40
    omega
  · rw [r1] at h40
    simp only at h40
    rw [r1, openF_image kz hn] at ho
    cases ho
    refine ⟨fun e => by omega, fun _ => ⟨fun _ => ⟨_, f12 kz.n6, fBO_cells (E4.at 0 rfl), are_wp (WE0 E4) K'.o kz.n6 (by show filesC (unver z) = _; exact filesC_unver' z) fun h43 E5 => ⟨fun _ => wblocks_wp E5 (Fin.of ?_), fun e => by cases e⟩⟩, fun e => absurd rfl e⟩⟩
    show Q ((n : Int) == n) _
    rw [beq_self_eq_true]
    exact hQ _ (E5.take 0)
theorem WorldOpens_wp (hQ : ∀ h', Keep B h [] h' → Q true h') : C_countermandlaw21_WorldOpens B s1 s2 h Q := by
  refine C_countermandlaw21_WorldOpens.of ?_
  unfold S_countermandlaw21_WorldOpens
  refine alive21_wp fun h4 E0 => ⟨fun _ => ⟨fun _ => Fin.of (hQ _ E0), fun hs1 => ⟨fun _ => Fin.of (hQ _ E0), fun hs2 => Fin.of ?_⟩⟩, fun e => by cases e⟩
  unfold S_countermandlaw21_WorldOpens_J1
  have nil : ∀ {h1 : Heap} {N : List (Option (Nat × AObj))}, Keep B h N h1 → Keep B h [] h1 := fun E => by have := E.take 0; simpa using this
  refine dnew_wp fun kD h8 E1 => ?_
  have E2 : Keep B h ([] ++ [some (kD, dskO [] 0 (.slice none 0 0)), none]) h8 := by have := E0.append E1; exact this
  refine two2_wp E2 ⟨by omega, by omega⟩ (fun _ _ => rfl) fun ok v r h12 R E3 => ?_
  have hF : fOf (twoC s1 s2) = foundL (bl s1) (bl s2) := fOf_two s1 s2
  obtain ⟨q1, q2, q3, q4⟩ := found_small (bl s1) (bl s2)
  rw [bl_length, bl_length] at q1
  rw [show C_countermandref21_Opened B s1 s2 h12 = C_countermandref21_Opened B (ba (bl s1)) (ba (bl s2)) h12 by rw [ba_bl, ba_bl]]
  refine opened21_wp (by rw [bl_length]; omega) (by rw [bl_length]; omega) ⟨by omega, fun l hl => by have := q2 l hl; omega⟩ (by omega) (fun hn z n h14 z6 E4 => ⟨fun e => (by cases e), fun _ k18 a18 b18 h19 e19 => ?_⟩) fun z n ho h14 E4 => ⟨fun _ k24 a24 b24 h25 e25 => ?_, fun e => by cases e⟩
  · have E5 : Keep B h ([] ++ [some (kD, dskO (twoC s1 s2) 0 v), r]) h14 := by have := E3.append E4; rw [List.append_nil] at this; exact this
    have E6 := E5.made (o := fBO zF) a18 b18 e19
    obtain ⟨h2, st, rfl⟩ := fBO_store (w := z) E6.last rfl z6
    refine ⟨f12 z6, _, st, ?_⟩
    have E7 : Keep B h ([] ++ [some (kD, dskO (twoC s1 s2) 0 v), r]) _ := (E6.putLast (fBO z)).pop
    refine worldopen_wp (L := []) E7 R (Nat.zero_le _) ok (by simp [twoC]) (fOf_small ok) (fun _ h21 E8 => ⟨fun _ => Fin.of ?_, fun e => absurd rfl e⟩) (fun z' n' ho => ?_) fun z' n' ho => ?_
    · rw [decide_eq_true rfl]; exact hQ _ (nil E8)
    · rw [hF, hn] at ho; cases ho
    · rw [hF, hn] at ho; cases ho
  · obtain ⟨kz, hn1, hn2⟩ := openF_ok ho
    have z6 := kz.n6
    have E5 : Keep B h ([] ++ [some (kD, dskO (twoC s1 s2) 0 v), r]) h14 := by have := E3.append E4; rw [List.append_nil] at this; exact this
    have E6 := E5.made (o := fBO zF) a24 b24 e25
    obtain ⟨h2, st, rfl⟩ := fBO_store (w := z) E6.last rfl z6
    refine ⟨f12 z6, _, st, ?_⟩
    have E7 : Keep B h ([some (k24, fBO z)] ++ [some (kD, dskO (twoC s1 s2) 0 v), r]) _ := (E6.putLast (fBO z)).picks [2, 0, 1] (by decide)
    have fnd : ∀ {N : List (Option (Nat × AObj))} {h1 : Heap} {P : Int → ByteArray → Option Addr → Nat → Nat → Heap → Prop}, Keep B h N h1 → (∀ im a n c r' h', Keep B h (N ++ [r']) h' → P ((fOf (twoC s1 s2)).e : Nat) im a n c h') → C_countermandref05_Found B s1 s2 h1 P := fun {N h1 P} E hP => by
      rw [show C_countermandref05_Found B s1 s2 h1 = C_countermandref05_Found B (ba (bl s1)) (ba (bl s2)) h1 by rw [ba_bl, ba_bl]]
      exact found_wp (by rw [bl_length]; omega) (by rw [bl_length]; omega) fun a c r' h' R' E' => by rw [hF] at hP; exact hP _ _ _ _ r' h' (E.append E')
    refine worldopen_wp (L := [some (k24, fBO z)]) E7 R (Nat.zero_le _) ok (by simp [twoC]) (fOf_small ok) (fun hN => ?_) (fun z' n' ho' he h27 E8 => ?_) fun z' n' ho' he I h27 hkD K E8 => ?_
    · rw [hF, ho] at hN; cases hN
    · refine fnd E8 fun im a n c r' h30 E9 => ⟨fun _ => ⟨fun _ => Fin.of ?_, fun e => absurd rfl e⟩, fun hne => ?_⟩
      · rw [decide_eq_true rfl]; exact hQ _ (nil E9)
      · rw [hF] at he hne
        omega
    · rw [hF, ho] at ho'
      cases ho'
      subst hkD
      refine fnd E8 fun im a nn c r' h30 E9 => ⟨fun e => by omega, fun _ => ⟨fun _ => ?_, fun e => absurd rfl e⟩⟩
      have E9 : Keep B h ([some (k24, fBO z)] ++ I.e (openS (twoC s1 s2) z n)) h30 := E9.popL
      refine ⟨_, f12 z6, fBO_cells (E9.at 0 rfl), are_wp (WE0 E9) K.o z6 rfl fun h48 E10 => ⟨fun _ => wblocks_wp E10 ⟨fun _ => wview_wp E10 ⟨_, rfl, 0, E10.cM 0 rfl (i := 3) rfl, fun _ => ?_, fun e => absurd rfl e⟩, fun e => absurd rfl e⟩, fun e => by cases e⟩⟩
      refine wtallies_wp E10 fun h57 E11 => ⟨fun _ => ?_, fun e => absurd (show eqL [Value.int .i64 0, .int .i64 0, .int .i64 0, .int .i64 0] [.int .i64 0, .int .i64 0, .int .i64 0, .int .i64 0] = true by decide) e⟩
      refine wnotes_wp E11 K.nr (by show (0 : Nat) ≤ _; omega) fun a' m' c' r'' h63 R'' E12 => ?_
      obtain ⟨m0, -⟩ := Row.rd (B := B) R'' NoteW_len (by omega)
      refine ⟨fun _ => ?_, fun e => absurd (by rw [m0]; rfl) e⟩
      have E13 : Keep B h ([some (k24, fBO z)] ++ (I.e (openS (twoC s1 s2) z n) ++ ([] ++ [r'']))) h63 := by
        rw [List.append_assoc, List.append_assoc] at E12; exact E12
      refine wdisk_wp E13 (semH_ptrSame (e := TY.disk_Disk) (n := 4) (by kernel_rfl) (by kernel_rfl) ⟨false, rfl, fun e => (by cases e), fun _ => Fin.of ?_⟩)
      exact Opens_J2 (by rw [← List.append_assoc] at E13; exact E13.popL) K kz ⟨hn1, hn2⟩ he (by simp [twoC]) hQ
end
theorem WorldOpens_calls (W : World) (s1 : ByteArray) (w1 : s1.size ≤ 140737488351232) (s2 : ByteArray) (w2 : s2.size ≤ 140737488351232) :
    Calls PG FN.countermandlaw21_WorldOpens #[.string s1, .string s2] W fun e w' => e = .returned (.bool true) ∧ Below W.heap.size W w' := by
  refine Spec.calls (Spec.mono (WorldOpens_wp (Q := fun b _ => b = true) fun _ _ => rfl) ?_)
  rintro v h' ⟨b, rfl, rfl⟩
  rfl
end Go.Proofs.Ytlehephbflgblaa.H
