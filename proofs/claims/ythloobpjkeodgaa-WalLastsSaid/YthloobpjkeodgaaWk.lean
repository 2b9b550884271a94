/- The laws WalStops and WalOther. No condition. -/
import Derived.Test.YthloobpjkeodgaaWi
namespace Go.Proofs.Ythloobpjkeodgaa.H
open Go Go.RowKit
set_option linter.unusedVariables false
set_option maxRecDepth 100000

/-! A log alone -/
structure LX where
  kD : Nat
  kl : Nat
  v : Value
  r : Option (Nat × AObj)
def LX.e (x : LX) (area : Int) (cs : List Chg) (k : Nat) : List (Option (Nat × AObj)) := [some (x.kD, dskO cs k x.v), x.r, some (x.kl, walO x.kD area (wholeL (bl (textD area cs))) (tornOf (bl (textD area cs))))]
structure LX.Ok (x : LX) (cs : List Chg) (k : Nat) : Prop where
  c : CRow x.r x.v (cs.drop k)
  hk : k ≤ cs.length
  ok : DOk cs
def fitsS (area : Int) (s : ByteArray) (cs : List Chg) : Prop := s.size ≤ 1024 ∧ tornOf (bl (textD area cs)) = false ∧ (textD area cs).size + (closeL (bl s)).length ≤ 16384
section
variable {B : RO} {h0 h h' : Heap} {M : List (Option (Nat × AObj))} {x : LX} {area : Int} {cs : List Chg} {k : Nat}
theorem lopen_wp {kD : Nat} {v : Value} {r : Option (Nat × AObj)} {Q : Option Addr → Int → Heap → Prop} (E : Keep B h0 (some (kD, dskO cs k v) :: r :: M) h) (R : CRow r v (cs.drop k)) (hk : k ≤ cs.length) (ha : area = 0 ∨ area = 1) (ok : DOk cs)
    (hQ : ∀ (x : LX) h', x.kD = kD → x.Ok cs k → Keep B h0 (some (kD, dskO cs k v) :: r :: M ++ [some (x.kl, walO kD area (wholeL (bl (textD area cs))) (tornOf (bl (textD area cs))))]) h' → Q (some ⟨x.kl, 0, none⟩) 0 h') : C_wal_Open B (some ⟨kD, 0, none⟩) area h Q :=
  walopen_wp (i := 0) E ⟨rfl, rfl⟩ ha ok fun kl h' E1 => hQ ⟨kD, kl, v, r⟩ h' rfl ⟨R, hk, ok⟩ E1
theorem lappend_wp {s : ByteArray} {Q : Int → Heap → Prop} (E : Keep B h0 (x.e area cs k ++ M) h) (O : x.Ok cs k) (ha : area = 0 ∨ area = 1) (hl : cs.length ≤ 1000) (hs : s.size ≤ 1000000000)
    (hF : ¬ fitsS area s cs → ∀ n : Int, n ≠ 0 → Q n h) (hT : fitsS area s cs → ∀ (x' : LX) h', x'.kl = x.kl → x'.kD = x.kD → x'.Ok (cs ++ [Chg.mk area false (ba (closeL (bl s)))]) k → Keep B h0 (x'.e area (cs ++ [Chg.mk area false (ba (closeL (bl s)))]) k ++ M) h' → Q 0 h') : C_wal_Log_Append B (some ⟨x.kl, 0, none⟩) s h Q := by
  have hz := O.ok.size area
  have hwl := wholeL_le (bl (textD area cs))
  rw [bl_length] at hwl
  have hk := O.hk
  refine walappend_wp (i := 0) (j := 2) E ⟨rfl, rfl⟩ rfl (by decide) (by decide) O.c O.hk O.ok (by omega) hs (by omega) ha (fun q => hF (fun f => absurd f.1 (by omega)) 3 (by decide)) (fun _ q => hF (fun f => by rw [f.2.1] at q; cases q) 9 (by decide)) (fun _ _ q => hF (fun f => absurd f.2.2 (by omega)) 6 (by decide)) fun f1 f2 f3 v' r' h' R' E' => ?_
  obtain ⟨t1, t2, t3⟩ := app_torn f2 (l := bl s) (by rw [bl_length]; omega)
  have et : bl (textD area (cs ++ [Chg.mk area false (ba (closeL (bl s)))])) = bl (textD area cs) ++ closeL (bl s) := by rw [textD_app, bl_append, bl_ba]
  refine hT ⟨f1, f2, f3⟩ ⟨x.kD, x.kl, v', r'⟩ h' rfl rfl ⟨R', by simp; omega, O.ok.snoc ha ?_⟩ ?_
  · show (textD area (cs ++ [Chg.mk area false (ba (closeL (bl s)))])).size ≤ 16384
    rw [textD_app, ByteArray.size_append, ba_size]; exact f3
  · unfold LX.e
    rw [et, t1, t2]
    rw [f2] at E'
    exact E'
theorem heavy04_wp {a : Option Addr} {c : Nat} {list : List ByteArray} {Q : Bool → Heap → Prop} (hr : Reads B h a 1 strP list) (hQ : ∀ b, (b = false → list.length ≤ 50 ∧ ∀ x ∈ list, x.size ≤ 8192) → Q b h) : C_countermandlaw04_heavy B a list.length c h Q := by
  refine C_countermandlaw04_heavy.of ?_
  unfold S_countermandlaw04_heavy
  refine ⟨fun _ => Fin.of (hQ true fun e => by cases e), fun hlen => ?_⟩
  refine ⟨fun n i m h' => ∃ j : Nat, j ≤ list.length ∧ i = j ∧ m = list.length - j ∧ 0 ≤ n ∧ n ≤ 8192 ∧ (∀ x ∈ list.take j, x.size ≤ 8192) ∧ h' = h, list.length, Fin.of ⟨0, by omega, rfl, by omega, by omega, by omega, fun x hx => (by simp at hx), rfl⟩, ?_⟩
  rintro n _ _ h7 ⟨j, hj, rfl, rfl, hn0, hn1, hs, rfl⟩
  refine ⟨fun hlt => ?_, fun _ => Fin.of (hQ false fun _ => ?_)⟩
  · have hj' : j < list.length := by omega
    have hw : IntKind.wrap .i64 ((j : Int) + 1) = ((j + 1 : Nat) : Int) := by rw [w64 (by omega) (by omega)]; omega
    obtain ⟨A, e1, _, e3, _⟩ := hr j _ (List.getElem?_eq_getElem hj')
    have e0 : Int.toNat (j : Int) = j := by omega
    refine ⟨A, e1, by omega, hlt, _, by rw [e0]; exact e3, fun _ => Fin.of (hQ true fun e => by cases e), fun hz => ?_⟩
    have hw2 : IntKind.wrap .i64 (n + ((list[j].size : Nat) : Int)) = n + ((list[j].size : Nat) : Int) := w64 (by omega) (by omega)
    rw [hw2]
    refine ⟨fun _ => Fin.of (hQ true fun e => by cases e), fun hz2 => Fin.of ⟨list.length - (j + 1), by omega, j + 1, by omega, hw, rfl, by omega, by omega, fun x hx => ?_, rfl⟩⟩
    rw [List.take_succ_eq_append_getElem hj', List.mem_append, List.mem_singleton] at hx
    rcases hx with hx | rfl
    · exact hs x hx
    · omega
  · have : j = list.length := by omega
    subst this
    rw [List.take_length] at hs
    exact ⟨by omega, hs⟩

/-! WalStops -/
def o5S (v : Value) : AObj := .vec TY.s_string (plains [v]) 1
def intO (n : Int) : AObj := .vec TY.int (plains [.int .i64 n]) 1
def stL (k6 k8 : Nat) (stop : Int) (b : Bool) : List (Option (Nat × AObj)) := [some (k6, .vec TY.int [.plain (.int .i64 stop)] 1), some (k8, .vec TY.bool (plains [.bool b]) 1)]
theorem WalStops_J2 {k6 k8 k27 k30 n : Nat} {stop : Int} {b : Bool} {a : Option Addr} {c : Nat} {ls : List (List UInt8)} {X : List (Option (Nat × AObj))} {Q : Bool → Heap → Prop} (E : Keep B h0 (stL k6 k8 stop b ++ [some (k27, o5S (.slice a ls.length c)), some (k30, intO (n : Nat))] ++ X) h) (hn : (n : Int) = stop ∨ n = ls.length) (hQ : Q true h0) :
    S_countermandlaw04_WalStops_J2 B k6 k8 k27 k30 h Q := by
  unfold S_countermandlaw04_WalStops_J2
  refine ⟨_, E.cell 3 rfl rfl, _, E.cell 0 rfl rfl, fun he => ?_, fun he => ?_⟩
  · obtain ⟨es, E2⟩ := E.store 1 0 (.bool true) rfl rfl
    exact ⟨_, es, _, E2.cell 1 rfl rfl, Fin.ent E2.back (Fin.of hQ)⟩
  · refine ⟨_, E.cell 3 rfl rfl, .inl ⟨_, _, _, E.cell 2 rfl rfl, ?_⟩⟩
    have : (((n : Nat) : Int) == ((ls.length : Nat) : Int)) = true := by
      rw [beq_iff_eq]
      rcases hn with h | h
      · exact absurd h he
      · rw [h]
    obtain ⟨es, E2⟩ := E.store 1 0 (.bool true) rfl rfl
    exact ⟨_, by rw [this]; exact es, _, E2.cell 1 rfl rfl, Fin.ent E2.back (Fin.of hQ)⟩
theorem WalStops_J1 {k6 k8 : Nat} {stop : Int} {b : Bool} {Q : Bool → Heap → Prop} (E : Keep B h0 (x.e 1 cs k ++ stL k6 k8 stop b) h) (O : x.Ok cs k) (hQ : Q true h0) : S_countermandlaw04_WalStops_J1 B k6 k8 (some ⟨x.kl, 0, none⟩) h Q := by
  unfold S_countermandlaw04_WalStops_J1
  have hz := O.ok.size 1
  have hle := allL_le (bl (textD 1 cs))
  rw [bl_length] at hle
  have hal := walall_iter (B := B) (k3 := 0) (kl := x.kl) (kD := x.kD) (area := 1) (sz := wholeL (bl (textD 1 cs))) (torn := tornOf (bl (textD 1 cs))) (k := k) (v := x.v) (.inr rfl) O.ok
  clear hal
  refine loads_wp (i := 0) (j := 2) E ⟨rfl, rfl⟩ rfl O.ok (.inr rfl) fun a c r h23 R E1 => ?_
  intro k27 a27 b27 h28 e28
  have E2 := E1.made a27 b27 e28
  obtain ⟨es2, E3⟩ := E2.store 6 0 (.slice a (allL (bl (textD 1 cs))).length c) rfl rfl
  refine ⟨_, es2, fun k30 a30 b30 h31 e31 => ?_⟩
  have E4 := E3.made a30 b30 e31
  obtain ⟨es4, E5⟩ := E4.store 7 0 (.int .i64 0) rfl rfl
  refine ⟨_, es4, walall_wp fun k1 a1 b1 => ?_⟩
  have E6 := E5.new (o := .vec TY.p_wal_Log [.plain (.pointer (some ⟨x.kl, 0, none⟩))] 1) a1 b1
  have E7 : Keep B h0 (stL k6 k8 stop b ++ [some (k27, o5S (.slice a (allL (bl (textD 1 cs))).length c)), some (k30, intO (0 : Nat))] ++ (x.e 1 cs k ++ [r, some (k1, .vec TY.p_wal_Log [.plain (.pointer (some ⟨x.kl, 0, none⟩))] 1)])) _ := E6.picks [3, 4, 6, 7, 0, 1, 2, 5, 8] (by decide)
  clear E6 E5 E4 E3 E2 E1 E
  let L : Nat → List (Option (Nat × AObj)) := fun n => stL k6 k8 stop b ++ [some (k27, o5S (.slice a (allL (bl (textD 1 cs))).length c)), some (k30, intO (n : Nat))] ++ (x.e 1 cs k ++ [r, some (k1, .vec TY.p_wal_Log [.plain (.pointer (some ⟨x.kl, 0, none⟩))] 1)])
  obtain ⟨-, hrd⟩ := Row.rd (B := B) R strC_len (by omega)
  refine ⟨(allL (bl (textD 1 cs))).map ba, walG k1 x.kl x.kD 1 (wholeL (bl (textD 1 cs))) (tornOf (bl (textD 1 cs))) cs k x.v, fun q h' => Keep B h0 (L q) h', ?_, walG_ins, ?_, Fin.of E7, ?_, ?_⟩
  · have := walall_iter (B := B) (k3 := k1) (kl := x.kl) (kD := x.kD) (area := 1) (sz := wholeL (bl (textD 1 cs))) (torn := tornOf (bl (textD 1 cs))) (k := k) (v := x.v) (.inr rfl) O.ok
    rw [List.map_map]; exact this
  · rintro q h' E
    exact ⟨E.at 8 rfl, E.at 6 rfl, E.at 4 rfl⟩
  · rintro q h51 s49 hg E
    rw [List.getElem?_map] at hg
    obtain ⟨l, hl, rfl⟩ := Option.map_eq_some_iff.1 hg
    have hq := (List.getElem?_eq_some_iff.1 hl).1
    have ctr : cellH B h51 ⟨k30, 0, none⟩ = some (.int .i64 (q : Nat)) := E.cell 3 rfl rfl
    have row : cellH B h51 ⟨k27, 0, none⟩ = some (.slice a (allL (bl (textD 1 cs))).length c) := E.cell 2 rfl rfl
    obtain ⟨A1, e1, e3, _⟩ := E.rowAt (q := 7) rfl hrd q l hl
    refine ⟨_, ctr, .inl ⟨_, _, _, row, fun hge => absurd hge (by omega), fun _ => .inl ⟨_, _, _, row, _, ctr, A1, e1, by omega, by omega, _, by rw [Int.toNat_natCast]; exact e3, fun _ => Fin.of ⟨fun e => (by cases e), fun _ => ?_⟩, fun hn => absurd rfl hn⟩⟩⟩
    have hw : IntKind.wrap .i64 ((q : Int) + 1) = ((q + 1 : Nat) : Int) := by rw [w64 (by omega) (by omega)]; omega
    obtain ⟨es, E2⟩ := E.store 3 0 (.int .i64 ((q + 1 : Nat) : Int)) rfl rfl
    have E2 : Keep B h0 (L (q + 1)) _ := E2
    refine ⟨_, ctr, _, by rw [hw]; exact es, _, E2.cell 3 rfl rfl, _, E2.cell 0 rfl rfl, fun he => Fin.of (WalStops_J2 E2 (.inl he) hQ), fun he => Fin.of E2⟩
  · rintro h51 E
    rw [List.length_map] at E
    exact Fin.of (WalStops_J2 E (.inr rfl) hQ)
theorem WalStops_wp {a : Option Addr} {c : Nat} {list : List ByteArray} {stop : Int} {Q : Bool → Heap → Prop} (hr : Reads B h a 1 strP list) (hQ : Q true h) : C_countermandlaw04_WalStops B a list.length c stop h Q := by
  refine C_countermandlaw04_WalStops.of ?_
  unfold S_countermandlaw04_WalStops
  intro k6 a6 b6 h7 e7 k8 a8 b8 h9 e9
  have E : Keep B h (stL k6 k8 stop false) h9 := ((Keep.nil B h).made a6 b6 e7).made a8 b8 e9
  refine alive04_wp ⟨fun _ => heavy04_wp (hr.over E.le E.nw) fun b hb => ⟨fun _ => ?_, fun e => ?_⟩, fun e => by cases e⟩
  · obtain ⟨es, E2⟩ := E.store 1 0 (.bool true) rfl rfl
    exact ⟨_, es, _, E2.cell 1 rfl rfl, Fin.ent E2.back (Fin.of hQ)⟩
  · obtain ⟨hl, hs⟩ := hb e
    refine dnew_wp fun kD h16 E1 => ?_
    have E2 : Keep B h (some (kD, dskO [] 0 (.slice none 0 0)) :: none :: stL k6 k8 stop false) h16 := (E.append E1).picks [2, 3, 0, 1] (by decide)
    refine lopen_wp E2 (Row.nil _ _) (Nat.le_refl _) (.inr rfl) DOk.nil fun x h18 hkD O E3 => ?_
    refine ⟨fun i m h' => ∃ (j : Nat) (x' : LX) (cs : List Chg) (k : Nat), j ≤ list.length ∧ i = j ∧ m = list.length - j ∧ x'.Ok cs k ∧ x'.kl = x.kl ∧ cs.length ≤ j ∧ Keep B h (x'.e 1 cs k ++ stL k6 k8 stop false) h', list.length, Fin.of ⟨0, ⟨kD, x.kl, .slice none 0 0, none⟩, [], 0, by omega, rfl, by omega, ⟨Row.nil _ _, Nat.le_refl _, DOk.nil⟩, rfl, by simp, E3.picks [0, 1, 4, 2, 3] (by decide)⟩, ?_⟩
    clear E3 E2 E1 E
    rintro _ _ h81 ⟨j, x1, cs, k, hj, rfl, rfl, O1, hb1, hcl, E⟩
    rw [← hb1]
    refine ⟨fun hlt => ?_, fun _ => Fin.of (WalStops_J1 E O1 hQ)⟩
    have hj' : j < list.length := by omega
    have hw : IntKind.wrap .i64 ((j : Int) + 1) = ((j + 1 : Nat) : Int) := by rw [w64 (by omega) (by omega)]; omega
    obtain ⟨A, e1, _, e3, _⟩ := (hr.over E.le E.nw) j _ (List.getElem?_eq_getElem hj')
    have hsz := hs list[j] (List.getElem_mem hj')
    refine ⟨A, e1, by omega, hlt, _, by rw [Int.toNat_natCast]; exact e3, lappend_wp E O1 (.inr rfl) (by omega) (by omega) (fun _ n _ => Fin.of ⟨list.length - (j + 1), by omega, j + 1, x1, cs, k, by omega, hw, rfl, O1, rfl, by omega, E⟩) (fun _ x2 h2 e1 _ O2 E2 => Fin.of ⟨list.length - (j + 1), by omega, j + 1, x2, _, k, by omega, hw, rfl, O2, e1, by simp; omega, E2⟩)⟩

/-! WalOther -/
/-- The other area has this, and that is safe. -/
def Oth (s : ByteArray) (cs : List Chg) (k : Nat) : Prop := 1 ≤ k ∧ ∃ t : List Chg, cs = Chg.mk 1 false s :: t ∧ ∀ c ∈ t, c.a = 0
theorem Oth.text {s : ByteArray} {cs : List Chg} {k : Nat} (o : Oth s cs k) : textD 1 cs = s := by
  obtain ⟨_, t, rfl, ht⟩ := o
  have key : ∀ (t : List Chg) (u : ByteArray), (∀ c ∈ t, c.a = 0) → textF 1 u t = u := fun t => by
    induction t with
    | nil => intro u _; rfl
    | cons c t ih =>
      intro u hu
      show textF 1 (chgD 1 u c) t = u
      rw [chgD, if_neg (by rw [hu c (by simp)]; decide)]
      exact ih u fun x hx => hu x (by simp [hx])
  show textF 1 (chgD 1 (ByteArray.mk #[]) (Chg.mk 1 false s)) t = s
  rw [key t _ ht, chgD, if_pos rfl, if_neg (by simp)]
  apply bl_inj
  rw [bl_append]; rfl
theorem Oth.take {s : ByteArray} {cs : List Chg} {k n : Nat} (o : Oth s cs k) (hn : 1 ≤ n) (m : Nat) (hm : 1 ≤ m) : Oth s (cs.take n) m := by
  obtain ⟨_, t, rfl, ht⟩ := o
  cases n with
  | zero => omega
  | succ n => exact ⟨hm, t.take n, by rw [List.take_succ_cons], fun c hc => ht c (List.mem_of_mem_take hc)⟩
theorem Oth.snoc {s : ByteArray} {cs : List Chg} {k : Nat} (o : Oth s cs k) {c : Chg} (hc : c.a = 0) : Oth s (cs ++ [c]) k := by
  obtain ⟨h1, t, rfl, ht⟩ := o
  refine ⟨h1, t ++ [c], rfl, fun x hx => ?_⟩
  rcases List.mem_append.1 hx with hx | hx
  · exact ht x hx
  · rw [List.mem_singleton] at hx; subst hx; exact hc
theorem Oth.crash {s : ByteArray} {cs : List Chg} {k : Nat} (o : Oth s cs k) (hk : k ≤ cs.length) (keep part : Int) : Oth s (crashD cs k keep part) (crashD cs k keep part).length := by
  have h1 := o.1
  unfold crashD
  simp only
  have o2 := o.take (n := k + min (cs.length - k) keep.toNat) (by omega) 1 (by omega)
  have lift : ∀ ds, Oth s ds 1 → Oth s ds ds.length := fun ds od => by
    obtain ⟨_, t, rfl, ht⟩ := od
    exact ⟨by simp, t, rfl, ht⟩
  cases hc : cs[k + min (cs.length - k) keep.toNat]? with
  | none => simp only [List.append_nil]; exact lift _ o2
  | some c =>
    simp only
    split
    · rw [List.append_nil]; exact lift _ o2
    · refine lift _ (o2.snoc ?_)
      obtain ⟨_, t, rfl, ht⟩ := o
      have : k + min ((Chg.mk 1 false s :: t).length - k) keep.toNat ≠ 0 := by omega
      obtain ⟨n, hn⟩ := Nat.exists_eq_succ_of_ne_zero this
      rw [hn, List.getElem?_cons_succ] at hc
      exact ht c (List.mem_of_getElem? hc)
theorem WalOther_J1 {a : Option Addr} {c : Nat} {list : List CallR} {s : ByteArray} {Q : Bool → Heap → Prop} (hr : Reads B h a 4 CallR.cells list) (hl : list.length ≤ 50) (hs : ∀ x ∈ list, x.s.size ≤ 8192) (hsz : s.size ≤ 1024) (hQ : Q true h) : S_countermandlaw04_WalOther_J1 B a list.length c s h Q := by
  unfold S_countermandlaw04_WalOther_J1
  have hok : DOk ([] ++ [Chg.mk 1 false s]) := DOk.nil.snoc (.inr rfl) (by
    show (textD 1 ([] ++ [Chg.mk 1 false s])).size ≤ 16384
    rw [textD_app, ByteArray.size_append]
    show 0 + s.size ≤ 16384
    omega)
  have hR0 : CRow none (.slice none 0 0) (List.drop 1 ([] ++ [Chg.mk 1 false s])) := by
    rw [List.nil_append, List.drop_one, List.tail_cons]; exact Row.nil _ _
  refine dnew_wp fun kD h10 E => dappend_wp (i := 0) E ⟨rfl, rfl⟩ (Row.nil _ _) (Nat.le_refl _) DOk.nil (by decide) (by omega) (fun q => absurd (.inr rfl) q) (fun _ q => absurd q (by show ¬ 16384 < 0 + s.size; omega)) fun _ _ v' r' h12 R' E1 => ?_
  refine dsync_wp (i := 0) E1 ⟨rfl, rfl⟩ R' (by simp) hok (by simp) fun h14 E2 => ?_
  refine lopen_wp (M := []) (cs := [] ++ [Chg.mk 1 false s]) (k := 1) E2 (Row.nil _ _) (by simp) (.inl rfl) hok fun x h15 hkD O E3 => ?_
  refine ⟨fun p i m h' => ∃ (j : Nat) (x' : LX) (cs : List Chg) (k : Nat), j ≤ list.length ∧ i = j ∧ m = list.length - j ∧ p = some ⟨x'.kl, 0, none⟩ ∧ x'.Ok cs k ∧ x'.kD = kD ∧ cs.length ≤ j + 1 ∧ Oth s cs k ∧ Keep B h (x'.e 0 cs k) h', list.length, Fin.of ⟨0, ⟨kD, x.kl, .slice none 0 0, none⟩, [] ++ [Chg.mk 1 false s], 1, by omega, rfl, by omega, rfl, ⟨hR0, by simp, hok⟩, rfl, by simp, ⟨Nat.le_refl _, [], rfl, fun _ h => by simp at h⟩, E3⟩, ?_⟩
  clear E3 E2 E1 E
  rintro _ _ _ h27 ⟨j, x1, cs, k, hj, rfl, rfl, rfl, O1, hb1, hcl, o, E⟩
  have hk := O1.hk
  refine ⟨fun hlt => ?_, fun _ => Fin.of ?_⟩
  · have hj' : j < list.length := by omega
    have hw : IntKind.wrap .i64 ((j : Int) + 1) = ((j + 1 : Nat) : Int) := by rw [w64 (by omega) (by omega)]; omega
    obtain ⟨A, e1, e3, e4⟩ := (hr.over E.le E.nw) j list[j] (List.getElem?_eq_getElem hj')
    have hcz := hs list[j] (List.getElem_mem hj')
    generalize list[j] = cl at e4 hcz
    refine ⟨A, e1, by omega, hlt, cl.kind, cl.s, cl.keep, cl.part, e4, fun k39 a39 b39 h40 e40 => ?_⟩
    have E1 := E.made a39 b39 e40
    refine ⟨_, stores_whole (E1.at 3 rfl) rfl (by simp) (by simp [isOne]) (by simp), ?_⟩
    have E2 : Keep B h (x1.e 0 cs k ++ [some (k39, callO cl)]) _ := E1.put (o' := callO cl) 3 rfl
    refine ⟨_, E2.cell 3 rfl rfl, fun _ => ⟨_, E2.cell 3 rfl rfl, ?_⟩, fun n0 => ⟨fun _ => ?_, fun n1 => ⟨fun _ => ?_, fun n2 => ⟨fun _ => ?_, fun n3 => Fin.of ⟨list.length - (j + 1), by omega, j + 1, x1, cs, k, by omega, hw, rfl, rfl, O1, hb1, by omega, o, E2.take 3⟩⟩⟩⟩⟩
    · exact lappend_wp E2 O1 (.inl rfl) (by omega) (by omega) (fun _ n _ => Fin.of ⟨list.length - (j + 1), by omega, j + 1, x1, cs, k, by omega, hw, rfl, rfl, O1, hb1, by omega, o, E2.take 3⟩) (fun _ x2 h2 f1 f2 O2 E3 => Fin.of ⟨list.length - (j + 1), by omega, j + 1, x2, _, k, by omega, hw, rfl, by rw [f1], O2, by rw [f2]; exact hb1, by simp; omega, o.snoc rfl, E3.take 3⟩)
    · refine walforce_wp (i := 0) (j := 2) E2 ⟨rfl, rfl⟩ rfl O1.c O1.hk O1.ok (by omega) fun h2 E3 => Fin.of ⟨list.length - (j + 1), by omega, j + 1, ⟨x1.kD, x1.kl, .slice none 0 0, none⟩, cs, cs.length, by omega, hw, rfl, rfl, ⟨by rw [List.drop_length]; exact Row.nil _ _, Nat.le_refl _, O1.ok⟩, hb1, by omega, ⟨by have := o.1; omega, o.2⟩, E3.take 3⟩
    · have hokc : DOk (cs ++ [Chg.mk 0 true ByteArray.empty]) := O1.ok.snoc (.inl rfl) (by
        show (textD 0 (cs ++ [Chg.mk 0 true ByteArray.empty])).size ≤ 16384
        rw [textD_reset]; decide)
      have et : bl (textD 0 (cs ++ [Chg.mk 0 true ByteArray.empty])) = [] := by rw [textD_reset]; rfl
      refine walclear_wp (i := 0) (j := 2) E2 ⟨rfl, rfl⟩ rfl (by decide) (by decide) O1.c O1.hk (by omega) (.inl rfl) fun v' r' h2 R2 E3 => Fin.of ⟨list.length - (j + 1), by omega, j + 1, ⟨x1.kD, x1.kl, v', r'⟩, cs ++ [Chg.mk 0 true ByteArray.empty], k, by omega, hw, rfl, rfl, ⟨R2, by simp; omega, hokc⟩, hb1, by simp; omega, o.snoc rfl, ?_⟩
      unfold LX.e
      rw [et, wholeL_nil]
      exact E3.take 3
    · have hcd := crashD_len cs k cl.keep cl.part
      refine ⟨_, E2.cell 3 rfl rfl, _, E2.cell 3 rfl rfl, ?_⟩
      rw [← hb1]
      refine dcrash_wp (i := 0) E2 ⟨rfl, rfl⟩ O1.c O1.hk O1.ok (by omega) fun h2 E3 => lopen_wp (r := none) (v := .slice none 0 0) (cs := crashD cs k cl.keep cl.part) (k := (crashD cs k cl.keep cl.part).length) (M := [some (x1.kl, walO x1.kD 0 (wholeL (bl (textD 0 cs))) (tornOf (bl (textD 0 cs)))), some (k39, callO cl)]) E3 (by rw [List.drop_length]; exact Row.nil _ _) (Nat.le_refl _) (.inl rfl) (crashD_ok O1.ok _ _ _) fun x2 h4 f1 O2 E4 => Fin.of ⟨list.length - (j + 1), by omega, j + 1, ⟨x1.kD, x2.kl, .slice none 0 0, none⟩, crashD cs k cl.keep cl.part, (crashD cs k cl.keep cl.part).length, by omega, hw, rfl, rfl, ⟨by rw [List.drop_length]; exact Row.nil _ _, Nat.le_refl _, O2.ok⟩, rfl, by omega, o.crash hk _ _, E4.picks [0, 1, 4] (by decide)⟩
  · unfold S_countermandlaw04_WalOther_J2
    have t1 := o.text
    have t2 := (o.take (n := k) o.1 1 (by omega)).text
    rw [← hb1]
    refine dread_wp (i := 0) E ⟨rfl, rfl⟩ (.inr rfl) ⟨fun _ => dsafe_wp (i := 0) E ⟨rfl, rfl⟩ (.inr rfl) ?_, fun n => absurd t1 n⟩
    rw [t2, decide_eq_true rfl]
    exact Fin.ent E.back (Fin.of hQ)
theorem WalOther_wp {a : Option Addr} {c : Nat} {list : List CallR} {s : ByteArray} {Q : Bool → Heap → Prop} (hr : Reads B h a 4 CallR.cells list) (hQ : Q true h) : C_countermandlaw04_WalOther B a list.length c s h Q := by
  refine C_countermandlaw04_WalOther.of ?_
  unfold S_countermandlaw04_WalOther
  refine alive04_wp ⟨fun _ => great04_wp hr fun b hb => ⟨fun _ => Fin.of hQ, fun e => ⟨fun _ => Fin.of hQ, fun hsz => Fin.of ?_⟩⟩, fun e => by cases e⟩
  exact WalOther_J1 hr (hb e).1 (hb e).2 (by omega) hQ
end
theorem WalStops_calls {H : Type} {enc : TypeId × Value → H} (W : World) {a : Option Addr} {len cap : Nat} {d : DataW H} {p : List MemPlace} (k : DataW.Trod enc PG W 0 (fun _ => true) true TY.s_string (.slice a len cap) d p) (n : Int) (wn : (Lit.int .i64 n).wf = true) :
    Calls PG FN.countermandlaw04_WalStops #[.slice a len cap, .int .i64 n] W fun e w' => e = .returned (.bool true) ∧ Below W.heap.size W w' := by
  obtain ⟨l, rfl, hr, hok⟩ := strP_arg k
  refine Spec.calls (Spec.mono (WalStops_wp (Q := fun b _ => b = true) hr rfl) ?_)
  rintro v h' ⟨b, rfl, rfl⟩
  rfl
theorem WalOther_calls {H : Type} {enc : TypeId × Value → H} (W : World) {a : Option Addr} {len cap : Nat} {d : DataW H} {p : List MemPlace} (k : DataW.Trod enc PG W 0 (fun _ => true) true TY.s_countermandlaw04_Call (.slice a len cap) d p) (s : ByteArray) (ws : s.size ≤ 140737488351232) :
    Calls PG FN.countermandlaw04_WalOther #[.slice a len cap, .string s] W fun e w' => e = .returned (.bool true) ∧ Below W.heap.size W w' := by
  obtain ⟨l, rfl, hr, hok⟩ := CallR_arg k
  refine Spec.calls (Spec.mono (WalOther_wp (Q := fun b _ => b = true) hr rfl) ?_)
  rintro v h' ⟨b, rfl, rfl⟩
  rfl
end Go.Proofs.Ythloobpjkeodgaa.H
