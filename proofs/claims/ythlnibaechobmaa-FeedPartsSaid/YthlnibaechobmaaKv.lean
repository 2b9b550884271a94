/- The laws FeedDoes and FeedStays. No condition. -/
import Derived.Test.YthlnibaechobmaaKu
namespace Go.Proofs.Ythlnibaechobmaa.H
open Go Go.RowKit
set_option linter.unusedVariables false
set_option maxRecDepth 100000

/-- A call of the script. -/
structure FeedR where
  kind : Int
  sock : Int
  s : ByteArray
  place : Int
  version : Int
def FeedR.cells (x : FeedR) : List Value := [.int .i64 x.kind, .int .i64 x.sock, .string x.s, .int .i64 x.place, .int .i64 x.version]
def FeedR.ok (x : FeedR) : Prop := x.s.size ≤ maxLen
theorem TK.feedcalls_sl : PG.underlying TY.s_countermandlaw11_Call = some (.slice TY.countermandlaw11_Call) := by kernel_rfl
theorem TK.feedcall_kd : leafB PG 5 TY.countermandlaw11_Call = some [.int .i64, .int .i64, .str, .int .i64, .int .i64] := by kernel_rfl
theorem FeedR_key {H : Type} {enc : TypeId × Value → H} {P : Program} {w : World} {base : Nat} {spare : Nat → Bool} {held : Bool} (vs : List Value) (h : KdsOk enc P w base spare held [.int .i64, .int .i64, .str, .int .i64, .int .i64] vs) : ∃ x : FeedR, vs = x.cells ∧ x.ok := by
  obtain ⟨z1, v1, rfl, _, h⟩ := h.int
  obtain ⟨z2, v2, rfl, _, h⟩ := h.int
  obtain ⟨s, v3, rfl, hs, h⟩ := h.str
  obtain ⟨z4, v4, rfl, _, h⟩ := h.int
  obtain ⟨z5, v5, rfl, _, h⟩ := h.int
  obtain rfl := h.nil
  exact ⟨⟨z1, z2, s, z4, z5⟩, rfl, hs⟩
theorem FeedR_arg {H : Type} {enc : TypeId × Value → H} {w : World} {base : Nat} {spare : Nat → Bool} {held : Bool} {a : Option Addr} {len cap : Nat} {d : DataW H} {p : List MemPlace} (h : DataW.Trod enc PG w base spare held TY.s_countermandlaw11_Call (.slice a len cap) d p) :
    ∃ l : List FeedR, len = l.length ∧ Reads (roOf w) noHeap a 5 FeedR.cells l ∧ ∀ x ∈ l, x.ok :=
  arg_rows FeedR.cells FeedR.ok TK.feedcalls_sl TK.feedcall_kd rfl (by omega) FeedR_key h
def fdL (kR kF kM : Nat) (ts : List ByteArray) (l : List (Int × Int)) : List (Option (Nat × AObj)) := [some (kR, rowO_int l), some (kF, feedO ts kR), some (kM, fmO ts l)]

section
variable {B : RO} {h0 h : Heap} {kR kF kM k45 : Nat} {ts : List ByteArray} {l : List (Int × Int)} {Q : Bool → Heap → Prop} {a : Option Addr} {n c : Nat} {place i31 : Int} {m33 : Nat} {J36 : Int → Nat → Heap → Prop}
theorem FeedDoes_J1 (hQ : Q true h) : S_countermandlaw11_FeedDoes_J1 B h Q := by
  unfold S_countermandlaw11_FeedDoes_J1
  refine feed_place_nil (feed_arrive_nil ⟨fun _ => feed_at_nil ⟨fun _ => ⟨fun _ => feed_take_nil ⟨fun e => (by cases e), fun _ => feed_text_nil (feed_left_nil ⟨by decide, Fin.of ?_⟩)⟩, fun hn => absurd (by decide) hn⟩, fun hn => absurd rfl hn⟩, fun hn => absurd rfl hn⟩)
  have e : decide ((ByteArray.mk #[] ++ ByteArray.mk #[]) = ByteArray.mk #[]) = true := by decide
  rw [e]; exact hQ
theorem FeedDoes_J4 (E : Keep B h0 (fdL kR kF kM ts l) h) (k : FeedOk ts l) {i : Int} (i0 : 0 ≤ i) (i1 : i < 3) {m57 : Nat} {J60 : Int → Nat → Heap → Prop} (hJ : Fin B h (fun h' => ∃ m', m' < m57 ∧ J60 (IntKind.wrap .i64 (i + 1)) m' h')) :
    S_countermandlaw11_FeedDoes_J4 B a n c place (some ⟨kF, 0, none⟩) kM i31 i m57 J60 (cellAt_int l i).1 (cellAt_int l i).2 (atOf ts i place) h Q := by
  unfold S_countermandlaw11_FeedDoes_J4
  have hf := E.at 1 rfl
  have hr := E.at 0 rfl
  have hm := E.at 2 rfl
  have hp := k.place i
  refine ⟨i0, i1, _, fm_place hm k i0 i1, fun _ => ⟨i0, i1, _, fm_version hm k i0 i1, fun _ => ⟨i0, i1, _, fm_get hm k.t3 i0 i1, feed_text_wp k.t3 hf ⟨rfl, fun _ => ?_, fun hn => absurd rfl hn⟩⟩, fun hn => absurd rfl hn⟩, fun hn => absurd rfl hn⟩
  refine ⟨i0, i1, _, fm_get hm k.t3 i0 i1, hp.1, hp.2, Int.le_refl _, feed_left_wp k hf hr ⟨rfl, fun _ => feed_at_wp k.t3 hf ⟨rfl, fun _ => hJ, fun hn => absurd rfl hn⟩, fun hn => absurd ?_ hn⟩⟩
  rw [Int.toNat_natCast]; rfl
theorem FeedDoes_J3 (E : Keep B h0 (fdL kR kF kM ts l) h) (k : FeedOk ts l) (hJ : Fin B h (fun h' => ∃ m', m' < m33 ∧ J36 (IntKind.wrap .i64 (i31 + 1)) m' h')) :
    S_countermandlaw11_FeedDoes_J3 B a n c place (some ⟨kF, 0, none⟩) kM i31 m33 J36 h Q := by
  unfold S_countermandlaw11_FeedDoes_J3
  refine ⟨fun i m h' => ∃ j : Nat, j ≤ 3 ∧ i = j ∧ m = 3 - j ∧ h = h', 3, Fin.of ⟨0, by omega, rfl, by omega, rfl⟩, ?_⟩
  rintro _ _ _ ⟨j, hj, rfl, rfl, rfl⟩
  refine ⟨fun hlt => ?_, fun _ => hJ⟩
  have i0 : (0 : Int) ≤ (j : Int) := by omega
  have i1 : (j : Int) < 3 := hlt
  have hm := E.at 2 rfl
  have next : Fin B h (fun h' => ∃ m', m' < 3 - j ∧ ∃ j' : Nat, j' ≤ 3 ∧ IntKind.wrap .i64 ((j : Int) + 1) = j' ∧ m' = 3 - j' ∧ h = h') :=
    Fin.of ⟨3 - (j + 1), by omega, j + 1, by omega, by rw [w64 (by omega) (by omega)]; omega, rfl, rfl⟩
  have j4 := FeedDoes_J4 (Q := Q) (a := a) (n := n) (c := c) (place := place) (i31 := i31) (m57 := 3 - j) (J60 := fun i m h' => ∃ j' : Nat, j' ≤ 3 ∧ i = j' ∧ m = 3 - j' ∧ h = h') E k i0 i1 next
  have out : ¬ (0 ≤ place ∧ place < (textAt ts j).size) → atOf ts j place = -1 := fun hn => by
    rw [atOf, if_neg (fun x => hn ⟨x.2.2.1, x.2.2.2⟩)]
  refine feed_place_wp k.t3 (E.at 1 rfl) (E.at 0 rfl) ⟨fun hp => ⟨i0, i1, _, fm_get hm k.t3 i0 i1, fun hlt2 => Fin.of ?_, fun hge => Fin.of ?_⟩, fun hp => Fin.of ?_⟩
  · unfold S_countermandlaw11_FeedDoes_J5
    refine ⟨fun _ => ⟨i0, i1, _, fm_get hm k.t3 i0 i1, by omega, hlt2, Fin.of ?_⟩, fun e => by cases e⟩
    have e : IntKind.wrap .i64 (byteAt (textAt ts j) place.toNat) = atOf ts j place := by
      have := byteAt_bound (textAt ts j) place.toNat
      rw [w64 (by omega) (by omega), atOf, if_pos ⟨i0, i1, by omega, hlt2⟩]
    rw [e]; exact j4
  · unfold S_countermandlaw11_FeedDoes_J5
    rw [out (fun x => hge x.2)] at j4
    exact ⟨fun e => (by cases e), fun _ => Fin.of j4⟩
  · unfold S_countermandlaw11_FeedDoes_J5
    rw [out (fun x => hp x.1)] at j4
    exact ⟨fun e => (by cases e), fun _ => Fin.of j4⟩
theorem FeedDoes_J2 {x : FeedR} (E : Keep B h0 (fdL kR kF kM ts l ++ [some (k45, .vec TY.countermandlaw11_Call (plains x.cells) 5)]) h) (k : FeedOk ts l) (hJ : Fin B h (fun h' => ∃ m', m' < m33 ∧ J36 (IntKind.wrap .i64 (i31 + 1)) m' h')) :
    S_countermandlaw11_FeedDoes_J2 B a n c place (some ⟨kF, 0, none⟩) kM i31 m33 J36 k45 true h Q := by
  unfold S_countermandlaw11_FeedDoes_J2
  have hf := E.at 1 rfl
  have hr := E.at 0 rfl
  have E3 : Keep B h0 (fdL kR kF kM ts l) h := E.take 3
  refine ⟨fun _ => ⟨_, E.cell 3 rfl rfl, ref11_is_wp ⟨fun _ => ⟨rfl, Fin.of (FeedDoes_J3 E3 k hJ)⟩, fun hF => ⟨rfl, _, E.cell 3 rfl rfl, _, E.cell 3 rfl rfl, feed_text_wp k.t3 hf ⟨rfl, feed_left_wp k hf hr ⟨rfl, ?_, fun _ => ⟨_, E.cell 3 rfl rfl, feed_at_wp k.t3 hf ⟨rfl, fun _ => Fin.of (FeedDoes_J3 E3 k hJ), fun hn => absurd ?_ hn⟩⟩, fun hn => absurd ?_ hn⟩⟩⟩⟩⟩, fun e => by cases e⟩
  all_goals (rw [decide_eq_false_iff_not] at hF)
  · have := k.size x.sock
    have e : leftOf ts l x.sock = (textAt ts x.sock).extract (cellAt_int l x.sock).1.toNat (textAt ts x.sock).size := rfl
    rw [e, ByteArray.size_extract]; omega
  · rw [atOf, if_neg (fun x => hF ⟨x.1, x.2.1⟩)]
  · have et : textAt ts x.sock = ByteArray.mk #[] := by rw [textAt, if_neg hF]
    have e : leftOf ts l x.sock = (textAt ts x.sock).extract (cellAt_int l x.sock).1.toNat (textAt ts x.sock).size := rfl
    have hp := k.place x.sock
    rw [et] at hp e
    have e0 : (ByteArray.mk #[]).size = 0 := rfl
    rw [e0] at hp e
    have e1 : (cellAt_int l x.sock).1.toNat = 0 := by omega
    rw [e1] at e
    rw [et, e]; decide
theorem FeedDoes_wp {list : List FeedR} (hr : Reads B h a 5 FeedR.cells list) (hQ : Q true h) : C_countermandlaw11_FeedDoes B a list.length c place h Q := by
  refine C_countermandlaw11_FeedDoes.of ?_
  unfold S_countermandlaw11_FeedDoes
  refine alive11_wp ⟨fun _ => ⟨fun _ => Fin.of hQ, fun hlen => ?_⟩, fun e => by cases e⟩
  refine feed_new_wp fun kR kF h1 h2 a1 b1 e1 a2 b2 e2 k11 a11 b11 h12 e12 => ?_
  have E0 := (((Keep.nil B h).made a1 b1 e1).made a2 b2 e2).made a11 b11 e12
  refine ⟨fun i m h' => ∃ (j : Nat) (ts : List ByteArray) (l : List (Int × Int)), j ≤ list.length ∧ i = j ∧ m = list.length - j ∧ FeedOk ts l ∧ Keep B h (fdL kR kF k11 ts l) h', list.length, Fin.of ⟨0, ts0, fl0, by omega, rfl, by omega, FeedOk.zero, E0⟩, ?_⟩
  clear E0 e12 e2 e1
  rintro _ _ h32 ⟨j, ts, l, hj, rfl, rfl, k, E⟩
  refine ⟨fun hlt => ?_, fun _ => Fin.ent E.back (Fin.of (FeedDoes_J1 hQ))⟩
  have hj' : j < list.length := by omega
  have hw : IntKind.wrap .i64 ((j : Int) + 1) = ((j + 1 : Nat) : Int) := by rw [w64 (by omega) (by omega)]; omega
  obtain ⟨A, e1, e3, e4⟩ := (hr.over E.le E.nw) j list[j] (List.getElem?_eq_getElem hj')
  refine ⟨A, e1, by omega, hlt, list[j].kind, list[j].sock, list[j].s, list[j].place, list[j].version, (by simpa [FeedR.cells] using e4), fun k45 a45 b45 h46 e46 => ?_⟩
  have E1 := E.made a45 b45 e46
  refine ⟨_, stores_whole (E1.at 3 rfl) rfl (by simp) (by simp [isOne]) (by simp), ?_⟩
  have E2 := E1.put (o' := .vec TY.countermandlaw11_Call (plains list[j].cells) 5) 3 rfl
  have next : ∀ {h' : Heap} {ts' : List ByteArray} {l' : List (Int × Int)}, FeedOk ts' l' → Keep B h (fdL kR kF k11 ts' l') h' → Fin B h' (fun h'' => ∃ m', m' < list.length - j ∧ ∃ (j' : Nat) (ts : List ByteArray) (l : List (Int × Int)), j' ≤ list.length ∧ IntKind.wrap .i64 ((j : Int) + 1) = j' ∧ m' = list.length - j' ∧ FeedOk ts l ∧ Keep B h (fdL kR kF k11 ts l) h'') :=
    fun k' E' => Fin.of ⟨list.length - (j + 1), by omega, j + 1, _, _, by omega, hw, rfl, k', E'⟩
  refine ⟨_, E2.cell 3 rfl rfl, fun _ => Fin.ent E2.back (Fin.of hQ), fun hs => ⟨_, E2.cell 3 rfl rfl, fun _ => ?_, fun _ => ?_⟩⟩
  · have hs' : list[j].s.size ≤ 100 := by
      have : ¬ (list[j].s.size : Int) > 100 := hs
      omega
    refine ⟨_, E2.cell 3 rfl rfl, _, E2.cell 3 rfl rfl, _, E2.cell 3 rfl rfl, _, E2.cell 3 rfl rfl, feed_arrive_wp k (E2.at 1 rfl) (by omega) ?_⟩
    have E3 := E2.put (o' := feedO (arrT ts list[j].sock list[j].s) kR) 1 rfl
    refine ⟨E3.cell 3 rfl rfl, E3.cell 3 rfl rfl, E3.cell 3 rfl rfl, E3.cell 3 rfl rfl, ref11_arrive_wp k (E3.at 2 rfl) (by omega) ?_⟩
    have E4 := E3.put (o' := fmO (arrT ts list[j].sock list[j].s) l) 2 rfl
    exact ⟨E4.cell 3 rfl rfl, E4.cell 3 rfl rfl, E4.cell 3 rfl rfl, E4.cell 3 rfl rfl, fun _ => Fin.of (FeedDoes_J2 E4 (k.arrive _ _) (next (k.arrive _ _) (E4.take 3))), fun hn => absurd rfl hn⟩
  · refine ⟨_, E2.cell 3 rfl rfl, _, E2.cell 3 rfl rfl, _, E2.cell 3 rfl rfl, _, E2.cell 3 rfl rfl, _, E2.cell 3 rfl rfl, _, E2.cell 3 rfl rfl, feed_take_wp k (E2.at 1 rfl) (E2.at 0 rfl) ?_⟩
    have E3 := E2.put (o' := rowO_int (takeL ts l list[j].sock list[j].place list[j].version)) 0 rfl
    refine ⟨E3.cell 3 rfl rfl, E3.cell 3 rfl rfl, E3.cell 3 rfl rfl, E3.cell 3 rfl rfl, E3.cell 3 rfl rfl, E3.cell 3 rfl rfl, ref11_take_wp k (E3.at 2 rfl) ?_⟩
    have E4 := E3.put (o' := fmO ts (takeL ts l list[j].sock list[j].place list[j].version)) 2 rfl
    exact ⟨E4.cell 3 rfl rfl, E4.cell 3 rfl rfl, E4.cell 3 rfl rfl, E4.cell 3 rfl rfl, E4.cell 3 rfl rfl, E4.cell 3 rfl rfl, fun _ => Fin.of (FeedDoes_J2 E4 (k.take _ _ _) (next (k.take _ _ _) (E4.take 3))), fun hn => absurd rfl hn⟩

theorem arrT_text (h3 : ts.length = 3) (i : Int) (s : ByteArray) (j : Int) : ∃ u, textAt (arrT ts i s) j = textAt ts j ++ u := by
  unfold arrT
  split
  · rename_i h
    have hi : 0 ≤ i ∧ i < 3 := by
      unfold arrE at h; split at h
      · assumption
      · cases h
    rw [textAt_set h3 hi.1 hi.2]
    split
    · rename_i e; subst e; exact ⟨s, rfl⟩
    · exact ⟨ByteArray.empty, ByteArray.append_empty.symm⟩
  · exact ⟨ByteArray.empty, ByteArray.append_empty.symm⟩
theorem takeL_place (k : FeedOk ts l) (i place v j : Int) : (cellAt_int l j).1 ≤ (cellAt_int (takeL ts l i place v) j).1 := by
  unfold takeL
  split
  · rename_i h
    unfold takeB at h
    rw [decide_eq_true_eq] at h
    have l3 := k.l3
    rw [cellAt_int_set h.1 (by omega)]
    split
    · rename_i e; subst e; exact h.2.2.1
    · exact Int.le_refl _
  · exact Int.le_refl _
theorem text0 (i : Int) : textAt ts0 i = ByteArray.mk #[] := by
  by_cases h : 0 ≤ i ∧ i < 3
  · have : i = 0 ∨ i = 1 ∨ i = 2 := by omega
    rcases this with rfl | rfl | rfl <;> rfl
  · rw [textAt, if_neg h]
theorem FeedStays_J2 {sock : Int} {was u : ByteArray} {at' i14 : Int} {m16 : Nat} {J19 : ByteArray → Int → Int → Nat → Heap → Prop} (E : Keep B h0 [some (kR, rowO_int l), some (kF, feedO ts kR)] h) (k : FeedOk ts l) (h1 : textAt ts sock = was ++ u) (h2 : at' ≤ (cellAt_int l sock).1)
    (hJ : ∃ m', m' < m16 ∧ J19 (textAt ts sock) (cellAt_int l sock).1 (IntKind.wrap .i64 (i14 + 1)) m' h) : S_countermandlaw11_FeedStays_J2 B a n c sock (some ⟨kF, 0, none⟩) was at' i14 m16 J19 h Q := by
  unfold S_countermandlaw11_FeedStays_J2
  have hp := k.place sock
  have hsz : (textAt ts sock).size = was.size + u.size := by rw [h1, ByteArray.size_append]
  refine feed_text_wp k.t3 (E.at 1 rfl) (feed_place_wp k.t3 (E.at 1 rfl) (E.at 0 rfl) ⟨fun hlt => absurd hlt (by omega), fun _ => ⟨by omega, by omega, by omega, fun _ => ⟨fun hlt => absurd hlt (by omega), fun _ => ⟨fun hgt => absurd hgt (by omega), fun _ => Fin.of ?_⟩⟩, fun hn => absurd ?_ hn⟩⟩)
  · unfold S_countermandlaw11_FeedStays_J3
    exact ⟨fun e => (by cases e), fun _ => Fin.of hJ⟩
  · rw [h1]
    exact ByteArray.extract_append_eq_left (Int.toNat_natCast _)
theorem FeedStays_wp {list : List FeedR} {sock : Int} (hr : Reads B h a 5 FeedR.cells list) (hQ : Q true h) : C_countermandlaw11_FeedStays B a list.length c sock h Q := by
  refine C_countermandlaw11_FeedStays.of ?_
  unfold S_countermandlaw11_FeedStays
  refine alive11_wp ⟨fun _ => ⟨fun _ => Fin.of hQ, fun hlen => ref11_is_wp ⟨fun _ => Fin.of ?_, fun _ => Fin.of hQ⟩⟩, fun e => by cases e⟩
  unfold S_countermandlaw11_FeedStays_J1
  refine feed_new_wp fun kR kF h1 h2 a1 b1 e1 a2 b2 e2 => ?_
  have E0 := ((Keep.nil B h).made a1 b1 e1).made a2 b2 e2
  refine ⟨fun was at' i m h' => ∃ (j : Nat) (ts : List ByteArray) (l : List (Int × Int)), j ≤ list.length ∧ i = j ∧ m = list.length - j ∧ FeedOk ts l ∧ was = textAt ts sock ∧ at' ≤ (cellAt_int l sock).1 ∧ Keep B h [some (kR, rowO_int l), some (kF, feedO ts kR)] h', list.length, Fin.of ⟨0, ts0, fl0, by omega, rfl, by omega, FeedOk.zero, (text0 sock).symm, (FeedOk.zero.place sock).1, E0⟩, ?_⟩
  clear E0 e2 e1
  rintro _ at' _ _ h32 ⟨j, ts, l, hj, rfl, rfl, k, rfl, hat, E⟩
  refine ⟨fun hlt => ?_, fun _ => Fin.ent E.back (Fin.of hQ)⟩
  have hj' : j < list.length := by omega
  have hw : IntKind.wrap .i64 ((j : Int) + 1) = ((j + 1 : Nat) : Int) := by rw [w64 (by omega) (by omega)]; omega
  obtain ⟨A, e1, e3, e4⟩ := (hr.over E.le E.nw) j list[j] (List.getElem?_eq_getElem hj')
  refine ⟨A, e1, by omega, hlt, list[j].kind, list[j].sock, list[j].s, list[j].place, list[j].version, (by simpa [FeedR.cells] using e4), fun k45 a45 b45 h46 e46 => ?_⟩
  have E1 := E.made a45 b45 e46
  refine ⟨_, stores_whole (E1.at 2 rfl) rfl (by simp) (by simp [isOne]) (by simp), ?_⟩
  have E2 := E1.put (o' := .vec TY.countermandlaw11_Call (plains list[j].cells) 5) 2 rfl
  refine ⟨_, E2.cell 2 rfl rfl, fun _ => Fin.ent E2.back (Fin.of hQ), fun hs => ⟨_, E2.cell 2 rfl rfl, fun _ => ?_, fun _ => ?_⟩⟩
  · have hs' : list[j].s.size ≤ 100 := by
      have : ¬ (list[j].s.size : Int) > 100 := hs
      omega
    refine ⟨_, E2.cell 2 rfl rfl, _, E2.cell 2 rfl rfl, feed_arrive_wp k (E2.at 1 rfl) (by omega) (Fin.of ?_)⟩
    have E3 := E2.put (o' := feedO (arrT ts list[j].sock list[j].s) kR) 1 rfl
    obtain ⟨u, hu⟩ := arrT_text k.t3 list[j].sock list[j].s sock
    exact FeedStays_J2 (E3.take 2) (k.arrive _ _) hu hat ⟨list.length - (j + 1), by omega, j + 1, _, _, by omega, hw, rfl, k.arrive _ _, rfl, Int.le_refl _, E3.take 2⟩
  · refine ⟨_, E2.cell 2 rfl rfl, _, E2.cell 2 rfl rfl, _, E2.cell 2 rfl rfl, feed_take_wp k (E2.at 1 rfl) (E2.at 0 rfl) (Fin.of ?_)⟩
    have E3 := E2.put (o' := rowO_int (takeL ts l list[j].sock list[j].place list[j].version)) 0 rfl
    exact FeedStays_J2 (E3.take 2) (k.take _ _ _) ByteArray.append_empty.symm (Int.le_trans hat (takeL_place k _ _ _ _)) ⟨list.length - (j + 1), by omega, j + 1, _, _, by omega, hw, rfl, k.take _ _ _, rfl, Int.le_refl _, E3.take 2⟩
end
theorem FeedDoes_calls {H : Type} {enc : TypeId × Value → H} (W : World) {a : Option Addr} {len cap : Nat} {d : DataW H} {p : List MemPlace} (k : DataW.Trod enc PG W 0 (fun _ => true) true TY.s_countermandlaw11_Call (.slice a len cap) d p) (n : Int) (wn : (Lit.int .i64 n).wf = true) :
    Calls PG FN.countermandlaw11_FeedDoes #[.slice a len cap, .int .i64 n] W fun e w' => e = .returned (.bool true) ∧ Below W.heap.size W w' := by
  obtain ⟨l, rfl, hr, hok⟩ := FeedR_arg k
  refine Spec.calls (Spec.mono (FeedDoes_wp (Q := fun b _ => b = true) hr rfl) ?_)
  rintro v h' ⟨b, rfl, rfl⟩
  rfl
theorem FeedStays_calls {H : Type} {enc : TypeId × Value → H} (W : World) {a : Option Addr} {len cap : Nat} {d : DataW H} {p : List MemPlace} (k : DataW.Trod enc PG W 0 (fun _ => true) true TY.s_countermandlaw11_Call (.slice a len cap) d p) (n : Int) (wn : (Lit.int .i64 n).wf = true) :
    Calls PG FN.countermandlaw11_FeedStays #[.slice a len cap, .int .i64 n] W fun e w' => e = .returned (.bool true) ∧ Below W.heap.size W w' := by
  obtain ⟨l, rfl, hr, hok⟩ := FeedR_arg k
  refine Spec.calls (Spec.mono (FeedStays_wp (Q := fun b _ => b = true) hr rfl) ?_)
  rintro v h' ⟨b, rfl, rfl⟩
  rfl
end Go.Proofs.Ythlnibaechobmaa.H
