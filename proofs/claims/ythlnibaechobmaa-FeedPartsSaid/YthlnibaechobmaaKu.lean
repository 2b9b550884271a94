/- Feeds, and the document's answer for them: contracts. No condition. -/
import Derived.Test.YthlnibaechobmaaCi
import Derived.Test.YthlnibaechobmaaHp
namespace Go.Proofs.Ythlnibaechobmaa.H
open Go
set_option linter.unusedVariables false
set_option maxRecDepth 100000

theorem plains_mid {α : Type} (f : α → Value) (a b : List Value) (l : List α) (i : Nat) (x : α) (hx : l[i]? = some x) : (plains (a ++ (l.map f ++ b)))[a.length + i]? = some (.plain (f x)) := by
  obtain ⟨hi, rfl⟩ := List.getElem?_eq_some_iff.1 hx
  simp only [plains, List.getElem?_map]
  rw [List.getElem?_append_right (by omega), show a.length + i - a.length = i by omega, List.getElem?_append_left (by simpa using hi), List.getElem?_map, hx]
  rfl
theorem plains_mid_set {α : Type} (f : α → Value) (a b : List Value) (l : List α) (i : Nat) (x : α) (hi : i < l.length) : (plains (a ++ (l.map f ++ b))).set (a.length + i) (.plain (f x)) = plains (a ++ ((l.set i x).map f ++ b)) := by
  unfold plains
  rw [← List.map_set, List.set_append_right _ _ (by omega), show a.length + i - a.length = i by omega, List.set_append_left _ _ (by simpa using hi), List.map_set]
theorem addr_more (k m i : Nat) : Addr.add ⟨k, m, none⟩ i = ⟨k, m + i, none⟩ := by unfold Addr.add; split <;> simp_all
theorem byteAt_bound (s : ByteArray) (i : Nat) : 0 ≤ byteAt s i ∧ byteAt s i < 256 := by
  unfold byteAt
  split
  · rename_i h
    have := (s[i]).toNat_lt
    omega
  · omega

/-- A feed: its three texts, and where its places lie. -/
def feedC (ts : List ByteArray) (kR : Nat) : List Value := ts.map Value.string ++ [.pointer (some ⟨kR, 0, none⟩)]
def feedO (ts : List ByteArray) (kR : Nat) : AObj := .vec TY.feed_Feed (plains (feedC ts kR)) 4
/-- The document's feed. -/
def fmC (ts : List ByteArray) (l : List (Int × Int)) : List Value := ts.map Value.string ++ (l.map (fun x => Value.int .i64 x.1) ++ (l.map (fun x => Value.int .i64 x.2) ++ []))
def fmO (ts : List ByteArray) (l : List (Int × Int)) : AObj := .vec TY.countermandref11_Feed (plains (fmC ts l)) 9
def textAt (ts : List ByteArray) (i : Int) : ByteArray := if 0 ≤ i ∧ i < 3 then (ts[i.toNat]?).getD (ByteArray.mk #[]) else ByteArray.mk #[]
def arrE (ts : List ByteArray) (i : Int) (s : ByteArray) : Int := if 0 ≤ i ∧ i < 3 then (if (textAt ts i).size + s.size > 64 then 6 else 0) else 1
def arrT (ts : List ByteArray) (i : Int) (s : ByteArray) : List ByteArray := if arrE ts i s = 0 then ts.set i.toNat (textAt ts i ++ s) else ts
def takeB (ts : List ByteArray) (l : List (Int × Int)) (i place : Int) : Bool := decide (0 ≤ i ∧ i < 3 ∧ (cellAt_int l i).1 ≤ place ∧ place ≤ (textAt ts i).size)
def takeL (ts : List ByteArray) (l : List (Int × Int)) (i place v : Int) : List (Int × Int) := if takeB ts l i place = true then l.set i.toNat (place, v) else l
def leftOf (ts : List ByteArray) (l : List (Int × Int)) (i : Int) : ByteArray := (textAt ts i).extract (cellAt_int l i).1.toNat (textAt ts i).size
def atOf (ts : List ByteArray) (i place : Int) : Int := if 0 ≤ i ∧ i < 3 ∧ 0 ≤ place ∧ place < (textAt ts i).size then byteAt (textAt ts i) place.toNat else -1
/-- What holds of a feed always. -/
structure FeedOk (ts : List ByteArray) (l : List (Int × Int)) : Prop where
  t3 : ts.length = 3
  l3 : l.length = 3
  size : ∀ i, (textAt ts i).size ≤ 64
  place : ∀ i, 0 ≤ (cellAt_int l i).1 ∧ (cellAt_int l i).1 ≤ (textAt ts i).size
theorem textAt_in {ts : List ByteArray} {i : Int} (h3 : ts.length = 3) (h0 : 0 ≤ i) (h1 : i < 3) : ts[i.toNat]? = some (textAt ts i) := by
  rw [textAt, if_pos ⟨h0, h1⟩, List.getElem?_eq_getElem (by omega)]; rfl
theorem textAt_set {ts : List ByteArray} {i : Int} (h3 : ts.length = 3) (h0 : 0 ≤ i) (h1 : i < 3) (s : ByteArray) (j : Int) : textAt (ts.set i.toNat s) j = if j = i then s else textAt ts j := by
  unfold textAt
  by_cases hj : 0 ≤ j ∧ j < 3
  · rw [if_pos hj, if_pos hj]
    by_cases he : j = i
    · subst he
      rw [if_pos rfl, List.getElem?_set_self (by omega)]; rfl
    · rw [if_neg he, List.getElem?_set_ne (by omega)]
  · rw [if_neg hj, if_neg hj, if_neg (fun he => hj (by omega))]
theorem cellAt_int_set {l : List (Int × Int)} {i : Int} (h0 : 0 ≤ i) (h1 : i < l.length) (x : Int × Int) (j : Int) : cellAt_int (l.set i.toNat x) j = if j = i then x else cellAt_int l j := by
  unfold cellAt_int
  by_cases hj : 0 ≤ j
  · rw [if_pos hj, if_pos hj]
    by_cases he : j = i
    · subst he
      rw [if_pos rfl, List.getElem?_set_self (by omega)]; rfl
    · rw [if_neg he, List.getElem?_set_ne (by omega)]
  · rw [if_neg hj, if_neg hj, if_neg (fun he => hj (by omega))]
theorem FeedOk.arrive {ts : List ByteArray} {l : List (Int × Int)} (k : FeedOk ts l) (i : Int) (s : ByteArray) : FeedOk (arrT ts i s) l := by
  unfold arrT
  split
  · rename_i h
    have hi : 0 ≤ i ∧ i < 3 := by
      unfold arrE at h; split at h
      · assumption
      · cases h
    have hs : (textAt ts i).size + s.size ≤ 64 := by
      unfold arrE at h; rw [if_pos hi] at h; split at h
      · cases h
      · omega
    refine ⟨by rw [List.length_set]; exact k.t3, k.l3, fun j => ?_, fun j => ?_⟩
    · rw [textAt_set k.t3 hi.1 hi.2]; split
      · rw [ByteArray.size_append]; exact hs
      · exact k.size j
    · have := k.place j
      rw [textAt_set k.t3 hi.1 hi.2]; split
      · rename_i e; subst e; rw [ByteArray.size_append]; omega
      · exact this
  · exact k
theorem FeedOk.take {ts : List ByteArray} {l : List (Int × Int)} (k : FeedOk ts l) (i place v : Int) : FeedOk ts (takeL ts l i place v) := by
  unfold takeL
  split
  · rename_i h
    unfold takeB at h
    rw [decide_eq_true_eq] at h
    obtain ⟨h0, h1, h2, h3⟩ := h
    have l3 := k.l3
    refine ⟨k.t3, by rw [List.length_set]; exact k.l3, k.size, fun j => ?_⟩
    rw [cellAt_int_set h0 (by omega)]
    have := k.place i
    split
    · rename_i e; subst e; exact ⟨by omega, h3⟩
    · exact k.place j
  · exact k

section
variable {B : RO} {h : Heap} {kF kR kM : Nat} {ts : List ByteArray} {l l' : List (Int × Int)}
theorem feed_text (hf : h kF = some (feedO ts kR)) (h3 : ts.length = 3) {i : Int} (h0 : 0 ≤ i) (h1 : i < 3) : cellH B h (Addr.add ⟨kF, 0, none⟩ (i.toNat * 1)) = some (.string (textAt ts i)) := by
  rw [addr_more, Nat.mul_one]
  exact cellH_vec hf (plains_mid Value.string [] _ ts i.toNat _ (textAt_in h3 h0 h1))
theorem feed_ptr (hf : h kF = some (feedO ts kR)) (h3 : ts.length = 3) : cellH B h (Addr.add ⟨kF, 0, none⟩ 3) = some (.pointer (some ⟨kR, 0, none⟩)) := by
  rw [addr_more, Nat.zero_add]
  refine cellH_vec hf ?_
  have := plains_mid (fun x : Option Addr => Value.pointer x) (ts.map Value.string) [] [some ⟨kR, 0, none⟩] 0 _ rfl
  rw [List.length_map, h3] at this
  exact this
theorem feed_is_wp {i : Int} {p : Addr} {Q : Bool → Heap → Prop} (hQ : Q (decide (0 ≤ i ∧ i < 3)) h) : C_feed_Feed_is B (some p) i h Q := by
  refine C_feed_Feed_is.of ?_
  unfold S_feed_Feed_is
  refine ⟨fun e => (by cases e), fun _ => ⟨fun h0 => Fin.of ?_, fun h0 => Fin.of ?_⟩⟩
  · have : decide (i < 3) = decide (0 ≤ i ∧ i < 3) := by rw [decide_eq_decide]; exact ⟨fun x => ⟨by omega, x⟩, fun x => x.2⟩
    rw [this]; exact hQ
  · rw [decide_eq_false (by omega)] at hQ; exact hQ
theorem feed_is_nil {i : Int} {Q : Bool → Heap → Prop} (hQ : Q false h) : C_feed_Feed_is B none i h Q := by
  refine C_feed_Feed_is.of ?_
  unfold S_feed_Feed_is
  exact ⟨fun _ => Fin.of hQ, fun e => absurd rfl e⟩
theorem feedC_set (ts : List ByteArray) (kR i : Nat) (x : ByteArray) (hi : i < ts.length) : (plains (feedC ts kR)).set i (.plain (.string x)) = plains (feedC (ts.set i x) kR) := by
  have := plains_mid_set Value.string [] [.pointer (some ⟨kR, 0, none⟩)] ts i x hi
  simp only [List.length_nil, Nat.zero_add, List.nil_append] at this
  exact this
theorem feed_put (hf : h kF = some (feedO ts kR)) (h3 : ts.length = 3) {i : Int} (h0 : 0 ≤ i) (h1 : i < 3) (x : ByteArray) : storeH h (Addr.add ⟨kF, 0, none⟩ (i.toNat * 1)) (.string x) = some (h.set kF (feedO (ts.set i.toNat x) kR)) := by
  have hg : (plains (feedC ts kR))[i.toNat]? = some (.plain (.string (textAt ts i))) := by
    have := plains_mid Value.string [] [.pointer (some ⟨kR, 0, none⟩)] ts i.toNat _ (textAt_in h3 h0 h1)
    simp only [List.length_nil, Nat.zero_add, List.nil_append] at this
    exact this
  have hst := storeH_vec (v := .string x) hf hg
  rw [feedC_set ts kR i.toNat x (by omega)] at hst
  rw [addr_more, Nat.mul_one, Nat.zero_add]
  exact hst
theorem feed_arrive_wp {i : Int} {s : ByteArray} {Q : Int → Heap → Prop} (k : FeedOk ts l) (hf : h kF = some (feedO ts kR)) (hs : s.size ≤ 1000000000) (hQ : Q (arrE ts i s) (h.set kF (feedO (arrT ts i s) kR))) : C_feed_Feed_Arrive B (some ⟨kF, 0, none⟩) i s h Q := by
  refine C_feed_Feed_Arrive.of ?_
  unfold S_feed_Feed_Arrive
  refine ⟨fun e => (by cases e), fun _ => feed_is_wp ⟨fun hT => ?_, fun hF => Fin.of ?_⟩⟩
  · rw [decide_eq_true_eq] at hT
    have ht := k.size i
    refine ⟨_, rfl, hT.1, hT.2, _, feed_text hf k.t3 hT.1 hT.2, ?_⟩
    rw [w64 (by omega) (by omega)]
    refine ⟨fun hgt => Fin.of ?_, fun hle => Fin.of ?_⟩
    · have e : arrE ts i s = 6 := by rw [arrE, if_pos hT, if_pos (by omega)]
      rw [arrT, e, if_neg (by decide), Heap.set_self _ _ _ hf] at hQ
      exact hQ
    · unfold S_feed_Feed_Arrive_J1
      have e : arrE ts i s = 0 := by rw [arrE, if_pos hT, if_neg (by omega)]
      rw [arrT, e, if_pos rfl] at hQ
      exact ⟨_, rfl, hT.1, hT.2, _, feed_text hf k.t3 hT.1 hT.2, by omega, _, rfl, hT.1, hT.2, _, feed_put hf k.t3 hT.1 hT.2 _, Fin.of hQ⟩
  · rw [decide_eq_false_iff_not] at hF
    have e : arrE ts i s = 1 := by rw [arrE, if_neg hF]
    rw [arrT, e, if_neg (by decide), Heap.set_self _ _ _ hf] at hQ
    exact hQ
theorem feed_arrive_nil {i : Int} {s : ByteArray} {Q : Int → Heap → Prop} (hQ : Q 2 h) : C_feed_Feed_Arrive B none i s h Q := by
  refine C_feed_Feed_Arrive.of ?_
  unfold S_feed_Feed_Arrive
  exact ⟨fun _ => Fin.of hQ, fun e => absurd rfl e⟩
theorem feed_place_wp {i : Int} {Q : Int → Int → Heap → Prop} (h3 : ts.length = 3) (hf : h kF = some (feedO ts kR)) (hr : h kR = some (rowO_int l)) (hQ : Q (cellAt_int l i).1 (cellAt_int l i).2 h) : C_feed_Feed_Place B (some ⟨kF, 0, none⟩) i h Q := by
  refine C_feed_Feed_Place.of ?_
  unfold S_feed_Feed_Place
  exact ⟨fun e => (by cases e), fun _ => ⟨_, rfl, _, feed_ptr hf h3, get_wp_int (rowO_int_v hr) (Fin.of hQ)⟩⟩
theorem feed_place_nil {i : Int} {Q : Int → Int → Heap → Prop} (hQ : Q 0 0 h) : C_feed_Feed_Place B none i h Q := by
  refine C_feed_Feed_Place.of ?_
  unfold S_feed_Feed_Place
  exact ⟨fun _ => Fin.of hQ, fun e => absurd rfl e⟩
theorem feed_text_wp {i : Int} {Q : ByteArray → Heap → Prop} (h3 : ts.length = 3) (hf : h kF = some (feedO ts kR)) (hQ : Q (textAt ts i) h) : C_feed_Feed_Text B (some ⟨kF, 0, none⟩) i h Q := by
  refine C_feed_Feed_Text.of ?_
  unfold S_feed_Feed_Text
  refine feed_is_wp ⟨fun hT => ?_, fun hF => Fin.of ?_⟩
  · rw [decide_eq_true_eq] at hT
    exact ⟨_, rfl, hT.1, hT.2, _, feed_text hf h3 hT.1 hT.2, Fin.of hQ⟩
  · rw [decide_eq_false_iff_not] at hF
    rw [textAt, if_neg hF] at hQ; exact hQ
theorem feed_text_nil {i : Int} {Q : ByteArray → Heap → Prop} (hQ : Q (ByteArray.mk #[]) h) : C_feed_Feed_Text B none i h Q := by
  refine C_feed_Feed_Text.of ?_
  unfold S_feed_Feed_Text
  exact feed_is_nil ⟨fun e => (by cases e), fun _ => Fin.of hQ⟩
theorem feed_left_wp {i : Int} {Q : ByteArray → Heap → Prop} (k : FeedOk ts l) (hf : h kF = some (feedO ts kR)) (hr : h kR = some (rowO_int l)) (hQ : Q (leftOf ts l i) h) : C_feed_Feed_Left B (some ⟨kF, 0, none⟩) i h Q := by
  refine C_feed_Feed_Left.of ?_
  unfold S_feed_Feed_Left
  have hp := k.place i
  refine feed_place_wp k.t3 hf hr (feed_text_wp k.t3 hf ⟨hp.1, hp.2, Int.le_refl _, Fin.of ?_⟩)
  rw [Int.toNat_natCast]; exact hQ
theorem feed_left_nil {i : Int} {Q : ByteArray → Heap → Prop} (hQ : Q (ByteArray.mk #[]) h) : C_feed_Feed_Left B none i h Q := by
  refine C_feed_Feed_Left.of ?_
  unfold S_feed_Feed_Left
  refine feed_place_nil (feed_text_nil ⟨by decide, by decide, by decide, Fin.of ?_⟩)
  exact hQ
theorem feed_at_wp {i place : Int} {Q : Int → Heap → Prop} (h3 : ts.length = 3) (hf : h kF = some (feedO ts kR)) (hQ : Q (atOf ts i place) h) : C_feed_Feed_At B (some ⟨kF, 0, none⟩) i place h Q := by
  refine C_feed_Feed_At.of ?_
  unfold S_feed_Feed_At
  refine feed_is_wp ⟨fun hT => ⟨fun hp => Fin.of ?_, fun hp => ?_⟩, fun hF => Fin.of ?_⟩
  · rw [atOf, if_neg (by omega)] at hQ; exact hQ
  · rw [decide_eq_true_eq] at hT
    refine ⟨_, rfl, hT.1, hT.2, _, feed_text hf h3 hT.1 hT.2, fun hg => Fin.of ?_, fun hg => Fin.of ?_⟩
    · rw [atOf, if_neg (by omega)] at hQ; exact hQ
    · unfold S_feed_Feed_At_J1
      refine ⟨_, rfl, hT.1, hT.2, _, feed_text hf h3 hT.1 hT.2, by omega, by omega, Fin.of ?_⟩
      rw [atOf, if_pos ⟨hT.1, hT.2, by omega, by omega⟩] at hQ
      have := byteAt_bound (textAt ts i) place.toNat
      rw [w64 (by omega) (by omega)]; exact hQ
  · rw [decide_eq_false_iff_not] at hF
    rw [atOf, if_neg (by omega)] at hQ; exact hQ
theorem feed_at_nil {i place : Int} {Q : Int → Heap → Prop} (hQ : Q (-1) h) : C_feed_Feed_At B none i place h Q := by
  refine C_feed_Feed_At.of ?_
  unfold S_feed_Feed_At
  exact feed_is_nil ⟨fun e => (by cases e), fun _ => Fin.of hQ⟩
theorem feed_take_wp {i place v : Int} {Q : Bool → Heap → Prop} (k : FeedOk ts l) (hf : h kF = some (feedO ts kR)) (hr : h kR = some (rowO_int l)) (hQ : Q (takeB ts l i place) (h.set kR (rowO_int (takeL ts l i place v)))) : C_feed_Feed_Take B (some ⟨kF, 0, none⟩) i place v h Q := by
  refine C_feed_Feed_Take.of ?_
  unfold S_feed_Feed_Take
  have no : ¬ (0 ≤ i ∧ i < 3 ∧ (cellAt_int l i).1 ≤ place ∧ place ≤ (textAt ts i).size) → Q false h := fun hn => by
    have e : takeB ts l i place = false := by rw [takeB, decide_eq_false hn]
    rw [takeL, e, if_neg (by decide), Heap.set_self _ _ _ hr] at hQ
    exact hQ
  refine feed_place_wp k.t3 hf hr (feed_is_wp ⟨fun hT => ⟨fun hp => Fin.of (no (by omega)), fun hp => ?_⟩, fun hF => Fin.of (no ?_)⟩)
  · rw [decide_eq_true_eq] at hT
    refine ⟨_, rfl, hT.1, hT.2, _, feed_text hf k.t3 hT.1 hT.2, fun hg => Fin.of (no (by omega)), fun hg => Fin.of ?_⟩
    unfold S_feed_Feed_Take_J1
    have e : takeB ts l i place = true := by rw [takeB, decide_eq_true_eq]; omega
    have l3 := k.l3
    rw [takeL, e, if_pos rfl] at hQ
    exact ⟨_, rfl, _, feed_ptr hf k.t3, set_wp_int hr (fun _ _ => Fin.of hQ) (fun hn => absurd (show 0 ≤ i ∧ i < (l.length : Int) by omega) hn)⟩
  · rw [decide_eq_false_iff_not] at hF
    omega
theorem feed_take_nil {i place v : Int} {Q : Bool → Heap → Prop} (hQ : Q false h) : C_feed_Feed_Take B none i place v h Q := by
  refine C_feed_Feed_Take.of ?_
  unfold S_feed_Feed_Take
  exact feed_place_nil (feed_is_nil ⟨fun e => (by cases e), fun _ => Fin.of hQ⟩)
def ts0 : List ByteArray := [ByteArray.empty, ByteArray.empty, ByteArray.empty]
def fl0 : List (Int × Int) := [(0, 0), (0, 0), (0, 0)]
theorem FeedOk.zero : FeedOk ts0 fl0 := by
  have key : ∀ i : Int, textAt ts0 i = ByteArray.empty ∧ (cellAt_int fl0 i) = (0, 0) := fun i => by
    by_cases h : 0 ≤ i ∧ i < 3
    · have : i = 0 ∨ i = 1 ∨ i = 2 := by omega
      rcases this with rfl | rfl | rfl <;> exact ⟨rfl, rfl⟩
    · refine ⟨by rw [textAt, if_neg h]; rfl, ?_⟩
      unfold cellAt_int
      split
      · rw [List.getElem?_eq_none (by simp [fl0]; omega)]; rfl
      · rfl
  exact ⟨rfl, rfl, fun i => by rw [(key i).1]; decide, fun i => by rw [(key i).1, (key i).2]; decide⟩
theorem feed_new_wp {Q : Option Addr → Heap → Prop} (hQ : ∀ kR kF h1 h2, h kR = none → B kR = none → h1 = h.set kR (rowO_int fl0) → h1 kF = none → B kF = none → h2 = h1.set kF (feedO ts0 kR) → Q (some ⟨kF, 0, none⟩) h2) : C_feed_New B h Q := by
  refine C_feed_New.of ?_
  unfold S_feed_New
  refine new_wp_int (by decide) fun kR a1 b1 k4 a4 b4 h5 e5 => Fin.of (hQ kR k4 _ h5 a1 b1 rfl a4 b4 e5)

/-! The document's feed. -/
theorem ref11_is_wp {i : Int} {Q : Bool → Heap → Prop} (hQ : Q (decide (0 ≤ i ∧ i < 3)) h) : C_countermandref11_Is B i h Q := by
  refine C_countermandref11_Is.of ?_
  unfold S_countermandref11_Is
  refine ⟨fun h0 => Fin.of ?_, fun h0 => Fin.of ?_⟩
  · have : decide (i ≤ 2) = decide (0 ≤ i ∧ i < 3) := by rw [decide_eq_decide]; omega
    rw [this]; exact hQ
  · rw [decide_eq_false (by omega)] at hQ; exact hQ
theorem fm_get (hf : h kM = some (fmO ts l)) (h3 : ts.length = 3) {i : Int} (h0 : 0 ≤ i) (h1 : i < 3) : cellH B h (Addr.add ⟨kM, 0, none⟩ (i.toNat * 1)) = some (.string (textAt ts i)) := by
  rw [addr_more, Nat.mul_one]
  exact cellH_vec hf (plains_mid Value.string [] _ ts i.toNat _ (textAt_in h3 h0 h1))
theorem fm_put (hf : h kM = some (fmO ts l)) (h3 : ts.length = 3) {i : Int} (h0 : 0 ≤ i) (h1 : i < 3) (x : ByteArray) : storeH h (Addr.add ⟨kM, 0, none⟩ (i.toNat * 1)) (.string x) = some (h.set kM (fmO (ts.set i.toNat x) l)) := by
  have hst := storeH_vec (v := .string x) hf (plains_mid Value.string [] _ ts i.toNat _ (textAt_in h3 h0 h1))
  have hset := plains_mid_set Value.string [] (l.map (fun x => Value.int .i64 x.1) ++ (l.map (fun x => Value.int .i64 x.2) ++ [])) ts i.toNat x (by omega)
  rw [addr_more, Nat.mul_one]
  simp only [List.length_nil] at hst hset
  refine hst.trans ?_
  have e : (plains (fmC ts l)).set (0 + i.toNat) (.plain (.string x)) = plains (fmC (ts.set i.toNat x) l) := hset
  exact congrArg (fun z => some (h.set kM (.vec TY.countermandref11_Feed z 9))) e
theorem cellAt_get (h3 : l.length = 3) {i : Int} (h0 : 0 ≤ i) (h1 : i < 3) : l[i.toNat]? = some (cellAt_int l i) := by
  rw [cellAt_int_in h0 (by omega), List.getElem?_eq_getElem (by omega)]
theorem fm_place (hf : h kM = some (fmO ts l)) (k : FeedOk ts l) {i : Int} (h0 : 0 ≤ i) (h1 : i < 3) : cellH B h (Addr.add ⟨kM, 3, none⟩ (i.toNat * 1)) = some (.int .i64 (cellAt_int l i).1) := by
  have := cellH_vec (B := B) hf (plains_mid (fun x : Int × Int => Value.int .i64 x.1) (ts.map Value.string) (l.map (fun x => Value.int .i64 x.2) ++ []) l i.toNat _ (cellAt_get k.l3 h0 h1))
  rw [List.length_map, k.t3] at this
  rw [addr_more, Nat.mul_one]; exact this
theorem fm_version (hf : h kM = some (fmO ts l)) (k : FeedOk ts l) {i : Int} (h0 : 0 ≤ i) (h1 : i < 3) : cellH B h (Addr.add ⟨kM, 6, none⟩ (i.toNat * 1)) = some (.int .i64 (cellAt_int l i).2) := by
  have := cellH_vec (B := B) (i := 6 + i.toNat) hf (v := .int .i64 (cellAt_int l i).2) (by
    have := plains_mid (fun x : Int × Int => Value.int .i64 x.2) (ts.map Value.string ++ l.map (fun x => Value.int .i64 x.1)) [] l i.toNat _ (cellAt_get k.l3 h0 h1)
    rw [List.length_append, List.length_map, List.length_map, k.t3, k.l3, List.append_assoc] at this
    exact this)
  rw [addr_more, Nat.mul_one]; exact this
theorem ref11_arrive_wp {i : Int} {s : ByteArray} {Q : Int → Heap → Prop} (k : FeedOk ts l) (hf : h kM = some (fmO ts l)) (hs : s.size ≤ 1000000000) (hQ : Q (arrE ts i s) (h.set kM (fmO (arrT ts i s) l))) : C_countermandref11_Feed_Arrive B (some ⟨kM, 0, none⟩) i s h Q := by
  refine C_countermandref11_Feed_Arrive.of ?_
  unfold S_countermandref11_Feed_Arrive
  refine ref11_is_wp ⟨fun hT => ?_, fun hF => Fin.of ?_⟩
  · rw [decide_eq_true_eq] at hT
    have ht := k.size i
    refine ⟨_, rfl, hT.1, hT.2, _, fm_get hf k.t3 hT.1 hT.2, ?_⟩
    rw [w64 (by omega) (by omega)]
    refine ⟨fun hgt => Fin.of ?_, fun hle => ?_⟩
    · have e : arrE ts i s = 6 := by rw [arrE, if_pos hT, if_pos (by omega)]
      rw [arrT, e, if_neg (by decide), Heap.set_self _ _ _ hf] at hQ
      exact hQ
    · have e : arrE ts i s = 0 := by rw [arrE, if_pos hT, if_neg (by omega)]
      rw [arrT, e, if_pos rfl] at hQ
      exact ⟨_, rfl, hT.1, hT.2, _, fm_get hf k.t3 hT.1 hT.2, by omega, _, rfl, hT.1, hT.2, _, fm_put hf k.t3 hT.1 hT.2 _, Fin.of hQ⟩
  · rw [decide_eq_false_iff_not] at hF
    have e : arrE ts i s = 1 := by rw [arrE, if_neg hF]
    rw [arrT, e, if_neg (by decide), Heap.set_self _ _ _ hf] at hQ
    exact hQ
theorem fm_put_place (hf : h kM = some (.vec TY.countermandref11_Feed (plains (ts.map Value.string ++ (l.map (fun x => Value.int .i64 x.1) ++ (l'.map (fun x => Value.int .i64 x.2) ++ [])))) 9)) (h3 : ts.length = 3) (hl : l.length = 3) {i : Int} (h0 : 0 ≤ i) (h1 : i < 3) (x : Int × Int) :
    storeH h (Addr.add (Addr.add ⟨kM, 0, none⟩ 3) (i.toNat * 1)) (.int .i64 x.1) = some (h.set kM (.vec TY.countermandref11_Feed (plains (ts.map Value.string ++ ((l.set i.toNat x).map (fun x => Value.int .i64 x.1) ++ (l'.map (fun x => Value.int .i64 x.2) ++ [])))) 9)) := by
  have hst := storeH_vec (v := .int .i64 x.1) hf (plains_mid (fun x : Int × Int => Value.int .i64 x.1) (ts.map Value.string) (l'.map (fun x => Value.int .i64 x.2) ++ []) l i.toNat _ (cellAt_get hl h0 h1))
  have hset := plains_mid_set (fun x : Int × Int => Value.int .i64 x.1) (ts.map Value.string) (l'.map (fun x => Value.int .i64 x.2) ++ []) l i.toNat x (by omega)
  rw [hset, List.length_map, h3] at hst
  rw [addr_more, addr_more, Nat.mul_one]; exact hst
theorem fm_put_version (hf : h kM = some (.vec TY.countermandref11_Feed (plains (ts.map Value.string ++ (l'.map (fun x => Value.int .i64 x.1) ++ (l.map (fun x => Value.int .i64 x.2) ++ [])))) 9)) (h3 : ts.length = 3) (hl' : l'.length = 3) (hl : l.length = 3) {i : Int} (h0 : 0 ≤ i) (h1 : i < 3) (x : Int × Int) :
    storeH h (Addr.add (Addr.add ⟨kM, 0, none⟩ 6) (i.toNat * 1)) (.int .i64 x.2) = some (h.set kM (.vec TY.countermandref11_Feed (plains (ts.map Value.string ++ (l'.map (fun x => Value.int .i64 x.1) ++ ((l.set i.toNat x).map (fun x => Value.int .i64 x.2) ++ [])))) 9)) := by
  rw [← List.append_assoc] at hf ⊢
  have hst := storeH_vec (v := .int .i64 x.2) hf (plains_mid (fun x : Int × Int => Value.int .i64 x.2) (ts.map Value.string ++ l'.map (fun x => Value.int .i64 x.1)) [] l i.toNat _ (cellAt_get hl h0 h1))
  have hset := plains_mid_set (fun x : Int × Int => Value.int .i64 x.2) (ts.map Value.string ++ l'.map (fun x => Value.int .i64 x.1)) [] l i.toNat x (by omega)
  rw [hset, List.length_append, List.length_map, List.length_map, h3, hl'] at hst
  rw [addr_more, addr_more, Nat.mul_one]; exact hst
theorem ref11_take_wp {i place v : Int} {Q : Bool → Heap → Prop} (k : FeedOk ts l) (hf : h kM = some (fmO ts l)) (hQ : Q (takeB ts l i place) (h.set kM (fmO ts (takeL ts l i place v)))) : C_countermandref11_Feed_Take B (some ⟨kM, 0, none⟩) i place v h Q := by
  refine C_countermandref11_Feed_Take.of ?_
  unfold S_countermandref11_Feed_Take
  have no : ¬ (0 ≤ i ∧ i < 3 ∧ (cellAt_int l i).1 ≤ place ∧ place ≤ (textAt ts i).size) → Q false h := fun hn => by
    have e : takeB ts l i place = false := by rw [takeB, decide_eq_false hn]
    rw [takeL, e, if_neg (by decide), Heap.set_self _ _ _ hf] at hQ
    exact hQ
  refine ref11_is_wp ⟨fun hT => ?_, fun hF => Fin.of (no ?_)⟩
  · rw [decide_eq_true_eq] at hT
    refine ⟨_, rfl, hT.1, hT.2, _, (by rw [addr_more]; exact fm_place hf k hT.1 hT.2), fun hp => Fin.of (no (by omega)), fun hp => ?_⟩
    refine ⟨_, rfl, hT.1, hT.2, _, fm_get hf k.t3 hT.1 hT.2, fun hg => Fin.of (no (by omega)), fun hg => Fin.of ?_⟩
    unfold S_countermandref11_Feed_Take_J1
    have e : takeB ts l i place = true := by rw [takeB, decide_eq_true_eq]; omega
    rw [takeL, e, if_pos rfl] at hQ
    refine ⟨_, rfl, hT.1, hT.2, _, fm_put_place (l' := l) hf k.t3 k.l3 hT.1 hT.2 (place, v), ?_⟩
    refine ⟨_, rfl, hT.1, hT.2, _, fm_put_version (l := l) (Heap.set_same _ _ _) k.t3 (by rw [List.length_set]; exact k.l3) k.l3 hT.1 hT.2 (place, v), Fin.of ?_⟩
    rw [Heap.set_set]; exact hQ
  · rw [decide_eq_false_iff_not] at hF
    omega
theorem alive11_wp {Q : Bool → Heap → Prop} (hQ : Q true h) : C_countermandlaw11_alive B h Q := by
  refine C_countermandlaw11_alive.of ?_
  unfold S_countermandlaw11_alive
  refine feed_new_wp fun kR kF h1 h2 a1 b1 e1 a2 b2 e2 => ?_
  have E := ((Keep.nil B h).made a1 b1 e1).made a2 b2 e2
  have k0 := FeedOk.zero
  refine feed_arrive_wp k0 (E.at 1 rfl) (by decide) ⟨fun _ => ?_, fun hn => absurd (by decide) hn⟩
  have E1 := E.put (o' := feedO (arrT ts0 0 (ByteArray.mk #[97, 98])) kR) 1 rfl
  have k1 := k0.arrive 0 (ByteArray.mk #[97, 98])
  refine feed_take_wp k1 (E1.at 1 rfl) (E1.at 0 rfl) ⟨fun _ => ?_, fun e => absurd e (by decide)⟩
  have E2 := E1.put (o' := rowO_int (takeL (arrT ts0 0 (ByteArray.mk #[97, 98])) fl0 0 1 5)) 0 rfl
  have k2 := k1.take 0 1 5
  refine feed_left_wp k2 (E2.at 1 rfl) (E2.at 0 rfl) ⟨fun _ => ?_, fun hn => absurd (by decide) hn⟩
  refine feed_at_wp k2.t3 (E2.at 1 rfl) (Fin.ent E2.back (Fin.of ?_))
  have e : ((atOf (arrT ts0 0 (ByteArray.mk #[97, 98])) 0 0 : Int) == 97) = true := by decide
  rw [e]; exact hQ
end
end Go.Proofs.Ythlnibaechobmaa.H
