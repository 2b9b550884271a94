/- The law FeedParts. No condition. -/
import Derived.Test.YthlnibaechobmaaKv
namespace Go.Proofs.Ythlnibaechobmaa.H
open Go Go.RowKit
set_option linter.unusedVariables false
set_option maxRecDepth 100000

theorem TK.strs_sl : PG.underlying TY.s_string = some (.slice TY.string) := by kernel_rfl
theorem TK.str_kd : leafB PG 5 TY.string = some [.str] := by kernel_rfl
def strC (s : ByteArray) : List Value := [.string s]
theorem Str_key {H : Type} {enc : TypeId × Value → H} {P : Program} {w : World} {base : Nat} {spare : Nat → Bool} {held : Bool} (vs : List Value) (h : KdsOk enc P w base spare held [.str] vs) : ∃ x : ByteArray, vs = strC x ∧ x.size ≤ maxLen := by
  obtain ⟨s, v3, rfl, hs, h⟩ := h.str
  obtain rfl := h.nil
  exact ⟨s, rfl, hs⟩
theorem Str_arg {H : Type} {enc : TypeId × Value → H} {w : World} {base : Nat} {spare : Nat → Bool} {held : Bool} {a : Option Addr} {len cap : Nat} {d : DataW H} {p : List MemPlace} (h : DataW.Trod enc PG w base spare held TY.s_string (.slice a len cap) d p) :
    ∃ l : List ByteArray, len = l.length ∧ Reads (roOf w) noHeap a 1 strC l ∧ ∀ x ∈ l, x.size ≤ maxLen :=
  arg_rows strC (fun x => x.size ≤ maxLen) TK.strs_sl TK.str_kd rfl (by omega) Str_key h
/-- All texts, one behind the other. -/
def catS (l : List ByteArray) : ByteArray := l.foldl (· ++ ·) (ByteArray.mk #[])
theorem catS_take_succ (l : List ByteArray) (k : Nat) (hk : k < l.length) : catS (l.take (k + 1)) = catS (l.take k) ++ l[k] := by
  unfold catS; rw [List.take_succ_eq_append_getElem hk, List.foldl_append]; rfl
theorem foldS_ge : ∀ (l : List ByteArray) (s : ByteArray), s.size ≤ (l.foldl (· ++ ·) s).size
  | [], s => Nat.le_refl _
  | x :: l, s => by
    rw [List.foldl_cons]
    refine Nat.le_trans ?_ (foldS_ge l _)
    rw [ByteArray.size_append]; omega
theorem catS_take_le (l : List ByteArray) (k : Nat) : (catS (l.take k)).size ≤ (catS l).size := by
  have : catS l = (l.drop k).foldl (· ++ ·) (catS (l.take k)) := by unfold catS; rw [← List.foldl_append, List.take_append_drop]
  rw [this]; exact foldS_ge _ _

section
variable {B : RO} {h0 h : Heap} {kR kF kR' kF' : Nat} {ts : List ByteArray} {Q : Bool → Heap → Prop} {a : Option Addr} {c : Nat} {sock place : Int} {list : List ByteArray}
theorem atOf_text {ts ts' : List ByteArray} (h : textAt ts sock = textAt ts' sock) : atOf ts sock place = atOf ts' sock place := by unfold atOf; rw [h]
theorem cell0 (k : FeedOk ts fl0) : leftOf ts fl0 sock = textAt ts sock := by
  have e : (cellAt_int fl0 sock).1 = 0 := by
    have := FeedOk.zero.place sock
    rw [text0] at this
    have : (ByteArray.mk #[]).size = 0 := rfl
    omega
  unfold leftOf
  rw [e]
  exact ByteArray.extract_zero_size
theorem FeedParts_J3 (E : Keep B h0 [some (kR, rowO_int fl0), some (kF, feedO ts kR), some (kR', rowO_int fl0), some (kF', feedO ts0 kR')] h) (k : FeedOk ts fl0) (hs : 0 ≤ sock ∧ sock < 3) (ht : textAt ts sock = catS list) (hsz : (catS list).size ≤ 64) (hQ : Q true h0) :
    S_countermandlaw11_FeedParts_J3 B sock place (catS list) (some ⟨kF, 0, none⟩) (some ⟨kF', 0, none⟩) h Q := by
  unfold S_countermandlaw11_FeedParts_J3
  have k0 := FeedOk.zero
  have k1 := k0.arrive sock (catS list)
  have ee : arrE ts0 sock (catS list) = 0 := by
    rw [arrE, if_pos hs, if_neg]
    rw [text0, show (ByteArray.mk #[]).size = 0 from rfl]; omega
  have et : textAt (arrT ts0 sock (catS list)) sock = catS list := by
    rw [arrT, if_pos ee, textAt_set k0.t3 hs.1 hs.2, if_pos rfl, text0]
    exact ByteArray.empty_append
  refine feed_arrive_wp k0 (E.at 3 rfl) (by omega) ?_
  rw [ee]
  have E1 := E.put (o' := feedO (arrT ts0 sock (catS list)) kR') 3 rfl
  refine ⟨fun _ => feed_text_wp k.t3 (E1.at 1 rfl) ⟨fun _ => feed_left_wp k1 (E1.at 3 rfl) (E1.at 2 rfl) ⟨fun _ => feed_at_wp k.t3 (E1.at 1 rfl) (feed_at_wp k1.t3 (E1.at 3 rfl) (Fin.ent E1.back (Fin.of ?_))), fun hn => absurd ?_ hn⟩, fun hn => absurd ht hn⟩, fun hn => absurd rfl hn⟩
  · have e : (atOf ts sock place == atOf (arrT ts0 sock (catS list)) sock place) = true := by
      rw [beq_iff_eq]; exact atOf_text (ht.trans et.symm)
    rw [e]; exact hQ
  · rw [cell0 k1]; exact et
theorem FeedParts_J2 (hr : Reads B h a 1 strC list) (hlen : list.length ≤ 30) (hs : 0 ≤ sock ∧ sock < 3) (hsz : (catS list).size ≤ 64) (hQ : Q true h) : S_countermandlaw11_FeedParts_J2 B a list.length c sock place (catS list) h Q := by
  unfold S_countermandlaw11_FeedParts_J2
  refine feed_new_wp fun kR kF h1 h2 a1 b1 e1 a2 b2 e2 => feed_new_wp fun kR' kF' h3 h4 a3 b3 e3 a4 b4 e4 => ?_
  have E0 := ((((Keep.nil B h).made a1 b1 e1).made a2 b2 e2).made a3 b3 e3).made a4 b4 e4
  refine ⟨fun i m h' => ∃ (j : Nat) (ts : List ByteArray), j ≤ list.length ∧ i = j ∧ m = list.length - j ∧ FeedOk ts fl0 ∧ textAt ts sock = catS (list.take j) ∧ Keep B h [some (kR, rowO_int fl0), some (kF, feedO ts kR), some (kR', rowO_int fl0), some (kF', feedO ts0 kR')] h', list.length, Fin.of ⟨0, ts0, by omega, rfl, by omega, FeedOk.zero, text0 sock, E0⟩, ?_⟩
  clear E0 e4 e3 e2 e1
  rintro _ _ h32 ⟨j, ts, hj, rfl, rfl, k, ht, E⟩
  refine ⟨fun hlt => ?_, fun hge => Fin.of ?_⟩
  · have hj' : j < list.length := by omega
    have hw : IntKind.wrap .i64 ((j : Int) + 1) = ((j + 1 : Nat) : Int) := by rw [w64 (by omega) (by omega)]; omega
    obtain ⟨A, e1, e3, e4⟩ := (hr.over E.le E.nw) j list[j] (List.getElem?_eq_getElem hj')
    have hle := catS_take_le list (j + 1)
    rw [catS_take_succ list j hj', ByteArray.size_append] at hle
    have ee : arrE ts sock list[j] = 0 := by rw [arrE, if_pos hs, if_neg]; rw [ht]; omega
    refine ⟨A, e1, by omega, hlt, list[j], e4.1, feed_arrive_wp k (E.at 1 rfl) (by omega) ?_⟩
    rw [ee]
    have E1 := E.put (o' := feedO (arrT ts sock list[j]) kR) 1 rfl
    refine ⟨fun _ => Fin.of ⟨list.length - (j + 1), by omega, j + 1, _, by omega, hw, rfl, k.arrive sock list[j], ?_, E1⟩, fun hn => absurd rfl hn⟩
    rw [arrT, if_pos ee, textAt_set k.t3 hs.1 hs.2, if_pos rfl, ht, catS_take_succ list j hj']
  · have : j = list.length := by omega
    subst this
    rw [List.take_length] at ht
    exact FeedParts_J3 E k hs ht hsz hQ
theorem FeedParts_wp (hr : Reads B h a 1 strC list) (hQ : Q true h) : C_countermandlaw11_FeedParts B a list.length c sock place h Q := by
  refine C_countermandlaw11_FeedParts.of ?_
  unfold S_countermandlaw11_FeedParts
  refine alive11_wp ⟨fun _ => ⟨fun _ => Fin.of hQ, fun hlen => ref11_is_wp ⟨fun hT => Fin.of ?_, fun _ => Fin.of hQ⟩⟩, fun e => by cases e⟩
  rw [decide_eq_true_eq] at hT
  unfold S_countermandlaw11_FeedParts_J1
  refine ⟨fun s i m h' => ∃ (j : Nat), j ≤ list.length ∧ i = j ∧ m = list.length - j ∧ s = catS (list.take j) ∧ s.size ≤ 64 ∧ h = h', list.length, Fin.of ⟨0, by omega, rfl, by omega, rfl, by decide, rfl⟩, ?_⟩
  rintro _ _ _ _ ⟨j, hj, rfl, rfl, rfl, hsz, rfl⟩
  refine ⟨fun hlt => ?_, fun hge => Fin.of ?_⟩
  · have hj' : j < list.length := by omega
    have hw : IntKind.wrap .i64 ((j : Int) + 1) = ((j + 1 : Nat) : Int) := by rw [w64 (by omega) (by omega)]; omega
    obtain ⟨A, e1, e3, e4⟩ := hr j list[j] (List.getElem?_eq_getElem hj')
    refine ⟨A, e1, by omega, hlt, list[j], e4.1, fun _ => Fin.of hQ, fun h1 => ⟨by omega, fun _ => Fin.of hQ, fun h2 => Fin.of ⟨list.length - (j + 1), by omega, j + 1, by omega, hw, rfl, (catS_take_succ list j hj').symm, by omega, rfl⟩⟩⟩
  · have : j = list.length := by omega
    subst this
    rw [List.take_length] at hsz ⊢
    exact FeedParts_J2 hr (by omega) hT hsz hQ
end
theorem FeedParts_calls {H : Type} {enc : TypeId × Value → H} (W : World) {a : Option Addr} {len cap : Nat} {d : DataW H} {p : List MemPlace} (k : DataW.Trod enc PG W 0 (fun _ => true) true TY.s_string (.slice a len cap) d p) (n : Int) (wn : (Lit.int .i64 n).wf = true) (m : Int) (wm : (Lit.int .i64 m).wf = true) :
    Calls PG FN.countermandlaw11_FeedParts #[.slice a len cap, .int .i64 n, .int .i64 m] W fun e w' => e = .returned (.bool true) ∧ Below W.heap.size W w' := by
  obtain ⟨l, rfl, hr, hok⟩ := Str_arg k
  refine Spec.calls (Spec.mono (FeedParts_wp (Q := fun b _ => b = true) hr rfl) ?_)
  rintro v h' ⟨b, rfl, rfl⟩
  rfl
end Go.Proofs.Ythlnibaechobmaa.H
