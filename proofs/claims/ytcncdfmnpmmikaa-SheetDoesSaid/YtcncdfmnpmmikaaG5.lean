/- What the law's proof stands on, part 5. No condition. -/
import Derived.Shelf.Strings.Repeat
import Derived.Test.YtcncdfmnpmmikaaG4
namespace Go.Proofs.Ytcncdfmnpmmikaa.H
open Go
set_option linter.unusedVariables false
set_option maxRecDepth 100000
def repRen : Go.Shelf.Ren := ⟨fun x => match x with | 99 => 141 | 105 => 123 | 165 => 142 | 166 => 143 | 169 => 145 | 170 => 144 | 206 => 155 | 212 => 140 | 240 => 156 | 241 => 157 | 263 => 153 | 264 => 154 | 276 => 159 | 277 => 160 | _ => 0, fun x => match x with | 0 => 0 | 3 => 3 | 4 => 4 | 5 => 5 | 9 => 9 | 20 => 20 | 37 => 144 | 46 => 57 | 51 => 185 | 53 => 188 | 70 => 210 | 72 => 212 | 75 => 215 | 76 => 216 | 80 => 92 | 109 => 208 | 127 => 228 | 146 => 224 | 148 => 226 | 164 => 229 | _ => 0, fun x => x⟩
theorem repLays : Lays.n105 PG repRen := ⟨by kernel_rfl, by kernel_rfl, by kernel_rfl, by kernel_rfl, by kernel_rfl, by kernel_rfl, by kernel_rfl, by kernel_rfl, by kernel_rfl, by kernel_rfl, by kernel_rfl, by kernel_rfl, by kernel_rfl, by kernel_rfl, by kernel_rfl, by kernel_rfl, fun w => by kernel_rfl, fun w => by kernel_rfl, fun w => by kernel_rfl, by kernel_rfl, fun w => by kernel_rfl, fun w => by kernel_rfl, fun w => by kernel_rfl, by kernel_rfl, fun w => by kernel_rfl, fun w => by kernel_rfl, fun w => by kernel_rfl, by kernel_rfl, fun w => by kernel_rfl, fun w => by kernel_rfl, fun w => by kernel_rfl, by kernel_rfl, fun w => by kernel_rfl, fun w => by kernel_rfl, fun w => by kernel_rfl, by kernel_rfl, fun w => by kernel_rfl, fun w => by kernel_rfl, fun w => by kernel_rfl, by kernel_rfl, fun w => by kernel_rfl, fun w => by kernel_rfl, fun w => by kernel_rfl, by kernel_rfl, fun w => by kernel_rfl, fun w => by kernel_rfl, fun w => by kernel_rfl, by kernel_rfl, fun w => by kernel_rfl, fun w => by kernel_rfl, fun w => by kernel_rfl, by kernel_rfl, fun w => by kernel_rfl, fun w => by kernel_rfl, fun w => by kernel_rfl, by kernel_rfl, fun w => by kernel_rfl, fun w => by kernel_rfl, fun w => by kernel_rfl, by kernel_rfl, fun w => by kernel_rfl, fun w => by kernel_rfl, fun w => by kernel_rfl, by kernel_rfl, fun w => by kernel_rfl, fun w => by kernel_rfl, fun w => by kernel_rfl, by kernel_rfl, fun w => by kernel_rfl, fun w => by kernel_rfl, fun w => by kernel_rfl, by kernel_rfl, fun w => by kernel_rfl, fun w => by kernel_rfl, fun w => by kernel_rfl, by kernel_rfl, fun w => by kernel_rfl, fun w => by kernel_rfl, fun w => by kernel_rfl, by kernel_rfl, fun w => by kernel_rfl, fun w => by kernel_rfl, fun w => by kernel_rfl, by kernel_rfl, fun w => by kernel_rfl, fun w => by kernel_rfl, fun w => by kernel_rfl, by kernel_rfl, fun w => by kernel_rfl, fun w => by kernel_rfl, fun w => by kernel_rfl⟩
theorem repExtra : Builder.Extra PG repRen := { sizeBuilder := by kernel_rfl, liesBuilder := by kernel_rfl, t5 := repLays.t5, a5 := repLays.a5, z5 := repLays.z5, v5 := repLays.v5, infoByte := by kernel_rfl, cellsByte := by kernel_rfl, sizeByte := by kernel_rfl, neB5 := by decide }
theorem repF : repRen.f 105 = FN.strings_Repeat := by kernel_rfl
end Go.Proofs.Ytcncdfmnpmmikaa.H
namespace Go.Proofs.Ytcncdfmnpmmikaa.H
open Go Go.RowKit
set_option linter.unusedVariables false
set_option maxRecDepth 100000
theorem Rel.below {B : RO} {F : Fr} {h : Heap} {w w' : World} (R : Rel B F h w) (b : Below w.heap.size w w') : Rel B F h w' := by
  obtain ⟨own, R⟩ := R
  obtain ⟨b1, b2, b3, b4, hk⟩ := b
  exact ⟨own, b1.trans R.os, b2.trans R.tape, b3.trans R.output, Nat.le_trans R.low b4, fun c o hc => ⟨(hk c (lt_of_get (R.fr c o hc).1)).trans (R.fr c o hc).1, (R.fr c o hc).2⟩,
    fun c o hc => ⟨(hk c (lt_of_get (R.ro c o hc).1)).trans (R.ro c o hc).1, (R.ro c o hc).2⟩, fun c o hc => ⟨(R.obj c o hc).1, (R.obj c o hc).2.keep (hk c (R.obj c o hc).2.lt) (fun k i h' => ⟨h', hk k (R.owned k _ h')⟩)⟩,
    fun k p hk' => Nat.lt_of_lt_of_le (R.owned k p hk') b4⟩
theorem Spec.below {P : Program} {B : RO} {f : FuncId} {args : Array Value} {h : Heap} {v0 : Value} {Q : Value → Heap → Prop} (hc : ∀ w, Calls P f args w fun e w' => e = .returned v0 ∧ Below w.heap.size w w') (hQ : Q v0 h) : Spec P B f args h Q := by
  intro F w R
  refine (hc w).mono ?_
  rintro e w' ⟨rfl, bel⟩
  exact ⟨v0, h, rfl, R.below bel, hQ⟩
section
variable {B : RO} {h h0 : Heap} {L : List (Option (Nat × AObj))} {b : Bool} {s : ByteArray}
theorem repeat_wp {n : Nat} (hn : n ≤ 100000) {Q : ByteArray → Heap → Prop} (hQ : Q (ba (List.replicate n 0)) h) : C_strings_Repeat B (ByteArray.mk #[0]) (n : Int) h Q := by
  unfold C_strings_Repeat
  refine Spec.below (v0 := .string (ba (List.replicate n 0))) (fun w => ?_) ⟨_, rfl, hQ⟩
  have hc := Any.strings_Repeat repLays repExtra (ByteArray.mk #[0]) n w (by omega) (by show 1 * n ≤ _; omega)
  rw [repF] at hc
  refine hc.mono fun e w' ⟨he, hb⟩ => ⟨?_, hb⟩
  rw [he]
  have := Lib.repeatL_replicate 0 1 n
  rw [Nat.mul_one] at this
  have e1 : (ByteArray.mk #[0]).data.toList = List.replicate 1 0 := rfl
  rw [e1, this]; rfl
theorem cut_in {s : ByteArray} {n : Nat} (h : n ≤ s.size) : s.extract 0 n = ba (cutT (bl s) n) := by
  refine bl_inj ?_
  rw [bl_extract, bl_ba, cutT, padT_self (by rw [bl_length]; exact h)]; simp
theorem cut_out {s : ByteArray} {n : Nat} (h : s.size ≤ n) : s ++ ba (List.replicate (n - s.size) 0) = ba (cutT (bl s) n) := by
  refine bl_inj ?_
  rw [bl_append, bl_ba, bl_ba, cutT, List.take_of_length_le (by rw [padT_len, bl_length]; omega), padT, bl_length]
theorem fcut_wp {n : Int} (hs : s.size ≤ 1000000) {Q : Bool → ByteArray → Heap → Prop} (hQ : ∀ h', Wk B h h' → Q (cutF (b, s) n).1 (cutF (b, s) n).2 h') : C_file_Cut B b s n h Q := by
  refine C_file_Cut.of ?_
  unfold S_file_Cut
  intro k7 a7 b7 h8 e8 k9 a9 b9 h10 e10
  have E := ((Keep.nil B h).made a7 b7 e8).made a9 b9 e10
  have E : Keep B h [some (k7, fiO (b, s)), some (k9, fiO (false, ByteArray.empty))] h10 := E
  have done : ¬ (b = true ∧ 0 ≤ n ∧ n ≤ 32) → ∃ b45 : Bool, ∃ s46 : ByteArray, CellsAt B h10 ⟨k7, 0, none⟩ 0 [(.bool b45), (.string s46)] ∧ ∃ h47 : Heap, StoresAt ⟨k9, 0, none⟩ h10 0 [(.bool b45), (.string s46)] h47 ∧
      ∃ b48 : Bool, ∃ s49 : ByteArray, CellsAt B h47 ⟨k9, 0, none⟩ 0 [(.bool b48), (.string s49)] ∧ Fin B h47 (Q (b48) s49) := fun hn => by
    unfold cutF at hQ
    rw [if_neg hn] at hQ
    refine ⟨b, s, ⟨E.cell 0 rfl (j := 0) rfl, E.cell 0 rfl (j := 1) rfl, trivial⟩, _, stores_whole (E.at 1 rfl) rfl (by simp) (by simp [isOne]) (by simp), ?_⟩
    have E1 := E.put (o' := fiO (b, s)) 1 rfl
    exact ⟨_, _, ⟨E1.cell 1 rfl (j := 0) rfl, E1.cell 1 rfl (j := 1) rfl, trivial⟩, Fin.of (hQ _ E1.w)⟩
  refine ⟨b, E.cell 0 rfl (j := 0) rfl, fun hb => ⟨fun hlt => done (by omega), fun hge => ⟨fun h32 => done (by omega), fun hlt => Fin.of ?_⟩⟩, fun hb => done (by simp [hb])⟩
  clear done
  have hin : b = true ∧ 0 ≤ n ∧ n ≤ 32 := ⟨hb, by omega, by omega⟩
  unfold cutF at hQ
  rw [if_pos hin] at hQ
  obtain ⟨k, rfl⟩ := Int.eq_ofNat_of_zero_le hin.2.1
  rw [Int.toNat_natCast] at hQ
  unfold S_file_Cut_J1
  refine ⟨s, E.cell 0 rfl (j := 1) rfl, fun hle => ⟨s, E.cell 0 rfl (j := 1) rfl, by omega, by omega, hle, ?_⟩, fun hgt => ⟨s, E.cell 0 rfl (j := 1) rfl, s, E.cell 0 rfl (j := 1) rfl, ?_⟩⟩
  · rw [show Int.toNat 0 = 0 from rfl, Int.toNat_natCast, cut_in (by omega)]
    refine ⟨_, stores_whole (E.at 1 rfl) rfl (by simp) (by simp [isOne]) (by simp), ?_⟩
    have E1 := E.put (o' := fiO (true, ba (cutT (bl s) k))) 1 rfl
    exact ⟨_, _, ⟨E1.cell 1 rfl (j := 0) rfl, E1.cell 1 rfl (j := 1) rfl, trivial⟩, Fin.of (hQ _ E1.w)⟩
  · have e1 : IntKind.wrap .i64 ((k : Int) - (s.size : Nat)) = ((k - s.size : Nat) : Int) := by rw [w64 (by omega) (by omega)]; omega
    rw [e1]
    refine repeat_wp (by omega) ⟨E.cell 0 rfl (j := 1) rfl, E.cell 0 rfl (j := 1) rfl, by rw [ba_size, List.length_replicate]; omega, ?_⟩
    rw [cut_out (by omega)]
    refine ⟨_, stores_whole (E.at 1 rfl) rfl (by simp) (by simp [isOne]) (by simp), ?_⟩
    have E1 := E.put (o' := fiO (true, ba (cutT (bl s) k))) 1 rfl
    exact ⟨_, _, ⟨E1.cell 1 rfl (j := 0) rfl, E1.cell 1 rfl (j := 1) rfl, trivial⟩, Fin.of (hQ _ E1.w)⟩
theorem byteAt_f {s : ByteArray} {i : Nat} (h : i < s.size) : ∃ b, (bl s)[i]? = some b ∧ byteAt s i = ((b.toNat : Nat) : Int) := by
  refine ⟨s[i], ?_, by unfold byteAt; rw [dif_pos h]⟩
  unfold bl
  have : i < s.data.toList.length := by simpa using h
  rw [List.getElem?_eq_getElem this]
  simp [ByteArray.getElem_eq_getElem_data]
def atR (l : List UInt8) (i : Nat) : Int := match l[i]? with
  | some c => ((c.toNat : Nat) : Int)
  | none => -1
theorem atR_max (l : List UInt8) (i : Nat) : (if (0 : Int) > atR l i then (0 : Int) else atR l i) = (((byteOf l i).toNat : Nat) : Int) := by
  unfold atR byteOf
  cases l[i]? with
  | none => rfl
  | some c => simp only [Option.getD_some]; rw [if_neg (by omega)]
theorem refAt_wp {i : Nat} (hi : i ≤ 1000000) (hs : s.size ≤ 1000000) {Q : Int → Heap → Prop} (hQ : ∀ h', Wk B h h' → Q (atR (bl s) i) h') : C_countermandref09_At B b s i h Q := by
  refine C_countermandref09_At.of ?_
  unfold S_countermandref09_At
  intro k5 a5 b5 h6 e6
  have E : Keep B h [some (k5, frfO (b, s))] h6 := (Keep.nil B h).made a5 b5 e6
  refine ⟨fun ix m h' => ∃ j : Nat, ix = j ∧ m = s.size - j ∧ (j ≤ i ∨ s.size ≤ i) ∧ j ≤ s.size ∧ Keep B h [some (k5, frfO (b, s))] h', s.size, Fin.of ⟨0, rfl, rfl, by omega, by omega, E⟩, ?_⟩
  clear E
  rintro _ _ h8 ⟨j, rfl, rfl, hj, hjs, E⟩
  refine ⟨s, E.cell 0 rfl (j := 1) rfl, fun hlt => ⟨fun he => ⟨s, E.cell 0 rfl (j := 1) rfl, by omega, hlt, Fin.of ?_⟩, fun hne => Fin.of ⟨s.size - (j + 1), by omega, j + 1, by rw [w64 (by omega) (by omega)]; omega, rfl, by omega, by omega, E⟩⟩, fun hge => Fin.of ?_⟩
  · obtain ⟨c, h1, h2⟩ := byteAt_f (s := s) (i := j) (by omega)
    have hji : j = i := by omega
    subst hji
    rw [Int.toNat_natCast, h2, w64 (by omega) (by have := c.toNat_lt; omega)]
    have e3 : atR (bl s) j = ((c.toNat : Nat) : Int) := by rw [atR, h1]
    rw [← e3]
    exact hQ _ E.w
  · have e3 : atR (bl s) i = -1 := by rw [atR, List.getElem?_eq_none (by rw [bl_length]; omega)]
    rw [← e3]
    exact hQ _ E.w
theorem refPut_wp {at' v : Int} {c : UInt8} (hv : v = ((c.toNat : Nat) : Int)) (hs : s.size ≤ 100000) {Q : Bool → ByteArray → Heap → Prop} (hQ : ∀ h', Wk B h h' → Q (putF (b, s) at' c).1 (putF (b, s) at' c).2 h') : C_countermandref09_Put B b s at' v h Q := by
  refine C_countermandref09_Put.of ?_
  unfold S_countermandref09_Put
  intro k7 a7 b7 h8 e8 k9 a9 b9 h10 e10
  have E := ((Keep.nil B h).made a7 b7 e8).made a9 b9 e10
  have E : Keep B h [some (k7, frfO (b, s)), some (k9, frfO (false, ByteArray.empty))] h10 := E
  have done : ¬ (0 ≤ at' ∧ at' < 32) → ∃ b45 : Bool, ∃ s46 : ByteArray, CellsAt B h10 ⟨k7, 0, none⟩ 0 [(.bool b45), (.string s46)] ∧ ∃ h47 : Heap, StoresAt ⟨k9, 0, none⟩ h10 0 [(.bool b45), (.string s46)] h47 ∧
      ∃ b48 : Bool, ∃ s49 : ByteArray, CellsAt B h47 ⟨k9, 0, none⟩ 0 [(.bool b48), (.string s49)] ∧ Fin B h47 (Q (b48) s49) := fun hn => by
    unfold putF at hQ
    rw [if_neg hn] at hQ
    refine ⟨b, s, ⟨E.cell 0 rfl (j := 0) rfl, E.cell 0 rfl (j := 1) rfl, trivial⟩, _, stores_whole (E.at 1 rfl) rfl (by simp) (by simp [isOne]) (by simp), ?_⟩
    have E1 := E.put (o' := frfO (b, s)) 1 rfl
    exact ⟨_, _, ⟨E1.cell 1 rfl (j := 0) rfl, E1.cell 1 rfl (j := 1) rfl, trivial⟩, Fin.of (hQ _ E1.w)⟩
  refine ⟨fun hlt => done (by omega), fun hge => ⟨fun h32 => done (by omega), fun hlt => Fin.of ?_⟩⟩
  clear done
  have hin : 0 ≤ at' ∧ at' < 32 := by omega
  obtain ⟨k, rfl⟩ := Int.eq_ofNat_of_zero_le hin.1
  unfold putF at hQ
  rw [if_pos hin, Int.toNat_natCast] at hQ
  unfold S_countermandref09_Put_J1
  have hpl : (putT (bl s) k c).length = max s.size (k + 1) := by rw [putT_len, bl_length]
  refine ⟨fun t ix m h' => ∃ j : Nat, ix = j ∧ m = max s.size (k + 1) - j ∧ j ≤ max s.size (k + 1) ∧ t = ba ((putT (bl s) k c).take j) ∧ Keep B h [some (k7, frfO (b, s)), some (k9, frfO (false, ByteArray.empty))] h', _, Fin.of ⟨0, rfl, rfl, by omega, rfl, E⟩, ?_⟩
  clear E
  rintro _ _ _ h15 ⟨j, rfl, rfl, hj, rfl, E⟩
  have step : j < max s.size (k + 1) → S_countermandref09_Put_J2 B (k : Int) v k7 k9 (ba ((putT (bl s) k c).take j)) (j : Int) (max s.size (k + 1) - j) (fun t ix m h' => ∃ j : Nat, ix = j ∧ m = max s.size (k + 1) - j ∧ j ≤ max s.size (k + 1) ∧ t = ba ((putT (bl s) k c).take j) ∧ Keep B h [some (k7, frfO (b, s)), some (k9, frfO (false, ByteArray.empty))] h') h15 Q := fun hlt => by
    unfold S_countermandref09_Put_J2
    refine ⟨b, s, ⟨E.cell 0 rfl (j := 0) rfl, E.cell 0 rfl (j := 1) rfl, trivial⟩, refAt_wp (by omega) (by omega) fun h24 w => ?_⟩
    have E1 := E.wk w
    have last : ∀ (x : Int) (u : UInt8), x = ((u.toNat : Nat) : Int) → (putT (bl s) k c)[j]? = some u → S_countermandref09_Put_J3 B (k : Int) v k7 k9 (ba ((putT (bl s) k c).take j)) (j : Int) (max s.size (k + 1) - j) (fun t ix m h' => ∃ j : Nat, ix = j ∧ m = max s.size (k + 1) - j ∧ j ≤ max s.size (k + 1) ∧ t = ba ((putT (bl s) k c).take j) ∧ Keep B h [some (k7, frfO (b, s)), some (k9, frfO (false, ByteArray.empty))] h') x h24 Q := fun x u hx hu => by
      unfold S_countermandref09_Put_J3
      intro k29 a29 b29 h30 e30
      have E2 := E1.made a29 b29 e30
      refine one_string (u := u) E2.last ?_ ⟨_, rfl, ?_, Fin.of ⟨max s.size (k + 1) - (j + 1), by omega, j + 1, by rw [w64 (by omega) (by omega)]; omega, rfl, by omega, ?_, E2.take 2⟩⟩
      · rw [wu8, hx]; have := u.toNat_lt; omega
      · rw [ba_size, ba_size, List.length_take]; simp only [List.length_cons, List.length_nil]; omega
      · have e3 : (putT (bl s) k c).take (j + 1) = (putT (bl s) k c).take j ++ [u] := by
          obtain ⟨h5, h6⟩ := List.getElem?_eq_some_iff.1 hu
          rw [List.take_succ_eq_append_getElem h5, h6]
        rw [e3, ba_append]
    have hg := putT_get (l := bl s) (k := k) (i := j) (c := c) (by rw [bl_length]; exact hlt)
    refine ⟨fun he => Fin.of (last _ c (by rw [hv, w64 (by omega) (by have := c.toNat_lt; omega)]) ?_), fun hne => Fin.of (last _ (byteOf (bl s) j) (atR_max _ _) ?_)⟩
    · rw [if_pos (by omega)] at hg; exact hg
    · rw [if_neg (by omega)] at hg; exact hg
  refine ⟨s, E.cell 0 rfl (j := 1) rfl, fun hlt => Fin.of (step (by omega)), fun hge => ⟨fun hle => Fin.of (step (by omega)), fun hgt => ?_⟩⟩
  have : j = max s.size (k + 1) := by omega
  rw [List.take_of_length_le (by rw [hpl]; omega)]
  refine ⟨_, stores_whole (E.at 1 rfl) rfl (by simp) (by simp [isOne]) (by simp), ?_⟩
  have E1 := E.put (o' := frfO (true, ba (putT (bl s) k c))) 1 rfl
  exact ⟨_, _, ⟨E1.cell 1 rfl (j := 0) rfl, E1.cell 1 rfl (j := 1) rfl, trivial⟩, Fin.of (hQ _ E1.w)⟩
theorem refCut_wp {n : Int} (hs : s.size ≤ 100000) {Q : Bool → ByteArray → Heap → Prop} (hQ : ∀ h', Wk B h h' → Q (cutF (b, s) n).1 (cutF (b, s) n).2 h') : C_countermandref09_Cut B b s n h Q := by
  refine C_countermandref09_Cut.of ?_
  unfold S_countermandref09_Cut
  intro k7 a7 b7 h8 e8 k9 a9 b9 h10 e10
  have E := ((Keep.nil B h).made a7 b7 e8).made a9 b9 e10
  have E : Keep B h [some (k7, frfO (b, s)), some (k9, frfO (false, ByteArray.empty))] h10 := E
  have done : ¬ (b = true ∧ 0 ≤ n ∧ n ≤ 32) → ∃ b45 : Bool, ∃ s46 : ByteArray, CellsAt B h10 ⟨k7, 0, none⟩ 0 [(.bool b45), (.string s46)] ∧ ∃ h47 : Heap, StoresAt ⟨k9, 0, none⟩ h10 0 [(.bool b45), (.string s46)] h47 ∧
      ∃ b48 : Bool, ∃ s49 : ByteArray, CellsAt B h47 ⟨k9, 0, none⟩ 0 [(.bool b48), (.string s49)] ∧ Fin B h47 (Q (b48) s49) := fun hn => by
    unfold cutF at hQ
    rw [if_neg hn] at hQ
    refine ⟨b, s, ⟨E.cell 0 rfl (j := 0) rfl, E.cell 0 rfl (j := 1) rfl, trivial⟩, _, stores_whole (E.at 1 rfl) rfl (by simp) (by simp [isOne]) (by simp), ?_⟩
    have E1 := E.put (o' := frfO (b, s)) 1 rfl
    exact ⟨_, _, ⟨E1.cell 1 rfl (j := 0) rfl, E1.cell 1 rfl (j := 1) rfl, trivial⟩, Fin.of (hQ _ E1.w)⟩
  refine ⟨b, E.cell 0 rfl (j := 0) rfl, fun hb => ⟨fun hlt => done (by omega), fun hge => ⟨fun h32 => done (by omega), fun hlt => Fin.of ?_⟩⟩, fun hb => done (by simp [hb])⟩
  clear done
  have hin : b = true ∧ 0 ≤ n ∧ n ≤ 32 := ⟨hb, by omega, by omega⟩
  unfold cutF at hQ
  rw [if_pos hin] at hQ
  obtain ⟨k, rfl⟩ := Int.eq_ofNat_of_zero_le hin.2.1
  rw [Int.toNat_natCast] at hQ
  unfold S_countermandref09_Cut_J1
  refine ⟨fun t ix m h' => ∃ j : Nat, ix = j ∧ m = k - j ∧ j ≤ k ∧ t = ba ((cutT (bl s) k).take j) ∧ Keep B h [some (k7, frfO (b, s)), some (k9, frfO (false, ByteArray.empty))] h', _, Fin.of ⟨0, rfl, rfl, by omega, rfl, E⟩, ?_⟩
  clear E
  rintro _ _ _ h14 ⟨j, rfl, rfl, hj, rfl, E⟩
  refine ⟨fun hlt => ?_, fun hge => ?_⟩
  · refine ⟨b, s, ⟨E.cell 0 rfl (j := 0) rfl, E.cell 0 rfl (j := 1) rfl, trivial⟩, refAt_wp (by omega) (by omega) fun h24 w => ?_⟩
    have E1 := E.wk w
    intro k29 a29 b29 h30 e30
    have E2 := E1.made a29 b29 e30
    have hg := cutT_get (l := bl s) (n := k) (i := j) (by omega)
    rw [atR_max] at E2
    refine one_string (u := byteOf (bl s) j) E2.last ?_ ⟨_, rfl, ?_, Fin.of ⟨k - (j + 1), by omega, j + 1, by rw [w64 (by omega) (by omega)]; omega, rfl, by omega, ?_, E2.take 2⟩⟩
    · rw [wu8]; have := (byteOf (bl s) j).toNat_lt; omega
    · rw [ba_size, ba_size, List.length_take]; simp only [List.length_cons, List.length_nil]; omega
    · have e3 : (cutT (bl s) k).take (j + 1) = (cutT (bl s) k).take j ++ [byteOf (bl s) j] := by
        obtain ⟨h5, h6⟩ := List.getElem?_eq_some_iff.1 hg
        rw [List.take_succ_eq_append_getElem h5, h6]
      rw [e3, ba_append]
  · have : j = k := by omega
    rw [List.take_of_length_le (by rw [cutT_len]; omega)]
    refine ⟨_, stores_whole (E.at 1 rfl) rfl (by simp) (by simp [isOne]) (by simp), ?_⟩
    have E1 := E.put (o' := frfO (true, ba (cutT (bl s) k))) 1 rfl
    exact ⟨_, _, ⟨E1.cell 1 rfl (j := 0) rfl, E1.cell 1 rfl (j := 1) rfl, trivial⟩, Fin.of (hQ _ E1.w)⟩
end
end Go.Proofs.Ytcncdfmnpmmikaa.H
namespace Go.Proofs.Ytcncdfmnpmmikaa.H
open Go Go.RowKit
set_option linter.unusedVariables false
set_option maxRecDepth 100000
def inR (n : Int) : Bool := decide (0 ≤ n ∧ n < 6)
theorem inR_t {n : Int} (h : inR n = true) : 0 ≤ n ∧ n < 6 := of_decide_eq_true h
theorem inR_f {n : Int} (h : inR n = false) : ¬ (0 ≤ n ∧ n < 6) := of_decide_eq_false h
def upS (l : FL) (d : DFL) (n : Int) (f : FileS) : DFL := if inR n = true then putS l d n f else d
def f0 : FileS := (false, ByteArray.empty)
structure SOk (l : FL) (d : DFL) : Prop where
  s : SortD d
  k : ∀ x ∈ d, (0 ≤ x.1 ∧ x.1 < 6) ∧ goodF x.2.1 x.2.2 = true
  l6 : l.length = 6
  g : ∀ y ∈ l, goodF y.1.1 y.1.2 = true
theorem sort_len6 : ∀ (d : DFL) (a : Nat), SortD d → (∀ x ∈ d, (a : Int) ≤ x.1 ∧ x.1 < 6) → d.length ≤ 6 - a := by
  intro d
  induction d with
  | nil => intro a _ _; simp
  | cons x d ih =>
    intro a s h
    obtain ⟨h1, h2⟩ := h x (by simp)
    obtain ⟨s1, s2⟩ := List.pairwise_cons.1 s
    have := ih (a + 1) s2 (fun y hy => ⟨by have := s1 y hy; omega, (h y (by simp [hy])).2⟩)
    simp only [List.length_cons]; omega
theorem SOk.len {l : FL} {d : DFL} (o : SOk l d) : d.length ≤ 6 := sort_len6 d 0 o.s fun x hx => (o.k x hx).1
theorem atD_mem {d : DFL} {n : Int} {f : FileS} (h : atD d n = some f) : ∃ x ∈ d, x.1 = n ∧ x.2 = f := by
  unfold atD at h
  cases hf : d.find? (fun x => x.1 == n) with
  | none => rw [hf] at h; cases h
  | some x =>
    rw [hf] at h
    have h1 := List.find?_some hf
    exact ⟨x, List.mem_of_find?_eq_some hf, by simpa using h1, by simpa using h⟩
theorem SOk.fat {l : FL} {d : DFL} (o : SOk l d) (n : Int) : goodF (fileAt l n).1.1 (fileAt l n).1.2 = true := by
  by_cases h : 0 ≤ n ∧ n < (l.length : Int)
  · rw [fileAt_in h.1 (by omega)]; exact o.g _ (List.getElem_mem _)
  · rw [fileAt_out h]; rfl
theorem SOk.good {l : FL} {d : DFL} (o : SOk l d) (n : Int) : goodF (getS l d n).1.1 (getS l d n).1.2 = true := by
  cases h : atD d n with
  | none => rw [getS_none h]; exact o.fat n
  | some f =>
    rw [getS_some h]
    obtain ⟨x, hx, _, rfl⟩ := atD_mem h
    exact (o.k x hx).2
theorem goodF_size {b : Bool} {s : ByteArray} (h : goodF b s = true) : s.size ≤ 32 := by unfold goodF at h; simp at h; exact h.1
theorem goodF_put {f : FileS} (h : goodF f.1 f.2 = true) (n : Int) (c : UInt8) : goodF (putF f n c).1 (putF f n c).2 = true := by
  unfold putF
  split
  · rename_i hn
    have := goodF_size h
    unfold goodF
    rw [ba_size, putT_len, bl_length, decide_eq_true (by omega)]; rfl
  · exact h
theorem goodF_cut {f : FileS} (h : goodF f.1 f.2 = true) (n : Int) : goodF (cutF f n).1 (cutF f n).2 = true := by
  unfold cutF
  split
  · rename_i hn
    unfold goodF
    rw [ba_size, cutT_len, decide_eq_true (by omega)]; rfl
  · exact h
theorem goodF_make {f : FileS} (h : goodF f.1 f.2 = true) : goodF true f.2 = true := by
  have := goodF_size h
  unfold goodF; rw [decide_eq_true this]; rfl
theorem SOk.up {l : FL} {d : DFL} (o : SOk l d) {n : Int} {f : FileS} (g : goodF f.1 f.2 = true) : SOk l (upS l d n f) := by
  unfold upS putS
  split
  · rename_i hn
    have hn := inR_t hn
    split
    · exact o
    · refine ⟨o.s.ins, fun x hx => ?_, o.l6, o.g⟩
      rcases insD_mem hx with rfl | hx
      · exact ⟨hn, g⟩
      · exact o.k x hx
  · exact o
def renS (l : FL) (d : DFL) (a b : Int) : DFL := if (inR a && inR b && (getS l d a).1.1 && decide (a ≠ b)) = true then putS l (putS l d b (getS l d a).1) a f0 else d
theorem SOk.ren {l : FL} {d : DFL} (o : SOk l d) (a b : Int) : SOk l (renS l d a b) := by
  unfold renS
  split
  · rename_i h
    simp only [Bool.and_eq_true] at h
    have h1 := o.up (n := b) (o.good a)
    have h2 := h1.up (n := a) (f := f0) rfl
    unfold upS at h1 h2
    rw [if_pos h.1.1.2] at h1 h2
    rw [if_pos h.1.1.1] at h2
    exact h2
  · exact o
section
variable {B : RO} {h0 h h' : Heap} {L : List (Option (Nat × AObj))} {r rd : Option (Nat × AObj)} {v vd : Value} {l z : FL} {d : DFL} {n : Int} {x : ShI} {f : FileS}
theorem Keep.nP {M : List (Option (Nat × AObj))} {k : Nat} {o : AObj} (E : Keep B h0 (L ++ M) h) (hk : h k = none) (hb : B k = none) (e : h' = h.set k o) : Keep B h0 ((L ++ [some (k, o)]) ++ M) h' := by
  refine (E.made hk hb e).remap (fun j => if j < L.length then j else if j = L.length then L.length + M.length else j - 1) (fun j y hy => ?_) (fun i j hi hj e => ?_)
  · by_cases h1 : j < L.length
    · simp only [if_pos h1]
      rw [List.append_assoc, List.getElem?_append_left h1] at hy
      rw [List.append_assoc, List.getElem?_append_left h1]; exact hy
    · simp only [if_neg h1]
      by_cases h2 : j = L.length
      · simp only [if_pos h2]
        subst h2
        rw [List.append_assoc, List.getElem?_append_right (Nat.le_refl _), Nat.sub_self] at hy
        rw [List.getElem?_append_right (by rw [List.length_append]; omega), List.length_append, Nat.sub_self]; exact hy
      · simp only [if_neg h2]
        rw [List.append_assoc, List.getElem?_append_right (by omega), List.getElem?_append_right (by simp only [List.length_cons, List.length_nil]; omega)] at hy
        refine up_app _ ?_
        rw [List.getElem?_append_right (by omega), show j - 1 - L.length = j - L.length - [some (k, o)].length by simp only [List.length_cons, List.length_nil]; omega]; exact hy
  · simp only [List.length_append, List.length_cons, List.length_nil] at hi hj
    split at e <;> split at e <;> (try split at e) <;> (try split at e) <;> omega
theorem Keep.dP {M : List (Option (Nat × AObj))} {y : Option (Nat × AObj)} (E : Keep B h0 ((L ++ [y]) ++ M) h) : Keep B h0 (L ++ M) h := by
  rw [List.append_assoc] at E; exact E.dropMid
theorem sputG_wp {Q : Bool → Heap → Prop} (E : Keep B h0 (L ++ x.m vd rd) h) (R : FRow x.rt x.vt l) (Rd : DRow_file_File rd vd d) (o : SOk l d)
    (hQ : ∀ vd' rd' h', DRow_file_File rd' vd' (upS l d n f) → Keep B h0 (L ++ x.m vd' rd') h' → Q (inR n) h') : C_sheet_Sheet_put B (some ⟨x.ks, 0, none⟩) (some ⟨x.kT, 0, none⟩) n f.1 f.2 h Q := by
  have hl := o.len
  by_cases hn : inR n = true
  · unfold upS at hQ
    rw [hn, if_pos rfl] at hQ
    exact sput_wp (f := f) E R Rd o.s (by omega) (inR_t hn) hQ
  · have hn : inR n = false := by simpa using hn
    have hn' := inR_f hn
    unfold upS at hQ
    rw [hn, if_neg (by decide)] at hQ
    refine C_sheet_Sheet_put.of ?_
    unfold S_sheet_Sheet_put
    intro k7 a7 b7 h8 e8
    have E1 := (E.made a7 b7 e8).pop
    exact ⟨fun e => (by cases e), fun _ => ⟨fun hlt => Fin.of (hQ _ _ _ Rd E1), fun hge => ⟨fun h6 => Fin.of (hQ _ _ _ Rd E1), fun hlt => by omega⟩⟩⟩
theorem swrite_wp {a : Int} {w : Int} {c : UInt8} (hw : w = ((c.toNat : Nat) : Int)) {Q : Bool → Heap → Prop} (E : Keep B h0 (L ++ x.m vd rd) h) (R : FRow x.rt x.vt l) (Rd : DRow_file_File rd vd d) (o : SOk l d)
    (hQ : ∀ vd' rd' h', DRow_file_File rd' vd' (upS l d n (putF (getS l d n).1 a c)) → Keep B h0 (L ++ x.m vd' rd') h' → Q (inR n) h') : C_sheet_Sheet_Write B (some ⟨x.ks, 0, none⟩) (some ⟨x.kT, 0, none⟩) n a w h Q := by
  have hl := o.len
  refine C_sheet_Sheet_Write.of ?_
  unfold S_sheet_Sheet_Write
  refine sget_wp E R Rd o.s (by omega) fun h6 E1 => ?_
  intro k10 a10 b10 h11 e11
  have E2 := E1.nM a10 b10 e11
  refine ⟨_, stores_whole (E2.gM 6 rfl) rfl (by simp) (by simp [isOne]) (by simp), ?_⟩
  have E3 := E2.pM (o' := fO (getS l d n).1) 6 rfl
  refine ⟨_, _, ⟨E3.cM 6 rfl (i := 0) rfl, E3.cM 6 rfl (i := 1) rfl, trivial⟩, fput_wp hw (by have := goodF_size (o.good n); omega) fun h14 wk => ?_⟩
  have E4 := (E3.wk wk).tM 6
  exact sputG_wp (f := putF (getS l d n).1 a c) E4 R Rd o fun v1 r1 h17 R1 E5 => Fin.of (hQ v1 r1 _ R1 E5)
theorem scut_wp {a : Int} {Q : Bool → Heap → Prop} (E : Keep B h0 (L ++ x.m vd rd) h) (R : FRow x.rt x.vt l) (Rd : DRow_file_File rd vd d) (o : SOk l d)
    (hQ : ∀ vd' rd' h', DRow_file_File rd' vd' (upS l d n (cutF (getS l d n).1 a)) → Keep B h0 (L ++ x.m vd' rd') h' → Q (inR n) h') : C_sheet_Sheet_Cut B (some ⟨x.ks, 0, none⟩) (some ⟨x.kT, 0, none⟩) n a h Q := by
  have hl := o.len
  refine C_sheet_Sheet_Cut.of ?_
  unfold S_sheet_Sheet_Cut
  refine sget_wp E R Rd o.s (by omega) fun h6 E1 => ?_
  intro k10 a10 b10 h11 e11
  have E2 := E1.nM a10 b10 e11
  refine ⟨_, stores_whole (E2.gM 6 rfl) rfl (by simp) (by simp [isOne]) (by simp), ?_⟩
  have E3 := E2.pM (o' := fO (getS l d n).1) 6 rfl
  refine ⟨_, _, ⟨E3.cM 6 rfl (i := 0) rfl, E3.cM 6 rfl (i := 1) rfl, trivial⟩, fcut_wp (by have := goodF_size (o.good n); omega) fun h14 wk => ?_⟩
  have E4 := (E3.wk wk).tM 6
  exact sputG_wp (f := cutF (getS l d n).1 a) E4 R Rd o fun v1 r1 h17 R1 E5 => Fin.of (hQ v1 r1 _ R1 E5)
theorem screateG_wp {Q : Bool → Heap → Prop} (E : Keep B h0 (L ++ x.m vd rd) h) (R : FRow x.rt x.vt l) (Rd : DRow_file_File rd vd d) (o : SOk l d)
    (hQ : ∀ vd' rd' h', DRow_file_File rd' vd' (upS l d n (true, (getS l d n).1.2)) → Keep B h0 (L ++ x.m vd' rd') h' → Q (inR n) h') : C_sheet_Sheet_Create B (some ⟨x.ks, 0, none⟩) (some ⟨x.kT, 0, none⟩) n h Q := by
  have hl := o.len
  refine C_sheet_Sheet_Create.of ?_
  unfold S_sheet_Sheet_Create
  refine sget_wp E R Rd o.s (by omega) fun h5 E1 => ?_
  intro k9 a9 b9 h10 e10
  have E2 := E1.nM a9 b9 e10
  refine ⟨_, stores_whole (E2.gM 6 rfl) rfl (by simp) (by simp [isOne]) (by simp), ?_⟩
  have E3 := E2.pM (o' := fO (getS l d n).1) 6 rfl
  refine ⟨_, _, ⟨E3.cM 6 rfl (i := 0) rfl, E3.cM 6 rfl (i := 1) rfl, trivial⟩, make_wp fun h14 w => ?_⟩
  have E4 := (E3.wk w).tM 6
  exact sputG_wp (f := (true, (getS l d n).1.2)) E4 R Rd o fun v1 r1 h17 R1 E5 => Fin.of (hQ v1 r1 _ R1 E5)
theorem sremove_wp {Q : Bool → Heap → Prop} (E : Keep B h0 (L ++ x.m vd rd) h) (R : FRow x.rt x.vt l) (Rd : DRow_file_File rd vd d) (o : SOk l d)
    (hQ : ∀ vd' rd' h', DRow_file_File rd' vd' (upS l d n f0) → Keep B h0 (L ++ x.m vd' rd') h' → Q (inR n) h') : C_sheet_Sheet_Remove B (some ⟨x.ks, 0, none⟩) (some ⟨x.kT, 0, none⟩) n h Q := by
  refine C_sheet_Sheet_Remove.of ?_
  unfold S_sheet_Sheet_Remove
  exact sputG_wp (f := f0) E R Rd o fun v1 r1 h17 R1 E5 => Fin.of (hQ v1 r1 _ R1 E5)
theorem srenameG_wp {a b : Int} {Q : Bool → Heap → Prop} (E : Keep B h0 (L ++ x.m vd rd) h) (R : FRow x.rt x.vt l) (Rd : DRow_file_File rd vd d) (o : SOk l d)
    (hQ : ∀ vd' rd' h', DRow_file_File rd' vd' (renS l d a b) → Keep B h0 (L ++ x.m vd' rd') h' → Q (inR a && inR b) h') : C_sheet_Sheet_Rename B (some ⟨x.ks, 0, none⟩) (some ⟨x.kT, 0, none⟩) a b h Q := by
  have hl := o.len
  refine C_sheet_Sheet_Rename.of ?_
  unfold S_sheet_Sheet_Rename
  refine sget_wp E R Rd o.s (by omega) fun h6 E1 => ?_
  intro k10 a10 b10 h11 e11
  have E2 := E1.nM a10 b10 e11
  refine ⟨_, stores_whole (E2.gM 6 rfl) rfl (by simp) (by simp [isOne]) (by simp), fun e => (by cases e), fun _ => ?_⟩
  have E3 := E2.pM (o' := fO (getS l d a).1) 6 rfl
  have out : (inR a && inR b) = false → S_sheet_Sheet_Rename_J2 B (some ⟨x.ks, 0, none⟩) (some ⟨x.kT, 0, none⟩) a b k10 true (h11.set k10 (fO (getS l d a).1)) Q := fun hn => by
    unfold S_sheet_Sheet_Rename_J2
    have hd : renS l d a b = d := by unfold renS; rw [if_neg (by rw [hn]; simp)]
    rw [hd, hn] at hQ
    exact ⟨fun _ => Fin.of (hQ _ _ _ Rd (E3.tM 6)), fun e => by cases e⟩
  have nota : ¬ (0 ≤ a ∧ a < 6) → (inR a && inR b) = false := fun hn => by unfold inR; rw [decide_eq_false hn]; rfl
  have notb : ¬ (0 ≤ b ∧ b < 6) → (inR a && inR b) = false := fun hn => by unfold inR; rw [decide_eq_false hn (p := 0 ≤ b ∧ b < 6), Bool.and_false]
  refine ⟨fun hn => Fin.of (out (nota (by omega))), fun h1 => ⟨fun hn => Fin.of (out (nota (by omega))), fun h2 => ⟨fun hn => Fin.of (out (notb (by omega))), fun h3 => ⟨fun hn => Fin.of (out (notb (by omega))), fun h4 => Fin.of ?_⟩⟩⟩⟩
  have ha : inR a = true := decide_eq_true (by omega)
  have hb : inR b = true := decide_eq_true (by omega)
  rw [ha, hb] at hQ
  clear out nota notb
  unfold S_sheet_Sheet_Rename_J2
  refine ⟨fun e => (by cases e), fun _ => ⟨_, E3.cM 6 rfl (i := 0) rfl, fun hi => ⟨fun e => Fin.of ?_, fun hne => Fin.of ?_⟩, fun hi => Fin.of ?_⟩⟩
  · have hd : renS l d a b = d := by unfold renS; rw [if_neg (by simp [e])]
    rw [hd] at hQ
    exact hQ _ _ _ Rd (E3.tM 6)
  · have hd : renS l d a b = upS l (upS l d b (getS l d a).1) a f0 := by unfold renS upS; rw [ha, hb, hi]; simp [hne]
    rw [hd] at hQ
    unfold S_sheet_Sheet_Rename_J1
    refine ⟨_, _, ⟨E3.cM 6 rfl (i := 0) rfl, E3.cM 6 rfl (i := 1) rfl, trivial⟩, ?_⟩
    refine sputG_wp (f := (getS l d a).1) (E3.tM 6) R Rd o fun v1 r1 h17 R1 E5 => ?_
    exact sputG_wp (f := f0) E5 R R1 (o.up (o.good a)) fun v2 r2 h19 R2 E6 => Fin.of (by rw [ha] at *; exact hQ v2 r2 _ R2 E6)
  · have hd : renS l d a b = d := by unfold renS; rw [if_neg (by rw [hi]; simp)]
    rw [hd] at hQ
    exact hQ _ _ _ Rd (E3.tM 6)
end
end Go.Proofs.Ytcncdfmnpmmikaa.H
namespace Go.Proofs.Ytcncdfmnpmmikaa.H
open Go Go.RowKit
set_option linter.unusedVariables false
set_option maxRecDepth 100000
def fcl (f : FileS) : List Value := [.bool f.1, .string f.2]
theorem fcl_len (f : FileS) : (fcl f).length = 2 := rfl
def wcl (b : Bool) : List Value := [.bool b]
theorem wcl_len (b : Bool) : (wcl b).length = 1 := rfl
def fsOf (l : FL) (d : DFL) : List FileS := (List.range 6).map fun i => (getS l d (i : Nat)).1
def wsOf (l : FL) (d : DFL) : List Bool := (List.range 6).map fun i => (getS l d (i : Nat)).2
theorem fsOf_len (l : FL) (d : DFL) : (fsOf l d).length = 6 := by simp [fsOf]
theorem wsOf_len (l : FL) (d : DFL) : (wsOf l d).length = 6 := by simp [wsOf]
theorem fsOf_get {l : FL} {d : DFL} {n : Nat} (h : n < 6) : (fsOf l d)[n]? = some (getS l d n).1 := by
  unfold fsOf; rw [List.getElem?_map, List.getElem?_range h]; rfl
theorem wsOf_get {l : FL} {d : DFL} {n : Nat} (h : n < 6) : (wsOf l d)[n]? = some (getS l d n).2 := by
  unfold wsOf; rw [List.getElem?_map, List.getElem?_range h]; rfl
theorem fsOf_ins {l : FL} {d : DFL} {n : Nat} {f : FileS} (h : n < 6) : fsOf l (insD d n f) = (fsOf l d).set n f := by
  apply List.ext_getElem?
  intro i
  by_cases hi : i < 6
  · rw [fsOf_get hi, getS_ins]
    by_cases e : i = n
    · subst e; rw [if_pos rfl, List.getElem?_set_self (by rw [fsOf_len]; exact h)]
    · rw [if_neg (by omega), List.getElem?_set_ne (fun x => e x.symm), fsOf_get hi]
  · rw [List.getElem?_eq_none (by rw [fsOf_len]; omega), List.getElem?_eq_none (by rw [List.length_set, fsOf_len]; omega)]
theorem wsOf_ins {l : FL} {d : DFL} {n : Nat} {f : FileS} (h : n < 6) : wsOf l (insD d n f) = (wsOf l d).set n true := by
  apply List.ext_getElem?
  intro i
  by_cases hi : i < 6
  · rw [wsOf_get hi, getS_ins]
    by_cases e : i = n
    · subst e; rw [if_pos rfl, List.getElem?_set_self (by rw [wsOf_len]; exact h)]
    · rw [if_neg (by omega), List.getElem?_set_ne (fun x => e x.symm), wsOf_get hi]
  · rw [List.getElem?_eq_none (by rw [wsOf_len]; omega), List.getElem?_eq_none (by rw [List.length_set, wsOf_len]; omega)]
def docC (l : FL) (fs : List FileS) (ws : List Bool) : List Value := filesC l ++ fs.flatMap fcl ++ ws.flatMap wcl
def docO (l : FL) (d : DFL) : AObj := .vec TY.countermandref14_Sheet (plains (docC l (fsOf l d) (wsOf l d))) 30
section
variable {B : RO} {h0 h h' : Heap} {L : List (Option (Nat × AObj))} {l : FL} {d : DFL} {q kd : Nat} {n : Nat} {f : FileS}
theorem Keep.mid {α : Type} {cells : α → List Value} {c k nn i o : Nat} {t : TypeId} {pre post : List Value} {xs : List α} {x : α} (E : Keep B h0 L h) (hc : ∀ x, (cells x).length = c) (hq : L[q]? = some (some (k, .vec t (plains (pre ++ xs.flatMap cells ++ post)) nn))) (hx : xs[i]? = some x) (ho : o = pre.length + i * c) :
    CellsAt B h ⟨k, o, none⟩ 0 (cells x) := by
  subst ho
  refine CellsAt.of_vec _ 0 (E.at q hq) fun j y hy => ?_
  have hj := (List.getElem?_eq_some_iff.1 hy).1
  have hi := (List.getElem?_eq_some_iff.1 hx).1
  rw [hc] at hj
  have h1 := flatMap_at hc xs i x j y hx hy
  have h2 := (List.getElem?_eq_some_iff.1 h1).1
  rw [Nat.add_zero]
  refine plains_get_some ?_
  rw [List.getElem?_append_left (by rw [List.length_append]; omega), List.getElem?_append_right (by omega), show pre.length + i * c + j - pre.length = i * c + j by omega]; exact h1
theorem Keep.midSet {α : Type} {cells : α → List Value} {c k nn i o : Nat} {t : TypeId} {pre post : List Value} {xs : List α} (x : α) (E : Keep B h0 L h) (hc : ∀ x, (cells x).length = c) (hone : ∀ y ∈ cells x, isOne y = true) (hq : L[q]? = some (some (k, .vec t (plains (pre ++ xs.flatMap cells ++ post)) nn))) (hi : i < xs.length) (ho : o = pre.length + i * c) (hn : pre.length + xs.length * c ≤ nn) :
    ∃ h', StoresAt ⟨k, o, none⟩ h 0 (cells x) h' ∧ Keep B h0 (L.set q (some (k, .vec t (plains (pre ++ (xs.set i x).flatMap cells ++ post)) nn))) h' := by
  subst ho
  have h1 : i * c + c ≤ xs.length * c := by
    have : (i + 1) * c ≤ xs.length * c := Nat.mul_le_mul_right _ hi
    rw [Nat.add_mul, Nat.one_mul] at this; exact this
  have e1 : pre ++ xs.flatMap cells ++ post = (pre ++ (xs.take i).flatMap cells) ++ (cells xs[i] ++ ((xs.drop (i + 1)).flatMap cells ++ post)) := by
    rw [flatMap_splitR xs i hi]; simp only [List.append_assoc]
  have l1 : (pre ++ (xs.take i).flatMap cells).length = pre.length + i * c := by
    rw [List.length_append, flatMap_length hc, List.length_take, Nat.min_eq_left (by omega)]
  rw [e1] at hq
  obtain ⟨h', s1, E1⟩ := E.storesV q hq (cells x) hone _ l1 (by rw [hc]; omega)
  refine ⟨h', s1, ?_⟩
  have e2 : (cells xs[i] ++ ((xs.drop (i + 1)).flatMap cells ++ post)).drop (cells x).length = (xs.drop (i + 1)).flatMap cells ++ post := by
    rw [hc, ← hc xs[i], List.drop_left]
  rw [e2] at E1
  rw [flatMap_setR x xs i hi]
  simp only [List.append_assoc] at E1 ⊢
  exact E1
theorem doc_file (E : Keep B h0 L h) (h6 : l.length = 6) (hq : L[q]? = some (some (kd, docO l d))) (hn : n < 6) : CellsAt B h (Addr.add (Addr.add ⟨kd, 0, none⟩ 12) (n * 2)) 0 [.bool (getS l d n).1.1, .string (getS l d n).1.2] := by
  rw [addr_more, addr_more, Nat.zero_add]
  exact E.mid (cells := fcl) fcl_len hq (fsOf_get hn) (by rw [filesC_len]; omega)
theorem doc_wr (E : Keep B h0 L h) (h6 : l.length = 6) (hq : L[q]? = some (some (kd, docO l d))) (hn : n < 6) : cellH B h (Addr.add (Addr.add ⟨kd, 0, none⟩ 24) (n * 1)) = some (.bool (getS l d n).2) := by
  rw [addr_more, addr_more, Nat.zero_add]
  have hq' : L[q]? = some (some (kd, .vec TY.countermandref14_Sheet (plains ((filesC l ++ (fsOf l d).flatMap fcl) ++ (wsOf l d).flatMap wcl ++ [])) 30)) := by
    rw [List.append_nil]; exact hq
  have := E.mid (cells := wcl) wcl_len hq' (wsOf_get hn) (o := 24 + n * 1) (by rw [List.length_append, filesC_len, flatMap_length fcl_len, fsOf_len]; omega)
  exact this.1
theorem refput_wp {Q : Heap → Prop} (E : Keep B h0 L h) (h6 : l.length = 6) (hq : L[q]? = some (some (kd, docO l d))) (hn : n < 6)
    (hQ : ∀ h', Keep B h0 (L.set q (some (kd, docO l (putS l d n f)))) h' → Q h') : C_countermandref14_Sheet_put B (some ⟨kd, 0, none⟩) (n : Int) f.1 f.2 h Q := by
  refine C_countermandref14_Sheet_put.of ?_
  unfold S_countermandref14_Sheet_put
  intro k5 a5 b5 h6' e6
  have E1 := E.made (o := frfO f) a5 b5 e6
  have hl := (List.getElem?_eq_some_iff.1 hq).1
  rw [Int.toNat_natCast]
  refine ⟨_, rfl, by omega, by omega, _, _, doc_file E1 h6 (up_app _ hq) hn, _, _, ⟨cellH_vec E1.last rfl, cellH_vec E1.last rfl, trivial⟩, fun he => ?_, fun hne => ?_⟩
  · have hf : (getS l d n).1 = f := eqL_file_eq he
    unfold putS at hQ
    rw [if_pos hf] at hQ
    refine Fin.of (hQ _ ?_)
    obtain ⟨_, hq2⟩ := List.getElem?_eq_some_iff.1 hq
    rw [← hq2, List.set_getElem_self]; exact E1.pop
  · have hf : ¬ (getS l d n).1 = f := fun e => hne (by rw [← e]; exact eqL_refl _ _)
    unfold putS at hQ
    rw [if_neg hf] at hQ
    refine ⟨_, _, ⟨cellH_vec E1.last rfl, cellH_vec E1.last rfl, trivial⟩, _, rfl, by omega, by omega, ?_⟩
    rw [addr_more, addr_more, Nat.zero_add]
    obtain ⟨h18, st, E2⟩ := E1.midSet (cells := fcl) f fcl_len (by simp [fcl, isOne]) (up_app _ hq) (i := n) (o := 12 + n * 2) (by rw [fsOf_len]; exact hn) (by rw [filesC_len]; omega) (by rw [filesC_len, fsOf_len]; omega)
    rw [List.set_append_left _ _ hl] at E2
    refine ⟨h18, st, _, rfl, by omega, by omega, ?_⟩
    rw [addr_more, addr_more, Nat.zero_add]
    have hq2 : (L.set q (some (kd, .vec TY.countermandref14_Sheet (plains (filesC l ++ ((fsOf l d).set n f).flatMap fcl ++ (wsOf l d).flatMap wcl)) 30)) ++ [some (k5, frfO f)])[q]? = some (some (kd, .vec TY.countermandref14_Sheet (plains ((filesC l ++ ((fsOf l d).set n f).flatMap fcl) ++ (wsOf l d).flatMap wcl ++ [])) 30)) := by
      rw [List.append_nil]; exact up_app _ (List.getElem?_set_self hl)
    obtain ⟨h21, st2, E3⟩ := E2.midSet (cells := wcl) true wcl_len (by simp [wcl, isOne]) hq2 (i := n) (o := 24 + n * 1) (by rw [wsOf_len]; exact hn) (by rw [List.length_append, filesC_len, flatMap_length fcl_len, List.length_set, fsOf_len]; omega) (by rw [List.length_append, filesC_len, flatMap_length fcl_len, List.length_set, fsOf_len, wsOf_len]; omega)
    rw [List.set_append_left _ _ (by rw [List.length_set]; exact hl), List.set_set, List.append_nil, ← fsOf_ins hn, ← wsOf_ins hn] at E3
    obtain ⟨_, w, e1, e2⟩ := st2
    obtain rfl : h21 = w := e2
    exact ⟨h21, e1, Fin.of (hQ _ E3.pop)⟩
theorem is14' {n : Int} {Q : Bool → Heap → Prop} (hQ : Q (inR n) h) : C_countermandref14_Is B n h Q := is14_wp (by
  have : decide (0 ≤ n ∧ n ≤ 5) = inR n := by unfold inR; simp only [decide_eq_decide]; omega
  rw [this]; exact hQ)
theorem set_same {q : Nat} (hq : L[q]? = some (some (kd, docO l d))) : L.set q (some (kd, docO l d)) = L := by
  obtain ⟨_, h2⟩ := List.getElem?_eq_some_iff.1 hq
  rw [← h2, List.set_getElem_self]
theorem refG {n : Int} {f : FileS} {Q : Bool → Heap → Prop} (E : Keep B h0 L h) (h6 : l.length = 6) (hq : L[q]? = some (some (kd, docO l d))) (hn : inR n = true)
    (hQ : ∀ h', Keep B h0 (L.set q (some (kd, docO l (upS l d n f)))) h' → Q (inR n) h') : C_countermandref14_Sheet_put B (some ⟨kd, 0, none⟩) n f.1 f.2 h (fun h17 => C_countermandref14_Is B n h17 (fun b19 h18 => Fin B h18 (Q b19))) := by
  have hn' := inR_t hn
  obtain ⟨k, rfl⟩ := Int.eq_ofNat_of_zero_le hn'.1
  unfold upS at hQ
  rw [if_pos hn] at hQ
  exact refput_wp E h6 hq (by omega) fun h1 E1 => is14' (Fin.of (hQ _ E1))
theorem rwrite_wp {n a w : Int} {c : UInt8} (hw : w = ((c.toNat : Nat) : Int)) {Q : Bool → Heap → Prop} (E : Keep B h0 L h) (o : SOk l d) (hq : L[q]? = some (some (kd, docO l d)))
    (hQ : ∀ h', Keep B h0 (L.set q (some (kd, docO l (upS l d n (putF (getS l d n).1 a c))))) h' → Q (inR n) h') : C_countermandref14_Sheet_Write B (some ⟨kd, 0, none⟩) n a w h Q := by
  refine C_countermandref14_Sheet_Write.of ?_
  unfold S_countermandref14_Sheet_Write
  refine is14' ⟨fun hn => ?_, fun hn => is14' (Fin.of ?_)⟩
  · have hn' := inR_t hn
    obtain ⟨k, rfl⟩ := Int.eq_ofNat_of_zero_le hn'.1
    refine ⟨_, rfl, by omega, by omega, _, _, by rw [Int.toNat_natCast]; exact doc_file E o.l6 hq (by omega), refPut_wp hw (by have := goodF_size (o.good k); omega) fun h1 wk => ?_⟩
    exact refG (E.wk wk) o.l6 hq hn hQ
  · unfold upS at hQ
    rw [if_neg (by rw [hn]; decide), set_same hq] at hQ
    exact hQ _ E
theorem rcut_wp {n a : Int} {Q : Bool → Heap → Prop} (E : Keep B h0 L h) (o : SOk l d) (hq : L[q]? = some (some (kd, docO l d)))
    (hQ : ∀ h', Keep B h0 (L.set q (some (kd, docO l (upS l d n (cutF (getS l d n).1 a))))) h' → Q (inR n) h') : C_countermandref14_Sheet_Cut B (some ⟨kd, 0, none⟩) n a h Q := by
  refine C_countermandref14_Sheet_Cut.of ?_
  unfold S_countermandref14_Sheet_Cut
  refine is14' ⟨fun hn => ?_, fun hn => is14' (Fin.of ?_)⟩
  · have hn' := inR_t hn
    obtain ⟨k, rfl⟩ := Int.eq_ofNat_of_zero_le hn'.1
    refine ⟨_, rfl, by omega, by omega, _, _, by rw [Int.toNat_natCast]; exact doc_file E o.l6 hq (by omega), refCut_wp (by have := goodF_size (o.good k); omega) fun h1 wk => ?_⟩
    exact refG (E.wk wk) o.l6 hq hn hQ
  · unfold upS at hQ
    rw [if_neg (by rw [hn]; decide), set_same hq] at hQ
    exact hQ _ E
theorem rcreate_wp {n : Int} {Q : Bool → Heap → Prop} (E : Keep B h0 L h) (o : SOk l d) (hq : L[q]? = some (some (kd, docO l d)))
    (hQ : ∀ h', Keep B h0 (L.set q (some (kd, docO l (upS l d n (true, (getS l d n).1.2))))) h' → Q (inR n) h') : C_countermandref14_Sheet_Create B (some ⟨kd, 0, none⟩) n h Q := by
  refine C_countermandref14_Sheet_Create.of ?_
  unfold S_countermandref14_Sheet_Create
  refine is14' ⟨fun hn => ?_, fun hn => is14' (Fin.of ?_)⟩
  · have hn' := inR_t hn
    obtain ⟨k, rfl⟩ := Int.eq_ofNat_of_zero_le hn'.1
    have cc := (doc_file E o.l6 hq (n := k) (by omega)).2.1
    refine ⟨_, rfl, by omega, by omega, _, by rw [Int.toNat_natCast]; exact cc, ?_⟩
    exact refG (f := (true, (getS l d k).1.2)) E o.l6 hq hn hQ
  · unfold upS at hQ
    rw [if_neg (by rw [hn]; decide), set_same hq] at hQ
    exact hQ _ E
theorem rremove_wp {n : Int} {Q : Bool → Heap → Prop} (E : Keep B h0 L h) (o : SOk l d) (hq : L[q]? = some (some (kd, docO l d)))
    (hQ : ∀ h', Keep B h0 (L.set q (some (kd, docO l (upS l d n f0)))) h' → Q (inR n) h') : C_countermandref14_Sheet_Remove B (some ⟨kd, 0, none⟩) n h Q := by
  refine C_countermandref14_Sheet_Remove.of ?_
  unfold S_countermandref14_Sheet_Remove
  refine is14' ⟨fun hn => refG (f := f0) E o.l6 hq hn hQ, fun hn => is14' (Fin.of ?_)⟩
  unfold upS at hQ
  rw [if_neg (by rw [hn]; decide), set_same hq] at hQ
  exact hQ _ E
theorem rrename_wp {a b : Int} {Q : Bool → Heap → Prop} (E : Keep B h0 L h) (o : SOk l d) (hq : L[q]? = some (some (kd, docO l d)))
    (hQ : ∀ h', Keep B h0 (L.set q (some (kd, docO l (renS l d a b)))) h' → Q (inR a && inR b) h') : C_countermandref14_Sheet_Rename B (some ⟨kd, 0, none⟩) a b h Q := by
  refine C_countermandref14_Sheet_Rename.of ?_
  unfold S_countermandref14_Sheet_Rename
  have same : renS l d a b = d → Q (inR a && inR b) h := fun e => by rw [e, set_same hq] at hQ; exact hQ _ E
  refine is14' ⟨fun ha => is14' ⟨fun hb => Fin.of ?_, fun hb => Fin.of ?_⟩, fun ha => Fin.of ?_⟩
  · have ha' := inR_t ha
    have hb' := inR_t hb
    have hl := (List.getElem?_eq_some_iff.1 hq).1
    obtain ⟨i, rfl⟩ := Int.eq_ofNat_of_zero_le ha'.1
    obtain ⟨j, rfl⟩ := Int.eq_ofNat_of_zero_le hb'.1
    rw [ha, hb] at hQ same
    have J2 : renS l d i j = d → S_countermandref14_Sheet_Rename_J2 B (some ⟨kd, 0, none⟩) (i : Int) (j : Int) false h Q := fun e => by
      unfold S_countermandref14_Sheet_Rename_J2
      exact ⟨fun e => (by cases e), fun _ => Fin.of (same e)⟩
    unfold S_countermandref14_Sheet_Rename_J1
    have c1 := (doc_file E o.l6 hq (n := i) (by omega)).1
    refine ⟨_, rfl, by omega, by omega, _, by rw [Int.toNat_natCast]; exact c1, fun hi => ⟨fun e => Fin.of (J2 ?_), fun hne => Fin.of ?_⟩, fun hi => Fin.of (J2 ?_)⟩
    · unfold renS; rw [if_neg (by simp [e])]
    · have hd : renS l d i j = putS l (putS l d j (getS l d i).1) i f0 := by unfold renS; rw [ha, hb, hi]; simp [hne]
      rw [hd] at hQ
      unfold S_countermandref14_Sheet_Rename_J2
      refine ⟨fun _ => ⟨_, rfl, by omega, by omega, _, _, by rw [Int.toNat_natCast]; exact doc_file E o.l6 hq (by omega), ?_⟩, fun e => by cases e⟩
      refine refput_wp (f := (getS l d i).1) E o.l6 hq (by omega) fun h14 E1 => ?_
      refine refput_wp (f := f0) E1 o.l6 (List.getElem?_set_self hl) (by omega) fun h15 E2 => Fin.of (hQ _ ?_)
      rw [List.set_set] at E2; exact E2
    · unfold renS; rw [if_neg (by rw [hi]; simp)]
  · rw [ha, hb] at same
    exact same (by unfold renS; rw [if_neg (by rw [hb]; simp)])
  · rw [ha] at same
    exact same (by unfold renS; rw [if_neg (by rw [ha]; simp)])
end
end Go.Proofs.Ytcncdfmnpmmikaa.H
namespace Go.Proofs.Ytcncdfmnpmmikaa.H
open Go Go.RowKit
set_option linter.unusedVariables false
set_option maxRecDepth 100000
structure SCall where
  k : Int
  a : Int
  b : Int
  c : UInt8
def SCall.cells (x : SCall) : List Value := [.int .i64 x.k, .int .i64 x.a, .int .i64 x.b, .int .u8 ((x.c.toNat : Nat) : Int)]
theorem SCall.len (x : SCall) : x.cells.length = 4 := rfl
theorem TK.scalls_sl : PG.underlying TY.s_countermandlaw14_Call = some (.slice TY.countermandlaw14_Call) := by kernel_rfl
theorem TK.scall_kd : leafB PG 5 TY.countermandlaw14_Call = some [.int .i64, .int .i64, .int .i64, .int .u8] := by kernel_rfl
theorem u8_of {z : Int} (h : (Lit.int .u8 z).wf = true) : ∃ c : UInt8, z = ((c.toNat : Nat) : Int) := by
  have h1 : 0 ≤ z ∧ z ≤ 255 := by simpa [Lit.wf, IntKind.min, IntKind.max, IntKind.signed, IntKind.bits] using h
  refine ⟨UInt8.ofNat z.toNat, ?_⟩
  have h2 : z.toNat % 2 ^ 8 = z.toNat := Nat.mod_eq_of_lt (by omega)
  rw [UInt8.toNat_ofNat', h2]; omega
theorem SCall_arg {H : Type} {enc : TypeId × Value → H} {w : World} {base : Nat} {spare : Nat → Bool} {held : Bool} {a : Option Addr} {len cap : Nat} {d : DataW H} {p : List MemPlace} (h : DataW.Trod enc PG w base spare held TY.s_countermandlaw14_Call (.slice a len cap) d p) :
    ∃ l : List SCall, len = l.length ∧ Reads (roOf w) noHeap a 4 SCall.cells l := by
  have key : ∃ l : List SCall, len = l.length ∧ Reads (roOf w) noHeap a 4 SCall.cells l ∧ ∀ x ∈ l, True := arg_rows SCall.cells (fun _ => True) TK.scalls_sl TK.scall_kd rfl (by omega) (fun vs h => by
    obtain ⟨z1, v1, rfl, _, h1⟩ := h.int
    obtain ⟨z2, v2, rfl, _, h2⟩ := h1.int
    obtain ⟨z3, v3, rfl, _, h3⟩ := h2.int
    obtain ⟨z4, v4, rfl, w4, h4⟩ := h3.int
    obtain rfl := h4.nil
    obtain ⟨c, rfl⟩ := u8_of w4
    exact ⟨⟨z1, z2, z3, c⟩, rfl, trivial⟩) h
  obtain ⟨l, h1, h2, _⟩ := key
  exact ⟨l, h1, h2⟩
def opD (l : FL) (d : DFL) (x : SCall) : DFL :=
  if x.k = 0 then upS l d x.a (putF (getS l d x.a).1 x.b x.c)
  else if x.k = 1 then upS l d x.a (cutF (getS l d x.a).1 x.b)
  else if x.k = 2 then upS l d x.a (true, (getS l d x.a).1.2)
  else if x.k = 3 then upS l d x.a f0
  else if x.k = 4 then renS l d x.a x.b
  else d
theorem SOk.op {l : FL} {d : DFL} (o : SOk l d) (x : SCall) : SOk l (opD l d x) := by
  unfold opD
  split
  · exact o.up (goodF_put (o.good x.a) _ _)
  · split
    · exact o.up (goodF_cut (o.good x.a) _)
    · split
      · exact o.up (f := (true, (getS l d x.a).1.2)) (goodF_make (f := (getS l d x.a).1) (o.good x.a))
      · split
        · exact o.up rfl
        · split
          · exact o.ren _ _
          · exact o
def opsD (l : FL) (d : DFL) (xs : List SCall) : DFL := xs.foldl (opD l) d
theorem SOk.ops {l : FL} {d : DFL} (o : SOk l d) : ∀ xs : List SCall, SOk l (opsD l d xs) := by
  intro xs
  induction xs generalizing d with
  | nil => exact o
  | cons x xs ih => exact ih (o.op x)
theorem opsD_take {l : FL} {d : DFL} {xs : List SCall} {j : Nat} {x : SCall} (h : xs[j]? = some x) : opsD l d (xs.take (j + 1)) = opD l (opsD l d (xs.take j)) x := by
  obtain ⟨h1, rfl⟩ := List.getElem?_eq_some_iff.1 h
  rw [List.take_succ_eq_append_getElem h1, opsD, List.foldl_append]; rfl
section
variable {B : RO} {h0 h h' : Heap} {L : List (Option (Nat × AObj))} {r rd : Option (Nat × AObj)} {v vd : Value} {l z : FL} {d : DFL} {n : Int} {x : ShI} {f : FileS} {q kd : Nat}
theorem does14_wp {c : SCall} {Q : Bool → Heap → Prop} (E : Keep B h0 (L ++ x.m vd rd) h) (R : FRow x.rt x.vt l) (Rd : DRow_file_File rd vd d) (o : SOk l d) (hq : L[q]? = some (some (kd, docO l d)))
    (hQ : ∀ vd' rd' h', DRow_file_File rd' vd' (opD l d c) → Keep B h0 (L.set q (some (kd, docO l (opD l d c))) ++ x.m vd' rd') h' → Q true h') :
    C_countermandlaw14_does B (some ⟨x.kT, 0, none⟩) (some ⟨x.ks, 0, none⟩) (some ⟨kd, 0, none⟩) c.k c.a c.b ((c.c.toNat : Nat) : Int) h Q := by
  refine C_countermandlaw14_does.of ?_
  unfold S_countermandlaw14_does
  have hl := (List.getElem?_eq_some_iff.1 hq).1
  intro k9 a9 b9 h10 e10
  have E1 := E.nP (L := L) a9 b9 e10
  have cells : ∀ {vd' : Value} {rd' : Option (Nat × AObj)} {L' : List (Option (Nat × AObj))} {h' : Heap}, L'.length = L.length → Keep B h0 ((L' ++ [some (k9, .vec TY.countermandlaw14_Call (plains c.cells) 4)]) ++ x.m vd' rd') h' →
      cellH B h' ⟨k9, 0, none⟩ = some (.int .i64 c.k) ∧ cellH B h' ⟨k9, 1, none⟩ = some (.int .i64 c.a) ∧ cellH B h' ⟨k9, 2, none⟩ = some (.int .i64 c.b) ∧ cellH B h' ⟨k9, 3, none⟩ = some (.int .u8 ((c.c.toNat : Nat) : Int)) := fun {vd' rd' L' h'} e K => by
    have g := K.at L'.length (k := k9) (o := .vec TY.countermandlaw14_Call (plains c.cells) 4) (up_app _ (by rw [List.getElem?_append_right (Nat.le_refl _), Nat.sub_self]; rfl))
    exact ⟨cellH_vec g rfl, cellH_vec g rfl, cellH_vec g rfl, cellH_vec g rfl⟩
  have hq1 : (L ++ [some (k9, AObj.vec TY.countermandlaw14_Call (plains c.cells) 4)])[q]? = some (some (kd, docO l d)) := up_app _ hq
  have done : ∀ {vd' : Value} {rd' : Option (Nat × AObj)} {h' : Heap} {d' : DFL}, opD l d c = d' → DRow_file_File rd' vd' d' → Keep B h0 (((L ++ [some (k9, AObj.vec TY.countermandlaw14_Call (plains c.cells) 4)]) ++ x.m vd' rd').set q (some (kd, docO l d'))) h' → cellH B h' ⟨k9, 0, none⟩ = some (.int .i64 c.k) ∧ cellH B h' ⟨k9, 1, none⟩ = some (.int .i64 c.a) ∧ cellH B h' ⟨k9, 2, none⟩ = some (.int .i64 c.b) ∧ cellH B h' ⟨k9, 3, none⟩ = some (.int .u8 ((c.c.toNat : Nat) : Int)) ∧ Q true h' := fun {vd' rd' h' d'} e R' K => by
    rw [List.set_append_left _ _ (by rw [List.length_append]; omega), List.set_append_left _ _ hl] at K
    obtain ⟨c1, c2, c3, c4⟩ := cells (by rw [List.length_set]) K
    subst e
    exact ⟨c1, c2, c3, c4, hQ _ _ _ R' K.dP⟩
  obtain ⟨c0, c1, c2, c3⟩ := cells rfl E1
  refine ⟨c.k, c0, fun e0 => ?_, fun n0 => ⟨fun e1 => ?_, fun n1 => ⟨fun e2 => ?_, fun n2 => ⟨fun e3 => ?_, fun n3 => ⟨fun e4 => ?_, fun n4 => Fin.of ?_⟩⟩⟩⟩⟩
  · refine ⟨_, c1, _, c2, _, c3, _, c1, _, c2, _, c3, swrite_wp rfl E1 R Rd o fun v1 r1 h33 R1 E2 => ?_⟩
    obtain ⟨_, d1, d2, d3⟩ := cells rfl E2
    refine ⟨d1, d2, d3, d1, d2, d3, rwrite_wp rfl E2 o (up_app _ hq1) fun h41 E3 => ?_⟩
    obtain ⟨_, g1, g2, g3, hh⟩ := done (by unfold opD; rw [if_pos e0]) R1 E3
    exact ⟨g1, g2, g3, g1, g2, g3, Fin.of (by rw [decide_eq_true rfl]; exact hh)⟩
  · refine ⟨_, c1, _, c2, _, c1, _, c2, scut_wp E1 R Rd o fun v1 r1 h33 R1 E2 => ?_⟩
    obtain ⟨_, d1, d2, d3⟩ := cells rfl E2
    refine ⟨d1, d2, d1, d2, rcut_wp E2 o (up_app _ hq1) fun h41 E3 => ?_⟩
    obtain ⟨_, g1, g2, g3, hh⟩ := done (by unfold opD; rw [if_neg n0, if_pos e1]) R1 E3
    exact ⟨g1, g2, g1, g2, Fin.of (by rw [decide_eq_true rfl]; exact hh)⟩
  · refine ⟨_, c1, _, c1, screateG_wp E1 R Rd o fun v1 r1 h33 R1 E2 => ?_⟩
    obtain ⟨_, d1, d2, d3⟩ := cells rfl E2
    refine ⟨d1, d1, rcreate_wp E2 o (up_app _ hq1) fun h41 E3 => ?_⟩
    obtain ⟨_, g1, g2, g3, hh⟩ := done (by unfold opD; rw [if_neg n0, if_neg n1, if_pos e2]) R1 E3
    exact ⟨g1, g1, Fin.of (by rw [decide_eq_true rfl]; exact hh)⟩
  · refine ⟨_, c1, _, c1, sremove_wp E1 R Rd o fun v1 r1 h33 R1 E2 => ?_⟩
    obtain ⟨_, d1, d2, d3⟩ := cells rfl E2
    refine ⟨d1, d1, rremove_wp E2 o (up_app _ hq1) fun h41 E3 => ?_⟩
    obtain ⟨_, g1, g2, g3, hh⟩ := done (by unfold opD; rw [if_neg n0, if_neg n1, if_neg n2, if_pos e3]) R1 E3
    exact ⟨g1, g1, Fin.of (by rw [decide_eq_true rfl]; exact hh)⟩
  · refine ⟨_, c1, _, c2, _, c1, _, c2, srenameG_wp E1 R Rd o fun v1 r1 h33 R1 E2 => ?_⟩
    obtain ⟨_, d1, d2, d3⟩ := cells rfl E2
    refine ⟨d1, d2, d1, d2, rrename_wp E2 o (up_app _ hq1) fun h41 E3 => ?_⟩
    obtain ⟨_, g1, g2, g3, hh⟩ := done (by unfold opD; rw [if_neg n0, if_neg n1, if_neg n2, if_neg n3, if_pos e4]) R1 E3
    exact ⟨g1, g2, g1, g2, Fin.of (by rw [decide_eq_true rfl]; exact hh)⟩
  · have e : opD l d c = d := by unfold opD; rw [if_neg n0, if_neg n1, if_neg n2, if_neg n3, if_neg n4]
    rw [e, set_same hq] at hQ
    exact hQ _ _ _ Rd E1.dP
def docU (c : FL) : List Value := filesC c ++ filesC c ++ (List.replicate 6 false).flatMap wcl
theorem docU_eq (h6 : z.length = 6) : docU z = docC z (fsOf z []) (wsOf z []) := by
  have e1 : (fsOf z []).flatMap fcl = filesC z := by
    have : fsOf z [] = z.map (·.1) := by
      apply List.ext_getElem?
      intro i
      by_cases hi : i < 6
      · rw [fsOf_get hi, getS_none rfl, fileAt_in (by omega) (by rw [Int.toNat_natCast]; omega), List.getElem?_map, List.getElem?_eq_getElem (by omega)]; rfl
      · rw [List.getElem?_eq_none (by rw [fsOf_len]; omega), List.getElem?_eq_none (by rw [List.length_map]; omega)]
    rw [this, filesC, List.flatMap_map]; rfl
  have e2 : wsOf z [] = List.replicate 6 false := by rfl
  rw [docU, docC, e1, e2]
theorem build2_wp {Q : Option Addr → Option Addr → Option Addr → Bool → Heap → Prop} (E : Keep B h0 L h) (h6 : z.length = 6) (hv : ∀ q x, z[q]? = some x → x.2 = ((q : Nat) : Int)) (hN : ∀ h', Keep B h0 L h' → Q none none none false h')
    (hS : ∀ (x : ShI) kd h', SOk z [] → FRow x.rt x.vt z → Keep B h0 ((L ++ [some (kd, docO z [])]) ++ x.m (.slice none 0 0) none) h' → Q (some ⟨x.kT, 0, none⟩) (some ⟨x.ks, 0, none⟩) (some ⟨kd, 0, none⟩) true h') : C_countermandlaw14_build B (filesC z) h Q := by
  refine C_countermandlaw14_build.of ?_
  unfold S_countermandlaw14_build
  have hzl := filesC_len z
  intro k6 a6 b6 h7 e7
  have E1 := E.start.nM a6 b6 e7
  refine tnew_wp fun kT kR v r h8 R E2 => ?_
  have E3 := E1.append E2
  rw [List.append_assoc] at E3
  intro k10 a10 b10 h11 e11
  have E4 := E3.nM a10 b10 e11
  refine ⟨filesC z, by omega, blk_cells (E4.gM 0 rfl), ?_⟩
  refine ⟨fun ix m h' => ∃ (j : Nat) (r : Option (Nat × AObj)), j ≤ 6 ∧ ix = j ∧ m = 6 - j ∧ (∀ y ∈ z.take j, goodF y.1.1 y.1.2 = true) ∧ FRow r v (z.take j ++ zF.drop j) ∧ Keep B h0 (L ++ [some (kT, tomO kR), some (kR, frO v), r, some (k10, .vec TY.countermandref14_Sheet (plains (docU (z.take j ++ zF.drop j))) 30)]) h', 6, Fin.of ⟨0, r, by omega, rfl, by omega, fun y hy => (by simp at hy), R, E4.sM [1, 2, 3, 4] (by decide)⟩, ?_⟩
  clear E1 E2 E3 E4 e7 e11 R
  rintro _ _ h18 ⟨j, r, hj, rfl, rfl, hgd, R, E⟩
  have hcl : (z.take j ++ zF.drop j).length = 6 := by
    rw [List.length_append, List.length_take, List.length_drop, h6]; show min j 6 + (6 - j) = 6; omega
  refine ⟨fun hlt => ?_, fun hge => Fin.of ?_⟩
  · have hj' : j < z.length := by omega
    have hw : IntKind.wrap .i64 ((j : Int) + 1) = ((j + 1 : Nat) : Int) := by rw [w64 (by omega) (by omega)]; omega
    have hx := List.getElem?_eq_getElem hj'
    have hv0 := hv j _ hx
    generalize z[j] = y at hx hv0
    obtain ⟨⟨fb, fs⟩, fv⟩ := y
    simp only at hv0
    subst hv0
    refine ⟨by omega, by omega, fb, fs, by rw [Int.toNat_natCast]; exact extract_files z j _ hx, fun k26 a26 b26 h27 e27 => ?_⟩
    have E1 := E.nM a26 b26 e27
    refine ⟨_, stores_whole (E1.gM 4 rfl) rfl (by simp) (by simp [isOne]) (by simp), ?_⟩
    have E2 := E1.pM (o' := fO (fb, fs)) 4 rfl
    refine ⟨fb, fs, ⟨E2.cM 4 rfl (i := 0) rfl, E2.cM 4 rfl (i := 1) rfl, trivial⟩, ?_⟩
    refine tset_wp (i := L.length) E2 ⟨upM 0 rfl, ⟨upM 1 rfl, upM 2 rfl⟩⟩ R fun r' h31 R' E3 => ⟨fun hb => ?_, fun hb => ?_⟩
    · rw [setF, if_pos hb, Int.toNat_natCast, cur_set z zF (by rw [h6]; rfl) hx] at R'
      rw [setM] at E3
      refine ⟨fb, fs, ⟨E3.cM 4 rfl (i := 0) rfl, E3.cM 4 rfl (i := 1) rfl, trivial⟩, by omega, by omega, ?_⟩
      rw [Int.toNat_natCast, addr_more, addr_more, Nat.zero_add]
      generalize hcc : z.take j ++ zF.drop j = c at *
      have hc2 : c.set j ((fb, fs), ((j : Nat) : Int)) = z.take (j + 1) ++ zF.drop (j + 1) := by rw [← hcc]; exact cur_set z zF (by rw [h6]; rfl) hx
      have q1 : (L ++ ([some (kT, tomO kR), some (kR, frO v), r, some (k10, AObj.vec TY.countermandref14_Sheet (plains (docU c)) 30), some (k26, fO (fb, fs))].set 2 r'))[L.length + 3]? = some (some (k10, .vec TY.countermandref14_Sheet (plains ([] ++ c.flatMap fileC ++ (filesC c ++ (List.replicate 6 false).flatMap wcl))) 30)) := by
        have : docU c = [] ++ c.flatMap fileC ++ (filesC c ++ (List.replicate 6 false).flatMap wcl) := by unfold docU filesC; rw [List.append_assoc, List.nil_append]
        rw [← this]; exact upM 3 rfl
      obtain ⟨h35, st, E4⟩ := E3.midSet (cells := fileC) ((fb, fs), ((j : Nat) : Int)) fileC_len (by simp [fileC, isOne]) q1 (i := j) (o := j * 2) (by omega) (by simp) (by simp; omega)
      rw [hc2] at E4
      have q2 := q1
      have c1 : CellsAt B h35 ⟨k10, j * 2, none⟩ 0 [.bool fb, .string fs] := by
        refine E4.mid (cells := fileC) (xs := z.take (j + 1) ++ zF.drop (j + 1)) (x := ((fb, fs), ((j : Nat) : Int))) fileC_len (List.getElem?_set_self (by simp)) (i := j) ?_ (by simp)
        rw [← hc2]; exact List.getElem?_set_self (by omega)
      have q3 : ((L ++ ([some (kT, tomO kR), some (kR, frO v), r, some (k10, AObj.vec TY.countermandref14_Sheet (plains (docU c)) 30), some (k26, fO (fb, fs))].set 2 r')).set (L.length + 3) (some (k10, .vec TY.countermandref14_Sheet (plains ([] ++ (z.take (j + 1) ++ zF.drop (j + 1)).flatMap fileC ++ (filesC c ++ (List.replicate 6 false).flatMap wcl))) 30)))[L.length + 3]? = some (some (k10, .vec TY.countermandref14_Sheet (plains (filesC (z.take (j + 1) ++ zF.drop (j + 1)) ++ c.flatMap fileC ++ (List.replicate 6 false).flatMap wcl)) 30)) := by
        rw [List.getElem?_set_self (by simp), List.nil_append, List.append_assoc]; rfl
      have hcl2 : (z.take (j + 1) ++ zF.drop (j + 1)).length = 6 := by rw [← hc2, List.length_set]; exact hcl
      obtain ⟨h38, st2, E5⟩ := E4.midSet (cells := fileC) ((fb, fs), ((j : Nat) : Int)) fileC_len (by simp [fileC, isOne]) q3 (i := j) (o := 12 + j * 2) (by omega) (by rw [filesC_len, hcl2]) (by rw [filesC_len, hcl2, hcl]; omega)
      rw [hc2, List.set_set, setM] at E5
      refine ⟨h35, st, by omega, by omega, fb, fs, c1, by omega, by omega, h38, st2, Fin.of ⟨6 - (j + 1), by omega, j + 1, r', by omega, hw, rfl, fun y hy => ?_, R', ?_⟩⟩
      · rw [List.take_succ_eq_append_getElem hj', List.mem_append, List.mem_singleton] at hy
        rcases hy with hy | rfl
        · exact hgd y hy
        · have hz : z[j] = ((fb, fs), ((j : Nat) : Int)) := by rw [List.getElem?_eq_getElem hj'] at hx; exact Option.some.inj hx
          rw [hz]
          unfold setB at hb
          rw [Bool.and_eq_true] at hb
          exact hb.1
      · exact E5.tM 4
    · rw [setM] at E3
      exact Fin.of (hN _ E3.zM)
  · have : j = 6 := by omega
    subst this
    have e1 : z.take 6 ++ zF.drop 6 = z := by rw [← h6, List.take_length, List.drop_of_length_le (by rw [h6]; exact Nat.le_refl 6), List.append_nil]
    rw [e1] at R E
    rw [docU_eq h6] at E
    have hgd : ∀ y ∈ z, goodF y.1.1 y.1.2 = true := fun y hy => hgd y (by rw [← h6, List.take_length]; exact hy)
    unfold S_countermandlaw14_build_J1
    refine snew_wp fun ks kf h14 E1 => Fin.of (hS ⟨kT, kR, v, r, ks, kf⟩ k10 h14 ⟨List.Pairwise.nil, fun x hx => (by cases hx), h6, hgd⟩ R ?_)
    have E2 := E.append E1
    rw [List.append_assoc] at E2
    rw [List.append_assoc]
    exact E2.sM [3, 0, 1, 2, 4, 5, 6] (by decide)
end
end Go.Proofs.Ytcncdfmnpmmikaa.H
namespace Go.Proofs.Ytcncdfmnpmmikaa.H
open Go Go.RowKit
set_option linter.unusedVariables false
set_option maxRecDepth 100000
theorem atD_cons {x : Int × FileS} {d : DFL} {i : Int} : atD (x :: d) i = if x.1 = i then some x.2 else atD d i := by
  unfold atD
  rw [List.find?_cons]
  by_cases e : x.1 = i
  · simp [e]
  · have : (x.1 == i) = false := by simpa using e
    simp [this, e]
section
variable {B : RO} {h0 h h' : Heap} {L : List (Option (Nat × AObj))} {r rd : Option (Nat × AObj)} {v vd : Value} {l z : FL} {d : DFL} {n ver : Int} {x : ShI} {f : FileS} {q kd c : Nat} {a : Option Addr} {xs : List SCall}
def ShI.w (x : ShI) (r : Option (Nat × AObj)) : ShI := { x with rt := r }
theorem sdraft_wp {Q : Option Addr → Heap → Prop} (E : Keep B h0 (L ++ x.m vd rd) h) (hQ : Q (some ⟨x.kf, 0, none⟩) h) : C_sheet_Sheet_Draft B (some ⟨x.ks, 0, none⟩) h Q := by
  refine C_sheet_Sheet_Draft.of ?_
  unfold S_sheet_Sheet_Draft
  exact ⟨fun e => (by cases e), fun _ => ⟨_, rfl, _, E.cM 3 rfl (i := 0) rfl, Fin.of hQ⟩⟩
end
end Go.Proofs.Ytcncdfmnpmmikaa.H
namespace Go.Proofs.Ytcncdfmnpmmikaa.H
open Go Go.RowKit
set_option linter.unusedVariables false
set_option maxRecDepth 100000
theorem atD_get : ∀ {d : DFL} {x : Int × FileS}, SortD d → x ∈ d → atD d x.1 = some x.2 := by
  intro d
  induction d with
  | nil => intro x _ hx; cases hx
  | cons y d ih =>
    intro x s hx
    obtain ⟨s1, s2⟩ := List.pairwise_cons.1 s
    rw [atD_cons]
    rcases List.mem_cons.1 hx with rfl | hx
    · rw [if_pos rfl]
    · rw [if_neg (by have := s1 x hx; omega)]; exact ih s2 hx
theorem SOk.tome {l : FL} {d : DFL} (o : SOk l d) : TomeOk l := ⟨o.l6, fun y hy => o.g y hy⟩
section
variable {B : RO} {h0 h h' : Heap} {L : List (Option (Nat × AObj))} {r rd rd2 : Option (Nat × AObj)} {v vd vd2 : Value} {l z : FL} {d d2 : DFL} {n ver : Int} {x : ShI} {f : FileS} {q kd kn k6 k8 k25 k34 k3 c c2 : Nat} {a a2 : Option Addr} {xs ys : List SCall} {o0 : AObj} {b : Bool} {s : ByteArray}
theorem sget_nil {Q : Bool → ByteArray → Bool → Heap → Prop} (E : Keep B h0 (L ++ x.m vd rd) h) (R : FRow x.rt x.vt l) (hQ : ∀ h', Keep B h0 (L ++ x.m vd rd) h' → Q (fileAt l n).1.1 (fileAt l n).1.2 false h') : C_sheet_Sheet_Get B none (some ⟨x.kT, 0, none⟩) n h Q := by
  refine C_sheet_Sheet_Get.of ?_
  unfold S_sheet_Sheet_Get
  intro k7 a7 b7 h8 e8
  have E1 := E.nM a7 b7 e8
  refine ⟨fun _ => Fin.of ?_, fun e => absurd rfl e⟩
  unfold S_sheet_Sheet_Get_J1
  refine tget_wp (i := L.length) E1 ⟨upM 0 rfl, ⟨upM 1 rfl, upM 2 rfl⟩⟩ R fun h11 E5 => ?_
  intro k15 a15 b15 h16 e16
  have E6 := E5.nM a15 b15 e16
  refine ⟨_, stores_whole (E6.gM 7 rfl) rfl (by simp) (by simp [isOne]) (by simp), ?_⟩
  have E7 := E6.pM (o' := fO (fileAt l n).1) 7 rfl
  refine ⟨_, _, ⟨E7.cM 7 rfl (i := 0) rfl, E7.cM 7 rfl (i := 1) rfl, trivial⟩, _, stores_whole (E7.gM 6 rfl) rfl (by simp) (by simp [isOne]) (by simp), ?_⟩
  have E8 := E7.pM (o' := fO (fileAt l n).1) 6 rfl
  exact ⟨_, _, ⟨E8.cM 6 rfl (i := 0) rfl, E8.cM 6 rfl (i := 1) rfl, trivial⟩, Fin.of (hQ _ (E8.tM 6))⟩
theorem sput_nil {p : Option Addr} {Q : Bool → Heap → Prop} (E : Keep B h0 L h) (hQ : ∀ h', Keep B h0 L h' → Q false h') : C_sheet_Sheet_put B none p n b s h Q := by
  refine C_sheet_Sheet_put.of ?_
  unfold S_sheet_Sheet_put
  intro k7 a7 b7 h8 e8
  exact ⟨fun _ => Fin.of (hQ _ (E.made a7 b7 e8).pop), fun e => absurd rfl e⟩
theorem swrite_nil {a w : Int} {c : UInt8} (hw : w = ((c.toNat : Nat) : Int)) {Q : Bool → Heap → Prop} (E : Keep B h0 (L ++ x.m vd rd) h) (R : FRow x.rt x.vt l) (o : SOk l d) (hQ : ∀ h', Keep B h0 (L ++ x.m vd rd) h' → Q false h') : C_sheet_Sheet_Write B none (some ⟨x.kT, 0, none⟩) n a w h Q := by
  refine C_sheet_Sheet_Write.of ?_
  unfold S_sheet_Sheet_Write
  refine sget_nil E R fun h6 E1 => ?_
  intro k10 a10 b10 h11 e11
  have E2 := E1.nM a10 b10 e11
  refine ⟨_, stores_whole (E2.gM 6 rfl) rfl (by simp) (by simp [isOne]) (by simp), ?_⟩
  have E3 := E2.pM (o' := fO (fileAt l n).1) 6 rfl
  refine ⟨_, _, ⟨E3.cM 6 rfl (i := 0) rfl, E3.cM 6 rfl (i := 1) rfl, trivial⟩, fput_wp hw (by have := goodF_size (o.fat n); omega) fun h14 wk => ?_⟩
  exact sput_nil ((E3.wk wk).tM 6) fun h1 E4 => Fin.of (hQ _ E4)
theorem scut_nil {a : Int} {Q : Bool → Heap → Prop} (E : Keep B h0 (L ++ x.m vd rd) h) (R : FRow x.rt x.vt l) (o : SOk l d) (hQ : ∀ h', Keep B h0 (L ++ x.m vd rd) h' → Q false h') : C_sheet_Sheet_Cut B none (some ⟨x.kT, 0, none⟩) n a h Q := by
  refine C_sheet_Sheet_Cut.of ?_
  unfold S_sheet_Sheet_Cut
  refine sget_nil E R fun h6 E1 => ?_
  intro k10 a10 b10 h11 e11
  have E2 := E1.nM a10 b10 e11
  refine ⟨_, stores_whole (E2.gM 6 rfl) rfl (by simp) (by simp [isOne]) (by simp), ?_⟩
  have E3 := E2.pM (o' := fO (fileAt l n).1) 6 rfl
  refine ⟨_, _, ⟨E3.cM 6 rfl (i := 0) rfl, E3.cM 6 rfl (i := 1) rfl, trivial⟩, fcut_wp (by have := goodF_size (o.fat n); omega) fun h14 wk => ?_⟩
  exact sput_nil ((E3.wk wk).tM 6) fun h1 E4 => Fin.of (hQ _ E4)
theorem screate_nil {Q : Bool → Heap → Prop} (E : Keep B h0 (L ++ x.m vd rd) h) (R : FRow x.rt x.vt l) (hQ : ∀ h', Keep B h0 (L ++ x.m vd rd) h' → Q false h') : C_sheet_Sheet_Create B none (some ⟨x.kT, 0, none⟩) n h Q := by
  refine C_sheet_Sheet_Create.of ?_
  unfold S_sheet_Sheet_Create
  refine sget_nil E R fun h6 E1 => ?_
  intro k10 a10 b10 h11 e11
  have E2 := E1.nM a10 b10 e11
  refine ⟨_, stores_whole (E2.gM 6 rfl) rfl (by simp) (by simp [isOne]) (by simp), ?_⟩
  have E3 := E2.pM (o' := fO (fileAt l n).1) 6 rfl
  refine ⟨_, _, ⟨E3.cM 6 rfl (i := 0) rfl, E3.cM 6 rfl (i := 1) rfl, trivial⟩, make_wp fun h14 wk => ?_⟩
  exact sput_nil ((E3.wk wk).tM 6) fun h1 E4 => Fin.of (hQ _ E4)
theorem sremove_nil {p : Option Addr} {Q : Bool → Heap → Prop} (E : Keep B h0 L h) (hQ : ∀ h', Keep B h0 L h' → Q false h') : C_sheet_Sheet_Remove B none p n h Q := by
  refine C_sheet_Sheet_Remove.of ?_
  unfold S_sheet_Sheet_Remove
  exact sput_nil E fun h1 E4 => Fin.of (hQ _ E4)
theorem srename_nil {a : Int} {Q : Bool → Heap → Prop} (E : Keep B h0 (L ++ x.m vd rd) h) (R : FRow x.rt x.vt l) (hQ : ∀ h', Keep B h0 (L ++ x.m vd rd) h' → Q false h') : C_sheet_Sheet_Rename B none (some ⟨x.kT, 0, none⟩) n a h Q := by
  refine C_sheet_Sheet_Rename.of ?_
  unfold S_sheet_Sheet_Rename
  refine sget_nil E R fun h6 E1 => ?_
  intro k10 a10 b10 h11 e11
  have E2 := E1.nM a10 b10 e11
  refine ⟨_, stores_whole (E2.gM 6 rfl) rfl (by simp) (by simp [isOne]) (by simp), fun _ => Fin.of ?_, fun e => absurd rfl e⟩
  have E3 := E2.pM (o' := fO (fileAt l n).1) 6 rfl
  unfold S_sheet_Sheet_Rename_J2
  exact ⟨fun _ => Fin.of (hQ _ (E3.tM 6)), fun e => by cases e⟩
theorem sdraft_nil {Q : Option Addr → Heap → Prop} (hQ : Q none h) : C_sheet_Sheet_Draft B none h Q := by
  refine C_sheet_Sheet_Draft.of ?_
  unfold S_sheet_Sheet_Draft
  exact ⟨fun _ => Fin.of hQ, fun e => absurd rfl e⟩
theorem scopy_nil {Q : Option Addr → Heap → Prop} (hQ : Q none h) : C_sheet_Sheet_Copy B none h Q := by
  refine C_sheet_Sheet_Copy.of ?_
  unfold S_sheet_Sheet_Copy
  exact ⟨fun _ => Fin.of hQ, fun e => absurd rfl e⟩
def fdN (k3 : Nat) (h : Heap) : Prop := h k3 = some (.vec TY.p_draft_Draft_file_File [.plain (.pointer none)] 1)
theorem fdN_ins : Ins (fdN k3) := by
  intro h k o hk hg
  exact Heap.get_new hk hg
theorem fdall_nil : Iter PG B (fdallF k3) (([] : DFL).map encDF) (fdN k3) := by
  refine ⟨_, _, _, rfl, TG.draft_Draft_file_File_All_1, fun y J X h hy hG h0 hcall => ?_⟩
  have main : C_draft_Draft_file_File_All_1 B y ⟨k3, 0, none⟩ h (fun h' => Fin B h' (fun h'' => J (([] : DFL).map encDF).length h'' ∨ X h'')) := by
    refine C_draft_Draft_file_File_All_1.of ?_
    unfold S_draft_Draft_file_File_All_1
    have g1 := hG 0 h h0
    exact ⟨_, cellH_vec g1 rfl, fun _ => Fin.of (Fin.of (.inl h0)), fun hn => absurd rfl hn⟩
  exact Spec.mono main fun v h' q => q.2
theorem sover_nil {p : Option Addr} {Q : Int → Heap → Prop} (E : Keep B h0 L h) (hQ : ∀ h', Keep B h0 L h' → Q 0 h') : C_sheet_Sheet_Over B none p ver h Q := by
  refine C_sheet_Sheet_Over.of ?_
  unfold S_sheet_Sheet_Over
  intro k5 a5 b5 h6 e6 k7 a7 b7 h8 e8 k9 a9 b9 h10 e10
  have E1 := ((E.start.nM a5 b5 e6).nM a7 b7 e8).nM a9 b9 e10
  refine ⟨_, storeH_vec (E1.gM 2 rfl) rfl, ?_⟩
  have E2 := E1.pM (o' := .vec TY.int (plains [.int .i64 0]) 1) 2 rfl
  refine sdraft_nil (fdall_wp fun kc ac bc => ?_)
  have E3 := E2.nM (o := .vec TY.p_draft_Draft_file_File [.plain (.pointer none)] 1) ac bc rfl
  refine ⟨[], fdN kc, fun q h' => q = 0 ∧ Keep B h0 (L ++ [some (k5, .vec TY.p_tome_Tome [.plain (.pointer p)] 1), some (k7, .vec TY.int [.plain (.int .i64 ver)] 1), some (k9, .vec TY.int (plains [.int .i64 0]) 1), some (kc, .vec TY.p_draft_Draft_file_File [.plain (.pointer none)] 1)]) h', fdall_nil, fdN_ins, ?_, Fin.of ⟨rfl, E3⟩, ?_, ?_⟩
  · rintro q h' ⟨_, E⟩
    exact E.gM 3 rfl
  · rintro q h20 i16 b17 s18 hg ⟨rfl, E⟩
    cases hg
  · rintro h20 ⟨_, E⟩
    exact ⟨_, E.cM 2 rfl (i := 0) rfl, Fin.of (hQ _ E.zM)⟩
def bO (b : Bool) : AObj := .vec TY.bool (plains [.bool b]) 1
def pdO (k : Nat) : AObj := .vec TY.p_countermandref14_Sheet (plains [.pointer (some ⟨k, 0, none⟩)]) 1
abbrev dsL (k6 k8 kd k25 : Nat) (z l : FL) (d : DFL) : List (Option (Nat × AObj)) := [some (k6, afB z), some (k8, bO false), some (kd, docO l d), some (k25, pdO kd)]
theorem ret8 {M : List (Option (Nat × AObj))} {Q : Bool → Heap → Prop} {bb : Bool} (E : Keep B h0 (dsL k6 k8 kd k25 z l d ++ M) h) (hQ : Q bb h0) : ∃ h' : Heap, storeH h ⟨k8, 0, none⟩ (.bool bb) = some h' ∧ ∃ b : Bool, cellH B h' ⟨k8, 0, none⟩ = some (.bool b) ∧ Fin B h' (Q b) := by
  refine ⟨_, storeH_vec (E.at 1 rfl) rfl, bb, ?_, ?_⟩
  · exact cellH_vec (Heap.set_same _ _ _) rfl
  · exact Fin.ent (E.put (o' := bO bb) 1 rfl).back (Fin.of hQ)
theorem Does_J4 {Q : Bool → Heap → Prop} (E : Keep B h0 (dsL k6 k8 kd k25 z l d ++ (x.m vd rd ++ [some (k34, o0)])) h) (R : FRow x.rt x.vt l) (o : SOk l d) (hQ : Q true h0) : S_countermandlaw14_SheetDoes_J4 B k8 (some ⟨x.kT, 0, none⟩) h Q := by
  unfold S_countermandlaw14_SheetDoes_J4
  have E : Keep B h0 (dsL k6 k8 kd k25 z l d ++ x.m vd rd) h := E.tM 6
  refine swrite_nil (c := 0) rfl E R o fun h1 E1 => ⟨fun e => (by cases e), fun _ => ?_⟩
  refine scut_nil E1 R o fun h2 E2 => ⟨fun e => (by cases e), fun _ => ?_⟩
  refine screate_nil E2 R fun h3 E3 => ⟨fun e => (by cases e), fun _ => ?_⟩
  refine sremove_nil E3 fun h4 E4 => ⟨fun e => (by cases e), fun _ => ?_⟩
  refine srename_nil E4 R fun h5 E5 => ⟨fun e => (by cases e), fun _ => ?_⟩
  refine sdraft_nil ⟨fun _ => scopy_nil ⟨fun _ => sover_nil E5 fun h6 E6 => ?_, fun e => absurd rfl e⟩, fun e => absurd rfl e⟩
  exact ret8 E6 hQ
theorem Does_J3 {Q : Bool → Heap → Prop} (E : Keep B h0 (dsL k6 k8 kd k25 z l d ++ (x.m vd rd ++ [some (k34, .vec TY.int (plains [.int .i64 (d.length : Nat)]) 1)])) h) (R : FRow x.rt x.vt l) (Rd : DRow_file_File rd vd d) (o : SOk l d) (hQ : Q true h0) :
    S_countermandlaw14_SheetDoes_J3 B k8 (some ⟨x.kT, 0, none⟩) (some ⟨x.ks, 0, none⟩) k25 (ba (tomeB l)) k34 h Q := by
  unfold S_countermandlaw14_SheetDoes_J3
  have E0 : Keep B h0 ((dsL k6 k8 kd k25 z l d ++ [some (k34, .vec TY.int (plains [.int .i64 (d.length : Nat)]) 1)]) ++ x.m vd rd) h := E.picks [0, 1, 2, 3, 10, 4, 5, 6, 7, 8, 9] (by decide)
  refine sget_nil E0 R fun h39 E1 => ⟨fun e => (by cases e), fun _ k43 a43 b43 h44 e44 => ?_⟩
  have E2 := E1.nM a43 b43 e44
  refine ⟨_, stores_whole (E2.gM 6 rfl) rfl (by simp) (by simp [isOne]) (by simp), ?_⟩
  have E3 := E2.pM (o' := fO (fileAt l 0).1) 6 rfl
  have cn : ∀ {h1 : Heap}, Keep B h0 ((dsL k6 k8 kd k25 z l d ++ [some (k34, .vec TY.int (plains [.int .i64 (d.length : Nat)]) 1)]) ++ (x.m vd rd ++ [some (k43, fO (fileAt l 0).1)])) h1 → cellH B h1 ⟨k34, 0, none⟩ = some (.int .i64 (d.length : Nat)) := fun K => K.cell 4 rfl rfl
  refine ⟨_, cn E3, ?_⟩
  refine sdraft_wp (x := x) (vd := vd) (rd := rd) (L := dsL k6 k8 kd k25 z l d ++ [some (k34, .vec TY.int (plains [.int .i64 (d.length : Nat)]) 1)]) (E3.tM 6) ⟨cn E3, ?_⟩
  refine len_file_File_wp (i := 9) E3 ⟨rfl, rfl⟩ Rd ⟨cn E3, fun _ => ?_, fun hn => absurd rfl hn⟩
  refine tbytes_wp (i := 5) E3 ⟨rfl, ⟨rfl, rfl⟩⟩ R o.tome fun h92 E4 => ⟨cn E4, fun _ => ?_, fun hn => absurd rfl hn⟩
  have cf : CellsAt B h92 ⟨k43, 0, none⟩ 0 [.bool (fileAt l 0).1.1, .string (fileAt l 0).1.2] := ⟨E4.cM 6 rfl (i := 0) rfl, E4.cM 6 rfl (i := 1) rfl, trivial⟩
  have cp : cellH B h92 ⟨k25, 0, none⟩ = some (.pointer (some ⟨kd, 0, none⟩)) := E4.cell 3 rfl (j := 0) rfl
  have hl0 : (0 : Nat) < l.length := by rw [o.l6]; omega
  have cb : CellsAt B h92 ⟨kd, 0, none⟩ 0 [.bool (fileAt l 0).1.1, .string (fileAt l 0).1.2] := by
    have e0 : fileAt l 0 = l[0] := fileAt_in (l := l) (i := 0) (by omega) hl0
    have hq : ((dsL k6 k8 kd k25 z l d ++ [some (k34, AObj.vec TY.int (plains [.int .i64 (d.length : Nat)]) 1)]) ++ (x.m vd rd ++ [some (k43, fO (fileAt l 0).1)]))[2]? = some (some (kd, .vec TY.countermandref14_Sheet (plains ([] ++ l.flatMap fileC ++ ((fsOf l d).flatMap fcl ++ (wsOf l d).flatMap wcl))) 30)) := by
      have ed : docO l d = .vec TY.countermandref14_Sheet (plains ([] ++ l.flatMap fileC ++ ((fsOf l d).flatMap fcl ++ (wsOf l d).flatMap wcl))) 30 := by unfold docO docC filesC; rw [List.nil_append, List.append_assoc]
      rw [← ed]; rfl
    have := E4.mid (cells := fileC) (i := 0) (o := 0) fileC_len hq (List.getElem?_eq_getElem hl0) (by simp)
    rw [e0]; exact this
  have J5 : S_countermandlaw14_SheetDoes_J5 B k8 (some ⟨x.kT, 0, none⟩) k34 (d.length : Nat) (fileAt l 0).1.1 (fileAt l 0).1.2 (fileAt l 0).1.1 (fileAt l 0).1.2 h92 Q := by
    unfold S_countermandlaw14_SheetDoes_J5
    refine ⟨fun _ => Fin.of (Does_J4 (rd := rd) (vd := vd) (l := l) (z := z) (d := d) (kd := kd) (k6 := k6) (k25 := k25) (k34 := k34) (o0 := .vec TY.int (plains [.int .i64 (d.length : Nat)]) 1) ?_ R o hQ), fun hn => absurd (eqL_refl _ _) hn⟩
    exact E4.picks [0, 1, 2, 3, 5, 6, 7, 8, 9, 10, 4] (by decide)
  exact ⟨⟨_, _, cf, _, cp, _, rfl, by omega, by omega, _, _, cb, J5⟩, ⟨_, cp, _, rfl, by omega, by omega, ⟨_, _, cf, _, _, cb, J5⟩, ⟨_, _, cb, _, _, cf, J5⟩⟩⟩
theorem Does_J2 {Q : Bool → Heap → Prop} (E : Keep B h0 (dsL k6 k8 kd k25 z l d ++ x.m vd rd) h) (R : FRow x.rt x.vt l) (Rd : DRow_file_File rd vd d) (o : SOk l d) (hQ : Q true h0) :
    S_countermandlaw14_SheetDoes_J2 B k8 (some ⟨x.kT, 0, none⟩) (some ⟨x.ks, 0, none⟩) k25 (ba (tomeB l)) h Q := by
  unfold S_countermandlaw14_SheetDoes_J2
  have hl := o.len
  intro k34 a34 b34 h35 e35
  have E1 := E.nM a34 b34 e35
  refine ⟨_, storeH_vec (E1.gM 6 rfl) rfl, ?_⟩
  have E2 := E1.pM (o' := .vec TY.int (plains [.int .i64 0]) 1) 6 rfl
  refine sdraft_wp (x := x) (vd := vd) (rd := rd) (L := dsL k6 k8 kd k25 z l d) (E2.tM 6) (fdall_wp fun kc ac bc => ?_)
  have E3 := E2.nM (o := .vec TY.p_draft_Draft_file_File [.plain (.pointer (some ⟨x.kf, 0, none⟩))] 1) ac bc rfl
  refine ⟨d, fdG kc x.kf vd rd, fun q h' => q ≤ d.length ∧ Keep B h0 (dsL k6 k8 kd k25 z l d ++ (x.m vd rd ++ [some (k34, .vec TY.int (plains [.int .i64 ((q : Nat) : Int)]) 1), some (kc, .vec TY.p_draft_Draft_file_File [.plain (.pointer (some ⟨x.kf, 0, none⟩))] 1)])) h', fdall_iter (k := x.kf) Rd (by omega), fdG_ins, ?_, Fin.of ⟨by omega, E3⟩, ?_, ?_⟩
  · rintro q h' ⟨_, E⟩
    exact ⟨E.gM 7 rfl, E.gM 4 rfl, fun k o e => E.gM 5 (by show some rd = _; rw [e])⟩
  · clear E1 E2 E3 E
    rintro q h20 i16 b17 s18 hg ⟨hq, E⟩
    have hq' := (List.getElem?_eq_some_iff.1 hg).1
    have hm := List.mem_of_getElem? hg
    have gx := o.k _ hm
    have gat := atD_get o.s hm
    simp only at gx gat
    have hi : inR i16 = true := decide_eq_true gx.1
    obtain ⟨i, rfl⟩ := Int.eq_ofNat_of_zero_le gx.1.1
    intro k24 a24 b24 h25 e25
    have E1 := E.nM a24 b24 e25
    refine ⟨_, stores_whole (E1.gM 8 rfl) rfl (by simp) (by simp [isOne]) (by simp), ?_⟩
    have E2 := E1.pM (o' := fO (b17, s18)) 8 rfl
    generalize hh : h25.set k24 (AObj.vec TY.file_File (plains [.bool b17, .string s18]) 2) = h26
    have E2 : Keep B h0 (dsL k6 k8 kd k25 z l d ++ (x.m vd rd ++ [some (k34, .vec TY.int (plains [.int .i64 ((q : Nat) : Int)]) 1), some (kc, .vec TY.p_draft_Draft_file_File [.plain (.pointer (some ⟨x.kf, 0, none⟩))] 1), some (k24, fO (b17, s18))])) h26 := hh ▸ E2
    have cf : CellsAt B h26 ⟨k24, 0, none⟩ 0 [.bool b17, .string s18] := ⟨E2.cM 8 rfl (i := 0) rfl, E2.cM 8 rfl (i := 1) rfl, trivial⟩
    have cp : cellH B h26 ⟨k25, 0, none⟩ = some (.pointer (some ⟨kd, 0, none⟩)) := E2.cell 3 rfl (j := 0) rfl
    have cd := doc_file E2 (q := 2) (kd := kd) o.l6 rfl (n := i) (by omega)
    have cw := doc_wr E2 (q := 2) (kd := kd) o.l6 rfl (n := i) (by omega)
    rw [getS_some gat] at cd cw
    have J11 : S_countermandlaw14_SheetDoes_J14 B k8 k34 q (fun q h' => q ≤ d.length ∧ Keep B h0 (dsL k6 k8 kd k25 z l d ++ (x.m vd rd ++ [some (k34, .vec TY.int (plains [.int .i64 ((q : Nat) : Int)]) 1), some (kc, .vec TY.p_draft_Draft_file_File [.plain (.pointer (some ⟨x.kf, 0, none⟩))] 1)])) h') b17 s18 b17 s18 h26 Q := by
      unfold S_countermandlaw14_SheetDoes_J14
      refine ⟨fun _ => Fin.of ?_, fun hn => absurd (eqL_refl _ _) hn⟩
      unfold S_countermandlaw14_SheetDoes_J11
      refine ⟨fun e => (by cases e), fun _ => ⟨_, E2.cM 6 rfl (i := 0) rfl, _, storeH_vec (E2.gM 6 rfl) rfl, Fin.of ⟨by omega, ?_⟩⟩⟩
      have e1 : IntKind.wrap .i64 (((q : Nat) : Int) + 1) = ((q + 1 : Nat) : Int) := by rw [w64 (by omega) (by omega)]; omega
      have E4 := (E2.pM (o' := .vec TY.int (plains [.int .i64 (IntKind.wrap .i64 (((q : Nat) : Int) + 1))]) 1) 6 rfl).tM 8
      rw [e1] at E4 ⊢
      exact E4
    refine is14' ⟨fun _ => ⟨_, cp, _, rfl, by omega, by omega, true, by rw [Int.toNat_natCast]; exact cw, fun _ => ⟨⟨_, _, cf, _, cp, _, rfl, by omega, by omega, _, _, by rw [Int.toNat_natCast]; exact cd, J11⟩, ⟨_, cp, _, rfl, by omega, by omega, ⟨_, _, cf, _, _, by rw [Int.toNat_natCast]; exact cd, J11⟩, ⟨_, _, by rw [Int.toNat_natCast]; exact cd, _, _, cf, J11⟩⟩⟩, fun e => by cases e⟩, fun e => by rw [hi] at e; cases e⟩
  · rintro h20 ⟨_, E⟩
    exact Fin.of (Does_J3 (E.tM 7) R Rd o hQ)
theorem Does_J1 {Q : Bool → Heap → Prop} (hr : Reads B h0 a 4 SCall.cells xs) (hx60 : xs.length ≤ 60) (E : Keep B h0 (dsL k6 k8 kd k25 z l [] ++ x.m (.slice none 0 0) none) h) (R : FRow x.rt x.vt l) (o : SOk l []) (hQ : Q true h0) :
    S_countermandlaw14_SheetDoes_J1 B a xs.length c k8 (some ⟨x.kT, 0, none⟩) (some ⟨x.ks, 0, none⟩) k25 h Q := by
  unfold S_countermandlaw14_SheetDoes_J1
  refine tbytes_wp (i := 4) E ⟨rfl, ⟨rfl, rfl⟩⟩ R o.tome fun h30 E1 => ?_
  refine ⟨fun i m h' => ∃ (j : Nat) (vd : Value) (rd : Option (Nat × AObj)), j ≤ xs.length ∧ i = j ∧ m = xs.length - j ∧ DRow_file_File rd vd (opsD l [] (xs.take j)) ∧ Keep B h0 (dsL k6 k8 kd k25 z l (opsD l [] (xs.take j)) ++ x.m vd rd) h', xs.length, Fin.of ⟨0, _, _, by omega, rfl, rfl, Row.nil _ _, E1⟩, ?_⟩
  clear E1 E
  rintro _ _ h53 ⟨j, vd, rd, hj, rfl, rfl, Rd, E⟩
  refine ⟨fun hlt => ?_, fun hge => Fin.of ?_⟩
  · have hj' : j < xs.length := by omega
    have hw : IntKind.wrap .i64 ((j : Int) + 1) = ((j + 1 : Nat) : Int) := by rw [w64 (by omega) (by omega)]; omega
    have hx := List.getElem?_eq_getElem hj'
    generalize xs[j] = sc at hx
    obtain ⟨A, e1, _, e4⟩ := hr j sc hx
    refine ⟨A, e1, by omega, hlt, _, _, _, _, by rw [Int.toNat_natCast]; exact E.w.cells e4, fun k64 a64 b64 h65 e65 => ?_⟩
    have E1 := E.nM a64 b64 e65
    refine ⟨_, stores_whole (E1.gM 6 rfl) rfl (by simp) (by simp [isOne]) (by simp), ?_⟩
    have E2 := E1.pM (o' := .vec TY.countermandlaw14_Call (plains sc.cells) 4) 6 rfl
    refine ⟨_, E2.cell 3 rfl (j := 0) rfl, _, _, _, _, ⟨E2.cM 6 rfl (i := 0) rfl, E2.cM 6 rfl (i := 1) rfl, E2.cM 6 rfl (i := 2) rfl, E2.cM 6 rfl (i := 3) rfl, trivial⟩, ?_⟩
    refine does14_wp (q := 2) (E2.tM 6) R Rd (o.ops _) rfl fun v1 r1 h71 R1 E3 => ⟨fun _ => ?_, fun e => by cases e⟩
    have o1 := o.ops (xs.take (j + 1))
    have hl1 := o1.len
    rw [← opsD_take hx] at R1
    have E3 : Keep B h0 (dsL k6 k8 kd k25 z l (opsD l [] (xs.take (j + 1))) ++ x.m v1 r1) h71 := by rw [opsD_take hx]; exact E3
    generalize hd1 : opsD l [] (xs.take (j + 1)) = d1 at o1 hl1 R1 E3
    refine ⟨fun i m h' => ∃ q : Nat, q ≤ 6 ∧ i = q ∧ m = 6 - q ∧ Keep B h0 (dsL k6 k8 kd k25 z l d1 ++ x.m v1 r1) h', 6, Fin.of ⟨0, by omega, rfl, by omega, E3⟩, ?_⟩
    clear E E1 E2 E3
    rintro _ _ h329 ⟨q, hq, rfl, rfl, E⟩
    refine ⟨fun hlt => ?_, fun hge => Fin.of ⟨xs.length - (j + 1), by omega, j + 1, v1, r1, by omega, hw, rfl, by rw [hd1]; exact R1, by rw [hd1]; exact E⟩⟩
    refine sget_wp E R R1 o1.s (by omega) fun h334 E4 => ?_
    intro k338 a338 b338 h339 e339
    have E5 := E4.nM a338 b338 e339
    refine ⟨_, stores_whole (E5.gM 6 rfl) rfl (by simp) (by simp [isOne]) (by simp), ?_⟩
    have E6 := E5.pM (o' := fO (getS l d1 q).1) 6 rfl
    have cp := E6.cell 3 rfl (k := k25) (j := 0) rfl
    have cd := doc_file E6 (q := 2) (kd := kd) o.l6 rfl (n := q) (by omega)
    have cw := doc_wr E6 (q := 2) (kd := kd) o.l6 rfl (n := q) (by omega)
    refine ⟨_, _, ⟨E6.cM 6 rfl (i := 0) rfl, E6.cM 6 rfl (i := 1) rfl, trivial⟩, _, cp, _, rfl, by omega, by omega, _, _, by rw [Int.toNat_natCast]; exact cd, fun _ => ⟨_, cp, _, rfl, by omega, by omega, _, by rw [Int.toNat_natCast]; exact cw, fun _ => Fin.of ⟨6 - (q + 1), by omega, q + 1, by omega, ?_, rfl, E6.tM 6⟩, fun hn => absurd rfl hn⟩, fun hn => absurd (eqL_refl _ _) hn⟩
    rw [w64 (by omega) (by omega)]; omega
  · have : j = xs.length := by omega
    subst this
    rw [List.take_length] at E Rd
    exact Does_J2 E R Rd (o.ops _) hQ
theorem SheetDoes_wp {Q : Bool → Heap → Prop} (hr : Reads B h a 4 SCall.cells xs) (h6 : z.length = 6) (hv : ∀ q x, z[q]? = some x → x.2 = ((q : Nat) : Int)) (hQ : Q true h) : C_countermandlaw14_SheetDoes B (filesC z) a xs.length c h Q := by
  refine C_countermandlaw14_SheetDoes.of ?_
  unfold S_countermandlaw14_SheetDoes
  intro k6 a6 b6 h7 e7 k8 a8 b8 h9 e9
  have hzl := filesC_len z
  have E0 : Keep B h [some (k6, afB z), some (k8, bO false)] h9 := by
    have := (Keep.nil B h).made a6 b6 e7
    rw [show (filesC z).length = 12 by omega] at this
    have := this.made a8 b8 e9
    unfold afB; rw [List.append_nil]; exact this
  refine alive14_wp fun h10 E1 => ⟨fun _ => ?_, fun e => by cases e⟩
  have E2 : Keep B h [some (k6, afB z), some (k8, bO false)] h10 := E0.append E1
  have ret : ∀ {L' : List (Option (Nat × AObj))} {h1 : Heap}, Keep B h ([some (k6, afB z), some (k8, bO false)] ++ L') h1 → ∃ h' : Heap, storeH h1 ⟨k8, 0, none⟩ (.bool true) = some h' ∧ ∃ b : Bool, cellH B h' ⟨k8, 0, none⟩ = some (.bool b) ∧ Fin B h' (Q b) := fun E => by
    refine ⟨_, storeH_vec (E.at 1 rfl) rfl, true, cellH_vec (Heap.set_same _ _ _) rfl, ?_⟩
    exact Fin.ent (E.put (o' := bO true) 1 rfl).back (Fin.of hQ)
  refine ⟨filesC z, by omega, E2.cellsP (zs := []) 0 rfl, ?_⟩
  refine build2_wp E2 h6 hv (fun h12 E3 => ⟨fun e => (by cases e), fun _ k20 a20 b20 h21 e21 => ?_⟩) fun x kd h12 o R E3 => ⟨fun _ k25 a25 b25 h26 e26 => ?_, fun e => by cases e⟩
  · have E4 := E3.made a20 b20 e21
    refine ⟨_, storeH_vec E4.last rfl, ?_⟩
    exact ret (E4.putLast _)
  · have E4 := E3.nP a25 b25 e26
    refine ⟨_, storeH_vec (E4.at 3 rfl) rfl, ?_⟩
    have E5 := E4.put (o' := pdO kd) 3 rfl
    have E6 : Keep B h (dsL k6 k8 kd k25 z z [] ++ x.m (.slice none 0 0) none) _ := E5
    exact ⟨fun _ => ret (L' := [some (kd, docO z []), some (k25, pdO kd)] ++ x.m (.slice none 0 0) none) E6, fun hle => Fin.of (Does_J1 hr (by omega) E6 R o hQ)⟩
end
theorem SheetDoes_calls {H : Type} {enc : TypeId × Value → H} (W : World) {cs : Array Value} {d' : DataW H} {p' : List MemPlace} (k' : DataW.Trod enc PG W 0 (fun _ => true) true TY.a_6_file_File (.agg cs) d' p') {a : Option Addr} {len cap : Nat} {d2 : DataW H} {p2 : List MemPlace} (k2 : DataW.Trod enc PG W 0 (fun _ => true) true TY.s_countermandlaw14_Call (.slice a len cap) d2 p2) :
    Calls PG FN.countermandlaw14_SheetDoes #[.agg cs, .slice a len cap] W fun e w' => e = .returned (.bool true) ∧ Below W.heap.size W w' := by
  obtain ⟨z, h6, hv, rfl⟩ := Files_arg k'
  obtain ⟨xs, rfl, hr⟩ := SCall_arg k2
  refine Spec.calls (Spec.mono (SheetDoes_wp (Q := fun b _ => b = true) (c := cap) hr h6 hv rfl) ?_)
  rintro v h' ⟨b, rfl, rfl⟩
  rfl
end Go.Proofs.Ytcncdfmnpmmikaa.H
