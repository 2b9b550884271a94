/- What the law's proof stands on, part 7. No condition. -/
import Derived.Shelf.Strings.Repeat
import Derived.Test.YtgldgabefiialaaGreatG6
namespace Go.Proofs.YtgldgabefiialaaGreat.H
open Go
set_option linter.unusedVariables false
set_option maxRecDepth 100000
def repRen : Go.Shelf.Ren := ⟨fun x => match x with | 99 => 144 | 105 => 136 | 165 => 145 | 166 => 146 | 169 => 148 | 170 => 147 | 206 => 157 | 212 => 143 | 240 => 158 | 241 => 159 | 263 => 155 | 264 => 156 | 276 => 161 | 277 => 162 | _ => 0, fun x => match x with | 0 => 0 | 3 => 3 | 4 => 4 | 5 => 5 | 9 => 9 | 20 => 20 | 37 => 226 | 46 => 234 | 51 => 259 | 53 => 262 | 70 => 245 | 72 => 247 | 75 => 249 | 76 => 250 | 80 => 252 | 109 => 242 | 127 => 265 | 146 => 260 | 148 => 263 | 164 => 266 | _ => 0, fun x => x⟩
theorem repLays : Lays.n105 PG repRen := ⟨by kernel_rfl, by kernel_rfl, by kernel_rfl, by kernel_rfl, by kernel_rfl, by kernel_rfl, by kernel_rfl, by kernel_rfl, by kernel_rfl, by kernel_rfl, by kernel_rfl, by kernel_rfl, by kernel_rfl, by kernel_rfl, by kernel_rfl, by kernel_rfl, fun w => by kernel_rfl, fun w => by kernel_rfl, fun w => by kernel_rfl, by kernel_rfl, fun w => by kernel_rfl, fun w => by kernel_rfl, fun w => by kernel_rfl, by kernel_rfl, fun w => by kernel_rfl, fun w => by kernel_rfl, fun w => by kernel_rfl, by kernel_rfl, fun w => by kernel_rfl, fun w => by kernel_rfl, fun w => by kernel_rfl, by kernel_rfl, fun w => by kernel_rfl, fun w => by kernel_rfl, fun w => by kernel_rfl, by kernel_rfl, fun w => by kernel_rfl, fun w => by kernel_rfl, fun w => by kernel_rfl, by kernel_rfl, fun w => by kernel_rfl, fun w => by kernel_rfl, fun w => by kernel_rfl, by kernel_rfl, fun w => by kernel_rfl, fun w => by kernel_rfl, fun w => by kernel_rfl, by kernel_rfl, fun w => by kernel_rfl, fun w => by kernel_rfl, fun w => by kernel_rfl, by kernel_rfl, fun w => by kernel_rfl, fun w => by kernel_rfl, fun w => by kernel_rfl, by kernel_rfl, fun w => by kernel_rfl, fun w => by kernel_rfl, fun w => by kernel_rfl, by kernel_rfl, fun w => by kernel_rfl, fun w => by kernel_rfl, fun w => by kernel_rfl, by kernel_rfl, fun w => by kernel_rfl, fun w => by kernel_rfl, fun w => by kernel_rfl, by kernel_rfl, fun w => by kernel_rfl, fun w => by kernel_rfl, fun w => by kernel_rfl, by kernel_rfl, fun w => by kernel_rfl, fun w => by kernel_rfl, fun w => by kernel_rfl, by kernel_rfl, fun w => by kernel_rfl, fun w => by kernel_rfl, fun w => by kernel_rfl, by kernel_rfl, fun w => by kernel_rfl, fun w => by kernel_rfl, fun w => by kernel_rfl, by kernel_rfl, fun w => by kernel_rfl, fun w => by kernel_rfl, fun w => by kernel_rfl, by kernel_rfl, fun w => by kernel_rfl, fun w => by kernel_rfl, fun w => by kernel_rfl⟩
theorem repExtra : Builder.Extra PG repRen := { sizeBuilder := by kernel_rfl, liesBuilder := by kernel_rfl, t5 := repLays.t5, a5 := repLays.a5, z5 := repLays.z5, v5 := repLays.v5, infoByte := by kernel_rfl, cellsByte := by kernel_rfl, sizeByte := by kernel_rfl, neB5 := by decide }
theorem repF : repRen.f 105 = FN.strings_Repeat := by kernel_rfl
end Go.Proofs.YtgldgabefiialaaGreat.H
namespace Go.Proofs.YtgldgabefiialaaGreat.H
open Go Go.RowKit
set_option linter.unusedVariables false
set_option maxRecDepth 100000
theorem Rel.below {B : RO} {F : Fr} {h : Heap} {w w' : World} (R : Rel B F h w) (b : Below w.heap.size w w') : Rel B F h w' := by
  obtain ⟨own, R⟩ := R
  obtain ⟨b1, b2, b3, b4, hk⟩ := b
  exact ⟨own, b1.trans R.os, b2.trans R.tape, b3.trans R.output, Nat.le_trans R.low b4, fun c o hc => ⟨(hk c (lt_of_get (R.fr c o hc).1)).trans (R.fr c o hc).1, (R.fr c o hc).2⟩,
    fun c o hc => ⟨(hk c (lt_of_get (R.ro c o hc).1)).trans (R.ro c o hc).1, (R.ro c o hc).2⟩, fun c o hc => ⟨(R.obj c o hc).1, (R.obj c o hc).2.keep (hk c (R.obj c o hc).2.lt) (fun k i h' => ⟨h', hk k (R.owned k _ h')⟩)⟩,
    fun k p hk' => Nat.lt_of_lt_of_le (R.owned k p hk') b4⟩
theorem Spec.below {P : Program} {B : RO} {f : FuncId} {args : Array Value} {h : Heap} {v0 : Value} {Q : Value → Heap → Prop} (hc : ∀ w, Calls P f args w fun e w' => e = .returned v0 ∧ Below w.heap.size w w') (hQ : Q v0 h) : Spec P B f args h Q := by
  intro F w R
  refine (hc w).mono ?_
  rintro e w' ⟨rfl, bel⟩
  exact ⟨v0, h, rfl, R.below bel, hQ⟩
section
variable {B : RO} {h h0 : Heap} {L : List (Option (Nat × AObj))} {b : Bool} {s : ByteArray}
theorem repeat_wp {n : Nat} (hn : n ≤ 100000) {Q : ByteArray → Heap → Prop} (hQ : Q (ba (List.replicate n 0)) h) : C_strings_Repeat B (ByteArray.mk #[0]) (n : Int) h Q := by
  unfold C_strings_Repeat
  refine Spec.below (v0 := .string (ba (List.replicate n 0))) (fun w => ?_) ⟨_, rfl, hQ⟩
  have hc := Any.strings_Repeat repLays repExtra (ByteArray.mk #[0]) n w (by omega) (by show 1 * n ≤ _; omega)
  rw [repF] at hc
  refine hc.mono fun e w' ⟨he, hb⟩ => ⟨?_, hb⟩
  rw [he]
  have := Lib.repeatL_replicate 0 1 n
  rw [Nat.mul_one] at this
  have e1 : (ByteArray.mk #[0]).data.toList = List.replicate 1 0 := rfl
  rw [e1, this]; rfl
theorem cut_in {s : ByteArray} {n : Nat} (h : n ≤ s.size) : s.extract 0 n = ba (cutT (bl s) n) := by
  refine bl_inj ?_
  rw [bl_extract, bl_ba, cutT, padT_self (by rw [bl_length]; exact h)]; simp
theorem cut_out {s : ByteArray} {n : Nat} (h : s.size ≤ n) : s ++ ba (List.replicate (n - s.size) 0) = ba (cutT (bl s) n) := by
  refine bl_inj ?_
  rw [bl_append, bl_ba, bl_ba, cutT, List.take_of_length_le (by rw [padT_len, bl_length]; omega), padT, bl_length]
theorem fcut_wp {n : Int} (hs : s.size ≤ 1000000) {Q : Bool → ByteArray → Heap → Prop} (hQ : ∀ h', Wk B h h' → Q (cutF (b, s) n).1 (cutF (b, s) n).2 h') : C_file_Cut B b s n h Q := by
  refine C_file_Cut.of ?_
  unfold S_file_Cut
  intro k7 a7 b7 h8 e8 k9 a9 b9 h10 e10
  have E := ((Keep.nil B h).made a7 b7 e8).made a9 b9 e10
  have E : Keep B h [some (k7, fiO (b, s)), some (k9, fiO (false, ByteArray.empty))] h10 := E
  have done : ¬ (b = true ∧ 0 ≤ n ∧ n ≤ 32) → ∃ b45 : Bool, ∃ s46 : ByteArray, CellsAt B h10 ⟨k7, 0, none⟩ 0 [(.bool b45), (.string s46)] ∧ ∃ h47 : Heap, StoresAt ⟨k9, 0, none⟩ h10 0 [(.bool b45), (.string s46)] h47 ∧
      ∃ b48 : Bool, ∃ s49 : ByteArray, CellsAt B h47 ⟨k9, 0, none⟩ 0 [(.bool b48), (.string s49)] ∧ Fin B h47 (Q (b48) s49) := fun hn => by
    unfold cutF at hQ
    rw [if_neg hn] at hQ
    refine ⟨b, s, ⟨E.cell 0 rfl (j := 0) rfl, E.cell 0 rfl (j := 1) rfl, trivial⟩, _, stores_whole (E.at 1 rfl) rfl (by simp) (by simp [isOne]) (by simp), ?_⟩
    have E1 := E.put (o' := fiO (b, s)) 1 rfl
    exact ⟨_, _, ⟨E1.cell 1 rfl (j := 0) rfl, E1.cell 1 rfl (j := 1) rfl, trivial⟩, Fin.of (hQ _ E1.w)⟩
  refine ⟨b, E.cell 0 rfl (j := 0) rfl, fun hb => ⟨fun hlt => done (by omega), fun hge => ⟨fun h32 => done (by omega), fun hlt => Fin.of ?_⟩⟩, fun hb => done (by simp [hb])⟩
  clear done
  have hin : b = true ∧ 0 ≤ n ∧ n ≤ 32 := ⟨hb, by omega, by omega⟩
  unfold cutF at hQ
  rw [if_pos hin] at hQ
  obtain ⟨k, rfl⟩ := Int.eq_ofNat_of_zero_le hin.2.1
  rw [Int.toNat_natCast] at hQ
  unfold S_file_Cut_J1
  refine ⟨s, E.cell 0 rfl (j := 1) rfl, fun hle => ⟨s, E.cell 0 rfl (j := 1) rfl, by omega, by omega, hle, ?_⟩, fun hgt => ⟨s, E.cell 0 rfl (j := 1) rfl, s, E.cell 0 rfl (j := 1) rfl, ?_⟩⟩
  · rw [show Int.toNat 0 = 0 from rfl, Int.toNat_natCast, cut_in (by omega)]
    refine ⟨_, stores_whole (E.at 1 rfl) rfl (by simp) (by simp [isOne]) (by simp), ?_⟩
    have E1 := E.put (o' := fiO (true, ba (cutT (bl s) k))) 1 rfl
    exact ⟨_, _, ⟨E1.cell 1 rfl (j := 0) rfl, E1.cell 1 rfl (j := 1) rfl, trivial⟩, Fin.of (hQ _ E1.w)⟩
  · have e1 : IntKind.wrap .i64 ((k : Int) - (s.size : Nat)) = ((k - s.size : Nat) : Int) := by rw [w64 (by omega) (by omega)]; omega
    rw [e1]
    refine repeat_wp (by omega) ⟨E.cell 0 rfl (j := 1) rfl, E.cell 0 rfl (j := 1) rfl, by rw [ba_size, List.length_replicate]; omega, ?_⟩
    rw [cut_out (by omega)]
    refine ⟨_, stores_whole (E.at 1 rfl) rfl (by simp) (by simp [isOne]) (by simp), ?_⟩
    have E1 := E.put (o' := fiO (true, ba (cutT (bl s) k))) 1 rfl
    exact ⟨_, _, ⟨E1.cell 1 rfl (j := 0) rfl, E1.cell 1 rfl (j := 1) rfl, trivial⟩, Fin.of (hQ _ E1.w)⟩
theorem byteAt_f {s : ByteArray} {i : Nat} (h : i < s.size) : ∃ b, (bl s)[i]? = some b ∧ byteAt s i = ((b.toNat : Nat) : Int) := by
  refine ⟨s[i], ?_, by unfold byteAt; rw [dif_pos h]⟩
  unfold bl
  have : i < s.data.toList.length := by simpa using h
  rw [List.getElem?_eq_getElem this]
  simp [ByteArray.getElem_eq_getElem_data]
def atR (l : List UInt8) (i : Nat) : Int := match l[i]? with
  | some c => ((c.toNat : Nat) : Int)
  | none => -1
theorem atR_max (l : List UInt8) (i : Nat) : (if (0 : Int) > atR l i then (0 : Int) else atR l i) = (((byteOf l i).toNat : Nat) : Int) := by
  unfold atR byteOf
  cases l[i]? with
  | none => rfl
  | some c => simp only [Option.getD_some]; rw [if_neg (by omega)]
theorem refAt_wp {i : Nat} (hi : i ≤ 1000000) (hs : s.size ≤ 1000000) {Q : Int → Heap → Prop} (hQ : ∀ h', Wk B h h' → Q (atR (bl s) i) h') : C_countermandref09_At B b s i h Q := by
  refine C_countermandref09_At.of ?_
  unfold S_countermandref09_At
  intro k5 a5 b5 h6 e6
  have E : Keep B h [some (k5, frfO (b, s))] h6 := (Keep.nil B h).made a5 b5 e6
  refine ⟨fun ix m h' => ∃ j : Nat, ix = j ∧ m = s.size - j ∧ (j ≤ i ∨ s.size ≤ i) ∧ j ≤ s.size ∧ Keep B h [some (k5, frfO (b, s))] h', s.size, Fin.of ⟨0, rfl, rfl, by omega, by omega, E⟩, ?_⟩
  clear E
  rintro _ _ h8 ⟨j, rfl, rfl, hj, hjs, E⟩
  refine ⟨s, E.cell 0 rfl (j := 1) rfl, fun hlt => ⟨fun he => ⟨s, E.cell 0 rfl (j := 1) rfl, by omega, hlt, Fin.of ?_⟩, fun hne => Fin.of ⟨s.size - (j + 1), by omega, j + 1, by rw [w64 (by omega) (by omega)]; omega, rfl, by omega, by omega, E⟩⟩, fun hge => Fin.of ?_⟩
  · obtain ⟨c, h1, h2⟩ := byteAt_f (s := s) (i := j) (by omega)
    have hji : j = i := by omega
    subst hji
    rw [Int.toNat_natCast, h2, w64 (by omega) (by have := c.toNat_lt; omega)]
    have e3 : atR (bl s) j = ((c.toNat : Nat) : Int) := by rw [atR, h1]
    rw [← e3]
    exact hQ _ E.w
  · have e3 : atR (bl s) i = -1 := by rw [atR, List.getElem?_eq_none (by rw [bl_length]; omega)]
    rw [← e3]
    exact hQ _ E.w
theorem refPut_wp {at' v : Int} {c : UInt8} (hv : v = ((c.toNat : Nat) : Int)) (hs : s.size ≤ 100000) {Q : Bool → ByteArray → Heap → Prop} (hQ : ∀ h', Wk B h h' → Q (putF (b, s) at' c).1 (putF (b, s) at' c).2 h') : C_countermandref09_Put B b s at' v h Q := by
  refine C_countermandref09_Put.of ?_
  unfold S_countermandref09_Put
  intro k7 a7 b7 h8 e8 k9 a9 b9 h10 e10
  have E := ((Keep.nil B h).made a7 b7 e8).made a9 b9 e10
  have E : Keep B h [some (k7, frfO (b, s)), some (k9, frfO (false, ByteArray.empty))] h10 := E
  have done : ¬ (0 ≤ at' ∧ at' < 32) → ∃ b45 : Bool, ∃ s46 : ByteArray, CellsAt B h10 ⟨k7, 0, none⟩ 0 [(.bool b45), (.string s46)] ∧ ∃ h47 : Heap, StoresAt ⟨k9, 0, none⟩ h10 0 [(.bool b45), (.string s46)] h47 ∧
      ∃ b48 : Bool, ∃ s49 : ByteArray, CellsAt B h47 ⟨k9, 0, none⟩ 0 [(.bool b48), (.string s49)] ∧ Fin B h47 (Q (b48) s49) := fun hn => by
    unfold putF at hQ
    rw [if_neg hn] at hQ
    refine ⟨b, s, ⟨E.cell 0 rfl (j := 0) rfl, E.cell 0 rfl (j := 1) rfl, trivial⟩, _, stores_whole (E.at 1 rfl) rfl (by simp) (by simp [isOne]) (by simp), ?_⟩
    have E1 := E.put (o' := frfO (b, s)) 1 rfl
    exact ⟨_, _, ⟨E1.cell 1 rfl (j := 0) rfl, E1.cell 1 rfl (j := 1) rfl, trivial⟩, Fin.of (hQ _ E1.w)⟩
  refine ⟨fun hlt => done (by omega), fun hge => ⟨fun h32 => done (by omega), fun hlt => Fin.of ?_⟩⟩
  clear done
  have hin : 0 ≤ at' ∧ at' < 32 := by omega
  obtain ⟨k, rfl⟩ := Int.eq_ofNat_of_zero_le hin.1
  unfold putF at hQ
  rw [if_pos hin, Int.toNat_natCast] at hQ
  unfold S_countermandref09_Put_J1
  have hpl : (putT (bl s) k c).length = max s.size (k + 1) := by rw [putT_len, bl_length]
  refine ⟨fun t ix m h' => ∃ j : Nat, ix = j ∧ m = max s.size (k + 1) - j ∧ j ≤ max s.size (k + 1) ∧ t = ba ((putT (bl s) k c).take j) ∧ Keep B h [some (k7, frfO (b, s)), some (k9, frfO (false, ByteArray.empty))] h', _, Fin.of ⟨0, rfl, rfl, by omega, rfl, E⟩, ?_⟩
  clear E
  rintro _ _ _ h15 ⟨j, rfl, rfl, hj, rfl, E⟩
  have step : j < max s.size (k + 1) → S_countermandref09_Put_J2 B (k : Int) v k7 k9 (ba ((putT (bl s) k c).take j)) (j : Int) (max s.size (k + 1) - j) (fun t ix m h' => ∃ j : Nat, ix = j ∧ m = max s.size (k + 1) - j ∧ j ≤ max s.size (k + 1) ∧ t = ba ((putT (bl s) k c).take j) ∧ Keep B h [some (k7, frfO (b, s)), some (k9, frfO (false, ByteArray.empty))] h') h15 Q := fun hlt => by
    unfold S_countermandref09_Put_J2
    refine ⟨b, s, ⟨E.cell 0 rfl (j := 0) rfl, E.cell 0 rfl (j := 1) rfl, trivial⟩, refAt_wp (by omega) (by omega) fun h24 w => ?_⟩
    have E1 := E.wk w
    have last : ∀ (x : Int) (u : UInt8), x = ((u.toNat : Nat) : Int) → (putT (bl s) k c)[j]? = some u → S_countermandref09_Put_J3 B (k : Int) v k7 k9 (ba ((putT (bl s) k c).take j)) (j : Int) (max s.size (k + 1) - j) (fun t ix m h' => ∃ j : Nat, ix = j ∧ m = max s.size (k + 1) - j ∧ j ≤ max s.size (k + 1) ∧ t = ba ((putT (bl s) k c).take j) ∧ Keep B h [some (k7, frfO (b, s)), some (k9, frfO (false, ByteArray.empty))] h') x h24 Q := fun x u hx hu => by
      unfold S_countermandref09_Put_J3
      intro k29 a29 b29 h30 e30
      have E2 := E1.made a29 b29 e30
      refine one_string (u := u) E2.last ?_ ⟨_, rfl, ?_, Fin.of ⟨max s.size (k + 1) - (j + 1), by omega, j + 1, by rw [w64 (by omega) (by omega)]; omega, rfl, by omega, ?_, E2.take 2⟩⟩
      · rw [wu8, hx]; have := u.toNat_lt; omega
      · rw [ba_size, ba_size, List.length_take]; simp only [List.length_cons, List.length_nil]; omega
      · have e3 : (putT (bl s) k c).take (j + 1) = (putT (bl s) k c).take j ++ [u] := by
          obtain ⟨h5, h6⟩ := List.getElem?_eq_some_iff.1 hu
          rw [List.take_succ_eq_append_getElem h5, h6]
        rw [e3, ba_append]
    have hg := putT_get (l := bl s) (k := k) (i := j) (c := c) (by rw [bl_length]; exact hlt)
    refine ⟨fun he => Fin.of (last _ c (by rw [hv, w64 (by omega) (by have := c.toNat_lt; omega)]) ?_), fun hne => Fin.of (last _ (byteOf (bl s) j) (atR_max _ _) ?_)⟩
    · rw [if_pos (by omega)] at hg; exact hg
    · rw [if_neg (by omega)] at hg; exact hg
  refine ⟨s, E.cell 0 rfl (j := 1) rfl, fun hlt => Fin.of (step (by omega)), fun hge => ⟨fun hle => Fin.of (step (by omega)), fun hgt => ?_⟩⟩
  have : j = max s.size (k + 1) := by omega
  rw [List.take_of_length_le (by rw [hpl]; omega)]
  refine ⟨_, stores_whole (E.at 1 rfl) rfl (by simp) (by simp [isOne]) (by simp), ?_⟩
  have E1 := E.put (o' := frfO (true, ba (putT (bl s) k c))) 1 rfl
  exact ⟨_, _, ⟨E1.cell 1 rfl (j := 0) rfl, E1.cell 1 rfl (j := 1) rfl, trivial⟩, Fin.of (hQ _ E1.w)⟩
theorem refCut_wp {n : Int} (hs : s.size ≤ 100000) {Q : Bool → ByteArray → Heap → Prop} (hQ : ∀ h', Wk B h h' → Q (cutF (b, s) n).1 (cutF (b, s) n).2 h') : C_countermandref09_Cut B b s n h Q := by
  refine C_countermandref09_Cut.of ?_
  unfold S_countermandref09_Cut
  intro k7 a7 b7 h8 e8 k9 a9 b9 h10 e10
  have E := ((Keep.nil B h).made a7 b7 e8).made a9 b9 e10
  have E : Keep B h [some (k7, frfO (b, s)), some (k9, frfO (false, ByteArray.empty))] h10 := E
  have done : ¬ (b = true ∧ 0 ≤ n ∧ n ≤ 32) → ∃ b45 : Bool, ∃ s46 : ByteArray, CellsAt B h10 ⟨k7, 0, none⟩ 0 [(.bool b45), (.string s46)] ∧ ∃ h47 : Heap, StoresAt ⟨k9, 0, none⟩ h10 0 [(.bool b45), (.string s46)] h47 ∧
      ∃ b48 : Bool, ∃ s49 : ByteArray, CellsAt B h47 ⟨k9, 0, none⟩ 0 [(.bool b48), (.string s49)] ∧ Fin B h47 (Q (b48) s49) := fun hn => by
    unfold cutF at hQ
    rw [if_neg hn] at hQ
    refine ⟨b, s, ⟨E.cell 0 rfl (j := 0) rfl, E.cell 0 rfl (j := 1) rfl, trivial⟩, _, stores_whole (E.at 1 rfl) rfl (by simp) (by simp [isOne]) (by simp), ?_⟩
    have E1 := E.put (o' := frfO (b, s)) 1 rfl
    exact ⟨_, _, ⟨E1.cell 1 rfl (j := 0) rfl, E1.cell 1 rfl (j := 1) rfl, trivial⟩, Fin.of (hQ _ E1.w)⟩
  refine ⟨b, E.cell 0 rfl (j := 0) rfl, fun hb => ⟨fun hlt => done (by omega), fun hge => ⟨fun h32 => done (by omega), fun hlt => Fin.of ?_⟩⟩, fun hb => done (by simp [hb])⟩
  clear done
  have hin : b = true ∧ 0 ≤ n ∧ n ≤ 32 := ⟨hb, by omega, by omega⟩
  unfold cutF at hQ
  rw [if_pos hin] at hQ
  obtain ⟨k, rfl⟩ := Int.eq_ofNat_of_zero_le hin.2.1
  rw [Int.toNat_natCast] at hQ
  unfold S_countermandref09_Cut_J1
  refine ⟨fun t ix m h' => ∃ j : Nat, ix = j ∧ m = k - j ∧ j ≤ k ∧ t = ba ((cutT (bl s) k).take j) ∧ Keep B h [some (k7, frfO (b, s)), some (k9, frfO (false, ByteArray.empty))] h', _, Fin.of ⟨0, rfl, rfl, by omega, rfl, E⟩, ?_⟩
  clear E
  rintro _ _ _ h14 ⟨j, rfl, rfl, hj, rfl, E⟩
  refine ⟨fun hlt => ?_, fun hge => ?_⟩
  · refine ⟨b, s, ⟨E.cell 0 rfl (j := 0) rfl, E.cell 0 rfl (j := 1) rfl, trivial⟩, refAt_wp (by omega) (by omega) fun h24 w => ?_⟩
    have E1 := E.wk w
    intro k29 a29 b29 h30 e30
    have E2 := E1.made a29 b29 e30
    have hg := cutT_get (l := bl s) (n := k) (i := j) (by omega)
    rw [atR_max] at E2
    refine one_string (u := byteOf (bl s) j) E2.last ?_ ⟨_, rfl, ?_, Fin.of ⟨k - (j + 1), by omega, j + 1, by rw [w64 (by omega) (by omega)]; omega, rfl, by omega, ?_, E2.take 2⟩⟩
    · rw [wu8]; have := (byteOf (bl s) j).toNat_lt; omega
    · rw [ba_size, ba_size, List.length_take]; simp only [List.length_cons, List.length_nil]; omega
    · have e3 : (cutT (bl s) k).take (j + 1) = (cutT (bl s) k).take j ++ [byteOf (bl s) j] := by
        obtain ⟨h5, h6⟩ := List.getElem?_eq_some_iff.1 hg
        rw [List.take_succ_eq_append_getElem h5, h6]
      rw [e3, ba_append]
  · have : j = k := by omega
    rw [List.take_of_length_le (by rw [cutT_len]; omega)]
    refine ⟨_, stores_whole (E.at 1 rfl) rfl (by simp) (by simp [isOne]) (by simp), ?_⟩
    have E1 := E.put (o' := frfO (true, ba (cutT (bl s) k))) 1 rfl
    exact ⟨_, _, ⟨E1.cell 1 rfl (j := 0) rfl, E1.cell 1 rfl (j := 1) rfl, trivial⟩, Fin.of (hQ _ E1.w)⟩
end
end Go.Proofs.YtgldgabefiialaaGreat.H
namespace Go.Proofs.YtgldgabefiialaaGreat.H
open Go Go.RowKit
set_option linter.unusedVariables false
set_option maxRecDepth 100000
def inR (n : Int) : Bool := decide (0 ≤ n ∧ n < 6)
theorem inR_t {n : Int} (h : inR n = true) : 0 ≤ n ∧ n < 6 := of_decide_eq_true h
theorem inR_f {n : Int} (h : inR n = false) : ¬ (0 ≤ n ∧ n < 6) := of_decide_eq_false h
def upS (l : FL) (d : DFL) (n : Int) (f : FileS) : DFL := if inR n = true then putS l d n f else d
def f0 : FileS := (false, ByteArray.empty)
structure SOk (l : FL) (d : DFL) : Prop where
  s : SortD d
  k : ∀ x ∈ d, (0 ≤ x.1 ∧ x.1 < 6) ∧ goodF x.2.1 x.2.2 = true
  l6 : l.length = 6
  g : ∀ y ∈ l, goodF y.1.1 y.1.2 = true
theorem sort_len6 : ∀ (d : DFL) (a : Nat), SortD d → (∀ x ∈ d, (a : Int) ≤ x.1 ∧ x.1 < 6) → d.length ≤ 6 - a := by
  intro d
  induction d with
  | nil => intro a _ _; simp
  | cons x d ih =>
    intro a s h
    obtain ⟨h1, h2⟩ := h x (by simp)
    obtain ⟨s1, s2⟩ := List.pairwise_cons.1 s
    have := ih (a + 1) s2 (fun y hy => ⟨by have := s1 y hy; omega, (h y (by simp [hy])).2⟩)
    simp only [List.length_cons]; omega
theorem SOk.len {l : FL} {d : DFL} (o : SOk l d) : d.length ≤ 6 := sort_len6 d 0 o.s fun x hx => (o.k x hx).1
theorem atD_mem {d : DFL} {n : Int} {f : FileS} (h : atD d n = some f) : ∃ x ∈ d, x.1 = n ∧ x.2 = f := by
  unfold atD at h
  cases hf : d.find? (fun x => x.1 == n) with
  | none => rw [hf] at h; cases h
  | some x =>
    rw [hf] at h
    have h1 := List.find?_some hf
    exact ⟨x, List.mem_of_find?_eq_some hf, by simpa using h1, by simpa using h⟩
theorem SOk.fat {l : FL} {d : DFL} (o : SOk l d) (n : Int) : goodF (fileAt l n).1.1 (fileAt l n).1.2 = true := by
  by_cases h : 0 ≤ n ∧ n < (l.length : Int)
  · rw [fileAt_in h.1 (by omega)]; exact o.g _ (List.getElem_mem _)
  · rw [fileAt_out h]; rfl
theorem SOk.good {l : FL} {d : DFL} (o : SOk l d) (n : Int) : goodF (getS l d n).1.1 (getS l d n).1.2 = true := by
  cases h : atD d n with
  | none => rw [getS_none h]; exact o.fat n
  | some f =>
    rw [getS_some h]
    obtain ⟨x, hx, _, rfl⟩ := atD_mem h
    exact (o.k x hx).2
theorem goodF_size {b : Bool} {s : ByteArray} (h : goodF b s = true) : s.size ≤ 32 := by unfold goodF at h; simp at h; exact h.1
theorem goodF_put {f : FileS} (h : goodF f.1 f.2 = true) (n : Int) (c : UInt8) : goodF (putF f n c).1 (putF f n c).2 = true := by
  unfold putF
  split
  · rename_i hn
    have := goodF_size h
    unfold goodF
    rw [ba_size, putT_len, bl_length, decide_eq_true (by omega)]; rfl
  · exact h
theorem goodF_cut {f : FileS} (h : goodF f.1 f.2 = true) (n : Int) : goodF (cutF f n).1 (cutF f n).2 = true := by
  unfold cutF
  split
  · rename_i hn
    unfold goodF
    rw [ba_size, cutT_len, decide_eq_true (by omega)]; rfl
  · exact h
theorem goodF_make {f : FileS} (h : goodF f.1 f.2 = true) : goodF true f.2 = true := by
  have := goodF_size h
  unfold goodF; rw [decide_eq_true this]; rfl
theorem SOk.up {l : FL} {d : DFL} (o : SOk l d) {n : Int} {f : FileS} (g : goodF f.1 f.2 = true) : SOk l (upS l d n f) := by
  unfold upS putS
  split
  · rename_i hn
    have hn := inR_t hn
    split
    · exact o
    · refine ⟨o.s.ins, fun x hx => ?_, o.l6, o.g⟩
      rcases insD_mem hx with rfl | hx
      · exact ⟨hn, g⟩
      · exact o.k x hx
  · exact o
def renS (l : FL) (d : DFL) (a b : Int) : DFL := if (inR a && inR b && (getS l d a).1.1 && decide (a ≠ b)) = true then putS l (putS l d b (getS l d a).1) a f0 else d
theorem SOk.ren {l : FL} {d : DFL} (o : SOk l d) (a b : Int) : SOk l (renS l d a b) := by
  unfold renS
  split
  · rename_i h
    simp only [Bool.and_eq_true] at h
    have h1 := o.up (n := b) (o.good a)
    have h2 := h1.up (n := a) (f := f0) rfl
    unfold upS at h1 h2
    rw [if_pos h.1.1.2] at h1 h2
    rw [if_pos h.1.1.1] at h2
    exact h2
  · exact o
section
variable {B : RO} {h0 h h' : Heap} {L : List (Option (Nat × AObj))} {r rd : Option (Nat × AObj)} {v vd : Value} {l z : FL} {d : DFL} {n : Int} {x : ShI} {f : FileS}
theorem Keep.nP {M : List (Option (Nat × AObj))} {k : Nat} {o : AObj} (E : Keep B h0 (L ++ M) h) (hk : h k = none) (hb : B k = none) (e : h' = h.set k o) : Keep B h0 ((L ++ [some (k, o)]) ++ M) h' := by
  refine (E.made hk hb e).remap (fun j => if j < L.length then j else if j = L.length then L.length + M.length else j - 1) (fun j y hy => ?_) (fun i j hi hj e => ?_)
  · by_cases h1 : j < L.length
    · simp only [if_pos h1]
      rw [List.append_assoc, List.getElem?_append_left h1] at hy
      rw [List.append_assoc, List.getElem?_append_left h1]; exact hy
    · simp only [if_neg h1]
      by_cases h2 : j = L.length
      · simp only [if_pos h2]
        subst h2
        rw [List.append_assoc, List.getElem?_append_right (Nat.le_refl _), Nat.sub_self] at hy
        rw [List.getElem?_append_right (by rw [List.length_append]; omega), List.length_append, Nat.sub_self]; exact hy
      · simp only [if_neg h2]
        rw [List.append_assoc, List.getElem?_append_right (by omega), List.getElem?_append_right (by simp only [List.length_cons, List.length_nil]; omega)] at hy
        refine up_app _ ?_
        rw [List.getElem?_append_right (by omega), show j - 1 - L.length = j - L.length - [some (k, o)].length by simp only [List.length_cons, List.length_nil]; omega]; exact hy
  · simp only [List.length_append, List.length_cons, List.length_nil] at hi hj
    split at e <;> split at e <;> (try split at e) <;> (try split at e) <;> omega
theorem Keep.dP {M : List (Option (Nat × AObj))} {y : Option (Nat × AObj)} (E : Keep B h0 ((L ++ [y]) ++ M) h) : Keep B h0 (L ++ M) h := by
  rw [List.append_assoc] at E; exact E.dropMid
theorem sputG_wp {Q : Bool → Heap → Prop} (E : Keep B h0 (L ++ x.m vd rd) h) (R : FRow x.rt x.vt l) (Rd : DRow_file_File rd vd d) (o : SOk l d)
    (hQ : ∀ vd' rd' h', DRow_file_File rd' vd' (upS l d n f) → Keep B h0 (L ++ x.m vd' rd') h' → Q (inR n) h') : C_sheet_Sheet_put B (some ⟨x.ks, 0, none⟩) (some ⟨x.kT, 0, none⟩) n f.1 f.2 h Q := by
  have hl := o.len
  by_cases hn : inR n = true
  · unfold upS at hQ
    rw [hn, if_pos rfl] at hQ
    exact sput_wp (f := f) E R Rd o.s (by omega) (inR_t hn) hQ
  · have hn : inR n = false := by simpa using hn
    have hn' := inR_f hn
    unfold upS at hQ
    rw [hn, if_neg (by decide)] at hQ
    refine C_sheet_Sheet_put.of ?_
    unfold S_sheet_Sheet_put
    intro k7 a7 b7 h8 e8
    have E1 := (E.made a7 b7 e8).pop
    exact ⟨fun e => (by cases e), fun _ => ⟨fun hlt => Fin.of (hQ _ _ _ Rd E1), fun hge => ⟨fun h6 => Fin.of (hQ _ _ _ Rd E1), fun hlt => by omega⟩⟩⟩
theorem swrite_wp {a : Int} {w : Int} {c : UInt8} (hw : w = ((c.toNat : Nat) : Int)) {Q : Bool → Heap → Prop} (E : Keep B h0 (L ++ x.m vd rd) h) (R : FRow x.rt x.vt l) (Rd : DRow_file_File rd vd d) (o : SOk l d)
    (hQ : ∀ vd' rd' h', DRow_file_File rd' vd' (upS l d n (putF (getS l d n).1 a c)) → Keep B h0 (L ++ x.m vd' rd') h' → Q (inR n) h') : C_sheet_Sheet_Write B (some ⟨x.ks, 0, none⟩) (some ⟨x.kT, 0, none⟩) n a w h Q := by
  have hl := o.len
  refine C_sheet_Sheet_Write.of ?_
  unfold S_sheet_Sheet_Write
  refine sget_wp E R Rd o.s (by omega) fun h6 E1 => ?_
  intro k10 a10 b10 h11 e11
  have E2 := E1.nM a10 b10 e11
  refine ⟨_, stores_whole (E2.gM 6 rfl) rfl (by simp) (by simp [isOne]) (by simp), ?_⟩
  have E3 := E2.pM (o' := fO (getS l d n).1) 6 rfl
  refine ⟨_, _, ⟨E3.cM 6 rfl (i := 0) rfl, E3.cM 6 rfl (i := 1) rfl, trivial⟩, fput_wp hw (by have := goodF_size (o.good n); omega) fun h14 wk => ?_⟩
  have E4 := (E3.wk wk).tM 6
  exact sputG_wp (f := putF (getS l d n).1 a c) E4 R Rd o fun v1 r1 h17 R1 E5 => Fin.of (hQ v1 r1 _ R1 E5)
theorem scut_wp {a : Int} {Q : Bool → Heap → Prop} (E : Keep B h0 (L ++ x.m vd rd) h) (R : FRow x.rt x.vt l) (Rd : DRow_file_File rd vd d) (o : SOk l d)
    (hQ : ∀ vd' rd' h', DRow_file_File rd' vd' (upS l d n (cutF (getS l d n).1 a)) → Keep B h0 (L ++ x.m vd' rd') h' → Q (inR n) h') : C_sheet_Sheet_Cut B (some ⟨x.ks, 0, none⟩) (some ⟨x.kT, 0, none⟩) n a h Q := by
  have hl := o.len
  refine C_sheet_Sheet_Cut.of ?_
  unfold S_sheet_Sheet_Cut
  refine sget_wp E R Rd o.s (by omega) fun h6 E1 => ?_
  intro k10 a10 b10 h11 e11
  have E2 := E1.nM a10 b10 e11
  refine ⟨_, stores_whole (E2.gM 6 rfl) rfl (by simp) (by simp [isOne]) (by simp), ?_⟩
  have E3 := E2.pM (o' := fO (getS l d n).1) 6 rfl
  refine ⟨_, _, ⟨E3.cM 6 rfl (i := 0) rfl, E3.cM 6 rfl (i := 1) rfl, trivial⟩, fcut_wp (by have := goodF_size (o.good n); omega) fun h14 wk => ?_⟩
  have E4 := (E3.wk wk).tM 6
  exact sputG_wp (f := cutF (getS l d n).1 a) E4 R Rd o fun v1 r1 h17 R1 E5 => Fin.of (hQ v1 r1 _ R1 E5)
theorem screateG_wp {Q : Bool → Heap → Prop} (E : Keep B h0 (L ++ x.m vd rd) h) (R : FRow x.rt x.vt l) (Rd : DRow_file_File rd vd d) (o : SOk l d)
    (hQ : ∀ vd' rd' h', DRow_file_File rd' vd' (upS l d n (true, (getS l d n).1.2)) → Keep B h0 (L ++ x.m vd' rd') h' → Q (inR n) h') : C_sheet_Sheet_Create B (some ⟨x.ks, 0, none⟩) (some ⟨x.kT, 0, none⟩) n h Q := by
  have hl := o.len
  refine C_sheet_Sheet_Create.of ?_
  unfold S_sheet_Sheet_Create
  refine sget_wp E R Rd o.s (by omega) fun h5 E1 => ?_
  intro k9 a9 b9 h10 e10
  have E2 := E1.nM a9 b9 e10
  refine ⟨_, stores_whole (E2.gM 6 rfl) rfl (by simp) (by simp [isOne]) (by simp), ?_⟩
  have E3 := E2.pM (o' := fO (getS l d n).1) 6 rfl
  refine ⟨_, _, ⟨E3.cM 6 rfl (i := 0) rfl, E3.cM 6 rfl (i := 1) rfl, trivial⟩, make_wp fun h14 w => ?_⟩
  have E4 := (E3.wk w).tM 6
  exact sputG_wp (f := (true, (getS l d n).1.2)) E4 R Rd o fun v1 r1 h17 R1 E5 => Fin.of (hQ v1 r1 _ R1 E5)
theorem sremove_wp {Q : Bool → Heap → Prop} (E : Keep B h0 (L ++ x.m vd rd) h) (R : FRow x.rt x.vt l) (Rd : DRow_file_File rd vd d) (o : SOk l d)
    (hQ : ∀ vd' rd' h', DRow_file_File rd' vd' (upS l d n f0) → Keep B h0 (L ++ x.m vd' rd') h' → Q (inR n) h') : C_sheet_Sheet_Remove B (some ⟨x.ks, 0, none⟩) (some ⟨x.kT, 0, none⟩) n h Q := by
  refine C_sheet_Sheet_Remove.of ?_
  unfold S_sheet_Sheet_Remove
  exact sputG_wp (f := f0) E R Rd o fun v1 r1 h17 R1 E5 => Fin.of (hQ v1 r1 _ R1 E5)
theorem srenameG_wp {a b : Int} {Q : Bool → Heap → Prop} (E : Keep B h0 (L ++ x.m vd rd) h) (R : FRow x.rt x.vt l) (Rd : DRow_file_File rd vd d) (o : SOk l d)
    (hQ : ∀ vd' rd' h', DRow_file_File rd' vd' (renS l d a b) → Keep B h0 (L ++ x.m vd' rd') h' → Q (inR a && inR b) h') : C_sheet_Sheet_Rename B (some ⟨x.ks, 0, none⟩) (some ⟨x.kT, 0, none⟩) a b h Q := by
  have hl := o.len
  refine C_sheet_Sheet_Rename.of ?_
  unfold S_sheet_Sheet_Rename
  refine sget_wp E R Rd o.s (by omega) fun h6 E1 => ?_
  intro k10 a10 b10 h11 e11
  have E2 := E1.nM a10 b10 e11
  refine ⟨_, stores_whole (E2.gM 6 rfl) rfl (by simp) (by simp [isOne]) (by simp), fun e => (by cases e), fun _ => ?_⟩
  have E3 := E2.pM (o' := fO (getS l d a).1) 6 rfl
  have out : (inR a && inR b) = false → S_sheet_Sheet_Rename_J2 B (some ⟨x.ks, 0, none⟩) (some ⟨x.kT, 0, none⟩) a b k10 true (h11.set k10 (fO (getS l d a).1)) Q := fun hn => by
    unfold S_sheet_Sheet_Rename_J2
    have hd : renS l d a b = d := by unfold renS; rw [if_neg (by rw [hn]; simp)]
    rw [hd, hn] at hQ
    exact ⟨fun _ => Fin.of (hQ _ _ _ Rd (E3.tM 6)), fun e => by cases e⟩
  have nota : ¬ (0 ≤ a ∧ a < 6) → (inR a && inR b) = false := fun hn => by unfold inR; rw [decide_eq_false hn]; rfl
  have notb : ¬ (0 ≤ b ∧ b < 6) → (inR a && inR b) = false := fun hn => by unfold inR; rw [decide_eq_false hn (p := 0 ≤ b ∧ b < 6), Bool.and_false]
  refine ⟨fun hn => Fin.of (out (nota (by omega))), fun h1 => ⟨fun hn => Fin.of (out (nota (by omega))), fun h2 => ⟨fun hn => Fin.of (out (notb (by omega))), fun h3 => ⟨fun hn => Fin.of (out (notb (by omega))), fun h4 => Fin.of ?_⟩⟩⟩⟩
  have ha : inR a = true := decide_eq_true (by omega)
  have hb : inR b = true := decide_eq_true (by omega)
  rw [ha, hb] at hQ
  clear out nota notb
  unfold S_sheet_Sheet_Rename_J2
  refine ⟨fun e => (by cases e), fun _ => ⟨_, E3.cM 6 rfl (i := 0) rfl, fun hi => ⟨fun e => Fin.of ?_, fun hne => Fin.of ?_⟩, fun hi => Fin.of ?_⟩⟩
  · have hd : renS l d a b = d := by unfold renS; rw [if_neg (by simp [e])]
    rw [hd] at hQ
    exact hQ _ _ _ Rd (E3.tM 6)
  · have hd : renS l d a b = upS l (upS l d b (getS l d a).1) a f0 := by unfold renS upS; rw [ha, hb, hi]; simp [hne]
    rw [hd] at hQ
    unfold S_sheet_Sheet_Rename_J1
    refine ⟨_, _, ⟨E3.cM 6 rfl (i := 0) rfl, E3.cM 6 rfl (i := 1) rfl, trivial⟩, ?_⟩
    refine sputG_wp (f := (getS l d a).1) (E3.tM 6) R Rd o fun v1 r1 h17 R1 E5 => ?_
    exact sputG_wp (f := f0) E5 R R1 (o.up (o.good a)) fun v2 r2 h19 R2 E6 => Fin.of (by rw [ha] at *; exact hQ v2 r2 _ R2 E6)
  · have hd : renS l d a b = d := by unfold renS; rw [if_neg (by rw [hi]; simp)]
    rw [hd] at hQ
    exact hQ _ _ _ Rd (E3.tM 6)
end
end Go.Proofs.YtgldgabefiialaaGreat.H
namespace Go.Proofs.YtgldgabefiialaaGreat.H
open Go Go.RowKit
set_option linter.unusedVariables false
set_option maxRecDepth 100000
def fcl (f : FileS) : List Value := [.bool f.1, .string f.2]
theorem fcl_len (f : FileS) : (fcl f).length = 2 := rfl
def wcl (b : Bool) : List Value := [.bool b]
theorem wcl_len (b : Bool) : (wcl b).length = 1 := rfl
def fsOf (l : FL) (d : DFL) : List FileS := (List.range 6).map fun i => (getS l d (i : Nat)).1
def wsOf (l : FL) (d : DFL) : List Bool := (List.range 6).map fun i => (getS l d (i : Nat)).2
theorem fsOf_len (l : FL) (d : DFL) : (fsOf l d).length = 6 := by simp [fsOf]
theorem wsOf_len (l : FL) (d : DFL) : (wsOf l d).length = 6 := by simp [wsOf]
theorem fsOf_get {l : FL} {d : DFL} {n : Nat} (h : n < 6) : (fsOf l d)[n]? = some (getS l d n).1 := by
  unfold fsOf; rw [List.getElem?_map, List.getElem?_range h]; rfl
theorem wsOf_get {l : FL} {d : DFL} {n : Nat} (h : n < 6) : (wsOf l d)[n]? = some (getS l d n).2 := by
  unfold wsOf; rw [List.getElem?_map, List.getElem?_range h]; rfl
theorem fsOf_ins {l : FL} {d : DFL} {n : Nat} {f : FileS} (h : n < 6) : fsOf l (insD d n f) = (fsOf l d).set n f := by
  apply List.ext_getElem?
  intro i
  by_cases hi : i < 6
  · rw [fsOf_get hi, getS_ins]
    by_cases e : i = n
    · subst e; rw [if_pos rfl, List.getElem?_set_self (by rw [fsOf_len]; exact h)]
    · rw [if_neg (by omega), List.getElem?_set_ne (fun x => e x.symm), fsOf_get hi]
  · rw [List.getElem?_eq_none (by rw [fsOf_len]; omega), List.getElem?_eq_none (by rw [List.length_set, fsOf_len]; omega)]
theorem wsOf_ins {l : FL} {d : DFL} {n : Nat} {f : FileS} (h : n < 6) : wsOf l (insD d n f) = (wsOf l d).set n true := by
  apply List.ext_getElem?
  intro i
  by_cases hi : i < 6
  · rw [wsOf_get hi, getS_ins]
    by_cases e : i = n
    · subst e; rw [if_pos rfl, List.getElem?_set_self (by rw [wsOf_len]; exact h)]
    · rw [if_neg (by omega), List.getElem?_set_ne (fun x => e x.symm), wsOf_get hi]
  · rw [List.getElem?_eq_none (by rw [wsOf_len]; omega), List.getElem?_eq_none (by rw [List.length_set, wsOf_len]; omega)]
def docC (l : FL) (fs : List FileS) (ws : List Bool) : List Value := filesC l ++ fs.flatMap fcl ++ ws.flatMap wcl
def docO (l : FL) (d : DFL) : AObj := .vec TY.countermandref14_Sheet (plains (docC l (fsOf l d) (wsOf l d))) 30
section
variable {B : RO} {h0 h h' : Heap} {L : List (Option (Nat × AObj))} {l : FL} {d : DFL} {q kd : Nat} {n : Nat} {f : FileS}
theorem Keep.mid {α : Type} {cells : α → List Value} {c k nn i o : Nat} {t : TypeId} {pre post : List Value} {xs : List α} {x : α} (E : Keep B h0 L h) (hc : ∀ x, (cells x).length = c) (hq : L[q]? = some (some (k, .vec t (plains (pre ++ xs.flatMap cells ++ post)) nn))) (hx : xs[i]? = some x) (ho : o = pre.length + i * c) :
    CellsAt B h ⟨k, o, none⟩ 0 (cells x) := by
  subst ho
  refine CellsAt.of_vec _ 0 (E.at q hq) fun j y hy => ?_
  have hj := (List.getElem?_eq_some_iff.1 hy).1
  have hi := (List.getElem?_eq_some_iff.1 hx).1
  rw [hc] at hj
  have h1 := flatMap_at hc xs i x j y hx hy
  have h2 := (List.getElem?_eq_some_iff.1 h1).1
  rw [Nat.add_zero]
  refine plains_get_some ?_
  rw [List.getElem?_append_left (by rw [List.length_append]; omega), List.getElem?_append_right (by omega), show pre.length + i * c + j - pre.length = i * c + j by omega]; exact h1
theorem Keep.midSet {α : Type} {cells : α → List Value} {c k nn i o : Nat} {t : TypeId} {pre post : List Value} {xs : List α} (x : α) (E : Keep B h0 L h) (hc : ∀ x, (cells x).length = c) (hone : ∀ y ∈ cells x, isOne y = true) (hq : L[q]? = some (some (k, .vec t (plains (pre ++ xs.flatMap cells ++ post)) nn))) (hi : i < xs.length) (ho : o = pre.length + i * c) (hn : pre.length + xs.length * c ≤ nn) :
    ∃ h', StoresAt ⟨k, o, none⟩ h 0 (cells x) h' ∧ Keep B h0 (L.set q (some (k, .vec t (plains (pre ++ (xs.set i x).flatMap cells ++ post)) nn))) h' := by
  subst ho
  have h1 : i * c + c ≤ xs.length * c := by
    have : (i + 1) * c ≤ xs.length * c := Nat.mul_le_mul_right _ hi
    rw [Nat.add_mul, Nat.one_mul] at this; exact this
  have e1 : pre ++ xs.flatMap cells ++ post = (pre ++ (xs.take i).flatMap cells) ++ (cells xs[i] ++ ((xs.drop (i + 1)).flatMap cells ++ post)) := by
    rw [flatMap_splitR xs i hi]; simp only [List.append_assoc]
  have l1 : (pre ++ (xs.take i).flatMap cells).length = pre.length + i * c := by
    rw [List.length_append, flatMap_length hc, List.length_take, Nat.min_eq_left (by omega)]
  rw [e1] at hq
  obtain ⟨h', s1, E1⟩ := E.storesV q hq (cells x) hone _ l1 (by rw [hc]; omega)
  refine ⟨h', s1, ?_⟩
  have e2 : (cells xs[i] ++ ((xs.drop (i + 1)).flatMap cells ++ post)).drop (cells x).length = (xs.drop (i + 1)).flatMap cells ++ post := by
    rw [hc, ← hc xs[i], List.drop_left]
  rw [e2] at E1
  rw [flatMap_setR x xs i hi]
  simp only [List.append_assoc] at E1 ⊢
  exact E1
theorem doc_file (E : Keep B h0 L h) (h6 : l.length = 6) (hq : L[q]? = some (some (kd, docO l d))) (hn : n < 6) : CellsAt B h (Addr.add (Addr.add ⟨kd, 0, none⟩ 12) (n * 2)) 0 [.bool (getS l d n).1.1, .string (getS l d n).1.2] := by
  rw [addr_more, addr_more, Nat.zero_add]
  exact E.mid (cells := fcl) fcl_len hq (fsOf_get hn) (by rw [filesC_len]; omega)
theorem refput_wp {Q : Heap → Prop} (E : Keep B h0 L h) (h6 : l.length = 6) (hq : L[q]? = some (some (kd, docO l d))) (hn : n < 6)
    (hQ : ∀ h', Keep B h0 (L.set q (some (kd, docO l (putS l d n f)))) h' → Q h') : C_countermandref14_Sheet_put B (some ⟨kd, 0, none⟩) (n : Int) f.1 f.2 h Q := by
  refine C_countermandref14_Sheet_put.of ?_
  unfold S_countermandref14_Sheet_put
  intro k5 a5 b5 h6' e6
  have E1 := E.made (o := frfO f) a5 b5 e6
  have hl := (List.getElem?_eq_some_iff.1 hq).1
  rw [Int.toNat_natCast]
  refine ⟨_, rfl, by omega, by omega, _, _, doc_file E1 h6 (up_app _ hq) hn, _, _, ⟨cellH_vec E1.last rfl, cellH_vec E1.last rfl, trivial⟩, fun he => ?_, fun hne => ?_⟩
  · have hf : (getS l d n).1 = f := eqL_file_eq he
    unfold putS at hQ
    rw [if_pos hf] at hQ
    refine Fin.of (hQ _ ?_)
    obtain ⟨_, hq2⟩ := List.getElem?_eq_some_iff.1 hq
    rw [← hq2, List.set_getElem_self]; exact E1.pop
  · have hf : ¬ (getS l d n).1 = f := fun e => hne (by rw [← e]; exact eqL_refl _ _)
    unfold putS at hQ
    rw [if_neg hf] at hQ
    refine ⟨_, _, ⟨cellH_vec E1.last rfl, cellH_vec E1.last rfl, trivial⟩, _, rfl, by omega, by omega, ?_⟩
    rw [addr_more, addr_more, Nat.zero_add]
    obtain ⟨h18, st, E2⟩ := E1.midSet (cells := fcl) f fcl_len (by simp [fcl, isOne]) (up_app _ hq) (i := n) (o := 12 + n * 2) (by rw [fsOf_len]; exact hn) (by rw [filesC_len]; omega) (by rw [filesC_len, fsOf_len]; omega)
    rw [List.set_append_left _ _ hl] at E2
    refine ⟨h18, st, _, rfl, by omega, by omega, ?_⟩
    rw [addr_more, addr_more, Nat.zero_add]
    have hq2 : (L.set q (some (kd, .vec TY.countermandref14_Sheet (plains (filesC l ++ ((fsOf l d).set n f).flatMap fcl ++ (wsOf l d).flatMap wcl)) 30)) ++ [some (k5, frfO f)])[q]? = some (some (kd, .vec TY.countermandref14_Sheet (plains ((filesC l ++ ((fsOf l d).set n f).flatMap fcl) ++ (wsOf l d).flatMap wcl ++ [])) 30)) := by
      rw [List.append_nil]; exact up_app _ (List.getElem?_set_self hl)
    obtain ⟨h21, st2, E3⟩ := E2.midSet (cells := wcl) true wcl_len (by simp [wcl, isOne]) hq2 (i := n) (o := 24 + n * 1) (by rw [wsOf_len]; exact hn) (by rw [List.length_append, filesC_len, flatMap_length fcl_len, List.length_set, fsOf_len]; omega) (by rw [List.length_append, filesC_len, flatMap_length fcl_len, List.length_set, fsOf_len, wsOf_len]; omega)
    rw [List.set_append_left _ _ (by rw [List.length_set]; exact hl), List.set_set, List.append_nil, ← fsOf_ins hn, ← wsOf_ins hn] at E3
    obtain ⟨_, w, e1, e2⟩ := st2
    obtain rfl : h21 = w := e2
    exact ⟨h21, e1, Fin.of (hQ _ E3.pop)⟩
theorem is14' {n : Int} {Q : Bool → Heap → Prop} (hQ : Q (inR n) h) : C_countermandref14_Is B n h Q := is14_wp (by
  have : decide (0 ≤ n ∧ n ≤ 5) = inR n := by unfold inR; simp only [decide_eq_decide]; omega
  rw [this]; exact hQ)
theorem set_same {q : Nat} (hq : L[q]? = some (some (kd, docO l d))) : L.set q (some (kd, docO l d)) = L := by
  obtain ⟨_, h2⟩ := List.getElem?_eq_some_iff.1 hq
  rw [← h2, List.set_getElem_self]
theorem refG {n : Int} {f : FileS} {Q : Bool → Heap → Prop} (E : Keep B h0 L h) (h6 : l.length = 6) (hq : L[q]? = some (some (kd, docO l d))) (hn : inR n = true)
    (hQ : ∀ h', Keep B h0 (L.set q (some (kd, docO l (upS l d n f)))) h' → Q (inR n) h') : C_countermandref14_Sheet_put B (some ⟨kd, 0, none⟩) n f.1 f.2 h (fun h17 => C_countermandref14_Is B n h17 (fun b19 h18 => Fin B h18 (Q b19))) := by
  have hn' := inR_t hn
  obtain ⟨k, rfl⟩ := Int.eq_ofNat_of_zero_le hn'.1
  unfold upS at hQ
  rw [if_pos hn] at hQ
  exact refput_wp E h6 hq (by omega) fun h1 E1 => is14' (Fin.of (hQ _ E1))
theorem rwrite_wp {n a w : Int} {c : UInt8} (hw : w = ((c.toNat : Nat) : Int)) {Q : Bool → Heap → Prop} (E : Keep B h0 L h) (o : SOk l d) (hq : L[q]? = some (some (kd, docO l d)))
    (hQ : ∀ h', Keep B h0 (L.set q (some (kd, docO l (upS l d n (putF (getS l d n).1 a c))))) h' → Q (inR n) h') : C_countermandref14_Sheet_Write B (some ⟨kd, 0, none⟩) n a w h Q := by
  refine C_countermandref14_Sheet_Write.of ?_
  unfold S_countermandref14_Sheet_Write
  refine is14' ⟨fun hn => ?_, fun hn => is14' (Fin.of ?_)⟩
  · have hn' := inR_t hn
    obtain ⟨k, rfl⟩ := Int.eq_ofNat_of_zero_le hn'.1
    refine ⟨_, rfl, by omega, by omega, _, _, by rw [Int.toNat_natCast]; exact doc_file E o.l6 hq (by omega), refPut_wp hw (by have := goodF_size (o.good k); omega) fun h1 wk => ?_⟩
    exact refG (E.wk wk) o.l6 hq hn hQ
  · unfold upS at hQ
    rw [if_neg (by rw [hn]; decide), set_same hq] at hQ
    exact hQ _ E
theorem rcut_wp {n a : Int} {Q : Bool → Heap → Prop} (E : Keep B h0 L h) (o : SOk l d) (hq : L[q]? = some (some (kd, docO l d)))
    (hQ : ∀ h', Keep B h0 (L.set q (some (kd, docO l (upS l d n (cutF (getS l d n).1 a))))) h' → Q (inR n) h') : C_countermandref14_Sheet_Cut B (some ⟨kd, 0, none⟩) n a h Q := by
  refine C_countermandref14_Sheet_Cut.of ?_
  unfold S_countermandref14_Sheet_Cut
  refine is14' ⟨fun hn => ?_, fun hn => is14' (Fin.of ?_)⟩
  · have hn' := inR_t hn
    obtain ⟨k, rfl⟩ := Int.eq_ofNat_of_zero_le hn'.1
    refine ⟨_, rfl, by omega, by omega, _, _, by rw [Int.toNat_natCast]; exact doc_file E o.l6 hq (by omega), refCut_wp (by have := goodF_size (o.good k); omega) fun h1 wk => ?_⟩
    exact refG (E.wk wk) o.l6 hq hn hQ
  · unfold upS at hQ
    rw [if_neg (by rw [hn]; decide), set_same hq] at hQ
    exact hQ _ E
theorem rcreate_wp {n : Int} {Q : Bool → Heap → Prop} (E : Keep B h0 L h) (o : SOk l d) (hq : L[q]? = some (some (kd, docO l d)))
    (hQ : ∀ h', Keep B h0 (L.set q (some (kd, docO l (upS l d n (true, (getS l d n).1.2))))) h' → Q (inR n) h') : C_countermandref14_Sheet_Create B (some ⟨kd, 0, none⟩) n h Q := by
  refine C_countermandref14_Sheet_Create.of ?_
  unfold S_countermandref14_Sheet_Create
  refine is14' ⟨fun hn => ?_, fun hn => is14' (Fin.of ?_)⟩
  · have hn' := inR_t hn
    obtain ⟨k, rfl⟩ := Int.eq_ofNat_of_zero_le hn'.1
    have cc := (doc_file E o.l6 hq (n := k) (by omega)).2.1
    refine ⟨_, rfl, by omega, by omega, _, by rw [Int.toNat_natCast]; exact cc, ?_⟩
    exact refG (f := (true, (getS l d k).1.2)) E o.l6 hq hn hQ
  · unfold upS at hQ
    rw [if_neg (by rw [hn]; decide), set_same hq] at hQ
    exact hQ _ E
theorem rremove_wp {n : Int} {Q : Bool → Heap → Prop} (E : Keep B h0 L h) (o : SOk l d) (hq : L[q]? = some (some (kd, docO l d)))
    (hQ : ∀ h', Keep B h0 (L.set q (some (kd, docO l (upS l d n f0)))) h' → Q (inR n) h') : C_countermandref14_Sheet_Remove B (some ⟨kd, 0, none⟩) n h Q := by
  refine C_countermandref14_Sheet_Remove.of ?_
  unfold S_countermandref14_Sheet_Remove
  refine is14' ⟨fun hn => refG (f := f0) E o.l6 hq hn hQ, fun hn => is14' (Fin.of ?_)⟩
  unfold upS at hQ
  rw [if_neg (by rw [hn]; decide), set_same hq] at hQ
  exact hQ _ E
theorem rrename_wp {a b : Int} {Q : Bool → Heap → Prop} (E : Keep B h0 L h) (o : SOk l d) (hq : L[q]? = some (some (kd, docO l d)))
    (hQ : ∀ h', Keep B h0 (L.set q (some (kd, docO l (renS l d a b)))) h' → Q (inR a && inR b) h') : C_countermandref14_Sheet_Rename B (some ⟨kd, 0, none⟩) a b h Q := by
  refine C_countermandref14_Sheet_Rename.of ?_
  unfold S_countermandref14_Sheet_Rename
  have same : renS l d a b = d → Q (inR a && inR b) h := fun e => by rw [e, set_same hq] at hQ; exact hQ _ E
  refine is14' ⟨fun ha => is14' ⟨fun hb => Fin.of ?_, fun hb => Fin.of ?_⟩, fun ha => Fin.of ?_⟩
  · have ha' := inR_t ha
    have hb' := inR_t hb
    have hl := (List.getElem?_eq_some_iff.1 hq).1
    obtain ⟨i, rfl⟩ := Int.eq_ofNat_of_zero_le ha'.1
    obtain ⟨j, rfl⟩ := Int.eq_ofNat_of_zero_le hb'.1
    rw [ha, hb] at hQ same
    have J2 : renS l d i j = d → S_countermandref14_Sheet_Rename_J2 B (some ⟨kd, 0, none⟩) (i : Int) (j : Int) false h Q := fun e => by
      unfold S_countermandref14_Sheet_Rename_J2
      exact ⟨fun e => (by cases e), fun _ => Fin.of (same e)⟩
    unfold S_countermandref14_Sheet_Rename_J1
    have c1 := (doc_file E o.l6 hq (n := i) (by omega)).1
    refine ⟨_, rfl, by omega, by omega, _, by rw [Int.toNat_natCast]; exact c1, fun hi => ⟨fun e => Fin.of (J2 ?_), fun hne => Fin.of ?_⟩, fun hi => Fin.of (J2 ?_)⟩
    · unfold renS; rw [if_neg (by simp [e])]
    · have hd : renS l d i j = putS l (putS l d j (getS l d i).1) i f0 := by unfold renS; rw [ha, hb, hi]; simp [hne]
      rw [hd] at hQ
      unfold S_countermandref14_Sheet_Rename_J2
      refine ⟨fun _ => ⟨_, rfl, by omega, by omega, _, _, by rw [Int.toNat_natCast]; exact doc_file E o.l6 hq (by omega), ?_⟩, fun e => by cases e⟩
      refine refput_wp (f := (getS l d i).1) E o.l6 hq (by omega) fun h14 E1 => ?_
      refine refput_wp (f := f0) E1 o.l6 (List.getElem?_set_self hl) (by omega) fun h15 E2 => Fin.of (hQ _ ?_)
      rw [List.set_set] at E2; exact E2
    · unfold renS; rw [if_neg (by rw [hi]; simp)]
  · rw [ha, hb] at same
    exact same (by unfold renS; rw [if_neg (by rw [hb]; simp)])
  · rw [ha] at same
    exact same (by unfold renS; rw [if_neg (by rw [ha]; simp)])
end
end Go.Proofs.YtgldgabefiialaaGreat.H
namespace Go.Proofs.YtgldgabefiialaaGreat.H
open Go Go.RowKit
set_option linter.unusedVariables false
set_option maxRecDepth 100000
structure SCall where
  k : Int
  a : Int
  b : Int
  c : UInt8
def SCall.cells (x : SCall) : List Value := [.int .i64 x.k, .int .i64 x.a, .int .i64 x.b, .int .u8 ((x.c.toNat : Nat) : Int)]
theorem SCall.len (x : SCall) : x.cells.length = 4 := rfl
theorem u8_of {z : Int} (h : (Lit.int .u8 z).wf = true) : ∃ c : UInt8, z = ((c.toNat : Nat) : Int) := by
  have h1 : 0 ≤ z ∧ z ≤ 255 := by simpa [Lit.wf, IntKind.min, IntKind.max, IntKind.signed, IntKind.bits] using h
  refine ⟨UInt8.ofNat z.toNat, ?_⟩
  have h2 : z.toNat % 2 ^ 8 = z.toNat := Nat.mod_eq_of_lt (by omega)
  rw [UInt8.toNat_ofNat', h2]; omega
def opD (l : FL) (d : DFL) (x : SCall) : DFL :=
  if x.k = 0 then upS l d x.a (putF (getS l d x.a).1 x.b x.c)
  else if x.k = 1 then upS l d x.a (cutF (getS l d x.a).1 x.b)
  else if x.k = 2 then upS l d x.a (true, (getS l d x.a).1.2)
  else if x.k = 3 then upS l d x.a f0
  else if x.k = 4 then renS l d x.a x.b
  else d
theorem SOk.op {l : FL} {d : DFL} (o : SOk l d) (x : SCall) : SOk l (opD l d x) := by
  unfold opD
  split
  · exact o.up (goodF_put (o.good x.a) _ _)
  · split
    · exact o.up (goodF_cut (o.good x.a) _)
    · split
      · exact o.up (f := (true, (getS l d x.a).1.2)) (goodF_make (f := (getS l d x.a).1) (o.good x.a))
      · split
        · exact o.up rfl
        · split
          · exact o.ren _ _
          · exact o
def opsD (l : FL) (d : DFL) (xs : List SCall) : DFL := xs.foldl (opD l) d
theorem SOk.ops {l : FL} {d : DFL} (o : SOk l d) : ∀ xs : List SCall, SOk l (opsD l d xs) := by
  intro xs
  induction xs generalizing d with
  | nil => exact o
  | cons x xs ih => exact ih (o.op x)
section
variable {B : RO} {h0 h h' : Heap} {L : List (Option (Nat × AObj))} {r rd : Option (Nat × AObj)} {v vd : Value} {l z : FL} {d : DFL} {n : Int} {x : ShI} {f : FileS} {q kd : Nat}
end
end Go.Proofs.YtgldgabefiialaaGreat.H
namespace Go.Proofs.YtgldgabefiialaaGreat.H
open Go Go.RowKit
set_option linter.unusedVariables false
set_option maxRecDepth 100000
def apD (ver : Int) (l : FL) (d : DFL) : FL := d.foldl (fun l x => setF l x.1 x.2.1 x.2.2 ver) l
theorem apD_len (ver : Int) : ∀ (d : DFL) (l : FL), (apD ver l d).length = l.length := by
  intro d
  induction d with
  | nil => intro l; rfl
  | cons x d ih => intro l; exact (ih _).trans (setF_len _ _ _ _ _)
theorem apD_take {ver : Int} {l : FL} {d : DFL} {j : Nat} {x : Int × FileS} (h : d[j]? = some x) : apD ver l (d.take (j + 1)) = setF (apD ver l (d.take j)) x.1 x.2.1 x.2.2 ver := by
  obtain ⟨h1, rfl⟩ := List.getElem?_eq_some_iff.1 h
  rw [List.take_succ_eq_append_getElem h1, apD, List.foldl_append]; rfl
theorem fileAt_set {l : FL} {n i ver : Int} {b : Bool} {s : ByteArray} (h : setB l n b s = true) : fileAt (setF l n b s ver) i = if i = n then ((b, s), ver) else fileAt l i := by
  rw [setF, if_pos h]
  unfold setB at h
  simp only [Bool.and_eq_true, decide_eq_true_eq] at h
  obtain ⟨_, h1, h2⟩ := h
  by_cases e : i = n
  · subst e
    rw [if_pos rfl, fileAt_in h1 (by rw [List.length_set]; omega), List.getElem_set_self]
  · rw [if_neg e]
    by_cases hi : 0 ≤ i ∧ i < (l.length : Int)
    · rw [fileAt_in hi.1 (by rw [List.length_set]; omega), fileAt_in hi.1 (by omega), List.getElem_set_ne (by omega)]
    · rw [fileAt_out (by rw [List.length_set]; exact hi), fileAt_out hi]
theorem atD_cons {x : Int × FileS} {d : DFL} {i : Int} : atD (x :: d) i = if x.1 = i then some x.2 else atD d i := by
  unfold atD
  rw [List.find?_cons]
  by_cases e : x.1 = i
  · simp [e]
  · have : (x.1 == i) = false := by simpa using e
    simp [this, e]
theorem apD_at {ver i : Int} : ∀ (d : DFL) (l : FL), SOk l d → fileAt (apD ver l d) i = match atD d i with | some f => (f, ver) | none => fileAt l i := by
  intro d
  induction d with
  | nil => intro l _; rfl
  | cons x d ih =>
    intro l o
    obtain ⟨s1, s2⟩ := List.pairwise_cons.1 o.s
    have hx := o.k x (by simp)
    have hb : setB l x.1 x.2.1 x.2.2 = true := by unfold setB; rw [hx.2, Bool.true_and, decide_eq_true_eq, o.l6]; exact hx.1
    have o2 : SOk (setF l x.1 x.2.1 x.2.2 ver) d := ⟨s2, fun y hy => o.k y (by simp [hy]), by rw [setF_len]; exact o.l6, fun y hy => by
      rw [setF, if_pos hb] at hy
      rcases List.mem_or_eq_of_mem_set hy with hy | rfl
      · exact o.g y hy
      · exact hx.2⟩
    have := ih _ o2
    show fileAt (apD ver (setF l x.1 x.2.1 x.2.2 ver) d) i = _
    rw [this, atD_cons]
    by_cases e : x.1 = i
    · rw [if_pos e, atD_lo (fun y hy => by have := s1 y hy; omega)]
      simp only
      rw [fileAt_set hb, if_pos e.symm]
    · rw [if_neg e]
      cases atD d i with
      | some f => rfl
      | none => simp only; rw [fileAt_set hb, if_neg (fun x => e x.symm)]
section
variable {B : RO} {h0 h h' : Heap} {L : List (Option (Nat × AObj))} {r rd : Option (Nat × AObj)} {v vd : Value} {l z : FL} {d : DFL} {n ver : Int} {x : ShI} {f : FileS} {q kd c : Nat} {a : Option Addr} {xs : List SCall}
def ShI.w (x : ShI) (r : Option (Nat × AObj)) : ShI := { x with rt := r }
theorem sdraft_wp {Q : Option Addr → Heap → Prop} (E : Keep B h0 (L ++ x.m vd rd) h) (hQ : Q (some ⟨x.kf, 0, none⟩) h) : C_sheet_Sheet_Draft B (some ⟨x.ks, 0, none⟩) h Q := by
  refine C_sheet_Sheet_Draft.of ?_
  unfold S_sheet_Sheet_Draft
  exact ⟨fun e => (by cases e), fun _ => ⟨_, rfl, _, E.cM 3 rfl (i := 0) rfl, Fin.of hQ⟩⟩
theorem sover_wp {Q : Int → Heap → Prop} (E : Keep B h0 (L ++ x.m vd rd) h) (R : FRow x.rt x.vt l) (Rd : DRow_file_File rd vd d) (o : SOk l d)
    (hQ : ∀ r' h', FRow r' x.vt (apD ver l d) → Keep B h0 (L ++ (x.w r').m vd rd) h' → Q (d.length : Nat) h') : C_sheet_Sheet_Over B (some ⟨x.ks, 0, none⟩) (some ⟨x.kT, 0, none⟩) ver h Q := by
  have hl := o.len
  refine C_sheet_Sheet_Over.of ?_
  unfold S_sheet_Sheet_Over
  intro k5 a5 b5 h6 e6 k7 a7 b7 h8 e8 k9 a9 b9 h10 e10
  have E1 := ((E.nM a5 b5 e6).nM a7 b7 e8).nM a9 b9 e10
  refine ⟨_, storeH_vec (E1.gM 8 rfl) rfl, ?_⟩
  have E2 := E1.pM (o' := .vec TY.int (plains [.int .i64 0]) 1) 8 rfl
  refine sdraft_wp (x := x) (vd := vd) (rd := rd) (L := L) (E2.tM 6) (fdall_wp fun kc ac bc => ?_)
  have E3 := E2.nM (o := .vec TY.p_draft_Draft_file_File [.plain (.pointer (some ⟨x.kf, 0, none⟩))] 1) ac bc rfl
  refine ⟨d, fdG kc x.kf vd rd, fun q h' => ∃ r', q ≤ d.length ∧ FRow r' x.vt (apD ver l (d.take q)) ∧ Keep B h0 (L ++ ((x.w r').m vd rd ++ [some (k5, .vec TY.p_tome_Tome [.plain (.pointer (some ⟨x.kT, 0, none⟩))] 1), some (k7, .vec TY.int [.plain (.int .i64 ver)] 1), some (k9, .vec TY.int (plains [.int .i64 ((q : Nat) : Int)]) 1), some (kc, .vec TY.p_draft_Draft_file_File [.plain (.pointer (some ⟨x.kf, 0, none⟩))] 1)])) h', fdall_iter (k := x.kf) Rd (by omega), fdG_ins, ?_, Fin.of ⟨x.rt, by omega, R, E3⟩, ?_, ?_⟩
  · rintro q h' ⟨r', _, _, E⟩
    exact ⟨E.gM 9 rfl, E.gM 4 rfl, fun k o e => E.gM 5 (by show some rd = _; rw [e])⟩
  · clear E1 E2 E3
    rintro q h20 i16 b17 s18 hg ⟨r1, hq, R1, E⟩
    have hq' := (List.getElem?_eq_some_iff.1 hg).1
    have gx := o.k _ (List.mem_of_getElem? hg)
    simp only at gx
    intro k24 a24 b24 h25 e25
    have E1 := E.nM a24 b24 e25
    refine ⟨_, stores_whole (E1.gM 10 rfl) rfl (by simp) (by simp [isOne]) (by simp), ?_⟩
    have E2 := E1.pM (o' := fO (b17, s18)) 10 rfl
    refine ⟨_, E2.cM 6 rfl (i := 0) rfl, _, _, ⟨E2.cM 10 rfl (i := 0) rfl, E2.cM 10 rfl (i := 1) rfl, trivial⟩, _, E2.cM 7 rfl (i := 0) rfl, ?_⟩
    refine tset_wp (i := L.length) E2 ⟨upM 0 rfl, ⟨upM 1 rfl, upM 2 rfl⟩⟩ R1 fun r2 h31 R2 E3 => ?_
    have hb : setB (apD ver l (d.take q)) i16 b17 s18 = true := by
      unfold setB; rw [gx.2, Bool.true_and, decide_eq_true_eq, apD_len, o.l6]; exact gx.1
    rw [setM] at E3
    rw [hb]
    refine ⟨fun _ => ⟨_, E3.cM 8 rfl (i := 0) rfl, _, storeH_vec (E3.gM 8 rfl) rfl, Fin.of ⟨r2, by omega, ?_, ?_⟩⟩, fun e => by cases e⟩
    · rw [apD_take hg]; exact R2
    · have e1 : IntKind.wrap .i64 (((q : Nat) : Int) + 1) = ((q + 1 : Nat) : Int) := by rw [w64 (by omega) (by omega)]; omega
      have E4 := (E3.pM (o' := .vec TY.int (plains [.int .i64 (IntKind.wrap .i64 (((q : Nat) : Int) + 1))]) 1) 8 rfl).tM 10
      rw [e1] at E4 ⊢
      exact E4
  · rintro h20 ⟨r1, _, R1, E⟩
    rw [List.take_length] at R1
    exact ⟨_, E.cM 8 rfl (i := 0) rfl, Fin.of (hQ r1 _ R1 (E.tM 6))⟩
end
end Go.Proofs.YtgldgabefiialaaGreat.H
namespace Go.Proofs.YtgldgabefiialaaGreat.H
open Go Go.RowKit
set_option linter.unusedVariables false
set_option maxRecDepth 100000
structure VI where
  kV : Nat
  kC : Nat
  kT : Nat
  kR : Nat
  vt : Value
  rt : Option (Nat × AObj)
  kF : Nat
  kP : Nat
structure VV where
  c : List (Int × Int)
  f : FL
  ts : List ByteArray
  l : List (Int × Int)
  t : Int
def viewO (x : VI) (t : Int) : AObj := .vec TY.attempt_View (plains [.pointer (some ⟨x.kC, 0, none⟩), .pointer (some ⟨x.kT, 0, none⟩), .pointer (some ⟨x.kF, 0, none⟩), .int .i64 t]) 4
def VI.e (x : VI) (v : VV) : List (Option (Nat × AObj)) := [some (x.kV, viewO x v.t), some (x.kC, rowO_int v.c), some (x.kT, tomO x.kR), some (x.kR, frO x.vt), x.rt, some (x.kF, feedO v.ts x.kP), some (x.kP, rowO_int v.l)]
structure VOk (x : VI) (v : VV) : Prop where
  r : FRow x.rt x.vt v.f
  c8 : v.c.length = 8
  f : TomeOk v.f
  k : FeedOk v.ts v.l
def VAt (L : List (Option (Nat × AObj))) (i : Nat) (x : VI) (v : VV) : Prop := ∀ j, j < 7 → L[i + j]? = (x.e v)[j]?
theorem VAt.mk {L R : List (Option (Nat × AObj))} {x : VI} {v : VV} : VAt (L ++ (x.e v ++ R)) L.length x v := fun j hj => by
  rw [List.getElem?_append_right (by omega), Nat.add_sub_cancel_left, List.getElem?_append_left (by exact hj)]
theorem VAt.app {L M : List (Option (Nat × AObj))} {i : Nat} {x : VI} {v : VV} (A : VAt L i x v) : VAt (L ++ M) i x v := fun j hj => by
  have h1 : (x.e v)[j]? = some ((x.e v)[j]'hj) := List.getElem?_eq_getElem hj
  rw [h1]
  exact up_app _ ((A j hj).trans h1)
def vz : VV := ⟨List.replicate 8 (0, 0), List.replicate 6 ((false, ByteArray.empty), 0), ts0, fl0, 0⟩
def verOf (v : VV) (k i : Int) : Int := if k = 0 then (cellAt_int v.c i).2 else if k = 1 then (fileAt v.f i).2 else if k = 2 then (cellAt_int v.l i).2 else 0
def cV (v : VV) (i : Int) : Value := .int .i64 (cellAt_int v.c i).2
def fV (v : VV) (i : Int) : Value := .int .i64 (fileAt v.f i).2
def lV (v : VV) (i : Int) : Value := .int .i64 (cellAt_int v.l i).2
def nowF (v : VV) : List Value := [cV v 0, cV v 1, cV v 2, cV v 3, cV v 4, cV v 5, cV v 6, cV v 7, fV v 0, fV v 1, fV v 2, fV v 3, fV v 4, fV v 5, .int .i64 0, .int .i64 0, lV v 0, lV v 1, lV v 2, .int .i64 0, .int .i64 0, .int .i64 0, .int .i64 0, .int .i64 0, .int .i64 v.t]
def nowZ (t : Int) : List Value := List.replicate 24 (.int .i64 0) ++ [.int .i64 t]
def cT (v : VV) (i : Int) : Value := .int .i64 (cellAt_int v.c i).1
def fT (v : VV) (i : Int) : Value := .bool (fileAt v.f i).1.1
def sT (v : VV) (i : Int) : Value := .string (fileAt v.f i).1.2
def lT (v : VV) (i : Int) : Value := .int .i64 (cellAt_int v.l i).1
def thF (v : VV) : List Value := [cT v 0, cT v 1, cT v 2, cT v 3, cT v 4, cT v 5, cT v 6, cT v 7, fT v 0, sT v 0, fT v 1, sT v 1, fT v 2, sT v 2, fT v 3, sT v 3, fT v 4, sT v 4, fT v 5, sT v 5, lT v 0, lT v 1, lT v 2]
def thZ : List Value := List.replicate 8 (.int .i64 0) ++ [.bool false, .string ByteArray.empty, .bool false, .string ByteArray.empty, .bool false, .string ByteArray.empty, .bool false, .string ByteArray.empty, .bool false, .string ByteArray.empty, .bool false, .string ByteArray.empty] ++ List.replicate 3 (.int .i64 0)
def txF (ts : List ByteArray) : List Value := [.string (textAt ts 0), .string (textAt ts 1), .string (textAt ts 2)]
def txZ : List Value := [.string ByteArray.empty, .string ByteArray.empty, .string ByteArray.empty]
theorem now_c {v : VV} {j : Nat} (h : j < 8) : (nowF v)[j]? = some (.int .i64 (cellAt_int v.c (j : Nat)).2) := match j, h with
  | 0, _ | 1, _ | 2, _ | 3, _ | 4, _ | 5, _ | 6, _ | 7, _ => rfl
  | n + 8, h => absurd h (by omega)
theorem now_f {v : VV} {j : Nat} (h : j < 6) : (nowF v)[8 + j]? = some (.int .i64 (fileAt v.f (j : Nat)).2) := match j, h with
  | 0, _ | 1, _ | 2, _ | 3, _ | 4, _ | 5, _ => rfl
  | n + 6, h => absurd h (by omega)
theorem now_l {v : VV} {j : Nat} (h : j < 3) : (nowF v)[16 + j]? = some (.int .i64 (cellAt_int v.l (j : Nat)).2) := match j, h with
  | 0, _ | 1, _ | 2, _ => rfl
  | n + 3, h => absurd h (by omega)
theorem th_c {v : VV} {j : Nat} (h : j < 8) : (thF v)[j]? = some (.int .i64 (cellAt_int v.c (j : Nat)).1) := match j, h with
  | 0, _ | 1, _ | 2, _ | 3, _ | 4, _ | 5, _ | 6, _ | 7, _ => rfl
  | n + 8, h => absurd h (by omega)
theorem th_f {v : VV} {j : Nat} (h : j < 6) : (thF v)[8 + j * 2]? = some (.bool (fileAt v.f (j : Nat)).1.1) ∧ (thF v)[8 + j * 2 + 1]? = some (.string (fileAt v.f (j : Nat)).1.2) := match j, h with
  | 0, _ | 1, _ | 2, _ | 3, _ | 4, _ | 5, _ => ⟨rfl, rfl⟩
  | n + 6, h => absurd h (by omega)
theorem th_l {v : VV} {j : Nat} (h : j < 3) : (thF v)[20 + j]? = some (.int .i64 (cellAt_int v.l (j : Nat)).1) := match j, h with
  | 0, _ | 1, _ | 2, _ => rfl
  | n + 3, h => absurd h (by omega)
theorem tx_at {ts : List ByteArray} {j : Nat} (h : j < 3) : (txF ts)[j]? = some (.string (textAt ts (j : Nat))) := match j, h with
  | 0, _ | 1, _ | 2, _ => rfl
  | n + 3, h => absurd h (by omega)
def part (F Z : List Value) (m : Nat) : List Value := F.take m ++ Z.drop m
theorem wrapS {j : Nat} (h : j < 1000000000) : IntKind.wrap .i64 ((j : Int) + 1) = ((j + 1 : Nat) : Int) := by rw [w64 (by omega) (by omega)]; omega
section
variable {B : RO} {h0 h h' : Heap} {L M : List (Option (Nat × AObj))} {i k n : Nat} {t : TypeId} {x : VI} {v : VV}
theorem Keep.fillN {F Z : List Value} {m : Nat} (E : Keep B h0 (L ++ M) h) (p : Nat) (hp : M[p]? = some (some (k, .vec t (plains (part F Z m)) n))) (hl : F.length = Z.length) (ys : List Value) (hy : (F.drop m).take ys.length = ys) (hm : m + ys.length ≤ F.length) (hn : F.length ≤ n) (ho : ∀ y ∈ ys, isOne y = true) {a : Addr} (ha : a = ⟨k, m, none⟩) :
    ∃ h', StoresAt a h 0 ys h' ∧ Keep B h0 (L ++ M.set p (some (k, .vec t (plains (part F Z (m + ys.length))) n))) h' := by
  subst ha
  obtain ⟨h', s1, E1⟩ := E.vM (fs := F.take m) (gs := Z.drop m) p hp ys ho m (by rw [List.length_take]; omega) (by omega)
  refine ⟨h', s1, ?_⟩
  have e1 : F.take m ++ ys ++ (Z.drop m).drop ys.length = part F Z (m + ys.length) := by
    unfold part
    rw [List.drop_drop, List.take_add, hy]
  rw [e1] at E1
  exact E1
theorem Keep.fill1 {F Z : List Value} {m : Nat} {y : Value} (E : Keep B h0 (L ++ M) h) (p : Nat) (hp : M[p]? = some (some (k, .vec t (plains (part F Z m)) n))) (hl : F.length = Z.length) (hF : F[m]? = some y) (hn : F.length ≤ n) (ho : isOne y = true) {a : Addr} (ha : a = ⟨k, m, none⟩) :
    ∃ h', storeH h a y = some h' ∧ Keep B h0 (L ++ M.set p (some (k, .vec t (plains (part F Z (m + 1))) n))) h' := by
  obtain ⟨hm, hg⟩ := List.getElem?_eq_some_iff.1 hF
  obtain ⟨h', ⟨_, w, e1, e2⟩, E1⟩ := E.fillN p hp hl [y] (by rw [List.drop_eq_getElem_cons hm, hg]; rfl) (by simp; omega) hn (by simpa using ho) ha
  obtain rfl : h' = w := e2
  exact ⟨h', e1, E1⟩
theorem Keep.allM {F : List Value} (E : Keep B h0 (L ++ M) h) (p : Nat) (hp : M[p]? = some (some (k, .vec t (plains F) n))) : CellsAt B h ⟨k, 0, none⟩ 0 F :=
  CellsAt.of_vec F 0 (E.gM p hp) fun j y hj => by rw [plains_get, show 0 + 0 + j = j by omega, hj]; rfl
theorem VAt.at {k : Nat} {o : AObj} (A : VAt L i x v) (E : Keep B h0 L h) (j : Nat) (hj : j < 7) (e : (x.e v)[j]? = some (some (k, o))) : h k = some o := E.at (i + j) ((A j hj).trans e)
theorem VAt.tome (A : VAt L i x v) : TomeAt L (i + 2) x.kT x.kR x.vt x.rt := ⟨A 2 (by decide), ⟨A 3 (by decide), A 4 (by decide)⟩⟩
theorem now_wp {Q : List Value → Heap → Prop} (E : Keep B h0 L h) (A : VAt L i x v) (o : VOk x v) (hQ : ∀ h', Keep B h0 L h' → Q (nowF v) h') : C_attempt_View_Now B (some ⟨x.kV, 0, none⟩) h Q := by
  refine C_attempt_View_Now.of ?_
  unfold S_attempt_View_Now
  intro k3 a3 b3 h4 e4
  have E1 := E.start.nM a3 b3 e4
  refine ⟨fun e => (by cases e), fun _ => ⟨_, rfl, v.t, cellH_vec (A.app.at E1 0 (by decide) rfl) rfl, ?_⟩⟩
  intro k11 a11 b11 h12 e12
  have E2 := E1.nM a11 b11 e12
  refine ⟨_, stores_whole (E2.gM 1 rfl) rfl (by simp) (by simp [isOne]) (by simp), ?_⟩
  have E3 := E2.pM (o' := .vec TY.reads_Now (plains (part (nowF v) (nowZ v.t) 0)) 25) 1 rfl
  let J (b : Nat) (j : Nat) (h : Heap) : Prop := Keep B h0 (L ++ [some (k3, .vec TY.reads_Now (plains (List.replicate 25 (.int .i64 0))) 25), some (k11, .vec TY.reads_Now (plains (part (nowF v) (nowZ v.t) (b + j))) 25)]) h
  refine ⟨fun q m h' => ∃ j : Nat, j ≤ 8 ∧ q = j ∧ m = 8 - j ∧ J 0 j h', 8, Fin.of ⟨0, by omega, rfl, rfl, E3⟩, ?_⟩
  clear E1 E2 E3 e4 e12
  rintro _ _ h14 ⟨j, hj, rfl, rfl, E4⟩
  have E4 : Keep B h0 (L ++ [some (k3, .vec TY.reads_Now (plains (List.replicate 25 (.int .i64 0))) 25), some (k11, .vec TY.reads_Now (plains (part (nowF v) (nowZ v.t) (0 + j))) 25)]) h14 := E4
  rw [Nat.zero_add] at E4
  refine ⟨fun hlt => ⟨_, rfl, _, cellH_vec (A.app.at E4 0 (by decide) rfl) rfl, version_wp_int (rowO_int_v (A.app.at E4 1 (by decide) rfl)) ⟨by decide, by decide, by omega, by omega, ?_⟩⟩, fun hge => Fin.of ?_⟩
  · obtain ⟨h5, s, E5⟩ := E4.fill1 1 rfl rfl (now_c (by omega : j < 8)) (Nat.le_refl _) rfl (a := Addr.add ⟨k11, 0, none⟩ (Int.toNat (j : Int) * 1)) (by rw [addr_more]; simp)
    exact ⟨h5, s, Fin.of ⟨8 - (j + 1), by omega, j + 1, by omega, wrapS (by omega), rfl, by show Keep _ _ _ _; rw [Nat.zero_add]; exact E5⟩⟩
  have hj8 : j = 8 := by omega
  subst hj8
  unfold S_attempt_View_Now_J1
  refine ⟨fun q m h' => ∃ j : Nat, j ≤ 6 ∧ q = j ∧ m = 6 - j ∧ J 8 j h', 6, Fin.of ⟨0, by omega, rfl, rfl, E4⟩, ?_⟩
  clear E4
  rintro _ _ h14 ⟨j, hj, rfl, rfl, E4⟩
  have E4 : Keep B h0 (L ++ [some (k3, .vec TY.reads_Now (plains (List.replicate 25 (.int .i64 0))) 25), some (k11, .vec TY.reads_Now (plains (part (nowF v) (nowZ v.t) (8 + j))) 25)]) h14 := E4
  refine ⟨fun hlt => ⟨_, rfl, _, cellH_vec (A.app.at E4 0 (by decide) rfl) rfl, tget_wp E4 A.app.tome o.r ?_⟩, fun hge => Fin.of ?_⟩
  · intro h43 E5
    refine ⟨by decide, by decide, by omega, by omega, ?_⟩
    obtain ⟨h5, s, E6⟩ := E5.fill1 1 rfl rfl (now_f (by omega : j < 6)) (Nat.le_refl _) rfl (a := Addr.add ⟨k11, 8, none⟩ (Int.toNat (j : Int) * 1)) (by rw [addr_more]; simp)
    exact ⟨h5, s, Fin.of ⟨6 - (j + 1), by omega, j + 1, by omega, wrapS (by omega), rfl, E6⟩⟩
  have hj8 : j = 6 := by omega
  subst hj8
  unfold S_attempt_View_Now_J2
  refine ⟨fun q m h' => ∃ j : Nat, j ≤ 3 ∧ q = j ∧ m = 3 - j ∧ J 16 j h', 3, Fin.of ⟨0, by omega, rfl, rfl, E4⟩, ?_⟩
  clear E4
  rintro _ _ h14 ⟨j, hj, rfl, rfl, E4⟩
  have E4 : Keep B h0 (L ++ [some (k3, .vec TY.reads_Now (plains (List.replicate 25 (.int .i64 0))) 25), some (k11, .vec TY.reads_Now (plains (part (nowF v) (nowZ v.t) (16 + j))) 25)]) h14 := E4
  refine ⟨fun hlt => ⟨_, rfl, _, cellH_vec (A.app.at E4 0 (by decide) rfl) rfl, feed_place_wp o.k.t3 (A.app.at E4 5 (by decide) rfl) (A.app.at E4 6 (by decide) rfl) ?_⟩, fun hge => ?_⟩
  · refine ⟨by decide, by decide, by omega, by omega, ?_⟩
    obtain ⟨h5, s, E6⟩ := E4.fill1 1 rfl rfl (now_l (by omega : j < 3)) (Nat.le_refl _) rfl (a := Addr.add ⟨k11, 16, none⟩ (Int.toNat (j : Int) * 1)) (by rw [addr_more]; simp)
    exact ⟨h5, s, Fin.of ⟨3 - (j + 1), by omega, j + 1, by omega, wrapS (by omega), rfl, E6⟩⟩
  have hj8 : j = 3 := by omega
  subst hj8
  have E5 : Keep B h0 (L ++ [some (k3, .vec TY.reads_Now (plains (List.replicate 25 (.int .i64 0))) 25), some (k11, .vec TY.reads_Now (plains (nowF v)) 25)]) h14 := E4
  refine ⟨nowF v, rfl, E5.allM 1 rfl, rfl, _, stores_whole (E5.gM 0 rfl) rfl (Nat.le_refl _) (by simp [nowF, isOne, cV, fV, lV]) (by simp [nowF]), ?_⟩
  have E6 := E5.pM (o' := .vec TY.reads_Now (plains (nowF v)) 25) 0 rfl
  exact ⟨nowF v, rfl, E6.allM 0 rfl, Fin.of (hQ _ E6.zM)⟩
theorem newview_wp {Q : Option Addr → Heap → Prop} (hQ : ∀ x h', VOk x vz → Keep B h (x.e vz) h' → Q (some ⟨x.kV, 0, none⟩) h') : C_attempt_NewView B h Q := by
  refine C_attempt_NewView.of ?_
  unfold S_attempt_NewView
  refine new_wp_int (by decide) fun kC a b => ?_
  have E := (Keep.nil B h).new (o := rowO_int (List.replicate 8 (0, 0))) a b
  refine tnew_wp fun kT kR v r h4 R E1 => ?_
  have E2 := E.append E1
  refine feed_new_wp fun kP kF h1 h2 aP bP e1 aF bF e2 => ?_
  have E3 := (E2.made aP bP e1).made aF bF e2
  intro k8 a8 b8 h9 e9
  have E4 := E3.made a8 b8 e9
  exact Fin.of (hQ ⟨k8, kC, kT, kR, v, r, kF, kP⟩ _ ⟨R, rfl, TomeOk.zero, FeedOk.zero⟩ (E4.picks [6, 0, 1, 2, 3, 5, 4] (by decide)))
theorem things_wp {Q : List Value → ByteArray → ByteArray → ByteArray → Heap → Prop} (E : Keep B h0 L h) (A : VAt L i x v) (o : VOk x v) (hQ : ∀ h', Keep B h0 L h' → Q (thF v) (textAt v.ts 0) (textAt v.ts 1) (textAt v.ts 2) h') : C_countermandlaw20_things B (some ⟨x.kV, 0, none⟩) h Q := by
  refine C_countermandlaw20_things.of ?_
  unfold S_countermandlaw20_things
  intro k6 a6 b6 h7 e7 k8 a8 b8 h9 e9 k10 a10 b10 h11 e11 k12 a12 b12 h13 e13
  have E1 := (((E.start.nM a6 b6 e7).nM a8 b8 e9).nM a10 b10 e11).nM a12 b12 e13
  let M (b j : Nat) : List (Option (Nat × AObj)) := [some (k6, .vec TY.countermandref20_Things (plains thZ) 23), some (k8, .vec TY.a_3_string (plains txZ) 3), some (k10, .vec TY.countermandref20_Things (plains (part (thF v) thZ b)) 23), some (k12, .vec TY.a_3_string (plains (part (txF v.ts) txZ j)) 3)]
  have E1 : Keep B h0 (L ++ M 0 0) h13 := E1
  refine ⟨fun q m h' => ∃ j : Nat, j ≤ 8 ∧ q = j ∧ m = 8 - j ∧ Keep B h0 (L ++ M j 0) h', 8, Fin.of ⟨0, by omega, rfl, rfl, E1⟩, ?_⟩
  clear E1 e7 e9 e11 e13
  rintro _ _ h14 ⟨j, hj, rfl, rfl, E4⟩
  refine ⟨fun hlt => ⟨_, rfl, _, cellH_vec (A.app.at E4 0 (by decide) rfl) rfl, get_wp_int (rowO_int_v (A.app.at E4 1 (by decide) rfl)) ⟨by omega, by omega, ?_⟩⟩, fun hge => Fin.of ?_⟩
  · obtain ⟨h5, s, E5⟩ := E4.fill1 2 rfl rfl (th_c (by omega : j < 8)) (Nat.le_refl _) rfl (a := Addr.add ⟨k10, 0, none⟩ (Int.toNat (j : Int) * 1)) (by rw [addr_more]; simp)
    exact ⟨h5, s, Fin.of ⟨8 - (j + 1), by omega, j + 1, by omega, wrapS (by omega), rfl, E5⟩⟩
  have hj8 : j = 8 := by omega
  subst hj8
  unfold S_countermandlaw20_things_J1
  refine ⟨fun q m h' => ∃ j : Nat, j ≤ 6 ∧ q = j ∧ m = 6 - j ∧ Keep B h0 (L ++ M (8 + j * 2) 0) h', 6, Fin.of ⟨0, by omega, rfl, rfl, E4⟩, ?_⟩
  clear E4
  rintro _ _ h14 ⟨j, hj, rfl, rfl, E4⟩
  refine ⟨fun hlt => ⟨_, rfl, _, cellH_vec (A.app.at E4 0 (by decide) rfl) rfl, tget_wp E4 A.app.tome o.r ?_⟩, fun hge => Fin.of ?_⟩
  · intro h43 E5 k64 a64 b64 h65 e65
    have E6 := E5.nM a64 b64 e65
    refine ⟨_, stores_whole (E6.gM 4 rfl) rfl (by simp) (by simp [isOne]) (by simp), ?_⟩
    have E7 := E6.pM (o' := .vec TY.file_File (plains [.bool (fileAt v.f (j : Nat)).1.1, .string (fileAt v.f (j : Nat)).1.2]) 2) 4 rfl
    refine ⟨_, _, ⟨E7.cM 4 rfl (i := 0) rfl, E7.cM 4 rfl (i := 1) rfl, trivial⟩, by omega, by omega, ?_⟩
    have hf := th_f (v := v) (by omega : j < 6)
    obtain ⟨h5, s, E8⟩ := (E7.tM 4).fillN (F := thF v) (Z := thZ) (m := 8 + j * 2) 2 rfl rfl [.bool (fileAt v.f (j : Nat)).1.1, .string (fileAt v.f (j : Nat)).1.2] (by
      obtain ⟨l1, g1⟩ := List.getElem?_eq_some_iff.1 hf.1
      obtain ⟨l2, g2⟩ := List.getElem?_eq_some_iff.1 hf.2
      rw [List.drop_eq_getElem_cons l1, g1, List.drop_eq_getElem_cons l2, g2]; rfl) (by show 8 + j * 2 + 2 ≤ 23; omega) (Nat.le_refl _) (by simp [isOne]) (a := Addr.add ⟨k10, 8, none⟩ (Int.toNat (j : Int) * 2)) (by rw [addr_more]; simp)
    refine ⟨h5, s, Fin.of ⟨6 - (j + 1), by omega, j + 1, by omega, wrapS (by omega), rfl, ?_⟩⟩
    rw [show 8 + (j + 1) * 2 = 8 + j * 2 + 2 by omega]; exact E8
  have hj8 : j = 6 := by omega
  subst hj8
  unfold S_countermandlaw20_things_J2
  refine ⟨fun q m h' => ∃ j : Nat, j ≤ 3 ∧ q = j ∧ m = 3 - j ∧ Keep B h0 (L ++ M (20 + j) j) h', 3, Fin.of ⟨0, by omega, rfl, rfl, E4⟩, ?_⟩
  clear E4
  rintro _ _ h14 ⟨j, hj, rfl, rfl, E4⟩
  refine ⟨fun hlt => ⟨_, rfl, _, cellH_vec (A.app.at E4 0 (by decide) rfl) rfl, feed_place_wp o.k.t3 (A.app.at E4 5 (by decide) rfl) (A.app.at E4 6 (by decide) rfl) ?_⟩, fun hge => ?_⟩
  · refine ⟨by omega, by omega, ?_⟩
    obtain ⟨h5, s, E6⟩ := E4.fill1 2 rfl rfl (th_l (by omega : j < 3)) (Nat.le_refl _) rfl (a := Addr.add ⟨k10, 20, none⟩ (Int.toNat (j : Int) * 1)) (by rw [addr_more]; simp)
    refine ⟨h5, s, _, rfl, _, cellH_vec (A.app.at E6 0 (by decide) rfl) rfl, feed_text_wp o.k.t3 (A.app.at E6 5 (by decide) rfl) ⟨by omega, by omega, ?_⟩⟩
    obtain ⟨h6, s, E7⟩ := E6.fill1 3 rfl rfl (tx_at (by omega : j < 3)) (Nat.le_refl _) rfl (a := Addr.add ⟨k12, 0, none⟩ (Int.toNat (j : Int) * 1)) (by rw [addr_more]; simp)
    exact ⟨h6, s, Fin.of ⟨3 - (j + 1), by omega, j + 1, by omega, wrapS (by omega), rfl, E7⟩⟩
  have hj8 : j = 3 := by omega
  subst hj8
  have E5 : Keep B h0 (L ++ [some (k6, .vec TY.countermandref20_Things (plains thZ) 23), some (k8, .vec TY.a_3_string (plains txZ) 3), some (k10, .vec TY.countermandref20_Things (plains (thF v)) 23), some (k12, .vec TY.a_3_string (plains (txF v.ts)) 3)]) h14 := E4
  have c1 := E5.allM 3 rfl
  refine ⟨thF v, rfl, E5.allM 2 rfl, _, _, _, c1, rfl, _, stores_whole (E5.gM 0 rfl) rfl (by simp [thF]) (by simp [thF, isOne, cT, fT, sT, lT]) (by simp [thF]), ?_⟩
  have E6 := E5.pM (o' := .vec TY.countermandref20_Things (plains (thF v)) 23) 0 rfl
  refine ⟨E6.allM 2 rfl, E6.allM 3 rfl, _, stores_whole (E6.gM 1 rfl) rfl (by simp) (by simp [isOne]) (by simp), ?_⟩
  have E7 := E6.pM (o' := .vec TY.a_3_string (plains (txF v.ts)) 3) 1 rfl
  exact ⟨thF v, rfl, E7.allM 0 rfl, _, _, _, E7.allM 1 rfl, Fin.of (hQ _ E7.zM)⟩
end
end Go.Proofs.YtgldgabefiialaaGreat.H
namespace Go.Proofs.YtgldgabefiialaaGreat.H
open Go Go.RowKit
set_option linter.unusedVariables false
set_option maxRecDepth 100000
abbrev RE := Int × Int × Int
def enR (e : RE) : List Value := [.int .i64 e.1, .int .i64 e.2.1, .int .i64 e.2.2]
theorem enR_len (e : RE) : (enR e).length = 3 := rfl
theorem enR_one (e : RE) : ∀ y ∈ enR e, isOne y = true := fun y hy => by simp [enR] at hy; rcases hy with rfl | rfl | rfl <;> rfl
theorem TK.slc_re : slcB PG TY.s_reads_Entry = some (TY.reads_Entry, 3, 24) := by kernel_rfl
theorem TK.zero_re : zeroB PG TY.reads_Entry = some [.int .i64 0, .int .i64 0, .int .i64 0] := by kernel_rfl
theorem TK.sl_re : slT PG TY.s_reads_Entry = true := by kernel_rfl
def ERow (r : Option (Nat × AObj)) (v : Value) (l : List RE) : Prop := Row r v TY.reads_Entry 3 (l.flatMap enR)
def rsO (v : Value) (st : Int) : AObj := .vec TY.reads_Set (plains [v, .int .i64 st]) 2
structure RdAt (L : List (Option (Nat × AObj))) (i k : Nat) (v : Value) (st : Int) (r : Option (Nat × AObj)) : Prop where
  p : L[i]? = some (some (k, rsO v st))
  q : L[i + 1]? = some r
structure V3 (v : VV) : Prop where
  c8 : v.c.length = 8
  f6 : v.f.length = 6
  l3 : v.l.length = 3
theorem VOk.v3 {x : VI} {v : VV} (o : VOk x v) : V3 v := ⟨o.c8, o.f.n6, o.k.l3⟩
def vld (v : VV) (rs : List RE) : Bool := rs.all fun e => decide (verOf v e.1 e.2.1 = e.2.2)
def fE (rs : List RE) (k i : Int) : Option Int := (rs.find? fun e => decide (e.1 = k ∧ e.2.1 = i)).map fun e => e.2.2
def noteA (v : VV) (rs : List RE) (st k i : Int) : Bool × List RE × Int := match fE rs k i with
  | some w => (w == verOf v k i, rs, st)
  | none => if verOf v k i > st then (if vld v rs = true then (true, rs ++ [(k, i, verOf v k i)], v.t) else (false, rs, st)) else (true, rs ++ [(k, i, verOf v k i)], st)
theorem noteA_len (v : VV) (rs : List RE) (st k i : Int) : (noteA v rs st k i).2.1.length ≤ rs.length + 1 := by
  unfold noteA; split
  · simp
  · split
    · split <;> simp
    · simp
theorem verOf_out {v : VV} (o : V3 v) {k i : Int} (h : ¬ (0 ≤ k ∧ k ≤ 2 ∧ 0 ≤ i ∧ i < 8)) : verOf v k i = 0 := by
  unfold verOf
  split
  · rw [cellAt_int_out (by rw [o.c8]; omega)]
  · split
    · rw [fileAt_out (by rw [o.f6]; omega)]
    · split
      · rw [cellAt_int_out (by rw [o.l3]; omega)]
      · rfl
theorem now_ver {v : VV} (o : V3 v) {k i : Nat} (hk : k ≤ 2) (hi : i < 8) : (nowF v)[k * 8 + i]? = some (.int .i64 (verOf v (k : Int) (i : Int))) := by
  have hc : k = 0 ∨ k = 1 ∨ k = 2 := by omega
  rcases hc with rfl | rfl | rfl
  · rw [Nat.zero_mul, Nat.zero_add, now_c hi]; rfl
  · by_cases h6 : i < 6
    · rw [Nat.one_mul, now_f h6]; rfl
    · have : verOf v ((1 : Nat) : Int) (i : Int) = 0 := by
        show (fileAt v.f (i : Int)).2 = 0
        rw [fileAt_out (by rw [o.f6]; omega)]
      rw [this]
      have h2 : i = 6 ∨ i = 7 := by omega
      rcases h2 with rfl | rfl <;> rfl
  · by_cases h3 : i < 3
    · rw [show 2 * 8 + i = 16 + i by omega, now_l h3]; rfl
    · have : verOf v ((2 : Nat) : Int) (i : Int) = 0 := by
        show (cellAt_int v.l (i : Int)).2 = 0
        rw [cellAt_int_out (by rw [o.l3]; omega)]
      rw [this]
      have h2 : i = 3 ∨ i = 4 ∨ i = 5 ∨ i = 6 ∨ i = 7 := by omega
      rcases h2 with rfl | rfl | rfl | rfl | rfl <;> rfl
section
variable {B : RO} {h0 h h' : Heap} {L M : List (Option (Nat × AObj))} {j kS : Nat} {vS : Value} {st : Int} {r : Option (Nat × AObj)} {rs : List RE} {v : VV} {k i : Int}
theorem nof_wp {Q : Int → Heap → Prop} (o : V3 v) (hQ : Q (verOf v k i) h) : C_reads_Now_Of B (nowF v) k i h Q := by
  refine C_reads_Now_Of.of ?_
  unfold S_reads_Now_Of
  intro k5 a5 b5 h6 e6
  have E := (Keep.nil B h).made a5 b5 e6
  have out : ¬ (0 ≤ k ∧ k ≤ 2 ∧ 0 ≤ i ∧ i < 8) → Fin B h6 (Q 0) := fun hn => by
    rw [verOf_out o hn] at hQ
    exact Fin.ent E.back (Fin.of hQ)
  refine ⟨fun h1 => out (by omega), fun h1 => ⟨fun h2 => out (by omega), fun h2 => ⟨fun h3 => out (by omega), fun h3 => ⟨fun h4 => out (by omega), fun h4 => Fin.of ?_⟩⟩⟩⟩
  unfold S_reads_Now_Of_J1
  obtain ⟨k, rfl⟩ := Int.eq_ofNat_of_zero_le (by omega : 0 ≤ k)
  obtain ⟨i, rfl⟩ := Int.eq_ofNat_of_zero_le (by omega : 0 ≤ i)
  refine ⟨by omega, by omega, by omega, by omega, _, ?_, Fin.ent E.back (Fin.of hQ)⟩
  rw [addr_more, addr_more]
  refine cellH_vec (E.at 0 rfl) ?_
  rw [plains_get, show 0 + Int.toNat (k : Int) * 8 + Int.toNat (i : Int) * 1 = k * 8 + i by simp, now_ver o (by omega) (by omega)]; rfl
theorem ERow.len {a : Option Addr} {m c : Nat} (R : ERow r (.slice a m c) rs) : m = rs.length := (Row.rd (B := fun _ => none) R enR_len (by omega)).1
theorem valid_wp {Q : Bool → Heap → Prop} (E : Keep B h0 L h) (A : RdAt L j kS vS st r) (R : ERow r vS rs) (hl : rs.length ≤ 100000) (o : V3 v) (hQ : ∀ h', Keep B h0 L h' → Q (vld v rs) h') : C_reads_Set_Valid B (some ⟨kS, 0, none⟩) (nowF v) h Q := by
  refine C_reads_Set_Valid.of ?_
  unfold S_reads_Set_Valid
  intro k4 a4 b4 h5 e5
  have E1 := E.start.nM a4 b4 e5
  obtain ⟨a, m, c, rfl⟩ := Row.slice R
  obtain rfl := ERow.len R
  obtain ⟨_, rd⟩ := Row.rd (B := B) R enR_len (by omega)
  refine ⟨fun e => (by cases e), fun _ => ⟨_, rfl, .inl ⟨a, _, c, E1.cell j (up_app _ A.p) rfl, ?_⟩⟩⟩
  refine ⟨fun q m h' => ∃ p : Nat, p ≤ rs.length ∧ q = p ∧ m = rs.length - p ∧ vld v (rs.take p) = true ∧ Keep B h0 (L ++ [some (k4, .vec TY.reads_Now (plains (nowF v)) 25)]) h', rs.length, Fin.of ⟨0, by omega, rfl, rfl, rfl, E1⟩, ?_⟩
  clear E1 e5
  rintro _ _ h14 ⟨p, hp, rfl, rfl, hv, E2⟩
  refine ⟨fun hlt => ?_, fun hge => Fin.of ?_⟩
  · have hpl : p < rs.length := by omega
    have hx := List.getElem?_eq_getElem hpl
    have htk : vld v (rs.take (p + 1)) = (vld v (rs.take p) && decide (verOf v rs[p].1 rs[p].2.1 = rs[p].2.2)) := by
      unfold vld; rw [List.take_succ_eq_append_getElem hpl, List.all_append]; simp
    have hall : ¬ verOf v rs[p].1 rs[p].2.1 = rs[p].2.2 → vld v rs = false := fun hn => by
      unfold vld; rw [List.all_eq_false]; exact ⟨rs[p], List.getElem_mem _, by simp [hn]⟩
    generalize rs[p] = x at hx htk hall
    obtain ⟨A', f1, _, f2⟩ := rd h14 (fun k o e => E2.at (j + 1) (by rw [up_app _ A.q, e])) p x hx
    refine ⟨A', f1, by omega, by omega, x.1, x.2.1, x.2.2, f2, fun k24 a24 b24 h25 e25 => ?_⟩
    have E3 := E2.nM a24 b24 e25
    refine ⟨_, stores_whole (E3.gM 1 rfl) rfl (by simp) (by simp [isOne]) (by simp), ?_⟩
    have E4 := E3.pM (o' := .vec TY.reads_Entry (plains [.int .i64 x.1, .int .i64 x.2.1, .int .i64 x.2.2]) 3) 1 rfl
    refine ⟨nowF v, rfl, E4.allM 0 rfl, _, E4.cM 1 rfl (i := 0) rfl, _, E4.cM 1 rfl (i := 1) rfl, _, E4.cM 1 rfl (i := 2) rfl, nof_wp o ⟨E4.allM 0 rfl, E4.cM 1 rfl (i := 0) rfl, E4.cM 1 rfl (i := 1) rfl, E4.cM 1 rfl (i := 2) rfl, fun he => Fin.of ?_, fun hn => Fin.of ?_⟩⟩
    · exact ⟨rs.length - (p + 1), by omega, p + 1, by omega, wrapS (by omega), rfl, by rw [htk, hv, he]; simp, E4.tM 1⟩
    · rw [← hall hn]; exact hQ _ E4.zM
  · have : p = rs.length := by omega
    subst this
    rw [List.take_length] at hv
    rw [← hv]; exact hQ _ E2.zM
theorem fE_none : fE rs k i = none ↔ ∀ e ∈ rs, ¬ (e.1 = k ∧ e.2.1 = i) := by
  unfold fE; rw [Option.map_eq_none_iff, List.find?_eq_none]; simp
theorem fE_at {p : Nat} {e : RE} (hp : rs[p]? = some e) (hm : e.1 = k ∧ e.2.1 = i) (hn : ∀ q e', q < p → rs[q]? = some e' → ¬ (e'.1 = k ∧ e'.2.1 = i)) : fE rs k i = some e.2.2 := by
  obtain ⟨hl, rfl⟩ := List.getElem?_eq_some_iff.1 hp
  have hs : rs = rs.take p ++ rs[p] :: rs.drop (p + 1) := by rw [← List.drop_eq_getElem_cons hl, List.take_append_drop]
  unfold fE
  generalize rs[p] = x at *
  rw [hs, List.find?_append, List.find?_eq_none.2 (fun e' he' => by
    obtain ⟨q, hq, rfl⟩ := List.mem_iff_getElem.1 he'
    rw [List.length_take] at hq
    rw [List.getElem_take]
    have := hn q rs[q] (by omega) (List.getElem?_eq_getElem (by omega))
    simpa using this)]
  rw [Option.none_or, List.find?_cons_of_pos (by simpa using hm)]; rfl
theorem place1_wp {e : RE} {a b : Addr} {Q : Bool → Heap → Prop} (c1 : cellH B h a = some (.int .i64 k)) (c2 : cellH B h b = some (.int .i64 i)) (hQ : ∀ h', Keep B h [] h' → Q (decide (e.1 = k ∧ e.2.1 = i)) h') : C_reads_Set_place_1 B e.1 e.2.1 e.2.2 a b h Q := by
  refine C_reads_Set_place_1.of ?_
  unfold S_reads_Set_place_1
  intro k7 a7 b7 h8 e8
  have E := (Keep.nil B h).made a7 b7 e8
  have w := E.w
  refine ⟨_, E.cell 0 rfl rfl, k, w.cell c1, fun he => ⟨_, E.cell 0 rfl rfl, i, w.cell c2, Fin.of ?_⟩, fun hn => Fin.of ?_⟩
  · have : (e.2.1 == i) = decide (e.1 = k ∧ e.2.1 = i) := by
      rw [Bool.eq_iff_iff]; simp [he]
    rw [this]; exact hQ _ E.pop
  · have := hQ _ E.pop
    rw [decide_eq_false (by simp [hn])] at this; exact this
theorem place_wp {Q : Int → Heap → Prop} (E : Keep B h0 L h) (A : RdAt L j kS vS st r) (R : ERow r vS rs) (hl : rs.length ≤ 100000) (hS : ∀ p e h', rs[p]? = some e → fE rs k i = some e.2.2 → Keep B h0 L h' → Q (p : Nat) h') (hN : fE rs k i = none → ∀ h', Keep B h0 L h' → Q (-1) h') : C_reads_Set_place B (some ⟨kS, 0, none⟩) k i h Q := by
  refine C_reads_Set_place.of ?_
  unfold S_reads_Set_place
  intro k5 a5 b5 h6 e6 k7 a7 b7 h8 e8
  have E1 := (E.start.nM a5 b5 e6).nM a7 b7 e8
  obtain ⟨a, m, c, rfl⟩ := Row.slice R
  obtain rfl := ERow.len R
  obtain ⟨_, rd⟩ := Row.rd (B := B) R enR_len (by omega)
  refine ⟨_, rfl, .inl ⟨a, _, c, E1.cell j (up_app _ A.p) rfl, ?_⟩⟩
  refine C_slices_IndexFunc_s_reads_Entry_reads_Entry.of ?_
  unfold S_slices_IndexFunc_s_reads_Entry_reads_Entry
  refine ⟨fun q m h' => ∃ p : Nat, p ≤ rs.length ∧ q = p ∧ m = rs.length - p ∧ (∀ q e, q < p → rs[q]? = some e → ¬ (e.1 = k ∧ e.2.1 = i)) ∧ Keep B h0 (L ++ [some (k5, .vec TY.reads_Kind (plains [.int .i64 k]) 1), some (k7, .vec TY.int (plains [.int .i64 i]) 1)]) h', rs.length, Fin.of ⟨0, by omega, rfl, rfl, fun q e hq => by omega, E1⟩, ?_⟩
  clear E1 e6 e8
  rintro _ _ h14 ⟨p, hp, rfl, rfl, hv, E2⟩
  refine ⟨fun hlt => ?_, fun hge => Fin.of (Fin.of ?_)⟩
  · have hpl : p < rs.length := by omega
    have hx := List.getElem?_eq_getElem hpl
    generalize rs[p] = x at hx
    obtain ⟨A', f1, _, f2⟩ := rd h14 (fun k o e => E2.at (j + 1) (by rw [up_app _ A.q, e])) p x hx
    refine ⟨A', f1, by omega, by omega, x.1, x.2.1, x.2.2, f2, CallV.func TG.reads_Set_place_1 (place1_wp (e := x) (E2.cM 0 rfl (i := 0) rfl) (E2.cM 1 rfl (i := 0) rfl) fun h17 E3 => ⟨fun hT => Fin.of (Fin.of ?_), fun hF => Fin.of ?_⟩)⟩
    · rw [decide_eq_true_eq] at hT
      exact hS p x h17 hx (fE_at hx hT hv) (E2.wk E3.w).zM
    · rw [decide_eq_false_iff_not] at hF
      refine ⟨rs.length - (p + 1), by omega, p + 1, by omega, wrapS (by omega), rfl, fun q e hq hg => ?_, E2.wk E3.w⟩
      by_cases he : q = p
      · subst he; rw [hx] at hg; cases hg; exact hF
      · exact hv q e (by omega) hg
  · refine hN (fE_none.2 fun e he => ?_) _ E2.zM
    obtain ⟨q, hq, rfl⟩ := List.mem_iff_getElem.1 he
    exact hv q _ (by omega) (List.getElem?_eq_getElem hq)
theorem set_self {q : Nat} {y : Option (Nat × AObj)} (h : L[q]? = some y) : L.set q y = L := by
  obtain ⟨_, h2⟩ := List.getElem?_eq_some_iff.1 h
  rw [← h2, List.set_getElem_self]
theorem Note_J1 {Q : Bool → Heap → Prop} (E : Keep B h0 L h) (A : RdAt L j kS vS st r) (R : ERow r vS rs) (hl : rs.length ≤ 100000) {w : Int} (hQ : ∀ vS' r' h', ERow r' vS' (rs ++ [(k, i, w)]) → Keep B h0 ((L.set j (some (kS, rsO vS' st))).set (j + 1) r') h' → Q true h') : S_reads_Set_Note_J1 B (some ⟨kS, 0, none⟩) k i w h Q := by
  unfold S_reads_Set_Note_J1
  obtain ⟨a, m, c, rfl⟩ := Row.slice R
  obtain rfl := ERow.len R
  have hj := (List.getElem?_eq_some_iff.1 A.p).1
  have hj1 := (List.getElem?_eq_some_iff.1 A.q).1
  have hfl := flatMap_length enR_len rs
  refine ⟨_, rfl, .inl ⟨a, _, c, E.cell j A.p rfl, fun k31 a31 b31 h32 e32 => ?_⟩⟩
  have E1 := E.made a31 b31 e32
  have g := E1.last
  refine E1.pushS (j + 1) (n := 1) (ys := enR (k, i, w)) (up_app _ A.q) R TK.slc_re TK.zero_re rfl (by omega) (by omega) TK.sl_re ⟨rfl, enR_one _, .inl ⟨_, _, rfl, CellsAt.of_vec (enR (k, i, w)) 0 g fun q y hy => by rw [show 0 + 0 + q = q by omega]; exact plains_get_some hy⟩⟩ (by rw [hfl, enR_len]; omega) fun a' m' c' r' h61 R' E2 => ?_
  rw [List.set_append_left _ _ hj1] at E2
  have hp : (L.set (j + 1) r' ++ [some (k31, AObj.vec TY.reads_Entry (plains (enR (k, i, w))) 3)])[j]? = some (some (kS, rsO (.slice a rs.length c) st)) := up_app _ (by rw [List.getElem?_set_ne (by omega)]; exact A.p)
  obtain ⟨es, E3⟩ := E2.store j 0 (.slice a' m' c') hp rfl
  refine ⟨a', m', c', rfl, _, rfl, _, es, Fin.of (hQ (.slice a' m' c') r' _ ?_ ?_)⟩
  · unfold ERow; rw [List.flatMap_append]; simpa using R'
  · rw [List.set_append_left _ _ (by rw [List.length_set]; omega), List.set_comm _ _ (by omega)] at E3
    exact E3.popL
theorem rnote_wp {Q : Bool → Heap → Prop} (E : Keep B h0 L h) (A : RdAt L j kS vS st r) (R : ERow r vS rs) (hl : rs.length ≤ 90000) (o : V3 v)
    (hQ : ∀ vS' r' h', ERow r' vS' (noteA v rs st k i).2.1 → Keep B h0 ((L.set j (some (kS, rsO vS' (noteA v rs st k i).2.2))).set (j + 1) r') h' → Q (noteA v rs st k i).1 h') : C_reads_Set_Note B (some ⟨kS, 0, none⟩) (nowF v) k i h Q := by
  refine C_reads_Set_Note.of ?_
  unfold S_reads_Set_Note
  have hj := (List.getElem?_eq_some_iff.1 A.p).1
  have hj1 := (List.getElem?_eq_some_iff.1 A.q).1
  intro k6 a6 b6 h7 e7
  have E1 := E.start.nM a6 b6 e7
  refine ⟨fun e => (by cases e), fun _ => ⟨nowF v, rfl, E1.allM 0 rfl, nof_wp o ?_⟩⟩
  have A1 : ∀ {y : Option (Nat × AObj)}, RdAt (L ++ [y]) j kS vS st r := ⟨up_app _ A.p, up_app _ A.q⟩
  have same : ∀ h', Keep B h0 L h' → Keep B h0 ((L.set j (some (kS, rsO vS st))).set (j + 1) r) h' := fun h' E => by
    rw [set_self A.p, set_self A.q]; exact E
  obtain ⟨_, rd⟩ : ∃ u : Unit, ∀ a m c, vS = .slice a m c → m = rs.length ∧ RowRd B r a 3 enR rs := ⟨(), fun a m c e => by subst e; exact Row.rd (B := B) R enR_len (by omega)⟩
  refine place_wp E1 A1 R (by omega) (fun p e h12 hp hf E2 => ⟨fun _ => ?_, fun hn => by omega⟩) (fun hf h12 E2 => ⟨fun hn => by omega, fun _ => ?_⟩)
  · obtain ⟨a, m, c, rfl⟩ := Row.slice R
    obtain ⟨hm, rd⟩ := rd a m c rfl
    obtain ⟨A', f1, _, f2⟩ := rd h12 (fun k o e => E2.at (j + 1) (by rw [up_app _ A.q, e])) p e hp
    have hpl := (List.getElem?_eq_some_iff.1 hp).1
    have hc : cellH B h12 (Addr.add (Addr.add A' (Int.toNat (p : Int) * 3)) 2) = some (.int .i64 e.2.2) := by rw [Int.toNat_natCast]; exact f2.2.2.1
    refine ⟨_, rfl, .inl ⟨a, m, c, E2.cell j (up_app _ A.p) rfl, A', f1, by omega, by omega, _, hc, Fin.of ?_⟩⟩
    have h1 : noteA v rs st k i = (e.2.2 == verOf v k i, rs, st) := by unfold noteA; rw [hf]
    rw [h1] at hQ
    exact hQ _ r _ R (same _ E2.zM)
  · refine ⟨_, rfl, st, E2.cell j (up_app _ A.p) rfl, fun hgt => ⟨nowF v, rfl, E2.allM 0 rfl, valid_wp E2 A1 R (by omega) o fun h44 E3 => ⟨fun hT => ?_, fun hF => Fin.of ?_⟩⟩, fun hle => Fin.of ?_⟩
    · have h1 : noteA v rs st k i = (true, rs ++ [(k, i, verOf v k i)], v.t) := by unfold noteA; rw [hf]; simp only; rw [if_pos hgt, if_pos hT]
      rw [h1] at hQ
      obtain ⟨es, E4⟩ := E3.store j 1 (.int .i64 v.t) (up_app _ A.p) rfl
      refine ⟨v.t, cellH_vec (E3.gM 0 rfl) rfl, _, rfl, _, es, Fin.of ?_⟩
      rw [List.set_append_left _ _ hj] at E4
      refine Note_J1 (E4.zM) (st := v.t) ⟨List.getElem?_set_self hj, by rw [List.getElem?_set_ne (by omega)]; exact A.q⟩ R (by omega) fun vS' r' h' R' E5 => hQ vS' r' h' R' (by rw [List.set_set] at E5; exact E5)
    · have h1 : noteA v rs st k i = (false, rs, st) := by unfold noteA; rw [hf]; simp only; rw [if_pos hgt, if_neg (by rw [hF]; simp)]
      rw [h1] at hQ
      exact hQ _ r _ R (same _ E3.zM)
    · have h1 : noteA v rs st k i = (true, rs ++ [(k, i, verOf v k i)], st) := by unfold noteA; rw [hf]; simp only; rw [if_neg (fun h => hle h)]
      rw [h1] at hQ
      exact Note_J1 E2.zM A R (by omega) hQ
end
end Go.Proofs.YtgldgabefiialaaGreat.H
namespace Go.Proofs.YtgldgabefiialaaGreat.H
open Go Go.RowKit
set_option linter.unusedVariables false
set_option maxRecDepth 100000
def StV.cr (s : StV) (i : Int) : Int := if i = 0 then s.c0 else if i = 1 then s.c1 else if i = 2 then s.c2 else 0
def StV.step (s : StV) (i : Int) : StV := if i = 0 then { s with c0 := s.c0 + 1 } else if i = 1 then { s with c1 := s.c1 + 1 } else if i = 2 then { s with c2 := s.c2 + 1 } else s
theorem StV.step_cr (s : StV) {i j : Int} (hi : 0 ≤ i ∧ i < 3) : (s.step i).cr j = if j = i then s.cr i + 1 else s.cr j := by
  have hc : i = 0 ∨ i = 1 ∨ i = 2 := by omega
  rcases hc with rfl | rfl | rfl
  · show StV.cr { s with c0 := s.c0 + 1 } j = if j = 0 then s.c0 + 1 else s.cr j
    unfold StV.cr; by_cases h : j = 0 <;> simp [h]
  · show StV.cr { s with c1 := s.c1 + 1 } j = if j = 1 then s.c1 + 1 else s.cr j
    unfold StV.cr; by_cases h : j = 1
    · subst h; rfl
    · simp [h]
  · show StV.cr { s with c2 := s.c2 + 1 } j = if j = 2 then s.c2 + 1 else s.cr j
    unfold StV.cr; by_cases h : j = 2
    · subst h; rfl
    · simp [h]
theorem StV.step_d (s : StV) (i : Int) : (s.step i).d = s.d ∧ (s.step i).f = s.f := by
  unfold StV.step; (repeat' split) <;> exact ⟨rfl, rfl⟩
structure AK where
  kA : Nat
  kS : Nat
  kX : Nat
  kK : Nat
structure AU where
  vS : Value
  rS : Option (Nat × AObj)
  x : StI
structure AV where
  rs : List RE
  st : Int
  s : StV
  g : Reg4
def attO (V : VI) (K : AK) (x : StI) (g : Reg4) : AObj := .vec TY.attempt_Attempt (plains [.pointer (some ⟨V.kV, 0, none⟩), .pointer (some ⟨K.kS, 0, none⟩), .pointer (some ⟨x.kd, 0, none⟩), .pointer (some ⟨x.ks, 0, none⟩), .pointer (some ⟨x.kc, 0, none⟩), .int .i64 g.a, .int .i64 g.b, .int .i64 g.c, .int .i64 g.d, .pointer (some ⟨K.kX, 0, none⟩), .pointer (some ⟨K.kK, 0, none⟩)]) 11
def AE (V : VI) (K : AK) (U : AU) (s : AV) : List (Option (Nat × AObj)) := [some (K.kA, attO V K U.x s.g), some (K.kS, rsO U.vS s.st), U.rS, some (U.x.kd, drO_int U.x.vd), U.x.rd, some (U.x.ks, shtO U.x.kf), some (U.x.kf, drO_file_File U.x.vf), U.x.rf, some (U.x.kc, curO s.s)]
structure AOk (v : VV) (s : AV) : Prop where
  so : SOk v.f s.s.f
  sd : SortD s.s.d
  dk : ∀ x ∈ s.s.d, 0 ≤ x.1 ∧ x.1 < 8
  cr : ∀ i, 0 ≤ s.s.cr i ∧ s.s.cr i ≤ 64
theorem sort_lenN {W : Type} (n : Nat) : ∀ (d : List (Int × W)) (a : Nat), SortD d → (∀ x ∈ d, (a : Int) ≤ x.1 ∧ x.1 < n) → d.length ≤ n - a := by
  intro d
  induction d with
  | nil => intro a _ _; simp
  | cons x d ih =>
    intro a s h
    obtain ⟨h1, h2⟩ := h x (by simp)
    obtain ⟨s1, s2⟩ := List.pairwise_cons.1 s
    have := ih (a + 1) s2 (fun y hy => ⟨by have := s1 y hy; omega, (h y (by simp [hy])).2⟩)
    simp only [List.length_cons]; omega
theorem AOk.dlen {v : VV} {s : AV} (o : AOk v s) : s.s.d.length ≤ 8 := sort_lenN 8 s.s.d 0 o.sd fun x hx => o.dk x hx
structure SS (B : RO) (h0 : Heap) (L : List (Option (Nat × AObj))) (h : Heap) (V : VI) (v : VV) (K : AK) (U : AU) (s : AV) : Prop where
  E : Keep B h0 (L ++ (V.e v ++ AE V K U s)) h
  o : VOk V v
  R : ERow U.rS U.vS s.rs
  O : U.x.Ok s.s
  a : AOk v s
def s0 (v : VV) (g : Reg4) : AV := ⟨[], v.t, StV.z, g⟩
theorem SOk.nil {l : FL} (k : TomeOk l) : SOk l [] := ⟨List.Pairwise.nil, fun x hx => (by cases hx), k.n6, k.good⟩
theorem AOk.zero {v : VV} {V : VI} (o : VOk V v) {g : Reg4} : AOk v (s0 v g) := ⟨SOk.nil o.f, List.Pairwise.nil, fun x hx => (by cases hx), fun i => by simp only [s0, StV.z, StV.cr]; (repeat' split) <;> omega⟩
section
variable {B : RO} {h0 h h' : Heap} {L M : List (Option (Nat × AObj))} {V : VI} {v : VV} {K : AK} {U : AU} {s : AV} {k : Nat} {i j : Int} {c : StV} {g : Reg4}
theorem cur_cell (hk : h k = some (curO c)) (hi : 0 ≤ i ∧ i < 3) : cellH B h (Addr.add ⟨k, 0, none⟩ (Int.toNat i * 1)) = some (.int .i64 (c.cr i)) := by
  rw [addr_more]
  have hc : i = 0 ∨ i = 1 ∨ i = 2 := by omega
  rcases hc with rfl | rfl | rfl <;> exact cellH_vec hk rfl
theorem pis_wp {n : Int} {Q : Bool → Heap → Prop} (hQ : Q (decide (0 ≤ n ∧ n < 3)) h) : C_cursor_is B n h Q := by
  refine C_cursor_is.of ?_
  unfold S_cursor_is
  refine ⟨fun h1 => Fin.of ?_, fun h1 => Fin.of ?_⟩
  · have : decide (0 ≤ n ∧ n < 3) = decide (n < 3) := by simp; omega
    rw [this] at hQ; exact hQ
  · rw [decide_eq_false (by omega)] at hQ; exact hQ
theorem cread_wp {Q : Int → Heap → Prop} (hk : h k = some (curO c)) (hi : 0 ≤ i ∧ i < 3) (hQ : Q (c.cr i) h) : C_cursor_Cursor_Read B (some ⟨k, 0, none⟩) i h Q := by
  refine C_cursor_Cursor_Read.of ?_
  unfold S_cursor_Cursor_Read
  refine ⟨fun e => (by cases e), fun _ => pis_wp ⟨fun _ => Fin.of ?_, fun e => absurd e (by simp; omega)⟩⟩
  unfold S_cursor_Cursor_Read_J1
  exact ⟨_, rfl, by omega, by omega, _, cur_cell hk hi, Fin.of hQ⟩
theorem cat_wp {p : Int} {Q : Int → Heap → Prop} (hk : h k = some (curO c)) (hi : 0 ≤ i ∧ i < 3) (hQ : Q (IntKind.wrap .i64 (p + c.cr i)) h) : C_cursor_Cursor_At B (some ⟨k, 0, none⟩) i p h Q := by
  refine C_cursor_Cursor_At.of ?_
  unfold S_cursor_Cursor_At
  refine ⟨fun e => (by cases e), fun _ => pis_wp ⟨fun _ => Fin.of ?_, fun e => absurd e (by simp; omega)⟩⟩
  unfold S_cursor_Cursor_At_J1
  exact ⟨_, rfl, by omega, by omega, _, cur_cell hk hi, Fin.of hQ⟩
theorem cstep_wp {q : Nat} {Q : Bool → Heap → Prop} (E : Keep B h0 L h) (hq : L[q]? = some (some (k, curO c))) (hi : 0 ≤ i ∧ i < 3) (hc : 0 ≤ c.cr i ∧ c.cr i < 64) (hQ : ∀ h', Keep B h0 (L.set q (some (k, curO (c.step i)))) h' → Q true h') : C_cursor_Cursor_Step B (some ⟨k, 0, none⟩) i h Q := by
  refine C_cursor_Cursor_Step.of ?_
  unfold S_cursor_Cursor_Step
  have hk := E.at q hq
  refine ⟨fun e => (by cases e), fun _ => pis_wp ⟨fun _ => ⟨_, rfl, by omega, by omega, _, cur_cell hk hi, fun hg => by omega, fun hl => Fin.of ?_⟩, fun e => absurd e (by simp; omega)⟩⟩
  unfold S_cursor_Cursor_Step_J1
  have hw : IntKind.wrap .i64 (c.cr i + 1) = c.cr i + 1 := w64 (by omega) (by omega)
  refine ⟨_, rfl, by omega, by omega, _, cur_cell hk hi, _, rfl, by omega, by omega, ?_⟩
  rw [hw, addr_more]
  have h3 : i = 0 ∨ i = 1 ∨ i = 2 := by omega
  rcases h3 with rfl | rfl | rfl
  · obtain ⟨es, E1⟩ := E.store q 0 (.int .i64 (c.cr 0 + 1)) hq rfl
    exact ⟨_, es, Fin.of (hQ _ E1)⟩
  · obtain ⟨es, E1⟩ := E.store q 1 (.int .i64 (c.cr 1 + 1)) hq rfl
    exact ⟨_, es, Fin.of (hQ _ E1)⟩
  · obtain ⟨es, E1⟩ := E.store q 2 (.int .i64 (c.cr 2 + 1)) hq rfl
    exact ⟨_, es, Fin.of (hQ _ E1)⟩
theorem rnew_wp {st : Int} {Q : Option Addr → Heap → Prop} (hQ : ∀ k, h k = none → B k = none → Q (some ⟨k, 0, none⟩) (h.set k (rsO (.slice none 0 0) st))) : C_reads_New B st h Q := by
  refine C_reads_New.of ?_
  unfold S_reads_New
  intro k a b h1 e
  subst e
  exact Fin.of (hQ k a b)
theorem Keep.apM {M' : List (Option (Nat × AObj))} (E : Keep B h0 (L ++ M) h) (E' : Keep B h M' h') : Keep B h0 (L ++ (M ++ M')) h' := by
  rw [← List.append_assoc]; exact E.append E'
def acO0 : AObj := .vec TY.acts_Acts (plains [.slice none 0 0, .slice none 0 0, .slice none 0 0, .slice none 0 0]) 4
theorem new_J1 {k7 : Nat} {Q : Option Addr → Heap → Prop} (E0 : Keep B h0 ((L ++ V.e v) ++ [some (k7, .vec TY.api_Regs (plains [.int .i64 g.a, .int .i64 g.b, .int .i64 g.c, .int .i64 g.d]) 4)]) h) (o : VOk V v)
    (hQ : ∀ K U h', SS B h0 (L ++ [some (K.kX, acO0), some (K.kK, skO (.slice none 0 0))]) h' V v K U (s0 v g) → Q (some ⟨K.kA, 0, none⟩) h') : S_attempt_New_J1 B k7 (some ⟨V.kV, 0, none⟩) h Q := by
  have pr : ∀ {M : List (Option (Nat × AObj))} {h1 : Heap}, Keep B h0 ((L ++ V.e v) ++ (some (k7, .vec TY.api_Regs (plains [.int .i64 g.a, .int .i64 g.b, .int .i64 g.c, .int .i64 g.d]) 4) :: M)) h1 → cellH B h1 (Addr.add ⟨V.kV, 0, none⟩ 3) = some (.int .i64 v.t) ∧ CellsAt B h1 ⟨k7, 0, none⟩ 0 [.int .i64 g.a, .int .i64 g.b, .int .i64 g.c, .int .i64 g.d] := fun {M h1} E => by
    refine ⟨?_, E.cM 0 rfl (i := 0) rfl, E.cM 0 rfl (i := 1) rfl, E.cM 0 rfl (i := 2) rfl, E.cM 0 rfl (i := 3) rfl, trivial⟩
    rw [List.append_assoc] at E
    exact cellH_vec ((VAt.mk (L := L) (x := V) (v := v)).at E 0 (by decide) rfl) rfl
  have fin : ∀ {kS kX kK : Nat} {x : StI} {h1 : Heap}, StI.Ok x StV.z → Keep B h0 ((L ++ V.e v) ++ [some (k7, .vec TY.api_Regs (plains [.int .i64 g.a, .int .i64 g.b, .int .i64 g.c, .int .i64 g.d]) 4), some (kS, rsO (.slice none 0 0) v.t), some (x.kd, drO_int x.vd), x.rd, some (x.ks, shtO x.kf), some (x.kf, drO_file_File x.vf), x.rf, some (x.kc, curO StV.z), some (kX, acO0), some (kK, skO (.slice none 0 0))]) h1 → S_attempt_New_J2 B k7 (some ⟨V.kV, 0, none⟩) ⟨V.kV, 0, none⟩ v.t g.a g.b g.c g.d (some ⟨kS, 0, none⟩) (some ⟨x.kd, 0, none⟩) (some ⟨x.ks, 0, none⟩) (some ⟨x.kc, 0, none⟩) g.a g.b g.c g.d ⟨kX, 0, none⟩ ⟨kK, 0, none⟩ h1 Q := fun {kS kX kK x h1} O E => by
    unfold S_attempt_New_J2
    intro kA a b h2 e2
    have E1 := E.nM a b e2
    refine ⟨(pr E1).1, (pr E1).2, Fin.of (hQ ⟨kA, kS, kX, kK⟩ ⟨.slice none 0 0, none, x⟩ _ ⟨?_, o, Row.nil _ _, O, AOk.zero o⟩)⟩
    rw [List.append_assoc] at E1 ⊢
    exact E1.sM [15, 16, 0, 1, 2, 3, 4, 5, 6, 17, 8, 99, 9, 10, 11, 12, 13, 14] (by decide)
  unfold S_attempt_New_J1
  refine ⟨_, rfl, v.t, (pr E0).1, g.a, g.b, g.c, g.d, (pr E0).2, ?_⟩
  refine ⟨?_, ?_, ?_⟩
  · skip
    refine rnew_wp fun q1 a1 b1 => ?_
    have E1 := E0.nM (o := rsO (.slice none 0 0) v.t) a1 b1 rfl
    refine ⟨(pr E1).1, (pr E1).2, ?_⟩
    refine ⟨?_, ?_, ?_⟩
    · skip
      refine fresh_wp (g := g) fun x2 h2 O2 F2 => ?_
      have E2 := E1.apM F2
      refine ⟨(pr E2).1, (pr E2).2, ?_⟩
      refine ⟨?_, ?_⟩
      · skip
        intro q3 a3 b3 h3 e3
        have E3 := E2.nM a3 b3 e3
        refine ⟨(pr E3).1, (pr E3).2, ?_⟩
        intro q4 a4 b4 h4 e4
        have E4 := E3.nM a4 b4 e4
        refine ⟨(pr E4).1, (pr E4).2, ?_⟩
        exact fin (by assumption) (E4.sM [0, 1, 2, 3, 4, 5, 6, 7, 8, 9] (by decide))
      · skip
        intro q5 a5 b5 h5 e5
        have E5 := E2.nM a5 b5 e5
        refine ⟨(pr E5).1, (pr E5).2, ?_⟩
        intro q6 a6 b6 h6 e6
        have E6 := E5.nM a6 b6 e6
        refine ⟨(pr E6).1, (pr E6).2, ?_⟩
        exact fin (by assumption) (E6.sM [0, 1, 2, 3, 4, 5, 6, 7, 9, 8] (by decide))
    · skip
      intro q7 a7 b7 h7 e7
      have E7 := E1.nM a7 b7 e7
      refine ⟨(pr E7).1, (pr E7).2, ?_⟩
      refine ⟨?_, ?_⟩
      · skip
        refine fresh_wp (g := g) fun x8 h8 O8 F8 => ?_
        have E8 := E7.apM F8
        refine ⟨(pr E8).1, (pr E8).2, ?_⟩
        intro q9 a9 b9 h9 e9
        have E9 := E8.nM a9 b9 e9
        refine ⟨(pr E9).1, (pr E9).2, ?_⟩
        exact fin (by assumption) (E9.sM [0, 1, 3, 4, 5, 6, 7, 8, 2, 9] (by decide))
      · skip
        intro q10 a10 b10 h10 e10
        have E10 := E7.nM a10 b10 e10
        refine ⟨(pr E10).1, (pr E10).2, ?_⟩
        refine fresh_wp (g := g) fun x11 h11 O11 F11 => ?_
        have E11 := E10.apM F11
        refine ⟨(pr E11).1, (pr E11).2, ?_⟩
        exact fin (by assumption) (E11.sM [0, 1, 4, 5, 6, 7, 8, 9, 2, 3] (by decide))
    · skip
      intro q12 a12 b12 h12 e12
      have E12 := E1.nM a12 b12 e12
      refine ⟨(pr E12).1, (pr E12).2, ?_⟩
      refine ⟨?_, ?_⟩
      · skip
        refine fresh_wp (g := g) fun x13 h13 O13 F13 => ?_
        have E13 := E12.apM F13
        refine ⟨(pr E13).1, (pr E13).2, ?_⟩
        intro q14 a14 b14 h14 e14
        have E14 := E13.nM a14 b14 e14
        refine ⟨(pr E14).1, (pr E14).2, ?_⟩
        exact fin (by assumption) (E14.sM [0, 1, 3, 4, 5, 6, 7, 8, 9, 2] (by decide))
      · skip
        intro q15 a15 b15 h15 e15
        have E15 := E12.nM a15 b15 e15
        refine ⟨(pr E15).1, (pr E15).2, ?_⟩
        refine fresh_wp (g := g) fun x16 h16 O16 F16 => ?_
        have E16 := E15.apM F16
        refine ⟨(pr E16).1, (pr E16).2, ?_⟩
        exact fin (by assumption) (E16.sM [0, 1, 4, 5, 6, 7, 8, 9, 3, 2] (by decide))
  · skip
    intro q17 a17 b17 h17 e17
    have E17 := E0.nM a17 b17 e17
    refine ⟨(pr E17).1, (pr E17).2, ?_⟩
    refine ⟨?_, ?_⟩
    · skip
      refine rnew_wp fun q18 a18 b18 => ?_
      have E18 := E17.nM (o := rsO (.slice none 0 0) v.t) a18 b18 rfl
      refine ⟨(pr E18).1, (pr E18).2, ?_⟩
      refine ⟨?_, ?_⟩
      · skip
        refine fresh_wp (g := g) fun x19 h19 O19 F19 => ?_
        have E19 := E18.apM F19
        refine ⟨(pr E19).1, (pr E19).2, ?_⟩
        intro q20 a20 b20 h20 e20
        have E20 := E19.nM a20 b20 e20
        refine ⟨(pr E20).1, (pr E20).2, ?_⟩
        exact fin (by assumption) (E20.sM [0, 2, 3, 4, 5, 6, 7, 8, 1, 9] (by decide))
      · skip
        intro q21 a21 b21 h21 e21
        have E21 := E18.nM a21 b21 e21
        refine ⟨(pr E21).1, (pr E21).2, ?_⟩
        refine fresh_wp (g := g) fun x22 h22 O22 F22 => ?_
        have E22 := E21.apM F22
        refine ⟨(pr E22).1, (pr E22).2, ?_⟩
        exact fin (by assumption) (E22.sM [0, 2, 4, 5, 6, 7, 8, 9, 1, 3] (by decide))
    · skip
      intro q23 a23 b23 h23 e23
      have E23 := E17.nM a23 b23 e23
      refine ⟨(pr E23).1, (pr E23).2, ?_⟩
      refine rnew_wp fun q24 a24 b24 => ?_
      have E24 := E23.nM (o := rsO (.slice none 0 0) v.t) a24 b24 rfl
      refine ⟨(pr E24).1, (pr E24).2, ?_⟩
      refine fresh_wp (g := g) fun x25 h25 O25 F25 => ?_
      have E25 := E24.apM F25
      refine ⟨(pr E25).1, (pr E25).2, ?_⟩
      exact fin (by assumption) (E25.sM [0, 3, 4, 5, 6, 7, 8, 9, 1, 2] (by decide))
  · skip
    intro q26 a26 b26 h26 e26
    have E26 := E0.nM a26 b26 e26
    refine ⟨(pr E26).1, (pr E26).2, ?_⟩
    refine ⟨?_, ?_⟩
    · skip
      refine rnew_wp fun q27 a27 b27 => ?_
      have E27 := E26.nM (o := rsO (.slice none 0 0) v.t) a27 b27 rfl
      refine ⟨(pr E27).1, (pr E27).2, ?_⟩
      refine ⟨?_, ?_⟩
      · skip
        refine fresh_wp (g := g) fun x28 h28 O28 F28 => ?_
        have E28 := E27.apM F28
        refine ⟨(pr E28).1, (pr E28).2, ?_⟩
        intro q29 a29 b29 h29 e29
        have E29 := E28.nM a29 b29 e29
        refine ⟨(pr E29).1, (pr E29).2, ?_⟩
        exact fin (by assumption) (E29.sM [0, 2, 3, 4, 5, 6, 7, 8, 9, 1] (by decide))
      · skip
        intro q30 a30 b30 h30 e30
        have E30 := E27.nM a30 b30 e30
        refine ⟨(pr E30).1, (pr E30).2, ?_⟩
        refine fresh_wp (g := g) fun x31 h31 O31 F31 => ?_
        have E31 := E30.apM F31
        refine ⟨(pr E31).1, (pr E31).2, ?_⟩
        exact fin (by assumption) (E31.sM [0, 2, 4, 5, 6, 7, 8, 9, 3, 1] (by decide))
    · skip
      intro q32 a32 b32 h32 e32
      have E32 := E26.nM a32 b32 e32
      refine ⟨(pr E32).1, (pr E32).2, ?_⟩
      refine rnew_wp fun q33 a33 b33 => ?_
      have E33 := E32.nM (o := rsO (.slice none 0 0) v.t) a33 b33 rfl
      refine ⟨(pr E33).1, (pr E33).2, ?_⟩
      refine fresh_wp (g := g) fun x34 h34 O34 F34 => ?_
      have E34 := E33.apM F34
      refine ⟨(pr E34).1, (pr E34).2, ?_⟩
      exact fin (by assumption) (E34.sM [0, 3, 4, 5, 6, 7, 8, 9, 2, 1] (by decide))
theorem anew_wp {Q : Option Addr → Heap → Prop} (E : Keep B h0 (L ++ V.e v) h) (o : VOk V v)
    (hQ : ∀ K U h', SS B h0 (L ++ [some (K.kX, acO0), some (K.kK, skO (.slice none 0 0))]) h' V v K U (s0 v g) → Q (some ⟨K.kA, 0, none⟩) h') : C_attempt_New B (some ⟨V.kV, 0, none⟩) g.a g.b g.c g.d h Q := by
  refine C_attempt_New.of ?_
  unfold S_attempt_New
  intro k7 a7 b7 h8 e8
  exact ⟨fun e => (by cases e), fun _ => Fin.of (new_J1 (E.made a7 b7 e8) o hQ)⟩
theorem AOk.re {s' : AV} (a : AOk v s) (e : s'.s = s.s) : AOk v s' := ⟨by rw [e]; exact a.so, by rw [e]; exact a.sd, by rw [e]; exact a.dk, by rw [e]; exact a.cr⟩
def noteS (v : VV) (s : AV) (k i : Int) : AV := { s with rs := (noteA v s.rs s.st k i).2.1, st := (noteA v s.rs s.st k i).2.2 }
def noteE (v : VV) (s : AV) (k i : Int) : Int := if (noteA v s.rs s.st k i).1 = true then 0 else 9
theorem anote_wp {k i : Int} {Q : Int → Heap → Prop} (S : SS B h0 L h V v K U s) (hn : s.rs.length ≤ 90000) (hQ : ∀ U' h', U'.x = U.x → SS B h0 L h' V v K U' (noteS v s k i) → Q (noteE v s k i) h') : C_attempt_Attempt_note B (some ⟨K.kA, 0, none⟩) k i h Q := by
  refine C_attempt_Attempt_note.of ?_
  unfold S_attempt_Attempt_note
  refine ⟨_, rfl, _, S.E.cM 7 rfl (i := 1) rfl, _, rfl, _, S.E.cM 7 rfl (i := 0) rfl, now_wp S.E VAt.mk S.o fun h1 E1 => ⟨E1.cM 7 rfl (i := 1) rfl, E1.cM 7 rfl (i := 0) rfl, ?_⟩⟩
  refine rnote_wp (j := L.length + 8) (vS := U.vS) (st := s.st) (r := U.rS) E1 ⟨upM 8 rfl, upM 9 rfl⟩ S.R hn S.o.v3 fun vS' r' h2 R' E2 => ?_
  rw [setM, show L.length + 8 + 1 = L.length + 9 from rfl, setM] at E2
  have S2 : SS B h0 L h2 V v K ⟨vS', r', U.x⟩ (noteS v s k i) := ⟨E2, S.o, R', S.O, S.a.re rfl⟩
  have hq := hQ ⟨vS', r', U.x⟩ _ rfl S2
  unfold noteE at hq
  refine ⟨fun hT => ⟨S2.E.cM 7 rfl (i := 1) rfl, S2.E.cM 7 rfl (i := 0) rfl, Fin.of ?_⟩, fun hF => ⟨S2.E.cM 7 rfl (i := 1) rfl, S2.E.cM 7 rfl (i := 0) rfl, Fin.of ?_⟩⟩
  · rw [if_pos hT] at hq; exact hq
  · rw [if_neg (by rw [hF]; simp)] at hq; exact hq
theorem SS.dat (S : SS B h0 L h V v K U s) : DAt_int (L ++ (V.e v ++ AE V K U s)) (L.length + 10) U.x.kd U.x.vd U.x.rd := ⟨upM 10 rfl, upM 11 rfl⟩
def inC (i : Int) : Bool := decide (0 ≤ i ∧ i < 8)
def loadA (v : VV) (s : AV) (i : Int) : AV × Int × Int :=
  if inC i = true then (match atD s.s.d i with
    | some x => (s, x, 0)
    | none => (noteS v s 0 i, if noteE v s 0 i = 0 then (cellAt_int v.c i).1 else 0, noteE v s 0 i)) else (s, 0, 1)
theorem load_wp {i : Int} {Q : Int → Int → Heap → Prop} (S : SS B h0 L h V v K U s) (hn : s.rs.length ≤ 90000) (hQ : ∀ U' h', U'.x = U.x → SS B h0 L h' V v K U' (loadA v s i).1 → Q (loadA v s i).2.1 (loadA v s i).2.2 h') : C_attempt_Attempt_Load B (some ⟨K.kA, 0, none⟩) i h Q := by
  refine C_attempt_Attempt_Load.of ?_
  unfold S_attempt_Attempt_Load
  have out : inC i = false → Q 0 1 h := fun hn => by
    have e : loadA v s i = (s, 0, 1) := by unfold loadA; rw [hn]; rfl
    rw [e] at hQ; exact hQ U h rfl S
  refine ⟨fun e => (by cases e), fun _ => ⟨fun h1 => Fin.of (out (decide_eq_false (by omega))), fun h1 => ⟨fun h2 => Fin.of (out (decide_eq_false (by omega))), fun h2 => Fin.of ?_⟩⟩⟩
  have hi : inC i = true := decide_eq_true (by omega)
  unfold S_attempt_Attempt_Load_J1
  refine ⟨_, rfl, _, S.E.cM 7 rfl (i := 2) rfl, get_int_wp S.E S.dat S.O.d S.a.sd (by have := S.a.dlen; omega) ?_⟩
  cases hd : atD s.s.d i with
  | some y =>
    have e : loadA v s i = (s, y, 0) := by unfold loadA; rw [if_pos hi, hd]
    rw [e] at hQ
    exact ⟨fun _ => Fin.of (hQ U h rfl S), fun e => by cases e⟩
  | none =>
    have e : loadA v s i = (noteS v s 0 i, if noteE v s 0 i = 0 then (cellAt_int v.c i).1 else 0, noteE v s 0 i) := by unfold loadA; rw [if_pos hi, hd]
    rw [e] at hQ
    refine ⟨fun e => (by cases e), fun _ => anote_wp S hn fun U' h1 e1 S1 => ?_⟩
    have hq := hQ U' h1 e1 S1
    refine ⟨fun h0 => ⟨_, rfl, _, S1.E.cM 7 rfl (i := 0) rfl, _, rfl, _, S1.E.cM 0 rfl (i := 0) rfl, get_wp_int (rowO_int_v (S1.E.gM 1 rfl)) (Fin.of ?_)⟩, fun h0 => Fin.of ?_⟩
    · simp only [h0, if_true] at hq ⊢; exact hq
    · simp only [if_neg h0] at hq; exact hq
def storeA (s : AV) (i x : Int) : AV × Int := if inC i = true then ({ s with s := { s.s with d := insD s.s.d i x } }, 0) else (s, 1)
theorem AOk.store {i x : Int} (a : AOk v s) (hi : inC i = true) : AOk v { s with s := { s.s with d := insD s.s.d i x } } := ⟨a.so, a.sd.ins, fun y hy => by
  rcases insD_mem hy with rfl | hy
  · exact of_decide_eq_true hi
  · exact a.dk y hy, a.cr⟩
theorem store_wp {i x : Int} {Q : Int → Heap → Prop} (S : SS B h0 L h V v K U s) (hQ : ∀ U' h', SS B h0 L h' V v K U' (storeA s i x).1 → Q (storeA s i x).2 h') : C_attempt_Attempt_Store B (some ⟨K.kA, 0, none⟩) i x h Q := by
  refine C_attempt_Attempt_Store.of ?_
  unfold S_attempt_Attempt_Store
  have out : inC i = false → Q 1 h := fun hn => by
    have e : storeA s i x = (s, 1) := by unfold storeA; rw [hn]; rfl
    rw [e] at hQ; exact hQ U h S
  refine ⟨fun e => (by cases e), fun _ => ⟨fun h1 => Fin.of (out (decide_eq_false (by omega))), fun h1 => ⟨fun h2 => Fin.of (out (decide_eq_false (by omega))), fun h2 => Fin.of ?_⟩⟩⟩
  have hi : inC i = true := decide_eq_true (by omega)
  unfold S_attempt_Attempt_Store_J1
  have e : storeA s i x = ({ s with s := { s.s with d := insD s.s.d i x } }, 0) := by unfold storeA; rw [if_pos hi]
  rw [e] at hQ
  refine ⟨_, rfl, _, S.E.cM 7 rfl (i := 2) rfl, put_int_wp S.E S.dat S.O.d S.a.sd (by have := S.a.dlen; omega) fun v' r' h1 R1 E1 => Fin.of ?_⟩
  rw [setM, show L.length + 10 + 1 = L.length + 11 from rfl, setM] at E1
  exact hQ ⟨U.vS, U.rS, { U.x with vd := v', rd := r' }⟩ _ ⟨E1, S.o, S.R, ⟨R1, S.O.f⟩, S.a.store hi⟩
theorem avalid_wp {Q : Bool → Heap → Prop} (S : SS B h0 L h V v K U s) (hn : s.rs.length ≤ 90000) (hQ : ∀ h', SS B h0 L h' V v K U s → Q (vld v s.rs) h') : C_attempt_Attempt_Valid B (some ⟨K.kA, 0, none⟩) h Q := by
  refine C_attempt_Attempt_Valid.of ?_
  unfold S_attempt_Attempt_Valid
  refine ⟨fun e => (by cases e), fun _ => ⟨_, rfl, _, S.E.cM 7 rfl (i := 1) rfl, _, rfl, _, S.E.cM 7 rfl (i := 0) rfl, now_wp S.E VAt.mk S.o fun h1 E1 => ⟨E1.cM 7 rfl (i := 1) rfl, E1.cM 7 rfl (i := 0) rfl, ?_⟩⟩⟩
  refine valid_wp (j := L.length + 8) (vS := U.vS) (st := s.st) (r := U.rS) E1 ⟨upM 8 rfl, upM 9 rfl⟩ S.R (by omega) S.o.v3 fun h2 E2 => ⟨E2.cM 7 rfl (i := 1) rfl, E2.cM 7 rfl (i := 0) rfl, Fin.of (hQ _ ⟨E2, S.o, S.R, S.O, S.a⟩)⟩
def recvA (v : VV) (s : AV) (i : Int) : AV × Int × Int :=
  if 0 ≤ i ∧ i < 3 then (if noteE v s 2 i = 0 then (if atOf v.ts i ((cellAt_int v.l i).1 + s.s.cr i) < 0 then (noteS v s 2 i, 0, 10) else ({ noteS v s 2 i with s := s.s.step i }, atOf v.ts i ((cellAt_int v.l i).1 + s.s.cr i), 0)) else (noteS v s 2 i, 0, noteE v s 2 i)) else (s, 0, 1)
theorem AOk.recv {i : Int} (a : AOk v s) (hi : 0 ≤ i ∧ i < 3) (hc : s.s.cr i < 64) {s' : AV} (e : s'.s = s.s.step i) : AOk v s' := by
  obtain ⟨e1, e2⟩ := StV.step_d s.s i
  refine ⟨by rw [e, e2]; exact a.so, by rw [e, e1]; exact a.sd, by rw [e, e1]; exact a.dk, fun j => ?_⟩
  rw [e, StV.step_cr _ hi]
  split
  · have := a.cr i; omega
  · exact a.cr j
theorem StI.Ok.of {x : StI} {a b : StV} (o : x.Ok a) (e1 : b.d = a.d) (e2 : b.f = a.f) : x.Ok b := ⟨by rw [e1]; exact o.d, by rw [e2]; exact o.f⟩
theorem recv_wp {i : Int} {Q : Int → Int → Heap → Prop} (S : SS B h0 L h V v K U s) (hn : s.rs.length ≤ 90000) (hQ : ∀ U' h', SS B h0 L h' V v K U' (recvA v s i).1 → Q (recvA v s i).2.1 (recvA v s i).2.2 h') : C_attempt_Attempt_Recv B (some ⟨K.kA, 0, none⟩) i h Q := by
  refine C_attempt_Attempt_Recv.of ?_
  unfold S_attempt_Attempt_Recv
  have out : ¬ (0 ≤ i ∧ i < 3) → Q 0 1 h := fun hn => by
    have e : recvA v s i = (s, 0, 1) := by unfold recvA; rw [if_neg hn]
    rw [e] at hQ; exact hQ U h S
  refine ⟨fun e => (by cases e), fun _ => ⟨fun h1 => Fin.of (out (by omega)), fun h1 => ⟨fun h2 => Fin.of (out (by omega)), fun h2 => Fin.of ?_⟩⟩⟩
  have hi : 0 ≤ i ∧ i < 3 := by omega
  unfold S_attempt_Attempt_Recv_J1
  refine anote_wp S hn fun U' h1 e1 S1 => ⟨fun h0 => ?_, fun h0 => Fin.of ?_⟩
  · refine ⟨_, rfl, _, S1.E.cM 7 rfl (i := 0) rfl, _, rfl, _, S1.E.cM 0 rfl (i := 2) rfl, feed_place_wp S.o.k.t3 (S1.E.gM 5 rfl) (S1.E.gM 6 rfl) ?_⟩
    refine ⟨_, rfl, _, S1.E.cM 7 rfl (i := 0) rfl, _, rfl, _, S1.E.cM 0 rfl (i := 2) rfl, _, rfl, _, S1.E.cM 7 rfl (i := 4) rfl, ?_⟩
    refine cat_wp (c := s.s) (S1.E.gM 15 rfl) hi ⟨S1.E.cM 7 rfl (i := 0) rfl, S1.E.cM 0 rfl (i := 2) rfl, S1.E.cM 7 rfl (i := 4) rfl, ?_⟩
    have hp := S.o.k.place i
    have hs := S.o.k.size i
    have hc := S.a.cr i
    rw [w64 (by omega) (by omega)]
    refine feed_at_wp S.o.k.t3 (S1.E.gM 5 rfl) ⟨S1.E.cM 7 rfl (i := 0) rfl, S1.E.cM 0 rfl (i := 2) rfl, S1.E.cM 7 rfl (i := 4) rfl, fun hlt => Fin.of ?_, fun hge => ?_⟩
    · have e : recvA v s i = (noteS v s 2 i, 0, 10) := by unfold recvA; rw [if_pos hi, if_pos h0, if_pos hlt]
      rw [e] at hQ; exact hQ _ _ S1
    · have e : recvA v s i = ({ noteS v s 2 i with s := s.s.step i }, atOf v.ts i ((cellAt_int v.l i).1 + s.s.cr i), 0) := by unfold recvA; rw [if_pos hi, if_pos h0, if_neg hge]
      rw [e] at hQ
      have hlt : s.s.cr i < 64 := by
        unfold atOf at hge
        split at hge
        · omega
        · omega
      refine ⟨_, rfl, _, S1.E.cM 7 rfl (i := 4) rfl, cstep_wp (c := s.s) (q := L.length + 15) S1.E (upM 15 rfl) hi ⟨hc.1, hlt⟩ fun h2 E2 => Fin.of ?_⟩
      rw [setM] at E2
      obtain ⟨e1, e2⟩ := StV.step_d s.s i
      exact hQ U' _ ⟨E2, S.o, S1.R, S1.O.of e1 e2, S.a.recv hi hlt rfl⟩
  · have e : recvA v s i = (noteS v s 2 i, 0, noteE v s 2 i) := by unfold recvA; rw [if_pos hi, if_neg h0]
    rw [e] at hQ; exact hQ _ _ S1
end
end Go.Proofs.YtgldgabefiialaaGreat.H
namespace Go.Proofs.YtgldgabefiialaaGreat.H
open Go Go.RowKit
set_option linter.unusedVariables false
set_option maxRecDepth 100000
def shI (V : VI) (U : AU) : ShI := ⟨V.kT, V.kR, V.vt, V.rt, U.x.ks, U.x.kf⟩
def restS (V : VI) (v : VV) (K : AK) (U : AU) (s : AV) : List (Option (Nat × AObj)) := [some (V.kV, viewO V v.t), some (V.kC, rowO_int v.c), some (V.kF, feedO v.ts V.kP), some (V.kP, rowO_int v.l), some (K.kA, attO V K U.x s.g), some (K.kS, rsO U.vS s.st), U.rS, some (U.x.kd, drO_int U.x.vd), U.x.rd, some (U.x.kc, curO s.s)]
def AU.w (U : AU) (vf : Value) (rf : Option (Nat × AObj)) : AU := { U with x := { U.x with vf := vf, rf := rf } }
def AV.wf (s : AV) (f : DFL) : AV := { s with s := { s.s with f := f } }
def VI.w (V : VI) (r : Option (Nat × AObj)) : VI := { V with rt := r }
def touchS (v : VV) (s : AV) (i : Int) : AV := if inR i = true then (if (getS v.f s.s.f i).2 = true then s else noteS v s 1 i) else s
def touchE (v : VV) (s : AV) (i : Int) : Int := if inR i = true then (if (getS v.f s.s.f i).2 = true then 0 else noteE v s 1 i) else 1
def touchF (v : VV) (s : AV) (i : Int) : FileS := if inR i = true then (getS v.f s.s.f i).1 else f0
theorem touchS_s (v : VV) (s : AV) (i : Int) : (touchS v s i).s = s.s ∧ (touchS v s i).g = s.g := by
  unfold touchS; (repeat' split) <;> exact ⟨rfl, rfl⟩
theorem touchS_len (v : VV) (s : AV) (i : Int) : (touchS v s i).rs.length ≤ s.rs.length + 1 := by
  unfold touchS; (repeat' split)
  · omega
  · exact noteA_len _ _ _ _ _
  · omega
theorem touchE_in {v : VV} {s : AV} {i : Int} (h : touchE v s i = 0) : inR i = true := by
  unfold touchE at h
  split at h
  · assumption
  · omega
def wS (v : VV) (s : AV) (i : Int) (F : DFL → DFL) : AV × Int := if touchE v s i = 0 then ((touchS v s i).wf (F s.s.f), 0) else (touchS v s i, touchE v s i)
def atF (f : FileS) (n : Int) : Int := if 0 ≤ n ∧ n < f.2.size then byteAt f.2 n.toNat else -1
def readA (v : VV) (s : AV) (i n : Int) : AV × Int × Int := if touchE v s i = 0 then (touchS v s i, atF (getS v.f s.s.f i).1 n, 0) else (touchS v s i, 0, touchE v s i)
def writeA (v : VV) (s : AV) (i n : Int) (c : UInt8) : AV × Int := wS v s i fun d => upS v.f d i (putF (getS v.f d i).1 n c)
def createA (v : VV) (s : AV) (i : Int) : AV × Int := wS v s i fun d => upS v.f d i (true, (getS v.f d i).1.2)
def removeA (v : VV) (s : AV) (i : Int) : AV × Int := wS v s i fun d => upS v.f d i f0
def fcutA (v : VV) (s : AV) (i n : Int) : AV × Int := wS v s i fun d => upS v.f d i (cutF (getS v.f d i).1 n)
def renameA (v : VV) (s : AV) (a b : Int) : AV × Int :=
  if inR b = true then (if touchE v s a = 0 then wS v (touchS v s a) b (fun d => renS v.f d a b) else (touchS v s a, touchE v s a)) else (s, 1)
section
variable {B : RO} {h0 h h' : Heap} {L M : List (Option (Nat × AObj))} {V : VI} {v : VV} {K : AK} {U : AU} {s : AV} {k : Nat} {i j : Int} {c : StV} {g : Reg4} {o o' : AObj} {y : Option (Nat × AObj)}
theorem toSh (E : Keep B h0 (L ++ (V.e v ++ AE V K U s)) h) : Keep B h0 ((L ++ restS V v K U s) ++ (shI V U).m U.x.vf U.x.rf) h := by
  rw [List.append_assoc]
  exact E.sM [0, 1, 5, 6, 7, 8, 9, 10, 11, 15, 2, 3, 4, 12, 13, 14] (by decide)
theorem ofSh {vd : Value} {rd : Option (Nat × AObj)} {f : DFL} (E : Keep B h0 ((L ++ restS V v K U s) ++ (shI V U).m vd rd) h) : Keep B h0 (L ++ (V.e v ++ AE V K (U.w vd rd) (s.wf f))) h := by
  rw [List.append_assoc] at E
  exact E.sM [0, 1, 10, 11, 12, 2, 3, 4, 5, 6, 7, 8, 13, 14, 15, 9] (by decide)
theorem atMid : ((L ++ [y]) ++ M)[L.length]? = some y := up_app _ (by rw [List.getElem?_append_right (Nat.le_refl _), Nat.sub_self]; rfl)
theorem setMid (z : Option (Nat × AObj)) : ((L ++ [y]) ++ M).set L.length z = (L ++ [z]) ++ M := by
  rw [List.append_assoc, List.set_append_right _ _ (Nat.le_refl _), Nat.sub_self, List.append_assoc]; rfl
theorem Keep.gP (E : Keep B h0 ((L ++ [some (k, o)]) ++ M) h) : h k = some o := E.at L.length atMid
theorem Keep.pP (E : Keep B h0 ((L ++ [some (k, o)]) ++ M) h) : Keep B h0 ((L ++ [some (k, o')]) ++ M) (h.set k o') := by
  have := E.put (o' := o') L.length atMid
  rwa [setMid] at this
theorem Keep.gP' (E : Keep B h0 ((L ++ [some (k, o)] ++ [y]) ++ M) h) : h k = some o := by
  rw [List.append_assoc (L ++ [some (k, o)])] at E
  exact E.gP
theorem Keep.pP' (E : Keep B h0 ((L ++ [some (k, o)] ++ [y]) ++ M) h) : Keep B h0 ((L ++ [some (k, o')] ++ [y]) ++ M) (h.set k o') := by
  rw [List.append_assoc (L ++ [some (k, o)])] at E
  have := E.pP (o' := o')
  rwa [← List.append_assoc] at this
theorem SS.nP (S : SS B h0 L h V v K U s) (hk : h k = none) (hb : B k = none) (e : h' = h.set k o) : SS B h0 (L ++ [some (k, o)]) h' V v K U s := ⟨S.E.nP hk hb e, S.o, S.R, S.O, S.a⟩
theorem SS.dP (S : SS B h0 (L ++ [y]) h V v K U s) : SS B h0 L h V v K U s := ⟨S.E.dP, S.o, S.R, S.O, S.a⟩
theorem SS.pP (S : SS B h0 (L ++ [some (k, o)]) h V v K U s) : SS B h0 (L ++ [some (k, o')]) (h.set k o') V v K U s := ⟨S.E.pP, S.o, S.R, S.O, S.a⟩
theorem SS.pP' (S : SS B h0 (L ++ [some (k, o)] ++ [y]) h V v K U s) : SS B h0 (L ++ [some (k, o')] ++ [y]) (h.set k o') V v K U s := ⟨S.E.pP', S.o, S.R, S.O, S.a⟩
theorem SS.gP (S : SS B h0 (L ++ [some (k, o)]) h V v K U s) : h k = some o := S.E.gP
theorem SS.gP' (S : SS B h0 (L ++ [some (k, o)] ++ [y]) h V v K U s) : h k = some o := S.E.gP'
theorem SS.f (S : SS B h0 L h V v K U s) {vd : Value} {rd : Option (Nat × AObj)} {f : DFL} {h1 : Heap} (E : Keep B h0 ((L ++ restS V v K U s) ++ (shI V U).m vd rd) h1) (R : DRow_file_File rd vd f) (a : SOk v.f f) : SS B h0 L h1 V v K (U.w vd rd) (s.wf f) :=
  ⟨ofSh E, S.o, S.R, ⟨S.O.d, R⟩, ⟨a, S.a.sd, S.a.dk, S.a.cr⟩⟩
theorem touch_J2 {k6 kb : Nat} {f6 f : FileS} {w : Bool} {Q : Bool → ByteArray → Int → Heap → Prop} (S : SS B h0 (L ++ [some (k6, fO f6)] ++ [some (kb, fO f)]) h V v K U s) (hn : s.rs.length ≤ 90000)
    (hT : w = true → ∀ h', SS B h0 L h' V v K U s → Q f.1 f.2 0 h') (hF : w = false → ∀ U' h', SS B h0 L h' V v K U' (noteS v s 1 i) → Q f.1 f.2 (noteE v s 1 i) h') : S_attempt_Attempt_touch_J2 B (some ⟨K.kA, 0, none⟩) i k6 ⟨kb, 0, none⟩ w h Q := by
  unfold S_attempt_Attempt_touch_J2
  refine ⟨fun hw => ?_, fun hw => ?_⟩
  · refine ⟨_, _, ⟨cellH_vec S.gP rfl, cellH_vec S.gP rfl, trivial⟩, _, stores_whole S.gP' rfl (by simp) (by simp [isOne]) (by simp), ?_⟩
    have S1 := S.pP' (o' := fO f)
    exact ⟨_, _, ⟨cellH_vec S1.gP' rfl, cellH_vec S1.gP' rfl, trivial⟩, Fin.of (hT hw _ S1.dP.dP)⟩
  · refine ⟨_, _, ⟨cellH_vec S.gP rfl, cellH_vec S.gP rfl, trivial⟩, anote_wp S hn fun U' h1 e1 S1 => ⟨⟨cellH_vec S1.gP rfl, cellH_vec S1.gP rfl, trivial⟩, _, stores_whole S1.gP' rfl (by simp) (by simp [isOne]) (by simp), ?_⟩⟩
    have S2 := S1.pP' (o' := fO f)
    exact ⟨⟨cellH_vec S2.gP rfl, cellH_vec S2.gP rfl, trivial⟩, _, _, ⟨cellH_vec S2.gP' rfl, cellH_vec S2.gP' rfl, trivial⟩, Fin.of (hF hw U' _ S2.dP.dP)⟩
theorem touch_J3 {k6 kb : Nat} {f6 f7 f : FileS} {w : Bool} {Q : Bool → ByteArray → Int → Heap → Prop} (S : SS B h0 (L ++ [some (k6, fO f6)] ++ [some (kb, fO f7)]) h V v K U s) (hn : s.rs.length ≤ 90000)
    (hT : w = true → ∀ h', SS B h0 L h' V v K U s → Q f.1 f.2 0 h') (hF : w = false → ∀ U' h', SS B h0 L h' V v K U' (noteS v s 1 i) → Q f.1 f.2 (noteE v s 1 i) h') : S_attempt_Attempt_touch_J3 B (some ⟨K.kA, 0, none⟩) i k6 ⟨K.kA, 0, none⟩ (some ⟨U.x.ks, 0, none⟩) ⟨K.kA, 0, none⟩ (some ⟨V.kV, 0, none⟩) ⟨V.kV, 0, none⟩ (some ⟨V.kT, 0, none⟩) ⟨kb, 0, none⟩ f.1 f.2 w h Q := by
  unfold S_attempt_Attempt_touch_J3
  have S1 := S.pP (o' := fO f)
  refine ⟨_, stores_whole S.gP rfl (by simp) (by simp [isOne]) (by simp), S1.E.cM 7 rfl (i := 3) rfl, S1.E.cM 7 rfl (i := 0) rfl, S1.E.cM 0 rfl (i := 1) rfl, fun hw => Fin.of ?_, fun hw => Fin.of ?_⟩
  · exact touch_J2 S1 hn (fun _ => hT hw) (fun e => by cases e)
  · exact touch_J2 S1 hn (fun e => by cases e) (fun _ => hF hw)
theorem aget_wp {Q : Bool → ByteArray → Bool → Heap → Prop} (S : SS B h0 L h V v K U s) (hQ : ∀ h', SS B h0 L h' V v K U s → Q (getS v.f s.s.f i).1.1 (getS v.f s.s.f i).1.2 (getS v.f s.s.f i).2 h') : C_sheet_Sheet_Get B (some ⟨U.x.ks, 0, none⟩) (some ⟨V.kT, 0, none⟩) i h Q :=
  sget_wp (x := shI V U) (toSh S.E) S.o.r S.O.f S.a.so.s (by have := S.a.so.len; omega) fun h1 E1 => hQ h1 (S.f E1 S.O.f S.a.so)
theorem touch_wp {Q : Bool → ByteArray → Int → Heap → Prop} (S : SS B h0 L h V v K U s) (hn : s.rs.length ≤ 90000) (hQ : ∀ U' h', SS B h0 L h' V v K U' (touchS v s i) → Q (touchF v s i).1 (touchF v s i).2 (touchE v s i) h') : C_attempt_Attempt_touch B (some ⟨K.kA, 0, none⟩) i h Q := by
  refine C_attempt_Attempt_touch.of ?_
  unfold S_attempt_Attempt_touch
  intro k6 a6 b6 h7 e7
  have S0 := S.nP (o := fO f0) a6 b6 e7
  have out : ¬ (0 ≤ i ∧ i < 6) → ∃ h1 : Heap, StoresAt ⟨k6, 0, none⟩ h7 0 [(.bool false), (.string ByteArray.empty)] h1 ∧ ∃ b1 : Bool, ∃ s1 : ByteArray, CellsAt B h1 ⟨k6, 0, none⟩ 0 [(.bool b1), (.string s1)] ∧ Fin B h1 (Q (b1) s1 (1)) := fun hi => by
    have hr : inR i = false := decide_eq_false hi
    unfold touchS touchF touchE at hQ
    rw [hr] at hQ
    have S1 := S0.pP (o' := fO f0)
    exact ⟨_, stores_whole S0.gP rfl (by simp) (by simp [isOne]) (by simp), _, _, ⟨cellH_vec S1.gP rfl, cellH_vec S1.gP rfl, trivial⟩, Fin.of (hQ U _ S1.dP)⟩
  refine ⟨fun e => (by cases e), fun _ => ⟨fun h1 => out (by omega), fun h1 => ⟨fun h2 => out (by omega), fun h2 => Fin.of ?_⟩⟩⟩
  have hr : inR i = true := decide_eq_true (by omega)
  have hT : (getS v.f s.s.f i).2 = true → ∀ h', SS B h0 L h' V v K U s → Q (getS v.f s.s.f i).1.1 (getS v.f s.s.f i).1.2 0 h' := fun hw h' S' => by
    unfold touchS touchF touchE at hQ
    rw [if_pos hr, if_pos hw, if_pos hr, if_pos hr, if_pos hw] at hQ
    exact hQ U h' S'
  have hF : (getS v.f s.s.f i).2 = false → ∀ U' h', SS B h0 L h' V v K U' (noteS v s 1 i) → Q (getS v.f s.s.f i).1.1 (getS v.f s.s.f i).1.2 (noteE v s 1 i) h' := fun hw U' h' S' => by
    have hw' : ¬ (getS v.f s.s.f i).2 = true := by rw [hw]; decide
    unfold touchS touchF touchE at hQ
    rw [if_pos hr, if_neg hw', if_pos hr, if_pos hr, if_neg hw'] at hQ
    exact hQ U' h' S'
  clear out hQ
  unfold S_attempt_Attempt_touch_J1
  refine ⟨_, rfl, _, S0.E.cM 7 rfl (i := 3) rfl, _, rfl, _, S0.E.cM 7 rfl (i := 0) rfl, _, rfl, _, S0.E.cM 0 rfl (i := 1) rfl, aget_wp S0 fun h1 S1 => ?_, fun k112 a112 b112 h113 e113 => ?_⟩
  · refine ⟨S1.E.cM 7 rfl (i := 3) rfl, S1.E.cM 7 rfl (i := 0) rfl, S1.E.cM 0 rfl (i := 1) rfl, fun hw => ?_, fun hw => ?_⟩
    all_goals
      intro k2 a2 b2 h2 e2
      have S2 := S1.nP (o := fO f0) a2 b2 e2
      refine ⟨S2.E.cM 7 rfl (i := 3) rfl, S2.E.cM 7 rfl (i := 0) rfl, S2.E.cM 0 rfl (i := 1) rfl, touch_J3 (f := (getS v.f s.s.f i).1) S2 hn ?_ ?_⟩
    · exact fun _ => hT hw
    · exact fun e => by cases e
    · exact fun e => by cases e
    · exact fun _ => hF hw
  · have S2 := S0.nP (o := fO f0) a112 b112 e113
    refine ⟨S2.E.cM 7 rfl (i := 3) rfl, S2.E.cM 7 rfl (i := 0) rfl, S2.E.cM 0 rfl (i := 1) rfl, aget_wp S2 fun h3 S3 => ⟨S3.E.cM 7 rfl (i := 3) rfl, S3.E.cM 7 rfl (i := 0) rfl, S3.E.cM 0 rfl (i := 1) rfl, fun hw => ?_, fun hw => ?_⟩⟩
    · exact touch_J3 (f := (getS v.f s.s.f i).1) S3 hn (fun _ => hT hw) (fun e => by cases e)
    · exact touch_J3 (f := (getS v.f s.s.f i).1) S3 hn (fun e => by cases e) (fun _ => hF hw)
theorem fat_wp {f : FileS} {n : Int} {Q : Int → Heap → Prop} (hQ : Q (atF f n) h) : C_file_At B f.1 f.2 n h Q := by
  refine C_file_At.of ?_
  unfold S_file_At
  intro k5 a5 b5 h6 e6
  have E := (Keep.nil B h).made (o := fO f) a5 b5 e6
  have out : ¬ (0 ≤ n ∧ n < f.2.size) → S_file_At_J1 B n k5 true h6 Q := fun hn => by
    unfold S_file_At_J1
    unfold atF at hQ
    rw [if_neg hn] at hQ
    exact ⟨fun _ => Fin.ent E.back (Fin.of hQ), fun e => by cases e⟩
  refine ⟨fun h1 => Fin.of (out (by omega)), fun h1 => ⟨_, E.cell 0 rfl rfl, fun h2 => Fin.of (out (by omega)), fun h2 => Fin.of ?_⟩⟩
  unfold S_file_At_J1
  have hb := byteAt_bound f.2 n.toNat
  unfold atF at hQ
  rw [if_pos ⟨by omega, by omega⟩] at hQ
  refine ⟨fun e => (by cases e), fun _ => ⟨_, E.cell 0 rfl rfl, by omega, by omega, ?_⟩⟩
  rw [w64 (by omega) (by omega)]
  exact Fin.ent E.back (Fin.of hQ)
theorem aread_wp {n : Int} {Q : Int → Int → Heap → Prop} (S : SS B h0 L h V v K U s) (hn : s.rs.length ≤ 90000) (hQ : ∀ U' h', SS B h0 L h' V v K U' (readA v s i n).1 → Q (readA v s i n).2.1 (readA v s i n).2.2 h') : C_attempt_Attempt_Read B (some ⟨K.kA, 0, none⟩) i n h Q := by
  refine C_attempt_Attempt_Read.of ?_
  unfold S_attempt_Attempt_Read
  refine touch_wp S hn fun U' h1 S1 k a b h2 e2 => ?_
  have S2 := S1.nP (o := fO f0) a b e2
  refine ⟨_, stores_whole S2.gP rfl (by simp) (by simp [isOne]) (by simp), ?_⟩
  have S3 := S2.pP (o' := fO (touchF v s i))
  refine ⟨fun h0 => ⟨_, _, ⟨cellH_vec S3.gP rfl, cellH_vec S3.gP rfl, trivial⟩, fat_wp (f := touchF v s i) (Fin.of ?_)⟩, fun h0 => Fin.of ?_⟩
  · have e : readA v s i n = (touchS v s i, atF (getS v.f s.s.f i).1 n, 0) := by unfold readA; rw [if_pos h0]
    rw [e] at hQ
    have e1 : touchF v s i = (getS v.f s.s.f i).1 := by unfold touchF; rw [if_pos (touchE_in h0)]
    rw [e1] at S3 ⊢
    exact hQ U' _ S3.dP
  · have e : readA v s i n = (touchS v s i, 0, touchE v s i) := by unfold readA; rw [if_neg h0]
    rw [e] at hQ
    exact hQ U' _ S3.dP
theorem awrite_wp {n w' : Int} {w : UInt8} (hw : w' = ((w.toNat : Nat) : Int)) {Q : Int → Heap → Prop} (S : SS B h0 L h V v K U s) (hn : s.rs.length ≤ 90000) (hQ : ∀ U' h', SS B h0 L h' V v K U' (writeA v s i n w).1 → Q (writeA v s i n w).2 h') : C_attempt_Attempt_Write B (some ⟨K.kA, 0, none⟩) i n w' h Q := by
  refine C_attempt_Attempt_Write.of ?_
  unfold S_attempt_Attempt_Write
  refine touch_wp S hn fun U' h1 S1 k a b h2 e2 => ?_
  have S2 := S1.nP (o := fO f0) a b e2
  refine ⟨_, stores_whole S2.gP rfl (by simp) (by simp [isOne]) (by simp), ?_⟩
  have S3 := (S2.pP (o' := fO (touchF v s i))).dP
  have es := (touchS_s v s i).1
  refine ⟨fun h0 => ⟨_, rfl, _, S3.E.cM 7 rfl (i := 3) rfl, _, rfl, _, S3.E.cM 7 rfl (i := 0) rfl, _, rfl, _, S3.E.cM 0 rfl (i := 1) rfl, swrite_wp (x := shI V U') hw (toSh S3.E) S3.o.r S3.O.f S3.a.so fun vd' rd' h4 R4 E4 => Fin.of ?_⟩, fun h0 => Fin.of ?_⟩
  · have e : writeA v s i n w = ((touchS v s i).wf ((fun d => upS v.f d i (putF (getS v.f d i).1 n w)) s.s.f), 0) := by unfold writeA wS; rw [if_pos h0]
    have S5 := S3.f E4 R4 (S3.a.so.up (goodF_put (S3.a.so.good i) n w))
    rw [e] at hQ
    rw [h0]
    simp only [es] at S5
    exact hQ _ _ S5
  · have e : writeA v s i n w = (touchS v s i, touchE v s i) := by unfold writeA wS; rw [if_neg h0]
    rw [e] at hQ
    exact hQ _ _ S3
theorem acreate_wp {Q : Int → Heap → Prop} (S : SS B h0 L h V v K U s) (hn : s.rs.length ≤ 90000) (hQ : ∀ U' h', SS B h0 L h' V v K U' (createA v s i).1 → Q (createA v s i).2 h') : C_attempt_Attempt_Create B (some ⟨K.kA, 0, none⟩) i h Q := by
  refine C_attempt_Attempt_Create.of ?_
  unfold S_attempt_Attempt_Create
  refine touch_wp S hn fun U' h1 S1 k a b h2 e2 => ?_
  have S2 := S1.nP (o := fO f0) a b e2
  refine ⟨_, stores_whole S2.gP rfl (by simp) (by simp [isOne]) (by simp), ?_⟩
  have S3 := (S2.pP (o' := fO (touchF v s i))).dP
  have es := (touchS_s v s i).1
  refine ⟨fun h0 => ⟨_, rfl, _, S3.E.cM 7 rfl (i := 3) rfl, _, rfl, _, S3.E.cM 7 rfl (i := 0) rfl, _, rfl, _, S3.E.cM 0 rfl (i := 1) rfl, screateG_wp (x := shI V U') (toSh S3.E) S3.o.r S3.O.f S3.a.so fun vd' rd' h4 R4 E4 => Fin.of ?_⟩, fun h0 => Fin.of ?_⟩
  · have e : createA v s i = ((touchS v s i).wf ((fun d => upS v.f d i (true, (getS v.f d i).1.2)) s.s.f), 0) := by unfold createA wS; rw [if_pos h0]
    have S5 := S3.f E4 R4 (S3.a.so.up (f := (true, (getS v.f (touchS v s i).s.f i).1.2)) (goodF_make (f := (getS v.f (touchS v s i).s.f i).1) (S3.a.so.good i)))
    rw [e] at hQ
    rw [h0]
    simp only [es] at S5
    exact hQ _ _ S5
  · have e : createA v s i = (touchS v s i, touchE v s i) := by unfold createA wS; rw [if_neg h0]
    rw [e] at hQ
    exact hQ _ _ S3
theorem aremove_wp {Q : Int → Heap → Prop} (S : SS B h0 L h V v K U s) (hn : s.rs.length ≤ 90000) (hQ : ∀ U' h', SS B h0 L h' V v K U' (removeA v s i).1 → Q (removeA v s i).2 h') : C_attempt_Attempt_Remove B (some ⟨K.kA, 0, none⟩) i h Q := by
  refine C_attempt_Attempt_Remove.of ?_
  unfold S_attempt_Attempt_Remove
  refine touch_wp S hn fun U' h1 S1 k a b h2 e2 => ?_
  have S2 := S1.nP (o := fO f0) a b e2
  refine ⟨_, stores_whole S2.gP rfl (by simp) (by simp [isOne]) (by simp), ?_⟩
  have S3 := (S2.pP (o' := fO (touchF v s i))).dP
  have es := (touchS_s v s i).1
  refine ⟨fun h0 => ⟨_, rfl, _, S3.E.cM 7 rfl (i := 3) rfl, _, rfl, _, S3.E.cM 7 rfl (i := 0) rfl, _, rfl, _, S3.E.cM 0 rfl (i := 1) rfl, sremove_wp (x := shI V U') (toSh S3.E) S3.o.r S3.O.f S3.a.so fun vd' rd' h4 R4 E4 => Fin.of ?_⟩, fun h0 => Fin.of ?_⟩
  · have e : removeA v s i = ((touchS v s i).wf ((fun d => upS v.f d i f0) s.s.f), 0) := by unfold removeA wS; rw [if_pos h0]
    have S5 := S3.f E4 R4 (S3.a.so.up rfl)
    rw [e] at hQ
    rw [h0]
    simp only [es] at S5
    exact hQ _ _ S5
  · have e : removeA v s i = (touchS v s i, touchE v s i) := by unfold removeA wS; rw [if_neg h0]
    rw [e] at hQ
    exact hQ _ _ S3
theorem acut_wp {n : Int} {Q : Int → Heap → Prop} (S : SS B h0 L h V v K U s) (hn : s.rs.length ≤ 90000) (hQ : ∀ U' h', SS B h0 L h' V v K U' (fcutA v s i n).1 → Q (fcutA v s i n).2 h') : C_attempt_Attempt_Cut B (some ⟨K.kA, 0, none⟩) i n h Q := by
  refine C_attempt_Attempt_Cut.of ?_
  unfold S_attempt_Attempt_Cut
  refine touch_wp S hn fun U' h1 S1 k a b h2 e2 => ?_
  have S2 := S1.nP (o := fO f0) a b e2
  refine ⟨_, stores_whole S2.gP rfl (by simp) (by simp [isOne]) (by simp), ?_⟩
  have S3 := (S2.pP (o' := fO (touchF v s i))).dP
  have es := (touchS_s v s i).1
  refine ⟨fun h0 => ⟨_, rfl, _, S3.E.cM 7 rfl (i := 3) rfl, _, rfl, _, S3.E.cM 7 rfl (i := 0) rfl, _, rfl, _, S3.E.cM 0 rfl (i := 1) rfl, scut_wp (x := shI V U') (toSh S3.E) S3.o.r S3.O.f S3.a.so fun vd' rd' h4 R4 E4 => Fin.of ?_⟩, fun h0 => Fin.of ?_⟩
  · have e : fcutA v s i n = ((touchS v s i).wf ((fun d => upS v.f d i (cutF (getS v.f d i).1 n)) s.s.f), 0) := by unfold fcutA wS; rw [if_pos h0]
    have S5 := S3.f E4 R4 (S3.a.so.up (goodF_cut (S3.a.so.good i) n))
    rw [e] at hQ
    rw [h0]
    simp only [es] at S5
    exact hQ _ _ S5
  · have e : fcutA v s i n = (touchS v s i, touchE v s i) := by unfold fcutA wS; rw [if_neg h0]
    rw [e] at hQ
    exact hQ _ _ S3
theorem rename_J2 {U1 : AU} {s1 : AV} {Q : Int → Heap → Prop} (S : SS B h0 L h V v K U1 s1) (hQ : ∀ U' h', SS B h0 L h' V v K U' (s1.wf (renS v.f s1.s.f i j)) → Q 0 h') : S_attempt_Attempt_Rename_J2 B (some ⟨K.kA, 0, none⟩) i j 0 h Q := by
  unfold S_attempt_Attempt_Rename_J2
  exact ⟨fun h0 => ⟨_, rfl, _, S.E.cM 7 rfl (i := 3) rfl, _, rfl, _, S.E.cM 7 rfl (i := 0) rfl, _, rfl, _, S.E.cM 0 rfl (i := 1) rfl, srenameG_wp (x := shI V U1) (toSh S.E) S.o.r S.O.f S.a.so fun vd' rd' h4 R4 E4 => Fin.of (hQ _ _ (S.f E4 R4 (S.a.so.ren i j)))⟩, fun h0 => absurd rfl h0⟩
theorem rename_no {e : Int} {Q : Int → Heap → Prop} (he : e ≠ 0) (hQ : Q e h) : S_attempt_Attempt_Rename_J2 B (some ⟨K.kA, 0, none⟩) i j e h Q := by
  unfold S_attempt_Attempt_Rename_J2
  exact ⟨fun h0 => absurd h0 he, fun _ => Fin.of hQ⟩
theorem arename_wp {Q : Int → Heap → Prop} (S : SS B h0 L h V v K U s) (hn : s.rs.length ≤ 80000) (hQ : ∀ U' h', SS B h0 L h' V v K U' (renameA v s i j).1 → Q (renameA v s i j).2 h') : C_attempt_Attempt_Rename B (some ⟨K.kA, 0, none⟩) i j h Q := by
  refine C_attempt_Attempt_Rename.of ?_
  unfold S_attempt_Attempt_Rename
  have out : ¬ (0 ≤ j ∧ j < 6) → Q 1 h := fun hj => by
    have hr : inR j = false := decide_eq_false hj
    have e : renameA v s i j = (s, 1) := by unfold renameA; rw [hr]; rfl
    rw [e] at hQ
    exact hQ U h S
  refine ⟨fun e => (by cases e), fun _ => ⟨fun h1 => Fin.of (out (by omega)), fun h1 => ⟨fun h2 => Fin.of (out (by omega)), fun h2 => Fin.of ?_⟩⟩⟩
  have hj : inR j = true := decide_eq_true (by omega)
  unfold renameA at hQ
  rw [if_pos hj] at hQ
  unfold S_attempt_Attempt_Rename_J1
  refine touch_wp S (by omega) fun U' h1 S1 k a b h2 e2 => ?_
  have S2 := S1.nP (o := fO f0) a b e2
  refine ⟨_, stores_whole S2.gP rfl (by simp) (by simp [isOne]) (by simp), ?_⟩
  have S3 := (S2.pP (o' := fO (touchF v s i))).dP
  have hl := touchS_len v s i
  refine ⟨fun h0 => touch_wp S3 (by omega) fun U4 h4 S4 => Fin.of ?_, fun h0 => Fin.of ?_⟩
  · rw [if_pos h0] at hQ
    have es := (touchS_s v (touchS v s i) j).1
    unfold wS at hQ
    by_cases h5 : touchE v (touchS v s i) j = 0
    · rw [if_pos h5] at hQ
      rw [h5]
      refine rename_J2 S4 fun U5 h6 S6 => ?_
      rw [es] at S6
      exact hQ _ _ S6
    · rw [if_neg h5] at hQ
      exact rename_no h5 (hQ _ _ S4)
  · rw [if_neg h0] at hQ
    exact rename_no h0 (hQ _ _ S3)
end
end Go.Proofs.YtgldgabefiialaaGreat.H
namespace Go.Proofs.YtgldgabefiialaaGreat.H
open Go Go.RowKit
set_option linter.unusedVariables false
set_option maxRecDepth 100000
def apC (t : Int) (c : List (Int × Int)) (d : List (Int × Int)) : List (Int × Int) := d.foldl (fun c x => c.set x.1.toNat (x.2, t)) c
theorem apC_len (t : Int) : ∀ (d c : List (Int × Int)), (apC t c d).length = c.length := by
  intro d
  induction d with
  | nil => intro c; rfl
  | cons x d ih => intro c; exact (ih _).trans (List.length_set ..)
theorem apC_take {t : Int} {c d : List (Int × Int)} {q : Nat} {x : Int × Int} (h : d[q]? = some x) : apC t c (d.take (q + 1)) = (apC t c (d.take q)).set x.1.toNat (x.2, t) := by
  obtain ⟨h1, rfl⟩ := List.getElem?_eq_some_iff.1 h
  rw [List.take_succ_eq_append_getElem h1, apC, List.foldl_append]; rfl
def landN (t : Int) (ts : List ByteArray) (c : StV) (l : List (Int × Int)) : Nat → List (Int × Int)
  | 0 => l
  | j + 1 => if 0 < c.cr (j : Nat) then takeL ts (landN t ts c l j) (j : Nat) ((cellAt_int (landN t ts c l j) (j : Nat)).1 + c.cr (j : Nat)) t else landN t ts c l j
theorem FeedOk.land {t : Int} {ts : List ByteArray} {c : StV} {l : List (Int × Int)} (k : FeedOk ts l) : ∀ j, FeedOk ts (landN t ts c l j)
  | 0 => k
  | j + 1 => by
    unfold landN
    split
    · exact (FeedOk.land k j).take _ _ _
    · exact FeedOk.land k j
def landV (v : VV) (s : AV) : VV := ⟨apC (v.t + 1) v.c s.s.d, apD (v.t + 1) v.f s.s.f, v.ts, landN (v.t + 1) v.ts s.s v.l 3, v.t + 1⟩
theorem TomeOk.apD {t : Int} : ∀ (d : DFL) {l : FL}, TomeOk l → TomeOk (apD t l d) := by
  intro d
  induction d with
  | nil => intro l k; exact k
  | cons x d ih => intro l k; exact ih (k.set _ _ _ _)
section
variable {B : RO} {h0 h h' : Heap} {L M : List (Option (Nat × AObj))} {V : VI} {v : VV} {K : AK} {U : AU} {s : AV} {k : Nat} {i j : Int} {c : StV} {g : Reg4} {o o' : AObj} {y : Option (Nat × AObj)}
theorem AOk.view {v' : VV} (a : AOk v s) (k : TomeOk v'.f) : AOk v' s := ⟨⟨a.so.s, a.so.k, k.n6, k.good⟩, a.sd, a.dk, a.cr⟩
theorem land_wp {Q : Bool → Heap → Prop} (S : SS B h0 L h V v K U s) (hn : s.rs.length ≤ 90000) (ht : 0 ≤ v.t ∧ v.t < 1000000000)
    (hT : vld v s.rs = true → ∀ r' h', SS B h0 L h' (V.w r') (landV v s) K U s → Q true h') (hF : vld v s.rs = false → ∀ h', SS B h0 L h' V v K U s → Q false h') : C_attempt_Attempt_Land B (some ⟨K.kA, 0, none⟩) h Q := by
  refine C_attempt_Attempt_Land.of ?_
  unfold S_attempt_Attempt_Land
  refine avalid_wp S hn fun h3 S1 => ⟨fun hv => ?_, fun hv => Fin.of (hF hv _ S1)⟩
  refine ⟨_, rfl, _, S1.E.cM 7 rfl (i := 0) rfl, fun k8 a8 b8 h9 e9 => ?_⟩
  have S2 := S1.nP a8 b8 e9
  refine ⟨_, storeH_vec S2.gP rfl, ?_⟩
  have S3 := S2.pP (o' := .vec TY.p_attempt_View (plains [.pointer (some ⟨V.kV, 0, none⟩)]) 1)
  refine ⟨_, cellH_vec S3.gP rfl, _, rfl, v.t, S3.E.cM 0 rfl (i := 3) rfl, _, rfl, ?_⟩
  rw [w64 (by omega) (by omega)]
  refine ⟨_, storeH_vec (S3.E.gM 0 rfl) (show (plains [.pointer (some ⟨V.kC, 0, none⟩), .pointer (some ⟨V.kT, 0, none⟩), .pointer (some ⟨V.kF, 0, none⟩), .int .i64 v.t])[3]? = some (.plain (.int .i64 v.t)) from rfl), ?_⟩
  have E4 := S3.E.pM (o' := viewO V (v.t + 1)) 0 rfl
  refine ⟨_, rfl, _, Keep.cM E4 7 rfl (i := 2) rfl, dall_wp fun kc ac bc => ?_⟩
  have E5 := Keep.nP (o := .vec TY.p_draft_Draft_int [.plain (.pointer (some ⟨U.x.kd, 0, none⟩))] 1) E4 ac bc rfl
  have dl := S.a.dlen
  let LL := L ++ [some (k8, .vec TY.p_attempt_View (plains [.pointer (some ⟨V.kV, 0, none⟩)]) 1)] ++ [some (kc, .vec TY.p_draft_Draft_int [.plain (.pointer (some ⟨U.x.kd, 0, none⟩))] 1)]
  refine ⟨s.s.d, dG kc U.x.kd U.x.vd U.x.rd, fun q h' => Keep B h0 (LL ++ (V.e { v with c := apC (v.t + 1) v.c (s.s.d.take q), t := v.t + 1 } ++ AE V K U s)) h', dall_iter S.O.d (by omega), dG_ins, ?_, Fin.of E5, ?_, ?_⟩
  · intro q h' E
    exact ⟨Keep.gP E, E.gM 10 rfl, fun k o e => E.gM 11 (by show some U.x.rd = _; rw [e])⟩
  · clear E4 E5
    rintro q h69 i66 i67 hg E
    have hx := S.a.dk _ (List.mem_of_getElem? hg)
    simp only at hx
    refine ⟨_, cellH_vec (Keep.gP' E) rfl, _, rfl, _, E.cM 0 rfl (i := 0) rfl, _, cellH_vec (Keep.gP' E) rfl, _, rfl, _, E.cM 0 rfl (i := 3) rfl, set_wp_int (E.gM 1 rfl) (fun _ _ => Fin.of ?_) fun hn => ?_⟩
    · have E1 := E.pM (o' := rowO_int ((apC (v.t + 1) v.c (s.s.d.take q)).set i66.toNat (i67, v.t + 1))) 1 rfl
      rw [← apC_take (x := (i66, i67)) hg] at E1
      show Keep B h0 _ (h69.set V.kC (rowO_int ((apC (v.t + 1) v.c (s.s.d.take q)).set i66.toNat (i67, v.t + 1))))
      rw [← apC_take (x := (i66, i67)) hg]
      exact E1
    · rw [apC_len, S.o.c8] at hn; omega
  · clear E4 E5
    intro h69 E
    rw [List.take_length] at E
    refine Fin.of ?_
    unfold S_attempt_Attempt_Land_J1
    refine ⟨_, rfl, _, E.cM 7 rfl (i := 3) rfl, _, cellH_vec (Keep.gP' E) rfl, _, rfl, _, E.cM 0 rfl (i := 1) rfl, _, cellH_vec (Keep.gP' E) rfl, _, rfl, v.t + 1, E.cM 0 rfl (i := 3) rfl, ?_⟩
    refine sover_wp (x := shI V U) (toSh E) S.o.r S.O.f S.a.so fun r' h31 R' E1 => ?_
    have E2 := ofSh (V := V.w r') (v := ⟨apC (v.t + 1) v.c s.s.d, apD (v.t + 1) v.f s.s.f, v.ts, v.l, v.t + 1⟩) (K := K) (U := U) (s := s) (f := s.s.f) E1
    refine ⟨fun q m h' => ∃ j : Nat, j ≤ 3 ∧ q = j ∧ m = 3 - j ∧ Keep B h0 (LL ++ ((V.w r').e ⟨apC (v.t + 1) v.c s.s.d, apD (v.t + 1) v.f s.s.f, v.ts, landN (v.t + 1) v.ts s.s v.l j, v.t + 1⟩ ++ AE V K U s)) h', 3, Fin.of ⟨0, by omega, rfl, rfl, E2⟩, ?_⟩
    clear E1 E2 E
    rintro _ _ h34 ⟨j, hj, rfl, rfl, E⟩
    refine ⟨fun hlt => ⟨_, rfl, _, E.cM 7 rfl (i := 4) rfl, cread_wp (c := s.s) (E.gM 15 rfl) (by omega) ⟨fun hg => ?_, fun hg => Fin.of ?_⟩⟩, fun hge => Fin.of ?_⟩
    · have fk := S.o.k.land (t := v.t + 1) (c := s.s) j
      refine ⟨_, cellH_vec (Keep.gP' E) rfl, _, rfl, _, E.cM 0 rfl (i := 2) rfl, feed_place_wp (ts := v.ts) (l := landN (v.t + 1) v.ts s.s v.l j) fk.t3 (E.gM 5 rfl) (E.gM 6 rfl) ?_⟩
      refine ⟨_, cellH_vec (Keep.gP' E) rfl, _, rfl, _, E.cM 0 rfl (i := 2) rfl, _, cellH_vec (Keep.gP' E) rfl, _, rfl, v.t + 1, E.cM 0 rfl (i := 3) rfl, ?_⟩
      have hp := fk.place (j : Nat)
      have hs := fk.size (j : Nat)
      have hc := S.a.cr (j : Nat)
      rw [w64 (by omega) (by omega)]
      refine feed_take_wp fk (E.gM 5 rfl) (E.gM 6 rfl) (Fin.of ⟨3 - (j + 1), by omega, j + 1, by omega, wrapS (by omega), rfl, ?_⟩)
      have E3 := E.pM (o' := rowO_int (takeL v.ts (landN (v.t + 1) v.ts s.s v.l j) (j : Nat) ((cellAt_int (landN (v.t + 1) v.ts s.s v.l j) (j : Nat)).1 + s.s.cr (j : Nat)) (v.t + 1))) 6 rfl
      have e : landN (v.t + 1) v.ts s.s v.l (j + 1) = takeL v.ts (landN (v.t + 1) v.ts s.s v.l j) (j : Nat) ((cellAt_int (landN (v.t + 1) v.ts s.s v.l j) (j : Nat)).1 + s.s.cr (j : Nat)) (v.t + 1) := by rw [landN, if_pos hg]
      rw [e]
      exact E3
    · refine ⟨3 - (j + 1), by omega, j + 1, by omega, wrapS (by omega), rfl, ?_⟩
      have e : landN (v.t + 1) v.ts s.s v.l (j + 1) = landN (v.t + 1) v.ts s.s v.l j := by rw [landN, if_neg (by omega)]
      rw [e]
      exact E
    · have hj3 : j = 3 := by omega
      subst hj3
      have o' : VOk (V.w r') (landV v s) := ⟨R', by rw [← S.o.c8]; exact apC_len _ _ _, S.o.f.apD _, S.o.k.land 3⟩
      exact hT hv r' _ ⟨Keep.dP (Keep.dP E), o', S.R, S.O, S.a.view o'.f⟩
structure DeedR where
  k : Int
  a : Int
  b : Int
  c : UInt8
def DeedR.cells (d : DeedR) : List Value := [.int .i64 d.k, .int .i64 d.a, .int .i64 d.b, .int .u8 ((d.c.toNat : Nat) : Int)]
def pr2 (x : AV × Int) : AV × Int × Int := (x.1, 0, x.2)
def doesA (v : VV) (s : AV) (d : DeedR) : AV × Int × Int :=
  if d.k = 0 then loadA v s d.a else if d.k = 1 then pr2 (storeA s d.a d.b) else if d.k = 2 then readA v s d.a d.b else if d.k = 3 then pr2 (writeA v s d.a d.b d.c)
  else if d.k = 4 then pr2 (createA v s d.a) else if d.k = 5 then pr2 (removeA v s d.a) else if d.k = 6 then pr2 (renameA v s d.a d.b) else if d.k = 7 then pr2 (fcutA v s d.a d.b)
  else if d.k = 8 then recvA v s d.a else (s, 0, 1)
theorem adoes_wp {d : DeedR} {Q : Int → Int → Heap → Prop} (S : SS B h0 L h V v K U s) (hn : s.rs.length ≤ 80000) (hQ : ∀ U' h', SS B h0 L h' V v K U' (doesA v s d).1 → Q (doesA v s d).2.1 (doesA v s d).2.2 h') : C_countermandlaw20_does B (some ⟨K.kA, 0, none⟩) d.k d.a d.b ((d.c.toNat : Nat) : Int) h Q := by
  refine C_countermandlaw20_does.of ?_
  unfold S_countermandlaw20_does
  intro k8 a8 b8 h9 e9
  have S1 := S.nP a8 b8 e9
  have g := S1.gP
  unfold doesA at hQ
  refine ⟨d.k, cellH_vec g rfl, fun h1 => ?_, fun n1 => ?_⟩
  · rw [if_pos h1] at hQ
    exact ⟨d.a, cellH_vec g rfl, load_wp S1 (by omega) fun U' h' _ S2 => Fin.of (hQ _ _ S2.dP)⟩
  rw [if_neg n1] at hQ
  refine ⟨fun h1 => ?_, fun n1 => ?_⟩
  · rw [if_pos h1] at hQ
    exact ⟨d.a, cellH_vec g rfl, d.b, cellH_vec g rfl, store_wp S1 fun U' h' S2 => Fin.of (hQ _ _ S2.dP)⟩
  rw [if_neg n1] at hQ
  refine ⟨fun h1 => ?_, fun n1 => ?_⟩
  · rw [if_pos h1] at hQ
    exact ⟨d.a, cellH_vec g rfl, d.b, cellH_vec g rfl, aread_wp S1 (by omega) fun U' h' S2 => Fin.of (hQ _ _ S2.dP)⟩
  rw [if_neg n1] at hQ
  refine ⟨fun h1 => ?_, fun n1 => ?_⟩
  · rw [if_pos h1] at hQ
    exact ⟨d.a, cellH_vec g rfl, d.b, cellH_vec g rfl, ((d.c.toNat : Nat) : Int), cellH_vec g rfl, awrite_wp rfl S1 (by omega) fun U' h' S2 => Fin.of (hQ _ _ S2.dP)⟩
  rw [if_neg n1] at hQ
  refine ⟨fun h1 => ?_, fun n1 => ?_⟩
  · rw [if_pos h1] at hQ
    exact ⟨d.a, cellH_vec g rfl, acreate_wp S1 (by omega) fun U' h' S2 => Fin.of (hQ _ _ S2.dP)⟩
  rw [if_neg n1] at hQ
  refine ⟨fun h1 => ?_, fun n1 => ?_⟩
  · rw [if_pos h1] at hQ
    exact ⟨d.a, cellH_vec g rfl, aremove_wp S1 (by omega) fun U' h' S2 => Fin.of (hQ _ _ S2.dP)⟩
  rw [if_neg n1] at hQ
  refine ⟨fun h1 => ?_, fun n1 => ?_⟩
  · rw [if_pos h1] at hQ
    exact ⟨d.a, cellH_vec g rfl, d.b, cellH_vec g rfl, arename_wp S1 (by omega) fun U' h' S2 => Fin.of (hQ _ _ S2.dP)⟩
  rw [if_neg n1] at hQ
  refine ⟨fun h1 => ?_, fun n1 => ?_⟩
  · rw [if_pos h1] at hQ
    exact ⟨d.a, cellH_vec g rfl, d.b, cellH_vec g rfl, acut_wp S1 (by omega) fun U' h' S2 => Fin.of (hQ _ _ S2.dP)⟩
  rw [if_neg n1] at hQ
  refine ⟨fun h1 => ?_, fun n1 => ?_⟩
  · rw [if_pos h1] at hQ
    exact ⟨d.a, cellH_vec g rfl, recv_wp S1 (by omega) fun U' h' S2 => Fin.of (hQ _ _ S2.dP)⟩
  rw [if_neg n1] at hQ
  exact Fin.of (hQ _ _ S1.dP)
theorem noteS_len (v : VV) (s : AV) (k i : Int) : (noteS v s k i).rs.length ≤ s.rs.length + 1 := noteA_len _ _ _ _ _
theorem wS_len (v : VV) (s : AV) (i : Int) (F : DFL → DFL) : (wS v s i F).1.rs.length ≤ s.rs.length + 1 := by
  have := touchS_len v s i
  unfold wS; split <;> exact this
theorem doesA_len (v : VV) (s : AV) (d : DeedR) : (doesA v s d).1.rs.length ≤ s.rs.length + 2 := by
  have h1 := touchS_len v s d.a
  have h2 := noteS_len v s 0 d.a
  have h3 := noteS_len v s 2 d.a
  unfold doesA
  split
  · unfold loadA; split
    · split
      · show s.rs.length ≤ _; omega
      · show (noteS v s 0 d.a).rs.length ≤ _; omega
    · show s.rs.length ≤ _; omega
  split
  · unfold storeA; split <;> (show s.rs.length ≤ _; omega)
  split
  · unfold readA; split <;> (show (touchS v s d.a).rs.length ≤ _; omega)
  split
  · exact Nat.le_succ_of_le (wS_len _ _ _ _)
  split
  · exact Nat.le_succ_of_le (wS_len _ _ _ _)
  split
  · exact Nat.le_succ_of_le (wS_len _ _ _ _)
  split
  · unfold renameA; split
    · split
      · have := wS_len v (touchS v s d.a) d.b fun e => renS v.f e d.a d.b
        show (wS v (touchS v s d.a) d.b fun e => renS v.f e d.a d.b).1.rs.length ≤ _; omega
      · show (touchS v s d.a).rs.length ≤ _; omega
    · show s.rs.length ≤ _; omega
  split
  · exact Nat.le_succ_of_le (wS_len _ _ _ _)
  split
  · unfold recvA; split
    · split
      · split <;> (show (noteS v s 2 d.a).rs.length ≤ _; omega)
      · show (noteS v s 2 d.a).rs.length ≤ _; omega
    · show s.rs.length ≤ _; omega
  · show s.rs.length ≤ _; omega
end
end Go.Proofs.YtgldgabefiialaaGreat.H
namespace Go.Proofs.YtgldgabefiialaaGreat.H
open Go Go.RowKit
set_option linter.unusedVariables false
set_option maxRecDepth 100000
structure Pas (v : VV) (U : AU) (s : AV) : Prop where
  R : ERow U.rS U.vS s.rs
  O : U.x.Ok s.s
  a : AOk v s
theorem thF_one (v : VV) : ∀ y ∈ thF v, isOne y = true := by simp [thF, isOne, cT, fT, sT, lT]
section
variable {B : RO} {h0 h h' : Heap} {L M : List (Option (Nat × AObj))} {V : VI} {v : VV} {K K1 K2 : AK} {U U1 U2 : AU} {s s1 s2 : AV} {k : Nat} {i j : Int} {c : StV} {g : Reg4} {o o' : AObj} {y : Option (Nat × AObj)}
theorem Keep.swap {A X : List (Option (Nat × AObj))} (E : Keep B h0 (L ++ (A ++ X)) h) : Keep B h0 ((L ++ X) ++ A) h := by
  refine E.remap (fun j => if j < L.length then j else if j < L.length + X.length then j + A.length else j - X.length) (fun j y hj => ?_) (fun i j hi hj e => ?_)
  · have hl := (List.getElem?_eq_some_iff.1 hj).1
    rw [List.length_append, List.length_append] at hl
    by_cases h1 : j < L.length
    · simp only [if_pos h1]
      rw [List.append_assoc, List.getElem?_append_left h1] at hj
      rw [List.getElem?_append_left h1]; exact hj
    · simp only [if_neg h1]
      by_cases h2 : j < L.length + X.length
      · simp only [if_pos h2]
        rw [List.append_assoc, List.getElem?_append_right (by omega), List.getElem?_append_left (by omega)] at hj
        rw [List.getElem?_append_right (by omega), List.getElem?_append_right (by omega), show j + A.length - L.length - A.length = j - L.length by omega]; exact hj
      · simp only [if_neg h2]
        rw [List.getElem?_append_right (by rw [List.length_append]; omega), List.length_append] at hj
        rw [List.getElem?_append_right (by omega), List.getElem?_append_left (by omega), show j - X.length - L.length = j - (L.length + X.length) by omega]; exact hj
  · rw [List.length_append, List.length_append] at hi hj
    have e : (if i < L.length then i else if i < L.length + X.length then i + A.length else i - X.length) = (if j < L.length then j else if j < L.length + X.length then j + A.length else j - X.length) := e
    split at e <;> split at e <;> (try split at e) <;> (try split at e) <;> omega
theorem Pas.view {v' : VV} (P : Pas v U s) (k : TomeOk v'.f) : Pas v' U s := ⟨P.R, P.O, P.a.view k⟩
theorem SS.pas (S : SS B h0 L h V v K U s) : Pas v U s := ⟨S.R, S.O, S.a⟩
theorem SS.of (E : Keep B h0 (L ++ (V.e v ++ AE V K U s)) h) (o : VOk V v) (P : Pas v U s) : SS B h0 L h V v K U s := ⟨E, o, P.R, P.O, P.a⟩
theorem SS.out (S : SS B h0 L h V v K U s) : Keep B h0 ((L ++ AE V K U s) ++ V.e v) h := S.E.swap
theorem SS.flip (S : SS B h0 (L ++ AE V K1 U1 s1) h V v K2 U2 s2) (P : Pas v U1 s1) : SS B h0 (L ++ AE V K2 U2 s2) h V v K1 U1 s1 := by
  refine .of ?_ S.o P
  have E := S.E
  rw [List.append_assoc] at E ⊢
  exact E.sM [16, 17, 18, 19, 20, 21, 22, 23, 24, 9, 10, 11, 12, 13, 14, 15, 0, 1, 2, 3, 4, 5, 6, 7, 8] (by decide)
theorem SS.drop2 {X : List (Option (Nat × AObj))} (S : SS B h0 (L ++ X) h V v K U s) : SS B h0 L h V v K U s := by
  refine .of ?_ S.o S.pas
  have E := S.E
  rw [List.append_assoc] at E
  exact E.dropMid
theorem alive20_wp {Q : Bool → Heap → Prop} (hQ : ∀ h', Keep B h [] h' → Q true h') : C_countermandlaw20_alive B h Q := by
  refine C_countermandlaw20_alive.of ?_
  unfold S_countermandlaw20_alive
  refine newview_wp fun V h2 o E1 => ?_
  refine anew_wp (L := []) (g := ⟨0, 0, 0, 0⟩) E1 o fun Ka Ua h4 Sa => ?_
  have Sa := Sa.drop2
  refine anew_wp (g := ⟨0, 0, 0, 0⟩) Sa.out o fun Kb Ub h6 Sb => ?_
  have Pa := Sa.pas
  have Sb := Sb.drop2
  have Pb := Sb.pas
  refine store_wp (Sb.flip Pa) fun Ua1 h8 Sa1 => ⟨fun _ => ?_, fun hn => absurd rfl hn⟩
  refine load_wp Sa1 (by decide) fun Ua2 h10 e2 Sa2 => ?_
  have Pa2 := Sa2.pas
  refine load_wp (Sa2.flip Pb) (by decide) fun Ub2 h13 e3 Sb2 => ⟨fun _ => ⟨fun _ => ?_, fun hn => absurd rfl hn⟩, fun hn => absurd rfl hn⟩
  refine land_wp (Sb2.flip Pa2) (by decide) (by decide) (fun _ r' h16 S => ⟨fun _ => ⟨_, rfl, _, S.E.cM 0 rfl (i := 3) rfl, Fin.of ?_⟩, fun e => by cases e⟩) (fun hv => absurd hv (by decide))
  exact hQ _ (by have := S.E.take 0; simpa using this)
end
end Go.Proofs.YtgldgabefiialaaGreat.H
namespace Go.Proofs.YtgldgabefiialaaGreat.H
open Go Go.RowKit
set_option linter.unusedVariables false
set_option maxRecDepth 100000
theorem leaf_int (k : IntKind) (a : Int) : leafEq (.int k a) (.int k a) = true := beq_self_eq_true a
theorem leaf_bool (a : Bool) : leafEq (.bool a) (.bool a) = true := beq_self_eq_true a
theorem leaf_str (s : ByteArray) : leafEq (.string s) (.string s) = true := by cases s with | mk d => exact beq_self_eq_true d
theorem eqL_th (v : VV) : eqL (thF v) (thF v) = true := by
  have a := fun i => leaf_int .i64 (cellAt_int v.c i).1
  have b := fun i => leaf_bool (fileAt v.f i).1.1
  have c := fun i => leaf_str (fileAt v.f i).1.2
  have d := fun i => leaf_int .i64 (cellAt_int v.l i).1
  simp only [thF, eqL, cT, fT, sT, lT, a, b, c, d, Bool.and_true]
theorem cell_rep (i : Int) : cellAt_int (List.replicate 8 (0, 0)) i = (0, 0) := by
  unfold cellAt_int
  split
  · cases h : (List.replicate 8 ((0 : Int), (0 : Int)))[i.toNat]? with
    | none => rfl
    | some x => exact (List.eq_of_mem_replicate (List.mem_of_getElem? h))
  · rfl
theorem cr_z (d : List (Int × Int)) (f : DFL) (i : Int) : (StV.mk d f 0 0 0).cr i = 0 := by
  unfold StV.cr; (repeat' split) <;> rfl
theorem ver_set {v : VV} {i x t : Int} {f : FL} {ts : List ByteArray} {l : List (Int × Int)} {t' : Int} (h8 : v.c.length = 8) (hi : inC i = true) (k : Int) : cellAt_int (v.c.set i.toNat (x, t)) k = if k = i then (x, t) else cellAt_int v.c k := by
  have := of_decide_eq_true hi
  exact cellAt_int_set this.1 (by rw [h8]; omega) _ _
section
variable {B : RO} {h0 h h' : Heap} {L M : List (Option (Nat × AObj))} {V : VI} {v : VV} {K K1 K2 : AK} {U U1 U2 : AU} {s s1 s2 : AV} {k : Nat} {i j : Int} {c : StV} {g : Reg4} {o o' : AObj} {y z : Option (Nat × AObj)}
end
end Go.Proofs.YtgldgabefiialaaGreat.H
namespace Go.Proofs.YtgldgabefiialaaGreat.H
open Go Go.RowKit
set_option linter.unusedVariables false
set_option maxRecDepth 100000
section
variable {B : RO} {h0 h h' : Heap} {L M : List (Option (Nat × AObj))} {V : VI} {v : VV} {K K1 K2 : AK} {U U1 U2 : AU} {s s1 s2 : AV} {k : Nat} {i j : Int} {c : StV} {g : Reg4} {o o' : AObj} {y z : Option (Nat × AObj)}
theorem Reads.none : Reads B h none 4 DeedR.cells [] := fun i x hx => by cases hx
theorem th_set {v : VV} {i x t : Int} (h8 : v.c.length = 8) (hi : inC i = true) : thF ⟨v.c.set i.toNat (x, t), v.f, v.ts, v.l, t⟩ = (thF v).set i.toNat (.int .i64 x) := by
  have hc := ver_set (v := v) (x := x) (t := t) (f := []) (ts := []) (l := []) (t' := 0) h8 hi
  have e : ∀ q, cT ⟨v.c.set i.toNat (x, t), v.f, v.ts, v.l, t⟩ q = if q = i then .int .i64 x else cT v q := fun q => by
    unfold cT; rw [hc]; split <;> rfl
  have h := of_decide_eq_true hi
  have h2 : i = 0 ∨ i = 1 ∨ i = 2 ∨ i = 3 ∨ i = 4 ∨ i = 5 ∨ i = 6 ∨ i = 7 := by omega
  unfold thF
  simp only [e]
  rcases h2 with rfl | rfl | rfl | rfl | rfl | rfl | rfl | rfl <;> rfl
theorem fit_th (v : VV) : fitL [Kd.int .i64, Kd.int .i64, Kd.int .i64, Kd.int .i64, Kd.int .i64, Kd.int .i64, Kd.int .i64, Kd.int .i64, Kd.bool, Kd.str, Kd.bool, Kd.str, Kd.bool, Kd.str, Kd.bool, Kd.str, Kd.bool, Kd.str, Kd.bool, Kd.str, Kd.int .i64, Kd.int .i64, Kd.int .i64] (thF v) := by simp [fitL, fitK, thF, cT, fT, sT, lT]
end
end Go.Proofs.YtgldgabefiialaaGreat.H
namespace Go.Proofs.YtgldgabefiialaaGreat.H
open Go Go.RowKit
set_option linter.unusedVariables false
set_option maxRecDepth 100000
theorem vld_note {v : VV} {rs : List RE} {st k i : Int} (h : vld v rs = true) : vld v (noteA v rs st k i).2.1 = true := by
  have h1 : vld v (rs ++ [(k, i, verOf v k i)]) = true := by unfold vld at *; rw [List.all_append, h]; simp
  unfold noteA; split
  · exact h
  · split
    · first | exact h1 | (split <;> first | exact h1 | exact h)
    · exact h1
theorem vld_touch {v : VV} {s : AV} {i : Int} (h : vld v s.rs = true) : vld v (touchS v s i).rs = true := by
  unfold touchS; split
  · split
    · exact h
    · exact vld_note h
  · exact h
theorem vld_wS {v : VV} {s : AV} {i : Int} {F : DFL → DFL} (h : vld v s.rs = true) : vld v (wS v s i F).1.rs = true := by
  unfold wS; split <;> exact vld_touch h
theorem vld_does {v : VV} {s : AV} {d : DeedR} (h : vld v s.rs = true) : vld v (doesA v s d).1.rs = true := by
  unfold doesA
  split
  · unfold loadA; split
    · split
      · exact h
      · exact vld_note h
    · exact h
  split
  · unfold storeA; split <;> exact h
  split
  · unfold readA; split <;> exact vld_touch h
  split
  · exact vld_wS h
  split
  · exact vld_wS h
  split
  · exact vld_wS h
  split
  · unfold renameA; split
    · split
      · exact vld_wS (vld_touch h)
      · exact vld_touch h
    · exact h
  split
  · exact vld_wS h
  split
  · unfold recvA; split
    · split
      · split <;> exact vld_note h
      · exact vld_note h
    · exact h
  · exact h
theorem setA_app {L M : List (Option (Nat × AObj))} {q k : Nat} {x : ActV} (h : q + 4 < L.length) : setA (L ++ M) q k x = setA L q k x ++ M := by
  unfold setA
  rw [List.set_append_left _ _ (by omega), List.set_append_left _ _ (by rw [List.length_set]; omega), List.set_append_left _ _ (by rw [List.length_set, List.length_set]; omega), List.set_append_left _ _ (by rw [List.length_set, List.length_set, List.length_set]; omega), List.set_append_left _ _ (by rw [List.length_set, List.length_set, List.length_set, List.length_set]; omega)]
theorem ActAt.app {L M : List (Option (Nat × AObj))} {q k : Nat} {x : ActV} (A : ActAt L q k x) : ActAt (L ++ M) q k x := ⟨up_app _ A.p, up_app _ A.q0, up_app _ A.q1, up_app _ A.q2, up_app _ A.q3⟩
theorem SkAt.app {L M : List (Option (Nat × AObj))} {q k : Nat} {v : Value} {r : Option (Nat × AObj)} (A : SkAt L q k v r) : SkAt (L ++ M) q k v r := ⟨up_app _ A.p, up_app _ A.q⟩
theorem ActAt.len {L : List (Option (Nat × AObj))} {q k : Nat} {x : ActV} (A : ActAt L q k x) : q + 4 < L.length := (List.getElem?_eq_some_iff.1 A.q3).1
section
variable {B : RO} {h0 h h' : Heap} {L M P : List (Option (Nat × AObj))} {V : VI} {v : VV} {K K1 K2 Ka Kb : AK} {U U1 U2 Ua Ub : AU} {s s1 s2 : AV} {k p q : Nat} {i j : Int} {c : StV} {g : Reg4} {o o' : AObj} {y z rK : Option (Nat × AObj)} {x : ActV} {t : ActS} {vK : Value} {ms : List MarkR}
theorem SS.e (S : SS B h0 L h V v K U s) {L' : List (Option (Nat × AObj))} {h1 : Heap} (E : Keep B h0 (L' ++ (V.e v ++ AE V K U s)) h1) : SS B h0 L' h1 V v K U s := ⟨E, S.o, S.R, S.O, S.a⟩
theorem SS.stAt (S : SS B h0 L h V v K U s) : StAt (L ++ (V.e v ++ AE V K U s)) (L.length + 10) U.x s.s := ⟨⟨upM 10 rfl, upM 11 rfl⟩, upM 12 rfl, ⟨upM 13 rfl, upM 14 rfl⟩, upM 15 rfl⟩
theorem else_wp {pl : Int} {Q : Heap → Prop} (S : SS B h0 L h V v K U s) (A : ActAt L q K.kX x) (W : ARows t x) (Z : SkAt L p K.kK vK rK) (R : MRow rK vK ms) (hl : ms.length ≤ 1000)
    (hQ : ∀ x' vK' rK' h', StI.Ok x' s.s → MRow rK' vK' (ms ++ [⟨x', s.g, ⟨t.outs.length, t.later.length, t.notes.length, t.opens.length⟩, pl⟩]) → SS B h0 (((L.set p (some (K.kK, skO vK'))).set (p + 1) rK') ++ x'.e s.s) h' V v K U s → Q h') : C_attempt_Attempt_Else B (some ⟨K.kA, 0, none⟩) pl h Q := by
  refine C_attempt_Attempt_Else.of ?_
  unfold S_attempt_Attempt_Else
  have h1 := (List.getElem?_eq_some_iff.1 Z.p).1
  have h2 := (List.getElem?_eq_some_iff.1 Z.q).1
  have cc : ∀ {h1 : Heap}, Keep B h0 (L ++ (V.e v ++ AE V K U s)) h1 → CellsAt B h1 ⟨K.kA, 2, none⟩ 0 [.pointer (some ⟨U.x.kd, 0, none⟩), .pointer (some ⟨U.x.ks, 0, none⟩), .pointer (some ⟨U.x.kc, 0, none⟩), .int .i64 s.g.a, .int .i64 s.g.b, .int .i64 s.g.c, .int .i64 s.g.d] := fun E => ⟨E.cM 7 rfl (i := 2) rfl, E.cM 7 rfl (i := 3) rfl, E.cM 7 rfl (i := 4) rfl, E.cM 7 rfl (i := 5) rfl, E.cM 7 rfl (i := 6) rfl, E.cM 7 rfl (i := 7) rfl, E.cM 7 rfl (i := 8) rfl, trivial⟩
  refine ⟨fun e => (by cases e), fun _ => ⟨_, rfl, _, S.E.cM 7 rfl (i := 10) rfl, _, rfl, _, _, _, _, _, _, _, cc S.E, _, rfl, _, S.E.cM 7 rfl (i := 9) rfl, marksA_wp S.E A.app W fun h3 E3 => ⟨E3.cM 7 rfl (i := 10) rfl, cc E3, E3.cM 7 rfl (i := 9) rfl, ?_⟩⟩⟩
  have dl := S.a.dlen
  have fl := S.a.so.len
  refine push_wp (g := s.g) (mm := ⟨t.outs.length, t.later.length, t.notes.length, t.opens.length⟩) E3 Z.app R (by omega) (S.e E3).stAt S.O (by omega) (by omega) fun x' v' r' h' O' R' E' => Fin.of (hQ x' v' r' h' O' R' (S.e ?_))
  rw [List.set_append_left _ _ h1, List.set_append_left _ _ (by rw [List.length_set]; exact h2), List.append_assoc] at E'
  exact E'.swap
theorem back_none {Q : Int → Option Addr → Nat → Nat → Bool → Heap → Prop} (S : SS B h0 L h V v K U s) (Z : SkAt L p K.kK vK rK) (R : MRow rK vK []) (hQ : ∀ h', SS B h0 L h' V v K U s → Q 0 none 0 0 false h') : C_attempt_Attempt_Back B (some ⟨K.kA, 0, none⟩) h Q := by
  refine C_attempt_Attempt_Back.of ?_
  unfold S_attempt_Attempt_Back
  refine ⟨fun e => (by cases e), fun _ => ⟨_, rfl, _, S.E.cM 7 rfl (i := 10) rfl, pop_wp S.E Z.app R (by simp) (fun _ h1 E1 => ⟨fun e => (by cases e), fun _ k25 a25 b25 h26 e26 => ?_⟩) fun l' z v' r' h' e => ?_⟩⟩
  · have S2 := (S.e E1).nP a25 b25 e26
    refine ⟨_, stores_whole S2.gP rfl (by simp) (by simp [isOne]) (by simp), Fin.of (hQ _ ?_)⟩
    exact (S2.pP (o' := .vec TY.mark_Mark (plains zeroM) 12)).dP
  · exact absurd (congrArg List.length e) (by simp)
theorem back_one {z : MarkR} {st1 : StV} {Q : Int → Option Addr → Nat → Nat → Bool → Heap → Prop} (S : SS B h0 (L ++ z.x.e st1) h V v K U s) (A : ActAt L q K.kX x) (W : ARows t x) (Z : SkAt L p K.kK vK rK) (hqp : q + 4 < p) (R : MRow rK vK (ms ++ [z])) (hl : ms.length ≤ 1000) (O1 : z.x.Ok st1) (a1 : AOk v { s with s := st1, g := z.g })
    (hQ : ∀ x' vK' rK' a' m' c' r' h', MRow rK' vK' ms → ARows (cutA t z.m.a z.m.b z.m.c z.m.d) x' → Row r' (.slice a' m' c') TY.acts_Open 2 ((undoL (t.opens.drop (min t.opens.length z.m.d.toNat))).flatMap OpenC) →
      SS B h0 (setA ((L.set p (some (K.kK, skO vK'))).set (p + 1) rK') q K.kX x' ++ [r']) h' V v K ⟨U.vS, U.rS, z.x⟩ { s with s := st1, g := z.g } → Q z.place a' m' c' true h') : C_attempt_Attempt_Back B (some ⟨K.kA, 0, none⟩) h Q := by
  refine C_attempt_Attempt_Back.of ?_
  unfold S_attempt_Attempt_Back
  have h1 := (List.getElem?_eq_some_iff.1 Z.p).1
  have h2 := (List.getElem?_eq_some_iff.1 Z.q).1
  refine ⟨fun e => (by cases e), fun _ => ⟨_, rfl, _, S.E.cM 7 rfl (i := 10) rfl, pop_wp S.E (SkAt.app Z.app) R (by simp; omega) (fun e => absurd (congrArg List.length e) (by simp)) fun l' z' v' r' h11 e R' E1 => ?_⟩⟩
  obtain ⟨e1, e2⟩ := List.append_inj' e rfl
  subst e1
  obtain rfl : z = z' := by cases e2; rfl
  rw [List.append_assoc, List.set_append_left _ _ h1, List.set_append_left _ _ (by rw [List.length_set]; exact h2)] at E1
  generalize hL1 : (L.set p (some (K.kK, skO v'))).set (p + 1) r' = L1 at E1
  have A1 : ActAt L1 q K.kX x := by
    subst hL1
    refine ⟨?_, ?_, ?_, ?_, ?_⟩
    · rw [List.getElem?_set_ne (by omega), List.getElem?_set_ne (by omega)]; exact A.p
    · rw [List.getElem?_set_ne (by omega), List.getElem?_set_ne (by omega)]; exact A.q0
    · rw [List.getElem?_set_ne (by omega), List.getElem?_set_ne (by omega)]; exact A.q1
    · rw [List.getElem?_set_ne (by omega), List.getElem?_set_ne (by omega)]; exact A.q2
    · rw [List.getElem?_set_ne (by omega), List.getElem?_set_ne (by omega)]; exact A.q3
  refine ⟨fun _ k28 a28 b28 h29 e29 => ?_, fun e => by cases e⟩
  have E2 := E1.nM a28 b28 e29
  refine ⟨_, stores_whole (E2.gM 22 rfl) rfl (by simp) (by simp [isOne]) (by simp), ?_⟩
  have E3 := E2.pM (o' := .vec TY.mark_Mark (plains z.cells) 12) 22 rfl
  refine ⟨_, _, _, _, _, _, _, ⟨E3.cM 22 rfl (i := 0) rfl, E3.cM 22 rfl (i := 1) rfl, E3.cM 22 rfl (i := 2) rfl, E3.cM 22 rfl (i := 3) rfl, E3.cM 22 rfl (i := 4) rfl, E3.cM 22 rfl (i := 5) rfl, E3.cM 22 rfl (i := 6) rfl, trivial⟩, _, rfl, ?_⟩
  obtain ⟨h40, st, E4⟩ := E3.vM (k := K.kA) (t := TY.attempt_Attempt) (nn := 11) (fs := [.pointer (some ⟨V.kV, 0, none⟩), .pointer (some ⟨K.kS, 0, none⟩)]) (gs := [.pointer (some ⟨U.x.kd, 0, none⟩), .pointer (some ⟨U.x.ks, 0, none⟩), .pointer (some ⟨U.x.kc, 0, none⟩), .int .i64 s.g.a, .int .i64 s.g.b, .int .i64 s.g.c, .int .i64 s.g.d, .pointer (some ⟨K.kX, 0, none⟩), .pointer (some ⟨K.kK, 0, none⟩)]) 13 rfl [.pointer (some ⟨z.x.kd, 0, none⟩), .pointer (some ⟨z.x.ks, 0, none⟩), .pointer (some ⟨z.x.kc, 0, none⟩), .int .i64 z.g.a, .int .i64 z.g.b, .int .i64 z.g.c, .int .i64 z.g.d] (by simp [isOne]) 2 rfl (by simp)
  have E5 : Keep B h0 (L1 ++ [some (z.x.kd, drO_int z.x.vd), z.x.rd, some (z.x.ks, shO z.x.kf), some (z.x.kf, drO_file_File z.x.vf), z.x.rf, some (z.x.kc, curO st1), some (V.kV, viewO V v.t), some (V.kC, rowO_int v.c), some (V.kT, tomO V.kR), some (V.kR, frO V.vt), V.rt, some (V.kF, feedO v.ts V.kP), some (V.kP, rowO_int v.l), some (K.kA, attO V K z.x z.g), some (K.kS, rsO U.vS s.st), U.rS, some (U.x.kd, drO_int U.x.vd), U.x.rd, some (U.x.ks, shtO U.x.kf), some (U.x.kf, drO_file_File U.x.vf), U.x.rf, some (U.x.kc, curO s.s), some (k28, .vec TY.mark_Mark (plains z.cells) 12)]) h40 := E4
  clear E4 E3 E2 E1
  refine ⟨h40, st, z.place, E5.cM 22 rfl (i := 11) rfl, _, rfl, _, E5.cM 13 rfl (i := 9) rfl, z.m.a, z.m.b, z.m.c, z.m.d, ⟨E5.cM 22 rfl (i := 7) rfl, E5.cM 22 rfl (i := 8) rfl, E5.cM 22 rfl (i := 9) rfl, E5.cM 22 rfl (i := 10) rfl, trivial⟩, ?_⟩
  refine backA_wp E5 A1.app W fun a' m' c' ru x' h57 Ru W' E6 => ?_
  rw [setA_app A1.len, List.append_assoc] at E6
  refine ⟨E6.cM 22 rfl (i := 11) rfl, E6.cM 13 rfl (i := 9) rfl, ⟨E6.cM 22 rfl (i := 7) rfl, E6.cM 22 rfl (i := 8) rfl, E6.cM 22 rfl (i := 9) rfl, E6.cM 22 rfl (i := 10) rfl, trivial⟩, Fin.of ?_⟩
  subst hL1
  refine hQ x' v' r' a' m' c' ru h57 R' W' Ru ⟨?_, S.o, S.R, O1, a1⟩
  rw [List.append_assoc]
  exact E6.sM [23, 6, 7, 8, 9, 10, 11, 12, 13, 14, 15, 0, 1, 2, 3, 4, 5] (by decide)
end
end Go.Proofs.YtgldgabefiialaaGreat.H
namespace Go.Proofs.YtgldgabefiialaaGreat.H
open Go Go.RowKit
set_option linter.unusedVariables false
set_option maxRecDepth 100000
theorem wS_g (v : VV) (s : AV) (i : Int) (F : DFL → DFL) : (wS v s i F).1.g = s.g := by
  unfold wS; split
  · exact (touchS_s v s i).2
  · exact (touchS_s v s i).2
theorem doesA_g (v : VV) (s : AV) (d : DeedR) : (doesA v s d).1.g = s.g := by
  unfold doesA
  split
  · unfold loadA; split
    · split <;> rfl
    · rfl
  split
  · unfold storeA; split <;> rfl
  split
  · unfold readA; split <;> exact (touchS_s v s _).2
  split
  · exact wS_g _ _ _ _
  split
  · exact wS_g _ _ _ _
  split
  · exact wS_g _ _ _ _
  split
  · unfold renameA; split
    · split
      · exact (wS_g _ _ _ _).trans (touchS_s v s _).2
      · exact (touchS_s v s _).2
    · rfl
  split
  · exact wS_g _ _ _ _
  split
  · unfold recvA; split
    · split
      · split <;> rfl
      · rfl
    · rfl
  · rfl
section
variable {B : RO} {h0 h h' : Heap} {L M P : List (Option (Nat × AObj))} {V W : VI} {v w : VV} {K K1 K2 Ka Kb : AK} {U U1 U2 Ua Ub : AU} {s s1 s2 sa sb : AV} {k p q k15 : Nat} {i j pl : Int} {c : StV} {g : Reg4} {o o' : AObj} {y z rK : Option (Nat × AObj)} {x : ActV} {t : ActS} {vK : Value} {ms : List MarkR} {text : ByteArray} {Q : Bool → Heap → Prop}
end
end Go.Proofs.YtgldgabefiialaaGreat.H
namespace Go.Proofs.YtgldgabefiialaaGreat.H
open Go Go.RowKit
set_option linter.unusedVariables false
set_option maxRecDepth 100000
abbrev DoX := VV × DFL
def putP (W : VV) (i x : Int) : VV := ⟨W.c, W.f, W.ts, W.l.set i.toNat (x, 0), 0⟩
def putC (W : VV) (i x : Int) : VV := ⟨W.c.set i.toNat (x, 0), W.f, W.ts, W.l, 0⟩
def doStep (X : DoX) (d : DeedR) : DoX × Int :=
  if d.k = 0 then (X, (cellAt_int X.1.c d.a).1)
  else if d.k = 1 then ((putC X.1 d.a d.b, X.2), 0)
  else if d.k = 2 then (X, atF (getS X.1.f X.2 d.a).1 d.b)
  else if d.k = 3 then ((X.1, upS X.1.f X.2 d.a (putF (getS X.1.f X.2 d.a).1 d.b d.c)), 0)
  else if d.k = 4 then ((X.1, upS X.1.f X.2 d.a (true, (getS X.1.f X.2 d.a).1.2)), 0)
  else if d.k = 5 then ((X.1, upS X.1.f X.2 d.a f0), 0)
  else if d.k = 6 then ((X.1, renS X.1.f X.2 d.a d.b), 0)
  else if d.k = 7 then ((X.1, upS X.1.f X.2 d.a (cutF (getS X.1.f X.2 d.a).1 d.b)), 0)
  else if d.k = 8 then (if (cellAt_int X.1.l d.a).1 < (textAt X.1.ts d.a).size then ((putP X.1 d.a ((cellAt_int X.1.l d.a).1 + 1), X.2), byteAt (textAt X.1.ts d.a) (cellAt_int X.1.l d.a).1.toNat) else (X, -1))
  else (X, 0)
def DoR (v : VV) (ds : List DeedR) : DoX × Int := ds.foldl (fun p d => doStep p.1 d) ((v, []), 0)
theorem DoR_take {v : VV} {ds : List DeedR} {j : Nat} {d : DeedR} (h : ds[j]? = some d) : DoR v (ds.take (j + 1)) = doStep (DoR v (ds.take j)).1 d := by
  obtain ⟨h1, rfl⟩ := List.getElem?_eq_some_iff.1 h
  rw [List.take_succ_eq_append_getElem h1, DoR, List.foldl_append]; rfl
structure goodD (d : DeedR) : Prop where
  c : d.k = 0 ∨ d.k = 1 → inC d.a = true
  f : d.k = 2 → inR d.a = true
  l : d.k = 8 → 0 ≤ d.a ∧ d.a < 3
structure OkX (X : DoX) : Prop where
  c8 : X.1.c.length = 8
  s : SOk X.1.f X.2
  k : FeedOk X.1.ts X.1.l
theorem OkX.put {X : DoX} (o : OkX X) {i : Int} (h3 : 0 ≤ i ∧ i < 3) (h : (cellAt_int X.1.l i).1 < (textAt X.1.ts i).size) : OkX (putP X.1 i ((cellAt_int X.1.l i).1 + 1), X.2) := by
  refine ⟨o.c8, o.s, ?_⟩
  have ht := o.k.take i ((cellAt_int X.1.l i).1 + 1) 0
  have hb : takeB X.1.ts X.1.l i ((cellAt_int X.1.l i).1 + 1) = true := by
    unfold takeB; rw [decide_eq_true_eq]; exact ⟨h3.1, h3.2, by omega, by omega⟩
  unfold takeL at ht
  rw [if_pos hb] at ht
  exact ht
theorem OkX.step {X : DoX} (o : OkX X) (d : DeedR) (g : goodD d) : OkX (doStep X d).1 := by
  unfold doStep
  split
  · exact o
  split
  · exact ⟨(List.length_set ..).trans o.c8, o.s, o.k⟩
  split
  · exact o
  split
  · exact ⟨o.c8, o.s.up (goodF_put (o.s.good _) _ _), o.k⟩
  split
  · exact ⟨o.c8, o.s.up (f := (true, (getS X.1.f X.2 d.a).1.2)) (goodF_make (f := (getS X.1.f X.2 d.a).1) (o.s.good _)), o.k⟩
  split
  · exact ⟨o.c8, o.s.up rfl, o.k⟩
  split
  · exact ⟨o.c8, o.s.ren _ _, o.k⟩
  split
  · exact ⟨o.c8, o.s.up (goodF_cut (o.s.good _) _), o.k⟩
  split
  · rename_i h8
    split
    · rename_i hlt
      exact o.put (g.l h8) hlt
    · exact o
  · exact o
theorem thl_set {v : VV} {i x : Int} (h3 : v.l.length = 3) (hi : 0 ≤ i ∧ i < 3) : thF (putP v i x) = (thF v).set (20 + i.toNat) (.int .i64 x) := by
  have e : ∀ q, lT (putP v i x) q = if q = i then .int .i64 x else lT v q := fun q => by
    show Value.int .i64 (cellAt_int (v.l.set i.toNat (x, 0)) q).1 = _
    rw [cellAt_int_set hi.1 (by omega)]; split <;> rfl
  have h2 : i = 0 ∨ i = 1 ∨ i = 2 := by omega
  unfold thF
  simp only [e]
  rcases h2 with rfl | rfl | rfl <;> rfl
def fl12 (v : VV) : List Value := [fT v 0, sT v 0, fT v 1, sT v 1, fT v 2, sT v 2, fT v 3, sT v 3, fT v 4, sT v 4, fT v 5, sT v 5]
theorem filesC_12 {v : VV} (h6 : v.f.length = 6) : filesC v.f = fl12 v := by
  obtain ⟨c, f, ts, l, t⟩ := v
  match f, h6 with
  | [a, b, c, d, e, g], _ => rfl
theorem docO_z {v : VV} (h6 : v.f.length = 6) : AObj.vec TY.countermandref14_Sheet (plains (fl12 v ++ fl12 v ++ [.bool false, .bool false, .bool false, .bool false, .bool false, .bool false])) 30 = docO v.f [] := by
  unfold docO docC
  rw [filesC_12 h6]; rfl
def finV (X : DoX) : VV := { X.1 with f := (fsOf X.1.f X.2).map fun f => (f, 0) }
section
variable {B : RO} {h0 h h' : Heap} {L M P : List (Option (Nat × AObj))} {v : VV} {k kd : Nat} {i j : Int} {X : DoX} {ds : List DeedR}
theorem th_cell_c (hk : h k = some (.vec TY.countermandref20_Things (plains (thF v)) 23)) (hi : inC i = true) : cellH B h (Addr.add ⟨k, 0, none⟩ (Int.toNat i * 1)) = some (cT v i) := by
  have := of_decide_eq_true hi
  have h2 : i = 0 ∨ i = 1 ∨ i = 2 ∨ i = 3 ∨ i = 4 ∨ i = 5 ∨ i = 6 ∨ i = 7 := by omega
  rw [addr_more]
  rcases h2 with rfl | rfl | rfl | rfl | rfl | rfl | rfl | rfl <;> exact cellH_vec hk rfl
theorem th_cell_l (hk : h k = some (.vec TY.countermandref20_Things (plains (thF v)) 23)) (hi : 0 ≤ i ∧ i < 3) : cellH B h (Addr.add ⟨k, 20, none⟩ (Int.toNat i * 1)) = some (lT v i) := by
  have h2 : i = 0 ∨ i = 1 ∨ i = 2 := by omega
  rw [addr_more]
  rcases h2 with rfl | rfl | rfl <;> exact cellH_vec hk rfl
theorem tx_cell {ts : List ByteArray} (hk : h k = some (.vec TY.a_3_string (plains (txF ts)) 3)) (hi : 0 ≤ i ∧ i < 3) : cellH B h (Addr.add ⟨k, 0, none⟩ (Int.toNat i * 1)) = some (.string (textAt ts i)) := by
  have h2 : i = 0 ∨ i = 1 ∨ i = 2 := by omega
  rw [addr_more]
  rcases h2 with rfl | rfl | rfl <;> exact cellH_vec hk rfl
theorem refAtG_wp {f : FileS} {n : Int} (hs : f.2.size ≤ 1000000) {Q : Int → Heap → Prop} (hQ : ∀ h', Wk B h h' → Q (atF f n) h') : C_countermandref09_At B f.1 f.2 n h Q := by
  refine C_countermandref09_At.of ?_
  unfold S_countermandref09_At
  intro k5 a5 b5 h6 e6
  have E : Keep B h [some (k5, frfO f)] h6 := (Keep.nil B h).made a5 b5 e6
  refine ⟨fun ix m h' => ∃ j : Nat, ix = j ∧ m = f.2.size - j ∧ (∀ q : Nat, q < j → (q : Int) ≠ n) ∧ j ≤ f.2.size ∧ Keep B h [some (k5, frfO f)] h', f.2.size, Fin.of ⟨0, rfl, rfl, fun q hq => by omega, by omega, E⟩, ?_⟩
  clear E
  rintro _ _ h8 ⟨j, rfl, rfl, hj, hjs, E⟩
  refine ⟨f.2, E.cell 0 rfl (j := 1) rfl, fun hlt => ⟨fun he => ⟨f.2, E.cell 0 rfl (j := 1) rfl, by omega, hlt, Fin.of ?_⟩, fun hne => Fin.of ⟨f.2.size - (j + 1), by omega, j + 1, wrapS (by omega), rfl, fun q hq => by
    by_cases e : q = j
    · subst e; exact hne
    · exact hj q (by omega), by omega, E⟩⟩, fun hge => Fin.of ?_⟩
  · have hb := byteAt_bound f.2 j
    rw [Int.toNat_natCast, w64 (by omega) (by omega)]
    have e3 : atF f n = byteAt f.2 j := by unfold atF; rw [← he, if_pos ⟨by omega, hlt⟩, Int.toNat_natCast]
    rw [← e3]; exact hQ _ E.w
  · have e3 : atF f n = -1 := by
      unfold atF
      rw [if_neg]
      rintro ⟨h1, h2⟩
      exact hj n.toNat (by omega) (by omega)
    rw [← e3]; exact hQ _ E.w
def doL (k10 k12 k14 k18 : Nat) (ts : List ByteArray) (X : DoX) : List (Option (Nat × AObj)) := [some (k10, .vec TY.countermandref20_Things (plains (thF X.1)) 23), some (k12, .vec TY.a_3_string (plains (txF ts)) 3), some (k14, .vec TY.countermandref20_Things (plains thZ) 23), some (k18, docO X.1.f X.2)]
theorem Do_J1 {k10 k12 k14 k18 : Nat} {ts : List ByteArray} {x : Int} {Q : Int → List Value → Heap → Prop} (E : Keep B h0 (L ++ doL k10 k12 k14 k18 ts X) h) (o : OkX X) (hQ : ∀ h', Keep B h0 L h' → Q x (thF (finV X)) h') : S_countermandref20_Do_J1 B k10 k14 k18 x h Q := by
  unfold S_countermandref20_Do_J1
  have h6 := o.s.l6
  have hd : L.length + 3 < (L ++ doL k10 k12 k14 k18 ts X).length := by rw [List.length_append]; simp [doL]
  have c23 : CellsAt B h ⟨k18, 12, none⟩ 0 ((fsOf X.1.f X.2).flatMap fcl) := by
    refine CellsAt.of_vec _ 0 (E.gM 3 rfl) fun j y hj => ?_
    have hl := (List.getElem?_eq_some_iff.1 hj).1
    refine plains_get_some ?_
    unfold docC
    rw [List.getElem?_append_left (by rw [List.length_append, filesC_len]; omega), List.getElem?_append_right (by rw [filesC_len]; omega), filesC_len, show 12 + 0 + j - X.1.f.length * 2 = j by omega]; exact hj
  have e23 : (fsOf X.1.f X.2).flatMap fcl = fl12 (finV X) := rfl
  rw [e23] at c23
  refine ⟨fl12 (finV X), rfl, c23, rfl, ?_⟩
  obtain ⟨h24, st, E1⟩ := E.vM (k := k10) (t := TY.countermandref20_Things) (nn := 23) (fs := [cT X.1 0, cT X.1 1, cT X.1 2, cT X.1 3, cT X.1 4, cT X.1 5, cT X.1 6, cT X.1 7]) (gs := fl12 X.1 ++ [lT X.1 0, lT X.1 1, lT X.1 2]) 0 rfl (fl12 (finV X)) (by simp [fl12, isOne, fT, sT]) 8 rfl (by simp [fl12])
  have E2 : Keep B h0 (L ++ [some (k10, .vec TY.countermandref20_Things (plains (thF (finV X))) 23), some (k12, .vec TY.a_3_string (plains (txF ts)) 3), some (k14, .vec TY.countermandref20_Things (plains thZ) 23), some (k18, docO X.1.f X.2)]) h24 := E1
  refine ⟨h24, st, thF (finV X), rfl, E2.allM 0 rfl, rfl, _, stores_whole (E2.gM 2 rfl) rfl (by simp [thF]) (thF_one _) (by simp [thF]), ?_⟩
  have E3 := E2.pM (o' := .vec TY.countermandref20_Things (plains (thF (finV X))) 23) 2 rfl
  exact ⟨thF (finV X), rfl, E3.allM 2 rfl, Fin.of (hQ _ E3.zM)⟩
theorem refDo_wp {a : Option Addr} {cc : Nat} {Q : Int → List Value → Heap → Prop} (E : Keep B h0 L h) (hr : ∀ h', Keep B h0 L h' → Reads B h' a 4 DeedR.cells ds) (hl : ds.length ≤ 1000) (hg : ∀ d ∈ ds, goodD d) (o : OkX (v, [])) (hQ : ∀ h', Keep B h0 L h' → Q (DoR v ds).2 (thF (finV (DoR v ds).1)) h') : C_countermandref20_Do B (thF v) (textAt v.ts 0) (textAt v.ts 1) (textAt v.ts 2) a ds.length cc h Q := by
  refine C_countermandref20_Do.of ?_
  unfold S_countermandref20_Do
  intro k10 a10 b10 h11 e11 k12 a12 b12 h13 e13 k14 a14 b14 h15 e15
  have E1 := ((E.start.nM a10 b10 e11).nM a12 b12 e13).nM a14 b14 e15
  have c16 : CellsAt B h15 ⟨k10, 8, none⟩ 0 (fl12 v) := by
    refine CellsAt.of_vec _ 0 (E1.gM 0 rfl) fun j y hj => plains_get_some ?_
    show (thF v)[8 + 0 + j]? = some y
    have hl := (List.getElem?_eq_some_iff.1 hj).1
    have : thF v = [cT v 0, cT v 1, cT v 2, cT v 3, cT v 4, cT v 5, cT v 6, cT v 7] ++ (fl12 v ++ [lT v 0, lT v 1, lT v 2]) := rfl
    rw [this, List.getElem?_append_right (by simp), List.getElem?_append_left (by simp only [List.length_cons, List.length_nil]; omega)]
    rw [← hj]; congr 1; simp
  refine ⟨fl12 v, rfl, c16, fl12 v, rfl, c16, fun k18 a18 b18 h19 e19 => ?_⟩
  have e19' : h19 = h15.set k18 (docO v.f []) := by rw [← docO_z (v := v) o.s.l6]; exact e19
  have E2 : Keep B h0 (L ++ doL k10 k12 k14 k18 v.ts (v, [])) h19 := E1.nM a18 b18 e19'
  refine ⟨fun x q m h' => ∃ j : Nat, j ≤ ds.length ∧ q = j ∧ m = ds.length - j ∧ x = (DoR v (ds.take j)).2 ∧ OkX (DoR v (ds.take j)).1 ∧ (DoR v (ds.take j)).1.1.ts = v.ts ∧ Keep B h0 (L ++ doL k10 k12 k14 k18 v.ts (DoR v (ds.take j)).1) h', ds.length, Fin.of ⟨0, by omega, rfl, rfl, rfl, o, rfl, E2⟩, ?_⟩
  clear E1 E2 e11 e13 e15 e19 e19' c16 E
  rintro _ _ _ h30 ⟨j, hj, rfl, rfl, rfl, oj, ht, E⟩
  refine ⟨fun hlt => ?_, fun hge => Fin.of ?_⟩
  · have hj' : j < ds.length := by omega
    have hx := List.getElem?_eq_getElem hj'
    have gd := hg _ (List.getElem_mem hj')
    generalize ds[j] = d at hx gd
    obtain ⟨A, f1, _, f3⟩ := hr h30 E.zM j d hx
    have hstep := DoR_take (v := v) hx
    generalize DoR v (ds.take j) = R at hstep oj ht E ⊢
    obtain ⟨X, xx⟩ := R
    replace oj : OkX X := oj
    replace ht : X.1.ts = v.ts := ht
    replace E : Keep B h0 (L ++ doL k10 k12 k14 k18 v.ts X) h30 := E
    refine ⟨A, f1, by omega, by omega, d.k, d.a, d.b, ((d.c.toNat : Nat) : Int), by rw [Int.toNat_natCast]; exact f3, fun k41 a41 b41 h42 e42 => ?_⟩
    have E1 := E.nM a41 b41 e42
    refine ⟨_, stores_whole (E1.gM 4 rfl) rfl (by simp) (by simp [isOne]) (by simp), ?_⟩
    have E2 := E1.pM (o' := .vec TY.countermandref20_Deed (plains d.cells) 4) 4 rfl
    have E3 : Keep B h0 (L ++ doL k10 k12 k14 k18 v.ts X ++ [some (k41, .vec TY.countermandref20_Deed (plains d.cells) 4)]) (h42.set k41 (.vec TY.countermandref20_Deed (plains d.cells) 4)) := by rw [List.append_assoc]; exact E2
    have c0 := E2.cM (k := k41) (v := .int .i64 d.k) 4 rfl (i := 0) rfl
    have c1 := E2.cM (k := k41) (v := .int .i64 d.a) 4 rfl (i := 1) rfl
    have c2 := E2.cM (k := k41) (v := .int .i64 d.b) 4 rfl (i := 2) rfl
    have c3 := E2.cM (k := k41) (v := .int .u8 ((d.c.toNat : Nat) : Int)) 4 rfl (i := 3) rfl
    have ok' := OkX.step oj d gd
    have fin : ∀ {x' : Int} {X' : DoX} {h1 : Heap}, doStep X d = (X', x') → X'.1.ts = X.1.ts → Keep B h0 (L ++ doL k10 k12 k14 k18 v.ts X') h1 → Fin B h1 (fun h' => ∃ m', m' < ds.length - j ∧ ∃ j' : Nat, j' ≤ ds.length ∧ IntKind.wrap .i64 ((j : Int) + 1) = j' ∧ m' = ds.length - j' ∧ x' = (DoR v (ds.take j')).2 ∧ OkX (DoR v (ds.take j')).1 ∧ (DoR v (ds.take j')).1.1.ts = v.ts ∧ Keep B h0 (L ++ doL k10 k12 k14 k18 v.ts (DoR v (ds.take j')).1) h') := fun {x' X' h1} e1 e2 E4 => by
      rw [e1] at hstep ok'
      exact Fin.of ⟨ds.length - (j + 1), by omega, j + 1, by omega, wrapS (by omega), rfl, by rw [hstep], by rw [hstep]; exact ok', by rw [hstep]; exact e2.trans ht, by rw [hstep]; exact E4⟩
    have hq3 : (L ++ doL k10 k12 k14 k18 v.ts X)[L.length + 3]? = some (some (k18, docO X.1.f X.2)) := upM 3 rfl
    have E4 := E3.pop
    have sh : ∀ {D' : DFL} {h1 : Heap}, Keep B h0 ((L ++ doL k10 k12 k14 k18 v.ts X).set (L.length + 3) (some (k18, docO X.1.f D'))) h1 → Keep B h0 (L ++ doL k10 k12 k14 k18 v.ts (X.1, D')) h1 := fun {D' h1} E => by rw [setM] at E; exact E
    have hfin := @fin
    unfold doStep at hfin
    refine ⟨d.k, c0, fun h1 => ?_, fun n0 => ?_⟩
    · have hc := gd.c (.inl h1)
      have hc' := of_decide_eq_true hc
      exact ⟨d.a, c1, by omega, by omega, _, th_cell_c (E2.gM 0 rfl) hc, hfin (if_pos h1) rfl E4⟩
    rw [if_neg n0] at hfin
    refine ⟨fun h1 => ?_, fun n1 => ?_⟩
    · have hc := gd.c (.inr h1)
      have hc' := of_decide_eq_true hc
      have hl : (plains (thF X.1))[d.a.toNat]? = some (.plain (cT X.1 d.a)) := by
        have h2 : d.a = 0 ∨ d.a = 1 ∨ d.a = 2 ∨ d.a = 3 ∨ d.a = 4 ∨ d.a = 5 ∨ d.a = 6 ∨ d.a = 7 := by omega
        rcases h2 with h2 | h2 | h2 | h2 | h2 | h2 | h2 | h2 <;> rw [h2] <;> rfl
      have es := storeH_vec (v := .int .i64 d.b) (E2.gM 0 rfl) hl
      rw [plains_set, ← th_set (t := 0) oj.c8 hc] at es
      have E5 := E4.pM (o' := .vec TY.countermandref20_Things (plains (thF (putC X.1 d.a d.b))) 23) 0 rfl
      exact ⟨d.a, c1, d.b, c2, by omega, by omega, _, by rw [addr_more, show 0 + d.a.toNat * 1 = d.a.toNat by omega]; exact es, hfin (if_pos h1) rfl E5⟩
    rw [if_neg n1] at hfin
    refine ⟨fun h1 => ?_, fun n2 => ?_⟩
    · have hc := gd.f h1
      have hc' := inR_t hc
      have cf : CellsAt B (h42.set k41 (.vec TY.countermandref20_Deed (plains d.cells) 4)) (Addr.add ⟨k18, 12, none⟩ (Int.toNat d.a * 2)) 0 [.bool (getS X.1.f X.2 d.a).1.1, .string (getS X.1.f X.2 d.a).1.2] := by
        have := doc_file (n := d.a.toNat) E3 oj.s.l6 (up_app _ hq3) (by omega)
        rw [show ((d.a.toNat : Nat) : Int) = d.a by omega] at this
        exact this
      refine ⟨d.a, c1, by omega, by omega, _, _, cf, d.b, c2, refAtG_wp (f := (getS X.1.f X.2 d.a).1) (by have := goodF_size (oj.s.good d.a); omega) fun h5 w => ⟨w.cell c1, w.cells cf, w.cell c2, hfin (if_pos h1) rfl (E4.wk w)⟩⟩
    rw [if_neg n2] at hfin
    refine ⟨fun h1 => ?_, fun n3 => ?_⟩
    · exact ⟨d.a, c1, d.b, c2, _, c3, rwrite_wp rfl E3 oj.s (up_app _ hq3) fun h5 E5 => hfin (if_pos h1) rfl (sh (by rw [List.set_append_left _ _ (List.getElem?_eq_some_iff.1 hq3).1] at E5; exact E5.pop))⟩
    rw [if_neg n3] at hfin
    refine ⟨fun h1 => ?_, fun n4 => ?_⟩
    · exact ⟨d.a, c1, rcreate_wp E3 oj.s (up_app _ hq3) fun h5 E5 => hfin (if_pos h1) rfl (sh (by rw [List.set_append_left _ _ (List.getElem?_eq_some_iff.1 hq3).1] at E5; exact E5.pop))⟩
    rw [if_neg n4] at hfin
    refine ⟨fun h1 => ?_, fun n5 => ?_⟩
    · exact ⟨d.a, c1, rremove_wp E3 oj.s (up_app _ hq3) fun h5 E5 => hfin (if_pos h1) rfl (sh (by rw [List.set_append_left _ _ (List.getElem?_eq_some_iff.1 hq3).1] at E5; exact E5.pop))⟩
    rw [if_neg n5] at hfin
    refine ⟨fun h1 => ?_, fun n6 => ?_⟩
    · exact ⟨d.a, c1, d.b, c2, rrename_wp E3 oj.s (up_app _ hq3) fun h5 E5 => hfin (if_pos h1) rfl (sh (by rw [List.set_append_left _ _ (List.getElem?_eq_some_iff.1 hq3).1] at E5; exact E5.pop))⟩
    rw [if_neg n6] at hfin
    refine ⟨fun h1 => ?_, fun n7 => ?_⟩
    · exact ⟨d.a, c1, d.b, c2, rcut_wp E3 oj.s (up_app _ hq3) fun h5 E5 => hfin (if_pos h1) rfl (sh (by rw [List.set_append_left _ _ (List.getElem?_eq_some_iff.1 hq3).1] at E5; exact E5.pop))⟩
    rw [if_neg n7] at hfin
    refine ⟨fun h1 => ?_, fun n8 => hfin (if_neg n8) rfl E4⟩
    have hi := gd.l h1
    rw [if_pos h1] at hfin
    have tc := tx_cell (B := B) (E2.gM 1 rfl) hi
    rw [← ht] at tc
    have pc := th_cell_l (B := B) (E2.gM 0 rfl) hi
    have hp := oj.k.place d.a
    have hs := oj.k.size d.a
    refine ⟨d.a, c1, by omega, by omega, _, pc, d.a, c1, by omega, by omega, _, tc, fun hlt => ?_, fun hge => hfin (if_neg hge) rfl E4⟩
    refine ⟨d.a, c1, by omega, by omega, _, tc, d.a, c1, by omega, by omega, _, pc, hp.1, hlt, d.a, c1, by omega, by omega, _, pc, by omega, by omega, ?_⟩
    have hb := byteAt_bound (textAt X.1.ts d.a) (cellAt_int X.1.l d.a).1.toNat
    rw [w64 (n := (cellAt_int X.1.l d.a).1 + 1) (by omega) (by omega), w64 (n := byteAt (textAt X.1.ts d.a) (cellAt_int X.1.l d.a).1.toNat) (by omega) (by omega)]
    have hl : (plains (thF X.1))[20 + d.a.toNat]? = some (.plain (lT X.1 d.a)) := by
      have h2 : d.a = 0 ∨ d.a = 1 ∨ d.a = 2 := by omega
      rcases h2 with h2 | h2 | h2 <;> rw [h2] <;> rfl
    have es := storeH_vec (v := .int .i64 ((cellAt_int X.1.l d.a).1 + 1)) (E2.gM 0 rfl) hl
    rw [plains_set, ← thl_set oj.k.l3 hi] at es
    have E5 := E4.pM (o' := .vec TY.countermandref20_Things (plains (thF (putP X.1 d.a ((cellAt_int X.1.l d.a).1 + 1)))) 23) 0 rfl
    exact ⟨_, by rw [addr_more, show 20 + d.a.toNat * 1 = 20 + d.a.toNat by omega]; exact es, hfin (if_pos hlt) rfl E5⟩
  · have hjn : j = ds.length := by omega
    subst hjn
    rw [List.take_length] at E oj ⊢
    exact Do_J1 E oj hQ
end
end Go.Proofs.YtgldgabefiialaaGreat.H
namespace Go.Proofs.YtgldgabefiialaaGreat.H
open Go Go.RowKit
set_option linter.unusedVariables false
set_option maxRecDepth 100000
structure RelA (T : VV) (s : AV) (X : DoX) : Prop where
  c : ∀ i, inC i = true → (cellAt_int X.1.c i).1 = (atD s.s.d i).getD (cellAt_int T.c i).1
  f : ∀ i, (getS X.1.f X.2 i).1 = (getS T.f s.s.f i).1
  l : ∀ i, 0 ≤ i ∧ i < 3 → (cellAt_int X.1.l i).1 = (cellAt_int T.l i).1 + s.s.cr i
  p : ∀ i, 0 ≤ i ∧ i < 3 → (cellAt_int T.l i).1 + s.s.cr i ≤ (textAt T.ts i).size
  t : X.1.ts = T.ts
structure AgrE (v T : VV) (e : RE) : Prop where
  c : e.1 = 0 → (cellAt_int T.c e.2.1).1 = (cellAt_int v.c e.2.1).1
  f : e.1 = 1 → (fileAt T.f e.2.1).1 = (fileAt v.f e.2.1).1
  l : e.1 = 2 → (cellAt_int T.l e.2.1).1 = (cellAt_int v.l e.2.1).1
def Agr (v T : VV) (rs : List RE) : Prop := ∀ e ∈ rs, AgrE v T e
def Ext (v T : VV) : Prop := ∀ i, 0 ≤ i ∧ i < 3 → (textAt v.ts i).size ≤ (textAt T.ts i).size
theorem RelA.s {T : VV} {s s' : AV} {X : DoX} (R : RelA T s X) (e : s'.s = s.s) : RelA T s' X := ⟨by rw [e]; exact R.c, by rw [e]; exact R.f, by rw [e]; exact R.l, by rw [e]; exact R.p, R.t⟩
theorem fE_mem {rs : List RE} {k i w : Int} (h : fE rs k i = some w) : ∃ e ∈ rs, e.1 = k ∧ e.2.1 = i ∧ e.2.2 = w := by
  unfold fE at h
  cases hf : rs.find? (fun e => decide (e.1 = k ∧ e.2.1 = i)) with
  | none => rw [hf] at h; cases h
  | some e =>
    rw [hf] at h
    have h1 := List.find?_some hf
    simp only [decide_eq_true_eq] at h1
    simp only [Option.map_some, Option.some.injEq] at h
    exact ⟨e, List.mem_of_find?_eq_some hf, h1.1, h1.2, h⟩
theorem note_sub {v : VV} {s : AV} {k i : Int} : ∀ e ∈ s.rs, e ∈ (noteS v s k i).rs := by
  intro e he
  show e ∈ (noteA v s.rs s.st k i).2.1
  unfold noteA; split
  · exact he
  · split
    · first | exact List.mem_append_left _ he | (split <;> first | exact List.mem_append_left _ he | exact he)
    · exact List.mem_append_left _ he
theorem note_has {v : VV} {s : AV} {k i : Int} (h : noteE v s k i = 0) : ∃ e ∈ (noteS v s k i).rs, e.1 = k ∧ e.2.1 = i := by
  unfold noteE at h
  have ht : (noteA v s.rs s.st k i).1 = true := by
    cases hb : (noteA v s.rs s.st k i).1 with
    | true => rfl
    | false => rw [hb] at h; exact absurd (show (9 : Int) = 0 from h) (by decide)
  show ∃ e ∈ (noteA v s.rs s.st k i).2.1, _
  cases hf : fE s.rs k i with
  | some w =>
    obtain ⟨e, h1, h2, h3, _⟩ := fE_mem hf
    refine ⟨e, ?_, h2, h3⟩
    unfold noteA; rw [hf]; exact h1
  | none =>
    unfold noteA at ht ⊢
    rw [hf] at ht ⊢
    simp only at ht ⊢
    by_cases h1 : verOf v k i > s.st
    · rw [if_pos h1] at ht ⊢
      by_cases h2 : vld v s.rs = true
      · rw [if_pos h2]; exact ⟨_, List.mem_append_right _ (List.mem_singleton.2 rfl), rfl, rfl⟩
      · rw [if_neg h2] at ht; cases ht
    · rw [if_neg h1]; exact ⟨_, List.mem_append_right _ (List.mem_singleton.2 rfl), rfl, rfl⟩
theorem touch_sub {v : VV} {s : AV} {i : Int} : ∀ e ∈ s.rs, e ∈ (touchS v s i).rs := by
  intro e he
  unfold touchS; split
  · split
    · exact he
    · exact note_sub e he
  · exact he
theorem touch_agr {v T : VV} {s : AV} {i : Int} (h : touchE v s i = 0) (A : Agr v T (touchS v s i).rs) : (getS T.f s.s.f i).1 = (getS v.f s.s.f i).1 := by
  have hr := touchE_in h
  cases hd : atD s.s.f i with
  | some f => rw [getS_some hd, getS_some hd]
  | none =>
    have h2 : ¬ (getS v.f s.s.f i).2 = true := by rw [getS_none hd]; exact Bool.false_ne_true
    unfold touchE at h
    rw [if_pos hr, if_neg h2] at h
    have hs : touchS v s i = noteS v s 1 i := by unfold touchS; rw [if_pos hr, if_neg h2]
    rw [hs] at A
    obtain ⟨e, h3, h4, h5⟩ := note_has h
    have := (A e h3).f h4
    rw [h5] at this
    rw [getS_none hd, getS_none hd]
    exact this
theorem getS_putT {l l' : FL} {d : DFL} {n m : Int} {f : FileS} (h : (getS l' d n).1 = (getS l d n).1) : (getS l' (putS l d n f) m).1 = if m = n then f else (getS l' d m).1 := by
  unfold putS
  split
  · rename_i e
    by_cases hm : m = n
    · rw [if_pos hm, hm, h, e]
    · rw [if_neg hm]
  · rw [getS_ins]
    by_cases hm : m = n
    · rw [if_pos hm, if_pos hm]
    · rw [if_neg hm, if_neg hm]
theorem getS_upT {l l' : FL} {d : DFL} {n m : Int} {f : FileS} (hr : inR n = true) (h : (getS l' d n).1 = (getS l d n).1) : (getS l' (upS l d n f) m).1 = if m = n then f else (getS l' d m).1 := by
  unfold upS; rw [if_pos hr]; exact getS_putT h
theorem getS_renT {l l' : FL} {d : DFL} {a b m : Int} (ha : (getS l' d a).1 = (getS l d a).1) (hb : (getS l' d b).1 = (getS l d b).1) : (getS l' (renS l d a b) m).1 = if (inR a && inR b && (getS l' d a).1.1 && decide (a ≠ b)) = true then (if m = a then f0 else if m = b then (getS l' d a).1 else (getS l' d m).1) else (getS l' d m).1 := by
  unfold renS
  rw [ha]
  split
  · rename_i h
    simp only [Bool.and_eq_true, decide_eq_true_eq] at h
    have h1 : (getS l' (putS l d b (getS l d a).1) a).1 = (getS l (putS l d b (getS l d a).1) a).1 := by
      rw [getS_putT hb, getS_putT rfl, if_neg h.2, if_neg h.2, ha]
    rw [getS_putT h1, getS_putT hb]
  · rfl
theorem good_of {v : VV} {s : AV} {d : DeedR} (h : (doesA v s d).2.2 = 0) : goodD d := by
  refine ⟨fun hk => ?_, fun hk => ?_, fun hk => ?_⟩
  · cases hc : inC d.a with
    | true => rfl
    | false =>
      exfalso
      unfold doesA at h
      rcases hk with hk | hk
      · rw [if_pos hk] at h; unfold loadA at h; rw [hc] at h; exact absurd (show (1 : Int) = 0 from h) (by decide)
      · rw [if_neg (by omega), if_pos hk] at h; unfold storeA at h; rw [hc] at h; exact absurd (show (1 : Int) = 0 from h) (by decide)
  · unfold doesA at h
    rw [if_neg (by omega), if_neg (by omega), if_pos hk] at h
    unfold readA at h
    by_cases ht : touchE v s d.a = 0
    · exact touchE_in ht
    · rw [if_neg ht] at h; exact absurd h ht
  · by_cases hc : 0 ≤ d.a ∧ d.a < 3
    · exact hc
    · exfalso
      unfold doesA at h
      rw [if_neg (by omega), if_neg (by omega), if_neg (by omega), if_neg (by omega), if_neg (by omega), if_neg (by omega), if_neg (by omega), if_neg (by omega), if_pos hk] at h
      unfold recvA at h
      rw [if_neg hc] at h
      exact absurd (show (1 : Int) = 0 from h) (by decide)
theorem RelA.wS {v T : VV} {s : AV} {X : DoX} {i : Int} {g : FileS → FileS} (R : RelA T s X) (h : (pr2 (wS v s i fun d => upS v.f d i (g (getS v.f d i).1))).2.2 = 0) (A : Agr v T (wS v s i fun d => upS v.f d i (g (getS v.f d i).1)).1.rs) : RelA T (wS v s i fun d => upS v.f d i (g (getS v.f d i).1)).1 (X.1, upS X.1.f X.2 i (g (getS X.1.f X.2 i).1)) := by
  have ht : touchE v s i = 0 := by
    by_cases ht : touchE v s i = 0
    · exact ht
    · exfalso
      unfold pr2 Go.Proofs.YtgldgabefiialaaGreat.H.wS at h
      rw [if_neg ht] at h
      exact ht h
  have hr := touchE_in ht
  unfold Go.Proofs.YtgldgabefiialaaGreat.H.wS at A ⊢
  rw [if_pos ht] at A ⊢
  have ha := touch_agr ht A
  obtain ⟨es, _⟩ := touchS_s v s i
  have R' := R.s es
  refine ⟨R'.c, fun m => ?_, R'.l, R'.p, R.t⟩
  show (getS X.1.f (upS X.1.f X.2 i _) m).1 = (getS T.f (upS v.f s.s.f i _) m).1
  rw [getS_upT hr rfl, getS_upT hr ha, R.f i, ha]
  split
  · rfl
  · exact R.f m
theorem RelA.step {v T : VV} {s : AV} {X : DoX} {d : DeedR} (R : RelA T s X) (o : OkX X) (h : (doesA v s d).2.2 = 0) (A : Agr v T (doesA v s d).1.rs) (x : Ext v T) : RelA T (doesA v s d).1 (doStep X d).1 := by
  have gd := good_of h
  unfold doesA at h A ⊢
  unfold doStep
  by_cases h0 : d.k = 0
  · simp only [if_pos h0] at h A ⊢
    refine R.s ?_
    unfold loadA; split
    · split <;> rfl
    · rfl
  simp only [if_neg h0] at h A ⊢
  by_cases h1 : d.k = 1
  · simp only [if_pos h1] at h A ⊢
    have hc := gd.c (.inr h1)
    have e : (pr2 (storeA s d.a d.b)).1 = { s with s := { s.s with d := insD s.s.d d.a d.b } } := by unfold storeA; rw [if_pos hc]; rfl
    rw [e]
    refine ⟨fun i hi => ?_, R.f, R.l, R.p, R.t⟩
    show (cellAt_int (X.1.c.set d.a.toNat (d.b, 0)) i).1 = (atD (insD s.s.d d.a d.b) i).getD _
    rw [ver_set (v := X.1) (f := []) (ts := []) (l := []) (t' := 0) o.c8 hc, atD_ins]
    split
    · rfl
    · exact R.c i hi
  simp only [if_neg h1] at h A ⊢
  by_cases h2 : d.k = 2
  · simp only [if_pos h2] at h A ⊢
    refine R.s ?_
    unfold readA; split <;> exact (touchS_s v s _).1
  simp only [if_neg h2] at h A ⊢
  by_cases h3 : d.k = 3
  · simp only [if_pos h3] at h A ⊢
    exact R.wS (g := fun f => putF f d.b d.c) h A
  simp only [if_neg h3] at h A ⊢
  by_cases h4 : d.k = 4
  · simp only [if_pos h4] at h A ⊢
    exact R.wS (g := fun f => (true, f.2)) h A
  simp only [if_neg h4] at h A ⊢
  by_cases h5 : d.k = 5
  · simp only [if_pos h5] at h A ⊢
    exact R.wS (g := fun f => f0) h A
  simp only [if_neg h5] at h A ⊢
  by_cases h6 : d.k = 6
  · simp only [if_pos h6] at h A ⊢
    unfold pr2 renameA at h A ⊢
    by_cases hb : inR d.b = true
    · simp only [if_pos hb] at h A ⊢
      by_cases hta : touchE v s d.a = 0
      · simp only [if_pos hta] at h A ⊢
        obtain ⟨es, _⟩ := touchS_s v s d.a
        have htb : touchE v (touchS v s d.a) d.b = 0 := by
          by_cases htb : touchE v (touchS v s d.a) d.b = 0
          · exact htb
          · exfalso
            unfold Go.Proofs.YtgldgabefiialaaGreat.H.wS at h
            rw [if_neg htb] at h
            exact htb h
        unfold Go.Proofs.YtgldgabefiialaaGreat.H.wS at A ⊢
        simp only [if_pos htb] at A ⊢
        have a1 := touch_agr hta (T := T) fun e he => A e (touch_sub e he)
        have a2 := touch_agr htb A
        rw [es] at a2
        obtain ⟨es2, _⟩ := touchS_s v (touchS v s d.a) d.b
        have R' := (R.s es).s es2
        refine ⟨R'.c, fun m => ?_, R'.l, R'.p, R.t⟩
        show (getS X.1.f (renS X.1.f X.2 d.a d.b) m).1 = (getS T.f (renS v.f (touchS v s d.a).s.f d.a d.b) m).1
        rw [es, getS_renT rfl rfl, getS_renT a1 a2, R.f d.a, R.f m]
      · exfalso
        simp only [if_neg hta] at h
        exact hta h
    · exfalso
      simp only [if_neg hb] at h
      exact absurd (show (1 : Int) = 0 from h) (by decide)
  simp only [if_neg h6] at h A ⊢
  by_cases h7 : d.k = 7
  · simp only [if_pos h7] at h A ⊢
    exact R.wS (g := fun f => cutF f d.b) h A
  simp only [if_neg h7] at h A ⊢
  by_cases h8 : d.k = 8
  · simp only [if_pos h8] at h A ⊢
    have hi := gd.l h8
    unfold recvA at h A ⊢
    rw [if_pos hi] at h A ⊢
    by_cases hn : noteE v s 2 d.a = 0
    · rw [if_pos hn] at h A ⊢
      by_cases hb : atOf v.ts d.a ((cellAt_int v.l d.a).1 + s.s.cr d.a) < 0
      · rw [if_pos hb] at h; exact absurd (show (10 : Int) = 0 from h) (by decide)
      · rw [if_neg hb] at A ⊢
        obtain ⟨e, e1, e2, e3⟩ := note_has hn
        have hl := (A e e1).l e2
        rw [e3] at hl
        have hx := x d.a hi
        have hlt : (cellAt_int v.l d.a).1 + s.s.cr d.a < (textAt v.ts d.a).size := by
          unfold atOf at hb; split at hb
          · omega
          · omega
        have hp := R.l d.a hi
        rw [R.t, if_pos (by omega)]
        refine ⟨?_, ?_, fun i hi' => ?_, fun i hi' => ?_, R.t⟩
        · have := (StV.step_d s.s d.a).1
          show ∀ i, _ → _ = (atD (s.s.step d.a).d i).getD _
          rw [this]; exact R.c
        · have := (StV.step_d s.s d.a).2
          show ∀ i, _ = (getS T.f (s.s.step d.a).f i).1
          rw [this]; exact R.f
        · show (cellAt_int (X.1.l.set d.a.toNat ((cellAt_int X.1.l d.a).1 + 1, 0)) i).1 = _ + (s.s.step d.a).cr i
          rw [cellAt_int_set hi.1 (by rw [o.k.l3]; omega), StV.step_cr _ hi]
          split
          · rename_i e; rw [e]; simp only; omega
          · exact R.l i hi'
        · show _ + (s.s.step d.a).cr i ≤ _
          rw [StV.step_cr _ hi]
          split
          · rename_i e; rw [e]; omega
          · exact R.p i hi'
    · rw [if_neg hn] at h; exact absurd h hn
  simp only [if_neg h8] at h
  exact absurd (show (1 : Int) = 0 from h) (by decide)
end Go.Proofs.YtgldgabefiialaaGreat.H
namespace Go.Proofs.YtgldgabefiialaaGreat.H
open Go Go.RowKit
set_option linter.unusedVariables false
set_option maxRecDepth 100000
theorem atD_consG {W : Type} {x : Int × W} {d : List (Int × W)} {i : Int} : atD (x :: d) i = if x.1 = i then some x.2 else atD d i := by
  unfold atD
  rw [List.find?_cons]
  by_cases h : x.1 = i
  · have : (x.1 == i) = true := by simpa using h
    rw [this, if_pos h]; rfl
  · have : (x.1 == i) = false := by simpa using h
    rw [this, if_neg h]
theorem atD_memG {W : Type} {d : List (Int × W)} {n : Int} {f : W} (h : atD d n = some f) : ∃ x ∈ d, x.1 = n := by
  induction d with
  | nil => cases h
  | cons x d ih =>
    rw [atD_consG] at h
    by_cases e : x.1 = n
    · exact ⟨x, by simp, e⟩
    · rw [if_neg e] at h
      obtain ⟨y, h1, h2⟩ := ih h
      exact ⟨y, by simp [h1], h2⟩
theorem apC_at {t i : Int} : ∀ (d c : List (Int × Int)), SortD d → (∀ x ∈ d, 0 ≤ x.1 ∧ x.1 < 8) → c.length = 8 → cellAt_int (apC t c d) i = match atD d i with | some x => (x, t) | none => cellAt_int c i := by
  intro d
  induction d with
  | nil => intro c _ _ _; rfl
  | cons x d ih =>
    intro c hs hk hc
    obtain ⟨s1, s2⟩ := List.pairwise_cons.1 hs
    have hx := hk x (by simp)
    have := ih (c.set x.1.toNat (x.2, t)) s2 (fun y hy => hk y (by simp [hy])) (by rw [List.length_set]; exact hc)
    show cellAt_int (apC t (c.set x.1.toNat (x.2, t)) d) i = _
    rw [this, atD_consG]
    by_cases e : x.1 = i
    · rw [if_pos e]
      have hn : atD d i = none := by
        cases hd : atD d i with
        | none => rfl
        | some y =>
          obtain ⟨z, h1, h2⟩ := atD_memG hd
          have := s1 z h1
          omega
      rw [hn]
      simp only
      rw [cellAt_int_set hx.1 (by omega), if_pos e.symm]
    · rw [if_neg e]
      cases hd : atD d i with
      | some y => rfl
      | none => simp only; rw [cellAt_int_set hx.1 (by omega), if_neg (fun h => e h.symm)]
theorem landN_at {t : Int} {ts : List ByteArray} {c : StV} {l : List (Int × Int)} (k : FeedOk ts l) (hc : ∀ i, 0 ≤ c.cr i) (hp : ∀ i, 0 ≤ i ∧ i < 3 → (cellAt_int l i).1 + c.cr i ≤ (textAt ts i).size) : ∀ j : Nat, j ≤ 3 → ∀ i : Int, 0 ≤ i ∧ i < 3 → cellAt_int (landN t ts c l j) i = if i < j ∧ 0 < c.cr i then ((cellAt_int l i).1 + c.cr i, t) else cellAt_int l i := by
  intro j
  induction j with
  | zero => intro _ i hi; rw [if_neg (by omega)]; rfl
  | succ j ih =>
    intro hj i hi
    have kj := k.land (t := t) (c := c) j
    have hj3 : 0 ≤ ((j : Nat) : Int) ∧ ((j : Nat) : Int) < 3 := by omega
    have ej := ih (by omega) (j : Nat) hj3
    rw [if_neg (by omega)] at ej
    rw [landN]
    by_cases h0 : 0 < c.cr (j : Nat)
    · rw [if_pos h0]
      have hb : takeB ts (landN t ts c l j) (j : Nat) ((cellAt_int (landN t ts c l j) (j : Nat)).1 + c.cr (j : Nat)) = true := by
        unfold takeB
        rw [decide_eq_true_eq, ej]
        have := hp (j : Nat) hj3
        exact ⟨hj3.1, hj3.2, by omega, this⟩
      unfold takeL
      rw [if_pos hb, cellAt_int_set hj3.1 (by rw [kj.l3]; omega), ej]
      by_cases e : i = (j : Nat)
      · rw [if_pos e, e, if_pos ⟨by omega, h0⟩]
      · rw [if_neg e, ih (by omega) i hi]
        by_cases h1 : i < (j : Nat) ∧ 0 < c.cr i
        · rw [if_pos h1, if_pos ⟨by omega, h1.2⟩]
        · rw [if_neg h1, if_neg (by omega)]
    · rw [if_neg h0, ih (by omega) i hi]
      by_cases e : i = (j : Nat)
      · rw [if_neg (by omega), if_neg (by rw [e]; omega)]
      · by_cases h1 : i < (j : Nat) ∧ 0 < c.cr i
        · rw [if_pos h1, if_pos ⟨by omega, h1.2⟩]
        · rw [if_neg h1, if_neg (by omega)]
theorem landN_ver {t : Int} {ts : List ByteArray} {c : StV} {l : List (Int × Int)} (k : FeedOk ts l) : ∀ j : Nat, j ≤ 3 → ∀ i : Int, cellAt_int (landN t ts c l j) i = cellAt_int l i ∨ (cellAt_int (landN t ts c l j) i).2 = t := by
  intro j
  induction j with
  | zero => intro _ i; exact .inl rfl
  | succ j ih =>
    intro hj i
    have kj := k.land (t := t) (c := c) j
    rw [landN]
    split
    · unfold takeL
      split
      · rw [cellAt_int_set (by omega) (by rw [kj.l3]; omega)]
        split
        · exact .inr rfl
        · exact ih (by omega) i
      · exact ih (by omega) i
    · exact ih (by omega) i
theorem RelA.land {V : VI} {v : VV} {s : AV} {X : DoX} (R : RelA v s X) (a : AOk v s) (o : VOk V v) : thF (landV v s) = thF (finV X) := by
  have hc : ∀ i, inC i = true → cT (landV v s) i = cT (finV X) i := fun i hi => by
    show Value.int .i64 (cellAt_int (apC (v.t + 1) v.c s.s.d) i).1 = .int .i64 (cellAt_int X.1.c i).1
    rw [R.c i hi, apC_at s.s.d v.c a.sd a.dk o.c8]
    cases atD s.s.d i <;> rfl
  have hf : ∀ i, (fileAt (landV v s).f i).1 = (getS v.f s.s.f i).1 := fun i => by
    show (fileAt (apD (v.t + 1) v.f s.s.f) i).1 = _
    rw [apD_at s.s.f v.f a.so]
    cases hd : atD s.s.f i with
    | some f => rw [getS_some hd]
    | none => rw [getS_none hd]
  have hl : ∀ i, 0 ≤ i ∧ i < 3 → lT (landV v s) i = lT (finV X) i := fun i hi => by
    show Value.int .i64 (cellAt_int (landN (v.t + 1) v.ts s.s v.l 3) i).1 = .int .i64 (cellAt_int X.1.l i).1
    rw [R.l i hi, landN_at o.k (fun i => (a.cr i).1) R.p 3 (by omega) i hi]
    have := (a.cr i).1
    split
    · rfl
    · congr 1; omega
  have hb : ∀ i, fT (landV v s) i = .bool (getS X.1.f X.2 i).1.1 := fun i => by unfold fT; rw [hf, R.f]
  have hs : ∀ i, sT (landV v s) i = .string (getS X.1.f X.2 i).1.2 := fun i => by unfold sT; rw [hf, R.f]
  unfold thF
  rw [hc 0 rfl, hc 1 rfl, hc 2 rfl, hc 3 rfl, hc 4 rfl, hc 5 rfl, hc 6 rfl, hc 7 rfl, hl 0 (by decide), hl 1 (by decide), hl 2 (by decide), hb, hb, hb, hb, hb, hb, hs, hs, hs, hs, hs, hs]
  rfl
structure SameV (v v' : VV) (k i : Int) : Prop where
  ver : verOf v' k i = verOf v k i
  c : k = 0 → (cellAt_int v'.c i).1 = (cellAt_int v.c i).1
  f : k = 1 → (fileAt v'.f i).1 = (fileAt v.f i).1
  l : k = 2 → (cellAt_int v'.l i).1 = (cellAt_int v.l i).1
def VerOk (v : VV) : Prop := ∀ k i, verOf v k i ≤ v.t
structure VP (v : VV) : Prop where
  c8 : v.c.length = 8
  f : TomeOk v.f
  k : FeedOk v.ts v.l
theorem land_ver {v : VV} {s : AV} (a : AOk v s) (o : VP v) (k i : Int) : verOf (landV v s) k i = v.t + 1 ∨ SameV v (landV v s) k i := by
  by_cases h0 : k = 0
  · subst h0
    have h := apC_at (t := v.t + 1) (i := i) s.s.d v.c a.sd a.dk o.c8
    have e : cellAt_int (landV v s).c i = _ := h
    cases hd : atD s.s.d i with
    | some x => rw [hd] at e; exact .inl (by show (cellAt_int (landV v s).c i).2 = _; rw [e])
    | none => rw [hd] at e; exact .inr ⟨by show (cellAt_int (landV v s).c i).2 = (cellAt_int v.c i).2; rw [e], fun _ => by rw [e], fun e => absurd e (by decide), fun e => absurd e (by decide)⟩
  by_cases h1 : k = 1
  · subst h1
    have h := apD_at (ver := v.t + 1) (i := i) s.s.f v.f a.so
    have e : fileAt (landV v s).f i = _ := h
    cases hd : atD s.s.f i with
    | some x => rw [hd] at e; exact .inl (by show (fileAt (landV v s).f i).2 = _; rw [e])
    | none => rw [hd] at e; exact .inr ⟨by show (fileAt (landV v s).f i).2 = (fileAt v.f i).2; rw [e], fun e => absurd e (by decide), fun _ => by rw [e], fun e => absurd e (by decide)⟩
  by_cases h2 : k = 2
  · subst h2
    have h := landN_ver (t := v.t + 1) (c := s.s) o.k 3 (by omega) i
    rcases h with h | h
    · have e : cellAt_int (landV v s).l i = cellAt_int v.l i := h
      exact .inr ⟨by show (cellAt_int (landV v s).l i).2 = (cellAt_int v.l i).2; rw [e], fun e => absurd e (by decide), fun e => absurd e (by decide), fun _ => by rw [e]⟩
    · exact .inl h
  · refine .inr ⟨?_, fun e => absurd e h0, fun e => absurd e h1, fun e => absurd e h2⟩
    unfold verOf
    rw [if_neg h0, if_neg h0, if_neg h1, if_neg h1, if_neg h2, if_neg h2]
theorem SameV.refl (v : VV) (k i : Int) : SameV v v k i := ⟨rfl, fun _ => rfl, fun _ => rfl, fun _ => rfl⟩
theorem vld_iff {v : VV} {rs : List RE} : vld v rs = true ↔ ∀ e ∈ rs, verOf v e.1 e.2.1 = e.2.2 := by
  unfold vld; rw [List.all_eq_true]; simp
structure Grow (v : VV) (rs rs' : List RE) : Prop where
  a : ∀ e ∈ rs, e ∈ rs'
  b : ∀ e ∈ rs', e ∈ rs ∨ e.2.2 = verOf v e.1 e.2.1
theorem Grow.refl (v : VV) (rs : List RE) : Grow v rs rs := ⟨fun e h => h, fun e h => .inl h⟩
theorem Grow.trans {v : VV} {a b c : List RE} (h : Grow v a b) (g : Grow v b c) : Grow v a c := ⟨fun e he => g.a e (h.a e he), fun e he => (g.b e he).elim (h.b e) .inr⟩
theorem Grow.note {v : VV} {s : AV} {k i : Int} : Grow v s.rs (noteS v s k i).rs := by
  refine ⟨note_sub, fun e he => ?_⟩
  replace he : e ∈ (noteA v s.rs s.st k i).2.1 := he
  have h1 : ∀ {e : RE}, e ∈ s.rs ++ [(k, i, verOf v k i)] → e ∈ s.rs ∨ e.2.2 = verOf v e.1 e.2.1 := fun {e} he => by
    rcases List.mem_append.1 he with he | he
    · exact .inl he
    · simp only [List.mem_singleton] at he; subst he; exact .inr rfl
  cases hf : fE s.rs k i with
  | some w => unfold noteA at he; rw [hf] at he; exact .inl he
  | none =>
    unfold noteA at he; rw [hf] at he
    simp only at he
    by_cases hv : verOf v k i > s.st
    · rw [if_pos hv] at he
      by_cases h2 : vld v s.rs = true
      · rw [if_pos h2] at he; exact h1 he
      · rw [if_neg h2] at he; exact .inl he
    · rw [if_neg hv] at he; exact h1 he
theorem Grow.touch {v : VV} {s : AV} {i : Int} : Grow v s.rs (touchS v s i).rs := by
  unfold touchS; split
  · split
    · exact .refl _ _
    · exact .note
  · exact .refl _ _
theorem Grow.w {v : VV} {s : AV} {i : Int} {F : DFL → DFL} : Grow v s.rs (wS v s i F).1.rs := by
  unfold wS; split <;> exact .touch
theorem Grow.does {v : VV} {s : AV} {d : DeedR} : Grow v s.rs (doesA v s d).1.rs := by
  unfold doesA
  split
  · unfold loadA; split
    · split
      · exact .refl _ _
      · exact .note
    · exact .refl _ _
  split
  · unfold storeA; split <;> exact .refl _ _
  split
  · unfold readA; split <;> exact .touch
  split
  · exact .w
  split
  · exact .w
  split
  · exact .w
  split
  · unfold renameA; split
    · split
      · exact Grow.touch.trans .w
      · exact .touch
    · exact .refl _ _
  split
  · exact .w
  split
  · unfold recvA; split
    · split
      · split <;> exact .note
      · exact .note
    · exact .refl _ _
  · exact .refl _ _
theorem wS_no {v : VV} {s : AV} {i : Int} {F : DFL → DFL} (h : (wS v s i F).2 ≠ 0) : (wS v s i F).1.s = s.s := by
  unfold wS at h ⊢
  by_cases ht : touchE v s i = 0
  · rw [if_pos ht] at h; exact absurd rfl h
  · rw [if_neg ht]; exact (touchS_s v s i).1
theorem does_no {v : VV} {s : AV} {d : DeedR} (h : (doesA v s d).2.2 ≠ 0) : (doesA v s d).1.s = s.s := by
  unfold doesA at h ⊢
  split at h
  · rename_i h0
    rw [if_pos h0]
    unfold loadA; split
    · split <;> rfl
    · rfl
  rename_i h0; rw [if_neg h0]
  split at h
  · rename_i h0
    rw [if_pos h0]
    unfold storeA at h ⊢
    by_cases hc : inC d.a = true
    · rw [if_pos hc] at h; exact absurd rfl h
    · rw [if_neg hc]; rfl
  rename_i h0; rw [if_neg h0]
  split at h
  · rename_i h0
    rw [if_pos h0]
    unfold readA; split <;> exact (touchS_s v s _).1
  rename_i h0; rw [if_neg h0]
  split at h
  · rename_i h0; rw [if_pos h0]; exact wS_no h
  rename_i h0; rw [if_neg h0]
  split at h
  · rename_i h0; rw [if_pos h0]; exact wS_no h
  rename_i h0; rw [if_neg h0]
  split at h
  · rename_i h0; rw [if_pos h0]; exact wS_no h
  rename_i h0; rw [if_neg h0]
  split at h
  · rename_i h0
    rw [if_pos h0]
    unfold renameA at h ⊢
    by_cases hb : inR d.b = true
    · rw [if_pos hb] at h ⊢
      by_cases ht : touchE v s d.a = 0
      · rw [if_pos ht] at h ⊢; exact (wS_no h).trans (touchS_s v s _).1
      · rw [if_neg ht]; exact (touchS_s v s _).1
    · rw [if_neg hb]; rfl
  rename_i h0; rw [if_neg h0]
  split at h
  · rename_i h0; rw [if_pos h0]; exact wS_no h
  rename_i h0; rw [if_neg h0]
  split at h
  · rename_i h0
    rw [if_pos h0]
    unfold recvA at h ⊢
    by_cases hi : 0 ≤ d.a ∧ d.a < 3
    · rw [if_pos hi] at h ⊢
      by_cases hn : noteE v s 2 d.a = 0
      · rw [if_pos hn] at h ⊢
        by_cases hb : atOf v.ts d.a ((cellAt_int v.l d.a).1 + s.s.cr d.a) < 0
        · rw [if_pos hb]; rfl
        · rw [if_neg hb] at h; exact absurd rfl h
      · rw [if_neg hn]; rfl
    · rw [if_neg hi]
  rename_i h0; rw [if_neg h0]
end Go.Proofs.YtgldgabefiialaaGreat.H
namespace Go.Proofs.YtgldgabefiialaaGreat.H
open Go Go.RowKit
set_option linter.unusedVariables false
set_option maxRecDepth 100000
theorem AOk.w {v : VV} {s : AV} {i : Int} {F : DFL → DFL} (a : AOk v s) (h : SOk v.f (F s.s.f)) : AOk v (wS v s i F).1 := by
  unfold wS
  obtain ⟨es, _⟩ := touchS_s v s i
  split
  · exact ⟨h, by show SortD (touchS v s i).s.d; rw [es]; exact a.sd, by show ∀ x ∈ (touchS v s i).s.d, _; rw [es]; exact a.dk, fun j => by
      have : ((touchS v s i).wf (F s.s.f)).s.cr j = s.s.cr j := by show (touchS v s i).s.cr j = _; rw [es]
      rw [this]; exact a.cr j⟩
  · exact a.re es
theorem AOk.does {v : VV} {s : AV} {d : DeedR} (a : AOk v s) (o : VP v) : AOk v (doesA v s d).1 := by
  unfold doesA
  split
  · unfold loadA; split
    · split
      · exact a
      · exact a.re rfl
    · exact a
  split
  · unfold storeA; split
    · rename_i h; exact a.store h
    · exact a
  split
  · unfold readA; split <;> exact a.re (touchS_s v s _).1
  split
  · exact a.w (a.so.up (goodF_put (a.so.good _) _ _))
  split
  · exact a.w (a.so.up (f := (true, (getS v.f s.s.f d.a).1.2)) (goodF_make (f := (getS v.f s.s.f d.a).1) (a.so.good _)))
  split
  · exact a.w (a.so.up rfl)
  split
  · unfold renameA; split
    · split
      · have es := (touchS_s v s d.a).1
        have a2 : AOk v (touchS v s d.a) := a.re es
        exact a2.w (a2.so.ren _ _)
      · exact a.re (touchS_s v s _).1
    · exact a
  split
  · exact a.w (a.so.up (goodF_cut (a.so.good _) _))
  split
  · unfold recvA
    by_cases hi : 0 ≤ d.a ∧ d.a < 3
    · rw [if_pos hi]
      by_cases hn : noteE v s 2 d.a = 0
      · rw [if_pos hn]
        by_cases hb : atOf v.ts d.a ((cellAt_int v.l d.a).1 + s.s.cr d.a) < 0
        · rw [if_pos hb]; exact a.re rfl
        · rw [if_neg hb]
          have hp := o.k.place d.a
          have hs := o.k.size d.a
          refine a.recv hi ?_ rfl
          unfold atOf at hb; split at hb
          · omega
          · omega
      · rw [if_neg hn]; exact a.re rfl
    · rw [if_neg hi]; exact a
  · exact a
theorem AOk.s0 {v : VV} (o : VP v) {g : Reg4} : AOk v (s0 v g) := ⟨SOk.nil o.f, List.Pairwise.nil, fun x hx => (by cases hx), fun i => by simp only [Go.Proofs.YtgldgabefiialaaGreat.H.s0, StV.z, StV.cr]; (repeat' split) <;> omega⟩
theorem VP.land {v : VV} {s : AV} (o : VP v) : VP (landV v s) := ⟨(apC_len _ _ _).trans o.c8, o.f.apD _, o.k.land 3⟩
theorem VerOk.land {v : VV} {s : AV} (h : VerOk v) (a : AOk v s) (o : VP v) : VerOk (landV v s) := fun k i => by
  have ht : (landV v s).t = v.t + 1 := rfl
  rcases land_ver a o k i with e | e
  · rw [e, ht]; exact Int.le_refl _
  · rw [e.ver, ht]; have := h k i; omega
theorem VP.zero : VP vz := ⟨rfl, TomeOk.zero, FeedOk.zero⟩
theorem VerOk.zero : VerOk vz := fun k i => by
  have hc : (cellAt_int vz.c i).2 = 0 := by rw [show vz.c = List.replicate 8 (0, 0) from rfl, cell_rep]
  have hf : (fileAt vz.f i).2 = 0 := by
    unfold fileAt; split
    · cases h : vz.f[i.toNat]? with
      | none => rfl
      | some x => have := List.eq_of_mem_replicate (List.mem_of_getElem? h); rw [this]; rfl
    · rfl
  have hl : (cellAt_int vz.l i).2 = 0 := by
    unfold cellAt_int; split
    · cases h : vz.l[i.toNat]? with
      | none => rfl
      | some x =>
        have hm := List.mem_of_getElem? h
        simp only [vz, fl0, List.mem_cons, List.not_mem_nil, or_false] at hm
        rcases hm with rfl | rfl | rfl <;> rfl
    · rfl
  show verOf vz k i ≤ 0
  unfold verOf
  (repeat' split) <;> omega
theorem OkX_fold : ∀ (ds : List DeedR) (X : DoX × Int), OkX X.1 → (∀ d ∈ ds, goodD d) → OkX (ds.foldl (fun p d => doStep p.1 d) X).1 := by
  intro ds
  induction ds with
  | nil => intro X o _; exact o
  | cons d ds ih => intro X o h; exact ih _ (o.step d (h d (by simp))) fun y hy => h y (by simp [hy])
structure Inv (v : VV) (s : AV) (ds : List DeedR) : Prop where
  vk : VerOk v
  rk : ∀ e ∈ s.rs, e.2.2 ≤ v.t
  g : ∀ d ∈ ds, goodD d
  r : vld v s.rs = true → ∀ T, OkX (T, []) → Agr v T s.rs → Ext v T → RelA T s (DoR T ds).1
theorem vld_grow {v : VV} {a b : List RE} (g : Grow v a b) (h : vld v b = true) : vld v a = true := vld_iff.2 fun e he => vld_iff.1 h e (g.a e he)
theorem Inv.rk' {v : VV} {s : AV} {ds : List DeedR} (I : Inv v s ds) {rs : List RE} (g : Grow v s.rs rs) : ∀ e ∈ rs, e.2.2 ≤ v.t := fun e he => by
  rcases g.b e he with h | h
  · exact I.rk e h
  · rw [h]; exact I.vk _ _
theorem Inv.deed {v : VV} {s : AV} {ds : List DeedR} {d : DeedR} (I : Inv v s ds) (h : (doesA v s d).2.2 = 0) : Inv v (doesA v s d).1 (ds ++ [d]) := by
  have g := Grow.does (v := v) (s := s) (d := d)
  refine ⟨I.vk, I.rk' g, fun x hx => ?_, fun hv T o A x => ?_⟩
  · rcases List.mem_append.1 hx with hx | hx
    · exact I.g x hx
    · simp only [List.mem_singleton] at hx; subst hx; exact good_of h
  · have R := I.r (vld_grow g hv) T o (fun e he => A e (g.a e he)) x
    have e : DoR T (ds ++ [d]) = doStep (DoR T ds).1 d := by unfold DoR; rw [List.foldl_append]; rfl
    rw [e]
    exact R.step (OkX_fold ds ((T, []), 0) o I.g) h A x
theorem Inv.no {v : VV} {s : AV} {ds : List DeedR} {d : DeedR} (I : Inv v s ds) (h : (doesA v s d).2.2 ≠ 0) : Inv v (doesA v s d).1 ds := by
  have g := Grow.does (v := v) (s := s) (d := d)
  exact ⟨I.vk, I.rk' g, I.g, fun hv T o A x => (I.r (vld_grow g hv) T o (fun e he => A e (g.a e he)) x).s (does_no h)⟩
theorem Inv.init {v : VV} (h : VerOk v) (g : Reg4) : Inv v (s0 v g) [] := by
  refine ⟨h, fun e he => (by cases he), fun d hd => (by cases hd), fun _ T o _ _ => ?_⟩
  have cz : ∀ i, (s0 v g).s.cr i = 0 := fun i => cr_z [] [] i
  refine ⟨fun i _ => rfl, fun i => rfl, fun i _ => ?_, fun i _ => ?_, rfl⟩
  · rw [cz]; show (cellAt_int T.l i).1 = _; omega
  · rw [cz]; have := o.k.place i; show (cellAt_int T.l i).1 + 0 ≤ _; have h2 : (cellAt_int T.l i).1 ≤ (textAt T.ts i).size := this.2; omega
theorem Inv.land {V : VI} {v : VV} {s : AV} {ds : List DeedR} (I : Inv v s ds) (hv : vld v s.rs = true) (a : AOk v s) (o : VOk V v) : thF (landV v s) = thF (finV (DoR v ds).1) := by
  have ox : OkX (v, []) := ⟨o.c8, SOk.nil o.f, o.k⟩
  exact (I.r hv v ox (fun e he => ⟨fun _ => rfl, fun _ => rfl, fun _ => rfl⟩) fun i hi => Nat.le_refl _).land a o
end Go.Proofs.YtgldgabefiialaaGreat.H
namespace Go.Proofs.YtgldgabefiialaaGreat.H
open Go Go.RowKit
set_option linter.unusedVariables false
set_option maxRecDepth 100000
def DRowD (r : Option (Nat × AObj)) (v : Value) (ds : List DeedR) : Prop := Row r v TY.countermandref20_Deed 4 (ds.flatMap DeedR.cells)
theorem DeedR.len (d : DeedR) : d.cells.length = 4 := rfl
theorem DeedR.one (d : DeedR) : ∀ y ∈ d.cells, isOne y = true := by simp [DeedR.cells, isOne]
theorem TK.slc_deed : slcB PG TY.s_countermandref20_Deed = some (TY.countermandref20_Deed, 4, 32) := by kernel_rfl
theorem TK.zero_deed : zeroB PG TY.countermandref20_Deed = some [.int .i64 0, .int .i64 0, .int .i64 0, .int .u8 0] := by kernel_rfl
theorem TK.sl_deed : slT PG TY.s_countermandref20_Deed = true := by kernel_rfl
section
variable {B : RO} {h0 h h' : Heap} {L M P : List (Option (Nat × AObj))} {V : VI} {v v' : VV} {K : AK} {U : AU} {s : AV} {k : Nat} {i j : Int} {ds : List DeedR} {Q : Bool → Heap → Prop}
theorem cellsT {k : Nat} {hh : Heap} {v : VV} (g : hh k = some (.vec TY.countermandref20_Things (plains (thF v)) 23)) : CellsAt B hh ⟨k, 0, none⟩ 0 (thF v) := CellsAt.of_vec (thF v) 0 g fun j y hj => by rw [show 0 + 0 + j = j by omega]; exact plains_get_some hj
end
end Go.Proofs.YtgldgabefiialaaGreat.H
namespace Go.Proofs.YtgldgabefiialaaGreat.H
open Go Go.RowKit
set_option linter.unusedVariables false
set_option maxRecDepth 100000
theorem flatMap_takeG {α : Type} {cells : α → List Value} {c : Nat} (hc : ∀ x, (cells x).length = c) : ∀ (l : List α) (n : Nat), (l.flatMap cells).take (n * c) = (l.take n).flatMap cells
  | [], n => by simp
  | x :: l, 0 => by simp
  | x :: l, n + 1 => by
    rw [List.flatMap_cons, List.take_succ_cons, List.flatMap_cons, List.take_append, hc, ← flatMap_takeG hc l n, show (n + 1) * c - c = n * c by rw [Nat.add_mul, Nat.one_mul]; omega, List.take_of_length_le (by rw [hc, Nat.add_mul, Nat.one_mul]; omega)]
theorem slice_id (a : Option Addr) (c k : Nat) : (if c = Int.toNat (0) then a else Option.map (·.add (Int.toNat (0) * k)) a) = a := by
  split
  · rfl
  · rw [show Int.toNat 0 * k = 0 by simp]; cases a <;> rfl
theorem emptyRow (k : Nat) (e : TypeId) (sz : Nat) : Row (some (k, AObj.vec e [] 0)) (.slice (some ⟨k, 0, none⟩) 0 0) e sz [] := .inr ⟨k, 0, 0, 0, [], rfl, rfl, by simp, Nat.le_refl _, by simp⟩
structure MQ where
  x : StI
  st : StV
  n : Nat
  pl : Int
def g0 : Reg4 := ⟨0, 0, 0, 0⟩
def MQ.z (q : MQ) : MarkR := ⟨q.x, g0, g0, q.pl⟩
def MQ.e (q : MQ) : List (Option (Nat × AObj)) := q.x.e q.st
def stS (st : StV) : AV := ⟨[], 0, st, g0⟩
structure MQ.ok (v : VV) (ds : List DeedR) (q : MQ) : Prop where
  o : q.x.Ok q.st
  a : AOk v (stS q.st)
  r : RelA v (stS q.st) (DoR v (ds.take q.n)).1
  le : q.n ≤ ds.length
def PW (k25 k27 : Nat) (v : VV) (rd rl rp : Option (Nat × AObj)) (kX : Nat) (x : ActV) (kK : Nat) (vK : Value) (rK : Option (Nat × AObj)) : List (Option (Nat × AObj)) := [some (k25, .vec TY.countermandref20_Things (plains (thF v)) 23), some (k27, .vec TY.a_3_string (plains (txF v.ts)) 3), rd, rl, rp, some (kX, x.o), x.r0, x.r1, x.r2, x.r3, some (kK, skO vK), rK]
def intL (l : List Int) : List Value := l.flatMap intC
structure WJ (B : RO) (h0 : Heap) (V : VI) (v : VV) (K : AK) (k25 k27 : Nat) (a61 : Option Addr) (n62 c63 : Nat) (a64 : Option Addr) (n65 c66 : Nat) (a67 : Option Addr) (n68 c69 : Nat) (j : Nat) (h : Heap) (rd rl rp : Option (Nat × AObj)) (x : ActV) (vK : Value) (rK : Option (Nat × AObj)) (ds : List DeedR) (qs : List MQ) (U : AU) (s : AV) : Prop where
  S : SS B h0 (qs.flatMap MQ.e ++ PW k25 k27 v rd rl rp K.kX x K.kK vK rK) h V v K U s
  W : ARows ActS.z x
  Rk : MRow rK vK (qs.map MQ.z)
  Rd : DRowD rd (.slice a61 n62 c63) ds
  Rl : Row rl (.slice a64 n65 c66) TY.int 1 (intL (qs.map fun q => (q.n : Int)))
  Rp : Row rp (.slice a67 n68 c69) TY.int 1 (intL (qs.map MQ.pl))
  g : ∀ d ∈ ds, goodD d
  r : RelA v s (DoR v ds).1
  v1 : vld v s.rs = true
  sg : s.g = g0
  l1 : s.rs.length ≤ 2 * j
  l2 : ds.length ≤ j
  l3 : qs.length ≤ j
  q : ∀ q ∈ qs, q.ok v ds
  p : qs.Pairwise fun a b => a.n ≤ b.n
section
variable {B : RO} {h0 h h' : Heap} {L M P : List (Option (Nat × AObj))} {V : VI} {v v' : VV} {K : AK} {U : AU} {s : AV} {k q k25 k27 : Nat} {i : Int} {x : ActV}
theorem setA_M : setA (L ++ M) (L.length + q) k x = L ++ setA M q k x := by
  unfold setA
  rw [setM, show L.length + q + 1 = L.length + (q + 1) from rfl, setM, show L.length + q + 2 = L.length + (q + 2) from rfl, setM, show L.length + q + 3 = L.length + (q + 3) from rfl, setM, show L.length + q + 4 = L.length + (q + 4) from rfl, setM]
theorem SS.at12 {o : AObj} {FM PL : List (Option (Nat × AObj))} (S : SS B h0 (FM ++ PL) h V v K U s) (j : Nat) (hj : PL[j]? = some (some (k, o))) : h k = some o := by
  have E := S.E
  rw [List.append_assoc] at E
  exact E.gM j (up_app _ hj)
end
end Go.Proofs.YtgldgabefiialaaGreat.H
namespace Go.Proofs.YtgldgabefiialaaGreat.H
open Go Go.RowKit
set_option linter.unusedVariables false
set_option maxRecDepth 100000
theorem TK.slc_wint : slcB PG TY.s_int = some (TY.int, 1, 8) := by kernel_rfl
theorem TK.zero_wint : zeroB PG TY.int = some [.int .i64 0] := by kernel_rfl
theorem TK.sl_wint : slT PG TY.s_int = true := by kernel_rfl
section
variable {B : RO} {h0 h h' : Heap} {L M P : List (Option (Nat × AObj))} {V : VI} {v v' : VV} {K : AK} {U : AU} {s : AV} {k k25 k27 k84 j : Nat} {i pl : Int} {x : ActV} {a61 a64 a67 : Option Addr} {n62 c63 n65 c66 n68 c69 : Nat} {rd rl rp rK : Option (Nat × AObj)} {vK : Value} {ds : List DeedR} {qs : List MQ}
theorem MQ.ok.cut {q : MQ} (k : q.ok v ds) {n : Nat} (h : q.n ≤ n) (hn : n ≤ ds.length) : q.ok v (ds.take n) := ⟨k.o, k.a, by rw [List.take_take, Nat.min_eq_left h]; exact k.r, by rw [List.length_take]; omega⟩
theorem MQ.ok.more {q : MQ} (k : q.ok v ds) (d : DeedR) : q.ok v (ds ++ [d]) := ⟨k.o, k.a, by rw [List.take_append_of_le_length k.le]; exact k.r, by rw [List.length_append]; have := k.le; omega⟩
theorem Ways_J3 {Q : Bool → Heap → Prop} (w : WJ B h0 V v K k25 k27 a61 n62 c63 a64 n65 c66 a67 n68 c69 j h rd rl rp x vK rK ds qs U s) (hj : j ≤ 100) (ht : v.t = 0) (hQ : ∀ h', Keep B h0 [] h' → Q true h') : S_countermandlaw20_AttemptWays_J3 B (some ⟨V.kV, 0, none⟩) (some ⟨K.kA, 0, none⟩) k25 k27 a61 n62 c63 h Q := by
  unfold S_countermandlaw20_AttemptWays_J3
  have nil : ∀ {h1 : Heap} {N : List (Option (Nat × AObj))}, Keep B h0 N h1 → Keep B h0 [] h1 := fun E => by have := E.take 0; simpa using this
  have l1 := w.l1
  have l2 := w.l2
  have g27 := w.S.at12 1 rfl
  obtain ⟨hm, rdd⟩ := Row.rd (B := B) w.Rd DeedR.len (by omega)
  subst hm
  have ox : OkX (v, []) := ⟨w.S.o.c8, SOk.nil w.S.o.f, w.S.o.k⟩
  refine ⟨thF v, rfl, cellsT (w.S.at12 0 rfl), _, _, _, ⟨cellH_vec g27 rfl, cellH_vec g27 rfl, cellH_vec g27 rfl, trivial⟩, ?_⟩
  refine refDo_wp w.S.E (fun h1 E => rdd h1 fun k o e => E.at ((qs.flatMap MQ.e).length + 2) (by rw [← e]; exact up_app _ (upM 2 rfl))) (by omega) w.g ox fun h1 E1 k43 a b h44 e44 => ?_
  have S1 := (w.S.e E1).nP a b e44
  refine ⟨rfl, _, stores_whole S1.gP rfl (by simp [thF]) (thF_one _) (by simp [thF]), ?_⟩
  have S2 := S1.pP (o' := .vec TY.countermandref20_Things (plains (thF (finV (DoR v ds).1))) 23)
  refine land_wp S2 (by omega) (by omega) (fun _ r' h46 S3 => ⟨fun _ => ?_, fun e => by cases e⟩) (fun hF => absurd (w.v1.symm.trans hF) (by decide))
  have eth := w.r.land w.S.a w.S.o
  rw [← eth] at S3
  generalize landV v s = v2 at S3 eth
  refine things_wp (x := V.w r') S3.E VAt.mk S3.o fun h48 E4 k53 a2 b2 h54 e54 k55 a3 b3 h56 e56 => ?_
  have S4 := ((S3.e E4).nP a2 b2 e54).nP a3 b3 e56
  refine ⟨rfl, _, stores_whole S4.gP' rfl (by simp [thF]) (thF_one _) (by simp [thF]), ?_⟩
  have S5 := S4.pP' (o' := .vec TY.countermandref20_Things (plains (thF v2)) 23)
  refine ⟨_, stores_whole S5.gP rfl (by simp) (by simp [isOne]) (by simp), ?_⟩
  have S6 := (S5.pP (o' := .vec TY.a_3_string (plains (txF v2.ts)) 3)).dP
  refine ⟨thF v2, rfl, cellsT S6.gP, thF v2, rfl, cellsT S6.gP', fit_th v2, fit_th v2, Fin.of ?_⟩
  rw [decide_eq_true (eqL_th v2)]; exact hQ _ (nil S6.E)
theorem ways_none {Q : Int → Option Addr → Nat → Nat → Bool → Heap → Prop} (w : WJ B h0 V v K k25 k27 a61 n62 c63 a64 n65 c66 a67 n68 c69 j h rd rl rp x vK rK ds [] U s) (hQ : ∀ h', WJ B h0 V v K k25 k27 a61 n62 c63 a64 n65 c66 a67 n68 c69 (j + 1) h' rd rl rp x vK rK ds [] U s → Q 0 none 0 0 false h') : C_attempt_Attempt_Back B (some ⟨K.kA, 0, none⟩) h Q :=
  back_none (p := 10) (vK := vK) (rK := rK) w.S ⟨rfl, rfl⟩ w.Rk fun h1 S1 => hQ h1 ⟨S1, w.W, w.Rk, w.Rd, w.Rl, w.Rp, w.g, w.r, w.v1, w.sg, by have := w.l1; omega, by have := w.l2; omega, by simp, w.q, w.p⟩
theorem ways_back {q : MQ} {Q : Int → Option Addr → Nat → Nat → Bool → Heap → Prop} (w : WJ B h0 V v K k25 k27 a61 n62 c63 a64 n65 c66 a67 n68 c69 j h rd rl rp x vK rK ds (qs ++ [q]) U s) (hj : j ≤ 100) (hQ : ∀ a' c' x' vK' rK' U' s' h', (DRowD rd (.slice a61 q.n c63) (ds.take q.n) → Row rl (.slice a64 qs.length c66) TY.int 1 (intL (qs.map fun q => (q.n : Int))) → Row rp (.slice a67 qs.length c69) TY.int 1 (intL (qs.map MQ.pl)) → WJ B h0 V v K k25 k27 a61 q.n c63 a64 qs.length c66 a67 qs.length c69 (j + 1) h' rd rl rp x' vK' rK' (ds.take q.n) qs U' s') → Keep B h0 (qs.flatMap MQ.e ++ PW k25 k27 v rd rl rp K.kX x' K.kK vK' rK') h' → Q q.pl a' 0 c' true h') : C_attempt_Attempt_Back B (some ⟨K.kA, 0, none⟩) h Q := by
  have hq := w.q q (by simp)
  have fm : (qs ++ [q]).flatMap MQ.e = qs.flatMap MQ.e ++ q.e := by rw [List.flatMap_append, List.flatMap_singleton]
  have E := w.S.E
  rw [fm, List.append_assoc, List.append_assoc] at E
  have E1 : Keep B h0 (qs.flatMap MQ.e ++ (PW k25 k27 v rd rl rp K.kX x K.kK vK rK ++ (q.x.e q.st ++ (V.e v ++ AE V K U s)))) h := E.sM [6, 7, 8, 9, 10, 11, 12, 13, 14, 15, 16, 17, 0, 1, 2, 3, 4, 5, 18, 19, 20, 21, 22, 23, 24, 25, 26, 27, 28, 29, 30, 31, 32, 33] (by decide)
  rw [← List.append_assoc, ← List.append_assoc] at E1
  have S1 : SS B h0 ((qs.flatMap MQ.e ++ PW k25 k27 v rd rl rp K.kX x K.kK vK rK) ++ q.z.x.e q.st) h V v K U s := w.S.e E1
  have Rk := w.Rk
  rw [List.map_append] at Rk
  refine back_one (z := q.z) (ms := qs.map MQ.z) (st1 := q.st) (q := (qs.flatMap MQ.e).length + 5) (p := (qs.flatMap MQ.e).length + 10) (x := x) (t := ActS.z) S1 ⟨upM 5 rfl, upM 6 rfl, upM 7 rfl, upM 8 rfl, upM 9 rfl⟩ w.W ⟨upM 10 rfl, upM 11 rfl⟩ (by omega) Rk (by rw [List.length_map]; have := w.l3; rw [List.length_append] at this; omega) hq.o (hq.a.re rfl) fun x' vK' rK' a' m' c' r' h1 R1 W1 Ru S2 => ?_
  have hm := (Row.rd (B := B) Ru OpenC_len (by omega)).1
  replace hm : m' = 0 := hm
  subst hm
  have ll : (PW k25 k27 v rd rl rp K.kX x K.kK vK rK).length = 12 := rfl
  rw [setM, show (qs.flatMap MQ.e).length + 10 + 1 = (qs.flatMap MQ.e).length + 11 from rfl, setM, setA_M] at S2
  have S3 : SS B h0 (qs.flatMap MQ.e ++ PW k25 k27 v rd rl rp K.kX x' K.kK vK' rK') h1 V v K ⟨U.vS, U.rS, q.x⟩ { s with s := q.st, g := g0 } := S2.dP
  refine hQ a' c' x' vK' rK' _ _ h1 (fun r1 r2 r3 => ⟨S3, ?_, R1, r1, r2, r3, fun d hd => w.g d (List.mem_of_mem_take hd), hq.r.s rfl, w.v1, rfl, by have := w.l1; show s.rs.length ≤ _; omega, ?_, ?_, fun y hy => ?_, (List.pairwise_append.1 w.p).1⟩) S3.E.popL
  · exact W1
  · have := w.l2; rw [List.length_take]; omega
  · have := w.l3; rw [List.length_append] at this; omega
  · exact (w.q y (by simp [hy])).cut ((List.pairwise_append.1 w.p).2.2 y hy q (by simp)) hq.le
end
end Go.Proofs.YtgldgabefiialaaGreat.H
namespace Go.Proofs.YtgldgabefiialaaGreat.H
open Go Go.RowKit
set_option linter.unusedVariables false
set_option maxRecDepth 100000
structure WayR where
  k : Int
  d : DeedR
  p : Int
def WayR.cells (x : WayR) : List Value := [.int .i64 x.k, .int .i64 x.d.k, .int .i64 x.d.a, .int .i64 x.d.b, .int .u8 ((x.d.c.toNat : Nat) : Int), .int .i64 x.p]
theorem TK.ways_sl : PG.underlying TY.s_countermandlaw20_Way = some (.slice TY.countermandlaw20_Way) := by kernel_rfl
theorem TK.way_kd : leafB PG 7 TY.countermandlaw20_Way = some [.int .i64, .int .i64, .int .i64, .int .i64, .int .u8, .int .i64] := by kernel_rfl
theorem Way_arg {H : Type} {enc : TypeId × Value → H} {w : World} {base : Nat} {spare : Nat → Bool} {held : Bool} {a : Option Addr} {len cap : Nat} {d : DataW H} {p : List MemPlace} (h : DataW.Trod enc PG w base spare held TY.s_countermandlaw20_Way (.slice a len cap) d p) :
    ∃ l : List WayR, len = l.length ∧ Reads (roOf w) noHeap a 6 WayR.cells l := by
  have key : ∃ l : List WayR, len = l.length ∧ Reads (roOf w) noHeap a 6 WayR.cells l ∧ ∀ x ∈ l, True := arg_rows WayR.cells (fun _ => True) TK.ways_sl TK.way_kd rfl (by omega) (fun vs h => by
    obtain ⟨z1, v1, rfl, _, h1⟩ := h.int
    obtain ⟨z2, v2, rfl, _, h2⟩ := h1.int
    obtain ⟨z3, v3, rfl, _, h3⟩ := h2.int
    obtain ⟨z4, v4, rfl, _, h4⟩ := h3.int
    obtain ⟨z5, v5, rfl, w5, h5⟩ := h4.int
    obtain ⟨z6, v6, rfl, _, h6⟩ := h5.int
    obtain rfl := h6.nil
    obtain ⟨c, rfl⟩ := u8_of w5
    exact ⟨⟨z1, ⟨z2, z3, z4, c⟩, z6⟩, rfl, trivial⟩) h
  obtain ⟨l, h1, h2, _⟩ := key
  exact ⟨l, h1, h2⟩
section
variable {B : RO} {h0 h h' : Heap} {L M P : List (Option (Nat × AObj))} {V : VI} {v v' : VV} {K : AK} {U : AU} {s : AV} {k k25 k27 k84 j : Nat} {i pl : Int} {x : ActV} {a61 a64 a67 : Option Addr} {n62 c63 n65 c66 n68 c69 : Nat} {rd rl rp rK : Option (Nat × AObj)} {vK : Value} {ds : List DeedR} {qs : List MQ} {xs : List WayR}
def WQ (B : RO) (h0 : Heap) (V : VI) (v : VV) (K : AK) (k25 k27 : Nat) (a61 : Option Addr) (n62 c63 : Nat) (a64 : Option Addr) (n65 c66 : Nat) (a67 : Option Addr) (n68 c69 : Nat) (j : Nat) (h : Heap) : Prop :=
  ∃ rd rl rp x vK rK ds qs U s, WJ B h0 V v K k25 k27 a61 n62 c63 a64 n65 c66 a67 n68 c69 j h rd rl rp x vK rK ds qs U s
theorem WJ.next (w : WJ B h0 V v K k25 k27 a61 n62 c63 a64 n65 c66 a67 n68 c69 j h rd rl rp x vK rK ds qs U s) {h' : Heap} {U' : AU} {s' : AV} (S : SS B h0 (qs.flatMap MQ.e ++ PW k25 k27 v rd rl rp K.kX x K.kK vK rK) h' V v K U' s') (e : s'.s = s.s) (g : s'.g = s.g) (v1 : vld v s'.rs = true) (l1 : s'.rs.length ≤ s.rs.length + 2) : WJ B h0 V v K k25 k27 a61 n62 c63 a64 n65 c66 a67 n68 c69 (j + 1) h' rd rl rp x vK rK ds qs U' s' :=
  ⟨S, w.W, w.Rk, w.Rd, w.Rl, w.Rp, w.g, w.r.s e, v1, g.trans w.sg, by have := w.l1; omega, by have := w.l2; omega, by have := w.l3; omega, w.q, w.p⟩
theorem WJ.deed (w : WJ B h0 V v K k25 k27 a61 n62 c63 a64 n65 c66 a67 n68 c69 j h rd rl rp x vK rK ds qs U s) {d : DeedR} (h0' : (doesA v s d).2.2 = 0) {h' : Heap} {U' : AU} {r : Option (Nat × AObj)} {a : Option Addr} {m c : Nat} (o : VOk V v) (R : DRowD r (.slice a m c) (ds ++ [d])) (S : SS B h0 (qs.flatMap MQ.e ++ PW k25 k27 v r rl rp K.kX x K.kK vK rK) h' V v K U' (doesA v s d).1) : WJ B h0 V v K k25 k27 a m c a64 n65 c66 a67 n68 c69 (j + 1) h' r rl rp x vK rK (ds ++ [d]) qs U' (doesA v s d).1 := by
  have ox : OkX (v, []) := ⟨o.c8, SOk.nil o.f, o.k⟩
  have e : DoR v (ds ++ [d]) = doStep (DoR v ds).1 d := by unfold DoR; rw [List.foldl_append]; rfl
  have gd := good_of h0'
  refine ⟨S, w.W, w.Rk, R, w.Rl, w.Rp, fun y hy => ?_, ?_, vld_does w.v1, (doesA_g v s d).trans w.sg, by have := w.l1; have := doesA_len v s d; omega, by have := w.l2; rw [List.length_append]; simp; omega, by have := w.l3; omega, fun q hq => (w.q q hq).more d, w.p⟩
  · rcases List.mem_append.1 hy with hy | hy
    · exact w.g y hy
    · simp only [List.mem_singleton] at hy; subst hy; exact gd
  · rw [e]
    exact w.r.step (OkX_fold ds ((v, []), 0) ox w.g) h0' (fun e he => ⟨fun _ => rfl, fun _ => rfl, fun _ => rfl⟩) fun i hi => Nat.le_refl _
theorem ways_else {Q : Heap → Prop} {cells : List Value} (w : WJ B h0 V v K k25 k27 a61 n62 c63 a64 n65 c66 a67 n68 c69 j h rd rl rp x vK rK ds qs U s) (hj : j ≤ 100) (S : SS B h0 ((qs.flatMap MQ.e ++ PW k25 k27 v rd rl rp K.kX x K.kK vK rK) ++ [some (k84, .vec TY.countermandlaw20_Way (plains cells) 6)]) h' V v K U s)
    (hQ : ∀ x1 vK' rK' h1, Keep B h0 (qs.flatMap MQ.e ++ ((PW k25 k27 v rd rl rp K.kX x K.kK vK' rK' ++ [some (k84, .vec TY.countermandlaw20_Way (plains cells) 6)]) ++ (StI.e x1 s.s ++ (V.e v ++ AE V K U s)))) h1 →
      (∀ {r1 r2 : Option (Nat × AObj)} {a1 a2 : Option Addr} {m1 c1 m2 c2 : Nat} {h2 : Heap}, Row r1 (.slice a1 m1 c1) TY.int 1 (intL (qs.map fun q => (q.n : Int)) ++ [.int .i64 (ds.length : Nat)]) → Row r2 (.slice a2 m2 c2) TY.int 1 (intL (qs.map MQ.pl) ++ [.int .i64 pl]) → Keep B h0 (qs.flatMap MQ.e ++ (StI.e x1 s.s ++ (PW k25 k27 v rd r1 r2 K.kX x K.kK vK' rK' ++ (V.e v ++ AE V K U s)))) h2 → WQ B h0 V v K k25 k27 a61 n62 c63 a1 m1 c1 a2 m2 c2 (j + 1) h2) → Q h1) : C_attempt_Attempt_Else B (some ⟨K.kA, 0, none⟩) pl h' Q := by
  have E := S.E
  rw [List.append_assoc (qs.flatMap MQ.e)] at E
  have S0 : SS B h0 (qs.flatMap MQ.e ++ (PW k25 k27 v rd rl rp K.kX x K.kK vK rK ++ [some (k84, .vec TY.countermandlaw20_Way (plains cells) 6)])) h' V v K U s := S.e E
  have l3 := w.l3
  refine else_wp (q := (qs.flatMap MQ.e).length + 5) (p := (qs.flatMap MQ.e).length + 10) (x := x) (t := ActS.z) (ms := qs.map MQ.z) (vK := vK) (rK := rK) S0 ⟨upM 5 rfl, upM 6 rfl, upM 7 rfl, upM 8 rfl, upM 9 rfl⟩ w.W ⟨upM 10 rfl, upM 11 rfl⟩ w.Rk (by rw [List.length_map]; omega) fun x1 vK' rK' h1 O1 R1 S1 => ?_
  rw [setM, show (qs.flatMap MQ.e).length + 10 + 1 = (qs.flatMap MQ.e).length + 11 from rfl, setM] at S1
  have E1 := S1.E
  rw [List.append_assoc, List.append_assoc] at E1
  refine hQ x1 vK' rK' h1 E1 fun {r1 r2 a1 a2 m1 c1 m2 c2 h2} R2 R3 E2 => ?_
  have hz : (⟨x1, s.s, ds.length, pl⟩ : MQ).e = StI.e x1 s.s := rfl
  refine ⟨rd, r1, r2, x, vK', rK', ds, qs ++ [⟨x1, s.s, ds.length, pl⟩], U, s, ⟨w.S.e ?_, w.W, ?_, w.Rd, ?_, ?_, w.g, w.r, w.v1, w.sg, by have := w.l1; omega, by have := w.l2; omega, by rw [List.length_append]; simp; omega, fun y hy => ?_, ?_⟩⟩
  · rw [List.flatMap_append, List.flatMap_singleton, hz, List.append_assoc, List.append_assoc]
    exact E2
  · rw [List.map_append]
    have : [MQ.z ⟨x1, s.s, ds.length, pl⟩] = [⟨x1, s.g, g0, pl⟩] := by rw [w.sg]; rfl
    show MRow rK' vK' (qs.map MQ.z ++ [MQ.z ⟨x1, s.s, ds.length, pl⟩])
    rw [this]; exact R1
  · unfold intL at R2 ⊢; rw [List.map_append, List.flatMap_append]; exact R2
  · unfold intL at R3 ⊢; rw [List.map_append, List.flatMap_append]; exact R3
  · rcases List.mem_append.1 hy with hy | hy
    · exact w.q y hy
    · simp only [List.mem_singleton] at hy; subst hy
      exact ⟨O1, w.S.a.re rfl, by rw [List.take_length]; exact w.r.s rfl, Nat.le_refl _⟩
  · refine List.pairwise_append.2 ⟨w.p, List.pairwise_singleton _ _, fun a ha b hb => ?_⟩
    simp only [List.mem_singleton] at hb; subst hb
    exact (w.q a ha).le
end
end Go.Proofs.YtgldgabefiialaaGreat.H
namespace Go.Proofs.YtgldgabefiialaaGreat.H
open Go Go.RowKit
set_option linter.unusedVariables false
set_option maxRecDepth 100000
set_option maxHeartbeats 4000000
section
variable {B : RO} {h0 h h' : Heap} {V : VI} {v : VV} {K : AK} {k25 k27 : Nat} {xs : List WayR} {a1 : Option Addr} {c3 : Nat} {s4 s5 s6 : ByteArray} {Q : Bool → Heap → Prop}
theorem intL_len (l : List Int) : (intL l).length = l.length := by unfold intL; rw [flatMap_length intC_len, Nat.mul_one]
theorem Ways_J2 {k8 : Nat} {o8 : AObj} (E0 : Keep B h0 ([some (k8, o8)] ++ V.e v) h) (o : VOk V v) (hv : VerOk v) (ht : v.t = 0) (hr : ∀ h', Keep B h0 [] h' → Reads B h' a1 6 WayR.cells xs) (hl : xs.length ≤ 60) (hQ : ∀ h', Keep B h0 [] h' → Q true h') : S_countermandlaw20_AttemptWays_J2 B a1 xs.length c3 (some ⟨V.kV, 0, none⟩) h Q := by
  unfold S_countermandlaw20_AttemptWays_J2
  have nil : ∀ {h1 : Heap} {N : List (Option (Nat × AObj))}, Keep B h0 N h1 → Keep B h0 [] h1 := fun E => by have := E.take 0; simpa using this
  refine anew_wp (g := g0) E0 o fun K U h18 S0 => things_wp S0.E VAt.mk S0.o fun h20 E1 k25 a25 b25 h26 e26 k27 a27 b27 h28 e28 => ?_
  have S1 := ((S0.e E1).nP a25 b25 e26).nP a27 b27 e28
  refine ⟨rfl, _, stores_whole S1.gP' rfl (by simp [thF]) (thF_one _) (by simp [thF]), ?_⟩
  have S2 := S1.pP' (o' := .vec TY.countermandref20_Things (plains (thF v)) 23)
  refine ⟨_, stores_whole S2.gP rfl (by simp) (by simp [isOne]) (by simp), ?_⟩
  have S3 := S2.pP (o' := .vec TY.a_3_string (plains (txF v.ts)) 3)
  have ox : OkX (v, []) := ⟨o.c8, SOk.nil o.f, o.k⟩
  have E4 : ∀ {h1 : Heap}, Keep B h0 ([some (k8, o8)] ++ [some (K.kX, acO0), some (K.kK, skO (.slice none 0 0))] ++ [some (k25, .vec TY.countermandref20_Things (plains (thF v)) 23)] ++ [some (k27, .vec TY.a_3_string (plains (txF v.ts)) 3)] ++ (V.e v ++ AE V K U (s0 v g0))) h1 → Keep B h0 (([] ++ PW k25 k27 v none none none K.kX ActV.z K.kK (.slice none 0 0) none) ++ (V.e v ++ AE V K U (s0 v g0))) h1 := fun {h1} E => by
    have E' : Keep B h0 ([] ++ ([some (k8, o8)] ++ [some (K.kX, acO0), some (K.kK, skO (.slice none 0 0))] ++ [some (k25, .vec TY.countermandref20_Things (plains (thF v)) 23)] ++ [some (k27, .vec TY.a_3_string (plains (txF v.ts)) 3)] ++ (V.e v ++ AE V K U (s0 v g0)))) h1 := E
    exact E'.sM [3, 4, 99, 98, 97, 1, 96, 95, 94, 93, 2, 92, 5, 6, 7, 8, 9, 10, 11, 12, 13, 14, 15, 16, 17, 18, 19, 20] (by decide)
  have r0 := (Inv.init hv g0).r rfl v ox (fun e he => (by cases he)) (fun i hi => Nat.le_refl _)
  refine ⟨fun a61 n62 c63 a64 n65 c66 a67 n68 c69 i m h' => ∃ j : Nat, j ≤ xs.length ∧ i = j ∧ m = xs.length - j ∧ WQ B h0 V v K k25 k27 a61 n62 c63 a64 n65 c66 a67 n68 c69 j h', xs.length, Fin.of ⟨0, by omega, rfl, rfl, none, none, none, ActV.z, .slice none 0 0, none, [], [], U, s0 v g0, ⟨S3.e (E4 S3.E), ARows.z, Row.nil _ _, Row.nil _ _, Row.nil _ _, Row.nil _ _, fun d hd => (by cases hd), r0, rfl, rfl, Nat.le_refl _, Nat.le_refl _, Nat.le_refl _, fun q hq => (by cases hq), List.Pairwise.nil⟩⟩, ?_⟩
  clear E4 S3 S2 S1 E1 S0 E0 r0
  rintro a61 n62 c63 a64 n65 c66 a67 n68 c69 _ _ h71 ⟨j, hj, rfl, rfl, rd, rl, rp, x, vK, rK, ds, qs, U, s, w⟩
  refine ⟨fun hlt => ?_, fun hge => Fin.of (Ways_J3 w (by omega) ht hQ)⟩
  have hj' : j < xs.length := by omega
  have hx := List.getElem?_eq_getElem hj'
  generalize xs[j] = y at hx
  obtain ⟨A, f1, _, f3⟩ := hr h71 (nil w.S.E) j y hx
  have go : ∀ {a61 : Option Addr} {n62 c63 : Nat} {a64 : Option Addr} {n65 c66 : Nat} {a67 : Option Addr} {n68 c69 : Nat} {h1 : Heap}, WQ B h0 V v K k25 k27 a61 n62 c63 a64 n65 c66 a67 n68 c69 (j + 1) h1 → Fin B h1 (fun h' => ∃ m', m' < xs.length - j ∧ ∃ j' : Nat, j' ≤ xs.length ∧ IntKind.wrap .i64 ((j : Int) + 1) = j' ∧ m' = xs.length - j' ∧ WQ B h0 V v K k25 k27 a61 n62 c63 a64 n65 c66 a67 n68 c69 j' h') := fun l => Fin.of ⟨xs.length - (j + 1), by omega, j + 1, by omega, wrapS (by omega), rfl, l⟩
  refine ⟨A, f1, by omega, by omega, y.k, y.d.k, y.d.a, y.d.b, ((y.d.c.toNat : Nat) : Int), y.p, by rw [Int.toNat_natCast]; exact f3, fun k84 a84 b84 h85 e85 => ?_⟩
  have S1 := w.S.nP a84 b84 e85
  refine ⟨_, stores_whole S1.gP rfl (by simp) (by simp [isOne]) (by simp), ?_⟩
  have S2 := S1.pP (o' := .vec TY.countermandlaw20_Way (plains y.cells) 6)
  clear S1
  have l1 := w.l1
  have l2 := w.l2
  have l3 := w.l3
  obtain ⟨hm, rdd⟩ := Row.rd (B := B) w.Rd DeedR.len (by omega)
  subst hm
  have w0 : ∀ {h1 : Heap}, SS B h0 (qs.flatMap MQ.e ++ PW k25 k27 v rd rl rp K.kX x K.kK vK rK) h1 V v K U s → WJ B h0 V v K k25 k27 a61 ds.length c63 a64 n65 c66 a67 n68 c69 j h1 rd rl rp x vK rK ds qs U s := fun S => ⟨S, w.W, w.Rk, w.Rd, w.Rl, w.Rp, w.g, w.r, w.v1, w.sg, w.l1, w.l2, w.l3, w.q, w.p⟩
  refine ⟨y.k, cellH_vec S2.gP rfl, fun h0' => ?_, fun n0 => ⟨fun h1' => ?_, fun n1 => ⟨fun h2' => ?_, fun n2 => ?_⟩⟩⟩
  · refine ⟨y.d.k, y.d.a, y.d.b, ((y.d.c.toNat : Nat) : Int), ⟨cellH_vec S2.gP rfl, cellH_vec S2.gP rfl, cellH_vec S2.gP rfl, cellH_vec S2.gP rfl, trivial⟩, adoes_wp (d := y.d) S2 (by omega) fun U' h92 S3 => ⟨fun e0 => ?_, fun ne => go ⟨rd, rl, rp, x, vK, rK, ds, qs, U', (doesA v s y.d).1, w.next S3.dP (does_no ne) (doesA_g v s y.d) (vld_does w.v1) (doesA_len v s y.d)⟩⟩⟩
    have E := S3.E
    rw [List.append_assoc (qs.flatMap MQ.e), List.append_assoc (qs.flatMap MQ.e)] at E
    have fin : ∀ {r : Option (Nat × AObj)} {a : Option Addr} {m c : Nat} {h1 : Heap}, DRowD r (.slice a m c) (ds ++ [y.d]) → Keep B h0 (qs.flatMap MQ.e ++ (PW k25 k27 v r rl rp K.kX x K.kK vK rK ++ (V.e v ++ AE V K U' (doesA v s y.d).1))) h1 → Fin B h1 (fun h' => ∃ m', m' < xs.length - j ∧ ∃ j' : Nat, j' ≤ xs.length ∧ IntKind.wrap .i64 ((j : Int) + 1) = j' ∧ m' = xs.length - j' ∧ WQ B h0 V v K k25 k27 a m c a64 n65 c66 a67 n68 c69 j' h') := fun {r a m c h1} R E => go ⟨r, rl, rp, x, vK, rK, ds ++ [y.d], qs, U', (doesA v s y.d).1, w.deed e0 o R (S3.e (by rw [List.append_assoc]; exact E))⟩
    have hfl := flatMap_length DeedR.len ds
    have src : ∀ {h1 : Heap} {N : List (Option (Nat × AObj))}, Keep B h0 (qs.flatMap MQ.e ++ N) h1 → N[2]? = some rd → Src B h1 (.slice a61 ds.length c63) 4 ds.length (ds.flatMap DeedR.cells) := fun {h1 N} E hn => Row.src w.Rd (fun k o e => E.at ((qs.flatMap MQ.e).length + 2) (by rw [← e]; exact upM 2 hn)) DeedR.len (by omega) DeedR.one
    have cw : ∀ {h1 : Heap} {N : List (Option (Nat × AObj))}, Keep B h0 (qs.flatMap MQ.e ++ N) h1 → N[12]? = some (some (k84, .vec TY.countermandlaw20_Way (plains y.cells) 6)) → CellsAt B h1 ⟨k84, 1, none⟩ 0 [.int .i64 y.d.k, .int .i64 y.d.a, .int .i64 y.d.b, .int .u8 ((y.d.c.toNat : Nat) : Int)] := fun {h1 N} E hn => by
      have g := E.gM 12 hn
      exact ⟨cellH_vec g rfl, cellH_vec g rfl, cellH_vec g rfl, cellH_vec g rfl, trivial⟩
    have dsrc : ∀ {h1 : Heap} {k : Nat}, h1 k = some (.vec TY.countermandref20_Deed (plains y.d.cells) 4) → Src B h1 (.slice (some ⟨k, 0, none⟩) 1 1) 4 1 y.d.cells := fun g => ⟨rfl, DeedR.one _, .inl ⟨_, _, rfl, cellH_vec g rfl, cellH_vec g rfl, cellH_vec g rfl, cellH_vec g rfl, trivial⟩⟩
    refine ⟨y.d.k, y.d.a, y.d.b, ((y.d.c.toNat : Nat) : Int), cw E rfl, fun k146 a146 b146 h147 e147 => ?_, fun k165 a165 b165 h166 e166 => ?_⟩
    · have E1 := E.nM (o := .vec TY.countermandref20_Deed [] 0) a146 b146 e147
      refine ⟨cw E1 rfl, ?_, fun k157 a157 b157 h158 e158 => ?_⟩
      · refine E1.pushS ((qs.flatMap MQ.e).length + 29) (n := ds.length) (ys := ds.flatMap DeedR.cells) (upM 29 rfl) (emptyRow k146 TY.countermandref20_Deed 4) TK.slc_deed TK.zero_deed rfl (by omega) (by omega) TK.sl_deed (src E1 rfl) (by rw [hfl]; simp; omega) fun a' m' c' r' h149 R' E2 => ?_
        rw [setM] at E2
        refine ⟨a', m', c', rfl, cw E2 rfl, fun k154 a154 b154 h155 e155 => ?_⟩
        have E3 := E2.nM (o := .vec TY.countermandref20_Deed (plains y.d.cells) 4) a154 b154 e155
        refine ⟨cw E3 rfl, ?_⟩
        unfold S_countermandlaw20_AttemptWays_J4
        refine E3.pushS ((qs.flatMap MQ.e).length + 29) (n := 1) (ys := y.d.cells) (upM 29 rfl) R' TK.slc_deed TK.zero_deed rfl (by omega) (by omega) TK.sl_deed (dsrc (E3.gM 30 rfl)) (by rw [List.nil_append, hfl, DeedR.len]; omega) fun a2 m2 c2 r2 h2 R2 E4 => ?_
        rw [setM] at E4
        refine ⟨a2, m2, c2, rfl, cw E4 rfl, fin (r := r2) ?_ (E4.sM [0, 1, 29, 3, 4, 5, 6, 7, 8, 9, 10, 11, 13, 14, 15, 16, 17, 18, 19, 20, 21, 22, 23, 24, 25, 26, 27, 28] (by decide))⟩
        unfold DRowD; rw [List.flatMap_append]; simpa using R2
      · have E2 := E1.nM (o := .vec TY.countermandref20_Deed (plains y.d.cells) 4) a157 b157 e158
        refine ⟨cw E2 rfl, ?_⟩
        refine E2.pushS ((qs.flatMap MQ.e).length + 29) (n := ds.length) (ys := ds.flatMap DeedR.cells) (upM 29 rfl) (emptyRow k146 TY.countermandref20_Deed 4) TK.slc_deed TK.zero_deed rfl (by omega) (by omega) TK.sl_deed (src E2 rfl) (by rw [hfl]; simp; omega) fun a' m' c' r' h149 R' E3 => ?_
        rw [setM] at E3
        refine ⟨a', m', c', rfl, cw E3 rfl, ?_⟩
        unfold S_countermandlaw20_AttemptWays_J4
        refine E3.pushS ((qs.flatMap MQ.e).length + 29) (n := 1) (ys := y.d.cells) (upM 29 rfl) R' TK.slc_deed TK.zero_deed rfl (by omega) (by omega) TK.sl_deed (dsrc (E3.gM 30 rfl)) (by rw [List.nil_append, hfl, DeedR.len]; omega) fun a2 m2 c2 r2 h2 R2 E4 => ?_
        rw [setM] at E4
        refine ⟨a2, m2, c2, rfl, cw E4 rfl, fin (r := r2) ?_ (E4.sM [0, 1, 29, 3, 4, 5, 6, 7, 8, 9, 10, 11, 13, 14, 15, 16, 17, 18, 19, 20, 21, 22, 23, 24, 25, 26, 27, 28] (by decide))⟩
        unfold DRowD; rw [List.flatMap_append]; simpa using R2
    · have E1 := E.nM (o := .vec TY.countermandref20_Deed (plains y.d.cells) 4) a165 b165 e166
      refine ⟨cw E1 rfl, fun k168 a168 b168 h169 e169 => ?_⟩
      have E2 := E1.nM (o := .vec TY.countermandref20_Deed [] 0) a168 b168 e169
      refine ⟨cw E2 rfl, ?_⟩
      refine E2.pushS ((qs.flatMap MQ.e).length + 30) (n := ds.length) (ys := ds.flatMap DeedR.cells) (upM 30 rfl) (emptyRow k168 TY.countermandref20_Deed 4) TK.slc_deed TK.zero_deed rfl (by omega) (by omega) TK.sl_deed (src E2 rfl) (by rw [hfl]; simp; omega) fun a' m' c' r' h149 R' E3 => ?_
      rw [setM] at E3
      refine ⟨a', m', c', rfl, cw E3 rfl, ?_⟩
      unfold S_countermandlaw20_AttemptWays_J4
      refine E3.pushS ((qs.flatMap MQ.e).length + 30) (n := 1) (ys := y.d.cells) (upM 30 rfl) R' TK.slc_deed TK.zero_deed rfl (by omega) (by omega) TK.sl_deed (dsrc (E3.gM 29 rfl)) (by rw [List.nil_append, hfl, DeedR.len]; omega) fun a2 m2 c2 r2 h2 R2 E4 => ?_
      rw [setM] at E4
      refine ⟨a2, m2, c2, rfl, cw E4 rfl, fin (r := r2) ?_ (E4.sM [0, 1, 30, 3, 4, 5, 6, 7, 8, 9, 10, 11, 13, 14, 15, 16, 17, 18, 19, 20, 21, 22, 23, 24, 25, 26, 27, 28] (by decide))⟩
      unfold DRowD; rw [List.flatMap_append]; simpa using R2
  · refine ⟨y.p, cellH_vec S2.gP rfl, ways_else (cells := y.cells) w (by omega) S2 fun x1 vK' rK' h177 E1 mk k178 a178 b178 h179 e179 => ?_⟩
    have E2 := E1.nM (o := .vec TY.int (plains [.int .i64 (ds.length : Nat)]) 1) a178 b178 e179
    obtain rfl := (Row.rd (B := B) (cells := intC) w.Rl intC_len (by omega)).1
    obtain rfl := (Row.rd (B := B) (cells := intC) w.Rp intC_len (by omega)).1
    refine E2.pushS ((qs.flatMap MQ.e).length + 3) (n := 1) (ys := [.int .i64 (ds.length : Nat)]) (upM 3 rfl) w.Rl TK.slc_wint TK.zero_wint rfl (by omega) (by omega) TK.sl_wint ⟨rfl, by simp [isOne], .inl ⟨_, _, rfl, cellH_vec (E2.gM 35 rfl) rfl, trivial⟩⟩ (by rw [intL_len, List.length_map]; simp; omega) fun a' m' c' r' h180 R' E3 => ?_
    rw [setM] at E3
    refine ⟨a', m', c', rfl, y.p, cellH_vec (E3.gM 12 rfl) rfl, fun k185 a185 b185 h186 e186 => ?_⟩
    have E4 := E3.nM (o := .vec TY.int (plains [.int .i64 y.p]) 1) a185 b185 e186
    refine E4.pushS ((qs.flatMap MQ.e).length + 4) (n := 1) (ys := [.int .i64 y.p]) (upM 4 rfl) w.Rp TK.slc_wint TK.zero_wint rfl (by omega) (by omega) TK.sl_wint ⟨rfl, by simp [isOne], .inl ⟨_, _, rfl, cellH_vec (E4.gM 36 rfl) rfl, trivial⟩⟩ (by rw [intL_len, List.length_map]; simp; omega) fun a2 m2 c2 r2 h187 R2 E5 => ?_
    rw [setM] at E5
    exact ⟨a2, m2, c2, rfl, go (mk R' R2 (E5.sM [13, 14, 15, 16, 17, 18, 0, 1, 2, 3, 4, 5, 6, 7, 8, 9, 10, 11, 19, 20, 21, 22, 23, 24, 25, 26, 27, 28, 29, 30, 31, 32, 33, 34] (by decide)))⟩
  · have hn65 : n65 = qs.length := by have := (Row.rd (B := B) (cells := intC) w.Rl intC_len (by omega)).1; rw [List.length_map] at this; exact this
    have hn68 : n68 = qs.length := by have := (Row.rd (B := B) (cells := intC) w.Rp intC_len (by omega)).1; rw [List.length_map] at this; exact this
    subst hn65
    subst hn68
    have w1 := w0 S2.dP
    rcases List.eq_nil_or_concat qs with hq | ⟨qs', q, hq⟩
    · subst hq
      have hw : IntKind.wrap .i64 (((([] : List MQ).length : Nat) : Int) - 1) = -1 := by decide
      refine ways_none w1 fun h1 w2 => ⟨fun _ => ⟨fun _ => ⟨fun _ => ⟨fun _ => Fin.of ?_, fun e => absurd rfl e⟩, fun e => absurd (by rw [hw]; decide) e⟩, fun e => absurd rfl e⟩, fun e => absurd (by rw [hw]; rfl) e⟩
      unfold S_countermandlaw20_AttemptWays_J5
      exact ⟨fun e => absurd e (by rw [hw]; decide), fun _ => go ⟨rd, rl, rp, x, vK, rK, ds, [], U, s, w2⟩⟩
    · rw [List.concat_eq_append] at hq
      subst hq
      have hqn := w.q q (by simp)
      have hw : IntKind.wrap .i64 ((((qs' ++ [q]).length : Nat) : Int) - 1) = (qs'.length : Nat) := by
        have : (qs' ++ [q]).length = qs'.length + 1 := by simp
        rw [this, w64 (by omega) (by omega)]; omega
      have hlq : (qs' ++ [q]).length = qs'.length + 1 := by simp
      refine ways_back w1 (by omega) fun a' c' x' vK' rK' U2 s2 h1 mk E => ⟨fun _ => ⟨fun _ => ⟨fun hlt2 => absurd hlt2 (by rw [hw]; omega), fun _ => Fin.of ?_⟩, fun e => absurd rfl e⟩, fun e => absurd (by rw [hw, decide_eq_true (by omega)]) e⟩
      unfold S_countermandlaw20_AttemptWays_J5
      have cl := Row.cap w.Rl
      have cp := Row.cap w.Rp
      have cd := Row.cap w.Rd
      obtain ⟨Ap, p1, -, p3⟩ := (Row.rd (B := B) (cells := intC) w.Rp intC_len (by omega)).2 h1 (fun k o e => E.at ((qs'.flatMap MQ.e).length + 4) (by rw [← e]; exact upM 4 rfl)) qs'.length q.pl (by rw [List.map_append, List.getElem?_append_right (by simp)]; simp)
      obtain ⟨Al, q1, -, q3⟩ := (Row.rd (B := B) (cells := intC) w.Rl intC_len (by omega)).2 h1 (fun k o e => E.at ((qs'.flatMap MQ.e).length + 3) (by rw [← e]; exact upM 3 rfl)) qs'.length (q.n : Int) (by rw [List.map_append, List.getElem?_append_right (by simp)]; simp)
      have hle := hqn.le
      rw [hw]
      refine ⟨fun _ => ⟨Ap, p1, by omega, by omega, q.pl, by rw [Int.toNat_natCast]; exact p3.1, fun _ => ⟨Al, q1, by omega, by omega, (q.n : Int), by rw [Int.toNat_natCast]; exact q3.1, by omega, by omega, by omega, by omega, by omega, by omega, by omega, by omega, by omega, ?_⟩, fun e => absurd rfl e⟩, fun e => absurd (by omega) e⟩
      rw [slice_id, slice_id, slice_id, show Int.toNat ((q.n : Nat) : Int) - Int.toNat 0 = q.n by simp, show Int.toNat ((qs'.length : Nat) : Int) - Int.toNat 0 = qs'.length by simp, show c63 - Int.toNat 0 = c63 by simp, show c66 - Int.toNat 0 = c66 by simp, show c69 - Int.toNat 0 = c69 by simp]
      have Rd' := Row.cut w.Rd (n := q.n) hle
      have Rl' := Row.cut w.Rl (n := qs'.length) (by omega)
      have Rp' := Row.cut w.Rp (n := qs'.length) (by omega)
      rw [flatMap_takeG DeedR.len] at Rd'
      unfold intL at Rl' Rp'
      rw [flatMap_takeG intC_len, List.map_append, List.take_left' (by simp)] at Rl' Rp'
      exact go ⟨rd, rl, rp, x', vK', rK', ds.take q.n, qs', U2, s2, mk Rd' Rl' Rp'⟩
  · exact go ⟨rd, rl, rp, x, vK, rK, ds, qs, U, s, w.next S2.dP rfl rfl w.v1 (by omega)⟩
end
end Go.Proofs.YtgldgabefiialaaGreat.H
namespace Go.Proofs.YtgldgabefiialaaGreat.H
open Go Go.RowKit
set_option linter.unusedVariables false
set_option maxRecDepth 100000
set_option maxHeartbeats 4000000
section
variable {B : RO} {h0 h h' : Heap} {V : VI} {v : VV} {K : AK} {xs : List WayR} {a1 : Option Addr} {c3 : Nat} {s4 s5 s6 : ByteArray} {Q : Bool → Heap → Prop}
theorem AttemptWays_wp (hr : Reads B h a1 6 WayR.cells xs) (hQ : ∀ h', Keep B h [] h' → Q true h') : C_countermandlaw20_AttemptWays B a1 xs.length c3 s4 s5 s6 h Q := by
  refine C_countermandlaw20_AttemptWays.of ?_
  unfold S_countermandlaw20_AttemptWays
  have nil : ∀ {h1 : Heap} {N : List (Option (Nat × AObj))}, Keep B h N h1 → Keep B h [] h1 := fun E => by have := E.take 0; simpa using this
  have rds : ∀ h', Keep B h [] h' → Reads B h' a1 6 WayR.cells xs := fun h' E j x hx => by
    obtain ⟨A, f1, f2, f3⟩ := hr j x hx
    exact ⟨A, f1, fun hn => f2 (by
      cases hh : h A.block with
      | none => rfl
      | some o => rw [E.le _ _ hh] at hn; cases hn), E.w.cells f3⟩
  intro k8 a8 b8 h9 e9
  have E0 := (Keep.nil B h).made (o := .vec TY.a_3_string (plains [.string s4, .string s5, .string s6]) 3) a8 b8 e9
  refine alive20_wp fun h10 Ea => ⟨fun _ => ?_, fun e => by cases e⟩
  have E1 : Keep B h [some (k8, .vec TY.a_3_string (plains [.string s4, .string s5, .string s6]) 3)] h10 := by
    have := E0.append Ea
    simpa using this
  have out := hQ _ (nil E1)
  refine ⟨fun _ => Fin.of out, fun n60 => ⟨by decide, by decide, s4, E1.cell 0 rfl rfl, fun _ => Fin.of out, fun n4 => ⟨by decide, by decide, s5, E1.cell 0 rfl (j := 1) rfl, fun _ => Fin.of out, fun n5 => ⟨by decide, by decide, s6, E1.cell 0 rfl (j := 2) rfl, fun _ => Fin.of out, fun n6 => Fin.of ?_⟩⟩⟩⟩
  clear out E0 Ea
  unfold S_countermandlaw20_AttemptWays_J1
  refine newview_wp fun V h14 ov Ev => ?_
  have E2 := E1.append Ev
  refine ⟨s4, s5, s6, ⟨E2.cell 0 rfl (j := 0) rfl, E2.cell 0 rfl (j := 1) rfl, E2.cell 0 rfl (j := 2) rfl, trivial⟩, ?_⟩
  refine ⟨fun q m h' => ∃ (j : Nat) (ts : List ByteArray), j ≤ 3 ∧ q = j ∧ m = 3 - j ∧ FeedOk ts fl0 ∧ Keep B h ([some (k8, .vec TY.a_3_string (plains [.string s4, .string s5, .string s6]) 3)] ++ V.e { vz with ts := ts }) h', 3, Fin.of ⟨0, ts0, by omega, rfl, rfl, FeedOk.zero, E2⟩, ?_⟩
  clear E1 E2 Ev
  rintro _ _ h210 ⟨j, ts, hj, rfl, rfl, fk, E⟩
  refine ⟨fun hlt => ?_, fun hge => Fin.of ?_⟩
  · obtain ⟨t, ht, hs⟩ : ∃ t : ByteArray, (#[(.string s4), (.string s5), (.string s6)] : Array Value)[Int.toNat ((j : Nat) : Int) * 1]? = some (.string t) ∧ t.size ≤ 64 := by
      have hc : j = 0 ∨ j = 1 ∨ j = 2 := by omega
      rcases hc with rfl | rfl | rfl
      · exact ⟨s4, rfl, by omega⟩
      · exact ⟨s5, rfl, by omega⟩
      · exact ⟨s6, rfl, by omega⟩
    refine ⟨by omega, by omega, t, ht, _, rfl, _, E.cell 1 rfl (j := 2) rfl, feed_arrive_wp fk (E.at 6 rfl) (by omega) (Fin.of ⟨3 - (j + 1), by omega, j + 1, arrT ts (j : Nat) t, by omega, wrapS (by omega), rfl, fk.arrive _ _, ?_⟩)⟩
    exact E.put (o' := feedO (arrT ts (j : Nat) t) V.kP) 6 rfl
  · have o : VOk V { vz with ts := ts } := ⟨ov.r, ov.c8, ov.f, fk⟩
    exact Ways_J2 E o (fun k i => VerOk.zero k i) rfl rds (by omega) hQ
end
theorem TK.texts_kd : leafB PG 6 TY.a_3_string = some [.str, .str, .str] := by kernel_rfl
theorem AttemptWays_calls {H : Type} {enc : TypeId × Value → H} (W : World) {a : Option Addr} {len cap : Nat} {d1 : DataW H} {p1 : List MemPlace} (k1 : DataW.Trod enc PG W 0 (fun _ => true) true TY.s_countermandlaw20_Way (.slice a len cap) d1 p1) {cs : Array Value} {d3 : DataW H} {p3 : List MemPlace} (k3 : DataW.Trod enc PG W 0 (fun _ => true) true TY.a_3_string (.agg cs) d3 p3) :
    Calls PG FN.countermandlaw20_AttemptWays #[.slice a len cap, .agg cs] W fun e w' => e = .returned (.bool true) ∧ Below W.heap.size W w' := by
  obtain ⟨xs, rfl, hr⟩ := Way_arg k1
  have hk := arg_agg TK.texts_kd k3
  obtain ⟨s1, v1, e1, _, h1⟩ := hk.str
  obtain ⟨s2, v2, rfl, _, h2⟩ := h1.str
  obtain ⟨s3, v3, rfl, _, h3⟩ := h2.str
  obtain rfl := h3.nil
  obtain rfl : cs = #[.string s1, .string s2, .string s3] := by rw [← Array.toList_inj, e1]
  refine Spec.calls (Spec.mono (AttemptWays_wp (Q := fun b _ => b = true) (c3 := cap) hr fun _ _ => rfl) ?_)
  rintro v h' ⟨b, rfl, rfl⟩
  rfl
end Go.Proofs.YtgldgabefiialaaGreat.H
