/- What the law's proof stands on, part 8. No condition. -/
import Derived.Shelf.Strings.Repeat
import Derived.Test.YtgldgabefiialaaGreatG7
namespace Go.Proofs.YtgldgabefiialaaGreat.H
open Go
set_option linter.unusedVariables false
set_option maxRecDepth 100000
def zf3 : Go.Shelf.Ren := ⟨fun x => match x with | 99 => 144 | 105 => 136 | 165 => 145 | 166 => 146 | 169 => 148 | 170 => 147 | 206 => 157 | 212 => 143 | 240 => 158 | 241 => 159 | 263 => 155 | 264 => 156 | 276 => 161 | 277 => 162 | _ => 0, fun x => match x with | 0 => 0 | 3 => 3 | 4 => 4 | 5 => 5 | 9 => 9 | 20 => 20 | 37 => 226 | 46 => 234 | 51 => 259 | 53 => 262 | 70 => 245 | 72 => 247 | 75 => 249 | 76 => 250 | 80 => 252 | 109 => 242 | 127 => 265 | 146 => 260 | 148 => 263 | 164 => 266 | _ => 0, fun x => x⟩
theorem zaM : Lays.n105 PG zf3 := ⟨by kernel_rfl, by kernel_rfl, by kernel_rfl, by kernel_rfl, by kernel_rfl, by kernel_rfl, by kernel_rfl, by kernel_rfl, by kernel_rfl, by kernel_rfl, by kernel_rfl, by kernel_rfl, by kernel_rfl, by kernel_rfl, by kernel_rfl, by kernel_rfl, fun w => by kernel_rfl, fun w => by kernel_rfl, fun w => by kernel_rfl, by kernel_rfl, fun w => by kernel_rfl, fun w => by kernel_rfl, fun w => by kernel_rfl, by kernel_rfl, fun w => by kernel_rfl, fun w => by kernel_rfl, fun w => by kernel_rfl, by kernel_rfl, fun w => by kernel_rfl, fun w => by kernel_rfl, fun w => by kernel_rfl, by kernel_rfl, fun w => by kernel_rfl, fun w => by kernel_rfl, fun w => by kernel_rfl, by kernel_rfl, fun w => by kernel_rfl, fun w => by kernel_rfl, fun w => by kernel_rfl, by kernel_rfl, fun w => by kernel_rfl, fun w => by kernel_rfl, fun w => by kernel_rfl, by kernel_rfl, fun w => by kernel_rfl, fun w => by kernel_rfl, fun w => by kernel_rfl, by kernel_rfl, fun w => by kernel_rfl, fun w => by kernel_rfl, fun w => by kernel_rfl, by kernel_rfl, fun w => by kernel_rfl, fun w => by kernel_rfl, fun w => by kernel_rfl, by kernel_rfl, fun w => by kernel_rfl, fun w => by kernel_rfl, fun w => by kernel_rfl, by kernel_rfl, fun w => by kernel_rfl, fun w => by kernel_rfl, fun w => by kernel_rfl, by kernel_rfl, fun w => by kernel_rfl, fun w => by kernel_rfl, fun w => by kernel_rfl, by kernel_rfl, fun w => by kernel_rfl, fun w => by kernel_rfl, fun w => by kernel_rfl, by kernel_rfl, fun w => by kernel_rfl, fun w => by kernel_rfl, fun w => by kernel_rfl, by kernel_rfl, fun w => by kernel_rfl, fun w => by kernel_rfl, fun w => by kernel_rfl, by kernel_rfl, fun w => by kernel_rfl, fun w => by kernel_rfl, fun w => by kernel_rfl, by kernel_rfl, fun w => by kernel_rfl, fun w => by kernel_rfl, fun w => by kernel_rfl, by kernel_rfl, fun w => by kernel_rfl, fun w => by kernel_rfl, fun w => by kernel_rfl⟩
theorem zkU : Builder.Extra PG zf3 := { sizeBuilder := by kernel_rfl, liesBuilder := by kernel_rfl, t5 := zaM.t5, a5 := zaM.a5, z5 := zaM.z5, v5 := zaM.v5, infoByte := by kernel_rfl, cellsByte := by kernel_rfl, sizeByte := by kernel_rfl, neB5 := by decide }
theorem repF : zf3.f 105 = W7 := by kernel_rfl
open Go Go.RowKit
theorem Rel.below {B : RO} {F : Fr} {h : Heap} {w w' : World} (R : Rel B F h w) (b : Below w.heap.size w w') : Rel B F h w' := by
 obtain ⟨own, R⟩ := R
 obtain ⟨b1, b2, b3, b4, hk⟩ := b
 exact ⟨own, b1.trans R.os, b2.trans R.tape, b3.trans R.output, Nat.le_trans R.low b4, fun c o hc => ⟨(hk c (wt (R.fr c o hc).1)).trans (R.fr c o hc).1, (R.fr c o hc).2⟩,
  fun c o hc => ⟨(hk c (wt (R.ro c o hc).1)).trans (R.ro c o hc).1, (R.ro c o hc).2⟩, fun c o hc => ⟨(R.obj c o hc).1, (R.obj c o hc).2.keep (hk c (R.obj c o hc).2.lt) (fun k i h' => ⟨h', hk k (R.owned k _ h')⟩)⟩,
  fun k p hk' => Nat.lt_of_lt_of_le (R.owned k p hk') b4⟩
theorem Spec.below {P : Program} {B : RO} {f : FuncId} {args : Array Value} {h : Heap} {v0 : Value} {Q : Value → Heap → Prop} (hc : ∀ w, Calls P f args w fun e w' => e = .returned v0 ∧ Below w.heap.size w w') (hQ : Q v0 h) : Spec P B f args h Q := by
 intro F w R
 refine (hc w).mono ?_
 rintro e w' ⟨rfl, bel⟩
 exact ⟨v0, h, rfl, R.below bel, hQ⟩
section
variable {B : RO} {h h0 : Heap} {L : List (Option (Nat × AObj))} {b : Bool} {s : ByteArray}
theorem zjW {n : Nat} (hn : n ≤ 100000) {Q : ByteArray → Heap → Prop} (hQ : Q (ba (List.replicate n 0)) h) : XJ B (ByteArray.mk #[0]) (n : Int) h Q := by
 unfold XJ
 refine Spec.below (v0 := .string (ba (List.replicate n 0))) (fun w => ?_) ⟨_, rfl, hQ⟩
 have hc := Any.strings_Repeat zaM zkU (ByteArray.mk #[0]) n w (by omega) (by show 1 * n ≤ _; omega)
 rw [repF] at hc
 refine hc.mono fun e w' ⟨he, hb⟩ => ⟨?_, hb⟩
 rw [he]
 have := Lib.repeatL_replicate 0 1 n
 rw [Nat.mul_one] at this
 have e1 : (ByteArray.mk #[0]).data.toList = List.replicate 1 0 := rfl
 rw [e1, this]; rfl
theorem zlV {s : ByteArray} {n : Nat} (h : n ≤ s.size) : s.extract 0 n = ba (cutT (bl s) n) := by
 refine zfH ?_
 rw [ziG, bl_ba, cutT, zai (by rw [wr]; exact h)]; simp
theorem zll {s : ByteArray} {n : Nat} (h : s.size ≤ n) : s ++ ba (List.replicate (n - s.size) 0) = ba (cutT (bl s) n) := by
 refine zfH ?_
 rw [zeq, bl_ba, bl_ba, cutT, List.take_of_length_le (by rw [zbk, wr]; omega), padT, wr]
theorem zlq {n : Int} (hs : s.size ≤ 1000000) {Q : Bool → ByteArray → Heap → Prop} (hQ : ∀ h', Wk B h h' → Q (cutF (b, s) n).1 (cutF (b, s) n).2 h') : X8 B b s n h Q := by
 refine X8.of ?_
 unfold zc2
 intro k7 a7 b7 h8 e8 k9 a9 b9 h10 e10
 have E := ((Keep.nil B h).made a7 b7 e8).made a9 b9 e10
 have E : Keep B h [some (k7, fiO (b, s)), some (k9, fiO (false, ByteArray.empty))] h10 := E
 have done : ¬ (b = true ∧ 0 ≤ n ∧ n ≤ 32) → ∃ b45 : Bool, ∃ s46 : ByteArray, za B h10 ⟨k7, 0, none⟩ 0 [(.bool b45), (.string s46)] ∧ ∃ h47 : Heap, zi ⟨k9, 0, none⟩ h10 0 [(.bool b45), (.string s46)] h47 ∧
   ∃ b48 : Bool, ∃ s49 : ByteArray, za B h47 ⟨k9, 0, none⟩ 0 [(.bool b48), (.string s49)] ∧ Fin B h47 (Q (b48) s49) := fun hn => by
  unfold cutF at hQ
  rw [if_neg hn] at hQ
  refine ⟨b, s, ⟨E.cell 0 rfl (j := 0) rfl, E.cell 0 rfl (j := 1) rfl, trivial⟩, _, zv (E.at 1 rfl) rfl (by simp) (by simp [isOne]) (by simp), ?_⟩
  have E1 := E.put (o' := fiO (b, s)) 1 rfl
  exact ⟨_, _, ⟨E1.cell 1 rfl (j := 0) rfl, E1.cell 1 rfl (j := 1) rfl, trivial⟩, Fin.of (hQ _ E1.w)⟩
 refine ⟨b, E.cell 0 rfl (j := 0) rfl, fun hb => ⟨fun hlt => done (by omega), fun hge => ⟨fun h32 => done (by omega), fun hlt => Fin.of ?_⟩⟩, fun hb => done (by simp [hb])⟩
 clear done
 have hin : b = true ∧ 0 ≤ n ∧ n ≤ 32 := ⟨hb, by omega, by omega⟩
 unfold cutF at hQ
 rw [if_pos hin] at hQ
 obtain ⟨k, rfl⟩ := Int.eq_ofNat_of_zero_le hin.2.1
 rw [Int.toNat_natCast] at hQ
 unfold W4
 refine ⟨s, E.cell 0 rfl (j := 1) rfl, fun hle => ⟨s, E.cell 0 rfl (j := 1) rfl, by omega, by omega, hle, ?_⟩, fun hgt => ⟨s, E.cell 0 rfl (j := 1) rfl, s, E.cell 0 rfl (j := 1) rfl, ?_⟩⟩
 ·rw [show Int.toNat 0 = 0 from rfl, Int.toNat_natCast, zlV (by omega)]
  refine ⟨_, zv (E.at 1 rfl) rfl (by simp) (by simp [isOne]) (by simp), ?_⟩
  have E1 := E.put (o' := fiO (true, ba (cutT (bl s) k))) 1 rfl
  exact ⟨_, _, ⟨E1.cell 1 rfl (j := 0) rfl, E1.cell 1 rfl (j := 1) rfl, trivial⟩, Fin.of (hQ _ E1.w)⟩
 ·have e1 : IntKind.wrap .i64 ((k : Int) - (s.size : Nat)) = ((k - s.size : Nat) : Int) := by rw [w64 (by omega) (by omega)]; omega
  rw [e1]
  refine zjW (by omega) ⟨E.cell 0 rfl (j := 1) rfl, E.cell 0 rfl (j := 1) rfl, by rw [WB, List.length_replicate]; omega, ?_⟩
  rw [zll (by omega)]
  refine ⟨_, zv (E.at 1 rfl) rfl (by simp) (by simp [isOne]) (by simp), ?_⟩
  have E1 := E.put (o' := fiO (true, ba (cutT (bl s) k))) 1 rfl
  exact ⟨_, _, ⟨E1.cell 1 rfl (j := 0) rfl, E1.cell 1 rfl (j := 1) rfl, trivial⟩, Fin.of (hQ _ E1.w)⟩
theorem zky {s : ByteArray} {i : Nat} (h : i < s.size) : ∃ b, (bl s)[i]? = some b ∧ x4 s i = ((b.toNat : Nat) : Int) := by
 refine ⟨s[i], ?_, by unfold x4; rw [dif_pos h]⟩
 unfold bl
 have : i < s.data.toList.length := by simpa using h
 rw [List.getElem?_eq_getElem this]
 simp [ByteArray.getElem_eq_getElem_data]
def atR (l : List UInt8) (i : Nat) : Int := match l[i]? with
 | some c => ((c.toNat : Nat) : Int)
 | none => -1
theorem zhl (l : List UInt8) (i : Nat) : (if (0 : Int) > atR l i then (0 : Int) else atR l i) = (((WX l i).toNat : Nat) : Int) := by
 unfold atR WX
 cases l[i]? with
 | none => rfl
 | some c => simp only [Option.getD_some]; rw [if_neg (by omega)]
theorem zf2 {i : Nat} (hi : i ≤ 1000000) (hs : s.size ≤ 1000000) {Q : Int → Heap → Prop} (hQ : ∀ h', Wk B h h' → Q (atR (bl s) i) h') : yR B b s i h Q := by
 refine yR.of ?_
 unfold Ym
 intro k5 a5 b5 h6 e6
 have E : Keep B h [some (k5, frfO (b, s))] h6 := (Keep.nil B h).made a5 b5 e6
 refine ⟨fun ix m h' => ∃ j : Nat, ix = j ∧ m = s.size - j ∧ (j ≤ i ∨ s.size ≤ i) ∧ j ≤ s.size ∧ Keep B h [some (k5, frfO (b, s))] h', s.size, Fin.of ⟨0, rfl, rfl, by omega, by omega, E⟩, ?_⟩
 clear E
 rintro _ _ h8 ⟨j, rfl, rfl, hj, hjs, E⟩
 refine ⟨s, E.cell 0 rfl (j := 1) rfl, fun hlt => ⟨fun he => ⟨s, E.cell 0 rfl (j := 1) rfl, by omega, hlt, Fin.of ?_⟩, fun hne => Fin.of ⟨s.size - (j + 1), by omega, j + 1, by rw [w64 (by omega) (by omega)]; omega, rfl, by omega, by omega, E⟩⟩, fun hge => Fin.of ?_⟩
 ·obtain ⟨c, h1, h2⟩ := zky (s := s) (i := j) (by omega)
  have hji : j = i := by omega
  subst hji
  rw [Int.toNat_natCast, h2, w64 (by omega) (by have := c.toNat_lt; omega)]
  have e3 : atR (bl s) j = ((c.toNat : Nat) : Int) := by rw [atR, h1]
  rw [← e3]
  exact hQ _ E.w
 ·have e3 : atR (bl s) i = -1 := by rw [atR, List.getElem?_eq_none (by rw [wr]; omega)]
  rw [← e3]
  exact hQ _ E.w
theorem zjS {at' v : Int} {c : UInt8} (hv : v = ((c.toNat : Nat) : Int)) (hs : s.size ≤ 100000) {Q : Bool → ByteArray → Heap → Prop} (hQ : ∀ h', Wk B h h' → Q (putF (b, s) at' c).1 (putF (b, s) at' c).2 h') : wy B b s at' v h Q := by
 refine wy.of ?_
 unfold XD
 intro k7 a7 b7 h8 e8 k9 a9 b9 h10 e10
 have E := ((Keep.nil B h).made a7 b7 e8).made a9 b9 e10
 have E : Keep B h [some (k7, frfO (b, s)), some (k9, frfO (false, ByteArray.empty))] h10 := E
 have done : ¬ (0 ≤ at' ∧ at' < 32) → ∃ b45 : Bool, ∃ s46 : ByteArray, za B h10 ⟨k7, 0, none⟩ 0 [(.bool b45), (.string s46)] ∧ ∃ h47 : Heap, zi ⟨k9, 0, none⟩ h10 0 [(.bool b45), (.string s46)] h47 ∧
   ∃ b48 : Bool, ∃ s49 : ByteArray, za B h47 ⟨k9, 0, none⟩ 0 [(.bool b48), (.string s49)] ∧ Fin B h47 (Q (b48) s49) := fun hn => by
  unfold putF at hQ
  rw [if_neg hn] at hQ
  refine ⟨b, s, ⟨E.cell 0 rfl (j := 0) rfl, E.cell 0 rfl (j := 1) rfl, trivial⟩, _, zv (E.at 1 rfl) rfl (by simp) (by simp [isOne]) (by simp), ?_⟩
  have E1 := E.put (o' := frfO (b, s)) 1 rfl
  exact ⟨_, _, ⟨E1.cell 1 rfl (j := 0) rfl, E1.cell 1 rfl (j := 1) rfl, trivial⟩, Fin.of (hQ _ E1.w)⟩
 refine ⟨fun hlt => done (by omega), fun hge => ⟨fun h32 => done (by omega), fun hlt => Fin.of ?_⟩⟩
 clear done
 have hin : 0 ≤ at' ∧ at' < 32 := by omega
 obtain ⟨k, rfl⟩ := Int.eq_ofNat_of_zero_le hin.1
 unfold putF at hQ
 rw [if_pos hin, Int.toNat_natCast] at hQ
 unfold vY
 have hpl : (putT (bl s) k c).length = max s.size (k + 1) := by rw [zfZ, wr]
 refine ⟨fun t ix m h' => ∃ j : Nat, ix = j ∧ m = max s.size (k + 1) - j ∧ j ≤ max s.size (k + 1) ∧ t = ba ((putT (bl s) k c).take j) ∧ Keep B h [some (k7, frfO (b, s)), some (k9, frfO (false, ByteArray.empty))] h', _, Fin.of ⟨0, rfl, rfl, by omega, rfl, E⟩, ?_⟩
 clear E
 rintro _ _ _ h15 ⟨j, rfl, rfl, hj, rfl, E⟩
 have step : j < max s.size (k + 1) → xZ B (k : Int) v k7 k9 (ba ((putT (bl s) k c).take j)) (j : Int) (max s.size (k + 1) - j) (fun t ix m h' => ∃ j : Nat, ix = j ∧ m = max s.size (k + 1) - j ∧ j ≤ max s.size (k + 1) ∧ t = ba ((putT (bl s) k c).take j) ∧ Keep B h [some (k7, frfO (b, s)), some (k9, frfO (false, ByteArray.empty))] h') h15 Q := fun hlt => by
  unfold xZ
  refine ⟨b, s, ⟨E.cell 0 rfl (j := 0) rfl, E.cell 0 rfl (j := 1) rfl, trivial⟩, zf2 (by omega) (by omega) fun h24 w => ?_⟩
  have E1 := E.wk w
  have last : ∀ (x : Int) (u : UInt8), x = ((u.toNat : Nat) : Int) → (putT (bl s) k c)[j]? = some u → x1 B (k : Int) v k7 k9 (ba ((putT (bl s) k c).take j)) (j : Int) (max s.size (k + 1) - j) (fun t ix m h' => ∃ j : Nat, ix = j ∧ m = max s.size (k + 1) - j ∧ j ≤ max s.size (k + 1) ∧ t = ba ((putT (bl s) k c).take j) ∧ Keep B h [some (k7, frfO (b, s)), some (k9, frfO (false, ByteArray.empty))] h') x h24 Q := fun x u hx hu => by
   unfold x1
   intro k29 a29 b29 h30 e30
   have E2 := E1.made a29 b29 e30
   refine zdB (u := u) E2.last ?_ ⟨_, rfl, ?_, Fin.of ⟨max s.size (k + 1) - (j + 1), by omega, j + 1, by rw [w64 (by omega) (by omega)]; omega, rfl, by omega, ?_, E2.take 2⟩⟩
   ·rw [wu8, hx]; have := u.toNat_lt; omega
   ·rw [WB, WB, List.length_take]; simp only [List.length_cons, List.length_nil]; omega
   ·have e3 : (putT (bl s) k c).take (j + 1) = (putT (bl s) k c).take j ++ [u] := by
     obtain ⟨h5, h6⟩ := List.getElem?_eq_some_iff.1 hu
     rw [List.take_succ_eq_append_getElem h5, h6]
    rw [e3, zep]
  have hg := zkR (l := bl s) (k := k) (i := j) (c := c) (by rw [wr]; exact hlt)
  refine ⟨fun he => Fin.of (last _ c (by rw [hv, w64 (by omega) (by have := c.toNat_lt; omega)]) ?_), fun hne => Fin.of (last _ (WX (bl s) j) (zhl _ _) ?_)⟩
  ·rw [if_pos (by omega)] at hg; exact hg
  ·rw [if_neg (by omega)] at hg; exact hg
 refine ⟨s, E.cell 0 rfl (j := 1) rfl, fun hlt => Fin.of (step (by omega)), fun hge => ⟨fun hle => Fin.of (step (by omega)), fun hgt => ?_⟩⟩
 have : j = max s.size (k + 1) := by omega
 rw [List.take_of_length_le (by rw [hpl]; omega)]
 refine ⟨_, zv (E.at 1 rfl) rfl (by simp) (by simp [isOne]) (by simp), ?_⟩
 have E1 := E.put (o' := frfO (true, ba (putT (bl s) k c))) 1 rfl
 exact ⟨_, _, ⟨E1.cell 1 rfl (j := 0) rfl, E1.cell 1 rfl (j := 1) rfl, trivial⟩, Fin.of (hQ _ E1.w)⟩
theorem zjR {n : Int} (hs : s.size ≤ 100000) {Q : Bool → ByteArray → Heap → Prop} (hQ : ∀ h', Wk B h h' → Q (cutF (b, s) n).1 (cutF (b, s) n).2 h') : wx B b s n h Q := by
 refine wx.of ?_
 unfold XC
 intro k7 a7 b7 h8 e8 k9 a9 b9 h10 e10
 have E := ((Keep.nil B h).made a7 b7 e8).made a9 b9 e10
 have E : Keep B h [some (k7, frfO (b, s)), some (k9, frfO (false, ByteArray.empty))] h10 := E
 have done : ¬ (b = true ∧ 0 ≤ n ∧ n ≤ 32) → ∃ b45 : Bool, ∃ s46 : ByteArray, za B h10 ⟨k7, 0, none⟩ 0 [(.bool b45), (.string s46)] ∧ ∃ h47 : Heap, zi ⟨k9, 0, none⟩ h10 0 [(.bool b45), (.string s46)] h47 ∧
   ∃ b48 : Bool, ∃ s49 : ByteArray, za B h47 ⟨k9, 0, none⟩ 0 [(.bool b48), (.string s49)] ∧ Fin B h47 (Q (b48) s49) := fun hn => by
  unfold cutF at hQ
  rw [if_neg hn] at hQ
  refine ⟨b, s, ⟨E.cell 0 rfl (j := 0) rfl, E.cell 0 rfl (j := 1) rfl, trivial⟩, _, zv (E.at 1 rfl) rfl (by simp) (by simp [isOne]) (by simp), ?_⟩
  have E1 := E.put (o' := frfO (b, s)) 1 rfl
  exact ⟨_, _, ⟨E1.cell 1 rfl (j := 0) rfl, E1.cell 1 rfl (j := 1) rfl, trivial⟩, Fin.of (hQ _ E1.w)⟩
 refine ⟨b, E.cell 0 rfl (j := 0) rfl, fun hb => ⟨fun hlt => done (by omega), fun hge => ⟨fun h32 => done (by omega), fun hlt => Fin.of ?_⟩⟩, fun hb => done (by simp [hb])⟩
 clear done
 have hin : b = true ∧ 0 ≤ n ∧ n ≤ 32 := ⟨hb, by omega, by omega⟩
 unfold cutF at hQ
 rw [if_pos hin] at hQ
 obtain ⟨k, rfl⟩ := Int.eq_ofNat_of_zero_le hin.2.1
 rw [Int.toNat_natCast] at hQ
 unfold vX
 refine ⟨fun t ix m h' => ∃ j : Nat, ix = j ∧ m = k - j ∧ j ≤ k ∧ t = ba ((cutT (bl s) k).take j) ∧ Keep B h [some (k7, frfO (b, s)), some (k9, frfO (false, ByteArray.empty))] h', _, Fin.of ⟨0, rfl, rfl, by omega, rfl, E⟩, ?_⟩
 clear E
 rintro _ _ _ h14 ⟨j, rfl, rfl, hj, rfl, E⟩
 refine ⟨fun hlt => ?_, fun hge => ?_⟩
 ·refine ⟨b, s, ⟨E.cell 0 rfl (j := 0) rfl, E.cell 0 rfl (j := 1) rfl, trivial⟩, zf2 (by omega) (by omega) fun h24 w => ?_⟩
  have E1 := E.wk w
  intro k29 a29 b29 h30 e30
  have E2 := E1.made a29 b29 e30
  have hg := zkC (l := bl s) (n := k) (i := j) (by omega)
  rw [zhl] at E2
  refine zdB (u := WX (bl s) j) E2.last ?_ ⟨_, rfl, ?_, Fin.of ⟨k - (j + 1), by omega, j + 1, by rw [w64 (by omega) (by omega)]; omega, rfl, by omega, ?_, E2.take 2⟩⟩
  ·rw [wu8]; have := (WX (bl s) j).toNat_lt; omega
  ·rw [WB, WB, List.length_take]; simp only [List.length_cons, List.length_nil]; omega
  ·have e3 : (cutT (bl s) k).take (j + 1) = (cutT (bl s) k).take j ++ [WX (bl s) j] := by
    obtain ⟨h5, h6⟩ := List.getElem?_eq_some_iff.1 hg
    rw [List.take_succ_eq_append_getElem h5, h6]
   rw [e3, zep]
 ·have : j = k := by omega
  rw [List.take_of_length_le (by rw [zfJ]; omega)]
  refine ⟨_, zv (E.at 1 rfl) rfl (by simp) (by simp [isOne]) (by simp), ?_⟩
  have E1 := E.put (o' := frfO (true, ba (cutT (bl s) k))) 1 rfl
  exact ⟨_, _, ⟨E1.cell 1 rfl (j := 0) rfl, E1.cell 1 rfl (j := 1) rfl, trivial⟩, Fin.of (hQ _ E1.w)⟩
end
def inR (n : Int) : Bool := decide (0 ≤ n ∧ n < 6)
theorem inR_t {n : Int} (h : inR n = true) : 0 ≤ n ∧ n < 6 := of_decide_eq_true h
theorem inR_f {n : Int} (h : inR n = false) : ¬ (0 ≤ n ∧ n < 6) := of_decide_eq_false h
def upS (l : FL) (d : DFL) (n : Int) (f : FileS) : DFL := if inR n = true then putS l d n f else d
def f0 : FileS := (false, ByteArray.empty)
structure SOk (l : FL) (d : DFL) : Prop where
 s : SortD d
 k : ∀ x ∈ d, (0 ≤ x.1 ∧ x.1 < 6) ∧ goodF x.2.1 x.2.2 = true
 l6 : l.length = 6
 g : ∀ y ∈ l, goodF y.1.1 y.1.2 = true
theorem zj4 : ∀ (d : DFL) (a : Nat), SortD d → (∀ x ∈ d, (a : Int) ≤ x.1 ∧ x.1 < 6) → d.length ≤ 6 - a := by
 intro d
 induction d with
 | nil => intro a _ _; simp
 | cons x d ih =>
  intro a s h
  obtain ⟨h1, h2⟩ := h x (by simp)
  obtain ⟨s1, s2⟩ := List.pairwise_cons.1 s
  have := ih (a + 1) s2 (fun y hy => ⟨by have := s1 y hy; omega, (h y (by simp [hy])).2⟩)
  simp only [List.length_cons]; omega
theorem SOk.len {l : FL} {d : DFL} (o : SOk l d) : d.length ≤ 6 := zj4 d 0 o.s fun x hx => (o.k x hx).1
theorem zlj {d : DFL} {n : Int} {f : FileS} (h : atD d n = some f) : ∃ x ∈ d, x.1 = n ∧ x.2 = f := by
 unfold atD at h
 cases hf : d.find? (fun x => x.1 == n) with
 | none => rw [hf] at h; cases h
 | some x =>
  rw [hf] at h
  have h1 := List.find?_some hf
  exact ⟨x, List.mem_of_find?_eq_some hf, by simpa using h1, by simpa using h⟩
theorem SOk.fat {l : FL} {d : DFL} (o : SOk l d) (n : Int) : goodF (yl l n).1.1 (yl l n).1.2 = true := by
 by_cases h : 0 ≤ n ∧ n < (l.length : Int)
 ·rw [WZ h.1 (by omega)]; exact o.g _ (List.getElem_mem _)
 ·rw [Xj h]; rfl
theorem SOk.good {l : FL} {d : DFL} (o : SOk l d) (n : Int) : goodF (getS l d n).1.1 (getS l d n).1.2 = true := by
 cases h : atD d n with
 | none => rw [X3 h]; exact o.fat n
 | some f =>
  rw [X4 h]
  obtain ⟨x, hx, _, rfl⟩ := zlj h
  exact (o.k x hx).2
theorem YI {b : Bool} {s : ByteArray} (h : goodF b s = true) : s.size ≤ 32 := by unfold goodF at h; simp at h; exact h.1
theorem zag {f : FileS} (h : goodF f.1 f.2 = true) (n : Int) (c : UInt8) : goodF (putF f n c).1 (putF f n c).2 = true := by
 unfold putF
 split
 ·rename_i hn
  have := YI h
  unfold goodF
  rw [WB, zfZ, wr, decide_eq_true (by omega)]; rfl
 ·exact h
theorem zaf {f : FileS} (h : goodF f.1 f.2 = true) (n : Int) : goodF (cutF f n).1 (cutF f n).2 = true := by
 unfold cutF
 split
 ·rename_i hn
  unfold goodF
  rw [WB, zfJ, decide_eq_true (by omega)]; rfl
 ·exact h
theorem Vx {f : FileS} (h : goodF f.1 f.2 = true) : goodF true f.2 = true := by
 have := YI h
 unfold goodF; rw [decide_eq_true this]; rfl
theorem SOk.up {l : FL} {d : DFL} (o : SOk l d) {n : Int} {f : FileS} (g : goodF f.1 f.2 = true) : SOk l (upS l d n f) := by
 unfold upS putS
 split
 ·rename_i hn
  have hn := inR_t hn
  split
  ·exact o
  ·refine ⟨o.s.ins, fun x hx => ?_, o.l6, o.g⟩
   rcases zbg hx with rfl | hx
   ·exact ⟨hn, g⟩
   ·exact o.k x hx
 ·exact o
def renS (l : FL) (d : DFL) (a b : Int) : DFL := if (inR a && inR b && (getS l d a).1.1 && decide (a ≠ b)) = true then putS l (putS l d b (getS l d a).1) a f0 else d
theorem SOk.ren {l : FL} {d : DFL} (o : SOk l d) (a b : Int) : SOk l (renS l d a b) := by
 unfold renS
 split
 ·rename_i h
  simp only [Bool.and_eq_true] at h
  have h1 := o.up (n := b) (o.good a)
  have h2 := h1.up (n := a) (f := f0) rfl
  unfold upS at h1 h2
  rw [if_pos h.1.1.2] at h1 h2
  rw [if_pos h.1.1.1] at h2
  exact h2
 ·exact o
section
variable {B : RO} {h0 h h' : Heap} {L : List (Option (Nat × AObj))} {r rd : Option (Nat × AObj)} {v vd : Value} {l z : FL} {d : DFL} {n : Int} {x : ShI} {f : FileS}
theorem Keep.nP {M : List (Option (Nat × AObj))} {k : Nat} {o : AObj} (E : Keep B h0 (L ++ M) h) (hk : h k = none) (hb : B k = none) (e : h' = h.set k o) : Keep B h0 ((L ++ [some (k, o)]) ++ M) h' := by
 refine (E.made hk hb e).remap (fun j => if j < L.length then j else if j = L.length then L.length + M.length else j - 1) (fun j y hy => ?_) (fun i j hi hj e => ?_)
 ·by_cases h1 : j < L.length
  ·simp only [if_pos h1]
   rw [List.append_assoc, List.getElem?_append_left h1] at hy
   rw [List.append_assoc, List.getElem?_append_left h1]; exact hy
  ·simp only [if_neg h1]
   by_cases h2 : j = L.length
   ·simp only [if_pos h2]
    subst h2
    rw [List.append_assoc, List.getElem?_append_right (Nat.le_refl _), Nat.sub_self] at hy
    rw [List.getElem?_append_right (by rw [List.length_append]; omega), List.length_append, Nat.sub_self]; exact hy
   ·simp only [if_neg h2]
    rw [List.append_assoc, List.getElem?_append_right (by omega), List.getElem?_append_right (by simp only [List.length_cons, List.length_nil]; omega)] at hy
    refine zO _ ?_
    rw [List.getElem?_append_right (by omega), show j - 1 - L.length = j - L.length - [some (k, o)].length by simp only [List.length_cons, List.length_nil]; omega]; exact hy
 ·simp only [List.length_append, List.length_cons, List.length_nil] at hi hj
  split at e <;> split at e <;> (try split at e) <;> (try split at e) <;> omega
theorem Keep.dP {M : List (Option (Nat × AObj))} {y : Option (Nat × AObj)} (E : Keep B h0 ((L ++ [y]) ++ M) h) : Keep B h0 (L ++ M) h := by
 rw [List.append_assoc] at E; exact E.dropMid
theorem WF {Q : Bool → Heap → Prop} (E : Keep B h0 (L ++ x.m vd rd) h) (R : FRow x.rt x.vt l) (Rd : zV rd vd d) (o : SOk l d)
  (hQ : ∀ vd' rd' h', zV rd' vd' (upS l d n f) → Keep B h0 (L ++ x.m vd' rd') h' → Q (inR n) h') : yM B (some ⟨x.ks, 0, none⟩) (some ⟨x.kT, 0, none⟩) n f.1 f.2 h Q := by
 have hl := o.len
 by_cases hn : inR n = true
 ·unfold upS at hQ
  rw [hn, if_pos rfl] at hQ
  exact zlM (f := f) E R Rd o.s (by omega) (inR_t hn) hQ
 ·have hn : inR n = false := by simpa using hn
  have hn' := inR_f hn
  unfold upS at hQ
  rw [hn, if_neg (by decide)] at hQ
  refine yM.of ?_
  unfold Xs
  intro k7 a7 b7 h8 e8
  have E1 := (E.made a7 b7 e8).pop
  exact ⟨fun e => (by cases e), fun _ => ⟨fun hlt => Fin.of (hQ _ _ _ Rd E1), fun hge => ⟨fun h6 => Fin.of (hQ _ _ _ Rd E1), fun hlt => by omega⟩⟩⟩
theorem zkc {a : Int} {w : Int} {c : UInt8} (hw : w = ((c.toNat : Nat) : Int)) {Q : Bool → Heap → Prop} (E : Keep B h0 (L ++ x.m vd rd) h) (R : FRow x.rt x.vt l) (Rd : zV rd vd d) (o : SOk l d)
  (hQ : ∀ vd' rd' h', zV rd' vd' (upS l d n (putF (getS l d n).1 a c)) → Keep B h0 (L ++ x.m vd' rd') h' → Q (inR n) h') : vi B (some ⟨x.ks, 0, none⟩) (some ⟨x.kT, 0, none⟩) n a w h Q := by
 have hl := o.len
 refine vi.of ?_
 unfold WA
 refine VE E R Rd o.s (by omega) fun h6 E1 => ?_
 intro k10 a10 b10 h11 e11
 have E2 := E1.nM a10 b10 e11
 refine ⟨_, zv (E2.gM 6 rfl) rfl (by simp) (by simp [isOne]) (by simp), ?_⟩
 have E3 := E2.pM (o' := fO (getS l d n).1) 6 rfl
 refine ⟨_, _, ⟨E3.cM 6 rfl (i := 0) rfl, E3.cM 6 rfl (i := 1) rfl, trivial⟩, zlu hw (by have := YI (o.good n); omega) fun h14 wk => ?_⟩
 have E4 := (E3.wk wk).tM 6
 exact WF (f := putF (getS l d n).1 a c) E4 R Rd o fun v1 r1 h17 R1 E5 => Fin.of (hQ v1 r1 _ R1 E5)
theorem zlK {a : Int} {Q : Bool → Heap → Prop} (E : Keep B h0 (L ++ x.m vd rd) h) (R : FRow x.rt x.vt l) (Rd : zV rd vd d) (o : SOk l d)
  (hQ : ∀ vd' rd' h', zV rd' vd' (upS l d n (cutF (getS l d n).1 a)) → Keep B h0 (L ++ x.m vd' rd') h' → Q (inR n) h') : vQ B (some ⟨x.ks, 0, none⟩) (some ⟨x.kT, 0, none⟩) n a h Q := by
 have hl := o.len
 refine vQ.of ?_
 unfold Vd
 refine VE E R Rd o.s (by omega) fun h6 E1 => ?_
 intro k10 a10 b10 h11 e11
 have E2 := E1.nM a10 b10 e11
 refine ⟨_, zv (E2.gM 6 rfl) rfl (by simp) (by simp [isOne]) (by simp), ?_⟩
 have E3 := E2.pM (o' := fO (getS l d n).1) 6 rfl
 refine ⟨_, _, ⟨E3.cM 6 rfl (i := 0) rfl, E3.cM 6 rfl (i := 1) rfl, trivial⟩, zlq (by have := YI (o.good n); omega) fun h14 wk => ?_⟩
 have E4 := (E3.wk wk).tM 6
 exact WF (f := cutF (getS l d n).1 a) E4 R Rd o fun v1 r1 h17 R1 E5 => Fin.of (hQ v1 r1 _ R1 E5)
theorem zg6 {Q : Bool → Heap → Prop} (E : Keep B h0 (L ++ x.m vd rd) h) (R : FRow x.rt x.vt l) (Rd : zV rd vd d) (o : SOk l d)
  (hQ : ∀ vd' rd' h', zV rd' vd' (upS l d n (true, (getS l d n).1.2)) → Keep B h0 (L ++ x.m vd' rd') h' → Q (inR n) h') : wR B (some ⟨x.ks, 0, none⟩) (some ⟨x.kT, 0, none⟩) n h Q := by
 have hl := o.len
 refine wR.of ?_
 unfold Wf
 refine VE E R Rd o.s (by omega) fun h5 E1 => ?_
 intro k9 a9 b9 h10 e10
 have E2 := E1.nM a9 b9 e10
 refine ⟨_, zv (E2.gM 6 rfl) rfl (by simp) (by simp [isOne]) (by simp), ?_⟩
 have E3 := E2.pM (o' := fO (getS l d n).1) 6 rfl
 refine ⟨_, _, ⟨E3.cM 6 rfl (i := 0) rfl, E3.cM 6 rfl (i := 1) rfl, trivial⟩, zlz fun h14 w => ?_⟩
 have E4 := (E3.wk w).tM 6
 exact WF (f := (true, (getS l d n).1.2)) E4 R Rd o fun v1 r1 h17 R1 E5 => Fin.of (hQ v1 r1 _ R1 E5)
theorem zi1 {Q : Bool → Heap → Prop} (E : Keep B h0 (L ++ x.m vd rd) h) (R : FRow x.rt x.vt l) (Rd : zV rd vd d) (o : SOk l d)
  (hQ : ∀ vd' rd' h', zV rd' vd' (upS l d n f0) → Keep B h0 (L ++ x.m vd' rd') h' → Q (inR n) h') : wT B (some ⟨x.ks, 0, none⟩) (some ⟨x.kT, 0, none⟩) n h Q := by
 refine wT.of ?_
 unfold Wg
 exact WF (f := f0) E R Rd o fun v1 r1 h17 R1 E5 => Fin.of (hQ v1 r1 _ R1 E5)
theorem zhc {a b : Int} {Q : Bool → Heap → Prop} (E : Keep B h0 (L ++ x.m vd rd) h) (R : FRow x.rt x.vt l) (Rd : zV rd vd d) (o : SOk l d)
  (hQ : ∀ vd' rd' h', zV rd' vd' (renS l d a b) → Keep B h0 (L ++ x.m vd' rd') h' → Q (inR a && inR b) h') : wU B (some ⟨x.ks, 0, none⟩) (some ⟨x.kT, 0, none⟩) a b h Q := by
 have hl := o.len
 refine wU.of ?_
 unfold Wh
 refine VE E R Rd o.s (by omega) fun h6 E1 => ?_
 intro k10 a10 b10 h11 e11
 have E2 := E1.nM a10 b10 e11
 refine ⟨_, zv (E2.gM 6 rfl) rfl (by simp) (by simp [isOne]) (by simp), fun e => (by cases e), fun _ => ?_⟩
 have E3 := E2.pM (o' := fO (getS l d a).1) 6 rfl
 have out : (inR a && inR b) = false → yy B (some ⟨x.ks, 0, none⟩) (some ⟨x.kT, 0, none⟩) a b k10 true (h11.set k10 (fO (getS l d a).1)) Q := fun hn => by
  unfold yy
  have hd : renS l d a b = d := by unfold renS; rw [if_neg (by rw [hn]; simp)]
  rw [hd, hn] at hQ
  exact ⟨fun _ => Fin.of (hQ _ _ _ Rd (E3.tM 6)), fun e => by cases e⟩
 have nota : ¬ (0 ≤ a ∧ a < 6) → (inR a && inR b) = false := fun hn => by unfold inR; rw [decide_eq_false hn]; rfl
 have notb : ¬ (0 ≤ b ∧ b < 6) → (inR a && inR b) = false := fun hn => by unfold inR; rw [decide_eq_false hn (p := 0 ≤ b ∧ b < 6), Bool.and_false]
 refine ⟨fun hn => Fin.of (out (nota (by omega))), fun h1 => ⟨fun hn => Fin.of (out (nota (by omega))), fun h2 => ⟨fun hn => Fin.of (out (notb (by omega))), fun h3 => ⟨fun hn => Fin.of (out (notb (by omega))), fun h4 => Fin.of ?_⟩⟩⟩⟩
 have ha : inR a = true := decide_eq_true (by omega)
 have hb : inR b = true := decide_eq_true (by omega)
 rw [ha, hb] at hQ
 clear out nota notb
 unfold yy
 refine ⟨fun e => (by cases e), fun _ => ⟨_, E3.cM 6 rfl (i := 0) rfl, fun hi => ⟨fun e => Fin.of ?_, fun hne => Fin.of ?_⟩, fun hi => Fin.of ?_⟩⟩
 ·have hd : renS l d a b = d := by unfold renS; rw [if_neg (by simp [e])]
  rw [hd] at hQ
  exact hQ _ _ _ Rd (E3.tM 6)
 ·have hd : renS l d a b = upS l (upS l d b (getS l d a).1) a f0 := by unfold renS upS; rw [ha, hb, hi]; simp [hne]
  rw [hd] at hQ
  unfold ZP
  refine ⟨_, _, ⟨E3.cM 6 rfl (i := 0) rfl, E3.cM 6 rfl (i := 1) rfl, trivial⟩, ?_⟩
  refine WF (f := (getS l d a).1) (E3.tM 6) R Rd o fun v1 r1 h17 R1 E5 => ?_
  exact WF (f := f0) E5 R R1 (o.up (o.good a)) fun v2 r2 h19 R2 E6 => Fin.of (by rw [ha] at *; exact hQ v2 r2 _ R2 E6)
 ·have hd : renS l d a b = d := by unfold renS; rw [if_neg (by rw [hi]; simp)]
  rw [hd] at hQ
  exact hQ _ _ _ Rd (E3.tM 6)
end
def fcl (f : FileS) : List Value := [.bool f.1, .string f.2]
theorem zcb (f : FileS) : (fcl f).length = 2 := rfl
def wcl (b : Bool) : List Value := [.bool b]
theorem zlS (b : Bool) : (wcl b).length = 1 := rfl
def fsOf (l : FL) (d : DFL) : List FileS := (List.range 6).map fun i => (getS l d (i : Nat)).1
def wsOf (l : FL) (d : DFL) : List Bool := (List.range 6).map fun i => (getS l d (i : Nat)).2
theorem XN (l : FL) (d : DFL) : (fsOf l d).length = 6 := by simp [fsOf]
theorem V0 (l : FL) (d : DFL) : (wsOf l d).length = 6 := by simp [wsOf]
theorem zcL {l : FL} {d : DFL} {n : Nat} (h : n < 6) : (fsOf l d)[n]? = some (getS l d n).1 := by
 unfold fsOf; rw [List.getElem?_map, List.getElem?_range h]; rfl
theorem zgo {l : FL} {d : DFL} {n : Nat} (h : n < 6) : (wsOf l d)[n]? = some (getS l d n).2 := by
 unfold wsOf; rw [List.getElem?_map, List.getElem?_range h]; rfl
theorem zkJ {l : FL} {d : DFL} {n : Nat} {f : FileS} (h : n < 6) : fsOf l (insD d n f) = (fsOf l d).set n f := by
 apply List.ext_getElem?
 intro i
 by_cases hi : i < 6
 ·rw [zcL hi, zcM]
  by_cases e : i = n
  ·subst e; rw [if_pos rfl, List.getElem?_set_self (by rw [XN]; exact h)]
  ·rw [if_neg (by omega), List.getElem?_set_ne (fun x => e x.symm), zcL hi]
 ·rw [List.getElem?_eq_none (by rw [XN]; omega), List.getElem?_eq_none (by rw [List.length_set, XN]; omega)]
theorem zla {l : FL} {d : DFL} {n : Nat} {f : FileS} (h : n < 6) : wsOf l (insD d n f) = (wsOf l d).set n true := by
 apply List.ext_getElem?
 intro i
 by_cases hi : i < 6
 ·rw [zgo hi, zcM]
  by_cases e : i = n
  ·subst e; rw [if_pos rfl, List.getElem?_set_self (by rw [V0]; exact h)]
  ·rw [if_neg (by omega), List.getElem?_set_ne (fun x => e x.symm), zgo hi]
 ·rw [List.getElem?_eq_none (by rw [V0]; omega), List.getElem?_eq_none (by rw [List.length_set, V0]; omega)]
def docC (l : FL) (fs : List FileS) (ws : List Bool) : List Value := zbS l ++ fs.flatMap fcl ++ ws.flatMap wcl
def docO (l : FL) (d : DFL) : AObj := .vec wN (zc (docC l (fsOf l d) (wsOf l d))) 30
section
variable {B : RO} {h0 h h' : Heap} {L : List (Option (Nat × AObj))} {l : FL} {d : DFL} {q kd : Nat} {n : Nat} {f : FileS}
theorem Keep.mid {α : Type} {cells : α → List Value} {c k nn i o : Nat} {t : TypeId} {pre post : List Value} {xs : List α} {x : α} (E : Keep B h0 L h) (hc : ∀ x, (cells x).length = c) (hq : L[q]? = some (some (k, .vec t (zc (pre ++ xs.flatMap cells ++ post)) nn))) (hx : xs[i]? = some x) (ho : o = pre.length + i * c) :
  za B h ⟨k, o, none⟩ 0 (cells x) := by
 subst ho
 refine za.of_vec _ 0 (E.at q hq) fun j y hy => ?_
 have hj := (List.getElem?_eq_some_iff.1 hy).1
 have hi := (List.getElem?_eq_some_iff.1 hx).1
 rw [hc] at hj
 have h1 := zbf hc xs i x j y hx hy
 have h2 := (List.getElem?_eq_some_iff.1 h1).1
 rw [Nat.add_zero]
 refine xl ?_
 rw [List.getElem?_append_left (by rw [List.length_append]; omega), List.getElem?_append_right (by omega), show pre.length + i * c + j - pre.length = i * c + j by omega]; exact h1
theorem Keep.midSet {α : Type} {cells : α → List Value} {c k nn i o : Nat} {t : TypeId} {pre post : List Value} {xs : List α} (x : α) (E : Keep B h0 L h) (hc : ∀ x, (cells x).length = c) (hone : ∀ y ∈ cells x, isOne y = true) (hq : L[q]? = some (some (k, .vec t (zc (pre ++ xs.flatMap cells ++ post)) nn))) (hi : i < xs.length) (ho : o = pre.length + i * c) (hn : pre.length + xs.length * c ≤ nn) :
  ∃ h', zi ⟨k, o, none⟩ h 0 (cells x) h' ∧ Keep B h0 (L.set q (some (k, .vec t (zc (pre ++ (xs.set i x).flatMap cells ++ post)) nn))) h' := by
 subst ho
 have h1 : i * c + c ≤ xs.length * c := by
  have : (i + 1) * c ≤ xs.length * c := Nat.mul_le_mul_right _ hi
  rw [Nat.add_mul, Nat.one_mul] at this; exact this
 have e1 : pre ++ xs.flatMap cells ++ post = (pre ++ (xs.take i).flatMap cells) ++ (cells xs[i] ++ ((xs.drop (i + 1)).flatMap cells ++ post)) := by
  rw [Xk xs i hi]; simp only [List.append_assoc]
 have l1 : (pre ++ (xs.take i).flatMap cells).length = pre.length + i * c := by
  rw [List.length_append, zI hc, List.length_take, Nat.min_eq_left (by omega)]
 rw [e1] at hq
 obtain ⟨h', s1, E1⟩ := E.storesV q hq (cells x) hone _ l1 (by rw [hc]; omega)
 refine ⟨h', s1, ?_⟩
 have e2 : (cells xs[i] ++ ((xs.drop (i + 1)).flatMap cells ++ post)).drop (cells x).length = (xs.drop (i + 1)).flatMap cells ++ post := by
  rw [hc, ← hc xs[i], List.drop_left]
 rw [e2] at E1
 rw [Xa x xs i hi]
 simp only [List.append_assoc] at E1 ⊢
 exact E1
theorem XM (E : Keep B h0 L h) (h6 : l.length = 6) (hq : L[q]? = some (some (kd, docO l d))) (hn : n < 6) : za B h (Addr.add (Addr.add ⟨kd, 0, none⟩ 12) (n * 2)) 0 [.bool (getS l d n).1.1, .string (getS l d n).1.2] := by
 rw [z8, z8, Nat.zero_add]
 exact E.mid (cells := fcl) zcb hq (zcL hn) (by rw [ZZ]; omega)
theorem zbW {Q : Heap → Prop} (E : Keep B h0 L h) (h6 : l.length = 6) (hq : L[q]? = some (some (kd, docO l d))) (hn : n < 6)
  (hQ : ∀ h', Keep B h0 (L.set q (some (kd, docO l (putS l d n f)))) h' → Q h') : z6 B (some ⟨kd, 0, none⟩) (n : Int) f.1 f.2 h Q := by
 refine z6.of ?_
 unfold Yo
 intro k5 a5 b5 h6' e6
 have E1 := E.made (o := frfO f) a5 b5 e6
 have hl := (List.getElem?_eq_some_iff.1 hq).1
 rw [Int.toNat_natCast]
 refine ⟨_, rfl, by omega, by omega, _, _, XM E1 h6 (zO _ hq) hn, _, _, ⟨zd E1.last rfl, zd E1.last rfl, trivial⟩, fun he => ?_, fun hne => ?_⟩
 ·have hf : (getS l d n).1 = f := zct he
  unfold putS at hQ
  rw [if_pos hf] at hQ
  refine Fin.of (hQ _ ?_)
  obtain ⟨_, hq2⟩ := List.getElem?_eq_some_iff.1 hq
  rw [← hq2, List.set_getElem_self]; exact E1.pop
 ·have hf : ¬ (getS l d n).1 = f := fun e => hne (by rw [← e]; exact zfM _ _)
  unfold putS at hQ
  rw [if_neg hf] at hQ
  refine ⟨_, _, ⟨zd E1.last rfl, zd E1.last rfl, trivial⟩, _, rfl, by omega, by omega, ?_⟩
  rw [z8, z8, Nat.zero_add]
  obtain ⟨h18, st, E2⟩ := E1.midSet (cells := fcl) f zcb (by simp [fcl, isOne]) (zO _ hq) (i := n) (o := 12 + n * 2) (by rw [XN]; exact hn) (by rw [ZZ]; omega) (by rw [ZZ, XN]; omega)
  rw [List.set_append_left _ _ hl] at E2
  refine ⟨h18, st, _, rfl, by omega, by omega, ?_⟩
  rw [z8, z8, Nat.zero_add]
  have hq2 : (L.set q (some (kd, .vec wN (zc (zbS l ++ ((fsOf l d).set n f).flatMap fcl ++ (wsOf l d).flatMap wcl)) 30)) ++ [some (k5, frfO f)])[q]? = some (some (kd, .vec wN (zc ((zbS l ++ ((fsOf l d).set n f).flatMap fcl) ++ (wsOf l d).flatMap wcl ++ [])) 30)) := by
   rw [List.append_nil]; exact zO _ (List.getElem?_set_self hl)
  obtain ⟨h21, st2, E3⟩ := E2.midSet (cells := wcl) true zlS (by simp [wcl, isOne]) hq2 (i := n) (o := 24 + n * 1) (by rw [V0]; exact hn) (by rw [List.length_append, ZZ, zI zcb, List.length_set, XN]; omega) (by rw [List.length_append, ZZ, zI zcb, List.length_set, XN, V0]; omega)
  rw [List.set_append_left _ _ (by rw [List.length_set]; exact hl), List.set_set, List.append_nil, ← zkJ hn, ← zla hn] at E3
  obtain ⟨_, w, e1, e2⟩ := st2
  obtain rfl : h21 = w := e2
  exact ⟨h21, e1, Fin.of (hQ _ E3.pop)⟩
theorem is14' {n : Int} {Q : Bool → Heap → Prop} (hQ : Q (inR n) h) : zP B n h Q := zly (by
 have : decide (0 ≤ n ∧ n ≤ 5) = inR n := by unfold inR; simp only [decide_eq_decide]; omega
 rw [this]; exact hQ)
theorem set_same {q : Nat} (hq : L[q]? = some (some (kd, docO l d))) : L.set q (some (kd, docO l d)) = L := by
 obtain ⟨_, h2⟩ := List.getElem?_eq_some_iff.1 hq
 rw [← h2, List.set_getElem_self]
theorem refG {n : Int} {f : FileS} {Q : Bool → Heap → Prop} (E : Keep B h0 L h) (h6 : l.length = 6) (hq : L[q]? = some (some (kd, docO l d))) (hn : inR n = true)
  (hQ : ∀ h', Keep B h0 (L.set q (some (kd, docO l (upS l d n f)))) h' → Q (inR n) h') : z6 B (some ⟨kd, 0, none⟩) n f.1 f.2 h (fun h17 => zP B n h17 (fun b19 h18 => Fin B h18 (Q b19))) := by
 have hn' := inR_t hn
 obtain ⟨k, rfl⟩ := Int.eq_ofNat_of_zero_le hn'.1
 unfold upS at hQ
 rw [if_pos hn] at hQ
 exact zbW E h6 hq (by omega) fun h1 E1 => is14' (Fin.of (hQ _ E1))
theorem zjX {n a w : Int} {c : UInt8} (hw : w = ((c.toNat : Nat) : Int)) {Q : Bool → Heap → Prop} (E : Keep B h0 L h) (o : SOk l d) (hq : L[q]? = some (some (kd, docO l d)))
  (hQ : ∀ h', Keep B h0 (L.set q (some (kd, docO l (upS l d n (putF (getS l d n).1 a c))))) h' → Q (inR n) h') : xh B (some ⟨kd, 0, none⟩) n a w h Q := by
 refine xh.of ?_
 unfold ZT
 refine is14' ⟨fun hn => ?_, fun hn => is14' (Fin.of ?_)⟩
 ·have hn' := inR_t hn
  obtain ⟨k, rfl⟩ := Int.eq_ofNat_of_zero_le hn'.1
  refine ⟨_, rfl, by omega, by omega, _, _, by rw [Int.toNat_natCast]; exact XM E o.l6 hq (by omega), zjS hw (by have := YI (o.good k); omega) fun h1 wk => ?_⟩
  exact refG (E.wk wk) o.l6 hq hn hQ
 ·unfold upS at hQ
  rw [if_neg (by rw [hn]; decide), set_same hq] at hQ
  exact hQ _ E
theorem zlI {n a : Int} {Q : Bool → Heap → Prop} (E : Keep B h0 L h) (o : SOk l d) (hq : L[q]? = some (some (kd, docO l d)))
  (hQ : ∀ h', Keep B h0 (L.set q (some (kd, docO l (upS l d n (cutF (getS l d n).1 a))))) h' → Q (inR n) h') : xB B (some ⟨kd, 0, none⟩) n a h Q := by
 refine xB.of ?_
 unfold Yn
 refine is14' ⟨fun hn => ?_, fun hn => is14' (Fin.of ?_)⟩
 ·have hn' := inR_t hn
  obtain ⟨k, rfl⟩ := Int.eq_ofNat_of_zero_le hn'.1
  refine ⟨_, rfl, by omega, by omega, _, _, by rw [Int.toNat_natCast]; exact XM E o.l6 hq (by omega), zjR (by have := YI (o.good k); omega) fun h1 wk => ?_⟩
  exact refG (E.wk wk) o.l6 hq hn hQ
 ·unfold upS at hQ
  rw [if_neg (by rw [hn]; decide), set_same hq] at hQ
  exact hQ _ E
theorem ziQ {n : Int} {Q : Bool → Heap → Prop} (E : Keep B h0 L h) (o : SOk l d) (hq : L[q]? = some (some (kd, docO l d)))
  (hQ : ∀ h', Keep B h0 (L.set q (some (kd, docO l (upS l d n (true, (getS l d n).1.2))))) h' → Q (inR n) h') : xb B (some ⟨kd, 0, none⟩) n h Q := by
 refine xb.of ?_
 unfold ZF
 refine is14' ⟨fun hn => ?_, fun hn => is14' (Fin.of ?_)⟩
 ·have hn' := inR_t hn
  obtain ⟨k, rfl⟩ := Int.eq_ofNat_of_zero_le hn'.1
  have cc := (XM E o.l6 hq (n := k) (by omega)).2.1
  refine ⟨_, rfl, by omega, by omega, _, by rw [Int.toNat_natCast]; exact cc, ?_⟩
  exact refG (f := (true, (getS l d k).1.2)) E o.l6 hq hn hQ
 ·unfold upS at hQ
  rw [if_neg (by rw [hn]; decide), set_same hq] at hQ
  exact hQ _ E
theorem ziS {n : Int} {Q : Bool → Heap → Prop} (E : Keep B h0 L h) (o : SOk l d) (hq : L[q]? = some (some (kd, docO l d)))
  (hQ : ∀ h', Keep B h0 (L.set q (some (kd, docO l (upS l d n f0)))) h' → Q (inR n) h') : xc B (some ⟨kd, 0, none⟩) n h Q := by
 refine xc.of ?_
 unfold ZG
 refine is14' ⟨fun hn => refG (f := f0) E o.l6 hq hn hQ, fun hn => is14' (Fin.of ?_)⟩
 unfold upS at hQ
 rw [if_neg (by rw [hn]; decide), set_same hq] at hQ
 exact hQ _ E
theorem ziT {a b : Int} {Q : Bool → Heap → Prop} (E : Keep B h0 L h) (o : SOk l d) (hq : L[q]? = some (some (kd, docO l d)))
  (hQ : ∀ h', Keep B h0 (L.set q (some (kd, docO l (renS l d a b)))) h' → Q (inR a && inR b) h') : xd B (some ⟨kd, 0, none⟩) a b h Q := by
 refine xd.of ?_
 unfold ZH
 have same : renS l d a b = d → Q (inR a && inR b) h := fun e => by rw [e, set_same hq] at hQ; exact hQ _ E
 refine is14' ⟨fun ha => is14' ⟨fun hb => Fin.of ?_, fun hb => Fin.of ?_⟩, fun ha => Fin.of ?_⟩
 ·have ha' := inR_t ha
  have hb' := inR_t hb
  have hl := (List.getElem?_eq_some_iff.1 hq).1
  obtain ⟨i, rfl⟩ := Int.eq_ofNat_of_zero_le ha'.1
  obtain ⟨j, rfl⟩ := Int.eq_ofNat_of_zero_le hb'.1
  rw [ha, hb] at hQ same
  have J2 : renS l d i j = d → yp B (some ⟨kd, 0, none⟩) (i : Int) (j : Int) false h Q := fun e => by
   unfold yp
   exact ⟨fun e => (by cases e), fun _ => Fin.of (same e)⟩
  unfold wq
  have c1 := (XM E o.l6 hq (n := i) (by omega)).1
  refine ⟨_, rfl, by omega, by omega, _, by rw [Int.toNat_natCast]; exact c1, fun hi => ⟨fun e => Fin.of (J2 ?_), fun hne => Fin.of ?_⟩, fun hi => Fin.of (J2 ?_)⟩
  ·unfold renS; rw [if_neg (by simp [e])]
  ·have hd : renS l d i j = putS l (putS l d j (getS l d i).1) i f0 := by unfold renS; rw [ha, hb, hi]; simp [hne]
   rw [hd] at hQ
   unfold yp
   refine ⟨fun _ => ⟨_, rfl, by omega, by omega, _, _, by rw [Int.toNat_natCast]; exact XM E o.l6 hq (by omega), ?_⟩, fun e => by cases e⟩
   refine zbW (f := (getS l d i).1) E o.l6 hq (by omega) fun h14 E1 => ?_
   refine zbW (f := f0) E1 o.l6 (List.getElem?_set_self hl) (by omega) fun h15 E2 => Fin.of (hQ _ ?_)
   rw [List.set_set] at E2; exact E2
  ·unfold renS; rw [if_neg (by rw [hi]; simp)]
 ·rw [ha, hb] at same
  exact same (by unfold renS; rw [if_neg (by rw [hb]; simp)])
 ·rw [ha] at same
  exact same (by unfold renS; rw [if_neg (by rw [ha]; simp)])
end
structure SCall where
 k : Int
 a : Int
 b : Int
 c : UInt8
def SCall.cells (x : SCall) : List Value := [.int .i64 x.k, .int .i64 x.a, .int .i64 x.b, .int .u8 ((x.c.toNat : Nat) : Int)]
theorem SCall.len (x : SCall) : x.cells.length = 4 := rfl
theorem u8_of {z : Int} (h : (Lit.int .u8 z).wf = true) : ∃ c : UInt8, z = ((c.toNat : Nat) : Int) := by
 have h1 : 0 ≤ z ∧ z ≤ 255 := by simpa [Lit.wf, IntKind.min, IntKind.max, IntKind.signed, IntKind.bits] using h
 refine ⟨UInt8.ofNat z.toNat, ?_⟩
 have h2 : z.toNat % 2 ^ 8 = z.toNat := Nat.mod_eq_of_lt (by omega)
 rw [UInt8.toNat_ofNat', h2]; omega
def opD (l : FL) (d : DFL) (x : SCall) : DFL :=
 if x.k = 0 then upS l d x.a (putF (getS l d x.a).1 x.b x.c)
 else if x.k = 1 then upS l d x.a (cutF (getS l d x.a).1 x.b)
 else if x.k = 2 then upS l d x.a (true, (getS l d x.a).1.2)
 else if x.k = 3 then upS l d x.a f0
 else if x.k = 4 then renS l d x.a x.b
 else d
theorem SOk.op {l : FL} {d : DFL} (o : SOk l d) (x : SCall) : SOk l (opD l d x) := by
 unfold opD
 split
 ·exact o.up (zag (o.good x.a) _ _)
 ·split
  ·exact o.up (zaf (o.good x.a) _)
  ·split
   ·exact o.up (f := (true, (getS l d x.a).1.2)) (Vx (f := (getS l d x.a).1) (o.good x.a))
   ·split
    ·exact o.up rfl
    ·split
     ·exact o.ren _ _
     ·exact o
def opsD (l : FL) (d : DFL) (xs : List SCall) : DFL := xs.foldl (opD l) d
theorem SOk.ops {l : FL} {d : DFL} (o : SOk l d) : ∀ xs : List SCall, SOk l (opsD l d xs) := by
 intro xs
 induction xs generalizing d with
 | nil => exact o
 | cons x xs ih => exact ih (o.op x)
def apD (ver : Int) (l : FL) (d : DFL) : FL := d.foldl (fun l x => setF l x.1 x.2.1 x.2.2 ver) l
theorem zlg (ver : Int) : ∀ (d : DFL) (l : FL), (apD ver l d).length = l.length := by
 intro d
 induction d with
 | nil => intro l; rfl
 | cons x d ih => intro l; exact (ih _).trans (zcV _ _ _ _ _)
theorem zkt {ver : Int} {l : FL} {d : DFL} {j : Nat} {x : Int × FileS} (h : d[j]? = some x) : apD ver l (d.take (j + 1)) = setF (apD ver l (d.take j)) x.1 x.2.1 x.2.2 ver := by
 obtain ⟨h1, rfl⟩ := List.getElem?_eq_some_iff.1 h
 rw [List.take_succ_eq_append_getElem h1, apD, List.foldl_append]; rfl
theorem zdt {l : FL} {n i ver : Int} {b : Bool} {s : ByteArray} (h : setB l n b s = true) : yl (setF l n b s ver) i = if i = n then ((b, s), ver) else yl l i := by
 rw [setF, if_pos h]
 unfold setB at h
 simp only [Bool.and_eq_true, decide_eq_true_eq] at h
 obtain ⟨_, h1, h2⟩ := h
 by_cases e : i = n
 ·subst e
  rw [if_pos rfl, WZ h1 (by rw [List.length_set]; omega), List.getElem_set_self]
 ·rw [if_neg e]
  by_cases hi : 0 ≤ i ∧ i < (l.length : Int)
  ·rw [WZ hi.1 (by rw [List.length_set]; omega), WZ hi.1 (by omega), List.getElem_set_ne (by omega)]
  ·rw [Xj (by rw [List.length_set]; exact hi), Xj hi]
theorem zkv {x : Int × FileS} {d : DFL} {i : Int} : atD (x :: d) i = if x.1 = i then some x.2 else atD d i := by
 unfold atD
 rw [List.find?_cons]
 by_cases e : x.1 = i
 ·simp [e]
 ·have : (x.1 == i) = false := by simpa using e
  simp [this, e]
theorem zjt {ver i : Int} : ∀ (d : DFL) (l : FL), SOk l d → yl (apD ver l d) i = match atD d i with | some f => (f, ver) | none => yl l i := by
 intro d
 induction d with
 | nil => intro l _; rfl
 | cons x d ih =>
  intro l o
  obtain ⟨s1, s2⟩ := List.pairwise_cons.1 o.s
  have hx := o.k x (by simp)
  have hb : setB l x.1 x.2.1 x.2.2 = true := by unfold setB; rw [hx.2, Bool.true_and, decide_eq_true_eq, o.l6]; exact hx.1
  have o2 : SOk (setF l x.1 x.2.1 x.2.2 ver) d := ⟨s2, fun y hy => o.k y (by simp [hy]), by rw [zcV]; exact o.l6, fun y hy => by
   rw [setF, if_pos hb] at hy
   rcases List.mem_or_eq_of_mem_set hy with hy | rfl
   ·exact o.g y hy
   ·exact hx.2⟩
  have := ih _ o2
  show yl (apD ver (setF l x.1 x.2.1 x.2.2 ver) d) i = _
  rw [this, zkv]
  by_cases e : x.1 = i
  ·rw [if_pos e, zlT (fun y hy => by have := s1 y hy; omega)]
   simp only
   rw [zdt hb, if_pos e.symm]
  ·rw [if_neg e]
   cases atD d i with
   | some f => rfl
   | none => simp only; rw [zdt hb, if_neg (fun x => e x.symm)]
section
variable {B : RO} {h0 h h' : Heap} {L : List (Option (Nat × AObj))} {r rd : Option (Nat × AObj)} {v vd : Value} {l z : FL} {d : DFL} {n ver : Int} {x : ShI} {f : FileS} {q kd c : Nat} {a : Option Addr} {xs : List SCall}
def ShI.w (x : ShI) (r : Option (Nat × AObj)) : ShI := { x with rt := r }
theorem zjY {Q : Option Addr → Heap → Prop} (E : Keep B h0 (L ++ x.m vd rd) h) (hQ : Q (some ⟨x.kf, 0, none⟩) h) : wu B (some ⟨x.ks, 0, none⟩) h Q := by
 refine wu.of ?_
 unfold Wz
 exact ⟨fun e => (by cases e), fun _ => ⟨_, rfl, _, E.cM 3 rfl (i := 0) rfl, Fin.of hQ⟩⟩
theorem zk3 {Q : Int → Heap → Prop} (E : Keep B h0 (L ++ x.m vd rd) h) (R : FRow x.rt x.vt l) (Rd : zV rd vd d) (o : SOk l d)
  (hQ : ∀ r' h', FRow r' x.vt (apD ver l d) → Keep B h0 (L ++ (x.w r').m vd rd) h' → Q (d.length : Nat) h') : vD B (some ⟨x.ks, 0, none⟩) (some ⟨x.kT, 0, none⟩) ver h Q := by
 have hl := o.len
 refine vD.of ?_
 unfold WT
 intro k5 a5 b5 h6 e6 k7 a7 b7 h8 e8 k9 a9 b9 h10 e10
 have E1 := ((E.nM a5 b5 e6).nM a7 b7 e8).nM a9 b9 e10
 refine ⟨_, v9 (E1.gM 8 rfl) rfl, ?_⟩
 have E2 := E1.pM (o' := .vec TY.int (zc [.int .i64 0]) 1) 8 rfl
 refine zjY (x := x) (vd := vd) (rd := rd) (L := L) (E2.tM 6) (zkH fun kc ac bc => ?_)
 have E3 := E2.nM (o := .vec wC [.plain (.pointer (some ⟨x.kf, 0, none⟩))] 1) ac bc rfl
 refine ⟨d, fdG kc x.kf vd rd, fun q h' => ∃ r', q ≤ d.length ∧ FRow r' x.vt (apD ver l (d.take q)) ∧ Keep B h0 (L ++ ((x.w r').m vd rd ++ [some (k5, .vec zdU [.plain (.pointer (some ⟨x.kT, 0, none⟩))] 1), some (k7, .vec TY.int [.plain (.int .i64 ver)] 1), some (k9, .vec TY.int (zc [.int .i64 ((q : Nat) : Int)]) 1), some (kc, .vec wC [.plain (.pointer (some ⟨x.kf, 0, none⟩))] 1)])) h', ziI (k := x.kf) Rd (by omega), zlr, ?_, Fin.of ⟨x.rt, by omega, R, E3⟩, ?_, ?_⟩
 ·rintro q h' ⟨r', _, _, E⟩
  exact ⟨E.gM 9 rfl, E.gM 4 rfl, fun k o e => E.gM 5 (by show some rd = _; rw [e])⟩
 ·clear E1 E2 E3
  rintro q h20 i16 b17 s18 hg ⟨r1, hq, R1, E⟩
  have hq' := (List.getElem?_eq_some_iff.1 hg).1
  have gx := o.k _ (List.mem_of_getElem? hg)
  simp only at gx
  intro k24 a24 b24 h25 e25
  have E1 := E.nM a24 b24 e25
  refine ⟨_, zv (E1.gM 10 rfl) rfl (by simp) (by simp [isOne]) (by simp), ?_⟩
  have E2 := E1.pM (o' := fO (b17, s18)) 10 rfl
  refine ⟨_, E2.cM 6 rfl (i := 0) rfl, _, _, ⟨E2.cM 10 rfl (i := 0) rfl, E2.cM 10 rfl (i := 1) rfl, trivial⟩, _, E2.cM 7 rfl (i := 0) rfl, ?_⟩
  refine zlQ (i := L.length) E2 ⟨upM 0 rfl, ⟨upM 1 rfl, upM 2 rfl⟩⟩ R1 fun r2 h31 R2 E3 => ?_
  have hb : setB (apD ver l (d.take q)) i16 b17 s18 = true := by
   unfold setB; rw [gx.2, Bool.true_and, decide_eq_true_eq, zlg, o.l6]; exact gx.1
  rw [setM] at E3
  rw [hb]
  refine ⟨fun _ => ⟨_, E3.cM 8 rfl (i := 0) rfl, _, v9 (E3.gM 8 rfl) rfl, Fin.of ⟨r2, by omega, ?_, ?_⟩⟩, fun e => by cases e⟩
  ·rw [zkt hg]; exact R2
  ·have e1 : IntKind.wrap .i64 (((q : Nat) : Int) + 1) = ((q + 1 : Nat) : Int) := by rw [w64 (by omega) (by omega)]; omega
   have E4 := (E3.pM (o' := .vec TY.int (zc [.int .i64 (IntKind.wrap .i64 (((q : Nat) : Int) + 1))]) 1) 8 rfl).tM 10
   rw [e1] at E4 ⊢
   exact E4
 ·rintro h20 ⟨r1, _, R1, E⟩
  rw [List.take_length] at R1
  exact ⟨_, E.cM 8 rfl (i := 0) rfl, Fin.of (hQ r1 _ R1 (E.tM 6))⟩
end
structure VI where
 kV : Nat
 kC : Nat
 kT : Nat
 kR : Nat
 vt : Value
 rt : Option (Nat × AObj)
 kF : Nat
 kP : Nat
structure VV where
 c : List (Int × Int)
 f : FL
 ts : List ByteArray
 l : List (Int × Int)
 t : Int
def viewO (x : VI) (t : Int) : AObj := .vec zdr (zc [.pointer (some ⟨x.kC, 0, none⟩), .pointer (some ⟨x.kT, 0, none⟩), .pointer (some ⟨x.kF, 0, none⟩), .int .i64 t]) 4
def VI.e (x : VI) (v : VV) : List (Option (Nat × AObj)) := [some (x.kV, viewO x v.t), some (x.kC, xQ v.c), some (x.kT, tomO x.kR), some (x.kR, frO x.vt), x.rt, some (x.kF, feedO v.ts x.kP), some (x.kP, xQ v.l)]
structure VOk (x : VI) (v : VV) : Prop where
 r : FRow x.rt x.vt v.f
 c8 : v.c.length = 8
 f : wK v.f
 k : wn v.ts v.l
def VAt (L : List (Option (Nat × AObj))) (i : Nat) (x : VI) (v : VV) : Prop := ∀ j, j < 7 → L[i + j]? = (x.e v)[j]?
theorem VAt.mk {L R : List (Option (Nat × AObj))} {x : VI} {v : VV} : VAt (L ++ (x.e v ++ R)) L.length x v := fun j hj => by
 rw [List.getElem?_append_right (by omega), Nat.add_sub_cancel_left, List.getElem?_append_left (by exact hj)]
theorem VAt.app {L M : List (Option (Nat × AObj))} {i : Nat} {x : VI} {v : VV} (A : VAt L i x v) : VAt (L ++ M) i x v := fun j hj => by
 have h1 : (x.e v)[j]? = some ((x.e v)[j]'hj) := List.getElem?_eq_getElem hj
 rw [h1]
 exact zO _ ((A j hj).trans h1)
def vz : VV := ⟨List.replicate 8 (0, 0), List.replicate 6 ((false, ByteArray.empty), 0), ts0, fl0, 0⟩
def verOf (v : VV) (k i : Int) : Int := if k = 0 then (ze v.c i).2 else if k = 1 then (yl v.f i).2 else if k = 2 then (ze v.l i).2 else 0
def cV (v : VV) (i : Int) : Value := .int .i64 (ze v.c i).2
def fV (v : VV) (i : Int) : Value := .int .i64 (yl v.f i).2
def lV (v : VV) (i : Int) : Value := .int .i64 (ze v.l i).2
def nowF (v : VV) : List Value := [cV v 0, cV v 1, cV v 2, cV v 3, cV v 4, cV v 5, cV v 6, cV v 7, fV v 0, fV v 1, fV v 2, fV v 3, fV v 4, fV v 5, .int .i64 0, .int .i64 0, lV v 0, lV v 1, lV v 2, .int .i64 0, .int .i64 0, .int .i64 0, .int .i64 0, .int .i64 0, .int .i64 v.t]
def nowZ (t : Int) : List Value := List.replicate 24 (.int .i64 0) ++ [.int .i64 t]
def cT (v : VV) (i : Int) : Value := .int .i64 (ze v.c i).1
def fT (v : VV) (i : Int) : Value := .bool (yl v.f i).1.1
def sT (v : VV) (i : Int) : Value := .string (yl v.f i).1.2
def lT (v : VV) (i : Int) : Value := .int .i64 (ze v.l i).1
def thF (v : VV) : List Value := [cT v 0, cT v 1, cT v 2, cT v 3, cT v 4, cT v 5, cT v 6, cT v 7, fT v 0, sT v 0, fT v 1, sT v 1, fT v 2, sT v 2, fT v 3, sT v 3, fT v 4, sT v 4, fT v 5, sT v 5, lT v 0, lT v 1, lT v 2]
def thZ : List Value := List.replicate 8 (.int .i64 0) ++ [.bool false, .string ByteArray.empty, .bool false, .string ByteArray.empty, .bool false, .string ByteArray.empty, .bool false, .string ByteArray.empty, .bool false, .string ByteArray.empty, .bool false, .string ByteArray.empty] ++ List.replicate 3 (.int .i64 0)
def txF (ts : List ByteArray) : List Value := [.string (zW ts 0), .string (zW ts 1), .string (zW ts 2)]
def txZ : List Value := [.string ByteArray.empty, .string ByteArray.empty, .string ByteArray.empty]
theorem now_c {v : VV} {j : Nat} (h : j < 8) : (nowF v)[j]? = some (.int .i64 (ze v.c (j : Nat)).2) := match j, h with
 | 0, _ | 1, _ | 2, _ | 3, _ | 4, _ | 5, _ | 6, _ | 7, _ => rfl
 | n + 8, h => absurd h (by omega)
theorem now_f {v : VV} {j : Nat} (h : j < 6) : (nowF v)[8 + j]? = some (.int .i64 (yl v.f (j : Nat)).2) := match j, h with
 | 0, _ | 1, _ | 2, _ | 3, _ | 4, _ | 5, _ => rfl
 | n + 6, h => absurd h (by omega)
theorem now_l {v : VV} {j : Nat} (h : j < 3) : (nowF v)[16 + j]? = some (.int .i64 (ze v.l (j : Nat)).2) := match j, h with
 | 0, _ | 1, _ | 2, _ => rfl
 | n + 3, h => absurd h (by omega)
theorem th_c {v : VV} {j : Nat} (h : j < 8) : (thF v)[j]? = some (.int .i64 (ze v.c (j : Nat)).1) := match j, h with
 | 0, _ | 1, _ | 2, _ | 3, _ | 4, _ | 5, _ | 6, _ | 7, _ => rfl
 | n + 8, h => absurd h (by omega)
theorem th_f {v : VV} {j : Nat} (h : j < 6) : (thF v)[8 + j * 2]? = some (.bool (yl v.f (j : Nat)).1.1) ∧ (thF v)[8 + j * 2 + 1]? = some (.string (yl v.f (j : Nat)).1.2) := match j, h with
 | 0, _ | 1, _ | 2, _ | 3, _ | 4, _ | 5, _ => ⟨rfl, rfl⟩
 | n + 6, h => absurd h (by omega)
theorem th_l {v : VV} {j : Nat} (h : j < 3) : (thF v)[20 + j]? = some (.int .i64 (ze v.l (j : Nat)).1) := match j, h with
 | 0, _ | 1, _ | 2, _ => rfl
 | n + 3, h => absurd h (by omega)
theorem tx_at {ts : List ByteArray} {j : Nat} (h : j < 3) : (txF ts)[j]? = some (.string (zW ts (j : Nat))) := match j, h with
 | 0, _ | 1, _ | 2, _ => rfl
 | n + 3, h => absurd h (by omega)
def part (F Z : List Value) (m : Nat) : List Value := F.take m ++ Z.drop m
theorem wrapS {j : Nat} (h : j < 1000000000) : IntKind.wrap .i64 ((j : Int) + 1) = ((j + 1 : Nat) : Int) := by rw [w64 (by omega) (by omega)]; omega
section
variable {B : RO} {h0 h h' : Heap} {L M : List (Option (Nat × AObj))} {i k n : Nat} {t : TypeId} {x : VI} {v : VV}
theorem Keep.fillN {F Z : List Value} {m : Nat} (E : Keep B h0 (L ++ M) h) (p : Nat) (hp : M[p]? = some (some (k, .vec t (zc (part F Z m)) n))) (hl : F.length = Z.length) (ys : List Value) (hy : (F.drop m).take ys.length = ys) (hm : m + ys.length ≤ F.length) (hn : F.length ≤ n) (ho : ∀ y ∈ ys, isOne y = true) {a : Addr} (ha : a = ⟨k, m, none⟩) :
  ∃ h', zi a h 0 ys h' ∧ Keep B h0 (L ++ M.set p (some (k, .vec t (zc (part F Z (m + ys.length))) n))) h' := by
 subst ha
 obtain ⟨h', s1, E1⟩ := E.vM (fs := F.take m) (gs := Z.drop m) p hp ys ho m (by rw [List.length_take]; omega) (by omega)
 refine ⟨h', s1, ?_⟩
 have e1 : F.take m ++ ys ++ (Z.drop m).drop ys.length = part F Z (m + ys.length) := by
  unfold part
  rw [List.drop_drop, List.take_add, hy]
 rw [e1] at E1
 exact E1
theorem Keep.fill1 {F Z : List Value} {m : Nat} {y : Value} (E : Keep B h0 (L ++ M) h) (p : Nat) (hp : M[p]? = some (some (k, .vec t (zc (part F Z m)) n))) (hl : F.length = Z.length) (hF : F[m]? = some y) (hn : F.length ≤ n) (ho : isOne y = true) {a : Addr} (ha : a = ⟨k, m, none⟩) :
  ∃ h', ym h a y = some h' ∧ Keep B h0 (L ++ M.set p (some (k, .vec t (zc (part F Z (m + 1))) n))) h' := by
 obtain ⟨hm, hg⟩ := List.getElem?_eq_some_iff.1 hF
 obtain ⟨h', ⟨_, w, e1, e2⟩, E1⟩ := E.fillN p hp hl [y] (by rw [List.drop_eq_getElem_cons hm, hg]; rfl) (by simp; omega) hn (by simpa using ho) ha
 obtain rfl : h' = w := e2
 exact ⟨h', e1, E1⟩
theorem Keep.allM {F : List Value} (E : Keep B h0 (L ++ M) h) (p : Nat) (hp : M[p]? = some (some (k, .vec t (zc F) n))) : za B h ⟨k, 0, none⟩ 0 F :=
 za.of_vec F 0 (E.gM p hp) fun j y hj => by rw [Vy, show 0 + 0 + j = j by omega, hj]; rfl
theorem VAt.at {k : Nat} {o : AObj} (A : VAt L i x v) (E : Keep B h0 L h) (j : Nat) (hj : j < 7) (e : (x.e v)[j]? = some (some (k, o))) : h k = some o := E.at (i + j) ((A j hj).trans e)
theorem VAt.tome (A : VAt L i x v) : zfB L (i + 2) x.kT x.kR x.vt x.rt := ⟨A 2 (by decide), ⟨A 3 (by decide), A 4 (by decide)⟩⟩
theorem zd9 : (thF v).length = 23 := rfl
theorem zjL {Q : List Value → Heap → Prop} (E : Keep B h0 L h) (A : VAt L i x v) (o : VOk x v) (hQ : ∀ h', Keep B h0 L h' → Q (nowF v) h') : xF B (some ⟨x.kV, 0, none⟩) h Q := by
 refine xF.of ?_
 unfold YV
 intro k3 a3 b3 h4 e4
 have E1 := E.start.nM a3 b3 e4
 refine ⟨fun e => (by cases e), fun _ => ⟨_, rfl, v.t, zd (A.app.at E1 0 (by decide) rfl) rfl, ?_⟩⟩
 intro k11 a11 b11 h12 e12
 have E2 := E1.nM a11 b11 e12
 refine ⟨_, zv (E2.gM 1 rfl) rfl (by simp) (by simp [isOne]) (by simp), ?_⟩
 have E3 := E2.pM (o' := .vec y3 (zc (part (nowF v) (nowZ v.t) 0)) 25) 1 rfl
 let J (b : Nat) (j : Nat) (h : Heap) : Prop := Keep B h0 (L ++ [some (k3, .vec y3 (zc (List.replicate 25 (.int .i64 0))) 25), some (k11, .vec y3 (zc (part (nowF v) (nowZ v.t) (b + j))) 25)]) h
 refine ⟨fun q m h' => ∃ j : Nat, j ≤ 8 ∧ q = j ∧ m = 8 - j ∧ J 0 j h', 8, Fin.of ⟨0, by omega, rfl, rfl, E3⟩, ?_⟩
 clear E1 E2 E3 e4 e12
 rintro _ _ h14 ⟨j, hj, rfl, rfl, E4⟩
 have E4 : Keep B h0 (L ++ [some (k3, .vec y3 (zc (List.replicate 25 (.int .i64 0))) 25), some (k11, .vec y3 (zc (part (nowF v) (nowZ v.t) (0 + j))) 25)]) h14 := E4
 rw [Nat.zero_add] at E4
 refine ⟨fun hlt => ⟨_, rfl, _, zd (A.app.at E4 0 (by decide) rfl) rfl, zeb (Ww (A.app.at E4 1 (by decide) rfl)) ⟨by decide, by decide, by omega, by omega, ?_⟩⟩, fun hge => Fin.of ?_⟩
 ·obtain ⟨h5, s, E5⟩ := E4.fill1 1 rfl rfl (now_c (by omega : j < 8)) (Nat.le_refl _) rfl (a := Addr.add ⟨k11, 0, none⟩ (Int.toNat (j : Int) * 1)) (by rw [z8]; simp)
  exact ⟨h5, s, Fin.of ⟨8 - (j + 1), by omega, j + 1, by omega, wrapS (by omega), rfl, by show Keep _ _ _ _; rw [Nat.zero_add]; exact E5⟩⟩
 have hj8 : j = 8 := by omega
 subst hj8
 unfold Yj
 refine ⟨fun q m h' => ∃ j : Nat, j ≤ 6 ∧ q = j ∧ m = 6 - j ∧ J 8 j h', 6, Fin.of ⟨0, by omega, rfl, rfl, E4⟩, ?_⟩
 clear E4
 rintro _ _ h14 ⟨j, hj, rfl, rfl, E4⟩
 have E4 : Keep B h0 (L ++ [some (k3, .vec y3 (zc (List.replicate 25 (.int .i64 0))) 25), some (k11, .vec y3 (zc (part (nowF v) (nowZ v.t) (8 + j))) 25)]) h14 := E4
 refine ⟨fun hlt => ⟨_, rfl, _, zd (A.app.at E4 0 (by decide) rfl) rfl, zd8 E4 A.app.tome o.r ?_⟩, fun hge => Fin.of ?_⟩
 ·intro h43 E5
  refine ⟨by decide, by decide, by omega, by omega, ?_⟩
  obtain ⟨h5, s, E6⟩ := E5.fill1 1 rfl rfl (now_f (by omega : j < 6)) (Nat.le_refl _) rfl (a := Addr.add ⟨k11, 8, none⟩ (Int.toNat (j : Int) * 1)) (by rw [z8]; simp)
  exact ⟨h5, s, Fin.of ⟨6 - (j + 1), by omega, j + 1, by omega, wrapS (by omega), rfl, E6⟩⟩
 have hj8 : j = 6 := by omega
 subst hj8
 unfold Yk
 refine ⟨fun q m h' => ∃ j : Nat, j ≤ 3 ∧ q = j ∧ m = 3 - j ∧ J 16 j h', 3, Fin.of ⟨0, by omega, rfl, rfl, E4⟩, ?_⟩
 clear E4
 rintro _ _ h14 ⟨j, hj, rfl, rfl, E4⟩
 have E4 : Keep B h0 (L ++ [some (k3, .vec y3 (zc (List.replicate 25 (.int .i64 0))) 25), some (k11, .vec y3 (zc (part (nowF v) (nowZ v.t) (16 + j))) 25)]) h14 := E4
 refine ⟨fun hlt => ⟨_, rfl, _, zd (A.app.at E4 0 (by decide) rfl) rfl, YJ o.k.t3 (A.app.at E4 5 (by decide) rfl) (A.app.at E4 6 (by decide) rfl) ?_⟩, fun hge => ?_⟩
 ·refine ⟨by decide, by decide, by omega, by omega, ?_⟩
  obtain ⟨h5, s, E6⟩ := E4.fill1 1 rfl rfl (now_l (by omega : j < 3)) (Nat.le_refl _) rfl (a := Addr.add ⟨k11, 16, none⟩ (Int.toNat (j : Int) * 1)) (by rw [z8]; simp)
  exact ⟨h5, s, Fin.of ⟨3 - (j + 1), by omega, j + 1, by omega, wrapS (by omega), rfl, E6⟩⟩
 have hj8 : j = 3 := by omega
 subst hj8
 have E5 : Keep B h0 (L ++ [some (k3, .vec y3 (zc (List.replicate 25 (.int .i64 0))) 25), some (k11, .vec y3 (zc (nowF v)) 25)]) h14 := E4
 refine ⟨nowF v, rfl, E5.allM 1 rfl, rfl, _, zv (E5.gM 0 rfl) rfl (Nat.le_refl _) (by simp [nowF, isOne, cV, fV, lV]) (by simp [nowF]), ?_⟩
 have E6 := E5.pM (o' := .vec y3 (zc (nowF v)) 25) 0 rfl
 exact ⟨nowF v, rfl, E6.allM 0 rfl, Fin.of (hQ _ E6.zM)⟩
theorem zdy {Q : Option Addr → Heap → Prop} (hQ : ∀ x h', VOk x vz → Keep B h (x.e vz) h' → Q (some ⟨x.kV, 0, none⟩) h') : wo B h Q := by
 refine wo.of ?_
 unfold W8
 refine zdx (by decide) fun kC a b => ?_
 have E := (Keep.nil B h).new (o := xQ (List.replicate 8 (0, 0))) a b
 refine zlP fun kT kR v r h4 R E1 => ?_
 have E2 := E.append E1
 refine zg4 fun kP kF h1 h2 aP bP e1 aF bF e2 => ?_
 have E3 := (E2.made aP bP e1).made aF bF e2
 intro k8 a8 b8 h9 e9
 have E4 := E3.made a8 b8 e9
 exact Fin.of (hQ ⟨k8, kC, kT, kR, v, r, kF, kP⟩ _ ⟨R, rfl, wK.zero, wn.zero⟩ (E4.picks [6, 0, 1, 2, 3, 5, 4] (by decide)))
theorem zb3 {Q : List Value → ByteArray → ByteArray → ByteArray → Heap → Prop} (E : Keep B h0 L h) (A : VAt L i x v) (o : VOk x v) (hQ : ∀ h', Keep B h0 L h' → Q (thF v) (zW v.ts 0) (zW v.ts 1) (zW v.ts 2) h') : yI B (some ⟨x.kV, 0, none⟩) h Q := by
 refine yI.of ?_
 unfold YR
 intro k6 a6 b6 h7 e7 k8 a8 b8 h9 e9 k10 a10 b10 h11 e11 k12 a12 b12 h13 e13
 have E1 := (((E.start.nM a6 b6 e7).nM a8 b8 e9).nM a10 b10 e11).nM a12 b12 e13
 let M (b j : Nat) : List (Option (Nat × AObj)) := [some (k6, .vec zw (zc thZ) 23), some (k8, .vec y1 (zc txZ) 3), some (k10, .vec zw (zc (part (thF v) thZ b)) 23), some (k12, .vec y1 (zc (part (txF v.ts) txZ j)) 3)]
 have E1 : Keep B h0 (L ++ M 0 0) h13 := E1
 refine ⟨fun q m h' => ∃ j : Nat, j ≤ 8 ∧ q = j ∧ m = 8 - j ∧ Keep B h0 (L ++ M j 0) h', 8, Fin.of ⟨0, by omega, rfl, rfl, E1⟩, ?_⟩
 clear E1 e7 e9 e11 e13
 rintro _ _ h14 ⟨j, hj, rfl, rfl, E4⟩
 refine ⟨fun hlt => ⟨_, rfl, _, zd (A.app.at E4 0 (by decide) rfl) rfl, Vw (Ww (A.app.at E4 1 (by decide) rfl)) ⟨by omega, by omega, ?_⟩⟩, fun hge => Fin.of ?_⟩
 ·obtain ⟨h5, s, E5⟩ := E4.fill1 2 rfl rfl (th_c (by omega : j < 8)) (Nat.le_refl _) rfl (a := Addr.add ⟨k10, 0, none⟩ (Int.toNat (j : Int) * 1)) (by rw [z8]; simp)
  exact ⟨h5, s, Fin.of ⟨8 - (j + 1), by omega, j + 1, by omega, wrapS (by omega), rfl, E5⟩⟩
 have hj8 : j = 8 := by omega
 subst hj8
 unfold vm
 refine ⟨fun q m h' => ∃ j : Nat, j ≤ 6 ∧ q = j ∧ m = 6 - j ∧ Keep B h0 (L ++ M (8 + j * 2) 0) h', 6, Fin.of ⟨0, by omega, rfl, rfl, E4⟩, ?_⟩
 clear E4
 rintro _ _ h14 ⟨j, hj, rfl, rfl, E4⟩
 refine ⟨fun hlt => ⟨_, rfl, _, zd (A.app.at E4 0 (by decide) rfl) rfl, zd8 E4 A.app.tome o.r ?_⟩, fun hge => Fin.of ?_⟩
 ·intro h43 E5 k64 a64 b64 h65 e65
  have E6 := E5.nM a64 b64 e65
  refine ⟨_, zv (E6.gM 4 rfl) rfl (by simp) (by simp [isOne]) (by simp), ?_⟩
  have E7 := E6.pM (o' := .vec yG (zc [.bool (yl v.f (j : Nat)).1.1, .string (yl v.f (j : Nat)).1.2]) 2) 4 rfl
  refine ⟨_, _, ⟨E7.cM 4 rfl (i := 0) rfl, E7.cM 4 rfl (i := 1) rfl, trivial⟩, by omega, by omega, ?_⟩
  have hf := th_f (v := v) (by omega : j < 6)
  obtain ⟨h5, s, E8⟩ := (E7.tM 4).fillN (F := thF v) (Z := thZ) (m := 8 + j * 2) 2 rfl rfl [.bool (yl v.f (j : Nat)).1.1, .string (yl v.f (j : Nat)).1.2] (by
   obtain ⟨l1, g1⟩ := List.getElem?_eq_some_iff.1 hf.1
   obtain ⟨l2, g2⟩ := List.getElem?_eq_some_iff.1 hf.2
   rw [List.drop_eq_getElem_cons l1, g1, List.drop_eq_getElem_cons l2, g2]; rfl) (by show 8 + j * 2 + 2 ≤ 23; omega) (Nat.le_refl _) (by simp [isOne]) (a := Addr.add ⟨k10, 8, none⟩ (Int.toNat (j : Int) * 2)) (by rw [z8]; simp)
  refine ⟨h5, s, Fin.of ⟨6 - (j + 1), by omega, j + 1, by omega, wrapS (by omega), rfl, ?_⟩⟩
  rw [show 8 + (j + 1) * 2 = 8 + j * 2 + 2 by omega]; exact E8
 have hj8 : j = 6 := by omega
 subst hj8
 unfold vn
 refine ⟨fun q m h' => ∃ j : Nat, j ≤ 3 ∧ q = j ∧ m = 3 - j ∧ Keep B h0 (L ++ M (20 + j) j) h', 3, Fin.of ⟨0, by omega, rfl, rfl, E4⟩, ?_⟩
 clear E4
 rintro _ _ h14 ⟨j, hj, rfl, rfl, E4⟩
 refine ⟨fun hlt => ⟨_, rfl, _, zd (A.app.at E4 0 (by decide) rfl) rfl, YJ o.k.t3 (A.app.at E4 5 (by decide) rfl) (A.app.at E4 6 (by decide) rfl) ?_⟩, fun hge => ?_⟩
 ·refine ⟨by omega, by omega, ?_⟩
  obtain ⟨h5, s, E6⟩ := E4.fill1 2 rfl rfl (th_l (by omega : j < 3)) (Nat.le_refl _) rfl (a := Addr.add ⟨k10, 20, none⟩ (Int.toNat (j : Int) * 1)) (by rw [z8]; simp)
  refine ⟨h5, s, _, rfl, _, zd (A.app.at E6 0 (by decide) rfl) rfl, zfP o.k.t3 (A.app.at E6 5 (by decide) rfl) ⟨by omega, by omega, ?_⟩⟩
  obtain ⟨h6, s, E7⟩ := E6.fill1 3 rfl rfl (tx_at (by omega : j < 3)) (Nat.le_refl _) rfl (a := Addr.add ⟨k12, 0, none⟩ (Int.toNat (j : Int) * 1)) (by rw [z8]; simp)
  exact ⟨h6, s, Fin.of ⟨3 - (j + 1), by omega, j + 1, by omega, wrapS (by omega), rfl, E7⟩⟩
 have hj8 : j = 3 := by omega
 subst hj8
 have E5 : Keep B h0 (L ++ [some (k6, .vec zw (zc thZ) 23), some (k8, .vec y1 (zc txZ) 3), some (k10, .vec zw (zc (thF v)) 23), some (k12, .vec y1 (zc (txF v.ts)) 3)]) h14 := E4
 have c1 := E5.allM 3 rfl
 refine ⟨thF v, rfl, E5.allM 2 rfl, _, _, _, c1, rfl, _, zv (E5.gM 0 rfl) rfl (by simp [thF]) (by simp [thF, isOne, cT, fT, sT, lT]) (by simp [thF]), ?_⟩
 have E6 := E5.pM (o' := .vec zw (zc (thF v)) 23) 0 rfl
 refine ⟨E6.allM 2 rfl, E6.allM 3 rfl, _, zv (E6.gM 1 rfl) rfl (by simp) (by simp [isOne]) (by simp), ?_⟩
 have E7 := E6.pM (o' := .vec y1 (zc (txF v.ts)) 3) 1 rfl
 exact ⟨thF v, rfl, E7.allM 0 rfl, _, _, _, E7.allM 1 rfl, Fin.of (hQ _ E7.zM)⟩
end
abbrev RE := Int × Int × Int
def enR (e : RE) : List Value := [.int .i64 e.1, .int .i64 e.2.1, .int .i64 e.2.2]
theorem VC (e : RE) : (enR e).length = 3 := rfl
theorem zln (e : RE) : ∀ y ∈ enR e, isOne y = true := fun y hy => by simp [enR] at hy; rcases hy with rfl | rfl | rfl <;> rfl
theorem zjq : slcB PG VR = some (Ys, 3, 24) := by kernel_rfl
theorem ziA : zeroB PG Ys = some [.int .i64 0, .int .i64 0, .int .i64 0] := by kernel_rfl
theorem zks : slT PG VR = true := by kernel_rfl
def ERow (r : Option (Nat × AObj)) (v : Value) (l : List RE) : Prop := Row r v Ys 3 (l.flatMap enR)
def rsO (v : Value) (st : Int) : AObj := .vec zfz (zc [v, .int .i64 st]) 2
structure RdAt (L : List (Option (Nat × AObj))) (i k : Nat) (v : Value) (st : Int) (r : Option (Nat × AObj)) : Prop where
 p : L[i]? = some (some (k, rsO v st))
 q : L[i + 1]? = some r
structure V3 (v : VV) : Prop where
 c8 : v.c.length = 8
 f6 : v.f.length = 6
 l3 : v.l.length = 3
theorem VOk.v3 {x : VI} {v : VV} (o : VOk x v) : V3 v := ⟨o.c8, o.f.n6, o.k.l3⟩
def vld (v : VV) (rs : List RE) : Bool := rs.all fun e => decide (verOf v e.1 e.2.1 = e.2.2)
def fE (rs : List RE) (k i : Int) : Option Int := (rs.find? fun e => decide (e.1 = k ∧ e.2.1 = i)).map fun e => e.2.2
def noteA (v : VV) (rs : List RE) (st k i : Int) : Bool × List RE × Int := match fE rs k i with
 | some w => (w == verOf v k i, rs, st)
 | none => if verOf v k i > st then (if vld v rs = true then (true, rs ++ [(k, i, verOf v k i)], v.t) else (false, rs, st)) else (true, rs ++ [(k, i, verOf v k i)], st)
theorem zew (v : VV) (rs : List RE) (st k i : Int) : (noteA v rs st k i).2.1.length ≤ rs.length + 1 := by
 unfold noteA; split
 ·simp
 ·split
  ·split <;> simp
  ·simp
theorem zkg {v : VV} (o : V3 v) {k i : Int} (h : ¬ (0 ≤ k ∧ k ≤ 2 ∧ 0 ≤ i ∧ i < 8)) : verOf v k i = 0 := by
 unfold verOf
 split
 ·rw [Xi (by rw [o.c8]; omega)]
 ·split
  ·rw [Xj (by rw [o.f6]; omega)]
  ·split
   ·rw [Xi (by rw [o.l3]; omega)]
   ·rfl
theorem zlD {v : VV} (o : V3 v) {k i : Nat} (hk : k ≤ 2) (hi : i < 8) : (nowF v)[k * 8 + i]? = some (.int .i64 (verOf v (k : Int) (i : Int))) := by
 have hc : k = 0 ∨ k = 1 ∨ k = 2 := by omega
 rcases hc with rfl | rfl | rfl
 ·rw [Nat.zero_mul, Nat.zero_add, now_c hi]; rfl
 ·by_cases h6 : i < 6
  ·rw [Nat.one_mul, now_f h6]; rfl
  ·have : verOf v ((1 : Nat) : Int) (i : Int) = 0 := by
    show (yl v.f (i : Int)).2 = 0
    rw [Xj (by rw [o.f6]; omega)]
   rw [this]
   have h2 : i = 6 ∨ i = 7 := by omega
   rcases h2 with rfl | rfl <;> rfl
 ·by_cases h3 : i < 3
  ·rw [show 2 * 8 + i = 16 + i by omega, now_l h3]; rfl
  ·have : verOf v ((2 : Nat) : Int) (i : Int) = 0 := by
    show (ze v.l (i : Int)).2 = 0
    rw [Xi (by rw [o.l3]; omega)]
   rw [this]
   have h2 : i = 3 ∨ i = 4 ∨ i = 5 ∨ i = 6 ∨ i = 7 := by omega
   rcases h2 with rfl | rfl | rfl | rfl | rfl <;> rfl
section
variable {B : RO} {h0 h h' : Heap} {L M : List (Option (Nat × AObj))} {j kS : Nat} {vS : Value} {st : Int} {r : Option (Nat × AObj)} {rs : List RE} {v : VV} {k i : Int}
theorem zjK {Q : Int → Heap → Prop} (o : V3 v) (hQ : Q (verOf v k i) h) : Zk B (nowF v) k i h Q := by
 refine Zk.of ?_
 unfold zaG
 intro k5 a5 b5 h6 e6
 have E := (Keep.nil B h).made a5 b5 e6
 have out : ¬ (0 ≤ k ∧ k ≤ 2 ∧ 0 ≤ i ∧ i < 8) → Fin B h6 (Q 0) := fun hn => by
  rw [zkg o hn] at hQ
  exact Fin.ent E.back (Fin.of hQ)
 refine ⟨fun h1 => out (by omega), fun h1 => ⟨fun h2 => out (by omega), fun h2 => ⟨fun h3 => out (by omega), fun h3 => ⟨fun h4 => out (by omega), fun h4 => Fin.of ?_⟩⟩⟩⟩
 unfold Xr
 obtain ⟨k, rfl⟩ := Int.eq_ofNat_of_zero_le (by omega : 0 ≤ k)
 obtain ⟨i, rfl⟩ := Int.eq_ofNat_of_zero_le (by omega : 0 ≤ i)
 refine ⟨by omega, by omega, by omega, by omega, _, ?_, Fin.ent E.back (Fin.of hQ)⟩
 rw [z8, z8]
 refine zd (E.at 0 rfl) ?_
 rw [Vy, show 0 + Int.toNat (k : Int) * 8 + Int.toNat (i : Int) * 1 = k * 8 + i by simp, zlD o (by omega) (by omega)]; rfl
theorem ERow.len {a : Option Addr} {m c : Nat} (R : ERow r (.slice a m c) rs) : m = rs.length := (Row.rd (B := fun _ => none) R VC (by omega)).1
theorem zgl {Q : Bool → Heap → Prop} (E : Keep B h0 L h) (A : RdAt L j kS vS st r) (R : ERow r vS rs) (hl : rs.length ≤ 100000) (o : V3 v) (hQ : ∀ h', Keep B h0 L h' → Q (vld v rs) h') : w6 B (some ⟨kS, 0, none⟩) (nowF v) h Q := by
 refine w6.of ?_
 unfold Vb
 intro k4 a4 b4 h5 e5
 have E1 := E.start.nM a4 b4 e5
 obtain ⟨a, m, c, rfl⟩ := Row.slice R
 obtain rfl := ERow.len R
 obtain ⟨_, rd⟩ := Row.rd (B := B) R VC (by omega)
 refine ⟨fun e => (by cases e), fun _ => ⟨_, rfl, .inl ⟨a, _, c, E1.cell j (zO _ A.p) rfl, ?_⟩⟩⟩
 refine ⟨fun q m h' => ∃ p : Nat, p ≤ rs.length ∧ q = p ∧ m = rs.length - p ∧ vld v (rs.take p) = true ∧ Keep B h0 (L ++ [some (k4, .vec y3 (zc (nowF v)) 25)]) h', rs.length, Fin.of ⟨0, by omega, rfl, rfl, rfl, E1⟩, ?_⟩
 clear E1 e5
 rintro _ _ h14 ⟨p, hp, rfl, rfl, hv, E2⟩
 refine ⟨fun hlt => ?_, fun hge => Fin.of ?_⟩
 ·have hpl : p < rs.length := by omega
  have hx := List.getElem?_eq_getElem hpl
  have htk : vld v (rs.take (p + 1)) = (vld v (rs.take p) && decide (verOf v rs[p].1 rs[p].2.1 = rs[p].2.2)) := by
   unfold vld; rw [List.take_succ_eq_append_getElem hpl, List.all_append]; simp
  have hall : ¬ verOf v rs[p].1 rs[p].2.1 = rs[p].2.2 → vld v rs = false := fun hn => by
   unfold vld; rw [List.all_eq_false]; exact ⟨rs[p], List.getElem_mem _, by simp [hn]⟩
  generalize rs[p] = x at hx htk hall
  obtain ⟨A', f1, _, f2⟩ := rd h14 (fun k o e => E2.at (j + 1) (by rw [zO _ A.q, e])) p x hx
  refine ⟨A', f1, by omega, by omega, x.1, x.2.1, x.2.2, f2, fun k24 a24 b24 h25 e25 => ?_⟩
  have E3 := E2.nM a24 b24 e25
  refine ⟨_, zv (E3.gM 1 rfl) rfl (by simp) (by simp [isOne]) (by simp), ?_⟩
  have E4 := E3.pM (o' := .vec Ys (zc [.int .i64 x.1, .int .i64 x.2.1, .int .i64 x.2.2]) 3) 1 rfl
  refine ⟨nowF v, rfl, E4.allM 0 rfl, _, E4.cM 1 rfl (i := 0) rfl, _, E4.cM 1 rfl (i := 1) rfl, _, E4.cM 1 rfl (i := 2) rfl, zjK o ⟨E4.allM 0 rfl, E4.cM 1 rfl (i := 0) rfl, E4.cM 1 rfl (i := 1) rfl, E4.cM 1 rfl (i := 2) rfl, fun he => Fin.of ?_, fun hn => Fin.of ?_⟩⟩
  ·exact ⟨rs.length - (p + 1), by omega, p + 1, by omega, wrapS (by omega), rfl, by rw [htk, hv, he]; simp, E4.tM 1⟩
  ·rw [← hall hn]; exact hQ _ E4.zM
 ·have : p = rs.length := by omega
  subst this
  rw [List.take_length] at hv
  rw [← hv]; exact hQ _ E2.zM
theorem zlp : fE rs k i = none ↔ ∀ e ∈ rs, ¬ (e.1 = k ∧ e.2.1 = i) := by
 unfold fE; rw [Option.map_eq_none_iff, List.find?_eq_none]; simp
theorem fE_at {p : Nat} {e : RE} (hp : rs[p]? = some e) (hm : e.1 = k ∧ e.2.1 = i) (hn : ∀ q e', q < p → rs[q]? = some e' → ¬ (e'.1 = k ∧ e'.2.1 = i)) : fE rs k i = some e.2.2 := by
 obtain ⟨hl, rfl⟩ := List.getElem?_eq_some_iff.1 hp
 have hs : rs = rs.take p ++ rs[p] :: rs.drop (p + 1) := by rw [← List.drop_eq_getElem_cons hl, List.take_append_drop]
 unfold fE
 generalize rs[p] = x at *
 rw [hs, List.find?_append, List.find?_eq_none.2 (fun e' he' => by
  obtain ⟨q, hq, rfl⟩ := List.mem_iff_getElem.1 he'
  rw [List.length_take] at hq
  rw [List.getElem_take]
  have := hn q rs[q] (by omega) (List.getElem?_eq_getElem (by omega))
  simpa using this)]
 rw [Option.none_or, List.find?_cons_of_pos (by simpa using hm)]; rfl
theorem zjN {e : RE} {a b : Addr} {Q : Bool → Heap → Prop} (c1 : cellH B h a = some (.int .i64 k)) (c2 : cellH B h b = some (.int .i64 i)) (hQ : ∀ h', Keep B h [] h' → Q (decide (e.1 = k ∧ e.2.1 = i)) h') : ZD B e.1 e.2.1 e.2.2 a b h Q := by
 refine ZD.of ?_
 unfold Wy
 intro k7 a7 b7 h8 e8
 have E := (Keep.nil B h).made a7 b7 e8
 have w := E.w
 refine ⟨_, E.cell 0 rfl rfl, k, w.cell c1, fun he => ⟨_, E.cell 0 rfl rfl, i, w.cell c2, Fin.of ?_⟩, fun hn => Fin.of ?_⟩
 ·have : (e.2.1 == i) = decide (e.1 = k ∧ e.2.1 = i) := by
   rw [Bool.eq_iff_iff]; simp [he]
  rw [this]; exact hQ _ E.pop
 ·have := hQ _ E.pop
  rw [decide_eq_false (by simp [hn])] at this; exact this
theorem zkQ {Q : Int → Heap → Prop} (E : Keep B h0 L h) (A : RdAt L j kS vS st r) (R : ERow r vS rs) (hl : rs.length ≤ 100000) (hS : ∀ p e h', rs[p]? = some e → fE rs k i = some e.2.2 → Keep B h0 L h' → Q (p : Nat) h') (hN : fE rs k i = none → ∀ h', Keep B h0 L h' → Q (-1) h') : vP B (some ⟨kS, 0, none⟩) k i h Q := by
 refine vP.of ?_
 unfold Vc
 intro k5 a5 b5 h6 e6 k7 a7 b7 h8 e8
 have E1 := (E.start.nM a5 b5 e6).nM a7 b7 e8
 obtain ⟨a, m, c, rfl⟩ := Row.slice R
 obtain rfl := ERow.len R
 obtain ⟨_, rd⟩ := Row.rd (B := B) R VC (by omega)
 refine ⟨_, rfl, .inl ⟨a, _, c, E1.cell j (zO _ A.p) rfl, ?_⟩⟩
 refine yN.of ?_
 unfold wz
 refine ⟨fun q m h' => ∃ p : Nat, p ≤ rs.length ∧ q = p ∧ m = rs.length - p ∧ (∀ q e, q < p → rs[q]? = some e → ¬ (e.1 = k ∧ e.2.1 = i)) ∧ Keep B h0 (L ++ [some (k5, .vec ze5 (zc [.int .i64 k]) 1), some (k7, .vec TY.int (zc [.int .i64 i]) 1)]) h', rs.length, Fin.of ⟨0, by omega, rfl, rfl, fun q e hq => by omega, E1⟩, ?_⟩
 clear E1 e6 e8
 rintro _ _ h14 ⟨p, hp, rfl, rfl, hv, E2⟩
 refine ⟨fun hlt => ?_, fun hge => Fin.of (Fin.of ?_)⟩
 ·have hpl : p < rs.length := by omega
  have hx := List.getElem?_eq_getElem hpl
  generalize rs[p] = x at hx
  obtain ⟨A', f1, _, f2⟩ := rd h14 (fun k o e => E2.at (j + 1) (by rw [zO _ A.q, e])) p x hx
  refine ⟨A', f1, by omega, by omega, x.1, x.2.1, x.2.2, f2, CallV.func za8 (zjN (e := x) (E2.cM 0 rfl (i := 0) rfl) (E2.cM 1 rfl (i := 0) rfl) fun h17 E3 => ⟨fun hT => Fin.of (Fin.of ?_), fun hF => Fin.of ?_⟩)⟩
  ·rw [decide_eq_true_eq] at hT
   exact hS p x h17 hx (fE_at hx hT hv) (E2.wk E3.w).zM
  ·rw [decide_eq_false_iff_not] at hF
   refine ⟨rs.length - (p + 1), by omega, p + 1, by omega, wrapS (by omega), rfl, fun q e hq hg => ?_, E2.wk E3.w⟩
   by_cases he : q = p
   ·subst he; rw [hx] at hg; cases hg; exact hF
   ·exact hv q e (by omega) hg
 ·refine hN (zlp.2 fun e he => ?_) _ E2.zM
  obtain ⟨q, hq, rfl⟩ := List.mem_iff_getElem.1 he
  exact hv q _ (by omega) (List.getElem?_eq_getElem hq)
theorem set_self {q : Nat} {y : Option (Nat × AObj)} (h : L[q]? = some y) : L.set q y = L := by
 obtain ⟨_, h2⟩ := List.getElem?_eq_some_iff.1 h
 rw [← h2, List.set_getElem_self]
theorem zhh {Q : Bool → Heap → Prop} (E : Keep B h0 L h) (A : RdAt L j kS vS st r) (R : ERow r vS rs) (hl : rs.length ≤ 100000) {w : Int} (hQ : ∀ vS' r' h', ERow r' vS' (rs ++ [(k, i, w)]) → Keep B h0 ((L.set j (some (kS, rsO vS' st))).set (j + 1) r') h' → Q true h') : vj B (some ⟨kS, 0, none⟩) k i w h Q := by
 unfold vj
 obtain ⟨a, m, c, rfl⟩ := Row.slice R
 obtain rfl := ERow.len R
 have hj := (List.getElem?_eq_some_iff.1 A.p).1
 have hj1 := (List.getElem?_eq_some_iff.1 A.q).1
 have hfl := zI VC rs
 refine ⟨_, rfl, .inl ⟨a, _, c, E.cell j A.p rfl, fun k31 a31 b31 h32 e32 => ?_⟩⟩
 have E1 := E.made a31 b31 e32
 have g := E1.last
 refine E1.pushS (j + 1) (n := 1) (ys := enR (k, i, w)) (zO _ A.q) R zjq ziA rfl (by omega) (by omega) zks ⟨rfl, zln _, .inl ⟨_, _, rfl, za.of_vec (enR (k, i, w)) 0 g fun q y hy => by rw [show 0 + 0 + q = q by omega]; exact xl hy⟩⟩ (by rw [hfl, VC]; omega) fun a' m' c' r' h61 R' E2 => ?_
 rw [List.set_append_left _ _ hj1] at E2
 have hp : (L.set (j + 1) r' ++ [some (k31, AObj.vec Ys (zc (enR (k, i, w))) 3)])[j]? = some (some (kS, rsO (.slice a rs.length c) st)) := zO _ (by rw [List.getElem?_set_ne (by omega)]; exact A.p)
 obtain ⟨es, E3⟩ := E2.store j 0 (.slice a' m' c') hp rfl
 refine ⟨a', m', c', rfl, _, rfl, _, es, Fin.of (hQ (.slice a' m' c') r' _ ?_ ?_)⟩
 ·unfold ERow; rw [List.flatMap_append]; simpa using R'
 ·rw [List.set_append_left _ _ (by rw [List.length_set]; omega), List.set_comm _ _ (by omega)] at E3
  exact E3.popL
theorem zkW {Q : Bool → Heap → Prop} (E : Keep B h0 L h) (A : RdAt L j kS vS st r) (R : ERow r vS rs) (hl : rs.length ≤ 90000) (o : V3 v)
  (hQ : ∀ vS' r' h', ERow r' vS' (noteA v rs st k i).2.1 → Keep B h0 ((L.set j (some (kS, rsO vS' (noteA v rs st k i).2.2))).set (j + 1) r') h' → Q (noteA v rs st k i).1 h') : Zp B (some ⟨kS, 0, none⟩) (nowF v) k i h Q := by
 refine Zp.of ?_
 unfold VK
 have hj := (List.getElem?_eq_some_iff.1 A.p).1
 have hj1 := (List.getElem?_eq_some_iff.1 A.q).1
 intro k6 a6 b6 h7 e7
 have E1 := E.start.nM a6 b6 e7
 refine ⟨fun e => (by cases e), fun _ => ⟨nowF v, rfl, E1.allM 0 rfl, zjK o ?_⟩⟩
 have A1 : ∀ {y : Option (Nat × AObj)}, RdAt (L ++ [y]) j kS vS st r := ⟨zO _ A.p, zO _ A.q⟩
 have same : ∀ h', Keep B h0 L h' → Keep B h0 ((L.set j (some (kS, rsO vS st))).set (j + 1) r) h' := fun h' E => by
  rw [set_self A.p, set_self A.q]; exact E
 obtain ⟨_, rd⟩ : ∃ u : Unit, ∀ a m c, vS = .slice a m c → m = rs.length ∧ RowRd B r a 3 enR rs := ⟨(), fun a m c e => by subst e; exact Row.rd (B := B) R VC (by omega)⟩
 refine zkQ E1 A1 R (by omega) (fun p e h12 hp hf E2 => ⟨fun _ => ?_, fun hn => by omega⟩) (fun hf h12 E2 => ⟨fun hn => by omega, fun _ => ?_⟩)
 ·obtain ⟨a, m, c, rfl⟩ := Row.slice R
  obtain ⟨hm, rd⟩ := rd a m c rfl
  obtain ⟨A', f1, _, f2⟩ := rd h12 (fun k o e => E2.at (j + 1) (by rw [zO _ A.q, e])) p e hp
  have hpl := (List.getElem?_eq_some_iff.1 hp).1
  have hc : cellH B h12 (Addr.add (Addr.add A' (Int.toNat (p : Int) * 3)) 2) = some (.int .i64 e.2.2) := by rw [Int.toNat_natCast]; exact f2.2.2.1
  refine ⟨_, rfl, .inl ⟨a, m, c, E2.cell j (zO _ A.p) rfl, A', f1, by omega, by omega, _, hc, Fin.of ?_⟩⟩
  have h1 : noteA v rs st k i = (e.2.2 == verOf v k i, rs, st) := by unfold noteA; rw [hf]
  rw [h1] at hQ
  exact hQ _ r _ R (same _ E2.zM)
 ·refine ⟨_, rfl, st, E2.cell j (zO _ A.p) rfl, fun hgt => ⟨nowF v, rfl, E2.allM 0 rfl, zgl E2 A1 R (by omega) o fun h44 E3 => ⟨fun hT => ?_, fun hF => Fin.of ?_⟩⟩, fun hle => Fin.of ?_⟩
  ·have h1 : noteA v rs st k i = (true, rs ++ [(k, i, verOf v k i)], v.t) := by unfold noteA; rw [hf]; simp only; rw [if_pos hgt, if_pos hT]
   rw [h1] at hQ
   obtain ⟨es, E4⟩ := E3.store j 1 (.int .i64 v.t) (zO _ A.p) rfl
   refine ⟨v.t, zd (E3.gM 0 rfl) rfl, _, rfl, _, es, Fin.of ?_⟩
   rw [List.set_append_left _ _ hj] at E4
   refine zhh (E4.zM) (st := v.t) ⟨List.getElem?_set_self hj, by rw [List.getElem?_set_ne (by omega)]; exact A.q⟩ R (by omega) fun vS' r' h' R' E5 => hQ vS' r' h' R' (by rw [List.set_set] at E5; exact E5)
  ·have h1 : noteA v rs st k i = (false, rs, st) := by unfold noteA; rw [hf]; simp only; rw [if_pos hgt, if_neg (by rw [hF]; simp)]
   rw [h1] at hQ
   exact hQ _ r _ R (same _ E3.zM)
  ·have h1 : noteA v rs st k i = (true, rs ++ [(k, i, verOf v k i)], st) := by unfold noteA; rw [hf]; simp only; rw [if_neg (fun h => hle h)]
   rw [h1] at hQ
   exact zhh E2.zM A R (by omega) hQ
end
def StV.cr (s : StV) (i : Int) : Int := if i = 0 then s.c0 else if i = 1 then s.c1 else if i = 2 then s.c2 else 0
def StV.step (s : StV) (i : Int) : StV := if i = 0 then { s with c0 := s.c0 + 1 } else if i = 1 then { s with c1 := s.c1 + 1 } else if i = 2 then { s with c2 := s.c2 + 1 } else s
theorem StV.step_cr (s : StV) {i j : Int} (hi : 0 ≤ i ∧ i < 3) : (s.step i).cr j = if j = i then s.cr i + 1 else s.cr j := by
 have hc : i = 0 ∨ i = 1 ∨ i = 2 := by omega
 rcases hc with rfl | rfl | rfl
 ·show StV.cr { s with c0 := s.c0 + 1 } j = if j = 0 then s.c0 + 1 else s.cr j
  unfold StV.cr; by_cases h : j = 0 <;> simp [h]
 ·show StV.cr { s with c1 := s.c1 + 1 } j = if j = 1 then s.c1 + 1 else s.cr j
  unfold StV.cr; by_cases h : j = 1
  ·subst h; rfl
  ·simp [h]
 ·show StV.cr { s with c2 := s.c2 + 1 } j = if j = 2 then s.c2 + 1 else s.cr j
  unfold StV.cr; by_cases h : j = 2
  ·subst h; rfl
  ·simp [h]
theorem StV.step_d (s : StV) (i : Int) : (s.step i).d = s.d ∧ (s.step i).f = s.f := by
 unfold StV.step; (repeat' split) <;> exact ⟨rfl, rfl⟩
structure AK where
 kA : Nat
 kS : Nat
 kX : Nat
 kK : Nat
structure AU where
 vS : Value
 rS : Option (Nat × AObj)
 x : StI
structure AV where
 rs : List RE
 st : Int
 s : StV
 g : Reg4
def attO (V : VI) (K : AK) (x : StI) (g : Reg4) : AObj := .vec zbO (zc [.pointer (some ⟨V.kV, 0, none⟩), .pointer (some ⟨K.kS, 0, none⟩), .pointer (some ⟨x.kd, 0, none⟩), .pointer (some ⟨x.ks, 0, none⟩), .pointer (some ⟨x.kc, 0, none⟩), .int .i64 g.a, .int .i64 g.b, .int .i64 g.c, .int .i64 g.d, .pointer (some ⟨K.kX, 0, none⟩), .pointer (some ⟨K.kK, 0, none⟩)]) 11
def AE (V : VI) (K : AK) (U : AU) (s : AV) : List (Option (Nat × AObj)) := [some (K.kA, attO V K U.x s.g), some (K.kS, rsO U.vS s.st), U.rS, some (U.x.kd, YN U.x.vd), U.x.rd, some (U.x.ks, shtO U.x.kf), some (U.x.kf, xu U.x.vf), U.x.rf, some (U.x.kc, curO s.s)]
structure AOk (v : VV) (s : AV) : Prop where
 so : SOk v.f s.s.f
 sd : SortD s.s.d
 dk : ∀ x ∈ s.s.d, 0 ≤ x.1 ∧ x.1 < 8
 cr : ∀ i, 0 ≤ s.s.cr i ∧ s.s.cr i ≤ 64
theorem zj5 {W : Type} (n : Nat) : ∀ (d : List (Int × W)) (a : Nat), SortD d → (∀ x ∈ d, (a : Int) ≤ x.1 ∧ x.1 < n) → d.length ≤ n - a := by
 intro d
 induction d with
 | nil => intro a _ _; simp
 | cons x d ih =>
  intro a s h
  obtain ⟨h1, h2⟩ := h x (by simp)
  obtain ⟨s1, s2⟩ := List.pairwise_cons.1 s
  have := ih (a + 1) s2 (fun y hy => ⟨by have := s1 y hy; omega, (h y (by simp [hy])).2⟩)
  simp only [List.length_cons]; omega
theorem AOk.dlen {v : VV} {s : AV} (o : AOk v s) : s.s.d.length ≤ 8 := zj5 8 s.s.d 0 o.sd fun x hx => o.dk x hx
structure SS (B : RO) (h0 : Heap) (L : List (Option (Nat × AObj))) (h : Heap) (V : VI) (v : VV) (K : AK) (U : AU) (s : AV) : Prop where
 E : Keep B h0 (L ++ (V.e v ++ AE V K U s)) h
 o : VOk V v
 R : ERow U.rS U.vS s.rs
 O : U.x.Ok s.s
 a : AOk v s
def s0 (v : VV) (g : Reg4) : AV := ⟨[], v.t, StV.z, g⟩
theorem SOk.nil {l : FL} (k : wK l) : SOk l [] := ⟨List.Pairwise.nil, fun x hx => (by cases hx), k.n6, k.good⟩
theorem AOk.zero {v : VV} {V : VI} (o : VOk V v) {g : Reg4} : AOk v (s0 v g) := ⟨SOk.nil o.f, List.Pairwise.nil, fun x hx => (by cases hx), fun i => by simp only [s0, StV.z, StV.cr]; (repeat' split) <;> omega⟩
section
variable {B : RO} {h0 h h' : Heap} {L M : List (Option (Nat × AObj))} {V : VI} {v : VV} {K : AK} {U : AU} {s : AV} {k : Nat} {i j : Int} {c : StV} {g : Reg4}
theorem zbd (hk : h k = some (curO c)) (hi : 0 ≤ i ∧ i < 3) : cellH B h (Addr.add ⟨k, 0, none⟩ (Int.toNat i * 1)) = some (.int .i64 (c.cr i)) := by
 rw [z8]
 have hc : i = 0 ∨ i = 1 ∨ i = 2 := by omega
 rcases hc with rfl | rfl | rfl <;> exact zd hk rfl
theorem zfY {n : Int} {Q : Bool → Heap → Prop} (hQ : Q (decide (0 ≤ n ∧ n < 3)) h) : Z4 B n h Q := by
 refine Z4.of ?_
 unfold zch
 refine ⟨fun h1 => Fin.of ?_, fun h1 => Fin.of ?_⟩
 ·have : decide (0 ≤ n ∧ n < 3) = decide (n < 3) := by simp; omega
  rw [this] at hQ; exact hQ
 ·rw [decide_eq_false (by omega)] at hQ; exact hQ
theorem zkA {Q : Int → Heap → Prop} (hk : h k = some (curO c)) (hi : 0 ≤ i ∧ i < 3) (hQ : Q (c.cr i) h) : wP B (some ⟨k, 0, none⟩) i h Q := by
 refine wP.of ?_
 unfold Wc
 refine ⟨fun e => (by cases e), fun _ => zfY ⟨fun _ => Fin.of ?_, fun e => absurd e (by simp; omega)⟩⟩
 unfold ZN
 exact ⟨_, rfl, by omega, by omega, _, zbd hk hi, Fin.of hQ⟩
theorem zlU {p : Int} {Q : Int → Heap → Prop} (hk : h k = some (curO c)) (hi : 0 ≤ i ∧ i < 3) (hQ : Q (IntKind.wrap .i64 (p + c.cr i)) h) : vB B (some ⟨k, 0, none⟩) i p h Q := by
 refine vB.of ?_
 unfold WR
 refine ⟨fun e => (by cases e), fun _ => zfY ⟨fun _ => Fin.of ?_, fun e => absurd e (by simp; omega)⟩⟩
 unfold Yp
 exact ⟨_, rfl, by omega, by omega, _, zbd hk hi, Fin.of hQ⟩
theorem zkB {q : Nat} {Q : Bool → Heap → Prop} (E : Keep B h0 L h) (hq : L[q]? = some (some (k, curO c))) (hi : 0 ≤ i ∧ i < 3) (hc : 0 ≤ c.cr i ∧ c.cr i < 64) (hQ : ∀ h', Keep B h0 (L.set q (some (k, curO (c.step i)))) h' → Q true h') : wQ B (some ⟨k, 0, none⟩) i h Q := by
 refine wQ.of ?_
 unfold Wd
 have hk := E.at q hq
 refine ⟨fun e => (by cases e), fun _ => zfY ⟨fun _ => ⟨_, rfl, by omega, by omega, _, zbd hk hi, fun hg => by omega, fun hl => Fin.of ?_⟩, fun e => absurd e (by simp; omega)⟩⟩
 unfold ZO
 have hw : IntKind.wrap .i64 (c.cr i + 1) = c.cr i + 1 := w64 (by omega) (by omega)
 refine ⟨_, rfl, by omega, by omega, _, zbd hk hi, _, rfl, by omega, by omega, ?_⟩
 rw [hw, z8]
 have h3 : i = 0 ∨ i = 1 ∨ i = 2 := by omega
 rcases h3 with rfl | rfl | rfl
 ·obtain ⟨es, E1⟩ := E.store q 0 (.int .i64 (c.cr 0 + 1)) hq rfl
  exact ⟨_, es, Fin.of (hQ _ E1)⟩
 ·obtain ⟨es, E1⟩ := E.store q 1 (.int .i64 (c.cr 1 + 1)) hq rfl
  exact ⟨_, es, Fin.of (hQ _ E1)⟩
 ·obtain ⟨es, E1⟩ := E.store q 2 (.int .i64 (c.cr 2 + 1)) hq rfl
  exact ⟨_, es, Fin.of (hQ _ E1)⟩
theorem zaN {st : Int} {Q : Option Addr → Heap → Prop} (hQ : ∀ k, h k = none → B k = none → Q (some ⟨k, 0, none⟩) (h.set k (rsO (.slice none 0 0) st))) : vy B st h Q := by
 refine vy.of ?_
 unfold zck
 intro k a b h1 e
 subst e
 exact Fin.of (hQ k a b)
theorem Keep.apM {M' : List (Option (Nat × AObj))} (E : Keep B h0 (L ++ M) h) (E' : Keep B h M' h') : Keep B h0 (L ++ (M ++ M')) h' := by
 rw [← List.append_assoc]; exact E.append E'
def acO0 : AObj := .vec zbN (zc [.slice none 0 0, .slice none 0 0, .slice none 0 0, .slice none 0 0]) 4
theorem zl0 {k7 : Nat} {Q : Option Addr → Heap → Prop} (E0 : Keep B h0 ((L ++ V.e v) ++ [some (k7, .vec Zd (zc [.int .i64 g.a, .int .i64 g.b, .int .i64 g.c, .int .i64 g.d]) 4)]) h) (o : VOk V v)
  (hQ : ∀ K U h', SS B h0 (L ++ [some (K.kX, acO0), some (K.kK, skO (.slice none 0 0))]) h' V v K U (s0 v g) → Q (some ⟨K.kA, 0, none⟩) h') : Zv B k7 (some ⟨V.kV, 0, none⟩) h Q := by
 have pr : ∀ {M : List (Option (Nat × AObj))} {h1 : Heap}, Keep B h0 ((L ++ V.e v) ++ (some (k7, .vec Zd (zc [.int .i64 g.a, .int .i64 g.b, .int .i64 g.c, .int .i64 g.d]) 4) :: M)) h1 → cellH B h1 (Addr.add ⟨V.kV, 0, none⟩ 3) = some (.int .i64 v.t) ∧ za B h1 ⟨k7, 0, none⟩ 0 [.int .i64 g.a, .int .i64 g.b, .int .i64 g.c, .int .i64 g.d] := fun {M h1} E => by
  refine ⟨?_, E.cM 0 rfl (i := 0) rfl, E.cM 0 rfl (i := 1) rfl, E.cM 0 rfl (i := 2) rfl, E.cM 0 rfl (i := 3) rfl, trivial⟩
  rw [List.append_assoc] at E
  exact zd ((VAt.mk (L := L) (x := V) (v := v)).at E 0 (by decide) rfl) rfl
 have fin : ∀ {kS kX kK : Nat} {x : StI} {h1 : Heap}, StI.Ok x StV.z → Keep B h0 ((L ++ V.e v) ++ [some (k7, .vec Zd (zc [.int .i64 g.a, .int .i64 g.b, .int .i64 g.c, .int .i64 g.d]) 4), some (kS, rsO (.slice none 0 0) v.t), some (x.kd, YN x.vd), x.rd, some (x.ks, shtO x.kf), some (x.kf, xu x.vf), x.rf, some (x.kc, curO StV.z), some (kX, acO0), some (kK, skO (.slice none 0 0))]) h1 → yw B k7 (some ⟨V.kV, 0, none⟩) ⟨V.kV, 0, none⟩ v.t g.a g.b g.c g.d (some ⟨kS, 0, none⟩) (some ⟨x.kd, 0, none⟩) (some ⟨x.ks, 0, none⟩) (some ⟨x.kc, 0, none⟩) g.a g.b g.c g.d ⟨kX, 0, none⟩ ⟨kK, 0, none⟩ h1 Q := fun {kS kX kK x h1} O E => by
  unfold yw
  intro kA a b h2 e2
  have E1 := E.nM a b e2
  refine ⟨(pr E1).1, (pr E1).2, Fin.of (hQ ⟨kA, kS, kX, kK⟩ ⟨.slice none 0 0, none, x⟩ _ ⟨?_, o, Row.nil _ _, O, AOk.zero o⟩)⟩
  rw [List.append_assoc] at E1 ⊢
  exact E1.sM [15, 16, 0, 1, 2, 3, 4, 5, 6, 17, 8, 99, 9, 10, 11, 12, 13, 14] (by decide)
 unfold Zv
 refine ⟨_, rfl, v.t, (pr E0).1, g.a, g.b, g.c, g.d, (pr E0).2, ?_⟩
 refine ⟨?_, ?_, ?_⟩
 ·skip
  refine zaN fun q1 a1 b1 => ?_
  have E1 := E0.nM (o := rsO (.slice none 0 0) v.t) a1 b1 rfl
  refine ⟨(pr E1).1, (pr E1).2, ?_⟩
  refine ⟨?_, ?_, ?_⟩
  ·skip
   refine Zz (g := g) fun x2 h2 O2 F2 => ?_
   have E2 := E1.apM F2
   refine ⟨(pr E2).1, (pr E2).2, ?_⟩
   refine ⟨?_, ?_⟩
   ·skip
    intro q3 a3 b3 h3 e3
    have E3 := E2.nM a3 b3 e3
    refine ⟨(pr E3).1, (pr E3).2, ?_⟩
    intro q4 a4 b4 h4 e4
    have E4 := E3.nM a4 b4 e4
    refine ⟨(pr E4).1, (pr E4).2, ?_⟩
    exact fin (by assumption) (E4.sM [0, 1, 2, 3, 4, 5, 6, 7, 8, 9] (by decide))
   ·skip
    intro q5 a5 b5 h5 e5
    have E5 := E2.nM a5 b5 e5
    refine ⟨(pr E5).1, (pr E5).2, ?_⟩
    intro q6 a6 b6 h6 e6
    have E6 := E5.nM a6 b6 e6
    refine ⟨(pr E6).1, (pr E6).2, ?_⟩
    exact fin (by assumption) (E6.sM [0, 1, 2, 3, 4, 5, 6, 7, 9, 8] (by decide))
  ·skip
   intro q7 a7 b7 h7 e7
   have E7 := E1.nM a7 b7 e7
   refine ⟨(pr E7).1, (pr E7).2, ?_⟩
   refine ⟨?_, ?_⟩
   ·skip
    refine Zz (g := g) fun x8 h8 O8 F8 => ?_
    have E8 := E7.apM F8
    refine ⟨(pr E8).1, (pr E8).2, ?_⟩
    intro q9 a9 b9 h9 e9
    have E9 := E8.nM a9 b9 e9
    refine ⟨(pr E9).1, (pr E9).2, ?_⟩
    exact fin (by assumption) (E9.sM [0, 1, 3, 4, 5, 6, 7, 8, 2, 9] (by decide))
   ·skip
    intro q10 a10 b10 h10 e10
    have E10 := E7.nM a10 b10 e10
    refine ⟨(pr E10).1, (pr E10).2, ?_⟩
    refine Zz (g := g) fun x11 h11 O11 F11 => ?_
    have E11 := E10.apM F11
    refine ⟨(pr E11).1, (pr E11).2, ?_⟩
    exact fin (by assumption) (E11.sM [0, 1, 4, 5, 6, 7, 8, 9, 2, 3] (by decide))
  ·skip
   intro q12 a12 b12 h12 e12
   have E12 := E1.nM a12 b12 e12
   refine ⟨(pr E12).1, (pr E12).2, ?_⟩
   refine ⟨?_, ?_⟩
   ·skip
    refine Zz (g := g) fun x13 h13 O13 F13 => ?_
    have E13 := E12.apM F13
    refine ⟨(pr E13).1, (pr E13).2, ?_⟩
    intro q14 a14 b14 h14 e14
    have E14 := E13.nM a14 b14 e14
    refine ⟨(pr E14).1, (pr E14).2, ?_⟩
    exact fin (by assumption) (E14.sM [0, 1, 3, 4, 5, 6, 7, 8, 9, 2] (by decide))
   ·skip
    intro q15 a15 b15 h15 e15
    have E15 := E12.nM a15 b15 e15
    refine ⟨(pr E15).1, (pr E15).2, ?_⟩
    refine Zz (g := g) fun x16 h16 O16 F16 => ?_
    have E16 := E15.apM F16
    refine ⟨(pr E16).1, (pr E16).2, ?_⟩
    exact fin (by assumption) (E16.sM [0, 1, 4, 5, 6, 7, 8, 9, 3, 2] (by decide))
 ·skip
  intro q17 a17 b17 h17 e17
  have E17 := E0.nM a17 b17 e17
  refine ⟨(pr E17).1, (pr E17).2, ?_⟩
  refine ⟨?_, ?_⟩
  ·skip
   refine zaN fun q18 a18 b18 => ?_
   have E18 := E17.nM (o := rsO (.slice none 0 0) v.t) a18 b18 rfl
   refine ⟨(pr E18).1, (pr E18).2, ?_⟩
   refine ⟨?_, ?_⟩
   ·skip
    refine Zz (g := g) fun x19 h19 O19 F19 => ?_
    have E19 := E18.apM F19
    refine ⟨(pr E19).1, (pr E19).2, ?_⟩
    intro q20 a20 b20 h20 e20
    have E20 := E19.nM a20 b20 e20
    refine ⟨(pr E20).1, (pr E20).2, ?_⟩
    exact fin (by assumption) (E20.sM [0, 2, 3, 4, 5, 6, 7, 8, 1, 9] (by decide))
   ·skip
    intro q21 a21 b21 h21 e21
    have E21 := E18.nM a21 b21 e21
    refine ⟨(pr E21).1, (pr E21).2, ?_⟩
    refine Zz (g := g) fun x22 h22 O22 F22 => ?_
    have E22 := E21.apM F22
    refine ⟨(pr E22).1, (pr E22).2, ?_⟩
    exact fin (by assumption) (E22.sM [0, 2, 4, 5, 6, 7, 8, 9, 1, 3] (by decide))
  ·skip
   intro q23 a23 b23 h23 e23
   have E23 := E17.nM a23 b23 e23
   refine ⟨(pr E23).1, (pr E23).2, ?_⟩
   refine zaN fun q24 a24 b24 => ?_
   have E24 := E23.nM (o := rsO (.slice none 0 0) v.t) a24 b24 rfl
   refine ⟨(pr E24).1, (pr E24).2, ?_⟩
   refine Zz (g := g) fun x25 h25 O25 F25 => ?_
   have E25 := E24.apM F25
   refine ⟨(pr E25).1, (pr E25).2, ?_⟩
   exact fin (by assumption) (E25.sM [0, 3, 4, 5, 6, 7, 8, 9, 1, 2] (by decide))
 ·skip
  intro q26 a26 b26 h26 e26
  have E26 := E0.nM a26 b26 e26
  refine ⟨(pr E26).1, (pr E26).2, ?_⟩
  refine ⟨?_, ?_⟩
  ·skip
   refine zaN fun q27 a27 b27 => ?_
   have E27 := E26.nM (o := rsO (.slice none 0 0) v.t) a27 b27 rfl
   refine ⟨(pr E27).1, (pr E27).2, ?_⟩
   refine ⟨?_, ?_⟩
   ·skip
    refine Zz (g := g) fun x28 h28 O28 F28 => ?_
    have E28 := E27.apM F28
    refine ⟨(pr E28).1, (pr E28).2, ?_⟩
    intro q29 a29 b29 h29 e29
    have E29 := E28.nM a29 b29 e29
    refine ⟨(pr E29).1, (pr E29).2, ?_⟩
    exact fin (by assumption) (E29.sM [0, 2, 3, 4, 5, 6, 7, 8, 9, 1] (by decide))
   ·skip
    intro q30 a30 b30 h30 e30
    have E30 := E27.nM a30 b30 e30
    refine ⟨(pr E30).1, (pr E30).2, ?_⟩
    refine Zz (g := g) fun x31 h31 O31 F31 => ?_
    have E31 := E30.apM F31
    refine ⟨(pr E31).1, (pr E31).2, ?_⟩
    exact fin (by assumption) (E31.sM [0, 2, 4, 5, 6, 7, 8, 9, 3, 1] (by decide))
  ·skip
   intro q32 a32 b32 h32 e32
   have E32 := E26.nM a32 b32 e32
   refine ⟨(pr E32).1, (pr E32).2, ?_⟩
   refine zaN fun q33 a33 b33 => ?_
   have E33 := E32.nM (o := rsO (.slice none 0 0) v.t) a33 b33 rfl
   refine ⟨(pr E33).1, (pr E33).2, ?_⟩
   refine Zz (g := g) fun x34 h34 O34 F34 => ?_
   have E34 := E33.apM F34
   refine ⟨(pr E34).1, (pr E34).2, ?_⟩
   exact fin (by assumption) (E34.sM [0, 3, 4, 5, 6, 7, 8, 9, 2, 1] (by decide))
theorem zb9 {Q : Option Addr → Heap → Prop} (E : Keep B h0 (L ++ V.e v) h) (o : VOk V v)
  (hQ : ∀ K U h', SS B h0 (L ++ [some (K.kX, acO0), some (K.kK, skO (.slice none 0 0))]) h' V v K U (s0 v g) → Q (some ⟨K.kA, 0, none⟩) h') : w8 B (some ⟨V.kV, 0, none⟩) g.a g.b g.c g.d h Q := by
 refine w8.of ?_
 unfold zbu
 intro k7 a7 b7 h8 e8
 exact ⟨fun e => (by cases e), fun _ => Fin.of (zl0 (E.made a7 b7 e8) o hQ)⟩
theorem AOk.re {s' : AV} (a : AOk v s) (e : s'.s = s.s) : AOk v s' := ⟨by rw [e]; exact a.so, by rw [e]; exact a.sd, by rw [e]; exact a.dk, by rw [e]; exact a.cr⟩
def noteS (v : VV) (s : AV) (k i : Int) : AV := { s with rs := (noteA v s.rs s.st k i).2.1, st := (noteA v s.rs s.st k i).2.2 }
def noteE (v : VV) (s : AV) (k i : Int) : Int := if (noteA v s.rs s.st k i).1 = true then 0 else 9
theorem zcJ {k i : Int} {Q : Int → Heap → Prop} (S : SS B h0 L h V v K U s) (hn : s.rs.length ≤ 90000) (hQ : ∀ U' h', U'.x = U.x → SS B h0 L h' V v K U' (noteS v s k i) → Q (noteE v s k i) h') : xm B (some ⟨K.kA, 0, none⟩) k i h Q := by
 refine xm.of ?_
 unfold XA
 refine ⟨_, rfl, _, S.E.cM 7 rfl (i := 1) rfl, _, rfl, _, S.E.cM 7 rfl (i := 0) rfl, zjL S.E VAt.mk S.o fun h1 E1 => ⟨E1.cM 7 rfl (i := 1) rfl, E1.cM 7 rfl (i := 0) rfl, ?_⟩⟩
 refine zkW (j := L.length + 8) (vS := U.vS) (st := s.st) (r := U.rS) E1 ⟨upM 8 rfl, upM 9 rfl⟩ S.R hn S.o.v3 fun vS' r' h2 R' E2 => ?_
 rw [setM, show L.length + 8 + 1 = L.length + 9 from rfl, setM] at E2
 have S2 : SS B h0 L h2 V v K ⟨vS', r', U.x⟩ (noteS v s k i) := ⟨E2, S.o, R', S.O, S.a.re rfl⟩
 have hq := hQ ⟨vS', r', U.x⟩ _ rfl S2
 unfold noteE at hq
 refine ⟨fun hT => ⟨S2.E.cM 7 rfl (i := 1) rfl, S2.E.cM 7 rfl (i := 0) rfl, Fin.of ?_⟩, fun hF => ⟨S2.E.cM 7 rfl (i := 1) rfl, S2.E.cM 7 rfl (i := 0) rfl, Fin.of ?_⟩⟩
 ·rw [if_pos hT] at hq; exact hq
 ·rw [if_neg (by rw [hF]; simp)] at hq; exact hq
theorem SS.dat (S : SS B h0 L h V v K U s) : zaB (L ++ (V.e v ++ AE V K U s)) (L.length + 10) U.x.kd U.x.vd U.x.rd := ⟨upM 10 rfl, upM 11 rfl⟩
def inC (i : Int) : Bool := decide (0 ≤ i ∧ i < 8)
def loadA (v : VV) (s : AV) (i : Int) : AV × Int × Int :=
 if inC i = true then (match atD s.s.d i with
  | some x => (s, x, 0)
  | none => (noteS v s 0 i, if noteE v s 0 i = 0 then (ze v.c i).1 else 0, noteE v s 0 i)) else (s, 0, 1)
theorem zd1 {i : Int} {Q : Int → Int → Heap → Prop} (S : SS B h0 L h V v K U s) (hn : s.rs.length ≤ 90000) (hQ : ∀ U' h', U'.x = U.x → SS B h0 L h' V v K U' (loadA v s i).1 → Q (loadA v s i).2.1 (loadA v s i).2.2 h') : yX B (some ⟨K.kA, 0, none⟩) i h Q := by
 refine yX.of ?_
 unfold Z7
 have out : inC i = false → Q 0 1 h := fun hn => by
  have e : loadA v s i = (s, 0, 1) := by unfold loadA; rw [hn]; rfl
  rw [e] at hQ; exact hQ U h rfl S
 refine ⟨fun e => (by cases e), fun _ => ⟨fun h1 => Fin.of (out (decide_eq_false (by omega))), fun h1 => ⟨fun h2 => Fin.of (out (decide_eq_false (by omega))), fun h2 => Fin.of ?_⟩⟩⟩
 have hi : inC i = true := decide_eq_true (by omega)
 unfold vV
 refine ⟨_, rfl, _, S.E.cM 7 rfl (i := 2) rfl, ziL S.E S.dat S.O.d S.a.sd (by have := S.a.dlen; omega) ?_⟩
 cases hd : atD s.s.d i with
 | some y =>
  have e : loadA v s i = (s, y, 0) := by unfold loadA; rw [if_pos hi, hd]
  rw [e] at hQ
  exact ⟨fun _ => Fin.of (hQ U h rfl S), fun e => by cases e⟩
 | none =>
  have e : loadA v s i = (noteS v s 0 i, if noteE v s 0 i = 0 then (ze v.c i).1 else 0, noteE v s 0 i) := by unfold loadA; rw [if_pos hi, hd]
  rw [e] at hQ
  refine ⟨fun e => (by cases e), fun _ => zcJ S hn fun U' h1 e1 S1 => ?_⟩
  have hq := hQ U' h1 e1 S1
  refine ⟨fun h0 => ⟨_, rfl, _, S1.E.cM 7 rfl (i := 0) rfl, _, rfl, _, S1.E.cM 0 rfl (i := 0) rfl, Vw (Ww (S1.E.gM 1 rfl)) (Fin.of ?_)⟩, fun h0 => Fin.of ?_⟩
  ·simp only [h0, if_true] at hq ⊢; exact hq
  ·simp only [if_neg h0] at hq; exact hq
def wZ (s : AV) (i x : Int) : AV × Int := if inC i = true then ({ s with s := { s.s with d := insD s.s.d i x } }, 0) else (s, 1)
theorem AOk.store {i x : Int} (a : AOk v s) (hi : inC i = true) : AOk v { s with s := { s.s with d := insD s.s.d i x } } := ⟨a.so, a.sd.ins, fun y hy => by
 rcases zbg hy with rfl | hy
 ·exact of_decide_eq_true hi
 ·exact a.dk y hy, a.cr⟩
theorem zgi {i x : Int} {Q : Int → Heap → Prop} (S : SS B h0 L h V v K U s) (hQ : ∀ U' h', SS B h0 L h' V v K U' (wZ s i x).1 → Q (wZ s i x).2 h') : xf B (some ⟨K.kA, 0, none⟩) i x h Q := by
 refine xf.of ?_
 unfold ZJ
 have out : inC i = false → Q 1 h := fun hn => by
  have e : wZ s i x = (s, 1) := by unfold wZ; rw [hn]; rfl
  rw [e] at hQ; exact hQ U h S
 refine ⟨fun e => (by cases e), fun _ => ⟨fun h1 => Fin.of (out (decide_eq_false (by omega))), fun h1 => ⟨fun h2 => Fin.of (out (decide_eq_false (by omega))), fun h2 => Fin.of ?_⟩⟩⟩
 have hi : inC i = true := decide_eq_true (by omega)
 unfold vI
 have e : wZ s i x = ({ s with s := { s.s with d := insD s.s.d i x } }, 0) := by unfold wZ; rw [if_pos hi]
 rw [e] at hQ
 refine ⟨_, rfl, _, S.E.cM 7 rfl (i := 2) rfl, ziO S.E S.dat S.O.d S.a.sd (by have := S.a.dlen; omega) fun v' r' h1 R1 E1 => Fin.of ?_⟩
 rw [setM, show L.length + 10 + 1 = L.length + 11 from rfl, setM] at E1
 exact hQ ⟨U.vS, U.rS, { U.x with vd := v', rd := r' }⟩ _ ⟨E1, S.o, S.R, ⟨R1, S.O.f⟩, S.a.store hi⟩
theorem zeo {Q : Bool → Heap → Prop} (S : SS B h0 L h V v K U s) (hn : s.rs.length ≤ 90000) (hQ : ∀ h', SS B h0 L h' V v K U s → Q (vld v s.rs) h') : yH B (some ⟨K.kA, 0, none⟩) h Q := by
 refine yH.of ?_
 unfold vh
 refine ⟨fun e => (by cases e), fun _ => ⟨_, rfl, _, S.E.cM 7 rfl (i := 1) rfl, _, rfl, _, S.E.cM 7 rfl (i := 0) rfl, zjL S.E VAt.mk S.o fun h1 E1 => ⟨E1.cM 7 rfl (i := 1) rfl, E1.cM 7 rfl (i := 0) rfl, ?_⟩⟩⟩
 refine zgl (j := L.length + 8) (vS := U.vS) (st := s.st) (r := U.rS) E1 ⟨upM 8 rfl, upM 9 rfl⟩ S.R (by omega) S.o.v3 fun h2 E2 => ⟨E2.cM 7 rfl (i := 1) rfl, E2.cM 7 rfl (i := 0) rfl, Fin.of (hQ _ ⟨E2, S.o, S.R, S.O, S.a⟩)⟩
def recvA (v : VV) (s : AV) (i : Int) : AV × Int × Int :=
 if 0 ≤ i ∧ i < 3 then (if noteE v s 2 i = 0 then (if atOf v.ts i ((ze v.l i).1 + s.s.cr i) < 0 then (noteS v s 2 i, 0, 10) else ({ noteS v s 2 i with s := s.s.step i }, atOf v.ts i ((ze v.l i).1 + s.s.cr i), 0)) else (noteS v s 2 i, 0, noteE v s 2 i)) else (s, 0, 1)
theorem AOk.recv {i : Int} (a : AOk v s) (hi : 0 ≤ i ∧ i < 3) (hc : s.s.cr i < 64) {s' : AV} (e : s'.s = s.s.step i) : AOk v s' := by
 obtain ⟨e1, e2⟩ := StV.step_d s.s i
 refine ⟨by rw [e, e2]; exact a.so, by rw [e, e1]; exact a.sd, by rw [e, e1]; exact a.dk, fun j => ?_⟩
 rw [e, StV.step_cr _ hi]
 split
 ·have := a.cr i; omega
 ·exact a.cr j
theorem StI.Ok.of {x : StI} {a b : StV} (o : x.Ok a) (e1 : b.d = a.d) (e2 : b.f = a.f) : x.Ok b := ⟨by rw [e1]; exact o.d, by rw [e2]; exact o.f⟩
theorem zlJ {i : Int} {Q : Int → Int → Heap → Prop} (S : SS B h0 L h V v K U s) (hn : s.rs.length ≤ 90000) (hQ : ∀ U' h', SS B h0 L h' V v K U' (recvA v s i).1 → Q (recvA v s i).2.1 (recvA v s i).2.2 h') : xW B (some ⟨K.kA, 0, none⟩) i h Q := by
 refine xW.of ?_
 unfold Z9
 have out : ¬ (0 ≤ i ∧ i < 3) → Q 0 1 h := fun hn => by
  have e : recvA v s i = (s, 0, 1) := by unfold recvA; rw [if_neg hn]
  rw [e] at hQ; exact hQ U h S
 refine ⟨fun e => (by cases e), fun _ => ⟨fun h1 => Fin.of (out (by omega)), fun h1 => ⟨fun h2 => Fin.of (out (by omega)), fun h2 => Fin.of ?_⟩⟩⟩
 have hi : 0 ≤ i ∧ i < 3 := by omega
 unfold vW
 refine zcJ S hn fun U' h1 e1 S1 => ⟨fun h0 => ?_, fun h0 => Fin.of ?_⟩
 ·refine ⟨_, rfl, _, S1.E.cM 7 rfl (i := 0) rfl, _, rfl, _, S1.E.cM 0 rfl (i := 2) rfl, YJ S.o.k.t3 (S1.E.gM 5 rfl) (S1.E.gM 6 rfl) ?_⟩
  refine ⟨_, rfl, _, S1.E.cM 7 rfl (i := 0) rfl, _, rfl, _, S1.E.cM 0 rfl (i := 2) rfl, _, rfl, _, S1.E.cM 7 rfl (i := 4) rfl, ?_⟩
  refine zlU (c := s.s) (S1.E.gM 15 rfl) hi ⟨S1.E.cM 7 rfl (i := 0) rfl, S1.E.cM 0 rfl (i := 2) rfl, S1.E.cM 7 rfl (i := 4) rfl, ?_⟩
  have hp := S.o.k.place i
  have hs := S.o.k.size i
  have hc := S.a.cr i
  rw [w64 (by omega) (by omega)]
  refine ziJ S.o.k.t3 (S1.E.gM 5 rfl) ⟨S1.E.cM 7 rfl (i := 0) rfl, S1.E.cM 0 rfl (i := 2) rfl, S1.E.cM 7 rfl (i := 4) rfl, fun hlt => Fin.of ?_, fun hge => ?_⟩
  ·have e : recvA v s i = (noteS v s 2 i, 0, 10) := by unfold recvA; rw [if_pos hi, if_pos h0, if_pos hlt]
   rw [e] at hQ; exact hQ _ _ S1
  ·have e : recvA v s i = ({ noteS v s 2 i with s := s.s.step i }, atOf v.ts i ((ze v.l i).1 + s.s.cr i), 0) := by unfold recvA; rw [if_pos hi, if_pos h0, if_neg hge]
   rw [e] at hQ
   have hlt : s.s.cr i < 64 := by
    unfold atOf at hge
    split at hge
    ·omega
    ·omega
   refine ⟨_, rfl, _, S1.E.cM 7 rfl (i := 4) rfl, zkB (c := s.s) (q := L.length + 15) S1.E (upM 15 rfl) hi ⟨hc.1, hlt⟩ fun h2 E2 => Fin.of ?_⟩
   rw [setM] at E2
   obtain ⟨e1, e2⟩ := StV.step_d s.s i
   exact hQ U' _ ⟨E2, S.o, S1.R, S1.O.of e1 e2, S.a.recv hi hlt rfl⟩
 ·have e : recvA v s i = (noteS v s 2 i, 0, noteE v s 2 i) := by unfold recvA; rw [if_pos hi, if_neg h0]
  rw [e] at hQ; exact hQ _ _ S1
end
def shI (V : VI) (U : AU) : ShI := ⟨V.kT, V.kR, V.vt, V.rt, U.x.ks, U.x.kf⟩
def restS (V : VI) (v : VV) (K : AK) (U : AU) (s : AV) : List (Option (Nat × AObj)) := [some (V.kV, viewO V v.t), some (V.kC, xQ v.c), some (V.kF, feedO v.ts V.kP), some (V.kP, xQ v.l), some (K.kA, attO V K U.x s.g), some (K.kS, rsO U.vS s.st), U.rS, some (U.x.kd, YN U.x.vd), U.x.rd, some (U.x.kc, curO s.s)]
def AU.w (U : AU) (vf : Value) (rf : Option (Nat × AObj)) : AU := { U with x := { U.x with vf := vf, rf := rf } }
def AV.wf (s : AV) (f : DFL) : AV := { s with s := { s.s with f := f } }
def VI.w (V : VI) (r : Option (Nat × AObj)) : VI := { V with rt := r }
def z7 (v : VV) (s : AV) (i : Int) : AV := if inR i = true then (if (getS v.f s.s.f i).2 = true then s else noteS v s 1 i) else s
def yt (v : VV) (s : AV) (i : Int) : Int := if inR i = true then (if (getS v.f s.s.f i).2 = true then 0 else noteE v s 1 i) else 1
def Z3 (v : VV) (s : AV) (i : Int) : FileS := if inR i = true then (getS v.f s.s.f i).1 else f0
theorem wh (v : VV) (s : AV) (i : Int) : (z7 v s i).s = s.s ∧ (z7 v s i).g = s.g := by
 unfold z7; (repeat' split) <;> exact ⟨rfl, rfl⟩
theorem zbs (v : VV) (s : AV) (i : Int) : (z7 v s i).rs.length ≤ s.rs.length + 1 := by
 unfold z7; (repeat' split)
 ·omega
 ·exact zew _ _ _ _ _
 ·omega
theorem zan {v : VV} {s : AV} {i : Int} (h : yt v s i = 0) : inR i = true := by
 unfold yt at h
 split at h
 ·assumption
 ·omega
def wS (v : VV) (s : AV) (i : Int) (F : DFL → DFL) : AV × Int := if yt v s i = 0 then ((z7 v s i).wf (F s.s.f), 0) else (z7 v s i, yt v s i)
def atF (f : FileS) (n : Int) : Int := if 0 ≤ n ∧ n < f.2.size then x4 f.2 n.toNat else -1
def readA (v : VV) (s : AV) (i n : Int) : AV × Int × Int := if yt v s i = 0 then (z7 v s i, atF (getS v.f s.s.f i).1 n, 0) else (z7 v s i, 0, yt v s i)
def VZ (v : VV) (s : AV) (i n : Int) (c : UInt8) : AV × Int := wS v s i fun d => upS v.f d i (putF (getS v.f d i).1 n c)
def WC (v : VV) (s : AV) (i : Int) : AV × Int := wS v s i fun d => upS v.f d i (true, (getS v.f d i).1.2)
def WE (v : VV) (s : AV) (i : Int) : AV × Int := wS v s i fun d => upS v.f d i f0
def fcutA (v : VV) (s : AV) (i n : Int) : AV × Int := wS v s i fun d => upS v.f d i (cutF (getS v.f d i).1 n)
def w7 (v : VV) (s : AV) (a b : Int) : AV × Int :=
 if inR b = true then (if yt v s a = 0 then wS v (z7 v s a) b (fun d => renS v.f d a b) else (z7 v s a, yt v s a)) else (s, 1)
section
variable {B : RO} {h0 h h' : Heap} {L M : List (Option (Nat × AObj))} {V : VI} {v : VV} {K : AK} {U : AU} {s : AV} {k : Nat} {i j : Int} {c : StV} {g : Reg4} {o o' : AObj} {y : Option (Nat × AObj)}
theorem toSh (E : Keep B h0 (L ++ (V.e v ++ AE V K U s)) h) : Keep B h0 ((L ++ restS V v K U s) ++ (shI V U).m U.x.vf U.x.rf) h := by
 rw [List.append_assoc]
 exact E.sM [0, 1, 5, 6, 7, 8, 9, 10, 11, 15, 2, 3, 4, 12, 13, 14] (by decide)
theorem ofSh {vd : Value} {rd : Option (Nat × AObj)} {f : DFL} (E : Keep B h0 ((L ++ restS V v K U s) ++ (shI V U).m vd rd) h) : Keep B h0 (L ++ (V.e v ++ AE V K (U.w vd rd) (s.wf f))) h := by
 rw [List.append_assoc] at E
 exact E.sM [0, 1, 10, 11, 12, 2, 3, 4, 5, 6, 7, 8, 13, 14, 15, 9] (by decide)
theorem atMid : ((L ++ [y]) ++ M)[L.length]? = some y := zO _ (by rw [List.getElem?_append_right (Nat.le_refl _), Nat.sub_self]; rfl)
theorem zl1 (z : Option (Nat × AObj)) : ((L ++ [y]) ++ M).set L.length z = (L ++ [z]) ++ M := by
 rw [List.append_assoc, List.set_append_right _ _ (Nat.le_refl _), Nat.sub_self, List.append_assoc]; rfl
theorem Keep.gP (E : Keep B h0 ((L ++ [some (k, o)]) ++ M) h) : h k = some o := E.at L.length atMid
theorem Keep.pP (E : Keep B h0 ((L ++ [some (k, o)]) ++ M) h) : Keep B h0 ((L ++ [some (k, o')]) ++ M) (h.set k o') := by
 have := E.put (o' := o') L.length atMid
 rwa [zl1] at this
theorem Keep.gP' (E : Keep B h0 ((L ++ [some (k, o)] ++ [y]) ++ M) h) : h k = some o := by
 rw [List.append_assoc (L ++ [some (k, o)])] at E
 exact E.gP
theorem Keep.pP' (E : Keep B h0 ((L ++ [some (k, o)] ++ [y]) ++ M) h) : Keep B h0 ((L ++ [some (k, o')] ++ [y]) ++ M) (h.set k o') := by
 rw [List.append_assoc (L ++ [some (k, o)])] at E
 have := E.pP (o' := o')
 rwa [← List.append_assoc] at this
theorem SS.nP (S : SS B h0 L h V v K U s) (hk : h k = none) (hb : B k = none) (e : h' = h.set k o) : SS B h0 (L ++ [some (k, o)]) h' V v K U s := ⟨S.E.nP hk hb e, S.o, S.R, S.O, S.a⟩
theorem SS.dP (S : SS B h0 (L ++ [y]) h V v K U s) : SS B h0 L h V v K U s := ⟨S.E.dP, S.o, S.R, S.O, S.a⟩
theorem SS.pP (S : SS B h0 (L ++ [some (k, o)]) h V v K U s) : SS B h0 (L ++ [some (k, o')]) (h.set k o') V v K U s := ⟨S.E.pP, S.o, S.R, S.O, S.a⟩
theorem SS.pP' (S : SS B h0 (L ++ [some (k, o)] ++ [y]) h V v K U s) : SS B h0 (L ++ [some (k, o')] ++ [y]) (h.set k o') V v K U s := ⟨S.E.pP', S.o, S.R, S.O, S.a⟩
theorem SS.gP (S : SS B h0 (L ++ [some (k, o)]) h V v K U s) : h k = some o := S.E.gP
theorem SS.gP' (S : SS B h0 (L ++ [some (k, o)] ++ [y]) h V v K U s) : h k = some o := S.E.gP'
theorem SS.f (S : SS B h0 L h V v K U s) {vd : Value} {rd : Option (Nat × AObj)} {f : DFL} {h1 : Heap} (E : Keep B h0 ((L ++ restS V v K U s) ++ (shI V U).m vd rd) h1) (R : zV rd vd f) (a : SOk v.f f) : SS B h0 L h1 V v K (U.w vd rd) (s.wf f) :=
 ⟨ofSh E, S.o, S.R, ⟨S.O.d, R⟩, ⟨a, S.a.sd, S.a.dk, S.a.cr⟩⟩
theorem zgj {k6 kb : Nat} {f6 f : FileS} {w : Bool} {Q : Bool → ByteArray → Int → Heap → Prop} (S : SS B h0 (L ++ [some (k6, fO f6)] ++ [some (kb, fO f)]) h V v K U s) (hn : s.rs.length ≤ 90000)
  (hT : w = true → ∀ h', SS B h0 L h' V v K U s → Q f.1 f.2 0 h') (hF : w = false → ∀ U' h', SS B h0 L h' V v K U' (noteS v s 1 i) → Q f.1 f.2 (noteE v s 1 i) h') : xR B (some ⟨K.kA, 0, none⟩) i k6 ⟨kb, 0, none⟩ w h Q := by
 unfold xR
 refine ⟨fun hw => ?_, fun hw => ?_⟩
 ·refine ⟨_, _, ⟨zd S.gP rfl, zd S.gP rfl, trivial⟩, _, zv S.gP' rfl (by simp) (by simp [isOne]) (by simp), ?_⟩
  have S1 := S.pP' (o' := fO f)
  exact ⟨_, _, ⟨zd S1.gP' rfl, zd S1.gP' rfl, trivial⟩, Fin.of (hT hw _ S1.dP.dP)⟩
 ·refine ⟨_, _, ⟨zd S.gP rfl, zd S.gP rfl, trivial⟩, zcJ S hn fun U' h1 e1 S1 => ⟨⟨zd S1.gP rfl, zd S1.gP rfl, trivial⟩, _, zv S1.gP' rfl (by simp) (by simp [isOne]) (by simp), ?_⟩⟩
  have S2 := S1.pP' (o' := fO f)
  exact ⟨⟨zd S2.gP rfl, zd S2.gP rfl, trivial⟩, _, _, ⟨zd S2.gP' rfl, zd S2.gP' rfl, trivial⟩, Fin.of (hF hw U' _ S2.dP.dP)⟩
theorem zcY {k6 kb : Nat} {f6 f7 f : FileS} {w : Bool} {Q : Bool → ByteArray → Int → Heap → Prop} (S : SS B h0 (L ++ [some (k6, fO f6)] ++ [some (kb, fO f7)]) h V v K U s) (hn : s.rs.length ≤ 90000)
  (hT : w = true → ∀ h', SS B h0 L h' V v K U s → Q f.1 f.2 0 h') (hF : w = false → ∀ U' h', SS B h0 L h' V v K U' (noteS v s 1 i) → Q f.1 f.2 (noteE v s 1 i) h') : yT B (some ⟨K.kA, 0, none⟩) i k6 ⟨K.kA, 0, none⟩ (some ⟨U.x.ks, 0, none⟩) ⟨K.kA, 0, none⟩ (some ⟨V.kV, 0, none⟩) ⟨V.kV, 0, none⟩ (some ⟨V.kT, 0, none⟩) ⟨kb, 0, none⟩ f.1 f.2 w h Q := by
 unfold yT
 have S1 := S.pP (o' := fO f)
 refine ⟨_, zv S.gP rfl (by simp) (by simp [isOne]) (by simp), S1.E.cM 7 rfl (i := 3) rfl, S1.E.cM 7 rfl (i := 0) rfl, S1.E.cM 0 rfl (i := 1) rfl, fun hw => Fin.of ?_, fun hw => Fin.of ?_⟩
 ·exact zgj S1 hn (fun _ => hT hw) (fun e => by cases e)
 ·exact zgj S1 hn (fun e => by cases e) (fun _ => hF hw)
theorem zhk {Q : Bool → ByteArray → Bool → Heap → Prop} (S : SS B h0 L h V v K U s) (hQ : ∀ h', SS B h0 L h' V v K U s → Q (getS v.f s.s.f i).1.1 (getS v.f s.s.f i).1.2 (getS v.f s.s.f i).2 h') : yL B (some ⟨U.x.ks, 0, none⟩) (some ⟨V.kT, 0, none⟩) i h Q :=
 VE (x := shI V U) (toSh S.E) S.o.r S.O.f S.a.so.s (by have := S.a.so.len; omega) fun h1 E1 => hQ h1 (S.f E1 S.O.f S.a.so)
theorem XO {Q : Bool → ByteArray → Int → Heap → Prop} (S : SS B h0 L h V v K U s) (hn : s.rs.length ≤ 90000) (hQ : ∀ U' h', SS B h0 L h' V v K U' (z7 v s i) → Q (Z3 v s i).1 (Z3 v s i).2 (yt v s i) h') : z9 B (some ⟨K.kA, 0, none⟩) i h Q := by
 refine z9.of ?_
 unfold ZL
 intro k6 a6 b6 h7 e7
 have S0 := S.nP (o := fO f0) a6 b6 e7
 have out : ¬ (0 ≤ i ∧ i < 6) → ∃ h1 : Heap, zi ⟨k6, 0, none⟩ h7 0 [(.bool false), (.string ByteArray.empty)] h1 ∧ ∃ b1 : Bool, ∃ s1 : ByteArray, za B h1 ⟨k6, 0, none⟩ 0 [(.bool b1), (.string s1)] ∧ Fin B h1 (Q (b1) s1 (1)) := fun hi => by
  have hr : inR i = false := decide_eq_false hi
  unfold z7 Z3 yt at hQ
  rw [hr] at hQ
  have S1 := S0.pP (o' := fO f0)
  exact ⟨_, zv S0.gP rfl (by simp) (by simp [isOne]) (by simp), _, _, ⟨zd S1.gP rfl, zd S1.gP rfl, trivial⟩, Fin.of (hQ U _ S1.dP)⟩
 refine ⟨fun e => (by cases e), fun _ => ⟨fun h1 => out (by omega), fun h1 => ⟨fun h2 => out (by omega), fun h2 => Fin.of ?_⟩⟩⟩
 have hr : inR i = true := decide_eq_true (by omega)
 have hT : (getS v.f s.s.f i).2 = true → ∀ h', SS B h0 L h' V v K U s → Q (getS v.f s.s.f i).1.1 (getS v.f s.s.f i).1.2 0 h' := fun hw h' S' => by
  unfold z7 Z3 yt at hQ
  rw [if_pos hr, if_pos hw, if_pos hr, if_pos hr, if_pos hw] at hQ
  exact hQ U h' S'
 have hF : (getS v.f s.s.f i).2 = false → ∀ U' h', SS B h0 L h' V v K U' (noteS v s 1 i) → Q (getS v.f s.s.f i).1.1 (getS v.f s.s.f i).1.2 (noteE v s 1 i) h' := fun hw U' h' S' => by
  have hw' : ¬ (getS v.f s.s.f i).2 = true := by rw [hw]; decide
  unfold z7 Z3 yt at hQ
  rw [if_pos hr, if_neg hw', if_pos hr, if_pos hr, if_neg hw'] at hQ
  exact hQ U' h' S'
 clear out hQ
 unfold vJ
 refine ⟨_, rfl, _, S0.E.cM 7 rfl (i := 3) rfl, _, rfl, _, S0.E.cM 7 rfl (i := 0) rfl, _, rfl, _, S0.E.cM 0 rfl (i := 1) rfl, zhk S0 fun h1 S1 => ?_, fun k112 a112 b112 h113 e113 => ?_⟩
 ·refine ⟨S1.E.cM 7 rfl (i := 3) rfl, S1.E.cM 7 rfl (i := 0) rfl, S1.E.cM 0 rfl (i := 1) rfl, fun hw => ?_, fun hw => ?_⟩
  all_goals
   intro k2 a2 b2 h2 e2
   have S2 := S1.nP (o := fO f0) a2 b2 e2
   refine ⟨S2.E.cM 7 rfl (i := 3) rfl, S2.E.cM 7 rfl (i := 0) rfl, S2.E.cM 0 rfl (i := 1) rfl, zcY (f := (getS v.f s.s.f i).1) S2 hn ?_ ?_⟩
  ·exact fun _ => hT hw
  ·exact fun e => by cases e
  ·exact fun e => by cases e
  ·exact fun _ => hF hw
 ·have S2 := S0.nP (o := fO f0) a112 b112 e113
  refine ⟨S2.E.cM 7 rfl (i := 3) rfl, S2.E.cM 7 rfl (i := 0) rfl, S2.E.cM 0 rfl (i := 1) rfl, zhk S2 fun h3 S3 => ⟨S3.E.cM 7 rfl (i := 3) rfl, S3.E.cM 7 rfl (i := 0) rfl, S3.E.cM 0 rfl (i := 1) rfl, fun hw => ?_, fun hw => ?_⟩⟩
  ·exact zcY (f := (getS v.f s.s.f i).1) S3 hn (fun _ => hT hw) (fun e => by cases e)
  ·exact zcY (f := (getS v.f s.s.f i).1) S3 hn (fun e => by cases e) (fun _ => hF hw)
theorem zlY {f : FileS} {n : Int} {Q : Int → Heap → Prop} (hQ : Q (atF f n) h) : WO B f.1 f.2 n h Q := by
 refine WO.of ?_
 unfold zec
 intro k5 a5 b5 h6 e6
 have E := (Keep.nil B h).made (o := fO f) a5 b5 e6
 have out : ¬ (0 ≤ n ∧ n < f.2.size) → Zw B n k5 true h6 Q := fun hn => by
  unfold Zw
  unfold atF at hQ
  rw [if_neg hn] at hQ
  exact ⟨fun _ => Fin.ent E.back (Fin.of hQ), fun e => by cases e⟩
 refine ⟨fun h1 => Fin.of (out (by omega)), fun h1 => ⟨_, E.cell 0 rfl rfl, fun h2 => Fin.of (out (by omega)), fun h2 => Fin.of ?_⟩⟩
 unfold Zw
 have hb := Y9 f.2 n.toNat
 unfold atF at hQ
 rw [if_pos ⟨by omega, by omega⟩] at hQ
 refine ⟨fun e => (by cases e), fun _ => ⟨_, E.cell 0 rfl rfl, by omega, by omega, ?_⟩⟩
 rw [w64 (by omega) (by omega)]
 exact Fin.ent E.back (Fin.of hQ)
theorem zku {n : Int} {Q : Int → Int → Heap → Prop} (S : SS B h0 L h V v K U s) (hn : s.rs.length ≤ 90000) (hQ : ∀ U' h', SS B h0 L h' V v K U' (readA v s i n).1 → Q (readA v s i n).2.1 (readA v s i n).2.2 h') : xV B (some ⟨K.kA, 0, none⟩) i n h Q := by
 refine xV.of ?_
 unfold Z8
 refine XO S hn fun U' h1 S1 k a b h2 e2 => ?_
 have S2 := S1.nP (o := fO f0) a b e2
 refine ⟨_, zv S2.gP rfl (by simp) (by simp [isOne]) (by simp), ?_⟩
 have S3 := S2.pP (o' := fO (Z3 v s i))
 refine ⟨fun h0 => ⟨_, _, ⟨zd S3.gP rfl, zd S3.gP rfl, trivial⟩, zlY (f := Z3 v s i) (Fin.of ?_)⟩, fun h0 => Fin.of ?_⟩
 ·have e : readA v s i n = (z7 v s i, atF (getS v.f s.s.f i).1 n, 0) := by unfold readA; rw [if_pos h0]
  rw [e] at hQ
  have e1 : Z3 v s i = (getS v.f s.s.f i).1 := by unfold Z3; rw [if_pos (zan h0)]
  rw [e1] at S3 ⊢
  exact hQ U' _ S3.dP
 ·have e : readA v s i n = (z7 v s i, 0, yt v s i) := by unfold readA; rw [if_neg h0]
  rw [e] at hQ
  exact hQ U' _ S3.dP
theorem zjv {n w' : Int} {w : UInt8} (hw : w' = ((w.toNat : Nat) : Int)) {Q : Int → Heap → Prop} (S : SS B h0 L h V v K U s) (hn : s.rs.length ≤ 90000) (hQ : ∀ U' h', SS B h0 L h' V v K U' (VZ v s i n w).1 → Q (VZ v s i n w).2 h') : xL B (some ⟨K.kA, 0, none⟩) i n w' h Q := by
 refine xL.of ?_
 unfold ZK
 refine XO S hn fun U' h1 S1 k a b h2 e2 => ?_
 have S2 := S1.nP (o := fO f0) a b e2
 refine ⟨_, zv S2.gP rfl (by simp) (by simp [isOne]) (by simp), ?_⟩
 have S3 := (S2.pP (o' := fO (Z3 v s i))).dP
 have es := (wh v s i).1
 refine ⟨fun h0 => ⟨_, rfl, _, S3.E.cM 7 rfl (i := 3) rfl, _, rfl, _, S3.E.cM 7 rfl (i := 0) rfl, _, rfl, _, S3.E.cM 0 rfl (i := 1) rfl, zkc (x := shI V U') hw (toSh S3.E) S3.o.r S3.O.f S3.a.so fun vd' rd' h4 R4 E4 => Fin.of ?_⟩, fun h0 => Fin.of ?_⟩
 ·have e : VZ v s i n w = ((z7 v s i).wf ((fun d => upS v.f d i (putF (getS v.f d i).1 n w)) s.s.f), 0) := by unfold VZ wS; rw [if_pos h0]
  have S5 := S3.f E4 R4 (S3.a.so.up (zag (S3.a.so.good i) n w))
  rw [e] at hQ
  rw [h0]
  simp only [es] at S5
  exact hQ _ _ S5
 ·have e : VZ v s i n w = (z7 v s i, yt v s i) := by unfold VZ wS; rw [if_neg h0]
  rw [e] at hQ
  exact hQ _ _ S3
theorem ziC {Q : Int → Heap → Prop} (S : SS B h0 L h V v K U s) (hn : s.rs.length ≤ 90000) (hQ : ∀ U' h', SS B h0 L h' V v K U' (WC v s i).1 → Q (WC v s i).2 h') : xw B (some ⟨K.kA, 0, none⟩) i h Q := by
 refine xw.of ?_
 unfold Zs
 refine XO S hn fun U' h1 S1 k a b h2 e2 => ?_
 have S2 := S1.nP (o := fO f0) a b e2
 refine ⟨_, zv S2.gP rfl (by simp) (by simp [isOne]) (by simp), ?_⟩
 have S3 := (S2.pP (o' := fO (Z3 v s i))).dP
 have es := (wh v s i).1
 refine ⟨fun h0 => ⟨_, rfl, _, S3.E.cM 7 rfl (i := 3) rfl, _, rfl, _, S3.E.cM 7 rfl (i := 0) rfl, _, rfl, _, S3.E.cM 0 rfl (i := 1) rfl, zg6 (x := shI V U') (toSh S3.E) S3.o.r S3.O.f S3.a.so fun vd' rd' h4 R4 E4 => Fin.of ?_⟩, fun h0 => Fin.of ?_⟩
 ·have e : WC v s i = ((z7 v s i).wf ((fun d => upS v.f d i (true, (getS v.f d i).1.2)) s.s.f), 0) := by unfold WC wS; rw [if_pos h0]
  have S5 := S3.f E4 R4 (S3.a.so.up (f := (true, (getS v.f (z7 v s i).s.f i).1.2)) (Vx (f := (getS v.f (z7 v s i).s.f i).1) (S3.a.so.good i)))
  rw [e] at hQ
  rw [h0]
  simp only [es] at S5
  exact hQ _ _ S5
 ·have e : WC v s i = (z7 v s i, yt v s i) := by unfold WC wS; rw [if_neg h0]
  rw [e] at hQ
  exact hQ _ _ S3
theorem ziE {Q : Int → Heap → Prop} (S : SS B h0 L h V v K U s) (hn : s.rs.length ≤ 90000) (hQ : ∀ U' h', SS B h0 L h' V v K U' (WE v s i).1 → Q (WE v s i).2 h') : xy B (some ⟨K.kA, 0, none⟩) i h Q := by
 refine xy.of ?_
 unfold Zt
 refine XO S hn fun U' h1 S1 k a b h2 e2 => ?_
 have S2 := S1.nP (o := fO f0) a b e2
 refine ⟨_, zv S2.gP rfl (by simp) (by simp [isOne]) (by simp), ?_⟩
 have S3 := (S2.pP (o' := fO (Z3 v s i))).dP
 have es := (wh v s i).1
 refine ⟨fun h0 => ⟨_, rfl, _, S3.E.cM 7 rfl (i := 3) rfl, _, rfl, _, S3.E.cM 7 rfl (i := 0) rfl, _, rfl, _, S3.E.cM 0 rfl (i := 1) rfl, zi1 (x := shI V U') (toSh S3.E) S3.o.r S3.O.f S3.a.so fun vd' rd' h4 R4 E4 => Fin.of ?_⟩, fun h0 => Fin.of ?_⟩
 ·have e : WE v s i = ((z7 v s i).wf ((fun d => upS v.f d i f0) s.s.f), 0) := by unfold WE wS; rw [if_pos h0]
  have S5 := S3.f E4 R4 (S3.a.so.up rfl)
  rw [e] at hQ
  rw [h0]
  simp only [es] at S5
  exact hQ _ _ S5
 ·have e : WE v s i = (z7 v s i, yt v s i) := by unfold WE wS; rw [if_neg h0]
  rw [e] at hQ
  exact hQ _ _ S3
theorem zlf {n : Int} {Q : Int → Heap → Prop} (S : SS B h0 L h V v K U s) (hn : s.rs.length ≤ 90000) (hQ : ∀ U' h', SS B h0 L h' V v K U' (fcutA v s i n).1 → Q (fcutA v s i n).2 h') : x6 B (some ⟨K.kA, 0, none⟩) i n h Q := by
 refine x6.of ?_
 unfold Yi
 refine XO S hn fun U' h1 S1 k a b h2 e2 => ?_
 have S2 := S1.nP (o := fO f0) a b e2
 refine ⟨_, zv S2.gP rfl (by simp) (by simp [isOne]) (by simp), ?_⟩
 have S3 := (S2.pP (o' := fO (Z3 v s i))).dP
 have es := (wh v s i).1
 refine ⟨fun h0 => ⟨_, rfl, _, S3.E.cM 7 rfl (i := 3) rfl, _, rfl, _, S3.E.cM 7 rfl (i := 0) rfl, _, rfl, _, S3.E.cM 0 rfl (i := 1) rfl, zlK (x := shI V U') (toSh S3.E) S3.o.r S3.O.f S3.a.so fun vd' rd' h4 R4 E4 => Fin.of ?_⟩, fun h0 => Fin.of ?_⟩
 ·have e : fcutA v s i n = ((z7 v s i).wf ((fun d => upS v.f d i (cutF (getS v.f d i).1 n)) s.s.f), 0) := by unfold fcutA wS; rw [if_pos h0]
  have S5 := S3.f E4 R4 (S3.a.so.up (zaf (S3.a.so.good i) n))
  rw [e] at hQ
  rw [h0]
  simp only [es] at S5
  exact hQ _ _ S5
 ·have e : fcutA v s i n = (z7 v s i, yt v s i) := by unfold fcutA wS; rw [if_neg h0]
  rw [e] at hQ
  exact hQ _ _ S3
theorem zjU {U1 : AU} {s1 : AV} {Q : Int → Heap → Prop} (S : SS B h0 L h V v K U1 s1) (hQ : ∀ U' h', SS B h0 L h' V v K U' (s1.wf (renS v.f s1.s.f i j)) → Q 0 h') : yr B (some ⟨K.kA, 0, none⟩) i j 0 h Q := by
 unfold yr
 exact ⟨fun h0 => ⟨_, rfl, _, S.E.cM 7 rfl (i := 3) rfl, _, rfl, _, S.E.cM 7 rfl (i := 0) rfl, _, rfl, _, S.E.cM 0 rfl (i := 1) rfl, zhc (x := shI V U1) (toSh S.E) S.o.r S.O.f S.a.so fun vd' rd' h4 R4 E4 => Fin.of (hQ _ _ (S.f E4 R4 (S.a.so.ren i j)))⟩, fun h0 => absurd rfl h0⟩
theorem zeC {e : Int} {Q : Int → Heap → Prop} (he : e ≠ 0) (hQ : Q e h) : yr B (some ⟨K.kA, 0, none⟩) i j e h Q := by
 unfold yr
 exact ⟨fun h0 => absurd h0 he, fun _ => Fin.of hQ⟩
theorem ziF {Q : Int → Heap → Prop} (S : SS B h0 L h V v K U s) (hn : s.rs.length ≤ 80000) (hQ : ∀ U' h', SS B h0 L h' V v K U' (w7 v s i j).1 → Q (w7 v s i j).2 h') : xz B (some ⟨K.kA, 0, none⟩) i j h Q := by
 refine xz.of ?_
 unfold Zu
 have out : ¬ (0 ≤ j ∧ j < 6) → Q 1 h := fun hj => by
  have hr : inR j = false := decide_eq_false hj
  have e : w7 v s i j = (s, 1) := by unfold w7; rw [hr]; rfl
  rw [e] at hQ
  exact hQ U h S
 refine ⟨fun e => (by cases e), fun _ => ⟨fun h1 => Fin.of (out (by omega)), fun h1 => ⟨fun h2 => Fin.of (out (by omega)), fun h2 => Fin.of ?_⟩⟩⟩
 have hj : inR j = true := decide_eq_true (by omega)
 unfold w7 at hQ
 rw [if_pos hj] at hQ
 unfold xJ
 refine XO S (by omega) fun U' h1 S1 k a b h2 e2 => ?_
 have S2 := S1.nP (o := fO f0) a b e2
 refine ⟨_, zv S2.gP rfl (by simp) (by simp [isOne]) (by simp), ?_⟩
 have S3 := (S2.pP (o' := fO (Z3 v s i))).dP
 have hl := zbs v s i
 refine ⟨fun h0 => XO S3 (by omega) fun U4 h4 S4 => Fin.of ?_, fun h0 => Fin.of ?_⟩
 ·rw [if_pos h0] at hQ
  have es := (wh v (z7 v s i) j).1
  unfold wS at hQ
  by_cases h5 : yt v (z7 v s i) j = 0
  ·rw [if_pos h5] at hQ
   rw [h5]
   refine zjU S4 fun U5 h6 S6 => ?_
   rw [es] at S6
   exact hQ _ _ S6
  ·rw [if_neg h5] at hQ
   exact zeC h5 (hQ _ _ S4)
 ·rw [if_neg h0] at hQ
  exact zeC h0 (hQ _ _ S3)
end
def apC (t : Int) (c : List (Int × Int)) (d : List (Int × Int)) : List (Int × Int) := d.foldl (fun c x => c.set x.1.toNat (x.2, t)) c
theorem zdV (t : Int) : ∀ (d c : List (Int × Int)), (apC t c d).length = c.length := by
 intro d
 induction d with
 | nil => intro c; rfl
 | cons x d ih => intro c; exact (ih _).trans (List.length_set ..)
theorem zfE {t : Int} {c d : List (Int × Int)} {q : Nat} {x : Int × Int} (h : d[q]? = some x) : apC t c (d.take (q + 1)) = (apC t c (d.take q)).set x.1.toNat (x.2, t) := by
 obtain ⟨h1, rfl⟩ := List.getElem?_eq_some_iff.1 h
 rw [List.take_succ_eq_append_getElem h1, apC, List.foldl_append]; rfl
def landN (t : Int) (ts : List ByteArray) (c : StV) (l : List (Int × Int)) : Nat → List (Int × Int)
 | 0 => l
 | j + 1 => if 0 < c.cr (j : Nat) then takeL ts (landN t ts c l j) (j : Nat) ((ze (landN t ts c l j) (j : Nat)).1 + c.cr (j : Nat)) t else landN t ts c l j
theorem wn.land {t : Int} {ts : List ByteArray} {c : StV} {l : List (Int × Int)} (k : wn ts l) : ∀ j, wn ts (landN t ts c l j)
 | 0 => k
 | j + 1 => by
  unfold landN
  split
  ·exact (wn.land k j).take _ _ _
  ·exact wn.land k j
def landV (v : VV) (s : AV) : VV := ⟨apC (v.t + 1) v.c s.s.d, apD (v.t + 1) v.f s.s.f, v.ts, landN (v.t + 1) v.ts s.s v.l 3, v.t + 1⟩
theorem wK.apD {t : Int} : ∀ (d : DFL) {l : FL}, wK l → wK (apD t l d) := by
 intro d
 induction d with
 | nil => intro l k; exact k
 | cons x d ih => intro l k; exact ih (k.set _ _ _ _)
section
variable {B : RO} {h0 h h' : Heap} {L M : List (Option (Nat × AObj))} {V : VI} {v : VV} {K : AK} {U : AU} {s : AV} {k : Nat} {i j : Int} {c : StV} {g : Reg4} {o o' : AObj} {y : Option (Nat × AObj)}
theorem AOk.view {v' : VV} (a : AOk v s) (k : wK v'.f) : AOk v' s := ⟨⟨a.so.s, a.so.k, k.n6, k.good⟩, a.sd, a.dk, a.cr⟩
theorem zhp {Q : Bool → Heap → Prop} (S : SS B h0 L h V v K U s) (hn : s.rs.length ≤ 90000) (ht : 0 ≤ v.t ∧ v.t < 1000000000)
  (hT : vld v s.rs = true → ∀ r' h', SS B h0 L h' (V.w r') (landV v s) K U s → Q true h') (hF : vld v s.rs = false → ∀ h', SS B h0 L h' V v K U s → Q false h') : yW B (some ⟨K.kA, 0, none⟩) h Q := by
 refine yW.of ?_
 unfold Z6
 refine zeo S hn fun h3 S1 => ⟨fun hv => ?_, fun hv => Fin.of (hF hv _ S1)⟩
 refine ⟨_, rfl, _, S1.E.cM 7 rfl (i := 0) rfl, fun k8 a8 b8 h9 e9 => ?_⟩
 have S2 := S1.nP a8 b8 e9
 refine ⟨_, v9 S2.gP rfl, ?_⟩
 have S3 := S2.pP (o' := .vec Vf (zc [.pointer (some ⟨V.kV, 0, none⟩)]) 1)
 refine ⟨_, zd S3.gP rfl, _, rfl, v.t, S3.E.cM 0 rfl (i := 3) rfl, _, rfl, ?_⟩
 rw [w64 (by omega) (by omega)]
 refine ⟨_, v9 (S3.E.gM 0 rfl) (show (zc [.pointer (some ⟨V.kC, 0, none⟩), .pointer (some ⟨V.kT, 0, none⟩), .pointer (some ⟨V.kF, 0, none⟩), .int .i64 v.t])[3]? = some (.plain (.int .i64 v.t)) from rfl), ?_⟩
 have E4 := S3.E.pM (o' := viewO V (v.t + 1)) 0 rfl
 refine ⟨_, rfl, _, Keep.cM E4 7 rfl (i := 2) rfl, zlm fun kc ac bc => ?_⟩
 have E5 := Keep.nP (o := .vec v7 [.plain (.pointer (some ⟨U.x.kd, 0, none⟩))] 1) E4 ac bc rfl
 have dl := S.a.dlen
 let LL := L ++ [some (k8, .vec Vf (zc [.pointer (some ⟨V.kV, 0, none⟩)]) 1)] ++ [some (kc, .vec v7 [.plain (.pointer (some ⟨U.x.kd, 0, none⟩))] 1)]
 refine ⟨s.s.d, dG kc U.x.kd U.x.vd U.x.rd, fun q h' => Keep B h0 (LL ++ (V.e { v with c := apC (v.t + 1) v.c (s.s.d.take q), t := v.t + 1 } ++ AE V K U s)) h', zjx S.O.d (by omega), zlW, ?_, Fin.of E5, ?_, ?_⟩
 ·intro q h' E
  exact ⟨Keep.gP E, E.gM 10 rfl, fun k o e => E.gM 11 (by show some U.x.rd = _; rw [e])⟩
 ·clear E4 E5
  rintro q h69 i66 i67 hg E
  have hx := S.a.dk _ (List.mem_of_getElem? hg)
  simp only at hx
  refine ⟨_, zd (Keep.gP' E) rfl, _, rfl, _, E.cM 0 rfl (i := 0) rfl, _, zd (Keep.gP' E) rfl, _, rfl, _, E.cM 0 rfl (i := 3) rfl, zdJ (E.gM 1 rfl) (fun _ _ => Fin.of ?_) fun hn => ?_⟩
  ·have E1 := E.pM (o' := xQ ((apC (v.t + 1) v.c (s.s.d.take q)).set i66.toNat (i67, v.t + 1))) 1 rfl
   rw [← zfE (x := (i66, i67)) hg] at E1
   show Keep B h0 _ (h69.set V.kC (xQ ((apC (v.t + 1) v.c (s.s.d.take q)).set i66.toNat (i67, v.t + 1))))
   rw [← zfE (x := (i66, i67)) hg]
   exact E1
  ·rw [zdV, S.o.c8] at hn; omega
 ·clear E4 E5
  intro h69 E
  rw [List.take_length] at E
  refine Fin.of ?_
  unfold vU
  refine ⟨_, rfl, _, E.cM 7 rfl (i := 3) rfl, _, zd (Keep.gP' E) rfl, _, rfl, _, E.cM 0 rfl (i := 1) rfl, _, zd (Keep.gP' E) rfl, _, rfl, v.t + 1, E.cM 0 rfl (i := 3) rfl, ?_⟩
  refine zk3 (x := shI V U) (toSh E) S.o.r S.O.f S.a.so fun r' h31 R' E1 => ?_
  have E2 := ofSh (V := V.w r') (v := ⟨apC (v.t + 1) v.c s.s.d, apD (v.t + 1) v.f s.s.f, v.ts, v.l, v.t + 1⟩) (K := K) (U := U) (s := s) (f := s.s.f) E1
  refine ⟨fun q m h' => ∃ j : Nat, j ≤ 3 ∧ q = j ∧ m = 3 - j ∧ Keep B h0 (LL ++ ((V.w r').e ⟨apC (v.t + 1) v.c s.s.d, apD (v.t + 1) v.f s.s.f, v.ts, landN (v.t + 1) v.ts s.s v.l j, v.t + 1⟩ ++ AE V K U s)) h', 3, Fin.of ⟨0, by omega, rfl, rfl, E2⟩, ?_⟩
  clear E1 E2 E
  rintro _ _ h34 ⟨j, hj, rfl, rfl, E⟩
  refine ⟨fun hlt => ⟨_, rfl, _, E.cM 7 rfl (i := 4) rfl, zkA (c := s.s) (E.gM 15 rfl) (by omega) ⟨fun hg => ?_, fun hg => Fin.of ?_⟩⟩, fun hge => Fin.of ?_⟩
  ·have fk := S.o.k.land (t := v.t + 1) (c := s.s) j
   refine ⟨_, zd (Keep.gP' E) rfl, _, rfl, _, E.cM 0 rfl (i := 2) rfl, YJ (ts := v.ts) (l := landN (v.t + 1) v.ts s.s v.l j) fk.t3 (E.gM 5 rfl) (E.gM 6 rfl) ?_⟩
   refine ⟨_, zd (Keep.gP' E) rfl, _, rfl, _, E.cM 0 rfl (i := 2) rfl, _, zd (Keep.gP' E) rfl, _, rfl, v.t + 1, E.cM 0 rfl (i := 3) rfl, ?_⟩
   have hp := fk.place (j : Nat)
   have hs := fk.size (j : Nat)
   have hc := S.a.cr (j : Nat)
   rw [w64 (by omega) (by omega)]
   refine zfO fk (E.gM 5 rfl) (E.gM 6 rfl) (Fin.of ⟨3 - (j + 1), by omega, j + 1, by omega, wrapS (by omega), rfl, ?_⟩)
   have E3 := E.pM (o' := xQ (takeL v.ts (landN (v.t + 1) v.ts s.s v.l j) (j : Nat) ((ze (landN (v.t + 1) v.ts s.s v.l j) (j : Nat)).1 + s.s.cr (j : Nat)) (v.t + 1))) 6 rfl
   have e : landN (v.t + 1) v.ts s.s v.l (j + 1) = takeL v.ts (landN (v.t + 1) v.ts s.s v.l j) (j : Nat) ((ze (landN (v.t + 1) v.ts s.s v.l j) (j : Nat)).1 + s.s.cr (j : Nat)) (v.t + 1) := by rw [landN, if_pos hg]
   rw [e]
   exact E3
  ·refine ⟨3 - (j + 1), by omega, j + 1, by omega, wrapS (by omega), rfl, ?_⟩
   have e : landN (v.t + 1) v.ts s.s v.l (j + 1) = landN (v.t + 1) v.ts s.s v.l j := by rw [landN, if_neg (by omega)]
   rw [e]
   exact E
  ·have hj3 : j = 3 := by omega
   subst hj3
   have o' : VOk (V.w r') (landV v s) := ⟨R', by rw [← S.o.c8]; exact zdV _ _ _, S.o.f.apD _, S.o.k.land 3⟩
   exact hT hv r' _ ⟨Keep.dP (Keep.dP E), o', S.R, S.O, S.a.view o'.f⟩
structure DeedR where
 k : Int
 a : Int
 b : Int
 c : UInt8
def DeedR.cells (d : DeedR) : List Value := [.int .i64 d.k, .int .i64 d.a, .int .i64 d.b, .int .u8 ((d.c.toNat : Nat) : Int)]
def pr2 (x : AV × Int) : AV × Int × Int := (x.1, 0, x.2)
def doesA (v : VV) (s : AV) (d : DeedR) : AV × Int × Int :=
 if d.k = 0 then loadA v s d.a else if d.k = 1 then pr2 (wZ s d.a d.b) else if d.k = 2 then readA v s d.a d.b else if d.k = 3 then pr2 (VZ v s d.a d.b d.c)
 else if d.k = 4 then pr2 (WC v s d.a) else if d.k = 5 then pr2 (WE v s d.a) else if d.k = 6 then pr2 (w7 v s d.a d.b) else if d.k = 7 then pr2 (fcutA v s d.a d.b)
 else if d.k = 8 then recvA v s d.a else (s, 0, 1)
theorem zfD {d : DeedR} {Q : Int → Int → Heap → Prop} (S : SS B h0 L h V v K U s) (hn : s.rs.length ≤ 80000) (hQ : ∀ U' h', SS B h0 L h' V v K U' (doesA v s d).1 → Q (doesA v s d).2.1 (doesA v s d).2.2 h') : yx B (some ⟨K.kA, 0, none⟩) d.k d.a d.b ((d.c.toNat : Nat) : Int) h Q := by
 refine yx.of ?_
 unfold ZM
 intro k8 a8 b8 h9 e9
 have S1 := S.nP a8 b8 e9
 have g := S1.gP
 unfold doesA at hQ
 refine ⟨d.k, zd g rfl, fun h1 => ?_, fun n1 => ?_⟩
 ·rw [if_pos h1] at hQ
  exact ⟨d.a, zd g rfl, zd1 S1 (by omega) fun U' h' _ S2 => Fin.of (hQ _ _ S2.dP)⟩
 rw [if_neg n1] at hQ
 refine ⟨fun h1 => ?_, fun n1 => ?_⟩
 ·rw [if_pos h1] at hQ
  exact ⟨d.a, zd g rfl, d.b, zd g rfl, zgi S1 fun U' h' S2 => Fin.of (hQ _ _ S2.dP)⟩
 rw [if_neg n1] at hQ
 refine ⟨fun h1 => ?_, fun n1 => ?_⟩
 ·rw [if_pos h1] at hQ
  exact ⟨d.a, zd g rfl, d.b, zd g rfl, zku S1 (by omega) fun U' h' S2 => Fin.of (hQ _ _ S2.dP)⟩
 rw [if_neg n1] at hQ
 refine ⟨fun h1 => ?_, fun n1 => ?_⟩
 ·rw [if_pos h1] at hQ
  exact ⟨d.a, zd g rfl, d.b, zd g rfl, ((d.c.toNat : Nat) : Int), zd g rfl, zjv rfl S1 (by omega) fun U' h' S2 => Fin.of (hQ _ _ S2.dP)⟩
 rw [if_neg n1] at hQ
 refine ⟨fun h1 => ?_, fun n1 => ?_⟩
 ·rw [if_pos h1] at hQ
  exact ⟨d.a, zd g rfl, ziC S1 (by omega) fun U' h' S2 => Fin.of (hQ _ _ S2.dP)⟩
 rw [if_neg n1] at hQ
 refine ⟨fun h1 => ?_, fun n1 => ?_⟩
 ·rw [if_pos h1] at hQ
  exact ⟨d.a, zd g rfl, ziE S1 (by omega) fun U' h' S2 => Fin.of (hQ _ _ S2.dP)⟩
 rw [if_neg n1] at hQ
 refine ⟨fun h1 => ?_, fun n1 => ?_⟩
 ·rw [if_pos h1] at hQ
  exact ⟨d.a, zd g rfl, d.b, zd g rfl, ziF S1 (by omega) fun U' h' S2 => Fin.of (hQ _ _ S2.dP)⟩
 rw [if_neg n1] at hQ
 refine ⟨fun h1 => ?_, fun n1 => ?_⟩
 ·rw [if_pos h1] at hQ
  exact ⟨d.a, zd g rfl, d.b, zd g rfl, zlf S1 (by omega) fun U' h' S2 => Fin.of (hQ _ _ S2.dP)⟩
 rw [if_neg n1] at hQ
 refine ⟨fun h1 => ?_, fun n1 => ?_⟩
 ·rw [if_pos h1] at hQ
  exact ⟨d.a, zd g rfl, zlJ S1 (by omega) fun U' h' S2 => Fin.of (hQ _ _ S2.dP)⟩
 rw [if_neg n1] at hQ
 exact Fin.of (hQ _ _ S1.dP)
theorem zex (v : VV) (s : AV) (k i : Int) : (noteS v s k i).rs.length ≤ s.rs.length + 1 := zew _ _ _ _ _
theorem zb5 (v : VV) (s : AV) (i : Int) (F : DFL → DFL) : (wS v s i F).1.rs.length ≤ s.rs.length + 1 := by
 have := zbs v s i
 unfold wS; split <;> exact this
theorem zes (v : VV) (s : AV) (d : DeedR) : (doesA v s d).1.rs.length ≤ s.rs.length + 2 := by
 have h1 := zbs v s d.a
 have h2 := zex v s 0 d.a
 have h3 := zex v s 2 d.a
 unfold doesA
 split
 ·unfold loadA; split
  ·split
   ·show s.rs.length ≤ _; omega
   ·show (noteS v s 0 d.a).rs.length ≤ _; omega
  ·show s.rs.length ≤ _; omega
 split
 ·unfold wZ; split <;> (show s.rs.length ≤ _; omega)
 split
 ·unfold readA; split <;> (show (z7 v s d.a).rs.length ≤ _; omega)
 split
 ·exact Nat.le_succ_of_le (zb5 _ _ _ _)
 split
 ·exact Nat.le_succ_of_le (zb5 _ _ _ _)
 split
 ·exact Nat.le_succ_of_le (zb5 _ _ _ _)
 split
 ·unfold w7; split
  ·split
   ·have := zb5 v (z7 v s d.a) d.b fun e => renS v.f e d.a d.b
    show (wS v (z7 v s d.a) d.b fun e => renS v.f e d.a d.b).1.rs.length ≤ _; omega
   ·show (z7 v s d.a).rs.length ≤ _; omega
  ·show s.rs.length ≤ _; omega
 split
 ·exact Nat.le_succ_of_le (zb5 _ _ _ _)
 split
 ·unfold recvA; split
  ·split
   ·split <;> (show (noteS v s 2 d.a).rs.length ≤ _; omega)
   ·show (noteS v s 2 d.a).rs.length ≤ _; omega
  ·show s.rs.length ≤ _; omega
 ·show s.rs.length ≤ _; omega
end
structure Pas (v : VV) (U : AU) (s : AV) : Prop where
 R : ERow U.rS U.vS s.rs
 O : U.x.Ok s.s
 a : AOk v s
def yv (v : VV) (d : DeedR) : VV := if vld v (doesA v (s0 v ⟨0, 0, 0, 0⟩) d).1.rs = true then landV v (doesA v (s0 v ⟨0, 0, 0, 0⟩) d).1 else v
theorem zfV (v : VV) (d : DeedR) : (yv v d).t = v.t ∨ (yv v d).t = v.t + 1 := by
 unfold yv; split
 ·exact .inr rfl
 ·exact .inl rfl
def runO (kV : Nat) (tA : Option Addr) (vd vt : Value) : AObj := .vec V1 (zc [.pointer (some ⟨kV, 0, none⟩), .pointer tA, vd, vt]) 4
def TRow (r : Option (Nat × AObj)) (v : Value) (xs : List VV) : Prop := Row r v zw 23 (xs.flatMap thF)
theorem zem : slcB PG xD = some (zw, 23, 232) := by kernel_rfl
theorem zdq : zeroB PG zw = some thZ := by kernel_rfl
theorem zfr : slT PG xD = true := by kernel_rfl
theorem WG (v : VV) : ∀ y ∈ thF v, isOne y = true := by simp [thF, isOne, cT, fT, sT, lT]
section
variable {B : RO} {h0 h h' : Heap} {L M : List (Option (Nat × AObj))} {V : VI} {v : VV} {K K1 K2 : AK} {U U1 U2 : AU} {s s1 s2 : AV} {k : Nat} {i j : Int} {c : StV} {g : Reg4} {o o' : AObj} {y : Option (Nat × AObj)}
theorem Keep.swap {A X : List (Option (Nat × AObj))} (E : Keep B h0 (L ++ (A ++ X)) h) : Keep B h0 ((L ++ X) ++ A) h := by
 refine E.remap (fun j => if j < L.length then j else if j < L.length + X.length then j + A.length else j - X.length) (fun j y hj => ?_) (fun i j hi hj e => ?_)
 ·have hl := (List.getElem?_eq_some_iff.1 hj).1
  rw [List.length_append, List.length_append] at hl
  by_cases h1 : j < L.length
  ·simp only [if_pos h1]
   rw [List.append_assoc, List.getElem?_append_left h1] at hj
   rw [List.getElem?_append_left h1]; exact hj
  ·simp only [if_neg h1]
   by_cases h2 : j < L.length + X.length
   ·simp only [if_pos h2]
    rw [List.append_assoc, List.getElem?_append_right (by omega), List.getElem?_append_left (by omega)] at hj
    rw [List.getElem?_append_right (by omega), List.getElem?_append_right (by omega), show j + A.length - L.length - A.length = j - L.length by omega]; exact hj
   ·simp only [if_neg h2]
    rw [List.getElem?_append_right (by rw [List.length_append]; omega), List.length_append] at hj
    rw [List.getElem?_append_right (by omega), List.getElem?_append_left (by omega), show j - X.length - L.length = j - (L.length + X.length) by omega]; exact hj
 ·rw [List.length_append, List.length_append] at hi hj
  have e : (if i < L.length then i else if i < L.length + X.length then i + A.length else i - X.length) = (if j < L.length then j else if j < L.length + X.length then j + A.length else j - X.length) := e
  split at e <;> split at e <;> (try split at e) <;> (try split at e) <;> omega
theorem Keep.unswap {A X : List (Option (Nat × AObj))} (E : Keep B h0 ((L ++ X) ++ A) h) : Keep B h0 (L ++ (A ++ X)) h := by
 rw [List.append_assoc] at E
 rw [← List.append_assoc]
 exact E.swap
theorem Pas.view {v' : VV} (P : Pas v U s) (k : wK v'.f) : Pas v' U s := ⟨P.R, P.O, P.a.view k⟩
theorem SS.pas (S : SS B h0 L h V v K U s) : Pas v U s := ⟨S.R, S.O, S.a⟩
theorem SS.of (E : Keep B h0 (L ++ (V.e v ++ AE V K U s)) h) (o : VOk V v) (P : Pas v U s) : SS B h0 L h V v K U s := ⟨E, o, P.R, P.O, P.a⟩
theorem SS.out (S : SS B h0 L h V v K U s) : Keep B h0 ((L ++ AE V K U s) ++ V.e v) h := S.E.swap
theorem SS.flip (S : SS B h0 (L ++ AE V K1 U1 s1) h V v K2 U2 s2) (P : Pas v U1 s1) : SS B h0 (L ++ AE V K2 U2 s2) h V v K1 U1 s1 := by
 refine .of ?_ S.o P
 have E := S.E
 rw [List.append_assoc] at E ⊢
 exact E.sM [16, 17, 18, 19, 20, 21, 22, 23, 24, 9, 10, 11, 12, 13, 14, 15, 0, 1, 2, 3, 4, 5, 6, 7, 8] (by decide)
theorem SS.drop2 {X : List (Option (Nat × AObj))} (S : SS B h0 (L ++ X) h V v K U s) : SS B h0 L h V v K U s := by
 refine .of ?_ S.o S.pas
 have E := S.E
 rw [List.append_assoc] at E
 exact E.dropMid
theorem VAt.mk0 : VAt (L ++ V.e v) L.length V v := by
 have := VAt.mk (L := L) (R := []) (x := V) (v := v)
 rwa [List.append_nil] at this
theorem ziD {Q : Bool → Heap → Prop} (hQ : ∀ h', Keep B h [] h' → Q true h') : wb B h Q := by
 refine wb.of ?_
 unfold YY
 refine zdy fun V h2 o E1 => ?_
 refine zb9 (L := []) (g := ⟨0, 0, 0, 0⟩) E1 o fun Ka Ua h4 Sa => ?_
 have Sa := Sa.drop2
 refine zb9 (g := ⟨0, 0, 0, 0⟩) Sa.out o fun Kb Ub h6 Sb => ?_
 have Pa := Sa.pas
 have Sb := Sb.drop2
 have Pb := Sb.pas
 refine zgi (Sb.flip Pa) fun Ua1 h8 Sa1 => ⟨fun _ => ?_, fun hn => absurd rfl hn⟩
 refine zd1 Sa1 (by decide) fun Ua2 h10 e2 Sa2 => ?_
 have Pa2 := Sa2.pas
 refine zd1 (Sa2.flip Pb) (by decide) fun Ub2 h13 e3 Sb2 => ⟨fun _ => ⟨fun _ => ?_, fun hn => absurd rfl hn⟩, fun hn => absurd rfl hn⟩
 refine zhp (Sb2.flip Pa2) (by decide) (by decide) (fun _ r' h16 S => ⟨fun _ => ⟨_, rfl, _, S.E.cM 0 rfl (i := 3) rfl, Fin.of ?_⟩, fun e => by cases e⟩) (fun hv => absurd hv (by decide))
 exact hQ _ (by have := S.E.take 0; simpa using this)
theorem zfW {d : DeedR} {q kr : Nat} {tA : Option Addr} {vd vt : Value} {r : Option (Nat × AObj)} {xs : List VV} {Q : Heap → Prop} (E : Keep B h0 (L ++ V.e v) h) (o : VOk V v) (hq : L[q]? = some (some (kr, runO V.kV tA vd vt))) (hr : L[q + 1]? = some r) (R : TRow r vt xs) (hx : xs.length ≤ 100000) (ht : 0 ≤ v.t ∧ v.t < 1000000000)
    (hQ : ∀ rt vt' r' h', VOk (V.w rt) (yv v d) → TRow r' vt' (xs ++ [yv v d]) → Keep B h0 ((L.set q (some (kr, runO V.kV tA vd vt'))).set (q + 1) r' ++ (V.w rt).e (yv v d)) h' → Q h') : yK B (some ⟨kr, 0, none⟩) d.k d.a d.b ((d.c.toNat : Nat) : Int) h Q := by
  refine yK.of ?_
  unfold Yl
  have hql := (List.getElem?_eq_some_iff.1 hq).1
  have hrl := (List.getElem?_eq_some_iff.1 hr).1
  intro k6 a6 b6 h7 e7
  have E0 := Keep.nP E a6 b6 e7
  have cr : ∀ {N : List (Option (Nat × AObj))} {h1 : Heap}, Keep B h0 (L ++ N) h1 → h1 kr = some (runO V.kV tA vd vt) := fun {N h1} E => E.at q (zO _ hq)
  refine ⟨_, rfl, _, zd (cr (by rw [List.append_assoc] at E0; exact E0)) rfl, zb9 (g := ⟨0, 0, 0, 0⟩) E0 o fun K U h11 S => ?_⟩
  have g6 := S.E.at L.length (k := k6) (zO _ atMid)
  refine ⟨d.k, d.a, d.b, ((d.c.toNat : Nat) : Int), ⟨zd g6 rfl, zd g6 rfl, zd g6 rfl, zd g6 rfl, trivial⟩, zfD (d := d) S.drop2.dP (Nat.zero_le _) fun U1 h17 S1 => ?_⟩
  have hlen := zes v (s0 v ⟨0, 0, 0, 0⟩) d
  have key : ∀ (rt : Option (Nat × AObj)) (v2 : VV) (h20 : Heap) (b21 : Bool), VOk (V.w rt) v2 → v2 = yv v d → Keep B h0 (L ++ (V.w rt).e v2) h20 → ∃ A22 : Addr, (some (⟨kr, 0, none⟩ : Addr)) = some A22 ∧ ∃ p24 : Option Addr, cellH B h20 A22 = some (.pointer p24) ∧ yI B p24 h20 (fun l26 s27 s28 s29 h25 =>
 ∀ k30 : Nat, h25 k30 = none → B k30 = none → ∀ h31 : Heap, h31 = Heap.set h25 k30 (.vec zw (zc thZ) 23) →
 ∀ k32 : Nat, h31 k32 = none → B k32 = none → ∀ h33 : Heap, h33 = Heap.set h31 k32 (.vec y1 (zc txZ) 3) →
 List.length l26 = 23 ∧ ∃ h34 : Heap, zi ⟨k30, 0, none⟩ h33 0 l26 h34 ∧
 ∃ h35 : Heap, zi ⟨k32, 0, none⟩ h34 0 [(.string s27), (.string s28), (.string s29)] h35 ∧
 ∃ A38 : Addr, (some (⟨kr, 0, none⟩ : Addr)) = some A38 ∧
 ∃ a42 : Option Addr, ∃ n43 : Nat, ∃ c44 : Nat, cellH B h35 (Addr.add A38 3) = some (.slice a42 n43 c44) ∧
 ∃ l46 : List Value, List.length l46 = 23 ∧ za B h35 ⟨k30, 0, none⟩ 0 l46 ∧
 ∀ k48 : Nat, h35 k48 = none → B k48 = none → ∀ h49 : Heap, h49 = Heap.set h35 k48 (.vec zw (zc l46) 23) →
 cellH B h49 (Addr.add A38 3) = some (.slice a42 n43 c44) ∧ za B h49 ⟨k30, 0, none⟩ 0 l46 ∧
 semH PG B (Builtin.append_ #[xD, xD] xD #[(.slice a42 n43 c44), (.slice (some ⟨k48, 0, none⟩) 1 1)]) h49 (fun v h52 => ∃ a53 : Option Addr, ∃ n54 : Nat, ∃ c55 : Nat, v = (.slice a53 n54 c55) ∧
 cellH B h52 (Addr.add A38 3) = some (.slice a42 n43 c44) ∧ za B h52 ⟨k30, 0, none⟩ 0 l46 ∧
 ∃ A58 : Addr, (some (⟨kr, 0, none⟩ : Addr)) = some A58 ∧
 ∃ h60 : Heap, ym h52 (Addr.add A58 3) (.slice a53 n54 c55) = some h60 ∧
 Fin B h60 (Q))) := by
    intro rt v2 h20 b21 o2 ev E2
    subst ev
    refine ⟨_, rfl, _, zd (cr E2) rfl, zb3 (x := V.w rt) E2 VAt.mk0 o2 fun h25 E3 k30 a30 b30 h31 e31 k32 a32 b32 h33 e33 => ?_⟩
    have E4 := (E3.nM a30 b30 e31).nM a32 b32 e33
    refine ⟨rfl, _, zv (E4.gM 7 rfl) rfl (by simp [thF]) (WG _) (by simp [thF]), ?_⟩
    have E5 := E4.pM (o' := .vec zw (zc (thF (yv v d))) 23) 7 rfl
    refine ⟨_, zv (E5.gM 8 rfl) rfl (by simp) (by simp [isOne]) (by simp), ?_⟩
    have E6 := E5.pM (o' := .vec y1 (zc (txF (yv v d).ts)) 3) 8 rfl
    obtain ⟨a, m, c, rfl⟩ := Row.slice R
    obtain rfl := (Row.rd (B := fun _ => none) R (fun x => rfl) (by omega)).1
    have hfl := zI (cells := thF) (n := 23) (fun x => rfl) xs
    refine ⟨_, rfl, a, _, c, zd (cr E6) rfl, thF (yv v d), rfl, E6.allM 7 rfl, fun k48 a48 b48 h49 e49 => ?_⟩
    have E7 := E6.nM a48 b48 e49
    refine ⟨zd (cr E7) rfl, E7.allM 7 rfl, ?_⟩
    refine E7.pushS (q + 1) (n := 1) (ys := thF (yv v d)) (zO _ hr) R zem zdq rfl (by omega) (by omega) zfr ⟨rfl, WG _, .inl ⟨_, _, rfl, E7.allM 9 rfl⟩⟩ (by rw [hfl]; show (xs.length * 23 + 23) * 232 ≤ _; omega) fun a' m' c' r' h52 R' E8 => ?_
    rw [List.set_append_left _ _ hrl] at E8
    have hq8 : (L.set (q + 1) r')[q]? = some (some (kr, runO V.kV tA vd (.slice a xs.length c))) := by rw [List.getElem?_set_ne (by omega)]; exact hq
    refine ⟨a', m', c', rfl, zd (E8.at q (zO _ hq8)) rfl, E8.allM 7 rfl, _, rfl, ?_⟩
    obtain ⟨es, E9⟩ := E8.store q 3 (.slice a' m' c') (zO _ hq8) rfl
    rw [List.set_append_left _ _ (by rw [List.length_set]; omega), List.set_comm _ _ (by omega)] at E9
    refine ⟨_, es, Fin.of (hQ rt (.slice a' m' c') r' _ o2 ?_ (E9.tM 7))⟩
    unfold TRow; rw [List.flatMap_append]; simpa using R'
  refine zhp S1 (by have : (s0 v ⟨0, 0, 0, 0⟩).rs.length = 0 := rfl; omega) ht (fun hv r' h20 S2 => ?_) (fun hv h20 S2 => ?_)
  · exact key r' _ h20 true S2.o (by unfold yv; rw [if_pos hv]) (S2.E.tM 7)
  · exact key V.rt _ h20 false S2.o (by unfold yv; rw [if_neg (by rw [hv]; decide)]) (S2.E.tM 7)
end
def stepR (p : VV × List VV) (d : DeedR) : VV × List VV := (yv p.1 d, p.2 ++ [yv p.1 d])
def RR (ds : List DeedR) : VV × List VV := ds.foldl stepR (vz, [vz])
theorem zdP {ds : List DeedR} {j : Nat} {d : DeedR} (h : ds[j]? = some d) : RR (ds.take (j + 1)) = stepR (RR (ds.take j)) d := by
 obtain ⟨h1, rfl⟩ := List.getElem?_eq_some_iff.1 h
 rw [List.take_succ_eq_append_getElem h1, RR, List.foldl_append]; rfl
theorem zlb : ∀ (ds : List DeedR) (p : VV × List VV) (n : Nat), 0 ≤ p.1.t ∧ p.1.t ≤ n ∧ p.2.length = n + 1 → ∃ m : Nat, m = n + ds.length ∧ 0 ≤ (ds.foldl stepR p).1.t ∧ (ds.foldl stepR p).1.t ≤ m ∧ (ds.foldl stepR p).2.length = m + 1 := by
 intro ds
 induction ds with
 | nil => intro p n h; exact ⟨n, rfl, h⟩
 | cons d ds ih =>
  intro p n h
  have ht := zfV p.1 d
  obtain ⟨m, e, h1⟩ := ih (stepR p d) (n + 1) ⟨by show 0 ≤ (yv p.1 d).t; omega, by show (yv p.1 d).t ≤ _; omega, by show (p.2 ++ [_]).length = _; rw [List.length_append]; simp; omega⟩
  exact ⟨m, by rw [e, List.length_cons]; omega, h1⟩
theorem RR_t (ds : List DeedR) : 0 ≤ (RR ds).1.t ∧ (RR ds).1.t ≤ ds.length ∧ (RR ds).2.length = ds.length + 1 := by
 obtain ⟨m, e, h1, h2, h3⟩ := zlb ds (vz, [vz]) 0 ⟨by decide, by decide, rfl⟩
 have e : m = ds.length := by omega
 subst e
 exact ⟨h1, h2, h3⟩
theorem zgY : PG.underlying ye = some (.slice zE) := by kernel_rfl
theorem ziy : leafB PG 5 zE = some [.int .i64, .int .i64, .int .i64, .int .u8] := by kernel_rfl
theorem zki {H : Type} {enc : TypeId × Value → H} {w : World} {base : Nat} {spare : Nat → Bool} {held : Bool} {a : Option Addr} {len cap : Nat} {d : DataW H} {p : List MemPlace} (h : DataW.Trod enc PG w base spare held ye (.slice a len cap) d p) :
  ∃ l : List DeedR, len = l.length ∧ Reads (roOf w) Z1 a 4 DeedR.cells l := by
 have key : ∃ l : List DeedR, len = l.length ∧ Reads (roOf w) Z1 a 4 DeedR.cells l ∧ ∀ x ∈ l, True := zfF DeedR.cells (fun _ => True) zgY ziy rfl (by omega) (fun vs h => by
  obtain ⟨z1, v1, rfl, _, h1⟩ := h.int
  obtain ⟨z2, v2, rfl, _, h2⟩ := h1.int
  obtain ⟨z3, v3, rfl, _, h3⟩ := h2.int
  obtain ⟨z4, v4, rfl, w4, h4⟩ := h3.int
  obtain rfl := h4.nil
  obtain ⟨c, rfl⟩ := u8_of w4
  exact ⟨⟨z1, z2, z3, c⟩, rfl, trivial⟩) h
 obtain ⟨l, h1, h2, _⟩ := key
 exact ⟨l, h1, h2⟩
theorem zkz (i : Int) : ze (List.replicate 8 (0, 0)) i = (0, 0) := by
 unfold ze
 split
 ·cases h : (List.replicate 8 ((0 : Int), (0 : Int)))[i.toNat]? with
  | none => rfl
  | some x => exact (List.eq_of_mem_replicate (List.mem_of_getElem? h))
 ·rfl
theorem cr_z (d : List (Int × Int)) (f : DFL) (i : Int) : (StV.mk d f 0 0 0).cr i = 0 := by
 unfold StV.cr; (repeat' split) <;> rfl
theorem zhw {v : VV} {i x t : Int} {f : FL} {ts : List ByteArray} {l : List (Int × Int)} {t' : Int} (h8 : v.c.length = 8) (hi : inC i = true) (k : Int) : ze (v.c.set i.toNat (x, t)) k = if k = i then (x, t) else ze v.c k := by
 have := of_decide_eq_true hi
 exact wL this.1 (by rw [h8]; omega) _ _
section
variable {B : RO} {h0 h h' : Heap} {L M : List (Option (Nat × AObj))} {V : VI} {v : VV} {K K1 K2 : AK} {U U1 U2 : AU} {s s1 s2 : AV} {k : Nat} {i j : Int} {c : StV} {g : Reg4} {o o' : AObj} {y z : Option (Nat × AObj)}
theorem two_q : (L ++ [y, z])[L.length]? = some y := by rw [List.getElem?_append_right (Nat.le_refl _), Nat.sub_self]; rfl
theorem zgk : (L ++ [y, z])[L.length + 1]? = some z := by rw [List.getElem?_append_right (by omega), show L.length + 1 - L.length = 1 by omega]; rfl
theorem zce {y' : Option (Nat × AObj)} : (L ++ [y, z]).set L.length y' = L ++ [y', z] := by rw [List.set_append_right _ _ (Nat.le_refl _), Nat.sub_self]; rfl
theorem zcZ {z' : Option (Nat × AObj)} : (L ++ [y, z]).set (L.length + 1) z' = L ++ [y, z'] := by rw [List.set_append_right _ _ (by omega), show L.length + 1 - L.length = 1 by omega]; rfl
theorem SS.other {d : DeedR} {kr : Nat} {tA : Option Addr} {vd vt : Value} {r : Option (Nat × AObj)} {xs : List VV} {Q : Heap → Prop} (S : SS B h0 (L ++ [some (kr, runO V.kV tA vd vt), r]) h V v K U s) (R : TRow r vt xs) (hx : xs.length ≤ 100000) (ht : 0 ≤ v.t ∧ v.t < 1000000000)
  (hQ : ∀ rt vt' r' h', TRow r' vt' (xs ++ [yv v d]) → SS B h0 (L ++ [some (kr, runO V.kV tA vd vt'), r']) h' (V.w rt) (yv v d) K U s → Q h') : yK B (some ⟨kr, 0, none⟩) d.k d.a d.b ((d.c.toNat : Nat) : Int) h Q := by
 refine zfW (q := L.length) S.out S.o (zO _ two_q) (zO _ zgk) R hx ht fun rt vt' r' h1 o1 R1 E1 => hQ rt vt' r' h1 R1 ⟨?_, o1, S.R, S.O, S.a.view o1.f⟩
 rw [List.set_append_left _ _ (by rw [List.length_append]; simp), zce, List.set_append_left _ _ (by rw [List.length_append]; simp), zcZ] at E1
 exact E1.unswap
theorem zk5 {a : Option Addr} {cc : Nat} {ds : List DeedR} {Q : Option Addr → Heap → Prop} (E : Keep B h0 L h) (hr : ∀ h', Keep B h0 L h' → Reads B h' a 4 DeedR.cells ds) (hn : ds.length ≤ 1000)
  (hQ : ∀ kr V K U vt r h', TRow r vt (RR ds).2 → SS B h0 (L ++ [some (kr, runO V.kV (some ⟨K.kA, 0, none⟩) (.slice none 0 0) vt), r]) h' V (RR ds).1 K U (s0 (RR ds).1 g) → Q (some ⟨kr, 0, none⟩) h') : wd B a ds.length cc g.a g.b g.c g.d h Q := by
 refine wd.of ?_
 unfold Y0
 intro k9 a9 b9 h10 e10
 have E1 := E.made a9 b9 e10
 refine zdy fun V h11 o E2 => ?_
 have E3 := E1.append E2
 intro k13 a13 b13 h14 e14
 have E4 := Keep.nP E3 a13 b13 e14
 generalize hL1 : L ++ [some (k9, AObj.vec Zd (zc [.int .i64 g.a, .int .i64 g.b, .int .i64 g.c, .int .i64 g.d]) 4)] = L1 at E4
 have E5 : Keep B h0 ((L1 ++ [some (k13, runO V.kV none (.slice none 0 0) (.slice none 0 0)), none]) ++ V.e vz) h14 := by
  have := E4.unswap.gap
  rw [List.append_assoc, List.append_assoc] at this
  exact this.swap
 clear E4
 have cr : ∀ {vt : Value} {r : Option (Nat × AObj)} {N : List (Option (Nat × AObj))} {h1 : Heap}, Keep B h0 ((L1 ++ [some (k13, runO V.kV none (.slice none 0 0) vt), r]) ++ N) h1 → h1 k13 = some (runO V.kV none (.slice none 0 0) vt) := fun {vt r N h1} E => E.at L1.length (zO _ two_q)
 refine ⟨_, zd (cr E5) rfl, zb3 E5 VAt.mk0 o fun h16 E6 k21 a21 b21 h22 e22 k23 a23 b23 h24 e24 => ?_⟩
 have E7 := (E6.nM a21 b21 e22).nM a23 b23 e24
 refine ⟨rfl, _, zv (E7.gM 7 rfl) rfl (by simp [thF]) (WG _) (by simp [thF]), ?_⟩
 have E8 := E7.pM (o' := .vec zw (zc (thF vz)) 23) 7 rfl
 refine ⟨_, zv (E8.gM 8 rfl) rfl (by simp) (by simp [isOne]) (by simp), ?_⟩
 have E9 := E8.pM (o' := .vec y1 (zc (txF vz.ts)) 3) 8 rfl
 refine ⟨none, 0, 0, zd (cr E9) rfl, thF vz, rfl, E9.allM 7 rfl, fun k37 a37 b37 h38 e38 => ?_⟩
 have E10 := E9.nM a37 b37 e38
 refine ⟨zd (cr E10) rfl, E10.allM 7 rfl, ?_⟩
 refine E10.pushS (L1.length + 1) (n := 1) (ys := thF vz) (zO _ zgk) (Row.nil _ _) zem zdq rfl (by omega) (by omega) zfr ⟨rfl, WG _, .inl ⟨_, _, rfl, E10.allM 9 rfl⟩⟩ (by show (0 + 23) * 232 ≤ _; omega) fun a' m' c' r' h41 R' E11 => ?_
 rw [List.set_append_left _ _ (by rw [List.length_append]; simp), zcZ] at E11
 refine ⟨a', m', c', rfl, zd (cr E11) rfl, E11.allM 7 rfl, ?_⟩
 obtain ⟨es, E12⟩ := E11.store L1.length 3 (.slice a' m' c') (zO _ two_q) rfl
 rw [List.set_append_left _ _ (by rw [List.length_append]; simp), zce] at E12
 have E13 := E12.tM 7
 refine ⟨_, es, ?_⟩
 refine ⟨fun q m h' => ∃ (j : Nat) (rt : Option (Nat × AObj)) (vt : Value) (r : Option (Nat × AObj)), j ≤ ds.length ∧ q = j ∧ m = ds.length - j ∧ VOk (V.w rt) (RR (ds.take j)).1 ∧ TRow r vt (RR (ds.take j)).2 ∧ Keep B h0 ((L1 ++ [some (k13, runO V.kV none (.slice none 0 0) vt), r]) ++ (V.w rt).e (RR (ds.take j)).1) h', ds.length, Fin.of ⟨0, V.rt, .slice a' m' c', r', by omega, rfl, rfl, o, ?_, E13⟩, ?_⟩
 ·unfold TRow; rw [show (RR (ds.take 0)).2.flatMap thF = [] ++ thF vz from List.append_nil _]; exact R'
 clear E5 E6 E7 E8 E9 E10 E11 E12 E13 es R' E3
 rintro _ _ h67 ⟨j, rt, vt, r, hj, rfl, rfl, oj, Rj, Ej⟩
 obtain ⟨t1, t2, t3⟩ := RR_t (ds.take j)
 rw [List.length_take, Nat.min_eq_left hj] at t2 t3
 refine ⟨fun hlt => ?_, fun hge => Fin.of ?_⟩
 ·have hj' : j < ds.length := by omega
  have hx := List.getElem?_eq_getElem hj'
  generalize ds[j] = d at hx
  obtain ⟨A, f1, f2, f3⟩ := hr h67 (by rw [← hL1, List.append_assoc, List.append_assoc] at Ej; exact Ej.popL) j d hx
  refine ⟨A, f1, by omega, by omega, d.k, d.a, d.b, ((d.c.toNat : Nat) : Int), by rw [Int.toNat_natCast]; exact f3, fun k78 a78 b78 h79 e79 => ?_⟩
  have E2' := Keep.nP Ej a78 b78 e79
  refine ⟨_, zv E2'.gP rfl (by simp) (by simp [isOne]) (by simp), ?_⟩
  have E3' := E2'.pP (o' := .vec zE (zc d.cells) 4)
  refine ⟨_, _, _, _, ⟨zd E3'.gP rfl, zd E3'.gP rfl, zd E3'.gP rfl, zd E3'.gP rfl, trivial⟩, ?_⟩
  refine zfW (d := d) (q := L1.length) (Keep.dP E3') oj two_q zgk Rj (by omega) ⟨t1, by omega⟩ fun rt' vt' r' h1 o1 R1 E4' => Fin.of ⟨ds.length - (j + 1), by omega, j + 1, rt', vt', r', by omega, wrapS (by omega), rfl, ?_, ?_, ?_⟩
  ·rw [zdP hx]; exact o1
  ·rw [zdP hx]; exact R1
  ·rw [zdP hx]
   rw [zce, zcZ] at E4'
   exact E4'
 ·have hjn : j = ds.length := by omega
  subst hjn
  rw [List.take_length] at oj Rj Ej
  unfold vF
  subst hL1
  have g9 : ∀ {y z : Option (Nat × AObj)} {N : List (Option (Nat × AObj))} {h1 : Heap}, Keep B h0 (L ++ [some (k9, AObj.vec Zd (zc [.int .i64 g.a, .int .i64 g.b, .int .i64 g.c, .int .i64 g.d]) 4)] ++ [y, z] ++ N) h1 → za B h1 ⟨k9, 0, none⟩ 0 [.int .i64 g.a, .int .i64 g.b, .int .i64 g.c, .int .i64 g.d] := fun {y z N h1} E => by
   have g := E.at L.length (zO _ atMid)
   exact ⟨zd g rfl, zd g rfl, zd g rfl, zd g rfl, trivial⟩
  refine ⟨_, zd (cr Ej) rfl, g.a, g.b, g.c, g.d, g9 Ej, zb9 (V := V.w rt) Ej oj fun K U h61 S => ?_⟩
  have S1 := S.drop2
  refine ⟨zd (cr S1.E) rfl, g9 S1.E, ?_⟩
  obtain ⟨es, E6⟩ := S1.E.store (L ++ [some (k9, AObj.vec Zd (zc [.int .i64 g.a, .int .i64 g.b, .int .i64 g.c, .int .i64 g.d]) 4)]).length 1 (.pointer (some ⟨K.kA, 0, none⟩)) (zO _ two_q) rfl
  rw [List.set_append_left _ _ (by rw [List.length_append]; simp), zce] at E6
  refine ⟨_, es, Fin.of (hQ k13 (V.w rt) K U vt r _ Rj ⟨?_, S1.o, S1.R, S1.O, S1.a⟩)⟩
  rw [List.append_assoc, List.append_assoc] at E6
  rw [List.append_assoc]
  exact E6.dropMid
end
section
variable {B : RO} {h0 h h' : Heap} {L M : List (Option (Nat × AObj))} {V : VI} {v : VV} {K K1 K2 : AK} {U U1 U2 : AU} {s s1 s2 : AV} {k : Nat} {i j : Int} {c : StV} {g : Reg4} {o o' : AObj} {y z : Option (Nat × AObj)}
theorem Reads.none : Reads B h none 4 DeedR.cells [] := fun i x hx => by cases hx
theorem zl2 {v : VV} {i x t : Int} (h8 : v.c.length = 8) (hi : inC i = true) : thF ⟨v.c.set i.toNat (x, t), v.f, v.ts, v.l, t⟩ = (thF v).set i.toNat (.int .i64 x) := by
 have hc := zhw (v := v) (x := x) (t := t) (f := []) (ts := []) (l := []) (t' := 0) h8 hi
 have e : ∀ q, cT ⟨v.c.set i.toNat (x, t), v.f, v.ts, v.l, t⟩ q = if q = i then .int .i64 x else cT v q := fun q => by
  unfold cT; rw [hc]; split <;> rfl
 have h := of_decide_eq_true hi
 have h2 : i = 0 ∨ i = 1 ∨ i = 2 ∨ i = 3 ∨ i = 4 ∨ i = 5 ∨ i = 6 ∨ i = 7 := by omega
 unfold thF
 simp only [e]
 rcases h2 with rfl | rfl | rfl | rfl | rfl | rfl | rfl | rfl <;> rfl
theorem zju {Q : Option Addr → Heap → Prop} (S : SS B h0 L h V v K U s) (hQ : Q (some ⟨K.kS, 0, none⟩) h) : xe B (some ⟨K.kA, 0, none⟩) h Q := by
 refine xe.of ?_
 unfold ZI
 exact ⟨fun e => (by cases e), fun _ => ⟨_, rfl, _, S.E.cM 7 rfl (i := 1) rfl, Fin.of hQ⟩⟩
end
theorem zbt {v : VV} {rs : List RE} {st k i : Int} (h : vld v rs = true) : vld v (noteA v rs st k i).2.1 = true := by
 have h1 : vld v (rs ++ [(k, i, verOf v k i)]) = true := by unfold vld at *; rw [List.all_append, h]; simp
 unfold noteA; split
 ·exact h
 ·split
  ·first | exact h1 | (split <;> first | exact h1 | exact h)
  ·exact h1
theorem zap {v : VV} {s : AV} {i : Int} (h : vld v s.rs = true) : vld v (z7 v s i).rs = true := by
 unfold z7; split
 ·split
  ·exact h
  ·exact zbt h
 ·exact h
theorem zb4 {v : VV} {s : AV} {i : Int} {F : DFL → DFL} (h : vld v s.rs = true) : vld v (wS v s i F).1.rs = true := by
 unfold wS; split <;> exact zap h
theorem zk9 {v : VV} {s : AV} {d : DeedR} (h : vld v s.rs = true) : vld v (doesA v s d).1.rs = true := by
 unfold doesA
 split
 ·unfold loadA; split
  ·split
   ·exact h
   ·exact zbt h
  ·exact h
 split
 ·unfold wZ; split <;> exact h
 split
 ·unfold readA; split <;> exact zap h
 split
 ·exact zb4 h
 split
 ·exact zb4 h
 split
 ·exact zb4 h
 split
 ·unfold w7; split
  ·split
   ·exact zb4 (zap h)
   ·exact zap h
  ·exact h
 split
 ·exact zb4 h
 split
 ·unfold recvA; split
  ·split
   ·split <;> exact zbt h
   ·exact zbt h
  ·exact h
 ·exact h
theorem ActAt.app {L M : List (Option (Nat × AObj))} {q k : Nat} {x : ActV} (A : ActAt L q k x) : ActAt (L ++ M) q k x := ⟨zO _ A.p, zO _ A.q0, zO _ A.q1, zO _ A.q2, zO _ A.q3⟩
theorem SkAt.app {L M : List (Option (Nat × AObj))} {q k : Nat} {v : Value} {r : Option (Nat × AObj)} (A : SkAt L q k v r) : SkAt (L ++ M) q k v r := ⟨zO _ A.p, zO _ A.q⟩
theorem ActAt.len {L : List (Option (Nat × AObj))} {q k : Nat} {x : ActV} (A : ActAt L q k x) : q + 4 < L.length := (List.getElem?_eq_some_iff.1 A.q3).1
section
variable {B : RO} {h0 h h' : Heap} {L M P : List (Option (Nat × AObj))} {V : VI} {v : VV} {K K1 K2 Ka Kb : AK} {U U1 U2 Ua Ub : AU} {s s1 s2 : AV} {k p q : Nat} {i j : Int} {c : StV} {g : Reg4} {o o' : AObj} {y z rK : Option (Nat × AObj)} {x : ActV} {t : ActS} {vK : Value} {ms : List MarkR}
theorem SS.e (S : SS B h0 L h V v K U s) {L' : List (Option (Nat × AObj))} {h1 : Heap} (E : Keep B h0 (L' ++ (V.e v ++ AE V K U s)) h1) : SS B h0 L' h1 V v K U s := ⟨E, S.o, S.R, S.O, S.a⟩
end
abbrev DoX := VV × DFL
def putP (W : VV) (i x : Int) : VV := ⟨W.c, W.f, W.ts, W.l.set i.toNat (x, 0), 0⟩
def putC (W : VV) (i x : Int) : VV := ⟨W.c.set i.toNat (x, 0), W.f, W.ts, W.l, 0⟩
def vG (X : DoX) (d : DeedR) : DoX × Int :=
 if d.k = 0 then (X, (ze X.1.c d.a).1)
 else if d.k = 1 then ((putC X.1 d.a d.b, X.2), 0)
 else if d.k = 2 then (X, atF (getS X.1.f X.2 d.a).1 d.b)
 else if d.k = 3 then ((X.1, upS X.1.f X.2 d.a (putF (getS X.1.f X.2 d.a).1 d.b d.c)), 0)
 else if d.k = 4 then ((X.1, upS X.1.f X.2 d.a (true, (getS X.1.f X.2 d.a).1.2)), 0)
 else if d.k = 5 then ((X.1, upS X.1.f X.2 d.a f0), 0)
 else if d.k = 6 then ((X.1, renS X.1.f X.2 d.a d.b), 0)
 else if d.k = 7 then ((X.1, upS X.1.f X.2 d.a (cutF (getS X.1.f X.2 d.a).1 d.b)), 0)
 else if d.k = 8 then (if (ze X.1.l d.a).1 < (zW X.1.ts d.a).size then ((putP X.1 d.a ((ze X.1.l d.a).1 + 1), X.2), x4 (zW X.1.ts d.a) (ze X.1.l d.a).1.toNat) else (X, -1))
 else (X, 0)
def DoR (v : VV) (ds : List DeedR) : DoX × Int := ds.foldl (fun p d => vG p.1 d) ((v, []), 0)
theorem zkj {v : VV} {ds : List DeedR} {j : Nat} {d : DeedR} (h : ds[j]? = some d) : DoR v (ds.take (j + 1)) = vG (DoR v (ds.take j)).1 d := by
 obtain ⟨h1, rfl⟩ := List.getElem?_eq_some_iff.1 h
 rw [List.take_succ_eq_append_getElem h1, DoR, List.foldl_append]; rfl
structure goodD (d : DeedR) : Prop where
 c : d.k = 0 ∨ d.k = 1 → inC d.a = true
 f : d.k = 2 → inR d.a = true
 l : d.k = 8 → 0 ≤ d.a ∧ d.a < 3
structure OkX (X : DoX) : Prop where
 c8 : X.1.c.length = 8
 s : SOk X.1.f X.2
 k : wn X.1.ts X.1.l
theorem OkX.put {X : DoX} (o : OkX X) {i : Int} (h3 : 0 ≤ i ∧ i < 3) (h : (ze X.1.l i).1 < (zW X.1.ts i).size) : OkX (putP X.1 i ((ze X.1.l i).1 + 1), X.2) := by
 refine ⟨o.c8, o.s, ?_⟩
 have ht := o.k.take i ((ze X.1.l i).1 + 1) 0
 have hb : takeB X.1.ts X.1.l i ((ze X.1.l i).1 + 1) = true := by
  unfold takeB; rw [decide_eq_true_eq]; exact ⟨h3.1, h3.2, by omega, by omega⟩
 unfold takeL at ht
 rw [if_pos hb] at ht
 exact ht
theorem OkX.step {X : DoX} (o : OkX X) (d : DeedR) (g : goodD d) : OkX (vG X d).1 := by
 unfold vG
 split
 ·exact o
 split
 ·exact ⟨(List.length_set ..).trans o.c8, o.s, o.k⟩
 split
 ·exact o
 split
 ·exact ⟨o.c8, o.s.up (zag (o.s.good _) _ _), o.k⟩
 split
 ·exact ⟨o.c8, o.s.up (f := (true, (getS X.1.f X.2 d.a).1.2)) (Vx (f := (getS X.1.f X.2 d.a).1) (o.s.good _)), o.k⟩
 split
 ·exact ⟨o.c8, o.s.up rfl, o.k⟩
 split
 ·exact ⟨o.c8, o.s.ren _ _, o.k⟩
 split
 ·exact ⟨o.c8, o.s.up (zaf (o.s.good _) _), o.k⟩
 split
 ·rename_i h8
  split
  ·rename_i hlt
   exact o.put (g.l h8) hlt
  ·exact o
 ·exact o
theorem zlO {v : VV} {i x : Int} (h3 : v.l.length = 3) (hi : 0 ≤ i ∧ i < 3) : thF (putP v i x) = (thF v).set (20 + i.toNat) (.int .i64 x) := by
 have e : ∀ q, lT (putP v i x) q = if q = i then .int .i64 x else lT v q := fun q => by
  show Value.int .i64 (ze (v.l.set i.toNat (x, 0)) q).1 = _
  rw [wL hi.1 (by omega)]; split <;> rfl
 have h2 : i = 0 ∨ i = 1 ∨ i = 2 := by omega
 unfold thF
 simp only [e]
 rcases h2 with rfl | rfl | rfl <;> rfl
def fl12 (v : VV) : List Value := [fT v 0, sT v 0, fT v 1, sT v 1, fT v 2, sT v 2, fT v 3, sT v 3, fT v 4, sT v 4, fT v 5, sT v 5]
theorem zjE {v : VV} (h6 : v.f.length = 6) : zbS v.f = fl12 v := by
 obtain ⟨c, f, ts, l, t⟩ := v
 match f, h6 with
 | [a, b, c, d, e, g], _ => rfl
theorem zlX {v : VV} (h6 : v.f.length = 6) : AObj.vec wN (zc (fl12 v ++ fl12 v ++ [.bool false, .bool false, .bool false, .bool false, .bool false, .bool false])) 30 = docO v.f [] := by
 unfold docO docC
 rw [zjE h6]; rfl
def finV (X : DoX) : VV := { X.1 with f := (fsOf X.1.f X.2).map fun f => (f, 0) }
section
variable {B : RO} {h0 h h' : Heap} {L M P : List (Option (Nat × AObj))} {v : VV} {k kd : Nat} {i j : Int} {X : DoX} {ds : List DeedR}
theorem zkd (hk : h k = some (.vec zw (zc (thF v)) 23)) (hi : inC i = true) : cellH B h (Addr.add ⟨k, 0, none⟩ (Int.toNat i * 1)) = some (cT v i) := by
 have := of_decide_eq_true hi
 have h2 : i = 0 ∨ i = 1 ∨ i = 2 ∨ i = 3 ∨ i = 4 ∨ i = 5 ∨ i = 6 ∨ i = 7 := by omega
 rw [z8]
 rcases h2 with rfl | rfl | rfl | rfl | rfl | rfl | rfl | rfl <;> exact zd hk rfl
theorem zke (hk : h k = some (.vec zw (zc (thF v)) 23)) (hi : 0 ≤ i ∧ i < 3) : cellH B h (Addr.add ⟨k, 20, none⟩ (Int.toNat i * 1)) = some (lT v i) := by
 have h2 : i = 0 ∨ i = 1 ∨ i = 2 := by omega
 rw [z8]
 rcases h2 with rfl | rfl | rfl <;> exact zd hk rfl
theorem zlR {ts : List ByteArray} (hk : h k = some (.vec y1 (zc (txF ts)) 3)) (hi : 0 ≤ i ∧ i < 3) : cellH B h (Addr.add ⟨k, 0, none⟩ (Int.toNat i * 1)) = some (.string (zW ts i)) := by
 have h2 : i = 0 ∨ i = 1 ∨ i = 2 := by omega
 rw [z8]
 rcases h2 with rfl | rfl | rfl <;> exact zd hk rfl
theorem zjQ {f : FileS} {n : Int} (hs : f.2.size ≤ 1000000) {Q : Int → Heap → Prop} (hQ : ∀ h', Wk B h h' → Q (atF f n) h') : yR B f.1 f.2 n h Q := by
 refine yR.of ?_
 unfold Ym
 intro k5 a5 b5 h6 e6
 have E : Keep B h [some (k5, frfO f)] h6 := (Keep.nil B h).made a5 b5 e6
 refine ⟨fun ix m h' => ∃ j : Nat, ix = j ∧ m = f.2.size - j ∧ (∀ q : Nat, q < j → (q : Int) ≠ n) ∧ j ≤ f.2.size ∧ Keep B h [some (k5, frfO f)] h', f.2.size, Fin.of ⟨0, rfl, rfl, fun q hq => by omega, by omega, E⟩, ?_⟩
 clear E
 rintro _ _ h8 ⟨j, rfl, rfl, hj, hjs, E⟩
 refine ⟨f.2, E.cell 0 rfl (j := 1) rfl, fun hlt => ⟨fun he => ⟨f.2, E.cell 0 rfl (j := 1) rfl, by omega, hlt, Fin.of ?_⟩, fun hne => Fin.of ⟨f.2.size - (j + 1), by omega, j + 1, wrapS (by omega), rfl, fun q hq => by
  by_cases e : q = j
  ·subst e; exact hne
  ·exact hj q (by omega), by omega, E⟩⟩, fun hge => Fin.of ?_⟩
 ·have hb := Y9 f.2 j
  rw [Int.toNat_natCast, w64 (by omega) (by omega)]
  have e3 : atF f n = x4 f.2 j := by unfold atF; rw [← he, if_pos ⟨by omega, hlt⟩, Int.toNat_natCast]
  rw [← e3]; exact hQ _ E.w
 ·have e3 : atF f n = -1 := by
   unfold atF
   rw [if_neg]
   rintro ⟨h1, h2⟩
   exact hj n.toNat (by omega) (by omega)
  rw [← e3]; exact hQ _ E.w
def doL (k10 k12 k14 k18 : Nat) (ts : List ByteArray) (X : DoX) : List (Option (Nat × AObj)) := [some (k10, .vec zw (zc (thF X.1)) 23), some (k12, .vec y1 (zc (txF ts)) 3), some (k14, .vec zw (zc thZ) 23), some (k18, docO X.1.f X.2)]
theorem Do_J1 {k10 k12 k14 k18 : Nat} {ts : List ByteArray} {x : Int} {Q : Int → List Value → Heap → Prop} (E : Keep B h0 (L ++ doL k10 k12 k14 k18 ts X) h) (o : OkX X) (hQ : ∀ h', Keep B h0 L h' → Q x (thF (finV X)) h') : wW B k10 k14 k18 x h Q := by
 unfold wW
 have h6 := o.s.l6
 have hd : L.length + 3 < (L ++ doL k10 k12 k14 k18 ts X).length := by rw [List.length_append]; simp [doL]
 have c23 : za B h ⟨k18, 12, none⟩ 0 ((fsOf X.1.f X.2).flatMap fcl) := by
  refine za.of_vec _ 0 (E.gM 3 rfl) fun j y hj => ?_
  have hl := (List.getElem?_eq_some_iff.1 hj).1
  refine xl ?_
  unfold docC
  rw [List.getElem?_append_left (by rw [List.length_append, ZZ]; omega), List.getElem?_append_right (by rw [ZZ]; omega), ZZ, show 12 + 0 + j - X.1.f.length * 2 = j by omega]; exact hj
 have e23 : (fsOf X.1.f X.2).flatMap fcl = fl12 (finV X) := rfl
 rw [e23] at c23
 refine ⟨fl12 (finV X), rfl, c23, rfl, ?_⟩
 obtain ⟨h24, st, E1⟩ := E.vM (k := k10) (t := zw) (nn := 23) (fs := [cT X.1 0, cT X.1 1, cT X.1 2, cT X.1 3, cT X.1 4, cT X.1 5, cT X.1 6, cT X.1 7]) (gs := fl12 X.1 ++ [lT X.1 0, lT X.1 1, lT X.1 2]) 0 rfl (fl12 (finV X)) (by simp [fl12, isOne, fT, sT]) 8 rfl (by simp [fl12])
 have E2 : Keep B h0 (L ++ [some (k10, .vec zw (zc (thF (finV X))) 23), some (k12, .vec y1 (zc (txF ts)) 3), some (k14, .vec zw (zc thZ) 23), some (k18, docO X.1.f X.2)]) h24 := E1
 refine ⟨h24, st, thF (finV X), rfl, E2.allM 0 rfl, rfl, _, zv (E2.gM 2 rfl) rfl (by simp [thF]) (WG _) (by simp [thF]), ?_⟩
 have E3 := E2.pM (o' := .vec zw (zc (thF (finV X))) 23) 2 rfl
 exact ⟨thF (finV X), rfl, E3.allM 2 rfl, Fin.of (hQ _ E3.zM)⟩
theorem zkT {a : Option Addr} {cc : Nat} {Q : Int → List Value → Heap → Prop} (E : Keep B h0 L h) (hr : ∀ h', Keep B h0 L h' → Reads B h' a 4 DeedR.cells ds) (hl : ds.length ≤ 1000) (hg : ∀ d ∈ ds, goodD d) (o : OkX (v, [])) (hQ : ∀ h', Keep B h0 L h' → Q (DoR v ds).2 (thF (finV (DoR v ds).1)) h') : zQ B (thF v) (zW v.ts 0) (zW v.ts 1) (zW v.ts 2) a ds.length cc h Q := by
 refine zQ.of ?_
 unfold XR
 intro k10 a10 b10 h11 e11 k12 a12 b12 h13 e13 k14 a14 b14 h15 e15
 have E1 := ((E.start.nM a10 b10 e11).nM a12 b12 e13).nM a14 b14 e15
 have c16 : za B h15 ⟨k10, 8, none⟩ 0 (fl12 v) := by
  refine za.of_vec _ 0 (E1.gM 0 rfl) fun j y hj => xl ?_
  show (thF v)[8 + 0 + j]? = some y
  have hl := (List.getElem?_eq_some_iff.1 hj).1
  have : thF v = [cT v 0, cT v 1, cT v 2, cT v 3, cT v 4, cT v 5, cT v 6, cT v 7] ++ (fl12 v ++ [lT v 0, lT v 1, lT v 2]) := rfl
  rw [this, List.getElem?_append_right (by simp), List.getElem?_append_left (by simp only [List.length_cons, List.length_nil]; omega)]
  rw [← hj]; congr 1; simp
 refine ⟨fl12 v, rfl, c16, fl12 v, rfl, c16, fun k18 a18 b18 h19 e19 => ?_⟩
 have e19' : h19 = h15.set k18 (docO v.f []) := by rw [← zlX (v := v) o.s.l6]; exact e19
 have E2 : Keep B h0 (L ++ doL k10 k12 k14 k18 v.ts (v, [])) h19 := E1.nM a18 b18 e19'
 refine ⟨fun x q m h' => ∃ j : Nat, j ≤ ds.length ∧ q = j ∧ m = ds.length - j ∧ x = (DoR v (ds.take j)).2 ∧ OkX (DoR v (ds.take j)).1 ∧ (DoR v (ds.take j)).1.1.ts = v.ts ∧ Keep B h0 (L ++ doL k10 k12 k14 k18 v.ts (DoR v (ds.take j)).1) h', ds.length, Fin.of ⟨0, by omega, rfl, rfl, rfl, o, rfl, E2⟩, ?_⟩
 clear E1 E2 e11 e13 e15 e19 e19' c16 E
 rintro _ _ _ h30 ⟨j, hj, rfl, rfl, rfl, oj, ht, E⟩
 refine ⟨fun hlt => ?_, fun hge => Fin.of ?_⟩
 ·have hj' : j < ds.length := by omega
  have hx := List.getElem?_eq_getElem hj'
  have gd := hg _ (List.getElem_mem hj')
  generalize ds[j] = d at hx gd
  obtain ⟨A, f1, _, f3⟩ := hr h30 E.zM j d hx
  have hstep := zkj (v := v) hx
  generalize DoR v (ds.take j) = R at hstep oj ht E ⊢
  obtain ⟨X, xx⟩ := R
  replace oj : OkX X := oj
  replace ht : X.1.ts = v.ts := ht
  replace E : Keep B h0 (L ++ doL k10 k12 k14 k18 v.ts X) h30 := E
  refine ⟨A, f1, by omega, by omega, d.k, d.a, d.b, ((d.c.toNat : Nat) : Int), by rw [Int.toNat_natCast]; exact f3, fun k41 a41 b41 h42 e42 => ?_⟩
  have E1 := E.nM a41 b41 e42
  refine ⟨_, zv (E1.gM 4 rfl) rfl (by simp) (by simp [isOne]) (by simp), ?_⟩
  have E2 := E1.pM (o' := .vec zE (zc d.cells) 4) 4 rfl
  have E3 : Keep B h0 (L ++ doL k10 k12 k14 k18 v.ts X ++ [some (k41, .vec zE (zc d.cells) 4)]) (h42.set k41 (.vec zE (zc d.cells) 4)) := by rw [List.append_assoc]; exact E2
  have c0 := E2.cM (k := k41) (v := .int .i64 d.k) 4 rfl (i := 0) rfl
  have c1 := E2.cM (k := k41) (v := .int .i64 d.a) 4 rfl (i := 1) rfl
  have c2 := E2.cM (k := k41) (v := .int .i64 d.b) 4 rfl (i := 2) rfl
  have c3 := E2.cM (k := k41) (v := .int .u8 ((d.c.toNat : Nat) : Int)) 4 rfl (i := 3) rfl
  have ok' := OkX.step oj d gd
  have fin : ∀ {x' : Int} {X' : DoX} {h1 : Heap}, vG X d = (X', x') → X'.1.ts = X.1.ts → Keep B h0 (L ++ doL k10 k12 k14 k18 v.ts X') h1 → Fin B h1 (fun h' => ∃ m', m' < ds.length - j ∧ ∃ j' : Nat, j' ≤ ds.length ∧ IntKind.wrap .i64 ((j : Int) + 1) = j' ∧ m' = ds.length - j' ∧ x' = (DoR v (ds.take j')).2 ∧ OkX (DoR v (ds.take j')).1 ∧ (DoR v (ds.take j')).1.1.ts = v.ts ∧ Keep B h0 (L ++ doL k10 k12 k14 k18 v.ts (DoR v (ds.take j')).1) h') := fun {x' X' h1} e1 e2 E4 => by
   rw [e1] at hstep ok'
   exact Fin.of ⟨ds.length - (j + 1), by omega, j + 1, by omega, wrapS (by omega), rfl, by rw [hstep], by rw [hstep]; exact ok', by rw [hstep]; exact e2.trans ht, by rw [hstep]; exact E4⟩
  have hq3 : (L ++ doL k10 k12 k14 k18 v.ts X)[L.length + 3]? = some (some (k18, docO X.1.f X.2)) := upM 3 rfl
  have E4 := E3.pop
  have sh : ∀ {D' : DFL} {h1 : Heap}, Keep B h0 ((L ++ doL k10 k12 k14 k18 v.ts X).set (L.length + 3) (some (k18, docO X.1.f D'))) h1 → Keep B h0 (L ++ doL k10 k12 k14 k18 v.ts (X.1, D')) h1 := fun {D' h1} E => by rw [setM] at E; exact E
  have hfin := @fin
  unfold vG at hfin
  refine ⟨d.k, c0, fun h1 => ?_, fun n0 => ?_⟩
  ·have hc := gd.c (.inl h1)
   have hc' := of_decide_eq_true hc
   exact ⟨d.a, c1, by omega, by omega, _, zkd (E2.gM 0 rfl) hc, hfin (if_pos h1) rfl E4⟩
  rw [if_neg n0] at hfin
  refine ⟨fun h1 => ?_, fun n1 => ?_⟩
  ·have hc := gd.c (.inr h1)
   have hc' := of_decide_eq_true hc
   have hl : (zc (thF X.1))[d.a.toNat]? = some (.plain (cT X.1 d.a)) := by
    have h2 : d.a = 0 ∨ d.a = 1 ∨ d.a = 2 ∨ d.a = 3 ∨ d.a = 4 ∨ d.a = 5 ∨ d.a = 6 ∨ d.a = 7 := by omega
    rcases h2 with h2 | h2 | h2 | h2 | h2 | h2 | h2 | h2 <;> rw [h2] <;> rfl
   have es := v9 (v := .int .i64 d.b) (E2.gM 0 rfl) hl
   rw [zbm, ← zl2 (t := 0) oj.c8 hc] at es
   have E5 := E4.pM (o' := .vec zw (zc (thF (putC X.1 d.a d.b))) 23) 0 rfl
   exact ⟨d.a, c1, d.b, c2, by omega, by omega, _, by rw [z8, show 0 + d.a.toNat * 1 = d.a.toNat by omega]; exact es, hfin (if_pos h1) rfl E5⟩
  rw [if_neg n1] at hfin
  refine ⟨fun h1 => ?_, fun n2 => ?_⟩
  ·have hc := gd.f h1
   have hc' := inR_t hc
   have cf : za B (h42.set k41 (.vec zE (zc d.cells) 4)) (Addr.add ⟨k18, 12, none⟩ (Int.toNat d.a * 2)) 0 [.bool (getS X.1.f X.2 d.a).1.1, .string (getS X.1.f X.2 d.a).1.2] := by
    have := XM (n := d.a.toNat) E3 oj.s.l6 (zO _ hq3) (by omega)
    rw [show ((d.a.toNat : Nat) : Int) = d.a by omega] at this
    exact this
   refine ⟨d.a, c1, by omega, by omega, _, _, cf, d.b, c2, zjQ (f := (getS X.1.f X.2 d.a).1) (by have := YI (oj.s.good d.a); omega) fun h5 w => ⟨w.cell c1, w.cells cf, w.cell c2, hfin (if_pos h1) rfl (E4.wk w)⟩⟩
  rw [if_neg n2] at hfin
  refine ⟨fun h1 => ?_, fun n3 => ?_⟩
  ·exact ⟨d.a, c1, d.b, c2, _, c3, zjX rfl E3 oj.s (zO _ hq3) fun h5 E5 => hfin (if_pos h1) rfl (sh (by rw [List.set_append_left _ _ (List.getElem?_eq_some_iff.1 hq3).1] at E5; exact E5.pop))⟩
  rw [if_neg n3] at hfin
  refine ⟨fun h1 => ?_, fun n4 => ?_⟩
  ·exact ⟨d.a, c1, ziQ E3 oj.s (zO _ hq3) fun h5 E5 => hfin (if_pos h1) rfl (sh (by rw [List.set_append_left _ _ (List.getElem?_eq_some_iff.1 hq3).1] at E5; exact E5.pop))⟩
  rw [if_neg n4] at hfin
  refine ⟨fun h1 => ?_, fun n5 => ?_⟩
  ·exact ⟨d.a, c1, ziS E3 oj.s (zO _ hq3) fun h5 E5 => hfin (if_pos h1) rfl (sh (by rw [List.set_append_left _ _ (List.getElem?_eq_some_iff.1 hq3).1] at E5; exact E5.pop))⟩
  rw [if_neg n5] at hfin
  refine ⟨fun h1 => ?_, fun n6 => ?_⟩
  ·exact ⟨d.a, c1, d.b, c2, ziT E3 oj.s (zO _ hq3) fun h5 E5 => hfin (if_pos h1) rfl (sh (by rw [List.set_append_left _ _ (List.getElem?_eq_some_iff.1 hq3).1] at E5; exact E5.pop))⟩
  rw [if_neg n6] at hfin
  refine ⟨fun h1 => ?_, fun n7 => ?_⟩
  ·exact ⟨d.a, c1, d.b, c2, zlI E3 oj.s (zO _ hq3) fun h5 E5 => hfin (if_pos h1) rfl (sh (by rw [List.set_append_left _ _ (List.getElem?_eq_some_iff.1 hq3).1] at E5; exact E5.pop))⟩
  rw [if_neg n7] at hfin
  refine ⟨fun h1 => ?_, fun n8 => hfin (if_neg n8) rfl E4⟩
  have hi := gd.l h1
  rw [if_pos h1] at hfin
  have tc := zlR (B := B) (E2.gM 1 rfl) hi
  rw [← ht] at tc
  have pc := zke (B := B) (E2.gM 0 rfl) hi
  have hp := oj.k.place d.a
  have hs := oj.k.size d.a
  refine ⟨d.a, c1, by omega, by omega, _, pc, d.a, c1, by omega, by omega, _, tc, fun hlt => ?_, fun hge => hfin (if_neg hge) rfl E4⟩
  refine ⟨d.a, c1, by omega, by omega, _, tc, d.a, c1, by omega, by omega, _, pc, hp.1, hlt, d.a, c1, by omega, by omega, _, pc, by omega, by omega, ?_⟩
  have hb := Y9 (zW X.1.ts d.a) (ze X.1.l d.a).1.toNat
  rw [w64 (n := (ze X.1.l d.a).1 + 1) (by omega) (by omega), w64 (n := x4 (zW X.1.ts d.a) (ze X.1.l d.a).1.toNat) (by omega) (by omega)]
  have hl : (zc (thF X.1))[20 + d.a.toNat]? = some (.plain (lT X.1 d.a)) := by
   have h2 : d.a = 0 ∨ d.a = 1 ∨ d.a = 2 := by omega
   rcases h2 with h2 | h2 | h2 <;> rw [h2] <;> rfl
  have es := v9 (v := .int .i64 ((ze X.1.l d.a).1 + 1)) (E2.gM 0 rfl) hl
  rw [zbm, ← zlO oj.k.l3 hi] at es
  have E5 := E4.pM (o' := .vec zw (zc (thF (putP X.1 d.a ((ze X.1.l d.a).1 + 1)))) 23) 0 rfl
  exact ⟨_, by rw [z8, show 20 + d.a.toNat * 1 = 20 + d.a.toNat by omega]; exact es, hfin (if_pos hlt) rfl E5⟩
 ·have hjn : j = ds.length := by omega
  subst hjn
  rw [List.take_length] at E oj ⊢
  exact Do_J1 E oj hQ
end
structure RelA (T : VV) (s : AV) (X : DoX) : Prop where
 c : ∀ i, inC i = true → (ze X.1.c i).1 = (atD s.s.d i).getD (ze T.c i).1
 f : ∀ i, (getS X.1.f X.2 i).1 = (getS T.f s.s.f i).1
 l : ∀ i, 0 ≤ i ∧ i < 3 → (ze X.1.l i).1 = (ze T.l i).1 + s.s.cr i
 p : ∀ i, 0 ≤ i ∧ i < 3 → (ze T.l i).1 + s.s.cr i ≤ (zW T.ts i).size
 t : X.1.ts = T.ts
structure AgrE (v T : VV) (e : RE) : Prop where
 c : e.1 = 0 → (ze T.c e.2.1).1 = (ze v.c e.2.1).1
 f : e.1 = 1 → (yl T.f e.2.1).1 = (yl v.f e.2.1).1
 l : e.1 = 2 → (ze T.l e.2.1).1 = (ze v.l e.2.1).1
def Agr (v T : VV) (rs : List RE) : Prop := ∀ e ∈ rs, e.2.2 = verOf v e.1 e.2.1 → AgrE v T e
def Ext (v T : VV) : Prop := ∀ i, 0 ≤ i ∧ i < 3 → (zW v.ts i).size ≤ (zW T.ts i).size
theorem RelA.s {T : VV} {s s' : AV} {X : DoX} (R : RelA T s X) (e : s'.s = s.s) : RelA T s' X := ⟨by rw [e]; exact R.c, by rw [e]; exact R.f, by rw [e]; exact R.l, by rw [e]; exact R.p, R.t⟩
theorem zjA {rs : List RE} {k i w : Int} (h : fE rs k i = some w) : ∃ e ∈ rs, e.1 = k ∧ e.2.1 = i ∧ e.2.2 = w := by
 unfold fE at h
 cases hf : rs.find? (fun e => decide (e.1 = k ∧ e.2.1 = i)) with
 | none => rw [hf] at h; cases h
 | some e =>
  rw [hf] at h
  have h1 := List.find?_some hf
  simp only [decide_eq_true_eq] at h1
  simp only [Option.map_some, Option.some.injEq] at h
  exact ⟨e, List.mem_of_find?_eq_some hf, h1.1, h1.2, h⟩
theorem zfU {v : VV} {s : AV} {k i : Int} : ∀ e ∈ s.rs, e ∈ (noteS v s k i).rs := by
 intro e he
 show e ∈ (noteA v s.rs s.st k i).2.1
 unfold noteA; split
 ·exact he
 ·split
  ·first | exact List.mem_append_left _ he | (split <;> first | exact List.mem_append_left _ he | exact he)
  ·exact List.mem_append_left _ he
theorem VT {v : VV} {s : AV} {k i : Int} (h : noteE v s k i = 0) : ∃ e ∈ (noteS v s k i).rs, e.1 = k ∧ e.2.1 = i ∧ e.2.2 = verOf v e.1 e.2.1 := by
 unfold noteE at h
 have ht : (noteA v s.rs s.st k i).1 = true := by
  cases hb : (noteA v s.rs s.st k i).1 with
  | true => rfl
  | false => rw [hb] at h; exact absurd (show (9 : Int) = 0 from h) (by decide)
 show ∃ e ∈ (noteA v s.rs s.st k i).2.1, _
 cases hf : fE s.rs k i with
 | some w =>
  obtain ⟨e, h1, h2, h3, h4⟩ := zjA hf
  refine ⟨e, ?_, h2, h3, ?_⟩
  ·unfold noteA; rw [hf]; exact h1
  ·unfold noteA at ht; rw [hf] at ht
   simp only [beq_iff_eq] at ht
   rw [h2, h3, h4, ht]
 | none =>
  unfold noteA at ht ⊢
  rw [hf] at ht ⊢
  simp only at ht ⊢
  by_cases h1 : verOf v k i > s.st
  ·rw [if_pos h1] at ht ⊢
   by_cases h2 : vld v s.rs = true
   ·rw [if_pos h2]; exact ⟨_, List.mem_append_right _ (List.mem_singleton.2 rfl), rfl, rfl, rfl⟩
   ·rw [if_neg h2] at ht; cases ht
  ·rw [if_neg h1]; exact ⟨_, List.mem_append_right _ (List.mem_singleton.2 rfl), rfl, rfl, rfl⟩
theorem zeJ {v : VV} {s : AV} {i : Int} : ∀ e ∈ s.rs, e ∈ (z7 v s i).rs := by
 intro e he
 unfold z7; split
 ·split
  ·exact he
  ·exact zfU e he
 ·exact he
theorem zao {v T : VV} {s : AV} {i : Int} (h : yt v s i = 0) (A : Agr v T (z7 v s i).rs) : (getS T.f s.s.f i).1 = (getS v.f s.s.f i).1 := by
 have hr := zan h
 cases hd : atD s.s.f i with
 | some f => rw [X4 hd, X4 hd]
 | none =>
  have h2 : ¬ (getS v.f s.s.f i).2 = true := by rw [X3 hd]; exact Bool.false_ne_true
  unfold yt at h
  rw [if_pos hr, if_neg h2] at h
  have hs : z7 v s i = noteS v s 1 i := by unfold z7; rw [if_pos hr, if_neg h2]
  rw [hs] at A
  obtain ⟨e, h3, h4, h5, h6⟩ := VT h
  have := (A e h3 h6).f h4
  rw [h5] at this
  rw [X3 hd, X3 hd]
  exact this
theorem W0 {l l' : FL} {d : DFL} {n m : Int} {f : FileS} (h : (getS l' d n).1 = (getS l d n).1) : (getS l' (putS l d n f) m).1 = if m = n then f else (getS l' d m).1 := by
 unfold putS
 split
 ·rename_i e
  by_cases hm : m = n
  ·rw [if_pos hm, hm, h, e]
  ·rw [if_neg hm]
 ·rw [zcM]
  by_cases hm : m = n
  ·rw [if_pos hm, if_pos hm]
  ·rw [if_neg hm, if_neg hm]
theorem zfQ {l l' : FL} {d : DFL} {n m : Int} {f : FileS} (hr : inR n = true) (h : (getS l' d n).1 = (getS l d n).1) : (getS l' (upS l d n f) m).1 = if m = n then f else (getS l' d m).1 := by
 unfold upS; rw [if_pos hr]; exact W0 h
theorem zeu {l l' : FL} {d : DFL} {a b m : Int} (ha : (getS l' d a).1 = (getS l d a).1) (hb : (getS l' d b).1 = (getS l d b).1) : (getS l' (renS l d a b) m).1 = if (inR a && inR b && (getS l' d a).1.1 && decide (a ≠ b)) = true then (if m = a then f0 else if m = b then (getS l' d a).1 else (getS l' d m).1) else (getS l' d m).1 := by
 unfold renS
 rw [ha]
 split
 ·rename_i h
  simp only [Bool.and_eq_true, decide_eq_true_eq] at h
  have h1 : (getS l' (putS l d b (getS l d a).1) a).1 = (getS l (putS l d b (getS l d a).1) a).1 := by
   rw [W0 hb, W0 rfl, if_neg h.2, if_neg h.2, ha]
  rw [W0 h1, W0 hb]
 ·rfl
theorem zcc {v : VV} {s : AV} {d : DeedR} (h : (doesA v s d).2.2 = 0) : goodD d := by
 refine ⟨fun hk => ?_, fun hk => ?_, fun hk => ?_⟩
 ·cases hc : inC d.a with
  | true => rfl
  | false =>
   exfalso
   unfold doesA at h
   rcases hk with hk | hk
   ·rw [if_pos hk] at h; unfold loadA at h; rw [hc] at h; exact absurd (show (1 : Int) = 0 from h) (by decide)
   ·rw [if_neg (by omega), if_pos hk] at h; unfold wZ at h; rw [hc] at h; exact absurd (show (1 : Int) = 0 from h) (by decide)
 ·unfold doesA at h
  rw [if_neg (by omega), if_neg (by omega), if_pos hk] at h
  unfold readA at h
  by_cases ht : yt v s d.a = 0
  ·exact zan ht
  ·rw [if_neg ht] at h; exact absurd h ht
 ·by_cases hc : 0 ≤ d.a ∧ d.a < 3
  ·exact hc
  ·exfalso
   unfold doesA at h
   rw [if_neg (by omega), if_neg (by omega), if_neg (by omega), if_neg (by omega), if_neg (by omega), if_neg (by omega), if_neg (by omega), if_neg (by omega), if_pos hk] at h
   unfold recvA at h
   rw [if_neg hc] at h
   exact absurd (show (1 : Int) = 0 from h) (by decide)
theorem RelA.wS {v T : VV} {s : AV} {X : DoX} {i : Int} {g : FileS → FileS} (R : RelA T s X) (h : (pr2 (wS v s i fun d => upS v.f d i (g (getS v.f d i).1))).2.2 = 0) (A : Agr v T (wS v s i fun d => upS v.f d i (g (getS v.f d i).1)).1.rs) : RelA T (wS v s i fun d => upS v.f d i (g (getS v.f d i).1)).1 (X.1, upS X.1.f X.2 i (g (getS X.1.f X.2 i).1)) := by
 have ht : yt v s i = 0 := by
  by_cases ht : yt v s i = 0
  ·exact ht
  ·exfalso
   unfold pr2 Go.Proofs.YtgldgabefiialaaGreat.H.wS at h
   rw [if_neg ht] at h
   exact ht h
 have hr := zan ht
 unfold Go.Proofs.YtgldgabefiialaaGreat.H.wS at A ⊢
 rw [if_pos ht] at A ⊢
 have ha := zao ht A
 obtain ⟨es, _⟩ := wh v s i
 have R' := R.s es
 refine ⟨R'.c, fun m => ?_, R'.l, R'.p, R.t⟩
 show (getS X.1.f (upS X.1.f X.2 i _) m).1 = (getS T.f (upS v.f s.s.f i _) m).1
 rw [zfQ hr rfl, zfQ hr ha, R.f i, ha]
 split
 ·rfl
 ·exact R.f m
theorem RelA.step {v T : VV} {s : AV} {X : DoX} {d : DeedR} (R : RelA T s X) (o : OkX X) (h : (doesA v s d).2.2 = 0) (A : Agr v T (doesA v s d).1.rs) (x : Ext v T) : RelA T (doesA v s d).1 (vG X d).1 := by
 have gd := zcc h
 unfold doesA at h A ⊢
 unfold vG
 by_cases h0 : d.k = 0
 ·simp only [if_pos h0] at h A ⊢
  refine R.s ?_
  unfold loadA; split
  ·split <;> rfl
  ·rfl
 simp only [if_neg h0] at h A ⊢
 by_cases h1 : d.k = 1
 ·simp only [if_pos h1] at h A ⊢
  have hc := gd.c (.inr h1)
  have e : (pr2 (wZ s d.a d.b)).1 = { s with s := { s.s with d := insD s.s.d d.a d.b } } := by unfold wZ; rw [if_pos hc]; rfl
  rw [e]
  refine ⟨fun i hi => ?_, R.f, R.l, R.p, R.t⟩
  show (ze (X.1.c.set d.a.toNat (d.b, 0)) i).1 = (atD (insD s.s.d d.a d.b) i).getD _
  rw [zhw (v := X.1) (f := []) (ts := []) (l := []) (t' := 0) o.c8 hc, zca]
  split
  ·rfl
  ·exact R.c i hi
 simp only [if_neg h1] at h A ⊢
 by_cases h2 : d.k = 2
 ·simp only [if_pos h2] at h A ⊢
  refine R.s ?_
  unfold readA; split <;> exact (wh v s _).1
 simp only [if_neg h2] at h A ⊢
 by_cases h3 : d.k = 3
 ·simp only [if_pos h3] at h A ⊢
  exact R.wS (g := fun f => putF f d.b d.c) h A
 simp only [if_neg h3] at h A ⊢
 by_cases h4 : d.k = 4
 ·simp only [if_pos h4] at h A ⊢
  exact R.wS (g := fun f => (true, f.2)) h A
 simp only [if_neg h4] at h A ⊢
 by_cases h5 : d.k = 5
 ·simp only [if_pos h5] at h A ⊢
  exact R.wS (g := fun f => f0) h A
 simp only [if_neg h5] at h A ⊢
 by_cases h6 : d.k = 6
 ·simp only [if_pos h6] at h A ⊢
  unfold pr2 w7 at h A ⊢
  by_cases hb : inR d.b = true
  ·simp only [if_pos hb] at h A ⊢
   by_cases hta : yt v s d.a = 0
   ·simp only [if_pos hta] at h A ⊢
    obtain ⟨es, _⟩ := wh v s d.a
    have htb : yt v (z7 v s d.a) d.b = 0 := by
     by_cases htb : yt v (z7 v s d.a) d.b = 0
     ·exact htb
     ·exfalso
      unfold Go.Proofs.YtgldgabefiialaaGreat.H.wS at h
      rw [if_neg htb] at h
      exact htb h
    unfold Go.Proofs.YtgldgabefiialaaGreat.H.wS at A ⊢
    simp only [if_pos htb] at A ⊢
    have a1 := zao hta (T := T) fun e he => A e (zeJ e he)
    have a2 := zao htb A
    rw [es] at a2
    obtain ⟨es2, _⟩ := wh v (z7 v s d.a) d.b
    have R' := (R.s es).s es2
    refine ⟨R'.c, fun m => ?_, R'.l, R'.p, R.t⟩
    show (getS X.1.f (renS X.1.f X.2 d.a d.b) m).1 = (getS T.f (renS v.f (z7 v s d.a).s.f d.a d.b) m).1
    rw [es, zeu rfl rfl, zeu a1 a2, R.f d.a, R.f m]
   ·exfalso
    simp only [if_neg hta] at h
    exact hta h
  ·exfalso
   simp only [if_neg hb] at h
   exact absurd (show (1 : Int) = 0 from h) (by decide)
 simp only [if_neg h6] at h A ⊢
 by_cases h7 : d.k = 7
 ·simp only [if_pos h7] at h A ⊢
  exact R.wS (g := fun f => cutF f d.b) h A
 simp only [if_neg h7] at h A ⊢
 by_cases h8 : d.k = 8
 ·simp only [if_pos h8] at h A ⊢
  have hi := gd.l h8
  unfold recvA at h A ⊢
  rw [if_pos hi] at h A ⊢
  by_cases hn : noteE v s 2 d.a = 0
  ·rw [if_pos hn] at h A ⊢
   by_cases hb : atOf v.ts d.a ((ze v.l d.a).1 + s.s.cr d.a) < 0
   ·rw [if_pos hb] at h; exact absurd (show (10 : Int) = 0 from h) (by decide)
   ·rw [if_neg hb] at A ⊢
    obtain ⟨e, e1, e2, e3, e4⟩ := VT hn
    have hl := (A e e1 e4).l e2
    rw [e3] at hl
    have hx := x d.a hi
    have hlt : (ze v.l d.a).1 + s.s.cr d.a < (zW v.ts d.a).size := by
     unfold atOf at hb; split at hb
     ·omega
     ·omega
    have hp := R.l d.a hi
    rw [R.t, if_pos (by omega)]
    refine ⟨?_, ?_, fun i hi' => ?_, fun i hi' => ?_, R.t⟩
    ·have := (StV.step_d s.s d.a).1
     show ∀ i, _ → _ = (atD (s.s.step d.a).d i).getD _
     rw [this]; exact R.c
    ·have := (StV.step_d s.s d.a).2
     show ∀ i, _ = (getS T.f (s.s.step d.a).f i).1
     rw [this]; exact R.f
    ·show (ze (X.1.l.set d.a.toNat ((ze X.1.l d.a).1 + 1, 0)) i).1 = _ + (s.s.step d.a).cr i
     rw [wL hi.1 (by rw [o.k.l3]; omega), StV.step_cr _ hi]
     split
     ·rename_i e; rw [e]; simp only; omega
     ·exact R.l i hi'
    ·show _ + (s.s.step d.a).cr i ≤ _
     rw [StV.step_cr _ hi]
     split
     ·rename_i e; rw [e]; omega
     ·exact R.p i hi'
  ·rw [if_neg hn] at h; exact absurd h hn
 simp only [if_neg h8] at h
 exact absurd (show (1 : Int) = 0 from h) (by decide)
theorem zen {W : Type} {x : Int × W} {d : List (Int × W)} {i : Int} : atD (x :: d) i = if x.1 = i then some x.2 else atD d i := by
 unfold atD
 rw [List.find?_cons]
 by_cases h : x.1 = i
 ·have : (x.1 == i) = true := by simpa using h
  rw [this, if_pos h]; rfl
 ·have : (x.1 == i) = false := by simpa using h
  rw [this, if_neg h]
theorem zkw {W : Type} {d : List (Int × W)} {n : Int} {f : W} (h : atD d n = some f) : ∃ x ∈ d, x.1 = n := by
 induction d with
 | nil => cases h
 | cons x d ih =>
  rw [zen] at h
  by_cases e : x.1 = n
  ·exact ⟨x, by simp, e⟩
  ·rw [if_neg e] at h
   obtain ⟨y, h1, h2⟩ := ih h
   exact ⟨y, by simp [h1], h2⟩
theorem zjs {t i : Int} : ∀ (d c : List (Int × Int)), SortD d → (∀ x ∈ d, 0 ≤ x.1 ∧ x.1 < 8) → c.length = 8 → ze (apC t c d) i = match atD d i with | some x => (x, t) | none => ze c i := by
 intro d
 induction d with
 | nil => intro c _ _ _; rfl
 | cons x d ih =>
  intro c hs hk hc
  obtain ⟨s1, s2⟩ := List.pairwise_cons.1 hs
  have hx := hk x (by simp)
  have := ih (c.set x.1.toNat (x.2, t)) s2 (fun y hy => hk y (by simp [hy])) (by rw [List.length_set]; exact hc)
  show ze (apC t (c.set x.1.toNat (x.2, t)) d) i = _
  rw [this, zen]
  by_cases e : x.1 = i
  ·rw [if_pos e]
   have hn : atD d i = none := by
    cases hd : atD d i with
    | none => rfl
    | some y =>
     obtain ⟨z, h1, h2⟩ := zkw hd
     have := s1 z h1
     omega
   rw [hn]
   simp only
   rw [wL hx.1 (by omega), if_pos e.symm]
  ·rw [if_neg e]
   cases hd : atD d i with
   | some y => rfl
   | none => simp only; rw [wL hx.1 (by omega), if_neg (fun h => e h.symm)]
theorem zkO {t : Int} {ts : List ByteArray} {c : StV} {l : List (Int × Int)} (k : wn ts l) (hc : ∀ i, 0 ≤ c.cr i) (hp : ∀ i, 0 ≤ i ∧ i < 3 → (ze l i).1 + c.cr i ≤ (zW ts i).size) : ∀ j : Nat, j ≤ 3 → ∀ i : Int, 0 ≤ i ∧ i < 3 → ze (landN t ts c l j) i = if i < j ∧ 0 < c.cr i then ((ze l i).1 + c.cr i, t) else ze l i := by
 intro j
 induction j with
 | zero => intro _ i hi; rw [if_neg (by omega)]; rfl
 | succ j ih =>
  intro hj i hi
  have kj := k.land (t := t) (c := c) j
  have hj3 : 0 ≤ ((j : Nat) : Int) ∧ ((j : Nat) : Int) < 3 := by omega
  have ej := ih (by omega) (j : Nat) hj3
  rw [if_neg (by omega)] at ej
  rw [landN]
  by_cases h0 : 0 < c.cr (j : Nat)
  ·rw [if_pos h0]
   have hb : takeB ts (landN t ts c l j) (j : Nat) ((ze (landN t ts c l j) (j : Nat)).1 + c.cr (j : Nat)) = true := by
    unfold takeB
    rw [decide_eq_true_eq, ej]
    have := hp (j : Nat) hj3
    exact ⟨hj3.1, hj3.2, by omega, this⟩
   unfold takeL
   rw [if_pos hb, wL hj3.1 (by rw [kj.l3]; omega), ej]
   by_cases e : i = (j : Nat)
   ·rw [if_pos e, e, if_pos ⟨by omega, h0⟩]
   ·rw [if_neg e, ih (by omega) i hi]
    by_cases h1 : i < (j : Nat) ∧ 0 < c.cr i
    ·rw [if_pos h1, if_pos ⟨by omega, h1.2⟩]
    ·rw [if_neg h1, if_neg (by omega)]
  ·rw [if_neg h0, ih (by omega) i hi]
   by_cases e : i = (j : Nat)
   ·rw [if_neg (by omega), if_neg (by rw [e]; omega)]
   ·by_cases h1 : i < (j : Nat) ∧ 0 < c.cr i
    ·rw [if_pos h1, if_pos ⟨by omega, h1.2⟩]
    ·rw [if_neg h1, if_neg (by omega)]
theorem zjJ {t : Int} {ts : List ByteArray} {c : StV} {l : List (Int × Int)} (k : wn ts l) : ∀ j : Nat, j ≤ 3 → ∀ i : Int, ze (landN t ts c l j) i = ze l i ∨ (ze (landN t ts c l j) i).2 = t := by
 intro j
 induction j with
 | zero => intro _ i; exact .inl rfl
 | succ j ih =>
  intro hj i
  have kj := k.land (t := t) (c := c) j
  rw [landN]
  split
  ·unfold takeL
   split
   ·rw [wL (by omega) (by rw [kj.l3]; omega)]
    split
    ·exact .inr rfl
    ·exact ih (by omega) i
   ·exact ih (by omega) i
  ·exact ih (by omega) i
theorem RelA.land {V : VI} {v : VV} {s : AV} {X : DoX} (R : RelA v s X) (a : AOk v s) (o : VOk V v) : thF (landV v s) = thF (finV X) := by
 have hc : ∀ i, inC i = true → cT (landV v s) i = cT (finV X) i := fun i hi => by
  show Value.int .i64 (ze (apC (v.t + 1) v.c s.s.d) i).1 = .int .i64 (ze X.1.c i).1
  rw [R.c i hi, zjs s.s.d v.c a.sd a.dk o.c8]
  cases atD s.s.d i <;> rfl
 have hf : ∀ i, (yl (landV v s).f i).1 = (getS v.f s.s.f i).1 := fun i => by
  show (yl (apD (v.t + 1) v.f s.s.f) i).1 = _
  rw [zjt s.s.f v.f a.so]
  cases hd : atD s.s.f i with
  | some f => rw [X4 hd]
  | none => rw [X3 hd]
 have hl : ∀ i, 0 ≤ i ∧ i < 3 → lT (landV v s) i = lT (finV X) i := fun i hi => by
  show Value.int .i64 (ze (landN (v.t + 1) v.ts s.s v.l 3) i).1 = .int .i64 (ze X.1.l i).1
  rw [R.l i hi, zkO o.k (fun i => (a.cr i).1) R.p 3 (by omega) i hi]
  have := (a.cr i).1
  split
  ·rfl
  ·congr 1; omega
 have hb : ∀ i, fT (landV v s) i = .bool (getS X.1.f X.2 i).1.1 := fun i => by unfold fT; rw [hf, R.f]
 have hs : ∀ i, sT (landV v s) i = .string (getS X.1.f X.2 i).1.2 := fun i => by unfold sT; rw [hf, R.f]
 unfold thF
 rw [hc 0 rfl, hc 1 rfl, hc 2 rfl, hc 3 rfl, hc 4 rfl, hc 5 rfl, hc 6 rfl, hc 7 rfl, hl 0 (by decide), hl 1 (by decide), hl 2 (by decide), hb, hb, hb, hb, hb, hb, hs, hs, hs, hs, hs, hs]
 rfl
structure SameV (v v' : VV) (k i : Int) : Prop where
 ver : verOf v' k i = verOf v k i
 c : k = 0 → (ze v'.c i).1 = (ze v.c i).1
 f : k = 1 → (yl v'.f i).1 = (yl v.f i).1
 l : k = 2 → (ze v'.l i).1 = (ze v.l i).1
def VerOk (v : VV) : Prop := ∀ k i, verOf v k i ≤ v.t
structure VP (v : VV) : Prop where
 c8 : v.c.length = 8
 f : wK v.f
 k : wn v.ts v.l
theorem VOk.vp {V : VI} {v : VV} (o : VOk V v) : VP v := ⟨o.c8, o.f, o.k⟩
theorem zcR {v : VV} {s : AV} (a : AOk v s) (o : VP v) (k i : Int) : verOf (landV v s) k i = v.t + 1 ∨ SameV v (landV v s) k i := by
 by_cases h0 : k = 0
 ·subst h0
  have h := zjs (t := v.t + 1) (i := i) s.s.d v.c a.sd a.dk o.c8
  have e : ze (landV v s).c i = _ := h
  cases hd : atD s.s.d i with
  | some x => rw [hd] at e; exact .inl (by show (ze (landV v s).c i).2 = _; rw [e])
  | none => rw [hd] at e; exact .inr ⟨by show (ze (landV v s).c i).2 = (ze v.c i).2; rw [e], fun _ => by rw [e], fun e => absurd e (by decide), fun e => absurd e (by decide)⟩
 by_cases h1 : k = 1
 ·subst h1
  have h := zjt (ver := v.t + 1) (i := i) s.s.f v.f a.so
  have e : yl (landV v s).f i = _ := h
  cases hd : atD s.s.f i with
  | some x => rw [hd] at e; exact .inl (by show (yl (landV v s).f i).2 = _; rw [e])
  | none => rw [hd] at e; exact .inr ⟨by show (yl (landV v s).f i).2 = (yl v.f i).2; rw [e], fun e => absurd e (by decide), fun _ => by rw [e], fun e => absurd e (by decide)⟩
 by_cases h2 : k = 2
 ·subst h2
  have h := zjJ (t := v.t + 1) (c := s.s) o.k 3 (by omega) i
  rcases h with h | h
  ·have e : ze (landV v s).l i = ze v.l i := h
   exact .inr ⟨by show (ze (landV v s).l i).2 = (ze v.l i).2; rw [e], fun e => absurd e (by decide), fun e => absurd e (by decide), fun _ => by rw [e]⟩
  ·exact .inl h
 ·refine .inr ⟨?_, fun e => absurd e h0, fun e => absurd e h1, fun e => absurd e h2⟩
  unfold verOf
  rw [if_neg h0, if_neg h0, if_neg h1, if_neg h1, if_neg h2, if_neg h2]
theorem SameV.refl (v : VV) (k i : Int) : SameV v v k i := ⟨rfl, fun _ => rfl, fun _ => rfl, fun _ => rfl⟩
theorem Yu {v : VV} {rs : List RE} : vld v rs = true ↔ ∀ e ∈ rs, verOf v e.1 e.2.1 = e.2.2 := by
 unfold vld; rw [List.all_eq_true]; simp
structure Grow (v : VV) (rs rs' : List RE) : Prop where
 a : ∀ e ∈ rs, e ∈ rs'
 b : ∀ e ∈ rs', e ∈ rs ∨ e.2.2 = verOf v e.1 e.2.1
theorem Grow.refl (v : VV) (rs : List RE) : Grow v rs rs := ⟨fun e h => h, fun e h => .inl h⟩
theorem Grow.trans {v : VV} {a b c : List RE} (h : Grow v a b) (g : Grow v b c) : Grow v a c := ⟨fun e he => g.a e (h.a e he), fun e he => (g.b e he).elim (h.b e) .inr⟩
theorem Grow.note {v : VV} {s : AV} {k i : Int} : Grow v s.rs (noteS v s k i).rs := by
 refine ⟨zfU, fun e he => ?_⟩
 replace he : e ∈ (noteA v s.rs s.st k i).2.1 := he
 have h1 : ∀ {e : RE}, e ∈ s.rs ++ [(k, i, verOf v k i)] → e ∈ s.rs ∨ e.2.2 = verOf v e.1 e.2.1 := fun {e} he => by
  rcases List.mem_append.1 he with he | he
  ·exact .inl he
  ·simp only [List.mem_singleton] at he; subst he; exact .inr rfl
 cases hf : fE s.rs k i with
 | some w => unfold noteA at he; rw [hf] at he; exact .inl he
 | none =>
  unfold noteA at he; rw [hf] at he
  simp only at he
  by_cases hv : verOf v k i > s.st
  ·rw [if_pos hv] at he
   by_cases h2 : vld v s.rs = true
   ·rw [if_pos h2] at he; exact h1 he
   ·rw [if_neg h2] at he; exact .inl he
  ·rw [if_neg hv] at he; exact h1 he
theorem Grow.touch {v : VV} {s : AV} {i : Int} : Grow v s.rs (z7 v s i).rs := by
 unfold z7; split
 ·split
  ·exact .refl _ _
  ·exact .note
 ·exact .refl _ _
theorem Grow.w {v : VV} {s : AV} {i : Int} {F : DFL → DFL} : Grow v s.rs (wS v s i F).1.rs := by
 unfold wS; split <;> exact .touch
theorem Grow.does {v : VV} {s : AV} {d : DeedR} : Grow v s.rs (doesA v s d).1.rs := by
 unfold doesA
 split
 ·unfold loadA; split
  ·split
   ·exact .refl _ _
   ·exact .note
  ·exact .refl _ _
 split
 ·unfold wZ; split <;> exact .refl _ _
 split
 ·unfold readA; split <;> exact .touch
 split
 ·exact .w
 split
 ·exact .w
 split
 ·exact .w
 split
 ·unfold w7; split
  ·split
   ·exact Grow.touch.trans .w
   ·exact .touch
  ·exact .refl _ _
 split
 ·exact .w
 split
 ·unfold recvA; split
  ·split
   ·split <;> exact .note
   ·exact .note
  ·exact .refl _ _
 ·exact .refl _ _
theorem wS_no {v : VV} {s : AV} {i : Int} {F : DFL → DFL} (h : (wS v s i F).2 ≠ 0) : (wS v s i F).1.s = s.s := by
 unfold wS at h ⊢
 by_cases ht : yt v s i = 0
 ·rw [if_pos ht] at h; exact absurd rfl h
 ·rw [if_neg ht]; exact (wh v s i).1
theorem zhm {v : VV} {s : AV} {d : DeedR} (h : (doesA v s d).2.2 ≠ 0) : (doesA v s d).1.s = s.s := by
 unfold doesA at h ⊢
 split at h
 ·rename_i h0
  rw [if_pos h0]
  unfold loadA; split
  ·split <;> rfl
  ·rfl
 rename_i h0; rw [if_neg h0]
 split at h
 ·rename_i h0
  rw [if_pos h0]
  unfold wZ at h ⊢
  by_cases hc : inC d.a = true
  ·rw [if_pos hc] at h; exact absurd rfl h
  ·rw [if_neg hc]; rfl
 rename_i h0; rw [if_neg h0]
 split at h
 ·rename_i h0
  rw [if_pos h0]
  unfold readA; split <;> exact (wh v s _).1
 rename_i h0; rw [if_neg h0]
 split at h
 ·rename_i h0; rw [if_pos h0]; exact wS_no h
 rename_i h0; rw [if_neg h0]
 split at h
 ·rename_i h0; rw [if_pos h0]; exact wS_no h
 rename_i h0; rw [if_neg h0]
 split at h
 ·rename_i h0; rw [if_pos h0]; exact wS_no h
 rename_i h0; rw [if_neg h0]
 split at h
 ·rename_i h0
  rw [if_pos h0]
  unfold w7 at h ⊢
  by_cases hb : inR d.b = true
  ·rw [if_pos hb] at h ⊢
   by_cases ht : yt v s d.a = 0
   ·rw [if_pos ht] at h ⊢; exact (wS_no h).trans (wh v s _).1
   ·rw [if_neg ht]; exact (wh v s _).1
  ·rw [if_neg hb]; rfl
 rename_i h0; rw [if_neg h0]
 split at h
 ·rename_i h0; rw [if_pos h0]; exact wS_no h
 rename_i h0; rw [if_neg h0]
 split at h
 ·rename_i h0
  rw [if_pos h0]
  unfold recvA at h ⊢
  by_cases hi : 0 ≤ d.a ∧ d.a < 3
  ·rw [if_pos hi] at h ⊢
   by_cases hn : noteE v s 2 d.a = 0
   ·rw [if_pos hn] at h ⊢
    by_cases hb : atOf v.ts d.a ((ze v.l d.a).1 + s.s.cr d.a) < 0
    ·rw [if_pos hb]; rfl
    ·rw [if_neg hb] at h; exact absurd rfl h
   ·rw [if_neg hn]; rfl
  ·rw [if_neg hi]
 rename_i h0; rw [if_neg h0]
theorem zbj {v : VV} {s : AV} {k i : Int} (h : noteE v s k i = 9) : vld v (noteS v s k i).rs = false := by
 have ht : (noteA v s.rs s.st k i).1 = false := by
  unfold noteE at h
  cases hb : (noteA v s.rs s.st k i).1 with
  | true => rw [hb] at h; exact absurd (show (0 : Int) = 9 from h) (by decide)
  | false => rfl
 show vld v (noteA v s.rs s.st k i).2.1 = false
 cases hf : fE s.rs k i with
 | some w =>
  unfold noteA at ht ⊢; rw [hf] at ht ⊢
  simp only at ht ⊢
  obtain ⟨e, h1, h2, h3, h4⟩ := zjA hf
  cases hv : vld v s.rs with
  | false => rfl
  | true =>
   have := Yu.1 hv e h1
   rw [h2, h3, h4] at this
   rw [this, beq_self_eq_true] at ht; cases ht
 | none =>
  unfold noteA at ht ⊢; rw [hf] at ht ⊢
  simp only at ht ⊢
  by_cases hv : verOf v k i > s.st
  ·rw [if_pos hv] at ht ⊢
   by_cases h2 : vld v s.rs = true
   ·rw [if_pos h2] at ht; cases ht
   ·rw [if_neg h2]; simpa using h2
  ·rw [if_neg hv] at ht; cases ht
theorem zdA (v : VV) (s : AV) (k i : Int) : noteE v s k i = 0 ∨ noteE v s k i = 9 := by
 unfold noteE; split
 ·exact .inl rfl
 ·exact .inr rfl
theorem zaz {v : VV} {s : AV} {i : Int} (h : yt v s i = 9) : vld v (z7 v s i).rs = false := by
 unfold yt at h
 unfold z7
 by_cases hr : inR i = true
 ·rw [if_pos hr] at h ⊢
  by_cases h2 : (getS v.f s.s.f i).2 = true
  ·rw [if_pos h2] at h; exact absurd h (by decide)
  ·rw [if_neg h2] at h ⊢; exact zbj h
 ·rw [if_neg hr] at h; exact absurd h (by decide)
theorem VY {v : VV} {s : AV} {i : Int} {F : DFL → DFL} (h : (wS v s i F).2 = 9) : vld v (wS v s i F).1.rs = false := by
 unfold wS at h ⊢
 by_cases ht : yt v s i = 0
 ·rw [if_pos ht] at h; exact absurd (show (0 : Int) = 9 from h) (by decide)
 ·rw [if_neg ht] at h ⊢; exact zaz h
theorem ziH {v : VV} {s : AV} {d : DeedR} (h : (doesA v s d).2.2 = 9) : vld v (doesA v s d).1.rs = false := by
 have no : ∀ {x : Int}, x = 9 → x = 0 ∨ x = 1 ∨ x = 10 → False := fun {x} h1 h2 => by omega
 unfold doesA at h ⊢
 split at h
 ·rename_i h0
  rw [if_pos h0]
  unfold loadA at h ⊢
  by_cases hc : inC d.a = true
  ·rw [if_pos hc] at h ⊢
   cases hd : atD s.s.d d.a with
   | some x => rw [hd] at h; exact (no h (.inl rfl)).elim
   | none => rw [hd] at h; exact zbj h
  ·rw [if_neg hc] at h; exact (no h (.inr (.inl rfl))).elim
 rename_i h0; rw [if_neg h0]
 split at h
 ·unfold wZ at h
  by_cases hc : inC d.a = true
  ·rw [if_pos hc] at h; exact (no h (.inl rfl)).elim
  ·rw [if_neg hc] at h; exact (no h (.inr (.inl rfl))).elim
 rename_i h0; rw [if_neg h0]
 split at h
 ·rename_i h0
  rw [if_pos h0]
  unfold readA at h ⊢
  by_cases ht : yt v s d.a = 0
  ·rw [if_pos ht] at h; exact (no h (.inl rfl)).elim
  ·rw [if_neg ht] at h ⊢; exact zaz h
 rename_i h0; rw [if_neg h0]
 split at h
 ·rename_i h0; rw [if_pos h0]; exact VY h
 rename_i h0; rw [if_neg h0]
 split at h
 ·rename_i h0; rw [if_pos h0]; exact VY h
 rename_i h0; rw [if_neg h0]
 split at h
 ·rename_i h0; rw [if_pos h0]; exact VY h
 rename_i h0; rw [if_neg h0]
 split at h
 ·rename_i h0
  rw [if_pos h0]
  unfold w7 at h ⊢
  by_cases hb : inR d.b = true
  ·rw [if_pos hb] at h ⊢
   by_cases ht : yt v s d.a = 0
   ·rw [if_pos ht] at h ⊢; exact VY h
   ·rw [if_neg ht] at h ⊢; exact zaz h
  ·rw [if_neg hb] at h; exact (no h (.inr (.inl rfl))).elim
 rename_i h0; rw [if_neg h0]
 split at h
 ·rename_i h0; rw [if_pos h0]; exact VY h
 rename_i h0; rw [if_neg h0]
 split at h
 ·rename_i h0
  rw [if_pos h0]
  unfold recvA at h ⊢
  by_cases hi : 0 ≤ d.a ∧ d.a < 3
  ·rw [if_pos hi] at h ⊢
   by_cases hn : noteE v s 2 d.a = 0
   ·rw [if_pos hn] at h
    by_cases hb : atOf v.ts d.a ((ze v.l d.a).1 + s.s.cr d.a) < 0
    ·rw [if_pos hb] at h; exact (no h (.inr (.inr rfl))).elim
    ·rw [if_neg hb] at h; exact (no h (.inl rfl)).elim
   ·rw [if_neg hn] at h ⊢; exact zbj h
  ·rw [if_neg hi] at h; exact (no h (.inr (.inl rfl))).elim
 ·exact (no h (.inr (.inl rfl))).elim
theorem AOk.w {v : VV} {s : AV} {i : Int} {F : DFL → DFL} (a : AOk v s) (h : SOk v.f (F s.s.f)) : AOk v (wS v s i F).1 := by
 unfold wS
 obtain ⟨es, _⟩ := wh v s i
 split
 ·exact ⟨h, by show SortD (z7 v s i).s.d; rw [es]; exact a.sd, by show ∀ x ∈ (z7 v s i).s.d, _; rw [es]; exact a.dk, fun j => by
   have : ((z7 v s i).wf (F s.s.f)).s.cr j = s.s.cr j := by show (z7 v s i).s.cr j = _; rw [es]
   rw [this]; exact a.cr j⟩
 ·exact a.re es
theorem AOk.does {v : VV} {s : AV} {d : DeedR} (a : AOk v s) (o : VP v) : AOk v (doesA v s d).1 := by
 unfold doesA
 split
 ·unfold loadA; split
  ·split
   ·exact a
   ·exact a.re rfl
  ·exact a
 split
 ·unfold wZ; split
  ·rename_i h; exact a.store h
  ·exact a
 split
 ·unfold readA; split <;> exact a.re (wh v s _).1
 split
 ·exact a.w (a.so.up (zag (a.so.good _) _ _))
 split
 ·exact a.w (a.so.up (f := (true, (getS v.f s.s.f d.a).1.2)) (Vx (f := (getS v.f s.s.f d.a).1) (a.so.good _)))
 split
 ·exact a.w (a.so.up rfl)
 split
 ·unfold w7; split
  ·split
   ·have es := (wh v s d.a).1
    have a2 : AOk v (z7 v s d.a) := a.re es
    exact a2.w (a2.so.ren _ _)
   ·exact a.re (wh v s _).1
  ·exact a
 split
 ·exact a.w (a.so.up (zaf (a.so.good _) _))
 split
 ·unfold recvA
  by_cases hi : 0 ≤ d.a ∧ d.a < 3
  ·rw [if_pos hi]
   by_cases hn : noteE v s 2 d.a = 0
   ·rw [if_pos hn]
    by_cases hb : atOf v.ts d.a ((ze v.l d.a).1 + s.s.cr d.a) < 0
    ·rw [if_pos hb]; exact a.re rfl
    ·rw [if_neg hb]
     have hp := o.k.place d.a
     have hs := o.k.size d.a
     refine a.recv hi ?_ rfl
     unfold atOf at hb; split at hb
     ·omega
     ·omega
   ·rw [if_neg hn]; exact a.re rfl
  ·rw [if_neg hi]; exact a
 ·exact a
theorem AOk.s0 {v : VV} (o : VP v) {g : Reg4} : AOk v (s0 v g) := ⟨SOk.nil o.f, List.Pairwise.nil, fun x hx => (by cases hx), fun i => by simp only [Go.Proofs.YtgldgabefiialaaGreat.H.s0, StV.z, StV.cr]; (repeat' split) <;> omega⟩
theorem VP.land {v : VV} {s : AV} (o : VP v) : VP (landV v s) := ⟨(zdV _ _ _).trans o.c8, o.f.apD _, o.k.land 3⟩
theorem VP.other {v : VV} (o : VP v) (d : DeedR) : VP (yv v d) := by
 unfold yv; split
 ·exact o.land
 ·exact o
theorem zey {v : VV} (o : VP v) (d : DeedR) : yv v d = v ∨ ((yv v d).t = v.t + 1 ∧ (yv v d).ts = v.ts ∧ ∀ k i, verOf (yv v d) k i = v.t + 1 ∨ SameV v (yv v d) k i) := by
 unfold yv
 split
 ·exact .inr ⟨rfl, rfl, fun k i => zcR ((AOk.s0 o).does o) o k i⟩
 ·exact .inl rfl
theorem VerOk.land {v : VV} {s : AV} (h : VerOk v) (a : AOk v s) (o : VP v) : VerOk (landV v s) := fun k i => by
 have ht : (landV v s).t = v.t + 1 := rfl
 rcases zcR a o k i with e | e
 ·rw [e, ht]; exact Int.le_refl _
 ·rw [e.ver, ht]; have := h k i; omega
theorem VerOk.other {v : VV} (h : VerOk v) (o : VP v) (d : DeedR) : VerOk (yv v d) := by
 rcases zey o d with e | ⟨e1, _, e2⟩
 ·rw [e]; exact h
 ·intro k i
  rcases e2 k i with e | e
  ·rw [e, e1]; exact Int.le_refl _
  ·rw [e.ver, e1]; have := h k i; omega
theorem VP.zero : VP vz := ⟨rfl, wK.zero, wn.zero⟩
theorem VerOk.zero : VerOk vz := fun k i => by
 have hc : (ze vz.c i).2 = 0 := by rw [show vz.c = List.replicate 8 (0, 0) from rfl, zkz]
 have hf : (yl vz.f i).2 = 0 := by
  unfold yl; split
  ·cases h : vz.f[i.toNat]? with
   | none => rfl
   | some x => have := List.eq_of_mem_replicate (List.mem_of_getElem? h); rw [this]; rfl
  ·rfl
 have hl : (ze vz.l i).2 = 0 := by
  unfold ze; split
  ·cases h : vz.l[i.toNat]? with
   | none => rfl
   | some x =>
    have hm := List.mem_of_getElem? h
    simp only [vz, fl0, List.mem_cons, List.not_mem_nil, or_false] at hm
    rcases hm with rfl | rfl | rfl <;> rfl
  ·rfl
 show verOf vz k i ≤ 0
 unfold verOf
 (repeat' split) <;> omega
theorem RR_ok : ∀ (ds : List DeedR) (p : VV × List VV), VP p.1 ∧ VerOk p.1 → VP (ds.foldl stepR p).1 ∧ VerOk (ds.foldl stepR p).1 := by
 intro ds
 induction ds with
 | nil => intro p h; exact h
 | cons d ds ih => intro p h; exact ih (stepR p d) ⟨h.1.other d, h.2.other h.1 d⟩
theorem zcD : ∀ (ds : List DeedR) (X : DoX × Int), OkX X.1 → (∀ d ∈ ds, goodD d) → OkX (ds.foldl (fun p d => vG p.1 d) X).1 := by
 intro ds
 induction ds with
 | nil => intro X o _; exact o
 | cons d ds ih => intro X o h; exact ih _ (o.step d (h d (by simp))) fun y hy => h y (by simp [hy])
structure Inv (v : VV) (s : AV) (ds : List DeedR) : Prop where
 vk : VerOk v
 rk : ∀ e ∈ s.rs, e.2.2 ≤ v.t
 g : ∀ d ∈ ds, goodD d
 r : vld v s.rs = true → ∀ T, OkX (T, []) → Agr v T s.rs → Ext v T → RelA T s (DoR T ds).1
theorem zgm {v : VV} {a b : List RE} (g : Grow v a b) (h : vld v b = true) : vld v a = true := Yu.2 fun e he => Yu.1 h e (g.a e he)
theorem Inv.rk' {v : VV} {s : AV} {ds : List DeedR} (I : Inv v s ds) {rs : List RE} (g : Grow v s.rs rs) : ∀ e ∈ rs, e.2.2 ≤ v.t := fun e he => by
 rcases g.b e he with h | h
 ·exact I.rk e h
 ·rw [h]; exact I.vk _ _
theorem Inv.deed {v : VV} {s : AV} {ds : List DeedR} {d : DeedR} (I : Inv v s ds) (h : (doesA v s d).2.2 = 0) : Inv v (doesA v s d).1 (ds ++ [d]) := by
 have g := Grow.does (v := v) (s := s) (d := d)
 refine ⟨I.vk, I.rk' g, fun x hx => ?_, fun hv T o A x => ?_⟩
 ·rcases List.mem_append.1 hx with hx | hx
  ·exact I.g x hx
  ·simp only [List.mem_singleton] at hx; subst hx; exact zcc h
 ·have R := I.r (zgm g hv) T o (fun e he => A e (g.a e he)) x
  have e : DoR T (ds ++ [d]) = vG (DoR T ds).1 d := by unfold DoR; rw [List.foldl_append]; rfl
  rw [e]
  exact R.step (zcD ds ((T, []), 0) o I.g) h A x
theorem Inv.no {v : VV} {s : AV} {ds : List DeedR} {d : DeedR} (I : Inv v s ds) (h : (doesA v s d).2.2 ≠ 0) : Inv v (doesA v s d).1 ds := by
 have g := Grow.does (v := v) (s := s) (d := d)
 exact ⟨I.vk, I.rk' g, I.g, fun hv T o A x => (I.r (zgm g hv) T o (fun e he => A e (g.a e he)) x).s (zhm h)⟩
theorem Inv.other {v : VV} {s : AV} {ds : List DeedR} (I : Inv v s ds) (o : VP v) (d : DeedR) : Inv (yv v d) s ds := by
 rcases zey o d with e | ⟨e1, e3, e2⟩
 ·rw [e]; exact I
 ·refine ⟨I.vk.other o d, fun e he => by have := I.rk e he; omega, I.g, fun hv T ox A x => ?_⟩
  have same : ∀ e ∈ s.rs, SameV v (yv v d) e.1 e.2.1 := fun e he => by
   rcases e2 e.1 e.2.1 with h | h
   ·have h1 := Yu.1 hv e he
    have h2 := I.rk e he
    omega
   ·exact h
  refine I.r (Yu.2 fun e he => (same e he).ver.symm.trans (Yu.1 hv e he)) T ox (fun e he _ => ?_) fun i hi => ?_
  ·have hs := same e he
   have ha := A e he (Yu.1 hv e he).symm
   exact ⟨fun h => (ha.c h).trans (hs.c h), fun h => (ha.f h).trans (hs.f h), fun h => (ha.l h).trans (hs.l h)⟩
  ·have := x i hi; rw [e3] at this; exact this
theorem zfG {ts : List ByteArray} (h3 : ts.length = 3) (i : Int) (s : ByteArray) (j : Int) : (zW ts j).size ≤ (zW (arrT ts i s) j).size := by
 unfold arrT
 split
 ·rename_i h
  have hi : 0 ≤ i ∧ i < 3 := by
   unfold arrE at h
   split at h
   ·assumption
   ·omega
  rw [zbr h3 hi.1 hi.2]
  split
  ·rename_i e; rw [e, ByteArray.size_append]; omega
  ·omega
 ·omega
theorem Inv.arr {v : VV} {s : AV} {ds : List DeedR} (I : Inv v s ds) (o : VP v) (i : Int) (t : ByteArray) : Inv { v with ts := arrT v.ts i t } s ds :=
 ⟨I.vk, I.rk, I.g, fun hv T ox A x => I.r hv T ox (fun e he hh => ⟨(A e he hh).c, (A e he hh).f, (A e he hh).l⟩) fun j hj => Nat.le_trans (zfG o.k.t3 i t j) (x j hj)⟩
theorem Inv.init {v : VV} (h : VerOk v) (g : Reg4) : Inv v (s0 v g) [] := by
 refine ⟨h, fun e he => (by cases he), fun d hd => (by cases hd), fun _ T o _ _ => ?_⟩
 have cz : ∀ i, (s0 v g).s.cr i = 0 := fun i => cr_z [] [] i
 refine ⟨fun i _ => rfl, fun i => rfl, fun i _ => ?_, fun i _ => ?_, rfl⟩
 ·rw [cz]; show (ze T.l i).1 = _; omega
 ·rw [cz]; have := o.k.place i; show (ze T.l i).1 + 0 ≤ _; have h2 : (ze T.l i).1 ≤ (zW T.ts i).size := this.2; omega
theorem Inv.land {V : VI} {v : VV} {s : AV} {ds : List DeedR} (I : Inv v s ds) (hv : vld v s.rs = true) (a : AOk v s) (o : VOk V v) : thF (landV v s) = thF (finV (DoR v ds).1) := by
 have ox : OkX (v, []) := ⟨o.c8, SOk.nil o.f, o.k⟩
 exact (I.r hv v ox (fun e he _ => ⟨fun _ => rfl, fun _ => rfl, fun _ => rfl⟩) fun i hi => Nat.le_refl _).land a o
theorem zk6 {v T : VV} {s : AV} {X : DoX} {d : DeedR} (R : RelA T s X) (o : OkX X) (h : (doesA v s d).2.2 = 0) (A : Agr v T (doesA v s d).1.rs) (ht : T.ts = v.ts) : (vG X d).2 = (doesA v s d).2.1 := by
 have gd := zcc h
 unfold doesA at h A ⊢
 unfold vG
 by_cases h0 : d.k = 0
 ·simp only [if_pos h0] at h A ⊢
  have hc := gd.c (.inl h0)
  rw [R.c d.a hc]
  unfold loadA at h A ⊢
  rw [if_pos hc] at h A ⊢
  cases hd : atD s.s.d d.a with
  | some x => rfl
  | none =>
   rw [hd] at h A
   replace h : noteE v s 0 d.a = 0 := h
   obtain ⟨e, e1, e2, e3, e4⟩ := VT h
   have hv := (A e e1 e4).c e2
   rw [e3] at hv
   show (ze T.c d.a).1 = if noteE v s 0 d.a = 0 then _ else _
   rw [if_pos h]; exact hv
 simp only [if_neg h0] at h A ⊢
 by_cases h1 : d.k = 1
 ·simp only [if_pos h1] at h A ⊢; rfl
 simp only [if_neg h1] at h A ⊢
 by_cases h2 : d.k = 2
 ·simp only [if_pos h2] at h A ⊢
  unfold readA at h A ⊢
  by_cases hta : yt v s d.a = 0
  ·rw [if_pos hta] at A ⊢
   show atF (getS X.1.f X.2 d.a).1 d.b = atF (getS v.f s.s.f d.a).1 d.b
   rw [R.f d.a, zao hta A]
  ·rw [if_neg hta] at h; exact absurd h hta
 simp only [if_neg h2] at h A ⊢
 by_cases h3 : d.k = 3
 ·simp only [if_pos h3]; rfl
 simp only [if_neg h3] at h A ⊢
 by_cases h4 : d.k = 4
 ·simp only [if_pos h4]; rfl
 simp only [if_neg h4] at h A ⊢
 by_cases h5 : d.k = 5
 ·simp only [if_pos h5]; rfl
 simp only [if_neg h5] at h A ⊢
 by_cases h6 : d.k = 6
 ·simp only [if_pos h6]; rfl
 simp only [if_neg h6] at h A ⊢
 by_cases h7 : d.k = 7
 ·simp only [if_pos h7]; rfl
 simp only [if_neg h7] at h A ⊢
 by_cases h8 : d.k = 8
 ·simp only [if_pos h8] at h A ⊢
  have hi := gd.l h8
  unfold recvA at h A ⊢
  rw [if_pos hi] at h A ⊢
  by_cases hn : noteE v s 2 d.a = 0
  ·rw [if_pos hn] at h A ⊢
   by_cases hb : atOf v.ts d.a ((ze v.l d.a).1 + s.s.cr d.a) < 0
   ·rw [if_pos hb] at h; exact absurd (show (10 : Int) = 0 from h) (by decide)
   ·rw [if_neg hb] at A ⊢
    obtain ⟨e, e1, e2, e3, e4⟩ := VT hn
    have hl := (A e e1 e4).l e2
    rw [e3] at hl
    have hp := R.l d.a hi
    have hpp : (ze X.1.l d.a).1 = (ze v.l d.a).1 + s.s.cr d.a := by rw [hp, hl]
    have hx : X.1.ts = v.ts := R.t.trans ht
    rw [← hpp] at hb ⊢
    have hlt : (ze X.1.l d.a).1 < (zW v.ts d.a).size := by
     unfold atOf at hb; split at hb <;> omega
    have h0p := (o.k.place d.a).1
    rw [hx, if_pos hlt]
    show x4 _ _ = atOf _ _ _
    unfold atOf
    rw [if_pos ⟨hi.1, hi.2, h0p, hlt⟩]
  ·rw [if_neg hn] at h; exact absurd h hn
 simp only [if_neg h8] at h
 exact absurd (show (1 : Int) = 0 from h) (by decide)
theorem wS_e {v : VV} {s : AV} {i : Int} {F : DFL → DFL} : (wS v s i F).2 = yt v s i := by
 unfold wS; split
 ·rename_i h; exact h.symm
 ·rfl
theorem zaP {v : VV} {s : AV} {i : Int} : (inR i = true → yt v s i = 0 ∨ yt v s i = 9) ∧ (inR i = false → yt v s i = 1) := by
 refine ⟨fun h => ?_, fun h => ?_⟩
 ·unfold yt; rw [if_pos h]; split
  ·exact .inl rfl
  ·exact zdA _ _ _ _
 ·unfold yt; rw [if_neg (by rw [h]; decide)]
def goodB (d : DeedR) : Bool :=
 if d.k = 0 ∨ d.k = 1 then inC d.a else if d.k = 6 then inR d.a && inR d.b else if d.k = 8 then decide (0 ≤ d.a ∧ d.a < 3) else if d.k = 2 ∨ d.k = 3 ∨ d.k = 4 ∨ d.k = 5 ∨ d.k = 7 then inR d.a else false
theorem zjy {v : VV} {s : AV} {d : DeedR} (g : goodB d = true) : (doesA v s d).2.2 = 0 ∨ (doesA v s d).2.2 = 9 ∨ (doesA v s d).2.2 = 10 ∧ d.k = 8 := by
 have two : ∀ {x : Int}, x = 0 ∨ x = 9 → x = 0 ∨ x = 9 ∨ x = 10 ∧ d.k = 8 := fun h => h.elim .inl fun h => .inr (.inl h)
 unfold goodB at g
 by_cases h0 : d.k = 0
 ·rw [if_pos (.inl h0)] at g
  unfold doesA
  simp only [if_pos h0]
  unfold loadA; rw [if_pos g]
  cases atD s.s.d d.a with
  | some x => exact .inl rfl
  | none => exact two (zdA _ _ _ _)
 by_cases h1 : d.k = 1
 ·rw [if_pos (.inr h1)] at g
  unfold doesA
  simp only [if_neg h0, if_pos h1]
  refine .inl ?_
  unfold wZ; rw [if_pos g]; rfl
 rw [if_neg (by omega)] at g
 by_cases h6 : d.k = 6
 ·rw [if_pos h6, Bool.and_eq_true] at g
  unfold doesA
  simp only [if_neg h0, if_neg h1, if_neg (show ¬ d.k = 2 by omega), if_neg (show ¬ d.k = 3 by omega), if_neg (show ¬ d.k = 4 by omega), if_neg (show ¬ d.k = 5 by omega), if_pos h6]
  unfold pr2 w7
  rw [if_pos g.2]
  split
  ·show (wS _ _ _ _).2 = 0 ∨ _
   rw [wS_e]; exact two (zaP.1 g.2)
  ·exact two (zaP.1 g.1)
 rw [if_neg h6] at g
 by_cases h8 : d.k = 8
 ·rw [if_pos h8, decide_eq_true_eq] at g
  unfold doesA
  simp only [if_neg h0, if_neg h1, if_neg (show ¬ d.k = 2 by omega), if_neg (show ¬ d.k = 3 by omega), if_neg (show ¬ d.k = 4 by omega), if_neg (show ¬ d.k = 5 by omega), if_neg h6, if_neg (show ¬ d.k = 7 by omega), if_pos h8]
  unfold recvA; rw [if_pos g]
  by_cases hn : noteE v s 2 d.a = 0
  ·rw [if_pos hn]; split
   ·exact .inr (.inr ⟨rfl, h8⟩)
   ·exact .inl rfl
  ·rw [if_neg hn]; exact two (zdA _ _ _ _)
 rw [if_neg h8] at g
 by_cases hk : d.k = 2 ∨ d.k = 3 ∨ d.k = 4 ∨ d.k = 5 ∨ d.k = 7
 ·rw [if_pos hk] at g
  have te := two (zaP (v := v) (s := s).1 g)
  rcases hk with h | h | h | h | h
  ·unfold doesA
   simp only [if_neg h0, if_neg h1, if_pos h]
   unfold readA; split
   ·exact .inl rfl
   ·exact te
  ·have e : (doesA v s d).2.2 = yt v s d.a := by
    unfold doesA; rw [if_neg h0, if_neg h1, if_neg (by omega), if_pos h]; exact wS_e
   rw [e]; exact te
  ·have e : (doesA v s d).2.2 = yt v s d.a := by
    unfold doesA; rw [if_neg h0, if_neg h1, if_neg (by omega), if_neg (by omega), if_pos h]; exact wS_e
   rw [e]; exact te
  ·have e : (doesA v s d).2.2 = yt v s d.a := by
    unfold doesA; rw [if_neg h0, if_neg h1, if_neg (by omega), if_neg (by omega), if_neg (by omega), if_pos h]; exact wS_e
   rw [e]; exact te
  ·have e : (doesA v s d).2.2 = yt v s d.a := by
    unfold doesA; rw [if_neg h0, if_neg h1, if_neg (by omega), if_neg (by omega), if_neg (by omega), if_neg (by omega), if_neg h6, if_pos h]; exact wS_e
   rw [e]; exact te
 ·rw [if_neg hk] at g; cases g
theorem zkD {v : VV} {s : AV} {d : DeedR} (g : goodB d = false) : (doesA v s d).2.2 = 1 := by
 unfold goodB at g
 by_cases h0 : d.k = 0
 ·rw [if_pos (.inl h0)] at g
  unfold doesA; rw [if_pos h0]; unfold loadA; rw [g]; rfl
 by_cases h1 : d.k = 1
 ·rw [if_pos (.inr h1)] at g
  unfold doesA; rw [if_neg h0, if_pos h1]; unfold wZ; rw [g]; rfl
 rw [if_neg (by omega)] at g
 by_cases h6 : d.k = 6
 ·rw [if_pos h6] at g
  unfold doesA
  rw [if_neg h0, if_neg h1, if_neg (by omega), if_neg (by omega), if_neg (by omega), if_neg (by omega), if_pos h6]
  unfold pr2 w7
  by_cases hb : inR d.b = true
  ·rw [if_pos hb]
   have ha : inR d.a = false := by rw [hb, Bool.and_true] at g; exact g
   have ht := zaP (v := v) (s := s).2 ha
   rw [if_neg (by rw [ht]; decide)]
   exact ht
  ·rw [if_neg hb]
 rw [if_neg h6] at g
 by_cases h8 : d.k = 8
 ·rw [if_pos h8, decide_eq_false_iff_not] at g
  unfold doesA
  rw [if_neg h0, if_neg h1, if_neg (by omega), if_neg (by omega), if_neg (by omega), if_neg (by omega), if_neg h6, if_neg (by omega), if_pos h8]
  unfold recvA; rw [if_neg g]
 rw [if_neg h8] at g
 by_cases hk : d.k = 2 ∨ d.k = 3 ∨ d.k = 4 ∨ d.k = 5 ∨ d.k = 7
 ·rw [if_pos hk] at g
  have ht := zaP (v := v) (s := s).2 g
  rcases hk with h | h | h | h | h
  ·unfold doesA
   rw [if_neg h0, if_neg h1, if_pos h]
   unfold readA; rw [if_neg (by rw [ht]; decide)]; exact ht
  ·unfold doesA; rw [if_neg h0, if_neg h1, if_neg (by omega), if_pos h]; exact wS_e.trans ht
  ·unfold doesA; rw [if_neg h0, if_neg h1, if_neg (by omega), if_neg (by omega), if_pos h]; exact wS_e.trans ht
  ·unfold doesA; rw [if_neg h0, if_neg h1, if_neg (by omega), if_neg (by omega), if_neg (by omega), if_pos h]; exact wS_e.trans ht
  ·unfold doesA; rw [if_neg h0, if_neg h1, if_neg (by omega), if_neg (by omega), if_neg (by omega), if_neg (by omega), if_neg h6, if_pos h]; exact wS_e.trans ht
 ·unfold doesA
  rw [if_neg h0, if_neg h1, if_neg (fun h => hk (.inl h)), if_neg (fun h => hk (.inr (.inl h))), if_neg (fun h => hk (.inr (.inr (.inl h)))), if_neg (fun h => hk (.inr (.inr (.inr (.inl h))))), if_neg h6, if_neg (fun h => hk (.inr (.inr (.inr (.inr h))))), if_neg h8]
theorem zkb {v T : VV} {s : AV} {X : DoX} {d : DeedR} (R : RelA T s X) (g : goodB d = true) (h : (doesA v s d).2.2 = 10) (A : Agr v T (doesA v s d).1.rs) (ht : T.ts = v.ts) (o : OkX X) : (vG X d).2 = -1 := by
 have h8 : d.k = 8 := by
  rcases zjy (v := v) (s := s) g with e | e | e
  ·omega
  ·omega
  ·exact e.2
 have hi : 0 ≤ d.a ∧ d.a < 3 := by
  unfold goodB at g
  rw [if_neg (by omega), if_neg (by omega), if_pos h8] at g
  exact of_decide_eq_true g
 have ed : doesA v s d = recvA v s d.a := by
  unfold doesA
  rw [if_neg (by omega), if_neg (by omega), if_neg (by omega), if_neg (by omega), if_neg (by omega), if_neg (by omega), if_neg (by omega), if_neg (by omega), if_pos h8]
 have es : vG X d = if (ze X.1.l d.a).1 < (zW X.1.ts d.a).size then ((putP X.1 d.a ((ze X.1.l d.a).1 + 1), X.2), x4 (zW X.1.ts d.a) (ze X.1.l d.a).1.toNat) else (X, -1) := by
  unfold vG
  rw [if_neg (by omega), if_neg (by omega), if_neg (by omega), if_neg (by omega), if_neg (by omega), if_neg (by omega), if_neg (by omega), if_neg (by omega), if_pos h8]
 rw [ed] at h A
 unfold recvA at h A
 rw [if_pos hi] at h A
 by_cases hn : noteE v s 2 d.a = 0
 ·rw [if_pos hn] at h A
  by_cases hb : atOf v.ts d.a ((ze v.l d.a).1 + s.s.cr d.a) < 0
  ·rw [if_pos hb] at A
   obtain ⟨e, e1, e2, e3, e4⟩ := VT hn
   have hl := (A e e1 e4).l e2
   rw [e3] at hl
   have hp := R.l d.a hi
   rw [hl] at hp
   have h0p := (o.k.place d.a).1
   rw [← hp] at hb
   have hx : X.1.ts = v.ts := R.t.trans ht
   rw [es, hx, if_neg]
   intro hlt
   have hbb := Y9 (zW v.ts d.a) (ze X.1.l d.a).1.toNat
   unfold atOf at hb
   rw [if_pos ⟨hi.1, hi.2, h0p, hlt⟩] at hb
   omega
  ·rw [if_neg hb] at h; exact absurd (show (0 : Int) = 10 from h) (by decide)
 ·rw [if_neg hn] at h
  have := zdA v s 2 d.a
  replace h : noteE v s 2 d.a = 10 := h
  omega
def StpA (v : VV) (s s' : AV) : Prop :=
 (s'.st = s.st ∧ ∀ e ∈ s'.rs, e ∈ s.rs ∨ (e.2.2 = verOf v e.1 e.2.1 ∧ e.2.2 ≤ s.st)) ∨
 (s'.st = v.t ∧ vld v s.rs = true ∧ ∀ e ∈ s'.rs, e ∈ s.rs ∨ e.2.2 = verOf v e.1 e.2.1)
theorem StpA.refl (v : VV) (s : AV) : StpA v s s := .inl ⟨rfl, fun e h => .inl h⟩
theorem StpA.trans {v : VV} {s s1 s2 : AV} (h : StpA v s s1) (g : StpA v s1 s2) (sub : ∀ e ∈ s.rs, e ∈ s1.rs) : StpA v s s2 := by
 rcases h with ⟨a1, a2⟩ | ⟨a1, a2, a3⟩ <;> rcases g with ⟨b1, b2⟩ | ⟨b1, b2, b3⟩
 ·refine .inl ⟨b1.trans a1, fun e he => ?_⟩
  rcases b2 e he with h | ⟨h, h'⟩
  ·exact a2 e h
  ·exact .inr ⟨h, by rw [← a1]; exact h'⟩
 ·refine .inr ⟨b1, Yu.2 fun e he => Yu.1 b2 e (sub e he), fun e he => ?_⟩
  rcases b3 e he with h | h
  ·exact (a2 e h).elim .inl fun h => .inr h.1
  ·exact .inr h
 ·refine .inr ⟨b1.trans a1, a2, fun e he => ?_⟩
  rcases b2 e he with h | ⟨h, h'⟩
  ·exact a3 e h
  ·exact .inr h
 ·refine .inr ⟨b1, a2, fun e he => ?_⟩
  rcases b3 e he with h | h
  ·exact a3 e h
  ·exact .inr h
theorem StpA.note {v : VV} {s : AV} {k i : Int} : StpA v s (noteS v s k i) := by
 cases hf : fE s.rs k i with
 | some w =>
  have e : noteS v s k i = s := by unfold noteS noteA; rw [hf]
  rw [e]; exact .refl v s
 | none =>
  have app : ∀ {e : RE}, e ∈ s.rs ++ [(k, i, verOf v k i)] → e ∈ s.rs ∨ e = (k, i, verOf v k i) := fun {e} he => by
   rcases List.mem_append.1 he with he | he
   ·exact .inl he
   ·simp only [List.mem_singleton] at he; exact .inr he
  by_cases hv : verOf v k i > s.st
  ·by_cases h2 : vld v s.rs = true
   ·have e : noteS v s k i = { s with rs := s.rs ++ [(k, i, verOf v k i)], st := v.t } := by unfold noteS noteA; rw [hf]; simp only; rw [if_pos hv, if_pos h2]
    rw [e]
    refine .inr ⟨rfl, h2, fun e he => ?_⟩
    rcases app he with h | h
    ·exact .inl h
    ·subst h; exact .inr rfl
   ·have e : noteS v s k i = s := by unfold noteS noteA; rw [hf]; simp only; rw [if_pos hv, if_neg h2]
    rw [e]; exact .refl v s
  ·have e : noteS v s k i = { s with rs := s.rs ++ [(k, i, verOf v k i)] } := by unfold noteS noteA; rw [hf]; simp only; rw [if_neg hv]
   rw [e]
   refine .inl ⟨rfl, fun e he => ?_⟩
   rcases app he with h | h
   ·exact .inl h
   ·subst h; exact .inr ⟨rfl, by show verOf v k i ≤ s.st; omega⟩
theorem StpA.touch {v : VV} {s : AV} {i : Int} : StpA v s (z7 v s i) := by
 unfold z7; split
 ·split
  ·exact .refl _ _
  ·exact .note
 ·exact .refl _ _
theorem StpA.w {v : VV} {s : AV} {i : Int} {F : DFL → DFL} : StpA v s (wS v s i F).1 := by
 unfold wS; split
 ·exact StpA.touch (v := v) (s := s) (i := i)
 ·exact .touch
theorem StpA.does {v : VV} {s : AV} {d : DeedR} : StpA v s (doesA v s d).1 := by
 unfold doesA
 split
 ·unfold loadA; split
  ·split
   ·exact .refl _ _
   ·exact .note
  ·exact .refl _ _
 split
 ·unfold wZ; split <;> exact .refl v s
 split
 ·unfold readA; split <;> exact .touch
 split
 ·exact .w
 split
 ·exact .w
 split
 ·exact .w
 split
 ·unfold w7; split
  ·split
   ·exact StpA.touch.trans .w zeJ
   ·exact .touch
  ·exact .refl _ _
 split
 ·exact .w
 split
 ·unfold recvA; split
  ·split
   ·split
    ·exact .note
    ·exact StpA.note (v := v) (s := s) (k := 2) (i := d.a)
   ·exact .note
  ·exact .refl _ _
 ·exact .refl _ _
theorem YO (v : VV) (d : DeedR) : yv v d = landV v (doesA v (s0 v ⟨0, 0, 0, 0⟩) d).1 := by
 unfold yv; rw [if_pos (zk9 rfl)]
structure Hist (v : VV) (ws : List VV) : Prop where
 n : (ws.length : Int) = v.t + 1
 p : ∀ (q : Nat) (w : VV), ws[q]? = some w → VP w
 m : ∀ (q : Nat) (w : VV), ws[q]? = some w → ∀ k i, verOf v k i ≤ q → SameV w v k i
 x : ∀ (q : Nat) (w : VV), ws[q]? = some w → ∀ i, (zW w.ts i).size ≤ (zW v.ts i).size
theorem SameV.trans {a b c : VV} {k i : Int} (h : SameV a b k i) (g : SameV b c k i) : SameV a c k i := ⟨g.ver.trans h.ver, fun e => (g.c e).trans (h.c e), fun e => (g.f e).trans (h.f e), fun e => (g.l e).trans (h.l e)⟩
theorem Hist.other {v : VV} {ws : List VV} (H : Hist v ws) (o : VP v) (d : DeedR) : Hist (yv v d) (ws ++ [yv v d]) := by
 have ht : (yv v d).t = v.t + 1 := by rw [YO]; rfl
 have hn := H.n
 refine ⟨by rw [List.length_append, ht]; simp only [List.length_cons, List.length_nil]; omega, fun q w hq => ?_, fun q w hq k i hv => ?_, fun q w hq i => ?_⟩
 ·by_cases h : q < ws.length
  ·rw [List.getElem?_append_left h] at hq; exact H.p q w hq
  ·rw [List.getElem?_append_right (by omega)] at hq
   have h1 := List.mem_of_getElem? hq
   simp only [List.mem_singleton] at h1
   subst h1; exact o.other d
 ·by_cases h : q < ws.length
  ·rw [List.getElem?_append_left h] at hq
   rcases zcR ((AOk.s0 o).does (d := d) o) o k i with e | e
   ·rw [← YO v d] at e
    omega
   ·rw [← YO v d] at e
    exact (H.m q w hq k i (by rw [← e.ver]; exact hv)).trans e
  ·rw [List.getElem?_append_right (by omega)] at hq
   have h1 := List.mem_of_getElem? hq
   simp only [List.mem_singleton] at h1
   subst h1; exact .refl _ _ _
 ·have hts : (yv v d).ts = v.ts := by rw [YO]; rfl
  rw [hts]
  by_cases h : q < ws.length
  ·rw [List.getElem?_append_left h] at hq; exact H.x q w hq i
  ·rw [List.getElem?_append_right (by omega)] at hq
   have h1 := List.mem_of_getElem? hq
   simp only [List.mem_singleton] at h1
   subst h1; rw [hts]; exact Nat.le_refl _
structure InvR (v : VV) (s : AV) (ws : List VV) (ds : List DeedR) : Prop where
 H : Hist v ws
 vk : VerOk v
 s0 : 0 ≤ s.st ∧ s.st ≤ v.t
 e : ∀ w, ws[s.st.toNat]? = some w → ∀ e ∈ s.rs, e.2.2 = verOf w e.1 e.2.1 ∧ e.2.2 ≤ s.st
 g : ∀ d ∈ ds, goodD d
 r : ∀ w, ws[s.st.toNat]? = some w → ∀ T, OkX (T, []) → (∀ e ∈ s.rs, AgrE w T e) → Ext v T → RelA T s (DoR T ds).1
theorem Hist.get {v : VV} {ws : List VV} (H : Hist v ws) {q : Int} (h0 : 0 ≤ q) (h1 : q ≤ v.t) : ∃ w, ws[q.toNat]? = some w := by
 have hn := H.n
 exact ⟨_, List.getElem?_eq_getElem (by omega)⟩
theorem InvR.agr {v : VV} {s' : AV} {ws : List VV} {w' T : VV} (H : Hist v ws) (hw : ws[s'.st.toNat]? = some w') (h0 : 0 ≤ s'.st) (he : ∀ e ∈ s'.rs, e.2.2 = verOf v e.1 e.2.1 → e.2.2 ≤ s'.st) (A : ∀ e ∈ s'.rs, AgrE w' T e) : Agr v T s'.rs := fun e hm hv => by
 have hs := H.m _ w' hw e.1 e.2.1 (by have := he e hm hv; omega)
 have ha := A e hm
 exact ⟨fun h => (ha.c h).trans (hs.c h).symm, fun h => (ha.f h).trans (hs.f h).symm, fun h => (ha.l h).trans (hs.l h).symm⟩
theorem InvR.step {v : VV} {s : AV} {ws : List VV} {ds : List DeedR} (I : InvR v s ws ds) {s' : AV} (p : StpA v s s') (sub : ∀ e ∈ s.rs, e ∈ s'.rs) :
  (0 ≤ s'.st ∧ s'.st ≤ v.t) ∧ (∀ w', ws[s'.st.toNat]? = some w' → (∀ e ∈ s'.rs, e.2.2 = verOf w' e.1 e.2.1 ∧ e.2.2 ≤ s'.st) ∧ ∀ T, OkX (T, []) → (∀ e ∈ s'.rs, AgrE w' T e) → Ext v T → RelA T s (DoR T ds).1) := by
 have hn := I.H.n
 have h00 := I.s0
 rcases p with ⟨a1, a2⟩ | ⟨a1, a2, a3⟩
 ·rw [a1]
  refine ⟨I.s0, fun w' hw => ⟨fun e he => ?_, fun T o A x => I.r w' hw T o (fun e he => A e (sub e he)) x⟩⟩
  rcases a2 e he with h | ⟨h1, h2⟩
  ·exact I.e w' hw e h
  ·have hs := I.H.m _ w' hw e.1 e.2.1 (by rw [← h1]; omega)
   exact ⟨by rw [h1, hs.ver], h2⟩
 ·rw [a1]
  refine ⟨⟨by omega, Int.le_refl _⟩, fun w' hw => ?_⟩
  have same : ∀ k i, SameV w' v k i := fun k i => I.H.m _ w' hw k i (by have := I.vk k i; omega)
  have ev : ∀ e ∈ s'.rs, e.2.2 = verOf v e.1 e.2.1 := fun e he => (a3 e he).elim (fun h => (Yu.1 a2 e h).symm) id
  refine ⟨fun e he => ⟨by rw [ev e he, (same _ _).ver], by rw [ev e he]; exact I.vk _ _⟩, fun T o A x => ?_⟩
  obtain ⟨w, hw0⟩ := I.H.get I.s0.1 I.s0.2
  refine I.r w hw0 T o (fun e he => ?_) x
  have h1 := I.e w hw0 e he
  have h2 := I.H.m _ w hw0 e.1 e.2.1 (by rw [Yu.1 a2 e he]; omega)
  have h3 := same e.1 e.2.1
  have ha := A e (sub e he)
  exact ⟨fun h => (ha.c h).trans ((h3.c h).symm.trans (h2.c h)), fun h => (ha.f h).trans ((h3.f h).symm.trans (h2.f h)), fun h => (ha.l h).trans ((h3.l h).symm.trans (h2.l h))⟩
theorem InvR.deed {v : VV} {s : AV} {ws : List VV} {ds : List DeedR} {d : DeedR} (I : InvR v s ws ds) (h : (doesA v s d).2.2 = 0) : InvR v (doesA v s d).1 ws (ds ++ [d]) := by
 have gr := Grow.does (v := v) (s := s) (d := d)
 obtain ⟨p1, p2⟩ := I.step (StpA.does (v := v) (s := s) (d := d)) gr.a
 refine ⟨I.H, I.vk, p1, fun w' hw => (p2 w' hw).1, fun x hx => ?_, fun w' hw T o A x => ?_⟩
 ·rcases List.mem_append.1 hx with hx | hx
  ·exact I.g x hx
  ·simp only [List.mem_singleton] at hx; subst hx; exact zcc h
 ·have R := (p2 w' hw).2 T o A x
  have e : DoR T (ds ++ [d]) = vG (DoR T ds).1 d := by unfold DoR; rw [List.foldl_append]; rfl
  rw [e]
  exact R.step (zcD ds ((T, []), 0) o I.g) h (InvR.agr I.H hw p1.1 (fun e he _ => ((p2 w' hw).1 e he).2) A) x
theorem InvR.no {v : VV} {s : AV} {ws : List VV} {ds : List DeedR} {d : DeedR} (I : InvR v s ws ds) (h : (doesA v s d).2.2 ≠ 0) : InvR v (doesA v s d).1 ws ds := by
 have gr := Grow.does (v := v) (s := s) (d := d)
 obtain ⟨p1, p2⟩ := I.step (StpA.does (v := v) (s := s) (d := d)) gr.a
 exact ⟨I.H, I.vk, p1, fun w' hw => (p2 w' hw).1, I.g, fun w' hw T o A x => ((p2 w' hw).2 T o A x).s (zhm h)⟩
theorem InvR.other {v : VV} {s : AV} {ws : List VV} {ds : List DeedR} (I : InvR v s ws ds) (o : VP v) (d : DeedR) : InvR (yv v d) s (ws ++ [yv v d]) ds := by
 have hn := I.H.n
 have h00 := I.s0
 have ht : (yv v d).t = v.t + 1 := by rw [YO]; rfl
 have hts : (yv v d).ts = v.ts := by rw [YO]; rfl
 have hg : ∀ {w}, (ws ++ [yv v d])[s.st.toNat]? = some w → ws[s.st.toNat]? = some w := fun {w} h => by rw [List.getElem?_append_left (by omega)] at h; exact h
 exact ⟨I.H.other o d, I.vk.other o d, ⟨h00.1, by omega⟩, fun w hw => I.e w (hg hw), I.g, fun w hw T ox A x => I.r w (hg hw) T ox A fun i hi => by have := x i hi; rw [hts] at this; exact this⟩
theorem InvR.arr {v : VV} {s : AV} {ws : List VV} {ds : List DeedR} (I : InvR v s ws ds) (o : VP v) (i : Int) (t : ByteArray) : InvR { v with ts := arrT v.ts i t } s ws ds :=
 ⟨⟨I.H.n, I.H.p, fun q w hq k j hv => ⟨(I.H.m q w hq k j hv).ver, (I.H.m q w hq k j hv).c, (I.H.m q w hq k j hv).f, (I.H.m q w hq k j hv).l⟩, fun q w hq j => Nat.le_trans (I.H.x q w hq j) (zfG o.k.t3 i t j)⟩, I.vk, I.s0, I.e, I.g, fun w hw T ox A x => I.r w hw T ox A fun j hj => Nat.le_trans (zfG o.k.t3 i t j) (x j hj)⟩
theorem Hist.ok {v : VV} {ws : List VV} (H : Hist v ws) (o : VP v) {q : Nat} {w : VV} (hq : ws[q]? = some w) : OkX ({ w with ts := v.ts }, []) := by
 have pw := H.p q w hq
 refine ⟨pw.c8, SOk.nil pw.f, ⟨o.k.t3, pw.k.l3, o.k.size, fun i => ?_⟩⟩
 have h1 := pw.k.place i
 have h2 := H.x q w hq i
 exact ⟨h1.1, by show (ze w.l i).1 ≤ _; have h3 : (ze w.l i).1 ≤ (zW w.ts i).size := h1.2; show _ ≤ ((zW v.ts i).size : Int); omega⟩
theorem InvR.ans {v : VV} {s : AV} {ws : List VV} {ds : List DeedR} {d : DeedR} (I : InvR v s ws ds) (o : VP v) {w : VV} (hw : ws[(doesA v s d).1.st.toNat]? = some w) (g : goodB d = true) :
  ((doesA v s d).2.2 = 0 → (DoR { w with ts := v.ts } (ds ++ [d])).2 = (doesA v s d).2.1) ∧ ((doesA v s d).2.2 = 10 → (DoR { w with ts := v.ts } (ds ++ [d])).2 = -1) := by
 have gr := Grow.does (v := v) (s := s) (d := d)
 obtain ⟨p1, p2⟩ := I.step (StpA.does (v := v) (s := s) (d := d)) gr.a
 have ox := I.H.ok o hw
 have aw : ∀ e ∈ (doesA v s d).1.rs, AgrE w { w with ts := v.ts } e := fun e _ => ⟨fun _ => rfl, fun _ => rfl, fun _ => rfl⟩
 have R := (p2 w hw).2 _ ox aw (fun i hi => Nat.le_refl _)
 have A : Agr v { w with ts := v.ts } (doesA v s d).1.rs := InvR.agr I.H hw p1.1 (fun e he _ => ((p2 w hw).1 e he).2) fun e he => aw e he
 have oX := zcD ds (({ w with ts := v.ts }, []), 0) ox I.g
 have e : DoR { w with ts := v.ts } (ds ++ [d]) = vG (DoR { w with ts := v.ts } ds).1 d := by unfold DoR; rw [List.foldl_append]; rfl
 rw [e]
 exact ⟨fun h => zk6 R oX h A rfl, fun h => zkb R g h A rfl oX⟩
theorem zjT {v T : VV} {g : Reg4} (o : OkX (T, [])) : RelA T (Go.Proofs.YtgldgabefiialaaGreat.H.s0 v g) (DoR T []).1 := by
 have cz : ∀ i, (Go.Proofs.YtgldgabefiialaaGreat.H.s0 v g).s.cr i = 0 := fun i => cr_z [] [] i
 refine ⟨fun i _ => rfl, fun i => rfl, fun i _ => ?_, fun i _ => ?_, rfl⟩
 ·rw [cz]; show (ze T.l i).1 = _; omega
 ·rw [cz]; have := o.k.place i; show (ze T.l i).1 + 0 ≤ _; have h2 : (ze T.l i).1 ≤ (zW T.ts i).size := this.2; omega
theorem Hist.zero : Hist vz [vz] := by
 have one : ∀ {q : Nat} {w : VV}, [vz][q]? = some w → w = vz := fun {q w} h => by
  have := List.mem_of_getElem? h
  simpa using this
 exact ⟨rfl, fun q w h => by rw [one h]; exact VP.zero, fun q w h k i _ => by rw [one h]; exact .refl _ _ _, fun q w h i => by rw [one h]; exact Nat.le_refl _⟩
theorem zlc : ∀ (ds : List DeedR) (p : VV × List VV), VP p.1 ∧ Hist p.1 p.2 → VP (ds.foldl stepR p).1 ∧ Hist (ds.foldl stepR p).1 (ds.foldl stepR p).2 := by
 intro ds
 induction ds with
 | nil => intro p h; exact h
 | cons d ds ih => intro p h; exact ih (stepR p d) ⟨h.1.other d, h.2.other h.1 d⟩
theorem InvR.init {v : VV} {ws : List VV} (H : Hist v ws) (h : VerOk v) (ht : 0 ≤ v.t) (g : Reg4) : InvR v (Go.Proofs.YtgldgabefiialaaGreat.H.s0 v g) ws [] :=
 ⟨H, h, ⟨ht, Int.le_refl _⟩, fun w _ e he => (by cases he), fun d hd => (by cases hd), fun w _ T o _ x => zjT o⟩
def DRowD (r : Option (Nat × AObj)) (v : Value) (ds : List DeedR) : Prop := Row r v zE 4 (ds.flatMap DeedR.cells)
theorem DeedR.len (d : DeedR) : d.cells.length = 4 := rfl
theorem DeedR.one (d : DeedR) : ∀ y ∈ d.cells, isOne y = true := by simp [DeedR.cells, isOne]
theorem zaw : slcB PG ye = some (zE, 4, 32) := by kernel_rfl
theorem VN : zeroB PG zE = some [.int .i64 0, .int .i64 0, .int .i64 0, .int .u8 0] := by kernel_rfl
theorem zba : slT PG ye = true := by kernel_rfl
structure StepL where
 k : Int
 d : DeedR
 s : ByteArray
def StepL.cells (x : StepL) : List Value := [.int .i64 x.k, .int .i64 x.d.k, .int .i64 x.d.a, .int .i64 x.d.b, .int .u8 ((x.d.c.toNat : Nat) : Int), .string x.s]
theorem zg3 : PG.underlying vL = some (.slice yj) := by kernel_rfl
theorem zg2 : leafB PG 7 yj = some [.int .i64, .int .i64, .int .i64, .int .i64, .int .u8, .str] := by kernel_rfl
theorem zja {H : Type} {enc : TypeId × Value → H} {w : World} {base : Nat} {spare : Nat → Bool} {held : Bool} {a : Option Addr} {len cap : Nat} {d : DataW H} {p : List MemPlace} (h : DataW.Trod enc PG w base spare held vL (.slice a len cap) d p) :
  ∃ l : List StepL, len = l.length ∧ Reads (roOf w) Z1 a 6 StepL.cells l := by
 have key : ∃ l : List StepL, len = l.length ∧ Reads (roOf w) Z1 a 6 StepL.cells l ∧ ∀ x ∈ l, True := zfF StepL.cells (fun _ => True) zg3 zg2 rfl (by omega) (fun vs h => by
  obtain ⟨z1, v1, rfl, _, h1⟩ := h.int
  obtain ⟨z2, v2, rfl, _, h2⟩ := h1.int
  obtain ⟨z3, v3, rfl, _, h3⟩ := h2.int
  obtain ⟨z4, v4, rfl, _, h4⟩ := h3.int
  obtain ⟨z5, v5, rfl, w5, h5⟩ := h4.int
  obtain ⟨s6, v6, rfl, _, h6⟩ := h5.str
  obtain rfl := h6.nil
  obtain ⟨c, rfl⟩ := u8_of w5
  exact ⟨⟨z1, ⟨z2, z3, z4, c⟩, s6⟩, rfl, trivial⟩) h
 obtain ⟨l, h1, h2, _⟩ := key
 exact ⟨l, h1, h2⟩
section
variable {B : RO} {h0 h h' : Heap} {L M P : List (Option (Nat × AObj))} {V : VI} {v v' : VV} {K : AK} {U : AU} {s : AV} {k kr : Nat} {i j : Int} {ds ahead : List DeedR} {tA : Option Addr} {vd vt : Value} {r rd : Option (Nat × AObj)} {Q : Bool → Heap → Prop} {xs : List StepL}
theorem zkM {a : Option Addr} {cc : Nat} {Q : Bool → Heap → Prop} (hr : Reads B h a 6 StepL.cells xs) (hQ : ∀ b, (b = false → xs.length ≤ 60 ∧ ∀ x ∈ xs, x.s.size ≤ 100) → ∀ h', Keep B h [] h' → Q b h') : wc B a xs.length cc h Q := by
 refine wc.of ?_
 unfold YZ
 refine ⟨fun _ => Fin.of (hQ true (fun e => by cases e) _ (Keep.nil B h)), fun hn => ?_⟩
 refine ⟨fun q m h' => ∃ j : Nat, j ≤ xs.length ∧ q = j ∧ m = xs.length - j ∧ (∀ x ∈ xs.take j, x.s.size ≤ 100) ∧ Keep B h [] h', xs.length, Fin.of ⟨0, by omega, rfl, rfl, fun x hx => by simp at hx, Keep.nil B h⟩, ?_⟩
 rintro _ _ h6 ⟨j, hj, rfl, rfl, hs, E⟩
 refine ⟨fun hlt => ?_, fun hge => Fin.of (hQ false (fun _ => ⟨by omega, fun x hx => hs x (by rw [List.take_of_length_le (by omega)]; exact hx)⟩) _ E)⟩
 have hj' : j < xs.length := by omega
 have hx := List.getElem?_eq_getElem hj'
 have htk := List.take_succ_eq_append_getElem hj'
 generalize xs[j] = x at hx htk
 obtain ⟨A, f1, _, f3⟩ := hr j x hx
 refine ⟨A, f1, by omega, by omega, _, _, _, _, _, _, by rw [Int.toNat_natCast]; exact E.w.cells f3, fun k a b h7 e7 => ?_⟩
 have E1 := E.made a b e7
 refine ⟨_, zv E1.last rfl (by simp) (by simp [isOne]) (by simp), ?_⟩
 have E2 := E1.putLast (.vec yj (zc x.cells) 6)
 have nil : Keep B h [] _ := E2.pop
 refine ⟨x.s, E2.cell 0 rfl (j := 5) rfl, fun hgt => Fin.of (hQ true (fun e => by cases e) _ nil), fun hle => Fin.of ⟨xs.length - (j + 1), by omega, j + 1, by omega, wrapS (by omega), rfl, fun y hy => ?_, nil⟩⟩
 rw [htk] at hy
 rcases List.mem_append.1 hy with hy | hy
 ·exact hs y hy
 ·simp only [List.mem_singleton] at hy; subst hy; omega
end
section
variable {B : RO} {h0 h h' : Heap} {L M P : List (Option (Nat × AObj))} {V : VI} {v v' : VV} {K : AK} {U : AU} {s : AV} {k kr : Nat} {i j : Int} {ds ahead : List DeedR} {tA : Option Addr} {vd vt : Value} {r rd : Option (Nat × AObj)} {Q : Bool → Heap → Prop} {xs : List StepL}
structure LJ (B : RO) (h0 : Heap) (kr : Nat) (V : VI) (K : AK) (j : Nat) (h : Heap) : Prop where
 ex : ∃ (rt : Option (Nat × AObj)) (v : VV) (vd vt : Value) (rd r : Option (Nat × AObj)) (ws : List VV) (ds : List DeedR) (U : AU) (s : AV), 0 ≤ v.t ∧ v.t ≤ 20 + j ∧ ws.length ≤ 21 + j ∧ ds.length ≤ j ∧ s.rs.length ≤ 2 * j ∧ TRow r vt ws ∧ DRowD rd vd ds ∧ Inv v s ds ∧ SS B h0 [rd, some (kr, runO V.kV (some ⟨K.kA, 0, none⟩) vd vt), r] h (V.w rt) v K U s
end
section
variable {B : RO} {h0 h h' : Heap} {L M : List (Option (Nat × AObj))} {V : VI} {v : VV} {K : AK} {U : AU} {s : AV} {d : DeedR} {Q : Bool → Heap → Prop}
theorem zk4 {Q : Int → Heap → Prop} (S : SS B h0 L h V v K U s) (hQ : Q s.st h) : vO B (some ⟨K.kS, 0, none⟩) h Q := by
 refine vO.of ?_
 unfold Va
 exact ⟨fun e => (by cases e), fun _ => ⟨_, rfl, _, S.E.cM 8 rfl (i := 1) rfl, Fin.of hQ⟩⟩
theorem zjH (hQ : ∀ h', Keep B h [] h' → Q (goodB d) h') : wm B d.k d.a d.b ((d.c.toNat : Nat) : Int) h Q := by
 refine wm.of ?_
 unfold Xn
 intro k6 a6 b6 h7 e7 k8 a8 b8 h9 e9
 have E1 := ((Keep.nil B h).made (o := .vec zE (zc d.cells) 4) a6 b6 e7).made a8 b8 e9
 refine ⟨_, zv E1.last rfl (by simp) (by simp [isOne]) (by simp), ?_⟩
 have E2 := E1.putLast (.vec ziB (zc [.int .i64 7, .int .i64 7, .int .i64 5, .int .i64 5, .int .i64 5, .int .i64 5, .int .i64 5, .int .i64 5, .int .i64 2]) 9)
 generalize h9.set k8 _ = hh at E2 ⊢
 have nil : Keep B h [] hh := by have := E2.take 0; simpa using this
 have no : goodB d = false → Q false hh := fun e => by rw [← e]; exact hQ _ nil
 refine ⟨d.k, E2.cell 0 rfl (j := 0) rfl, fun h1 => Fin.of (no ?_), fun h1 => ⟨d.k, E2.cell 0 rfl (j := 0) rfl, fun h2 => Fin.of (no ?_), fun h2 => ⟨d.a, E2.cell 0 rfl (j := 1) rfl, fun h3 => Fin.of (no ?_), fun h3 => ⟨d.a, E2.cell 0 rfl (j := 1) rfl, d.k, E2.cell 0 rfl (j := 0) rfl, by omega, by omega, ?_⟩⟩⟩⟩
 ·unfold goodB; rw [if_neg (by omega), if_neg (by omega), if_neg (by omega), if_neg (by omega)]
 ·unfold goodB; rw [if_neg (by omega), if_neg (by omega), if_neg (by omega), if_neg (by omega)]
 ·have e1 : inC d.a = false := decide_eq_false (by omega)
  have e2 : inR d.a = false := decide_eq_false (by omega)
  have e3 : decide (0 ≤ d.a ∧ d.a < 3) = false := decide_eq_false (by omega)
  unfold goodB; rw [e1, e2, e3]; simp
 ·have J1 : ∀ m : Int, (goodB d = if d.a ≤ m then (if d.k = 6 then inR d.b else true) else false) → (d.a > m → Fin B hh (Q false)) ∧ (¬ d.a > m → Fin B hh (fun h' => wB B k6 h' Q)) := fun m hm => by
   refine ⟨fun hg => Fin.of (no (by rw [hm, if_neg (by omega)])), fun hg => Fin.of ?_⟩
   rw [if_pos (by omega)] at hm
   unfold wB
   refine ⟨d.k, E2.cell 0 rfl (j := 0) rfl, fun h6 => ⟨d.b, E2.cell 0 rfl (j := 2) rfl, fun hb => ⟨d.b, E2.cell 0 rfl (j := 2) rfl, Fin.of ?_⟩, fun hb => Fin.of (no ?_)⟩, fun h6 => Fin.of ?_⟩
   ·rw [if_pos h6] at hm
    have : inR d.b = decide (d.b ≤ 5) := by unfold inR; rw [decide_eq_decide]; omega
    rw [← this, ← hm]; exact hQ _ nil
   ·rw [if_pos h6] at hm; rw [hm]; exact decide_eq_false (by omega)
   ·rw [if_neg h6] at hm; rw [← hm]; exact hQ _ nil
  rw [z8]
  have hk : d.k = 0 ∨ d.k = 1 ∨ d.k = 2 ∨ d.k = 3 ∨ d.k = 4 ∨ d.k = 5 ∨ d.k = 6 ∨ d.k = 7 ∨ d.k = 8 := by omega
  have hc : inC d.a = decide (d.a ≤ 7) := by unfold inC; rw [decide_eq_decide]; omega
  have hr : inR d.a = decide (d.a ≤ 5) := by unfold inR; rw [decide_eq_decide]; omega
  have h3 : decide (0 ≤ d.a ∧ d.a < 3) = decide (d.a ≤ 2) := by rw [decide_eq_decide]; omega
  have hg : ∀ m : Int, goodB d = (decide (d.a ≤ m) && (if d.k = 6 then inR d.b else true)) → goodB d = if d.a ≤ m then (if d.k = 6 then inR d.b else true) else false := fun m e => by
   rw [e]; by_cases hm : d.a ≤ m
   ·rw [decide_eq_true hm, if_pos hm, Bool.true_and]
   ·rw [decide_eq_false hm, if_neg hm, Bool.false_and]
  have g8 := E2.at 1 rfl
  rcases hk with e | e | e | e | e | e | e | e | e
  ·exact ⟨7, by rw [e]; exact zd g8 rfl, J1 7 (hg 7 (by unfold goodB; rw [if_pos (.inl e), if_neg (by omega), hc, Bool.and_true]))⟩
  ·exact ⟨7, by rw [e]; exact zd g8 rfl, J1 7 (hg 7 (by unfold goodB; rw [if_pos (.inr e), if_neg (by omega), hc, Bool.and_true]))⟩
  ·exact ⟨5, by rw [e]; exact zd g8 rfl, J1 5 (hg 5 (by unfold goodB; rw [if_neg (by omega), if_neg (by omega), if_neg (by omega), if_pos (by omega), if_neg (by omega), hr, Bool.and_true]))⟩
  ·exact ⟨5, by rw [e]; exact zd g8 rfl, J1 5 (hg 5 (by unfold goodB; rw [if_neg (by omega), if_neg (by omega), if_neg (by omega), if_pos (by omega), if_neg (by omega), hr, Bool.and_true]))⟩
  ·exact ⟨5, by rw [e]; exact zd g8 rfl, J1 5 (hg 5 (by unfold goodB; rw [if_neg (by omega), if_neg (by omega), if_neg (by omega), if_pos (by omega), if_neg (by omega), hr, Bool.and_true]))⟩
  ·exact ⟨5, by rw [e]; exact zd g8 rfl, J1 5 (hg 5 (by unfold goodB; rw [if_neg (by omega), if_neg (by omega), if_neg (by omega), if_pos (by omega), if_neg (by omega), hr, Bool.and_true]))⟩
  ·exact ⟨5, by rw [e]; exact zd g8 rfl, J1 5 (hg 5 (by unfold goodB; rw [if_neg (by omega), if_pos e, if_pos e, hr]))⟩
  ·exact ⟨5, by rw [e]; exact zd g8 rfl, J1 5 (hg 5 (by unfold goodB; rw [if_neg (by omega), if_neg (by omega), if_neg (by omega), if_pos (by omega), if_neg (by omega), hr, Bool.and_true]))⟩
  ·exact ⟨2, by rw [e]; exact zd g8 rfl, J1 2 (hg 2 (by unfold goodB; rw [if_neg (by omega), if_neg (by omega), if_pos e, if_neg (by omega), h3, Bool.and_true]))⟩
end
end Go.Proofs.YtgldgabefiialaaGreat.H
