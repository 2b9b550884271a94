/- What the law's proof stands on, part 7. No condition. -/
import Derived.Test.YtgldgabefiialaaGreatG6
namespace Go.Proofs.YtgldgabefiialaaGreat.H
open Go
set_option linter.unusedVariables false
set_option maxRecDepth 100000
theorem zbl {α : Type} (f : α → Value) (a b : List Value) (l : List α) (i : Nat) (x : α) (hx : l[i]? = some x) : (zc (a ++ (l.map f ++ b)))[a.length + i]? = some (.plain (f x)) := by
 obtain ⟨hi, rfl⟩ := List.getElem?_eq_some_iff.1 hx
 simp only [zc, List.getElem?_map]
 rw [List.getElem?_append_right (by omega), show a.length + i - a.length = i by omega, List.getElem?_append_left (by simpa using hi), List.getElem?_map, hx]
 rfl
theorem zd2 {α : Type} (f : α → Value) (a b : List Value) (l : List α) (i : Nat) (x : α) (hi : i < l.length) : (zc (a ++ (l.map f ++ b))).set (a.length + i) (.plain (f x)) = zc (a ++ ((l.set i x).map f ++ b)) := by
 unfold zc
 rw [← List.map_set, List.set_append_right _ _ (by omega), show a.length + i - a.length = i by omega, List.set_append_left _ _ (by simpa using hi), List.map_set]
theorem Y9 (s : ByteArray) (i : Nat) : 0 ≤ x4 s i ∧ x4 s i < 256 := by
 unfold x4
 split
 ·rename_i h
  have := (s[i]).toNat_lt
  omega
 ·omega
def feedC (ts : List ByteArray) (kR : Nat) : List Value := ts.map Value.string ++ [.pointer (some ⟨kR, 0, none⟩)]
def feedO (ts : List ByteArray) (kR : Nat) : AObj := .vec zfx (zc (feedC ts kR)) 4
def zW (ts : List ByteArray) (i : Int) : ByteArray := if 0 ≤ i ∧ i < 3 then (ts[i.toNat]?).getD (ByteArray.mk #[]) else ByteArray.mk #[]
def arrE (ts : List ByteArray) (i : Int) (s : ByteArray) : Int := if 0 ≤ i ∧ i < 3 then (if (zW ts i).size + s.size > 64 then 6 else 0) else 1
def arrT (ts : List ByteArray) (i : Int) (s : ByteArray) : List ByteArray := if arrE ts i s = 0 then ts.set i.toNat (zW ts i ++ s) else ts
def takeB (ts : List ByteArray) (l : List (Int × Int)) (i place : Int) : Bool := decide (0 ≤ i ∧ i < 3 ∧ (ze l i).1 ≤ place ∧ place ≤ (zW ts i).size)
def takeL (ts : List ByteArray) (l : List (Int × Int)) (i place v : Int) : List (Int × Int) := if takeB ts l i place = true then l.set i.toNat (place, v) else l
def atOf (ts : List ByteArray) (i place : Int) : Int := if 0 ≤ i ∧ i < 3 ∧ 0 ≤ place ∧ place < (zW ts i).size then x4 (zW ts i) place.toNat else -1
structure wn (ts : List ByteArray) (l : List (Int × Int)) : Prop where
 t3 : ts.length = 3
 l3 : l.length = 3
 size : ∀ i, (zW ts i).size ≤ 64
 place : ∀ i, 0 ≤ (ze l i).1 ∧ (ze l i).1 ≤ (zW ts i).size
theorem zeI {ts : List ByteArray} {i : Int} (h3 : ts.length = 3) (h0 : 0 ≤ i) (h1 : i < 3) : ts[i.toNat]? = some (zW ts i) := by
 rw [zW, if_pos ⟨h0, h1⟩, List.getElem?_eq_getElem (by omega)]; rfl
theorem zbr {ts : List ByteArray} {i : Int} (h3 : ts.length = 3) (h0 : 0 ≤ i) (h1 : i < 3) (s : ByteArray) (j : Int) : zW (ts.set i.toNat s) j = if j = i then s else zW ts j := by
 unfold zW
 by_cases hj : 0 ≤ j ∧ j < 3
 ·rw [if_pos hj, if_pos hj]
  by_cases he : j = i
  ·subst he
   rw [if_pos rfl, List.getElem?_set_self (by omega)]; rfl
  ·rw [if_neg he, List.getElem?_set_ne (by omega)]
 ·rw [if_neg hj, if_neg hj, if_neg (fun he => hj (by omega))]
theorem wL {l : List (Int × Int)} {i : Int} (h0 : 0 ≤ i) (h1 : i < l.length) (x : Int × Int) (j : Int) : ze (l.set i.toNat x) j = if j = i then x else ze l j := by
 unfold ze
 by_cases hj : 0 ≤ j
 ·rw [if_pos hj, if_pos hj]
  by_cases he : j = i
  ·subst he
   rw [if_pos rfl, List.getElem?_set_self (by omega)]; rfl
  ·rw [if_neg he, List.getElem?_set_ne (by omega)]
 ·rw [if_neg hj, if_neg hj, if_neg (fun he => hj (by omega))]
theorem wn.arrive {ts : List ByteArray} {l : List (Int × Int)} (k : wn ts l) (i : Int) (s : ByteArray) : wn (arrT ts i s) l := by
 unfold arrT
 split
 ·rename_i h
  have hi : 0 ≤ i ∧ i < 3 := by
   unfold arrE at h; split at h
   ·assumption
   ·cases h
  have hs : (zW ts i).size + s.size ≤ 64 := by
   unfold arrE at h; rw [if_pos hi] at h; split at h
   ·cases h
   ·omega
  refine ⟨by rw [List.length_set]; exact k.t3, k.l3, fun j => ?_, fun j => ?_⟩
  ·rw [zbr k.t3 hi.1 hi.2]; split
   ·rw [ByteArray.size_append]; exact hs
   ·exact k.size j
  ·have := k.place j
   rw [zbr k.t3 hi.1 hi.2]; split
   ·rename_i e; subst e; rw [ByteArray.size_append]; omega
   ·exact this
 ·exact k
theorem wn.take {ts : List ByteArray} {l : List (Int × Int)} (k : wn ts l) (i place v : Int) : wn ts (takeL ts l i place v) := by
 unfold takeL
 split
 ·rename_i h
  unfold takeB at h
  rw [decide_eq_true_eq] at h
  obtain ⟨h0, h1, h2, h3⟩ := h
  have l3 := k.l3
  refine ⟨k.t3, by rw [List.length_set]; exact k.l3, k.size, fun j => ?_⟩
  rw [wL h0 (by omega)]
  have := k.place i
  split
  ·rename_i e; subst e; exact ⟨by omega, h3⟩
  ·exact k.place j
 ·exact k
section
variable {B : RO} {h : Heap} {kF kR kM : Nat} {ts : List ByteArray} {l l' : List (Int × Int)}
theorem X2 (hf : h kF = some (feedO ts kR)) (h3 : ts.length = 3) {i : Int} (h0 : 0 ≤ i) (h1 : i < 3) : cellH B h (Addr.add ⟨kF, 0, none⟩ (i.toNat * 1)) = some (.string (zW ts i)) := by
 rw [z8, Nat.mul_one]
 exact zd hf (zbl Value.string [] _ ts i.toNat _ (zeI h3 h0 h1))
theorem zfN (hf : h kF = some (feedO ts kR)) (h3 : ts.length = 3) : cellH B h (Addr.add ⟨kF, 0, none⟩ 3) = some (.pointer (some ⟨kR, 0, none⟩)) := by
 rw [z8, Nat.zero_add]
 refine zd hf ?_
 have := zbl (fun x : Option Addr => Value.pointer x) (ts.map Value.string) [] [some ⟨kR, 0, none⟩] 0 _ rfl
 rw [List.length_map, h3] at this
 exact this
theorem Vv {i : Int} {p : Addr} {Q : Bool → Heap → Prop} (hQ : Q (decide (0 ≤ i ∧ i < 3)) h) : wI B (some p) i h Q := by
 refine wI.of ?_
 unfold zaF
 refine ⟨fun e => (by cases e), fun _ => ⟨fun h0 => Fin.of ?_, fun h0 => Fin.of ?_⟩⟩
 ·have : decide (i < 3) = decide (0 ≤ i ∧ i < 3) := by rw [decide_eq_decide]; exact ⟨fun x => ⟨by omega, x⟩, fun x => x.2⟩
  rw [this]; exact hQ
 ·rw [decide_eq_false (by omega)] at hQ; exact hQ
theorem zjC (ts : List ByteArray) (kR i : Nat) (x : ByteArray) (hi : i < ts.length) : (zc (feedC ts kR)).set i (.plain (.string x)) = zc (feedC (ts.set i x) kR) := by
 have := zd2 Value.string [] [.pointer (some ⟨kR, 0, none⟩)] ts i x hi
 simp only [List.length_nil, Nat.zero_add, List.nil_append] at this
 exact this
theorem zkI (hf : h kF = some (feedO ts kR)) (h3 : ts.length = 3) {i : Int} (h0 : 0 ≤ i) (h1 : i < 3) (x : ByteArray) : ym h (Addr.add ⟨kF, 0, none⟩ (i.toNat * 1)) (.string x) = some (h.set kF (feedO (ts.set i.toNat x) kR)) := by
 have hg : (zc (feedC ts kR))[i.toNat]? = some (.plain (.string (zW ts i))) := by
  have := zbl Value.string [] [.pointer (some ⟨kR, 0, none⟩)] ts i.toNat _ (zeI h3 h0 h1)
  simp only [List.length_nil, Nat.zero_add, List.nil_append] at this
  exact this
 have hst := v9 (v := .string x) hf hg
 rw [zjC ts kR i.toNat x (by omega)] at hst
 rw [z8, Nat.mul_one, Nat.zero_add]
 exact hst
theorem zdZ {i : Int} {s : ByteArray} {Q : Int → Heap → Prop} (k : wn ts l) (hf : h kF = some (feedO ts kR)) (hs : s.size ≤ 1000000000) (hQ : Q (arrE ts i s) (h.set kF (feedO (arrT ts i s) kR))) : vC B (some ⟨kF, 0, none⟩) i s h Q := by
 refine vC.of ?_
 unfold WS
 refine ⟨fun e => (by cases e), fun _ => Vv ⟨fun hT => ?_, fun hF => Fin.of ?_⟩⟩
 ·rw [decide_eq_true_eq] at hT
  have ht := k.size i
  refine ⟨_, rfl, hT.1, hT.2, _, X2 hf k.t3 hT.1 hT.2, ?_⟩
  rw [w64 (by omega) (by omega)]
  refine ⟨fun hgt => Fin.of ?_, fun hle => Fin.of ?_⟩
  ·have e : arrE ts i s = 6 := by rw [arrE, if_pos hT, if_pos (by omega)]
   rw [arrT, e, if_neg (by decide), Heap.set_self _ _ _ hf] at hQ
   exact hQ
  ·unfold Yr
   have e : arrE ts i s = 0 := by rw [arrE, if_pos hT, if_neg (by omega)]
   rw [arrT, e, if_pos rfl] at hQ
   exact ⟨_, rfl, hT.1, hT.2, _, X2 hf k.t3 hT.1 hT.2, by omega, _, rfl, hT.1, hT.2, _, zkI hf k.t3 hT.1 hT.2 _, Fin.of hQ⟩
 ·rw [decide_eq_false_iff_not] at hF
  have e : arrE ts i s = 1 := by rw [arrE, if_neg hF]
  rw [arrT, e, if_neg (by decide), Heap.set_self _ _ _ hf] at hQ
  exact hQ
theorem YJ {i : Int} {Q : Int → Int → Heap → Prop} (h3 : ts.length = 3) (hf : h kF = some (feedO ts kR)) (hr : h kR = some (xQ l)) (hQ : Q (ze l i).1 (ze l i).2 h) : xn B (some ⟨kF, 0, none⟩) i h Q := by
 refine xn.of ?_
 unfold W9
 exact ⟨fun e => (by cases e), fun _ => ⟨_, rfl, _, zfN hf h3, Vw (Ww hr) (Fin.of hQ)⟩⟩
theorem zfP {i : Int} {Q : ByteArray → Heap → Prop} (h3 : ts.length = 3) (hf : h kF = some (feedO ts kR)) (hQ : Q (zW ts i) h) : Zo B (some ⟨kF, 0, none⟩) i h Q := by
 refine Zo.of ?_
 unfold VJ
 refine Vv ⟨fun hT => ?_, fun hF => Fin.of ?_⟩
 ·rw [decide_eq_true_eq] at hT
  exact ⟨_, rfl, hT.1, hT.2, _, X2 hf h3 hT.1 hT.2, Fin.of hQ⟩
 ·rw [decide_eq_false_iff_not] at hF
  rw [zW, if_neg hF] at hQ; exact hQ
theorem ziJ {i place : Int} {Q : Int → Heap → Prop} (h3 : ts.length = 3) (hf : h kF = some (feedO ts kR)) (hQ : Q (atOf ts i place) h) : Yg B (some ⟨kF, 0, none⟩) i place h Q := by
 refine Yg.of ?_
 unfold zaE
 refine Vv ⟨fun hT => ⟨fun hp => Fin.of ?_, fun hp => ?_⟩, fun hF => Fin.of ?_⟩
 ·rw [atOf, if_neg (by omega)] at hQ; exact hQ
 ·rw [decide_eq_true_eq] at hT
  refine ⟨_, rfl, hT.1, hT.2, _, X2 hf h3 hT.1 hT.2, fun hg => Fin.of ?_, fun hg => Fin.of ?_⟩
  ·rw [atOf, if_neg (by omega)] at hQ; exact hQ
  ·unfold Xq
   refine ⟨_, rfl, hT.1, hT.2, _, X2 hf h3 hT.1 hT.2, by omega, by omega, Fin.of ?_⟩
   rw [atOf, if_pos ⟨hT.1, hT.2, by omega, by omega⟩] at hQ
   have := Y9 (zW ts i) place.toNat
   rw [w64 (by omega) (by omega)]; exact hQ
 ·rw [decide_eq_false_iff_not] at hF
  rw [atOf, if_neg (by omega)] at hQ; exact hQ
theorem zfO {i place v : Int} {Q : Bool → Heap → Prop} (k : wn ts l) (hf : h kF = some (feedO ts kR)) (hr : h kR = some (xQ l)) (hQ : Q (takeB ts l i place) (h.set kR (xQ (takeL ts l i place v)))) : Zn B (some ⟨kF, 0, none⟩) i place v h Q := by
 refine Zn.of ?_
 unfold VH
 have no : ¬ (0 ≤ i ∧ i < 3 ∧ (ze l i).1 ≤ place ∧ place ≤ (zW ts i).size) → Q false h := fun hn => by
  have e : takeB ts l i place = false := by rw [takeB, decide_eq_false hn]
  rw [takeL, e, if_neg (by decide), Heap.set_self _ _ _ hr] at hQ
  exact hQ
 refine YJ k.t3 hf hr (Vv ⟨fun hT => ⟨fun hp => Fin.of (no (by omega)), fun hp => ?_⟩, fun hF => Fin.of (no ?_)⟩)
 ·rw [decide_eq_true_eq] at hT
  refine ⟨_, rfl, hT.1, hT.2, _, X2 hf k.t3 hT.1 hT.2, fun hg => Fin.of (no (by omega)), fun hg => Fin.of ?_⟩
  unfold YP
  have e : takeB ts l i place = true := by rw [takeB, decide_eq_true_eq]; omega
  have l3 := k.l3
  rw [takeL, e, if_pos rfl] at hQ
  exact ⟨_, rfl, _, zfN hf k.t3, zdJ hr (fun _ _ => Fin.of hQ) (fun hn => absurd (show 0 ≤ i ∧ i < (l.length : Int) by omega) hn)⟩
 ·rw [decide_eq_false_iff_not] at hF
  omega
def ts0 : List ByteArray := [ByteArray.empty, ByteArray.empty, ByteArray.empty]
def fl0 : List (Int × Int) := [(0, 0), (0, 0), (0, 0)]
theorem wn.zero : wn ts0 fl0 := by
 have key : ∀ i : Int, zW ts0 i = ByteArray.empty ∧ (ze fl0 i) = (0, 0) := fun i => by
  by_cases h : 0 ≤ i ∧ i < 3
  ·have : i = 0 ∨ i = 1 ∨ i = 2 := by omega
   rcases this with rfl | rfl | rfl <;> exact ⟨rfl, rfl⟩
  ·refine ⟨by rw [zW, if_neg h]; rfl, ?_⟩
   unfold ze
   split
   ·rw [List.getElem?_eq_none (by simp [fl0]; omega)]; rfl
   ·rfl
 exact ⟨rfl, rfl, fun i => by rw [(key i).1]; decide, fun i => by rw [(key i).1, (key i).2]; decide⟩
theorem zg4 {Q : Option Addr → Heap → Prop} (hQ : ∀ kR kF h1 h2, h kR = none → B kR = none → h1 = h.set kR (xQ fl0) → h1 kF = none → B kF = none → h2 = h1.set kF (feedO ts0 kR) → Q (some ⟨kF, 0, none⟩) h2) : X7 B h Q := by
 refine X7.of ?_
 unfold zc1
 refine zdx (by decide) fun kR a1 b1 k4 a4 b4 h5 e5 => Fin.of (hQ kR k4 _ h5 a1 b1 rfl a4 b4 e5)
end
open Go Go.RowKit
structure StI where
 kd : Nat
 vd : Value
 rd : Option (Nat × AObj)
 ks : Nat
 kf : Nat
 vf : Value
 rf : Option (Nat × AObj)
 kc : Nat
structure StV where
 d : List (Int × Int)
 f : List (Int × (Bool × ByteArray))
 c0 : Int
 c1 : Int
 c2 : Int
def StV.z : StV := ⟨[], [], 0, 0, 0⟩
def shO (kf : Nat) : AObj := .vec zaJ (zc [.pointer (some ⟨kf, 0, none⟩)]) 1
def curO (s : StV) : AObj := .vec zcI (zc [.int .i64 s.c0, .int .i64 s.c1, .int .i64 s.c2]) 3
def StI.e (x : StI) (s : StV) : List (Option (Nat × AObj)) := [some (x.kd, YN x.vd), x.rd, some (x.ks, shO x.kf), some (x.kf, xu x.vf), x.rf, some (x.kc, curO s)]
structure StI.Ok (x : StI) (s : StV) : Prop where
 d : Zq x.rd x.vd s.d
 f : zV x.rf x.vf s.f
structure StAt (L : List (Option (Nat × AObj))) (i : Nat) (x : StI) (s : StV) : Prop where
 d : zaB L i x.kd x.vd x.rd
 sh : L[i + 2]? = some (some (x.ks, shO x.kf))
 f : ZQ L (i + 3) x.kf x.vf x.rf
 c : L[i + 5]? = some (some (x.kc, curO s))
theorem StAt.app {L M : List (Option (Nat × AObj))} {i : Nat} {x : StI} {s : StV} (A : StAt L i x s) : StAt (L ++ M) i x s :=
 ⟨⟨zO _ A.d.p, zO _ A.d.q⟩, zO _ A.sh, ⟨zO _ A.f.p, zO _ A.f.q⟩, zO _ A.c⟩
structure Reg4 where
 a : Int
 b : Int
 c : Int
 d : Int
structure MarkR where
 x : StI
 g : Reg4
 m : Reg4
 place : Int
def MarkR.cells (m : MarkR) : List Value := [.pointer (some ⟨m.x.kd, 0, none⟩), .pointer (some ⟨m.x.ks, 0, none⟩), .pointer (some ⟨m.x.kc, 0, none⟩), .int .i64 m.g.a, .int .i64 m.g.b, .int .i64 m.g.c, .int .i64 m.g.d, .int .i64 m.m.a, .int .i64 m.m.b, .int .i64 m.m.c, .int .i64 m.m.d, .int .i64 m.place]
theorem MarkR.len (m : MarkR) : m.cells.length = 12 := rfl
theorem MarkR.one (m : MarkR) : ∀ y ∈ m.cells, isOne y = true := fun y hy => by
 simp only [MarkR.cells, List.mem_cons, List.not_mem_nil, or_false] at hy
 rcases hy with rfl | rfl | rfl | rfl | rfl | rfl | rfl | rfl | rfl | rfl | rfl | rfl <;> rfl
def skO (v : Value) : AObj := .vec ze4 (zc [v]) 1
def MRow (r : Option (Nat × AObj)) (v : Value) (l : List MarkR) : Prop := Row r v zfy 12 (l.flatMap MarkR.cells)
structure SkAt (L : List (Option (Nat × AObj))) (i k : Nat) (v : Value) (r : Option (Nat × AObj)) : Prop where
 p : L[i]? = some (some (k, skO v))
 q : L[i + 1]? = some r
section
variable {B : RO} {h0 h h' : Heap} {L : List (Option (Nat × AObj))} {r : Option (Nat × AObj)} {i j k : Nat} {a : Option Addr} {m c : Nat} {v : Value} {l : List MarkR} {x : StI} {s : StV} {g mm : Reg4} {place : Int}
theorem Xe {Q : Option Addr → Heap → Prop} (hQ : ∀ ks kf h', Keep B h [some (ks, shO kf), some (kf, xu (.slice none 0 0)), none] h' → Q (some ⟨ks, 0, none⟩) h') : vA B h Q := by
 refine vA.of ?_
 unfold zcl
 intro k2 a2 b2 h3 e3 k4 a4 b4 h5 e5
 have E := ((Keep.nil B h).made a2 b2 e3).made a4 b4 e5
 exact Fin.of (hQ k4 k2 h5 (E.picks [1, 0, 9] (by decide)))
theorem Zz {Q : Option Addr → Option Addr → Option Addr → Int → Int → Int → Int → Heap → Prop} (hQ : ∀ x h', StI.Ok x StV.z → Keep B h (x.e StV.z) h' → Q (some ⟨x.kd, 0, none⟩) (some ⟨x.ks, 0, none⟩) (some ⟨x.kc, 0, none⟩) g.a g.b g.c g.d h') : y2 B g.a g.b g.c g.d h Q := by
 refine y2.of ?_
 unfold zbA
 intro k12 a12 b12 h13 e13 k14 a14 b14 h15 e15
 have E := ((Keep.nil B h).made a12 b12 e13).made a14 b14 e15
 have c12 : ∀ {M : List (Option (Nat × AObj))} {h1 : Heap}, Keep B h ([] ++ [some (k12, AObj.vec Zd (zc [.int .i64 g.a, .int .i64 g.b, .int .i64 g.c, .int .i64 g.d]) 4)] ++ M) h1 → za B h1 ⟨k12, 0, none⟩ 0 [.int .i64 g.a, .int .i64 g.b, .int .i64 g.c, .int .i64 g.d] := fun {M h1} E1 => ⟨E1.cell 0 rfl rfl, E1.cell 0 rfl rfl, E1.cell 0 rfl rfl, E1.cell 0 rfl rfl, trivial⟩
 have fin : ∀ {kd ks kf kc : Nat} {h1 : Heap}, Keep B h [some (k14, .vec XH (zc [.pointer none, .pointer none, .pointer none, .int .i64 0, .int .i64 0, .int .i64 0, .int .i64 0]) 7), some (kd, YN (.slice none 0 0)), some (ks, shO kf), some (kf, xu (.slice none 0 0)), some (kc, curO StV.z)] h1 → ∃ h2, zi ⟨k14, 0, none⟩ h1 0 [.pointer (some ⟨kd, 0, none⟩), .pointer (some ⟨ks, 0, none⟩), .pointer (some ⟨kc, 0, none⟩), .int .i64 g.a, .int .i64 g.b, .int .i64 g.c, .int .i64 g.d] h2 ∧ ∃ p33 : Option Addr, ∃ p34 : Option Addr, ∃ p35 : Option Addr, ∃ i36 : Int, ∃ i37 : Int, ∃ i38 : Int, ∃ i39 : Int, za B h2 ⟨k14, 0, none⟩ 0 [(Value.pointer p33), (Value.pointer p34), (Value.pointer p35), (Value.int .i64 (i36)), (Value.int .i64 (i37)), (Value.int .i64 (i38)), (Value.int .i64 (i39))] ∧ Fin B h2 (Q p33 p34 p35 (i36) (i37) (i38) (i39)) := fun {kd ks kf kc h1} E1 => by
  refine ⟨_, zv (E1.at 0 rfl) rfl (by simp) (by simp [isOne]) (by simp), ?_⟩
  have E2 := E1.put (o' := .vec XH (zc [.pointer (some ⟨kd, 0, none⟩), .pointer (some ⟨ks, 0, none⟩), .pointer (some ⟨kc, 0, none⟩), .int .i64 g.a, .int .i64 g.b, .int .i64 g.c, .int .i64 g.d]) 7) 0 rfl
  refine ⟨_, _, _, _, _, _, _, ⟨E2.cell 0 rfl rfl, E2.cell 0 rfl rfl, E2.cell 0 rfl rfl, E2.cell 0 rfl rfl, E2.cell 0 rfl rfl, E2.cell 0 rfl rfl, E2.cell 0 rfl rfl, trivial⟩, Fin.of ?_⟩
  exact hQ ⟨kd, .slice none 0 0, none, ks, kf, .slice none 0 0, none, kc⟩ _ ⟨Row.nil _ _, Row.nil _ _⟩ (E2.picks [1, 9, 2, 3, 10, 4] (by decide))
 refine ⟨_, _, _, _, c12 E, fun k23 a23 b23 h24 e24 => ?_, ?_, fun k85 a85 b85 h86 e86 => ?_⟩
 ·have E1 := E.made a23 b23 e24
  refine ⟨⟨E1.cell 0 rfl rfl, E1.cell 0 rfl rfl, E1.cell 0 rfl rfl, E1.cell 0 rfl rfl, trivial⟩, Xe fun ks kf h26 E2 => ?_, fun k40 a40 b40 h41 e41 => ?_⟩
  ·have E3 := E1.append E2
   refine ⟨⟨E3.cell 0 rfl rfl, E3.cell 0 rfl rfl, E3.cell 0 rfl rfl, E3.cell 0 rfl rfl, trivial⟩, fun k29 a29 b29 h30 e30 => ?_⟩
   have E4 := E3.made a29 b29 e30
   exact ⟨⟨E4.cell 0 rfl rfl, E4.cell 0 rfl rfl, E4.cell 0 rfl rfl, E4.cell 0 rfl rfl, trivial⟩, fin (E4.picks [1, 2, 3, 4, 6] (by decide))⟩
  ·have E3 := E1.made a40 b40 e41
   refine ⟨⟨E3.cell 0 rfl rfl, E3.cell 0 rfl rfl, E3.cell 0 rfl rfl, E3.cell 0 rfl rfl, trivial⟩, Xe fun ks kf h26 E2 => ?_⟩
   have E4 := E3.append E2
   exact ⟨⟨E4.cell 0 rfl rfl, E4.cell 0 rfl rfl, E4.cell 0 rfl rfl, E4.cell 0 rfl rfl, trivial⟩, fin (E4.picks [1, 2, 4, 5, 3] (by decide))⟩
 ·refine Xe fun ks kf h54 E2 => ?_
  have E3 := E.append E2
  refine ⟨⟨E3.cell 0 rfl rfl, E3.cell 0 rfl rfl, E3.cell 0 rfl rfl, E3.cell 0 rfl rfl, trivial⟩, fun k57 a57 b57 h58 e58 => ?_, fun k71 a71 b71 h72 e72 => ?_⟩
  ·have E4 := E3.made a57 b57 e58
   refine ⟨⟨E4.cell 0 rfl rfl, E4.cell 0 rfl rfl, E4.cell 0 rfl rfl, E4.cell 0 rfl rfl, trivial⟩, fun k60 a60 b60 h61 e61 => ?_⟩
   have E5 := E4.made a60 b60 e61
   exact ⟨⟨E5.cell 0 rfl rfl, E5.cell 0 rfl rfl, E5.cell 0 rfl rfl, E5.cell 0 rfl rfl, trivial⟩, fin (E5.picks [1, 5, 2, 3, 6] (by decide))⟩
  ·have E4 := E3.made a71 b71 e72
   refine ⟨⟨E4.cell 0 rfl rfl, E4.cell 0 rfl rfl, E4.cell 0 rfl rfl, E4.cell 0 rfl rfl, trivial⟩, fun k74 a74 b74 h75 e75 => ?_⟩
   have E5 := E4.made a74 b74 e75
   exact ⟨⟨E5.cell 0 rfl rfl, E5.cell 0 rfl rfl, E5.cell 0 rfl rfl, E5.cell 0 rfl rfl, trivial⟩, fin (E5.picks [1, 6, 2, 3, 5] (by decide))⟩
 ·have E1 := E.made a85 b85 e86
  refine ⟨⟨E1.cell 0 rfl rfl, E1.cell 0 rfl rfl, E1.cell 0 rfl rfl, E1.cell 0 rfl rfl, trivial⟩, fun k88 a88 b88 h89 e89 => ?_, Xe fun ks kf h102 E2 => ?_⟩
  ·have E3 := E1.made a88 b88 e89
   refine ⟨⟨E3.cell 0 rfl rfl, E3.cell 0 rfl rfl, E3.cell 0 rfl rfl, E3.cell 0 rfl rfl, trivial⟩, Xe fun ks kf h91 E2 => ?_⟩
   have E4 := E3.append E2
   exact ⟨⟨E4.cell 0 rfl rfl, E4.cell 0 rfl rfl, E4.cell 0 rfl rfl, E4.cell 0 rfl rfl, trivial⟩, fin (E4.picks [1, 3, 4, 5, 2] (by decide))⟩
  ·have E3 := E1.append E2
   refine ⟨⟨E3.cell 0 rfl rfl, E3.cell 0 rfl rfl, E3.cell 0 rfl rfl, E3.cell 0 rfl rfl, trivial⟩, fun k105 a105 b105 h106 e106 => ?_⟩
   have E4 := E3.made a105 b105 e106
   exact ⟨⟨E4.cell 0 rfl rfl, E4.cell 0 rfl rfl, E4.cell 0 rfl rfl, E4.cell 0 rfl rfl, trivial⟩, fin (E4.picks [1, 6, 3, 4, 2] (by decide))⟩
theorem MRow.len (R : MRow r (.slice a m c) l) : m = l.length := (Row.rd (B := fun _ => none) R MarkR.len (by omega)).1
end
def dallF (k3 : Nat) : Value := Value.func (.func YT) #[] #[(Value.pointer (some ⟨k3, 0, none⟩))]
def encD (x : Int × Int) : List Value := [.int .i64 x.1, .int .i64 x.2]
def dG (k3 k : Nat) (v : Value) (r : Option (Nat × AObj)) (h : Heap) : Prop :=
 h k3 = some (.vec v7 [.plain (.pointer (some ⟨k, 0, none⟩))] 1) ∧ h k = some (YN v) ∧ ∀ k o, r = some (k, o) → h k = some o
theorem zlW {k3 kk : Nat} {v : Value} {r : Option (Nat × AObj)} : Ins (dG k3 kk v r) := by
 rintro h k o hk ⟨g1, g2, g3⟩
 exact ⟨Heap.get_new hk g1, Heap.get_new hk g2, fun k' o' e => Heap.get_new hk (g3 k' o' e)⟩
section
variable {B : RO} {h0 h h' : Heap} {L : List (Option (Nat × AObj))} {r : Option (Nat × AObj)} {i k k3 : Nat} {a : Option Addr} {m c : Nat} {v : Value} {l : List (Int × Int)} {n : Int}
theorem zlm {p : Option Addr} {Q : Value → Heap → Prop} (hQ : ∀ k, h k = none → B k = none → Q (dallF k) (h.set k (.vec v7 [.plain (.pointer p)] 1))) : wF B p h Q := by
 refine wF.of ?_
 unfold XS
 intro k a1 b1 h4 e4
 subst e4
 exact Fin.of (hQ k a1 b1)
theorem zjx (R : Zq r v l) (hlen : l.length ≤ 100000) : Iter PG B (dallF k3) (l.map encD) (dG k3 k v r) := by
 refine ⟨_, _, _, rfl, VM, fun y J X h hy hG h0 hcall => ?_⟩
 have main : vg B y ⟨k3, 0, none⟩ h (fun h' => Fin B h' (fun h'' => J (l.map encD).length h'' ∨ X h'')) := by
  refine vg.of ?_
  unfold Xo
  obtain ⟨a, m, c, rfl⟩ := Row.slice R
  obtain ⟨rfl, hrd⟩ := Row.rd (B := B) R wA (by omega)
  obtain ⟨g1, g2, g3⟩ := hG 0 h h0
  refine ⟨_, zd g1 rfl, fun e => (by cases e), fun _ => ⟨_, zd g1 rfl, _, rfl, .inl ⟨a, _, c, zd g2 rfl, ?_⟩⟩⟩
  refine ⟨fun i m' h' => ∃ j : Nat, j ≤ l.length ∧ i = j ∧ m' = l.length - j ∧ J j h', l.length, Fin.of ⟨0, by omega, rfl, by omega, h0⟩, ?_⟩
  rintro _ _ h13 ⟨j, hj, rfl, rfl, hJ⟩
  obtain ⟨g1, g2, g3⟩ := hG j h13 hJ
  refine ⟨fun hlt => ?_, fun hge => Fin.of ?_⟩
  ·have hj' : j < l.length := by omega
   have hx := List.getElem?_eq_getElem hj'
   generalize l[j] = x at hx
   obtain ⟨A, e, _, q⟩ := hrd h13 g3 j _ hx
   refine ⟨A, e, by omega, hlt, x.1, x.2, q, fun k24 a24 b24 h25 e25 => ?_⟩
   obtain ⟨g25, l25, -⟩ := Heap.made a24 e25
   refine ⟨_, zv g25 rfl (by simp) (by simp [isOne]) (by simp), ?_⟩
   generalize e26 : h25.set k24 _ = h26
   obtain ⟨g26, -, -⟩ := Heap.put e26
   refine ⟨_, zd g26 rfl, _, zd g26 rfl, ?_⟩
   have w : Wk B h13 h26 := by
    rw [← e26, e25, Heap.set_set]; exact Wk.new a24 b24
   have hc := hcall j h13 (encD x) (by rw [List.getElem?_map, hx]; rfl) hJ
   refine CallV.mono ?_ (hc.weaken w)
   rintro v h27 ⟨h28, t1, h29, t2, hor⟩
   rcases hor with ⟨rfl, hJ'⟩ | ⟨rfl, hX⟩
   ·refine ⟨true, rfl, fun _ => ⟨h29, t1.trans t2, l.length - (j + 1), by omega, j + 1, by omega, ?_, rfl, hJ'⟩, fun e => by cases e⟩
    rw [w64 (by omega) (by omega)]; omega
   ·exact ⟨false, rfl, fun e => (by cases e), fun _ => ⟨h29, t1.trans t2, Fin.of (.inr hX)⟩⟩
  ·have : j = l.length := by omega
   subst this
   refine Fin.of (.inl ?_)
   rw [List.length_map]
   exact hJ
 exact Spec.mono main fun v h' q => q.2
end
def OpenC (x : Int × Int) : List Value := [.int .i64 x.1, .int .i64 x.2]
theorem zi9 (x : Int × Int) : (OpenC x).length = 2 := rfl
def OutC (x : Int × Int) : List Value := [.int .i64 x.1, .int .u8 x.2]
theorem zfi (x : Int × Int) : (OutC x).length = 2 := rfl
def NoteC (x : Int) : List Value := [.int .i64 x]
theorem zi8 (x : Int) : (NoteC x).length = 1 := rfl
def actO (v0 v1 v2 v3 : Value) : AObj := .vec zbN (zc [v0, v1, v2, v3]) 4
structure ActS where
 outs : List (Int × Int)
 later : List (Int × Int)
 notes : List Int
 opens : List (Int × Int)
structure ActV where
 v0 : Value
 v1 : Value
 v2 : Value
 v3 : Value
 r0 : Option (Nat × AObj)
 r1 : Option (Nat × AObj)
 r2 : Option (Nat × AObj)
 r3 : Option (Nat × AObj)
def ActV.o (x : ActV) : AObj := actO x.v0 x.v1 x.v2 x.v3
def ActV.e (x : ActV) (k : Nat) : List (Option (Nat × AObj)) := [some (k, x.o), x.r0, x.r1, x.r2, x.r3]
def ActV.z : ActV := ⟨.slice none 0 0, .slice none 0 0, .slice none 0 0, .slice none 0 0, none, none, none, none⟩
def ActS.z : ActS := ⟨[], [], [], []⟩
structure ARows (s : ActS) (x : ActV) : Prop where
 w0 : Row x.r0 x.v0 zcr 2 (s.outs.flatMap OutC)
 w1 : Row x.r1 x.v1 zcr 2 (s.later.flatMap OutC)
 w2 : Row x.r2 x.v2 TY.int 1 (s.notes.flatMap NoteC)
 w3 : Row x.r3 x.v3 zfw 2 (s.opens.flatMap OpenC)
 l0 : s.outs.length ≤ 10000
 l1 : s.later.length ≤ 10000
 l2 : s.notes.length ≤ 10000
 l3 : s.opens.length ≤ 10000
theorem ARows.z : ARows ActS.z ActV.z := ⟨Row.nil _ _, Row.nil _ _, Row.nil _ _, Row.nil _ _, by simp [ActS.z], by simp [ActS.z], by simp [ActS.z], by simp [ActS.z]⟩
structure ActAt (L : List (Option (Nat × AObj))) (i k : Nat) (x : ActV) : Prop where
 p : L[i]? = some (some (k, x.o))
 q0 : L[i + 1]? = some x.r0
 q1 : L[i + 2]? = some x.r1
 q2 : L[i + 3]? = some x.r2
 q3 : L[i + 4]? = some x.r3
def cutA (s : ActS) (i0 i1 i2 i3 : Int) : ActS := ⟨s.outs.take (min s.outs.length i0.toNat), s.later.take (min s.later.length i1.toNat), s.notes.take (min s.notes.length i2.toNat), s.opens.take (min s.opens.length i3.toNat)⟩
section
variable {B : RO} {h0 h h' : Heap} {L : List (Option (Nat × AObj))} {i k : Nat} {x : ActV} {s : ActS}
theorem ARows.sl (W : ARows s x) : ∃ a0 c0 a1 c1 a2 c2 a3 c3, x.v0 = .slice a0 s.outs.length c0 ∧ x.v1 = .slice a1 s.later.length c1 ∧ x.v2 = .slice a2 s.notes.length c2 ∧ x.v3 = .slice a3 s.opens.length c3 ∧ s.outs.length ≤ c0 ∧ s.later.length ≤ c1 ∧ s.notes.length ≤ c2 ∧ s.opens.length ≤ c3 := by
 obtain ⟨a0, m0, c0, e0⟩ := W.w0.slice
 obtain ⟨a1, m1, c1, e1⟩ := W.w1.slice
 obtain ⟨a2, m2, c2, e2⟩ := W.w2.slice
 obtain ⟨a3, m3, c3, e3⟩ := W.w3.slice
 have R0 := W.w0; rw [e0] at R0
 have R1 := W.w1; rw [e1] at R1
 have R2 := W.w2; rw [e2] at R2
 have R3 := W.w3; rw [e3] at R3
 obtain ⟨rfl, -⟩ := R0.rd (B := fun _ => none) zfi (by omega)
 obtain ⟨rfl, -⟩ := R1.rd (B := fun _ => none) zfi (by omega)
 obtain ⟨rfl, -⟩ := R2.rd (B := fun _ => none) zi8 (by omega)
 obtain ⟨rfl, -⟩ := R3.rd (B := fun _ => none) zi9 (by omega)
 exact ⟨a0, c0, a1, c1, a2, c2, a3, c3, e0, e1, e2, e3, R0.cap, R1.cap, R2.cap, R3.cap⟩
def ALe (s : ActS) (j : Nat) : Prop := s.outs.length ≤ j ∧ s.later.length ≤ j ∧ s.notes.length ≤ j ∧ s.opens.length ≤ j
theorem ALe.mono {j j' : Nat} (h : ALe s j) (hj : j ≤ j') : ALe s j' := ⟨Nat.le_trans h.1 hj, Nat.le_trans h.2.1 hj, Nat.le_trans h.2.2.1 hj, Nat.le_trans h.2.2.2 hj⟩
def AExt (s t : ActS) (n : Nat) : Prop := ∃ e0 e1 e2 e3, t = ⟨s.outs ++ e0, s.later ++ e1, s.notes ++ e2, s.opens ++ e3⟩ ∧ e3.length = n
theorem AExt.refl (s : ActS) : AExt s s 0 := ⟨[], [], [], [], by simp, rfl⟩
theorem AExt.cut {t : ActS} {n : Nat} (h : AExt s t n) : cutA t s.outs.length s.later.length s.notes.length s.opens.length = s ∧ (t.opens.drop (min t.opens.length (Int.toNat (s.opens.length : Nat)))).length = n := by
 obtain ⟨e0, e1, e2, e3, rfl, rfl⟩ := h
 have mn : ∀ {α : Type} (a b : List α), (a ++ b).take (min (a ++ b).length (Int.toNat (a.length : Nat))) = a := fun a b => by
  rw [Int.toNat_natCast, List.length_append, Nat.min_eq_right (by omega), List.take_left]
 refine ⟨?_, ?_⟩
 ·unfold cutA
  simp only [mn]
 ·simp only [Int.toNat_natCast, List.length_append, List.length_drop]
  omega
structure ActR where
 kind : Int
 a : Int
 b : Int
def ActR.cells (x : ActR) : List Value := [.int .i64 x.kind, .int .i64 x.a, .int .i64 x.b]
end
end Go.Proofs.YtgldgabefiialaaGreat.H
