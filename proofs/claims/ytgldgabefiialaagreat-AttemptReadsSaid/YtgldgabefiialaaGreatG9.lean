/- What the law's proof stands on, part 9. No condition. -/
import Derived.Test.YtgldgabefiialaaGreatG8
namespace Go.Proofs.YtgldgabefiialaaGreat.H
open Go Go.RowKit
set_option linter.unusedVariables false
set_option maxRecDepth 100000
section
variable {B : RO} {h0 h h' : Heap} {i j : Int}
theorem X6 {Q : Bool → ByteArray → Int → Heap → Prop} (E : Keep B h0 [] h) (hQ : ∀ h', Keep B h0 [] h' → Q false ByteArray.empty 2 h') : z9 B none i h Q := by
 refine z9.of ?_
 unfold ZL
 intro k a b h1 e1
 have E1 := E.made (o := fO f0) a b e1
 have E2 := E1.putLast (fO f0)
 exact ⟨fun _ => ⟨_, zv E1.last rfl (by simp) (by simp [isOne]) (by simp), _, _, ⟨E2.cell 0 rfl (j := 0) rfl, E2.cell 0 rfl (j := 1) rfl, trivial⟩, Fin.of (hQ _ E2.pop)⟩, fun e => absurd rfl e⟩
theorem ziR {Q : Int → Heap → Prop} (hQ : Q 2 h) : yr B none i j 2 h Q := by
 unfold yr
 exact ⟨fun h0 => absurd h0 (by decide), fun _ => Fin.of hQ⟩
theorem zkE {k : Int} (hk : 0 ≤ k ∧ k < 9) {Q : Int → Int → Heap → Prop} (E : Keep B h0 [] h) (hQ : ∀ x h', Keep B h0 [] h' → Q x 2 h') : yx B none k 0 0 0 h Q := by
 refine yx.of ?_
 unfold ZM
 intro k8 a8 b8 h9 e9
 have E1 := E.made (o := .vec zE (zc [.int .i64 k, .int .i64 0, .int .i64 0, .int .u8 0]) 4) a8 b8 e9
 have c0 := E1.cell (v := .int .i64 k) 0 rfl (j := 0) rfl
 have c1 := E1.cell (v := .int .i64 0) 0 rfl (j := 1) rfl
 have c2 := E1.cell (v := .int .i64 0) 0 rfl (j := 2) rfl
 have c3 := E1.cell (v := .int .u8 0) 0 rfl (j := 3) rfl
 have n1 : Keep B h0 [] h9 := E1.pop
 have blk : ∀ {h1 : Heap} {P : Heap → Prop}, Keep B h0 [] h1 → (∀ h', Keep B h0 [] h' → P h') → ∀ k10 : Nat, h1 k10 = none → B k10 = none → ∀ h11 : Heap, h11 = Heap.set h1 k10 (.vec yG (zc [(.bool false), (.string ByteArray.empty)]) 2) → ∃ h12 : Heap, zi ⟨k10, 0, none⟩ h11 0 [(.bool false), (.string ByteArray.empty)] h12 ∧ P h12 := fun {h1 P} E hP k10 a b h11 e => by
  have E1 := E.made (o := fO f0) a b e
  exact ⟨_, zv E1.last rfl (by simp) (by simp [isOne]) (by simp), hP _ (E1.putLast (fO f0)).pop⟩
 refine ⟨k, c0, fun _ => ?_, fun _ => ⟨fun _ => ?_, fun _ => ⟨fun _ => ?_, fun _ => ⟨fun _ => ?_, fun _ => ⟨fun _ => ?_, fun _ => ⟨fun _ => ?_, fun _ => ⟨fun _ => ?_, fun _ => ⟨fun _ => ?_, fun _ => ⟨fun _ => ?_, fun h8 => by omega⟩⟩⟩⟩⟩⟩⟩⟩⟩
 ·refine ⟨0, c1, yX.of ?_⟩
  unfold Z7
  exact ⟨fun _ => Fin.of (Fin.of (hQ _ _ n1)), fun e => absurd rfl e⟩
 ·refine ⟨0, c1, 0, c2, xf.of ?_⟩
  unfold ZJ
  exact ⟨fun _ => Fin.of (Fin.of (hQ _ _ n1)), fun e => absurd rfl e⟩
 ·refine ⟨0, c1, 0, c2, xV.of ?_⟩
  unfold Z8
  refine X6 n1 fun h2 E2 k10 a b h11 e => ?_
  have E3 := E2.made (o := fO f0) a b e
  exact ⟨_, zv E3.last rfl (by simp) (by simp [isOne]) (by simp), fun e => absurd e (by decide), fun _ => Fin.of (Fin.of (hQ _ _ (E3.putLast (fO f0)).pop))⟩
 ·refine ⟨0, c1, 0, c2, 0, c3, xL.of ?_⟩
  unfold ZK
  exact X6 n1 fun h2 E2 => blk E2 fun h3 E3 => ⟨fun e => absurd e (by decide), fun _ => Fin.of (Fin.of (hQ _ _ E3))⟩
 ·refine ⟨0, c1, xw.of ?_⟩
  unfold Zs
  exact X6 n1 fun h2 E2 => blk E2 fun h3 E3 => ⟨fun e => absurd e (by decide), fun _ => Fin.of (Fin.of (hQ _ _ E3))⟩
 ·refine ⟨0, c1, xy.of ?_⟩
  unfold Zt
  exact X6 n1 fun h2 E2 => blk E2 fun h3 E3 => ⟨fun e => absurd e (by decide), fun _ => Fin.of (Fin.of (hQ _ _ E3))⟩
 ·refine ⟨0, c1, 0, c2, xz.of ?_⟩
  unfold Zu
  refine ⟨fun _ => Fin.of ?_, fun e => absurd rfl e⟩
  unfold xJ
  exact X6 n1 fun h2 E2 => blk E2 fun h3 E3 => ⟨fun e => absurd e (by decide), fun _ => Fin.of (ziR (Fin.of (hQ _ _ E3)))⟩
 ·refine ⟨0, c1, 0, c2, x6.of ?_⟩
  unfold Yi
  exact X6 n1 fun h2 E2 => blk E2 fun h3 E3 => ⟨fun e => absurd e (by decide), fun _ => Fin.of (Fin.of (hQ _ _ E3))⟩
 ·refine ⟨0, c1, xW.of ?_⟩
  unfold Z9
  exact ⟨fun _ => Fin.of (Fin.of (hQ _ _ n1)), fun e => absurd rfl e⟩
end
def regO (g : Reg4) : AObj := .vec Zd (zc [.int .i64 g.a, .int .i64 g.b, .int .i64 g.c, .int .i64 g.d]) 4
section
variable {B : RO} {h0 h h' : Heap} {L M P : List (Option (Nat × AObj))} {V W : VI} {v w : VV} {K K1 K2 Ka Kb : AK} {U U1 U2 Ua Ub : AU} {s s1 s2 sa sb : AV} {k p q k15 : Nat} {i j pl : Int} {c : StV} {g : Reg4} {o o' : AObj} {y z rK : Option (Nat × AObj)} {x : ActV} {t : ActS} {vK : Value} {ms : List MarkR} {text : ByteArray} {Q : Bool → Heap → Prop}
theorem zlo (a b c d : Int) : eqL [.int .i64 a, .int .i64 b, .int .i64 c, .int .i64 d] [.int .i64 a, .int .i64 b, .int .i64 c, .int .i64 d] = true := by simp [eqL, VS]
end
section
variable {B : RO} {h0 h h' : Heap} {i j : Int} {Q : Bool → Heap → Prop}
theorem zkl (E : Keep B h0 [] h) (hQ : ∀ h', Keep B h0 [] h' → Q true h') : xp B 0 0 h Q := by
 unfold xp
 refine ⟨fun _ => ?_, fun e => absurd (show IntKind.wrap .i64 (0 + 0) = 0 by decide) e⟩
 refine vr.of ?_
 unfold Xv
 refine ⟨fun _ => Fin.of ⟨fun _ => ?_, fun e => absurd rfl e⟩, fun e => absurd rfl e⟩
 refine xe.of ?_
 unfold ZI
 refine ⟨fun _ => Fin.of ⟨fun _ => ?_, fun e => absurd rfl e⟩, fun e => absurd rfl e⟩
 refine vw.of ?_
 unfold Xy
 intro k6 a6 b6 h7 e7
 have E1 := E.made (o := regO ⟨0, 0, 0, 0⟩) a6 b6 e7
 have E2 := E1.putLast (regO ⟨0, 0, 0, 0⟩)
 refine ⟨fun _ => ⟨_, zv E1.last rfl (by simp) (by simp [isOne]) (by simp), 0, 0, 0, 0, ⟨E2.cell 0 rfl (j := 0) rfl, E2.cell 0 rfl (j := 1) rfl, E2.cell 0 rfl (j := 2) rfl, E2.cell 0 rfl (j := 3) rfl, trivial⟩, Fin.of ⟨fun _ => ?_, fun e => absurd (zlo _ _ _ _) e⟩⟩, fun e => absurd rfl e⟩
 have E3 := E2.pop
 refine yH.of ?_
 unfold vh
 refine ⟨fun _ => Fin.of ⟨fun e => (by cases e), fun _ => ?_⟩, fun e => absurd rfl e⟩
 refine yW.of ?_
 unfold Z6
 refine yH.of ?_
 unfold vh
 refine ⟨fun _ => Fin.of ⟨fun e => (by cases e), fun _ => Fin.of ⟨fun e => (by cases e), fun _ => ?_⟩⟩, fun e => absurd rfl e⟩
 refine ve.of ?_
 unfold Xl
 intro k9 a9 b9 h10 e10
 have E4 := E3.made (o := .vec XH (zc [.pointer none, .pointer none, .pointer none, .int .i64 0, .int .i64 0, .int .i64 0, .int .i64 0]) 7) a9 b9 e10
 have E5 := E4.putLast (.vec XH (zc [.pointer none, .pointer none, .pointer none, .int .i64 0, .int .i64 0, .int .i64 0, .int .i64 0]) 7)
 refine ⟨fun _ => ⟨_, zv E4.last rfl (by simp) (by simp [isOne]) (by simp), none, none, none, 0, 0, 0, 0, ⟨E5.cell 0 rfl (j := 0) rfl, E5.cell 0 rfl (j := 1) rfl, E5.cell 0 rfl (j := 2) rfl, E5.cell 0 rfl (j := 3) rfl, E5.cell 0 rfl (j := 4) rfl, E5.cell 0 rfl (j := 5) rfl, E5.cell 0 rfl (j := 6) rfl, trivial⟩, Fin.of ⟨fun _ => ?_, fun e => absurd rfl e⟩⟩, fun e => absurd rfl e⟩
 have E6 := E5.pop
 refine xF.of ?_
 unfold YV
 intro k3 a3 b3 h4 e4
 have E7 := E6.made (o := .vec y3 (zc (List.replicate 25 (.int .i64 0))) 25) a3 b3 e4
 have E8 := E7.putLast (.vec y3 (zc (List.replicate 25 (.int .i64 0))) 25)
 refine ⟨fun _ => ⟨_, zv E7.last rfl (by simp) (by simp [isOne]) (by simp), List.replicate 25 (.int .i64 0), by simp, za.of_vec _ 0 E8.last fun j y hj => by rw [show 0 + 0 + j = j by omega]; exact xl hj, Fin.of ⟨0, rfl, Fin.of (hQ _ E8.pop)⟩⟩, fun e => absurd rfl e⟩
theorem zkk (E : Keep B h0 [] h) (hQ : ∀ h', Keep B h0 [] h' → Q true h') : xo B h Q := by
 unfold xo
 refine wM.of ?_
 unfold YQ
 intro k6 a6 b6 h7 e7
 have E1 := (E.made a6 b6 e7).pop
 refine ⟨fun _ => Fin.of ?_, fun e => absurd rfl e⟩
 refine vv.of ?_
 unfold Xx
 refine ⟨fun _ => Fin.of ?_, fun e => absurd rfl e⟩
 refine vx.of ?_
 unfold Xz
 refine ⟨fun _ => Fin.of ?_, fun e => absurd rfl e⟩
 refine vu.of ?_
 unfold Xw
 refine ⟨fun _ => Fin.of ⟨fun e => (by cases e), fun _ => ?_⟩, fun e => absurd rfl e⟩
 refine x9.of ?_
 unfold YU
 refine ⟨fun _ => Fin.of ?_, fun e => absurd rfl e⟩
 refine ⟨fun q m h' => ∃ j : Nat, j ≤ 9 ∧ q = j ∧ m = 9 - j ∧ Keep B h0 [] h', 9, Fin.of ⟨0, by omega, rfl, rfl, E1⟩, ?_⟩
 rintro _ _ h9 ⟨j, hj, rfl, rfl, E2⟩
 exact ⟨fun hlt => zkE ⟨by omega, by omega⟩ E2 fun x h2 E3 => ⟨fun _ => Fin.of ⟨9 - (j + 1), by omega, j + 1, by omega, wrapS (by omega), rfl, E3⟩, fun e => absurd rfl e⟩, fun _ => Fin.of (zkl E2 hQ)⟩
end
section
variable {B : RO} {h0 h h' : Heap} {V : VI} {v : VV} {K : AK} {U : AU} {s : AV} {kr k95 : Nat} {a0 : Option Addr} {c0 : Nat} {vt : Value} {rd r : Option (Nat × AObj)} {ds : List DeedR} {x : StepL} {Q : Bool → Heap → Prop} {a4 : Option Addr} {n5 c6 m83 : Nat} {i81 : Int} {J86 : Int → Nat → Heap → Prop}
theorem zkn (S : SS B h0 ([rd, some (kr, runO V.kV (some ⟨K.kA, 0, none⟩) (.slice a0 ds.length c0) vt), r] ++ [some (k95, .vec yj (zc x.cells) 6)]) h V v K U s) (Rd : DRowD rd (.slice a0 ds.length c0) ds) (hd : ds.length ≤ 1000)
  (go : ∀ a' m' c' r' h1, DRowD r' (.slice a' m' c') (ds ++ [x.d]) → SS B h0 [r', some (kr, runO V.kV (some ⟨K.kA, 0, none⟩) (.slice a' m' c') vt), r] h1 V v K U s → Fin B h1 (fun h' => ∃ m', m' < m83 ∧ J86 (IntKind.wrap .i64 (i81 + 1)) m' h')) : xt B a4 n5 c6 (some ⟨kr, 0, none⟩) i81 m83 J86 k95 h Q := by
 unfold xt
 have hfl := zI DeedR.len ds
 refine ⟨_, rfl, a0, _, c0, S.E.cell 1 rfl (j := 2) rfl, x.d.k, x.d.a, x.d.b, ((x.d.c.toNat : Nat) : Int), ⟨S.E.cell 3 rfl (j := 1) rfl, S.E.cell 3 rfl (j := 2) rfl, S.E.cell 3 rfl (j := 3) rfl, S.E.cell 3 rfl (j := 4) rfl, trivial⟩, fun k437 a437 b437 h438 e438 => ?_⟩
 have E10 := S.E.made a437 b437 e438
 have g10 := E10.last
 refine ⟨E10.cell 1 rfl (j := 2) rfl, ⟨E10.cell 3 rfl (j := 1) rfl, E10.cell 3 rfl (j := 2) rfl, E10.cell 3 rfl (j := 3) rfl, E10.cell 3 rfl (j := 4) rfl, trivial⟩, ?_⟩
 refine E10.pushS 0 (n := 1) (ys := x.d.cells) rfl Rd zaw VN rfl (by omega) (by omega) zba ⟨rfl, DeedR.one _, .inl ⟨_, _, rfl, zd g10 rfl, zd g10 rfl, zd g10 rfl, zd g10 rfl, trivial⟩⟩ (by rw [hfl, DeedR.len]; omega) fun a' m' c' r' h441 R' E11 => ?_
 refine ⟨a', m', c', rfl, E11.cell 1 rfl (j := 2) rfl, ⟨E11.cell 3 rfl (j := 1) rfl, E11.cell 3 rfl (j := 2) rfl, E11.cell 3 rfl (j := 3) rfl, E11.cell 3 rfl (j := 4) rfl, trivial⟩, _, rfl, ?_⟩
 obtain ⟨es, E12⟩ := E11.store 1 2 (.slice a' m' c') rfl rfl
 refine ⟨_, es, go a' m' c' r' _ ?_ ⟨E12.picks [0, 1, 2, 4, 5, 6, 7, 8, 9, 10, 11, 12, 13, 14, 15, 16, 17, 18, 19] (by decide), S.o, S.R, S.O, S.a⟩⟩
 unfold DRowD; rw [List.flatMap_append]; simpa using R'
theorem zkm {y i113 i114 : Int} (S : SS B h0 ([rd, some (kr, runO V.kV (some ⟨K.kA, 0, none⟩) (.slice a0 ds.length c0) vt), r] ++ [some (k95, .vec yj (zc x.cells) 6)]) h V v K U s) (Rd : DRowD rd (.slice a0 ds.length c0) ds) (hd : ds.length ≤ 1000)
  (h0' : i114 = 0 → i113 = y ∧ (x.d.k = 8 → 0 ≤ y)) (h10 : i114 ≠ 0 → i114 = 10 ∧ x.d.k = 8 ∧ y < 0)
  (stay : i114 ≠ 0 → SS B h0 [rd, some (kr, runO V.kV (some ⟨K.kA, 0, none⟩) (.slice a0 ds.length c0) vt), r] h V v K U s → Fin B h (fun h' => ∃ m', m' < m83 ∧ J86 (IntKind.wrap .i64 (i81 + 1)) m' h'))
  (go : i114 = 0 → ∀ a' m' c' r' h1, DRowD r' (.slice a' m' c') (ds ++ [x.d]) → SS B h0 [r', some (kr, runO V.kV (some ⟨K.kA, 0, none⟩) (.slice a' m' c') vt), r] h1 V v K U s → Fin B h1 (fun h' => ∃ m', m' < m83 ∧ J86 (IntKind.wrap .i64 (i81 + 1)) m' h')) : xr B a4 n5 c6 (some ⟨kr, 0, none⟩) i81 m83 J86 k95 i113 i114 y h Q := by
 unfold xr
 have J7 : i114 = 0 → yU B a4 n5 c6 (some ⟨kr, 0, none⟩) i81 m83 J86 k95 i113 i114 y h Q := fun e => by
  unfold yU
  exact ⟨fun _ => ⟨fun _ => Fin.of (zkn S Rd hd (go e)), fun n => absurd (h0' e).1 n⟩, fun n => absurd e n⟩
 refine ⟨x.d.k, S.E.cell 3 rfl (j := 1) rfl, fun h8 => ⟨fun hy => ⟨fun h10' => stay (by omega) S.dP, fun n10 => ?_⟩, fun hy => Fin.of (J7 ?_)⟩, fun n8 => Fin.of (J7 ?_)⟩
 ·exfalso
  by_cases e : i114 = 0
  ·have := (h0' e).2 h8; omega
  ·exact n10 (h10 e).1
 ·by_cases e : i114 = 0
  ·exact e
  ·have := (h10 e).2.2; omega
 ·by_cases e : i114 = 0
  ·exact e
  ·exact absurd (h10 e).2.1 n8
end
def RLb (V : VI) (v : VV) (K : AK) (U : AU) (s : AV) (rd r : Option (Nat × AObj)) (kr k95 k147 : Nat) (vd vt : Value) (x : StepL) : List (Option (Nat × AObj)) := [rd, some (kr, runO V.kV (some ⟨K.kA, 0, none⟩) vd vt), r, some (k95, .vec yj (zc x.cells) 6), some (k147, .vec y1 (zc (txF v.ts)) 3)] ++ (V.e v ++ AE V K U s)
def mtO (k : Nat) : Option (Nat × AObj) := some (k, .vec zE [] 0)
def ddO (k : Nat) (d : DeedR) : Option (Nat × AObj) := some (k, .vec zE (zc d.cells) 4)
def thO (k : Nat) : Option (Nat × AObj) := some (k, .vec zw (zc thZ) 23)
section
variable {B : RO} {h0 h h' : Heap} {V : VI} {v : VV} {K : AK} {U : AU} {s : AV} {kr k95 k147 : Nat} {a0 : Option Addr} {c0 n194 c195 : Nat} {A198 : Addr} {rd r : Option (Nat × AObj)} {ds : List DeedR} {x : StepL} {ws : List VV} {w : VV} {st : Int} {M : List (Option (Nat × AObj))}
structure RC (B : RO) (v : VV) (rd r : Option (Nat × AObj)) (a0 : Option Addr) (c0 : Nat) (A198 : Addr) (n194 c195 : Nat) (ds : List DeedR) (x : StepL) (ws : List VV) (w : VV) (st : Int) : Prop where
 rd : DRowD rd (.slice a0 ds.length c0) ds
 tr : TRow r (.slice (some A198) n194 c195) ws
 hd : ds.length ≤ 900
 hw : ws[st.toNat]? = some w
 g : ∀ d ∈ ds ++ [x.d], goodD d
 o : OkX ({ w with ts := v.ts }, [])
theorem RF (C : RC B v rd r a0 c0 A198 n194 c195 ds x ws w st) (E : Keep B h0 (RLb V v K U s rd r kr k95 k147 (.slice a0 ds.length c0) (.slice (some A198) n194 c195) x ++ M) h) : cellH B h (Addr.add ⟨kr, 0, none⟩ 3) = some (.slice (some A198) n194 c195) ∧ za B h (Addr.add A198 (Int.toNat st * 23)) 0 (thF w) ∧ za B h ⟨k147, 0, none⟩ 0 [.string (zW v.ts 0), .string (zW v.ts 1), .string (zW v.ts 2)] ∧ cellH B h (Addr.add ⟨kr, 0, none⟩ 2) = some (.slice a0 ds.length c0) ∧ za B h ⟨k95, 1, none⟩ 0 [.int .i64 x.d.k, .int .i64 x.d.a, .int .i64 x.d.b, .int .u8 ((x.d.c.toNat : Nat) : Int)] := by
 obtain ⟨-, rt⟩ := Row.rd (B := B) C.tr (fun y => zd9 (v := y)) (by omega)
 obtain ⟨A, f1, _, f3⟩ := rt h (fun k o e => E.at 2 (congrArg some e)) st.toNat w C.hw
 cases f1
 have g95 := E.at (k := k95) (o := .vec yj (zc x.cells) 6) 3 rfl
 have g147 := E.at (k := k147) (o := .vec y1 (zc (txF v.ts)) 3) 4 rfl
 exact ⟨E.cell 1 rfl (j := 3) rfl, f3, ⟨zd g147 rfl, zd g147 rfl, zd g147 rfl, trivial⟩, E.cell 1 rfl (j := 2) rfl, ⟨zd g95 rfl, zd g95 rfl, zd g95 rfl, zd g95 rfl, trivial⟩⟩
theorem RA1 {p kM : Nat} {G : Value → Heap → Prop} (C : RC B v rd r a0 c0 A198 n194 c195 ds x ws w st) (E : Keep B h0 (RLb V v K U s rd r kr k95 k147 (.slice a0 ds.length c0) (.slice (some A198) n194 c195) x ++ M) h) (hM : M[p]? = some (mtO kM))
  (hG : ∀ a' m' c' r' h', Row r' (.slice a' m' c') zE 4 (ds.flatMap DeedR.cells) → Keep B h0 (RLb V v K U s rd r kr k95 k147 (.slice a0 ds.length c0) (.slice (some A198) n194 c195) x ++ M.set p r') h' → G (.slice a' m' c') h') : semH PG B (Builtin.append_ #[ye, ye] ye #[.slice (some ⟨kM, 0, none⟩) 0 0, .slice a0 ds.length c0]) h G := by
 have hfl := zI DeedR.len ds
 have hd := C.hd
 refine E.pushS (r := mtO kM) ((RLb V v K U s rd r kr k95 k147 (.slice a0 ds.length c0) (.slice (some A198) n194 c195) x).length + p) (upM p hM) (e := zE) (sz := 4) (xs := []) (.inr ⟨kM, 0, 0, 0, [], rfl, rfl, by simp, Nat.le_refl _, by simp⟩) zaw VN rfl (by omega) (by omega) zba (Row.src (B := B) C.rd (fun k o e => E.at 0 (congrArg some e)) DeedR.len (by omega) DeedR.one) (by rw [hfl]; simp; omega) fun a' m' c' r' h' R' E' => hG a' m' c' r' h' (by rw [List.nil_append] at R'; exact R') (by rw [setM] at E'; exact E')
theorem RA2 {p q kD m' c' : Nat} {a' : Option Addr} {r' : Option (Nat × AObj)} {G : Value → Heap → Prop} (C : RC B v rd r a0 c0 A198 n194 c195 ds x ws w st) (E : Keep B h0 (RLb V v K U s rd r kr k95 k147 (.slice a0 ds.length c0) (.slice (some A198) n194 c195) x ++ M) h) (hM : M[p]? = some r') (R' : Row r' (.slice a' m' c') zE 4 (ds.flatMap DeedR.cells)) (hD : M[q]? = some (ddO kD x.d))
  (hG : ∀ a' c' r' h', Row r' (.slice a' (ds ++ [x.d]).length c') zE 4 ((ds ++ [x.d]).flatMap DeedR.cells) → Keep B h0 (RLb V v K U s rd r kr k95 k147 (.slice a0 ds.length c0) (.slice (some A198) n194 c195) x ++ M.set p r') h' → G (.slice a' (ds ++ [x.d]).length c') h') : semH PG B (Builtin.append_ #[ye, ye] ye #[.slice a' m' c', .slice (some ⟨kD, 0, none⟩) 1 1]) h G := by
 have hfl := zI DeedR.len ds
 have hd := C.hd
 have g := E.gM (k := kD) (o := .vec zE (zc x.d.cells) 4) q hD
 refine E.pushS (n := 1) (ys := x.d.cells) ((RLb V v K U s rd r kr k95 k147 (.slice a0 ds.length c0) (.slice (some A198) n194 c195) x).length + p) (upM p hM) R' zaw VN rfl (by omega) (by omega) zba ⟨rfl, DeedR.one _, .inl ⟨_, _, rfl, zd g rfl, zd g rfl, zd g rfl, zd g rfl, trivial⟩⟩ (by rw [hfl, DeedR.len]; omega) fun a'' m'' c'' r'' h'' R'' E'' => ?_
 have e : ds.flatMap DeedR.cells ++ x.d.cells = (ds ++ [x.d]).flatMap DeedR.cells := by rw [List.flatMap_append]; simp
 rw [e] at R''
 obtain rfl := (Row.rd (B := B) R'' DeedR.len (by omega)).1
 exact hG a'' c'' r'' h'' R'' (by rw [setM] at E''; exact E'')
theorem RDo {p c' : Nat} {a' : Option Addr} {r' : Option (Nat × AObj)} {G : Int → List Value → Heap → Prop} (C : RC B v rd r a0 c0 A198 n194 c195 ds x ws w st) (E : Keep B h0 (RLb V v K U s rd r kr k95 k147 (.slice a0 ds.length c0) (.slice (some A198) n194 c195) x ++ M) h) (hM : M[p]? = some r') (R' : Row r' (.slice a' (ds ++ [x.d]).length c') zE 4 ((ds ++ [x.d]).flatMap DeedR.cells))
  (hG : ∀ h', Keep B h0 (RLb V v K U s rd r kr k95 k147 (.slice a0 ds.length c0) (.slice (some A198) n194 c195) x ++ M) h' → G (DoR { w with ts := v.ts } (ds ++ [x.d])).2 (thF (finV (DoR { w with ts := v.ts } (ds ++ [x.d])).1)) h') : zQ B (thF w) (zW v.ts 0) (zW v.ts 1) (zW v.ts 2) a' (ds ++ [x.d]).length c' h G := by
 obtain ⟨-, rr⟩ := Row.rd (B := B) R' DeedR.len (by omega)
 have hd := C.hd
 exact zkT (v := { w with ts := v.ts }) E (fun h1 E1 => rr h1 fun k o e => by subst e; exact E1.gM p hM) (by simp; omega) C.g C.o hG
section
variable {Q : Bool → Heap → Prop} {a4 : Option Addr} {n5 c6 m83 : Nat} {i81 : Int} {J86 : Int → Nat → Heap → Prop}
structure RG (B : RO) (h0 : Heap) (V : VI) (v : VV) (K : AK) (U : AU) (s : AV) (rd r : Option (Nat × AObj)) (kr k95 : Nat) (a0 : Option Addr) (c0 : Nat) (vt : Value) (ds : List DeedR) (x : StepL) (w : VV) (i113 i114 : Int) (Gn : Heap → Prop) : Prop where
 o : VOk V v
 P : Pas v U s
 z : i114 = 0 → i113 = (DoR { w with ts := v.ts } (ds ++ [x.d])).2 ∧ (x.d.k = 8 → 0 ≤ (DoR { w with ts := v.ts } (ds ++ [x.d])).2)
 n : i114 ≠ 0 → i114 = 10 ∧ x.d.k = 8 ∧ (DoR { w with ts := v.ts } (ds ++ [x.d])).2 < 0
 stay : i114 ≠ 0 → ∀ h, SS B h0 [rd, some (kr, runO V.kV (some ⟨K.kA, 0, none⟩) (.slice a0 ds.length c0) vt), r] h V v K U s → Fin B h Gn
 go : i114 = 0 → ∀ a' m' c' r' h1, DRowD r' (.slice a' m' c') (ds ++ [x.d]) → SS B h0 [r', some (kr, runO V.kV (some ⟨K.kA, 0, none⟩) (.slice a' m' c') vt), r] h1 V v K U s → Fin B h1 Gn
variable {i113 i114 : Int}
theorem RJ9 {p kZ : Nat} {k147' : Nat} {A189 A198' A210 : Addr} {a193 a214 : Option Addr} {n194' c195' n215 c216 : Nat} {l203 : List Value} {s205 s206 s207 : ByteArray} {i134 i219 i220 i221 i222 : Int} (C : RC B v rd r a0 c0 A198 n194 c195 ds x ws w st) (G : RG B h0 V v K U s rd r kr k95 a0 c0 (.slice (some A198) n194 c195) ds x w i113 i114 (fun h' => ∃ m', m' < m83 ∧ J86 (IntKind.wrap .i64 (i81 + 1)) m' h')) (E : Keep B h0 (RLb V v K U s rd r kr k95 k147 (.slice a0 ds.length c0) (.slice (some A198) n194 c195) x ++ M) h) (hM : M[p]? = some (thO kZ)) :
  zy B a4 n5 c6 (some ⟨kr, 0, none⟩) i81 m83 J86 k95 i113 i114 i134 k147' A189 a193 n194' c195' A198' l203 s205 s206 s207 A210 a214 n215 c216 i219 i220 i221 i222 ⟨kZ, 0, none⟩ (DoR { w with ts := v.ts } (ds ++ [x.d])).2 (thF (finV (DoR { w with ts := v.ts } (ds ++ [x.d])).1)) h Q := by
 unfold zy
 refine ⟨rfl, _, zv (E.gM (k := kZ) (o := .vec zw (zc thZ) 23) p hM) rfl (by simp [thF]) (WG _) (by simp [thF]), Fin.of ?_⟩
 have E1 := (E.pM (k := kZ) (o := .vec zw (zc thZ) 23) (o' := .vec zw (zc (thF (finV (DoR { w with ts := v.ts } (ds ++ [x.d])).1))) 23) p hM).popL
 have E2 : Keep B h0 ([rd, some (kr, runO V.kV (some ⟨K.kA, 0, none⟩) (.slice a0 ds.length c0) (.slice (some A198) n194 c195)), r] ++ [some (k95, .vec yj (zc x.cells) 6)] ++ (V.e v ++ AE V K U s)) _ := E1.picks [0, 1, 2, 3, 5, 6, 7, 8, 9, 10, 11, 12, 13, 14, 15, 16, 17, 18, 19, 20] (by decide)
 exact zkm (.of E2 G.o G.P) C.rd (by have := C.hd; omega) G.z G.n (fun e S => G.stay e _ S) (fun e a' m' c' r' h1 R S => G.go e a' m' c' r' h1 R S)
theorem RJ10 {p q t kZ kD m' c' : Nat} {a' : Option Addr} {r' : Option (Nat × AObj)} (C : RC B v rd r a0 c0 A198 n194 c195 ds x ws w st) (G : RG B h0 V v K U s rd r kr k95 a0 c0 (.slice (some A198) n194 c195) ds x w i113 i114 (fun h' => ∃ m', m' < m83 ∧ J86 (IntKind.wrap .i64 (i81 + 1)) m' h')) (E : Keep B h0 (RLb V v K U s rd r kr k95 k147 (.slice a0 ds.length c0) (.slice (some A198) n194 c195) x ++ M) h) (hM : M[p]? = some r') (R' : Row r' (.slice a' m' c') zE 4 (ds.flatMap DeedR.cells)) (hD : M[q]? = some (ddO kD x.d)) (hZ : M[t]? = some (thO kZ)) (hn : p ≠ t := by decide) :
  yS B a4 n5 c6 (some ⟨kr, 0, none⟩) i81 m83 J86 k95 i113 i114 st k147 ⟨kr, 0, none⟩ (some A198) n194 c195 A198 (thF w) (zW v.ts 0) (zW v.ts 1) (zW v.ts 2) ⟨kr, 0, none⟩ a0 ds.length c0 x.d.k x.d.a x.d.b ((x.d.c.toNat : Nat) : Int) kZ a' m' c' (some ⟨kD, 0, none⟩) 1 1 h Q := by
 unfold yS
 refine RA2 C E hM R' hD fun a2 c2 r2 h2 R2 E2 => ⟨a2, _, c2, rfl, ?_⟩
 obtain ⟨f1, f2, f3, f4, f5⟩ := RF C E2
 refine ⟨f1, f2, f3, f4, f5, RDo C E2 (p := p) (by rw [List.getElem?_set_self (List.getElem?_eq_some_iff.1 hM).1]) R2 fun h3 E3 => ?_⟩
 obtain ⟨f1, f2, f3, f4, f5⟩ := RF C E3
 exact ⟨f1, f2, f3, f4, f5, RJ9 C G E3 (p := t) (by rw [List.getElem?_set_ne hn]; exact hZ)⟩
theorem RJ11 {p q t kZ kD m' c' : Nat} {a' : Option Addr} {r' : Option (Nat × AObj)} (C : RC B v rd r a0 c0 A198 n194 c195 ds x ws w st) (G : RG B h0 V v K U s rd r kr k95 a0 c0 (.slice (some A198) n194 c195) ds x w i113 i114 (fun h' => ∃ m', m' < m83 ∧ J86 (IntKind.wrap .i64 (i81 + 1)) m' h')) (E : Keep B h0 (RLb V v K U s rd r kr k95 k147 (.slice a0 ds.length c0) (.slice (some A198) n194 c195) x ++ M) h) (hM : M[p]? = some r') (R' : Row r' (.slice a' m' c') zE 4 (ds.flatMap DeedR.cells)) (hD : M[q]? = some (ddO kD x.d)) (hZ : M[t]? = some (thO kZ)) (hn : p ≠ t := by decide) :
  yC B a4 n5 c6 (some ⟨kr, 0, none⟩) i81 m83 J86 k95 i113 i114 st k147 ⟨kr, 0, none⟩ (some A198) n194 c195 A198 (thF w) (zW v.ts 0) (zW v.ts 1) (zW v.ts 2) ⟨kr, 0, none⟩ a0 ds.length c0 x.d.k x.d.a x.d.b ((x.d.c.toNat : Nat) : Int) kZ a' m' c' (some ⟨kD, 0, none⟩) 1 1 h Q := by
 unfold yC
 refine RA2 C E hM R' hD fun a2 c2 r2 h2 R2 E2 => ⟨a2, _, c2, rfl, ?_⟩
 obtain ⟨f1, f2, f3, f4, f5⟩ := RF C E2
 refine ⟨f1, f2, f3, f4, f5, RDo C E2 (p := p) (by rw [List.getElem?_set_self (List.getElem?_eq_some_iff.1 hM).1]) R2 fun h3 E3 => ?_⟩
 obtain ⟨f1, f2, f3, f4, f5⟩ := RF C E3
 exact ⟨f1, f2, f3, f4, f5, RJ9 C G E3 (p := t) (by rw [List.getElem?_set_ne hn]; exact hZ)⟩
set_option maxHeartbeats 4000000 in
theorem zhx (C : RC B v rd r a0 c0 A198 n194 c195 ds x ws w st) (G : RG B h0 V v K U s rd r kr k95 a0 c0 (.slice (some A198) n194 c195) ds x w i113 i114 (fun h' => ∃ m', m' < m83 ∧ J86 (IntKind.wrap .i64 (i81 + 1)) m' h')) (S : SS B h0 ([rd, some (kr, runO V.kV (some ⟨K.kA, 0, none⟩) (.slice a0 ds.length c0) (.slice (some A198) n194 c195)), r] ++ [some (k95, .vec yj (zc x.cells) 6)]) h V v K U s) (h0' : 0 ≤ st) (hl : st < (ws.length : Nat)) : xq B a4 n5 c6 (some ⟨kr, 0, none⟩) i81 m83 J86 k95 i113 i114 st h Q := by
 unfold xq
 obtain ⟨hm, -⟩ := Row.rd (B := B) C.tr (fun y => zd9 (v := y)) (by omega)
 subst hm
 refine ⟨_, rfl, _, S.E.cell 1 rfl (j := 0) rfl, zb3 S.E VAt.mk S.o fun h140 E1 k145 a145 b145 h146 e146 k147 a147 b147 h148 e148 => ?_⟩
 have S2 := ((S.e E1).nP a145 b145 e146).nP a147 b147 e148
 refine ⟨rfl, _, zv S2.gP' rfl (by simp [thF]) (WG _) (by simp [thF]), ?_⟩
 have S3 := S2.pP' (o' := .vec zw (zc (thF v)) 23)
 refine ⟨_, zv S3.gP rfl (by simp) (by simp [isOne]) (by simp), ?_⟩
 have S4 := S3.pP (o' := .vec y1 (zc (txF v.ts)) 3)
 have E : Keep B h0 (RLb V v K U s rd r kr k95 k147 (.slice a0 ds.length c0) (.slice (some A198) ws.length c195) x ++ []) _ := S4.E.picks [0, 1, 2, 3, 5, 6, 7, 8, 9, 10, 11, 12, 13, 14, 15, 16, 17, 18, 19, 20, 21] (by decide)
 clear S S2 S3 S4 E1
 obtain ⟨f1, f2, f3, f4, f5⟩ := RF C E
 refine ⟨_, rfl, _, _, _, f1, _, rfl, h0', hl, _, rfl, f2, _, _, _, f3, _, rfl, _, _, _, f4, _, _, _, _, f5, ?_⟩
 clear f1 f2 f3 f4 f5
 refine ⟨?_, ?_, ?_⟩
 ·skip
  intro k1 a1 b1 h1 e1
  have E1 : Keep B h0 (RLb V v K U s rd r kr k95 k147 (.slice a0 ds.length c0) (.slice (some A198) ws.length c195) x ++ [mtO k1]) h1 := E.nM a1 b1 e1
  obtain ⟨f1, f2, f3, f4, f5⟩ := RF C E1
  refine ⟨f1, f2, f3, f4, f5, ?_⟩
  clear f1 f2 f3 f4 f5
  refine ⟨?_, ?_, ?_⟩
  ·skip
   refine RA1 C E1 (p := 0) rfl fun a2 m2 c2 r2 h2 R2 E2 => ?_
   replace E2 : Keep B h0 (RLb V v K U s rd r kr k95 k147 (.slice a0 ds.length c0) (.slice (some A198) ws.length c195) x ++ [r2]) h2 := E2
   refine ⟨a2, m2, c2, rfl, ?_⟩
   obtain ⟨f1, f2, f3, f4, f5⟩ := RF C E2
   refine ⟨f1, f2, f3, f4, f5, ?_⟩
   clear f1 f2 f3 f4 f5
   refine ⟨?_, ?_⟩
   ·skip
    intro k3 a3 b3 h3 e3
    have E3 : Keep B h0 (RLb V v K U s rd r kr k95 k147 (.slice a0 ds.length c0) (.slice (some A198) ws.length c195) x ++ [r2, ddO k3 x.d]) h3 := E2.nM a3 b3 e3
    obtain ⟨f1, f2, f3, f4, f5⟩ := RF C E3
    refine ⟨f1, f2, f3, f4, f5, ?_⟩
    clear f1 f2 f3 f4 f5
    refine ⟨?_, ?_⟩
    ·skip
     refine RA2 C E3 (p := 0) rfl R2 (q := 1) rfl fun a4 c4 r4 h4 R4 E4 => ?_
     replace E4 : Keep B h0 (RLb V v K U s rd r kr k95 k147 (.slice a0 ds.length c0) (.slice (some A198) ws.length c195) x ++ [r4, ddO k3 x.d]) h4 := E4
     refine ⟨a4, _, c4, rfl, ?_⟩
     obtain ⟨f1, f2, f3, f4, f5⟩ := RF C E4
     refine ⟨f1, f2, f3, f4, f5, ?_⟩
     clear f1 f2 f3 f4 f5
     refine ⟨?_, ?_⟩
     ·skip
      refine RDo C E4 (p := 0) rfl R4 fun h5 E5 => ?_
      obtain ⟨f1, f2, f3, f4, f5⟩ := RF C E5
      refine ⟨f1, f2, f3, f4, f5, ?_⟩
      clear f1 f2 f3 f4 f5
      intro k6 a6 b6 h6 e6
      have E6 : Keep B h0 (RLb V v K U s rd r kr k95 k147 (.slice a0 ds.length c0) (.slice (some A198) ws.length c195) x ++ [r4, ddO k3 x.d, thO k6]) h6 := E5.nM a6 b6 e6
      obtain ⟨f1, f2, f3, f4, f5⟩ := RF C E6
      refine ⟨f1, f2, f3, f4, f5, ?_⟩
      clear f1 f2 f3 f4 f5
      exact RJ9 C G E6 (p := 2) rfl
     ·skip
      intro k7 a7 b7 h7 e7
      have E7 : Keep B h0 (RLb V v K U s rd r kr k95 k147 (.slice a0 ds.length c0) (.slice (some A198) ws.length c195) x ++ [r4, ddO k3 x.d, thO k7]) h7 := E4.nM a7 b7 e7
      obtain ⟨f1, f2, f3, f4, f5⟩ := RF C E7
      refine ⟨f1, f2, f3, f4, f5, ?_⟩
      clear f1 f2 f3 f4 f5
      refine RDo C E7 (p := 0) rfl R4 fun h8 E8 => ?_
      obtain ⟨f1, f2, f3, f4, f5⟩ := RF C E8
      refine ⟨f1, f2, f3, f4, f5, ?_⟩
      clear f1 f2 f3 f4 f5
      exact RJ9 C G E8 (p := 2) rfl
    ·skip
     intro k9 a9 b9 h9 e9
     have E9 : Keep B h0 (RLb V v K U s rd r kr k95 k147 (.slice a0 ds.length c0) (.slice (some A198) ws.length c195) x ++ [r2, ddO k3 x.d, thO k9]) h9 := E3.nM a9 b9 e9
     obtain ⟨f1, f2, f3, f4, f5⟩ := RF C E9
     refine ⟨f1, f2, f3, f4, f5, ?_⟩
     clear f1 f2 f3 f4 f5
     refine RA2 C E9 (p := 0) rfl R2 (q := 1) rfl fun a10 c10 r10 h10 R10 E10 => ?_
     replace E10 : Keep B h0 (RLb V v K U s rd r kr k95 k147 (.slice a0 ds.length c0) (.slice (some A198) ws.length c195) x ++ [r10, ddO k3 x.d, thO k9]) h10 := E10
     refine ⟨a10, _, c10, rfl, ?_⟩
     obtain ⟨f1, f2, f3, f4, f5⟩ := RF C E10
     refine ⟨f1, f2, f3, f4, f5, ?_⟩
     clear f1 f2 f3 f4 f5
     refine RDo C E10 (p := 0) rfl R10 fun h11 E11 => ?_
     obtain ⟨f1, f2, f3, f4, f5⟩ := RF C E11
     refine ⟨f1, f2, f3, f4, f5, ?_⟩
     clear f1 f2 f3 f4 f5
     exact RJ9 C G E11 (p := 2) rfl
   ·skip
    intro k12 a12 b12 h12 e12
    have E12 : Keep B h0 (RLb V v K U s rd r kr k95 k147 (.slice a0 ds.length c0) (.slice (some A198) ws.length c195) x ++ [r2, thO k12]) h12 := E2.nM a12 b12 e12
    obtain ⟨f1, f2, f3, f4, f5⟩ := RF C E12
    refine ⟨f1, f2, f3, f4, f5, ?_⟩
    clear f1 f2 f3 f4 f5
    intro k13 a13 b13 h13 e13
    have E13 : Keep B h0 (RLb V v K U s rd r kr k95 k147 (.slice a0 ds.length c0) (.slice (some A198) ws.length c195) x ++ [r2, thO k12, ddO k13 x.d]) h13 := E12.nM a13 b13 e13
    obtain ⟨f1, f2, f3, f4, f5⟩ := RF C E13
    refine ⟨f1, f2, f3, f4, f5, ?_⟩
    clear f1 f2 f3 f4 f5
    refine RA2 C E13 (p := 0) rfl R2 (q := 2) rfl fun a14 c14 r14 h14 R14 E14 => ?_
    replace E14 : Keep B h0 (RLb V v K U s rd r kr k95 k147 (.slice a0 ds.length c0) (.slice (some A198) ws.length c195) x ++ [r14, thO k12, ddO k13 x.d]) h14 := E14
    refine ⟨a14, _, c14, rfl, ?_⟩
    obtain ⟨f1, f2, f3, f4, f5⟩ := RF C E14
    refine ⟨f1, f2, f3, f4, f5, ?_⟩
    clear f1 f2 f3 f4 f5
    refine RDo C E14 (p := 0) rfl R14 fun h15 E15 => ?_
    obtain ⟨f1, f2, f3, f4, f5⟩ := RF C E15
    refine ⟨f1, f2, f3, f4, f5, ?_⟩
    clear f1 f2 f3 f4 f5
    exact RJ9 C G E15 (p := 1) rfl
  ·skip
   intro k16 a16 b16 h16 e16
   have E16 : Keep B h0 (RLb V v K U s rd r kr k95 k147 (.slice a0 ds.length c0) (.slice (some A198) ws.length c195) x ++ [mtO k1, ddO k16 x.d]) h16 := E1.nM a16 b16 e16
   obtain ⟨f1, f2, f3, f4, f5⟩ := RF C E16
   refine ⟨f1, f2, f3, f4, f5, ?_⟩
   clear f1 f2 f3 f4 f5
   refine ⟨?_, ?_⟩
   ·skip
    refine RA1 C E16 (p := 0) rfl fun a17 m17 c17 r17 h17 R17 E17 => ?_
    replace E17 : Keep B h0 (RLb V v K U s rd r kr k95 k147 (.slice a0 ds.length c0) (.slice (some A198) ws.length c195) x ++ [r17, ddO k16 x.d]) h17 := E17
    refine ⟨a17, m17, c17, rfl, ?_⟩
    obtain ⟨f1, f2, f3, f4, f5⟩ := RF C E17
    refine ⟨f1, f2, f3, f4, f5, ?_⟩
    clear f1 f2 f3 f4 f5
    refine ⟨?_, ?_⟩
    ·skip
     refine RA2 C E17 (p := 0) rfl R17 (q := 1) rfl fun a18 c18 r18 h18 R18 E18 => ?_
     replace E18 : Keep B h0 (RLb V v K U s rd r kr k95 k147 (.slice a0 ds.length c0) (.slice (some A198) ws.length c195) x ++ [r18, ddO k16 x.d]) h18 := E18
     refine ⟨a18, _, c18, rfl, ?_⟩
     obtain ⟨f1, f2, f3, f4, f5⟩ := RF C E18
     refine ⟨f1, f2, f3, f4, f5, ?_⟩
     clear f1 f2 f3 f4 f5
     refine ⟨?_, ?_⟩
     ·skip
      refine RDo C E18 (p := 0) rfl R18 fun h19 E19 => ?_
      obtain ⟨f1, f2, f3, f4, f5⟩ := RF C E19
      refine ⟨f1, f2, f3, f4, f5, ?_⟩
      clear f1 f2 f3 f4 f5
      intro k20 a20 b20 h20 e20
      have E20 : Keep B h0 (RLb V v K U s rd r kr k95 k147 (.slice a0 ds.length c0) (.slice (some A198) ws.length c195) x ++ [r18, ddO k16 x.d, thO k20]) h20 := E19.nM a20 b20 e20
      obtain ⟨f1, f2, f3, f4, f5⟩ := RF C E20
      refine ⟨f1, f2, f3, f4, f5, ?_⟩
      clear f1 f2 f3 f4 f5
      exact RJ9 C G E20 (p := 2) rfl
     ·skip
      intro k21 a21 b21 h21 e21
      have E21 : Keep B h0 (RLb V v K U s rd r kr k95 k147 (.slice a0 ds.length c0) (.slice (some A198) ws.length c195) x ++ [r18, ddO k16 x.d, thO k21]) h21 := E18.nM a21 b21 e21
      obtain ⟨f1, f2, f3, f4, f5⟩ := RF C E21
      refine ⟨f1, f2, f3, f4, f5, ?_⟩
      clear f1 f2 f3 f4 f5
      refine RDo C E21 (p := 0) rfl R18 fun h22 E22 => ?_
      obtain ⟨f1, f2, f3, f4, f5⟩ := RF C E22
      refine ⟨f1, f2, f3, f4, f5, ?_⟩
      clear f1 f2 f3 f4 f5
      exact RJ9 C G E22 (p := 2) rfl
    ·skip
     intro k23 a23 b23 h23 e23
     have E23 : Keep B h0 (RLb V v K U s rd r kr k95 k147 (.slice a0 ds.length c0) (.slice (some A198) ws.length c195) x ++ [r17, ddO k16 x.d, thO k23]) h23 := E17.nM a23 b23 e23
     obtain ⟨f1, f2, f3, f4, f5⟩ := RF C E23
     refine ⟨f1, f2, f3, f4, f5, ?_⟩
     clear f1 f2 f3 f4 f5
     refine RA2 C E23 (p := 0) rfl R17 (q := 1) rfl fun a24 c24 r24 h24 R24 E24 => ?_
     replace E24 : Keep B h0 (RLb V v K U s rd r kr k95 k147 (.slice a0 ds.length c0) (.slice (some A198) ws.length c195) x ++ [r24, ddO k16 x.d, thO k23]) h24 := E24
     refine ⟨a24, _, c24, rfl, ?_⟩
     obtain ⟨f1, f2, f3, f4, f5⟩ := RF C E24
     refine ⟨f1, f2, f3, f4, f5, ?_⟩
     clear f1 f2 f3 f4 f5
     refine RDo C E24 (p := 0) rfl R24 fun h25 E25 => ?_
     obtain ⟨f1, f2, f3, f4, f5⟩ := RF C E25
     refine ⟨f1, f2, f3, f4, f5, ?_⟩
     clear f1 f2 f3 f4 f5
     exact RJ9 C G E25 (p := 2) rfl
   ·skip
    intro k26 a26 b26 h26 e26
    have E26 : Keep B h0 (RLb V v K U s rd r kr k95 k147 (.slice a0 ds.length c0) (.slice (some A198) ws.length c195) x ++ [mtO k1, ddO k16 x.d, thO k26]) h26 := E16.nM a26 b26 e26
    obtain ⟨f1, f2, f3, f4, f5⟩ := RF C E26
    refine ⟨f1, f2, f3, f4, f5, ?_⟩
    clear f1 f2 f3 f4 f5
    refine RA1 C E26 (p := 0) rfl fun a27 m27 c27 r27 h27 R27 E27 => ?_
    replace E27 : Keep B h0 (RLb V v K U s rd r kr k95 k147 (.slice a0 ds.length c0) (.slice (some A198) ws.length c195) x ++ [r27, ddO k16 x.d, thO k26]) h27 := E27
    refine ⟨a27, m27, c27, rfl, ?_⟩
    obtain ⟨f1, f2, f3, f4, f5⟩ := RF C E27
    refine ⟨f1, f2, f3, f4, f5, ?_⟩
    clear f1 f2 f3 f4 f5
    refine RA2 C E27 (p := 0) rfl R27 (q := 1) rfl fun a28 c28 r28 h28 R28 E28 => ?_
    replace E28 : Keep B h0 (RLb V v K U s rd r kr k95 k147 (.slice a0 ds.length c0) (.slice (some A198) ws.length c195) x ++ [r28, ddO k16 x.d, thO k26]) h28 := E28
    refine ⟨a28, _, c28, rfl, ?_⟩
    obtain ⟨f1, f2, f3, f4, f5⟩ := RF C E28
    refine ⟨f1, f2, f3, f4, f5, ?_⟩
    clear f1 f2 f3 f4 f5
    refine RDo C E28 (p := 0) rfl R28 fun h29 E29 => ?_
    obtain ⟨f1, f2, f3, f4, f5⟩ := RF C E29
    refine ⟨f1, f2, f3, f4, f5, ?_⟩
    clear f1 f2 f3 f4 f5
    exact RJ9 C G E29 (p := 2) rfl
  ·skip
   intro k30 a30 b30 h30 e30
   have E30 : Keep B h0 (RLb V v K U s rd r kr k95 k147 (.slice a0 ds.length c0) (.slice (some A198) ws.length c195) x ++ [mtO k1, thO k30]) h30 := E1.nM a30 b30 e30
   obtain ⟨f1, f2, f3, f4, f5⟩ := RF C E30
   refine ⟨f1, f2, f3, f4, f5, ?_⟩
   clear f1 f2 f3 f4 f5
   refine ⟨?_, ?_⟩
   ·skip
    refine RA1 C E30 (p := 0) rfl fun a31 m31 c31 r31 h31 R31 E31 => ?_
    replace E31 : Keep B h0 (RLb V v K U s rd r kr k95 k147 (.slice a0 ds.length c0) (.slice (some A198) ws.length c195) x ++ [r31, thO k30]) h31 := E31
    refine ⟨a31, m31, c31, rfl, ?_⟩
    obtain ⟨f1, f2, f3, f4, f5⟩ := RF C E31
    refine ⟨f1, f2, f3, f4, f5, ?_⟩
    clear f1 f2 f3 f4 f5
    intro k32 a32 b32 h32 e32
    have E32 : Keep B h0 (RLb V v K U s rd r kr k95 k147 (.slice a0 ds.length c0) (.slice (some A198) ws.length c195) x ++ [r31, thO k30, ddO k32 x.d]) h32 := E31.nM a32 b32 e32
    obtain ⟨f1, f2, f3, f4, f5⟩ := RF C E32
    refine ⟨f1, f2, f3, f4, f5, ?_⟩
    clear f1 f2 f3 f4 f5
    exact RJ10 C G E32 (p := 0) (q := 2) (t := 1) rfl R31 rfl rfl
   ·skip
    intro k33 a33 b33 h33 e33
    have E33 : Keep B h0 (RLb V v K U s rd r kr k95 k147 (.slice a0 ds.length c0) (.slice (some A198) ws.length c195) x ++ [mtO k1, thO k30, ddO k33 x.d]) h33 := E30.nM a33 b33 e33
    obtain ⟨f1, f2, f3, f4, f5⟩ := RF C E33
    refine ⟨f1, f2, f3, f4, f5, ?_⟩
    clear f1 f2 f3 f4 f5
    refine RA1 C E33 (p := 0) rfl fun a34 m34 c34 r34 h34 R34 E34 => ?_
    replace E34 : Keep B h0 (RLb V v K U s rd r kr k95 k147 (.slice a0 ds.length c0) (.slice (some A198) ws.length c195) x ++ [r34, thO k30, ddO k33 x.d]) h34 := E34
    refine ⟨a34, m34, c34, rfl, ?_⟩
    obtain ⟨f1, f2, f3, f4, f5⟩ := RF C E34
    refine ⟨f1, f2, f3, f4, f5, ?_⟩
    clear f1 f2 f3 f4 f5
    exact RJ10 C G E34 (p := 0) (q := 2) (t := 1) rfl R34 rfl rfl
 ·skip
  intro k35 a35 b35 h35 e35
  have E35 : Keep B h0 (RLb V v K U s rd r kr k95 k147 (.slice a0 ds.length c0) (.slice (some A198) ws.length c195) x ++ [ddO k35 x.d]) h35 := E.nM a35 b35 e35
  obtain ⟨f1, f2, f3, f4, f5⟩ := RF C E35
  refine ⟨f1, f2, f3, f4, f5, ?_⟩
  clear f1 f2 f3 f4 f5
  refine ⟨?_, ?_⟩
  ·skip
   intro k36 a36 b36 h36 e36
   have E36 : Keep B h0 (RLb V v K U s rd r kr k95 k147 (.slice a0 ds.length c0) (.slice (some A198) ws.length c195) x ++ [ddO k35 x.d, mtO k36]) h36 := E35.nM a36 b36 e36
   obtain ⟨f1, f2, f3, f4, f5⟩ := RF C E36
   refine ⟨f1, f2, f3, f4, f5, ?_⟩
   clear f1 f2 f3 f4 f5
   refine ⟨?_, ?_⟩
   ·skip
    refine RA1 C E36 (p := 1) rfl fun a37 m37 c37 r37 h37 R37 E37 => ?_
    replace E37 : Keep B h0 (RLb V v K U s rd r kr k95 k147 (.slice a0 ds.length c0) (.slice (some A198) ws.length c195) x ++ [ddO k35 x.d, r37]) h37 := E37
    refine ⟨a37, m37, c37, rfl, ?_⟩
    obtain ⟨f1, f2, f3, f4, f5⟩ := RF C E37
    refine ⟨f1, f2, f3, f4, f5, ?_⟩
    clear f1 f2 f3 f4 f5
    refine ⟨?_, ?_⟩
    ·skip
     refine RA2 C E37 (p := 1) rfl R37 (q := 0) rfl fun a38 c38 r38 h38 R38 E38 => ?_
     replace E38 : Keep B h0 (RLb V v K U s rd r kr k95 k147 (.slice a0 ds.length c0) (.slice (some A198) ws.length c195) x ++ [ddO k35 x.d, r38]) h38 := E38
     refine ⟨a38, _, c38, rfl, ?_⟩
     obtain ⟨f1, f2, f3, f4, f5⟩ := RF C E38
     refine ⟨f1, f2, f3, f4, f5, ?_⟩
     clear f1 f2 f3 f4 f5
     refine ⟨?_, ?_⟩
     ·skip
      refine RDo C E38 (p := 1) rfl R38 fun h39 E39 => ?_
      obtain ⟨f1, f2, f3, f4, f5⟩ := RF C E39
      refine ⟨f1, f2, f3, f4, f5, ?_⟩
      clear f1 f2 f3 f4 f5
      intro k40 a40 b40 h40 e40
      have E40 : Keep B h0 (RLb V v K U s rd r kr k95 k147 (.slice a0 ds.length c0) (.slice (some A198) ws.length c195) x ++ [ddO k35 x.d, r38, thO k40]) h40 := E39.nM a40 b40 e40
      obtain ⟨f1, f2, f3, f4, f5⟩ := RF C E40
      refine ⟨f1, f2, f3, f4, f5, ?_⟩
      clear f1 f2 f3 f4 f5
      exact RJ9 C G E40 (p := 2) rfl
     ·skip
      intro k41 a41 b41 h41 e41
      have E41 : Keep B h0 (RLb V v K U s rd r kr k95 k147 (.slice a0 ds.length c0) (.slice (some A198) ws.length c195) x ++ [ddO k35 x.d, r38, thO k41]) h41 := E38.nM a41 b41 e41
      obtain ⟨f1, f2, f3, f4, f5⟩ := RF C E41
      refine ⟨f1, f2, f3, f4, f5, ?_⟩
      clear f1 f2 f3 f4 f5
      refine RDo C E41 (p := 1) rfl R38 fun h42 E42 => ?_
      obtain ⟨f1, f2, f3, f4, f5⟩ := RF C E42
      refine ⟨f1, f2, f3, f4, f5, ?_⟩
      clear f1 f2 f3 f4 f5
      exact RJ9 C G E42 (p := 2) rfl
    ·skip
     intro k43 a43 b43 h43 e43
     have E43 : Keep B h0 (RLb V v K U s rd r kr k95 k147 (.slice a0 ds.length c0) (.slice (some A198) ws.length c195) x ++ [ddO k35 x.d, r37, thO k43]) h43 := E37.nM a43 b43 e43
     obtain ⟨f1, f2, f3, f4, f5⟩ := RF C E43
     refine ⟨f1, f2, f3, f4, f5, ?_⟩
     clear f1 f2 f3 f4 f5
     refine RA2 C E43 (p := 1) rfl R37 (q := 0) rfl fun a44 c44 r44 h44 R44 E44 => ?_
     replace E44 : Keep B h0 (RLb V v K U s rd r kr k95 k147 (.slice a0 ds.length c0) (.slice (some A198) ws.length c195) x ++ [ddO k35 x.d, r44, thO k43]) h44 := E44
     refine ⟨a44, _, c44, rfl, ?_⟩
     obtain ⟨f1, f2, f3, f4, f5⟩ := RF C E44
     refine ⟨f1, f2, f3, f4, f5, ?_⟩
     clear f1 f2 f3 f4 f5
     refine RDo C E44 (p := 1) rfl R44 fun h45 E45 => ?_
     obtain ⟨f1, f2, f3, f4, f5⟩ := RF C E45
     refine ⟨f1, f2, f3, f4, f5, ?_⟩
     clear f1 f2 f3 f4 f5
     exact RJ9 C G E45 (p := 2) rfl
   ·skip
    intro k46 a46 b46 h46 e46
    have E46 : Keep B h0 (RLb V v K U s rd r kr k95 k147 (.slice a0 ds.length c0) (.slice (some A198) ws.length c195) x ++ [ddO k35 x.d, mtO k36, thO k46]) h46 := E36.nM a46 b46 e46
    obtain ⟨f1, f2, f3, f4, f5⟩ := RF C E46
    refine ⟨f1, f2, f3, f4, f5, ?_⟩
    clear f1 f2 f3 f4 f5
    refine RA1 C E46 (p := 1) rfl fun a47 m47 c47 r47 h47 R47 E47 => ?_
    replace E47 : Keep B h0 (RLb V v K U s rd r kr k95 k147 (.slice a0 ds.length c0) (.slice (some A198) ws.length c195) x ++ [ddO k35 x.d, r47, thO k46]) h47 := E47
    refine ⟨a47, m47, c47, rfl, ?_⟩
    obtain ⟨f1, f2, f3, f4, f5⟩ := RF C E47
    refine ⟨f1, f2, f3, f4, f5, ?_⟩
    clear f1 f2 f3 f4 f5
    refine RA2 C E47 (p := 1) rfl R47 (q := 0) rfl fun a48 c48 r48 h48 R48 E48 => ?_
    replace E48 : Keep B h0 (RLb V v K U s rd r kr k95 k147 (.slice a0 ds.length c0) (.slice (some A198) ws.length c195) x ++ [ddO k35 x.d, r48, thO k46]) h48 := E48
    refine ⟨a48, _, c48, rfl, ?_⟩
    obtain ⟨f1, f2, f3, f4, f5⟩ := RF C E48
    refine ⟨f1, f2, f3, f4, f5, ?_⟩
    clear f1 f2 f3 f4 f5
    refine RDo C E48 (p := 1) rfl R48 fun h49 E49 => ?_
    obtain ⟨f1, f2, f3, f4, f5⟩ := RF C E49
    refine ⟨f1, f2, f3, f4, f5, ?_⟩
    clear f1 f2 f3 f4 f5
    exact RJ9 C G E49 (p := 2) rfl
  ·skip
   intro k50 a50 b50 h50 e50
   have E50 : Keep B h0 (RLb V v K U s rd r kr k95 k147 (.slice a0 ds.length c0) (.slice (some A198) ws.length c195) x ++ [ddO k35 x.d, thO k50]) h50 := E35.nM a50 b50 e50
   obtain ⟨f1, f2, f3, f4, f5⟩ := RF C E50
   refine ⟨f1, f2, f3, f4, f5, ?_⟩
   clear f1 f2 f3 f4 f5
   intro k51 a51 b51 h51 e51
   have E51 : Keep B h0 (RLb V v K U s rd r kr k95 k147 (.slice a0 ds.length c0) (.slice (some A198) ws.length c195) x ++ [ddO k35 x.d, thO k50, mtO k51]) h51 := E50.nM a51 b51 e51
   obtain ⟨f1, f2, f3, f4, f5⟩ := RF C E51
   refine ⟨f1, f2, f3, f4, f5, ?_⟩
   clear f1 f2 f3 f4 f5
   refine RA1 C E51 (p := 2) rfl fun a52 m52 c52 r52 h52 R52 E52 => ?_
   replace E52 : Keep B h0 (RLb V v K U s rd r kr k95 k147 (.slice a0 ds.length c0) (.slice (some A198) ws.length c195) x ++ [ddO k35 x.d, thO k50, r52]) h52 := E52
   refine ⟨a52, m52, c52, rfl, ?_⟩
   obtain ⟨f1, f2, f3, f4, f5⟩ := RF C E52
   refine ⟨f1, f2, f3, f4, f5, ?_⟩
   clear f1 f2 f3 f4 f5
   refine RA2 C E52 (p := 2) rfl R52 (q := 0) rfl fun a53 c53 r53 h53 R53 E53 => ?_
   replace E53 : Keep B h0 (RLb V v K U s rd r kr k95 k147 (.slice a0 ds.length c0) (.slice (some A198) ws.length c195) x ++ [ddO k35 x.d, thO k50, r53]) h53 := E53
   refine ⟨a53, _, c53, rfl, ?_⟩
   obtain ⟨f1, f2, f3, f4, f5⟩ := RF C E53
   refine ⟨f1, f2, f3, f4, f5, ?_⟩
   clear f1 f2 f3 f4 f5
   refine RDo C E53 (p := 2) rfl R53 fun h54 E54 => ?_
   obtain ⟨f1, f2, f3, f4, f5⟩ := RF C E54
   refine ⟨f1, f2, f3, f4, f5, ?_⟩
   clear f1 f2 f3 f4 f5
   exact RJ9 C G E54 (p := 1) rfl
 ·skip
  intro k55 a55 b55 h55 e55
  have E55 : Keep B h0 (RLb V v K U s rd r kr k95 k147 (.slice a0 ds.length c0) (.slice (some A198) ws.length c195) x ++ [thO k55]) h55 := E.nM a55 b55 e55
  obtain ⟨f1, f2, f3, f4, f5⟩ := RF C E55
  refine ⟨f1, f2, f3, f4, f5, ?_⟩
  clear f1 f2 f3 f4 f5
  refine ⟨?_, ?_⟩
  ·skip
   intro k56 a56 b56 h56 e56
   have E56 : Keep B h0 (RLb V v K U s rd r kr k95 k147 (.slice a0 ds.length c0) (.slice (some A198) ws.length c195) x ++ [thO k55, mtO k56]) h56 := E55.nM a56 b56 e56
   obtain ⟨f1, f2, f3, f4, f5⟩ := RF C E56
   refine ⟨f1, f2, f3, f4, f5, ?_⟩
   clear f1 f2 f3 f4 f5
   refine ⟨?_, ?_⟩
   ·skip
    refine RA1 C E56 (p := 1) rfl fun a57 m57 c57 r57 h57 R57 E57 => ?_
    replace E57 : Keep B h0 (RLb V v K U s rd r kr k95 k147 (.slice a0 ds.length c0) (.slice (some A198) ws.length c195) x ++ [thO k55, r57]) h57 := E57
    refine ⟨a57, m57, c57, rfl, ?_⟩
    obtain ⟨f1, f2, f3, f4, f5⟩ := RF C E57
    refine ⟨f1, f2, f3, f4, f5, ?_⟩
    clear f1 f2 f3 f4 f5
    intro k58 a58 b58 h58 e58
    have E58 : Keep B h0 (RLb V v K U s rd r kr k95 k147 (.slice a0 ds.length c0) (.slice (some A198) ws.length c195) x ++ [thO k55, r57, ddO k58 x.d]) h58 := E57.nM a58 b58 e58
    obtain ⟨f1, f2, f3, f4, f5⟩ := RF C E58
    refine ⟨f1, f2, f3, f4, f5, ?_⟩
    clear f1 f2 f3 f4 f5
    exact RJ11 C G E58 (p := 1) (q := 2) (t := 0) rfl R57 rfl rfl
   ·skip
    intro k59 a59 b59 h59 e59
    have E59 : Keep B h0 (RLb V v K U s rd r kr k95 k147 (.slice a0 ds.length c0) (.slice (some A198) ws.length c195) x ++ [thO k55, mtO k56, ddO k59 x.d]) h59 := E56.nM a59 b59 e59
    obtain ⟨f1, f2, f3, f4, f5⟩ := RF C E59
    refine ⟨f1, f2, f3, f4, f5, ?_⟩
    clear f1 f2 f3 f4 f5
    refine RA1 C E59 (p := 1) rfl fun a60 m60 c60 r60 h60 R60 E60 => ?_
    replace E60 : Keep B h0 (RLb V v K U s rd r kr k95 k147 (.slice a0 ds.length c0) (.slice (some A198) ws.length c195) x ++ [thO k55, r60, ddO k59 x.d]) h60 := E60
    refine ⟨a60, m60, c60, rfl, ?_⟩
    obtain ⟨f1, f2, f3, f4, f5⟩ := RF C E60
    refine ⟨f1, f2, f3, f4, f5, ?_⟩
    clear f1 f2 f3 f4 f5
    exact RJ11 C G E60 (p := 1) (q := 2) (t := 0) rfl R60 rfl rfl
  ·skip
   intro k61 a61 b61 h61 e61
   have E61 : Keep B h0 (RLb V v K U s rd r kr k95 k147 (.slice a0 ds.length c0) (.slice (some A198) ws.length c195) x ++ [thO k55, ddO k61 x.d]) h61 := E55.nM a61 b61 e61
   obtain ⟨f1, f2, f3, f4, f5⟩ := RF C E61
   refine ⟨f1, f2, f3, f4, f5, ?_⟩
   clear f1 f2 f3 f4 f5
   intro k62 a62 b62 h62 e62
   have E62 : Keep B h0 (RLb V v K U s rd r kr k95 k147 (.slice a0 ds.length c0) (.slice (some A198) ws.length c195) x ++ [thO k55, ddO k61 x.d, mtO k62]) h62 := E61.nM a62 b62 e62
   obtain ⟨f1, f2, f3, f4, f5⟩ := RF C E62
   refine ⟨f1, f2, f3, f4, f5, ?_⟩
   clear f1 f2 f3 f4 f5
   refine RA1 C E62 (p := 2) rfl fun a63 m63 c63 r63 h63 R63 E63 => ?_
   replace E63 : Keep B h0 (RLb V v K U s rd r kr k95 k147 (.slice a0 ds.length c0) (.slice (some A198) ws.length c195) x ++ [thO k55, ddO k61 x.d, r63]) h63 := E63
   refine ⟨a63, m63, c63, rfl, ?_⟩
   obtain ⟨f1, f2, f3, f4, f5⟩ := RF C E63
   refine ⟨f1, f2, f3, f4, f5, ?_⟩
   clear f1 f2 f3 f4 f5
   exact RJ11 C G E63 (p := 2) (q := 1) (t := 0) rfl R63 rfl rfl
end
end
theorem zkK {d : DeedR} (g : goodB d = true) : goodD d := by
 unfold goodB at g
 refine ⟨fun h => by rwa [if_pos h] at g, fun h => ?_, fun h => ?_⟩
 ·rwa [if_neg (by omega), if_neg (by omega), if_neg (by omega), if_pos (.inl h)] at g
 ·rw [if_neg (by omega), if_neg (by omega), if_pos h] at g
  exact of_decide_eq_true g
theorem zkS {v : VV} {s : AV} {d : DeedR} (h8 : d.k = 8) (h : (doesA v s d).2.2 = 0) : 0 ≤ (doesA v s d).2.1 := by
 have ed : doesA v s d = recvA v s d.a := by
  unfold doesA
  rw [if_neg (by omega), if_neg (by omega), if_neg (by omega), if_neg (by omega), if_neg (by omega), if_neg (by omega), if_neg (by omega), if_neg (by omega), if_pos h8]
 rw [ed] at h ⊢
 unfold recvA at h ⊢
 by_cases hi : 0 ≤ d.a ∧ d.a < 3
 ·rw [if_pos hi] at h ⊢
  by_cases hn : noteE v s 2 d.a = 0
  ·rw [if_pos hn] at h ⊢
   by_cases hb : atOf v.ts d.a ((ze v.l d.a).1 + s.s.cr d.a) < 0
   ·rw [if_pos hb] at h; exact absurd (show (10 : Int) = 0 from h) (by decide)
   ·rw [if_neg hb]; show 0 ≤ atOf _ _ _; omega
  ·rw [if_neg hn] at h; exact absurd h hn
 ·rw [if_neg hi] at h; exact absurd (show (1 : Int) = 0 from h) (by decide)
section
variable {B : RO} {h0 h h' : Heap} {L M P : List (Option (Nat × AObj))} {V : VI} {v v' : VV} {K : AK} {U : AU} {s : AV} {k kr : Nat} {i j : Int} {ds ahead : List DeedR} {tA : Option Addr} {vd vt : Value} {r rd : Option (Nat × AObj)} {Q : Bool → Heap → Prop} {xs : List StepL}
structure RJ (B : RO) (h0 : Heap) (kr : Nat) (V : VI) (K : AK) (j : Nat) (h : Heap) : Prop where
 ex : ∃ (rt : Option (Nat × AObj)) (v : VV) (vd vt : Value) (rd r : Option (Nat × AObj)) (ws : List VV) (ds : List DeedR) (U : AU) (s : AV), 0 ≤ v.t ∧ v.t ≤ 20 + j ∧ ds.length ≤ j ∧ s.rs.length ≤ 2 * j ∧ TRow r vt ws ∧ DRowD rd vd ds ∧ InvR v s ws ds ∧ SS B h0 [rd, some (kr, runO V.kV (some ⟨K.kA, 0, none⟩) vd vt), r] h (V.w rt) v K U s
theorem zc0 {a1 a4 : Option Addr} {c3 c6 : Nat} {Q : Bool → Heap → Prop} (hr : Reads B h a1 4 DeedR.cells ahead) (hr2 : Reads B h a4 6 StepL.cells xs) (hQ : ∀ h', Keep B h [] h' → Q true h') : xU B a1 ahead.length c3 a4 xs.length c6 h Q := by
 refine xU.of ?_
 unfold ZE
 have nil : ∀ {h1 : Heap} {N : List (Option (Nat × AObj))}, Keep B h N h1 → Keep B h [] h1 := fun E => by have := E.take 0; simpa using this
 have rds : ∀ {α : Type} {cells : α → List Value} {c : Nat} {a : Option Addr} {ds : List α}, Reads B h a c cells ds → ∀ h', Keep B h [] h' → Reads B h' a c cells ds := fun {α cells c a ds} hr h' E j x hx => by
  obtain ⟨A, f1, f2, f3⟩ := hr j x hx
  exact ⟨A, f1, fun hn => f2 (by
   cases hh : h A.block with
   | none => rfl
   | some o => rw [E.le _ _ hh] at hn; cases hn), E.w.cells f3⟩
 refine ziD fun h8 E0 => ⟨fun _ => ?_, fun e => by cases e⟩
 refine zkM (rds hr2 _ E0) fun b hb h465 E1' => ?_
 have E1 : Keep B h [] h465 := by have := E0.append E1'; exact this
 have out := hQ _ E1
 refine ⟨fun _ => Fin.of out, fun hbf => ⟨fun _ => Fin.of out, fun h20 => Fin.of ?_⟩⟩
 obtain ⟨hl, hs⟩ := hb hbf
 clear out hb
 unfold wp
 refine zk5 (ds := ahead) (g := ⟨0, 0, 0, 0⟩) E1 (fun h1 E => rds hr h1 E) (by omega) fun kr V K U vt r h12 R S => ?_
 obtain ⟨t1, t2, t3⟩ := RR_t ahead
 have ok := RR_ok ahead (vz, [vz]) ⟨VP.zero, VerOk.zero⟩
 have hi := zlc ahead (vz, [vz]) ⟨VP.zero, Hist.zero⟩
 have S0 : SS B h [none, some (kr, runO V.kV (some ⟨K.kA, 0, none⟩) (.slice none 0 0) vt), r] h12 (V.w V.rt) (RR ahead).1 K U (s0 (RR ahead).1 ⟨0, 0, 0, 0⟩) := by
  refine .of ?_ S.o S.pas
  have E : Keep B h ([] ++ ([some (kr, runO V.kV (some ⟨K.kA, 0, none⟩) (.slice none 0 0) vt), r] ++ (V.e (RR ahead).1 ++ AE V K U (s0 (RR ahead).1 ⟨0, 0, 0, 0⟩)))) h12 := by
   have := S.E
   rw [List.append_assoc] at this
   exact this
  exact E.sM [99, 0, 1, 2, 3, 4, 5, 6, 7, 8, 9, 10, 11, 12, 13, 14, 15, 16, 17] (by decide)
 refine ⟨fun q m h' => ∃ j : Nat, j ≤ xs.length ∧ q = j ∧ m = xs.length - j ∧ RJ B h kr V K j h', xs.length, Fin.of ⟨0, by omega, rfl, rfl, ⟨⟨V.rt, (RR ahead).1, .slice none 0 0, vt, none, r, (RR ahead).2, [], U, s0 (RR ahead).1 ⟨0, 0, 0, 0⟩, t1, by omega, by simp, by simp [s0], R, Row.nil _ _, InvR.init hi.2 ok.2 t1 _, S0⟩⟩⟩, ?_⟩
 clear S S0 R t1 t2 t3 ok hi E0 E1 E1' U vt r h12 h8 h465
 rintro _ _ h50 ⟨j, hj, rfl, rfl, ⟨⟨rt, v, vd, vt, rd, r, ws, ds, U, s, t0, t1, hd, hsl, R, Rd, I, S⟩⟩⟩
 refine ⟨fun hlt => ?_, fun hge => Fin.of (zkk (nil S.E) hQ)⟩
 have hj' : j < xs.length := by omega
 have hx := List.getElem?_eq_getElem hj'
 have hxs := hs _ (List.getElem_mem hj')
 generalize xs[j] = x at hx hxs
 obtain ⟨A, f1, _, f3⟩ := rds hr2 h50 (nil S.E) j x hx
 have go : ∀ {h1 : Heap}, RJ B h kr V K (j + 1) h1 → Fin B h1 (fun h' => ∃ m', m' < xs.length - j ∧ ∃ j' : Nat, j' ≤ xs.length ∧ IntKind.wrap .i64 ((j : Int) + 1) = j' ∧ m' = xs.length - j' ∧ RJ B h kr V K j' h') := fun l => Fin.of ⟨xs.length - (j + 1), by omega, j + 1, by omega, wrapS (by omega), rfl, l⟩
 refine ⟨A, f1, by omega, by omega, x.k, x.d.k, x.d.a, x.d.b, ((x.d.c.toNat : Nat) : Int), x.s, by rw [Int.toNat_natCast]; exact f3, fun k363 a363 b363 h364 e364 => ?_⟩
 have S1 := S.nP a363 b363 e364
 refine ⟨_, zv S1.gP rfl (by simp) (by simp [isOne]) (by simp), ?_⟩
 have S2 := S1.pP (o' := .vec yj (zc x.cells) 6)
 clear S1
 have hwl := I.H.n
 refine ⟨x.k, zd S2.gP rfl, fun h0 => ?_, fun n0 => ⟨fun h1 => ?_, fun n1 => ⟨fun h2 => ?_, fun n2 => go ⟨⟨rt, v, vd, vt, rd, r, ws, ds, U, s, t0, by omega, by omega, by omega, R, Rd, I, S2.dP⟩⟩⟩⟩⟩
 ·refine ⟨_, rfl, _, S2.E.cell 1 rfl (j := 1) rfl, x.d.k, x.d.a, x.d.b, ((x.d.c.toNat : Nat) : Int), ⟨zd S2.gP rfl, zd S2.gP rfl, zd S2.gP rfl, zd S2.gP rfl, trivial⟩, zfD (d := x.d) S2 (by omega) fun U' h112 S3 => ⟨S3.E.cell 1 rfl (j := 1) rfl, ⟨zd S3.gP rfl, zd S3.gP rfl, zd S3.gP rfl, zd S3.gP rfl, trivial⟩, x.d.k, x.d.a, x.d.b, ((x.d.c.toNat : Nat) : Int), ⟨zd S3.gP rfl, zd S3.gP rfl, zd S3.gP rfl, zd S3.gP rfl, trivial⟩, zjH fun h121 Eg => ?_⟩⟩
  have S4 := S3.e (S3.E.wk Eg.w)
  clear S2 S3
  have ln := zes v s x.d
  refine ⟨fun g => ?_, fun g => ?_⟩
  ·refine ⟨fun h9 => ⟨_, rfl, _, S4.E.cell 1 rfl (j := 1) rfl, zeo S4 (by omega) fun h126 S5 => Fin.of ?_⟩, fun n9 => ⟨_, rfl, _, S4.E.cell 1 rfl (j := 1) rfl, zju S4 (zk4 S4 ?_)⟩⟩
   ·rw [ziH h9]; exact hQ _ (nil S5.E)
   ·obtain ⟨p1, p2⟩ := I.step (StpA.does (v := v) (s := s) (d := x.d)) (Grow.does (v := v) (s := s) (d := x.d)).a
    obtain ⟨w, hw⟩ := I.H.get p1.1 p1.2
    have an := I.ans S4.o.vp hw g
    obtain ⟨a1, m1, c1, rfl⟩ := Row.slice R
    obtain ⟨hm1, rt1⟩ := Row.rd (B := B) R (fun y => zd9 (v := y)) (by omega)
    subst hm1
    obtain ⟨A198, f198, _, _⟩ := rt1 h121 (fun k o e => S4.E.at 2 (congrArg some e)) _ w hw
    obtain ⟨a2, m2, c2, rfl⟩ := Row.slice Rd
    obtain rfl := (Row.rd (B := B) Rd DeedR.len (by omega)).1
    subst f198
    refine ⟨fun hneg => by omega, fun hge => ⟨_, rfl, ?_⟩⟩
    refine .inl ⟨_, _, _, S4.E.cell 1 rfl (j := 3) rfl, fun hge2 => by omega, fun hlt2 => Fin.of ?_⟩
    refine zhx (st := (doesA v s x.d).1.st) (w := w) ⟨Rd, R, by omega, hw, fun d hd => ?_, I.H.ok S4.o.vp hw⟩ ⟨S4.o, S4.pas, fun e => ⟨(an.1 e).symm, fun h8 => by rw [an.1 e]; exact zkS h8 e⟩, fun e => ?_, fun e h1 S5 => ?_, fun e a' m' c' r' h1 R' S5 => ?_⟩ S4 p1.1 (by omega)
    ·rcases List.mem_append.1 hd with hd | hd
     ·exact I.g d hd
     ·simp only [List.mem_singleton] at hd; subst hd; exact zkK g
    ·rcases zjy (v := v) (s := s) g with h | h | h
     ·exact absurd h e
     ·exact absurd h n9
     ·exact ⟨h.1, h.2, by rw [an.2 h.1]; decide⟩
    ·exact go ⟨⟨rt, v, _, _, rd, r, ws, ds, U', (doesA v s x.d).1, t0, by omega, by omega, by omega, R, Rd, I.no e, S5⟩⟩
    ·exact go ⟨⟨rt, v, _, _, r', r, ws, ds ++ [x.d], U', (doesA v s x.d).1, t0, by omega, by rw [List.length_append]; simp; omega, by omega, R, R', I.deed e, S5⟩⟩
  ·have hb := zkD (v := v) (s := s) g
   exact ⟨fun _ => go ⟨⟨rt, v, vd, vt, rd, r, ws, ds, U', (doesA v s x.d).1, t0, by omega, by omega, by omega, R, Rd, I.no (by rw [hb]; decide), S4.dP⟩⟩, fun e => absurd hb e⟩
 ·have tt := zfV v x.d
  refine ⟨x.d.k, x.d.a, x.d.b, ((x.d.c.toNat : Nat) : Int), ⟨zd S2.gP rfl, zd S2.gP rfl, zd S2.gP rfl, zd S2.gP rfl, trivial⟩, ?_⟩
  refine SS.other (V := V.w rt) (L := [rd]) (tA := some ⟨K.kA, 0, none⟩) (vd := vd) S2.dP (d := x.d) R (by omega) ⟨t0, by omega⟩ fun rt' vt' r' h' R' S3 => go ⟨⟨rt', yv v x.d, vd, vt', rd, r', ws ++ [yv v x.d], ds, U, s, by omega, by omega, by omega, by omega, R', Rd, I.other S.o.vp x.d, S3⟩⟩
 ·refine ⟨_, rfl, _, S2.E.cell 1 rfl (j := 0) rfl, _, rfl, _, S2.E.cM 0 rfl (i := 2) rfl, x.d.a, zd S2.gP rfl, x.s, zd S2.gP rfl, zdZ S2.o.k (S2.E.gM 5 rfl) (by omega) ?_⟩
  have E3 := S2.E.pM (o' := feedO (arrT v.ts x.d.a x.s) V.kP) 5 rfl
  have o3 : VOk (V.w rt) { v with ts := arrT v.ts x.d.a x.s } := ⟨S2.o.r, S2.o.c8, S2.o.f, S2.o.k.arrive x.d.a x.s⟩
  have S3 : SS B h ([rd, some (kr, runO V.kV (some ⟨K.kA, 0, none⟩) vd vt), r] ++ [some (k363, .vec yj (zc x.cells) 6)]) _ (V.w rt) { v with ts := arrT v.ts x.d.a x.s } K U s := ⟨E3, o3, S2.R, S2.O, S2.a.view o3.f⟩
  exact go ⟨⟨rt, { v with ts := arrT v.ts x.d.a x.s }, vd, vt, rd, r, ws, ds, U, s, t0, by show v.t ≤ _; omega, by omega, by omega, R, Rd, I.arr S2.o.vp x.d.a x.s, S3.dP⟩⟩
end
theorem AttemptReads_calls {H : Type} {enc : TypeId × Value → H} (W : World) {a : Option Addr} {len cap : Nat} {d1 : DataW H} {p1 : List MemPlace} (k1 : DataW.Trod enc PG W 0 (fun _ => true) true ye (.slice a len cap) d1 p1) {a2 : Option Addr} {len2 cap2 : Nat} {d2 : DataW H} {p2 : List MemPlace} (k2 : DataW.Trod enc PG W 0 (fun _ => true) true vL (.slice a2 len2 cap2) d2 p2) :
  Calls PG Zr #[.slice a len cap, .slice a2 len2 cap2] W fun e w' => e = .returned (.bool true) ∧ Below W.heap.size W w' := by
 obtain ⟨xs, rfl, hr⟩ := zki k1
 obtain ⟨ys, rfl, hr2⟩ := zja k2
 refine Spec.calls (Spec.mono (zc0 (Q := fun b _ => b = true) (c3 := cap) (c6 := cap2) hr hr2 fun _ _ => rfl) ?_)
 rintro v h' ⟨b, rfl, rfl⟩
 rfl
end Go.Proofs.YtgldgabefiialaaGreat.H
