/- Marks: MarkPops: pop, the law. No condition. -/
import Derived.Test.YthloobpjkeodgaaNf
import Derived.Test.YthloobpjkeodgaaHk
import Derived.Test.YthloobpjkeodgaaXfT
namespace Go.Proofs.Ythloobpjkeodgaa.H
open Go Go.RowKit
set_option linter.unusedVariables false
set_option maxRecDepth 100000

theorem TK.steps_sl : PG.underlying TY.s_countermandlaw17_Step = some (.slice TY.countermandlaw17_Step) := by kernel_rfl
theorem TK.step_kd : leafB PG 5 TY.countermandlaw17_Step = some [.int .i64, .int .i64, .int .i64] := by kernel_rfl
theorem Steps_arg {H : Type} {enc : TypeId × Value → H} {w : World} {base : Nat} {spare : Nat → Bool} {held : Bool} {a : Option Addr} {len cap : Nat} {d : DataW H} {p : List MemPlace} (h : DataW.Trod enc PG w base spare held TY.s_countermandlaw17_Step (.slice a len cap) d p) :
    ∃ l : List (Int × Int × Int), len = l.length ∧ Reads (roOf w) noHeap a 3 stepC l ∧ ∀ x ∈ l, True :=
  arg_rows stepC (fun _ => True) TK.steps_sl TK.step_kd rfl (by omega) (fun vs h => by
    obtain ⟨z1, v1, rfl, _, h1⟩ := h.int
    obtain ⟨z2, v2, rfl, _, h2⟩ := h1.int
    obtain ⟨z3, v3, rfl, _, h3⟩ := h2.int
    obtain rfl := h3.nil
    exact ⟨(z1, z2, z3), rfl, trivial⟩) h
section
variable {B : RO} {h0 h h' : Heap} {L M : List (Option (Nat × AObj))} {r rp rS rR : Option (Nat × AObj)} {i k k8 k18 k21 k67 q N n : Nat} {a a1 a52 : Option Addr} {c c3 c54 : Nat} {v vS : Value} {its : List It} {cur z : It} {Q : Bool → Heap → Prop} {steps : List (Int × Int × Int)}
theorem Pops_J4 {k293 k305 : Nat} (E : Keep B h0 (PFx k8 k18 k21 vS rS rR cur ++ its.flatMap It.e ++ (z.e ++ [some (k293, .vec TY.mark_Mark (plains z.mk'.cells) 12), some (k305, .vec TY.countermandref17_Mark (plains z.rc) 4)])) h) (hlen : its.length ≤ q) (al : ∀ y ∈ its, y.ok q) (pl : ∀ y ∈ its, y.mm.b = y.place) (hz : z.ok q) (ms : MRow rS vS (its.map It.mk')) (rs : Row rR (.slice a52 its.length c54) TY.countermandref17_Mark 4 (its.flatMap It.rc)) (hq : q < N) (hN : N ≤ 80) :
    S_countermandlaw17_MarkPops_J4 B a1 N c3 k8 k18 k21 a52 (its.length + 1) c54 (q : Nat) (N - q) (PJ B h0 k8 k18 k21 N) k293 k305 false h Q := by
  unfold S_countermandlaw17_MarkPops_J4
  refine ⟨fun e => (by cases e), fun _ => ?_⟩
  have gz : h k293 = some (.vec TY.mark_Mark (plains z.mk'.cells) 12) := E.gM 7 rfl
  refine ⟨_, _, _, _, _, _, _, ⟨cellH_vec gz rfl, cellH_vec gz rfl, cellH_vec gz rfl, cellH_vec gz rfl, cellH_vec gz rfl, cellH_vec gz rfl, cellH_vec gz rfl, trivial⟩, _, stores_whole (E.at 2 rfl) rfl (by simp) (by simp [isOne, It.mk']) (by simp), ?_⟩
  have E1 : Keep B h0 ([some (k8, skO vS), rS, some (k18, z.st), some (k21, cur.rf), rR] ++ its.flatMap It.e ++ (z.e ++ [some (k293, .vec TY.mark_Mark (plains z.mk'.cells) 12), some (k305, .vec TY.countermandref17_Mark (plains z.rc) 4)])) _ := E.put (o' := z.st) 2 rfl
  have gr := E1.gM 8 rfl
  refine ⟨_, _, _, _, _, ⟨cellH_vec gr rfl, cellH_vec gr rfl, cellH_vec gr rfl, trivial⟩, _, stores_whole (E1.at 3 rfl) rfl (by simp) (by simp [isOne]) (by simp), Fin.of ?_⟩
  have E2a : Keep B h0 (PFx k8 k18 k21 vS rS rR z ++ its.flatMap It.e ++ (z.e ++ [some (k293, .vec TY.mark_Mark (plains z.mk'.cells) 12), some (k305, .vec TY.countermandref17_Mark (plains z.rc) 4)])) _ := E1.put (o' := z.rf) 3 rfl
  have E2 : Keep B h0 (PFx k8 k18 k21 vS rS rR z ++ its.flatMap It.e ++ z.e) _ := E2a.tM 7
  have hw : IntKind.wrap .i64 (((its.length + 1 : Nat) : Int) - 1) = ((its.length : Nat) : Int) := by rw [w64 (by omega) (by omega)]; omega
  rw [hw]
  simp only [Int.toNat_zero, Int.toNat_natCast, optAddZ, Nat.sub_zero]
  exact Pops_J2 E2 ⟨by omega, hz.mono (by omega), fun y hy => (al y hy).mono (by omega), pl, ms, rs⟩ hq hN
theorem MarkPops_wp {Q : Bool → Heap → Prop} (hr : Reads B h a 3 stepC steps) (hQ : Q true h) : C_countermandlaw17_MarkPops B a steps.length c h Q := by
  refine C_countermandlaw17_MarkPops.of ?_
  unfold S_countermandlaw17_MarkPops
  refine alive17_wp ⟨fun _ => ⟨fun _ => Fin.of hQ, fun hl => ?_⟩, fun e => by cases e⟩
  have hN : steps.length ≤ 80 := by omega
  intro k8 a8 b8 h9 e9
  have E0 := (Keep.nil B h).made a8 b8 e9
  refine fresh_wp (g := ⟨0, 0, 0, 0⟩) fun x h10 O E1 => ?_
  have E2 := E0.append E1
  intro k18 a18 b18 h19 e19
  have E3 := E2.made a18 b18 e19
  let cur0 : It := ⟨x, StV.z, ⟨0, 0, 0, 0⟩, [], none, 0, none, ⟨0, 0, 0, 0⟩, 0⟩
  refine ⟨_, stores_whole E3.last rfl (by simp) (by simp [isOne]) (by simp), ?_⟩
  have E4 := E3.putLast cur0.st
  intro k21 a21 b21 h22 e22
  have E5 := E4.made a21 b21 e22
  refine ⟨_, stores_whole E5.last rfl (by simp) (by simp [isOne]) (by simp), ?_⟩
  have E6 := E5.putLast cur0.rf
  have E7 : Keep B h (PFx k8 k18 k21 (.slice none 0 0) none none cur0 ++ ([] : List It).flatMap It.e ++ cur0.e) _ := E6.gap.gap.gap.picks [0, 9, 7, 8, 10, 1, 2, 3, 4, 5, 6, 11] (by decide)
  refine ⟨PJ B h k8 k18 k21 steps.length, steps.length, Fin.of ⟨0, [], cur0, .slice none 0 0, none, none, rfl, rfl, by omega, by omega, ⟨by simp, ⟨O, rfl, rfl, show (0 : Int) ≤ 0 by decide, show (0 : Int) ≤ 64 by decide, by simp [cur0], Row.nil _ _⟩, fun y hy => (by cases hy), fun y hy => (by cases hy), Row.nil _ _, Row.nil _ _⟩, E7⟩, ?_⟩
  clear E0 E1 E2 E3 E4 E5 E6 E7 e9 e19 e22
  rintro a52 _ c54 _ _ h56 ⟨q, its, cur, vS, rS, rR, rfl, rfl, hqN, rfl, P, E⟩
  refine ⟨fun hlt => ?_, fun hge => ?_⟩
  · have hq : q < steps.length := by omega
    have hx := List.getElem?_eq_getElem hq
    generalize steps[q] = st at hx
    obtain ⟨K, A, C⟩ := st
    obtain ⟨A', e1, _, e4⟩ := (hr.over E.le E.nw) q _ hx
    refine ⟨A', e1, by omega, hlt, K, A, C, e4, fun k67 a67 b67 h68 e68 => ?_⟩
    have E1 := E.nM a67 b67 e68
    refine ⟨_, stores_whole (E1.gM 7 rfl) rfl (by simp) (by simp [isOne]) (by simp), ?_⟩
    have E2 : Keep B h (PFx k8 k18 k21 vS rS rR cur ++ its.flatMap It.e ++ (cur.e ++ [some (k67, .vec TY.countermandlaw17_Step (plains [.int .i64 K, .int .i64 A, .int .i64 C]) 3)])) _ := E1.pM (o' := .vec TY.countermandlaw17_Step (plains [.int .i64 K, .int .i64 A, .int .i64 C]) 3) 7 rfl
    have hp := P.cu.pl
    have hlen := P.len
    have plain : ∀ {z : It} {h1 : Heap}, z.ok (q + 1) → Keep B h (PFx k8 k18 k21 vS rS rR z ++ its.flatMap It.e ++ z.e) h1 → S_countermandlaw17_MarkPops_J2 B a steps.length c k8 k18 k21 (q : Nat) (steps.length - q) (PJ B h k8 k18 k21 steps.length) a52 its.length c54 h1 Q := fun {z h1} hz E1 =>
      Pops_J2 E1 ⟨by omega, hz, fun y hy => (P.al y hy).mono (by omega), P.pl, P.ms, P.rs⟩ hq hN
    refine ⟨K, E2.cM 7 rfl (i := 0) rfl, fun h0' => ?_, fun n0 => ⟨fun h1' => ?_, fun n1 => ⟨fun h2' => ?_, fun n2 => ⟨fun h3' => ?_, fun n3 => ⟨fun h4' => ?_, fun n4 => ⟨fun h5' => ?_, fun n5 => Fin.of (plain (P.cu.mono (by omega)) (E2.tM 7))⟩⟩⟩⟩⟩⟩
    · subst h0'
      exact ⟨_, E2.cell 2 rfl (j := 0) rfl, A, E2.cM 7 rfl (i := 1) rfl, C, E2.cM 7 rfl (i := 2) rfl, Pops_0 E2 P hq hN fun _ _ => rfl⟩
    · refine ⟨_, E2.cell 2 rfl (j := 2) rfl, cstep0_wp (i := (PFx k8 k18 k21 vS rS rR cur ++ its.flatMap It.e).length + 5) E2 (upM 5 rfl) P.cu.c0 (fun _ => ⟨fun e => (by cases e), fun _ => Fin.of (plain (P.cu.mono (by omega)) (E2.tM 7))⟩) fun hlt2 h224 E3 => ⟨fun _ => ?_, fun e => by cases e⟩⟩
      rw [setM] at E3
      have hw : IntKind.wrap .i64 (cur.s.c0 + 1) = cur.s.c0 + 1 := by have := P.cu.c0; exact w64 (by omega) (by omega)
      let z : It := { cur with s := { cur.s with c0 := cur.s.c0 + 1 } }
      obtain ⟨h227, es, E4⟩ : ∃ h', storeH h224 ⟨k21, 1, none⟩ (.int .i64 (cur.s.c0 + 1)) = some h' ∧ Keep B h (PFx k8 k18 k21 vS rS rR z ++ its.flatMap It.e ++ z.e) h' := by
        obtain ⟨es, E4⟩ := E3.store 3 1 (.int .i64 (cur.s.c0 + 1)) (k := k21) (t := TY.countermandref17_State) (n := 3) (fs := plains [.slice cur.a cur.ps.length cur.c, .int .i64 cur.s.c0, .int .i64 cur.g.a]) rfl rfl
        have E5 : Keep B h (PFx k8 k18 k21 vS rS rR z ++ its.flatMap It.e ++ (cur.e ++ [some (k67, AObj.vec TY.countermandlaw17_Step (plains [.int .i64 K, .int .i64 A, .int .i64 C]) 3)]).set 5 (some (cur.x.kc, curO z.s))) _ := E4
        exact ⟨_, es, E5.tM 7⟩
      refine ⟨_, E3.cell 3 rfl (j := 1) rfl, h227, by rw [hw]; exact es, Fin.of (plain (z := z) ⟨⟨P.cu.o.d, P.cu.o.f⟩, P.cu.d, P.cu.f, by have := P.cu.c0; show 0 ≤ cur.s.c0 + 1; omega, by show cur.s.c0 + 1 ≤ 64; omega, by show cur.ps.length ≤ q + 1; omega, P.cu.pr⟩ E4)⟩
    · let z : It := { cur with g := { cur.g with a := A } }
      obtain ⟨s1, E3⟩ := E2.store 2 3 (.int .i64 A) (k := k18) (t := TY.mark_State) (n := 7) (fs := plains [.pointer (some ⟨cur.x.kd, 0, none⟩), .pointer (some ⟨cur.x.ks, 0, none⟩), .pointer (some ⟨cur.x.kc, 0, none⟩), .int .i64 cur.g.a, .int .i64 cur.g.b, .int .i64 cur.g.c, .int .i64 cur.g.d]) rfl rfl
      refine ⟨A, E2.cM 7 rfl (i := 1) rfl, by omega, by omega, _, s1, ?_⟩
      have E4 : Keep B h ([some (k8, skO vS), rS, some (k18, z.st), some (k21, cur.rf), rR] ++ its.flatMap It.e ++ (cur.e ++ [some (k67, .vec TY.countermandlaw17_Step (plains [.int .i64 K, .int .i64 A, .int .i64 C]) 3)])) _ := E3
      obtain ⟨s2, E5⟩ := E4.store 3 2 (.int .i64 A) (k := k21) (t := TY.countermandref17_State) (n := 3) (fs := plains [.slice cur.a cur.ps.length cur.c, .int .i64 cur.s.c0, .int .i64 cur.g.a]) rfl rfl
      refine ⟨A, E4.cM 7 rfl (i := 1) rfl, _, s2, Fin.of ?_⟩
      have E6 : Keep B h (PFx k8 k18 k21 vS rS rR z ++ its.flatMap It.e ++ (cur.e ++ [some (k67, .vec TY.countermandlaw17_Step (plains [.int .i64 K, .int .i64 A, .int .i64 C]) 3)])) _ := E5
      exact plain (z := z) ⟨P.cu.o, P.cu.d, P.cu.f, P.cu.c0, P.cu.c1, by show cur.ps.length ≤ q + 1; omega, P.cu.pr⟩ (E6.tM 7)
    · subst h3'
      refine ⟨_, _, _, _, _, _, _, ⟨E2.cell 2 rfl (j := 0) rfl, E2.cell 2 rfl (j := 1) rfl, E2.cell 2 rfl (j := 2) rfl, E2.cell 2 rfl (j := 3) rfl, E2.cell 2 rfl (j := 4) rfl, E2.cell 2 rfl (j := 5) rfl, E2.cell 2 rfl (j := 6) rfl, trivial⟩, C, E2.cM 7 rfl (i := 2) rfl, A, E2.cM 7 rfl (i := 1) rfl, A, E2.cM 7 rfl (i := 1) rfl, Pops_push E2 P hq hN fun _ _ => rfl⟩
    · have E3 := E2.tM 7
      have E4 : Keep B h (PFx k8 k18 k21 vS rS rR cur ++ its.flatMap It.e ++ cur.e) _ := E3
      clear E1 E2 E3 E
      refine pop_wp (i := 0) E4 ⟨rfl, rfl⟩ P.ms (by rw [List.length_map]; omega) (fun hemp h' E5 => ⟨fun e => (by cases e), fun _ k289 a289 b289 h290 e290 => ?_⟩) fun l' zm v' r' h275 el R' E5 => ⟨fun _ k293 a293 b293 h294 e294 => ?_, fun e => by cases e⟩
      · have hit : its = [] := List.map_eq_nil_iff.1 hemp
        have E6 := E5.made a289 b289 e290
        refine ⟨_, stores_whole E6.last rfl (by simp) (by simp [isOne]) (by simp), fun _ => ?_, fun hn => absurd (by rw [hit]; rfl) hn⟩
        have E7 := (E6.putLast (.vec TY.mark_Mark (plains zeroM) 12)).pop
        have hw : IntKind.wrap .i64 ((q : Int) + 1) = ((q + 1 : Nat) : Int) := by rw [w64 (by omega) (by omega)]; omega
        exact Fin.of ⟨steps.length - (q + 1), by omega, q + 1, its, cur, vS, rS, rR, rfl, hw, by omega, rfl, ⟨by omega, P.cu.mono (by omega), fun y hy => (P.al y hy).mono (by omega), P.pl, P.ms, P.rs⟩, E7⟩
      · obtain ⟨its', z, rfl⟩ : ∃ its' z, its = its' ++ [z] := by
          rcases List.eq_nil_or_concat its with h | ⟨i', z', h⟩
          · rw [h] at el; simp at el
          · exact ⟨i', z', by rw [h, List.concat_eq_append]⟩
        rw [List.map_append, List.map_singleton] at el
        obtain ⟨rfl, hz⟩ := List.append_inj' el rfl
        cases hz
        have E6 : Keep B h (PFx k8 k18 k21 v' r' rR cur ++ (its' ++ [z]).flatMap It.e ++ cur.e) h275 := E5
        rw [flat_snoc] at E6
        have E7 := (E6.tM 7).nM a293 b293 e294
        refine ⟨_, stores_whole (E7.gM 7 rfl) rfl (by simp) (by simp [isOne, It.mk']) (by simp), fun _ => ?_, fun hn => absurd (by simp) hn⟩
        have E8 := E7.pM (o' := .vec TY.mark_Mark (plains z.mk'.cells) 12) 7 rfl
        have hll : (its' ++ [z]).length = its'.length + 1 := by simp
        have hw : IntKind.wrap .i64 (((its'.length + 1 : Nat) : Int) - 1) = ((its'.length : Nat) : Int) := by rw [w64 (by rw [hll] at hlen; omega) (by rw [hll] at hlen; omega)]; omega
        have hcap := Row.cap P.rs
        obtain ⟨-, hrd⟩ := Row.rd (B := B) P.rs It.rc_len (by omega)
        rw [hll] at hlen hcap ⊢
        obtain ⟨A2, f1, _, f2⟩ := hrd _ (fun k o e => E8.at 4 (by rw [← e]; rfl)) its'.length z (by simp)
        rw [hw]
        refine ⟨A2, f1, by omega, by omega, _, _, _, _, _, _, f2, fun k305 a305 b305 h306 e306 => ?_⟩
        have E9 := E8.nM a305 b305 e306
        refine ⟨_, stores_whole (E9.gM 8 rfl) rfl (by simp) (by simp [isOne]) (by simp), by omega, by omega, by omega, ?_⟩
        have E10 : Keep B h (PFx k8 k18 k21 v' r' rR cur ++ its'.flatMap It.e ++ (z.e ++ [some (k293, .vec TY.mark_Mark (plains z.mk'.cells) 12), some (k305, .vec TY.countermandref17_Mark (plains z.rc) 4)])) _ := E9.pM (o' := .vec TY.countermandref17_Mark (plains z.rc) 4) 8 rfl
        have hz := P.al z (by simp)
        have hzp := hz.pl
        have hpl := P.pl z (by simp)
        refine ⟨z.place, E10.cM 7 rfl (i := 11) rfl, z.place, E10.cM 8 rfl (i := 3) rfl, fun _ => ⟨by omega, by omega, z.mm.b, E10.cM 7 rfl (i := 8) rfl, z.place, E10.cM 8 rfl (i := 3) rfl, fun _ => ?_, fun hn => absurd hpl hn⟩, fun hn => absurd rfl hn⟩
        refine ⟨_, _, _, _, _, _, _, ⟨E10.cM 7 rfl (i := 0) rfl, E10.cM 7 rfl (i := 1) rfl, E10.cM 7 rfl (i := 2) rfl, E10.cM 7 rfl (i := 3) rfl, E10.cM 7 rfl (i := 4) rfl, E10.cM 7 rfl (i := 5) rfl, E10.cM 7 rfl (i := 6) rfl, trivial⟩, _, _, _, _, _, ⟨E10.cM 8 rfl (i := 0) rfl, E10.cM 8 rfl (i := 1) rfl, E10.cM 8 rfl (i := 2) rfl, trivial⟩, ?_⟩
        refine same17_wp (x := z.x) (s := z.s) (g := z.g) (ps := z.ps) (i := (PFx k8 k18 k21 v' r' rR cur ++ its'.flatMap It.e).length + 0) (j := (PFx k8 k18 k21 v' r' rR cur ++ its'.flatMap It.e).length + 5) E10 ⟨upM 0 rfl, upM 1 rfl⟩ (by rw [← hz.d]; exact hz.o.d) (upM 5 rfl) (by omega) (fun h' E' => PRow.rd hz.pr fun k o e => E'.gM 6 (by rw [← e]; rfl)) rfl rfl fun h343 E11 => ⟨fun _ => Fin.of ?_, fun e => by cases e⟩
        have rs2 : Row rR (.slice a52 its'.length c54) TY.countermandref17_Mark 4 (its'.flatMap It.rc) := by
          have := Row.cut P.rs (n := its'.length) (by rw [hll]; omega)
          rwa [List.flatMap_append, ← flatMap_length It.rc_len its', List.take_left] at this
        exact Pops_J4 E11 (by omega) (fun y hy => P.al y (by simp [hy])) (fun y hy => P.pl y (by simp [hy])) hz R' rs2 hq hN
    · have E3 := E2.tM 7
      have E4 : Keep B h (PFx k8 k18 k21 vS rS rR cur ++ its.flatMap It.e ++ cur.e) _ := E3
      refine clear_wp (i := 0) E4 ⟨rfl, rfl⟩ P.ms fun v' r' h346 R' E5 => Fin.of ?_
      have E6 : Keep B h (PFx k8 k18 k21 v' r' none cur ++ its.flatMap It.e ++ cur.e) h346 := E5.lose 4
      have E7 : Keep B h (PFx k8 k18 k21 v' r' none cur ++ ([] : List It).flatMap It.e ++ cur.e) h346 := by
        have := Keep.dropMid (L := PFx k8 k18 k21 v' r' none cur) (M := its.flatMap It.e) (N := cur.e) (by rw [← List.append_assoc]; exact E6)
        rw [List.flatMap_nil, List.append_nil]; exact this
      exact Pops_J2 (its := []) E7 ⟨by simp, P.cu.mono (by omega), fun y hy => (by cases hy), fun y hy => (by cases hy), R', Row.nil _ _⟩ hq hN
  · refine Fin.ent E.back (Fin.of ?_)
    unfold S_countermandlaw17_MarkPops_J1
    refine clear_nil ?_
    refine C_mark_Stack_Pop.of ?_
    unfold S_mark_Stack_Pop
    intro k15 a15 b15 h16 e16
    have E1 := (Keep.nil B h).made a15 b15 e16
    refine ⟨fun _ => ?_, fun hn => absurd rfl hn⟩
    refine ⟨_, stores_whole E1.last rfl (by simp) (by simp [isOne]) (by simp), ?_⟩
    have E2 := E1.putLast (.vec TY.mark_Mark (plains zeroM) 12)
    have g := E2.last
    refine ⟨_, _, _, _, _, _, _, _, _, _, _, _, ⟨cellH_vec g rfl, cellH_vec g rfl, cellH_vec g rfl, cellH_vec g rfl, cellH_vec g rfl, cellH_vec g rfl, cellH_vec g rfl, cellH_vec g rfl, cellH_vec g rfl, cellH_vec g rfl, cellH_vec g rfl, cellH_vec g rfl, trivial⟩, Fin.of ⟨fun e => (by cases e), fun _ k41 a41 b41 h42 e42 => ?_⟩⟩
    have E3 := E2.made a41 b41 e42
    refine ⟨_, stores_whole E3.last rfl (by simp) (by simp [isOne]) (by simp), len_nil ⟨fun _ => ?_, fun hn => absurd rfl hn⟩⟩
    have E4 := E3.putLast (.vec TY.mark_Mark (plains zeroM) 12)
    refine C_mark_Stack_Push.of ?_
    unfold S_mark_Stack_Push
    intro k16 a16 b16 h17 e17
    have E5 := E4.made a16 b16 e17
    exact ⟨fun _ => Fin.of (Fin.ent E5.back (Fin.of hQ)), fun hn => absurd rfl hn⟩
end
theorem MarkPops_calls {H : Type} {enc : TypeId × Value → H} (W : World) {a : Option Addr} {len cap : Nat} {d : DataW H} {p : List MemPlace} (k : DataW.Trod enc PG W 0 (fun _ => true) true TY.s_countermandlaw17_Step (.slice a len cap) d p) :
    Calls PG FN.countermandlaw17_MarkPops #[.slice a len cap] W fun e w' => e = .returned (.bool true) ∧ Below W.heap.size W w' := by
  obtain ⟨l, rfl, hr, hok⟩ := Steps_arg k
  refine Spec.calls (Spec.mono (MarkPops_wp (Q := fun b _ => b = true) hr rfl) ?_)
  rintro v h' ⟨b, rfl, rfl⟩
  rfl
end Go.Proofs.Ythloobpjkeodgaa.H
