/- Vault: alive; VaultNil, VaultOpens, VaultTwice. No condition. -/
import Derived.Test.YtcncdfmnpmmikaaVd
import Derived.Test.YtcncdfmnpmmikaaXvT
namespace Go.Proofs.Ytcncdfmnpmmikaa.H
open Go Go.RowKit
set_option linter.unusedVariables false
set_option maxRecDepth 100000

theorem told_nil : toldL [] = ⟨0, [], []⟩ := by unfold toldL; rw [allL_none openL_nil]; rfl
theorem told_rows {n : Nat} {im : List UInt8} {ls : List (List UInt8)} (h0 : n ≠ 0) (h : n ≤ 1099511627776) (hi : (imgL n im).length ≤ 1024) (hl : ∀ l ∈ ls, l.length + 1 ≤ 1024) : toldL (rowL (imgL n im :: ls.map (1 :: ·))) = ⟨n, im, ls⟩ := by
  have hs : Short (imgL n im :: ls.map (1 :: ·)) := fun l hx => by
    rcases List.mem_cons.1 hx with rfl | hx
    · exact hi
    · obtain ⟨y, hy, rfl⟩ := List.mem_map.1 hx
      have := hl y hy
      simp; omega
  unfold toldL
  rw [allL_rows hs, toldR_some (firstL_img h0 h im), loadsL_ones]
theorem crash_all (cs : List Chg) (a b : Int) : crashD cs cs.length a b = cs := by
  unfold crashD; simp
theorem textD_nil (a : Int) : textD a [] = ByteArray.mk #[] := rfl
theorem bl_mt : bl (ByteArray.mk #[]) = [] := rfl
theorem fOf_nil : fOf [] = ⟨0, [], []⟩ := by unfold fOf foundL; rw [textD_nil, textD_nil, bl_mt, told_nil]; simp
theorem aOf_nil : aOf [] = 0 := by unfold aOf areaL; rw [textD_nil, textD_nil, bl_mt, told_nil]; simp
theorem vlog_mt {kD : Nat} {ar : Int} {cs : List Chg} (h : bl (textD ar cs) = []) : vlog kD ar cs = walO kD ar 0 false := by
  have e1 : wholeL [] = 0 := by unfold wholeL; rw [allL_none openL_nil]; rfl
  have e2 : tornOf [] = false := rfl
  unfold vlog; rw [h, e1, e2]
theorem imgL_len (n : Nat) (im : List UInt8) : (imgL n im).length = 1 + (natB n).length + im.length := by simp [imgL]; omega
theorem found_right {a b : List UInt8} (h : (toldL a).e < (toldL b).e) : foundL a b = toldL b := by unfold foundL; rw [if_pos h]
theorem found_left {a b : List UInt8} (h : ¬ (toldL a).e < (toldL b).e) : foundL a b = toldL a := by unfold foundL; rw [if_neg h]
section
variable {B : RO} {h0 h h' : Heap} {Q : Bool → Heap → Prop} {s s1 s2 : ByteArray}
theorem foundBlk {L : List (Option (Nat × AObj))} {k : Nat} {im : List UInt8} {v : Value} (E : Keep B h0 L h) (a : h k = none) (b : B k = none) (e : h' = h.set k (.vec TY.vault_Found (plains [.string ByteArray.empty, .slice none 0 0]) 2)) (hv : isOne v = true) : ∃ h2, StoresAt ⟨k, 0, none⟩ h' 0 [.string (ba im), v] h2 ∧ Keep B h0 (L ++ [some (k, foundO im v)]) h2 := by
  have E1 := E.made a b e
  exact ⟨_, stores_whole E1.last rfl (by simp) (fun y hy => by simp only [List.mem_cons, List.not_mem_nil, or_false] at hy; rcases hy with rfl | rfl <;> first | exact hv | rfl) (by simp), E1.putLast _⟩
theorem alive05_wp (hQ : ∀ h', Keep B h [] h' → Q true h') : C_countermandlaw05_alive B h Q := by
  refine C_countermandlaw05_alive.of ?_
  unfold S_countermandlaw05_alive
  refine dnew_wp fun kD h2 E => vopen_wp (i := 0) E ⟨rfl, rfl⟩ DOk.nil fun kv kl a c r' h4 R E1 => ?_
  rw [fOf_nil, aOf_nil, vlog_mt (by rw [textD_nil]; rfl)] at E1
  rw [fOf_nil] at R ⊢
  intro k11 a11 b11 h12 e12
  obtain ⟨h13, st, E2⟩ := foundBlk (im := []) (v := .slice a 0 c) E1 a11 b11 e12 rfl
  refine ⟨h13, st, fun _ => ?_, fun hn => absurd rfl hn⟩
  have E3 : Keep B h ([] ++ vE kD kv kl [] 0 (.slice none 0 0) none 0 false (walO kD 0 0 false)) h13 := E2.picks [0, 1, 2, 3] (by decide)
  have hb1 : bl (ByteArray.mk #[105]) = [105] := rfl
  have hb2 : bl (ByteArray.mk #[97]) = [97] := rfl
  have hil : (imgL (0 + 1) [105]).length = 3 := by rw [imgL_len, natB_1]; rfl
  refine vsettle_wp E3 (Row.nil _ _) (Nat.le_refl _) DOk.nil (by simp) (by decide) (.inl rfl) (by omega) (fun hL => by rw [hb1, hil] at hL; omega) fun _ ok1 kl' h44 E4 => ⟨fun _ => ?_, fun hn => absurd rfl hn⟩
  rw [hb1] at E4 ok1
  have t0 := stl_old 0 0 [105] []
  have t1 := stl_new (.inl rfl) 0 [105] ([] : List Chg)
  rw [show (1 : Int) - 0 = 1 from rfl] at t1 E4
  have hcl := closeL_len (l := imgL (0 + 1) [105]) (by rw [hil]; omega)
  have hcl2 := closeL_len (l := 1 :: bl (ByteArray.mk #[97])) (by rw [hb2]; decide)
  rw [hb2] at hcl2
  generalize hcs : stl 0 0 [105] [] = cs1 at t0 t1 E4 ok1
  have hlen : cs1.length = 3 := by rw [← hcs]; rfl
  have z1 : (textD 1 cs1).size = 9 := by rw [t1, ba_size, hcl, hil]
  refine vappend_wp E4 (by rw [List.drop_length]; exact Row.nil _ _) (Nat.le_refl _) ok1 (by omega) (by decide) (by rw [hil]; omega) (.inr rfl) (fun hL => absurd hL (by decide)) (fun _ hF => by rw [hb2, z1, hcl2] at hF; simp at hF) fun _ _ v2 r2 h47 R2 E5 => ⟨fun _ => Fin.of ?_, fun hn => absurd rfl hn⟩
  rw [hb2] at R2 E5
  have ok2 : DOk (cs1 ++ [Chg.mk 1 false (ba (closeL [1, 97]))]) := ok1.snoc (.inr rfl) (by show (textD 1 _).size ≤ _; rw [tD_app, ByteArray.size_append, z1, ba_size, hcl2]; decide)
  unfold S_countermandlaw05_alive_J1
  refine vforce_wp E5 R2 (by simp) ok2 (by simp; omega) fun h16 E6 => dcrash_wp (i := 0) (keep := 0) (part := 0) E6 ⟨rfl, rfl⟩ (by rw [List.drop_length]; exact Row.nil _ _) (Nat.le_refl _) ok2 (by simp; omega) fun h17 E7 => ?_
  rw [crash_all] at E7
  refine vopen_wp (i := 0) E7 ⟨rfl, rfl⟩ ok2 fun kv2 kl2 a20 c22 r20 h18 R20 E8 => ?_
  have ht0 : bl (textD 0 (cs1 ++ [Chg.mk 1 false (ba (closeL [1, 97]))])) = [] := by rw [tD_other _ _ (by decide), t0]; rfl
  have ht1 : bl (textD 1 (cs1 ++ [Chg.mk 1 false (ba (closeL [1, 97]))])) = rowL (imgL 1 [105] :: [[97]].map (1 :: ·)) := by
    rw [tD_app, t1, bl_append, bl_ba, bl_ba]; simp [rowL]
  have hto := told_rows (n := 1) (im := [105]) (ls := [[97]]) (by omega) (by omega) (by rw [imgL_len, natB_1]; decide) (fun l hl => by rw [List.mem_singleton] at hl; subst hl; decide)
  have hf : fOf (cs1 ++ [Chg.mk 1 false (ba (closeL [1, 97]))]) = ⟨1, [105], [[97]]⟩ := by
    unfold fOf
    rw [ht0, ht1, found_right (by rw [told_nil, hto]; decide), hto]
  rw [hf] at R20 E8 ⊢
  intro k25 a25 b25 h26 e26
  obtain ⟨h27, st2, E9⟩ := foundBlk (im := [105]) (v := .slice a20 1 c22) E8 a25 b25 e26 rfl
  refine ⟨h27, st2, fun _ => ⟨_, cellH_vec E9.last rfl, fun _ => .inl ⟨a20, 1, c22, cellH_vec E9.last rfl, fun _ => .inl ⟨a20, 1, c22, cellH_vec E9.last rfl, ?_⟩, fun hn => absurd rfl hn⟩, fun hn => absurd rfl hn⟩, fun hn => absurd rfl hn⟩
  obtain ⟨A, f1, _, f2⟩ := ((Row.rd (B := B) R20 strC_len (by omega)).2 h27 fun k o e => E9.at 6 (by rw [← e]; rfl)) 0 [97] rfl
  refine ⟨A, f1, by omega, by omega, ba [97], f2.1, Fin.of ?_⟩
  rw [show decide (ba [97] = ByteArray.mk #[97]) = true from decide_eq_true rfl]
  exact hQ _ (E9.take 0)
theorem VaultNil_wp (hQ : Q true h) : C_countermandlaw05_VaultNil B s h Q := by
  refine C_countermandlaw05_VaultNil.of ?_
  unfold S_countermandlaw05_VaultNil
  refine alive05_wp fun h3 E => ⟨fun _ => vopen_nil ?_, fun e => by cases e⟩
  intro k12 a12 b12 h13 e13
  obtain ⟨h14, st, E1⟩ := foundBlk (im := []) (v := .slice none 0 0) E a12 b12 e13 rfl
  exact ⟨h14, st, vforce_nil ⟨fun _ => ⟨_, cellH_vec E1.last rfl, fun _ => .inl ⟨_, _, _, cellH_vec E1.last rfl, fun _ => ⟨fun _ => vsettle_nil ⟨fun _ => vappend_nil ⟨fun _ => vsize_nil (vepoch_nil (Fin.ent E1.back (Fin.of hQ))), fun hn => absurd rfl hn⟩, fun hn => absurd rfl hn⟩, fun hn => absurd rfl hn⟩, fun hn => absurd rfl hn⟩, fun hn => absurd rfl hn⟩, fun hn => absurd rfl hn⟩⟩
/-- A disk with two areas. -/
def twoC (s1 s2 : ByteArray) : List Chg := [] ++ [Chg.mk 0 false s1] ++ [Chg.mk 1 false s2]
theorem twoC_0 (s1 s2 : ByteArray) : textD 0 (twoC s1 s2) = s1 := by
  unfold twoC; rw [tD_other _ _ (show (1 : Int) ≠ 0 by decide), tD_app, textD_nil]; exact bl_inj (by rw [bl_append]; rfl)
theorem twoC_1 (s1 s2 : ByteArray) : textD 1 (twoC s1 s2) = s2 := by
  unfold twoC; rw [tD_app, tD_other _ _ (show (0 : Int) ≠ 1 by decide), textD_nil]; exact bl_inj (by rw [bl_append]; rfl)
theorem two_wp {L : List (Option (Nat × AObj))} {kD : Nat} {R1 : Heap → Prop} (E : Keep B h0 (L ++ [some (kD, dskO [] 0 (.slice none 0 0)), none]) h) (hs : s1.size + s2.size ≤ 4096) {P : Int → Heap → Prop}
    (hP : ∀ x h1, P x h1 = C_disk_Disk_Append B (some ⟨kD, 0, none⟩) 1 s2 h1 (fun _ h2 => R1 h2))
    (hQ : DOk (twoC s1 s2) → ∀ v r h', Keep B h0 (L ++ [some (kD, dskO (twoC s1 s2) 0 v), r]) h' → R1 h') : C_disk_Disk_Append B (some ⟨kD, 0, none⟩) 0 s1 h P := by
  have z0 : ∀ a, (textD a []).size = 0 := fun a => rfl
  refine dappend_wp E (DAt.m 0 rfl rfl) (Row.nil _ _) (Nat.le_refl _) DOk.nil (by simp) (by omega) (fun hn => absurd (.inl rfl) hn) (fun _ hf => by rw [z0] at hf; omega) fun _ _ v1 r1 h1 Rr1 E1 => ?_
  rw [setDM] at E1
  have ok1 : DOk ([] ++ [Chg.mk 0 false s1]) := DOk.nil.snoc (.inl rfl) (by show (textD 0 _).size ≤ _; rw [tD_app, ByteArray.size_append, z0]; omega)
  have z1 : (textD 1 ([] ++ [Chg.mk 0 false s1])).size = 0 := by rw [tD_other _ _ (show (0 : Int) ≠ 1 by decide)]; rfl
  rw [hP]
  refine dappend_wp E1 (DAt.m 0 rfl rfl) Rr1 (by simp) ok1 (by simp) (by omega) (fun hn => absurd (.inr rfl) hn) (fun _ hf => by rw [z1] at hf; omega) fun _ _ v2 r2 h2 Rr2 E2 => ?_
  rw [setDM] at E2
  have ok2 : DOk (twoC s1 s2) := ok1.snoc (.inr rfl) (by show (textD 1 _).size ≤ _; rw [tD_app, ByteArray.size_append, z1]; omega)
  exact hQ ok2 v2 r2 h2 E2
theorem two_reads {k : Nat} (g : h k = some (.vec TY.string (plains [.string s1, .string s2]) 2)) : Reads B h (some ⟨k, 0, none⟩) 1 strC [bl s1, bl s2] := by
  have R : Row (some (k, .vec TY.string (plains [.string s1, .string s2]) 2)) (.slice (some ⟨k, 0, none⟩) 2 2) TY.string 1 ([bl s1, bl s2].flatMap strC) := .inr ⟨k, 2, 2, 2, [], by simp [strC, ba_bl], rfl, rfl, by omega, by omega⟩
  exact (Row.rd (B := B) R strC_len (by omega)).2 h fun k' o e => by cases e; exact g
theorem fOf_two (s1 s2 : ByteArray) : fOf (twoC s1 s2) = foundL (bl s1) (bl s2) := by unfold fOf; rw [twoC_0, twoC_1]
theorem VaultOpens_wp (hQ : Q true h) : C_countermandlaw05_VaultOpens B s1 s2 h Q := by
  refine C_countermandlaw05_VaultOpens.of ?_
  unfold S_countermandlaw05_VaultOpens
  refine alive05_wp fun h4 E => ⟨fun _ => ?_, fun e => by cases e⟩
  intro k6 a6 b6 h7 e7
  have E1 := E.made a6 b6 e7
  refine great05_wp (ls := [bl s1, bl s2]) (two_reads E1.last) fun b hb => ⟨fun _ => Fin.ent E1.back (Fin.of hQ), fun hf => ?_⟩
  obtain ⟨-, hsum⟩ := hb hf
  have hsz : s1.size + s2.size ≤ 4096 := by simp [bl_length] at hsum; omega
  refine dnew_wp fun kD h10 E2 => ?_
  have E3 : Keep B h ([] ++ [some (kD, dskO [] 0 (.slice none 0 0)), none]) h10 := (E1.append E2).picks [1, 2] (by decide)
  refine two_wp (s1 := s1) (s2 := s2) E3 hsz (fun _ _ => rfl) fun ok v r h14 E4 => vopen_wp (i := 0) E4 ⟨rfl, rfl⟩ ok fun kv kl a19 c21 r19 h16 R19 E5 => ?_
  rw [fOf_two] at R19 E5 ⊢
  generalize hF : foundL (bl s1) (bl s2) = F at R19 E5
  intro k23 a23 b23 h24 e24
  obtain ⟨h25, st, E6⟩ := foundBlk (im := F.im) (v := .slice a19 F.ls.length c21) E5 a23 b23 e24 rfl
  refine ⟨h25, st, ?_⟩
  have hfl : F.ls.length ≤ 1000000000 := by
    have h1 := allL_small (bl s1)
    have h2 := allL_small (bl s2)
    have h3 : ∀ b, (toldL b).ls.length ≤ (allL b).length := fun b => by
      unfold toldL
      cases hb : allL b with
      | nil => simp [toldR_nil]
      | cons l t =>
        cases hf : firstL l with
        | none => rw [toldR_none hf]; simp
        | some p => obtain ⟨n, r⟩ := p; rw [toldR_some hf]; have := loadsL_len t; simp; omega
    have h4 := h3 (bl s1)
    have h5 := h3 (bl s2)
    rw [bl_length] at h1 h2
    rw [← hF]; unfold foundL; split <;> omega
  rw [show C_countermandref05_Found B s1 s2 h25 = C_countermandref05_Found B (ba (bl s1)) (ba (bl s2)) h25 by rw [ba_bl, ba_bl]]
  refine found_wp (by rw [bl_length]; omega) (by rw [bl_length]; omega) fun a29 c31 r29 h26 R29 E7 => ?_
  rw [hF] at R29 ⊢
  have E8 := E6.append E7
  refine ⟨fun _ => vepoch_wp (kl := kl) (E8.at 2 rfl) ⟨fun _ => ⟨_, E8.cell 5 rfl rfl, fun _ => .inl ⟨a19, F.ls.length, c21, E8.cell 5 rfl rfl, ?_⟩, fun hn => absurd rfl hn⟩, fun hn => absurd rfl hn⟩, fun hn => absurd rfl hn⟩
  exact same05_wp ((Row.rd (B := B) R19 strC_len (by omega)).2 h26 fun k o e => E8.at 4 (by rw [← e]; rfl)) ((Row.rd (B := B) R29 strC_len (by omega)).2 h26 fun k o e => E8.at 6 (by rw [← e]; rfl)) hfl ⟨fun _ => vappend_stale (E8.at 2 rfl) (Fin.ent E8.back (Fin.of hQ)), fun e => by cases e⟩
theorem VaultTwice_wp (hQ : Q true h) : C_countermandlaw05_VaultTwice B s1 s2 h Q := by
  refine C_countermandlaw05_VaultTwice.of ?_
  unfold S_countermandlaw05_VaultTwice
  refine alive05_wp fun h4 E => ⟨fun _ => ?_, fun e => by cases e⟩
  intro k6 a6 b6 h7 e7
  have E1 := E.made a6 b6 e7
  refine great05_wp (ls := [bl s1, bl s2]) (two_reads E1.last) fun b hb => ⟨fun _ => Fin.ent E1.back (Fin.of hQ), fun hf => ?_⟩
  obtain ⟨-, hsum⟩ := hb hf
  have hsz : s1.size + s2.size ≤ 4096 := by simp [bl_length] at hsum; omega
  refine dnew_wp fun kD h10 E2 => ?_
  have E3 : Keep B h ([] ++ [some (kD, dskO [] 0 (.slice none 0 0)), none]) h10 := (E1.append E2).picks [1, 2] (by decide)
  refine two_wp (s1 := s1) (s2 := s2) E3 hsz (fun _ _ => rfl) fun ok v r h14 E4 => vopen_wp (i := 0) E4 ⟨rfl, rfl⟩ ok fun kv kl a19 c21 r19 h16 R19 E5 => ?_
  have hfl : (fOf (twoC s1 s2)).ls.length ≤ 1000000000 := by
    rw [fOf_two]
    have h1 := allL_small (bl s1)
    have h2 := allL_small (bl s2)
    have h3 : ∀ b, (toldL b).ls.length ≤ (allL b).length := fun b => by
      unfold toldL
      cases hb : allL b with
      | nil => simp [toldR_nil]
      | cons l t =>
        cases hf : firstL l with
        | none => rw [toldR_none hf]; simp
        | some p => obtain ⟨n, r⟩ := p; rw [toldR_some hf]; have := loadsL_len t; simp; omega
    have h4 := h3 (bl s1)
    have h5 := h3 (bl s2)
    rw [bl_length] at h1 h2
    unfold foundL; split <;> omega
  intro k23 a23 b23 h24 e24
  obtain ⟨h25, st, E6⟩ := foundBlk (im := (fOf (twoC s1 s2)).im) (v := .slice a19 (fOf (twoC s1 s2)).ls.length c21) E5 a23 b23 e24 rfl
  refine ⟨h25, st, vopen_wp (i := 0) E6 ⟨rfl, rfl⟩ ok fun kv2 kl2 a29 c31 r29 h26 R29 E7 => ?_⟩
  intro k33 a33 b33 h34 e34
  obtain ⟨h35, st2, E8⟩ := foundBlk (im := (fOf (twoC s1 s2)).im) (v := .slice a29 (fOf (twoC s1 s2)).ls.length c31) E7 a33 b33 e34 rfl
  refine ⟨h35, st2, fun _ => vepoch_wp (kl := kl) (E8.at 2 rfl) (vepoch_wp (kl := kl2) (E8.at 6 rfl) ⟨fun _ => ?_, fun hn => absurd rfl hn⟩), fun hn => absurd rfl hn⟩
  refine vsize_wp (i := 2) (j := 3) E8 rfl rfl (vsize_wp (i := 6) (j := 7) E8 rfl rfl ⟨fun _ => ?_, fun hn => absurd rfl hn⟩)
  refine ⟨_, E8.cell 5 rfl rfl, _, E8.cell 9 rfl rfl, fun _ => .inl ⟨_, _, _, E8.cell 5 rfl rfl, .inl ⟨_, _, _, E8.cell 9 rfl rfl, ?_⟩⟩, fun hn => absurd rfl hn⟩
  refine same05_wp ((Row.rd (B := B) R19 strC_len (by omega)).2 h35 fun k o e => E8.at 4 (by rw [← e]; rfl)) ((Row.rd (B := B) R29 strC_len (by omega)).2 h35 fun k o e => E8.at 8 (by rw [← e]; rfl)) hfl ⟨fun _ => ?_, fun e => by cases e⟩
  refine dread_wp (i := 0) E8 ⟨rfl, rfl⟩ (.inl rfl) ⟨fun _ => dread_wp (i := 0) E8 ⟨rfl, rfl⟩ (.inr rfl) (Fin.ent E8.back (Fin.of ?_)), fun hn => absurd (twoC_0 s1 s2) hn⟩
  rw [decide_eq_true (twoC_1 s1 s2)]; exact hQ
end
theorem VaultNil_calls (W : World) (s : ByteArray) (ws : s.size ≤ 140737488351232) :
    Calls PG FN.countermandlaw05_VaultNil #[.string s] W fun e w' => e = .returned (.bool true) ∧ Below W.heap.size W w' := by
  refine Spec.calls (Spec.mono (VaultNil_wp (Q := fun b _ => b = true) rfl) ?_)
  rintro v h' ⟨b, rfl, rfl⟩
  rfl
theorem VaultOpens_calls (W : World) (s1 : ByteArray) (w1 : s1.size ≤ 140737488351232) (s2 : ByteArray) (w2 : s2.size ≤ 140737488351232) :
    Calls PG FN.countermandlaw05_VaultOpens #[.string s1, .string s2] W fun e w' => e = .returned (.bool true) ∧ Below W.heap.size W w' := by
  refine Spec.calls (Spec.mono (VaultOpens_wp (Q := fun b _ => b = true) rfl) ?_)
  rintro v h' ⟨b, rfl, rfl⟩
  rfl
theorem VaultTwice_calls (W : World) (s1 : ByteArray) (w1 : s1.size ≤ 140737488351232) (s2 : ByteArray) (w2 : s2.size ≤ 140737488351232) :
    Calls PG FN.countermandlaw05_VaultTwice #[.string s1, .string s2] W fun e w' => e = .returned (.bool true) ∧ Below W.heap.size W w' := by
  refine Spec.calls (Spec.mono (VaultTwice_wp (Q := fun b _ => b = true) rfl) ?_)
  rintro v h' ⟨b, rfl, rfl⟩
  rfl
end Go.Proofs.Ytcncdfmnpmmikaa.H
