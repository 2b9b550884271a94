/- Vault: VaultFull, VaultEpochs. No condition. -/
import Derived.Test.YtcncdfmnpmmikaaVe
import Derived.Test.YtcncdfmnpmmikaaXvT
namespace Go.Proofs.Ytcncdfmnpmmikaa.H
open Go Go.RowKit
set_option linter.unusedVariables false
set_option maxRecDepth 100000

theorem TK.strs_sl : PG.underlying TY.s_string = some (.slice TY.string) := by kernel_rfl
theorem TK.str_kd : leafB PG 5 TY.string = some [.str] := by kernel_rfl
theorem StrL_arg {H : Type} {enc : TypeId × Value → H} {w : World} {base : Nat} {spare : Nat → Bool} {held : Bool} {a : Option Addr} {len cap : Nat} {d : DataW H} {p : List MemPlace} (h : DataW.Trod enc PG w base spare held TY.s_string (.slice a len cap) d p) :
    ∃ l : List (List UInt8), len = l.length ∧ Reads (roOf w) noHeap a 1 strC l ∧ ∀ x ∈ l, True :=
  arg_rows strC (fun _ => True) TK.strs_sl TK.str_kd rfl (by omega) (fun vs h => by
    obtain ⟨z3, v3, rfl, _, h3⟩ := h.str
    obtain rfl := h3.nil
    exact ⟨bl z3, by simp [strC, ba_bl], trivial⟩) h
theorem told_one {n : Nat} {im : List UInt8} (h0 : n ≠ 0) (h : n ≤ 1099511627776) (hi : (imgL n im).length ≤ 1024) : toldL (closeL (imgL n im)) = ⟨n, im, []⟩ := by
  have := told_rows (ls := []) h0 h hi (fun l hl => by cases hl)
  rwa [List.map_nil, rowL_one] at this
theorem fOf_ar {ar : Int} {cs : List Chg} {T : TDL} (ha : ar = 0 ∨ ar = 1) (h1 : bl (textD (1 - ar) cs) = []) (h2 : toldL (bl (textD ar cs)) = T) (h3 : T.e ≠ 0) : fOf cs = T := by
  unfold fOf
  rcases ha with rfl | rfl
  · rw [show (1 : Int) - 0 = 1 from rfl] at h1
    rw [h1, found_left (by rw [told_nil]; simp), h2]
  · rw [show (1 : Int) - 1 = 0 from rfl] at h1
    rw [h1, found_right (by rw [told_nil, h2]; simp; omega), h2]
section
variable {B : RO} {h0 h h' : Heap} {Q : Bool → Heap → Prop} {s s1 s2 : ByteArray}
theorem dwaits_wp {L : List (Option (Nat × AObj))} {i kD k : Nat} {cs : List Chg} {r : Option (Nat × AObj)} {Q : Int → Heap → Prop} (E : Keep B h0 L h) (A : DAt L i kD cs k (.slice none 0 0) r) (hQ : Q 0 h) : C_disk_Disk_Waits B (some ⟨kD, 0, none⟩) h Q := by
  refine C_disk_Disk_Waits.of ?_
  unfold S_disk_Disk_Waits
  exact ⟨fun e => (by cases e), fun _ => ⟨_, rfl, .inl ⟨none, 0, 0, E.cellA i (m := 0) A.p rfl, Fin.of hQ⟩⟩⟩
theorem Full_J2 {kD kv kl d : Nat} {sz : Nat} {torn : Bool} (hd : d ≤ 3) (E : Keep B h0 ([] ++ vE kD kv kl ([] ++ [Chg.mk 0 false (ba (closeL (imgL (1099511627776 - d) (bl s1))))]) 1 (.slice none 0 0) none (1099511627776 - d) false (walO kD 0 sz torn)) h) (hs1 : s1.size ≤ 900) (hs2 : s2.size ≤ 900) (ok : DOk ([] ++ [Chg.mk 0 false (ba (closeL (imgL (1099511627776 - d) (bl s1))))])) (hQ : Q true h0) :
    S_countermandlaw05_VaultFull_J2 B s2 (d : Nat) (some ⟨kD, 0, none⟩) (ba (closeL (imgL (1099511627776 - d) (bl s1)))) (some ⟨kv, 0, none⟩) h Q := by
  unfold S_countermandlaw05_VaultFull_J2
  have t0 : textD 0 ([] ++ [Chg.mk 0 false (ba (closeL (imgL (1099511627776 - d) (bl s1))))]) = ba (closeL (imgL (1099511627776 - d) (bl s1))) := by rw [tD_app, textD_nil]; exact bl_inj (by rw [bl_append]; rfl)
  have t1 : textD 1 ([] ++ [Chg.mk 0 false (ba (closeL (imgL (1099511627776 - d) (bl s1))))]) = ByteArray.mk #[] := by rw [tD_other _ _ (show (0 : Int) ≠ 1 by decide), textD_nil]
  rcases Nat.eq_zero_or_pos d with rfl | hp
  · refine vsettle_full (kl := kl) (E.at 2 rfl) (by omega) ⟨fun _ => ⟨fun _ => ?_, fun hn => absurd rfl hn⟩, fun hn => absurd rfl hn⟩
    refine dread_wp (i := 0) E ⟨rfl, rfl⟩ (.inl rfl) ⟨fun _ => dread_wp (i := 0) E ⟨rfl, rfl⟩ (.inr rfl) ⟨fun _ => dwaits_wp (i := 0) E ⟨rfl, rfl⟩ ⟨fun _ => vappend_stale (kl := kl) (E.at 2 rfl) (Fin.ent E.back (Fin.of hQ)), fun hn => absurd rfl hn⟩, fun hn => absurd t1 hn⟩, fun hn => absurd t0 hn⟩
  · have hil : (imgL (1099511627776 - d + 1) (bl s2)).length ≤ 1024 := by
      rw [imgL_len, bl_length]
      have := natB_length (n := 1099511627776 - d + 1) (by omega)
      omega
    refine vsettle_wp E (Row.nil _ _) (Nat.le_refl _) ok (by simp) (by omega) (.inl rfl) (by omega) (fun hL => by omega) fun _ ok1 kl' h28 E1 => ⟨fun hz => by omega, fun _ => ?_⟩
    have n0 := stl_old 0 (1099511627776 - d) (bl s2) ([] ++ [Chg.mk 0 false (ba (closeL (imgL (1099511627776 - d) (bl s1))))])
    have n1 := stl_new (.inl rfl) (1099511627776 - d) (bl s2) ([] ++ [Chg.mk 0 false (ba (closeL (imgL (1099511627776 - d) (bl s1))))])
    rw [show (1 : Int) - 0 = 1 from rfl] at n1 E1
    have hto := told_one (n := 1099511627776 - d + 1) (im := bl s2) (by omega) (by omega) hil
    have hf : fOf (stl 0 (1099511627776 - d) (bl s2) ([] ++ [Chg.mk 0 false (ba (closeL (imgL (1099511627776 - d) (bl s1))))])) = ⟨1099511627776 - d + 1, bl s2, []⟩ :=
      fOf_ar (ar := 1) (.inr rfl) (by rw [show (1 : Int) - 1 = 0 from rfl, n0]; rfl) (by rw [n1, bl_ba, hto]) (by simp)
    refine vopen_wp (i := 0) E1 ⟨rfl, rfl⟩ ok1 fun kv2 kl2 a46 c48 r46 h43 R E2 => ?_
    rw [hf] at R E2 ⊢
    intro k50 a50 b50 h51 e51
    obtain ⟨h52, st, E3⟩ := foundBlk (im := bl s2) (v := .slice a46 0 c48) E2 a50 b50 e51 rfl
    have hw : IntKind.wrap .i64 (IntKind.wrap .i64 (1099511627776 - ((d : Nat) : Int)) + 1) = ((1099511627776 - d + 1 : Nat) : Int) := by
      rw [w64 (n := 1099511627776 - ((d : Nat) : Int)) (by omega) (by omega), w64 (by omega) (by omega)]; omega
    refine ⟨h52, st, fun _ => vepoch_wp (kl := kl') (E3.at 2 rfl) ⟨fun _ => ⟨_, E3.cell 7 rfl rfl, fun _ => dread_wp (i := 0) E3 ⟨rfl, rfl⟩ (.inl rfl) (Fin.ent E3.back (Fin.of ?_)), fun hn => absurd (ba_bl s2) hn⟩, fun hn => absurd hw.symm hn⟩, fun hn => absurd rfl hn⟩
    rw [decide_eq_true n0]; exact hQ
theorem VaultFull_wp {i3 : Int} (hQ : Q true h) : C_countermandlaw05_VaultFull B s1 s2 i3 h Q := by
  refine C_countermandlaw05_VaultFull.of ?_
  unfold S_countermandlaw05_VaultFull
  refine alive05_wp fun h5 E => ⟨fun _ => ⟨fun _ => Fin.ent E.back (Fin.of hQ), fun hs1 => ⟨fun _ => Fin.ent E.back (Fin.of hQ), fun hs2 => ⟨fun _ => Fin.ent E.back (Fin.of hQ), fun h0' => ⟨fun _ => Fin.ent E.back (Fin.of hQ), fun h3 => Fin.of ?_⟩⟩⟩⟩, fun e => by cases e⟩
  obtain ⟨d, rfl⟩ := Int.eq_ofNat_of_zero_le (by omega : 0 ≤ i3)
  have hw : IntKind.wrap .i64 (1099511627776 - ((d : Nat) : Int)) = ((1099511627776 - d : Nat) : Int) := by rw [w64 (by omega) (by omega)]; omega
  have hil : (imgL (1099511627776 - d) (bl s1)).length ≤ 1024 := by
    rw [imgL_len, bl_length]
    have := natB_length (n := 1099511627776 - d) (by omega)
    omega
  have hcl := closeL_len hil
  unfold S_countermandlaw05_VaultFull_J1
  refine dnew_wp fun kD h9 E1 => ?_
  have E2 : Keep B h ([] ++ [some (kD, dskO [] 0 (.slice none 0 0)), none]) h9 := E.append E1
  rw [hw]
  refine image_wp (by omega) (by omega) ?_
  have z0 : ∀ a, (textD a []).size = 0 := fun a => rfl
  refine dappend_wp E2 (DAt.m 0 rfl rfl) (Row.nil _ _) (Nat.le_refl _) DOk.nil (by simp) (by rw [ba_size]; omega) (fun hn => absurd (.inl rfl) hn) (fun _ hf => by rw [z0, ba_size] at hf; omega) fun _ _ v1 r1 h1 Rr1 E3 => ?_
  rw [setDM] at E3
  have ok1 : DOk ([] ++ [Chg.mk 0 false (ba (closeL (imgL (1099511627776 - d) (bl s1))))]) := DOk.nil.snoc (.inl rfl) (by show (textD 0 _).size ≤ _; rw [tD_app, ByteArray.size_append, z0, ba_size]; omega)
  refine dsync_wp E3 (DAt.m 0 rfl rfl) Rr1 (by simp) ok1 (by simp) fun h15 E4 => ?_
  rw [setDM] at E4
  have t0 : textD 0 ([] ++ [Chg.mk 0 false (ba (closeL (imgL (1099511627776 - d) (bl s1))))]) = ba (closeL (imgL (1099511627776 - d) (bl s1))) := by rw [tD_app, textD_nil]; exact bl_inj (by rw [bl_append]; rfl)
  have t1 : textD 1 ([] ++ [Chg.mk 0 false (ba (closeL (imgL (1099511627776 - d) (bl s1))))]) = ByteArray.mk #[] := by rw [tD_other _ _ (show (0 : Int) ≠ 1 by decide), textD_nil]
  have hto := told_one (n := 1099511627776 - d) (im := bl s1) (by omega) (by omega) hil
  have hf : fOf ([] ++ [Chg.mk 0 false (ba (closeL (imgL (1099511627776 - d) (bl s1))))]) = ⟨1099511627776 - d, bl s1, []⟩ :=
    fOf_ar (ar := 0) (.inl rfl) (by rw [show (1 : Int) - 0 = 1 from rfl, t1]; rfl) (by rw [t0, bl_ba, hto]) (by simp only; omega)
  have ha : aOf ([] ++ [Chg.mk 0 false (ba (closeL (imgL (1099511627776 - d) (bl s1))))]) = 0 := by
    unfold aOf areaL; rw [t0, t1, bl_mt, told_nil, bl_ba, hto]; simp
  refine vopen_wp (i := 0) E4 ⟨rfl, rfl⟩ ok1 fun kv kl a19 c21 r19 h16 R E5 => ?_
  rw [hf, ha] at E5
  rw [hf] at R ⊢
  intro k23 a23 b23 h24 e24
  obtain ⟨h25, st, E6⟩ := foundBlk (im := bl s1) (v := .slice a19 0 c21) E5 a23 b23 e24 rfl
  refine ⟨h25, st, fun _ => ⟨_, E6.cell 5 rfl rfl, fun _ => vepoch_wp (kl := kl) (E6.at 2 rfl) ⟨fun _ => Fin.of ?_, fun hn => absurd rfl hn⟩, fun hn => absurd (ba_bl s1) hn⟩, fun hn => absurd rfl hn⟩
  exact Full_J2 (by omega) (E6.picks [0, 1, 2, 3] (by decide)) (by omega) (by omega) ok1 hQ
theorem Epochs_J1 {a : Option Addr} {c : Nat} {ls : List (List UInt8)} (hr : Reads B h a 1 strC ls) (hl : ls.length ≤ 40) (hs : s.size ≤ 900) (hQ : Q true h) : S_countermandlaw05_VaultEpochs_J1 B a ls.length c s h Q := by
  unfold S_countermandlaw05_VaultEpochs_J1
  refine dnew_wp fun kD h10 E1 => vopen_wp (i := 0) E1 ⟨rfl, rfl⟩ DOk.nil fun kv kl a15 c17 r15 h12 R E2 => ?_
  rw [fOf_nil, aOf_nil, vlog_mt (by rw [textD_nil]; rfl)] at E2
  rw [fOf_nil] at R ⊢
  intro k19 a19 b19 h20 e20
  obtain ⟨h21, st, E3⟩ := foundBlk (im := []) (v := .slice a15 0 c17) E2 a19 b19 e20 rfl
  refine ⟨h21, st, ?_⟩
  refine ⟨fun i m h' => ∃ (q kl k sz : Nat) (cs : List Chg) (v : Value) (r : Option (Nat × AObj)) (ready torn : Bool), i = q ∧ q ≤ ls.length ∧ m = ls.length - q ∧ CRow r v (cs.drop k) ∧ k ≤ cs.length ∧ DOk cs ∧ cs.length ≤ 4 * q ∧ Keep B h ([] ++ vE kD kv kl cs k v r q ready (walO kD ((q % 2 : Nat) : Int) sz torn)) h', ls.length, Fin.of ⟨0, kl, 0, 0, [], .slice none 0 0, none, false, false, rfl, by omega, by omega, Row.nil _ _, Nat.le_refl _, DOk.nil, by simp, E3.picks [0, 1, 2, 3] (by decide)⟩, ?_⟩
  clear E1 E2 E3 e20 R
  rintro _ _ h23 ⟨q, kl, k, sz, cs, v, r, ready, torn, rfl, hq, rfl, R, hk, ok, hlc, E⟩
  refine ⟨fun hlt => ?_, fun _ => Fin.ent E.back (Fin.of hQ)⟩
  have hq' : q < ls.length := by omega
  have hw : IntKind.wrap .i64 ((q : Int) + 1) = ((q + 1 : Nat) : Int) := by rw [w64 (by omega) (by omega)]; omega
  have hx := List.getElem?_eq_getElem hq'
  generalize ls[q] = x at hx
  obtain ⟨A, e1, _, e2⟩ := (hr.over E.le E.nw) q x hx
  refine ⟨A, e1, by omega, hlt, ba x, e2.1, fun _ => Fin.ent E.back (Fin.of hQ), fun hz => ?_⟩
  rw [ba_size] at hz
  have hil : (imgL (q + 1) (bl (ba x))).length ≤ 1024 := by
    rw [imgL_len, bl_ba]
    have := natB_length (n := q + 1) (by omega)
    omega
  have har : ((q % 2 : Nat) : Int) = 0 ∨ ((q % 2 : Nat) : Int) = 1 := by omega
  refine vsettle_wp E R hk ok (by omega) (by rw [ba_size]; omega) har (by omega) (fun hL => by omega) fun _ ok1 kl' h63 E1 => ⟨fun _ => ?_, fun hn => absurd rfl hn⟩
  have n0 := stl_old ((q % 2 : Nat) : Int) q (bl (ba x)) cs
  have n1 := stl_new har q (bl (ba x)) cs
  have hcl := closeL_len hil
  rw [bl_ba] at n0 n1 hil hcl E1 ok1
  have hlen : (stl ((q % 2 : Nat) : Int) q x cs).length = cs.length + 3 := by simp [stl]
  generalize stl ((q % 2 : Nat) : Int) q x cs = cs1 at n0 n1 E1 ok1 hlen
  have ha2 : 1 - ((q % 2 : Nat) : Int) = (((q + 1) % 2 : Nat) : Int) := by omega
  rw [ha2] at n1 E1
  refine vepoch_wp (kl := kl') (E1.at 2 rfl) ⟨fun _ => ?_, fun hn => absurd hw.symm hn⟩
  have hcl2 := closeL_len (l := 1 :: bl s) (by rw [List.length_cons, bl_length]; omega)
  rw [List.length_cons, bl_length] at hcl2
  have z1 : (textD (((q + 1) % 2 : Nat) : Int) cs1).size = (imgL (q + 1) x).length + 6 := by rw [n1, ba_size, hcl]
  have har2 : (((q + 1) % 2 : Nat) : Int) = 0 ∨ (((q + 1) % 2 : Nat) : Int) = 1 := by omega
  refine vappend_wp E1 (by rw [List.drop_length]; exact Row.nil _ _) (Nat.le_refl _) ok1 (by omega) (by omega) (by omega) har2 (fun hL => by omega) (fun _ hF => by rw [z1, hcl2] at hF; omega) fun _ _ v2 r2 h69 R2 E2 => ⟨fun _ => Fin.of ?_, fun hn => absurd rfl hn⟩
  have ok2 : DOk (cs1 ++ [Chg.mk (((q + 1) % 2 : Nat) : Int) false (ba (closeL (1 :: bl s)))]) := ok1.snoc har2 (by show (textD (((q + 1) % 2 : Nat) : Int) _).size ≤ _; rw [tD_app, ByteArray.size_append, z1, ba_size, hcl2]; omega)
  have t0 : textD ((q % 2 : Nat) : Int) (cs1 ++ [Chg.mk (((q + 1) % 2 : Nat) : Int) false (ba (closeL (1 :: bl s)))]) = ByteArray.mk #[] := by rw [tD_other _ _ (show (((q + 1) % 2 : Nat) : Int) ≠ ((q % 2 : Nat) : Int) by omega), n0]
  have t1 : bl (textD (((q + 1) % 2 : Nat) : Int) (cs1 ++ [Chg.mk (((q + 1) % 2 : Nat) : Int) false (ba (closeL (1 :: bl s)))])) = rowL (imgL (q + 1) x :: [bl s].map (1 :: ·)) := by
    rw [tD_app, n1, bl_append, bl_ba, bl_ba]; simp [rowL]
  have hto := told_rows (n := q + 1) (im := x) (ls := [bl s]) (by omega) (by omega) hil (fun l hl => by rw [List.mem_singleton] at hl; subst hl; rw [bl_length]; omega)
  have hf : fOf (cs1 ++ [Chg.mk (((q + 1) % 2 : Nat) : Int) false (ba (closeL (1 :: bl s)))]) = ⟨q + 1, x, [bl s]⟩ :=
    fOf_ar har2 (by rw [show 1 - (((q + 1) % 2 : Nat) : Int) = ((q % 2 : Nat) : Int) by omega, t0]; rfl) (by rw [t1, hto]) (by simp)
  unfold S_countermandlaw05_VaultEpochs_J2
  refine vopen_wp (i := 0) E2 ⟨rfl, rfl⟩ ok2 fun kv2 kl2 a38 c40 r38 h35 R3 E3 => ?_
  rw [hf] at R3 E3 ⊢
  intro k42 a42 b42 h43 e43
  obtain ⟨h44, st2, E4⟩ := foundBlk (im := x) (v := .slice a38 1 c40) E3 a42 b42 e43 rfl
  refine ⟨h44, st2, _, E4.cell 7 rfl rfl, fun _ => .inl ⟨a38, 1, c40, E4.cell 7 rfl rfl, fun _ => .inl ⟨a38, 1, c40, E4.cell 7 rfl rfl, ?_⟩, fun hn => absurd rfl hn⟩, fun hn => absurd rfl hn⟩
  obtain ⟨A2, f1, _, f2⟩ := ((Row.rd (B := B) R3 strC_len (by omega)).2 h44 fun k o e => E4.at 6 (by rw [← e]; rfl)) 0 (bl s) rfl
  have htm : Int.tmod ((q : Nat) : Int) 2 = ((q % 2 : Nat) : Int) := rfl
  rw [htm]
  refine ⟨A2, f1, by omega, by omega, ba (bl s), f2.1, fun _ => ⟨by omega, dread_wp (i := 0) E4 ⟨rfl, rfl⟩ har ⟨fun _ => Fin.of ⟨ls.length - (q + 1), by omega, q + 1, kl', _, _, _, v2, r2, true, false, hw, by omega, rfl, R2, by simp, ok2, by rw [List.length_append, hlen]; simp; omega, E4.picks [0, 1, 2, 3] (by decide)⟩, fun hn => absurd t0 hn⟩⟩, fun hn => absurd (ba_bl s) hn⟩
theorem VaultEpochs_wp {a : Option Addr} {c : Nat} {ls : List (List UInt8)} (hr : Reads B h a 1 strC ls) (hQ : Q true h) : C_countermandlaw05_VaultEpochs B a ls.length c s h Q := by
  refine C_countermandlaw05_VaultEpochs.of ?_
  unfold S_countermandlaw05_VaultEpochs
  refine alive05_wp fun h6 E => ⟨fun _ => ⟨fun _ => Fin.ent E.back (Fin.of hQ), fun hl => ⟨fun _ => Fin.ent E.back (Fin.of hQ), fun hs => Fin.ent E.back (Fin.of ?_)⟩⟩, fun e => by cases e⟩
  exact Epochs_J1 hr (by omega) (by omega) hQ
end
theorem VaultFull_calls (W : World) (s1 : ByteArray) (w1 : s1.size ≤ 140737488351232) (s2 : ByteArray) (w2 : s2.size ≤ 140737488351232) (n : Int) (wn : (Lit.int .i64 n).wf = true) :
    Calls PG FN.countermandlaw05_VaultFull #[.string s1, .string s2, .int .i64 n] W fun e w' => e = .returned (.bool true) ∧ Below W.heap.size W w' := by
  refine Spec.calls (Spec.mono (VaultFull_wp (Q := fun b _ => b = true) rfl) ?_)
  rintro v h' ⟨b, rfl, rfl⟩
  rfl
theorem VaultEpochs_calls {H : Type} {enc : TypeId × Value → H} (W : World) {a : Option Addr} {len cap : Nat} {d : DataW H} {p : List MemPlace} (k : DataW.Trod enc PG W 0 (fun _ => true) true TY.s_string (.slice a len cap) d p) (s : ByteArray) (ws : s.size ≤ 140737488351232) :
    Calls PG FN.countermandlaw05_VaultEpochs #[.slice a len cap, .string s] W fun e w' => e = .returned (.bool true) ∧ Below W.heap.size W w' := by
  obtain ⟨l, rfl, hr, hok⟩ := StrL_arg k
  refine Spec.calls (Spec.mono (VaultEpochs_wp (Q := fun b _ => b = true) hr rfl) ?_)
  rintro v h' ⟨b, rfl, rfl⟩
  rfl
end Go.Proofs.Ytcncdfmnpmmikaa.H
