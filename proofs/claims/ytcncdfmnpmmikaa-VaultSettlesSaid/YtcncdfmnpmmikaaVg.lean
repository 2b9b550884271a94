/- Vault: VaultSettles. No condition. -/
import Derived.Test.YtcncdfmnpmmikaaVf
import Derived.Test.YtcncdfmnpmmikaaXvT
namespace Go.Proofs.Ytcncdfmnpmmikaa.H
open Go Go.RowKit
set_option linter.unusedVariables false
set_option maxRecDepth 100000

theorem len_le_sum : ∀ (ls : List (List UInt8)) (x : List UInt8), x ∈ ls → x.length ≤ (ls.map List.length).sum
  | [], x, h => by cases h
  | y :: t, x, h => by
    rw [List.map_cons, List.sum_cons]
    rcases List.mem_cons.1 h with rfl | h
    · omega
    · have := len_le_sum t x h; omega
theorem crash_reset (cs : List Chg) (a : Int) (s : ByteArray) (keep part : Int) : crashD (cs ++ [Chg.mk a true s]) cs.length keep part = cs ∨ crashD (cs ++ [Chg.mk a true s]) cs.length keep part = cs ++ [Chg.mk a true s] := by
  rcases Nat.eq_zero_or_pos keep.toNat with h | h
  · left
    have hn : min ((cs ++ [Chg.mk a true s]).length - cs.length) keep.toNat = 0 := by omega
    unfold crashD
    simp only [hn, Nat.add_zero, List.take_left, List.getElem?_concat_length, if_true, List.append_nil]
  · right
    have hn : min ((cs ++ [Chg.mk a true s]).length - cs.length) keep.toNat = 1 := by rw [List.length_append, List.length_singleton]; omega
    unfold crashD
    simp only [hn]
    rw [List.take_of_length_le (by simp), List.getElem?_eq_none (by simp)]
    simp
theorem crash_app (cs : List Chg) (a : Int) (s : ByteArray) (part : Int) : crashD (cs ++ [Chg.mk a false s]) cs.length 0 part = cs ++ [Chg.mk a false (cutB part s)] := by
  have hn : min ((cs ++ [Chg.mk a false s]).length - cs.length) (Int.toNat 0) = 0 := by simp
  unfold crashD
  simp only [hn, Nat.add_zero, List.take_left, List.getElem?_concat_length]
  rfl
theorem cut_told {n : Nat} {im : List UInt8} (h0 : n ≠ 0) (h : n ≤ 1099511627776) (hi : (imgL n im).length ≤ 1024) (part : Int) : toldL (bl (cutB part (ba (closeL (imgL n im))))) = ⟨n, im, []⟩ ∨ toldL (bl (cutB part (ba (closeL (imgL n im))))) = ⟨0, [], []⟩ := by
  have e : bl (cutB part (ba (closeL (imgL n im)))) = (closeL (imgL n im)).take (min (closeL (imgL n im)).length part.toNat) := by
    rw [cutB, bl_extract, bl_ba, ba_size]; simp
  rw [e]
  by_cases hm : (closeL (imgL n im)).length ≤ part.toNat
  · left
    rw [Nat.min_eq_left hm, List.take_length]
    exact told_one h0 h hi
  · right
    have ho : openL ((closeL (imgL n im)).take (min (closeL (imgL n im)).length part.toNat)) = none := by
      refine openL_part hi (List.take_append_drop _ _).symm fun e2 => ?_
      have := congrArg List.length e2
      rw [List.length_drop] at this
      simp at this; omega
    unfold toldL
    rw [allL_none ho]; rfl
section
variable {B : RO} {h0 h h' : Heap} {Q : Bool → Heap → Prop} {s1 s5 : ByteArray} {kD k : Nat} {cs : List Chg} {v : Value} {r rW : Option (Nat × AObj)} {W : List (List UInt8)} {a28 : Option Addr} {c30 : Nat} {i6 i7 t : Int}
theorem Settles_J5 (E : Keep B h0 [some (kD, dskO cs k v), r, rW] h) (ok : DOk cs) (Rw : SRow rW (.slice a28 W.length c30) W) (hW : W.length ≤ 1000) (ht : IntKind.wrap .i64 (Int.tmod (IntKind.wrap .u64 i6) 4) = t) (hF : (fOf cs = ⟨2, bl s5, []⟩ ∧ 1 < t) ∨ (fOf cs = ⟨1, bl s1, W⟩ ∧ t < 3)) (hQ : Q true h0) :
    S_countermandlaw05_VaultSettles_J5 B s1 s5 i6 (some ⟨kD, 0, none⟩) a28 W.length c30 h Q := by
  unfold S_countermandlaw05_VaultSettles_J5
  rw [ht]
  refine vopen_wp (i := 0) E ⟨rfl, rfl⟩ ok fun kv kl a44 c46 r' h41 R E1 => ?_
  intro k48 a48 b48 h49 e49
  rcases hF with ⟨hf, h1⟩ | ⟨hf, h3⟩
  · rw [hf] at R E1 ⊢
    obtain ⟨h50, st, E2⟩ := foundBlk (im := bl s5) (v := .slice a44 0 c46) E1 a48 b48 e49 rfl
    exact ⟨h50, st, fun _ => ⟨_, E2.cell 6 rfl rfl, fun _ => .inl ⟨_, _, _, E2.cell 6 rfl rfl, fun _ => ⟨fun _ => Fin.ent E2.back (Fin.of hQ), fun hn => absurd h1 hn⟩, fun hn => absurd rfl hn⟩, fun hn => absurd (ba_bl s5) hn⟩, fun hn => absurd rfl hn⟩
  · rw [hf] at R E1 ⊢
    obtain ⟨h50, st, E2⟩ := foundBlk (im := bl s1) (v := .slice a44 W.length c46) E1 a48 b48 e49 rfl
    have six : S_countermandlaw05_VaultSettles_J6 B s1 i6 a28 W.length c30 k48 h50 Q := by
      unfold S_countermandlaw05_VaultSettles_J6
      rw [ht]
      exact ⟨fun _ => ⟨_, E2.cell 6 rfl rfl, fun _ => .inl ⟨_, _, _, E2.cell 6 rfl rfl, same05_wp ((Row.rd (B := B) R strC_len (by omega)).2 h50 fun k o e => E2.at 5 (by rw [← e]; rfl)) ((Row.rd (B := B) Rw strC_len (by omega)).2 h50 fun k o e => E2.at 2 (by rw [← e]; rfl)) (by omega) (Fin.ent E2.back (Fin.of hQ))⟩, fun hn => absurd (ba_bl s1) hn⟩, fun hn => absurd h3 hn⟩
    exact ⟨h50, st, fun _ => ⟨_, E2.cell 6 rfl rfl, fun _ => .inl ⟨_, _, _, E2.cell 6 rfl rfl, fun _ => ⟨fun _ => Fin.ent E2.back (Fin.of hQ), fun _ => Fin.of six⟩, fun _ => Fin.of six⟩, fun _ => Fin.of six⟩, fun hn => absurd rfl hn⟩
theorem Settles_J4 (E : Keep B h0 [some (kD, dskO cs cs.length (.slice none 0 0)), none, rW] h) (ok : DOk cs) (hl : cs.length ≤ 1000) (Rw : SRow rW (.slice a28 W.length c30) W) (hW : W.length ≤ 1000) (ht : IntKind.wrap .i64 (Int.tmod (IntKind.wrap .u64 i6) 4) = t)
    (t1 : toldL (bl (textD 1 cs)) = ⟨1, bl s1, W⟩) (t0 : (toldL (bl (textD 0 cs)) = ⟨2, bl s5, []⟩ ∧ 1 < t) ∨ (toldL (bl (textD 0 cs)) = ⟨0, [], []⟩ ∧ t < 3)) (hQ : Q true h0) :
    S_countermandlaw05_VaultSettles_J4 B s1 s5 i6 i7 (some ⟨kD, 0, none⟩) a28 W.length c30 h Q := by
  unfold S_countermandlaw05_VaultSettles_J4
  rw [ht]
  refine ⟨fun h2 => ?_, fun h2 => Fin.of (Settles_J5 E ok Rw hW ht ?_ hQ)⟩
  · have t0' : toldL (bl (textD 0 cs)) = ⟨2, bl s5, []⟩ := by
      rcases t0 with ⟨h, _⟩ | ⟨_, h⟩
      · exact h
      · omega
    refine dreset_wp (i := 0) E ⟨rfl, rfl⟩ (by rw [List.drop_length]; exact Row.nil _ _) (Nat.le_refl _) (by omega) (.inr rfl) fun v1 r1 h72 R1 E1 => ?_
    have ok1 : DOk (cs ++ [Chg.mk 1 true ByteArray.empty]) := ok.snoc (.inr rfl) (by show (textD 1 _).size ≤ _; rw [tD_reset]; decide)
    refine dcrash_wp (i := 0) (keep := i7) (part := 0) E1 ⟨rfl, rfl⟩ R1 (by simp) ok1 (by simp; omega) fun h74 E2 => Fin.of ?_
    rcases crash_reset cs 1 ByteArray.empty i7 0 with e | e
    · rw [e] at E2
      refine Settles_J5 E2 ok Rw hW ht (.inl ⟨?_, by omega⟩) hQ
      unfold fOf
      rw [found_left (by rw [t0', t1]; simp), t0']
    · rw [e] at E2
      refine Settles_J5 E2 ok1 Rw hW ht (.inl ⟨?_, by omega⟩) hQ
      unfold fOf
      rw [tD_reset, tD_other _ _ (show (1 : Int) ≠ 0 by decide), bl_mt, found_left (by rw [t0', told_nil]; simp), t0']
  · unfold fOf
    rcases t0 with ⟨h, h'⟩ | ⟨h, h'⟩
    · exact .inl ⟨by rw [found_left (by rw [h, t1]; simp), h], h'⟩
    · exact .inr ⟨by rw [found_right (by rw [h, t1]; simp), t1], h'⟩
theorem Settles_J3 (E : Keep B h0 [some (kD, dskO cs cs.length (.slice none 0 0)), none, rW] h) (ok : DOk cs) (hl : cs.length ≤ 900) (Rw : SRow rW (.slice a28 W.length c30) W) (hW : W.length ≤ 1000) (ht : IntKind.wrap .i64 (Int.tmod (IntKind.wrap .u64 i6) 4) = t) (hi : (imgL 2 (bl s5)).length ≤ 1024) (h30 : t ≤ 3)
    (t1 : toldL (bl (textD 1 cs)) = ⟨1, bl s1, W⟩) (t0 : textD 0 cs = ByteArray.mk #[]) (hQ : Q true h0) :
    S_countermandlaw05_VaultSettles_J3 B s1 s5 i6 i7 (some ⟨kD, 0, none⟩) a28 W.length c30 (ba (closeL (imgL 2 (bl s5)))) h Q := by
  unfold S_countermandlaw05_VaultSettles_J3
  rw [ht]
  have hcl := closeL_len hi
  refine ⟨fun h1 => ?_, fun h1 => Fin.of (Settles_J4 E ok (by omega) Rw hW ht t1 (.inr ⟨by rw [t0, bl_mt, told_nil], by omega⟩) hQ)⟩
  have z0 : (textD 0 cs).size = 0 := by rw [t0]; rfl
  refine dappend_wp (i := 0) E ⟨rfl, rfl⟩ (by rw [List.drop_length]; exact Row.nil _ _) (Nat.le_refl _) ok (by omega) (by rw [ba_size]; omega) (fun hn => absurd (.inl rfl) hn) (fun _ hf => by rw [z0, ba_size] at hf; omega) fun _ _ v1 r1 h76 R1 E1 => ?_
  have okA : ∀ s : ByteArray, s.size ≤ 1030 → DOk (cs ++ [Chg.mk 0 false s]) := fun s hs => ok.snoc (.inl rfl) (by show (textD 0 _).size ≤ _; rw [tD_app, ByteArray.size_append, z0]; omega)
  have tA : ∀ s : ByteArray, textD 0 (cs ++ [Chg.mk 0 false s]) = s := fun s => by rw [tD_app, t0]; exact bl_inj (by rw [bl_append]; rfl)
  have tB : ∀ s : ByteArray, textD 1 (cs ++ [Chg.mk 0 false s]) = textD 1 cs := fun s => tD_other _ _ (show (0 : Int) ≠ 1 by decide)
  refine ⟨fun h2 => ?_, fun h2 => ?_⟩
  · refine dcrash_wp (i := 0) (keep := 0) (part := i7) E1 ⟨rfl, rfl⟩ R1 (by simp) (okA _ (by rw [ba_size]; omega)) (by simp; omega) fun h79 E2 => ?_
    rw [crash_app] at E2
    have hc := cutB_le i7 (ba (closeL (imgL 2 (bl s5))))
    rw [ba_size] at hc
    refine dsync_wp (i := 0) E2 ⟨rfl, rfl⟩ (by rw [List.drop_length]; exact Row.nil _ _) (Nat.le_refl _) (okA _ (by omega)) (by simp; omega) fun h80 E3 => Fin.of ?_
    refine Settles_J4 E3 (okA _ (by omega)) (by simp; omega) Rw hW ht (by rw [tB, t1]) ?_ hQ
    rw [tA]
    rcases cut_told (n := 2) (im := bl s5) (by omega) (by omega) hi i7 with e | e
    · exact .inl ⟨e, by omega⟩
    · exact .inr ⟨e, by omega⟩
  · refine dsync_wp (i := 0) E1 ⟨rfl, rfl⟩ R1 (by simp) (okA _ (by rw [ba_size]; omega)) (by simp; omega) fun h81 E2 => Fin.of ?_
    refine Settles_J4 E2 (okA _ (by rw [ba_size]; omega)) (by simp; omega) Rw hW ht (by rw [tB, t1]) (.inl ⟨?_, by omega⟩) hQ
    rw [tA, bl_ba]
    exact told_one (by omega) (by omega) hi
theorem Settles_J2 {kv kl sz : Nat} (E : Keep B h0 ([rW] ++ vE kD kv kl cs k v r 1 true (walO kD 1 sz false)) h) (R : CRow r v (cs.drop k)) (hk : k ≤ cs.length) (ok : DOk cs) (hl : cs.length ≤ 800) (Rw : SRow rW (.slice a28 W.length c30) W) (hW : W.length ≤ 1000) (hs5 : s5.size ≤ 900)
    (t1 : toldL (bl (textD 1 cs)) = ⟨1, bl s1, W⟩) (t0 : textD 0 cs = ByteArray.mk #[]) (hQ : Q true h0) :
    S_countermandlaw05_VaultSettles_J2 B s1 s5 i6 i7 (some ⟨kD, 0, none⟩) (some ⟨kv, 0, none⟩) a28 W.length c30 h Q := by
  unfold S_countermandlaw05_VaultSettles_J2
  have hi : (imgL 2 (bl s5)).length ≤ 1024 := by
    rw [imgL_len, bl_length]
    have := natB_length (n := 2) (by omega)
    omega
  refine vforce_wp E R hk ok (by omega) fun h32 E1 => image_wp (n := 2) (by omega) (by omega) ⟨by omega, ?_⟩
  have E2 : Keep B h0 [some (kD, dskO cs cs.length (.slice none 0 0)), none, rW] h32 := E1.picks [1, 2, 0] (by decide)
  have hu := wu64 i6
  have hr : 0 ≤ i6 % 18446744073709551616 := Int.emod_nonneg _ (by decide)
  obtain ⟨t, ht, h30⟩ : ∃ t, IntKind.wrap .i64 (Int.tmod (IntKind.wrap .u64 i6) 4) = t ∧ t ≤ 3 := by
    refine ⟨_, rfl, ?_⟩
    rw [hu, Int.tmod_eq_emod_of_nonneg hr]
    rw [w64 (by omega) (by omega)]
    omega
  rw [ht]
  refine ⟨fun h0' => ?_, fun _ => Fin.of (Settles_J3 E2 ok (by omega) Rw hW ht hi h30 t1 t0 hQ)⟩
  refine dreset_wp (i := 0) E2 ⟨rfl, rfl⟩ (by rw [List.drop_length]; exact Row.nil _ _) (Nat.le_refl _) (by omega) (.inl rfl) fun v1 r1 h83 R1 E3 => ?_
  have ok1 : DOk (cs ++ [Chg.mk 0 true ByteArray.empty]) := ok.snoc (.inl rfl) (by show (textD 0 _).size ≤ _; rw [tD_reset]; decide)
  refine dsync_wp (i := 0) E3 ⟨rfl, rfl⟩ R1 (by simp) ok1 (by simp; omega) fun h85 E4 => Fin.of ?_
  exact Settles_J3 E4 ok1 (by simp; omega) Rw hW ht hi h30 (by rw [tD_other _ _ (show (0 : Int) ≠ 1 by decide), t1]) (tD_reset _ _ _) hQ
theorem Settles_J1 {a : Option Addr} {c : Nat} {ls : List (List UInt8)} (hr : Reads B h a 1 strC ls) (hl : ls.length ≤ 40) (hs1 : s1.size ≤ 900) (hs5 : s5.size ≤ 900) (hsum : (ls.map List.length).sum ≤ 4096) (hQ : Q true h) : S_countermandlaw05_VaultSettles_J1 B s1 a ls.length c s5 i6 i7 h Q := by
  unfold S_countermandlaw05_VaultSettles_J1
  refine dnew_wp fun kD h10 E1 => vopen_wp (i := 0) E1 ⟨rfl, rfl⟩ DOk.nil fun kv kl a15 c17 r15 h12 R E2 => ?_
  rw [fOf_nil, aOf_nil, vlog_mt (by rw [textD_nil]; rfl)] at E2
  rw [fOf_nil] at R ⊢
  intro k19 a19 b19 h20 e20
  obtain ⟨h21, st, E3⟩ := foundBlk (im := []) (v := .slice a15 0 c17) E2 a19 b19 e20 rfl
  refine ⟨h21, st, ?_⟩
  have E4 : Keep B h ([] ++ vE kD kv kl [] 0 (.slice none 0 0) none 0 false (walO kD 0 0 false)) h21 := E3.picks [0, 1, 2, 3] (by decide)
  have hil : (imgL (0 + 1) (bl s1)).length ≤ 1024 := by
    rw [imgL_len, bl_length]
    have := natB_length (n := 0 + 1) (by omega)
    omega
  refine vsettle_wp E4 (Row.nil _ _) (Nat.le_refl _) DOk.nil (by simp) (by omega) (.inl rfl) (by omega) (fun hL => by omega) fun _ ok1 kl' h25 E5 => ?_
  have n0 := stl_old 0 0 (bl s1) []
  have n1 := stl_new (.inl rfl) 0 (bl s1) ([] : List Chg)
  rw [show (1 : Int) - 0 = 1 from rfl] at n1 E5
  have hlen : (stl 0 0 (bl s1) []).length = 3 := rfl
  have hcl := closeL_len hil
  generalize stl 0 0 (bl s1) [] = cs1 at n0 n1 ok1 E5 hlen
  have hone : rowL (imgL 1 (bl s1) :: ([] : List (List UInt8)).map (1 :: ·)) = closeL (imgL 1 (bl s1)) := by rw [List.map_nil, rowL_one]
  refine ⟨fun a86 n87 c88 i m h' => ∃ (q k : Nat) (cs : List Chg) (v : Value) (r rW : Option (Nat × AObj)) (W : List (List UInt8)), n87 = W.length ∧ i = q ∧ q ≤ ls.length ∧ m = ls.length - q ∧ W.length ≤ q ∧ (∀ l ∈ W, l.length + 1 ≤ 1024) ∧ SRow rW (.slice a86 W.length c88) W ∧ CRow r v (cs.drop k) ∧ k ≤ cs.length ∧ DOk cs ∧ cs.length ≤ 3 + q ∧ textD 0 cs = ByteArray.mk #[] ∧ bl (textD 1 cs) = rowL (imgL 1 (bl s1) :: W.map (1 :: ·)) ∧ Keep B h ([rW] ++ vE kD kv kl' cs k v r 1 true (walO kD 1 (textD 1 cs).size false)) h', ls.length, Fin.of ⟨0, cs1.length, cs1, .slice none 0 0, none, none, [], rfl, rfl, by omega, by omega, by simp, fun l hl => (by cases hl), Row.nil _ _, by rw [List.drop_length]; exact Row.nil _ _, Nat.le_refl _, ok1, by omega, n0, by rw [n1, bl_ba, hone], ?_⟩, ?_⟩
  · have E6 := E5.gap.picks [4, 0, 1, 2, 3] (by decide)
    rw [n1, ba_size, hcl]
    exact E6
  clear E1 E2 E3 E4 E5 e20 R n0 n1 ok1 hlen
  rintro a86 _ c88 _ _ h90 ⟨q, k, cs, v, r, rW, W, rfl, rfl, hq, rfl, hWq, hWl, Rw, R, hk, ok, hlc, t0, t1, E⟩
  refine ⟨fun hlt => ?_, fun _ => Fin.of ?_⟩
  · have hq' : q < ls.length := by omega
    have hw : IntKind.wrap .i64 ((q : Int) + 1) = ((q + 1 : Nat) : Int) := by rw [w64 (by omega) (by omega)]; omega
    have hx := List.getElem?_eq_getElem hq'
    have hxl : ls[q].length ≤ 4096 := by
      have := len_le_sum _ _ (List.getElem_mem hq')
      omega
    generalize ls[q] = x at hx hxl
    obtain ⟨A, e1, _, e2⟩ := (hr.over E.le E.nw) q x hx
    have hsz := ok.size 1
    refine ⟨A, e1, by omega, hlt, ba x, e2.1, ?_⟩
    have same : ∀ (y : Int) (h99 : Heap), y ≠ 0 → Keep B h ([rW] ++ vE kD kv kl' cs k v r 1 true (walO kD 1 (textD 1 cs).size false)) h99 → Fin B h99 (fun h' => ∃ m', m' < ls.length - q ∧ ∃ (q_1 k : Nat) (cs : List Chg) (v : Value) (r rW : Option (Nat × AObj)) (W_1 : List (List UInt8)), W.length = W_1.length ∧ IntKind.wrap .i64 ((q : Int) + 1) = q_1 ∧ q_1 ≤ ls.length ∧ m' = ls.length - q_1 ∧ W_1.length ≤ q_1 ∧ (∀ l ∈ W_1, l.length + 1 ≤ 1024) ∧ SRow rW (.slice a86 W_1.length c88) W_1 ∧ CRow r v (cs.drop k) ∧ k ≤ cs.length ∧ DOk cs ∧ cs.length ≤ 3 + q_1 ∧ textD 0 cs = ByteArray.mk #[] ∧ bl (textD 1 cs) = rowL (imgL 1 (bl s1) :: W_1.map (1 :: ·)) ∧ Keep B h ([rW] ++ vE kD kv kl' cs k v r 1 true (walO kD 1 (textD 1 cs).size false)) h') := fun y h99 hy E1 =>
      Fin.of ⟨ls.length - (q + 1), by omega, q + 1, k, cs, v, r, rW, W, rfl, hw, by omega, rfl, by omega, hWl, Rw, R, hk, ok, by omega, t0, t1, E1⟩
    refine vappend_wp E R hk ok (by omega) (by rw [ba_size]; omega) hsz (.inr rfl) (fun hL h99 E1 => ⟨fun e => absurd e (by decide), fun hn => same 3 h99 hn E1⟩) (fun _ hF h99 E1 => ⟨fun e => absurd e (by decide), fun hn => same 6 h99 hn E1⟩) fun hle hfit v2 r2 h99 R2 E1 => ⟨fun _ => ?_, fun hn => absurd rfl hn⟩
    rw [bl_ba] at R2 E1 hfit
    rw [ba_size] at hle
    have hcl2 := closeL_len (l := 1 :: x) (by rw [List.length_cons]; omega)
    intro k102 a102 b102 h103 e103
    refine E1.push1 0 rfl Rw TK.slc_strs TK.zero_str rfl (by omega) (by omega) TK.sl_strs (ys := strC x) rfl (strC_one x) (by rw [flatMap_length strC_len, strC_len]; omega) a102 b102 e103 fun a' m' c' r'' h104 R' E2 => ⟨a', m', c', rfl, ?_⟩
    have hm := Row.len R'
    rw [List.length_append, flatMap_length strC_len, strC_len] at hm
    have hm2 : m' = (W ++ [x]).length := by rw [List.length_append, List.length_singleton]; omega
    subst hm2
    have ok2 : DOk (cs ++ [Chg.mk 1 false (ba (closeL (1 :: x)))]) := ok.snoc (.inr rfl) (by show (textD 1 _).size ≤ _; rw [tD_app, ByteArray.size_append, ba_size]; exact hfit)
    have hsz2 : (textD 1 (cs ++ [Chg.mk 1 false (ba (closeL (1 :: x)))])).size = (textD 1 cs).size + (closeL (1 :: x)).length := by rw [tD_app, ByteArray.size_append, ba_size]
    refine Fin.of ⟨ls.length - (q + 1), by omega, q + 1, k, cs ++ [Chg.mk 1 false (ba (closeL (1 :: x)))], v2, r2, r'', W ++ [x], rfl, hw, by omega, rfl, by rw [List.length_append, List.length_singleton]; omega, fun l hl => ?_, ?_, R2, by rw [List.length_append]; omega, ok2, by rw [List.length_append, List.length_singleton]; omega, by rw [tD_other _ _ (show (1 : Int) ≠ 0 by decide), t0], ?_, ?_⟩
    · rcases List.mem_append.1 hl with hl | hl
      · exact hWl l hl
      · rw [List.mem_singleton] at hl; subst hl; omega
    · unfold SRow
      rw [List.flatMap_append, List.flatMap_singleton]; exact R'
    · rw [tD_app, bl_append, bl_ba, t1, List.map_append, ← List.cons_append, rowL_append]
      simp [rowL_one]
    · rw [hsz2]; exact E2
  · have hi1 : (imgL 1 (bl s1)).length ≤ 1024 := hil
    exact Settles_J2 E R hk ok (by omega) Rw (by omega) hs5 (by rw [t1, told_rows (by omega) (by omega) hi1 hWl]) t0 hQ
theorem VaultSettles_wp {a : Option Addr} {c : Nat} {ls : List (List UInt8)} (hr : Reads B h a 1 strC ls) (hQ : Q true h) : C_countermandlaw05_VaultSettles B s1 a ls.length c s5 i6 i7 h Q := by
  refine C_countermandlaw05_VaultSettles.of ?_
  unfold S_countermandlaw05_VaultSettles
  refine alive05_wp fun h6 E => ⟨fun _ => ?_, fun e => by cases e⟩
  refine great05_wp (hr.over E.le E.nw) fun b hb => ⟨fun _ => Fin.ent E.back (Fin.of hQ), fun hf => ?_⟩
  obtain ⟨hl, hsum⟩ := hb hf
  refine ⟨fun _ => Fin.ent E.back (Fin.of hQ), fun hs1 => ⟨fun _ => Fin.ent E.back (Fin.of hQ), fun hs5 => Fin.ent E.back (Fin.of ?_)⟩⟩
  exact Settles_J1 hr hl (by omega) (by omega) hsum hQ
end
theorem VaultSettles_calls {H : Type} {enc : TypeId × Value → H} (W : World) (s1 : ByteArray) (w1 : s1.size ≤ 140737488351232) {a : Option Addr} {len cap : Nat} {d : DataW H} {p : List MemPlace} (k : DataW.Trod enc PG W 0 (fun _ => true) true TY.s_string (.slice a len cap) d p) (s5 : ByteArray) (w5 : s5.size ≤ 140737488351232) (n : Int) (wn : (Lit.int .i64 n).wf = true) (m : Int) (wm : (Lit.int .i64 m).wf = true) :
    Calls PG FN.countermandlaw05_VaultSettles #[.string s1, .slice a len cap, .string s5, .int .i64 n, .int .i64 m] W fun e w' => e = .returned (.bool true) ∧ Below W.heap.size W w' := by
  obtain ⟨l, rfl, hr, hok⟩ := StrL_arg k
  refine Spec.calls (Spec.mono (VaultSettles_wp (Q := fun b _ => b = true) hr rfl) ?_)
  rintro v h' ⟨b, rfl, rfl⟩
  rfl
end Go.Proofs.Ytcncdfmnpmmikaa.H
