/- What the stylus' functions do: contracts. No condition. -/
import Derived.Test.YtcncdfmnpmmikaaXhT
import Derived.Test.YtcncdfmnpmmikaaHj
import Derived.Test.YtcncdfmnpmmikaaMa
namespace Go.Proofs.Ytcncdfmnpmmikaa.H
open Go
set_option linter.unusedVariables false
set_option maxRecDepth 100000

theorem TK.slc_bytes : slcB PG TY.s_uint8 = some (TY.uint8, 1, 1) := by kernel_rfl
theorem TK.zero_byte : zeroB PG TY.uint8 = some [.int .u8 0] := by kernel_rfl
theorem TK.sl_bytes : slT PG TY.s_uint8 = true := by kernel_rfl
theorem TK.str : isStr PG TY.string = true := by kernel_rfl

section
variable {B : RO} {h : Heap}

theorem Addr.add_block (A : Addr) (i : Nat) : (A.add i).block = A.block := by unfold Addr.add; split <;> rfl

/-- A stylus that has written bytes. -/
def stylO (bs : List UInt8) : AObj := .vec TY.stylus_Stylus [.own TY.uint8 1 (bs.map byteV)] 1

theorem natI_length {i : Int} (h : i ≤ 9223372036854775807) : (natI i).length ≤ 10 := by
  unfold natI; split
  · simp
  · exact natB_length (by omega)
theorem natsB_length : ∀ (l : List Int), (∀ n ∈ l, n ≤ 9223372036854775807) → (natsB l).length ≤ 10 * l.length
  | [], _ => by simp [natsB]
  | n :: l, h => by
    have h1 := natI_length (h n (by simp))
    have h2 := natsB_length l (fun m hm => h m (by simp [hm]))
    simp only [natsB, List.flatMap_cons, List.length_append, List.length_cons] at *
    omega
theorem natsB_one (n : Nat) : natsB [((n : Nat) : Int)] = natB n := by
  simp only [natsB, natI, List.flatMap_cons, List.flatMap_nil, List.append_nil]
  rw [if_neg (by omega)]; rfl
theorem natsB_one' {i : Int} (h : ¬ i < 0) : natsB [i] = natB i.toNat := by
  simp only [natsB, natI, List.flatMap_cons, List.flatMap_nil, List.append_nil]
  rw [if_neg h]
theorem natsB_take_succ (l : List Int) (k : Nat) (hk : k < l.length) : natsB (l.take (k + 1)) = natsB (l.take k) ++ natI l[k] := by
  unfold natsB; rw [List.take_succ_eq_append_getElem hk, List.flatMap_append, List.flatMap_cons, List.flatMap_nil, List.append_nil]
theorem intsB_take_succ (l : List Int) (k : Nat) (hk : k < l.length) : intsB (l.take (k + 1)) = intsB (l.take k) ++ natB (zig l[k]) := by
  unfold intsB; rw [List.take_succ_eq_append_getElem hk, List.flatMap_append, List.flatMap_cons, List.flatMap_nil, List.append_nil]
theorem intsB_length : ∀ (l : List Int), (∀ n ∈ l, zig n < 18446744073709551616) → (intsB l).length ≤ 10 * l.length
  | [], _ => by simp [intsB]
  | n :: l, h => by
    have h1 := natB_length (h n (by simp))
    have h2 := intsB_length l (fun m hm => h m (by simp [hm]))
    simp only [intsB, List.flatMap_cons, List.length_append, List.length_cons] at *
    omega
theorem zig_lt {i : Int} (h : -9223372036854775808 ≤ i) (h' : i ≤ 9223372036854775807) : zig i < 18446744073709551616 := by
  unfold zig; split <;> omega

/-- One more byte behind what is written. -/
theorem stylus_byte {b : Nat} {bs : List UInt8} {x : Int} {u : UInt8} {K : Value → Heap → Prop} (hx : x = ((u.toNat : Nat) : Int)) (hb : h b = some (stylO bs)) (hbd : bs.length + 1 ≤ 1099511627776)
    (hK : ∀ a' n' c' h3 h4, storeH h3 ⟨b, 0, none⟩ (.slice a' n' c') = some h4 → Ent B h4 (h.set b (stylO (bs ++ [u]))) → K (.slice a' n' c') h3) :
    LdSl B h ⟨b, 0, none⟩ (fun a m c h1 => ∀ k, h1 k = none → B k = none → ∀ h2, h2 = Heap.set h1 k (.vec TY.uint8 (plains [.int .u8 x]) 1) → semH PG B (Builtin.append_ #[TY.s_uint8, TY.s_uint8] TY.s_uint8 #[.slice a m c, .slice (some ⟨k, 0, none⟩) 1 1]) h2 K) := by
  subst hx
  refine app_own (len := 1) (ys := [.int .u8 ((u.toNat : Nat) : Int)]) (xs := bs.map byteV) TK.slc_bytes TK.zero_byte rfl (by omega) (by omega) TK.sl_bytes hb rfl rfl (by simp [isOne]) (by simp; omega) ?_
  intro a' n' c' h3 h4 s1 s2
  refine hK a' n' c' h3 h4 s1 ?_
  simpa [stylO, byteV] using s2

theorem nat_wp {b c : Nat} {bs : List UInt8} {a : Option Addr} {ns : List Int} {Q : Heap → Prop} (hb : h b = some (stylO bs))
    (hr : ∀ i n, ns[i]? = some n → ∃ A, a = some A ∧ A.block ≠ b ∧ cellH B h (A.add i) = some (.int .i64 n))
    (hn : ∀ n ∈ ns, n ≤ 9223372036854775807) (hbd : bs.length + (ns.length + 1) * 20 ≤ 1099511627776)
    (hQ : Q (h.set b (stylO (bs ++ natsB ns)))) : C_stylus_Stylus_Nat B (some ⟨b, 0, none⟩) a ns.length c h Q := by
  refine C_stylus_Stylus_Nat.of ?_
  unfold S_stylus_Stylus_Nat
  have hset : ∀ k, natsB (ns.take k) = [] → True := fun _ _ => trivial
  refine ⟨fun i m h' => ∃ k : Nat, k ≤ ns.length ∧ i = k ∧ m = ns.length - k ∧ h' = h.set b (stylO (bs ++ natsB (ns.take k))), ns.length, Fin.of ⟨0, by omega, rfl, by omega, ?_⟩, ?_⟩
  · rw [List.take_zero, show natsB [] = [] from rfl, List.append_nil, Heap.set_self _ _ _ hb]
  · rintro i m h6 ⟨k, hk, rfl, rfl, rfl⟩
    refine ⟨fun hlt => ?_, fun hge => ?_⟩
    · have hk' : k < ns.length := by omega
      have hw : IntKind.wrap .i64 ((k : Int) + 1) = ((k + 1 : Nat) : Int) := by rw [w64 (by omega) (by omega)]; omega
      obtain ⟨A, e1, e2, e3⟩ := hr k ns[k] (List.getElem?_eq_getElem hk')
      have hle := natsB_length (ns.take k) (fun n hm => hn n (List.mem_of_mem_take hm))
      rw [List.length_take, Nat.min_eq_left hk] at hle
      have hnk := hn ns[k] (List.getElem_mem hk')
      refine ⟨A, e1, by omega, hlt, ns[k], ?_, fun hneg => ?_, fun hpos => ?_⟩
      · rw [cellH_set_ne (by rw [Addr.add_block]; exact e2)]
        simpa using e3
      · refine Fin.of ⟨ns.length - (k + 1), by omega, k + 1, by omega, hw, rfl, ?_⟩
        rw [natsB_take_succ ns k hk', natI, if_pos hneg, List.append_nil]
      · obtain ⟨v, hv⟩ := Int.eq_ofNat_of_zero_le (show 0 ≤ ns[k] by omega)
        have hnat : natI ns[k] = natB v := by rw [natI, if_neg hpos, hv]; rfl
        have hvl : (natB v).length ≤ 10 := natB_length (by omega)
        refine ⟨fun i m h' => ∃ (u : Nat) (pre : List UInt8), i = u ∧ u = m ∧ pre ++ natB u = natB v ∧ h' = h.set b (stylO (bs ++ natsB (ns.take k) ++ pre)), v, Fin.of ⟨v, [], hv, rfl, rfl, by rw [List.append_nil]⟩, ?_⟩
        rintro _ _ h35 ⟨u, pre, rfl, rfl, hpre, rfl⟩
        have hpl : pre.length ≤ 10 := by have := congrArg List.length hpre; simp only [List.length_append] at this; omega
        refine ⟨fun hge => ?_, fun hlt2 => ?_⟩
        · refine ⟨_, rfl, stylus_byte (bs := bs ++ natsB (ns.take k) ++ pre) (orByte u) (Heap.set_same _ _ _) (by simp only [List.length_append]; omega) ?_⟩
          intro a' n' c' h3 h4 s1 s2
          refine ⟨a', n', c', rfl, _, rfl, h4, s1, by decide, Fin.ent s2 (Fin.of ⟨u / 128, by omega, u / 128, pre ++ [UInt8.ofNat (u % 128 + 128)], shr7 u, rfl, ?_, ?_⟩)⟩
          · rw [← hpre, natB_hi (n := u) (by omega)]; simp
          · rw [Heap.set_set]; simp
        · refine Fin.of ?_
          unfold S_stylus_Stylus_Nat_J1
          refine ⟨_, rfl, stylus_byte (bs := bs ++ natsB (ns.take k) ++ pre) (lowByte (v := u) (by omega)) (Heap.set_same _ _ _) (by simp only [List.length_append]; omega) ?_⟩
          intro a' n' c' h3 h4 s1 s2
          refine ⟨a', n', c', rfl, _, rfl, h4, s1, Fin.ent s2 (Fin.of ⟨ns.length - (k + 1), by omega, k + 1, by omega, hw, rfl, ?_⟩)⟩
          rw [Heap.set_set, natsB_take_succ ns k hk', hnat, ← hpre, natB_lo (n := u) (by omega)]; simp
    · have : k = ns.length := by omega
      subst this
      refine Fin.of ?_
      rwa [List.take_length]

theorem raw_wp {b : Nat} {bs : List UInt8} {s : ByteArray} {Q : Heap → Prop} (hb : h b = some (stylO bs)) (hbd : bs.length + s.size ≤ 1099511627776)
    (hQ : Q (h.set b (stylO (bs ++ bl s)))) : C_stylus_Stylus_Raw B (some ⟨b, 0, none⟩) s h Q := by
  refine C_stylus_Stylus_Raw.of ?_
  unfold S_stylus_Stylus_Raw
  refine ⟨_, rfl, app_str TK.slc_bytes TK.zero_byte rfl (by omega) TK.str hb rfl (by simpa using hbd) ?_⟩
  intro a' n' c' h3 h4 s1 s2
  refine ⟨a', n', c', rfl, _, rfl, h4, s1, Fin.ent s2 (Fin.of ?_)⟩
  have : (fun c : UInt8 => Value.int .u8 c.toNat) = byteV := rfl
  simpa [stylO, bl, this] using hQ

theorem bytes_wp {b : Nat} {bs : List UInt8} {Q : ByteArray → Heap → Prop} (hb : h b = some (stylO bs)) (hQ : Q (ba bs) h) : C_stylus_Stylus_Bytes B (some ⟨b, 0, none⟩) h Q := by
  refine C_stylus_Stylus_Bytes.of ?_
  unfold S_stylus_Stylus_Bytes
  refine ⟨_, rfl, .inr ⟨_, _, _, _, _, _, rfl, hb, rfl, fun a m c h1 ho => ?_⟩⟩
  refine semH_convB (by kernel_rfl) ?_
  refine semH_bytesToString ho.row ⟨ba bs, rfl, Fin.ent (ho.back hb rfl) (Fin.of hQ)⟩

theorem text_wp {b c : Nat} {bs : List UInt8} {a : Option Addr} {ts : List ByteArray} {Q : Heap → Prop} (hb : h b = some (stylO bs))
    (hr : ∀ i s, ts[i]? = some s → ∃ A, a = some A ∧ A.block ≠ b ∧ cellH B h (A.add i) = some (.string s))
    (hbd : bs.length + (ts.map fun s => s.size + 50).sum ≤ 1099511627776)
    (hQ : Q (h.set b (stylO (bs ++ ts.flatMap fun s => natB s.size ++ bl s)))) : C_stylus_Stylus_Text B (some ⟨b, 0, none⟩) a ts.length c h Q := by
  refine C_stylus_Stylus_Text.of ?_
  unfold S_stylus_Stylus_Text
  have hlen : ∀ (l : List ByteArray), 50 * l.length ≤ (l.map fun s => s.size + 50).sum := by
    intro l; induction l with
    | nil => simp
    | cons s l ih => simp only [List.length_cons, List.map_cons, List.sum_cons]; omega
  have hsum : ∀ k (hk : k < ts.length), (ts.map fun s => s.size + 50).sum = ((ts.take k).map fun s => s.size + 50).sum + (ts[k].size + 50) + ((ts.drop (k + 1)).map fun s => s.size + 50).sum := by
    intro k hk
    have : ts = ts.take k ++ (ts[k] :: ts.drop (k + 1)) := by rw [← List.drop_eq_getElem_cons hk, List.take_append_drop]
    conv => lhs; rw [this]
    simp only [List.map_append, List.sum_append, List.map_cons, List.sum_cons]; omega
  have hfl : ∀ (l : List ByteArray), (∀ s ∈ l, s.size < 18446744073709551616) → (l.flatMap fun s => natB s.size ++ bl s).length ≤ (l.map fun s => s.size + 50).sum := by
    intro l; induction l with
    | nil => simp
    | cons s l ih =>
      intro hs
      have h1 := ih (fun x hx => hs x (by simp [hx]))
      have h2 := natB_length (hs s (by simp))
      simp only [List.flatMap_cons, List.length_append, List.map_cons, List.sum_cons, bl_length]; omega
  have hall : ∀ s ∈ ts, s.size < 1099511627777 := by
    intro s hs
    obtain ⟨k, hk, rfl⟩ := List.mem_iff_getElem.1 hs
    have := hsum k hk; omega
  refine ⟨fun i m h' => ∃ k : Nat, k ≤ ts.length ∧ i = k ∧ m = ts.length - k ∧ h' = h.set b (stylO (bs ++ (ts.take k).flatMap fun s => natB s.size ++ bl s)), ts.length, Fin.of ⟨0, by omega, rfl, by omega, ?_⟩, ?_⟩
  · rw [List.take_zero, List.flatMap_nil, List.append_nil, Heap.set_self _ _ _ hb]
  · rintro i m h6 ⟨k, hk, rfl, rfl, rfl⟩
    refine ⟨fun hlt => ?_, fun hge => ?_⟩
    · have hk' : k < ts.length := by omega
      have hl0 := hlen ts
      have hw : IntKind.wrap .i64 ((k : Int) + 1) = ((k + 1 : Nat) : Int) := by rw [w64 (by omega) (by omega)]; omega
      obtain ⟨A, e1, e2, e3⟩ := hr k ts[k] (List.getElem?_eq_getElem hk')
      have hle := hfl (ts.take k) (fun s hm => by have := hall s (List.mem_of_mem_take hm); omega)
      have hsk := hsum k hk'
      have hak := hall ts[k] (List.getElem_mem hk')
      refine ⟨A, e1, by omega, hlt, ts[k], ?_, fun k15 hk1 hk2 h16 e16 => ?_⟩
      · rw [cellH_set_ne (by rw [Addr.add_block]; exact e2)]
        simpa using e3
      · subst e16
        have hbk : b ≠ k15 := fun e => by rw [← e, Heap.set_same] at hk1; cases hk1
        have hb1 : ((h.set b (stylO (bs ++ (ts.take k).flatMap fun s => natB s.size ++ bl s))).set k15 (.vec TY.int (plains [.int .i64 ((ts[k].size : Nat) : Int)]) 1)) b = some (stylO (bs ++ (ts.take k).flatMap fun s => natB s.size ++ bl s)) := by
          rw [Heap.set_ne _ _ _ _ hbk, Heap.set_same]
        refine nat_wp (ns := [((ts[k].size : Nat) : Int)]) hb1 ?_ (by simp; omega) (by simp only [List.length_append, List.length_singleton]; omega) ?_
        · intro i n hi
          cases i with
          | zero =>
            cases hi
            exact ⟨_, rfl, Ne.symm hbk, cellH_vec (Heap.set_same _ _ _) rfl⟩
          | succ i => cases hi
        · have hnat : natsB [((ts[k].size : Nat) : Int)] = natB ts[k].size := natsB_one _
          have hnl := natB_length (n := ts[k].size) (by omega)
          refine raw_wp (Heap.set_same _ _ _) (by rw [hnat]; simp only [List.length_append]; omega) ?_
          refine Fin.ent (Ent.forget (h' := h.set b (stylO (bs ++ (ts.take (k + 1)).flatMap fun s => natB s.size ++ bl s))) ?_) (Fin.of ⟨ts.length - (k + 1), by omega, k + 1, by omega, hw, rfl, rfl⟩)
          intro c o hc
          rw [Heap.set_set]
          by_cases hcb : c = b
          · subst hcb
            rw [Heap.set_same] at hc ⊢
            rw [← hc, List.take_succ_eq_append_getElem hk', List.flatMap_append, hnat]
            simp
          · rw [Heap.set_ne _ _ _ _ hcb] at hc ⊢
            have hck : c ≠ k15 := fun e => by
              rw [e] at hc
              rw [Heap.set_ne _ _ _ _ (Ne.symm hbk)] at hk1
              rw [hk1] at hc; cases hc
            rw [Heap.set_ne _ _ _ _ hck, Heap.set_ne _ _ _ _ hcb]; exact hc
    · have : k = ts.length := by omega
      subst this
      refine Fin.of ?_
      rwa [List.take_length]

/-- A reader: what is left, and whether something was missed. -/
def readO (s : ByteArray) (bad : Bool) : AObj := .vec TY.stylus_Reader (plains [.string s, .bool bad]) 2

/-- A new stylus has written nothing. -/
theorem styl_new {k : Nat} {hh : Heap} (e : hh k = some (.vec TY.stylus_Stylus (plains [Value.slice none 0 0]) 1)) : Ent B hh (hh.set k (stylO [])) :=
  Ent.close_nil (e := TY.uint8) (sz := 1) (i := 0) e rfl
/-- What an argument's list of one thing reads. -/
theorem one_read {b k : Nat} {t : TypeId} {v : Value} (hk : h k = some (.vec t (plains [v]) 1)) (hne : k ≠ b) : ∀ i w, [v][i]? = some w → ∃ A, (some (⟨k, 0, none⟩ : Addr)) = some A ∧ A.block ≠ b ∧ cellH B h (A.add i) = some w := by
  intro i w hi
  cases i with
  | zero => cases hi; exact ⟨_, rfl, hne, cellH_vec hk rfl⟩
  | succ i => cases hi

theorem nat1_wp {b k c : Nat} {bs : List UInt8} {x : Int} {Q : Heap → Prop} (hb : h b = some (stylO bs)) (hk : h k = some (.vec TY.int (plains [.int .i64 x]) 1)) (hne : k ≠ b) (hx : x ≤ 9223372036854775807) (hbd : bs.length + 40 ≤ 1099511627776)
    (hQ : Q (h.set b (stylO (bs ++ natI x)))) : C_stylus_Stylus_Nat B (some ⟨b, 0, none⟩) (some ⟨k, 0, none⟩) 1 c h Q := by
  refine nat_wp (ns := [x]) hb ?_ (by simpa using hx) hbd (by simpa [natsB] using hQ)
  intro i n hi
  cases i with
  | zero => cases hi; exact ⟨_, rfl, hne, cellH_vec hk rfl⟩
  | succ i => cases hi
theorem text1_wp {b k c : Nat} {bs : List UInt8} {x : ByteArray} {Q : Heap → Prop} (hb : h b = some (stylO bs)) (hk : h k = some (.vec TY.string (plains [.string x]) 1)) (hne : k ≠ b) (hbd : bs.length + (x.size + 50) ≤ 1099511627776)
    (hQ : Q (h.set b (stylO (bs ++ (natB x.size ++ bl x))))) : C_stylus_Stylus_Text B (some ⟨b, 0, none⟩) (some ⟨k, 0, none⟩) 1 c h Q := by
  refine text_wp (ts := [x]) hb ?_ (by simpa using hbd) (by simpa using hQ)
  intro i n hi
  cases i with
  | zero => cases hi; exact ⟨_, rfl, hne, cellH_vec hk rfl⟩
  | succ i => cases hi
theorem natI_300 : natI 300 = [172, 2] := by
  rw [natI, if_neg (by decide), natB_hi (by decide), natB_lo (by decide)]; rfl
theorem zig_m2 : natB (zig (-2)) = [3] := by rw [natB_lo (by decide)]; rfl

end
end Go.Proofs.Ytcncdfmnpmmikaa.H
