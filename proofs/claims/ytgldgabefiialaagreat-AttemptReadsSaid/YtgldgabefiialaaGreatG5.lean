/- What the law's proof stands on, part 5. No condition. -/
import Derived.Test.YtgldgabefiialaaGreatG4
namespace Go.Proofs.YtgldgabefiialaaGreat.H
open Go
set_option linter.unusedVariables false
set_option maxRecDepth 100000
set_option maxHeartbeats 4000000
theorem xU.of {B : RO} {a1 : Option Addr} {n2 : Nat} {c3 : Nat} {a4 : Option Addr} {n5 : Nat} {c6 : Nat} {h : Heap} {Q : Bool → Heap → Prop} (s : ZE B a1 n2 c3 a4 n5 c6 h Q) : xU B a1 n2 c3 a4 n5 c6 h Q := by
 refine zspec Tryz.func7 [ResultVar.tmp 4] rfl rfl rfl rfl rfl ?_
 refine au 7 rfl ?_
 refine zcall s rfl rfl zjc ?_
 rintro _ h8 ⟨b9, rfl, s⟩
 cases b9
 ·replace s := s.2 rfl
  refine au 7 rfl ?_
  exact zr (s.imp fun _ q => ⟨_, rfl, q⟩)
 ·replace s := s.1 rfl
  refine au 4 rfl ?_
  refine Run.seqJ (fun e h11 => Agree [(0, (.slice a1 n2 c3)), (1, (.slice a4 n5 c6))] e ∧ wp B a1 n2 c3 a4 n5 c6 h11 Q) ?_ fun j10 => ?_
  ·rintro e h11 ⟨hag, s⟩
   refine Run.env hag ?_; clear hag
   refine au 3 rfl ?_
   refine zg rfl (Zh [] [(.int .i64 (0)), (.int .i64 (0)), (.int .i64 (0)), (.int .i64 (0))] ZX Y5 rfl rfl ?_)
   refine zcall s rfl rfl zhA ?_
   rintro _ h12 ⟨p13, rfl, s⟩
   refine au 2 rfl ?_
   refine Run.seqJ (fun e h15 => Agree [] e ∧ xo B h15 Q) ?_ fun j14 => ?_
   ·rintro e h15 ⟨hag, s⟩
    refine Run.env hag ?_; clear hag
    refine au 7 rfl ?_
    refine zg rfl (Zh [] [(.int .i64 (0)), (.int .i64 (0)), (.int .i64 (0)), (.int .i64 (0))] ZX Y5 rfl rfl ?_)
    refine zcall s rfl rfl zhH ?_
    rintro _ h16 ⟨rfl, s⟩
    refine au 4 rfl ?_
    refine zcall s rfl rfl zhD ?_
    rintro _ h17 ⟨rfl, s⟩
    refine au 4 rfl ?_
    refine zcall s rfl rfl zhI ?_
    rintro _ h18 ⟨rfl, s⟩
    refine au 4 rfl ?_
    refine zcall s rfl rfl zhE ?_
    rintro _ h19 ⟨i20, a21, n22, c23, b24, rfl, s⟩
    refine au 3 rfl ?_
    cases b24
    ·replace s := s.2 rfl
     refine au 1 rfl ?_
     refine au 7 rfl ?_
     refine zcall s rfl rfl zdd ?_
     rintro _ h25 ⟨i26, i27, rfl, s⟩
     refine au 6 rfl ?_
     refine Run.seqJ (fun e h29 => Agree [(15, (.pointer none)), (18, (.bool false)), (19, (.int .i64 (i26))), (20, (.int .i64 (i27)))] e ∧ xp B i26 i27 h29 Q) ?_ fun j28 => ?_
     ·rintro e h29 ⟨hag, s⟩
      refine Run.env hag ?_; clear hag
      refine au 12 rfl ?_
      refine zt s rfl rfl rfl zU zT (fun s => ?_) fun s => ?_
      ·refine au 3 rfl ?_
       refine zcall s rfl rfl zhJ ?_
       rintro _ h30 ⟨p31, rfl, s⟩
       by_cases hb32 : p31 = none
       ·replace s := s.1 hb32
        refine zg rfl (zK p31 (.inl rfl) true rfl rfl zei hb32 rfl ?_)
        refine au 3 rfl ?_
        refine zcall s rfl rfl zdc ?_
        rintro _ h33 ⟨p34, rfl, s⟩
        by_cases hb35 : p34 = none
        ·replace s := s.1 hb35
         refine zg rfl (zK p34 (.inl rfl) true rfl rfl YA hb35 rfl ?_)
         refine au 3 rfl ?_
         refine zcall s rfl rfl zhK ?_
         rintro _ h36 ⟨i37, i38, i39, i40, rfl, s⟩
         refine zg rfl (Zh [] [(.int .i64 (0)), (.int .i64 (0)), (.int .i64 (0)), (.int .i64 (0))] ZX Y5 rfl rfl ?_)
         by_cases hb41 : eqL [(.int .i64 (i37)), (.int .i64 (i38)), (.int .i64 (i39)), (.int .i64 (i40))] [(.int .i64 (0)), (.int .i64 (0)), (.int .i64 (0)), (.int .i64 (0))] = true
         ·replace s := s.1 hb41
          refine zg rfl (X5 [(.int .i64 (i37)), (.int .i64 (i38)), (.int .i64 (i39)), (.int .i64 (i40))] [(.int .i64 (0)), (.int .i64 (0)), (.int .i64 (0)), (.int .i64 (0))] _ (true) (.inl rfl) rfl rfl ZU zc8 zef ⟨⟨_, rfl⟩, ⟨_, rfl⟩, ⟨_, rfl⟩, ⟨_, rfl⟩, trivial⟩ ⟨⟨_, rfl⟩, ⟨_, rfl⟩, ⟨_, rfl⟩, ⟨_, rfl⟩, trivial⟩ (zfL hb41) ?_)
          refine au 3 rfl ?_
          refine zcall s rfl rfl zaX ?_
          rintro _ h42 ⟨b43, rfl, s⟩
          cases b43
          ·replace s := s.2 rfl
           refine au 4 rfl ?_
           refine zcall s rfl rfl zaY ?_
           rintro _ h44 ⟨b45, rfl, s⟩
           cases b45
           ·replace s := s.2 rfl
            refine au 4 rfl ?_
            refine zcall s rfl rfl zhL ?_
            rintro _ h46 ⟨p47, p48, p49, i50, i51, i52, i53, rfl, s⟩
            refine zg rfl (zeG #[(.pointer p47), (.pointer p48), (.pointer p49), (.int .i64 (i50)), (.int .i64 (i51)), (.int .i64 (i52)), (.int .i64 (i53))] ((.pointer p47)) rfl zfn rfl ?_)
            by_cases hb54 : p47 = none
            ·replace s := s.1 hb54
             refine zg rfl (zK p47 (.inl rfl) true rfl rfl YB hb54 rfl ?_)
             refine au 3 rfl ?_
             refine zcall s rfl rfl za0 ?_
             rintro _ h55 ⟨l56, rfl, s⟩
             obtain ⟨i57, hf, s⟩ := s
             refine zg rfl (ziZ l56 ((.int .i64 (i57))) rfl zfm hf ?_)
             refine au 4 rfl ?_
             exact zr (s.imp fun _ q => ⟨_, rfl, q⟩)
            ·replace s := s.2 hb54
             refine zg rfl (zJ p47 (.inl rfl) false rfl rfl YB hb54 rfl ?_)
             refine au 9 rfl ?_
             exact zr (s.imp fun _ q => ⟨_, rfl, q⟩)
           ·replace s := s.1 rfl
            refine au 16 rfl ?_
            exact zr (s.imp fun _ q => ⟨_, rfl, q⟩)
          ·replace s := s.1 rfl
           refine au 21 rfl ?_
           exact zr (s.imp fun _ q => ⟨_, rfl, q⟩)
         ·replace s := s.2 hb41
          refine zg rfl (X5 [(.int .i64 (i37)), (.int .i64 (i38)), (.int .i64 (i39)), (.int .i64 (i40))] [(.int .i64 (0)), (.int .i64 (0)), (.int .i64 (0)), (.int .i64 (0))] _ (false) (.inl rfl) rfl rfl ZU zc8 zef ⟨⟨_, rfl⟩, ⟨_, rfl⟩, ⟨_, rfl⟩, ⟨_, rfl⟩, trivial⟩ ⟨⟨_, rfl⟩, ⟨_, rfl⟩, ⟨_, rfl⟩, ⟨_, rfl⟩, trivial⟩ (zfK hb41) ?_)
          refine au 25 rfl ?_
          exact zr (s.imp fun _ q => ⟨_, rfl, q⟩)
        ·replace s := s.2 hb35
         refine zg rfl (zJ p34 (.inl rfl) false rfl rfl YA hb35 rfl ?_)
         refine au 31 rfl ?_
         exact zr (s.imp fun _ q => ⟨_, rfl, q⟩)
       ·replace s := s.2 hb32
        refine zg rfl (zJ p31 (.inl rfl) false rfl rfl zei hb32 rfl ?_)
        refine au 36 rfl ?_
        exact zr (s.imp fun _ q => ⟨_, rfl, q⟩)
      ·refine au 41 rfl ?_
       exact zr (s.imp fun _ q => ⟨_, rfl, q⟩)
     refine au 5 rfl ?_
     obtain ⟨J63, m61, h0, s⟩ := s
     refine Run.of_fin (h0.imp fun h' h0 => ?_)
     refine Run.loop (σ := Int × Nat) (fun x e h => J63 x.1 x.2 h ∧ Agree [(15, (.pointer none)), (18, (.bool false)), (19, (.int .i64 (i26))), (20, (.int .i64 (i27))), (186, (.int .i64 (x.1)))] e) (fun x => x.2) ((0), m61) ⟨h0, ⟨rfl, rfl, rfl, rfl, rfl, trivial⟩⟩ ?_; clear h0
     rintro ⟨i58, m60⟩ e h59 ⟨hJ, hag⟩ ih62
     have s := s i58 m60 h59 hJ; clear hJ
     refine Run.env hag ?_; clear hag
     refine au 2 rfl ?_
     refine zt s rfl rfl rfl zG zF (fun s => ?_) fun s => ?_
     ·refine au 15 rfl ?_
      refine zg rfl (zH [(0, (.int .i64 (i58)))] [(.int .i64 (i58)), (.int .i64 (0)), (.int .i64 (0)), (.int .u8 (0))] x3 zbH rfl rfl ?_)
      refine zcall s rfl rfl Vi ?_
      rintro _ h64 ⟨i65, i66, rfl, s⟩
      refine au 9 rfl ?_
      refine zu s rfl rfl rfl wj wi (fun s => ?_) fun s => ?_
      ·refine au 8 rfl ?_
       exact Run.of_fin (s.imp fun h' ⟨m', hm, s⟩ => ih62 ((IntKind.wrap .i64 ((i58) + (1))), m') _ _ ⟨s, ⟨rfl, rfl, rfl, rfl, rfl, trivial⟩⟩ hm)
      ·refine au 6 rfl ?_
       exact zr (s.imp fun _ q => ⟨_, rfl, q⟩)
     ·refine au 4 rfl ?_
      exact Run.of_fin (s.imp fun h' s => j28 _ _ ⟨⟨rfl, rfl, rfl, rfl, trivial⟩, s⟩)
    ·replace s := s.1 rfl
     refine au 1 rfl ?_
     refine au 7 rfl ?_
     refine zcall s rfl rfl zdd ?_
     rintro _ h67 ⟨i68, i69, rfl, s⟩
     refine au 6 rfl ?_
     refine Run.seqJ (fun e h71 => Agree [(15, (.pointer none)), (18, (.bool true)), (19, (.int .i64 (i68))), (20, (.int .i64 (i69)))] e ∧ vR B i68 i69 h71 Q) ?_ fun j70 => ?_
     ·rintro e h71 ⟨hag, s⟩
      refine Run.env hag ?_; clear hag
      refine au 54 rfl ?_
      exact zr (s.imp fun _ q => ⟨_, rfl, q⟩)
     refine au 5 rfl ?_
     obtain ⟨J77, m75, h0, s⟩ := s
     refine Run.of_fin (h0.imp fun h' h0 => ?_)
     refine Run.loop (σ := Int × Nat) (fun x e h => J77 x.1 x.2 h ∧ Agree [(15, (.pointer none)), (18, (.bool true)), (19, (.int .i64 (i68))), (20, (.int .i64 (i69))), (186, (.int .i64 (x.1)))] e) (fun x => x.2) ((0), m75) ⟨h0, ⟨rfl, rfl, rfl, rfl, rfl, trivial⟩⟩ ?_; clear h0
     rintro ⟨i72, m74⟩ e h73 ⟨hJ, hag⟩ ih76
     have s := s i72 m74 h73 hJ; clear hJ
     refine Run.env hag ?_; clear hag
     refine au 2 rfl ?_
     refine zt s rfl rfl rfl zG zF (fun s => ?_) fun s => ?_
     ·refine au 15 rfl ?_
      refine zg rfl (zH [(0, (.int .i64 (i72)))] [(.int .i64 (i72)), (.int .i64 (0)), (.int .i64 (0)), (.int .u8 (0))] x3 zbH rfl rfl ?_)
      refine zcall s rfl rfl Vi ?_
      rintro _ h78 ⟨i79, i80, rfl, s⟩
      refine au 9 rfl ?_
      refine zu s rfl rfl rfl wj wi (fun s => ?_) fun s => ?_
      ·refine au 8 rfl ?_
       exact Run.of_fin (s.imp fun h' ⟨m', hm, s⟩ => ih76 ((IntKind.wrap .i64 ((i72) + (1))), m') _ _ ⟨s, ⟨rfl, rfl, rfl, rfl, rfl, trivial⟩⟩ hm)
      ·refine au 6 rfl ?_
       exact zr (s.imp fun _ q => ⟨_, rfl, q⟩)
     ·refine au 4 rfl ?_
      exact Run.of_fin (s.imp fun h' s => j70 _ _ ⟨⟨rfl, rfl, rfl, rfl, trivial⟩, s⟩)
   refine au 3 rfl ?_
   refine zg rfl (y9 a4 n5 c6 rfl zcF ?_)
   refine au 3 rfl ?_
   obtain ⟨J86, m84, h0, s⟩ := s
   refine Run.of_fin (h0.imp fun h' h0 => ?_)
   refine Run.loop (σ := Int × Nat) (fun x e h => J86 x.1 x.2 h ∧ Agree [(5, (.pointer p13)), (37, (.slice a4 n5 c6)), (38, (.int .i64 ((n5 : Nat)))), (39, (.int .i64 (x.1)))] e) (fun x => x.2) ((0), m84) ⟨h0, ⟨rfl, rfl, rfl, rfl, trivial⟩⟩ ?_; clear h0
   rintro ⟨i81, m83⟩ e h82 ⟨hJ, hag⟩ ih85
   have s := s i81 m83 h82 hJ; clear hJ
   refine Run.env hag ?_; clear hag
   refine au 2 rfl ?_
   refine zt s rfl rfl rfl zG zF (fun s => ?_) fun s => ?_
   ·refine au 8 rfl ?_
    obtain ⟨A87, e88, hi0, hi1, s⟩ := s
    refine zg rfl (zZ A87 n5 c6 .i64 (i81) (congrArg (fun a => Value.slice a n5 c6) e88) rfl zek hi0 hi1 ?_)
    obtain ⟨i89, i90, i91, i92, i93, s94, hl, s⟩ := s
    refine zn hl rfl rfl zee za6 rfl ?_
    refine zal s rfl zdm rfl fun k95 h96 s => ?_
    refine zsn s rfl rfl rfl za6 rfl fun h97 s => ?_
    refine au 4 rfl ?_
    refine zl s rfl rfl zx fun i98 s => ?_
    refine au 4 rfl ?_
    refine zt s rfl rfl rfl zU zT (fun s => ?_) fun s => ?_
    ·refine au 4 rfl ?_
     obtain ⟨A100, e101, s⟩ := s
     obtain ⟨p104, hl, s⟩ := s
     have f105 := hl
     obtain ⟨i107, i108, i109, i110, hl, s⟩ := s
     have f111 := hl
     refine Run.drawM (fun h' => cellH B h' (Addr.add A100 1) = some (.pointer p104) ∧ za B h' ⟨k95, 1, none⟩ 0 [(.int .i64 (i107)), (.int .i64 (i108)), (.int .i64 (i109)), (.int .u8 (i110))] ∧ True) [] ⟨[0, 1, 2, 4, 0, 16, 40, 64, 128, 128, 511, 2047], [4095, 4094, 4093, 4091, 4095, 4079, 4055, 4031, 3967, 3967, 3839, 3583], [0, 0, 0, 0, 0, 0, 0, 0, 0, 0, 0, 0], 0⟩ (.q 0 (.q 1 (.q 2 (.q 3 (.q 4 (.q 5 (.x 6 (.q 7 (.q 8 (.q 9 (.q 10 (.q 11 .nil))))) .no))))))) zR (by kernel_rfl) ⟨f105, f111, trivial⟩ ?_
     refine auT 1 rfl ?_
     refine zq rfl (fun _ hC => zp A100 (congrArg Value.pointer e101) ⟨rfl, rfl⟩) ?_
     refine auT 1 rfl ?_
     refine zq rfl (fun _ hC => zh (Addr.add A100 1) ((.pointer p104)) rfl zbB hC.1 ⟨rfl, rfl⟩) ?_
     refine auT 1 rfl ?_
     refine zq rfl (fun _ hC => z0 ⟨k95, 1, none⟩ [(.int .i64 (i107)), (.int .i64 (i108)), (.int .i64 (i109)), (.int .u8 (i110))] rfl ZV Zy hC.2.1 ⟨rfl, rfl⟩) ?_
     refine ⟨zo rfl (zA [(.pointer p104), (.agg #[(.int .i64 (i107)), (.int .i64 (i108)), (.int .i64 (i109)), (.int .u8 (i110))])] (Vi) rfl rfl (Spec.mono s fun v h112 hv => ?_)), trivial⟩
     obtain ⟨i113, i114, rfl, s⟩ := hv
     obtain ⟨g115, g116, s⟩ := s
     refine ⟨fun _ => ⟨g115, g116, trivial⟩, ?_⟩
     refine auT 5 rfl ?_
     refine au 4 rfl ?_
     obtain ⟨i117, i118, i119, i120, hl, s⟩ := s
     refine zn hl rfl rfl ZV Zy rfl ?_
     refine zcall s rfl rfl zhF ?_
     rintro _ h121 ⟨b122, rfl, s⟩
     cases b122
     ·replace s := s.2 rfl
      refine au 7 rfl ?_
      refine zu s rfl rfl rfl wj wi (fun s => ?_) fun s => ?_
      ·refine au 8 rfl ?_
       exact Run.of_fin (s.imp fun h' ⟨m', hm, s⟩ => ih85 ((IntKind.wrap .i64 ((i81) + (1))), m') _ _ ⟨s, ⟨rfl, rfl, rfl, rfl, trivial⟩⟩ hm)
      ·refine au 6 rfl ?_
       exact zr (s.imp fun _ q => ⟨_, rfl, q⟩)
     ·replace s := s.1 rfl
      refine au 8 rfl ?_
      refine zt s rfl rfl rfl zU zT (fun s => ?_) fun s => ?_
      ·refine au 5 rfl ?_
       refine znil s rfl rfl fun A123 s => ?_
       refine au 1 rfl ?_
       refine zl s rfl rfl zbB fun p125 s => ?_
       refine zcall s rfl rfl zaX ?_
       rintro _ h126 ⟨b127, rfl, s⟩
       refine au 3 rfl ?_
       exact zr (s.imp fun _ q => ⟨_, rfl, q⟩)
      ·refine au 6 rfl ?_
       refine znil s rfl rfl fun A128 s => ?_
       refine au 1 rfl ?_
       refine zl s rfl rfl zbB fun p130 s => ?_
       refine zcall s rfl rfl zdc ?_
       rintro _ h131 ⟨p132, rfl, s⟩
       refine zcall s rfl rfl zhG ?_
       rintro _ h133 ⟨i134, rfl, s⟩
       refine au 2 rfl ?_
       refine Run.seqJ (fun e h136 => Agree [(5, (.pointer p13)), (7, (.pointer (some ⟨k95, 0, none⟩))), (8, (.int .i64 (i113))), (9, (.int .i64 (i114))), (10, (.int .i64 (i134))), (37, (.slice a4 n5 c6)), (38, (.int .i64 ((n5 : Nat)))), (39, (.int .i64 (i81)))] e ∧ xq B a4 n5 c6 p13 i81 m83 J86 k95 i113 i114 i134 h136 Q) ?_ fun j135 => ?_
       ·rintro e h136 ⟨hag, s⟩
        refine Run.env hag ?_; clear hag
        refine au 3 rfl ?_
        refine znil s rfl rfl fun A137 s => ?_
        refine au 1 rfl ?_
        refine zl s rfl rfl yE fun p139 s => ?_
        refine zcall s rfl rfl zaZ ?_
        rintro _ h140 ⟨l141, s142, s143, s144, rfl, s⟩
        refine au 3 rfl ?_
        refine zal s rfl yF rfl fun k145 h146 s => ?_
        refine zal s rfl Wq rfl fun k147 h148 s => ?_
        obtain ⟨hln, h149, hst, s⟩ := s
        refine zg0 rfl (y7 ⟨k145, 0, none⟩ l141 h149 rfl rfl (vo.trans (congrArg some hln.symm)) hst ?_)
        refine zsn s rfl rfl rfl XL rfl fun h150 s => ?_
        refine au 1 rfl ?_
        refine Run.seqJ (fun e h153 => ∃ i152 : Int, Agree [(5, (.pointer p13)), (7, (.pointer (some ⟨k95, 0, none⟩))), (8, (.int .i64 (i113))), (9, (.int .i64 (i114))), (13, (.int .i64 (i152))), (37, (.slice a4 n5 c6)), (38, (.int .i64 ((n5 : Nat)))), (39, (.int .i64 (i81)))] e ∧ xr B a4 n5 c6 p13 i81 m83 J86 k95 i113 i114 i152 h153 Q) ?_ fun j151 => ?_
        ·rintro e h153 ⟨i152, hag, s⟩
         refine Run.env hag ?_; clear hag
         refine Run.seqJ (fun e h155 => Agree [(5, (.pointer p13)), (7, (.pointer (some ⟨k95, 0, none⟩))), (8, (.int .i64 (i113))), (9, (.int .i64 (i114))), (13, (.int .i64 (i152))), (37, (.slice a4 n5 c6)), (38, (.int .i64 ((n5 : Nat)))), (39, (.int .i64 (i81)))] e ∧ yU B a4 n5 c6 p13 i81 m83 J86 k95 i113 i114 i152 h155 Q) ?_ fun j154 => ?_
         ·rintro e h155 ⟨hag, s⟩
          refine Run.env hag ?_; clear hag
          refine Run.seqJ (fun e h157 => Agree [(5, (.pointer p13)), (7, (.pointer (some ⟨k95, 0, none⟩))), (37, (.slice a4 n5 c6)), (38, (.int .i64 ((n5 : Nat)))), (39, (.int .i64 (i81)))] e ∧ xt B a4 n5 c6 p13 i81 m83 J86 k95 h157 Q) ?_ fun j156 => ?_
          ·rintro e h157 ⟨hag, s⟩
           refine Run.env hag ?_; clear hag
           obtain ⟨A160, e161, s⟩ := s
           obtain ⟨a164, n165, c166, hl, s⟩ := s
           have f167 := hl
           obtain ⟨i169, i170, i171, i172, hl, s⟩ := s
           have f173 := hl
           refine Run.drawM (fun h' => cellH B h' (Addr.add A160 2) = some (.slice a164 n165 c166) ∧ za B h' ⟨k95, 1, none⟩ 0 [(.int .i64 (i169)), (.int .i64 (i170)), (.int .i64 (i171)), (.int .u8 (i172))] ∧ True) [11] ⟨[0, 0, 2, 4, 8, 0, 32, 64, 144, 511, 1023, 1535], [4095, 4095, 4093, 4091, 4087, 4095, 4063, 4031, 3951, 4094, 3583, 2815], [0, 0, 2, 6, 14, 0, 32, 96, 254, 511, 1023, 2047], 2048⟩ (.q 0 (.q 1 (.q 2 (.q 3 (.q 4 (.q 5 (.q 6 (.x 7 (.x 8 (.q 9 (.q 10 (.x 11 .nil .no))) .no) .no)))))))) zR (by kernel_rfl) ⟨f167, f173, trivial⟩ ?_
           refine auT 2 rfl ?_
           refine zq rfl (fun _ hC => zp A160 (congrArg Value.pointer e161) ⟨rfl, rfl⟩) ?_
           refine auT 1 rfl ?_
           refine zq rfl (fun _ hC => zh (Addr.add A160 2) ((.slice a164 n165 c166)) rfl zed hC.1 ⟨rfl, rfl⟩) ?_
           refine auT 1 rfl ?_
           refine zq rfl (fun _ hC => z0 ⟨k95, 1, none⟩ [(.int .i64 (i169)), (.int .i64 (i170)), (.int .i64 (i171)), (.int .u8 (i172))] rfl ZV Zy hC.2.1 ⟨rfl, rfl⟩) ?_
           refine ⟨zo rfl (yh [(0, (.agg #[(.int .i64 (i169)), (.int .i64 (i170)), (.int .i64 (i171)), (.int .u8 (i172))]))] [(.int .i64 (i169)), (.int .i64 (i170)), (.int .i64 (i171)), (.int .u8 (i172))] xK x3 rfl (by decide) (by decide) rfl rfl (fun k174 hb1 hb2 h175 hb3 => ?_)), trivial⟩
           have s := s k174 hb1 hb2 h175 hb3
           obtain ⟨g176, g177, s⟩ := s
           refine ⟨fun _ => ⟨g176, g177, trivial⟩, ?_⟩
           refine ⟨zo rfl (zX [(.slice a164 n165 c166), (.slice (some ⟨k174, 0, none⟩) 1 1)] rfl (zB (fun v h178 hv => ?_) s)), trivial⟩
           obtain ⟨a179, n180, c181, rfl, s⟩ := hv
           obtain ⟨g182, g183, s⟩ := s
           refine ⟨fun _ => ⟨g182, g183, trivial⟩, ?_⟩
           obtain ⟨A184, e185, s⟩ := s
           refine zq rfl (fun _ _ => zp A184 (congrArg Value.pointer e185) ⟨rfl, rfl⟩) ?_
           refine auT 1 rfl ?_
           obtain ⟨h186, hst, s⟩ := s
           refine ⟨zo0 rfl (v8 (Addr.add A184 2) ((.slice a179 n180 c181)) h186 rfl rfl rfl zkr hst ?_), trivial⟩
           refine ⟨fun hz => Bool.noConfusion hz, ?_⟩
           refine au 6 rfl ?_
           exact Run.of_fin (s.imp fun h' ⟨m', hm, s⟩ => ih85 ((IntKind.wrap .i64 ((i81) + (1))), m') _ _ ⟨s, ⟨rfl, rfl, rfl, rfl, trivial⟩⟩ hm)
          refine au 3 rfl ?_
          refine zu s rfl rfl rfl wj wi (fun s => ?_) fun s => ?_
          ·refine au 3 rfl ?_
           refine zu s rfl rfl rfl wj wi (fun s => ?_) fun s => ?_
           ·refine au 4 rfl ?_
            exact Run.of_fin (s.imp fun h' s => j156 _ _ ⟨⟨rfl, rfl, rfl, rfl, rfl, trivial⟩, s⟩)
           ·refine au 7 rfl ?_
            exact zr (s.imp fun _ q => ⟨_, rfl, q⟩)
          ·refine au 11 rfl ?_
           exact zr (s.imp fun _ q => ⟨_, rfl, q⟩)
         refine au 4 rfl ?_
         refine zl s rfl rfl zx fun i187 s => ?_
         refine zt s rfl rfl rfl zU zT (fun s => ?_) fun s => ?_
         ·refine au 2 rfl ?_
          refine zt s rfl rfl rfl zG zF (fun s => ?_) fun s => ?_
          ·refine au 7 rfl ?_
           refine zu s rfl rfl rfl wj wi (fun s => ?_) fun s => ?_
           ·refine au 8 rfl ?_
            exact Run.of_fin (s.imp fun h' ⟨m', hm, s⟩ => ih85 ((IntKind.wrap .i64 ((i81) + (1))), m') _ _ ⟨s, ⟨rfl, rfl, rfl, rfl, trivial⟩⟩ hm)
           ·refine au 6 rfl ?_
            exact zr (s.imp fun _ q => ⟨_, rfl, q⟩)
          ·refine au 4 rfl ?_
           exact Run.of_fin (s.imp fun h' s => j154 _ _ ⟨⟨rfl, rfl, rfl, rfl, rfl, rfl, rfl, rfl, trivial⟩, s⟩)
         ·refine au 7 rfl ?_
          exact Run.of_fin (s.imp fun h' s => j154 _ _ ⟨⟨rfl, rfl, rfl, rfl, rfl, rfl, rfl, rfl, trivial⟩, s⟩)
        obtain ⟨A189, e190, s⟩ := s
        obtain ⟨a193, n194, c195, hl, s⟩ := s
        have f196 := hl
        obtain ⟨A198, e199, hi0, hi1, s⟩ := s
        have f201 := hi0; have f202 := hi1
        obtain ⟨l203, nl203, hl, s⟩ := s
        have f204 := hl
        obtain ⟨s205, s206, s207, hl, s⟩ := s
        have f208 := hl
        obtain ⟨A210, e211, s⟩ := s
        obtain ⟨a214, n215, c216, hl, s⟩ := s
        have f217 := hl
        obtain ⟨i219, i220, i221, i222, hl, s⟩ := s
        have f223 := hl
        refine Run.drawM (fun h' => cellH B h' (Addr.add A189 3) = some (.slice a193 n194 c195) ∧ za B h' (Addr.add A198 (Int.toNat (i134) * 23)) 0 l203 ∧ za B h' ⟨k147, 0, none⟩ 0 [(.string s205), (.string s206), (.string s207)] ∧ cellH B h' (Addr.add A210 2) = some (.slice a214 n215 c216) ∧ za B h' ⟨k95, 1, none⟩ 0 [(.int .i64 (i219)), (.int .i64 (i220)), (.int .i64 (i221)), (.int .u8 (i222))] ∧ True) [24] ⟨[0, 1, 2, 4, 0, 24, 32, 0, 0, 0, 512, 1024, 2048, 4352, 0, 16384, 32768, 73728, 131264, 262144, 524288, 524288, 0, 6291455, 16777215], [33554431, 33554430, 33554429, 33554427, 33554431, 33554407, 33554399, 33554431, 33554431, 33554431, 33553919, 33553407, 33552383, 33550079, 33554431, 33538047, 33521663, 33480703, 33423167, 33292287, 33030143, 33030143, 33554431, 32505855, 27262975], [0, 1, 3, 7, 0, 31, 63, 0, 0, 0, 512, 1536, 3584, 7936, 0, 16384, 49152, 130816, 262143, 524287, 1048575, 1048575, 0, 6291455, 16777215], 16777216⟩ (.q 0 (.q 1 (.q 2 (.q 3 (.q 4 (.q 5 (.q 6 (.q 7 (.q 9 (.q 10 (.q 11 (.q 12 (.q 14 (.q 15 (.x 8 (.x 13 (.x 16 (.x 17 (.x 18 (.q 19 (.q 20 (.q 21 (.x 22 (.q 23 (.x 24 .nil .no)) .no)))) (.x 22 (.x 18 (.q 19 (.q 20 (.q 21 (.q 23 (.x 24 .nil .no))))) .no) .no)) (.x 22 (.x 17 (.x 18 (.q 19 (.q 20 (.q 21 (.q 23 (.x 24 .nil .no))))) .no) .no) .no)) (.x 22 (.x 16 (.x 17 (.x 18 (.q 19 (.q 20 (.q 21 (.q 23 (.x 24 .nil .no))))) .no) .no) .no) .no)) (.x 16 (.x 13 (.x 17 (.x 18 (.q 19 (.q 20 (.q 21 (.x 22 (.q 23 (.x 24 .nil .no)) .no)))) (.x 22 (.x 18 (.q 19 (.q 20 (.q 21 (.q 23 (.x 24 .nil .no))))) .no) .no)) (.x 22 (.x 17 (.x 18 (.q 19 (.q 20 (.q 21 (.q 23 (.x 24 .nil .no))))) .no) .no) .no)) (.x 22 (.x 13 (.x 17 (.x 18 (.q 19 (.q 20 (.q 21 (.q 23 (.x 24 .nil .no))))) .no) .no) .no) .no)) (.x 22 (.x 13 (.x 16 (.x 17 (.x 18 (.q 19 (.q 20 (.q 21 (.q 23 (.x 24 .nil .no))))) .no) .no) .no) (.x 16 (.x 13 (.x 17 (.x 18 (.q 19 (.q 20 (.q 21 (.q 23 (.x 24 .nil .no))))) .no) .no) .no) .no)) .no))) (.x 16 (.x 8 (.x 13 (.x 17 (.x 18 (.q 19 (.q 20 (.q 21 (.x 22 (.q 23 (.x 24 .nil .no)) .no)))) (.x 22 (.x 18 (.q 19 (.q 20 (.q 21 (.q 23 (.x 24 .nil .no))))) .no) .no)) (.x 22 (.x 17 (.x 18 (.q 19 (.q 20 (.q 21 (.q 23 (.x 24 .nil .no))))) .no) .no) .no)) (.x 22 (.x 13 (.x 17 (.x 18 (.q 19 (.q 20 (.q 21 (.q 23 (.x 24 .nil .no))))) .no) .no) .no) .no)) (.x 22 (.x 8 (.x 13 (.x 17 (.x 18 (.q 19 (.q 20 (.q 21 (.q 23 (.x 24 .nil .no))))) .no) .no) .no) .no) .no)) (.x 22 (.x 8 (.x 13 (.x 16 (.x 17 (.x 18 (.q 19 (.q 20 (.q 21 (.q 23 (.x 24 .nil .no))))) .no) .no) .no) (.x 16 (.x 13 (.x 17 (.x 18 (.q 19 (.q 20 (.q 21 (.q 23 (.x 24 .nil .no))))) .no) .no) .no) .no)) (.x 16 (.x 8 (.x 13 (.x 17 (.x 18 (.q 19 (.q 20 (.q 21 (.q 23 (.x 24 .nil .no))))) .no) .no) .no) .no) .no)) .no))))))))))))))))) zR (by kernel_rfl) ⟨f196, f204, f208, f217, f223, trivial⟩ ?_
        refine auT 1 rfl ?_
        refine zq rfl (fun _ hC => zp A189 (congrArg Value.pointer e190) ⟨rfl, rfl⟩) ?_
        refine auT 1 rfl ?_
        refine zq rfl (fun _ hC => zh (Addr.add A189 3) ((.slice a193 n194 c195)) rfl V6 hC.1 ⟨rfl, rfl⟩) ?_
        refine auT 1 rfl ?_
        refine zq rfl (fun _ hC => zZ A198 n194 c195 .i64 (i134) (congrArg (fun a => Value.slice a n194 c195) e199) rfl zbK f201 f202 ⟨rfl, rfl⟩) ?_
        refine zq rfl (fun _ hC => z0 (Addr.add A198 (Int.toNat (i134) * 23)) l203 rfl Y4 (vo.trans (congrArg some nl203.symm)) hC.2.1 ⟨rfl, rfl⟩) ?_
        refine zq rfl (fun _ hC => z0 ⟨k147, 0, none⟩ [(.string s205), (.string s206), (.string s207)] rfl zbD XL hC.2.2.1 ⟨rfl, rfl⟩) ?_
        refine auT 1 rfl ?_
        refine zq rfl (fun _ hC => zp A210 (congrArg Value.pointer e211) ⟨rfl, rfl⟩) ?_
        refine auT 1 rfl ?_
        refine zq rfl (fun _ hC => zh (Addr.add A210 2) ((.slice a214 n215 c216)) rfl zed hC.2.2.2.1 ⟨rfl, rfl⟩) ?_
        refine auT 1 rfl ?_
        refine zq rfl (fun _ hC => z0 ⟨k95, 1, none⟩ [(.int .i64 (i219)), (.int .i64 (i220)), (.int .i64 (i221)), (.int .u8 (i222))] rfl ZV Zy hC.2.2.2.2.1 ⟨rfl, rfl⟩) ?_
        refine RunT.joinJ (t := (.q 23 (.x 24 .nil .no))) (fun e h878 => ∃ A875 : Addr, ∃ i876 : Int, ∃ l877 : List Value, Agree [(5, (.pointer p13)), (7, (.pointer (some ⟨k95, 0, none⟩))), (8, (.int .i64 (i113))), (9, (.int .i64 (i114))), (14, (.pointer (some A875))), (37, (.slice a4 n5 c6)), (38, (.int .i64 ((n5 : Nat)))), (39, (.int .i64 (i81))), (116, (.int .i64 (i876))), (117, (.agg (List.toArray l877)))] e ∧ cellH B h878 (Addr.add A189 3) = some (.slice a193 n194 c195) ∧ za B h878 (Addr.add A198 (Int.toNat (i134) * 23)) 0 l203 ∧ za B h878 ⟨k147, 0, none⟩ 0 [(.string s205), (.string s206), (.string s207)] ∧ cellH B h878 (Addr.add A210 2) = some (.slice a214 n215 c216) ∧ za B h878 ⟨k95, 1, none⟩ 0 [(.int .i64 (i219)), (.int .i64 (i220)), (.int .i64 (i221)), (.int .u8 (i222))] ∧ zy B a4 n5 c6 p13 i81 m83 J86 k95 i113 i114 i134 k147 A189 a193 n194 c195 A198 l203 s205 s206 s207 A210 a214 n215 c216 i219 i220 i221 i222 A875 i876 l877 h878 Q) ?_ fun j874 => ?_
        ·rintro e h878 ⟨A875, i876, l877, hag, g879, g880, g881, g882, g883, s⟩
         refine RunT.env hag ?_; clear hag
         refine auT 1 rfl ?_
         obtain ⟨hln, h884, hst, s⟩ := s
         refine ⟨zo0 rfl (y7 A875 l877 h884 rfl rfl (vo.trans (congrArg some hln.symm)) hst ?_), trivial⟩
         refine ⟨fun hz => Bool.noConfusion hz, ?_⟩
         exact Run.of_fin (s.imp fun h' s => j151 _ _ ⟨(i876), ⟨rfl, rfl, rfl, rfl, rfl, rfl, rfl, rfl, trivial⟩, s⟩)
        refine ⟨?_, ?_, ?_, trivial⟩
        ·have s := s.1
         refine zo rfl (ZB xK (fun k885 hb1 hb2 h886 hb3 => ?_))
         have s := s k885 hb1 hb2 h886 hb3
         obtain ⟨g887, g888, g889, g890, g891, s⟩ := s
         refine ⟨fun _ => ⟨g887, g888, g889, g890, g891, trivial⟩, ?_⟩
         refine ⟨?_, ?_, ?_, trivial⟩
         ·have s := s.1
          refine zo rfl (zX [(.slice (some ⟨k885, 0, none⟩) 0 0), (.slice a214 n215 c216)] rfl (zB (fun v h892 hv => ?_) s))
          obtain ⟨a893, n894, c895, rfl, s⟩ := hv
          obtain ⟨g896, g897, g898, g899, g900, s⟩ := s
          refine ⟨fun _ => ⟨g896, g897, g898, g899, g900, trivial⟩, ?_⟩
          refine ⟨?_, ?_, trivial⟩
          ·have s := s.1
           refine zo rfl (yh [(0, (.agg #[(.int .i64 (i219)), (.int .i64 (i220)), (.int .i64 (i221)), (.int .u8 (i222))]))] [(.int .i64 (i219)), (.int .i64 (i220)), (.int .i64 (i221)), (.int .u8 (i222))] xK x3 rfl (by decide) (by decide) rfl rfl (fun k901 hb1 hb2 h902 hb3 => ?_))
           have s := s k901 hb1 hb2 h902 hb3
           obtain ⟨g903, g904, g905, g906, g907, s⟩ := s
           refine ⟨fun _ => ⟨g903, g904, g905, g906, g907, trivial⟩, ?_⟩
           refine ⟨?_, ?_, trivial⟩
           ·have s := s.1
            refine zo rfl (zX [(.slice a893 n894 c895), (.slice (some ⟨k901, 0, none⟩) 1 1)] rfl (zB (fun v h908 hv => ?_) s))
            obtain ⟨a909, n910, c911, rfl, s⟩ := hv
            obtain ⟨g912, g913, g914, g915, g916, s⟩ := s
            refine ⟨fun _ => ⟨g912, g913, g914, g915, g916, trivial⟩, ?_⟩
            refine ⟨?_, ?_, trivial⟩
            ·have s := s.1
             refine zo rfl (zA [(.agg (List.toArray l203)), (.agg #[(.string s205), (.string s206), (.string s207)]), (.slice a909 n910 c911)] (xN) rfl rfl (Spec.mono s fun v h917 hv => ?_))
             obtain ⟨i918, l919, rfl, s⟩ := hv
             obtain ⟨g920, g921, g922, g923, g924, s⟩ := s
             refine ⟨fun _ => ⟨g920, g921, g922, g923, g924, trivial⟩, ?_⟩
             refine auT 3 rfl ?_
             refine ⟨zo rfl (y6 [(.int .i64 (0)), (.int .i64 (0)), (.int .i64 (0)), (.int .i64 (0)), (.int .i64 (0)), (.int .i64 (0)), (.int .i64 (0)), (.int .i64 (0)), (.bool false), (.string ByteArray.empty), (.bool false), (.string ByteArray.empty), (.bool false), (.string ByteArray.empty), (.bool false), (.string ByteArray.empty), (.bool false), (.string ByteArray.empty), (.bool false), (.string ByteArray.empty), (.int .i64 (0)), (.int .i64 (0)), (.int .i64 (0))] yF (fun k925 hb1 hb2 h926 hb3 => ?_)), trivial⟩
             have s := s k925 hb1 hb2 h926 hb3
             obtain ⟨g927, g928, g929, g930, g931, s⟩ := s
             refine ⟨fun _ => ⟨g927, g928, g929, g930, g931, trivial⟩, ?_⟩
             exact j874 _ _ ⟨⟨k925, 0, none⟩, (i918), l919, ⟨rfl, rfl, rfl, rfl, rfl, rfl, rfl, rfl, rfl, rfl, trivial⟩, g927, g928, g929, g930, g931, s⟩
            ·have s := s.2
             refine zo rfl (y6 [(.int .i64 (0)), (.int .i64 (0)), (.int .i64 (0)), (.int .i64 (0)), (.int .i64 (0)), (.int .i64 (0)), (.int .i64 (0)), (.int .i64 (0)), (.bool false), (.string ByteArray.empty), (.bool false), (.string ByteArray.empty), (.bool false), (.string ByteArray.empty), (.bool false), (.string ByteArray.empty), (.bool false), (.string ByteArray.empty), (.bool false), (.string ByteArray.empty), (.int .i64 (0)), (.int .i64 (0)), (.int .i64 (0))] yF (fun k932 hb1 hb2 h933 hb3 => ?_))
             have s := s k932 hb1 hb2 h933 hb3
             obtain ⟨g934, g935, g936, g937, g938, s⟩ := s
             refine ⟨fun _ => ⟨g934, g935, g936, g937, g938, trivial⟩, ?_⟩
             refine ⟨zo rfl (zA [(.agg (List.toArray l203)), (.agg #[(.string s205), (.string s206), (.string s207)]), (.slice a909 n910 c911)] (xN) rfl rfl (Spec.mono s fun v h939 hv => ?_)), trivial⟩
             obtain ⟨i940, l941, rfl, s⟩ := hv
             obtain ⟨g942, g943, g944, g945, g946, s⟩ := s
             refine ⟨fun _ => ⟨g942, g943, g944, g945, g946, trivial⟩, ?_⟩
             refine auT 3 rfl ?_
             exact j874 _ _ ⟨⟨k932, 0, none⟩, (i940), l941, ⟨rfl, rfl, rfl, rfl, rfl, rfl, rfl, rfl, rfl, rfl, trivial⟩, g942, g943, g944, g945, g946, s⟩
           ·have s := s.2
            refine zo rfl (y6 [(.int .i64 (0)), (.int .i64 (0)), (.int .i64 (0)), (.int .i64 (0)), (.int .i64 (0)), (.int .i64 (0)), (.int .i64 (0)), (.int .i64 (0)), (.bool false), (.string ByteArray.empty), (.bool false), (.string ByteArray.empty), (.bool false), (.string ByteArray.empty), (.bool false), (.string ByteArray.empty), (.bool false), (.string ByteArray.empty), (.bool false), (.string ByteArray.empty), (.int .i64 (0)), (.int .i64 (0)), (.int .i64 (0))] yF (fun k947 hb1 hb2 h948 hb3 => ?_))
            have s := s k947 hb1 hb2 h948 hb3
            obtain ⟨g949, g950, g951, g952, g953, s⟩ := s
            refine ⟨fun _ => ⟨g949, g950, g951, g952, g953, trivial⟩, ?_⟩
            refine ⟨zo rfl (zX [(.slice a893 n894 c895), (.slice (some ⟨k901, 0, none⟩) 1 1)] rfl (zB (fun v h954 hv => ?_) s)), trivial⟩
            obtain ⟨a955, n956, c957, rfl, s⟩ := hv
            obtain ⟨g958, g959, g960, g961, g962, s⟩ := s
            refine ⟨fun _ => ⟨g958, g959, g960, g961, g962, trivial⟩, ?_⟩
            refine ⟨zo rfl (zA [(.agg (List.toArray l203)), (.agg #[(.string s205), (.string s206), (.string s207)]), (.slice a955 n956 c957)] (xN) rfl rfl (Spec.mono s fun v h963 hv => ?_)), trivial⟩
            obtain ⟨i964, l965, rfl, s⟩ := hv
            obtain ⟨g966, g967, g968, g969, g970, s⟩ := s
            refine ⟨fun _ => ⟨g966, g967, g968, g969, g970, trivial⟩, ?_⟩
            refine auT 3 rfl ?_
            exact j874 _ _ ⟨⟨k947, 0, none⟩, (i964), l965, ⟨rfl, rfl, rfl, rfl, rfl, rfl, rfl, rfl, rfl, rfl, trivial⟩, g966, g967, g968, g969, g970, s⟩
          ·have s := s.2
           refine zo rfl (y6 [(.int .i64 (0)), (.int .i64 (0)), (.int .i64 (0)), (.int .i64 (0)), (.int .i64 (0)), (.int .i64 (0)), (.int .i64 (0)), (.int .i64 (0)), (.bool false), (.string ByteArray.empty), (.bool false), (.string ByteArray.empty), (.bool false), (.string ByteArray.empty), (.bool false), (.string ByteArray.empty), (.bool false), (.string ByteArray.empty), (.bool false), (.string ByteArray.empty), (.int .i64 (0)), (.int .i64 (0)), (.int .i64 (0))] yF (fun k971 hb1 hb2 h972 hb3 => ?_))
           have s := s k971 hb1 hb2 h972 hb3
           obtain ⟨g973, g974, g975, g976, g977, s⟩ := s
           refine ⟨fun _ => ⟨g973, g974, g975, g976, g977, trivial⟩, ?_⟩
           refine ⟨zo rfl (yh [(0, (.agg #[(.int .i64 (i219)), (.int .i64 (i220)), (.int .i64 (i221)), (.int .u8 (i222))]))] [(.int .i64 (i219)), (.int .i64 (i220)), (.int .i64 (i221)), (.int .u8 (i222))] xK x3 rfl (by decide) (by decide) rfl rfl (fun k978 hb1 hb2 h979 hb3 => ?_)), trivial⟩
           have s := s k978 hb1 hb2 h979 hb3
           obtain ⟨g980, g981, g982, g983, g984, s⟩ := s
           refine ⟨fun _ => ⟨g980, g981, g982, g983, g984, trivial⟩, ?_⟩
           refine ⟨zo rfl (zX [(.slice a893 n894 c895), (.slice (some ⟨k978, 0, none⟩) 1 1)] rfl (zB (fun v h985 hv => ?_) s)), trivial⟩
           obtain ⟨a986, n987, c988, rfl, s⟩ := hv
           obtain ⟨g989, g990, g991, g992, g993, s⟩ := s
           refine ⟨fun _ => ⟨g989, g990, g991, g992, g993, trivial⟩, ?_⟩
           refine ⟨zo rfl (zA [(.agg (List.toArray l203)), (.agg #[(.string s205), (.string s206), (.string s207)]), (.slice a986 n987 c988)] (xN) rfl rfl (Spec.mono s fun v h994 hv => ?_)), trivial⟩
           obtain ⟨i995, l996, rfl, s⟩ := hv
           obtain ⟨g997, g998, g999, g1000, g1001, s⟩ := s
           refine ⟨fun _ => ⟨g997, g998, g999, g1000, g1001, trivial⟩, ?_⟩
           refine auT 3 rfl ?_
           exact j874 _ _ ⟨⟨k971, 0, none⟩, (i995), l996, ⟨rfl, rfl, rfl, rfl, rfl, rfl, rfl, rfl, rfl, rfl, trivial⟩, g997, g998, g999, g1000, g1001, s⟩
         ·have s := s.2.1
          refine zo rfl (yh [(0, (.agg #[(.int .i64 (i219)), (.int .i64 (i220)), (.int .i64 (i221)), (.int .u8 (i222))]))] [(.int .i64 (i219)), (.int .i64 (i220)), (.int .i64 (i221)), (.int .u8 (i222))] xK x3 rfl (by decide) (by decide) rfl rfl (fun k1002 hb1 hb2 h1003 hb3 => ?_))
          have s := s k1002 hb1 hb2 h1003 hb3
          obtain ⟨g1004, g1005, g1006, g1007, g1008, s⟩ := s
          refine ⟨fun _ => ⟨g1004, g1005, g1006, g1007, g1008, trivial⟩, ?_⟩
          refine ⟨?_, ?_, trivial⟩
          ·have s := s.1
           refine zo rfl (zX [(.slice (some ⟨k885, 0, none⟩) 0 0), (.slice a214 n215 c216)] rfl (zB (fun v h1009 hv => ?_) s))
           obtain ⟨a1010, n1011, c1012, rfl, s⟩ := hv
           obtain ⟨g1013, g1014, g1015, g1016, g1017, s⟩ := s
           refine ⟨fun _ => ⟨g1013, g1014, g1015, g1016, g1017, trivial⟩, ?_⟩
           refine ⟨?_, ?_, trivial⟩
           ·have s := s.1
            refine zo rfl (zX [(.slice a1010 n1011 c1012), (.slice (some ⟨k1002, 0, none⟩) 1 1)] rfl (zB (fun v h1018 hv => ?_) s))
            obtain ⟨a1019, n1020, c1021, rfl, s⟩ := hv
            obtain ⟨g1022, g1023, g1024, g1025, g1026, s⟩ := s
            refine ⟨fun _ => ⟨g1022, g1023, g1024, g1025, g1026, trivial⟩, ?_⟩
            refine ⟨?_, ?_, trivial⟩
            ·have s := s.1
             refine zo rfl (zA [(.agg (List.toArray l203)), (.agg #[(.string s205), (.string s206), (.string s207)]), (.slice a1019 n1020 c1021)] (xN) rfl rfl (Spec.mono s fun v h1027 hv => ?_))
             obtain ⟨i1028, l1029, rfl, s⟩ := hv
             obtain ⟨g1030, g1031, g1032, g1033, g1034, s⟩ := s
             refine ⟨fun _ => ⟨g1030, g1031, g1032, g1033, g1034, trivial⟩, ?_⟩
             refine auT 3 rfl ?_
             refine ⟨zo rfl (y6 [(.int .i64 (0)), (.int .i64 (0)), (.int .i64 (0)), (.int .i64 (0)), (.int .i64 (0)), (.int .i64 (0)), (.int .i64 (0)), (.int .i64 (0)), (.bool false), (.string ByteArray.empty), (.bool false), (.string ByteArray.empty), (.bool false), (.string ByteArray.empty), (.bool false), (.string ByteArray.empty), (.bool false), (.string ByteArray.empty), (.bool false), (.string ByteArray.empty), (.int .i64 (0)), (.int .i64 (0)), (.int .i64 (0))] yF (fun k1035 hb1 hb2 h1036 hb3 => ?_)), trivial⟩
             have s := s k1035 hb1 hb2 h1036 hb3
             obtain ⟨g1037, g1038, g1039, g1040, g1041, s⟩ := s
             refine ⟨fun _ => ⟨g1037, g1038, g1039, g1040, g1041, trivial⟩, ?_⟩
             exact j874 _ _ ⟨⟨k1035, 0, none⟩, (i1028), l1029, ⟨rfl, rfl, rfl, rfl, rfl, rfl, rfl, rfl, rfl, rfl, trivial⟩, g1037, g1038, g1039, g1040, g1041, s⟩
            ·have s := s.2
             refine zo rfl (y6 [(.int .i64 (0)), (.int .i64 (0)), (.int .i64 (0)), (.int .i64 (0)), (.int .i64 (0)), (.int .i64 (0)), (.int .i64 (0)), (.int .i64 (0)), (.bool false), (.string ByteArray.empty), (.bool false), (.string ByteArray.empty), (.bool false), (.string ByteArray.empty), (.bool false), (.string ByteArray.empty), (.bool false), (.string ByteArray.empty), (.bool false), (.string ByteArray.empty), (.int .i64 (0)), (.int .i64 (0)), (.int .i64 (0))] yF (fun k1042 hb1 hb2 h1043 hb3 => ?_))
             have s := s k1042 hb1 hb2 h1043 hb3
             obtain ⟨g1044, g1045, g1046, g1047, g1048, s⟩ := s
             refine ⟨fun _ => ⟨g1044, g1045, g1046, g1047, g1048, trivial⟩, ?_⟩
             refine ⟨zo rfl (zA [(.agg (List.toArray l203)), (.agg #[(.string s205), (.string s206), (.string s207)]), (.slice a1019 n1020 c1021)] (xN) rfl rfl (Spec.mono s fun v h1049 hv => ?_)), trivial⟩
             obtain ⟨i1050, l1051, rfl, s⟩ := hv
             obtain ⟨g1052, g1053, g1054, g1055, g1056, s⟩ := s
             refine ⟨fun _ => ⟨g1052, g1053, g1054, g1055, g1056, trivial⟩, ?_⟩
             refine auT 3 rfl ?_
             exact j874 _ _ ⟨⟨k1042, 0, none⟩, (i1050), l1051, ⟨rfl, rfl, rfl, rfl, rfl, rfl, rfl, rfl, rfl, rfl, trivial⟩, g1052, g1053, g1054, g1055, g1056, s⟩
           ·have s := s.2
            refine zo rfl (y6 [(.int .i64 (0)), (.int .i64 (0)), (.int .i64 (0)), (.int .i64 (0)), (.int .i64 (0)), (.int .i64 (0)), (.int .i64 (0)), (.int .i64 (0)), (.bool false), (.string ByteArray.empty), (.bool false), (.string ByteArray.empty), (.bool false), (.string ByteArray.empty), (.bool false), (.string ByteArray.empty), (.bool false), (.string ByteArray.empty), (.bool false), (.string ByteArray.empty), (.int .i64 (0)), (.int .i64 (0)), (.int .i64 (0))] yF (fun k1057 hb1 hb2 h1058 hb3 => ?_))
            have s := s k1057 hb1 hb2 h1058 hb3
            obtain ⟨g1059, g1060, g1061, g1062, g1063, s⟩ := s
            refine ⟨fun _ => ⟨g1059, g1060, g1061, g1062, g1063, trivial⟩, ?_⟩
            refine ⟨zo rfl (zX [(.slice a1010 n1011 c1012), (.slice (some ⟨k1002, 0, none⟩) 1 1)] rfl (zB (fun v h1064 hv => ?_) s)), trivial⟩
            obtain ⟨a1065, n1066, c1067, rfl, s⟩ := hv
            obtain ⟨g1068, g1069, g1070, g1071, g1072, s⟩ := s
            refine ⟨fun _ => ⟨g1068, g1069, g1070, g1071, g1072, trivial⟩, ?_⟩
            refine ⟨zo rfl (zA [(.agg (List.toArray l203)), (.agg #[(.string s205), (.string s206), (.string s207)]), (.slice a1065 n1066 c1067)] (xN) rfl rfl (Spec.mono s fun v h1073 hv => ?_)), trivial⟩
            obtain ⟨i1074, l1075, rfl, s⟩ := hv
            obtain ⟨g1076, g1077, g1078, g1079, g1080, s⟩ := s
            refine ⟨fun _ => ⟨g1076, g1077, g1078, g1079, g1080, trivial⟩, ?_⟩
            refine auT 3 rfl ?_
            exact j874 _ _ ⟨⟨k1057, 0, none⟩, (i1074), l1075, ⟨rfl, rfl, rfl, rfl, rfl, rfl, rfl, rfl, rfl, rfl, trivial⟩, g1076, g1077, g1078, g1079, g1080, s⟩
          ·have s := s.2
           refine zo rfl (y6 [(.int .i64 (0)), (.int .i64 (0)), (.int .i64 (0)), (.int .i64 (0)), (.int .i64 (0)), (.int .i64 (0)), (.int .i64 (0)), (.int .i64 (0)), (.bool false), (.string ByteArray.empty), (.bool false), (.string ByteArray.empty), (.bool false), (.string ByteArray.empty), (.bool false), (.string ByteArray.empty), (.bool false), (.string ByteArray.empty), (.bool false), (.string ByteArray.empty), (.int .i64 (0)), (.int .i64 (0)), (.int .i64 (0))] yF (fun k1081 hb1 hb2 h1082 hb3 => ?_))
           have s := s k1081 hb1 hb2 h1082 hb3
           obtain ⟨g1083, g1084, g1085, g1086, g1087, s⟩ := s
           refine ⟨fun _ => ⟨g1083, g1084, g1085, g1086, g1087, trivial⟩, ?_⟩
           refine ⟨zo rfl (zX [(.slice (some ⟨k885, 0, none⟩) 0 0), (.slice a214 n215 c216)] rfl (zB (fun v h1088 hv => ?_) s)), trivial⟩
           obtain ⟨a1089, n1090, c1091, rfl, s⟩ := hv
           obtain ⟨g1092, g1093, g1094, g1095, g1096, s⟩ := s
           refine ⟨fun _ => ⟨g1092, g1093, g1094, g1095, g1096, trivial⟩, ?_⟩
           refine ⟨zo rfl (zX [(.slice a1089 n1090 c1091), (.slice (some ⟨k1002, 0, none⟩) 1 1)] rfl (zB (fun v h1097 hv => ?_) s)), trivial⟩
           obtain ⟨a1098, n1099, c1100, rfl, s⟩ := hv
           obtain ⟨g1101, g1102, g1103, g1104, g1105, s⟩ := s
           refine ⟨fun _ => ⟨g1101, g1102, g1103, g1104, g1105, trivial⟩, ?_⟩
           refine ⟨zo rfl (zA [(.agg (List.toArray l203)), (.agg #[(.string s205), (.string s206), (.string s207)]), (.slice a1098 n1099 c1100)] (xN) rfl rfl (Spec.mono s fun v h1106 hv => ?_)), trivial⟩
           obtain ⟨i1107, l1108, rfl, s⟩ := hv
           obtain ⟨g1109, g1110, g1111, g1112, g1113, s⟩ := s
           refine ⟨fun _ => ⟨g1109, g1110, g1111, g1112, g1113, trivial⟩, ?_⟩
           refine auT 3 rfl ?_
           exact j874 _ _ ⟨⟨k1081, 0, none⟩, (i1107), l1108, ⟨rfl, rfl, rfl, rfl, rfl, rfl, rfl, rfl, rfl, rfl, trivial⟩, g1109, g1110, g1111, g1112, g1113, s⟩
         ·have s := s.2.2
          refine zo rfl (y6 [(.int .i64 (0)), (.int .i64 (0)), (.int .i64 (0)), (.int .i64 (0)), (.int .i64 (0)), (.int .i64 (0)), (.int .i64 (0)), (.int .i64 (0)), (.bool false), (.string ByteArray.empty), (.bool false), (.string ByteArray.empty), (.bool false), (.string ByteArray.empty), (.bool false), (.string ByteArray.empty), (.bool false), (.string ByteArray.empty), (.bool false), (.string ByteArray.empty), (.int .i64 (0)), (.int .i64 (0)), (.int .i64 (0))] yF (fun k1114 hb1 hb2 h1115 hb3 => ?_))
          have s := s k1114 hb1 hb2 h1115 hb3
          obtain ⟨g1116, g1117, g1118, g1119, g1120, s⟩ := s
          refine ⟨fun _ => ⟨g1116, g1117, g1118, g1119, g1120, trivial⟩, ?_⟩
          refine RunT.joinJ (t := (.x 17 (.x 18 (.q 19 (.q 20 (.q 21 (.q 23 (.x 24 .nil .no))))) .no) .no)) (fun e h1160 => ∃ a1154 : Option Addr, ∃ n1155 : Nat, ∃ c1156 : Nat, ∃ a1157 : Option Addr, ∃ n1158 : Nat, ∃ c1159 : Nat, Agree [(5, (.pointer p13)), (7, (.pointer (some ⟨k95, 0, none⟩))), (8, (.int .i64 (i113))), (9, (.int .i64 (i114))), (14, (.pointer (some ⟨k1114, 0, none⟩))), (37, (.slice a4 n5 c6)), (38, (.int .i64 ((n5 : Nat)))), (39, (.int .i64 (i81))), (103, (.agg (List.toArray l203))), (104, (.agg #[(.string s205), (.string s206), (.string s207)])), (110, (.slice a1154 n1155 c1156)), (113, (.slice a1157 n1158 c1159))] e ∧ cellH B h1160 (Addr.add A189 3) = some (.slice a193 n194 c195) ∧ za B h1160 (Addr.add A198 (Int.toNat (i134) * 23)) 0 l203 ∧ za B h1160 ⟨k147, 0, none⟩ 0 [(.string s205), (.string s206), (.string s207)] ∧ cellH B h1160 (Addr.add A210 2) = some (.slice a214 n215 c216) ∧ za B h1160 ⟨k95, 1, none⟩ 0 [(.int .i64 (i219)), (.int .i64 (i220)), (.int .i64 (i221)), (.int .u8 (i222))] ∧ yS B a4 n5 c6 p13 i81 m83 J86 k95 i113 i114 i134 k147 A189 a193 n194 c195 A198 l203 s205 s206 s207 A210 a214 n215 c216 i219 i220 i221 i222 k1114 a1154 n1155 c1156 a1157 n1158 c1159 h1160 Q) ?_ fun j1153 => ?_
          ·rintro e h1160 ⟨a1154, n1155, c1156, a1157, n1158, c1159, hag, g1161, g1162, g1163, g1164, g1165, s⟩
           refine RunT.env hag ?_; clear hag
           refine ⟨zo rfl (zX [(.slice a1154 n1155 c1156), (.slice a1157 n1158 c1159)] rfl (zB (fun v h1166 hv => ?_) s)), trivial⟩
           obtain ⟨a1167, n1168, c1169, rfl, s⟩ := hv
           obtain ⟨g1170, g1171, g1172, g1173, g1174, s⟩ := s
           refine ⟨fun _ => ⟨g1170, g1171, g1172, g1173, g1174, trivial⟩, ?_⟩
           refine ⟨zo rfl (zA [(.agg (List.toArray l203)), (.agg #[(.string s205), (.string s206), (.string s207)]), (.slice a1167 n1168 c1169)] (xN) rfl rfl (Spec.mono s fun v h1175 hv => ?_)), trivial⟩
           obtain ⟨i1176, l1177, rfl, s⟩ := hv
           obtain ⟨g1178, g1179, g1180, g1181, g1182, s⟩ := s
           refine ⟨fun _ => ⟨g1178, g1179, g1180, g1181, g1182, trivial⟩, ?_⟩
           refine auT 3 rfl ?_
           exact j874 _ _ ⟨⟨k1114, 0, none⟩, (i1176), l1177, ⟨rfl, rfl, rfl, rfl, rfl, rfl, rfl, rfl, rfl, rfl, trivial⟩, g1178, g1179, g1180, g1181, g1182, s⟩
          refine ⟨?_, ?_, trivial⟩
          ·have s := s.1
           refine zo rfl (zX [(.slice (some ⟨k885, 0, none⟩) 0 0), (.slice a214 n215 c216)] rfl (zB (fun v h1183 hv => ?_) s))
           obtain ⟨a1184, n1185, c1186, rfl, s⟩ := hv
           obtain ⟨g1187, g1188, g1189, g1190, g1191, s⟩ := s
           refine ⟨fun _ => ⟨g1187, g1188, g1189, g1190, g1191, trivial⟩, ?_⟩
           refine ⟨zo rfl (yh [(0, (.agg #[(.int .i64 (i219)), (.int .i64 (i220)), (.int .i64 (i221)), (.int .u8 (i222))]))] [(.int .i64 (i219)), (.int .i64 (i220)), (.int .i64 (i221)), (.int .u8 (i222))] xK x3 rfl (by decide) (by decide) rfl rfl (fun k1192 hb1 hb2 h1193 hb3 => ?_)), trivial⟩
           have s := s k1192 hb1 hb2 h1193 hb3
           obtain ⟨g1194, g1195, g1196, g1197, g1198, s⟩ := s
           refine ⟨fun _ => ⟨g1194, g1195, g1196, g1197, g1198, trivial⟩, ?_⟩
           exact j1153 _ _ ⟨a1184, n1185, c1186, (some ⟨k1192, 0, none⟩), 1, 1, ⟨rfl, rfl, rfl, rfl, rfl, rfl, rfl, rfl, rfl, rfl, rfl, rfl, trivial⟩, g1194, g1195, g1196, g1197, g1198, s⟩
          ·have s := s.2
           refine zo rfl (yh [(0, (.agg #[(.int .i64 (i219)), (.int .i64 (i220)), (.int .i64 (i221)), (.int .u8 (i222))]))] [(.int .i64 (i219)), (.int .i64 (i220)), (.int .i64 (i221)), (.int .u8 (i222))] xK x3 rfl (by decide) (by decide) rfl rfl (fun k1199 hb1 hb2 h1200 hb3 => ?_))
           have s := s k1199 hb1 hb2 h1200 hb3
           obtain ⟨g1201, g1202, g1203, g1204, g1205, s⟩ := s
           refine ⟨fun _ => ⟨g1201, g1202, g1203, g1204, g1205, trivial⟩, ?_⟩
           refine ⟨zo rfl (zX [(.slice (some ⟨k885, 0, none⟩) 0 0), (.slice a214 n215 c216)] rfl (zB (fun v h1206 hv => ?_) s)), trivial⟩
           obtain ⟨a1207, n1208, c1209, rfl, s⟩ := hv
           obtain ⟨g1210, g1211, g1212, g1213, g1214, s⟩ := s
           refine ⟨fun _ => ⟨g1210, g1211, g1212, g1213, g1214, trivial⟩, ?_⟩
           exact j1153 _ _ ⟨a1207, n1208, c1209, (some ⟨k1199, 0, none⟩), 1, 1, ⟨rfl, rfl, rfl, rfl, rfl, rfl, rfl, rfl, rfl, rfl, rfl, rfl, trivial⟩, g1210, g1211, g1212, g1213, g1214, s⟩
        ·have s := s.2.1
         refine zo rfl (yh [(0, (.agg #[(.int .i64 (i219)), (.int .i64 (i220)), (.int .i64 (i221)), (.int .u8 (i222))]))] [(.int .i64 (i219)), (.int .i64 (i220)), (.int .i64 (i221)), (.int .u8 (i222))] xK x3 rfl (by decide) (by decide) rfl rfl (fun k1215 hb1 hb2 h1216 hb3 => ?_))
         have s := s k1215 hb1 hb2 h1216 hb3
         obtain ⟨g1217, g1218, g1219, g1220, g1221, s⟩ := s
         refine ⟨fun _ => ⟨g1217, g1218, g1219, g1220, g1221, trivial⟩, ?_⟩
         refine ⟨?_, ?_, trivial⟩
         ·have s := s.1
          refine zo rfl (ZB xK (fun k1222 hb1 hb2 h1223 hb3 => ?_))
          have s := s k1222 hb1 hb2 h1223 hb3
          obtain ⟨g1224, g1225, g1226, g1227, g1228, s⟩ := s
          refine ⟨fun _ => ⟨g1224, g1225, g1226, g1227, g1228, trivial⟩, ?_⟩
          refine ⟨?_, ?_, trivial⟩
          ·have s := s.1
           refine zo rfl (zX [(.slice (some ⟨k1222, 0, none⟩) 0 0), (.slice a214 n215 c216)] rfl (zB (fun v h1229 hv => ?_) s))
           obtain ⟨a1230, n1231, c1232, rfl, s⟩ := hv
           obtain ⟨g1233, g1234, g1235, g1236, g1237, s⟩ := s
           refine ⟨fun _ => ⟨g1233, g1234, g1235, g1236, g1237, trivial⟩, ?_⟩
           refine ⟨?_, ?_, trivial⟩
           ·have s := s.1
            refine zo rfl (zX [(.slice a1230 n1231 c1232), (.slice (some ⟨k1215, 0, none⟩) 1 1)] rfl (zB (fun v h1238 hv => ?_) s))
            obtain ⟨a1239, n1240, c1241, rfl, s⟩ := hv
            obtain ⟨g1242, g1243, g1244, g1245, g1246, s⟩ := s
            refine ⟨fun _ => ⟨g1242, g1243, g1244, g1245, g1246, trivial⟩, ?_⟩
            refine ⟨?_, ?_, trivial⟩
            ·have s := s.1
             refine zo rfl (zA [(.agg (List.toArray l203)), (.agg #[(.string s205), (.string s206), (.string s207)]), (.slice a1239 n1240 c1241)] (xN) rfl rfl (Spec.mono s fun v h1247 hv => ?_))
             obtain ⟨i1248, l1249, rfl, s⟩ := hv
             obtain ⟨g1250, g1251, g1252, g1253, g1254, s⟩ := s
             refine ⟨fun _ => ⟨g1250, g1251, g1252, g1253, g1254, trivial⟩, ?_⟩
             refine auT 3 rfl ?_
             refine ⟨zo rfl (y6 [(.int .i64 (0)), (.int .i64 (0)), (.int .i64 (0)), (.int .i64 (0)), (.int .i64 (0)), (.int .i64 (0)), (.int .i64 (0)), (.int .i64 (0)), (.bool false), (.string ByteArray.empty), (.bool false), (.string ByteArray.empty), (.bool false), (.string ByteArray.empty), (.bool false), (.string ByteArray.empty), (.bool false), (.string ByteArray.empty), (.bool false), (.string ByteArray.empty), (.int .i64 (0)), (.int .i64 (0)), (.int .i64 (0))] yF (fun k1255 hb1 hb2 h1256 hb3 => ?_)), trivial⟩
             have s := s k1255 hb1 hb2 h1256 hb3
             obtain ⟨g1257, g1258, g1259, g1260, g1261, s⟩ := s
             refine ⟨fun _ => ⟨g1257, g1258, g1259, g1260, g1261, trivial⟩, ?_⟩
             exact j874 _ _ ⟨⟨k1255, 0, none⟩, (i1248), l1249, ⟨rfl, rfl, rfl, rfl, rfl, rfl, rfl, rfl, rfl, rfl, trivial⟩, g1257, g1258, g1259, g1260, g1261, s⟩
            ·have s := s.2
             refine zo rfl (y6 [(.int .i64 (0)), (.int .i64 (0)), (.int .i64 (0)), (.int .i64 (0)), (.int .i64 (0)), (.int .i64 (0)), (.int .i64 (0)), (.int .i64 (0)), (.bool false), (.string ByteArray.empty), (.bool false), (.string ByteArray.empty), (.bool false), (.string ByteArray.empty), (.bool false), (.string ByteArray.empty), (.bool false), (.string ByteArray.empty), (.bool false), (.string ByteArray.empty), (.int .i64 (0)), (.int .i64 (0)), (.int .i64 (0))] yF (fun k1262 hb1 hb2 h1263 hb3 => ?_))
             have s := s k1262 hb1 hb2 h1263 hb3
             obtain ⟨g1264, g1265, g1266, g1267, g1268, s⟩ := s
             refine ⟨fun _ => ⟨g1264, g1265, g1266, g1267, g1268, trivial⟩, ?_⟩
             refine ⟨zo rfl (zA [(.agg (List.toArray l203)), (.agg #[(.string s205), (.string s206), (.string s207)]), (.slice a1239 n1240 c1241)] (xN) rfl rfl (Spec.mono s fun v h1269 hv => ?_)), trivial⟩
             obtain ⟨i1270, l1271, rfl, s⟩ := hv
             obtain ⟨g1272, g1273, g1274, g1275, g1276, s⟩ := s
             refine ⟨fun _ => ⟨g1272, g1273, g1274, g1275, g1276, trivial⟩, ?_⟩
             refine auT 3 rfl ?_
             exact j874 _ _ ⟨⟨k1262, 0, none⟩, (i1270), l1271, ⟨rfl, rfl, rfl, rfl, rfl, rfl, rfl, rfl, rfl, rfl, trivial⟩, g1272, g1273, g1274, g1275, g1276, s⟩
           ·have s := s.2
            refine zo rfl (y6 [(.int .i64 (0)), (.int .i64 (0)), (.int .i64 (0)), (.int .i64 (0)), (.int .i64 (0)), (.int .i64 (0)), (.int .i64 (0)), (.int .i64 (0)), (.bool false), (.string ByteArray.empty), (.bool false), (.string ByteArray.empty), (.bool false), (.string ByteArray.empty), (.bool false), (.string ByteArray.empty), (.bool false), (.string ByteArray.empty), (.bool false), (.string ByteArray.empty), (.int .i64 (0)), (.int .i64 (0)), (.int .i64 (0))] yF (fun k1277 hb1 hb2 h1278 hb3 => ?_))
            have s := s k1277 hb1 hb2 h1278 hb3
            obtain ⟨g1279, g1280, g1281, g1282, g1283, s⟩ := s
            refine ⟨fun _ => ⟨g1279, g1280, g1281, g1282, g1283, trivial⟩, ?_⟩
            refine ⟨zo rfl (zX [(.slice a1230 n1231 c1232), (.slice (some ⟨k1215, 0, none⟩) 1 1)] rfl (zB (fun v h1284 hv => ?_) s)), trivial⟩
            obtain ⟨a1285, n1286, c1287, rfl, s⟩ := hv
            obtain ⟨g1288, g1289, g1290, g1291, g1292, s⟩ := s
            refine ⟨fun _ => ⟨g1288, g1289, g1290, g1291, g1292, trivial⟩, ?_⟩
            refine ⟨zo rfl (zA [(.agg (List.toArray l203)), (.agg #[(.string s205), (.string s206), (.string s207)]), (.slice a1285 n1286 c1287)] (xN) rfl rfl (Spec.mono s fun v h1293 hv => ?_)), trivial⟩
            obtain ⟨i1294, l1295, rfl, s⟩ := hv
            obtain ⟨g1296, g1297, g1298, g1299, g1300, s⟩ := s
            refine ⟨fun _ => ⟨g1296, g1297, g1298, g1299, g1300, trivial⟩, ?_⟩
            refine auT 3 rfl ?_
            exact j874 _ _ ⟨⟨k1277, 0, none⟩, (i1294), l1295, ⟨rfl, rfl, rfl, rfl, rfl, rfl, rfl, rfl, rfl, rfl, trivial⟩, g1296, g1297, g1298, g1299, g1300, s⟩
          ·have s := s.2
           refine zo rfl (y6 [(.int .i64 (0)), (.int .i64 (0)), (.int .i64 (0)), (.int .i64 (0)), (.int .i64 (0)), (.int .i64 (0)), (.int .i64 (0)), (.int .i64 (0)), (.bool false), (.string ByteArray.empty), (.bool false), (.string ByteArray.empty), (.bool false), (.string ByteArray.empty), (.bool false), (.string ByteArray.empty), (.bool false), (.string ByteArray.empty), (.bool false), (.string ByteArray.empty), (.int .i64 (0)), (.int .i64 (0)), (.int .i64 (0))] yF (fun k1301 hb1 hb2 h1302 hb3 => ?_))
           have s := s k1301 hb1 hb2 h1302 hb3
           obtain ⟨g1303, g1304, g1305, g1306, g1307, s⟩ := s
           refine ⟨fun _ => ⟨g1303, g1304, g1305, g1306, g1307, trivial⟩, ?_⟩
           refine ⟨zo rfl (zX [(.slice (some ⟨k1222, 0, none⟩) 0 0), (.slice a214 n215 c216)] rfl (zB (fun v h1308 hv => ?_) s)), trivial⟩
           obtain ⟨a1309, n1310, c1311, rfl, s⟩ := hv
           obtain ⟨g1312, g1313, g1314, g1315, g1316, s⟩ := s
           refine ⟨fun _ => ⟨g1312, g1313, g1314, g1315, g1316, trivial⟩, ?_⟩
           refine ⟨zo rfl (zX [(.slice a1309 n1310 c1311), (.slice (some ⟨k1215, 0, none⟩) 1 1)] rfl (zB (fun v h1317 hv => ?_) s)), trivial⟩
           obtain ⟨a1318, n1319, c1320, rfl, s⟩ := hv
           obtain ⟨g1321, g1322, g1323, g1324, g1325, s⟩ := s
           refine ⟨fun _ => ⟨g1321, g1322, g1323, g1324, g1325, trivial⟩, ?_⟩
           refine ⟨zo rfl (zA [(.agg (List.toArray l203)), (.agg #[(.string s205), (.string s206), (.string s207)]), (.slice a1318 n1319 c1320)] (xN) rfl rfl (Spec.mono s fun v h1326 hv => ?_)), trivial⟩
           obtain ⟨i1327, l1328, rfl, s⟩ := hv
           obtain ⟨g1329, g1330, g1331, g1332, g1333, s⟩ := s
           refine ⟨fun _ => ⟨g1329, g1330, g1331, g1332, g1333, trivial⟩, ?_⟩
           refine auT 3 rfl ?_
           exact j874 _ _ ⟨⟨k1301, 0, none⟩, (i1327), l1328, ⟨rfl, rfl, rfl, rfl, rfl, rfl, rfl, rfl, rfl, rfl, trivial⟩, g1329, g1330, g1331, g1332, g1333, s⟩
         ·have s := s.2
          refine zo rfl (y6 [(.int .i64 (0)), (.int .i64 (0)), (.int .i64 (0)), (.int .i64 (0)), (.int .i64 (0)), (.int .i64 (0)), (.int .i64 (0)), (.int .i64 (0)), (.bool false), (.string ByteArray.empty), (.bool false), (.string ByteArray.empty), (.bool false), (.string ByteArray.empty), (.bool false), (.string ByteArray.empty), (.bool false), (.string ByteArray.empty), (.bool false), (.string ByteArray.empty), (.int .i64 (0)), (.int .i64 (0)), (.int .i64 (0))] yF (fun k1334 hb1 hb2 h1335 hb3 => ?_))
          have s := s k1334 hb1 hb2 h1335 hb3
          obtain ⟨g1336, g1337, g1338, g1339, g1340, s⟩ := s
          refine ⟨fun _ => ⟨g1336, g1337, g1338, g1339, g1340, trivial⟩, ?_⟩
          refine ⟨zo rfl (ZB xK (fun k1341 hb1 hb2 h1342 hb3 => ?_)), trivial⟩
          have s := s k1341 hb1 hb2 h1342 hb3
          obtain ⟨g1343, g1344, g1345, g1346, g1347, s⟩ := s
          refine ⟨fun _ => ⟨g1343, g1344, g1345, g1346, g1347, trivial⟩, ?_⟩
          refine ⟨zo rfl (zX [(.slice (some ⟨k1341, 0, none⟩) 0 0), (.slice a214 n215 c216)] rfl (zB (fun v h1348 hv => ?_) s)), trivial⟩
          obtain ⟨a1349, n1350, c1351, rfl, s⟩ := hv
          obtain ⟨g1352, g1353, g1354, g1355, g1356, s⟩ := s
          refine ⟨fun _ => ⟨g1352, g1353, g1354, g1355, g1356, trivial⟩, ?_⟩
          refine ⟨zo rfl (zX [(.slice a1349 n1350 c1351), (.slice (some ⟨k1215, 0, none⟩) 1 1)] rfl (zB (fun v h1357 hv => ?_) s)), trivial⟩
          obtain ⟨a1358, n1359, c1360, rfl, s⟩ := hv
          obtain ⟨g1361, g1362, g1363, g1364, g1365, s⟩ := s
          refine ⟨fun _ => ⟨g1361, g1362, g1363, g1364, g1365, trivial⟩, ?_⟩
          refine ⟨zo rfl (zA [(.agg (List.toArray l203)), (.agg #[(.string s205), (.string s206), (.string s207)]), (.slice a1358 n1359 c1360)] (xN) rfl rfl (Spec.mono s fun v h1366 hv => ?_)), trivial⟩
          obtain ⟨i1367, l1368, rfl, s⟩ := hv
          obtain ⟨g1369, g1370, g1371, g1372, g1373, s⟩ := s
          refine ⟨fun _ => ⟨g1369, g1370, g1371, g1372, g1373, trivial⟩, ?_⟩
          refine auT 3 rfl ?_
          exact j874 _ _ ⟨⟨k1334, 0, none⟩, (i1367), l1368, ⟨rfl, rfl, rfl, rfl, rfl, rfl, rfl, rfl, rfl, rfl, trivial⟩, g1369, g1370, g1371, g1372, g1373, s⟩
        ·have s := s.2.2
         refine zo rfl (y6 [(.int .i64 (0)), (.int .i64 (0)), (.int .i64 (0)), (.int .i64 (0)), (.int .i64 (0)), (.int .i64 (0)), (.int .i64 (0)), (.int .i64 (0)), (.bool false), (.string ByteArray.empty), (.bool false), (.string ByteArray.empty), (.bool false), (.string ByteArray.empty), (.bool false), (.string ByteArray.empty), (.bool false), (.string ByteArray.empty), (.bool false), (.string ByteArray.empty), (.int .i64 (0)), (.int .i64 (0)), (.int .i64 (0))] yF (fun k1374 hb1 hb2 h1375 hb3 => ?_))
         have s := s k1374 hb1 hb2 h1375 hb3
         obtain ⟨g1376, g1377, g1378, g1379, g1380, s⟩ := s
         refine ⟨fun _ => ⟨g1376, g1377, g1378, g1379, g1380, trivial⟩, ?_⟩
         refine RunT.joinJ (t := (.x 17 (.x 18 (.q 19 (.q 20 (.q 21 (.q 23 (.x 24 .nil .no))))) .no) .no)) (fun e h1450 => ∃ a1444 : Option Addr, ∃ n1445 : Nat, ∃ c1446 : Nat, ∃ a1447 : Option Addr, ∃ n1448 : Nat, ∃ c1449 : Nat, Agree [(5, (.pointer p13)), (7, (.pointer (some ⟨k95, 0, none⟩))), (8, (.int .i64 (i113))), (9, (.int .i64 (i114))), (14, (.pointer (some ⟨k1374, 0, none⟩))), (37, (.slice a4 n5 c6)), (38, (.int .i64 ((n5 : Nat)))), (39, (.int .i64 (i81))), (103, (.agg (List.toArray l203))), (104, (.agg #[(.string s205), (.string s206), (.string s207)])), (110, (.slice a1444 n1445 c1446)), (113, (.slice a1447 n1448 c1449))] e ∧ cellH B h1450 (Addr.add A189 3) = some (.slice a193 n194 c195) ∧ za B h1450 (Addr.add A198 (Int.toNat (i134) * 23)) 0 l203 ∧ za B h1450 ⟨k147, 0, none⟩ 0 [(.string s205), (.string s206), (.string s207)] ∧ cellH B h1450 (Addr.add A210 2) = some (.slice a214 n215 c216) ∧ za B h1450 ⟨k95, 1, none⟩ 0 [(.int .i64 (i219)), (.int .i64 (i220)), (.int .i64 (i221)), (.int .u8 (i222))] ∧ yC B a4 n5 c6 p13 i81 m83 J86 k95 i113 i114 i134 k147 A189 a193 n194 c195 A198 l203 s205 s206 s207 A210 a214 n215 c216 i219 i220 i221 i222 k1374 a1444 n1445 c1446 a1447 n1448 c1449 h1450 Q) ?_ fun j1443 => ?_
         ·rintro e h1450 ⟨a1444, n1445, c1446, a1447, n1448, c1449, hag, g1451, g1452, g1453, g1454, g1455, s⟩
          refine RunT.env hag ?_; clear hag
          refine ⟨zo rfl (zX [(.slice a1444 n1445 c1446), (.slice a1447 n1448 c1449)] rfl (zB (fun v h1456 hv => ?_) s)), trivial⟩
          obtain ⟨a1457, n1458, c1459, rfl, s⟩ := hv
          obtain ⟨g1460, g1461, g1462, g1463, g1464, s⟩ := s
          refine ⟨fun _ => ⟨g1460, g1461, g1462, g1463, g1464, trivial⟩, ?_⟩
          refine ⟨zo rfl (zA [(.agg (List.toArray l203)), (.agg #[(.string s205), (.string s206), (.string s207)]), (.slice a1457 n1458 c1459)] (xN) rfl rfl (Spec.mono s fun v h1465 hv => ?_)), trivial⟩
          obtain ⟨i1466, l1467, rfl, s⟩ := hv
          obtain ⟨g1468, g1469, g1470, g1471, g1472, s⟩ := s
          refine ⟨fun _ => ⟨g1468, g1469, g1470, g1471, g1472, trivial⟩, ?_⟩
          refine auT 3 rfl ?_
          exact j874 _ _ ⟨⟨k1374, 0, none⟩, (i1466), l1467, ⟨rfl, rfl, rfl, rfl, rfl, rfl, rfl, rfl, rfl, rfl, trivial⟩, g1468, g1469, g1470, g1471, g1472, s⟩
         refine ⟨?_, ?_, trivial⟩
         ·have s := s.1
          refine zo rfl (ZB xK (fun k1473 hb1 hb2 h1474 hb3 => ?_))
          have s := s k1473 hb1 hb2 h1474 hb3
          obtain ⟨g1475, g1476, g1477, g1478, g1479, s⟩ := s
          refine ⟨fun _ => ⟨g1475, g1476, g1477, g1478, g1479, trivial⟩, ?_⟩
          refine ⟨?_, ?_, trivial⟩
          ·have s := s.1
           refine zo rfl (zX [(.slice (some ⟨k1473, 0, none⟩) 0 0), (.slice a214 n215 c216)] rfl (zB (fun v h1480 hv => ?_) s))
           obtain ⟨a1481, n1482, c1483, rfl, s⟩ := hv
           obtain ⟨g1484, g1485, g1486, g1487, g1488, s⟩ := s
           refine ⟨fun _ => ⟨g1484, g1485, g1486, g1487, g1488, trivial⟩, ?_⟩
           refine ⟨zo rfl (yh [(0, (.agg #[(.int .i64 (i219)), (.int .i64 (i220)), (.int .i64 (i221)), (.int .u8 (i222))]))] [(.int .i64 (i219)), (.int .i64 (i220)), (.int .i64 (i221)), (.int .u8 (i222))] xK x3 rfl (by decide) (by decide) rfl rfl (fun k1489 hb1 hb2 h1490 hb3 => ?_)), trivial⟩
           have s := s k1489 hb1 hb2 h1490 hb3
           obtain ⟨g1491, g1492, g1493, g1494, g1495, s⟩ := s
           refine ⟨fun _ => ⟨g1491, g1492, g1493, g1494, g1495, trivial⟩, ?_⟩
           exact j1443 _ _ ⟨a1481, n1482, c1483, (some ⟨k1489, 0, none⟩), 1, 1, ⟨rfl, rfl, rfl, rfl, rfl, rfl, rfl, rfl, rfl, rfl, rfl, rfl, trivial⟩, g1491, g1492, g1493, g1494, g1495, s⟩
          ·have s := s.2
           refine zo rfl (yh [(0, (.agg #[(.int .i64 (i219)), (.int .i64 (i220)), (.int .i64 (i221)), (.int .u8 (i222))]))] [(.int .i64 (i219)), (.int .i64 (i220)), (.int .i64 (i221)), (.int .u8 (i222))] xK x3 rfl (by decide) (by decide) rfl rfl (fun k1496 hb1 hb2 h1497 hb3 => ?_))
           have s := s k1496 hb1 hb2 h1497 hb3
           obtain ⟨g1498, g1499, g1500, g1501, g1502, s⟩ := s
           refine ⟨fun _ => ⟨g1498, g1499, g1500, g1501, g1502, trivial⟩, ?_⟩
           refine ⟨zo rfl (zX [(.slice (some ⟨k1473, 0, none⟩) 0 0), (.slice a214 n215 c216)] rfl (zB (fun v h1503 hv => ?_) s)), trivial⟩
           obtain ⟨a1504, n1505, c1506, rfl, s⟩ := hv
           obtain ⟨g1507, g1508, g1509, g1510, g1511, s⟩ := s
           refine ⟨fun _ => ⟨g1507, g1508, g1509, g1510, g1511, trivial⟩, ?_⟩
           exact j1443 _ _ ⟨a1504, n1505, c1506, (some ⟨k1496, 0, none⟩), 1, 1, ⟨rfl, rfl, rfl, rfl, rfl, rfl, rfl, rfl, rfl, rfl, rfl, rfl, trivial⟩, g1507, g1508, g1509, g1510, g1511, s⟩
         ·have s := s.2
          refine zo rfl (yh [(0, (.agg #[(.int .i64 (i219)), (.int .i64 (i220)), (.int .i64 (i221)), (.int .u8 (i222))]))] [(.int .i64 (i219)), (.int .i64 (i220)), (.int .i64 (i221)), (.int .u8 (i222))] xK x3 rfl (by decide) (by decide) rfl rfl (fun k1512 hb1 hb2 h1513 hb3 => ?_))
          have s := s k1512 hb1 hb2 h1513 hb3
          obtain ⟨g1514, g1515, g1516, g1517, g1518, s⟩ := s
          refine ⟨fun _ => ⟨g1514, g1515, g1516, g1517, g1518, trivial⟩, ?_⟩
          refine ⟨zo rfl (ZB xK (fun k1519 hb1 hb2 h1520 hb3 => ?_)), trivial⟩
          have s := s k1519 hb1 hb2 h1520 hb3
          obtain ⟨g1521, g1522, g1523, g1524, g1525, s⟩ := s
          refine ⟨fun _ => ⟨g1521, g1522, g1523, g1524, g1525, trivial⟩, ?_⟩
          refine ⟨zo rfl (zX [(.slice (some ⟨k1519, 0, none⟩) 0 0), (.slice a214 n215 c216)] rfl (zB (fun v h1526 hv => ?_) s)), trivial⟩
          obtain ⟨a1527, n1528, c1529, rfl, s⟩ := hv
          obtain ⟨g1530, g1531, g1532, g1533, g1534, s⟩ := s
          refine ⟨fun _ => ⟨g1530, g1531, g1532, g1533, g1534, trivial⟩, ?_⟩
          exact j1443 _ _ ⟨a1527, n1528, c1529, (some ⟨k1512, 0, none⟩), 1, 1, ⟨rfl, rfl, rfl, rfl, rfl, rfl, rfl, rfl, rfl, rfl, rfl, rfl, trivial⟩, g1530, g1531, g1532, g1533, g1534, s⟩
       refine au 3 rfl ?_
       refine zt s rfl rfl rfl zG zF (fun s => ?_) fun s => ?_
       ·refine au 15 rfl ?_
        exact zr (s.imp fun _ q => ⟨_, rfl, q⟩)
       ·refine au 3 rfl ?_
        refine znil s rfl rfl fun A1535 s => ?_
        refine au 1 rfl ?_
        refine Run.ldSl s fun a1537 n1538 c1539 h1540 hl s => ?_
        refine zg rfl (zh (Addr.add A1535 3) ((.slice a1537 n1538 c1539)) rfl V6 hl ?_)
        refine zg rfl (y9 a1537 n1538 c1539 rfl zko ?_)
        refine zt s rfl rfl rfl yP yO (fun s => ?_) fun s => ?_
        ·refine au 7 rfl ?_
         exact zr (s.imp fun _ q => ⟨_, rfl, q⟩)
        ·refine au 4 rfl ?_
         exact Run.of_fin (s.imp fun h' s => j135 _ _ ⟨⟨rfl, rfl, rfl, rfl, rfl, rfl, rfl, rfl, trivial⟩, s⟩)
    ·refine au 5 rfl ?_
     refine zt s rfl rfl rfl zU zT (fun s => ?_) fun s => ?_
     ·refine au 6 rfl ?_
      obtain ⟨i1541, i1542, i1543, i1544, hl, s⟩ := s
      refine zn hl rfl rfl ZV Zy rfl ?_
      refine zcall s rfl rfl zda ?_
      rintro _ h1545 ⟨rfl, s⟩
      refine au 7 rfl ?_
      exact Run.of_fin (s.imp fun h' ⟨m', hm, s⟩ => ih85 ((IntKind.wrap .i64 ((i81) + (1))), m') _ _ ⟨s, ⟨rfl, rfl, rfl, rfl, trivial⟩⟩ hm)
     ·refine au 5 rfl ?_
      refine zt s rfl rfl rfl zU zT (fun s => ?_) fun s => ?_
      ·refine au 3 rfl ?_
       refine Run.drawM (fun h' => h' = h97) [12] ⟨[0, 1, 2, 4, 8, 16, 32, 0, 128, 256, 0, 1024, 2624], [8191, 8190, 8189, 8187, 8183, 8175, 8159, 8191, 8063, 7935, 8191, 7167, 5567], [0, 1, 3, 7, 15, 31, 63, 0, 128, 384, 0, 1024, 4095], 4096⟩ (.q 0 (.q 1 (.q 2 (.q 3 (.q 4 (.q 5 (.q 6 (.q 7 (.q 8 (.q 9 (.q 10 (.q 11 (.x 12 .nil .no))))))))))))) zR (by kernel_rfl) rfl ?_
       refine auT 1 rfl ?_
       obtain ⟨A1546, e1547, s⟩ := s
       refine zqe rfl (zp A1546 (congrArg Value.pointer e1547) ⟨rfl, rfl⟩) ?_
       refine auT 1 rfl ?_
       obtain ⟨p1548, hl, s⟩ := s
       refine zqe rfl (zh A1546 ((.pointer p1548)) rfl yE hl ⟨rfl, rfl⟩) ?_
       obtain ⟨A1549, e1550, s⟩ := s
       refine zqe rfl (zp A1549 (congrArg Value.pointer e1550) ⟨rfl, rfl⟩) ?_
       refine auT 1 rfl ?_
       obtain ⟨p1551, hl, s⟩ := s
       refine zqe rfl (zh (Addr.add A1549 2) ((.pointer p1551)) rfl Yy hl ⟨rfl, rfl⟩) ?_
       refine auT 2 rfl ?_
       obtain ⟨i1552, hl, s⟩ := s
       refine zqe rfl (zh ⟨k95, 2, none⟩ ((.int .i64 (i1552))) rfl zx hl ⟨rfl, rfl⟩) ?_
       refine auT 1 rfl ?_
       obtain ⟨s1553, hl, s⟩ := s
       refine zqe rfl (zh ⟨k95, 5, none⟩ ((.string s1553)) rfl yV hl ⟨rfl, rfl⟩) ?_
       refine ⟨zo rfl (zA [(.pointer p1551), (.int .i64 (i1552)), (.string s1553)] (zhC) rfl rfl (Spec.mono s fun v h1554 hv => ?_)), trivial⟩
       obtain ⟨i1555, rfl, s⟩ := hv
       refine ⟨fun hz => Bool.noConfusion hz, ?_⟩
       refine au 6 rfl ?_
       exact Run.of_fin (s.imp fun h' ⟨m', hm, s⟩ => ih85 ((IntKind.wrap .i64 ((i81) + (1))), m') _ _ ⟨s, ⟨rfl, rfl, rfl, rfl, trivial⟩⟩ hm)
      ·refine au 10 rfl ?_
       exact Run.of_fin (s.imp fun h' ⟨m', hm, s⟩ => ih85 ((IntKind.wrap .i64 ((i81) + (1))), m') _ _ ⟨s, ⟨rfl, rfl, rfl, rfl, trivial⟩⟩ hm)
   ·refine au 4 rfl ?_
    exact Run.of_fin (s.imp fun h' s => j14 _ _ ⟨trivial, s⟩)
  refine au 3 rfl ?_
  refine zcall s rfl rfl zhB ?_
  rintro _ h1556 ⟨b1557, rfl, s⟩
  cases b1557
  ·replace s := s.2 rfl
   refine au 2 rfl ?_
   refine zg rfl (y9 a1 n2 c3 rfl zcE ?_)
   refine zt s rfl rfl rfl xk xj (fun s => ?_) fun s => ?_
   ·refine au 7 rfl ?_
    exact zr (s.imp fun _ q => ⟨_, rfl, q⟩)
   ·refine au 4 rfl ?_
    exact Run.of_fin (s.imp fun h' s => j10 _ _ ⟨⟨rfl, rfl, trivial⟩, s⟩)
  ·replace s := s.1 rfl
   refine au 11 rfl ?_
   exact zr (s.imp fun _ q => ⟨_, rfl, q⟩)
theorem wb.of {B : RO} {h : Heap} {Q : Bool → Heap → Prop} (s : YY B h Q) : wb B h Q := by
 refine zspec Tryz.func9 [ResultVar.tmp 0] rfl rfl rfl rfl rfl ?_
 refine au 6 rfl ?_
 refine zcall s rfl rfl za1 ?_
 rintro _ h2 ⟨p3, rfl, s⟩
 refine au 5 rfl ?_
 refine zg rfl (Zh [] [(.int .i64 (0)), (.int .i64 (0)), (.int .i64 (0)), (.int .i64 (0))] ZX Y5 rfl rfl ?_)
 refine zcall s rfl rfl Vj ?_
 rintro _ h4 ⟨p5, rfl, s⟩
 refine au 1 rfl ?_
 refine zg rfl (Zh [] [(.int .i64 (0)), (.int .i64 (0)), (.int .i64 (0)), (.int .i64 (0))] ZX Y5 rfl rfl ?_)
 refine zcall s rfl rfl Vj ?_
 rintro _ h6 ⟨p7, rfl, s⟩
 refine au 7 rfl ?_
 refine zcall s rfl rfl zdb ?_
 rintro _ h8 ⟨i9, rfl, s⟩
 refine zu s rfl rfl rfl wj wi (fun s => ?_) fun s => ?_
 ·refine au 6 rfl ?_
  refine zcall s rfl rfl zaW ?_
  rintro _ h10 ⟨i11, i12, rfl, s⟩
  refine au 9 rfl ?_
  refine zcall s rfl rfl zaW ?_
  rintro _ h13 ⟨i14, i15, rfl, s⟩
  refine au 9 rfl ?_
  refine zt s rfl rfl rfl zU zT (fun s => ?_) fun s => ?_
  ·refine au 2 rfl ?_
   refine zt s rfl rfl rfl zU zT (fun s => ?_) fun s => ?_
   ·refine au 3 rfl ?_
    refine zcall s rfl rfl zaY ?_
    rintro _ h16 ⟨b17, rfl, s⟩
    cases b17
    ·replace s := s.2 rfl
     refine au 10 rfl ?_
     exact zr (s.imp fun _ q => ⟨_, rfl, q⟩)
    ·replace s := s.1 rfl
     refine au 3 rfl ?_
     refine znil s rfl rfl fun A18 s => ?_
     refine au 1 rfl ?_
     refine zl s rfl rfl zx fun i20 s => ?_
     refine au 4 rfl ?_
     exact zr (s.imp fun _ q => ⟨_, rfl, q⟩)
   ·refine au 14 rfl ?_
    exact zr (s.imp fun _ q => ⟨_, rfl, q⟩)
  ·refine au 17 rfl ?_
   exact zr (s.imp fun _ q => ⟨_, rfl, q⟩)
 ·refine au 6 rfl ?_
  exact zr (s.imp fun _ q => ⟨_, rfl, q⟩)
theorem wd.of {B : RO} {a1 : Option Addr} {n2 : Nat} {c3 : Nat} {i4 : Int} {i5 : Int} {i6 : Int} {i7 : Int} {h : Heap} {Q : Option Addr → Heap → Prop} (s : Y0 B a1 n2 c3 i4 i5 i6 i7 h Q) : wd B a1 n2 c3 i4 i5 i6 i7 h Q := by
 refine zspec Tryz.func10 [ResultVar.tmp 4] rfl rfl rfl rfl rfl ?_
 refine au 2 rfl ?_
 refine zbn s rfl rfl rfl fun k9 h10 s => ?_
 refine au 4 rfl ?_
 refine zcall s rfl rfl za1 ?_
 rintro _ h11 ⟨p12, rfl, s⟩
 refine zg rfl (zH [(0, (.pointer p12))] [(.pointer p12), (.pointer none), (.slice none 0 0), (.slice none 0 0)] ziw zfo rfl rfl ?_)
 refine zbn s rfl rfl rfl fun k13 h14 s => ?_
 refine au 7 rfl ?_
 refine zl s rfl rfl yE fun p15 s => ?_
 refine zcall s rfl rfl zaZ ?_
 rintro _ h16 ⟨l17, s18, s19, s20, rfl, s⟩
 refine au 3 rfl ?_
 refine zal s rfl yF rfl fun k21 h22 s => ?_
 refine zal s rfl Wq rfl fun k23 h24 s => ?_
 obtain ⟨hln, h25, hst, s⟩ := s
 refine zg0 rfl (y7 ⟨k21, 0, none⟩ l17 h25 rfl rfl (vo.trans (congrArg some hln.symm)) hst ?_)
 refine zsn s rfl rfl rfl XL rfl fun h26 s => ?_
 refine au 2 rfl ?_
 obtain ⟨a31, n32, c33, hl, s⟩ := s
 have f34 := hl
 obtain ⟨l35, nl35, hl, s⟩ := s
 have f36 := hl
 refine Run.drawM (fun h' => cellH B h' ⟨k13, 3, none⟩ = some (.slice a31 n32 c33) ∧ za B h' ⟨k21, 0, none⟩ 0 l35 ∧ True) [10] ⟨[0, 0, 2, 4, 8, 0, 32, 80, 255, 511, 767], [2047, 2047, 2045, 2043, 2039, 2047, 2015, 1967, 2046, 1791, 1407], [0, 0, 2, 6, 14, 0, 32, 126, 255, 511, 1023], 1024⟩ (.q 0 (.q 1 (.q 2 (.q 3 (.q 4 (.q 5 (.x 6 (.x 7 (.q 8 (.q 9 (.x 10 .nil .no))) .no) .no))))))) zR (by kernel_rfl) ⟨f34, f36, trivial⟩ ?_
 refine auT 4 rfl ?_
 refine zq rfl (fun _ hC => zh ⟨k13, 3, none⟩ ((.slice a31 n32 c33)) rfl V6 hC.1 ⟨rfl, rfl⟩) ?_
 refine zq rfl (fun _ hC => z0 ⟨k21, 0, none⟩ l35 rfl Y4 (vo.trans (congrArg some nl35.symm)) hC.2.1 ⟨rfl, rfl⟩) ?_
 refine ⟨zo rfl (zak l35 zbK yF rfl nl35 (by decide) (by decide) rfl (fun k37 hb1 hb2 h38 hb3 => ?_)), trivial⟩
 have s := s k37 hb1 hb2 h38 hb3
 obtain ⟨g39, g40, s⟩ := s
 refine ⟨fun _ => ⟨g39, g40, trivial⟩, ?_⟩
 refine ⟨zo rfl (zX [(.slice a31 n32 c33), (.slice (some ⟨k37, 0, none⟩) 1 1)] rfl (zB (fun v h41 hv => ?_) s)), trivial⟩
 obtain ⟨a42, n43, c44, rfl, s⟩ := hv
 obtain ⟨g45, g46, s⟩ := s
 refine ⟨fun _ => ⟨g45, g46, trivial⟩, ?_⟩
 refine auT 2 rfl ?_
 obtain ⟨h47, hst, s⟩ := s
 refine ⟨zo0 rfl (v8 ⟨k13, 3, none⟩ ((.slice a42 n43 c44)) h47 rfl rfl rfl zfq hst ?_), trivial⟩
 refine ⟨fun hz => Bool.noConfusion hz, ?_⟩
 refine Run.seqJ (fun e h49 => Agree [(3, (.pointer (some ⟨k9, 0, none⟩))), (5, (.pointer (some ⟨k13, 0, none⟩)))] e ∧ vF B k9 k13 h49 Q) ?_ fun j48 => ?_
 ·rintro e h49 ⟨hag, s⟩
  refine Run.env hag ?_; clear hag
  refine au 1 rfl ?_
  obtain ⟨p54, hl, s⟩ := s
  have f55 := hl
  obtain ⟨i56, i57, i58, i59, hl, s⟩ := s
  have f60 := hl
  refine Run.drawM (fun h' => cellH B h' ⟨k13, 0, none⟩ = some (.pointer p54) ∧ za B h' ⟨k9, 0, none⟩ 0 [(.int .i64 (i56)), (.int .i64 (i57)), (.int .i64 (i58)), (.int .i64 (i59))] ∧ True) [9] ⟨[0, 0, 2, 4, 8, 0, 48, 127, 255, 383], [1023, 1023, 1021, 1019, 1015, 1023, 975, 1022, 895, 703], [0, 0, 2, 6, 14, 0, 62, 127, 255, 511], 512⟩ (.q 0 (.q 1 (.q 2 (.q 3 (.q 4 (.q 5 (.x 6 (.q 7 (.q 8 (.x 9 .nil .no))) .no))))))) zR (by kernel_rfl) ⟨f55, f60, trivial⟩ ?_
  refine auT 4 rfl ?_
  refine zq rfl (fun _ hC => zh ⟨k13, 0, none⟩ ((.pointer p54)) rfl yE hC.1 ⟨rfl, rfl⟩) ?_
  refine zq rfl (fun _ hC => z0 ⟨k9, 0, none⟩ [(.int .i64 (i56)), (.int .i64 (i57)), (.int .i64 (i58)), (.int .i64 (i59))] rfl ZU Yb hC.2.1 ⟨rfl, rfl⟩) ?_
  refine ⟨zo rfl (zA [(.pointer p54), (.agg #[(.int .i64 (i56)), (.int .i64 (i57)), (.int .i64 (i58)), (.int .i64 (i59))])] (Vj) rfl rfl (Spec.mono s fun v h61 hv => ?_)), trivial⟩
  obtain ⟨p62, rfl, s⟩ := hv
  obtain ⟨g63, g64, s⟩ := s
  refine ⟨fun _ => ⟨g63, g64, trivial⟩, ?_⟩
  refine auT 2 rfl ?_
  obtain ⟨h65, hst, s⟩ := s
  refine ⟨zo0 rfl (v8 ⟨k13, 1, none⟩ ((.pointer p62)) h65 rfl rfl rfl zkq hst ?_), trivial⟩
  refine ⟨fun hz => Bool.noConfusion hz, ?_⟩
  refine au 5 rfl ?_
  exact zr (s.imp fun _ q => ⟨_, rfl, q⟩)
 refine au 3 rfl ?_
 refine zg rfl (y9 a1 n2 c3 rfl zcE ?_)
 refine au 3 rfl ?_
 obtain ⟨J71, m69, h0, s⟩ := s
 refine Run.of_fin (h0.imp fun h' h0 => ?_)
 refine Run.loop (σ := Int × Nat) (fun x e h => J71 x.1 x.2 h ∧ Agree [(3, (.pointer (some ⟨k9, 0, none⟩))), (5, (.pointer (some ⟨k13, 0, none⟩))), (31, (.slice a1 n2 c3)), (32, (.int .i64 ((n2 : Nat)))), (33, (.int .i64 (x.1)))] e) (fun x => x.2) ((0), m69) ⟨h0, ⟨rfl, rfl, rfl, rfl, rfl, trivial⟩⟩ ?_; clear h0
 rintro ⟨i66, m68⟩ e h67 ⟨hJ, hag⟩ ih70
 have s := s i66 m68 h67 hJ; clear hJ
 refine Run.env hag ?_; clear hag
 refine au 2 rfl ?_
 refine zt s rfl rfl rfl zG zF (fun s => ?_) fun s => ?_
 ·refine au 8 rfl ?_
  obtain ⟨A72, e73, hi0, hi1, s⟩ := s
  refine zg rfl (zZ A72 n2 c3 .i64 (i66) (congrArg (fun a => Value.slice a n2 c3) e73) rfl xK hi0 hi1 ?_)
  obtain ⟨i74, i75, i76, i77, hl, s⟩ := s
  refine zn hl rfl rfl ZV Zy rfl ?_
  refine zal s rfl x3 rfl fun k78 h79 s => ?_
  refine zsn s rfl rfl rfl Zy rfl fun h80 s => ?_
  refine au 3 rfl ?_
  obtain ⟨i81, i82, i83, i84, hl, s⟩ := s
  refine zn hl rfl rfl ZV Zy rfl ?_
  refine zcall s rfl rfl zda ?_
  rintro _ h85 ⟨rfl, s⟩
  refine au 6 rfl ?_
  exact Run.of_fin (s.imp fun h' ⟨m', hm, s⟩ => ih70 ((IntKind.wrap .i64 ((i66) + (1))), m') _ _ ⟨s, ⟨rfl, rfl, rfl, rfl, rfl, trivial⟩⟩ hm)
 ·refine au 4 rfl ?_
  exact Run.of_fin (s.imp fun h' s => j48 _ _ ⟨⟨rfl, rfl, trivial⟩, s⟩)
theorem yX.of {B : RO} {p1 : Option Addr} {i2 : Int} {h : Heap} {Q : Int → Int → Heap → Prop} (s : Z7 B p1 i2 h Q) : yX B p1 i2 h Q := by
 refine zspec Tryz.func11 [ResultVar.tmp 4, ResultVar.tmp 5] rfl rfl rfl rfl rfl ?_
 refine au 5 rfl ?_
 refine Run.seqJ (fun e h6 => Agree [(0, (.pointer p1)), (1, (.int .i64 (i2)))] e ∧ vV B p1 i2 h6 Q) ?_ fun j5 => ?_
 ·rintro e h6 ⟨hag, s⟩
  refine Run.env hag ?_; clear hag
  refine au 4 rfl ?_
  refine znil s rfl rfl fun A7 s => ?_
  refine au 2 rfl ?_
  refine zl s rfl rfl XX fun p9 s => ?_
  refine au 1 rfl ?_
  refine zcall s rfl rfl zhM ?_
  rintro _ h10 ⟨i11, b12, rfl, s⟩
  refine au 2 rfl ?_
  cases b12
  ·replace s := s.2 rfl
   refine au 1 rfl ?_
   refine au 14 rfl ?_
   refine zcall s rfl rfl za2 ?_
   rintro _ h13 ⟨i14, rfl, s⟩
   refine au 5 rfl ?_
   refine zu s rfl rfl rfl wj wi (fun s => ?_) fun s => ?_
   ·refine au 6 rfl ?_
    refine znil s rfl rfl fun A15 s => ?_
    refine au 1 rfl ?_
    refine zl s rfl rfl yE fun p17 s => ?_
    refine znil s rfl rfl fun A18 s => ?_
    refine au 1 rfl ?_
    refine zl s rfl rfl XV fun p20 s => ?_
    refine au 1 rfl ?_
    refine zcall s rfl rfl Vk ?_
    rintro _ h21 ⟨i22, i23, rfl, s⟩
    refine au 12 rfl ?_
    exact zr (s.imp fun _ q => ⟨_, _, rfl, q⟩)
   ·refine au 8 rfl ?_
    exact zr (s.imp fun _ q => ⟨_, _, rfl, q⟩)
  ·replace s := s.1 rfl
   refine au 1 rfl ?_
   refine au 14 rfl ?_
   exact zr (s.imp fun _ q => ⟨_, _, rfl, q⟩)
 refine au 4 rfl ?_
 by_cases hb24 : p1 = none
 ·replace s := s.1 hb24
  refine zg rfl (zK p1 (.inl rfl) true rfl rfl yn hb24 rfl ?_)
  refine au 8 rfl ?_
  exact zr (s.imp fun _ q => ⟨_, _, rfl, q⟩)
 ·replace s := s.2 hb24
  refine zg rfl (zJ p1 (.inl rfl) false rfl rfl yn hb24 rfl ?_)
  refine au 6 rfl ?_
  refine zt s rfl rfl rfl zG zF (fun s => ?_) fun s => ?_
  ·refine au 12 rfl ?_
   exact zr (s.imp fun _ q => ⟨_, _, rfl, q⟩)
  ·refine au 2 rfl ?_
   refine zt s rfl rfl rfl yP yO (fun s => ?_) fun s => ?_
   ·refine au 9 rfl ?_
    exact zr (s.imp fun _ q => ⟨_, _, rfl, q⟩)
   ·refine au 6 rfl ?_
    exact Run.of_fin (s.imp fun h' s => j5 _ _ ⟨⟨rfl, rfl, trivial⟩, s⟩)
theorem yK.of {B : RO} {p1 : Option Addr} {i2 : Int} {i3 : Int} {i4 : Int} {i5 : Int} {h : Heap} {Q : Heap → Prop} (s : Yl B p1 i2 i3 i4 i5 h Q) : yK B p1 i2 i3 i4 i5 h Q := by
 refine zspec Tryz.func12 [] rfl rfl rfl rfl rfl ?_
 refine au 2 rfl ?_
 refine zbn s rfl rfl rfl fun k6 h7 s => ?_
 refine au 4 rfl ?_
 refine znil s rfl rfl fun A8 s => ?_
 refine au 1 rfl ?_
 refine zl s rfl rfl yE fun p10 s => ?_
 refine zg rfl (Zh [] [(.int .i64 (0)), (.int .i64 (0)), (.int .i64 (0)), (.int .i64 (0))] ZX Y5 rfl rfl ?_)
 refine zcall s rfl rfl Vj ?_
 rintro _ h11 ⟨p12, rfl, s⟩
 refine au 5 rfl ?_
 obtain ⟨i13, i14, i15, i16, hl, s⟩ := s
 refine zn hl rfl rfl ZV Zy rfl ?_
 refine zcall s rfl rfl Vi ?_
 rintro _ h17 ⟨i18, i19, rfl, s⟩
 refine au 4 rfl ?_
 refine zcall s rfl rfl zaY ?_
 rintro _ h20 ⟨b21, rfl, s⟩
 refine au 4 rfl ?_
 refine znil s rfl rfl fun A22 s => ?_
 refine au 1 rfl ?_
 refine zl s rfl rfl yE fun p24 s => ?_
 refine zcall s rfl rfl zaZ ?_
 rintro _ h25 ⟨l26, s27, s28, s29, rfl, s⟩
 refine au 3 rfl ?_
 refine zal s rfl yF rfl fun k30 h31 s => ?_
 refine zal s rfl Wq rfl fun k32 h33 s => ?_
 obtain ⟨hln, h34, hst, s⟩ := s
 refine zg0 rfl (y7 ⟨k30, 0, none⟩ l26 h34 rfl rfl (vo.trans (congrArg some hln.symm)) hst ?_)
 refine zsn s rfl rfl rfl XL rfl fun h35 s => ?_
 refine au 1 rfl ?_
 obtain ⟨A38, e39, s⟩ := s
 obtain ⟨a42, n43, c44, hl, s⟩ := s
 have f45 := hl
 obtain ⟨l46, nl46, hl, s⟩ := s
 have f47 := hl
 refine Run.drawM (fun h' => cellH B h' (Addr.add A38 3) = some (.slice a42 n43 c44) ∧ za B h' ⟨k30, 0, none⟩ 0 l46 ∧ True) [10] ⟨[0, 0, 2, 4, 8, 0, 32, 80, 255, 511, 767], [2047, 2047, 2045, 2043, 2039, 2047, 2015, 1967, 2046, 1791, 1407], [0, 0, 2, 6, 14, 0, 32, 126, 255, 511, 1023], 1024⟩ (.q 0 (.q 1 (.q 2 (.q 3 (.q 4 (.q 5 (.x 6 (.x 7 (.q 8 (.q 9 (.x 10 .nil .no))) .no) .no))))))) zR (by kernel_rfl) ⟨f45, f47, trivial⟩ ?_
 refine auT 2 rfl ?_
 refine zq rfl (fun _ hC => zp A38 (congrArg Value.pointer e39) ⟨rfl, rfl⟩) ?_
 refine auT 1 rfl ?_
 refine zq rfl (fun _ hC => zh (Addr.add A38 3) ((.slice a42 n43 c44)) rfl V6 hC.1 ⟨rfl, rfl⟩) ?_
 refine zq rfl (fun _ hC => z0 ⟨k30, 0, none⟩ l46 rfl Y4 (vo.trans (congrArg some nl46.symm)) hC.2.1 ⟨rfl, rfl⟩) ?_
 refine ⟨zo rfl (zak l46 zbK yF rfl nl46 (by decide) (by decide) rfl (fun k48 hb1 hb2 h49 hb3 => ?_)), trivial⟩
 have s := s k48 hb1 hb2 h49 hb3
 obtain ⟨g50, g51, s⟩ := s
 refine ⟨fun _ => ⟨g50, g51, trivial⟩, ?_⟩
 refine ⟨zo rfl (zX [(.slice a42 n43 c44), (.slice (some ⟨k48, 0, none⟩) 1 1)] rfl (zB (fun v h52 hv => ?_) s)), trivial⟩
 obtain ⟨a53, n54, c55, rfl, s⟩ := hv
 obtain ⟨g56, g57, s⟩ := s
 refine ⟨fun _ => ⟨g56, g57, trivial⟩, ?_⟩
 obtain ⟨A58, e59, s⟩ := s
 refine zq rfl (fun _ _ => zp A58 (congrArg Value.pointer e59) ⟨rfl, rfl⟩) ?_
 refine auT 1 rfl ?_
 obtain ⟨h60, hst, s⟩ := s
 refine ⟨zo0 rfl (v8 (Addr.add A58 3) ((.slice a53 n54 c55)) h60 rfl rfl rfl zfq hst ?_), trivial⟩
 refine ⟨fun hz => Bool.noConfusion hz, ?_⟩
 exact zf (s.imp fun _ q => ⟨rfl, q⟩)
theorem yH.of {B : RO} {p1 : Option Addr} {h : Heap} {Q : Bool → Heap → Prop} (s : vh B p1 h Q) : yH B p1 h Q := by
 refine zspec Tryz.func13 [ResultVar.tmp 2] rfl rfl rfl rfl rfl ?_
 refine au 5 rfl ?_
 by_cases hb4 : p1 = none
 ·replace s := s.1 hb4
  refine Run.drawM (fun h' => True) [] ⟨[0, 1, 2, 4, 12, 20, 36, 4, 132, 260, 516, 1028, 2116, 4100, 16383], [32767, 32766, 32765, 32763, 32755, 32747, 32731, 32763, 32635, 32507, 32251, 31739, 30651, 28667, 24575], [0, 0, 0, 0, 0, 0, 0, 0, 0, 0, 0, 0, 0, 0, 0], 0⟩ (.q 0 (.q 1 (.q 2 (.q 3 (.q 4 (.q 5 (.q 6 (.q 7 (.q 8 (.q 9 (.q 10 (.x 11 (.x 12 (.q 13 (.q 14 .nil)) .no) .no)))))))))))) zR (by kernel_rfl) trivial ?_
  refine auT 1 rfl ?_
  refine zq rfl (fun _ hC => zK p1 (.inr rfl) false rfl rfl yn hb4 rfl ⟨rfl, rfl⟩) ?_
  refine auT 9 rfl ?_
  refine ⟨zon rfl ⟨fun _ => trivial, ?_⟩, trivial⟩
  refine ⟨zon rfl ⟨fun _ => trivial, ?_⟩, trivial⟩
  refine auT 2 rfl ?_
  exact zr (s.imp fun _ q => ⟨_, rfl, q⟩)
 ·replace s := s.2 hb4
  obtain ⟨A10, e11, s⟩ := s
  obtain ⟨p14, hl, s⟩ := s
  have f15 := hl
  obtain ⟨A17, e18, s⟩ := s
  obtain ⟨p21, hl, s⟩ := s
  have f22 := hl
  refine Run.drawM (fun h' => cellH B h' (Addr.add A10 1) = some (.pointer p14) ∧ cellH B h' A17 = some (.pointer p21) ∧ True) [] ⟨[0, 1, 2, 4, 12, 20, 36, 4, 132, 260, 516, 1028, 2116, 4100, 16383], [32767, 32766, 32765, 32763, 32755, 32747, 32731, 32763, 32635, 32507, 32251, 31739, 30651, 28667, 24575], [0, 0, 0, 0, 0, 0, 0, 0, 0, 0, 0, 0, 0, 0, 0], 0⟩ (.q 0 (.q 1 (.q 2 (.q 3 (.q 4 (.q 5 (.q 6 (.q 7 (.q 8 (.q 9 (.q 10 (.x 11 (.x 12 (.q 13 (.q 14 .nil)) .no) .no)))))))))))) zR (by kernel_rfl) ⟨f15, f22, trivial⟩ ?_
  refine auT 1 rfl ?_
  refine zq rfl (fun _ hC => zJ p1 (.inr rfl) true rfl rfl yn hb4 rfl ⟨rfl, rfl⟩) ?_
  refine auT 2 rfl ?_
  refine zq rfl (fun _ hC => zp A10 (congrArg Value.pointer e11) ⟨rfl, rfl⟩) ?_
  refine auT 1 rfl ?_
  refine zq rfl (fun _ hC => zh (Addr.add A10 1) ((.pointer p14)) rfl zbE hC.1 ⟨rfl, rfl⟩) ?_
  refine auT 1 rfl ?_
  refine zq rfl (fun _ hC => zp A17 (congrArg Value.pointer e18) ⟨rfl, rfl⟩) ?_
  refine auT 1 rfl ?_
  refine zq rfl (fun _ hC => zh A17 ((.pointer p21)) rfl yE hC.2.1 ⟨rfl, rfl⟩) ?_
  refine ⟨zo rfl (zA [(.pointer p21)] (za0) rfl rfl (Spec.mono s fun v h23 hv => ?_)), trivial⟩
  obtain ⟨l24, rfl, s⟩ := hv
  obtain ⟨g25, g26, s⟩ := s
  refine ⟨fun _ => ⟨g25, g26, trivial⟩, ?_⟩
  refine ⟨zo rfl (zA [(.pointer p14), (.agg (List.toArray l24))] (zde) rfl rfl (Spec.mono s fun v h27 hv => ?_)), trivial⟩
  obtain ⟨b28, rfl, s⟩ := hv
  obtain ⟨g29, g30, s⟩ := s
  refine ⟨fun _ => ⟨g29, g30, trivial⟩, ?_⟩
  refine auT 2 rfl ?_
  exact zr (s.imp fun _ q => ⟨_, rfl, q⟩)
theorem yW.of {B : RO} {p1 : Option Addr} {h : Heap} {Q : Bool → Heap → Prop} (s : Z6 B p1 h Q) : yW B p1 h Q := by
 refine zspec Tryz.func14 [ResultVar.tmp 2] rfl rfl rfl rfl rfl ?_
 refine au 8 rfl ?_
 refine zcall s rfl rfl zaX ?_
 rintro _ h3 ⟨b4, rfl, s⟩
 cases b4
 ·replace s := s.2 rfl
  refine au 7 rfl ?_
  exact zr (s.imp fun _ q => ⟨_, rfl, q⟩)
 ·replace s := s.1 rfl
  refine au 7 rfl ?_
  refine znil s rfl rfl fun A5 s => ?_
  refine au 1 rfl ?_
  refine zl s rfl rfl yE fun p7 s => ?_
  refine zal s rfl ziv rfl fun k8 h9 s => ?_
  refine zs1 s rfl rfl rfl rfl zkp fun h10 s => ?_
  refine au 3 rfl ?_
  refine zl s rfl rfl yE fun p11 s => ?_
  refine znil s rfl rfl fun A12 s => ?_
  refine au 1 rfl ?_
  refine zl s rfl rfl zx fun i14 s => ?_
  refine au 1 rfl ?_
  refine znil s rfl rfl fun A15 s => ?_
  refine au 1 rfl ?_
  refine zs1 s rfl rfl rfl rfl Zl fun h17 s => ?_
  refine au 1 rfl ?_
  refine Run.seqJ (fun e h19 => Agree [(0, (.pointer p1)), (3, (.pointer (some ⟨k8, 0, none⟩)))] e ∧ vU B p1 k8 h19 Q) ?_ fun j18 => ?_
  ·rintro e h19 ⟨hag, s⟩
   refine Run.env hag ?_; clear hag
   refine au 1 rfl ?_
   refine Run.drawM (fun h' => h' = h19) [13] ⟨[0, 1, 2, 4, 8, 0, 32, 64, 128, 0, 512, 1024, 2048, 4368], [16383, 16382, 16381, 16379, 16375, 16383, 16351, 16319, 16255, 16383, 15871, 15359, 14335, 12015], [0, 1, 3, 7, 15, 0, 32, 96, 224, 0, 512, 1536, 3584, 8191], 8192⟩ (.q 0 (.q 1 (.q 2 (.q 3 (.q 4 (.q 5 (.q 6 (.q 7 (.q 8 (.q 9 (.q 10 (.q 11 (.q 12 (.x 13 .nil .no)))))))))))))) zR (by kernel_rfl) rfl ?_
   refine auT 1 rfl ?_
   obtain ⟨A20, e21, s⟩ := s
   refine zqe rfl (zp A20 (congrArg Value.pointer e21) ⟨rfl, rfl⟩) ?_
   refine auT 2 rfl ?_
   obtain ⟨p22, hl, s⟩ := s
   refine zqe rfl (zh (Addr.add (Addr.add A20 2) 1) ((.pointer p22)) rfl Yz hl ⟨rfl, rfl⟩) ?_
   obtain ⟨p23, hl, s⟩ := s
   refine zqe rfl (zh ⟨k8, 0, none⟩ ((.pointer p23)) rfl yE hl ⟨rfl, rfl⟩) ?_
   obtain ⟨A24, e25, s⟩ := s
   refine zqe rfl (zp A24 (congrArg Value.pointer e25) ⟨rfl, rfl⟩) ?_
   refine auT 1 rfl ?_
   obtain ⟨p26, hl, s⟩ := s
   refine zqe rfl (zh (Addr.add A24 1) ((.pointer p26)) rfl Za hl ⟨rfl, rfl⟩) ?_
   obtain ⟨p27, hl, s⟩ := s
   refine zqe rfl (zh ⟨k8, 0, none⟩ ((.pointer p27)) rfl yE hl ⟨rfl, rfl⟩) ?_
   obtain ⟨A28, e29, s⟩ := s
   refine zqe rfl (zp A28 (congrArg Value.pointer e29) ⟨rfl, rfl⟩) ?_
   refine auT 1 rfl ?_
   obtain ⟨i30, hl, s⟩ := s
   refine zqe rfl (zh (Addr.add A28 3) ((.int .i64 (i30))) rfl zx hl ⟨rfl, rfl⟩) ?_
   refine ⟨zo rfl (zA [(.pointer p22), (.pointer p26), (.int .i64 (i30))] (zhO) rfl rfl (Spec.mono s fun v h31 hv => ?_)), trivial⟩
   obtain ⟨i32, rfl, s⟩ := hv
   refine ⟨fun hz => Bool.noConfusion hz, ?_⟩
   refine au 6 rfl ?_
   obtain ⟨J38, m36, h0, s⟩ := s
   refine Run.of_fin (h0.imp fun h' h0 => ?_)
   refine Run.loop (σ := Int × Nat) (fun x e h => J38 x.1 x.2 h ∧ Agree [(0, (.pointer p1)), (3, (.pointer (some ⟨k8, 0, none⟩))), (57, (.int .i64 (x.1)))] e) (fun x => x.2) ((0), m36) ⟨h0, ⟨rfl, rfl, rfl, trivial⟩⟩ ?_; clear h0
   rintro ⟨i33, m35⟩ e h34 ⟨hJ, hag⟩ ih37
   have s := s i33 m35 h34 hJ; clear hJ
   refine Run.env hag ?_; clear hag
   refine au 2 rfl ?_
   refine zt s rfl rfl rfl zG zF (fun s => ?_) fun s => ?_
   ·refine au 14 rfl ?_
    refine znil s rfl rfl fun A39 s => ?_
    refine au 2 rfl ?_
    refine zl s rfl rfl zbG fun p41 s => ?_
    refine au 1 rfl ?_
    refine zcall s rfl rfl zhP ?_
    rintro _ h42 ⟨i43, rfl, s⟩
    refine au 5 rfl ?_
    refine zt s rfl rfl rfl xk xj (fun s => ?_) fun s => ?_
    ·refine au 4 rfl ?_
     refine zl s rfl rfl yE fun p44 s => ?_
     refine znil s rfl rfl fun A45 s => ?_
     refine au 1 rfl ?_
     refine zl s rfl rfl Yy fun p47 s => ?_
     refine au 1 rfl ?_
     refine zcall s rfl rfl Wo ?_
     rintro _ h48 ⟨i49, i50, rfl, s⟩
     refine au 6 rfl ?_
     refine Run.drawM (fun h' => h' = h48) [12] ⟨[0, 1, 2, 4, 0, 0, 0, 96, 0, 256, 512, 1024, 2200], [8191, 8190, 8189, 8187, 8191, 8191, 8191, 8095, 8191, 7935, 7679, 7167, 5991], [0, 1, 3, 7, 0, 0, 0, 96, 0, 256, 768, 1792, 4095], 4096⟩ (.q 0 (.q 1 (.q 2 (.q 3 (.q 4 (.q 5 (.q 6 (.q 7 (.q 8 (.q 9 (.q 10 (.q 11 (.x 12 .nil .no))))))))))))) zR (by kernel_rfl) rfl ?_
     obtain ⟨p51, hl, s⟩ := s
     refine zqe rfl (zh ⟨k8, 0, none⟩ ((.pointer p51)) rfl yE hl ⟨rfl, rfl⟩) ?_
     obtain ⟨A52, e53, s⟩ := s
     refine zqe rfl (zp A52 (congrArg Value.pointer e53) ⟨rfl, rfl⟩) ?_
     refine auT 1 rfl ?_
     obtain ⟨p54, hl, s⟩ := s
     refine zqe rfl (zh (Addr.add A52 2) ((.pointer p54)) rfl Yy hl ⟨rfl, rfl⟩) ?_
     refine auT 4 rfl ?_
     obtain ⟨p55, hl, s⟩ := s
     refine zqe rfl (zh ⟨k8, 0, none⟩ ((.pointer p55)) rfl yE hl ⟨rfl, rfl⟩) ?_
     obtain ⟨A56, e57, s⟩ := s
     refine zqe rfl (zp A56 (congrArg Value.pointer e57) ⟨rfl, rfl⟩) ?_
     refine auT 1 rfl ?_
     obtain ⟨i58, hl, s⟩ := s
     refine zqe rfl (zh (Addr.add A56 3) ((.int .i64 (i58))) rfl zx hl ⟨rfl, rfl⟩) ?_
     refine ⟨zo rfl (zA [(.pointer p54), (.int .i64 (i33)), (.int .i64 (IntKind.wrap .i64 ((i49) + (i43)))), (.int .i64 (i58))] (zhQ) rfl rfl (Spec.mono s fun v h59 hv => ?_)), trivial⟩
     obtain ⟨b60, rfl, s⟩ := hv
     refine ⟨fun hz => Bool.noConfusion hz, ?_⟩
     refine au 5 rfl ?_
     exact Run.of_fin (s.imp fun h' ⟨m', hm, s⟩ => ih37 ((IntKind.wrap .i64 ((i33) + (1))), m') _ _ ⟨s, ⟨rfl, rfl, rfl, trivial⟩⟩ hm)
    ·refine au 8 rfl ?_
     exact Run.of_fin (s.imp fun h' ⟨m', hm, s⟩ => ih37 ((IntKind.wrap .i64 ((i33) + (1))), m') _ _ ⟨s, ⟨rfl, rfl, rfl, trivial⟩⟩ hm)
   ·refine au 8 rfl ?_
    exact zr (s.imp fun _ q => ⟨_, rfl, q⟩)
  refine au 3 rfl ?_
  refine znil s rfl rfl fun A61 s => ?_
  refine au 2 rfl ?_
  refine zl s rfl rfl XX fun p63 s => ?_
  refine zcall s rfl rfl zhN ?_
  rintro v65 h64 ⟨_, rfl, s⟩
  refine au 2 rfl ?_
  obtain ⟨xs72, G68, J71, hit, hins, hG, h0, s, hR⟩ := s
  refine Run.of_fin (h0.imp fun h' h0 => ?_)
  refine Run.range (v65) (xs72.map (fun x : Int × Int => [(.int .i64 (x.1)), (.int .i64 (x.2))])) G68 J71 rfl hit hins hG h0 rfl (fun a ha => by obtain ⟨x, _, rfl⟩ := List.mem_map.1 ha; rfl) ?_ ?_
  ·rintro q70 args h69 ha hJ
   obtain ⟨⟨i66, i67⟩, hx, rfl⟩ := Option.map_eq_some_iff.1 ((List.getElem?_map ..).symm.trans ha)
   have s := s q70 h69 i66 i67 hx hJ; clear hJ hx ha
   refine zput rfl ?_
   refine au 7 rfl ?_
   refine Run.begin ⟨rfl, ?_⟩
   refine au 1 rfl ?_
   refine Run.drawM (fun h' => h' = h69) [10] ⟨[0, 1, 2, 4, 0, 0, 0, 64, 128, 256, 568], [2047, 2046, 2045, 2043, 2047, 2047, 2047, 1983, 1919, 1791, 1479], [0, 1, 3, 7, 0, 0, 0, 64, 192, 448, 1023], 1024⟩ (.q 0 (.q 1 (.q 2 (.q 3 (.q 4 (.q 5 (.q 6 (.q 7 (.q 8 (.q 9 (.x 10 .nil .no))))))))))) zR (by kernel_rfl) rfl ?_
   obtain ⟨p73, hl, s⟩ := s
   refine zqe rfl (zh ⟨k8, 0, none⟩ ((.pointer p73)) rfl yE hl ⟨rfl, rfl⟩) ?_
   obtain ⟨A74, e75, s⟩ := s
   refine zqe rfl (zp A74 (congrArg Value.pointer e75) ⟨rfl, rfl⟩) ?_
   refine auT 1 rfl ?_
   obtain ⟨p76, hl, s⟩ := s
   refine zqe rfl (zh A74 ((.pointer p76)) rfl XV hl ⟨rfl, rfl⟩) ?_
   refine auT 2 rfl ?_
   obtain ⟨p77, hl, s⟩ := s
   refine zqe rfl (zh ⟨k8, 0, none⟩ ((.pointer p77)) rfl yE hl ⟨rfl, rfl⟩) ?_
   obtain ⟨A78, e79, s⟩ := s
   refine zqe rfl (zp A78 (congrArg Value.pointer e79) ⟨rfl, rfl⟩) ?_
   refine auT 1 rfl ?_
   obtain ⟨i80, hl, s⟩ := s
   refine zqe rfl (zh (Addr.add A78 3) ((.int .i64 (i80))) rfl zx hl ⟨rfl, rfl⟩) ?_
   refine ⟨zo rfl (zA [(.pointer p76), (.int .i64 (i66)), (.int .i64 (i67)), (.int .i64 (i80))] (zdf) rfl rfl (Spec.mono s fun v h81 hv => ?_)), trivial⟩
   obtain ⟨b82, rfl, s⟩ := hv
   refine ⟨fun hz => Bool.noConfusion hz, ?_⟩
   refine au 1 rfl ?_
   refine Run.of_fin (s.imp fun h' s => ?_)
   exact Run.fall (.inl ⟨rfl, s⟩)
  ·intro h69 hJ
   have s := hR h69 (by simpa using hJ); clear hJ hR
   refine au 1 rfl ?_
   exact Run.of_fin (s.imp fun h' s => j18 _ _ ⟨⟨rfl, rfl, trivial⟩, s⟩)
theorem wc.of {B : RO} {a1 : Option Addr} {n2 : Nat} {c3 : Nat} {h : Heap} {Q : Bool → Heap → Prop} (s : YZ B a1 n2 c3 h Q) : wc B a1 n2 c3 h Q := by
 refine zspec Tryz.func15 [ResultVar.tmp 2] rfl rfl rfl rfl rfl ?_
 refine au 8 rfl ?_
 refine zg rfl (y9 a1 n2 c3 rfl zcF ?_)
 refine zt s rfl rfl rfl xk xj (fun s => ?_) fun s => ?_
 ·refine au 6 rfl ?_
  exact zr (s.imp fun _ q => ⟨_, rfl, q⟩)
 ·refine au 7 rfl ?_
  refine zg rfl (y9 a1 n2 c3 rfl zcF ?_)
  refine au 3 rfl ?_
  obtain ⟨J10, m8, h0, s⟩ := s
  refine Run.of_fin (h0.imp fun h' h0 => ?_)
  refine Run.loop (σ := Int × Nat) (fun x e h => J10 x.1 x.2 h ∧ Agree [(8, (.slice a1 n2 c3)), (9, (.int .i64 ((n2 : Nat)))), (10, (.int .i64 (x.1)))] e) (fun x => x.2) ((0), m8) ⟨h0, ⟨rfl, rfl, rfl, trivial⟩⟩ ?_; clear h0
  rintro ⟨i5, m7⟩ e h6 ⟨hJ, hag⟩ ih9
  have s := s i5 m7 h6 hJ; clear hJ
  refine Run.env hag ?_; clear hag
  refine au 2 rfl ?_
  refine zt s rfl rfl rfl zG zF (fun s => ?_) fun s => ?_
  ·refine au 8 rfl ?_
   obtain ⟨A11, e12, hi0, hi1, s⟩ := s
   refine zg rfl (zZ A11 n2 c3 .i64 (i5) (congrArg (fun a => Value.slice a n2 c3) e12) rfl zek hi0 hi1 ?_)
   obtain ⟨i13, i14, i15, i16, i17, s18, hl, s⟩ := s
   refine zn hl rfl rfl zee za6 rfl ?_
   refine zal s rfl zdm rfl fun k19 h20 s => ?_
   refine zsn s rfl rfl rfl za6 rfl fun h21 s => ?_
   refine au 4 rfl ?_
   refine zl s rfl rfl yV fun s22 s => ?_
   refine zg rfl (wD s22 rfl xi ?_)
   refine zt s rfl rfl rfl xk xj (fun s => ?_) fun s => ?_
   ·refine au 6 rfl ?_
    exact zr (s.imp fun _ q => ⟨_, rfl, q⟩)
   ·refine au 8 rfl ?_
    exact Run.of_fin (s.imp fun h' ⟨m', hm, s⟩ => ih9 ((IntKind.wrap .i64 ((i5) + (1))), m') _ _ ⟨s, ⟨rfl, rfl, rfl, trivial⟩⟩ hm)
  ·refine au 8 rfl ?_
   exact zr (s.imp fun _ q => ⟨_, rfl, q⟩)
theorem yI.of {B : RO} {p1 : Option Addr} {h : Heap} {Q : List Value → ByteArray → ByteArray → ByteArray → Heap → Prop} (s : YR B p1 h Q) : yI B p1 h Q := by
 refine zspec Tryz.func16 [ResultVar.cell 2 55, ResultVar.cell 3 56] rfl rfl rfl rfl rfl ?_
 refine au 2 rfl ?_
 refine zal s rfl yF rfl fun k6 h7 s => ?_
 refine zal s rfl Wq rfl fun k8 h9 s => ?_
 refine au 3 rfl ?_
 refine zal s rfl yF rfl fun k10 h11 s => ?_
 refine au 3 rfl ?_
 refine zal s rfl Wq rfl fun k12 h13 s => ?_
 refine au 1 rfl ?_
 refine Run.seqJ (fun e h15 => Agree [(0, (.pointer p1)), (2, (.pointer (some ⟨k6, 0, none⟩))), (3, (.pointer (some ⟨k8, 0, none⟩))), (4, (.pointer (some ⟨k10, 0, none⟩))), (5, (.pointer (some ⟨k12, 0, none⟩)))] e ∧ vm B p1 k6 k8 k10 k12 h15 Q) ?_ fun j14 => ?_
 ·rintro e h15 ⟨hag, s⟩
  refine Run.env hag ?_; clear hag
  refine Run.seqJ (fun e h17 => Agree [(0, (.pointer p1)), (2, (.pointer (some ⟨k6, 0, none⟩))), (3, (.pointer (some ⟨k8, 0, none⟩))), (4, (.pointer (some ⟨k10, 0, none⟩))), (5, (.pointer (some ⟨k12, 0, none⟩)))] e ∧ vn B p1 k6 k8 k10 k12 h17 Q) ?_ fun j16 => ?_
  ·rintro e h17 ⟨hag, s⟩
   refine Run.env hag ?_; clear hag
   refine au 6 rfl ?_
   obtain ⟨J23, m21, h0, s⟩ := s
   refine Run.of_fin (h0.imp fun h' h0 => ?_)
   refine Run.loop (σ := Int × Nat) (fun x e h => J23 x.1 x.2 h ∧ Agree [(0, (.pointer p1)), (2, (.pointer (some ⟨k6, 0, none⟩))), (3, (.pointer (some ⟨k8, 0, none⟩))), (4, (.pointer (some ⟨k10, 0, none⟩))), (5, (.pointer (some ⟨k12, 0, none⟩))), (44, (.int .i64 (x.1)))] e) (fun x => x.2) ((0), m21) ⟨h0, ⟨rfl, rfl, rfl, rfl, rfl, rfl, trivial⟩⟩ ?_; clear h0
   rintro ⟨i18, m20⟩ e h19 ⟨hJ, hag⟩ ih22
   have s := s i18 m20 h19 hJ; clear hJ
   refine Run.env hag ?_; clear hag
   refine au 2 rfl ?_
   refine zt s rfl rfl rfl zG zF (fun s => ?_) fun s => ?_
   ·refine au 15 rfl ?_
    refine znil s rfl rfl fun A24 s => ?_
    refine au 1 rfl ?_
    refine zl s rfl rfl Yy fun p26 s => ?_
    refine au 1 rfl ?_
    refine zcall s rfl rfl Wo ?_
    rintro _ h27 ⟨i28, i29, rfl, s⟩
    refine au 4 rfl ?_
    obtain ⟨hi0, hi1, s⟩ := s
    refine zg rfl (zC ⟨k10, 20, none⟩ .i64 (i18) rfl rfl Zb hi0 hi1 ?_)
    refine zs1 s rfl rfl rfl rfl Zl fun h30 s => ?_
    refine au 4 rfl ?_
    refine znil s rfl rfl fun A31 s => ?_
    refine au 1 rfl ?_
    refine zl s rfl rfl Yy fun p33 s => ?_
    refine au 1 rfl ?_
    refine zcall s rfl rfl zhR ?_
    rintro _ h34 ⟨s35, rfl, s⟩
    obtain ⟨hi0, hi1, s⟩ := s
    refine zg rfl (zC ⟨k12, 0, none⟩ .i64 (i18) rfl rfl Zc hi0 hi1 ?_)
    refine zs1 s rfl rfl rfl rfl zhi fun h36 s => ?_
    refine au 6 rfl ?_
    exact Run.of_fin (s.imp fun h' ⟨m', hm, s⟩ => ih22 ((IntKind.wrap .i64 ((i18) + (1))), m') _ _ ⟨s, ⟨rfl, rfl, rfl, rfl, rfl, rfl, trivial⟩⟩ hm)
   ·refine au 5 rfl ?_
    obtain ⟨l37, nl37, hl, s⟩ := s
    have f38 := hl
    obtain ⟨s39, s40, s41, hl, s⟩ := s
    have f42 := hl
    refine Run.drawM (fun h' => za B h' ⟨k10, 0, none⟩ 0 l37 ∧ za B h' ⟨k12, 0, none⟩ 0 [(.string s39), (.string s40), (.string s41)] ∧ True) [3] ⟨[0, 0, 1, 7], [15, 15, 14, 13], [0, 0, 1, 7], 8⟩ (.q 0 (.q 1 (.x 2 (.x 3 .nil .no) .no))) zR (by kernel_rfl) ⟨f38, f42, trivial⟩ ?_
    refine zq rfl (fun _ hC => z0 ⟨k10, 0, none⟩ l37 rfl Y4 (vo.trans (congrArg some nl37.symm)) hC.1 ⟨rfl, rfl⟩) ?_
    refine zq rfl (fun _ hC => z0 ⟨k12, 0, none⟩ [(.string s39), (.string s40), (.string s41)] rfl zbD XL hC.2.1 ⟨rfl, rfl⟩) ?_
    obtain ⟨hln, h43, hst, s⟩ := s
    refine ⟨zo0 rfl (y7 ⟨k6, 0, none⟩ l37 h43 rfl rfl (vo.trans (congrArg some hln.symm)) hst ?_), trivial⟩
    obtain ⟨g44, g45, s⟩ := s
    refine ⟨fun _ => ⟨g44, g45, trivial⟩, ?_⟩
    obtain ⟨h46, hst, s⟩ := s
    refine ⟨zo0 rfl (y7 ⟨k8, 0, none⟩ [(.string s39), (.string s40), (.string s41)] h46 rfl rfl XL hst ?_), trivial⟩
    refine ⟨fun hz => Bool.noConfusion hz, ?_⟩
    obtain ⟨l47, hln0, hl0, s⟩ := s
    obtain ⟨s48, s49, s50, hl1, s⟩ := s
    exact zr (⟨⟨k6, 0, none⟩, (.agg (List.toArray l47)), rfl, yA Y4 (vo.trans (congrArg some hln0.symm)) hl0, ⟨⟨k8, 0, none⟩, (.agg #[(.string s48), (.string s49), (.string s50)]), rfl, yA zbD XL hl1, s.imp fun _ q => ⟨_, _, _, _, rfl, q⟩⟩⟩)
  refine au 5 rfl ?_
  obtain ⟨J56, m54, h0, s⟩ := s
  refine Run.of_fin (h0.imp fun h' h0 => ?_)
  refine Run.loop (σ := Int × Nat) (fun x e h => J56 x.1 x.2 h ∧ Agree [(0, (.pointer p1)), (2, (.pointer (some ⟨k6, 0, none⟩))), (3, (.pointer (some ⟨k8, 0, none⟩))), (4, (.pointer (some ⟨k10, 0, none⟩))), (5, (.pointer (some ⟨k12, 0, none⟩))), (27, (.int .i64 (x.1)))] e) (fun x => x.2) ((0), m54) ⟨h0, ⟨rfl, rfl, rfl, rfl, rfl, rfl, trivial⟩⟩ ?_; clear h0
  rintro ⟨i51, m53⟩ e h52 ⟨hJ, hag⟩ ih55
  have s := s i51 m53 h52 hJ; clear hJ
  refine Run.env hag ?_; clear hag
  refine au 2 rfl ?_
  refine zt s rfl rfl rfl zG zF (fun s => ?_) fun s => ?_
  ·refine au 14 rfl ?_
   refine znil s rfl rfl fun A57 s => ?_
   refine au 1 rfl ?_
   refine zl s rfl rfl Za fun p59 s => ?_
   refine au 1 rfl ?_
   refine zcall s rfl rfl za3 ?_
   rintro _ h60 ⟨b61, s62, i63, rfl, s⟩
   refine au 3 rfl ?_
   refine zal s rfl zL rfl fun k64 h65 s => ?_
   refine zsn s rfl rfl rfl zj rfl fun h66 s => ?_
   refine au 4 rfl ?_
   obtain ⟨b67, s68, hl, s⟩ := s
   refine zn hl rfl rfl zD zj rfl ?_
   refine au 1 rfl ?_
   obtain ⟨hi0, hi1, s⟩ := s
   refine zg rfl (zC ⟨k10, 8, none⟩ .i64 (i51) rfl rfl ZW hi0 hi1 ?_)
   refine zsn s rfl rfl rfl yz rfl fun h69 s => ?_
   refine au 6 rfl ?_
   exact Run.of_fin (s.imp fun h' ⟨m', hm, s⟩ => ih55 ((IntKind.wrap .i64 ((i51) + (1))), m') _ _ ⟨s, ⟨rfl, rfl, rfl, rfl, rfl, rfl, trivial⟩⟩ hm)
  ·refine au 4 rfl ?_
   exact Run.of_fin (s.imp fun h' s => j16 _ _ ⟨⟨rfl, rfl, rfl, rfl, rfl, trivial⟩, s⟩)
 refine au 5 rfl ?_
 obtain ⟨J75, m73, h0, s⟩ := s
 refine Run.of_fin (h0.imp fun h' h0 => ?_)
 refine Run.loop (σ := Int × Nat) (fun x e h => J75 x.1 x.2 h ∧ Agree [(0, (.pointer p1)), (2, (.pointer (some ⟨k6, 0, none⟩))), (3, (.pointer (some ⟨k8, 0, none⟩))), (4, (.pointer (some ⟨k10, 0, none⟩))), (5, (.pointer (some ⟨k12, 0, none⟩))), (11, (.int .i64 (x.1)))] e) (fun x => x.2) ((0), m73) ⟨h0, ⟨rfl, rfl, rfl, rfl, rfl, rfl, trivial⟩⟩ ?_; clear h0
 rintro ⟨i70, m72⟩ e h71 ⟨hJ, hag⟩ ih74
 have s := s i70 m72 h71 hJ; clear hJ
 refine Run.env hag ?_; clear hag
 refine au 2 rfl ?_
 refine zt s rfl rfl rfl zG zF (fun s => ?_) fun s => ?_
 ·refine au 14 rfl ?_
  refine znil s rfl rfl fun A76 s => ?_
  refine au 1 rfl ?_
  refine zl s rfl rfl XV fun p78 s => ?_
  refine au 1 rfl ?_
  refine zcall s rfl rfl Vk ?_
  rintro _ h79 ⟨i80, i81, rfl, s⟩
  refine au 4 rfl ?_
  obtain ⟨hi0, hi1, s⟩ := s
  refine zg rfl (zC ⟨k10, 0, none⟩ .i64 (i70) rfl rfl Y6 hi0 hi1 ?_)
  refine zs1 s rfl rfl rfl rfl Zl fun h82 s => ?_
  refine au 6 rfl ?_
  exact Run.of_fin (s.imp fun h' ⟨m', hm, s⟩ => ih74 ((IntKind.wrap .i64 ((i70) + (1))), m') _ _ ⟨s, ⟨rfl, rfl, rfl, rfl, rfl, rfl, trivial⟩⟩ hm)
 ·refine au 4 rfl ?_
  exact Run.of_fin (s.imp fun h' s => j14 _ _ ⟨⟨rfl, rfl, rfl, rfl, rfl, trivial⟩, s⟩)
theorem yx.of {B : RO} {p1 : Option Addr} {i2 : Int} {i3 : Int} {i4 : Int} {i5 : Int} {h : Heap} {Q : Int → Int → Heap → Prop} (s : ZM B p1 i2 i3 i4 i5 h Q) : yx B p1 i2 i3 i4 i5 h Q := by
 refine zspec Tryz.func17 [ResultVar.tmp 4, ResultVar.tmp 5] rfl rfl rfl rfl rfl ?_
 refine au 2 rfl ?_
 refine zbn s rfl rfl rfl fun k8 h9 s => ?_
 refine au 7 rfl ?_
 refine zl s rfl rfl zx fun i10 s => ?_
 refine au 4 rfl ?_
 refine zt s rfl rfl rfl zU zT (fun s => ?_) fun s => ?_
 ·refine au 7 rfl ?_
  refine zl s rfl rfl zx fun i11 s => ?_
  refine zcall s rfl rfl zaW ?_
  rintro _ h12 ⟨i13, i14, rfl, s⟩
  refine au 5 rfl ?_
  exact zr (s.imp fun _ q => ⟨_, _, rfl, q⟩)
 ·refine au 5 rfl ?_
  refine zt s rfl rfl rfl zU zT (fun s => ?_) fun s => ?_
  ·refine au 7 rfl ?_
   refine zl s rfl rfl zx fun i15 s => ?_
   refine au 1 rfl ?_
   refine zl s rfl rfl zx fun i16 s => ?_
   refine zcall s rfl rfl zdb ?_
   rintro _ h17 ⟨i18, rfl, s⟩
   refine au 3 rfl ?_
   exact zr (s.imp fun _ q => ⟨_, _, rfl, q⟩)
  ·refine au 5 rfl ?_
   refine zt s rfl rfl rfl zU zT (fun s => ?_) fun s => ?_
   ·refine au 7 rfl ?_
    refine zl s rfl rfl zx fun i19 s => ?_
    refine au 1 rfl ?_
    refine zl s rfl rfl zx fun i20 s => ?_
    refine zcall s rfl rfl zhS ?_
    rintro _ h21 ⟨i22, i23, rfl, s⟩
    refine au 5 rfl ?_
    exact zr (s.imp fun _ q => ⟨_, _, rfl, q⟩)
   ·refine au 5 rfl ?_
    refine zt s rfl rfl rfl zU zT (fun s => ?_) fun s => ?_
    ·refine au 7 rfl ?_
     refine zl s rfl rfl zx fun i24 s => ?_
     refine au 1 rfl ?_
     refine zl s rfl rfl zx fun i25 s => ?_
     refine au 1 rfl ?_
     refine zl s rfl rfl zfj fun i26 s => ?_
     refine zcall s rfl rfl zhT ?_
     rintro _ h27 ⟨i28, rfl, s⟩
     refine au 3 rfl ?_
     exact zr (s.imp fun _ q => ⟨_, _, rfl, q⟩)
    ·refine au 5 rfl ?_
     refine zt s rfl rfl rfl zU zT (fun s => ?_) fun s => ?_
     ·refine au 7 rfl ?_
      refine zl s rfl rfl zx fun i29 s => ?_
      refine zcall s rfl rfl zhU ?_
      rintro _ h30 ⟨i31, rfl, s⟩
      refine au 3 rfl ?_
      exact zr (s.imp fun _ q => ⟨_, _, rfl, q⟩)
     ·refine au 5 rfl ?_
      refine zt s rfl rfl rfl zU zT (fun s => ?_) fun s => ?_
      ·refine au 7 rfl ?_
       refine zl s rfl rfl zx fun i32 s => ?_
       refine zcall s rfl rfl zhV ?_
       rintro _ h33 ⟨i34, rfl, s⟩
       refine au 3 rfl ?_
       exact zr (s.imp fun _ q => ⟨_, _, rfl, q⟩)
      ·refine au 5 rfl ?_
       refine zt s rfl rfl rfl zU zT (fun s => ?_) fun s => ?_
       ·refine au 7 rfl ?_
        refine zl s rfl rfl zx fun i35 s => ?_
        refine au 1 rfl ?_
        refine zl s rfl rfl zx fun i36 s => ?_
        refine zcall s rfl rfl zhW ?_
        rintro _ h37 ⟨i38, rfl, s⟩
        refine au 3 rfl ?_
        exact zr (s.imp fun _ q => ⟨_, _, rfl, q⟩)
       ·refine au 5 rfl ?_
        refine zt s rfl rfl rfl zU zT (fun s => ?_) fun s => ?_
        ·refine au 7 rfl ?_
         refine zl s rfl rfl zx fun i39 s => ?_
         refine au 1 rfl ?_
         refine zl s rfl rfl zx fun i40 s => ?_
         refine zcall s rfl rfl zhX ?_
         rintro _ h41 ⟨i42, rfl, s⟩
         refine au 3 rfl ?_
         exact zr (s.imp fun _ q => ⟨_, _, rfl, q⟩)
        ·refine au 5 rfl ?_
         refine zt s rfl rfl rfl zU zT (fun s => ?_) fun s => ?_
         ·refine au 7 rfl ?_
          refine zl s rfl rfl zx fun i43 s => ?_
          refine zcall s rfl rfl zhY ?_
          rintro _ h44 ⟨i45, i46, rfl, s⟩
          refine au 5 rfl ?_
          exact zr (s.imp fun _ q => ⟨_, _, rfl, q⟩)
         ·refine au 10 rfl ?_
          exact zr (s.imp fun _ q => ⟨_, _, rfl, q⟩)
theorem vC.of {B : RO} {p1 : Option Addr} {i2 : Int} {s3 : ByteArray} {h : Heap} {Q : Int → Heap → Prop} (s : WS B p1 i2 s3 h Q) : vC B p1 i2 s3 h Q := by
 refine zspec Tryz.func18 [ResultVar.tmp 6] rfl rfl rfl rfl rfl ?_
 refine au 4 rfl ?_
 refine Run.seqJ (fun e h6 => Agree [(0, (.pointer p1)), (1, (.int .i64 (i2))), (2, (.string s3))] e ∧ Yr B p1 i2 s3 h6 Q) ?_ fun j5 => ?_
 ·rintro e h6 ⟨hag, s⟩
  refine Run.env hag ?_; clear hag
  refine au 1 rfl ?_
  refine Run.drawM (fun h' => h' = h6) [11] ⟨[0, 0, 1, 4, 10, 16, 0, 96, 1, 256, 767, 1279], [4095, 4095, 4094, 4091, 4085, 4079, 4095, 3999, 4094, 3839, 3581, 2943], [0, 0, 1, 5, 15, 31, 0, 127, 1, 257, 1023, 2047], 2048⟩ (.q 0 (.q 1 (.q 2 (.q 3 (.q 4 (.q 5 (.q 6 (.q 7 (.q 8 (.q 9 (.q 10 (.x 11 .nil .no)))))))))))) zR (by kernel_rfl) rfl ?_
  refine auT 2 rfl ?_
  obtain ⟨A7, e8, s⟩ := s
  refine zqe rfl (zp A7 (congrArg Value.pointer e8) ⟨rfl, rfl⟩) ?_
  refine auT 1 rfl ?_
  obtain ⟨hi0, hi1, s⟩ := s
  refine zqe rfl (zC A7 .i64 (i2) rfl rfl Zc hi0 hi1 ⟨rfl, rfl⟩) ?_
  obtain ⟨s9, hl, s⟩ := s
  refine zqe rfl (zh (Addr.add A7 (Int.toNat (i2) * 1)) ((.string s9)) rfl yV hl ⟨rfl, rfl⟩) ?_
  refine auT 1 rfl ?_
  obtain ⟨hi0, s⟩ := s
  refine zqe rfl (Vz s9 s3 rfl rfl hi0 ⟨rfl, rfl⟩) ?_
  obtain ⟨A10, e11, s⟩ := s
  refine zqe rfl (zp A10 (congrArg Value.pointer e11) ⟨rfl, rfl⟩) ?_
  refine auT 1 rfl ?_
  obtain ⟨hi0, hi1, s⟩ := s
  refine zqe rfl (zC A10 .i64 (i2) rfl rfl Zc hi0 hi1 ⟨rfl, rfl⟩) ?_
  obtain ⟨h12, hst, s⟩ := s
  refine ⟨zo0 rfl (v8 (Addr.add A10 (Int.toNat (i2) * 1)) ((.string (s9 ++ s3))) h12 rfl rfl rfl zhi hst ?_), trivial⟩
  refine ⟨fun hz => Bool.noConfusion hz, ?_⟩
  refine au 4 rfl ?_
  exact zr (s.imp fun _ q => ⟨_, rfl, q⟩)
 refine au 4 rfl ?_
 by_cases hb13 : p1 = none
 ·replace s := s.1 hb13
  refine zg rfl (zK p1 (.inl rfl) true rfl rfl XZ hb13 rfl ?_)
  refine au 7 rfl ?_
  exact zr (s.imp fun _ q => ⟨_, rfl, q⟩)
 ·replace s := s.2 hb13
  refine zg rfl (zJ p1 (.inl rfl) false rfl rfl XZ hb13 rfl ?_)
  refine au 7 rfl ?_
  refine zcall s rfl rfl Vl ?_
  rintro _ h14 ⟨b15, rfl, s⟩
  cases b15
  ·replace s := s.2 rfl
   refine au 8 rfl ?_
   exact zr (s.imp fun _ q => ⟨_, rfl, q⟩)
  ·replace s := s.1 rfl
   refine au 7 rfl ?_
   refine zg rfl (wD s3 rfl xi ?_)
   refine au 2 rfl ?_
   refine znil s rfl rfl fun A16 s => ?_
   refine au 1 rfl ?_
   obtain ⟨hi0, hi1, s⟩ := s
   refine zg rfl (zC A16 .i64 (i2) rfl rfl Zc hi0 hi1 ?_)
   refine zl s rfl rfl yV fun s18 s => ?_
   refine zg rfl (wD s18 rfl xi ?_)
   refine au 1 rfl ?_
   refine zt s rfl rfl rfl xk xj (fun s => ?_) fun s => ?_
   ·refine au 7 rfl ?_
    exact zr (s.imp fun _ q => ⟨_, rfl, q⟩)
   ·refine au 5 rfl ?_
    exact Run.of_fin (s.imp fun h' s => j5 _ _ ⟨⟨rfl, rfl, rfl, trivial⟩, s⟩)
theorem zQ.of {B : RO} {l1 : List Value} {s2 : ByteArray} {s3 : ByteArray} {s4 : ByteArray} {a5 : Option Addr} {n6 : Nat} {c7 : Nat} {h : Heap} {Q : Int → List Value → Heap → Prop} (s : XR B l1 s2 s3 s4 a5 n6 c7 h Q) : zQ B l1 s2 s3 s4 a5 n6 c7 h Q := by
 refine zspec Tryz.func19 [ResultVar.tmp 6, ResultVar.cell 7 55] rfl rfl rfl rfl rfl ?_
 refine au 2 rfl ?_
 refine zg rfl (yc l1 rfl (fun k10 hb1 hb2 h11 hb3 => ?_))
 have s := s k10 hb1 hb2 h11 hb3
 refine zbn s rfl rfl rfl fun k12 h13 s => ?_
 refine au 1 rfl ?_
 refine zal s rfl yF rfl fun k14 h15 s => ?_
 refine au 4 rfl ?_
 obtain ⟨l16, nl16, hl, s⟩ := s
 refine zg rfl (z0 ⟨k10, 8, none⟩ l16 rfl zbC (za7.trans (congrArg some nl16.symm)) hl ?_)
 refine au 1 rfl ?_
 obtain ⟨l17, nl17, hl, s⟩ := s
 refine zg rfl (z0 ⟨k10, 8, none⟩ l17 rfl zbC (za7.trans (congrArg some nl17.symm)) hl ?_)
 refine zg rfl (zg9 l16 l17 [(.bool false), (.bool false), (.bool false), (.bool false), (.bool false), (.bool false)] zgN zeN rfl nl16 nl17 rfl rfl rfl ?_)
 refine zg rfl (yc (l16 ++ l17 ++ [(.bool false), (.bool false), (.bool false), (.bool false), (.bool false), (.bool false)]) rfl (fun k18 hb1 hb2 h19 hb3 => ?_))
 have s := s k18 hb1 hb2 h19 hb3
 refine au 6 rfl ?_
 refine Run.seqJ (fun e h22 => ∃ i21 : Int, Agree [(3, (.pointer (some ⟨k10, 0, none⟩))), (7, (.pointer (some ⟨k14, 0, none⟩))), (8, (.pointer (some ⟨k18, 0, none⟩))), (9, (.int .i64 (i21)))] e ∧ wW B k10 k14 k18 i21 h22 Q) ?_ fun j20 => ?_
 ·rintro e h22 ⟨i21, hag, s⟩
  refine Run.env hag ?_; clear hag
  refine au 5 rfl ?_
  obtain ⟨l23, nl23, hl, s⟩ := s
  refine zg rfl (z0 ⟨k18, 12, none⟩ l23 rfl zbC (za7.trans (congrArg some nl23.symm)) hl ?_)
  refine au 1 rfl ?_
  obtain ⟨hln, h24, hst, s⟩ := s
  refine zg0 rfl (y7 ⟨k10, 8, none⟩ l23 h24 rfl rfl (za7.trans (congrArg some hln.symm)) hst ?_)
  refine au 2 rfl ?_
  refine Run.drawM (fun h' => h' = h24) [3] ⟨[0, 0, 1, 7], [15, 15, 14, 13], [0, 0, 1, 7], 8⟩ (.q 0 (.q 1 (.q 2 (.x 3 .nil .no)))) zR (by kernel_rfl) rfl ?_
  refine auT 1 rfl ?_
  obtain ⟨l25, nl25, hl, s⟩ := s
  refine zqe rfl (z0 ⟨k10, 0, none⟩ l25 rfl Y4 (vo.trans (congrArg some nl25.symm)) hl ⟨rfl, rfl⟩) ?_
  refine auT 1 rfl ?_
  obtain ⟨hln, h26, hst, s⟩ := s
  refine ⟨zo0 rfl (y7 ⟨k14, 0, none⟩ l25 h26 rfl rfl (vo.trans (congrArg some hln.symm)) hst ?_), trivial⟩
  refine ⟨fun hz => Bool.noConfusion hz, ?_⟩
  obtain ⟨l27, hln1, hl1, s⟩ := s
  exact zr (⟨⟨k14, 0, none⟩, (.agg (List.toArray l27)), rfl, yA Y4 (vo.trans (congrArg some hln1.symm)) hl1, s.imp fun _ q => ⟨_, _, rfl, q⟩⟩)
 refine au 3 rfl ?_
 refine zg rfl (y9 a5 n6 c7 rfl zcE ?_)
 refine au 3 rfl ?_
 obtain ⟨J34, m32, h0, s⟩ := s
 refine Run.of_fin (h0.imp fun h' h0 => ?_)
 refine Run.loop (σ := Int × Int × Nat) (fun x e h => J34 x.1 x.2.1 x.2.2 h ∧ Agree [(3, (.pointer (some ⟨k10, 0, none⟩))), (4, (.pointer (some ⟨k12, 0, none⟩))), (7, (.pointer (some ⟨k14, 0, none⟩))), (8, (.pointer (some ⟨k18, 0, none⟩))), (9, (.int .i64 (x.1))), (18, (.slice a5 n6 c7)), (19, (.int .i64 ((n6 : Nat)))), (20, (.int .i64 (x.2.1)))] e) (fun x => x.2.2) ((0), (0), m32) ⟨h0, ⟨rfl, rfl, rfl, rfl, rfl, rfl, rfl, rfl, trivial⟩⟩ ?_; clear h0
 rintro ⟨i28, i29, m31⟩ e h30 ⟨hJ, hag⟩ ih33
 have s := s i28 i29 m31 h30 hJ; clear hJ
 refine Run.env hag ?_; clear hag
 refine au 2 rfl ?_
 refine zt s rfl rfl rfl zG zF (fun s => ?_) fun s => ?_
 ·refine au 8 rfl ?_
  obtain ⟨A35, e36, hi0, hi1, s⟩ := s
  refine zg rfl (zZ A35 n6 c7 .i64 (i29) (congrArg (fun a => Value.slice a n6 c7) e36) rfl xK hi0 hi1 ?_)
  obtain ⟨i37, i38, i39, i40, hl, s⟩ := s
  refine zn hl rfl rfl ZV Zy rfl ?_
  refine zal s rfl x3 rfl fun k41 h42 s => ?_
  refine zsn s rfl rfl rfl Zy rfl fun h43 s => ?_
  refine au 8 rfl ?_
  refine zl s rfl rfl zx fun i44 s => ?_
  refine au 4 rfl ?_
  refine zt s rfl rfl rfl zU zT (fun s => ?_) fun s => ?_
  ·refine au 5 rfl ?_
   refine zl s rfl rfl zx fun i45 s => ?_
   refine au 1 rfl ?_
   obtain ⟨hi0, hi1, s⟩ := s
   refine zg rfl (zC ⟨k10, 0, none⟩ .i64 (i45) rfl rfl Y6 hi0 hi1 ?_)
   refine zl s rfl rfl zx fun i46 s => ?_
   refine au 8 rfl ?_
   exact Run.of_fin (s.imp fun h' ⟨m', hm, s⟩ => ih33 ((i46), (IntKind.wrap .i64 ((i29) + (1))), m') _ _ ⟨s, ⟨rfl, rfl, rfl, rfl, rfl, rfl, rfl, rfl, trivial⟩⟩ hm)
  ·refine au 5 rfl ?_
   refine zt s rfl rfl rfl zU zT (fun s => ?_) fun s => ?_
   ·refine au 5 rfl ?_
    refine zl s rfl rfl zx fun i47 s => ?_
    refine au 1 rfl ?_
    refine zl s rfl rfl zx fun i48 s => ?_
    refine au 1 rfl ?_
    obtain ⟨hi0, hi1, s⟩ := s
    refine zg rfl (zC ⟨k10, 0, none⟩ .i64 (i47) rfl rfl Y6 hi0 hi1 ?_)
    refine zs1 s rfl rfl rfl rfl Zl fun h49 s => ?_
    refine au 7 rfl ?_
    exact Run.of_fin (s.imp fun h' ⟨m', hm, s⟩ => ih33 ((0), (IntKind.wrap .i64 ((i29) + (1))), m') _ _ ⟨s, ⟨rfl, rfl, rfl, rfl, rfl, rfl, rfl, rfl, trivial⟩⟩ hm)
   ·refine au 5 rfl ?_
    refine zt s rfl rfl rfl zU zT (fun s => ?_) fun s => ?_
    ·refine au 3 rfl ?_
     obtain ⟨i52, hl, s⟩ := s
     have f53 := hl
     obtain ⟨hi0, hi1, s⟩ := s
     have f57 := hi0; have f58 := hi1
     obtain ⟨b59, s60, hl, s⟩ := s
     have f61 := hl
     obtain ⟨i63, hl, s⟩ := s
     have f64 := hl
     refine Run.drawM (fun h' => cellH B h' ⟨k41, 1, none⟩ = some (.int .i64 (i52)) ∧ za B h' (Addr.add ⟨k18, 12, none⟩ (Int.toNat (i52) * 2)) 0 [(.bool b59), (.string s60)] ∧ cellH B h' ⟨k41, 2, none⟩ = some (.int .i64 (i63)) ∧ True) [] ⟨[0, 0, 2, 1, 8, 20, 32, 0, 128, 320, 1023], [2047, 2047, 2045, 2046, 2039, 2027, 2015, 2047, 1919, 1727, 1535], [0, 0, 0, 0, 0, 0, 0, 0, 0, 0, 0], 0⟩ (.q 0 (.q 1 (.q 2 (.q 3 (.q 4 (.q 5 (.q 6 (.q 7 (.q 8 (.x 9 (.q 10 .nil) .no)))))))))) zR (by kernel_rfl) ⟨f53, f61, f64, trivial⟩ ?_
     refine auT 2 rfl ?_
     refine zq rfl (fun _ hC => zh ⟨k41, 1, none⟩ ((.int .i64 (i52))) rfl zx hC.1 ⟨rfl, rfl⟩) ?_
     refine auT 2 rfl ?_
     refine zq rfl (fun _ hC => zC ⟨k18, 12, none⟩ .i64 (i52) rfl rfl ZW f57 f58 ⟨rfl, rfl⟩) ?_
     refine zq rfl (fun _ hC => z0 (Addr.add ⟨k18, 12, none⟩ (Int.toNat (i52) * 2)) [(.bool b59), (.string s60)] rfl yQ yz hC.2.1 ⟨rfl, rfl⟩) ?_
     refine auT 1 rfl ?_
     refine zq rfl (fun _ hC => zh ⟨k41, 2, none⟩ ((.int .i64 (i63))) rfl zx hC.2.2.1 ⟨rfl, rfl⟩) ?_
     refine ⟨zo rfl (zA [(.agg #[(.bool b59), (.string s60)]), (.int .i64 (i63))] (za4) rfl rfl (Spec.mono s fun v h65 hv => ?_)), trivial⟩
     obtain ⟨i66, rfl, s⟩ := hv
     obtain ⟨g67, g68, g69, s⟩ := s
     refine ⟨fun _ => ⟨g67, g68, g69, trivial⟩, ?_⟩
     refine auT 1 rfl ?_
     refine au 6 rfl ?_
     exact Run.of_fin (s.imp fun h' ⟨m', hm, s⟩ => ih33 ((i66), (IntKind.wrap .i64 ((i29) + (1))), m') _ _ ⟨s, ⟨rfl, rfl, rfl, rfl, rfl, rfl, rfl, rfl, trivial⟩⟩ hm)
    ·refine au 5 rfl ?_
     refine zt s rfl rfl rfl zU zT (fun s => ?_) fun s => ?_
     ·refine au 6 rfl ?_
      refine zl s rfl rfl zx fun i70 s => ?_
      refine au 1 rfl ?_
      refine zl s rfl rfl zx fun i71 s => ?_
      refine au 1 rfl ?_
      refine zl s rfl rfl zfj fun i72 s => ?_
      refine zcall s rfl rfl zhZ ?_
      rintro _ h73 ⟨b74, rfl, s⟩
      refine au 7 rfl ?_
      exact Run.of_fin (s.imp fun h' ⟨m', hm, s⟩ => ih33 ((0), (IntKind.wrap .i64 ((i29) + (1))), m') _ _ ⟨s, ⟨rfl, rfl, rfl, rfl, rfl, rfl, rfl, rfl, trivial⟩⟩ hm)
     ·refine au 5 rfl ?_
      refine zt s rfl rfl rfl zU zT (fun s => ?_) fun s => ?_
      ·refine au 6 rfl ?_
       refine zl s rfl rfl zx fun i75 s => ?_
       refine zcall s rfl rfl zh0 ?_
       rintro _ h76 ⟨b77, rfl, s⟩
       refine au 7 rfl ?_
       exact Run.of_fin (s.imp fun h' ⟨m', hm, s⟩ => ih33 ((0), (IntKind.wrap .i64 ((i29) + (1))), m') _ _ ⟨s, ⟨rfl, rfl, rfl, rfl, rfl, rfl, rfl, rfl, trivial⟩⟩ hm)
      ·refine au 5 rfl ?_
       refine zt s rfl rfl rfl zU zT (fun s => ?_) fun s => ?_
       ·refine au 6 rfl ?_
        refine zl s rfl rfl zx fun i78 s => ?_
        refine zcall s rfl rfl zh1 ?_
        rintro _ h79 ⟨b80, rfl, s⟩
        refine au 7 rfl ?_
        exact Run.of_fin (s.imp fun h' ⟨m', hm, s⟩ => ih33 ((0), (IntKind.wrap .i64 ((i29) + (1))), m') _ _ ⟨s, ⟨rfl, rfl, rfl, rfl, rfl, rfl, rfl, rfl, trivial⟩⟩ hm)
       ·refine au 5 rfl ?_
        refine zt s rfl rfl rfl zU zT (fun s => ?_) fun s => ?_
        ·refine au 6 rfl ?_
         refine zl s rfl rfl zx fun i81 s => ?_
         refine au 1 rfl ?_
         refine zl s rfl rfl zx fun i82 s => ?_
         refine zcall s rfl rfl zh2 ?_
         rintro _ h83 ⟨b84, rfl, s⟩
         refine au 7 rfl ?_
         exact Run.of_fin (s.imp fun h' ⟨m', hm, s⟩ => ih33 ((0), (IntKind.wrap .i64 ((i29) + (1))), m') _ _ ⟨s, ⟨rfl, rfl, rfl, rfl, rfl, rfl, rfl, rfl, trivial⟩⟩ hm)
        ·refine au 5 rfl ?_
         refine zt s rfl rfl rfl zU zT (fun s => ?_) fun s => ?_
         ·refine au 6 rfl ?_
          refine zl s rfl rfl zx fun i85 s => ?_
          refine au 1 rfl ?_
          refine zl s rfl rfl zx fun i86 s => ?_
          refine zcall s rfl rfl zh3 ?_
          rintro _ h87 ⟨b88, rfl, s⟩
          refine au 7 rfl ?_
          exact Run.of_fin (s.imp fun h' ⟨m', hm, s⟩ => ih33 ((0), (IntKind.wrap .i64 ((i29) + (1))), m') _ _ ⟨s, ⟨rfl, rfl, rfl, rfl, rfl, rfl, rfl, rfl, trivial⟩⟩ hm)
         ·refine au 5 rfl ?_
          refine zt s rfl rfl rfl zU zT (fun s => ?_) fun s => ?_
          ·refine au 8 rfl ?_
           refine Run.drawM (fun h' => h' = h43) [] ⟨[0, 1, 0, 6, 8, 0, 32, 64, 128, 256, 528], [2047, 2046, 2047, 2041, 2039, 2047, 2015, 1983, 1919, 1791, 1519], [0, 0, 0, 0, 0, 0, 0, 0, 0, 0, 0], 0⟩ (.q 0 (.q 1 (.q 2 (.q 3 (.q 4 (.q 5 (.q 6 (.q 7 (.q 8 (.q 9 (.q 10 .nil))))))))))) zR (by kernel_rfl) rfl ?_
           refine auT 1 rfl ?_
           obtain ⟨i89, hl, s⟩ := s
           refine zqe rfl (zh ⟨k41, 1, none⟩ ((.int .i64 (i89))) rfl zx hl ⟨rfl, rfl⟩) ?_
           refine auT 1 rfl ?_
           obtain ⟨hi0, hi1, s⟩ := s
           refine zqe rfl (zC ⟨k10, 20, none⟩ .i64 (i89) rfl rfl Zb hi0 hi1 ⟨rfl, rfl⟩) ?_
           obtain ⟨i90, hl, s⟩ := s
           refine zqe rfl (zh (Addr.add ⟨k10, 20, none⟩ (Int.toNat (i89) * 1)) ((.int .i64 (i90))) rfl zx hl ⟨rfl, rfl⟩) ?_
           refine auT 1 rfl ?_
           obtain ⟨i91, hl, s⟩ := s
           refine zqe rfl (zh ⟨k41, 1, none⟩ ((.int .i64 (i91))) rfl zx hl ⟨rfl, rfl⟩) ?_
           obtain ⟨hi0, hi1, s⟩ := s
           refine zqe rfl (zC ⟨k12, 0, none⟩ .i64 (i91) rfl rfl Zc hi0 hi1 ⟨rfl, rfl⟩) ?_
           obtain ⟨s92, hl, s⟩ := s
           refine zqe rfl (zh (Addr.add ⟨k12, 0, none⟩ (Int.toNat (i91) * 1)) ((.string s92)) rfl yV hl ⟨rfl, rfl⟩) ?_
           refine zqe rfl (wD s92 rfl xi ⟨rfl, rfl⟩) ?_
           by_cases hb93 : (i90 : Int) < ((ByteArray.size s92 : Nat))
           ·replace s := s.1 hb93
            refine zqe rfl (wg .i64 (i90) ((ByteArray.size s92 : Nat)) (.bool true) rfl rfl (zG hb93) ⟨rfl, rfl⟩) ?_
            refine au 2 rfl ?_
            refine Run.drawM (fun h' => h' = h43) [] ⟨[0, 1, 2, 4, 0, 16, 0, 96, 128, 264, 512, 2047], [4095, 4094, 4093, 4091, 4095, 4079, 4095, 3999, 3967, 3831, 3583, 3071], [0, 0, 0, 0, 0, 0, 0, 0, 0, 0, 0, 0], 0⟩ (.q 0 (.q 1 (.q 2 (.q 3 (.q 4 (.q 5 (.q 6 (.q 7 (.q 8 (.q 9 (.q 10 (.q 11 .nil)))))))))))) zR (by kernel_rfl) rfl ?_
            refine auT 1 rfl ?_
            obtain ⟨i94, hl, s⟩ := s
            refine zqe rfl (zh ⟨k41, 1, none⟩ ((.int .i64 (i94))) rfl zx hl ⟨rfl, rfl⟩) ?_
            obtain ⟨hi0, hi1, s⟩ := s
            refine zqe rfl (zC ⟨k12, 0, none⟩ .i64 (i94) rfl rfl Zc hi0 hi1 ⟨rfl, rfl⟩) ?_
            obtain ⟨s95, hl, s⟩ := s
            refine zqe rfl (zh (Addr.add ⟨k12, 0, none⟩ (Int.toNat (i94) * 1)) ((.string s95)) rfl yV hl ⟨rfl, rfl⟩) ?_
            refine auT 1 rfl ?_
            obtain ⟨i96, hl, s⟩ := s
            refine zqe rfl (zh ⟨k41, 1, none⟩ ((.int .i64 (i96))) rfl zx hl ⟨rfl, rfl⟩) ?_
            refine auT 1 rfl ?_
            obtain ⟨hi0, hi1, s⟩ := s
            refine zqe rfl (zC ⟨k10, 20, none⟩ .i64 (i96) rfl rfl Zb hi0 hi1 ⟨rfl, rfl⟩) ?_
            obtain ⟨i97, hl, s⟩ := s
            refine zqe rfl (zh (Addr.add ⟨k10, 20, none⟩ (Int.toNat (i96) * 1)) ((.int .i64 (i97))) rfl zx hl ⟨rfl, rfl⟩) ?_
            obtain ⟨hi0, hi1, s⟩ := s
            refine zqe rfl (XI s95 .i64 (i97) rfl rfl xi hi0 hi1 ⟨rfl, rfl⟩) ?_
            refine zqe rfl (vH .u8 .i64 (x4 s95 (Int.toNat (i97))) rfl XK Zx ⟨rfl, rfl⟩) ?_
            refine auT 1 rfl ?_
            refine au 2 rfl ?_
            refine zl s rfl rfl zx fun i98 s => ?_
            refine au 1 rfl ?_
            obtain ⟨hi0, hi1, s⟩ := s
            refine zg rfl (zC ⟨k10, 20, none⟩ .i64 (i98) rfl rfl Zb hi0 hi1 ?_)
            refine zl s rfl rfl zx fun i99 s => ?_
            refine au 2 rfl ?_
            obtain ⟨hi0, hi1, s⟩ := s
            refine zg rfl (zC ⟨k10, 20, none⟩ .i64 (i98) rfl rfl Zb hi0 hi1 ?_)
            refine zs1 s rfl rfl rfl rfl Zl fun h100 s => ?_
            refine au 7 rfl ?_
            exact Run.of_fin (s.imp fun h' ⟨m', hm, s⟩ => ih33 ((IntKind.wrap .i64 (x4 s95 (Int.toNat (i97)))), (IntKind.wrap .i64 ((i29) + (1))), m') _ _ ⟨s, ⟨rfl, rfl, rfl, rfl, rfl, rfl, rfl, rfl, trivial⟩⟩ hm)
           ·replace s := s.2 hb93
            refine zqe rfl (wg .i64 (i90) ((ByteArray.size s92 : Nat)) (.bool false) rfl rfl (zF hb93) ⟨rfl, rfl⟩) ?_
            refine au 8 rfl ?_
            exact Run.of_fin (s.imp fun h' ⟨m', hm, s⟩ => ih33 (((-1)), (IntKind.wrap .i64 ((i29) + (1))), m') _ _ ⟨s, ⟨rfl, rfl, rfl, rfl, rfl, rfl, rfl, rfl, trivial⟩⟩ hm)
          ·refine au 10 rfl ?_
           exact Run.of_fin (s.imp fun h' ⟨m', hm, s⟩ => ih33 ((0), (IntKind.wrap .i64 ((i29) + (1))), m') _ _ ⟨s, ⟨rfl, rfl, rfl, rfl, rfl, rfl, rfl, rfl, trivial⟩⟩ hm)
 ·refine au 4 rfl ?_
  exact Run.of_fin (s.imp fun h' s => j20 _ _ ⟨(i28), ⟨rfl, rfl, rfl, rfl, trivial⟩, s⟩)
theorem xF.of {B : RO} {p1 : Option Addr} {h : Heap} {Q : List Value → Heap → Prop} (s : YV B p1 h Q) : xF B p1 h Q := by
 refine zspec Tryz.func20 [ResultVar.cell 2 65] rfl rfl rfl rfl rfl ?_
 refine au 2 rfl ?_
 refine zal s rfl Vr rfl fun k3 h4 s => ?_
 refine au 5 rfl ?_
 by_cases hb5 : p1 = none
 ·replace s := s.1 hb5
  refine zg rfl (zK p1 (.inl rfl) true rfl rfl V8 hb5 rfl ?_)
  refine au 4 rfl ?_
  refine zg rfl (zH [] (List.replicate 25 (.int .i64 (0))) Vr zbI rfl rfl ?_)
  refine zsn s rfl rfl rfl YF rfl fun h6 s => ?_
  refine au 1 rfl ?_
  obtain ⟨l7, hln0, hl0, s⟩ := s
  exact zr (⟨⟨k3, 0, none⟩, (.agg (List.toArray l7)), rfl, yA XW (YF.trans (congrArg some hln0.symm)) hl0, s.imp fun _ q => ⟨_, rfl, q⟩⟩)
 ·replace s := s.2 hb5
  refine zg rfl (zJ p1 (.inl rfl) false rfl rfl V8 hb5 rfl ?_)
  refine au 6 rfl ?_
  refine znil s rfl rfl fun A8 s => ?_
  refine au 1 rfl ?_
  refine zl s rfl rfl zx fun i10 s => ?_
  refine zg rfl (zH [(1, (.int .i64 (i10)))] [(.int .i64 (0)), (.int .i64 (0)), (.int .i64 (0)), (.int .i64 (0)), (.int .i64 (0)), (.int .i64 (0)), (.int .i64 (0)), (.int .i64 (0)), (.int .i64 (0)), (.int .i64 (0)), (.int .i64 (0)), (.int .i64 (0)), (.int .i64 (0)), (.int .i64 (0)), (.int .i64 (0)), (.int .i64 (0)), (.int .i64 (0)), (.int .i64 (0)), (.int .i64 (0)), (.int .i64 (0)), (.int .i64 (0)), (.int .i64 (0)), (.int .i64 (0)), (.int .i64 (0)), (.int .i64 (i10))] Vr zbI rfl rfl ?_)
  refine zal s rfl Vr rfl fun k11 h12 s => ?_
  refine zsn s rfl rfl rfl YF rfl fun h13 s => ?_
  refine au 1 rfl ?_
  refine Run.seqJ (fun e h15 => Agree [(0, (.pointer p1)), (2, (.pointer (some ⟨k3, 0, none⟩))), (3, (.pointer (some ⟨k11, 0, none⟩)))] e ∧ Yj B p1 k3 k11 h15 Q) ?_ fun j14 => ?_
  ·rintro e h15 ⟨hag, s⟩
   refine Run.env hag ?_; clear hag
   refine Run.seqJ (fun e h17 => Agree [(0, (.pointer p1)), (2, (.pointer (some ⟨k3, 0, none⟩))), (3, (.pointer (some ⟨k11, 0, none⟩)))] e ∧ Yk B p1 k3 k11 h17 Q) ?_ fun j16 => ?_
   ·rintro e h17 ⟨hag, s⟩
    refine Run.env hag ?_; clear hag
    refine au 6 rfl ?_
    obtain ⟨J23, m21, h0, s⟩ := s
    refine Run.of_fin (h0.imp fun h' h0 => ?_)
    refine Run.loop (σ := Int × Nat) (fun x e h => J23 x.1 x.2 h ∧ Agree [(0, (.pointer p1)), (2, (.pointer (some ⟨k3, 0, none⟩))), (3, (.pointer (some ⟨k11, 0, none⟩))), (46, (.int .i64 (x.1)))] e) (fun x => x.2) ((0), m21) ⟨h0, ⟨rfl, rfl, rfl, rfl, trivial⟩⟩ ?_; clear h0
    rintro ⟨i18, m20⟩ e h19 ⟨hJ, hag⟩ ih22
    have s := s i18 m20 h19 hJ; clear hJ
    refine Run.env hag ?_; clear hag
    refine au 2 rfl ?_
    refine zt s rfl rfl rfl zG zF (fun s => ?_) fun s => ?_
    ·refine au 14 rfl ?_
     refine znil s rfl rfl fun A24 s => ?_
     refine au 1 rfl ?_
     refine zl s rfl rfl Yy fun p26 s => ?_
     refine au 1 rfl ?_
     refine zcall s rfl rfl Wo ?_
     rintro _ h27 ⟨i28, i29, rfl, s⟩
     refine au 4 rfl ?_
     obtain ⟨hi0, hi1, s⟩ := s
     refine zg rfl (zC ⟨k11, 0, none⟩ .i64 (2) rfl rfl V7 hi0 hi1 ?_)
     obtain ⟨hi0, hi1, s⟩ := s
     refine zg rfl (zC ⟨k11, 16, none⟩ .i64 (i18) rfl rfl Y6 hi0 hi1 ?_)
     refine zs1 s rfl rfl rfl rfl Zl fun h30 s => ?_
     refine au 6 rfl ?_
     exact Run.of_fin (s.imp fun h' ⟨m', hm, s⟩ => ih22 ((IntKind.wrap .i64 ((i18) + (1))), m') _ _ ⟨s, ⟨rfl, rfl, rfl, rfl, trivial⟩⟩ hm)
    ·refine au 6 rfl ?_
     obtain ⟨l31, nl31, hl, s⟩ := s
     refine zg rfl (z0 ⟨k11, 0, none⟩ l31 rfl XW (YF.trans (congrArg some nl31.symm)) hl ?_)
     obtain ⟨hln, h32, hst, s⟩ := s
     refine zg0 rfl (y7 ⟨k3, 0, none⟩ l31 h32 rfl rfl (YF.trans (congrArg some hln.symm)) hst ?_)
     refine au 1 rfl ?_
     obtain ⟨l33, hln0, hl0, s⟩ := s
     exact zr (⟨⟨k3, 0, none⟩, (.agg (List.toArray l33)), rfl, yA XW (YF.trans (congrArg some hln0.symm)) hl0, s.imp fun _ q => ⟨_, rfl, q⟩⟩)
   refine au 5 rfl ?_
   obtain ⟨J39, m37, h0, s⟩ := s
   refine Run.of_fin (h0.imp fun h' h0 => ?_)
   refine Run.loop (σ := Int × Nat) (fun x e h => J39 x.1 x.2 h ∧ Agree [(0, (.pointer p1)), (2, (.pointer (some ⟨k3, 0, none⟩))), (3, (.pointer (some ⟨k11, 0, none⟩))), (29, (.int .i64 (x.1)))] e) (fun x => x.2) ((0), m37) ⟨h0, ⟨rfl, rfl, rfl, rfl, trivial⟩⟩ ?_; clear h0
   rintro ⟨i34, m36⟩ e h35 ⟨hJ, hag⟩ ih38
   have s := s i34 m36 h35 hJ; clear hJ
   refine Run.env hag ?_; clear hag
   refine au 2 rfl ?_
   refine zt s rfl rfl rfl zG zF (fun s => ?_) fun s => ?_
   ·refine au 14 rfl ?_
    refine znil s rfl rfl fun A40 s => ?_
    refine au 1 rfl ?_
    refine zl s rfl rfl Za fun p42 s => ?_
    refine au 1 rfl ?_
    refine zcall s rfl rfl za3 ?_
    rintro _ h43 ⟨b44, s45, i46, rfl, s⟩
    refine au 4 rfl ?_
    obtain ⟨hi0, hi1, s⟩ := s
    refine zg rfl (zC ⟨k11, 0, none⟩ .i64 (1) rfl rfl V7 hi0 hi1 ?_)
    obtain ⟨hi0, hi1, s⟩ := s
    refine zg rfl (zC ⟨k11, 8, none⟩ .i64 (i34) rfl rfl Y6 hi0 hi1 ?_)
    refine zs1 s rfl rfl rfl rfl Zl fun h47 s => ?_
    refine au 6 rfl ?_
    exact Run.of_fin (s.imp fun h' ⟨m', hm, s⟩ => ih38 ((IntKind.wrap .i64 ((i34) + (1))), m') _ _ ⟨s, ⟨rfl, rfl, rfl, rfl, trivial⟩⟩ hm)
   ·refine au 4 rfl ?_
    exact Run.of_fin (s.imp fun h' s => j16 _ _ ⟨⟨rfl, rfl, rfl, trivial⟩, s⟩)
  refine au 5 rfl ?_
  obtain ⟨J53, m51, h0, s⟩ := s
  refine Run.of_fin (h0.imp fun h' h0 => ?_)
  refine Run.loop (σ := Int × Nat) (fun x e h => J53 x.1 x.2 h ∧ Agree [(0, (.pointer p1)), (2, (.pointer (some ⟨k3, 0, none⟩))), (3, (.pointer (some ⟨k11, 0, none⟩))), (15, (.int .i64 (x.1)))] e) (fun x => x.2) ((0), m51) ⟨h0, ⟨rfl, rfl, rfl, rfl, trivial⟩⟩ ?_; clear h0
  rintro ⟨i48, m50⟩ e h49 ⟨hJ, hag⟩ ih52
  have s := s i48 m50 h49 hJ; clear hJ
  refine Run.env hag ?_; clear hag
  refine au 2 rfl ?_
  refine zt s rfl rfl rfl zG zF (fun s => ?_) fun s => ?_
  ·refine au 14 rfl ?_
   refine znil s rfl rfl fun A54 s => ?_
   refine au 1 rfl ?_
   refine zl s rfl rfl XV fun p56 s => ?_
   refine au 1 rfl ?_
   refine zcall s rfl rfl zh4 ?_
   rintro _ h57 ⟨i58, rfl, s⟩
   refine au 1 rfl ?_
   obtain ⟨hi0, hi1, s⟩ := s
   refine zg rfl (zC ⟨k11, 0, none⟩ .i64 (0) rfl rfl V7 hi0 hi1 ?_)
   obtain ⟨hi0, hi1, s⟩ := s
   refine zg rfl (zC ⟨k11, 0, none⟩ .i64 (i48) rfl rfl Y6 hi0 hi1 ?_)
   refine zs1 s rfl rfl rfl rfl Zl fun h59 s => ?_
   refine au 6 rfl ?_
   exact Run.of_fin (s.imp fun h' ⟨m', hm, s⟩ => ih52 ((IntKind.wrap .i64 ((i48) + (1))), m') _ _ ⟨s, ⟨rfl, rfl, rfl, rfl, trivial⟩⟩ hm)
  ·refine au 4 rfl ?_
   exact Run.of_fin (s.imp fun h' s => j14 _ _ ⟨⟨rfl, rfl, rfl, trivial⟩, s⟩)
theorem xf.of {B : RO} {p1 : Option Addr} {i2 : Int} {i3 : Int} {h : Heap} {Q : Int → Heap → Prop} (s : ZJ B p1 i2 i3 h Q) : xf B p1 i2 i3 h Q := by
 refine zspec Tryz.func21 [ResultVar.tmp 6] rfl rfl rfl rfl rfl ?_
 refine au 4 rfl ?_
 refine Run.seqJ (fun e h6 => Agree [(0, (.pointer p1)), (1, (.int .i64 (i2))), (2, (.int .i64 (i3)))] e ∧ vI B p1 i2 i3 h6 Q) ?_ fun j5 => ?_
 ·rintro e h6 ⟨hag, s⟩
  refine Run.env hag ?_; clear hag
  refine au 3 rfl ?_
  refine znil s rfl rfl fun A7 s => ?_
  refine au 2 rfl ?_
  refine zl s rfl rfl XX fun p9 s => ?_
  refine au 2 rfl ?_
  refine zcall s rfl rfl zh5 ?_
  rintro _ h10 ⟨b11, rfl, s⟩
  refine au 5 rfl ?_
  exact zr (s.imp fun _ q => ⟨_, rfl, q⟩)
 refine au 4 rfl ?_
 by_cases hb12 : p1 = none
 ·replace s := s.1 hb12
  refine zg rfl (zK p1 (.inl rfl) true rfl rfl yn hb12 rfl ?_)
  refine au 7 rfl ?_
  exact zr (s.imp fun _ q => ⟨_, rfl, q⟩)
 ·replace s := s.2 hb12
  refine zg rfl (zJ p1 (.inl rfl) false rfl rfl yn hb12 rfl ?_)
  refine au 6 rfl ?_
  refine zt s rfl rfl rfl zG zF (fun s => ?_) fun s => ?_
  ·refine au 11 rfl ?_
   exact zr (s.imp fun _ q => ⟨_, rfl, q⟩)
  ·refine au 2 rfl ?_
   refine zt s rfl rfl rfl yP yO (fun s => ?_) fun s => ?_
   ·refine au 8 rfl ?_
    exact zr (s.imp fun _ q => ⟨_, rfl, q⟩)
   ·refine au 6 rfl ?_
    exact Run.of_fin (s.imp fun h' s => j5 _ _ ⟨⟨rfl, rfl, rfl, trivial⟩, s⟩)
theorem xe.of {B : RO} {p1 : Option Addr} {h : Heap} {Q : Option Addr → Heap → Prop} (s : ZI B p1 h Q) : xe B p1 h Q := by
 refine zspec Tryz.func22 [ResultVar.tmp 2] rfl rfl rfl rfl rfl ?_
 refine au 8 rfl ?_
 by_cases hb3 : p1 = none
 ·replace s := s.1 hb3
  refine zg rfl (zK p1 (.inl rfl) true rfl rfl yn hb3 rfl ?_)
  refine au 6 rfl ?_
  exact zr (s.imp fun _ q => ⟨_, rfl, q⟩)
 ·replace s := s.2 hb3
  refine zg rfl (zJ p1 (.inl rfl) false rfl rfl yn hb3 rfl ?_)
  refine au 6 rfl ?_
  refine znil s rfl rfl fun A4 s => ?_
  refine au 1 rfl ?_
  refine zl s rfl rfl zbE fun p6 s => ?_
  refine au 2 rfl ?_
  exact zr (s.imp fun _ q => ⟨_, rfl, q⟩)
theorem wo.of {B : RO} {h : Heap} {Q : Option Addr → Heap → Prop} (s : W8 B h Q) : wo B h Q := by
 refine zspec Tryz.func24 [ResultVar.tmp 0] rfl rfl rfl rfl rfl ?_
 refine au 6 rfl ?_
 refine zcall s rfl rfl zdg ?_
 rintro _ h2 ⟨p3, rfl, s⟩
 refine zcall s rfl rfl zh6 ?_
 rintro _ h4 ⟨p5, rfl, s⟩
 refine zcall s rfl rfl zh7 ?_
 rintro _ h6 ⟨p7, rfl, s⟩
 refine zg rfl (zH [(0, (.pointer p3)), (1, (.pointer p5)), (2, (.pointer p7))] [(.pointer p3), (.pointer p5), (.pointer p7), (.int .i64 (0))] zix zfp rfl rfl ?_)
 refine zbn s rfl rfl rfl fun k8 h9 s => ?_
 refine au 2 rfl ?_
 exact zr (s.imp fun _ q => ⟨_, rfl, q⟩)
theorem w8.of {B : RO} {p1 : Option Addr} {i2 : Int} {i3 : Int} {i4 : Int} {i5 : Int} {h : Heap} {Q : Option Addr → Heap → Prop} (s : zbu B p1 i2 i3 i4 i5 h Q) : w8 B p1 i2 i3 i4 i5 h Q := by
 refine zspec Tryz.func25 [ResultVar.tmp 4] rfl rfl rfl rfl rfl ?_
 refine au 2 rfl ?_
 refine zbn s rfl rfl rfl fun k7 h8 s => ?_
 refine au 2 rfl ?_
 refine Run.seqJ (fun e h11 => ∃ p10 : Option Addr, Agree [(0, (.pointer p10)), (3, (.pointer (some ⟨k7, 0, none⟩)))] e ∧ Zv B k7 p10 h11 Q) ?_ fun j9 => ?_
 ·rintro e h11 ⟨p10, hag, s⟩
  refine Run.env hag ?_; clear hag
  refine au 1 rfl ?_
  obtain ⟨A14, e15, s⟩ := s
  obtain ⟨i18, hl, s⟩ := s
  have f19 := hl
  obtain ⟨i20, i21, i22, i23, hl, s⟩ := s
  have f24 := hl
  refine Run.drawM (fun h' => cellH B h' (Addr.add A14 3) = some (.int .i64 (i18)) ∧ za B h' ⟨k7, 0, none⟩ 0 [(.int .i64 (i20)), (.int .i64 (i21)), (.int .i64 (i22)), (.int .i64 (i23))] ∧ True) [] ⟨[0, 0, 2, 4, 8, 16, 0, 96, 0, 256, 0, 1024, 2721, 4096, 16383], [32767, 32767, 32765, 32763, 32759, 32751, 32767, 32703, 32767, 32511, 32767, 31743, 30046, 28671, 24575], [0, 0, 0, 0, 0, 0, 0, 0, 0, 0, 0, 0, 0, 0, 0], 0⟩ (.q 0 (.q 1 (.q 2 (.q 3 (.q 4 (.q 6 (.q 8 (.q 10 (.x 5 (.x 7 (.x 9 (.x 11 (.q 12 (.x 13 (.q 14 .nil) .no)) .no) (.x 11 (.x 9 (.q 12 (.x 13 (.q 14 .nil) .no)) .no) .no)) (.x 9 (.x 7 (.x 11 (.q 12 (.x 13 (.q 14 .nil) .no)) .no) (.x 11 (.x 7 (.q 12 (.x 13 (.q 14 .nil) .no)) .no) .no)) (.x 11 (.x 7 (.x 9 (.q 12 (.x 13 (.q 14 .nil) .no)) .no) (.x 9 (.x 7 (.q 12 (.x 13 (.q 14 .nil) .no)) .no) .no)) .no))) (.x 9 (.x 5 (.x 7 (.x 11 (.q 12 (.x 13 (.q 14 .nil) .no)) .no) (.x 11 (.x 7 (.q 12 (.x 13 (.q 14 .nil) .no)) .no) .no)) (.x 11 (.x 5 (.x 7 (.q 12 (.x 13 (.q 14 .nil) .no)) .no) .no) .no)) (.x 11 (.x 5 (.x 7 (.x 9 (.q 12 (.x 13 (.q 14 .nil) .no)) .no) (.x 9 (.x 7 (.q 12 (.x 13 (.q 14 .nil) .no)) .no) .no)) (.x 9 (.x 5 (.x 7 (.q 12 (.x 13 (.q 14 .nil) .no)) .no) .no) .no)) .no))))))))))) zR (by kernel_rfl) ⟨f19, f24, trivial⟩ ?_
  refine auT 2 rfl ?_
  refine zq rfl (fun _ hC => zp A14 (congrArg Value.pointer e15) ⟨rfl, rfl⟩) ?_
  refine auT 1 rfl ?_
  refine zq rfl (fun _ hC => zh (Addr.add A14 3) ((.int .i64 (i18))) rfl zx hC.1 ⟨rfl, rfl⟩) ?_
  refine zq rfl (fun _ hC => z0 ⟨k7, 0, none⟩ [(.int .i64 (i20)), (.int .i64 (i21)), (.int .i64 (i22)), (.int .i64 (i23))] rfl ZU Yb hC.2.1 ⟨rfl, rfl⟩) ?_
  refine zq rfl (fun _ hC => zH [] [(.slice none 0 0), (.slice none 0 0), (.slice none 0 0), (.slice none 0 0)] zgP zeP rfl rfl ⟨rfl, rfl⟩) ?_
  refine zq rfl (fun _ hC => zH [] [(.slice none 0 0)] zgQ zeQ rfl rfl ⟨rfl, rfl⟩) ?_
  refine RunT.joinJ (t := (.q 12 (.x 13 (.q 14 .nil) .no))) (fun e h240 => ∃ p230 : Option Addr, ∃ p231 : Option Addr, ∃ p232 : Option Addr, ∃ p233 : Option Addr, ∃ i234 : Int, ∃ i235 : Int, ∃ i236 : Int, ∃ i237 : Int, ∃ A238 : Addr, ∃ A239 : Addr, Agree [(8, (.pointer p10)), (13, (.pointer p230)), (15, (.agg #[(.pointer p231), (.pointer p232), (.pointer p233), (.int .i64 (i234)), (.int .i64 (i235)), (.int .i64 (i236)), (.int .i64 (i237))])), (17, (.pointer (some A238))), (19, (.pointer (some A239)))] e ∧ cellH B h240 (Addr.add A14 3) = some (.int .i64 (i18)) ∧ za B h240 ⟨k7, 0, none⟩ 0 [(.int .i64 (i20)), (.int .i64 (i21)), (.int .i64 (i22)), (.int .i64 (i23))] ∧ yw B k7 p10 A14 i18 i20 i21 i22 i23 p230 p231 p232 p233 i234 i235 i236 i237 A238 A239 h240 Q) ?_ fun j229 => ?_
  ·rintro e h240 ⟨p230, p231, p232, p233, i234, i235, i236, i237, A238, A239, hag, g241, g242, s⟩
   refine RunT.env hag ?_; clear hag
   refine zq rfl (fun _ _ => zH [(0, (.pointer p10)), (1, (.pointer p230)), (2, (.agg #[(.pointer p231), (.pointer p232), (.pointer p233), (.int .i64 (i234)), (.int .i64 (i235)), (.int .i64 (i236)), (.int .i64 (i237))])), (3, (.pointer (some A238))), (4, (.pointer (some A239)))] [(.pointer p10), (.pointer p230), (.pointer p231), (.pointer p232), (.pointer p233), (.int .i64 (i234)), (.int .i64 (i235)), (.int .i64 (i236)), (.int .i64 (i237)), (.pointer (some A238)), (.pointer (some A239))] zgL zeL rfl rfl ⟨rfl, rfl⟩) ?_
   refine ⟨zo rfl (yc [(.pointer p10), (.pointer p230), (.pointer p231), (.pointer p232), (.pointer p233), (.int .i64 (i234)), (.int .i64 (i235)), (.int .i64 (i236)), (.int .i64 (i237)), (.pointer (some A238)), (.pointer (some A239))] rfl (fun k243 hb1 hb2 h244 hb3 => ?_)), trivial⟩
   have s := s k243 hb1 hb2 h244 hb3
   obtain ⟨g245, g246, s⟩ := s
   refine ⟨fun _ => ⟨g245, g246, trivial⟩, ?_⟩
   refine auT 1 rfl ?_
   exact zr (s.imp fun _ q => ⟨_, rfl, q⟩)
  refine ⟨?_, ?_, ?_, trivial⟩
  ·have s := s.1
   refine zo rfl (zA [(.int .i64 (i18))] (Wp) rfl rfl (Spec.mono s fun v h247 hv => ?_))
   obtain ⟨p248, rfl, s⟩ := hv
   obtain ⟨g249, g250, s⟩ := s
   refine ⟨fun _ => ⟨g249, g250, trivial⟩, ?_⟩
   refine ⟨?_, ?_, ?_, trivial⟩
   ·have s := s.1
    refine zo rfl (zA [(.agg #[(.int .i64 (i20)), (.int .i64 (i21)), (.int .i64 (i22)), (.int .i64 (i23))])] (wY) rfl rfl (Spec.mono s fun v h251 hv => ?_))
    obtain ⟨p252, p253, p254, i255, i256, i257, i258, rfl, s⟩ := hv
    obtain ⟨g259, g260, s⟩ := s
    refine ⟨fun _ => ⟨g259, g260, trivial⟩, ?_⟩
    refine ⟨?_, ?_, trivial⟩
    ·have s := s.1
     refine zo rfl (yc [(.slice none 0 0), (.slice none 0 0), (.slice none 0 0), (.slice none 0 0)] rfl (fun k261 hb1 hb2 h262 hb3 => ?_))
     have s := s k261 hb1 hb2 h262 hb3
     obtain ⟨g263, g264, s⟩ := s
     refine ⟨fun _ => ⟨g263, g264, trivial⟩, ?_⟩
     refine ⟨zo rfl (yc [(.slice none 0 0)] rfl (fun k265 hb1 hb2 h266 hb3 => ?_)), trivial⟩
     have s := s k265 hb1 hb2 h266 hb3
     obtain ⟨g267, g268, s⟩ := s
     refine ⟨fun _ => ⟨g267, g268, trivial⟩, ?_⟩
     exact j229 _ _ ⟨p248, p252, p253, p254, (i255), (i256), (i257), (i258), ⟨k261, 0, none⟩, ⟨k265, 0, none⟩, ⟨rfl, rfl, rfl, rfl, rfl, trivial⟩, g267, g268, s⟩
    ·have s := s.2
     refine zo rfl (yc [(.slice none 0 0)] rfl (fun k269 hb1 hb2 h270 hb3 => ?_))
     have s := s k269 hb1 hb2 h270 hb3
     obtain ⟨g271, g272, s⟩ := s
     refine ⟨fun _ => ⟨g271, g272, trivial⟩, ?_⟩
     refine ⟨zo rfl (yc [(.slice none 0 0), (.slice none 0 0), (.slice none 0 0), (.slice none 0 0)] rfl (fun k273 hb1 hb2 h274 hb3 => ?_)), trivial⟩
     have s := s k273 hb1 hb2 h274 hb3
     obtain ⟨g275, g276, s⟩ := s
     refine ⟨fun _ => ⟨g275, g276, trivial⟩, ?_⟩
     exact j229 _ _ ⟨p248, p252, p253, p254, (i255), (i256), (i257), (i258), ⟨k273, 0, none⟩, ⟨k269, 0, none⟩, ⟨rfl, rfl, rfl, rfl, rfl, trivial⟩, g275, g276, s⟩
   ·have s := s.2.1
    refine zo rfl (yc [(.slice none 0 0), (.slice none 0 0), (.slice none 0 0), (.slice none 0 0)] rfl (fun k277 hb1 hb2 h278 hb3 => ?_))
    have s := s k277 hb1 hb2 h278 hb3
    obtain ⟨g279, g280, s⟩ := s
    refine ⟨fun _ => ⟨g279, g280, trivial⟩, ?_⟩
    refine ⟨?_, ?_, trivial⟩
    ·have s := s.1
     refine zo rfl (zA [(.agg #[(.int .i64 (i20)), (.int .i64 (i21)), (.int .i64 (i22)), (.int .i64 (i23))])] (wY) rfl rfl (Spec.mono s fun v h281 hv => ?_))
     obtain ⟨p282, p283, p284, i285, i286, i287, i288, rfl, s⟩ := hv
     obtain ⟨g289, g290, s⟩ := s
     refine ⟨fun _ => ⟨g289, g290, trivial⟩, ?_⟩
     refine ⟨zo rfl (yc [(.slice none 0 0)] rfl (fun k291 hb1 hb2 h292 hb3 => ?_)), trivial⟩
     have s := s k291 hb1 hb2 h292 hb3
     obtain ⟨g293, g294, s⟩ := s
     refine ⟨fun _ => ⟨g293, g294, trivial⟩, ?_⟩
     exact j229 _ _ ⟨p248, p282, p283, p284, (i285), (i286), (i287), (i288), ⟨k277, 0, none⟩, ⟨k291, 0, none⟩, ⟨rfl, rfl, rfl, rfl, rfl, trivial⟩, g293, g294, s⟩
    ·have s := s.2
     refine zo rfl (yc [(.slice none 0 0)] rfl (fun k295 hb1 hb2 h296 hb3 => ?_))
     have s := s k295 hb1 hb2 h296 hb3
     obtain ⟨g297, g298, s⟩ := s
     refine ⟨fun _ => ⟨g297, g298, trivial⟩, ?_⟩
     refine ⟨zo rfl (zA [(.agg #[(.int .i64 (i20)), (.int .i64 (i21)), (.int .i64 (i22)), (.int .i64 (i23))])] (wY) rfl rfl (Spec.mono s fun v h299 hv => ?_)), trivial⟩
     obtain ⟨p300, p301, p302, i303, i304, i305, i306, rfl, s⟩ := hv
     obtain ⟨g307, g308, s⟩ := s
     refine ⟨fun _ => ⟨g307, g308, trivial⟩, ?_⟩
     exact j229 _ _ ⟨p248, p300, p301, p302, (i303), (i304), (i305), (i306), ⟨k277, 0, none⟩, ⟨k295, 0, none⟩, ⟨rfl, rfl, rfl, rfl, rfl, trivial⟩, g307, g308, s⟩
   ·have s := s.2.2
    refine zo rfl (yc [(.slice none 0 0)] rfl (fun k309 hb1 hb2 h310 hb3 => ?_))
    have s := s k309 hb1 hb2 h310 hb3
    obtain ⟨g311, g312, s⟩ := s
    refine ⟨fun _ => ⟨g311, g312, trivial⟩, ?_⟩
    refine ⟨?_, ?_, trivial⟩
    ·have s := s.1
     refine zo rfl (zA [(.agg #[(.int .i64 (i20)), (.int .i64 (i21)), (.int .i64 (i22)), (.int .i64 (i23))])] (wY) rfl rfl (Spec.mono s fun v h313 hv => ?_))
     obtain ⟨p314, p315, p316, i317, i318, i319, i320, rfl, s⟩ := hv
     obtain ⟨g321, g322, s⟩ := s
     refine ⟨fun _ => ⟨g321, g322, trivial⟩, ?_⟩
     refine ⟨zo rfl (yc [(.slice none 0 0), (.slice none 0 0), (.slice none 0 0), (.slice none 0 0)] rfl (fun k323 hb1 hb2 h324 hb3 => ?_)), trivial⟩
     have s := s k323 hb1 hb2 h324 hb3
     obtain ⟨g325, g326, s⟩ := s
     refine ⟨fun _ => ⟨g325, g326, trivial⟩, ?_⟩
     exact j229 _ _ ⟨p248, p314, p315, p316, (i317), (i318), (i319), (i320), ⟨k323, 0, none⟩, ⟨k309, 0, none⟩, ⟨rfl, rfl, rfl, rfl, rfl, trivial⟩, g325, g326, s⟩
    ·have s := s.2
     refine zo rfl (yc [(.slice none 0 0), (.slice none 0 0), (.slice none 0 0), (.slice none 0 0)] rfl (fun k327 hb1 hb2 h328 hb3 => ?_))
     have s := s k327 hb1 hb2 h328 hb3
     obtain ⟨g329, g330, s⟩ := s
     refine ⟨fun _ => ⟨g329, g330, trivial⟩, ?_⟩
     refine ⟨zo rfl (zA [(.agg #[(.int .i64 (i20)), (.int .i64 (i21)), (.int .i64 (i22)), (.int .i64 (i23))])] (wY) rfl rfl (Spec.mono s fun v h331 hv => ?_)), trivial⟩
     obtain ⟨p332, p333, p334, i335, i336, i337, i338, rfl, s⟩ := hv
     obtain ⟨g339, g340, s⟩ := s
     refine ⟨fun _ => ⟨g339, g340, trivial⟩, ?_⟩
     exact j229 _ _ ⟨p248, p332, p333, p334, (i335), (i336), (i337), (i338), ⟨k327, 0, none⟩, ⟨k309, 0, none⟩, ⟨rfl, rfl, rfl, rfl, rfl, trivial⟩, g339, g340, s⟩
  ·have s := s.2.1
   refine zo rfl (yc [(.slice none 0 0), (.slice none 0 0), (.slice none 0 0), (.slice none 0 0)] rfl (fun k341 hb1 hb2 h342 hb3 => ?_))
   have s := s k341 hb1 hb2 h342 hb3
   obtain ⟨g343, g344, s⟩ := s
   refine ⟨fun _ => ⟨g343, g344, trivial⟩, ?_⟩
   refine ⟨?_, ?_, trivial⟩
   ·have s := s.1
    refine zo rfl (zA [(.int .i64 (i18))] (Wp) rfl rfl (Spec.mono s fun v h345 hv => ?_))
    obtain ⟨p346, rfl, s⟩ := hv
    obtain ⟨g347, g348, s⟩ := s
    refine ⟨fun _ => ⟨g347, g348, trivial⟩, ?_⟩
    refine ⟨?_, ?_, trivial⟩
    ·have s := s.1
     refine zo rfl (zA [(.agg #[(.int .i64 (i20)), (.int .i64 (i21)), (.int .i64 (i22)), (.int .i64 (i23))])] (wY) rfl rfl (Spec.mono s fun v h349 hv => ?_))
     obtain ⟨p350, p351, p352, i353, i354, i355, i356, rfl, s⟩ := hv
     obtain ⟨g357, g358, s⟩ := s
     refine ⟨fun _ => ⟨g357, g358, trivial⟩, ?_⟩
     refine ⟨zo rfl (yc [(.slice none 0 0)] rfl (fun k359 hb1 hb2 h360 hb3 => ?_)), trivial⟩
     have s := s k359 hb1 hb2 h360 hb3
     obtain ⟨g361, g362, s⟩ := s
     refine ⟨fun _ => ⟨g361, g362, trivial⟩, ?_⟩
     exact j229 _ _ ⟨p346, p350, p351, p352, (i353), (i354), (i355), (i356), ⟨k341, 0, none⟩, ⟨k359, 0, none⟩, ⟨rfl, rfl, rfl, rfl, rfl, trivial⟩, g361, g362, s⟩
    ·have s := s.2
     refine zo rfl (yc [(.slice none 0 0)] rfl (fun k363 hb1 hb2 h364 hb3 => ?_))
     have s := s k363 hb1 hb2 h364 hb3
     obtain ⟨g365, g366, s⟩ := s
     refine ⟨fun _ => ⟨g365, g366, trivial⟩, ?_⟩
     refine ⟨zo rfl (zA [(.agg #[(.int .i64 (i20)), (.int .i64 (i21)), (.int .i64 (i22)), (.int .i64 (i23))])] (wY) rfl rfl (Spec.mono s fun v h367 hv => ?_)), trivial⟩
     obtain ⟨p368, p369, p370, i371, i372, i373, i374, rfl, s⟩ := hv
     obtain ⟨g375, g376, s⟩ := s
     refine ⟨fun _ => ⟨g375, g376, trivial⟩, ?_⟩
     exact j229 _ _ ⟨p346, p368, p369, p370, (i371), (i372), (i373), (i374), ⟨k341, 0, none⟩, ⟨k363, 0, none⟩, ⟨rfl, rfl, rfl, rfl, rfl, trivial⟩, g375, g376, s⟩
   ·have s := s.2
    refine zo rfl (yc [(.slice none 0 0)] rfl (fun k377 hb1 hb2 h378 hb3 => ?_))
    have s := s k377 hb1 hb2 h378 hb3
    obtain ⟨g379, g380, s⟩ := s
    refine ⟨fun _ => ⟨g379, g380, trivial⟩, ?_⟩
    refine ⟨zo rfl (zA [(.int .i64 (i18))] (Wp) rfl rfl (Spec.mono s fun v h381 hv => ?_)), trivial⟩
    obtain ⟨p382, rfl, s⟩ := hv
    obtain ⟨g383, g384, s⟩ := s
    refine ⟨fun _ => ⟨g383, g384, trivial⟩, ?_⟩
    refine ⟨zo rfl (zA [(.agg #[(.int .i64 (i20)), (.int .i64 (i21)), (.int .i64 (i22)), (.int .i64 (i23))])] (wY) rfl rfl (Spec.mono s fun v h385 hv => ?_)), trivial⟩
    obtain ⟨p386, p387, p388, i389, i390, i391, i392, rfl, s⟩ := hv
    obtain ⟨g393, g394, s⟩ := s
    refine ⟨fun _ => ⟨g393, g394, trivial⟩, ?_⟩
    exact j229 _ _ ⟨p382, p386, p387, p388, (i389), (i390), (i391), (i392), ⟨k341, 0, none⟩, ⟨k377, 0, none⟩, ⟨rfl, rfl, rfl, rfl, rfl, trivial⟩, g393, g394, s⟩
  ·have s := s.2.2
   refine zo rfl (yc [(.slice none 0 0)] rfl (fun k395 hb1 hb2 h396 hb3 => ?_))
   have s := s k395 hb1 hb2 h396 hb3
   obtain ⟨g397, g398, s⟩ := s
   refine ⟨fun _ => ⟨g397, g398, trivial⟩, ?_⟩
   refine ⟨?_, ?_, trivial⟩
   ·have s := s.1
    refine zo rfl (zA [(.int .i64 (i18))] (Wp) rfl rfl (Spec.mono s fun v h399 hv => ?_))
    obtain ⟨p400, rfl, s⟩ := hv
    obtain ⟨g401, g402, s⟩ := s
    refine ⟨fun _ => ⟨g401, g402, trivial⟩, ?_⟩
    refine ⟨?_, ?_, trivial⟩
    ·have s := s.1
     refine zo rfl (zA [(.agg #[(.int .i64 (i20)), (.int .i64 (i21)), (.int .i64 (i22)), (.int .i64 (i23))])] (wY) rfl rfl (Spec.mono s fun v h403 hv => ?_))
     obtain ⟨p404, p405, p406, i407, i408, i409, i410, rfl, s⟩ := hv
     obtain ⟨g411, g412, s⟩ := s
     refine ⟨fun _ => ⟨g411, g412, trivial⟩, ?_⟩
     refine ⟨zo rfl (yc [(.slice none 0 0), (.slice none 0 0), (.slice none 0 0), (.slice none 0 0)] rfl (fun k413 hb1 hb2 h414 hb3 => ?_)), trivial⟩
     have s := s k413 hb1 hb2 h414 hb3
     obtain ⟨g415, g416, s⟩ := s
     refine ⟨fun _ => ⟨g415, g416, trivial⟩, ?_⟩
     exact j229 _ _ ⟨p400, p404, p405, p406, (i407), (i408), (i409), (i410), ⟨k413, 0, none⟩, ⟨k395, 0, none⟩, ⟨rfl, rfl, rfl, rfl, rfl, trivial⟩, g415, g416, s⟩
    ·have s := s.2
     refine zo rfl (yc [(.slice none 0 0), (.slice none 0 0), (.slice none 0 0), (.slice none 0 0)] rfl (fun k417 hb1 hb2 h418 hb3 => ?_))
     have s := s k417 hb1 hb2 h418 hb3
     obtain ⟨g419, g420, s⟩ := s
     refine ⟨fun _ => ⟨g419, g420, trivial⟩, ?_⟩
     refine ⟨zo rfl (zA [(.agg #[(.int .i64 (i20)), (.int .i64 (i21)), (.int .i64 (i22)), (.int .i64 (i23))])] (wY) rfl rfl (Spec.mono s fun v h421 hv => ?_)), trivial⟩
     obtain ⟨p422, p423, p424, i425, i426, i427, i428, rfl, s⟩ := hv
     obtain ⟨g429, g430, s⟩ := s
     refine ⟨fun _ => ⟨g429, g430, trivial⟩, ?_⟩
     exact j229 _ _ ⟨p400, p422, p423, p424, (i425), (i426), (i427), (i428), ⟨k417, 0, none⟩, ⟨k395, 0, none⟩, ⟨rfl, rfl, rfl, rfl, rfl, trivial⟩, g429, g430, s⟩
   ·have s := s.2
    refine zo rfl (yc [(.slice none 0 0), (.slice none 0 0), (.slice none 0 0), (.slice none 0 0)] rfl (fun k431 hb1 hb2 h432 hb3 => ?_))
    have s := s k431 hb1 hb2 h432 hb3
    obtain ⟨g433, g434, s⟩ := s
    refine ⟨fun _ => ⟨g433, g434, trivial⟩, ?_⟩
    refine ⟨zo rfl (zA [(.int .i64 (i18))] (Wp) rfl rfl (Spec.mono s fun v h435 hv => ?_)), trivial⟩
    obtain ⟨p436, rfl, s⟩ := hv
    obtain ⟨g437, g438, s⟩ := s
    refine ⟨fun _ => ⟨g437, g438, trivial⟩, ?_⟩
    refine ⟨zo rfl (zA [(.agg #[(.int .i64 (i20)), (.int .i64 (i21)), (.int .i64 (i22)), (.int .i64 (i23))])] (wY) rfl rfl (Spec.mono s fun v h439 hv => ?_)), trivial⟩
    obtain ⟨p440, p441, p442, i443, i444, i445, i446, rfl, s⟩ := hv
    obtain ⟨g447, g448, s⟩ := s
    refine ⟨fun _ => ⟨g447, g448, trivial⟩, ?_⟩
    exact j229 _ _ ⟨p436, p440, p441, p442, (i443), (i444), (i445), (i446), ⟨k431, 0, none⟩, ⟨k395, 0, none⟩, ⟨rfl, rfl, rfl, rfl, rfl, trivial⟩, g447, g448, s⟩
 refine au 3 rfl ?_
 by_cases hb449 : p1 = none
 ·replace s := s.1 hb449
  refine zg rfl (zK p1 (.inl rfl) true rfl rfl V8 hb449 rfl ?_)
  refine au 3 rfl ?_
  refine zcall s rfl rfl za1 ?_
  rintro _ h450 ⟨p451, rfl, s⟩
  refine au 2 rfl ?_
  exact Run.of_fin (s.imp fun h' s => j9 _ _ ⟨p451, ⟨rfl, rfl, trivial⟩, s⟩)
 ·replace s := s.2 hb449
  refine zg rfl (zJ p1 (.inl rfl) false rfl rfl V8 hb449 rfl ?_)
  refine au 3 rfl ?_
  exact Run.of_fin (s.imp fun h' s => j9 _ _ ⟨p1, ⟨rfl, rfl, trivial⟩, s⟩)
theorem vv.of {B : RO} {p1 : Option Addr} {i2 : Int} {h : Heap} {Q : Heap → Prop} (s : Xx B p1 i2 h Q) : vv B p1 i2 h Q := by
 refine zspec Tryz.func26 [] rfl rfl rfl rfl rfl ?_
 refine au 3 rfl ?_
 by_cases hb3 : p1 = none
 ·replace s := s.1 hb3
  refine zg rfl (zK p1 (.inr rfl) false rfl rfl yn hb3 rfl ?_)
  refine au 3 rfl ?_
  exact zf (s.imp fun _ q => ⟨rfl, q⟩)
 ·replace s := s.2 hb3
  refine zg rfl (zJ p1 (.inr rfl) true rfl rfl yn hb3 rfl ?_)
  refine au 2 rfl ?_
  obtain ⟨A5, e6, s⟩ := s
  obtain ⟨p9, hl, s⟩ := s
  have f10 := hl
  obtain ⟨A12, e13, s⟩ := s
  obtain ⟨p16, p17, p18, i19, i20, i21, i22, hl, s⟩ := s
  have f23 := hl
  obtain ⟨A25, e26, s⟩ := s
  obtain ⟨p29, hl, s⟩ := s
  have f30 := hl
  refine Run.drawM (fun h' => cellH B h' (Addr.add A5 10) = some (.pointer p9) ∧ za B h' (Addr.add A12 2) 0 [(.pointer p16), (.pointer p17), (.pointer p18), (.int .i64 (i19)), (.int .i64 (i20)), (.int .i64 (i21)), (.int .i64 (i22))] ∧ cellH B h' (Addr.add A25 9) = some (.pointer p29) ∧ True) [15] ⟨[0, 1, 2, 4, 0, 16, 32, 64, 0, 256, 512, 1024, 2048, 0, 12416, 20488], [65535, 65534, 65533, 65531, 65535, 65519, 65503, 65471, 65535, 65279, 65023, 64511, 63487, 65535, 53119, 49143], [0, 1, 3, 7, 0, 16, 48, 112, 0, 256, 768, 1792, 3840, 0, 16368, 32767], 32768⟩ (.q 0 (.q 1 (.q 2 (.q 3 (.q 4 (.q 5 (.q 6 (.q 7 (.q 8 (.q 9 (.q 10 (.q 11 (.q 13 (.x 12 (.q 14 (.x 15 .nil .no)) .no)))))))))))))) zR (by kernel_rfl) ⟨f10, f23, f30, trivial⟩ ?_
  refine auT 1 rfl ?_
  refine zq rfl (fun _ hC => zp A5 (congrArg Value.pointer e6) ⟨rfl, rfl⟩) ?_
  refine auT 1 rfl ?_
  refine zq rfl (fun _ hC => zh (Addr.add A5 10) ((.pointer p9)) rfl zaR hC.1 ⟨rfl, rfl⟩) ?_
  refine auT 1 rfl ?_
  refine zq rfl (fun _ hC => zp A12 (congrArg Value.pointer e13) ⟨rfl, rfl⟩) ?_
  refine auT 1 rfl ?_
  refine zq rfl (fun _ hC => z0 (Addr.add A12 2) [(.pointer p16), (.pointer p17), (.pointer p18), (.int .i64 (i19)), (.int .i64 (i20)), (.int .i64 (i21)), (.int .i64 (i22))] rfl XY Yc hC.2.1 ⟨rfl, rfl⟩) ?_
  refine auT 1 rfl ?_
  refine zq rfl (fun _ hC => zp A25 (congrArg Value.pointer e26) ⟨rfl, rfl⟩) ?_
  refine auT 1 rfl ?_
  refine zq rfl (fun _ hC => zh (Addr.add A25 9) ((.pointer p29)) rfl zbF hC.2.2.1 ⟨rfl, rfl⟩) ?_
  refine auT 1 rfl ?_
  refine ⟨zo rfl (zA [(.pointer p29)] (zh9) rfl rfl (Spec.mono s fun v h32 hv => ?_)), trivial⟩
  obtain ⟨i33, i34, i35, i36, rfl, s⟩ := hv
  obtain ⟨g37, g38, g39, s⟩ := s
  refine ⟨fun _ => ⟨g37, g38, g39, trivial⟩, ?_⟩
  refine zq rfl (fun _ _ => zH [(0, (.agg #[(.pointer p16), (.pointer p17), (.pointer p18), (.int .i64 (i19)), (.int .i64 (i20)), (.int .i64 (i21)), (.int .i64 (i22))])), (1, (.agg #[(.int .i64 (i33)), (.int .i64 (i34)), (.int .i64 (i35)), (.int .i64 (i36))])), (2, (.int .i64 (i2)))] [(.pointer p16), (.pointer p17), (.pointer p18), (.int .i64 (i19)), (.int .i64 (i20)), (.int .i64 (i21)), (.int .i64 (i22)), (.int .i64 (i33)), (.int .i64 (i34)), (.int .i64 (i35)), (.int .i64 (i36)), (.int .i64 (i2))] zaq zeR rfl rfl ⟨rfl, rfl⟩) ?_
  refine ⟨zo rfl (zA [(.pointer p9), (.agg #[(.pointer p16), (.pointer p17), (.pointer p18), (.int .i64 (i19)), (.int .i64 (i20)), (.int .i64 (i21)), (.int .i64 (i22)), (.int .i64 (i33)), (.int .i64 (i34)), (.int .i64 (i35)), (.int .i64 (i36)), (.int .i64 (i2))])] (zh8) rfl rfl (Spec.mono s fun v h40 hv => ?_)), trivial⟩
  obtain ⟨b41, rfl, s⟩ := hv
  refine ⟨fun hz => Bool.noConfusion hz, ?_⟩
  exact zf (s.imp fun _ q => ⟨rfl, q⟩)
theorem vu.of {B : RO} {p1 : Option Addr} {h : Heap} {Q : Int → Option Addr → Nat → Nat → Bool → Heap → Prop} (s : Xw B p1 h Q) : vu B p1 h Q := by
 refine zspec Tryz.func27 [ResultVar.tmp 2, ResultVar.tmp 3, ResultVar.tmp 4] rfl rfl rfl rfl rfl ?_
 refine au 10 rfl ?_
 by_cases hb7 : p1 = none
 ·replace s := s.1 hb7
  refine zg rfl (zK p1 (.inl rfl) true rfl rfl yn hb7 rfl ?_)
  refine au 8 rfl ?_
  exact zr (s.imp fun _ q => ⟨_, _, _, _, _, rfl, q⟩)
 ·replace s := s.2 hb7
  refine zg rfl (zJ p1 (.inl rfl) false rfl rfl yn hb7 rfl ?_)
  refine au 6 rfl ?_
  refine znil s rfl rfl fun A8 s => ?_
  refine au 1 rfl ?_
  refine zl s rfl rfl zaR fun p10 s => ?_
  refine zcall s rfl rfl zia ?_
  rintro _ h11 ⟨p12, p13, p14, i15, i16, i17, i18, i19, i20, i21, i22, i23, b24, rfl, s⟩
  refine au 2 rfl ?_
  cases b24
  ·replace s := s.2 rfl
   refine au 1 rfl ?_
   refine zal s rfl zaq rfl fun k25 h26 s => ?_
   refine zsn s rfl rfl rfl zel rfl fun h27 s => ?_
   refine au 15 rfl ?_
   exact zr (s.imp fun _ q => ⟨_, _, _, _, _, rfl, q⟩)
  ·replace s := s.1 rfl
   refine au 1 rfl ?_
   refine zal s rfl zaq rfl fun k28 h29 s => ?_
   refine zsn s rfl rfl rfl zel rfl fun h30 s => ?_
   refine au 14 rfl ?_
   obtain ⟨p31, p32, p33, i34, i35, i36, i37, hl, s⟩ := s
   refine zn hl rfl rfl XY Yc rfl ?_
   refine znil s rfl rfl fun A38 s => ?_
   refine au 1 rfl ?_
   refine zsn s rfl rfl rfl Yc rfl fun h40 s => ?_
   refine au 2 rfl ?_
   obtain ⟨i42, hl, s⟩ := s
   have f43 := hl
   obtain ⟨A45, e46, s⟩ := s
   obtain ⟨p49, hl, s⟩ := s
   have f50 := hl
   obtain ⟨i52, i53, i54, i55, hl, s⟩ := s
   have f56 := hl
   refine Run.drawM (fun h' => cellH B h' ⟨k28, 11, none⟩ = some (.int .i64 (i42)) ∧ cellH B h' (Addr.add A45 9) = some (.pointer p49) ∧ za B h' ⟨k28, 7, none⟩ 0 [(.int .i64 (i52)), (.int .i64 (i53)), (.int .i64 (i54)), (.int .i64 (i55))] ∧ True) [] ⟨[0, 1, 0, 4, 8, 16, 0, 64, 160, 259, 1023, 2047], [4095, 4094, 4095, 4091, 4087, 4079, 4095, 4031, 3935, 4093, 3839, 4095], [0, 0, 0, 0, 0, 0, 0, 0, 0, 0, 0, 0], 0⟩ (.q 0 (.q 1 (.q 2 (.q 3 (.q 4 (.q 5 (.q 6 (.q 7 (.x 8 (.q 9 (.q 10 (.q 11 .nil))) .no))))))))) zR (by kernel_rfl) ⟨f43, f50, f56, trivial⟩ ?_
   refine auT 1 rfl ?_
   refine zq rfl (fun _ hC => zh ⟨k28, 11, none⟩ ((.int .i64 (i42))) rfl zx hC.1 ⟨rfl, rfl⟩) ?_
   refine auT 1 rfl ?_
   refine zq rfl (fun _ hC => zp A45 (congrArg Value.pointer e46) ⟨rfl, rfl⟩) ?_
   refine auT 1 rfl ?_
   refine zq rfl (fun _ hC => zh (Addr.add A45 9) ((.pointer p49)) rfl zbF hC.2.1 ⟨rfl, rfl⟩) ?_
   refine auT 1 rfl ?_
   refine zq rfl (fun _ hC => z0 ⟨k28, 7, none⟩ [(.int .i64 (i52)), (.int .i64 (i53)), (.int .i64 (i54)), (.int .i64 (i55))] rfl zhy zjh hC.2.2.1 ⟨rfl, rfl⟩) ?_
   refine ⟨zo rfl (zA [(.pointer p49), (.agg #[(.int .i64 (i52)), (.int .i64 (i53)), (.int .i64 (i54)), (.int .i64 (i55))])] (zib) rfl rfl (Spec.mono s fun v h57 hv => ?_)), trivial⟩
   obtain ⟨a58, n59, c60, rfl, s⟩ := hv
   obtain ⟨g61, g62, g63, s⟩ := s
   refine ⟨fun _ => ⟨g61, g62, g63, trivial⟩, ?_⟩
   refine auT 3 rfl ?_
   exact zr (s.imp fun _ q => ⟨_, _, _, _, _, rfl, q⟩)
theorem wm.of {B : RO} {i1 : Int} {i2 : Int} {i3 : Int} {i4 : Int} {h : Heap} {Q : Bool → Heap → Prop} (s : Xn B i1 i2 i3 i4 h Q) : wm B i1 i2 i3 i4 h Q := by
 refine zspec Tryz.func28 [ResultVar.tmp 2] rfl rfl rfl rfl rfl ?_
 refine au 2 rfl ?_
 refine zbn s rfl rfl rfl fun k6 h7 s => ?_
 refine au 4 rfl ?_
 refine zg rfl (Zh [(0, (.int .i64 (7))), (1, (.int .i64 (7))), (2, (.int .i64 (5))), (3, (.int .i64 (5))), (4, (.int .i64 (5))), (5, (.int .i64 (5))), (6, (.int .i64 (5))), (7, (.int .i64 (5))), (8, (.int .i64 (2)))] [(.int .i64 (7)), (.int .i64 (7)), (.int .i64 (5)), (.int .i64 (5)), (.int .i64 (5)), (.int .i64 (5)), (.int .i64 (5)), (.int .i64 (5)), (.int .i64 (2))] zcq zc6 rfl rfl ?_)
 refine zal s rfl zcq rfl fun k8 h9 s => ?_
 refine zsn s rfl rfl rfl zji rfl fun h10 s => ?_
 refine au 1 rfl ?_
 refine Run.seqJ (fun e h12 => Agree [(1, (.pointer (some ⟨k6, 0, none⟩)))] e ∧ wB B k6 h12 Q) ?_ fun j11 => ?_
 ·rintro e h12 ⟨hag, s⟩
  refine Run.env hag ?_; clear hag
  refine au 3 rfl ?_
  refine zl s rfl rfl zx fun i13 s => ?_
  refine zu s rfl rfl rfl wj wi (fun s => ?_) fun s => ?_
  ·refine au 2 rfl ?_
   refine zl s rfl rfl zx fun i14 s => ?_
   refine zt s rfl rfl rfl yP yO (fun s => ?_) fun s => ?_
   ·refine au 2 rfl ?_
    refine zl s rfl rfl zx fun i15 s => ?_
    refine au 5 rfl ?_
    exact zr (s.imp fun _ q => ⟨_, rfl, q⟩)
   ·refine au 8 rfl ?_
    exact zr (s.imp fun _ q => ⟨_, rfl, q⟩)
  ·refine au 12 rfl ?_
   exact zr (s.imp fun _ q => ⟨_, rfl, q⟩)
 refine au 1 rfl ?_
 refine Run.drawM (fun h' => h' = h10) [] ⟨[0, 1, 2, 4, 8, 24, 40, 72, 136, 256, 768, 1280, 2304, 4352, 8192, 24576, 8192, 73728, 139264, 270336, 565248, 1056768], [4194303, 4194302, 4194301, 4194299, 4194295, 4194279, 4194263, 4194231, 4194175, 4194047, 4193535, 4193023, 4191999, 4190207, 4186111, 4169727, 4186111, 4120575, 4055039, 3923967, 3629055, 3137535], [0, 0, 0, 0, 0, 0, 0, 0, 0, 0, 0, 0, 0, 0, 0, 0, 0, 0, 0, 0, 0, 0], 0⟩ (.q 0 (.q 1 (.q 2 (.q 3 (.q 4 (.q 5 (.q 6 (.q 7 (.q 8 (.q 9 (.q 10 (.q 11 (.q 12 (.q 13 (.q 14 (.q 15 (.q 16 (.q 17 (.q 18 (.q 19 (.q 20 (.q 21 .nil)))))))))))))))))))))) zR (by kernel_rfl) rfl ?_
 refine auT 1 rfl ?_
 obtain ⟨i16, hl, s⟩ := s
 refine zqe rfl (zh ⟨k6, 0, none⟩ ((.int .i64 (i16))) rfl zx hl ⟨rfl, rfl⟩) ?_
 by_cases hb17 : (i16 : Int) < (0)
 ·replace s := s.1 hb17
  refine zqe rfl (wg .i64 (i16) (0) (.bool true) rfl rfl (zG hb17) ⟨rfl, rfl⟩) ?_
  refine auT 19 rfl ?_
  refine au 5 rfl ?_
  exact zr (s.imp fun _ q => ⟨_, rfl, q⟩)
 ·replace s := s.2 hb17
  refine zqe rfl (wg .i64 (i16) (0) (.bool false) rfl rfl (zF hb17) ⟨rfl, rfl⟩) ?_
  refine auT 2 rfl ?_
  obtain ⟨i18, hl, s⟩ := s
  refine zqe rfl (zh ⟨k6, 0, none⟩ ((.int .i64 (i18))) rfl zx hl ⟨rfl, rfl⟩) ?_
  by_cases hb19 : (i18 : Int) > (8)
  ·replace s := s.1 hb19
   refine zqe rfl (wg .i64 (i18) (8) (.bool true) rfl rfl (xk hb19) ⟨rfl, rfl⟩) ?_
   refine auT 15 rfl ?_
   refine au 5 rfl ?_
   exact zr (s.imp fun _ q => ⟨_, rfl, q⟩)
  ·replace s := s.2 hb19
   refine zqe rfl (wg .i64 (i18) (8) (.bool false) rfl rfl (xj hb19) ⟨rfl, rfl⟩) ?_
   refine auT 3 rfl ?_
   obtain ⟨i20, hl, s⟩ := s
   refine zqe rfl (zh ⟨k6, 1, none⟩ ((.int .i64 (i20))) rfl zx hl ⟨rfl, rfl⟩) ?_
   by_cases hb21 : (i20 : Int) < (0)
   ·replace s := s.1 hb21
    refine zqe rfl (wg .i64 (i20) (0) (.bool true) rfl rfl (zG hb21) ⟨rfl, rfl⟩) ?_
    refine auT 10 rfl ?_
    refine au 5 rfl ?_
    exact zr (s.imp fun _ q => ⟨_, rfl, q⟩)
   ·replace s := s.2 hb21
    refine zqe rfl (wg .i64 (i20) (0) (.bool false) rfl rfl (zF hb21) ⟨rfl, rfl⟩) ?_
    refine auT 3 rfl ?_
    obtain ⟨i22, hl, s⟩ := s
    refine zqe rfl (zh ⟨k6, 1, none⟩ ((.int .i64 (i22))) rfl zx hl ⟨rfl, rfl⟩) ?_
    refine auT 1 rfl ?_
    obtain ⟨i23, hl, s⟩ := s
    refine zqe rfl (zh ⟨k6, 0, none⟩ ((.int .i64 (i23))) rfl zx hl ⟨rfl, rfl⟩) ?_
    obtain ⟨hi0, hi1, s⟩ := s
    refine zqe rfl (zC ⟨k8, 0, none⟩ .i64 (i23) rfl rfl zc6 hi0 hi1 ⟨rfl, rfl⟩) ?_
    obtain ⟨i24, hl, s⟩ := s
    refine zqe rfl (zh (Addr.add ⟨k8, 0, none⟩ (Int.toNat (i23) * 1)) ((.int .i64 (i24))) rfl zx hl ⟨rfl, rfl⟩) ?_
    by_cases hb25 : (i22 : Int) > (i24)
    ·replace s := s.1 hb25
     refine zqe rfl (wg .i64 (i22) (i24) (.bool true) rfl rfl (xk hb25) ⟨rfl, rfl⟩) ?_
     refine auT 1 rfl ?_
     refine au 5 rfl ?_
     exact zr (s.imp fun _ q => ⟨_, rfl, q⟩)
    ·replace s := s.2 hb25
     refine zqe rfl (wg .i64 (i22) (i24) (.bool false) rfl rfl (xj hb25) ⟨rfl, rfl⟩) ?_
     refine auT 1 rfl ?_
     refine au 2 rfl ?_
     exact Run.of_fin (s.imp fun h' s => j11 _ _ ⟨⟨rfl, trivial⟩, s⟩)
theorem vO.of {B : RO} {p1 : Option Addr} {h : Heap} {Q : Int → Heap → Prop} (s : Va B p1 h Q) : vO B p1 h Q := by
 refine zspec Tryz.func29 [ResultVar.tmp 2] rfl rfl rfl rfl rfl ?_
 refine au 8 rfl ?_
 by_cases hb3 : p1 = none
 ·replace s := s.1 hb3
  refine zg rfl (zK p1 (.inl rfl) true rfl rfl YA hb3 rfl ?_)
  refine au 6 rfl ?_
  exact zr (s.imp fun _ q => ⟨_, rfl, q⟩)
 ·replace s := s.2 hb3
  refine zg rfl (zJ p1 (.inl rfl) false rfl rfl YA hb3 rfl ?_)
  refine au 6 rfl ?_
  refine znil s rfl rfl fun A4 s => ?_
  refine au 1 rfl ?_
  refine zl s rfl rfl zx fun i6 s => ?_
  refine au 2 rfl ?_
  exact zr (s.imp fun _ q => ⟨_, rfl, q⟩)
theorem wM.of {B : RO} {p1 : Option Addr} {i2 : Int} {i3 : Int} {i4 : Int} {i5 : Int} {h : Heap} {Q : Heap → Prop} (s : YQ B p1 i2 i3 i4 i5 h Q) : wM B p1 i2 i3 i4 i5 h Q := by
 refine zspec Tryz.func30 [] rfl rfl rfl rfl rfl ?_
 refine au 2 rfl ?_
 refine zbn s rfl rfl rfl fun k6 h7 s => ?_
 refine au 4 rfl ?_
 by_cases hb8 : p1 = none
 ·replace s := s.1 hb8
  refine zg rfl (zK p1 (.inr rfl) false rfl rfl yn hb8 rfl ?_)
  refine au 3 rfl ?_
  exact zf (s.imp fun _ q => ⟨rfl, q⟩)
 ·replace s := s.2 hb8
  refine zg rfl (zJ p1 (.inr rfl) true rfl rfl yn hb8 rfl ?_)
  refine au 4 rfl ?_
  obtain ⟨i9, i10, i11, i12, hl, s⟩ := s
  refine zn hl rfl rfl ZU Yb rfl ?_
  refine znil s rfl rfl fun A13 s => ?_
  refine au 2 rfl ?_
  refine zsn s rfl rfl rfl Yb rfl fun h15 s => ?_
  refine au 1 rfl ?_
  exact zf (s.imp fun _ q => ⟨rfl, q⟩)
theorem vx.of {B : RO} {p1 : Option Addr} {h : Heap} {Q : Heap → Prop} (s : Xz B p1 h Q) : vx B p1 h Q := by
 refine zspec Tryz.func31 [] rfl rfl rfl rfl rfl ?_
 refine au 3 rfl ?_
 by_cases hb2 : p1 = none
 ·replace s := s.1 hb2
  refine zg rfl (zK p1 (.inr rfl) false rfl rfl yn hb2 rfl ?_)
  refine au 3 rfl ?_
  exact zf (s.imp fun _ q => ⟨rfl, q⟩)
 ·replace s := s.2 hb2
  refine zg rfl (zJ p1 (.inr rfl) true rfl rfl yn hb2 rfl ?_)
  refine au 4 rfl ?_
  refine znil s rfl rfl fun A3 s => ?_
  refine au 1 rfl ?_
  refine zl s rfl rfl zaR fun p5 s => ?_
  refine zcall s rfl rfl zic ?_
  rintro _ h6 ⟨rfl, s⟩
  refine au 1 rfl ?_
  exact zf (s.imp fun _ q => ⟨rfl, q⟩)
theorem x9.of {B : RO} {p1 : Option Addr} {h : Heap} {Q : Int → Int → Heap → Prop} (s : YU B p1 h Q) : x9 B p1 h Q := by
 refine zspec Tryz.func32 [ResultVar.tmp 2, ResultVar.tmp 3] rfl rfl rfl rfl rfl ?_
 refine au 9 rfl ?_
 by_cases hb4 : p1 = none
 ·replace s := s.1 hb4
  refine zg rfl (zK p1 (.inl rfl) true rfl rfl yn hb4 rfl ?_)
  refine au 7 rfl ?_
  exact zr (s.imp fun _ q => ⟨_, _, rfl, q⟩)
 ·replace s := s.2 hb4
  refine zg rfl (zJ p1 (.inl rfl) false rfl rfl yn hb4 rfl ?_)
  refine au 4 rfl ?_
  obtain ⟨A6, e7, s⟩ := s
  obtain ⟨p11, hl, s⟩ := s
  have f12 := hl
  obtain ⟨A14, e15, s⟩ := s
  obtain ⟨p19, hl, s⟩ := s
  have f20 := hl
  refine Run.drawM (fun h' => cellH B h' (Addr.add A6 2) = some (.pointer p11) ∧ cellH B h' (Addr.add (Addr.add A14 2) 1) = some (.pointer p19) ∧ True) [] ⟨[0, 1, 2, 4, 8, 16, 0, 64, 128, 256, 512, 1056, 2048, 4159, 16383], [32767, 32766, 32765, 32763, 32759, 32751, 32767, 32703, 32639, 32511, 32255, 31743, 30719, 32735, 28671], [0, 0, 0, 0, 0, 0, 0, 0, 0, 0, 0, 0, 0, 0, 0], 0⟩ (.q 0 (.q 1 (.q 2 (.q 3 (.q 4 (.q 6 (.q 7 (.q 8 (.q 9 (.q 10 (.x 5 (.x 11 (.x 12 (.q 13 (.q 14 .nil)) .no) .no) .no))))))))))) zR (by kernel_rfl) ⟨f12, f20, trivial⟩ ?_
  refine auT 1 rfl ?_
  refine zq rfl (fun _ hC => zp A6 (congrArg Value.pointer e7) ⟨rfl, rfl⟩) ?_
  refine auT 2 rfl ?_
  refine zq rfl (fun _ hC => zh (Addr.add A6 2) ((.pointer p11)) rfl XX hC.1 ⟨rfl, rfl⟩) ?_
  refine auT 1 rfl ?_
  refine zq rfl (fun _ hC => zp A14 (congrArg Value.pointer e15) ⟨rfl, rfl⟩) ?_
  refine auT 2 rfl ?_
  refine zq rfl (fun _ hC => zh (Addr.add (Addr.add A14 2) 1) ((.pointer p19)) rfl Yz hC.2.1 ⟨rfl, rfl⟩) ?_
  refine ⟨zo rfl (zA [(.pointer p11)] (zid) rfl rfl (Spec.mono s fun v h21 hv => ?_)), trivial⟩
  obtain ⟨i22, rfl, s⟩ := hv
  obtain ⟨g23, g24, s⟩ := s
  refine ⟨fun _ => ⟨g23, g24, trivial⟩, ?_⟩
  refine ⟨zo rfl (zA [(.pointer p19)] (zdh) rfl rfl (Spec.mono s fun v h25 hv => ?_)), trivial⟩
  obtain ⟨p26, rfl, s⟩ := hv
  obtain ⟨g27, g28, s⟩ := s
  refine ⟨fun _ => ⟨g27, g28, trivial⟩, ?_⟩
  refine ⟨zo rfl (zA [(.pointer p26)] (zie) rfl rfl (Spec.mono s fun v h29 hv => ?_)), trivial⟩
  obtain ⟨i30, rfl, s⟩ := hv
  obtain ⟨g31, g32, s⟩ := s
  refine ⟨fun _ => ⟨g31, g32, trivial⟩, ?_⟩
  refine auT 2 rfl ?_
  exact zr (s.imp fun _ q => ⟨_, _, rfl, q⟩)
theorem vr.of {B : RO} {p1 : Option Addr} {h : Heap} {Q : Option Addr → Heap → Prop} (s : Xv B p1 h Q) : vr B p1 h Q := by
 refine zspec Tryz.func33 [ResultVar.tmp 2] rfl rfl rfl rfl rfl ?_
 refine au 8 rfl ?_
 by_cases hb3 : p1 = none
 ·replace s := s.1 hb3
  refine zg rfl (zK p1 (.inl rfl) true rfl rfl yn hb3 rfl ?_)
  refine au 6 rfl ?_
  exact zr (s.imp fun _ q => ⟨_, rfl, q⟩)
 ·replace s := s.2 hb3
  refine zg rfl (zJ p1 (.inl rfl) false rfl rfl yn hb3 rfl ?_)
  refine au 6 rfl ?_
  refine znil s rfl rfl fun A4 s => ?_
  refine au 1 rfl ?_
  refine zl s rfl rfl zbF fun p6 s => ?_
  refine au 2 rfl ?_
  exact zr (s.imp fun _ q => ⟨_, rfl, q⟩)
theorem vw.of {B : RO} {p1 : Option Addr} {h : Heap} {Q : Int → Int → Int → Int → Heap → Prop} (s : Xy B p1 h Q) : vw B p1 h Q := by
 refine zspec Tryz.func34 [ResultVar.cell 2 26] rfl rfl rfl rfl rfl ?_
 refine au 2 rfl ?_
 refine zal s rfl ZX rfl fun k6 h7 s => ?_
 refine au 5 rfl ?_
 by_cases hb8 : p1 = none
 ·replace s := s.1 hb8
  refine zg rfl (zK p1 (.inl rfl) true rfl rfl yn hb8 rfl ?_)
  refine au 4 rfl ?_
  refine zg rfl (Zh [] [(.int .i64 (0)), (.int .i64 (0)), (.int .i64 (0)), (.int .i64 (0))] ZX Y5 rfl rfl ?_)
  refine zsn s rfl rfl rfl Yb rfl fun h9 s => ?_
  refine au 1 rfl ?_
  obtain ⟨i10, i11, i12, i13, hl0, s⟩ := s
  exact zr (⟨⟨k6, 0, none⟩, (.agg #[(.int .i64 (i10)), (.int .i64 (i11)), (.int .i64 (i12)), (.int .i64 (i13))]), rfl, yA ZU Yb hl0, s.imp fun _ q => ⟨_, _, _, _, rfl, q⟩⟩)
 ·replace s := s.2 hb8
  refine zg rfl (zJ p1 (.inl rfl) false rfl rfl yn hb8 rfl ?_)
  refine au 6 rfl ?_
  refine znil s rfl rfl fun A14 s => ?_
  refine au 2 rfl ?_
  obtain ⟨i16, i17, i18, i19, hl, s⟩ := s
  refine zn hl rfl rfl ZU Yb rfl ?_
  refine zsn s rfl rfl rfl Yb rfl fun h20 s => ?_
  refine au 1 rfl ?_
  obtain ⟨i21, i22, i23, i24, hl0, s⟩ := s
  exact zr (⟨⟨k6, 0, none⟩, (.agg #[(.int .i64 (i21)), (.int .i64 (i22)), (.int .i64 (i23)), (.int .i64 (i24))]), rfl, yA ZU Yb hl0, s.imp fun _ q => ⟨_, _, _, _, rfl, q⟩⟩)
theorem ve.of {B : RO} {p1 : Option Addr} {h : Heap} {Q : Option Addr → Option Addr → Option Addr → Int → Int → Int → Int → Heap → Prop} (s : Xl B p1 h Q) : ve B p1 h Q := by
 refine zspec Tryz.func35 [ResultVar.cell 2 95] rfl rfl rfl rfl rfl ?_
 refine au 2 rfl ?_
 refine zal s rfl Vs rfl fun k9 h10 s => ?_
 refine au 5 rfl ?_
 by_cases hb11 : p1 = none
 ·replace s := s.1 hb11
  refine zg rfl (zK p1 (.inl rfl) true rfl rfl yn hb11 rfl ?_)
  refine au 4 rfl ?_
  refine zg rfl (zH [] [(.pointer none), (.pointer none), (.pointer none), (.int .i64 (0)), (.int .i64 (0)), (.int .i64 (0)), (.int .i64 (0))] Vs zbJ rfl rfl ?_)
  refine zsn s rfl rfl rfl Yc rfl fun h12 s => ?_
  refine au 1 rfl ?_
  obtain ⟨p13, p14, p15, i16, i17, i18, i19, hl0, s⟩ := s
  exact zr (⟨⟨k9, 0, none⟩, (.agg #[(.pointer p13), (.pointer p14), (.pointer p15), (.int .i64 (i16)), (.int .i64 (i17)), (.int .i64 (i18)), (.int .i64 (i19))]), rfl, yA XY Yc hl0, s.imp fun _ q => ⟨_, _, _, _, _, _, _, rfl, q⟩⟩)
 ·replace s := s.2 hb11
  refine zg rfl (zJ p1 (.inl rfl) false rfl rfl yn hb11 rfl ?_)
  refine au 6 rfl ?_
  refine znil s rfl rfl fun A20 s => ?_
  refine au 1 rfl ?_
  obtain ⟨p22, p23, p24, i25, i26, i27, i28, hl, s⟩ := s
  refine zn hl rfl rfl XY Yc rfl ?_
  refine zsn s rfl rfl rfl Yc rfl fun h29 s => ?_
  refine au 1 rfl ?_
  obtain ⟨p30, p31, p32, i33, i34, i35, i36, hl0, s⟩ := s
  exact zr (⟨⟨k9, 0, none⟩, (.agg #[(.pointer p30), (.pointer p31), (.pointer p32), (.int .i64 (i33)), (.int .i64 (i34)), (.int .i64 (i35)), (.int .i64 (i36))]), rfl, yA XY Yc hl0, s.imp fun _ q => ⟨_, _, _, _, _, _, _, rfl, q⟩⟩)
theorem wG.of {B : RO} {p1 : Option Addr} {i2 : Int} {h : Heap} {Q : Int → Bool → Heap → Prop} (s : XT B p1 i2 h Q) : wG B p1 i2 h Q := by
 refine zspec Tryz.func39 [ResultVar.tmp 4, ResultVar.tmp 5] rfl rfl rfl rfl rfl ?_
 refine au 13 rfl ?_
 by_cases hb5 : p1 = none
 ·replace s := s.1 hb5
  refine zg rfl (zK p1 (.inl rfl) true rfl rfl YB hb5 rfl ?_)
  refine au 8 rfl ?_
  exact zr (s.imp fun _ q => ⟨_, _, rfl, q⟩)
 ·replace s := s.2 hb5
  refine zg rfl (zJ p1 (.inl rfl) false rfl rfl YB hb5 rfl ?_)
  refine au 7 rfl ?_
  refine zcall s rfl rfl zdi ?_
  rintro _ h6 ⟨i7, b8, rfl, s⟩
  refine au 2 rfl ?_
  cases b8
  ·replace s := s.2 rfl
   refine au 1 rfl ?_
   refine au 16 rfl ?_
   exact zr (s.imp fun _ q => ⟨_, _, rfl, q⟩)
  ·replace s := s.1 rfl
   refine au 1 rfl ?_
   refine au 14 rfl ?_
   refine znil s rfl rfl fun A9 s => ?_
   refine au 1 rfl ?_
   refine Run.ldSl s fun a11 n12 c13 h14 hl s => ?_
   refine zg rfl (zh A9 ((.slice a11 n12 c13)) rfl Wj hl ?_)
   refine au 1 rfl ?_
   obtain ⟨A15, e16, hi0, hi1, s⟩ := s
   refine zg rfl (zZ A15 n12 c13 .i64 (i7) (congrArg (fun a => Value.slice a n12 c13) e16) rfl y4 hi0 hi1 ?_)
   refine au 1 rfl ?_
   refine zl s rfl rfl zx fun i17 s => ?_
   refine au 3 rfl ?_
   exact zr (s.imp fun _ q => ⟨_, _, rfl, q⟩)
theorem xm.of {B : RO} {p1 : Option Addr} {i2 : Int} {i3 : Int} {h : Heap} {Q : Int → Heap → Prop} (s : XA B p1 i2 i3 h Q) : xm B p1 i2 i3 h Q := by
 refine zspec Tryz.func40 [ResultVar.tmp 6] rfl rfl rfl rfl rfl ?_
 refine au 6 rfl ?_
 obtain ⟨A6, e7, s⟩ := s
 obtain ⟨p10, hl, s⟩ := s
 have f11 := hl
 obtain ⟨A13, e14, s⟩ := s
 obtain ⟨p17, hl, s⟩ := s
 have f18 := hl
 refine Run.drawM (fun h' => cellH B h' (Addr.add A6 1) = some (.pointer p10) ∧ cellH B h' A13 = some (.pointer p17) ∧ True) [] ⟨[0, 1, 2, 4, 0, 16, 32, 64, 128, 0, 0, 1800, 2048], [8191, 8190, 8189, 8187, 8191, 8175, 8159, 8127, 8063, 8191, 8191, 6391, 6143], [0, 0, 0, 0, 0, 0, 0, 0, 0, 0, 0, 0, 0], 0⟩ (.q 0 (.q 1 (.q 2 (.q 3 (.q 4 (.q 5 (.q 6 (.q 7 (.q 9 (.q 10 (.x 8 (.x 11 (.q 12 .nil) .no) .no))))))))))) zR (by kernel_rfl) ⟨f11, f18, trivial⟩ ?_
 refine auT 1 rfl ?_
 refine zq rfl (fun _ hC => zp A6 (congrArg Value.pointer e7) ⟨rfl, rfl⟩) ?_
 refine auT 1 rfl ?_
 refine zq rfl (fun _ hC => zh (Addr.add A6 1) ((.pointer p10)) rfl zbE hC.1 ⟨rfl, rfl⟩) ?_
 refine auT 1 rfl ?_
 refine zq rfl (fun _ hC => zp A13 (congrArg Value.pointer e14) ⟨rfl, rfl⟩) ?_
 refine auT 1 rfl ?_
 refine zq rfl (fun _ hC => zh A13 ((.pointer p17)) rfl yE hC.2.1 ⟨rfl, rfl⟩) ?_
 refine auT 2 rfl ?_
 refine ⟨zo rfl (zA [(.pointer p17)] (za0) rfl rfl (Spec.mono s fun v h21 hv => ?_)), trivial⟩
 obtain ⟨l22, rfl, s⟩ := hv
 obtain ⟨g23, g24, s⟩ := s
 refine ⟨fun _ => ⟨g23, g24, trivial⟩, ?_⟩
 refine ⟨zo rfl (zA [(.pointer p10), (.agg (List.toArray l22)), (.int .i64 (i2)), (.int .i64 (i3))] (zif) rfl rfl (Spec.mono s fun v h25 hv => ?_)), trivial⟩
 obtain ⟨b26, rfl, s⟩ := hv
 cases b26
 ·replace s := s.2 rfl
  obtain ⟨g27, g28, s⟩ := s
  refine ⟨fun _ => ⟨g27, g28, trivial⟩, ?_⟩
  refine auT 1 rfl ?_
  refine au 5 rfl ?_
  exact zr (s.imp fun _ q => ⟨_, rfl, q⟩)
 ·replace s := s.1 rfl
  obtain ⟨g29, g30, s⟩ := s
  refine ⟨fun _ => ⟨g29, g30, trivial⟩, ?_⟩
  refine auT 1 rfl ?_
  refine au 6 rfl ?_
  exact zr (s.imp fun _ q => ⟨_, rfl, q⟩)
theorem xg.of {B : RO} {p1 : Option Addr} {i2 : Int} {h : Heap} {Q : Int → Int → Heap → Prop} (s : WP B p1 i2 h Q) : xg B p1 i2 h Q := by
 refine zspec Tryz.func41 [ResultVar.tmp 4, ResultVar.tmp 5] rfl rfl rfl rfl rfl ?_
 refine au 10 rfl ?_
 refine zcall s rfl rfl zdj ?_
 rintro _ h5 ⟨b6, rfl, s⟩
 cases b6
 ·replace s := s.2 rfl
  refine au 13 rfl ?_
  exact zr (s.imp fun _ q => ⟨_, _, rfl, q⟩)
 ·replace s := s.1 rfl
  refine au 5 rfl ?_
  refine Run.drawM (fun h' => h' = h5) [] ⟨[0, 1, 2, 4, 0, 24, 32, 64, 0, 256, 512, 1024, 0, 6144, 8192, 16384, 255, 131071], [262143, 262142, 262141, 262139, 262143, 262119, 262111, 262079, 262143, 261887, 261631, 261119, 262143, 255999, 253951, 245759, 262015, 229375], [0, 0, 0, 0, 0, 0, 0, 0, 0, 0, 0, 0, 0, 0, 0, 0, 0, 0], 0⟩ (.q 0 (.q 1 (.q 2 (.q 3 (.q 4 (.q 5 (.q 6 (.q 7 (.q 8 (.q 9 (.q 10 (.q 11 (.q 12 (.q 13 (.q 14 (.q 15 (.q 16 (.q 17 .nil)))))))))))))))))) zR (by kernel_rfl) rfl ?_
  refine auT 1 rfl ?_
  obtain ⟨A7, e8, s⟩ := s
  refine zqe rfl (zp A7 (congrArg Value.pointer e8) ⟨rfl, rfl⟩) ?_
  refine auT 1 rfl ?_
  obtain ⟨a9, n10, c11, hl, s⟩ := s
  refine zqe rfl (zh A7 ((.slice a9 n10 c11)) rfl Wl hl ⟨rfl, rfl⟩) ?_
  refine auT 1 rfl ?_
  obtain ⟨A12, e13, hi0, hi1, s⟩ := s
  refine zqe rfl (zZ A12 n10 c11 .i64 (i2) (congrArg (fun a => Value.slice a n10 c11) e13) rfl Vo hi0 hi1 ⟨rfl, rfl⟩) ?_
  refine auT 1 rfl ?_
  obtain ⟨i14, hl, s⟩ := s
  refine zqe rfl (zh (Addr.add A12 (Int.toNat (i2) * 2)) ((.int .i64 (i14))) rfl zx hl ⟨rfl, rfl⟩) ?_
  refine auT 1 rfl ?_
  obtain ⟨A15, e16, s⟩ := s
  refine zqe rfl (zp A15 (congrArg Value.pointer e16) ⟨rfl, rfl⟩) ?_
  refine auT 1 rfl ?_
  obtain ⟨a17, n18, c19, hl, s⟩ := s
  refine zqe rfl (zh A15 ((.slice a17 n18 c19)) rfl Wl hl ⟨rfl, rfl⟩) ?_
  refine auT 1 rfl ?_
  obtain ⟨A20, e21, hi0, hi1, s⟩ := s
  refine zqe rfl (zZ A20 n18 c19 .i64 (i2) (congrArg (fun a => Value.slice a n18 c19) e21) rfl Vo hi0 hi1 ⟨rfl, rfl⟩) ?_
  refine auT 1 rfl ?_
  obtain ⟨i22, hl, s⟩ := s
  refine zqe rfl (zh (Addr.add (Addr.add A20 (Int.toNat (i2) * 2)) 1) ((.int .i64 (i22))) rfl zx hl ⟨rfl, rfl⟩) ?_
  refine auT 2 rfl ?_
  exact zr (s.imp fun _ q => ⟨_, _, rfl, q⟩)
theorem w6.of {B : RO} {p1 : Option Addr} {l2 : List Value} {h : Heap} {Q : Bool → Heap → Prop} (s : Vb B p1 l2 h Q) : w6 B p1 l2 h Q := by
 refine zspec Tryz.func42 [ResultVar.tmp 4] rfl rfl rfl rfl rfl ?_
 refine au 2 rfl ?_
 refine zg rfl (yc l2 rfl (fun k4 hb1 hb2 h5 hb3 => ?_))
 have s := s k4 hb1 hb2 h5 hb3
 refine au 6 rfl ?_
 by_cases hb6 : p1 = none
 ·replace s := s.1 hb6
  refine zg rfl (zK p1 (.inl rfl) true rfl rfl YA hb6 rfl ?_)
  refine au 6 rfl ?_
  exact zr (s.imp fun _ q => ⟨_, rfl, q⟩)
 ·replace s := s.2 hb6
  refine zg rfl (zJ p1 (.inl rfl) false rfl rfl YA hb6 rfl ?_)
  refine au 7 rfl ?_
  refine znil s rfl rfl fun A7 s => ?_
  refine au 1 rfl ?_
  refine Run.ldSl s fun a9 n10 c11 h12 hl s => ?_
  refine zg rfl (zh A7 ((.slice a9 n10 c11)) rfl Vh hl ?_)
  refine zg rfl (y9 a9 n10 c11 rfl zej ?_)
  refine au 3 rfl ?_
  obtain ⟨J18, m16, h0, s⟩ := s
  refine Run.of_fin (h0.imp fun h' h0 => ?_)
  refine Run.loop (σ := Int × Nat) (fun x e h => J18 x.1 x.2 h ∧ Agree [(3, (.pointer (some ⟨k4, 0, none⟩))), (12, (.slice a9 n10 c11)), (13, (.int .i64 ((n10 : Nat)))), (14, (.int .i64 (x.1)))] e) (fun x => x.2) ((0), m16) ⟨h0, ⟨rfl, rfl, rfl, rfl, trivial⟩⟩ ?_; clear h0
  rintro ⟨i13, m15⟩ e h14 ⟨hJ, hag⟩ ih17
  have s := s i13 m15 h14 hJ; clear hJ
  refine Run.env hag ?_; clear hag
  refine au 2 rfl ?_
  refine zt s rfl rfl rfl zG zF (fun s => ?_) fun s => ?_
  ·refine au 8 rfl ?_
   obtain ⟨A19, e20, hi0, hi1, s⟩ := s
   refine zg rfl (zZ A19 n10 c11 .i64 (i13) (congrArg (fun a => Value.slice a n10 c11) e20) rfl Vn hi0 hi1 ?_)
   obtain ⟨i21, i22, i23, hl, s⟩ := s
   refine zn hl rfl rfl zc5 zbL rfl ?_
   refine zal s rfl zat rfl fun k24 h25 s => ?_
   refine zsn s rfl rfl rfl zbL rfl fun h26 s => ?_
   refine au 2 rfl ?_
   obtain ⟨l27, nl27, hl, s⟩ := s
   have f28 := hl
   obtain ⟨i30, hl, s⟩ := s
   have f31 := hl
   obtain ⟨i33, hl, s⟩ := s
   have f34 := hl
   obtain ⟨i36, hl, s⟩ := s
   have f37 := hl
   refine Run.drawM (fun h' => za B h' ⟨k4, 0, none⟩ 0 l27 ∧ cellH B h' ⟨k24, 0, none⟩ = some (.int .i64 (i30)) ∧ cellH B h' ⟨k24, 1, none⟩ = some (.int .i64 (i33)) ∧ cellH B h' ⟨k24, 2, none⟩ = some (.int .i64 (i36)) ∧ True) [] ⟨[0, 0, 2, 0, 8, 21, 0, 64, 160], [511, 511, 509, 511, 503, 490, 511, 447, 351], [0, 0, 0, 0, 0, 0, 0, 0, 0], 0⟩ (.q 0 (.q 1 (.q 2 (.q 3 (.q 4 (.q 6 (.q 7 (.x 5 (.q 8 .nil) .no)))))))) zR (by kernel_rfl) ⟨f28, f31, f34, f37, trivial⟩ ?_
   refine zq rfl (fun _ hC => z0 ⟨k4, 0, none⟩ l27 rfl XW (YF.trans (congrArg some nl27.symm)) hC.1 ⟨rfl, rfl⟩) ?_
   refine auT 1 rfl ?_
   refine zq rfl (fun _ hC => zh ⟨k24, 0, none⟩ ((.int .i64 (i30))) rfl zaS hC.2.1 ⟨rfl, rfl⟩) ?_
   refine auT 1 rfl ?_
   refine zq rfl (fun _ hC => zh ⟨k24, 1, none⟩ ((.int .i64 (i33))) rfl zx hC.2.2.1 ⟨rfl, rfl⟩) ?_
   refine auT 1 rfl ?_
   refine zq rfl (fun _ hC => zh ⟨k24, 2, none⟩ ((.int .i64 (i36))) rfl zx hC.2.2.2.1 ⟨rfl, rfl⟩) ?_
   refine ⟨zo rfl (zA [(.agg (List.toArray l27)), (.int .i64 (i30)), (.int .i64 (i33))] (zdk) rfl rfl (Spec.mono s fun v h38 hv => ?_)), trivial⟩
   obtain ⟨i39, rfl, s⟩ := hv
   obtain ⟨g40, g41, g42, g43, s⟩ := s
   refine ⟨fun _ => ⟨g40, g41, g42, g43, trivial⟩, ?_⟩
   by_cases hb44 : (i39 : Int) = i36
   ·replace s := s.1 hb44
    refine zq rfl (fun _ _ => wg .i64 (i39) (i36) (.bool false) rfl rfl (wj hb44) ⟨rfl, rfl⟩) ?_
    refine au 7 rfl ?_
    exact Run.of_fin (s.imp fun h' ⟨m', hm, s⟩ => ih17 ((IntKind.wrap .i64 ((i13) + (1))), m') _ _ ⟨s, ⟨rfl, rfl, rfl, rfl, trivial⟩⟩ hm)
   ·replace s := s.2 hb44
    refine zq rfl (fun _ _ => wg .i64 (i39) (i36) (.bool true) rfl rfl (wi hb44) ⟨rfl, rfl⟩) ?_
    refine au 5 rfl ?_
    exact zr (s.imp fun _ q => ⟨_, rfl, q⟩)
  ·refine au 8 rfl ?_
   exact zr (s.imp fun _ q => ⟨_, rfl, q⟩)
theorem wF.of {B : RO} {p1 : Option Addr} {h : Heap} {Q : Value → Heap → Prop} (s : XS B p1 h Q) : wF B p1 h Q := by
 refine zspec Tryz.func43 [ResultVar.tmp 2] rfl rfl rfl rfl rfl ?_
 refine au 2 rfl ?_
 refine zb1 s rfl rfl rfl rfl fun k3 h4 s => ?_
 refine au 7 rfl ?_
 exact zr (s.imp fun _ q => ⟨_, rfl, q⟩)
theorem wE.of {B : RO} {p1 : Option Addr} {i2 : Int} {i3 : Int} {i4 : Int} {h : Heap} {Q : Bool → Heap → Prop} (s : WQ B p1 i2 i3 i4 h Q) : wE B p1 i2 i3 i4 h Q := by
 refine zspec Tryz.func44 [ResultVar.tmp 8] rfl rfl rfl rfl rfl ?_
 refine au 9 rfl ?_
 refine zcall s rfl rfl zdj ?_
 rintro _ h6 ⟨b7, rfl, s⟩
 cases b7
 ·replace s := s.2 rfl
  refine au 7 rfl ?_
  exact zr (s.imp fun _ q => ⟨_, rfl, q⟩)
 ·replace s := s.1 rfl
  refine au 7 rfl ?_
  refine znil s rfl rfl fun A8 s => ?_
  refine au 1 rfl ?_
  refine Run.ldSl s fun a10 n11 c12 h13 hl s => ?_
  refine zg rfl (zh A8 ((.slice a10 n11 c12)) rfl Wl hl ?_)
  refine au 3 rfl ?_
  refine zg rfl (zH [(0, (.int .i64 (i3))), (1, (.int .i64 (i4)))] [(.int .i64 (i3)), (.int .i64 (i4))] zas zbv rfl rfl ?_)
  obtain ⟨A14, e15, hi0, hi1, s⟩ := s
  refine zg rfl (zZ A14 n11 c12 .i64 (i2) (congrArg (fun a => Value.slice a n11 c12) e15) rfl Vo hi0 hi1 ?_)
  refine zsn s rfl rfl rfl zjk rfl fun h16 s => ?_
  refine au 5 rfl ?_
  exact zr (s.imp fun _ q => ⟨_, rfl, q⟩)
theorem vD.of {B : RO} {p1 : Option Addr} {p2 : Option Addr} {i3 : Int} {h : Heap} {Q : Int → Heap → Prop} (s : WT B p1 p2 i3 h Q) : vD B p1 p2 i3 h Q := by
 refine zspec Tryz.func45 [ResultVar.tmp 6] rfl rfl rfl rfl rfl ?_
 refine au 2 rfl ?_
 refine zb1 s rfl rfl rfl rfl fun k5 h6 s => ?_
 refine zb1 s rfl rfl rfl rfl fun k7 h8 s => ?_
 refine au 4 rfl ?_
 refine zal s rfl zjp rfl fun k9 h10 s => ?_
 refine zs1 s rfl rfl rfl rfl Zl fun h11 s => ?_
 refine au 5 rfl ?_
 refine zcall s rfl rfl zdh ?_
 rintro _ h12 ⟨p13, rfl, s⟩
 refine zcall s rfl rfl zii ?_
 rintro v15 h14 ⟨_, rfl, s⟩
 refine au 2 rfl ?_
 obtain ⟨xs23, G19, J22, hit, hins, hG, h0, s, hR⟩ := s
 refine Run.of_fin (h0.imp fun h' h0 => ?_)
 refine Run.range (v15) (xs23.map (fun x : Int × Bool × ByteArray => [(.int .i64 (x.1)), (.agg #[(.bool x.2.1), (.string x.2.2)])])) G19 J22 rfl hit hins hG h0 rfl (fun a ha => by obtain ⟨x, _, rfl⟩ := List.mem_map.1 ha; rfl) ?_ ?_
 ·rintro q21 args h20 ha hJ
  obtain ⟨⟨i16, b17, s18⟩, hx, rfl⟩ := Option.map_eq_some_iff.1 ((List.getElem?_map ..).symm.trans ha)
  have s := s q21 h20 i16 b17 s18 hx hJ; clear hJ hx ha
  refine zput rfl ?_
  refine au 5 rfl ?_
  refine zal s rfl zL rfl fun k24 h25 s => ?_
  refine zsn s rfl rfl rfl zj rfl fun h26 s => ?_
  refine au 1 rfl ?_
  refine Run.begin ⟨rfl, ?_⟩
  refine au 3 rfl ?_
  refine zl s rfl rfl Za fun p27 s => ?_
  refine au 1 rfl ?_
  obtain ⟨b28, s29, hl, s⟩ := s
  refine zn hl rfl rfl zD zj rfl ?_
  refine zl s rfl rfl zx fun i30 s => ?_
  refine zcall s rfl rfl zij ?_
  rintro _ h31 ⟨b32, rfl, s⟩
  cases b32
  ·replace s := s.2 rfl
   refine au 4 rfl ?_
   refine Run.of_fin (s.imp fun h' s => ?_)
   exact Run.fall (.inl ⟨rfl, s⟩)
  ·replace s := s.1 rfl
   refine au 3 rfl ?_
   refine zl s rfl rfl zx fun i33 s => ?_
   refine au 1 rfl ?_
   refine zs1 s rfl rfl rfl rfl Zl fun h34 s => ?_
   refine au 2 rfl ?_
   refine Run.of_fin (s.imp fun h' s => ?_)
   exact Run.fall (.inl ⟨rfl, s⟩)
 ·intro h20 hJ
  have s := hR h20 (by simpa using hJ); clear hJ hR
  refine au 3 rfl ?_
  refine zl s rfl rfl zx fun i35 s => ?_
  refine au 2 rfl ?_
  exact zr (s.imp fun _ q => ⟨_, rfl, q⟩)
theorem wP.of {B : RO} {p1 : Option Addr} {i2 : Int} {h : Heap} {Q : Int → Heap → Prop} (s : Wc B p1 i2 h Q) : wP B p1 i2 h Q := by
 refine zspec Tryz.func46 [ResultVar.tmp 4] rfl rfl rfl rfl rfl ?_
 refine au 4 rfl ?_
 refine Run.seqJ (fun e h5 => Agree [(0, (.pointer p1)), (1, (.int .i64 (i2)))] e ∧ ZN B p1 i2 h5 Q) ?_ fun j4 => ?_
 ·rintro e h5 ⟨hag, s⟩
  refine Run.env hag ?_; clear hag
  refine au 4 rfl ?_
  refine znil s rfl rfl fun A6 s => ?_
  refine au 1 rfl ?_
  obtain ⟨hi0, hi1, s⟩ := s
  refine zg rfl (zC A6 .i64 (i2) rfl rfl Zb hi0 hi1 ?_)
  refine zl s rfl rfl zx fun i8 s => ?_
  refine au 2 rfl ?_
  exact zr (s.imp fun _ q => ⟨_, rfl, q⟩)
 refine au 3 rfl ?_
 by_cases hb9 : p1 = none
 ·replace s := s.1 hb9
  refine zg rfl (zK p1 (.inl rfl) true rfl rfl X0 hb9 rfl ?_)
  refine au 11 rfl ?_
  exact zr (s.imp fun _ q => ⟨_, rfl, q⟩)
 ·replace s := s.2 hb9
  refine zg rfl (zJ p1 (.inl rfl) false rfl rfl X0 hb9 rfl ?_)
  refine au 2 rfl ?_
  refine zcall s rfl rfl za5 ?_
  rintro _ h10 ⟨b11, rfl, s⟩
  cases b11
  ·replace s := s.2 rfl
   refine au 8 rfl ?_
   exact zr (s.imp fun _ q => ⟨_, rfl, q⟩)
  ·replace s := s.1 rfl
   refine au 5 rfl ?_
   exact Run.of_fin (s.imp fun h' s => j4 _ _ ⟨⟨rfl, rfl, trivial⟩, s⟩)
theorem xn.of {B : RO} {p1 : Option Addr} {i2 : Int} {h : Heap} {Q : Int → Int → Heap → Prop} (s : W9 B p1 i2 h Q) : xn B p1 i2 h Q := by
 refine zspec Tryz.func47 [ResultVar.tmp 4, ResultVar.tmp 5] rfl rfl rfl rfl rfl ?_
 refine au 9 rfl ?_
 by_cases hb5 : p1 = none
 ·replace s := s.1 hb5
  refine zg rfl (zK p1 (.inl rfl) true rfl rfl XZ hb5 rfl ?_)
  refine au 7 rfl ?_
  exact zr (s.imp fun _ q => ⟨_, _, rfl, q⟩)
 ·replace s := s.2 hb5
  refine zg rfl (zJ p1 (.inl rfl) false rfl rfl XZ hb5 rfl ?_)
  refine au 6 rfl ?_
  refine znil s rfl rfl fun A6 s => ?_
  refine au 1 rfl ?_
  refine zl s rfl rfl XV fun p8 s => ?_
  refine au 1 rfl ?_
  refine zcall s rfl rfl Vk ?_
  rintro _ h9 ⟨i10, i11, rfl, s⟩
  refine au 5 rfl ?_
  exact zr (s.imp fun _ q => ⟨_, _, rfl, q⟩)
end Go.Proofs.YtgldgabefiialaaGreat.H
