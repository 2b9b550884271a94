/- What the law's proof stands on, part 6. No condition. -/
import Derived.Test.YtgldgabefiialaaGreatG5
namespace Go.Proofs.YtgldgabefiialaaGreat.H
open Go
set_option linter.unusedVariables false
set_option maxRecDepth 100000
set_option maxHeartbeats 4000000
theorem Zn.of {B : RO} {p1 : Option Addr} {i2 : Int} {i3 : Int} {i4 : Int} {h : Heap} {Q : Bool → Heap → Prop} (s : VH B p1 i2 i3 i4 h Q) : Zn B p1 i2 i3 i4 h Q := by
 refine zspec Tryz.func48 [ResultVar.tmp 8] rfl rfl rfl rfl rfl ?_
 refine au 8 rfl ?_
 refine zcall s rfl rfl Wo ?_
 rintro _ h6 ⟨i7, i8, rfl, s⟩
 refine au 6 rfl ?_
 refine Run.seqJ (fun e h10 => Agree [(0, (.pointer p1)), (1, (.int .i64 (i2))), (2, (.int .i64 (i3))), (3, (.int .i64 (i4)))] e ∧ YP B p1 i2 i3 i4 h10 Q) ?_ fun j9 => ?_
 ·rintro e h10 ⟨hag, s⟩
  refine Run.env hag ?_; clear hag
  refine au 3 rfl ?_
  refine znil s rfl rfl fun A11 s => ?_
  refine au 1 rfl ?_
  refine zl s rfl rfl XV fun p13 s => ?_
  refine au 3 rfl ?_
  refine zcall s rfl rfl zdf ?_
  rintro _ h14 ⟨b15, rfl, s⟩
  refine au 2 rfl ?_
  exact zr (s.imp fun _ q => ⟨_, rfl, q⟩)
 refine au 4 rfl ?_
 refine zcall s rfl rfl Vl ?_
 rintro _ h16 ⟨b17, rfl, s⟩
 cases b17
 ·replace s := s.2 rfl
  refine au 23 rfl ?_
  exact zr (s.imp fun _ q => ⟨_, rfl, q⟩)
 ·replace s := s.1 rfl
  refine au 4 rfl ?_
  refine zt s rfl rfl rfl zG zF (fun s => ?_) fun s => ?_
  ·refine au 18 rfl ?_
   exact zr (s.imp fun _ q => ⟨_, rfl, q⟩)
  ·refine au 5 rfl ?_
   refine znil s rfl rfl fun A18 s => ?_
   refine au 1 rfl ?_
   obtain ⟨hi0, hi1, s⟩ := s
   refine zg rfl (zC A18 .i64 (i2) rfl rfl Zc hi0 hi1 ?_)
   refine zl s rfl rfl yV fun s20 s => ?_
   refine zg rfl (wD s20 rfl xi ?_)
   refine zt s rfl rfl rfl xk xj (fun s => ?_) fun s => ?_
   ·refine au 7 rfl ?_
    exact zr (s.imp fun _ q => ⟨_, rfl, q⟩)
   ·refine au 4 rfl ?_
    exact Run.of_fin (s.imp fun h' s => j9 _ _ ⟨⟨rfl, rfl, rfl, rfl, trivial⟩, s⟩)
theorem wV.of {B : RO} {p1 : Option Addr} {i2 : Int} {h : Heap} {Q : Bool → ByteArray → Int → Heap → Prop} (s : V4 B p1 i2 h Q) : wV B p1 i2 h Q := by
 refine zspec Tryz.func49 [ResultVar.cell 4 119, ResultVar.tmp 5] rfl rfl rfl rfl rfl ?_
 refine au 2 rfl ?_
 refine zal s rfl zL rfl fun k6 h7 s => ?_
 refine au 6 rfl ?_
 by_cases hb8 : p1 = none
 ·replace s := s.1 hb8
  refine zg rfl (zK p1 (.inl rfl) true rfl rfl V9 hb8 rfl ?_)
  refine au 4 rfl ?_
  refine zg rfl (zH [] [(.bool false), (.string ByteArray.empty)] zL xS rfl rfl ?_)
  refine zsn s rfl rfl rfl zj rfl fun h9 s => ?_
  refine au 2 rfl ?_
  obtain ⟨b10, s11, hl0, s⟩ := s
  exact zr (⟨⟨k6, 0, none⟩, (.agg #[(.bool b10), (.string s11)]), rfl, yA zD zj hl0, s.imp fun _ q => ⟨_, _, _, rfl, q⟩⟩)
 ·replace s := s.2 hb8
  refine zg rfl (zJ p1 (.inl rfl) false rfl rfl V9 hb8 rfl ?_)
  refine au 6 rfl ?_
  refine znil s rfl rfl fun A12 s => ?_
  refine au 1 rfl ?_
  refine zl s rfl rfl zaU fun p14 s => ?_
  refine au 1 rfl ?_
  refine zcall s rfl rfl zik ?_
  rintro _ h15 ⟨b16, s17, i18, rfl, s⟩
  refine au 2 rfl ?_
  refine zsn s rfl rfl rfl zj rfl fun h19 s => ?_
  refine au 2 rfl ?_
  obtain ⟨b20, s21, hl0, s⟩ := s
  exact zr (⟨⟨k6, 0, none⟩, (.agg #[(.bool b20), (.string s21)]), rfl, yA zD zj hl0, s.imp fun _ q => ⟨_, _, _, rfl, q⟩⟩)
theorem Zo.of {B : RO} {p1 : Option Addr} {i2 : Int} {h : Heap} {Q : ByteArray → Heap → Prop} (s : VJ B p1 i2 h Q) : Zo B p1 i2 h Q := by
 refine zspec Tryz.func50 [ResultVar.tmp 4] rfl rfl rfl rfl rfl ?_
 refine au 9 rfl ?_
 refine zcall s rfl rfl Vl ?_
 rintro _ h4 ⟨b5, rfl, s⟩
 cases b5
 ·replace s := s.2 rfl
  refine au 7 rfl ?_
  exact zr (s.imp fun _ q => ⟨_, rfl, q⟩)
 ·replace s := s.1 rfl
  refine au 8 rfl ?_
  refine znil s rfl rfl fun A6 s => ?_
  refine au 1 rfl ?_
  obtain ⟨hi0, hi1, s⟩ := s
  refine zg rfl (zC A6 .i64 (i2) rfl rfl Zc hi0 hi1 ?_)
  refine zl s rfl rfl yV fun s8 s => ?_
  refine au 2 rfl ?_
  exact zr (s.imp fun _ q => ⟨_, rfl, q⟩)
theorem xV.of {B : RO} {p1 : Option Addr} {i2 : Int} {i3 : Int} {h : Heap} {Q : Int → Int → Heap → Prop} (s : Z8 B p1 i2 i3 h Q) : xV B p1 i2 i3 h Q := by
 refine zspec Tryz.func51 [ResultVar.tmp 6, ResultVar.tmp 7] rfl rfl rfl rfl rfl ?_
 refine au 9 rfl ?_
 refine zcall s rfl rfl YE ?_
 rintro _ h6 ⟨b7, s8, i9, rfl, s⟩
 refine au 3 rfl ?_
 refine zal s rfl zL rfl fun k10 h11 s => ?_
 refine zsn s rfl rfl rfl zj rfl fun h12 s => ?_
 refine au 6 rfl ?_
 refine zu s rfl rfl rfl wj wi (fun s => ?_) fun s => ?_
 ·refine au 5 rfl ?_
  obtain ⟨b13, s14, hl, s⟩ := s
  refine zn hl rfl rfl zD zj rfl ?_
  refine au 1 rfl ?_
  refine zcall s rfl rfl zil ?_
  rintro _ h15 ⟨i16, rfl, s⟩
  refine au 3 rfl ?_
  exact zr (s.imp fun _ q => ⟨_, _, rfl, q⟩)
 ·refine au 8 rfl ?_
  exact zr (s.imp fun _ q => ⟨_, _, rfl, q⟩)
theorem xL.of {B : RO} {p1 : Option Addr} {i2 : Int} {i3 : Int} {i4 : Int} {h : Heap} {Q : Int → Heap → Prop} (s : ZK B p1 i2 i3 i4 h Q) : xL B p1 i2 i3 i4 h Q := by
 refine zspec Tryz.func52 [ResultVar.tmp 8] rfl rfl rfl rfl rfl ?_
 refine au 8 rfl ?_
 refine zcall s rfl rfl YE ?_
 rintro _ h6 ⟨b7, s8, i9, rfl, s⟩
 refine au 3 rfl ?_
 refine zal s rfl zL rfl fun k10 h11 s => ?_
 refine zsn s rfl rfl rfl zj rfl fun h12 s => ?_
 refine au 6 rfl ?_
 refine zt s rfl rfl rfl zU zT (fun s => ?_) fun s => ?_
 ·refine au 2 rfl ?_
  refine Run.drawM (fun h' => h' = h12) [15] ⟨[0, 1, 2, 4, 8, 0, 32, 64, 128, 256, 512, 1024, 0, 0, 0, 30736], [65535, 65534, 65533, 65531, 65527, 65535, 65503, 65471, 65407, 65279, 65023, 64511, 65535, 65535, 65535, 34799], [0, 1, 3, 7, 15, 0, 32, 96, 224, 480, 992, 2016, 0, 0, 0, 32767], 32768⟩ (.q 0 (.q 1 (.q 2 (.q 3 (.q 4 (.q 5 (.q 6 (.q 7 (.q 8 (.q 9 (.q 10 (.q 11 (.q 12 (.q 13 (.q 14 (.x 15 .nil .no)))))))))))))))) zR (by kernel_rfl) rfl ?_
  refine auT 1 rfl ?_
  obtain ⟨A13, e14, s⟩ := s
  refine zqe rfl (zp A13 (congrArg Value.pointer e14) ⟨rfl, rfl⟩) ?_
  refine auT 2 rfl ?_
  obtain ⟨p15, hl, s⟩ := s
  refine zqe rfl (zh (Addr.add (Addr.add A13 2) 1) ((.pointer p15)) rfl Yz hl ⟨rfl, rfl⟩) ?_
  refine auT 1 rfl ?_
  obtain ⟨A16, e17, s⟩ := s
  refine zqe rfl (zp A16 (congrArg Value.pointer e17) ⟨rfl, rfl⟩) ?_
  refine auT 1 rfl ?_
  obtain ⟨p18, hl, s⟩ := s
  refine zqe rfl (zh A16 ((.pointer p18)) rfl yE hl ⟨rfl, rfl⟩) ?_
  obtain ⟨A19, e20, s⟩ := s
  refine zqe rfl (zp A19 (congrArg Value.pointer e20) ⟨rfl, rfl⟩) ?_
  refine auT 1 rfl ?_
  obtain ⟨p21, hl, s⟩ := s
  refine zqe rfl (zh (Addr.add A19 1) ((.pointer p21)) rfl Za hl ⟨rfl, rfl⟩) ?_
  refine auT 3 rfl ?_
  refine ⟨zo rfl (zA [(.pointer p15), (.pointer p21), (.int .i64 (i2)), (.int .i64 (i3)), (.int .u8 (i4))] (zim) rfl rfl (Spec.mono s fun v h22 hv => ?_)), trivial⟩
  obtain ⟨b23, rfl, s⟩ := hv
  refine ⟨fun hz => Bool.noConfusion hz, ?_⟩
  refine au 5 rfl ?_
  exact zr (s.imp fun _ q => ⟨_, rfl, q⟩)
 ·refine au 8 rfl ?_
  exact zr (s.imp fun _ q => ⟨_, rfl, q⟩)
theorem xw.of {B : RO} {p1 : Option Addr} {i2 : Int} {h : Heap} {Q : Int → Heap → Prop} (s : Zs B p1 i2 h Q) : xw B p1 i2 h Q := by
 refine zspec Tryz.func53 [ResultVar.tmp 4] rfl rfl rfl rfl rfl ?_
 refine au 8 rfl ?_
 refine zcall s rfl rfl YE ?_
 rintro _ h4 ⟨b5, s6, i7, rfl, s⟩
 refine au 3 rfl ?_
 refine zal s rfl zL rfl fun k8 h9 s => ?_
 refine zsn s rfl rfl rfl zj rfl fun h10 s => ?_
 refine au 6 rfl ?_
 refine zt s rfl rfl rfl zU zT (fun s => ?_) fun s => ?_
 ·refine au 2 rfl ?_
  refine Run.drawM (fun h' => h' = h10) [13] ⟨[0, 1, 2, 4, 8, 0, 32, 64, 128, 256, 512, 1024, 0, 6160], [16383, 16382, 16381, 16379, 16375, 16383, 16351, 16319, 16255, 16127, 15871, 15359, 16383, 10223], [0, 1, 3, 7, 15, 0, 32, 96, 224, 480, 992, 2016, 0, 8191], 8192⟩ (.q 0 (.q 1 (.q 2 (.q 3 (.q 4 (.q 5 (.q 6 (.q 7 (.q 8 (.q 9 (.q 10 (.q 11 (.q 12 (.x 13 .nil .no)))))))))))))) zR (by kernel_rfl) rfl ?_
  refine auT 1 rfl ?_
  obtain ⟨A11, e12, s⟩ := s
  refine zqe rfl (zp A11 (congrArg Value.pointer e12) ⟨rfl, rfl⟩) ?_
  refine auT 2 rfl ?_
  obtain ⟨p13, hl, s⟩ := s
  refine zqe rfl (zh (Addr.add (Addr.add A11 2) 1) ((.pointer p13)) rfl Yz hl ⟨rfl, rfl⟩) ?_
  refine auT 1 rfl ?_
  obtain ⟨A14, e15, s⟩ := s
  refine zqe rfl (zp A14 (congrArg Value.pointer e15) ⟨rfl, rfl⟩) ?_
  refine auT 1 rfl ?_
  obtain ⟨p16, hl, s⟩ := s
  refine zqe rfl (zh A14 ((.pointer p16)) rfl yE hl ⟨rfl, rfl⟩) ?_
  obtain ⟨A17, e18, s⟩ := s
  refine zqe rfl (zp A17 (congrArg Value.pointer e18) ⟨rfl, rfl⟩) ?_
  refine auT 1 rfl ?_
  obtain ⟨p19, hl, s⟩ := s
  refine zqe rfl (zh (Addr.add A17 1) ((.pointer p19)) rfl Za hl ⟨rfl, rfl⟩) ?_
  refine auT 1 rfl ?_
  refine ⟨zo rfl (zA [(.pointer p13), (.pointer p19), (.int .i64 (i2))] (zin) rfl rfl (Spec.mono s fun v h20 hv => ?_)), trivial⟩
  obtain ⟨b21, rfl, s⟩ := hv
  refine ⟨fun hz => Bool.noConfusion hz, ?_⟩
  refine au 5 rfl ?_
  exact zr (s.imp fun _ q => ⟨_, rfl, q⟩)
 ·refine au 8 rfl ?_
  exact zr (s.imp fun _ q => ⟨_, rfl, q⟩)
theorem xy.of {B : RO} {p1 : Option Addr} {i2 : Int} {h : Heap} {Q : Int → Heap → Prop} (s : Zt B p1 i2 h Q) : xy B p1 i2 h Q := by
 refine zspec Tryz.func54 [ResultVar.tmp 4] rfl rfl rfl rfl rfl ?_
 refine au 8 rfl ?_
 refine zcall s rfl rfl YE ?_
 rintro _ h4 ⟨b5, s6, i7, rfl, s⟩
 refine au 3 rfl ?_
 refine zal s rfl zL rfl fun k8 h9 s => ?_
 refine zsn s rfl rfl rfl zj rfl fun h10 s => ?_
 refine au 6 rfl ?_
 refine zt s rfl rfl rfl zU zT (fun s => ?_) fun s => ?_
 ·refine au 2 rfl ?_
  refine Run.drawM (fun h' => h' = h10) [13] ⟨[0, 1, 2, 4, 8, 0, 32, 64, 128, 256, 512, 1024, 0, 6160], [16383, 16382, 16381, 16379, 16375, 16383, 16351, 16319, 16255, 16127, 15871, 15359, 16383, 10223], [0, 1, 3, 7, 15, 0, 32, 96, 224, 480, 992, 2016, 0, 8191], 8192⟩ (.q 0 (.q 1 (.q 2 (.q 3 (.q 4 (.q 5 (.q 6 (.q 7 (.q 8 (.q 9 (.q 10 (.q 11 (.q 12 (.x 13 .nil .no)))))))))))))) zR (by kernel_rfl) rfl ?_
  refine auT 1 rfl ?_
  obtain ⟨A11, e12, s⟩ := s
  refine zqe rfl (zp A11 (congrArg Value.pointer e12) ⟨rfl, rfl⟩) ?_
  refine auT 2 rfl ?_
  obtain ⟨p13, hl, s⟩ := s
  refine zqe rfl (zh (Addr.add (Addr.add A11 2) 1) ((.pointer p13)) rfl Yz hl ⟨rfl, rfl⟩) ?_
  refine auT 1 rfl ?_
  obtain ⟨A14, e15, s⟩ := s
  refine zqe rfl (zp A14 (congrArg Value.pointer e15) ⟨rfl, rfl⟩) ?_
  refine auT 1 rfl ?_
  obtain ⟨p16, hl, s⟩ := s
  refine zqe rfl (zh A14 ((.pointer p16)) rfl yE hl ⟨rfl, rfl⟩) ?_
  obtain ⟨A17, e18, s⟩ := s
  refine zqe rfl (zp A17 (congrArg Value.pointer e18) ⟨rfl, rfl⟩) ?_
  refine auT 1 rfl ?_
  obtain ⟨p19, hl, s⟩ := s
  refine zqe rfl (zh (Addr.add A17 1) ((.pointer p19)) rfl Za hl ⟨rfl, rfl⟩) ?_
  refine auT 1 rfl ?_
  refine ⟨zo rfl (zA [(.pointer p13), (.pointer p19), (.int .i64 (i2))] (zio) rfl rfl (Spec.mono s fun v h20 hv => ?_)), trivial⟩
  obtain ⟨b21, rfl, s⟩ := hv
  refine ⟨fun hz => Bool.noConfusion hz, ?_⟩
  refine au 5 rfl ?_
  exact zr (s.imp fun _ q => ⟨_, rfl, q⟩)
 ·refine au 8 rfl ?_
  exact zr (s.imp fun _ q => ⟨_, rfl, q⟩)
theorem xz.of {B : RO} {p1 : Option Addr} {i2 : Int} {i3 : Int} {h : Heap} {Q : Int → Heap → Prop} (s : Zu B p1 i2 i3 h Q) : xz B p1 i2 i3 h Q := by
 refine zspec Tryz.func55 [ResultVar.tmp 6] rfl rfl rfl rfl rfl ?_
 refine au 4 rfl ?_
 refine Run.seqJ (fun e h6 => Agree [(0, (.pointer p1)), (1, (.int .i64 (i2))), (2, (.int .i64 (i3)))] e ∧ xJ B p1 i2 i3 h6 Q) ?_ fun j5 => ?_
 ·rintro e h6 ⟨hag, s⟩
  refine Run.env hag ?_; clear hag
  refine au 4 rfl ?_
  refine zcall s rfl rfl YE ?_
  rintro _ h7 ⟨b8, s9, i10, rfl, s⟩
  refine au 3 rfl ?_
  refine zal s rfl zL rfl fun k11 h12 s => ?_
  refine zsn s rfl rfl rfl zj rfl fun h13 s => ?_
  refine au 2 rfl ?_
  refine Run.seqJ (fun e h16 => ∃ i15 : Int, Agree [(0, (.pointer p1)), (1, (.int .i64 (i2))), (2, (.int .i64 (i3))), (8, (.int .i64 (i15)))] e ∧ yr B p1 i2 i3 i15 h16 Q) ?_ fun j14 => ?_
  ·rintro e h16 ⟨i15, hag, s⟩
   refine Run.env hag ?_; clear hag
   refine au 4 rfl ?_
   refine zt s rfl rfl rfl zU zT (fun s => ?_) fun s => ?_
   ·refine au 2 rfl ?_
    refine Run.drawM (fun h' => h' = h16) [14] ⟨[0, 1, 2, 4, 8, 0, 32, 64, 128, 256, 512, 1024, 0, 0, 14352], [32767, 32766, 32765, 32763, 32759, 32767, 32735, 32703, 32639, 32511, 32255, 31743, 32767, 32767, 18415], [0, 1, 3, 7, 15, 0, 32, 96, 224, 480, 992, 2016, 0, 0, 16383], 16384⟩ (.q 0 (.q 1 (.q 2 (.q 3 (.q 4 (.q 5 (.q 6 (.q 7 (.q 8 (.q 9 (.q 10 (.q 11 (.q 12 (.q 13 (.x 14 .nil .no))))))))))))))) zR (by kernel_rfl) rfl ?_
    refine auT 1 rfl ?_
    obtain ⟨A17, e18, s⟩ := s
    refine zqe rfl (zp A17 (congrArg Value.pointer e18) ⟨rfl, rfl⟩) ?_
    refine auT 2 rfl ?_
    obtain ⟨p19, hl, s⟩ := s
    refine zqe rfl (zh (Addr.add (Addr.add A17 2) 1) ((.pointer p19)) rfl Yz hl ⟨rfl, rfl⟩) ?_
    refine auT 1 rfl ?_
    obtain ⟨A20, e21, s⟩ := s
    refine zqe rfl (zp A20 (congrArg Value.pointer e21) ⟨rfl, rfl⟩) ?_
    refine auT 1 rfl ?_
    obtain ⟨p22, hl, s⟩ := s
    refine zqe rfl (zh A20 ((.pointer p22)) rfl yE hl ⟨rfl, rfl⟩) ?_
    obtain ⟨A23, e24, s⟩ := s
    refine zqe rfl (zp A23 (congrArg Value.pointer e24) ⟨rfl, rfl⟩) ?_
    refine auT 1 rfl ?_
    obtain ⟨p25, hl, s⟩ := s
    refine zqe rfl (zh (Addr.add A23 1) ((.pointer p25)) rfl Za hl ⟨rfl, rfl⟩) ?_
    refine auT 2 rfl ?_
    refine ⟨zo rfl (zA [(.pointer p19), (.pointer p25), (.int .i64 (i2)), (.int .i64 (i3))] (ziq) rfl rfl (Spec.mono s fun v h26 hv => ?_)), trivial⟩
    obtain ⟨b27, rfl, s⟩ := hv
    refine ⟨fun hz => Bool.noConfusion hz, ?_⟩
    refine au 5 rfl ?_
    exact zr (s.imp fun _ q => ⟨_, rfl, q⟩)
   ·refine au 8 rfl ?_
    exact zr (s.imp fun _ q => ⟨_, rfl, q⟩)
  refine au 3 rfl ?_
  refine zt s rfl rfl rfl zU zT (fun s => ?_) fun s => ?_
  ·refine au 5 rfl ?_
   refine zcall s rfl rfl YE ?_
   rintro _ h28 ⟨b29, s30, i31, rfl, s⟩
   refine au 5 rfl ?_
   exact Run.of_fin (s.imp fun h' s => j14 _ _ ⟨(i31), ⟨rfl, rfl, rfl, rfl, trivial⟩, s⟩)
  ·refine au 3 rfl ?_
   exact Run.of_fin (s.imp fun h' s => j14 _ _ ⟨(i10), ⟨rfl, rfl, rfl, rfl, trivial⟩, s⟩)
 refine au 3 rfl ?_
 by_cases hb32 : p1 = none
 ·replace s := s.1 hb32
  refine zg rfl (zK p1 (.inr rfl) false rfl rfl yn hb32 rfl ?_)
  refine au 11 rfl ?_
  exact Run.of_fin (s.imp fun h' s => j5 _ _ ⟨⟨rfl, rfl, rfl, trivial⟩, s⟩)
 ·replace s := s.2 hb32
  refine zg rfl (zJ p1 (.inr rfl) true rfl rfl yn hb32 rfl ?_)
  refine au 2 rfl ?_
  refine zt s rfl rfl rfl zG zF (fun s => ?_) fun s => ?_
  ·refine au 11 rfl ?_
   exact zr (s.imp fun _ q => ⟨_, rfl, q⟩)
  ·refine au 2 rfl ?_
   refine zt s rfl rfl rfl yP yO (fun s => ?_) fun s => ?_
   ·refine au 8 rfl ?_
    exact zr (s.imp fun _ q => ⟨_, rfl, q⟩)
   ·refine au 5 rfl ?_
    exact Run.of_fin (s.imp fun h' s => j5 _ _ ⟨⟨rfl, rfl, rfl, trivial⟩, s⟩)
theorem x6.of {B : RO} {p1 : Option Addr} {i2 : Int} {i3 : Int} {h : Heap} {Q : Int → Heap → Prop} (s : Yi B p1 i2 i3 h Q) : x6 B p1 i2 i3 h Q := by
 refine zspec Tryz.func56 [ResultVar.tmp 6] rfl rfl rfl rfl rfl ?_
 refine au 8 rfl ?_
 refine zcall s rfl rfl YE ?_
 rintro _ h5 ⟨b6, s7, i8, rfl, s⟩
 refine au 3 rfl ?_
 refine zal s rfl zL rfl fun k9 h10 s => ?_
 refine zsn s rfl rfl rfl zj rfl fun h11 s => ?_
 refine au 6 rfl ?_
 refine zt s rfl rfl rfl zU zT (fun s => ?_) fun s => ?_
 ·refine au 2 rfl ?_
  refine Run.drawM (fun h' => h' = h11) [14] ⟨[0, 1, 2, 4, 8, 0, 32, 64, 128, 256, 512, 1024, 0, 0, 14352], [32767, 32766, 32765, 32763, 32759, 32767, 32735, 32703, 32639, 32511, 32255, 31743, 32767, 32767, 18415], [0, 1, 3, 7, 15, 0, 32, 96, 224, 480, 992, 2016, 0, 0, 16383], 16384⟩ (.q 0 (.q 1 (.q 2 (.q 3 (.q 4 (.q 5 (.q 6 (.q 7 (.q 8 (.q 9 (.q 10 (.q 11 (.q 12 (.q 13 (.x 14 .nil .no))))))))))))))) zR (by kernel_rfl) rfl ?_
  refine auT 1 rfl ?_
  obtain ⟨A12, e13, s⟩ := s
  refine zqe rfl (zp A12 (congrArg Value.pointer e13) ⟨rfl, rfl⟩) ?_
  refine auT 2 rfl ?_
  obtain ⟨p14, hl, s⟩ := s
  refine zqe rfl (zh (Addr.add (Addr.add A12 2) 1) ((.pointer p14)) rfl Yz hl ⟨rfl, rfl⟩) ?_
  refine auT 1 rfl ?_
  obtain ⟨A15, e16, s⟩ := s
  refine zqe rfl (zp A15 (congrArg Value.pointer e16) ⟨rfl, rfl⟩) ?_
  refine auT 1 rfl ?_
  obtain ⟨p17, hl, s⟩ := s
  refine zqe rfl (zh A15 ((.pointer p17)) rfl yE hl ⟨rfl, rfl⟩) ?_
  obtain ⟨A18, e19, s⟩ := s
  refine zqe rfl (zp A18 (congrArg Value.pointer e19) ⟨rfl, rfl⟩) ?_
  refine auT 1 rfl ?_
  obtain ⟨p20, hl, s⟩ := s
  refine zqe rfl (zh (Addr.add A18 1) ((.pointer p20)) rfl Za hl ⟨rfl, rfl⟩) ?_
  refine auT 2 rfl ?_
  refine ⟨zo rfl (zA [(.pointer p14), (.pointer p20), (.int .i64 (i2)), (.int .i64 (i3))] (zir) rfl rfl (Spec.mono s fun v h21 hv => ?_)), trivial⟩
  obtain ⟨b22, rfl, s⟩ := hv
  refine ⟨fun hz => Bool.noConfusion hz, ?_⟩
  refine au 5 rfl ?_
  exact zr (s.imp fun _ q => ⟨_, rfl, q⟩)
 ·refine au 8 rfl ?_
  exact zr (s.imp fun _ q => ⟨_, rfl, q⟩)
theorem xW.of {B : RO} {p1 : Option Addr} {i2 : Int} {h : Heap} {Q : Int → Int → Heap → Prop} (s : Z9 B p1 i2 h Q) : xW B p1 i2 h Q := by
 refine zspec Tryz.func57 [ResultVar.tmp 4, ResultVar.tmp 5] rfl rfl rfl rfl rfl ?_
 refine au 5 rfl ?_
 refine Run.seqJ (fun e h6 => Agree [(0, (.pointer p1)), (1, (.int .i64 (i2)))] e ∧ vW B p1 i2 h6 Q) ?_ fun j5 => ?_
 ·rintro e h6 ⟨hag, s⟩
  refine Run.env hag ?_; clear hag
  refine au 5 rfl ?_
  refine zcall s rfl rfl za2 ?_
  rintro _ h7 ⟨i8, rfl, s⟩
  refine au 5 rfl ?_
  refine zu s rfl rfl rfl wj wi (fun s => ?_) fun s => ?_
  ·refine au 6 rfl ?_
   refine znil s rfl rfl fun A9 s => ?_
   refine au 1 rfl ?_
   refine zl s rfl rfl yE fun p11 s => ?_
   refine znil s rfl rfl fun A12 s => ?_
   refine au 1 rfl ?_
   refine zl s rfl rfl Yy fun p14 s => ?_
   refine au 1 rfl ?_
   refine zcall s rfl rfl Wo ?_
   rintro _ h15 ⟨i16, i17, rfl, s⟩
   refine au 7 rfl ?_
   obtain ⟨A19, e20, s⟩ := s
   obtain ⟨p23, hl, s⟩ := s
   have f24 := hl
   obtain ⟨A25, e26, s⟩ := s
   obtain ⟨p29, hl, s⟩ := s
   have f30 := hl
   obtain ⟨A33, e34, s⟩ := s
   obtain ⟨p38, hl, s⟩ := s
   have f39 := hl
   refine Run.drawM (fun h' => cellH B h' A19 = some (.pointer p23) ∧ cellH B h' (Addr.add A25 2) = some (.pointer p29) ∧ cellH B h' (Addr.add (Addr.add A33 2) 2) = some (.pointer p38) ∧ True) [] ⟨[0, 1, 2, 4, 8, 16, 32, 0, 0, 256, 512, 1024, 2048, 0, 0, 28672, 32960, 131071], [262143, 262142, 262141, 262139, 262135, 262127, 262111, 262143, 262143, 261887, 261631, 261119, 260095, 262143, 262143, 233471, 229183, 196607], [0, 0, 0, 0, 0, 0, 0, 0, 0, 0, 0, 0, 0, 0, 0, 0, 0, 0], 0⟩ (.q 0 (.q 1 (.q 2 (.q 3 (.q 4 (.q 5 (.q 6 (.q 7 (.q 8 (.q 9 (.q 10 (.q 11 (.q 12 (.q 13 (.q 14 (.x 15 (.x 16 (.q 17 .nil) .no) .no)))))))))))))))) zR (by kernel_rfl) ⟨f24, f30, f39, trivial⟩ ?_
   refine auT 1 rfl ?_
   refine zq rfl (fun _ hC => zp A19 (congrArg Value.pointer e20) ⟨rfl, rfl⟩) ?_
   refine auT 1 rfl ?_
   refine zq rfl (fun _ hC => zh A19 ((.pointer p23)) rfl yE hC.1 ⟨rfl, rfl⟩) ?_
   refine zq rfl (fun _ hC => zp A25 (congrArg Value.pointer e26) ⟨rfl, rfl⟩) ?_
   refine auT 1 rfl ?_
   refine zq rfl (fun _ hC => zh (Addr.add A25 2) ((.pointer p29)) rfl Yy hC.2.1 ⟨rfl, rfl⟩) ?_
   refine auT 2 rfl ?_
   refine zq rfl (fun _ hC => zp A33 (congrArg Value.pointer e34) ⟨rfl, rfl⟩) ?_
   refine auT 2 rfl ?_
   refine zq rfl (fun _ hC => zh (Addr.add (Addr.add A33 2) 2) ((.pointer p38)) rfl zbG hC.2.2.1 ⟨rfl, rfl⟩) ?_
   refine auT 2 rfl ?_
   refine ⟨zo rfl (zA [(.pointer p38), (.int .i64 (i2)), (.int .i64 (i16))] (zit) rfl rfl (Spec.mono s fun v h42 hv => ?_)), trivial⟩
   obtain ⟨i43, rfl, s⟩ := hv
   obtain ⟨g44, g45, g46, s⟩ := s
   refine ⟨fun _ => ⟨g44, g45, g46, trivial⟩, ?_⟩
   refine ⟨zo rfl (zA [(.pointer p29), (.int .i64 (i2)), (.int .i64 (i43))] (zis) rfl rfl (Spec.mono s fun v h47 hv => ?_)), trivial⟩
   obtain ⟨i48, rfl, s⟩ := hv
   obtain ⟨g49, g50, g51, s⟩ := s
   refine ⟨fun _ => ⟨g49, g50, g51, trivial⟩, ?_⟩
   refine auT 1 rfl ?_
   refine au 4 rfl ?_
   refine zt s rfl rfl rfl zG zF (fun s => ?_) fun s => ?_
   ·refine au 7 rfl ?_
    exact zr (s.imp fun _ q => ⟨_, _, rfl, q⟩)
   ·refine au 6 rfl ?_
    refine znil s rfl rfl fun A52 s => ?_
    refine au 2 rfl ?_
    refine zl s rfl rfl zbG fun p54 s => ?_
    refine au 1 rfl ?_
    refine zcall s rfl rfl ziu ?_
    rintro _ h55 ⟨b56, rfl, s⟩
    refine au 7 rfl ?_
    exact zr (s.imp fun _ q => ⟨_, _, rfl, q⟩)
  ·refine au 8 rfl ?_
   exact zr (s.imp fun _ q => ⟨_, _, rfl, q⟩)
 refine au 4 rfl ?_
 by_cases hb57 : p1 = none
 ·replace s := s.1 hb57
  refine zg rfl (zK p1 (.inl rfl) true rfl rfl yn hb57 rfl ?_)
  refine au 8 rfl ?_
  exact zr (s.imp fun _ q => ⟨_, _, rfl, q⟩)
 ·replace s := s.2 hb57
  refine zg rfl (zJ p1 (.inl rfl) false rfl rfl yn hb57 rfl ?_)
  refine au 6 rfl ?_
  refine zt s rfl rfl rfl zG zF (fun s => ?_) fun s => ?_
  ·refine au 12 rfl ?_
   exact zr (s.imp fun _ q => ⟨_, _, rfl, q⟩)
  ·refine au 2 rfl ?_
   refine zt s rfl rfl rfl yP yO (fun s => ?_) fun s => ?_
   ·refine au 9 rfl ?_
    exact zr (s.imp fun _ q => ⟨_, _, rfl, q⟩)
   ·refine au 6 rfl ?_
    exact Run.of_fin (s.imp fun h' s => j5 _ _ ⟨⟨rfl, rfl, trivial⟩, s⟩)
theorem wI.of {B : RO} {p1 : Option Addr} {i2 : Int} {h : Heap} {Q : Bool → Heap → Prop} (s : zaF B p1 i2 h Q) : wI B p1 i2 h Q := by
 refine zspec Tryz.func58 [ResultVar.tmp 4] rfl rfl rfl rfl rfl ?_
 refine au 7 rfl ?_
 by_cases hb4 : p1 = none
 ·replace s := s.1 hb4
  refine zg rfl (zK p1 (.inr rfl) false rfl rfl XZ hb4 rfl ?_)
  refine au 10 rfl ?_
  exact zr (s.imp fun _ q => ⟨_, rfl, q⟩)
 ·replace s := s.2 hb4
  refine zg rfl (zJ p1 (.inr rfl) true rfl rfl XZ hb4 rfl ?_)
  refine au 2 rfl ?_
  refine zt s rfl rfl rfl yP yO (fun s => ?_) fun s => ?_
  ·refine au 7 rfl ?_
   exact zr (s.imp fun _ q => ⟨_, rfl, q⟩)
  ·refine au 7 rfl ?_
   exact zr (s.imp fun _ q => ⟨_, rfl, q⟩)
theorem yR.of {B : RO} {b1 : Bool} {s2 : ByteArray} {i3 : Int} {h : Heap} {Q : Int → Heap → Prop} (s : Ym B b1 s2 i3 h Q) : yR B b1 s2 i3 h Q := by
 refine zspec Tryz.func59 [ResultVar.tmp 4] rfl rfl rfl rfl rfl ?_
 refine au 2 rfl ?_
 refine zbn s rfl rfl rfl fun k5 h6 s => ?_
 refine au 8 rfl ?_
 obtain ⟨J12, m10, h0, s⟩ := s
 refine Run.of_fin (h0.imp fun h' h0 => ?_)
 refine Run.loop (σ := Int × Nat) (fun x e h => J12 x.1 x.2 h ∧ Agree [(1, (.int .i64 (i3))), (2, (.pointer (some ⟨k5, 0, none⟩))), (5, (.int .i64 (x.1)))] e) (fun x => x.2) ((0), m10) ⟨h0, ⟨rfl, rfl, rfl, trivial⟩⟩ ?_; clear h0
 rintro ⟨i7, m9⟩ e h8 ⟨hJ, hag⟩ ih11
 have s := s i7 m9 h8 hJ; clear hJ
 refine Run.env hag ?_; clear hag
 refine au 5 rfl ?_
 refine zl s rfl rfl yV fun s13 s => ?_
 refine zg rfl (wD s13 rfl xi ?_)
 refine zt s rfl rfl rfl zG zF (fun s => ?_) fun s => ?_
 ·refine au 9 rfl ?_
  refine zt s rfl rfl rfl zU zT (fun s => ?_) fun s => ?_
  ·refine au 5 rfl ?_
   refine zl s rfl rfl yV fun s14 s => ?_
   refine au 1 rfl ?_
   obtain ⟨hi0, hi1, s⟩ := s
   refine zg rfl (XI s14 .i64 (i7) rfl rfl xi hi0 hi1 ?_)
   refine zg rfl (vH .u8 .i64 (x4 s14 (Int.toNat (i7))) rfl XK Zx ?_)
   refine au 2 rfl ?_
   exact zr (s.imp fun _ q => ⟨_, rfl, q⟩)
  ·refine au 9 rfl ?_
   exact Run.of_fin (s.imp fun h' ⟨m', hm, s⟩ => ih11 ((IntKind.wrap .i64 ((i7) + (1))), m') _ _ ⟨s, ⟨rfl, rfl, rfl, trivial⟩⟩ hm)
 ·refine au 7 rfl ?_
  exact zr (s.imp fun _ q => ⟨_, rfl, q⟩)
theorem xh.of {B : RO} {p1 : Option Addr} {i2 : Int} {i3 : Int} {i4 : Int} {h : Heap} {Q : Bool → Heap → Prop} (s : ZT B p1 i2 i3 i4 h Q) : xh B p1 i2 i3 i4 h Q := by
 refine zspec Tryz.func60 [ResultVar.tmp 8] rfl rfl rfl rfl rfl ?_
 refine au 8 rfl ?_
 refine zcall s rfl rfl xE ?_
 rintro _ h6 ⟨b7, rfl, s⟩
 cases b7
 ·replace s := s.2 rfl
  refine au 6 rfl ?_
  refine zcall s rfl rfl xE ?_
  rintro _ h8 ⟨b9, rfl, s⟩
  refine au 2 rfl ?_
  exact zr (s.imp fun _ q => ⟨_, rfl, q⟩)
 ·replace s := s.1 rfl
  refine au 7 rfl ?_
  refine znil s rfl rfl fun A10 s => ?_
  refine au 1 rfl ?_
  obtain ⟨hi0, hi1, s⟩ := s
  refine zg rfl (zC (Addr.add A10 12) .i64 (i2) rfl rfl ZW hi0 hi1 ?_)
  obtain ⟨b12, s13, hl, s⟩ := s
  refine zn hl rfl rfl yQ yz rfl ?_
  refine au 2 rfl ?_
  refine zcall s rfl rfl zgp ?_
  rintro _ h14 ⟨b15, s16, rfl, s⟩
  refine zcall s rfl rfl YK ?_
  rintro _ h17 ⟨rfl, s⟩
  refine au 4 rfl ?_
  refine zcall s rfl rfl xE ?_
  rintro _ h18 ⟨b19, rfl, s⟩
  refine au 2 rfl ?_
  exact zr (s.imp fun _ q => ⟨_, rfl, q⟩)
theorem xb.of {B : RO} {p1 : Option Addr} {i2 : Int} {h : Heap} {Q : Bool → Heap → Prop} (s : ZF B p1 i2 h Q) : xb B p1 i2 h Q := by
 refine zspec Tryz.func61 [ResultVar.tmp 4] rfl rfl rfl rfl rfl ?_
 refine au 8 rfl ?_
 refine zcall s rfl rfl xE ?_
 rintro _ h4 ⟨b5, rfl, s⟩
 cases b5
 ·replace s := s.2 rfl
  refine au 6 rfl ?_
  refine zcall s rfl rfl xE ?_
  rintro _ h6 ⟨b7, rfl, s⟩
  refine au 2 rfl ?_
  exact zr (s.imp fun _ q => ⟨_, rfl, q⟩)
 ·replace s := s.1 rfl
  refine au 7 rfl ?_
  refine znil s rfl rfl fun A8 s => ?_
  refine au 1 rfl ?_
  obtain ⟨hi0, hi1, s⟩ := s
  refine zg rfl (zC (Addr.add A8 12) .i64 (i2) rfl rfl ZW hi0 hi1 ?_)
  refine au 1 rfl ?_
  refine zl s rfl rfl yV fun s10 s => ?_
  refine zg rfl (zH [(0, (.bool true)), (1, (.string s10))] [(.bool true), (.string s10)] YG Y7 rfl rfl ?_)
  refine zcall s rfl rfl YK ?_
  rintro _ h11 ⟨rfl, s⟩
  refine au 4 rfl ?_
  refine zcall s rfl rfl xE ?_
  rintro _ h12 ⟨b13, rfl, s⟩
  refine au 2 rfl ?_
  exact zr (s.imp fun _ q => ⟨_, rfl, q⟩)
theorem xc.of {B : RO} {p1 : Option Addr} {i2 : Int} {h : Heap} {Q : Bool → Heap → Prop} (s : ZG B p1 i2 h Q) : xc B p1 i2 h Q := by
 refine zspec Tryz.func62 [ResultVar.tmp 4] rfl rfl rfl rfl rfl ?_
 refine au 8 rfl ?_
 refine zcall s rfl rfl xE ?_
 rintro _ h4 ⟨b5, rfl, s⟩
 cases b5
 ·replace s := s.2 rfl
  refine au 6 rfl ?_
  refine zcall s rfl rfl xE ?_
  rintro _ h6 ⟨b7, rfl, s⟩
  refine au 2 rfl ?_
  exact zr (s.imp fun _ q => ⟨_, rfl, q⟩)
 ·replace s := s.1 rfl
  refine au 5 rfl ?_
  refine zg rfl (zH [] [(.bool false), (.string ByteArray.empty)] YG Y7 rfl rfl ?_)
  refine zcall s rfl rfl YK ?_
  rintro _ h8 ⟨rfl, s⟩
  refine au 4 rfl ?_
  refine zcall s rfl rfl xE ?_
  rintro _ h9 ⟨b10, rfl, s⟩
  refine au 2 rfl ?_
  exact zr (s.imp fun _ q => ⟨_, rfl, q⟩)
theorem xd.of {B : RO} {p1 : Option Addr} {i2 : Int} {i3 : Int} {h : Heap} {Q : Bool → Heap → Prop} (s : ZH B p1 i2 i3 h Q) : xd B p1 i2 i3 h Q := by
 refine zspec Tryz.func63 [ResultVar.tmp 6] rfl rfl rfl rfl rfl ?_
 refine au 4 rfl ?_
 refine Run.seqJ (fun e h6 => Agree [(0, (.pointer p1)), (1, (.int .i64 (i2))), (2, (.int .i64 (i3)))] e ∧ wq B p1 i2 i3 h6 Q) ?_ fun j5 => ?_
 ·rintro e h6 ⟨hag, s⟩
  refine Run.env hag ?_; clear hag
  refine au 1 rfl ?_
  refine Run.seqJ (fun e h9 => ∃ b8 : Bool, Agree [(0, (.pointer p1)), (1, (.int .i64 (i2))), (2, (.int .i64 (i3))), (26, (.bool b8))] e ∧ yp B p1 i2 i3 b8 h9 Q) ?_ fun j7 => ?_
  ·rintro e h9 ⟨b8, hag, s⟩
   refine Run.env hag ?_; clear hag
   cases b8
   ·replace s := s.2 rfl
    refine au 6 rfl ?_
    exact zr (s.imp fun _ q => ⟨_, rfl, q⟩)
   ·replace s := s.1 rfl
    refine au 7 rfl ?_
    refine znil s rfl rfl fun A10 s => ?_
    refine au 1 rfl ?_
    obtain ⟨hi0, hi1, s⟩ := s
    refine zg rfl (zC (Addr.add A10 12) .i64 (i2) rfl rfl ZW hi0 hi1 ?_)
    obtain ⟨b12, s13, hl, s⟩ := s
    refine zn hl rfl rfl yQ yz rfl ?_
    refine zcall s rfl rfl YK ?_
    rintro _ h14 ⟨rfl, s⟩
    refine au 4 rfl ?_
    refine zg rfl (zH [] [(.bool false), (.string ByteArray.empty)] YG Y7 rfl rfl ?_)
    refine zcall s rfl rfl YK ?_
    rintro _ h15 ⟨rfl, s⟩
    refine au 5 rfl ?_
    exact zr (s.imp fun _ q => ⟨_, rfl, q⟩)
  refine au 3 rfl ?_
  refine znil s rfl rfl fun A16 s => ?_
  refine au 1 rfl ?_
  obtain ⟨hi0, hi1, s⟩ := s
  refine zg rfl (zC (Addr.add A16 12) .i64 (i2) rfl rfl ZW hi0 hi1 ?_)
  refine au 1 rfl ?_
  refine zl s rfl rfl VL fun b18 s => ?_
  cases b18
  ·replace s := s.2 rfl
   refine au 6 rfl ?_
   exact Run.of_fin (s.imp fun h' s => j7 _ _ ⟨(false), ⟨rfl, rfl, rfl, rfl, trivial⟩, s⟩)
  ·replace s := s.1 rfl
   refine au 3 rfl ?_
   refine zu s rfl rfl rfl wj wi (fun s => ?_) fun s => ?_
   ·refine au 2 rfl ?_
    exact Run.of_fin (s.imp fun h' s => j7 _ _ ⟨(false), ⟨rfl, rfl, rfl, rfl, trivial⟩, s⟩)
   ·refine au 2 rfl ?_
    exact Run.of_fin (s.imp fun h' s => j7 _ _ ⟨(true), ⟨rfl, rfl, rfl, rfl, trivial⟩, s⟩)
 refine au 3 rfl ?_
 refine zcall s rfl rfl xE ?_
 rintro _ h19 ⟨b20, rfl, s⟩
 cases b20
 ·replace s := s.2 rfl
  refine au 12 rfl ?_
  exact zr (s.imp fun _ q => ⟨_, rfl, q⟩)
 ·replace s := s.1 rfl
  refine au 3 rfl ?_
  refine zcall s rfl rfl xE ?_
  rintro _ h21 ⟨b22, rfl, s⟩
  cases b22
  ·replace s := s.2 rfl
   refine au 8 rfl ?_
   exact zr (s.imp fun _ q => ⟨_, rfl, q⟩)
  ·replace s := s.1 rfl
   refine au 5 rfl ?_
   exact Run.of_fin (s.imp fun h' s => j5 _ _ ⟨⟨rfl, rfl, rfl, trivial⟩, s⟩)
theorem xB.of {B : RO} {p1 : Option Addr} {i2 : Int} {i3 : Int} {h : Heap} {Q : Bool → Heap → Prop} (s : Yn B p1 i2 i3 h Q) : xB B p1 i2 i3 h Q := by
 refine zspec Tryz.func64 [ResultVar.tmp 6] rfl rfl rfl rfl rfl ?_
 refine au 8 rfl ?_
 refine zcall s rfl rfl xE ?_
 rintro _ h5 ⟨b6, rfl, s⟩
 cases b6
 ·replace s := s.2 rfl
  refine au 6 rfl ?_
  refine zcall s rfl rfl xE ?_
  rintro _ h7 ⟨b8, rfl, s⟩
  refine au 2 rfl ?_
  exact zr (s.imp fun _ q => ⟨_, rfl, q⟩)
 ·replace s := s.1 rfl
  refine au 7 rfl ?_
  refine znil s rfl rfl fun A9 s => ?_
  refine au 1 rfl ?_
  obtain ⟨hi0, hi1, s⟩ := s
  refine zg rfl (zC (Addr.add A9 12) .i64 (i2) rfl rfl ZW hi0 hi1 ?_)
  obtain ⟨b11, s12, hl, s⟩ := s
  refine zn hl rfl rfl yQ yz rfl ?_
  refine au 1 rfl ?_
  refine zcall s rfl rfl zgq ?_
  rintro _ h13 ⟨b14, s15, rfl, s⟩
  refine zcall s rfl rfl YK ?_
  rintro _ h16 ⟨rfl, s⟩
  refine au 4 rfl ?_
  refine zcall s rfl rfl xE ?_
  rintro _ h17 ⟨b18, rfl, s⟩
  refine au 2 rfl ?_
  exact zr (s.imp fun _ q => ⟨_, rfl, q⟩)
theorem ww.of {B : RO} {p1 : Option Addr} {i2 : Int} {h : Heap} {Q : Int → Heap → Prop} (s : XB B p1 i2 h Q) : ww B p1 i2 h Q := by
 refine zspec Tryz.func65 [ResultVar.tmp 4] rfl rfl rfl rfl rfl ?_
 refine au 8 rfl ?_
 refine zcall s rfl rfl Vk ?_
 rintro _ h4 ⟨i5, i6, rfl, s⟩
 refine au 11 rfl ?_
 exact zr (s.imp fun _ q => ⟨_, rfl, q⟩)
theorem wH.of {B : RO} {p1 : Option Addr} {i2 : Int} {i3 : Int} {h : Heap} {Q : Bool → Heap → Prop} (s : XU B p1 i2 i3 h Q) : wH B p1 i2 i3 h Q := by
 refine zspec Tryz.func66 [ResultVar.tmp 6] rfl rfl rfl rfl rfl ?_
 refine au 8 rfl ?_
 by_cases hb5 : p1 = none
 ·replace s := s.1 hb5
  refine zg rfl (zK p1 (.inl rfl) true rfl rfl YB hb5 rfl ?_)
  refine au 6 rfl ?_
  exact zr (s.imp fun _ q => ⟨_, rfl, q⟩)
 ·replace s := s.2 hb5
  refine zg rfl (zJ p1 (.inl rfl) false rfl rfl YB hb5 rfl ?_)
  refine au 7 rfl ?_
  refine zcall s rfl rfl zdi ?_
  rintro _ h6 ⟨i7, b8, rfl, s⟩
  refine au 2 rfl ?_
  cases b8
  ·replace s := s.2 rfl
   refine au 1 rfl ?_
   refine au 12 rfl ?_
   refine znil s rfl rfl fun A9 s => ?_
   refine au 1 rfl ?_
   refine Run.ldSl s fun a11 n12 c13 h14 hl s => ?_
   refine zg rfl (zh A9 ((.slice a11 n12 c13)) rfl Wj hl ?_)
   refine au 3 rfl ?_
   refine zg rfl (zH [(0, (.int .i64 (i2))), (1, (.int .i64 (i3)))] [(.int .i64 (i2)), (.int .i64 (i3))] zar zeS rfl rfl ?_)
   refine zg rfl (yh [(0, (.agg #[(.int .i64 (i2)), (.int .i64 (i3))]))] [(.int .i64 (i2)), (.int .i64 (i3))] y4 zar rfl (by decide) (by decide) rfl rfl (fun k15 hb1 hb2 h16 hb3 => ?_))
   have s := s k15 hb1 hb2 h16 hb3
   refine zcall s rfl rfl zgr ?_
   rintro _ h17 ⟨a18, n19, c20, rfl, s⟩
   refine znil s rfl rfl fun A21 s => ?_
   refine au 1 rfl ?_
   refine zs1 s rfl rfl rfl rfl zjj fun h23 s => ?_
   refine au 5 rfl ?_
   exact zr (s.imp fun _ q => ⟨_, rfl, q⟩)
  ·replace s := s.1 rfl
   refine au 1 rfl ?_
   refine au 11 rfl ?_
   refine znil s rfl rfl fun A24 s => ?_
   refine au 1 rfl ?_
   refine Run.ldSl s fun a26 n27 c28 h29 hl s => ?_
   refine zg rfl (zh A24 ((.slice a26 n27 c28)) rfl Wj hl ?_)
   refine au 2 rfl ?_
   obtain ⟨A30, e31, hi0, hi1, s⟩ := s
   refine zg rfl (zZ A30 n27 c28 .i64 (i7) (congrArg (fun a => Value.slice a n27 c28) e31) rfl y4 hi0 hi1 ?_)
   refine au 1 rfl ?_
   refine zs1 s rfl rfl rfl rfl Zl fun h32 s => ?_
   refine au 5 rfl ?_
   exact zr (s.imp fun _ q => ⟨_, rfl, q⟩)
theorem Zj.of {B : RO} {i1 : Int} {i2 : Int} {h : Heap} {Q : Option Addr → Heap → Prop} (s : zaC B i1 i2 h Q) : Zj B i1 i2 h Q := by
 refine zspec Tryz.func67 [ResultVar.tmp 4] rfl rfl rfl rfl rfl ?_
 refine au 6 rfl ?_
 refine zg rfl (zH [] [(.slice none 0 0)] zgS zeU rfl rfl ?_)
 refine zbn s rfl rfl rfl fun k4 h5 s => ?_
 refine au 9 rfl ?_
 obtain ⟨J11, m9, h0, s⟩ := s
 refine Run.of_fin (h0.imp fun h' h0 => ?_)
 refine Run.loop (σ := Int × Nat) (fun x e h => J11 x.1 x.2 h ∧ Agree [(1, (.int .i64 (i2))), (5, (.pointer (some ⟨k4, 0, none⟩))), (8, (.int .i64 (i1))), (9, (.int .i64 (x.1)))] e) (fun x => x.2) ((0), m9) ⟨h0, ⟨rfl, rfl, rfl, rfl, trivial⟩⟩ ?_; clear h0
 rintro ⟨i6, m8⟩ e h7 ⟨hJ, hag⟩ ih10
 have s := s i6 m8 h7 hJ; clear hJ
 refine Run.env hag ?_; clear hag
 refine au 2 rfl ?_
 refine zt s rfl rfl rfl zG zF (fun s => ?_) fun s => ?_
 ·refine au 11 rfl ?_
  refine Run.ldSl s fun a12 n13 c14 h15 hl s => ?_
  refine zg rfl (zh ⟨k4, 0, none⟩ ((.slice a12 n13 c14)) rfl Wl hl ?_)
  refine au 1 rfl ?_
  refine zg rfl (zH [(0, (.int .i64 (i2)))] [(.int .i64 (i2)), (.int .i64 (0))] zas zbv rfl rfl ?_)
  refine zg rfl (yh [(0, (.agg #[(.int .i64 (i2)), (.int .i64 (0))]))] [(.int .i64 (i2)), (.int .i64 (0))] Vo zas rfl (by decide) (by decide) rfl rfl (fun k16 hb1 hb2 h17 hb3 => ?_))
  have s := s k16 hb1 hb2 h17 hb3
  refine zg rfl (zX [(.slice a12 n13 c14), (.slice (some ⟨k16, 0, none⟩) 1 1)] rfl (zB (fun v h18 hv => ?_) s))
  obtain ⟨a19, n20, c21, rfl, s⟩ := hv
  refine au 2 rfl ?_
  refine zs1 s rfl rfl rfl rfl zjl fun h22 s => ?_
  refine au 6 rfl ?_
  exact Run.of_fin (s.imp fun h' ⟨m', hm, s⟩ => ih10 ((IntKind.wrap .i64 ((i6) + (1))), m') _ _ ⟨s, ⟨rfl, rfl, rfl, rfl, trivial⟩⟩ hm)
 ·refine au 9 rfl ?_
  exact zr (s.imp fun _ q => ⟨_, rfl, q⟩)
theorem Wa.of {B : RO} {h : Heap} {Q : Option Addr → Heap → Prop} (s : zc4 B h Q) : Wa B h Q := by
 refine zspec Tryz.func68 [ResultVar.tmp 0] rfl rfl rfl rfl rfl ?_
 refine au 6 rfl ?_
 refine zg rfl (zH [] [(.bool false), (.string ByteArray.empty)] zL xS rfl rfl ?_)
 refine zcall s rfl rfl zgs ?_
 rintro _ h2 ⟨p3, rfl, s⟩
 refine zg rfl (zH [(0, (.pointer p3))] [(.pointer p3)] zgU zeX rfl rfl ?_)
 refine zbn s rfl rfl rfl fun k4 h5 s => ?_
 refine au 2 rfl ?_
 exact zr (s.imp fun _ q => ⟨_, rfl, q⟩)
theorem X7.of {B : RO} {h : Heap} {Q : Option Addr → Heap → Prop} (s : zc1 B h Q) : X7 B h Q := by
 refine zspec Tryz.func69 [ResultVar.tmp 0] rfl rfl rfl rfl rfl ?_
 refine au 6 rfl ?_
 refine zcall s rfl rfl zdg ?_
 rintro _ h2 ⟨p3, rfl, s⟩
 refine zg rfl (zH [(1, (.pointer p3))] [(.string ByteArray.empty), (.string ByteArray.empty), (.string ByteArray.empty), (.pointer p3)] zgM zeM rfl rfl ?_)
 refine zbn s rfl rfl rfl fun k4 h5 s => ?_
 refine au 2 rfl ?_
 exact zr (s.imp fun _ q => ⟨_, rfl, q⟩)
theorem vy.of {B : RO} {i1 : Int} {h : Heap} {Q : Option Addr → Heap → Prop} (s : zck B i1 h Q) : vy B i1 h Q := by
 refine zspec Tryz.func70 [ResultVar.tmp 2] rfl rfl rfl rfl rfl ?_
 refine au 7 rfl ?_
 refine zg rfl (zH [(1, (.int .i64 (i1)))] [(.slice none 0 0), (.int .i64 (i1))] zgO zeO rfl rfl ?_)
 refine zbn s rfl rfl rfl fun k3 h4 s => ?_
 refine au 2 rfl ?_
 exact zr (s.imp fun _ q => ⟨_, rfl, q⟩)
theorem y2.of {B : RO} {i1 : Int} {i2 : Int} {i3 : Int} {i4 : Int} {h : Heap} {Q : Option Addr → Option Addr → Option Addr → Int → Int → Int → Int → Heap → Prop} (s : zbA B i1 i2 i3 i4 h Q) : y2 B i1 i2 i3 i4 h Q := by
 refine zspec Tryz.func71 [ResultVar.cell 2 95] rfl rfl rfl rfl rfl ?_
 refine au 2 rfl ?_
 refine zbn s rfl rfl rfl fun k12 h13 s => ?_
 refine zal s rfl Vs rfl fun k14 h15 s => ?_
 refine au 2 rfl ?_
 obtain ⟨i18, i19, i20, i21, hl, s⟩ := s
 have f22 := hl
 refine Run.drawM (fun h' => za B h' ⟨k12, 0, none⟩ 0 [(.int .i64 (i18)), (.int .i64 (i19)), (.int .i64 (i20)), (.int .i64 (i21))] ∧ True) [7] ⟨[0, 1, 0, 0, 8, 0, 54, 127], [255, 254, 255, 255, 247, 255, 201, 191], [0, 1, 0, 0, 8, 0, 63, 127], 128⟩ (.q 0 (.q 3 (.q 5 (.x 1 (.x 2 (.x 4 (.q 6 (.x 7 .nil .no)) .no) (.x 4 (.x 2 (.q 6 (.x 7 .nil .no)) .no) .no)) (.x 2 (.x 1 (.x 4 (.q 6 (.x 7 .nil .no)) .no) (.x 4 (.x 1 (.q 6 (.x 7 .nil .no)) .no) .no)) (.x 4 (.x 1 (.x 2 (.q 6 (.x 7 .nil .no)) .no) (.x 2 (.x 1 (.q 6 (.x 7 .nil .no)) .no) .no)) .no)))))) zR (by kernel_rfl) ⟨f22, trivial⟩ ?_
 refine zq rfl (fun _ hC => zH [] [(.slice none 0 0)] zgR zeT rfl rfl ⟨rfl, rfl⟩) ?_
 refine zq rfl (fun _ hC => zH [] [(.int .i64 (0)), (.int .i64 (0)), (.int .i64 (0))] zgT zeW rfl rfl ⟨rfl, rfl⟩) ?_
 refine zq rfl (fun _ hC => z0 ⟨k12, 0, none⟩ [(.int .i64 (i18)), (.int .i64 (i19)), (.int .i64 (i20)), (.int .i64 (i21))] rfl ZU Yb hC.1 ⟨rfl, rfl⟩) ?_
 refine RunT.joinJ (t := (.q 6 (.x 7 .nil .no))) (fun e h72 => ∃ A69 : Addr, ∃ p70 : Option Addr, ∃ A71 : Addr, Agree [(2, (.pointer (some ⟨k14, 0, none⟩))), (4, (.pointer (some A69))), (5, (.pointer p70)), (7, (.pointer (some A71))), (8, (.agg #[(.int .i64 (i18)), (.int .i64 (i19)), (.int .i64 (i20)), (.int .i64 (i21))]))] e ∧ za B h72 ⟨k12, 0, none⟩ 0 [(.int .i64 (i18)), (.int .i64 (i19)), (.int .i64 (i20)), (.int .i64 (i21))] ∧ wX B k12 k14 i18 i19 i20 i21 A69 p70 A71 h72 Q) ?_ fun j68 => ?_
 ·rintro e h72 ⟨A69, p70, A71, hag, g73, s⟩
  refine RunT.env hag ?_; clear hag
  refine zq rfl (fun _ _ => zH [(0, (.pointer (some A69))), (1, (.pointer p70)), (2, (.pointer (some A71))), (3, (.agg #[(.int .i64 (i18)), (.int .i64 (i19)), (.int .i64 (i20)), (.int .i64 (i21))]))] [(.pointer (some A69)), (.pointer p70), (.pointer (some A71)), (.int .i64 (i18)), (.int .i64 (i19)), (.int .i64 (i20)), (.int .i64 (i21))] Vs zbJ rfl rfl ⟨rfl, rfl⟩) ?_
  obtain ⟨h74, hst, s⟩ := s
  refine ⟨zo0 rfl (y7 ⟨k14, 0, none⟩ [(.pointer (some A69)), (.pointer p70), (.pointer (some A71)), (.int .i64 (i18)), (.int .i64 (i19)), (.int .i64 (i20)), (.int .i64 (i21))] h74 rfl rfl Yc hst ?_), trivial⟩
  refine ⟨fun hz => Bool.noConfusion hz, ?_⟩
  obtain ⟨p75, p76, p77, i78, i79, i80, i81, hl0, s⟩ := s
  exact zr (⟨⟨k14, 0, none⟩, (.agg #[(.pointer p75), (.pointer p76), (.pointer p77), (.int .i64 (i78)), (.int .i64 (i79)), (.int .i64 (i80)), (.int .i64 (i81))]), rfl, yA XY Yc hl0, s.imp fun _ q => ⟨_, _, _, _, _, _, _, rfl, q⟩⟩)
 refine ⟨?_, ?_, ?_, trivial⟩
 ·have s := s.1
  refine zo rfl (yc [(.slice none 0 0)] rfl (fun k82 hb1 hb2 h83 hb3 => ?_))
  have s := s k82 hb1 hb2 h83 hb3
  obtain ⟨g84, s⟩ := s
  refine ⟨fun _ => ⟨g84, trivial⟩, ?_⟩
  refine ⟨?_, ?_, trivial⟩
  ·have s := s.1
   refine zo rfl (zA [] (XF) rfl rfl (Spec.mono s fun v h85 hv => ?_))
   obtain ⟨p86, rfl, s⟩ := hv
   obtain ⟨g87, s⟩ := s
   refine ⟨fun _ => ⟨g87, trivial⟩, ?_⟩
   refine ⟨zo rfl (yc [(.int .i64 (0)), (.int .i64 (0)), (.int .i64 (0))] rfl (fun k88 hb1 hb2 h89 hb3 => ?_)), trivial⟩
   have s := s k88 hb1 hb2 h89 hb3
   obtain ⟨g90, s⟩ := s
   refine ⟨fun _ => ⟨g90, trivial⟩, ?_⟩
   exact j68 _ _ ⟨⟨k82, 0, none⟩, p86, ⟨k88, 0, none⟩, ⟨rfl, rfl, rfl, rfl, rfl, trivial⟩, g90, s⟩
  ·have s := s.2
   refine zo rfl (yc [(.int .i64 (0)), (.int .i64 (0)), (.int .i64 (0))] rfl (fun k91 hb1 hb2 h92 hb3 => ?_))
   have s := s k91 hb1 hb2 h92 hb3
   obtain ⟨g93, s⟩ := s
   refine ⟨fun _ => ⟨g93, trivial⟩, ?_⟩
   refine ⟨zo rfl (zA [] (XF) rfl rfl (Spec.mono s fun v h94 hv => ?_)), trivial⟩
   obtain ⟨p95, rfl, s⟩ := hv
   obtain ⟨g96, s⟩ := s
   refine ⟨fun _ => ⟨g96, trivial⟩, ?_⟩
   exact j68 _ _ ⟨⟨k82, 0, none⟩, p95, ⟨k91, 0, none⟩, ⟨rfl, rfl, rfl, rfl, rfl, trivial⟩, g96, s⟩
 ·have s := s.2.1
  refine zo rfl (zA [] (XF) rfl rfl (Spec.mono s fun v h97 hv => ?_))
  obtain ⟨p98, rfl, s⟩ := hv
  obtain ⟨g99, s⟩ := s
  refine ⟨fun _ => ⟨g99, trivial⟩, ?_⟩
  refine ⟨?_, ?_, trivial⟩
  ·have s := s.1
   refine zo rfl (yc [(.slice none 0 0)] rfl (fun k100 hb1 hb2 h101 hb3 => ?_))
   have s := s k100 hb1 hb2 h101 hb3
   obtain ⟨g102, s⟩ := s
   refine ⟨fun _ => ⟨g102, trivial⟩, ?_⟩
   refine ⟨zo rfl (yc [(.int .i64 (0)), (.int .i64 (0)), (.int .i64 (0))] rfl (fun k103 hb1 hb2 h104 hb3 => ?_)), trivial⟩
   have s := s k103 hb1 hb2 h104 hb3
   obtain ⟨g105, s⟩ := s
   refine ⟨fun _ => ⟨g105, trivial⟩, ?_⟩
   exact j68 _ _ ⟨⟨k100, 0, none⟩, p98, ⟨k103, 0, none⟩, ⟨rfl, rfl, rfl, rfl, rfl, trivial⟩, g105, s⟩
  ·have s := s.2
   refine zo rfl (yc [(.int .i64 (0)), (.int .i64 (0)), (.int .i64 (0))] rfl (fun k106 hb1 hb2 h107 hb3 => ?_))
   have s := s k106 hb1 hb2 h107 hb3
   obtain ⟨g108, s⟩ := s
   refine ⟨fun _ => ⟨g108, trivial⟩, ?_⟩
   refine ⟨zo rfl (yc [(.slice none 0 0)] rfl (fun k109 hb1 hb2 h110 hb3 => ?_)), trivial⟩
   have s := s k109 hb1 hb2 h110 hb3
   obtain ⟨g111, s⟩ := s
   refine ⟨fun _ => ⟨g111, trivial⟩, ?_⟩
   exact j68 _ _ ⟨⟨k109, 0, none⟩, p98, ⟨k106, 0, none⟩, ⟨rfl, rfl, rfl, rfl, rfl, trivial⟩, g111, s⟩
 ·have s := s.2.2
  refine zo rfl (yc [(.int .i64 (0)), (.int .i64 (0)), (.int .i64 (0))] rfl (fun k112 hb1 hb2 h113 hb3 => ?_))
  have s := s k112 hb1 hb2 h113 hb3
  obtain ⟨g114, s⟩ := s
  refine ⟨fun _ => ⟨g114, trivial⟩, ?_⟩
  refine ⟨?_, ?_, trivial⟩
  ·have s := s.1
   refine zo rfl (yc [(.slice none 0 0)] rfl (fun k115 hb1 hb2 h116 hb3 => ?_))
   have s := s k115 hb1 hb2 h116 hb3
   obtain ⟨g117, s⟩ := s
   refine ⟨fun _ => ⟨g117, trivial⟩, ?_⟩
   refine ⟨zo rfl (zA [] (XF) rfl rfl (Spec.mono s fun v h118 hv => ?_)), trivial⟩
   obtain ⟨p119, rfl, s⟩ := hv
   obtain ⟨g120, s⟩ := s
   refine ⟨fun _ => ⟨g120, trivial⟩, ?_⟩
   exact j68 _ _ ⟨⟨k115, 0, none⟩, p119, ⟨k112, 0, none⟩, ⟨rfl, rfl, rfl, rfl, rfl, trivial⟩, g120, s⟩
  ·have s := s.2
   refine zo rfl (zA [] (XF) rfl rfl (Spec.mono s fun v h121 hv => ?_))
   obtain ⟨p122, rfl, s⟩ := hv
   obtain ⟨g123, s⟩ := s
   refine ⟨fun _ => ⟨g123, trivial⟩, ?_⟩
   refine ⟨zo rfl (yc [(.slice none 0 0)] rfl (fun k124 hb1 hb2 h125 hb3 => ?_)), trivial⟩
   have s := s k124 hb1 hb2 h125 hb3
   obtain ⟨g126, s⟩ := s
   refine ⟨fun _ => ⟨g126, trivial⟩, ?_⟩
   exact j68 _ _ ⟨⟨k124, 0, none⟩, p122, ⟨k112, 0, none⟩, ⟨rfl, rfl, rfl, rfl, rfl, trivial⟩, g126, s⟩
theorem wu.of {B : RO} {p1 : Option Addr} {h : Heap} {Q : Option Addr → Heap → Prop} (s : Wz B p1 h Q) : wu B p1 h Q := by
 refine zspec Tryz.func78 [ResultVar.tmp 2] rfl rfl rfl rfl rfl ?_
 refine au 8 rfl ?_
 by_cases hb3 : p1 = none
 ·replace s := s.1 hb3
  refine zg rfl (zK p1 (.inl rfl) true rfl rfl YC hb3 rfl ?_)
  refine au 6 rfl ?_
  exact zr (s.imp fun _ q => ⟨_, rfl, q⟩)
 ·replace s := s.2 hb3
  refine zg rfl (zJ p1 (.inl rfl) false rfl rfl YC hb3 rfl ?_)
  refine au 6 rfl ?_
  refine znil s rfl rfl fun A4 s => ?_
  refine au 1 rfl ?_
  refine zl s rfl rfl Wi fun p6 s => ?_
  refine au 2 rfl ?_
  exact zr (s.imp fun _ q => ⟨_, rfl, q⟩)
theorem xX.of {B : RO} {p1 : Option Addr} {i2 : Int} {h : Heap} {Q : Int → Bool → Heap → Prop} (s : XE B p1 i2 h Q) : xX B p1 i2 h Q := by
 refine zspec Tryz.func81 [ResultVar.tmp 4, ResultVar.tmp 5] rfl rfl rfl rfl rfl ?_
 refine au 8 rfl ?_
 refine znil s rfl rfl fun A5 s => ?_
 refine au 1 rfl ?_
 refine Run.ldSl s fun a7 n8 c9 h10 hl s => ?_
 refine zg rfl (zh A5 ((.slice a7 n8 c9)) rfl Wj hl ?_)
 refine au 1 rfl ?_
 refine zcall s rfl rfl zgt ?_
 rintro _ h11 ⟨i12, b13, rfl, s⟩
 refine au 5 rfl ?_
 exact zr (s.imp fun _ q => ⟨_, _, rfl, q⟩)
theorem Zp.of {B : RO} {p1 : Option Addr} {l2 : List Value} {i3 : Int} {i4 : Int} {h : Heap} {Q : Bool → Heap → Prop} (s : VK B p1 l2 i3 i4 h Q) : Zp B p1 l2 i3 i4 h Q := by
 refine zspec Tryz.func82 [ResultVar.tmp 8] rfl rfl rfl rfl rfl ?_
 refine au 2 rfl ?_
 refine zg rfl (yc l2 rfl (fun k6 hb1 hb2 h7 hb3 => ?_))
 have s := s k6 hb1 hb2 h7 hb3
 refine au 6 rfl ?_
 by_cases hb8 : p1 = none
 ·replace s := s.1 hb8
  refine zg rfl (zK p1 (.inl rfl) true rfl rfl YA hb8 rfl ?_)
  refine au 6 rfl ?_
  exact zr (s.imp fun _ q => ⟨_, rfl, q⟩)
 ·replace s := s.2 hb8
  refine zg rfl (zJ p1 (.inl rfl) false rfl rfl YA hb8 rfl ?_)
  refine au 5 rfl ?_
  obtain ⟨l9, nl9, hl, s⟩ := s
  refine zg rfl (z0 ⟨k6, 0, none⟩ l9 rfl XW (YF.trans (congrArg some nl9.symm)) hl ?_)
  refine au 2 rfl ?_
  refine zcall s rfl rfl zdk ?_
  rintro _ h10 ⟨i11, rfl, s⟩
  refine au 8 rfl ?_
  refine zcall s rfl rfl zgv ?_
  rintro _ h12 ⟨i13, rfl, s⟩
  refine au 5 rfl ?_
  refine zt s rfl rfl rfl yP yO (fun s => ?_) fun s => ?_
  ·refine au 5 rfl ?_
   refine znil s rfl rfl fun A14 s => ?_
   refine au 1 rfl ?_
   refine Run.ldSl s fun a16 n17 c18 h19 hl s => ?_
   refine zg rfl (zh A14 ((.slice a16 n17 c18)) rfl Vh hl ?_)
   refine au 1 rfl ?_
   obtain ⟨A20, e21, hi0, hi1, s⟩ := s
   refine zg rfl (zZ A20 n17 c18 .i64 (i13) (congrArg (fun a => Value.slice a n17 c18) e21) rfl Vn hi0 hi1 ?_)
   refine au 1 rfl ?_
   refine zl s rfl rfl zx fun i22 s => ?_
   refine au 4 rfl ?_
   exact zr (s.imp fun _ q => ⟨_, rfl, q⟩)
  ·refine au 3 rfl ?_
   refine Run.seqJ (fun e h24 => Agree [(0, (.pointer p1)), (2, (.int .i64 (i3))), (3, (.int .i64 (i4))), (9, (.int .i64 (i11)))] e ∧ vj B p1 i3 i4 i11 h24 Q) ?_ fun j23 => ?_
   ·rintro e h24 ⟨hag, s⟩
    refine Run.env hag ?_; clear hag
    refine au 4 rfl ?_
    refine znil s rfl rfl fun A25 s => ?_
    refine au 1 rfl ?_
    refine Run.ldSl s fun a27 n28 c29 h30 hl s => ?_
    refine zg rfl (zh A25 ((.slice a27 n28 c29)) rfl Vh hl ?_)
    refine au 3 rfl ?_
    refine zg rfl (zH [(0, (.int .i64 (i3))), (1, (.int .i64 (i4))), (2, (.int .i64 (i11)))] [(.int .i64 (i3)), (.int .i64 (i4)), (.int .i64 (i11))] zat zeV rfl rfl ?_)
    refine zg rfl (yh [(0, (.agg #[(.int .i64 (i3)), (.int .i64 (i4)), (.int .i64 (i11))]))] [(.int .i64 (i3)), (.int .i64 (i4)), (.int .i64 (i11))] Vn zat rfl (by decide) (by decide) rfl rfl (fun k31 hb1 hb2 h32 hb3 => ?_))
    have s := s k31 hb1 hb2 h32 hb3
    refine zg rfl (zX [(.slice a27 n28 c29), (.slice (some ⟨k31, 0, none⟩) 1 1)] rfl (zB (fun v h33 hv => ?_) s))
    obtain ⟨a34, n35, c36, rfl, s⟩ := hv
    refine znil s rfl rfl fun A37 s => ?_
    refine au 1 rfl ?_
    refine zs1 s rfl rfl rfl rfl zjg fun h39 s => ?_
    refine au 5 rfl ?_
    exact zr (s.imp fun _ q => ⟨_, rfl, q⟩)
   refine au 4 rfl ?_
   refine znil s rfl rfl fun A40 s => ?_
   refine au 1 rfl ?_
   refine zl s rfl rfl zx fun i42 s => ?_
   refine zt s rfl rfl rfl xk xj (fun s => ?_) fun s => ?_
   ·refine au 6 rfl ?_
    obtain ⟨l43, nl43, hl, s⟩ := s
    refine zg rfl (z0 ⟨k6, 0, none⟩ l43 rfl XW (YF.trans (congrArg some nl43.symm)) hl ?_)
    refine zcall s rfl rfl zde ?_
    rintro _ h44 ⟨b45, rfl, s⟩
    cases b45
    ·replace s := s.2 rfl
     refine au 7 rfl ?_
     exact zr (s.imp fun _ q => ⟨_, rfl, q⟩)
    ·replace s := s.1 rfl
     refine au 7 rfl ?_
     refine zl s rfl rfl zx fun i46 s => ?_
     refine znil s rfl rfl fun A47 s => ?_
     refine au 1 rfl ?_
     refine zs1 s rfl rfl rfl rfl Zl fun h49 s => ?_
     refine au 1 rfl ?_
     exact Run.of_fin (s.imp fun h' s => j23 _ _ ⟨⟨rfl, rfl, rfl, rfl, trivial⟩, s⟩)
   ·refine au 3 rfl ?_
    exact Run.of_fin (s.imp fun h' s => j23 _ _ ⟨⟨rfl, rfl, rfl, rfl, trivial⟩, s⟩)
theorem xY.of {B : RO} {p1 : Option Addr} {i2 : Int} {h : Heap} {Q : Bool → Heap → Prop} (s : Xp B p1 i2 h Q) : xY B p1 i2 h Q := by
 refine zspec Tryz.func83 [ResultVar.tmp 4] rfl rfl rfl rfl rfl ?_
 refine au 7 rfl ?_
 by_cases hb4 : p1 = none
 ·replace s := s.1 hb4
  refine zg rfl (zK p1 (.inr rfl) false rfl rfl zeh hb4 rfl ?_)
  refine au 15 rfl ?_
  exact zr (s.imp fun _ q => ⟨_, rfl, q⟩)
 ·replace s := s.2 hb4
  refine zg rfl (zJ p1 (.inr rfl) true rfl rfl zeh hb4 rfl ?_)
  refine au 2 rfl ?_
  refine zt s rfl rfl rfl yP yO (fun s => ?_) fun s => ?_
  ·refine au 4 rfl ?_
   refine znil s rfl rfl fun A5 s => ?_
   refine au 1 rfl ?_
   refine Run.ldSl s fun a7 n8 c9 h10 hl s => ?_
   refine zg rfl (zh A5 ((.slice a7 n8 c9)) rfl Wl hl ?_)
   refine zg rfl (y9 a7 n8 c9 rfl zjd ?_)
   refine au 4 rfl ?_
   exact zr (s.imp fun _ q => ⟨_, rfl, q⟩)
  ·refine au 12 rfl ?_
   exact zr (s.imp fun _ q => ⟨_, rfl, q⟩)
theorem Zk.of {B : RO} {l1 : List Value} {i2 : Int} {i3 : Int} {h : Heap} {Q : Int → Heap → Prop} (s : zaG B l1 i2 i3 h Q) : Zk B l1 i2 i3 h Q := by
 refine zspec Tryz.func84 [ResultVar.tmp 6] rfl rfl rfl rfl rfl ?_
 refine au 2 rfl ?_
 refine zg rfl (yc l1 rfl (fun k5 hb1 hb2 h6 hb3 => ?_))
 have s := s k5 hb1 hb2 h6 hb3
 refine au 2 rfl ?_
 refine Run.seqJ (fun e h8 => Agree [(1, (.int .i64 (i2))), (2, (.int .i64 (i3))), (3, (.pointer (some ⟨k5, 0, none⟩)))] e ∧ Xr B i2 i3 k5 h8 Q) ?_ fun j7 => ?_
 ·rintro e h8 ⟨hag, s⟩
  refine Run.env hag ?_; clear hag
  refine au 5 rfl ?_
  obtain ⟨hi0, hi1, s⟩ := s
  refine zg rfl (zC ⟨k5, 0, none⟩ .i64 (i2) rfl rfl V7 hi0 hi1 ?_)
  obtain ⟨hi0, hi1, s⟩ := s
  refine zg rfl (zC (Addr.add ⟨k5, 0, none⟩ (Int.toNat (i2) * 8)) .i64 (i3) rfl rfl Y6 hi0 hi1 ?_)
  refine zl s rfl rfl zx fun i9 s => ?_
  refine au 2 rfl ?_
  exact zr (s.imp fun _ q => ⟨_, rfl, q⟩)
 refine au 3 rfl ?_
 refine zt s rfl rfl rfl zG zF (fun s => ?_) fun s => ?_
 ·refine au 18 rfl ?_
  exact zr (s.imp fun _ q => ⟨_, rfl, q⟩)
 ·refine au 2 rfl ?_
  refine zt s rfl rfl rfl xk xj (fun s => ?_) fun s => ?_
  ·refine au 15 rfl ?_
   exact zr (s.imp fun _ q => ⟨_, rfl, q⟩)
  ·refine au 3 rfl ?_
   refine zt s rfl rfl rfl zG zF (fun s => ?_) fun s => ?_
   ·refine au 11 rfl ?_
    exact zr (s.imp fun _ q => ⟨_, rfl, q⟩)
   ·refine au 3 rfl ?_
    refine zt s rfl rfl rfl yP yO (fun s => ?_) fun s => ?_
    ·refine au 7 rfl ?_
     exact zr (s.imp fun _ q => ⟨_, rfl, q⟩)
    ·refine au 4 rfl ?_
     exact Run.of_fin (s.imp fun h' s => j7 _ _ ⟨⟨rfl, rfl, rfl, trivial⟩, s⟩)
theorem vg.of {B : RO} {v1 : Value} {A2 : Addr} {h : Heap} {Q : Heap → Prop} (s : Xo B v1 A2 h Q) : vg B v1 A2 h Q := by
 refine zspec Tryz.func85 [] rfl rfl rfl rfl rfl ?_
 refine au 3 rfl ?_
 refine zl s rfl rfl XX fun p3 s => ?_
 by_cases hb4 : p3 = none
 ·replace s := s.1 hb4
  refine zg rfl (zK p3 (.inl rfl) true rfl rfl YB hb4 rfl ?_)
  refine au 2 rfl ?_
  exact zr (s.imp fun _ q => ⟨rfl, q⟩)
 ·replace s := s.2 hb4
  refine zg rfl (zJ p3 (.inl rfl) false rfl rfl YB hb4 rfl ?_)
  refine au 5 rfl ?_
  refine zl s rfl rfl XX fun p5 s => ?_
  refine znil s rfl rfl fun A6 s => ?_
  refine au 1 rfl ?_
  refine Run.ldSl s fun a8 n9 c10 h11 hl s => ?_
  refine zg rfl (zh A6 ((.slice a8 n9 c10)) rfl Wj hl ?_)
  refine zg rfl (y9 a8 n9 c10 rfl WU ?_)
  refine au 3 rfl ?_
  obtain ⟨J17, m15, h0, s⟩ := s
  refine Run.of_fin (h0.imp fun h' h0 => ?_)
  refine Run.loop (σ := Int × Nat) (fun x e h => J17 x.1 x.2 h ∧ Agree [(0, v1), (10, (.slice a8 n9 c10)), (11, (.int .i64 ((n9 : Nat)))), (12, (.int .i64 (x.1)))] e) (fun x => x.2) ((0), m15) ⟨h0, ⟨rfl, rfl, rfl, rfl, trivial⟩⟩ ?_; clear h0
  rintro ⟨i12, m14⟩ e h13 ⟨hJ, hag⟩ ih16
  have s := s i12 m14 h13 hJ; clear hJ
  refine Run.env hag ?_; clear hag
  refine au 2 rfl ?_
  refine zt s rfl rfl rfl zG zF (fun s => ?_) fun s => ?_
  ·refine au 8 rfl ?_
   obtain ⟨A18, e19, hi0, hi1, s⟩ := s
   refine zg rfl (zZ A18 n9 c10 .i64 (i12) (congrArg (fun a => Value.slice a n9 c10) e19) rfl y4 hi0 hi1 ?_)
   obtain ⟨i20, i21, hl, s⟩ := s
   refine zn hl rfl rfl zaT zaa rfl ?_
   refine zal s rfl zar rfl fun k22 h23 s => ?_
   refine zsn s rfl rfl rfl zaa rfl fun h24 s => ?_
   refine au 5 rfl ?_
   refine zl s rfl rfl zx fun i25 s => ?_
   refine au 1 rfl ?_
   refine zl s rfl rfl zx fun i26 s => ?_
   refine zg rfl (Xd (v1) [(.int .i64 (i25)), (.int .i64 (i26))] rfl rfl s (fun nx h' ha => ha.mono fun v h27 hv => ?_))
   obtain ⟨b28, rfl, s⟩ := hv
   cases b28
   ·replace s := s.2 rfl
    refine au 3 rfl ?_
    exact zr (s.imp fun _ q => ⟨rfl, q⟩)
   ·replace s := s.1 rfl
    refine au 9 rfl ?_
    exact Run.of_fin (s.imp fun h' ⟨m', hm, s⟩ => ih16 ((IntKind.wrap .i64 ((i12) + (1))), m') _ _ ⟨s, ⟨rfl, rfl, rfl, rfl, trivial⟩⟩ hm)
  ·refine au 4 rfl ?_
   exact zf (s.imp fun _ q => ⟨rfl, q⟩)
theorem xG.of {B : RO} {p1 : Option Addr} {h : Heap} {Q : Value → Heap → Prop} (s : Yv B p1 h Q) : xG B p1 h Q := by
 refine zspec Tryz.func86 [ResultVar.tmp 2] rfl rfl rfl rfl rfl ?_
 refine au 2 rfl ?_
 refine zb1 s rfl rfl rfl rfl fun k3 h4 s => ?_
 refine au 7 rfl ?_
 exact zr (s.imp fun _ q => ⟨_, rfl, q⟩)
theorem ZR.of {B : RO} {p1 : Option Addr} {i2 : Int} {b3 : Bool} {s4 : ByteArray} {i5 : Int} {h : Heap} {Q : Bool → Heap → Prop} (s : V5 B p1 i2 b3 s4 i5 h Q) : ZR B p1 i2 b3 s4 i5 h Q := by
 refine zspec Tryz.func87 [ResultVar.tmp 8] rfl rfl rfl rfl rfl ?_
 refine au 2 rfl ?_
 refine zbn s rfl rfl rfl fun k7 h8 s => ?_
 refine au 3 rfl ?_
 by_cases hb10 : p1 = none
 ·replace s := s.1 hb10
  refine Run.drawM (fun h' => True) [] ⟨[0, 1, 2, 4, 12, 20, 48, 64, 192, 320, 576, 64, 64, 64, 15424, 16448, 65535], [131071, 131070, 131069, 131067, 131059, 131051, 131039, 131007, 130879, 130751, 130495, 131007, 131007, 131007, 115647, 114623, 98303], [0, 0, 0, 0, 0, 0, 0, 0, 0, 0, 0, 0, 0, 0, 0, 0, 0], 0⟩ (.q 0 (.q 1 (.q 2 (.q 3 (.x 4 (.q 5 (.q 6 (.q 7 (.q 8 (.q 9 (.q 11 (.q 13 (.x 10 (.x 12 (.x 14 (.q 15 (.q 16 .nil)) .no) .no) (.x 12 (.x 10 (.x 14 (.q 15 (.q 16 .nil)) .no) .no) .no))))))))) .no))))) zR (by kernel_rfl) trivial ?_
  refine auT 1 rfl ?_
  refine zq rfl (fun _ hC => zK p1 (.inr rfl) false rfl rfl V9 hb10 rfl ⟨rfl, rfl⟩) ?_
  refine auT 2 rfl ?_
  refine ⟨zon rfl ⟨fun _ => trivial, ?_⟩, trivial⟩
  refine auT 7 rfl ?_
  refine RunT.joinJ (t := (.x 14 (.q 15 (.q 16 .nil)) .no)) (fun e h14 => Agree [(8, (.bool false)), (15, (.bool false))] e ∧ Y1 B h14 Q) ?_ fun j13 => ?_
  ·rintro e h14 ⟨hag, s⟩
   refine RunT.env hag ?_; clear hag
   refine ⟨zon rfl ⟨fun _ => trivial, ?_⟩, trivial⟩
   refine auT 2 rfl ?_
   exact zr (s.imp fun _ q => ⟨_, rfl, q⟩)
  refine ⟨?_, ?_, trivial⟩
  ·have s := s.1
   refine zon rfl ⟨fun _ => trivial, ?_⟩
   refine ⟨zon rfl ⟨fun _ => trivial, ?_⟩, trivial⟩
   exact j13 _ _ ⟨⟨rfl, rfl, trivial⟩, s⟩
  ·have s := s.2
   refine zon rfl ⟨fun _ => trivial, ?_⟩
   refine ⟨zon rfl ⟨fun _ => trivial, ?_⟩, trivial⟩
   exact j13 _ _ ⟨⟨rfl, rfl, trivial⟩, s⟩
 ·replace s := s.2 hb10
  obtain ⟨b17, s18, hl, s⟩ := s
  have f19 := hl
  refine Run.drawM (fun h' => za B h' ⟨k7, 0, none⟩ 0 [(.bool b17), (.string s18)] ∧ True) [] ⟨[0, 1, 2, 4, 12, 20, 48, 64, 192, 320, 576, 64, 64, 64, 15424, 16448, 65535], [131071, 131070, 131069, 131067, 131059, 131051, 131039, 131007, 130879, 130751, 130495, 131007, 131007, 131007, 115647, 114623, 98303], [0, 0, 0, 0, 0, 0, 0, 0, 0, 0, 0, 0, 0, 0, 0, 0, 0], 0⟩ (.q 0 (.q 1 (.q 2 (.q 3 (.x 4 (.q 5 (.q 6 (.q 7 (.q 8 (.q 9 (.q 11 (.q 13 (.x 10 (.x 12 (.x 14 (.q 15 (.q 16 .nil)) .no) .no) (.x 12 (.x 10 (.x 14 (.q 15 (.q 16 .nil)) .no) .no) .no))))))))) .no))))) zR (by kernel_rfl) ⟨f19, trivial⟩ ?_
  refine auT 1 rfl ?_
  refine zq rfl (fun _ hC => zJ p1 (.inr rfl) true rfl rfl V9 hb10 rfl ⟨rfl, rfl⟩) ?_
  refine auT 1 rfl ?_
  refine zq rfl (fun _ hC => z0 ⟨k7, 0, none⟩ [(.bool b17), (.string s18)] rfl zD zj hC.1 ⟨rfl, rfl⟩) ?_
  refine ⟨zo rfl (zA [(.agg #[(.bool b17), (.string s18)])] (zgx) rfl rfl (Spec.mono s fun v h20 hv => ?_)), trivial⟩
  obtain ⟨b21, rfl, s⟩ := hv
  cases b21
  ·replace s := s.2 rfl
   obtain ⟨g22, s⟩ := s
   refine ⟨fun _ => ⟨g22, trivial⟩, ?_⟩
   refine auT 7 rfl ?_
   refine RunT.joinJ (t := (.x 14 (.q 15 (.q 16 .nil)) .no)) (fun e h24 => Agree [(8, (.bool false)), (15, (.bool false))] e ∧ za B h24 ⟨k7, 0, none⟩ 0 [(.bool b17), (.string s18)] ∧ Y2 B k7 b17 s18 h24 Q) ?_ fun j23 => ?_
   ·rintro e h24 ⟨hag, g25, s⟩
    refine RunT.env hag ?_; clear hag
    refine ⟨zon rfl ⟨fun _ => ⟨g25, trivial⟩, ?_⟩, trivial⟩
    refine auT 2 rfl ?_
    exact zr (s.imp fun _ q => ⟨_, rfl, q⟩)
   refine ⟨?_, ?_, trivial⟩
   ·have s := s.1
    refine zon rfl ⟨fun _ => ⟨g22, trivial⟩, ?_⟩
    refine ⟨zon rfl ⟨fun _ => ⟨g22, trivial⟩, ?_⟩, trivial⟩
    exact j23 _ _ ⟨⟨rfl, rfl, trivial⟩, g22, s⟩
   ·have s := s.2
    refine zon rfl ⟨fun _ => ⟨g22, trivial⟩, ?_⟩
    refine ⟨zon rfl ⟨fun _ => ⟨g22, trivial⟩, ?_⟩, trivial⟩
    exact j23 _ _ ⟨⟨rfl, rfl, trivial⟩, g22, s⟩
  ·replace s := s.1 rfl
   obtain ⟨g26, s⟩ := s
   refine ⟨fun _ => ⟨g26, trivial⟩, ?_⟩
   refine auT 3 rfl ?_
   obtain ⟨A27, e28, s⟩ := s
   refine zq rfl (fun _ _ => zp A27 (congrArg Value.pointer e28) ⟨rfl, rfl⟩) ?_
   refine auT 3 rfl ?_
   refine RunT.joinJ (t := (.x 14 (.q 15 (.q 16 .nil)) .no)) (fun e h39 => ∃ p36 : Option Addr, ∃ b37 : Bool, ∃ s38 : ByteArray, Agree [(8, (.bool false)), (15, (.bool true)), (19, (.pointer p36)), (20, (.int .i64 (i2))), (21, (.agg #[(.bool b37), (.string s38)])), (22, (.int .i64 (i5)))] e ∧ za B h39 ⟨k7, 0, none⟩ 0 [(.bool b17), (.string s18)] ∧ Y3 B i2 i5 k7 b17 s18 p36 b37 s38 h39 Q) ?_ fun j35 => ?_
   ·rintro e h39 ⟨p36, b37, s38, hag, g40, s⟩
    refine RunT.env hag ?_; clear hag
    refine ⟨zo rfl (zA [(.pointer p36), (.int .i64 (i2)), (.agg #[(.bool b37), (.string s38)]), (.int .i64 (i5))] (zgy) rfl rfl (Spec.mono s fun v h41 hv => ?_)), trivial⟩
    obtain ⟨b42, rfl, s⟩ := hv
    obtain ⟨g43, s⟩ := s
    refine ⟨fun _ => ⟨g43, trivial⟩, ?_⟩
    refine auT 2 rfl ?_
    exact zr (s.imp fun _ q => ⟨_, rfl, q⟩)
   refine ⟨?_, ?_, trivial⟩
   ·have s := s.1
    obtain ⟨p44, hl, s⟩ := s
    refine zo rfl (zh A27 ((.pointer p44)) rfl zaU hl ?_)
    refine ⟨fun _ => ⟨g26, trivial⟩, ?_⟩
    obtain ⟨b45, s46, hl, s⟩ := s
    refine ⟨zo rfl (z0 ⟨k7, 0, none⟩ [(.bool b45), (.string s46)] rfl zD zj hl ?_), trivial⟩
    refine ⟨fun _ => ⟨g26, trivial⟩, ?_⟩
    exact j35 _ _ ⟨p44, (b45), s46, ⟨rfl, rfl, rfl, rfl, rfl, rfl, trivial⟩, g26, s⟩
   ·have s := s.2
    obtain ⟨b47, s48, hl, s⟩ := s
    refine zo rfl (z0 ⟨k7, 0, none⟩ [(.bool b47), (.string s48)] rfl zD zj hl ?_)
    refine ⟨fun _ => ⟨g26, trivial⟩, ?_⟩
    obtain ⟨p49, hl, s⟩ := s
    refine ⟨zo rfl (zh A27 ((.pointer p49)) rfl zaU hl ?_), trivial⟩
    refine ⟨fun _ => ⟨g26, trivial⟩, ?_⟩
    exact j35 _ _ ⟨p49, (b47), s48, ⟨rfl, rfl, rfl, rfl, rfl, rfl, trivial⟩, g26, s⟩
theorem Z4.of {B : RO} {i1 : Int} {h : Heap} {Q : Bool → Heap → Prop} (s : zch B i1 h Q) : Z4 B i1 h Q := by
 refine zspec Tryz.func88 [ResultVar.tmp 2] rfl rfl rfl rfl rfl ?_
 refine au 7 rfl ?_
 refine zt s rfl rfl rfl yP yO (fun s => ?_) fun s => ?_
 ·refine au 6 rfl ?_
  exact zr (s.imp fun _ q => ⟨_, rfl, q⟩)
 ·refine au 6 rfl ?_
  exact zr (s.imp fun _ q => ⟨_, rfl, q⟩)
theorem wa.of {B : RO} {p1 : Option Addr} {i2 : Int} {h : Heap} {Q : Bool → ByteArray → Int → Heap → Prop} (s : YW B p1 i2 h Q) : wa B p1 i2 h Q := by
 refine zspec Tryz.func89 [ResultVar.cell 4 119, ResultVar.tmp 5] rfl rfl rfl rfl rfl ?_
 refine au 2 rfl ?_
 refine zal s rfl zL rfl fun k6 h7 s => ?_
 refine au 7 rfl ?_
 refine zcall s rfl rfl zcn ?_
 rintro _ h8 ⟨b9, rfl, s⟩
 cases b9
 ·replace s := s.2 rfl
  refine au 5 rfl ?_
  refine zal s rfl zL rfl fun k10 h11 s => ?_
  refine au 3 rfl ?_
  obtain ⟨b12, s13, hl, s⟩ := s
  refine zn hl rfl rfl zD zj rfl ?_
  refine zsn s rfl rfl rfl zj rfl fun h14 s => ?_
  refine au 2 rfl ?_
  obtain ⟨b15, s16, hl0, s⟩ := s
  exact zr (⟨⟨k6, 0, none⟩, (.agg #[(.bool b15), (.string s16)]), rfl, yA zD zj hl0, s.imp fun _ q => ⟨_, _, _, rfl, q⟩⟩)
 ·replace s := s.1 rfl
  refine au 5 rfl ?_
  obtain ⟨A18, e19, s⟩ := s
  obtain ⟨a22, n23, c24, hl, s⟩ := s
  have f25 := hl
  obtain ⟨A27, e28, hi0, hi1, s⟩ := s
  have f30 := hi0; have f31 := hi1
  obtain ⟨b33, s34, hl, s⟩ := s
  have f35 := hl
  obtain ⟨A37, e38, s⟩ := s
  obtain ⟨a41, n42, c43, hl, s⟩ := s
  have f44 := hl
  obtain ⟨A46, e47, hi0, hi1, s⟩ := s
  have f49 := hi0; have f50 := hi1
  obtain ⟨i52, hl, s⟩ := s
  have f53 := hl
  refine Run.drawM (fun h' => cellH B h' A18 = some (.slice a22 n23 c24) ∧ za B h' (Addr.add A27 (Int.toNat (i2) * 3)) 0 [(.bool b33), (.string s34)] ∧ cellH B h' A37 = some (.slice a41 n42 c43) ∧ cellH B h' (Addr.add (Addr.add A46 (Int.toNat (i2) * 3)) 2) = some (.int .i64 (i52)) ∧ True) [] ⟨[0, 1, 2, 4, 0, 24, 32, 64, 0, 256, 512, 1024, 0, 6144, 8192, 16384, 255, 131071], [262143, 262142, 262141, 262139, 262143, 262119, 262111, 262079, 262143, 261887, 261631, 261119, 262143, 255999, 253951, 245759, 262015, 229375], [0, 0, 0, 0, 0, 0, 0, 0, 0, 0, 0, 0, 0, 0, 0, 0, 0, 0], 0⟩ (.q 0 (.q 1 (.q 2 (.q 3 (.q 4 (.q 5 (.q 6 (.q 7 (.q 8 (.q 9 (.q 10 (.q 11 (.q 12 (.q 13 (.q 14 (.q 15 (.x 16 (.q 17 .nil) .no))))))))))))))))) zR (by kernel_rfl) ⟨f25, f35, f44, f53, trivial⟩ ?_
  refine auT 1 rfl ?_
  refine zq rfl (fun _ hC => zp A18 (congrArg Value.pointer e19) ⟨rfl, rfl⟩) ?_
  refine auT 1 rfl ?_
  refine zq rfl (fun _ hC => zh A18 ((.slice a22 n23 c24)) rfl Wn hC.1 ⟨rfl, rfl⟩) ?_
  refine auT 1 rfl ?_
  refine zq rfl (fun _ hC => zZ A27 n23 c24 .i64 (i2) (congrArg (fun a => Value.slice a n23 c24) e28) rfl Vp f30 f31 ⟨rfl, rfl⟩) ?_
  refine auT 1 rfl ?_
  refine zq rfl (fun _ hC => z0 (Addr.add A27 (Int.toNat (i2) * 3)) [(.bool b33), (.string s34)] rfl zD zj hC.2.1 ⟨rfl, rfl⟩) ?_
  refine auT 1 rfl ?_
  refine zq rfl (fun _ hC => zp A37 (congrArg Value.pointer e38) ⟨rfl, rfl⟩) ?_
  refine auT 1 rfl ?_
  refine zq rfl (fun _ hC => zh A37 ((.slice a41 n42 c43)) rfl Wn hC.2.2.1 ⟨rfl, rfl⟩) ?_
  refine auT 1 rfl ?_
  refine zq rfl (fun _ hC => zZ A46 n42 c43 .i64 (i2) (congrArg (fun a => Value.slice a n42 c43) e47) rfl Vp f49 f50 ⟨rfl, rfl⟩) ?_
  refine auT 1 rfl ?_
  refine zq rfl (fun _ hC => zh (Addr.add (Addr.add A46 (Int.toNat (i2) * 3)) 2) ((.int .i64 (i52))) rfl zx hC.2.2.2.1 ⟨rfl, rfl⟩) ?_
  obtain ⟨h54, hst, s⟩ := s
  refine ⟨zo0 rfl (y7 ⟨k6, 0, none⟩ [(.bool b33), (.string s34)] h54 rfl rfl zj hst ?_), trivial⟩
  obtain ⟨g55, g56, g57, g58, s⟩ := s
  refine ⟨fun _ => ⟨g55, g56, g57, g58, trivial⟩, ?_⟩
  refine auT 1 rfl ?_
  obtain ⟨b59, s60, hl0, s⟩ := s
  exact zr (⟨⟨k6, 0, none⟩, (.agg #[(.bool b59), (.string s60)]), rfl, yA zD zj hl0, s.imp fun _ q => ⟨_, _, _, rfl, q⟩⟩)
theorem z9.of {B : RO} {p1 : Option Addr} {i2 : Int} {h : Heap} {Q : Bool → ByteArray → Int → Heap → Prop} (s : ZL B p1 i2 h Q) : z9 B p1 i2 h Q := by
 refine zspec Tryz.func90 [ResultVar.cell 4 119, ResultVar.tmp 5] rfl rfl rfl rfl rfl ?_
 refine au 2 rfl ?_
 refine zal s rfl zL rfl fun k6 h7 s => ?_
 refine au 2 rfl ?_
 refine Run.seqJ (fun e h9 => Agree [(0, (.pointer p1)), (1, (.int .i64 (i2))), (4, (.pointer (some ⟨k6, 0, none⟩)))] e ∧ vJ B p1 i2 k6 h9 Q) ?_ fun j8 => ?_
 ·rintro e h9 ⟨hag, s⟩
  refine Run.env hag ?_; clear hag
  refine Run.seqJ (fun e h13 => ∃ A11 : Addr, ∃ b12 : Bool, Agree [(0, (.pointer p1)), (1, (.int .i64 (i2))), (4, (.pointer (some ⟨k6, 0, none⟩))), (6, (.pointer (some A11))), (7, (.bool b12))] e ∧ xR B p1 i2 k6 A11 b12 h13 Q) ?_ fun j10 => ?_
  ·rintro e h13 ⟨A11, b12, hag, s⟩
   refine Run.env hag ?_; clear hag
   refine au 3 rfl ?_
   cases b12
   ·replace s := s.2 rfl
    refine au 1 rfl ?_
    refine au 4 rfl ?_
    obtain ⟨b14, s15, hl, s⟩ := s
    have f16 := hl
    refine Run.drawM (fun h' => za B h' A11 0 [(.bool b14), (.string s15)] ∧ True) [] ⟨[0, 0, 0, 6, 9, 31], [63, 63, 63, 57, 62, 55], [0, 0, 0, 0, 0, 0], 0⟩ (.q 0 (.q 1 (.q 2 (.x 3 (.x 4 (.q 5 .nil) .no) .no)))) zR (by kernel_rfl) ⟨f16, trivial⟩ ?_
    refine zq rfl (fun _ hC => z0 A11 [(.bool b14), (.string s15)] rfl zD zj hC.1 ⟨rfl, rfl⟩) ?_
    refine auT 2 rfl ?_
    refine ⟨zo rfl (zA [(.pointer p1), (.int .i64 (1)), (.int .i64 (i2))] (za2) rfl rfl (Spec.mono s fun v h19 hv => ?_)), trivial⟩
    obtain ⟨i20, rfl, s⟩ := hv
    obtain ⟨g21, s⟩ := s
    refine ⟨fun _ => ⟨g21, trivial⟩, ?_⟩
    obtain ⟨h22, hst, s⟩ := s
    refine ⟨zo0 rfl (y7 ⟨k6, 0, none⟩ [(.bool b14), (.string s15)] h22 rfl rfl zj hst ?_), trivial⟩
    obtain ⟨g23, s⟩ := s
    refine ⟨fun _ => ⟨g23, trivial⟩, ?_⟩
    refine auT 1 rfl ?_
    obtain ⟨b24, s25, hl0, s⟩ := s
    exact zr (⟨⟨k6, 0, none⟩, (.agg #[(.bool b24), (.string s25)]), rfl, yA zD zj hl0, s.imp fun _ q => ⟨_, _, _, rfl, q⟩⟩)
   ·replace s := s.1 rfl
    refine au 1 rfl ?_
    refine au 4 rfl ?_
    obtain ⟨b26, s27, hl, s⟩ := s
    refine zn hl rfl rfl zD zj rfl ?_
    refine zsn s rfl rfl rfl zj rfl fun h28 s => ?_
    refine au 2 rfl ?_
    obtain ⟨b29, s30, hl0, s⟩ := s
    exact zr (⟨⟨k6, 0, none⟩, (.agg #[(.bool b29), (.string s30)]), rfl, yA zD zj hl0, s.imp fun _ q => ⟨_, _, _, rfl, q⟩⟩)
  obtain ⟨A32, e33, s⟩ := s
  obtain ⟨p37, hl, s⟩ := s
  have f38 := hl
  obtain ⟨A40, e41, s⟩ := s
  obtain ⟨p44, hl, s⟩ := s
  have f45 := hl
  obtain ⟨A46, e47, s⟩ := s
  obtain ⟨p50, hl, s⟩ := s
  have f51 := hl
  refine Run.drawM (fun h' => cellH B h' (Addr.add (Addr.add A32 2) 1) = some (.pointer p37) ∧ cellH B h' A40 = some (.pointer p44) ∧ cellH B h' (Addr.add A46 1) = some (.pointer p50) ∧ True) [] ⟨[0, 1, 2, 4, 8, 0, 32, 64, 128, 256, 512, 1024, 0, 6160, 8192, 16384, 16384, 0, 196607, 524287], [1048575, 1048574, 1048573, 1048571, 1048567, 1048575, 1048543, 1048511, 1048447, 1048319, 1048063, 1047551, 1048575, 1042415, 1040383, 1032191, 1032191, 1048575, 884735, 983039], [0, 0, 0, 0, 0, 0, 0, 0, 0, 0, 0, 0, 0, 0, 0, 0, 0, 0, 0, 0], 0⟩ (.q 0 (.q 1 (.q 2 (.q 3 (.q 4 (.q 5 (.q 6 (.q 7 (.q 8 (.q 9 (.q 10 (.q 11 (.q 12 (.x 13 (.q 14 (.q 15 (.q 16 (.x 17 (.x 18 (.q 19 .nil) .no) .no)))) (.x 17 (.x 13 (.q 14 (.q 15 (.q 16 (.x 18 (.q 19 .nil) .no)))) .no) .no))))))))))))))) zR (by kernel_rfl) ⟨f38, f45, f51, trivial⟩ ?_
  refine auT 1 rfl ?_
  refine zq rfl (fun _ hC => zp A32 (congrArg Value.pointer e33) ⟨rfl, rfl⟩) ?_
  refine auT 2 rfl ?_
  refine zq rfl (fun _ hC => zh (Addr.add (Addr.add A32 2) 1) ((.pointer p37)) rfl Yz hC.1 ⟨rfl, rfl⟩) ?_
  refine auT 1 rfl ?_
  refine zq rfl (fun _ hC => zp A40 (congrArg Value.pointer e41) ⟨rfl, rfl⟩) ?_
  refine auT 1 rfl ?_
  refine zq rfl (fun _ hC => zh A40 ((.pointer p44)) rfl yE hC.2.1 ⟨rfl, rfl⟩) ?_
  refine zq rfl (fun _ hC => zp A46 (congrArg Value.pointer e47) ⟨rfl, rfl⟩) ?_
  refine auT 1 rfl ?_
  refine zq rfl (fun _ hC => zh (Addr.add A46 1) ((.pointer p50)) rfl Za hC.2.2.1 ⟨rfl, rfl⟩) ?_
  refine auT 1 rfl ?_
  refine RunT.joinJ (t := (.x 18 (.q 19 .nil) .no)) (fun e h87 => ∃ A83 : Addr, ∃ b84 : Bool, ∃ s85 : ByteArray, ∃ b86 : Bool, Agree [(0, (.pointer p1)), (1, (.int .i64 (i2))), (4, (.pointer (some ⟨k6, 0, none⟩))), (6, (.pointer (some A83))), (35, (.agg #[(.bool b84), (.string s85)])), (36, (.bool b86))] e ∧ cellH B h87 (Addr.add (Addr.add A32 2) 1) = some (.pointer p37) ∧ cellH B h87 A40 = some (.pointer p44) ∧ cellH B h87 (Addr.add A46 1) = some (.pointer p50) ∧ yT B p1 i2 k6 A32 p37 A40 p44 A46 p50 A83 b84 s85 b86 h87 Q) ?_ fun j82 => ?_
  ·rintro e h87 ⟨A83, b84, s85, b86, hag, g88, g89, g90, s⟩
   refine RunT.env hag ?_; clear hag
   obtain ⟨h91, hst, s⟩ := s
   refine ⟨zo0 rfl (y7 A83 [(.bool b84), (.string s85)] h91 rfl rfl zj hst ?_), trivial⟩
   obtain ⟨g92, g93, g94, s⟩ := s
   refine ⟨fun _ => ⟨g92, g93, g94, trivial⟩, ?_⟩
   cases b86
   ·replace s := s.2 rfl
    refine auT 1 rfl ?_
    exact Run.of_fin (s.imp fun h' s => j10 _ _ ⟨A83, (false), ⟨rfl, rfl, rfl, rfl, rfl, trivial⟩, s⟩)
   ·replace s := s.1 rfl
    refine auT 1 rfl ?_
    exact Run.of_fin (s.imp fun h' s => j10 _ _ ⟨A83, (true), ⟨rfl, rfl, rfl, rfl, rfl, trivial⟩, s⟩)
  refine ⟨?_, ?_, trivial⟩
  ·have s := s.1
   refine zo rfl (zA [(.pointer p37), (.pointer p50), (.int .i64 (i2))] (Ya) rfl rfl (Spec.mono s fun v h95 hv => ?_))
   obtain ⟨b96, s97, b98, rfl, s⟩ := hv
   obtain ⟨g99, g100, g101, s⟩ := s
   refine ⟨fun _ => ⟨g99, g100, g101, trivial⟩, ?_⟩
   refine auT 2 rfl ?_
   cases b98
   ·replace s := s.2 rfl
    refine auT 1 rfl ?_
    refine ⟨zo rfl (y6 [(.bool false), (.string ByteArray.empty)] zL (fun k102 hb1 hb2 h103 hb3 => ?_)), trivial⟩
    have s := s k102 hb1 hb2 h103 hb3
    obtain ⟨g104, g105, g106, s⟩ := s
    refine ⟨fun _ => ⟨g104, g105, g106, trivial⟩, ?_⟩
    exact j82 _ _ ⟨⟨k102, 0, none⟩, (b96), s97, (false), ⟨rfl, rfl, rfl, rfl, rfl, rfl, trivial⟩, g104, g105, g106, s⟩
   ·replace s := s.1 rfl
    refine auT 1 rfl ?_
    refine ⟨zo rfl (y6 [(.bool false), (.string ByteArray.empty)] zL (fun k107 hb1 hb2 h108 hb3 => ?_)), trivial⟩
    have s := s k107 hb1 hb2 h108 hb3
    obtain ⟨g109, g110, g111, s⟩ := s
    refine ⟨fun _ => ⟨g109, g110, g111, trivial⟩, ?_⟩
    exact j82 _ _ ⟨⟨k107, 0, none⟩, (b96), s97, (true), ⟨rfl, rfl, rfl, rfl, rfl, rfl, trivial⟩, g109, g110, g111, s⟩
  ·have s := s.2
   refine zo rfl (y6 [(.bool false), (.string ByteArray.empty)] zL (fun k112 hb1 hb2 h113 hb3 => ?_))
   have s := s k112 hb1 hb2 h113 hb3
   obtain ⟨g114, g115, g116, s⟩ := s
   refine ⟨fun _ => ⟨g114, g115, g116, trivial⟩, ?_⟩
   refine ⟨zo rfl (zA [(.pointer p37), (.pointer p50), (.int .i64 (i2))] (Ya) rfl rfl (Spec.mono s fun v h117 hv => ?_)), trivial⟩
   obtain ⟨b118, s119, b120, rfl, s⟩ := hv
   obtain ⟨g121, g122, g123, s⟩ := s
   refine ⟨fun _ => ⟨g121, g122, g123, trivial⟩, ?_⟩
   refine auT 2 rfl ?_
   cases b120
   ·replace s := s.2 rfl
    refine auT 1 rfl ?_
    exact j82 _ _ ⟨⟨k112, 0, none⟩, (b118), s119, (false), ⟨rfl, rfl, rfl, rfl, rfl, rfl, trivial⟩, g121, g122, g123, s⟩
   ·replace s := s.1 rfl
    refine auT 1 rfl ?_
    exact j82 _ _ ⟨⟨k112, 0, none⟩, (b118), s119, (true), ⟨rfl, rfl, rfl, rfl, rfl, rfl, trivial⟩, g121, g122, g123, s⟩
 refine au 4 rfl ?_
 by_cases hb124 : p1 = none
 ·replace s := s.1 hb124
  refine zg rfl (zK p1 (.inl rfl) true rfl rfl yn hb124 rfl ?_)
  refine au 5 rfl ?_
  refine zg rfl (zH [] [(.bool false), (.string ByteArray.empty)] zL xS rfl rfl ?_)
  refine zsn s rfl rfl rfl zj rfl fun h125 s => ?_
  refine au 2 rfl ?_
  obtain ⟨b126, s127, hl0, s⟩ := s
  exact zr (⟨⟨k6, 0, none⟩, (.agg #[(.bool b126), (.string s127)]), rfl, yA zD zj hl0, s.imp fun _ q => ⟨_, _, _, rfl, q⟩⟩)
 ·replace s := s.2 hb124
  refine zg rfl (zJ p1 (.inl rfl) false rfl rfl yn hb124 rfl ?_)
  refine au 6 rfl ?_
  refine zt s rfl rfl rfl zG zF (fun s => ?_) fun s => ?_
  ·refine au 9 rfl ?_
   refine zg rfl (zH [] [(.bool false), (.string ByteArray.empty)] zL xS rfl rfl ?_)
   refine zsn s rfl rfl rfl zj rfl fun h128 s => ?_
   refine au 2 rfl ?_
   obtain ⟨b129, s130, hl0, s⟩ := s
   exact zr (⟨⟨k6, 0, none⟩, (.agg #[(.bool b129), (.string s130)]), rfl, yA zD zj hl0, s.imp fun _ q => ⟨_, _, _, rfl, q⟩⟩)
  ·refine au 2 rfl ?_
   refine zt s rfl rfl rfl yP yO (fun s => ?_) fun s => ?_
   ·refine au 6 rfl ?_
    refine zg rfl (zH [] [(.bool false), (.string ByteArray.empty)] zL xS rfl rfl ?_)
    refine zsn s rfl rfl rfl zj rfl fun h131 s => ?_
    refine au 2 rfl ?_
    obtain ⟨b132, s133, hl0, s⟩ := s
    exact zr (⟨⟨k6, 0, none⟩, (.agg #[(.bool b132), (.string s133)]), rfl, yA zD zj hl0, s.imp fun _ q => ⟨_, _, _, rfl, q⟩⟩)
   ·refine au 6 rfl ?_
    exact Run.of_fin (s.imp fun h' s => j8 _ _ ⟨⟨rfl, rfl, rfl, trivial⟩, s⟩)
theorem WO.of {B : RO} {b1 : Bool} {s2 : ByteArray} {i3 : Int} {h : Heap} {Q : Int → Heap → Prop} (s : zec B b1 s2 i3 h Q) : WO B b1 s2 i3 h Q := by
 refine zspec Tryz.func91 [ResultVar.tmp 4] rfl rfl rfl rfl rfl ?_
 refine au 2 rfl ?_
 refine zbn s rfl rfl rfl fun k5 h6 s => ?_
 refine au 3 rfl ?_
 refine Run.seqJ (fun e h9 => ∃ b8 : Bool, Agree [(1, (.int .i64 (i3))), (2, (.pointer (some ⟨k5, 0, none⟩))), (13, (.bool b8))] e ∧ Zw B i3 k5 b8 h9 Q) ?_ fun j7 => ?_
 ·rintro e h9 ⟨b8, hag, s⟩
  refine Run.env hag ?_; clear hag
  cases b8
  ·replace s := s.2 rfl
   refine au 5 rfl ?_
   refine zl s rfl rfl yV fun s10 s => ?_
   refine au 1 rfl ?_
   obtain ⟨hi0, hi1, s⟩ := s
   refine zg rfl (XI s10 .i64 (i3) rfl rfl xi hi0 hi1 ?_)
   refine zg rfl (vH .u8 .i64 (x4 s10 (Int.toNat (i3))) rfl XK Zx ?_)
   refine au 2 rfl ?_
   exact zr (s.imp fun _ q => ⟨_, rfl, q⟩)
  ·replace s := s.1 rfl
   refine au 5 rfl ?_
   exact zr (s.imp fun _ q => ⟨_, rfl, q⟩)
 refine au 2 rfl ?_
 refine zt s rfl rfl rfl zG zF (fun s => ?_) fun s => ?_
 ·refine au 8 rfl ?_
  exact Run.of_fin (s.imp fun h' s => j7 _ _ ⟨(true), ⟨rfl, rfl, rfl, trivial⟩, s⟩)
 ·refine au 3 rfl ?_
  refine zl s rfl rfl yV fun s11 s => ?_
  refine zg rfl (wD s11 rfl xi ?_)
  refine zt s rfl rfl rfl yP yO (fun s => ?_) fun s => ?_
  ·refine au 2 rfl ?_
   exact Run.of_fin (s.imp fun h' s => j7 _ _ ⟨(true), ⟨rfl, rfl, rfl, trivial⟩, s⟩)
  ·refine au 2 rfl ?_
   exact Run.of_fin (s.imp fun h' s => j7 _ _ ⟨(false), ⟨rfl, rfl, rfl, trivial⟩, s⟩)
theorem vi.of {B : RO} {p1 : Option Addr} {p2 : Option Addr} {i3 : Int} {i4 : Int} {i5 : Int} {h : Heap} {Q : Bool → Heap → Prop} (s : WA B p1 p2 i3 i4 i5 h Q) : vi B p1 p2 i3 i4 i5 h Q := by
 refine zspec Tryz.func92 [ResultVar.tmp 10] rfl rfl rfl rfl rfl ?_
 refine au 9 rfl ?_
 refine zcall s rfl rfl Ya ?_
 rintro _ h7 ⟨b8, s9, b10, rfl, s⟩
 refine au 3 rfl ?_
 refine zal s rfl zL rfl fun k11 h12 s => ?_
 refine zsn s rfl rfl rfl zj rfl fun h13 s => ?_
 refine au 7 rfl ?_
 obtain ⟨b14, s15, hl, s⟩ := s
 refine zn hl rfl rfl zD zj rfl ?_
 refine au 2 rfl ?_
 refine zcall s rfl rfl zgz ?_
 rintro _ h16 ⟨b17, s18, rfl, s⟩
 refine zcall s rfl rfl YL ?_
 rintro _ h19 ⟨b20, rfl, s⟩
 refine au 2 rfl ?_
 exact zr (s.imp fun _ q => ⟨_, rfl, q⟩)
theorem wR.of {B : RO} {p1 : Option Addr} {p2 : Option Addr} {i3 : Int} {h : Heap} {Q : Bool → Heap → Prop} (s : Wf B p1 p2 i3 h Q) : wR B p1 p2 i3 h Q := by
 refine zspec Tryz.func93 [ResultVar.tmp 6] rfl rfl rfl rfl rfl ?_
 refine au 9 rfl ?_
 refine zcall s rfl rfl Ya ?_
 rintro _ h5 ⟨b6, s7, b8, rfl, s⟩
 refine au 3 rfl ?_
 refine zal s rfl zL rfl fun k9 h10 s => ?_
 refine zsn s rfl rfl rfl zj rfl fun h11 s => ?_
 refine au 7 rfl ?_
 obtain ⟨b12, s13, hl, s⟩ := s
 refine zn hl rfl rfl zD zj rfl ?_
 refine zcall s rfl rfl zgA ?_
 rintro _ h14 ⟨b15, s16, rfl, s⟩
 refine zcall s rfl rfl YL ?_
 rintro _ h17 ⟨b18, rfl, s⟩
 refine au 2 rfl ?_
 exact zr (s.imp fun _ q => ⟨_, rfl, q⟩)
theorem wT.of {B : RO} {p1 : Option Addr} {p2 : Option Addr} {i3 : Int} {h : Heap} {Q : Bool → Heap → Prop} (s : Wg B p1 p2 i3 h Q) : wT B p1 p2 i3 h Q := by
 refine zspec Tryz.func94 [ResultVar.tmp 6] rfl rfl rfl rfl rfl ?_
 refine au 9 rfl ?_
 refine zg rfl (zH [] [(.bool false), (.string ByteArray.empty)] zL xS rfl rfl ?_)
 refine zcall s rfl rfl YL ?_
 rintro _ h5 ⟨b6, rfl, s⟩
 refine au 2 rfl ?_
 exact zr (s.imp fun _ q => ⟨_, rfl, q⟩)
theorem wU.of {B : RO} {p1 : Option Addr} {p2 : Option Addr} {i3 : Int} {i4 : Int} {h : Heap} {Q : Bool → Heap → Prop} (s : Wh B p1 p2 i3 i4 h Q) : wU B p1 p2 i3 i4 h Q := by
 refine zspec Tryz.func95 [ResultVar.tmp 8] rfl rfl rfl rfl rfl ?_
 refine au 9 rfl ?_
 refine zcall s rfl rfl Ya ?_
 rintro _ h6 ⟨b7, s8, b9, rfl, s⟩
 refine au 3 rfl ?_
 refine zal s rfl zL rfl fun k10 h11 s => ?_
 refine zsn s rfl rfl rfl zj rfl fun h12 s => ?_
 refine au 2 rfl ?_
 refine Run.seqJ (fun e h14 => Agree [(0, (.pointer p1)), (1, (.pointer p2)), (2, (.int .i64 (i3))), (3, (.int .i64 (i4))), (9, (.pointer (some ⟨k10, 0, none⟩)))] e ∧ ZP B p1 p2 i3 i4 k10 h14 Q) ?_ fun j13 => ?_
 ·rintro e h14 ⟨hag, s⟩
  refine Run.env hag ?_; clear hag
  refine au 5 rfl ?_
  obtain ⟨b15, s16, hl, s⟩ := s
  refine zn hl rfl rfl zD zj rfl ?_
  refine zcall s rfl rfl YL ?_
  rintro _ h17 ⟨b18, rfl, s⟩
  refine au 6 rfl ?_
  refine zg rfl (zH [] [(.bool false), (.string ByteArray.empty)] zL xS rfl rfl ?_)
  refine zcall s rfl rfl YL ?_
  rintro _ h19 ⟨b20, rfl, s⟩
  refine au 2 rfl ?_
  exact zr (s.imp fun _ q => ⟨_, rfl, q⟩)
 refine au 1 rfl ?_
 refine Run.seqJ (fun e h23 => ∃ b22 : Bool, Agree [(0, (.pointer p1)), (1, (.pointer p2)), (2, (.int .i64 (i3))), (3, (.int .i64 (i4))), (9, (.pointer (some ⟨k10, 0, none⟩))), (18, (.bool b22))] e ∧ yy B p1 p2 i3 i4 k10 b22 h23 Q) ?_ fun j21 => ?_
 ·rintro e h23 ⟨b22, hag, s⟩
  refine Run.env hag ?_; clear hag
  cases b22
  ·replace s := s.2 rfl
   refine au 4 rfl ?_
   refine zl s rfl rfl VL fun b24 s => ?_
   cases b24
   ·replace s := s.2 rfl
    refine au 13 rfl ?_
    exact zr (s.imp fun _ q => ⟨_, rfl, q⟩)
   ·replace s := s.1 rfl
    refine au 4 rfl ?_
    refine zt s rfl rfl rfl zU zT (fun s => ?_) fun s => ?_
    ·refine au 8 rfl ?_
     exact zr (s.imp fun _ q => ⟨_, rfl, q⟩)
    ·refine au 6 rfl ?_
     exact Run.of_fin (s.imp fun h' s => j13 _ _ ⟨⟨rfl, rfl, rfl, rfl, rfl, trivial⟩, s⟩)
  ·replace s := s.1 rfl
   refine au 5 rfl ?_
   exact zr (s.imp fun _ q => ⟨_, rfl, q⟩)
 refine au 2 rfl ?_
 by_cases hb25 : p1 = none
 ·replace s := s.1 hb25
  refine zg rfl (zK p1 (.inl rfl) true rfl rfl YC hb25 rfl ?_)
  refine au 18 rfl ?_
  exact Run.of_fin (s.imp fun h' s => j21 _ _ ⟨(true), ⟨rfl, rfl, rfl, rfl, rfl, rfl, trivial⟩, s⟩)
 ·replace s := s.2 hb25
  refine zg rfl (zJ p1 (.inl rfl) false rfl rfl YC hb25 rfl ?_)
  refine au 2 rfl ?_
  refine zt s rfl rfl rfl zG zF (fun s => ?_) fun s => ?_
  ·refine au 15 rfl ?_
   exact Run.of_fin (s.imp fun h' s => j21 _ _ ⟨(true), ⟨rfl, rfl, rfl, rfl, rfl, rfl, trivial⟩, s⟩)
  ·refine au 3 rfl ?_
   refine zt s rfl rfl rfl yP yO (fun s => ?_) fun s => ?_
   ·refine au 11 rfl ?_
    exact Run.of_fin (s.imp fun h' s => j21 _ _ ⟨(true), ⟨rfl, rfl, rfl, rfl, rfl, rfl, trivial⟩, s⟩)
   ·refine au 3 rfl ?_
    refine zt s rfl rfl rfl zG zF (fun s => ?_) fun s => ?_
    ·refine au 7 rfl ?_
     exact Run.of_fin (s.imp fun h' s => j21 _ _ ⟨(true), ⟨rfl, rfl, rfl, rfl, rfl, rfl, trivial⟩, s⟩)
    ·refine au 3 rfl ?_
     refine zt s rfl rfl rfl yP yO (fun s => ?_) fun s => ?_
     ·refine au 3 rfl ?_
      exact Run.of_fin (s.imp fun h' s => j21 _ _ ⟨(true), ⟨rfl, rfl, rfl, rfl, rfl, rfl, trivial⟩, s⟩)
     ·refine au 3 rfl ?_
      exact Run.of_fin (s.imp fun h' s => j21 _ _ ⟨(false), ⟨rfl, rfl, rfl, rfl, rfl, rfl, trivial⟩, s⟩)
theorem vQ.of {B : RO} {p1 : Option Addr} {p2 : Option Addr} {i3 : Int} {i4 : Int} {h : Heap} {Q : Bool → Heap → Prop} (s : Vd B p1 p2 i3 i4 h Q) : vQ B p1 p2 i3 i4 h Q := by
 refine zspec Tryz.func96 [ResultVar.tmp 8] rfl rfl rfl rfl rfl ?_
 refine au 9 rfl ?_
 refine zcall s rfl rfl Ya ?_
 rintro _ h6 ⟨b7, s8, b9, rfl, s⟩
 refine au 3 rfl ?_
 refine zal s rfl zL rfl fun k10 h11 s => ?_
 refine zsn s rfl rfl rfl zj rfl fun h12 s => ?_
 refine au 7 rfl ?_
 obtain ⟨b13, s14, hl, s⟩ := s
 refine zn hl rfl rfl zD zj rfl ?_
 refine au 1 rfl ?_
 refine zcall s rfl rfl zgB ?_
 rintro _ h15 ⟨b16, s17, rfl, s⟩
 refine zcall s rfl rfl YL ?_
 rintro _ h18 ⟨b19, rfl, s⟩
 refine au 2 rfl ?_
 exact zr (s.imp fun _ q => ⟨_, rfl, q⟩)
theorem Yg.of {B : RO} {p1 : Option Addr} {i2 : Int} {i3 : Int} {h : Heap} {Q : Int → Heap → Prop} (s : zaE B p1 i2 i3 h Q) : Yg B p1 i2 i3 h Q := by
 refine zspec Tryz.func97 [ResultVar.tmp 6] rfl rfl rfl rfl rfl ?_
 refine au 4 rfl ?_
 refine Run.seqJ (fun e h6 => Agree [(0, (.pointer p1)), (1, (.int .i64 (i2))), (2, (.int .i64 (i3)))] e ∧ Xq B p1 i2 i3 h6 Q) ?_ fun j5 => ?_
 ·rintro e h6 ⟨hag, s⟩
  refine Run.env hag ?_; clear hag
  refine au 4 rfl ?_
  refine znil s rfl rfl fun A7 s => ?_
  refine au 1 rfl ?_
  obtain ⟨hi0, hi1, s⟩ := s
  refine zg rfl (zC A7 .i64 (i2) rfl rfl Zc hi0 hi1 ?_)
  refine zl s rfl rfl yV fun s9 s => ?_
  refine au 1 rfl ?_
  obtain ⟨hi0, hi1, s⟩ := s
  refine zg rfl (XI s9 .i64 (i3) rfl rfl xi hi0 hi1 ?_)
  refine zg rfl (vH .u8 .i64 (x4 s9 (Int.toNat (i3))) rfl XK Zx ?_)
  refine au 2 rfl ?_
  exact zr (s.imp fun _ q => ⟨_, rfl, q⟩)
 refine au 4 rfl ?_
 refine zcall s rfl rfl Vl ?_
 rintro _ h10 ⟨b11, rfl, s⟩
 cases b11
 ·replace s := s.2 rfl
  refine au 22 rfl ?_
  exact zr (s.imp fun _ q => ⟨_, rfl, q⟩)
 ·replace s := s.1 rfl
  refine au 3 rfl ?_
  refine zt s rfl rfl rfl zG zF (fun s => ?_) fun s => ?_
  ·refine au 18 rfl ?_
   exact zr (s.imp fun _ q => ⟨_, rfl, q⟩)
  ·refine au 5 rfl ?_
   refine znil s rfl rfl fun A12 s => ?_
   refine au 1 rfl ?_
   obtain ⟨hi0, hi1, s⟩ := s
   refine zg rfl (zC A12 .i64 (i2) rfl rfl Zc hi0 hi1 ?_)
   refine zl s rfl rfl yV fun s14 s => ?_
   refine zg rfl (wD s14 rfl xi ?_)
   refine zt s rfl rfl rfl yP yO (fun s => ?_) fun s => ?_
   ·refine au 7 rfl ?_
    exact zr (s.imp fun _ q => ⟨_, rfl, q⟩)
   ·refine au 4 rfl ?_
    exact Run.of_fin (s.imp fun h' s => j5 _ _ ⟨⟨rfl, rfl, rfl, trivial⟩, s⟩)
theorem vB.of {B : RO} {p1 : Option Addr} {i2 : Int} {i3 : Int} {h : Heap} {Q : Int → Heap → Prop} (s : WR B p1 i2 i3 h Q) : vB B p1 i2 i3 h Q := by
 refine zspec Tryz.func98 [ResultVar.tmp 6] rfl rfl rfl rfl rfl ?_
 refine au 4 rfl ?_
 refine Run.seqJ (fun e h6 => Agree [(0, (.pointer p1)), (1, (.int .i64 (i2))), (2, (.int .i64 (i3)))] e ∧ Yp B p1 i2 i3 h6 Q) ?_ fun j5 => ?_
 ·rintro e h6 ⟨hag, s⟩
  refine Run.env hag ?_; clear hag
  refine au 5 rfl ?_
  refine znil s rfl rfl fun A7 s => ?_
  refine au 1 rfl ?_
  obtain ⟨hi0, hi1, s⟩ := s
  refine zg rfl (zC A7 .i64 (i2) rfl rfl Zb hi0 hi1 ?_)
  refine zl s rfl rfl zx fun i9 s => ?_
  refine au 3 rfl ?_
  exact zr (s.imp fun _ q => ⟨_, rfl, q⟩)
 refine au 3 rfl ?_
 by_cases hb10 : p1 = none
 ·replace s := s.1 hb10
  refine zg rfl (zK p1 (.inl rfl) true rfl rfl X0 hb10 rfl ?_)
  refine au 12 rfl ?_
  exact zr (s.imp fun _ q => ⟨_, rfl, q⟩)
 ·replace s := s.2 hb10
  refine zg rfl (zJ p1 (.inl rfl) false rfl rfl X0 hb10 rfl ?_)
  refine au 2 rfl ?_
  refine zcall s rfl rfl za5 ?_
  rintro _ h11 ⟨b12, rfl, s⟩
  cases b12
  ·replace s := s.2 rfl
   refine au 9 rfl ?_
   exact zr (s.imp fun _ q => ⟨_, rfl, q⟩)
  ·replace s := s.1 rfl
   refine au 5 rfl ?_
   exact Run.of_fin (s.imp fun h' s => j5 _ _ ⟨⟨rfl, rfl, rfl, trivial⟩, s⟩)
theorem wQ.of {B : RO} {p1 : Option Addr} {i2 : Int} {h : Heap} {Q : Bool → Heap → Prop} (s : Wd B p1 i2 h Q) : wQ B p1 i2 h Q := by
 refine zspec Tryz.func99 [ResultVar.tmp 4] rfl rfl rfl rfl rfl ?_
 refine au 4 rfl ?_
 refine Run.seqJ (fun e h5 => Agree [(0, (.pointer p1)), (1, (.int .i64 (i2)))] e ∧ ZO B p1 i2 h5 Q) ?_ fun j4 => ?_
 ·rintro e h5 ⟨hag, s⟩
  refine Run.env hag ?_; clear hag
  refine au 1 rfl ?_
  refine Run.drawM (fun h' => h' = h5) [10] ⟨[0, 0, 1, 4, 10, 16, 32, 1, 128, 383, 639], [2047, 2047, 2046, 2043, 2037, 2031, 2015, 2046, 1919, 1789, 1471], [0, 0, 1, 5, 15, 31, 63, 1, 129, 511, 1023], 1024⟩ (.q 0 (.q 1 (.q 2 (.q 3 (.q 4 (.q 5 (.q 6 (.q 7 (.q 8 (.q 9 (.x 10 .nil .no))))))))))) zR (by kernel_rfl) rfl ?_
  refine auT 2 rfl ?_
  obtain ⟨A6, e7, s⟩ := s
  refine zqe rfl (zp A6 (congrArg Value.pointer e7) ⟨rfl, rfl⟩) ?_
  refine auT 1 rfl ?_
  obtain ⟨hi0, hi1, s⟩ := s
  refine zqe rfl (zC A6 .i64 (i2) rfl rfl Zb hi0 hi1 ⟨rfl, rfl⟩) ?_
  obtain ⟨i8, hl, s⟩ := s
  refine zqe rfl (zh (Addr.add A6 (Int.toNat (i2) * 1)) ((.int .i64 (i8))) rfl zx hl ⟨rfl, rfl⟩) ?_
  refine auT 1 rfl ?_
  obtain ⟨A9, e10, s⟩ := s
  refine zqe rfl (zp A9 (congrArg Value.pointer e10) ⟨rfl, rfl⟩) ?_
  refine auT 1 rfl ?_
  obtain ⟨hi0, hi1, s⟩ := s
  refine zqe rfl (zC A9 .i64 (i2) rfl rfl Zb hi0 hi1 ⟨rfl, rfl⟩) ?_
  obtain ⟨h11, hst, s⟩ := s
  refine ⟨zo0 rfl (v8 (Addr.add A9 (Int.toNat (i2) * 1)) ((.int .i64 (IntKind.wrap .i64 ((i8) + (1))))) h11 rfl rfl rfl Zl hst ?_), trivial⟩
  refine ⟨fun hz => Bool.noConfusion hz, ?_⟩
  refine au 4 rfl ?_
  exact zr (s.imp fun _ q => ⟨_, rfl, q⟩)
 refine au 3 rfl ?_
 by_cases hb12 : p1 = none
 ·replace s := s.1 hb12
  refine zg rfl (zK p1 (.inl rfl) true rfl rfl X0 hb12 rfl ?_)
  refine au 20 rfl ?_
  exact zr (s.imp fun _ q => ⟨_, rfl, q⟩)
 ·replace s := s.2 hb12
  refine zg rfl (zJ p1 (.inl rfl) false rfl rfl X0 hb12 rfl ?_)
  refine au 2 rfl ?_
  refine zcall s rfl rfl za5 ?_
  rintro _ h13 ⟨b14, rfl, s⟩
  cases b14
  ·replace s := s.2 rfl
   refine au 17 rfl ?_
   exact zr (s.imp fun _ q => ⟨_, rfl, q⟩)
  ·replace s := s.1 rfl
   refine au 5 rfl ?_
   refine znil s rfl rfl fun A15 s => ?_
   refine au 1 rfl ?_
   obtain ⟨hi0, hi1, s⟩ := s
   refine zg rfl (zC A15 .i64 (i2) rfl rfl Zb hi0 hi1 ?_)
   refine zl s rfl rfl zx fun i17 s => ?_
   refine zt s rfl rfl rfl yP yO (fun s => ?_) fun s => ?_
   ·refine au 7 rfl ?_
    exact zr (s.imp fun _ q => ⟨_, rfl, q⟩)
   ·refine au 4 rfl ?_
    exact Run.of_fin (s.imp fun h' s => j4 _ _ ⟨⟨rfl, rfl, trivial⟩, s⟩)
theorem zP.of {B : RO} {i1 : Int} {h : Heap} {Q : Bool → Heap → Prop} (s : XQ B i1 h Q) : zP B i1 h Q := by
 refine zspec Tryz.func100 [ResultVar.tmp 2] rfl rfl rfl rfl rfl ?_
 refine au 7 rfl ?_
 refine zt s rfl rfl rfl yP yO (fun s => ?_) fun s => ?_
 ·refine au 6 rfl ?_
  exact zr (s.imp fun _ q => ⟨_, rfl, q⟩)
 ·refine au 6 rfl ?_
  exact zr (s.imp fun _ q => ⟨_, rfl, q⟩)
theorem z6.of {B : RO} {p1 : Option Addr} {i2 : Int} {b3 : Bool} {s4 : ByteArray} {h : Heap} {Q : Heap → Prop} (s : Yo B p1 i2 b3 s4 h Q) : z6 B p1 i2 b3 s4 h Q := by
 refine zspec Tryz.func101 [] rfl rfl rfl rfl rfl ?_
 refine au 2 rfl ?_
 refine zbn s rfl rfl rfl fun k5 h6 s => ?_
 refine au 2 rfl ?_
 refine Run.drawM (fun h' => h' = h6) [] ⟨[0, 0, 1, 4, 10, 16, 0, 96], [255, 255, 254, 251, 245, 239, 255, 159], [0, 0, 0, 0, 0, 0, 0, 0], 0⟩ (.q 0 (.q 1 (.q 2 (.q 3 (.q 4 (.q 5 (.q 6 (.q 7 .nil)))))))) zR (by kernel_rfl) rfl ?_
 refine auT 2 rfl ?_
 obtain ⟨A7, e8, s⟩ := s
 refine zqe rfl (zp A7 (congrArg Value.pointer e8) ⟨rfl, rfl⟩) ?_
 refine auT 1 rfl ?_
 obtain ⟨hi0, hi1, s⟩ := s
 refine zqe rfl (zC (Addr.add A7 12) .i64 (i2) rfl rfl ZW hi0 hi1 ⟨rfl, rfl⟩) ?_
 obtain ⟨b9, s10, hl, s⟩ := s
 refine zqe rfl (z0 (Addr.add (Addr.add A7 12) (Int.toNat (i2) * 2)) [(.bool b9), (.string s10)] rfl yQ yz hl ⟨rfl, rfl⟩) ?_
 obtain ⟨b11, s12, hl, s⟩ := s
 refine zqe rfl (z0 ⟨k5, 0, none⟩ [(.bool b11), (.string s12)] rfl yQ yz hl ⟨rfl, rfl⟩) ?_
 by_cases hb13 : eqL [(.bool b9), (.string s10)] [(.bool b11), (.string s12)] = true
 ·replace s := s.1 hb13
  refine zqe rfl (X5 [(.bool b9), (.string s10)] [(.bool b11), (.string s12)] _ (false) (.inr rfl) rfl rfl yQ zc9 zeg ⟨⟨_, rfl⟩, ⟨_, rfl⟩, trivial⟩ ⟨⟨_, rfl⟩, ⟨_, rfl⟩, trivial⟩ (zkG hb13) ⟨rfl, rfl⟩) ?_
  refine au 2 rfl ?_
  exact zf (s.imp fun _ q => ⟨rfl, q⟩)
 ·replace s := s.2 hb13
  refine zqe rfl (X5 [(.bool b9), (.string s10)] [(.bool b11), (.string s12)] _ (true) (.inr rfl) rfl rfl yQ zc9 zeg ⟨⟨_, rfl⟩, ⟨_, rfl⟩, trivial⟩ ⟨⟨_, rfl⟩, ⟨_, rfl⟩, trivial⟩ (zkF hb13) ⟨rfl, rfl⟩) ?_
  refine au 2 rfl ?_
  refine Run.drawM (fun h' => h' = h6) [6] ⟨[0, 0, 0, 1, 8, 23, 39], [127, 127, 127, 126, 119, 109, 91], [0, 0, 0, 1, 9, 31, 63], 64⟩ (.q 0 (.q 1 (.q 2 (.q 3 (.q 4 (.q 5 (.x 6 .nil .no))))))) zR (by kernel_rfl) rfl ?_
  refine auT 2 rfl ?_
  obtain ⟨b14, s15, hl, s⟩ := s
  refine zqe rfl (z0 ⟨k5, 0, none⟩ [(.bool b14), (.string s15)] rfl yQ yz hl ⟨rfl, rfl⟩) ?_
  obtain ⟨A16, e17, s⟩ := s
  refine zqe rfl (zp A16 (congrArg Value.pointer e17) ⟨rfl, rfl⟩) ?_
  refine auT 1 rfl ?_
  obtain ⟨hi0, hi1, s⟩ := s
  refine zqe rfl (zC (Addr.add A16 12) .i64 (i2) rfl rfl ZW hi0 hi1 ⟨rfl, rfl⟩) ?_
  obtain ⟨h18, hst, s⟩ := s
  refine ⟨zo0 rfl (y7 (Addr.add (Addr.add A16 12) (Int.toNat (i2) * 2)) [(.bool b14), (.string s15)] h18 rfl rfl yz hst ?_), trivial⟩
  refine ⟨fun hz => Bool.noConfusion hz, ?_⟩
  refine au 3 rfl ?_
  refine znil s rfl rfl fun A19 s => ?_
  refine au 1 rfl ?_
  obtain ⟨hi0, hi1, s⟩ := s
  refine zg rfl (zC (Addr.add A19 24) .i64 (i2) rfl rfl zhz hi0 hi1 ?_)
  refine zs1 s rfl rfl rfl rfl zld fun h21 s => ?_
  refine au 1 rfl ?_
  exact zf (s.imp fun _ q => ⟨rfl, q⟩)
theorem wy.of {B : RO} {b1 : Bool} {s2 : ByteArray} {i3 : Int} {i4 : Int} {h : Heap} {Q : Bool → ByteArray → Heap → Prop} (s : XD B b1 s2 i3 i4 h Q) : wy B b1 s2 i3 i4 h Q := by
 refine zspec Tryz.func102 [ResultVar.cell 6 51] rfl rfl rfl rfl rfl ?_
 refine au 2 rfl ?_
 refine zbn s rfl rfl rfl fun k7 h8 s => ?_
 refine zal s rfl YG rfl fun k9 h10 s => ?_
 refine au 1 rfl ?_
 refine Run.seqJ (fun e h12 => Agree [(1, (.int .i64 (i3))), (2, (.int .u8 (i4))), (3, (.pointer (some ⟨k7, 0, none⟩))), (6, (.pointer (some ⟨k9, 0, none⟩)))] e ∧ vY B i3 i4 k7 k9 h12 Q) ?_ fun j11 => ?_
 ·rintro e h12 ⟨hag, s⟩
  refine Run.env hag ?_; clear hag
  refine au 10 rfl ?_
  obtain ⟨J19, m17, h0, s⟩ := s
  refine Run.of_fin (h0.imp fun h' h0 => ?_)
  refine Run.loop (σ := ByteArray × Int × Nat) (fun x e h => J19 x.1 x.2.1 x.2.2 h ∧ Agree [(1, (.int .i64 (i3))), (2, (.int .u8 (i4))), (3, (.pointer (some ⟨k7, 0, none⟩))), (6, (.pointer (some ⟨k9, 0, none⟩))), (7, (.string x.1)), (8, (.int .i64 (x.2.1)))] e) (fun x => x.2.2) ((ByteArray.mk #[]), (0), m17) ⟨h0, ⟨rfl, rfl, rfl, rfl, rfl, rfl, trivial⟩⟩ ?_; clear h0
  rintro ⟨s13, i14, m16⟩ e h15 ⟨hJ, hag⟩ ih18
  have s := s s13 i14 m16 h15 hJ; clear hJ
  refine Run.env hag ?_; clear hag
  refine Run.seqJ (fun e h21 => Agree [(1, (.int .i64 (i3))), (2, (.int .u8 (i4))), (3, (.pointer (some ⟨k7, 0, none⟩))), (6, (.pointer (some ⟨k9, 0, none⟩))), (7, (.string s13)), (8, (.int .i64 (i14)))] e ∧ xZ B i3 i4 k7 k9 s13 i14 m16 J19 h21 Q) ?_ fun j20 => ?_
  ·rintro e h21 ⟨hag, s⟩
   refine Run.env hag ?_; clear hag
   refine au 4 rfl ?_
   obtain ⟨b22, s23, hl, s⟩ := s
   refine zn hl rfl rfl yQ yz rfl ?_
   refine au 1 rfl ?_
   refine zcall s rfl rfl za4 ?_
   rintro _ h24 ⟨i25, rfl, s⟩
   refine zg rfl (zht .i64 (i25) (0) rfl rfl ?_)
   refine au 2 rfl ?_
   refine Run.seqJ (fun e h28 => ∃ i27 : Int, Agree [(1, (.int .i64 (i3))), (2, (.int .u8 (i4))), (3, (.pointer (some ⟨k7, 0, none⟩))), (6, (.pointer (some ⟨k9, 0, none⟩))), (7, (.string s13)), (8, (.int .i64 (i14))), (9, (.int .i64 (i27)))] e ∧ x1 B i3 i4 k7 k9 s13 i14 m16 J19 i27 h28 Q) ?_ fun j26 => ?_
   ·rintro e h28 ⟨i27, hag, s⟩
    refine Run.env hag ?_; clear hag
    refine au 3 rfl ?_
    refine zg rfl (vH .i64 .u8 (i27) rfl Zx XK ?_)
    refine zg rfl (yh [(0, (.int .u8 (IntKind.wrap .u8 (i27))))] [(.int .u8 (IntKind.wrap .u8 (i27)))] Vq zbM rfl (by decide) (by decide) rfl rfl (fun k29 hb1 hb2 h30 hb3 => ?_))
    have s := s k29 hb1 hb2 h30 hb3
    refine zg rfl (zam ((.slice (some ⟨k29, 0, none⟩) 1 1)) rfl (zB (fun v h32 hv => ?_) s))
    obtain ⟨s31, rfl, s⟩ := hv
    obtain ⟨hi0, s⟩ := s
    refine zg rfl (Vz s13 s31 rfl rfl hi0 ?_)
    refine au 8 rfl ?_
    exact Run.of_fin (s.imp fun h' ⟨m', hm, s⟩ => ih18 ((s13 ++ s31), (IntKind.wrap .i64 ((i14) + (1))), m') _ _ ⟨s, ⟨rfl, rfl, rfl, rfl, rfl, rfl, trivial⟩⟩ hm)
   refine au 4 rfl ?_
   refine zt s rfl rfl rfl zU zT (fun s => ?_) fun s => ?_
   ·refine au 4 rfl ?_
    refine zg rfl (vH .u8 .i64 (i4) rfl XK Zx ?_)
    refine au 2 rfl ?_
    exact Run.of_fin (s.imp fun h' s => j26 _ _ ⟨(IntKind.wrap .i64 (i4)), ⟨rfl, rfl, rfl, rfl, rfl, rfl, rfl, trivial⟩, s⟩)
   ·refine au 3 rfl ?_
    exact Run.of_fin (s.imp fun h' s => j26 _ _ ⟨(if (0 : Int) > (i25) then (0 : Int) else (i25)), ⟨rfl, rfl, rfl, rfl, rfl, rfl, rfl, trivial⟩, s⟩)
  refine au 4 rfl ?_
  refine zl s rfl rfl yV fun s33 s => ?_
  refine zg rfl (wD s33 rfl xi ?_)
  refine zt s rfl rfl rfl zG zF (fun s => ?_) fun s => ?_
  ·refine au 8 rfl ?_
   exact Run.of_fin (s.imp fun h' s => j20 _ _ ⟨⟨rfl, rfl, rfl, rfl, rfl, rfl, trivial⟩, s⟩)
  ·refine au 3 rfl ?_
   refine zt s rfl rfl rfl Vu Vt (fun s => ?_) fun s => ?_
   ·refine au 4 rfl ?_
    exact Run.of_fin (s.imp fun h' s => j20 _ _ ⟨⟨rfl, rfl, rfl, rfl, rfl, rfl, trivial⟩, s⟩)
   ·refine au 7 rfl ?_
    refine zg rfl (zH [(0, (.bool true)), (1, (.string s13))] [(.bool true), (.string s13)] YG Y7 rfl rfl ?_)
    refine zsn s rfl rfl rfl yz rfl fun h34 s => ?_
    refine au 1 rfl ?_
    obtain ⟨b35, s36, hl0, s⟩ := s
    exact zr (⟨⟨k9, 0, none⟩, (.agg #[(.bool b35), (.string s36)]), rfl, yA yQ yz hl0, s.imp fun _ q => ⟨_, _, rfl, q⟩⟩)
 refine au 3 rfl ?_
 refine zt s rfl rfl rfl zG zF (fun s => ?_) fun s => ?_
 ·refine au 8 rfl ?_
  obtain ⟨b37, s38, hl, s⟩ := s
  refine zn hl rfl rfl yQ yz rfl ?_
  refine zsn s rfl rfl rfl yz rfl fun h39 s => ?_
  refine au 1 rfl ?_
  obtain ⟨b40, s41, hl0, s⟩ := s
  exact zr (⟨⟨k9, 0, none⟩, (.agg #[(.bool b40), (.string s41)]), rfl, yA yQ yz hl0, s.imp fun _ q => ⟨_, _, rfl, q⟩⟩)
 ·refine au 2 rfl ?_
  refine zt s rfl rfl rfl xk xj (fun s => ?_) fun s => ?_
  ·refine au 5 rfl ?_
   obtain ⟨b42, s43, hl, s⟩ := s
   refine zn hl rfl rfl yQ yz rfl ?_
   refine zsn s rfl rfl rfl yz rfl fun h44 s => ?_
   refine au 1 rfl ?_
   obtain ⟨b45, s46, hl0, s⟩ := s
   exact zr (⟨⟨k9, 0, none⟩, (.agg #[(.bool b45), (.string s46)]), rfl, yA yQ yz hl0, s.imp fun _ q => ⟨_, _, rfl, q⟩⟩)
  ·refine au 4 rfl ?_
   exact Run.of_fin (s.imp fun h' s => j11 _ _ ⟨⟨rfl, rfl, rfl, rfl, trivial⟩, s⟩)
theorem wx.of {B : RO} {b1 : Bool} {s2 : ByteArray} {i3 : Int} {h : Heap} {Q : Bool → ByteArray → Heap → Prop} (s : XC B b1 s2 i3 h Q) : wx B b1 s2 i3 h Q := by
 refine zspec Tryz.func103 [ResultVar.cell 4 51] rfl rfl rfl rfl rfl ?_
 refine au 2 rfl ?_
 refine zbn s rfl rfl rfl fun k6 h7 s => ?_
 refine zal s rfl YG rfl fun k8 h9 s => ?_
 refine au 1 rfl ?_
 refine Run.seqJ (fun e h11 => Agree [(1, (.int .i64 (i3))), (2, (.pointer (some ⟨k6, 0, none⟩))), (4, (.pointer (some ⟨k8, 0, none⟩)))] e ∧ vX B i3 k6 k8 h11 Q) ?_ fun j10 => ?_
 ·rintro e h11 ⟨hag, s⟩
  refine Run.env hag ?_; clear hag
  refine au 10 rfl ?_
  obtain ⟨J18, m16, h0, s⟩ := s
  refine Run.of_fin (h0.imp fun h' h0 => ?_)
  refine Run.loop (σ := ByteArray × Int × Nat) (fun x e h => J18 x.1 x.2.1 x.2.2 h ∧ Agree [(1, (.int .i64 (i3))), (2, (.pointer (some ⟨k6, 0, none⟩))), (4, (.pointer (some ⟨k8, 0, none⟩))), (5, (.string x.1)), (6, (.int .i64 (x.2.1)))] e) (fun x => x.2.2) ((ByteArray.mk #[]), (0), m16) ⟨h0, ⟨rfl, rfl, rfl, rfl, rfl, trivial⟩⟩ ?_; clear h0
  rintro ⟨s12, i13, m15⟩ e h14 ⟨hJ, hag⟩ ih17
  have s := s s12 i13 m15 h14 hJ; clear hJ
  refine Run.env hag ?_; clear hag
  refine au 5 rfl ?_
  refine zt s rfl rfl rfl zG zF (fun s => ?_) fun s => ?_
  ·refine au 7 rfl ?_
   obtain ⟨b19, s20, hl, s⟩ := s
   refine zn hl rfl rfl yQ yz rfl ?_
   refine au 1 rfl ?_
   refine zcall s rfl rfl za4 ?_
   rintro _ h21 ⟨i22, rfl, s⟩
   refine zg rfl (zht .i64 (i22) (0) rfl rfl ?_)
   refine zg rfl (vH .i64 .u8 (if (0 : Int) > (i22) then (0 : Int) else (i22)) rfl Zx XK ?_)
   refine zg rfl (yh [(0, (.int .u8 (IntKind.wrap .u8 (if (0 : Int) > (i22) then (0 : Int) else (i22)))))] [(.int .u8 (IntKind.wrap .u8 (if (0 : Int) > (i22) then (0 : Int) else (i22))))] Vq zbM rfl (by decide) (by decide) rfl rfl (fun k23 hb1 hb2 h24 hb3 => ?_))
   have s := s k23 hb1 hb2 h24 hb3
   refine zg rfl (zam ((.slice (some ⟨k23, 0, none⟩) 1 1)) rfl (zB (fun v h26 hv => ?_) s))
   obtain ⟨s25, rfl, s⟩ := hv
   obtain ⟨hi0, s⟩ := s
   refine zg rfl (Vz s12 s25 rfl rfl hi0 ?_)
   refine au 8 rfl ?_
   exact Run.of_fin (s.imp fun h' ⟨m', hm, s⟩ => ih17 ((s12 ++ s25), (IntKind.wrap .i64 ((i13) + (1))), m') _ _ ⟨s, ⟨rfl, rfl, rfl, rfl, rfl, trivial⟩⟩ hm)
  ·refine au 6 rfl ?_
   refine zg rfl (zH [(0, (.bool true)), (1, (.string s12))] [(.bool true), (.string s12)] YG Y7 rfl rfl ?_)
   refine zsn s rfl rfl rfl yz rfl fun h27 s => ?_
   refine au 1 rfl ?_
   obtain ⟨b28, s29, hl0, s⟩ := s
   exact zr (⟨⟨k8, 0, none⟩, (.agg #[(.bool b28), (.string s29)]), rfl, yA yQ yz hl0, s.imp fun _ q => ⟨_, _, rfl, q⟩⟩)
 refine au 3 rfl ?_
 refine zl s rfl rfl VL fun b30 s => ?_
 cases b30
 ·replace s := s.2 rfl
  refine au 13 rfl ?_
  obtain ⟨b31, s32, hl, s⟩ := s
  refine zn hl rfl rfl yQ yz rfl ?_
  refine zsn s rfl rfl rfl yz rfl fun h33 s => ?_
  refine au 1 rfl ?_
  obtain ⟨b34, s35, hl0, s⟩ := s
  exact zr (⟨⟨k8, 0, none⟩, (.agg #[(.bool b34), (.string s35)]), rfl, yA yQ yz hl0, s.imp fun _ q => ⟨_, _, rfl, q⟩⟩)
 ·replace s := s.1 rfl
  refine au 3 rfl ?_
  refine zt s rfl rfl rfl zG zF (fun s => ?_) fun s => ?_
  ·refine au 9 rfl ?_
   obtain ⟨b36, s37, hl, s⟩ := s
   refine zn hl rfl rfl yQ yz rfl ?_
   refine zsn s rfl rfl rfl yz rfl fun h38 s => ?_
   refine au 1 rfl ?_
   obtain ⟨b39, s40, hl0, s⟩ := s
   exact zr (⟨⟨k8, 0, none⟩, (.agg #[(.bool b39), (.string s40)]), rfl, yA yQ yz hl0, s.imp fun _ q => ⟨_, _, rfl, q⟩⟩)
  ·refine au 3 rfl ?_
   refine zt s rfl rfl rfl xk xj (fun s => ?_) fun s => ?_
   ·refine au 5 rfl ?_
    obtain ⟨b41, s42, hl, s⟩ := s
    refine zn hl rfl rfl yQ yz rfl ?_
    refine zsn s rfl rfl rfl yz rfl fun h43 s => ?_
    refine au 1 rfl ?_
    obtain ⟨b44, s45, hl0, s⟩ := s
    exact zr (⟨⟨k8, 0, none⟩, (.agg #[(.bool b44), (.string s45)]), rfl, yA yQ yz hl0, s.imp fun _ q => ⟨_, _, rfl, q⟩⟩)
   ·refine au 4 rfl ?_
    exact Run.of_fin (s.imp fun h' s => j10 _ _ ⟨⟨rfl, rfl, rfl, trivial⟩, s⟩)
theorem yB.of {B : RO} {a1 : Option Addr} {n2 : Nat} {c3 : Nat} {i4 : Int} {a5 : Option Addr} {n6 : Nat} {c7 : Nat} {h : Heap} {Q : Option Addr → Nat → Nat → Heap → Prop} (s : y0 B a1 n2 c3 i4 a5 n6 c7 h Q) : yB B a1 n2 c3 i4 a5 n6 c7 h Q := by
 refine zspec Tryz.func104 [ResultVar.tmp 6] rfl rfl rfl rfl rfl ?_
 refine au 8 rfl ?_
 obtain ⟨hi0, hi1, hi2, s⟩ := s
 refine zg rfl (yi a1 n2 c3 (i4) ((n2 : Nat)) rfl y4 ⟨_, rfl⟩ rfl hi0 hi1 hi2 ?_)
 refine au 4 rfl ?_
 refine zg rfl (y9 a5 n6 c7 rfl WU ?_)
 refine au 6 rfl ?_
 refine zt s rfl rfl rfl zU zT (fun s => ?_) fun s => ?_
 ·refine au 7 rfl ?_
  exact zr (s.imp fun _ q => ⟨_, _, _, rfl, q⟩)
 ·refine au 6 rfl ?_
  refine zg rfl (y9 a1 n2 c3 rfl WU ?_)
  refine au 7 rfl ?_
  refine zt s rfl rfl rfl zU zT (fun s => ?_) fun s => ?_
  ·refine au 6 rfl ?_
   refine zg rfl (zX [(.slice a1 n2 c3), (.slice a5 n6 c7)] rfl (zB (fun v h11 hv => ?_) s))
   obtain ⟨a12, n13, c14, rfl, s⟩ := hv
   refine au 2 rfl ?_
   exact zr (s.imp fun _ q => ⟨_, _, _, rfl, q⟩)
  ·refine au 10 rfl ?_
   refine zg rfl (zeF a1 (n2) (c3) rfl WU ?_)
   refine zt s rfl rfl rfl xk xj (fun s => ?_) fun s => ?_
   ·refine au 6 rfl ?_
    obtain ⟨hi0, hi1, hi2, s⟩ := s
    refine zg rfl (yi a1 n2 c3 (0) (i4) rfl y4 rfl ⟨_, rfl⟩ hi0 hi1 hi2 ?_)
    refine au 5 rfl ?_
    refine zg rfl (zX [(.slice (if c3 = Int.toNat (0) then a1 else Option.map (·.add (Int.toNat (0) * 2)) a1) (Int.toNat (i4) - Int.toNat (0)) (c3 - Int.toNat (0))), (.int .i64 (IntKind.wrap .i64 ((IntKind.wrap .i64 (((n2 : Nat)) + ((n6 : Nat)))) - (i4))))] rfl (zB (fun v h15 hv => ?_) s))
    obtain ⟨a16, n17, c18, rfl, s⟩ := hv
    refine au 6 rfl ?_
    obtain ⟨hi0, hi1, hi2, s⟩ := s
    refine zg rfl (yi a16 n17 c18 (i4) ((n17 : Nat)) rfl y4 ⟨_, rfl⟩ rfl hi0 hi1 hi2 ?_)
    refine au 1 rfl ?_
    refine zg rfl (Zi [(.slice (if c18 = Int.toNat (i4) then a16 else Option.map (·.add (Int.toNat (i4) * 2)) a16) (Int.toNat ((n17 : Nat)) - Int.toNat (i4)) (c18 - Int.toNat (i4))), (.slice a5 n6 c7)] rfl (zB (fun v h19 hv => ?_) s))
    obtain ⟨i20, rfl, s⟩ := hv
    refine au 2 rfl ?_
    refine Run.drawM (fun h' => h' = h19) [8] ⟨[0, 0, 0, 6, 9, 0, 0, 96, 144], [511, 511, 511, 505, 502, 511, 511, 415, 367], [0, 0, 0, 6, 15, 0, 0, 96, 255], 256⟩ (.q 0 (.q 1 (.q 2 (.q 3 (.q 4 (.q 5 (.q 6 (.q 7 (.x 8 .nil .no))))))))) zR (by kernel_rfl) rfl ?_
    refine auT 4 rfl ?_
    obtain ⟨hi0, hi1, hi2, s⟩ := s
    refine zqe rfl (yi a16 n17 c18 (IntKind.wrap .i64 ((i4) + ((n6 : Nat)))) ((n17 : Nat)) rfl y4 ⟨_, rfl⟩ rfl hi0 hi1 hi2 ⟨rfl, rfl⟩) ?_
    refine auT 2 rfl ?_
    obtain ⟨hi0, hi1, hi2, s⟩ := s
    refine zqe rfl (yi a1 n2 c3 (i4) ((n2 : Nat)) rfl y4 ⟨_, rfl⟩ rfl hi0 hi1 hi2 ⟨rfl, rfl⟩) ?_
    refine ⟨zo rfl (Zi [(.slice (if c18 = Int.toNat (IntKind.wrap .i64 ((i4) + ((n6 : Nat)))) then a16 else Option.map (·.add (Int.toNat (IntKind.wrap .i64 ((i4) + ((n6 : Nat)))) * 2)) a16) (Int.toNat ((n17 : Nat)) - Int.toNat (IntKind.wrap .i64 ((i4) + ((n6 : Nat))))) (c18 - Int.toNat (IntKind.wrap .i64 ((i4) + ((n6 : Nat)))))), (.slice (if c3 = Int.toNat (i4) then a1 else Option.map (·.add (Int.toNat (i4) * 2)) a1) (Int.toNat ((n2 : Nat)) - Int.toNat (i4)) (c3 - Int.toNat (i4)))] rfl (zB (fun v h21 hv => ?_) s)), trivial⟩
    obtain ⟨i22, rfl, s⟩ := hv
    refine ⟨fun hz => Bool.noConfusion hz, ?_⟩
    refine au 5 rfl ?_
    exact zr (s.imp fun _ q => ⟨_, _, _, rfl, q⟩)
   ·refine au 9 rfl ?_
    obtain ⟨hi0, hi1, hi2, s⟩ := s
    refine zg rfl (yi a1 n2 c3 (0) (IntKind.wrap .i64 (((n2 : Nat)) + ((n6 : Nat)))) rfl y4 rfl ⟨_, rfl⟩ hi0 hi1 hi2 ?_)
    refine au 10 rfl ?_
    obtain ⟨hi0, hi1, hi2, s⟩ := s
    refine zg rfl (yi (if c3 = Int.toNat (0) then a1 else Option.map (·.add (Int.toNat (0) * 2)) a1) (Int.toNat (IntKind.wrap .i64 (((n2 : Nat)) + ((n6 : Nat)))) - Int.toNat (0)) (c3 - Int.toNat (0)) (IntKind.wrap .i64 ((i4) + ((n6 : Nat)))) (((Int.toNat (IntKind.wrap .i64 (((n2 : Nat)) + ((n6 : Nat)))) - Int.toNat (0)) : Nat)) rfl y4 ⟨_, rfl⟩ rfl hi0 hi1 hi2 ?_)
    refine zg rfl (zdI [(.slice a5 n6 c7), (.slice (if (c3 - Int.toNat (0)) = Int.toNat (IntKind.wrap .i64 ((i4) + ((n6 : Nat)))) then (if c3 = Int.toNat (0) then a1 else Option.map (·.add (Int.toNat (0) * 2)) a1) else Option.map (·.add (Int.toNat (IntKind.wrap .i64 ((i4) + ((n6 : Nat)))) * 2)) (if c3 = Int.toNat (0) then a1 else Option.map (·.add (Int.toNat (0) * 2)) a1)) (Int.toNat (((Int.toNat (IntKind.wrap .i64 (((n2 : Nat)) + ((n6 : Nat)))) - Int.toNat (0)) : Nat)) - Int.toNat (IntKind.wrap .i64 ((i4) + ((n6 : Nat))))) ((c3 - Int.toNat (0)) - Int.toNat (IntKind.wrap .i64 ((i4) + ((n6 : Nat))))))] (zfk) rfl rfl (zB (fun v h23 hv => ?_) s))
    obtain ⟨b24, rfl, s⟩ := hv
    cases b24
    ·replace s := s.2 rfl
     refine au 4 rfl ?_
     refine Run.drawM (fun h' => h' = h23) [8] ⟨[0, 0, 0, 6, 9, 0, 0, 96, 144], [511, 511, 511, 505, 502, 511, 511, 415, 367], [0, 0, 0, 6, 15, 0, 0, 96, 255], 256⟩ (.q 0 (.q 1 (.q 2 (.q 3 (.q 4 (.q 5 (.q 6 (.q 7 (.x 8 .nil .no))))))))) zR (by kernel_rfl) rfl ?_
     refine auT 4 rfl ?_
     obtain ⟨hi0, hi1, hi2, s⟩ := s
     refine zqe rfl (yi (if c3 = Int.toNat (0) then a1 else Option.map (·.add (Int.toNat (0) * 2)) a1) (Int.toNat (IntKind.wrap .i64 (((n2 : Nat)) + ((n6 : Nat)))) - Int.toNat (0)) (c3 - Int.toNat (0)) (IntKind.wrap .i64 ((i4) + ((n6 : Nat)))) (((Int.toNat (IntKind.wrap .i64 (((n2 : Nat)) + ((n6 : Nat)))) - Int.toNat (0)) : Nat)) rfl y4 ⟨_, rfl⟩ rfl hi0 hi1 hi2 ⟨rfl, rfl⟩) ?_
     refine auT 2 rfl ?_
     obtain ⟨hi0, hi1, hi2, s⟩ := s
     refine zqe rfl (yi (if c3 = Int.toNat (0) then a1 else Option.map (·.add (Int.toNat (0) * 2)) a1) (Int.toNat (IntKind.wrap .i64 (((n2 : Nat)) + ((n6 : Nat)))) - Int.toNat (0)) (c3 - Int.toNat (0)) (i4) (((Int.toNat (IntKind.wrap .i64 (((n2 : Nat)) + ((n6 : Nat)))) - Int.toNat (0)) : Nat)) rfl y4 ⟨_, rfl⟩ rfl hi0 hi1 hi2 ⟨rfl, rfl⟩) ?_
     refine ⟨zo rfl (Zi [(.slice (if (c3 - Int.toNat (0)) = Int.toNat (IntKind.wrap .i64 ((i4) + ((n6 : Nat)))) then (if c3 = Int.toNat (0) then a1 else Option.map (·.add (Int.toNat (0) * 2)) a1) else Option.map (·.add (Int.toNat (IntKind.wrap .i64 ((i4) + ((n6 : Nat)))) * 2)) (if c3 = Int.toNat (0) then a1 else Option.map (·.add (Int.toNat (0) * 2)) a1)) (Int.toNat (((Int.toNat (IntKind.wrap .i64 (((n2 : Nat)) + ((n6 : Nat)))) - Int.toNat (0)) : Nat)) - Int.toNat (IntKind.wrap .i64 ((i4) + ((n6 : Nat))))) ((c3 - Int.toNat (0)) - Int.toNat (IntKind.wrap .i64 ((i4) + ((n6 : Nat)))))), (.slice (if (c3 - Int.toNat (0)) = Int.toNat (i4) then (if c3 = Int.toNat (0) then a1 else Option.map (·.add (Int.toNat (0) * 2)) a1) else Option.map (·.add (Int.toNat (i4) * 2)) (if c3 = Int.toNat (0) then a1 else Option.map (·.add (Int.toNat (0) * 2)) a1)) (Int.toNat (((Int.toNat (IntKind.wrap .i64 (((n2 : Nat)) + ((n6 : Nat)))) - Int.toNat (0)) : Nat)) - Int.toNat (i4)) ((c3 - Int.toNat (0)) - Int.toNat (i4)))] rfl (zB (fun v h25 hv => ?_) s)), trivial⟩
     obtain ⟨i26, rfl, s⟩ := hv
     refine ⟨fun hz => Bool.noConfusion hz, ?_⟩
     refine au 4 rfl ?_
     obtain ⟨hi0, hi1, hi2, s⟩ := s
     refine zg rfl (yi (if c3 = Int.toNat (0) then a1 else Option.map (·.add (Int.toNat (0) * 2)) a1) (Int.toNat (IntKind.wrap .i64 (((n2 : Nat)) + ((n6 : Nat)))) - Int.toNat (0)) (c3 - Int.toNat (0)) (i4) (((Int.toNat (IntKind.wrap .i64 (((n2 : Nat)) + ((n6 : Nat)))) - Int.toNat (0)) : Nat)) rfl y4 ⟨_, rfl⟩ rfl hi0 hi1 hi2 ?_)
     refine au 1 rfl ?_
     refine zg rfl (Zi [(.slice (if (c3 - Int.toNat (0)) = Int.toNat (i4) then (if c3 = Int.toNat (0) then a1 else Option.map (·.add (Int.toNat (0) * 2)) a1) else Option.map (·.add (Int.toNat (i4) * 2)) (if c3 = Int.toNat (0) then a1 else Option.map (·.add (Int.toNat (0) * 2)) a1)) (Int.toNat (((Int.toNat (IntKind.wrap .i64 (((n2 : Nat)) + ((n6 : Nat)))) - Int.toNat (0)) : Nat)) - Int.toNat (i4)) ((c3 - Int.toNat (0)) - Int.toNat (i4))), (.slice a5 n6 c7)] rfl (zB (fun v h27 hv => ?_) s))
     obtain ⟨i28, rfl, s⟩ := hv
     refine au 6 rfl ?_
     exact zr (s.imp fun _ q => ⟨_, _, _, rfl, q⟩)
    ·replace s := s.1 rfl
     refine au 8 rfl ?_
     obtain ⟨hi0, hi1, hi2, s⟩ := s
     refine zg rfl (yi (if c3 = Int.toNat (0) then a1 else Option.map (·.add (Int.toNat (0) * 2)) a1) (Int.toNat (IntKind.wrap .i64 (((n2 : Nat)) + ((n6 : Nat)))) - Int.toNat (0)) (c3 - Int.toNat (0)) ((n2 : Nat)) (((Int.toNat (IntKind.wrap .i64 (((n2 : Nat)) + ((n6 : Nat)))) - Int.toNat (0)) : Nat)) rfl y4 ⟨_, rfl⟩ rfl hi0 hi1 hi2 ?_)
     refine au 1 rfl ?_
     refine zg rfl (Zi [(.slice (if (c3 - Int.toNat (0)) = Int.toNat ((n2 : Nat)) then (if c3 = Int.toNat (0) then a1 else Option.map (·.add (Int.toNat (0) * 2)) a1) else Option.map (·.add (Int.toNat ((n2 : Nat)) * 2)) (if c3 = Int.toNat (0) then a1 else Option.map (·.add (Int.toNat (0) * 2)) a1)) (Int.toNat (((Int.toNat (IntKind.wrap .i64 (((n2 : Nat)) + ((n6 : Nat)))) - Int.toNat (0)) : Nat)) - Int.toNat ((n2 : Nat))) ((c3 - Int.toNat (0)) - Int.toNat ((n2 : Nat)))), (.slice a5 n6 c7)] rfl (zB (fun v h29 hv => ?_) s))
     obtain ⟨i30, rfl, s⟩ := hv
     refine au 5 rfl ?_
     obtain ⟨hi0, hi1, hi2, s⟩ := s
     refine zg rfl (yi (if c3 = Int.toNat (0) then a1 else Option.map (·.add (Int.toNat (0) * 2)) a1) (Int.toNat (IntKind.wrap .i64 (((n2 : Nat)) + ((n6 : Nat)))) - Int.toNat (0)) (c3 - Int.toNat (0)) (i4) (((Int.toNat (IntKind.wrap .i64 (((n2 : Nat)) + ((n6 : Nat)))) - Int.toNat (0)) : Nat)) rfl y4 ⟨_, rfl⟩ rfl hi0 hi1 hi2 ?_)
     refine au 1 rfl ?_
     refine zcall s rfl rfl zgC ?_
     rintro _ h31 ⟨rfl, s⟩
     refine au 6 rfl ?_
     exact zr (s.imp fun _ q => ⟨_, _, _, rfl, q⟩)
theorem wO.of {B : RO} {i1 : Int} {b2 : Bool} {s3 : ByteArray} {h : Heap} {Q : Option Addr → Heap → Prop} (s : Wb B i1 b2 s3 h Q) : wO B i1 b2 s3 h Q := by
 refine zspec Tryz.func105 [ResultVar.tmp 4] rfl rfl rfl rfl rfl ?_
 refine au 2 rfl ?_
 refine zbn s rfl rfl rfl fun k5 h6 s => ?_
 refine au 4 rfl ?_
 refine zg rfl (zH [] [(.slice none 0 0)] zgX ze1 rfl rfl ?_)
 refine zbn s rfl rfl rfl fun k7 h8 s => ?_
 refine au 9 rfl ?_
 obtain ⟨J14, m12, h0, s⟩ := s
 refine Run.of_fin (h0.imp fun h' h0 => ?_)
 refine Run.loop (σ := Int × Nat) (fun x e h => J14 x.1 x.2 h ∧ Agree [(3, (.pointer (some ⟨k5, 0, none⟩))), (5, (.pointer (some ⟨k7, 0, none⟩))), (8, (.int .i64 (i1))), (9, (.int .i64 (x.1)))] e) (fun x => x.2) ((0), m12) ⟨h0, ⟨rfl, rfl, rfl, rfl, trivial⟩⟩ ?_; clear h0
 rintro ⟨i9, m11⟩ e h10 ⟨hJ, hag⟩ ih13
 have s := s i9 m11 h10 hJ; clear hJ
 refine Run.env hag ?_; clear hag
 refine au 2 rfl ?_
 refine zt s rfl rfl rfl zG zF (fun s => ?_) fun s => ?_
 ·refine au 6 rfl ?_
  obtain ⟨a19, n20, c21, hl, s⟩ := s
  have f22 := hl
  obtain ⟨b23, s24, hl, s⟩ := s
  have f25 := hl
  refine Run.drawM (fun h' => cellH B h' ⟨k7, 0, none⟩ = some (.slice a19 n20 c21) ∧ za B h' ⟨k5, 0, none⟩ 0 [(.bool b23), (.string s24)] ∧ True) [11] ⟨[0, 0, 2, 4, 8, 0, 32, 64, 144, 511, 1023, 1535], [4095, 4095, 4093, 4091, 4087, 4095, 4063, 4031, 3951, 4094, 3583, 2815], [0, 0, 2, 6, 14, 0, 32, 96, 254, 511, 1023, 2047], 2048⟩ (.q 0 (.q 1 (.q 2 (.q 3 (.q 4 (.q 5 (.q 6 (.x 7 (.x 8 (.q 9 (.q 10 (.x 11 .nil .no))) .no) .no)))))))) zR (by kernel_rfl) ⟨f22, f25, trivial⟩ ?_
  refine auT 4 rfl ?_
  refine zq rfl (fun _ hC => zh ⟨k7, 0, none⟩ ((.slice a19 n20 c21)) rfl Wn hC.1 ⟨rfl, rfl⟩) ?_
  refine zq rfl (fun _ hC => z0 ⟨k5, 0, none⟩ [(.bool b23), (.string s24)] rfl zD zj hC.2.1 ⟨rfl, rfl⟩) ?_
  refine zq rfl (fun _ hC => zH [(0, (.agg #[(.bool b23), (.string s24)]))] [(.bool b23), (.string s24), (.int .i64 (0))] zav zbw rfl rfl ⟨rfl, rfl⟩) ?_
  refine ⟨zo rfl (yh [(0, (.agg #[(.bool b23), (.string s24), (.int .i64 (0))]))] [(.bool b23), (.string s24), (.int .i64 (0))] Vp zav rfl (by decide) (by decide) rfl rfl (fun k27 hb1 hb2 h28 hb3 => ?_)), trivial⟩
  have s := s k27 hb1 hb2 h28 hb3
  obtain ⟨g29, g30, s⟩ := s
  refine ⟨fun _ => ⟨g29, g30, trivial⟩, ?_⟩
  refine ⟨zo rfl (zX [(.slice a19 n20 c21), (.slice (some ⟨k27, 0, none⟩) 1 1)] rfl (zB (fun v h31 hv => ?_) s)), trivial⟩
  obtain ⟨a32, n33, c34, rfl, s⟩ := hv
  obtain ⟨g35, g36, s⟩ := s
  refine ⟨fun _ => ⟨g35, g36, trivial⟩, ?_⟩
  refine auT 2 rfl ?_
  obtain ⟨h37, hst, s⟩ := s
  refine ⟨zo0 rfl (v8 ⟨k7, 0, none⟩ ((.slice a32 n33 c34)) h37 rfl rfl rfl zjo hst ?_), trivial⟩
  refine ⟨fun hz => Bool.noConfusion hz, ?_⟩
  refine au 5 rfl ?_
  exact Run.of_fin (s.imp fun h' ⟨m', hm, s⟩ => ih13 ((IntKind.wrap .i64 ((i9) + (1))), m') _ _ ⟨s, ⟨rfl, rfl, rfl, rfl, trivial⟩⟩ hm)
 ·refine au 9 rfl ?_
  exact zr (s.imp fun _ q => ⟨_, rfl, q⟩)
theorem vA.of {B : RO} {h : Heap} {Q : Option Addr → Heap → Prop} (s : zcl B h Q) : vA B h Q := by
 refine zspec Tryz.func106 [ResultVar.tmp 0] rfl rfl rfl rfl rfl ?_
 refine au 6 rfl ?_
 refine zg rfl (zH [] [(.slice none 0 0)] zgW zeZ rfl rfl ?_)
 refine zbn s rfl rfl rfl fun k2 h3 s => ?_
 refine zg rfl (zH [(0, (.pointer (some ⟨k2, 0, none⟩)))] [(.pointer (some ⟨k2, 0, none⟩))] zgV zeY rfl rfl ?_)
 refine zbn s rfl rfl rfl fun k4 h5 s => ?_
 refine au 2 rfl ?_
 exact zr (s.imp fun _ q => ⟨_, rfl, q⟩)
theorem zY.of {B : RO} {a1 : Option Addr} {n2 : Nat} {c3 : Nat} {i4 : Int} {v5 : Value} {h : Heap} {Q : Int → Bool → Heap → Prop} (s : y8 B a1 n2 c3 i4 v5 h Q) : zY B a1 n2 c3 i4 v5 h Q := by
 refine zspec Tryz.func114 [ResultVar.tmp 6, ResultVar.tmp 7] rfl rfl rfl rfl rfl ?_
 refine au 8 rfl ?_
 refine zg rfl (y9 a1 n2 c3 rfl WU ?_)
 refine au 8 rfl ?_
 refine Run.seqJ (fun e h10 => ∃ i9 : Int, Agree [(0, (.slice a1 n2 c3)), (1, (.int .i64 (i4))), (2, v5), (8, (.int .i64 ((n2 : Nat)))), (9, (.int .i64 (i9)))] e ∧ yu B a1 n2 c3 i4 v5 i9 h10 Q) ?_ fun j8 => ?_
 ·rintro e h10 ⟨i9, hag, s⟩
  refine Run.env hag ?_; clear hag
  refine au 5 rfl ?_
  refine zt s rfl rfl rfl zG zF (fun s => ?_) fun s => ?_
  ·refine au 4 rfl ?_
   obtain ⟨A11, e12, hi0, hi1, s⟩ := s
   refine zg rfl (zZ A11 n2 c3 .i64 (i9) (congrArg (fun a => Value.slice a n2 c3) e12) rfl y4 hi0 hi1 ?_)
   obtain ⟨i13, i14, hl, s⟩ := s
   refine zn hl rfl rfl zaT zaa rfl ?_
   refine au 1 rfl ?_
   refine zg rfl (Xd (v5) [(.agg #[(.int .i64 (i13)), (.int .i64 (i14))]), (.int .i64 (i4))] rfl rfl s (fun nx h' ha => ha.mono fun v h15 hv => ?_))
   obtain ⟨i16, rfl, s⟩ := hv
   refine au 5 rfl ?_
   exact zr (s.imp fun _ q => ⟨_, _, rfl, q⟩)
  ·refine au 13 rfl ?_
   exact zr (s.imp fun _ q => ⟨_, _, rfl, q⟩)
 refine au 1 rfl ?_
 obtain ⟨J23, m21, h0, s⟩ := s
 refine Run.of_fin (h0.imp fun h' h0 => ?_)
 refine Run.loop (σ := Int × Int × Nat) (fun x e h => J23 x.1 x.2.1 x.2.2 h ∧ Agree [(0, (.slice a1 n2 c3)), (1, (.int .i64 (i4))), (2, v5), (8, (.int .i64 ((n2 : Nat)))), (9, (.int .i64 (x.1))), (10, (.int .i64 (x.2.1)))] e) (fun x => x.2.2) ((0), ((n2 : Nat)), m21) ⟨h0, ⟨rfl, rfl, rfl, rfl, rfl, rfl, trivial⟩⟩ ?_; clear h0
 rintro ⟨i17, i18, m20⟩ e h19 ⟨hJ, hag⟩ ih22
 have s := s i17 i18 m20 h19 hJ; clear hJ
 refine Run.env hag ?_; clear hag
 refine au 5 rfl ?_
 refine zt s rfl rfl rfl zG zF (fun s => ?_) fun s => ?_
 ·refine au 9 rfl ?_
  refine zg rfl (vH .i64 .u64 (IntKind.wrap .i64 ((i17) + (i18))) rfl Zx Vm ?_)
  obtain ⟨hi0, s⟩ := s
  refine zg rfl (zhu .u64 .u64 (IntKind.wrap .u64 (IntKind.wrap .i64 ((i17) + (i18)))) (1) rfl rfl hi0 ?_)
  refine zg rfl (vH .u64 .i64 (Int.fdiv (IntKind.wrap .u64 (IntKind.wrap .i64 ((i17) + (i18)))) (2 ^ (min (Int.toNat (1)) (IntKind.bits .u64)))) rfl Vm Zx ?_)
  refine au 7 rfl ?_
  obtain ⟨A24, e25, hi0, hi1, s⟩ := s
  refine zg rfl (zZ A24 n2 c3 .i64 (IntKind.wrap .i64 (Int.fdiv (IntKind.wrap .u64 (IntKind.wrap .i64 ((i17) + (i18)))) (2 ^ (min (Int.toNat (1)) (IntKind.bits .u64))))) (congrArg (fun a => Value.slice a n2 c3) e25) rfl y4 hi0 hi1 ?_)
  obtain ⟨i26, i27, hl, s⟩ := s
  refine zn hl rfl rfl zaT zaa rfl ?_
  refine au 1 rfl ?_
  refine zg rfl (Xd (v5) [(.agg #[(.int .i64 (i26)), (.int .i64 (i27))]), (.int .i64 (i4))] rfl rfl s (fun nx h' ha => ha.mono fun v h28 hv => ?_))
  obtain ⟨i29, rfl, s⟩ := hv
  refine zt s rfl rfl rfl zG zF (fun s => ?_) fun s => ?_
  ·refine au 8 rfl ?_
   exact Run.of_fin (s.imp fun h' ⟨m', hm, s⟩ => ih22 ((IntKind.wrap .i64 ((IntKind.wrap .i64 (Int.fdiv (IntKind.wrap .u64 (IntKind.wrap .i64 ((i17) + (i18)))) (2 ^ (min (Int.toNat (1)) (IntKind.bits .u64))))) + (1))), (i18), m') _ _ ⟨s, ⟨rfl, rfl, rfl, rfl, rfl, rfl, trivial⟩⟩ hm)
  ·refine au 7 rfl ?_
   exact Run.of_fin (s.imp fun h' ⟨m', hm, s⟩ => ih22 ((i17), (IntKind.wrap .i64 (Int.fdiv (IntKind.wrap .u64 (IntKind.wrap .i64 ((i17) + (i18)))) (2 ^ (min (Int.toNat (1)) (IntKind.bits .u64))))), m') _ _ ⟨s, ⟨rfl, rfl, rfl, rfl, rfl, rfl, trivial⟩⟩ hm)
 ·refine au 3 rfl ?_
  exact Run.of_fin (s.imp fun h' s => j8 _ _ ⟨(i17), ⟨rfl, rfl, rfl, rfl, rfl, trivial⟩, s⟩)
theorem Xf.of {B : RO} {i1 : Int} {i2 : Int} {i3 : Int} {h : Heap} {Q : Int → Heap → Prop} (s : zaD B i1 i2 i3 h Q) : Xf B i1 i2 i3 h Q := by
 refine zspec Tryz.func115 [ResultVar.tmp 4] rfl rfl rfl rfl rfl ?_
 refine au 2 rfl ?_
 refine zbn s rfl rfl rfl fun k5 h6 s => ?_
 refine au 7 rfl ?_
 refine zl s rfl rfl zx fun i7 s => ?_
 refine au 1 rfl ?_
 refine zt s rfl rfl rfl zG zF (fun s => ?_) fun s => ?_
 ·refine au 7 rfl ?_
  exact zr (s.imp fun _ q => ⟨_, rfl, q⟩)
 ·refine au 6 rfl ?_
  refine zl s rfl rfl zx fun i8 s => ?_
  refine au 1 rfl ?_
  refine zt s rfl rfl rfl xk xj (fun s => ?_) fun s => ?_
  ·refine au 7 rfl ?_
   exact zr (s.imp fun _ q => ⟨_, rfl, q⟩)
  ·refine au 9 rfl ?_
   exact zr (s.imp fun _ q => ⟨_, rfl, q⟩)
theorem vP.of {B : RO} {p1 : Option Addr} {i2 : Int} {i3 : Int} {h : Heap} {Q : Int → Heap → Prop} (s : Vc B p1 i2 i3 h Q) : vP B p1 i2 i3 h Q := by
 refine zspec Tryz.func116 [ResultVar.tmp 6] rfl rfl rfl rfl rfl ?_
 refine au 2 rfl ?_
 refine zb1 s rfl rfl rfl rfl fun k5 h6 s => ?_
 refine zb1 s rfl rfl rfl rfl fun k7 h8 s => ?_
 refine au 5 rfl ?_
 refine znil s rfl rfl fun A9 s => ?_
 refine au 1 rfl ?_
 refine Run.ldSl s fun a11 n12 c13 h14 hl s => ?_
 refine zg rfl (zh A9 ((.slice a11 n12 c13)) rfl Vh hl ?_)
 refine au 1 rfl ?_
 refine zcall s rfl rfl zgD ?_
 rintro _ h15 ⟨i16, rfl, s⟩
 refine au 2 rfl ?_
 exact zr (s.imp fun _ q => ⟨_, rfl, q⟩)
theorem x7.of {B : RO} {v1 : Value} {A2 : Addr} {h : Heap} {Q : Heap → Prop} (s : Yf B v1 A2 h Q) : x7 B v1 A2 h Q := by
 refine zspec Tryz.func117 [] rfl rfl rfl rfl rfl ?_
 refine au 3 rfl ?_
 refine zl s rfl rfl Wi fun p3 s => ?_
 by_cases hb4 : p3 = none
 ·replace s := s.1 hb4
  refine zg rfl (zK p3 (.inl rfl) true rfl rfl Xh hb4 rfl ?_)
  refine au 2 rfl ?_
  exact zr (s.imp fun _ q => ⟨rfl, q⟩)
 ·replace s := s.2 hb4
  refine zg rfl (zJ p3 (.inl rfl) false rfl rfl Xh hb4 rfl ?_)
  refine au 5 rfl ?_
  refine zl s rfl rfl Wi fun p5 s => ?_
  refine znil s rfl rfl fun A6 s => ?_
  refine au 1 rfl ?_
  refine Run.ldSl s fun a8 n9 c10 h11 hl s => ?_
  refine zg rfl (zh A6 ((.slice a8 n9 c10)) rfl Wm hl ?_)
  refine zg rfl (y9 a8 n9 c10 rfl WV ?_)
  refine au 3 rfl ?_
  obtain ⟨J17, m15, h0, s⟩ := s
  refine Run.of_fin (h0.imp fun h' h0 => ?_)
  refine Run.loop (σ := Int × Nat) (fun x e h => J17 x.1 x.2 h ∧ Agree [(0, v1), (10, (.slice a8 n9 c10)), (11, (.int .i64 ((n9 : Nat)))), (12, (.int .i64 (x.1)))] e) (fun x => x.2) ((0), m15) ⟨h0, ⟨rfl, rfl, rfl, rfl, trivial⟩⟩ ?_; clear h0
  rintro ⟨i12, m14⟩ e h13 ⟨hJ, hag⟩ ih16
  have s := s i12 m14 h13 hJ; clear hJ
  refine Run.env hag ?_; clear hag
  refine au 2 rfl ?_
  refine zt s rfl rfl rfl zG zF (fun s => ?_) fun s => ?_
  ·refine au 8 rfl ?_
   obtain ⟨A18, e19, hi0, hi1, s⟩ := s
   refine zg rfl (zZ A18 n9 c10 .i64 (i12) (congrArg (fun a => Value.slice a n9 c10) e19) rfl y5 hi0 hi1 ?_)
   obtain ⟨i20, b21, s22, hl, s⟩ := s
   refine zn hl rfl rfl zaV zab rfl ?_
   refine zal s rfl zau rfl fun k23 h24 s => ?_
   refine zsn s rfl rfl rfl zab rfl fun h25 s => ?_
   refine au 5 rfl ?_
   refine zl s rfl rfl zx fun i26 s => ?_
   refine au 1 rfl ?_
   obtain ⟨b27, s28, hl, s⟩ := s
   refine zn hl rfl rfl zD zj rfl ?_
   refine zg rfl (Xd (v1) [(.int .i64 (i26)), (.agg #[(.bool b27), (.string s28)])] rfl rfl s (fun nx h' ha => ha.mono fun v h29 hv => ?_))
   obtain ⟨b30, rfl, s⟩ := hv
   cases b30
   ·replace s := s.2 rfl
    refine au 3 rfl ?_
    exact zr (s.imp fun _ q => ⟨rfl, q⟩)
   ·replace s := s.1 rfl
    refine au 9 rfl ?_
    exact Run.of_fin (s.imp fun h' ⟨m', hm, s⟩ => ih16 ((IntKind.wrap .i64 ((i12) + (1))), m') _ _ ⟨s, ⟨rfl, rfl, rfl, rfl, trivial⟩⟩ hm)
  ·refine au 4 rfl ?_
   exact zf (s.imp fun _ q => ⟨rfl, q⟩)
theorem Xt.of {B : RO} {b1 : Bool} {s2 : ByteArray} {h : Heap} {Q : Bool → Heap → Prop} (s : zci B b1 s2 h Q) : Xt B b1 s2 h Q := by
 refine zspec Tryz.func118 [ResultVar.tmp 2] rfl rfl rfl rfl rfl ?_
 refine au 2 rfl ?_
 refine zbn s rfl rfl rfl fun k4 h5 s => ?_
 refine au 5 rfl ?_
 refine zl s rfl rfl yV fun s6 s => ?_
 refine zg rfl (wD s6 rfl xi ?_)
 refine zt s rfl rfl rfl Vu Vt (fun s => ?_) fun s => ?_
 ·refine au 2 rfl ?_
  refine zl s rfl rfl VL fun b7 s => ?_
  cases b7
  ·replace s := s.2 rfl
   refine au 2 rfl ?_
   refine zl s rfl rfl yV fun s8 s => ?_
   refine zg rfl (zj2 s8 (ByteArray.mk #[]) rfl rfl ?_)
   refine au 4 rfl ?_
   exact zr (s.imp fun _ q => ⟨_, rfl, q⟩)
  ·replace s := s.1 rfl
   refine au 8 rfl ?_
   exact zr (s.imp fun _ q => ⟨_, rfl, q⟩)
 ·refine au 11 rfl ?_
  exact zr (s.imp fun _ q => ⟨_, rfl, q⟩)
theorem xA.of {B : RO} {p1 : Option Addr} {i2 : Int} {b3 : Bool} {s4 : ByteArray} {i5 : Int} {h : Heap} {Q : Bool → Heap → Prop} (s : YX B p1 i2 b3 s4 i5 h Q) : xA B p1 i2 b3 s4 i5 h Q := by
 refine zspec Tryz.func119 [ResultVar.tmp 8] rfl rfl rfl rfl rfl ?_
 refine au 2 rfl ?_
 refine zbn s rfl rfl rfl fun k7 h8 s => ?_
 refine au 7 rfl ?_
 refine zcall s rfl rfl zcn ?_
 rintro _ h9 ⟨b10, rfl, s⟩
 cases b10
 ·replace s := s.2 rfl
  refine au 7 rfl ?_
  exact zr (s.imp fun _ q => ⟨_, rfl, q⟩)
 ·replace s := s.1 rfl
  refine au 5 rfl ?_
  refine Run.drawM (fun h' => h' = h9) [9] ⟨[0, 1, 2, 4, 0, 0, 0, 96, 255, 511], [1023, 1022, 1021, 1019, 1023, 1023, 1023, 927, 999, 639], [0, 1, 3, 7, 0, 0, 0, 96, 255, 511], 512⟩ (.q 0 (.q 1 (.q 2 (.q 3 (.q 4 (.q 5 (.q 6 (.q 7 (.q 8 (.x 9 .nil .no)))))))))) zR (by kernel_rfl) rfl ?_
  refine auT 1 rfl ?_
  obtain ⟨A11, e12, s⟩ := s
  refine zqe rfl (zp A11 (congrArg Value.pointer e12) ⟨rfl, rfl⟩) ?_
  refine auT 1 rfl ?_
  obtain ⟨a13, n14, c15, hl, s⟩ := s
  refine zqe rfl (zh A11 ((.slice a13 n14 c15)) rfl Wn hl ⟨rfl, rfl⟩) ?_
  refine auT 1 rfl ?_
  obtain ⟨b16, s17, hl, s⟩ := s
  refine zqe rfl (z0 ⟨k7, 0, none⟩ [(.bool b16), (.string s17)] rfl zD zj hl ⟨rfl, rfl⟩) ?_
  refine auT 1 rfl ?_
  refine zqe rfl (zH [(0, (.agg #[(.bool b16), (.string s17)])), (1, (.int .i64 (i5)))] [(.bool b16), (.string s17), (.int .i64 (i5))] zav zbw rfl rfl ⟨rfl, rfl⟩) ?_
  obtain ⟨A18, e19, hi0, hi1, s⟩ := s
  refine zqe rfl (zZ A18 n14 c15 .i64 (i2) (congrArg (fun a => Value.slice a n14 c15) e19) rfl Vp hi0 hi1 ⟨rfl, rfl⟩) ?_
  obtain ⟨h20, hst, s⟩ := s
  refine ⟨zo0 rfl (y7 (Addr.add A18 (Int.toNat (i2) * 3)) [(.bool b16), (.string s17), (.int .i64 (i5))] h20 rfl rfl zjn hst ?_), trivial⟩
  refine ⟨fun hz => Bool.noConfusion hz, ?_⟩
  refine au 4 rfl ?_
  exact zr (s.imp fun _ q => ⟨_, rfl, q⟩)
theorem xM.of {B : RO} {p1 : Option Addr} {i2 : Int} {h : Heap} {Q : Bool → Heap → Prop} (s : Xm B p1 i2 h Q) : xM B p1 i2 h Q := by
 refine zspec Tryz.func120 [ResultVar.tmp 4] rfl rfl rfl rfl rfl ?_
 refine au 7 rfl ?_
 by_cases hb4 : p1 = none
 ·replace s := s.1 hb4
  refine zg rfl (zK p1 (.inr rfl) false rfl rfl zdl hb4 rfl ?_)
  refine au 15 rfl ?_
  exact zr (s.imp fun _ q => ⟨_, rfl, q⟩)
 ·replace s := s.2 hb4
  refine zg rfl (zJ p1 (.inr rfl) true rfl rfl zdl hb4 rfl ?_)
  refine au 2 rfl ?_
  refine zt s rfl rfl rfl yP yO (fun s => ?_) fun s => ?_
  ·refine au 4 rfl ?_
   refine znil s rfl rfl fun A5 s => ?_
   refine au 1 rfl ?_
   refine Run.ldSl s fun a7 n8 c9 h10 hl s => ?_
   refine zg rfl (zh A5 ((.slice a7 n8 c9)) rfl Wn hl ?_)
   refine zg rfl (y9 a7 n8 c9 rfl zje ?_)
   refine au 4 rfl ?_
   exact zr (s.imp fun _ q => ⟨_, rfl, q⟩)
  ·refine au 12 rfl ?_
   exact zr (s.imp fun _ q => ⟨_, rfl, q⟩)
theorem yL.of {B : RO} {p1 : Option Addr} {p2 : Option Addr} {i3 : Int} {h : Heap} {Q : Bool → ByteArray → Bool → Heap → Prop} (s : Ve B p1 p2 i3 h Q) : yL B p1 p2 i3 h Q := by
 refine zspec Tryz.func121 [ResultVar.cell 6 119, ResultVar.tmp 7] rfl rfl rfl rfl rfl ?_
 refine au 2 rfl ?_
 refine zal s rfl zL rfl fun k7 h8 s => ?_
 refine au 2 rfl ?_
 refine Run.seqJ (fun e h10 => Agree [(1, (.pointer p2)), (2, (.int .i64 (i3))), (6, (.pointer (some ⟨k7, 0, none⟩)))] e ∧ vZ B p2 i3 k7 h10 Q) ?_ fun j9 => ?_
 ·rintro e h10 ⟨hag, s⟩
  refine Run.env hag ?_; clear hag
  refine au 4 rfl ?_
  refine zcall s rfl rfl za3 ?_
  rintro _ h11 ⟨b12, s13, i14, rfl, s⟩
  refine au 3 rfl ?_
  refine zal s rfl zL rfl fun k15 h16 s => ?_
  refine zsn s rfl rfl rfl zj rfl fun h17 s => ?_
  refine au 4 rfl ?_
  obtain ⟨b18, s19, hl, s⟩ := s
  refine zn hl rfl rfl zD zj rfl ?_
  refine zsn s rfl rfl rfl zj rfl fun h20 s => ?_
  refine au 2 rfl ?_
  obtain ⟨b21, s22, hl0, s⟩ := s
  exact zr (⟨⟨k7, 0, none⟩, (.agg #[(.bool b21), (.string s22)]), rfl, yA zD zj hl0, s.imp fun _ q => ⟨_, _, _, rfl, q⟩⟩)
 refine au 3 rfl ?_
 by_cases hb23 : p1 = none
 ·replace s := s.1 hb23
  refine zg rfl (zK p1 (.inr rfl) false rfl rfl YC hb23 rfl ?_)
  refine au 3 rfl ?_
  exact Run.of_fin (s.imp fun h' s => j9 _ _ ⟨⟨rfl, rfl, rfl, trivial⟩, s⟩)
 ·replace s := s.2 hb23
  refine zg rfl (zJ p1 (.inr rfl) true rfl rfl YC hb23 rfl ?_)
  refine au 5 rfl ?_
  refine znil s rfl rfl fun A24 s => ?_
  refine au 1 rfl ?_
  refine zl s rfl rfl Wi fun p26 s => ?_
  refine au 1 rfl ?_
  refine zcall s rfl rfl zgF ?_
  rintro _ h27 ⟨b28, s29, b30, rfl, s⟩
  refine au 2 rfl ?_
  cases b30
  ·replace s := s.2 rfl
   refine au 1 rfl ?_
   refine zal s rfl zL rfl fun k31 h32 s => ?_
   refine zsn s rfl rfl rfl zj rfl fun h33 s => ?_
   refine au 8 rfl ?_
   exact Run.of_fin (s.imp fun h' s => j9 _ _ ⟨⟨rfl, rfl, rfl, trivial⟩, s⟩)
  ·replace s := s.1 rfl
   refine au 1 rfl ?_
   refine zal s rfl zL rfl fun k34 h35 s => ?_
   refine zsn s rfl rfl rfl zj rfl fun h36 s => ?_
   refine au 9 rfl ?_
   obtain ⟨b37, s38, hl, s⟩ := s
   refine zn hl rfl rfl zD zj rfl ?_
   refine zsn s rfl rfl rfl zj rfl fun h39 s => ?_
   refine au 2 rfl ?_
   obtain ⟨b40, s41, hl0, s⟩ := s
   exact zr (⟨⟨k7, 0, none⟩, (.agg #[(.bool b40), (.string s41)]), rfl, yA zD zj hl0, s.imp fun _ q => ⟨_, _, _, rfl, q⟩⟩)
theorem yM.of {B : RO} {p1 : Option Addr} {p2 : Option Addr} {i3 : Int} {b4 : Bool} {s5 : ByteArray} {h : Heap} {Q : Bool → Heap → Prop} (s : Xs B p1 p2 i3 b4 s5 h Q) : yM B p1 p2 i3 b4 s5 h Q := by
 refine zspec Tryz.func122 [ResultVar.tmp 8] rfl rfl rfl rfl rfl ?_
 refine au 2 rfl ?_
 refine zbn s rfl rfl rfl fun k7 h8 s => ?_
 refine au 2 rfl ?_
 refine Run.seqJ (fun e h10 => Agree [(0, (.pointer p1)), (1, (.pointer p2)), (2, (.int .i64 (i3))), (7, (.pointer (some ⟨k7, 0, none⟩)))] e ∧ YD B p1 p2 i3 k7 h10 Q) ?_ fun j9 => ?_
 ·rintro e h10 ⟨hag, s⟩
  refine Run.env hag ?_; clear hag
  refine au 6 rfl ?_
  refine zcall s rfl rfl Ya ?_
  rintro _ h11 ⟨b12, s13, b14, rfl, s⟩
  refine au 3 rfl ?_
  refine zal s rfl zL rfl fun k15 h16 s => ?_
  refine zsn s rfl rfl rfl zj rfl fun h17 s => ?_
  refine au 4 rfl ?_
  obtain ⟨b18, s19, hl, s⟩ := s
  refine zn hl rfl rfl zD zj rfl ?_
  obtain ⟨b20, s21, hl, s⟩ := s
  refine zn hl rfl rfl zD zj rfl ?_
  by_cases hb22 : eqL [(.bool b18), (.string s19)] [(.bool b20), (.string s21)] = true
  ·replace s := s.1 hb22
   refine zg rfl (X5 [(.bool b18), (.string s19)] [(.bool b20), (.string s21)] _ (true) (.inl rfl) rfl rfl zD zcm zc7 ⟨⟨_, rfl⟩, ⟨_, rfl⟩, trivial⟩ ⟨⟨_, rfl⟩, ⟨_, rfl⟩, trivial⟩ (zfL hb22) ?_)
   refine au 6 rfl ?_
   exact zr (s.imp fun _ q => ⟨_, rfl, q⟩)
  ·replace s := s.2 hb22
   refine zg rfl (X5 [(.bool b18), (.string s19)] [(.bool b20), (.string s21)] _ (false) (.inl rfl) rfl rfl zD zcm zc7 ⟨⟨_, rfl⟩, ⟨_, rfl⟩, trivial⟩ ⟨⟨_, rfl⟩, ⟨_, rfl⟩, trivial⟩ (zfK hb22) ?_)
   refine au 4 rfl ?_
   obtain ⟨A24, e25, s⟩ := s
   obtain ⟨p28, hl, s⟩ := s
   have f29 := hl
   obtain ⟨b31, s32, hl, s⟩ := s
   have f33 := hl
   refine Run.drawM (fun h' => cellH B h' A24 = some (.pointer p28) ∧ za B h' ⟨k7, 0, none⟩ 0 [(.bool b31), (.string s32)] ∧ True) [] ⟨[0, 1, 2, 4, 0, 0, 56, 127], [255, 254, 253, 251, 255, 255, 199, 191], [0, 0, 0, 0, 0, 0, 0, 0], 0⟩ (.q 0 (.q 1 (.q 2 (.q 3 (.q 4 (.q 5 (.x 6 (.q 7 .nil) .no))))))) zR (by kernel_rfl) ⟨f29, f33, trivial⟩ ?_
   refine auT 1 rfl ?_
   refine zq rfl (fun _ hC => zp A24 (congrArg Value.pointer e25) ⟨rfl, rfl⟩) ?_
   refine auT 1 rfl ?_
   refine zq rfl (fun _ hC => zh A24 ((.pointer p28)) rfl Wi hC.1 ⟨rfl, rfl⟩) ?_
   refine auT 1 rfl ?_
   refine zq rfl (fun _ hC => z0 ⟨k7, 0, none⟩ [(.bool b31), (.string s32)] rfl zD zj hC.2.1 ⟨rfl, rfl⟩) ?_
   refine ⟨zo rfl (zA [(.pointer p28), (.int .i64 (i3)), (.agg #[(.bool b31), (.string s32)])] (zgG) rfl rfl (Spec.mono s fun v h34 hv => ?_)), trivial⟩
   obtain ⟨b35, rfl, s⟩ := hv
   obtain ⟨g36, g37, s⟩ := s
   refine ⟨fun _ => ⟨g36, g37, trivial⟩, ?_⟩
   refine auT 1 rfl ?_
   exact zr (s.imp fun _ q => ⟨_, rfl, q⟩)
 refine au 3 rfl ?_
 by_cases hb38 : p1 = none
 ·replace s := s.1 hb38
  refine zg rfl (zK p1 (.inl rfl) true rfl rfl YC hb38 rfl ?_)
  refine au 14 rfl ?_
  exact zr (s.imp fun _ q => ⟨_, rfl, q⟩)
 ·replace s := s.2 hb38
  refine zg rfl (zJ p1 (.inl rfl) false rfl rfl YC hb38 rfl ?_)
  refine au 2 rfl ?_
  refine zt s rfl rfl rfl zG zF (fun s => ?_) fun s => ?_
  ·refine au 11 rfl ?_
   exact zr (s.imp fun _ q => ⟨_, rfl, q⟩)
  ·refine au 3 rfl ?_
   refine zt s rfl rfl rfl yP yO (fun s => ?_) fun s => ?_
   ·refine au 7 rfl ?_
    exact zr (s.imp fun _ q => ⟨_, rfl, q⟩)
   ·refine au 4 rfl ?_
    exact Run.of_fin (s.imp fun h' s => j9 _ _ ⟨⟨rfl, rfl, rfl, rfl, trivial⟩, s⟩)
theorem X9.of {B : RO} {b1 : Bool} {s2 : ByteArray} {i3 : Int} {i4 : Int} {h : Heap} {Q : Bool → ByteArray → Heap → Prop} (s : zc3 B b1 s2 i3 i4 h Q) : X9 B b1 s2 i3 i4 h Q := by
 refine zspec Tryz.func123 [ResultVar.cell 6 119] rfl rfl rfl rfl rfl ?_
 refine au 2 rfl ?_
 refine zbn s rfl rfl rfl fun k7 h8 s => ?_
 refine zal s rfl zL rfl fun k9 h10 s => ?_
 refine au 1 rfl ?_
 refine Run.seqJ (fun e h12 => Agree [(1, (.int .i64 (i3))), (2, (.int .u8 (i4))), (3, (.pointer (some ⟨k7, 0, none⟩))), (6, (.pointer (some ⟨k9, 0, none⟩)))] e ∧ W5 B i3 i4 k7 k9 h12 Q) ?_ fun j11 => ?_
 ·rintro e h12 ⟨hag, s⟩
  refine Run.env hag ?_; clear hag
  refine au 3 rfl ?_
  refine zl s rfl rfl yV fun s13 s => ?_
  refine zg rfl (zam ((.string s13)) rfl (zB (fun v h17 hv => ?_) s))
  obtain ⟨a14, n15, c16, rfl, s⟩ := hv
  refine au 2 rfl ?_
  refine Run.seqJ (fun e h22 => ∃ a19 : Option Addr, ∃ n20 : Nat, ∃ c21 : Nat, Agree [(1, (.int .i64 (i3))), (2, (.int .u8 (i4))), (6, (.pointer (some ⟨k9, 0, none⟩))), (7, (.slice a19 n20 c21))] e ∧ W6 B i3 i4 k9 a19 n20 c21 h22 Q) ?_ fun j18 => ?_
  ·rintro e h22 ⟨a19, n20, c21, hag, s⟩
   refine Run.env hag ?_; clear hag
   refine au 5 rfl ?_
   obtain ⟨A23, e24, hi0, hi1, s⟩ := s
   refine zg rfl (zZ A23 n20 c21 .i64 (i3) (congrArg (fun a => Value.slice a n20 c21) e24) rfl Vq hi0 hi1 ?_)
   refine zs1 s rfl rfl rfl rfl zle fun h25 s => ?_
   refine au 4 rfl ?_
   refine zg rfl (zam ((.slice a19 n20 c21)) rfl (zB (fun v h27 hv => ?_) s))
   obtain ⟨s26, rfl, s⟩ := hv
   refine zg rfl (zH [(0, (.bool true)), (1, (.string s26))] [(.bool true), (.string s26)] zL xS rfl rfl ?_)
   refine zsn s rfl rfl rfl zj rfl fun h28 s => ?_
   refine au 1 rfl ?_
   obtain ⟨b29, s30, hl0, s⟩ := s
   exact zr (⟨⟨k9, 0, none⟩, (.agg #[(.bool b29), (.string s30)]), rfl, yA zD zj hl0, s.imp fun _ q => ⟨_, _, rfl, q⟩⟩)
  refine au 1 rfl ?_
  obtain ⟨J38, m36, h0, s⟩ := s
  refine Run.of_fin (h0.imp fun h' h0 => ?_)
  refine Run.loop (σ := (Option Addr) × Nat × Nat × Nat) (fun x e h => J38 x.1 x.2.1 x.2.2.1 x.2.2.2 h ∧ Agree [(1, (.int .i64 (i3))), (2, (.int .u8 (i4))), (6, (.pointer (some ⟨k9, 0, none⟩))), (7, (.slice x.1 x.2.1 x.2.2.1))] e) (fun x => x.2.2.2) (a14, n15, c16, m36) ⟨h0, ⟨rfl, rfl, rfl, rfl, trivial⟩⟩ ?_; clear h0
  rintro ⟨a31, n32, c33, m35⟩ e h34 ⟨hJ, hag⟩ ih37
  have s := s a31 n32 c33 m35 h34 hJ; clear hJ
  refine Run.env hag ?_; clear hag
  refine au 4 rfl ?_
  refine zg rfl (y9 a31 n32 c33 rfl zjf ?_)
  refine au 1 rfl ?_
  refine zt s rfl rfl rfl Vu Vt (fun s => ?_) fun s => ?_
  ·refine au 6 rfl ?_
   refine zg rfl (yh [(0, (.int .u8 (0)))] [(.int .u8 (0))] Vq zbM rfl (by decide) (by decide) rfl rfl (fun k39 hb1 hb2 h40 hb3 => ?_))
   have s := s k39 hb1 hb2 h40 hb3
   refine zg rfl (zX [(.slice a31 n32 c33), (.slice (some ⟨k39, 0, none⟩) 1 1)] rfl (zB (fun v h41 hv => ?_) s))
   obtain ⟨a42, n43, c44, rfl, s⟩ := hv
   refine au 3 rfl ?_
   exact Run.of_fin (s.imp fun h' ⟨m', hm, s⟩ => ih37 (a42, n43, c44, m') _ _ ⟨s, ⟨rfl, rfl, rfl, rfl, trivial⟩⟩ hm)
  ·refine au 3 rfl ?_
   exact Run.of_fin (s.imp fun h' s => j18 _ _ ⟨a31, n32, c33, ⟨rfl, rfl, rfl, rfl, trivial⟩, s⟩)
 refine au 3 rfl ?_
 refine zt s rfl rfl rfl zG zF (fun s => ?_) fun s => ?_
 ·refine au 8 rfl ?_
  obtain ⟨b45, s46, hl, s⟩ := s
  refine zn hl rfl rfl zD zj rfl ?_
  refine zsn s rfl rfl rfl zj rfl fun h47 s => ?_
  refine au 1 rfl ?_
  obtain ⟨b48, s49, hl0, s⟩ := s
  exact zr (⟨⟨k9, 0, none⟩, (.agg #[(.bool b48), (.string s49)]), rfl, yA zD zj hl0, s.imp fun _ q => ⟨_, _, rfl, q⟩⟩)
 ·refine au 2 rfl ?_
  refine zt s rfl rfl rfl yP yO (fun s => ?_) fun s => ?_
  ·refine au 5 rfl ?_
   obtain ⟨b50, s51, hl, s⟩ := s
   refine zn hl rfl rfl zD zj rfl ?_
   refine zsn s rfl rfl rfl zj rfl fun h52 s => ?_
   refine au 1 rfl ?_
   obtain ⟨b53, s54, hl0, s⟩ := s
   exact zr (⟨⟨k9, 0, none⟩, (.agg #[(.bool b53), (.string s54)]), rfl, yA zD zj hl0, s.imp fun _ q => ⟨_, _, rfl, q⟩⟩)
  ·refine au 4 rfl ?_
   exact Run.of_fin (s.imp fun h' s => j11 _ _ ⟨⟨rfl, rfl, rfl, rfl, trivial⟩, s⟩)
theorem Xu.of {B : RO} {b1 : Bool} {s2 : ByteArray} {h : Heap} {Q : Bool → ByteArray → Heap → Prop} (s : zcj B b1 s2 h Q) : Xu B b1 s2 h Q := by
 refine zspec Tryz.func124 [ResultVar.cell 2 119] rfl rfl rfl rfl rfl ?_
 refine au 2 rfl ?_
 refine zbn s rfl rfl rfl fun k5 h6 s => ?_
 refine zal s rfl zL rfl fun k7 h8 s => ?_
 refine au 4 rfl ?_
 refine zl s rfl rfl yV fun s9 s => ?_
 refine zg rfl (zH [(0, (.bool true)), (1, (.string s9))] [(.bool true), (.string s9)] zL xS rfl rfl ?_)
 refine zsn s rfl rfl rfl zj rfl fun h10 s => ?_
 refine au 1 rfl ?_
 obtain ⟨b11, s12, hl0, s⟩ := s
 exact zr (⟨⟨k7, 0, none⟩, (.agg #[(.bool b11), (.string s12)]), rfl, yA zD zj hl0, s.imp fun _ q => ⟨_, _, rfl, q⟩⟩)
theorem X8.of {B : RO} {b1 : Bool} {s2 : ByteArray} {i3 : Int} {h : Heap} {Q : Bool → ByteArray → Heap → Prop} (s : zc2 B b1 s2 i3 h Q) : X8 B b1 s2 i3 h Q := by
 refine zspec Tryz.func125 [ResultVar.cell 4 119] rfl rfl rfl rfl rfl ?_
 refine au 2 rfl ?_
 refine zbn s rfl rfl rfl fun k6 h7 s => ?_
 refine zal s rfl zL rfl fun k8 h9 s => ?_
 refine au 1 rfl ?_
 refine Run.seqJ (fun e h11 => Agree [(1, (.int .i64 (i3))), (2, (.pointer (some ⟨k6, 0, none⟩))), (4, (.pointer (some ⟨k8, 0, none⟩)))] e ∧ W4 B i3 k6 k8 h11 Q) ?_ fun j10 => ?_
 ·rintro e h11 ⟨hag, s⟩
  refine Run.env hag ?_; clear hag
  refine au 5 rfl ?_
  refine zl s rfl rfl yV fun s12 s => ?_
  refine zg rfl (wD s12 rfl xi ?_)
  refine zt s rfl rfl rfl Vu Vt (fun s => ?_) fun s => ?_
  ·refine au 5 rfl ?_
   refine zl s rfl rfl yV fun s13 s => ?_
   refine au 1 rfl ?_
   obtain ⟨hi0, hi1, hi2, s⟩ := s
   refine zg rfl (zfe s13 (0) (i3) rfl xi rfl ⟨_, rfl⟩ hi0 hi1 hi2 ?_)
   refine zg rfl (zH [(0, (.bool true)), (1, (.string (ByteArray.extract s13 (Int.toNat (0)) (Int.toNat (i3)))))] [(.bool true), (.string (ByteArray.extract s13 (Int.toNat (0)) (Int.toNat (i3))))] zL xS rfl rfl ?_)
   refine zsn s rfl rfl rfl zj rfl fun h14 s => ?_
   refine au 1 rfl ?_
   obtain ⟨b15, s16, hl0, s⟩ := s
   exact zr (⟨⟨k8, 0, none⟩, (.agg #[(.bool b15), (.string s16)]), rfl, yA zD zj hl0, s.imp fun _ q => ⟨_, _, rfl, q⟩⟩)
  ·refine au 4 rfl ?_
   obtain ⟨s18, hl, s⟩ := s
   have f19 := hl
   obtain ⟨s22, hl, s⟩ := s
   have f23 := hl
   refine Run.drawM (fun h' => cellH B h' ⟨k6, 1, none⟩ = some (.string s18) ∧ cellH B h' ⟨k6, 1, none⟩ = some (.string s22) ∧ True) [10] ⟨[0, 1, 0, 0, 8, 16, 36, 64, 130, 256, 1023], [2047, 2046, 2047, 2047, 2039, 2031, 2011, 1983, 1917, 1791, 1535], [0, 1, 0, 0, 8, 24, 60, 124, 255, 511, 1023], 1024⟩ (.q 0 (.q 1 (.q 2 (.q 3 (.q 4 (.q 5 (.q 6 (.x 7 (.q 8 (.q 9 (.x 10 .nil .no))) .no)))))))) zR (by kernel_rfl) ⟨f19, f23, trivial⟩ ?_
   refine auT 1 rfl ?_
   refine zq rfl (fun _ hC => zh ⟨k6, 1, none⟩ ((.string s18)) rfl yV hC.1 ⟨rfl, rfl⟩) ?_
   refine auT 2 rfl ?_
   refine zq rfl (fun _ hC => zh ⟨k6, 1, none⟩ ((.string s22)) rfl yV hC.2.1 ⟨rfl, rfl⟩) ?_
   refine zq rfl (fun _ hC => wD s22 rfl xi ⟨rfl, rfl⟩) ?_
   refine auT 1 rfl ?_
   refine ⟨zo rfl (zA [(.string (ByteArray.mk #[0])), (.int .i64 (IntKind.wrap .i64 ((i3) - ((ByteArray.size s22 : Nat)))))] (zco) rfl rfl (Spec.mono s fun v h26 hv => ?_)), trivial⟩
   obtain ⟨s27, rfl, s⟩ := hv
   obtain ⟨g28, g29, s⟩ := s
   refine ⟨fun _ => ⟨g28, g29, trivial⟩, ?_⟩
   obtain ⟨hi0, s⟩ := s
   refine zq rfl (fun _ _ => Vz s18 s27 rfl rfl hi0 ⟨rfl, rfl⟩) ?_
   refine zq rfl (fun _ _ => zH [(0, (.bool true)), (1, (.string (s18 ++ s27)))] [(.bool true), (.string (s18 ++ s27))] zL xS rfl rfl ⟨rfl, rfl⟩) ?_
   obtain ⟨h30, hst, s⟩ := s
   refine ⟨zo0 rfl (y7 ⟨k8, 0, none⟩ [(.bool true), (.string (s18 ++ s27))] h30 rfl rfl zj hst ?_), trivial⟩
   refine ⟨fun hz => Bool.noConfusion hz, ?_⟩
   obtain ⟨b31, s32, hl0, s⟩ := s
   exact zr (⟨⟨k8, 0, none⟩, (.agg #[(.bool b31), (.string s32)]), rfl, yA zD zj hl0, s.imp fun _ q => ⟨_, _, rfl, q⟩⟩)
 refine au 3 rfl ?_
 refine zl s rfl rfl VL fun b33 s => ?_
 cases b33
 ·replace s := s.2 rfl
  refine au 13 rfl ?_
  obtain ⟨b34, s35, hl, s⟩ := s
  refine zn hl rfl rfl zD zj rfl ?_
  refine zsn s rfl rfl rfl zj rfl fun h36 s => ?_
  refine au 1 rfl ?_
  obtain ⟨b37, s38, hl0, s⟩ := s
  exact zr (⟨⟨k8, 0, none⟩, (.agg #[(.bool b37), (.string s38)]), rfl, yA zD zj hl0, s.imp fun _ q => ⟨_, _, rfl, q⟩⟩)
 ·replace s := s.1 rfl
  refine au 3 rfl ?_
  refine zt s rfl rfl rfl zG zF (fun s => ?_) fun s => ?_
  ·refine au 9 rfl ?_
   obtain ⟨b39, s40, hl, s⟩ := s
   refine zn hl rfl rfl zD zj rfl ?_
   refine zsn s rfl rfl rfl zj rfl fun h41 s => ?_
   refine au 1 rfl ?_
   obtain ⟨b42, s43, hl0, s⟩ := s
   exact zr (⟨⟨k8, 0, none⟩, (.agg #[(.bool b42), (.string s43)]), rfl, yA zD zj hl0, s.imp fun _ q => ⟨_, _, rfl, q⟩⟩)
  ·refine au 3 rfl ?_
   refine zt s rfl rfl rfl xk xj (fun s => ?_) fun s => ?_
   ·refine au 5 rfl ?_
    obtain ⟨b44, s45, hl, s⟩ := s
    refine zn hl rfl rfl zD zj rfl ?_
    refine zsn s rfl rfl rfl zj rfl fun h46 s => ?_
    refine au 1 rfl ?_
    obtain ⟨b47, s48, hl0, s⟩ := s
    exact zr (⟨⟨k8, 0, none⟩, (.agg #[(.bool b47), (.string s48)]), rfl, yA zD zj hl0, s.imp fun _ q => ⟨_, _, rfl, q⟩⟩)
   ·refine au 4 rfl ?_
    exact Run.of_fin (s.imp fun h' s => j10 _ _ ⟨⟨rfl, rfl, rfl, trivial⟩, s⟩)
theorem yN.of {B : RO} {a1 : Option Addr} {n2 : Nat} {c3 : Nat} {v4 : Value} {h : Heap} {Q : Int → Heap → Prop} (s : wz B a1 n2 c3 v4 h Q) : yN B a1 n2 c3 v4 h Q := by
 refine zspec Tryz.func132 [ResultVar.tmp 4] rfl rfl rfl rfl rfl ?_
 refine au 8 rfl ?_
 refine zg rfl (y9 a1 n2 c3 rfl zej ?_)
 refine au 3 rfl ?_
 obtain ⟨J11, m9, h0, s⟩ := s
 refine Run.of_fin (h0.imp fun h' h0 => ?_)
 refine Run.loop (σ := Int × Nat) (fun x e h => J11 x.1 x.2 h ∧ Agree [(0, (.slice a1 n2 c3)), (1, v4), (7, (.int .i64 ((n2 : Nat)))), (8, (.int .i64 (x.1)))] e) (fun x => x.2) ((0), m9) ⟨h0, ⟨rfl, rfl, rfl, rfl, trivial⟩⟩ ?_; clear h0
 rintro ⟨i6, m8⟩ e h7 ⟨hJ, hag⟩ ih10
 have s := s i6 m8 h7 hJ; clear hJ
 refine Run.env hag ?_; clear hag
 refine au 2 rfl ?_
 refine zt s rfl rfl rfl zG zF (fun s => ?_) fun s => ?_
 ·refine au 16 rfl ?_
  obtain ⟨A12, e13, hi0, hi1, s⟩ := s
  refine zg rfl (zZ A12 n2 c3 .i64 (i6) (congrArg (fun a => Value.slice a n2 c3) e13) rfl Vn hi0 hi1 ?_)
  obtain ⟨i14, i15, i16, hl, s⟩ := s
  refine zn hl rfl rfl zc5 zbL rfl ?_
  refine zg rfl (Xd (v4) [(.agg #[(.int .i64 (i14)), (.int .i64 (i15)), (.int .i64 (i16))])] rfl rfl s (fun nx h' ha => ha.mono fun v h17 hv => ?_))
  obtain ⟨b18, rfl, s⟩ := hv
  cases b18
  ·replace s := s.2 rfl
   refine au 8 rfl ?_
   exact Run.of_fin (s.imp fun h' ⟨m', hm, s⟩ => ih10 ((IntKind.wrap .i64 ((i6) + (1))), m') _ _ ⟨s, ⟨rfl, rfl, rfl, rfl, trivial⟩⟩ hm)
  ·replace s := s.1 rfl
   refine au 7 rfl ?_
   exact zr (s.imp fun _ q => ⟨_, rfl, q⟩)
 ·refine au 8 rfl ?_
  exact zr (s.imp fun _ q => ⟨_, rfl, q⟩)
theorem ZD.of {B : RO} {i1 : Int} {i2 : Int} {i3 : Int} {A4 : Addr} {A5 : Addr} {h : Heap} {Q : Bool → Heap → Prop} (s : Wy B i1 i2 i3 A4 A5 h Q) : ZD B i1 i2 i3 A4 A5 h Q := by
 refine zspec Tryz.func133 [ResultVar.tmp 4] rfl rfl rfl rfl rfl ?_
 refine au 2 rfl ?_
 refine zbn s rfl rfl rfl fun k7 h8 s => ?_
 refine au 5 rfl ?_
 refine zl s rfl rfl zaS fun i9 s => ?_
 refine zl s rfl rfl zaS fun i10 s => ?_
 refine zt s rfl rfl rfl zU zT (fun s => ?_) fun s => ?_
 ·refine au 2 rfl ?_
  refine zl s rfl rfl zx fun i11 s => ?_
  refine zl s rfl rfl zx fun i12 s => ?_
  refine au 4 rfl ?_
  exact zr (s.imp fun _ q => ⟨_, rfl, q⟩)
 ·refine au 8 rfl ?_
  exact zr (s.imp fun _ q => ⟨_, rfl, q⟩)
theorem xH.of {B : RO} {p1 : Option Addr} {i2 : Int} {h : Heap} {Q : Bool → ByteArray → Bool → Heap → Prop} (s : Yw B p1 i2 h Q) : xH B p1 i2 h Q := by
 refine zspec Tryz.func134 [ResultVar.cell 4 119, ResultVar.tmp 5] rfl rfl rfl rfl rfl ?_
 refine au 2 rfl ?_
 refine zal s rfl zL rfl fun k6 h7 s => ?_
 refine au 4 rfl ?_
 refine zal s rfl zL rfl fun k8 h9 s => ?_
 refine au 5 rfl ?_
 by_cases hb10 : p1 = none
 ·replace s := s.1 hb10
  refine zg rfl (zK p1 (.inl rfl) true rfl rfl Xh hb10 rfl ?_)
  refine au 4 rfl ?_
  obtain ⟨b11, s12, hl, s⟩ := s
  refine zn hl rfl rfl zD zj rfl ?_
  refine zsn s rfl rfl rfl zj rfl fun h13 s => ?_
  refine au 2 rfl ?_
  obtain ⟨b14, s15, hl0, s⟩ := s
  exact zr (⟨⟨k6, 0, none⟩, (.agg #[(.bool b14), (.string s15)]), rfl, yA zD zj hl0, s.imp fun _ q => ⟨_, _, _, rfl, q⟩⟩)
 ·replace s := s.2 hb10
  refine zg rfl (zJ p1 (.inl rfl) false rfl rfl Xh hb10 rfl ?_)
  refine au 7 rfl ?_
  refine zcall s rfl rfl zcp ?_
  rintro _ h16 ⟨i17, b18, rfl, s⟩
  refine au 2 rfl ?_
  cases b18
  ·replace s := s.2 rfl
   refine au 1 rfl ?_
   refine au 12 rfl ?_
   obtain ⟨b19, s20, hl, s⟩ := s
   refine zn hl rfl rfl zD zj rfl ?_
   refine zsn s rfl rfl rfl zj rfl fun h21 s => ?_
   refine au 2 rfl ?_
   obtain ⟨b22, s23, hl0, s⟩ := s
   exact zr (⟨⟨k6, 0, none⟩, (.agg #[(.bool b22), (.string s23)]), rfl, yA zD zj hl0, s.imp fun _ q => ⟨_, _, _, rfl, q⟩⟩)
  ·replace s := s.1 rfl
   refine au 1 rfl ?_
   refine au 14 rfl ?_
   refine znil s rfl rfl fun A24 s => ?_
   refine au 1 rfl ?_
   refine Run.ldSl s fun a26 n27 c28 h29 hl s => ?_
   refine zg rfl (zh A24 ((.slice a26 n27 c28)) rfl Wm hl ?_)
   refine au 1 rfl ?_
   obtain ⟨A30, e31, hi0, hi1, s⟩ := s
   refine zg rfl (zZ A30 n27 c28 .i64 (i17) (congrArg (fun a => Value.slice a n27 c28) e31) rfl y5 hi0 hi1 ?_)
   refine au 1 rfl ?_
   obtain ⟨b32, s33, hl, s⟩ := s
   refine zn hl rfl rfl zD zj rfl ?_
   refine zsn s rfl rfl rfl zj rfl fun h34 s => ?_
   refine au 2 rfl ?_
   obtain ⟨b35, s36, hl0, s⟩ := s
   exact zr (⟨⟨k6, 0, none⟩, (.agg #[(.bool b35), (.string s36)]), rfl, yA zD zj hl0, s.imp fun _ q => ⟨_, _, _, rfl, q⟩⟩)
theorem xI.of {B : RO} {p1 : Option Addr} {i2 : Int} {b3 : Bool} {s4 : ByteArray} {h : Heap} {Q : Bool → Heap → Prop} (s : Yx B p1 i2 b3 s4 h Q) : xI B p1 i2 b3 s4 h Q := by
 refine zspec Tryz.func135 [ResultVar.tmp 6] rfl rfl rfl rfl rfl ?_
 refine au 2 rfl ?_
 refine zbn s rfl rfl rfl fun k6 h7 s => ?_
 refine au 6 rfl ?_
 by_cases hb8 : p1 = none
 ·replace s := s.1 hb8
  refine zg rfl (zK p1 (.inl rfl) true rfl rfl Xh hb8 rfl ?_)
  refine au 6 rfl ?_
  exact zr (s.imp fun _ q => ⟨_, rfl, q⟩)
 ·replace s := s.2 hb8
  refine zg rfl (zJ p1 (.inl rfl) false rfl rfl Xh hb8 rfl ?_)
  refine au 7 rfl ?_
  refine zcall s rfl rfl zcp ?_
  rintro _ h9 ⟨i10, b11, rfl, s⟩
  refine au 2 rfl ?_
  cases b11
  ·replace s := s.2 rfl
   refine au 1 rfl ?_
   refine au 9 rfl ?_
   obtain ⟨A14, e15, s⟩ := s
   obtain ⟨a18, n19, c20, hl, s⟩ := s
   have f21 := hl
   obtain ⟨b24, s25, hl, s⟩ := s
   have f26 := hl
   refine Run.drawM (fun h' => cellH B h' A14 = some (.slice a18 n19 c20) ∧ za B h' ⟨k6, 0, none⟩ 0 [(.bool b24), (.string s25)] ∧ True) [13] ⟨[0, 0, 2, 4, 8, 0, 0, 0, 192, 256, 560, 2047, 4095, 6143], [16383, 16383, 16381, 16379, 16375, 16383, 16383, 16383, 16191, 16127, 15823, 16382, 14335, 11263], [0, 0, 2, 6, 14, 0, 0, 0, 192, 448, 1022, 2047, 4095, 8191], 8192⟩ (.q 0 (.q 1 (.q 2 (.q 3 (.q 4 (.q 5 (.q 6 (.q 7 (.q 8 (.x 9 (.x 10 (.q 11 (.q 12 (.x 13 .nil .no))) .no) .no)))))))))) zR (by kernel_rfl) ⟨f21, f26, trivial⟩ ?_
   refine auT 2 rfl ?_
   refine zq rfl (fun _ hC => zp A14 (congrArg Value.pointer e15) ⟨rfl, rfl⟩) ?_
   refine auT 1 rfl ?_
   refine zq rfl (fun _ hC => zh A14 ((.slice a18 n19 c20)) rfl Wm hC.1 ⟨rfl, rfl⟩) ?_
   refine auT 2 rfl ?_
   refine zq rfl (fun _ hC => z0 ⟨k6, 0, none⟩ [(.bool b24), (.string s25)] rfl zD zj hC.2.1 ⟨rfl, rfl⟩) ?_
   refine zq rfl (fun _ hC => zH [(0, (.int .i64 (i2))), (1, (.agg #[(.bool b24), (.string s25)]))] [(.int .i64 (i2)), (.bool b24), (.string s25)] zau ze0 rfl rfl ⟨rfl, rfl⟩) ?_
   refine ⟨zo rfl (yh [(0, (.agg #[(.int .i64 (i2)), (.bool b24), (.string s25)]))] [(.int .i64 (i2)), (.bool b24), (.string s25)] y5 zau rfl (by decide) (by decide) rfl rfl (fun k28 hb1 hb2 h29 hb3 => ?_)), trivial⟩
   have s := s k28 hb1 hb2 h29 hb3
   obtain ⟨g30, g31, s⟩ := s
   refine ⟨fun _ => ⟨g30, g31, trivial⟩, ?_⟩
   refine ⟨zo rfl (zA [(.slice a18 n19 c20), (.int .i64 (i10)), (.slice (some ⟨k28, 0, none⟩) 1 1)] (zgH) rfl rfl (Spec.mono s fun v h32 hv => ?_)), trivial⟩
   obtain ⟨a33, n34, c35, rfl, s⟩ := hv
   obtain ⟨g36, g37, s⟩ := s
   refine ⟨fun _ => ⟨g36, g37, trivial⟩, ?_⟩
   obtain ⟨A38, e39, s⟩ := s
   refine zq rfl (fun _ _ => zp A38 (congrArg Value.pointer e39) ⟨rfl, rfl⟩) ?_
   refine auT 1 rfl ?_
   obtain ⟨h40, hst, s⟩ := s
   refine ⟨zo0 rfl (v8 A38 ((.slice a33 n34 c35)) h40 rfl rfl rfl zjm hst ?_), trivial⟩
   refine ⟨fun hz => Bool.noConfusion hz, ?_⟩
   refine au 4 rfl ?_
   exact zr (s.imp fun _ q => ⟨_, rfl, q⟩)
  ·replace s := s.1 rfl
   refine au 1 rfl ?_
   refine au 9 rfl ?_
   refine Run.drawM (fun h' => h' = h9) [8] ⟨[0, 1, 2, 4, 0, 0, 63, 127, 191], [511, 510, 509, 507, 511, 511, 487, 447, 351], [0, 1, 3, 7, 0, 0, 63, 127, 255], 256⟩ (.q 0 (.q 1 (.q 2 (.q 3 (.q 4 (.q 5 (.q 6 (.q 7 (.x 8 .nil .no))))))))) zR (by kernel_rfl) rfl ?_
   refine auT 1 rfl ?_
   obtain ⟨A41, e42, s⟩ := s
   refine zqe rfl (zp A41 (congrArg Value.pointer e42) ⟨rfl, rfl⟩) ?_
   refine auT 1 rfl ?_
   obtain ⟨a43, n44, c45, hl, s⟩ := s
   refine zqe rfl (zh A41 ((.slice a43 n44 c45)) rfl Wm hl ⟨rfl, rfl⟩) ?_
   refine auT 1 rfl ?_
   obtain ⟨b46, s47, hl, s⟩ := s
   refine zqe rfl (z0 ⟨k6, 0, none⟩ [(.bool b46), (.string s47)] rfl zD zj hl ⟨rfl, rfl⟩) ?_
   obtain ⟨A48, e49, hi0, hi1, s⟩ := s
   refine zqe rfl (zZ A48 n44 c45 .i64 (i10) (congrArg (fun a => Value.slice a n44 c45) e49) rfl y5 hi0 hi1 ⟨rfl, rfl⟩) ?_
   refine auT 1 rfl ?_
   obtain ⟨h50, hst, s⟩ := s
   refine ⟨zo0 rfl (y7 (Addr.add (Addr.add A48 (Int.toNat (i10) * 3)) 1) [(.bool b46), (.string s47)] h50 rfl rfl zj hst ?_), trivial⟩
   refine ⟨fun hz => Bool.noConfusion hz, ?_⟩
   refine au 4 rfl ?_
   exact zr (s.imp fun _ q => ⟨_, rfl, q⟩)
theorem yZ.of {B : RO} {p1 : Option Addr} {i2 : Int} {h : Heap} {Q : Int → Bool → Heap → Prop} (s : Yq B p1 i2 h Q) : yZ B p1 i2 h Q := by
 refine zspec Tryz.func141 [ResultVar.tmp 4, ResultVar.tmp 5] rfl rfl rfl rfl rfl ?_
 refine au 8 rfl ?_
 refine znil s rfl rfl fun A5 s => ?_
 refine au 1 rfl ?_
 refine Run.ldSl s fun a7 n8 c9 h10 hl s => ?_
 refine zg rfl (zh A5 ((.slice a7 n8 c9)) rfl Wm hl ?_)
 refine au 1 rfl ?_
 refine zcall s rfl rfl zgI ?_
 rintro _ h11 ⟨i12, b13, rfl, s⟩
 refine au 5 rfl ?_
 exact zr (s.imp fun _ q => ⟨_, _, rfl, q⟩)
theorem yg.of {B : RO} {a1 : Option Addr} {n2 : Nat} {c3 : Nat} {i4 : Int} {a5 : Option Addr} {n6 : Nat} {c7 : Nat} {h : Heap} {Q : Option Addr → Nat → Nat → Heap → Prop} (s : yD B a1 n2 c3 i4 a5 n6 c7 h Q) : yg B a1 n2 c3 i4 a5 n6 c7 h Q := by
 refine zspec Tryz.func142 [ResultVar.tmp 6] rfl rfl rfl rfl rfl ?_
 refine au 8 rfl ?_
 obtain ⟨hi0, hi1, hi2, s⟩ := s
 refine zg rfl (yi a1 n2 c3 (i4) ((n2 : Nat)) rfl y5 ⟨_, rfl⟩ rfl hi0 hi1 hi2 ?_)
 refine au 4 rfl ?_
 refine zg rfl (y9 a5 n6 c7 rfl WV ?_)
 refine au 6 rfl ?_
 refine zt s rfl rfl rfl zU zT (fun s => ?_) fun s => ?_
 ·refine au 7 rfl ?_
  exact zr (s.imp fun _ q => ⟨_, _, _, rfl, q⟩)
 ·refine au 6 rfl ?_
  refine zg rfl (y9 a1 n2 c3 rfl WV ?_)
  refine au 7 rfl ?_
  refine zt s rfl rfl rfl zU zT (fun s => ?_) fun s => ?_
  ·refine au 6 rfl ?_
   refine zg rfl (zX [(.slice a1 n2 c3), (.slice a5 n6 c7)] rfl (zB (fun v h11 hv => ?_) s))
   obtain ⟨a12, n13, c14, rfl, s⟩ := hv
   refine au 2 rfl ?_
   exact zr (s.imp fun _ q => ⟨_, _, _, rfl, q⟩)
  ·refine au 10 rfl ?_
   refine zg rfl (zeF a1 (n2) (c3) rfl WV ?_)
   refine zt s rfl rfl rfl xk xj (fun s => ?_) fun s => ?_
   ·refine au 6 rfl ?_
    obtain ⟨hi0, hi1, hi2, s⟩ := s
    refine zg rfl (yi a1 n2 c3 (0) (i4) rfl y5 rfl ⟨_, rfl⟩ hi0 hi1 hi2 ?_)
    refine au 5 rfl ?_
    refine zg rfl (zX [(.slice (if c3 = Int.toNat (0) then a1 else Option.map (·.add (Int.toNat (0) * 3)) a1) (Int.toNat (i4) - Int.toNat (0)) (c3 - Int.toNat (0))), (.int .i64 (IntKind.wrap .i64 ((IntKind.wrap .i64 (((n2 : Nat)) + ((n6 : Nat)))) - (i4))))] rfl (zB (fun v h15 hv => ?_) s))
    obtain ⟨a16, n17, c18, rfl, s⟩ := hv
    refine au 6 rfl ?_
    obtain ⟨hi0, hi1, hi2, s⟩ := s
    refine zg rfl (yi a16 n17 c18 (i4) ((n17 : Nat)) rfl y5 ⟨_, rfl⟩ rfl hi0 hi1 hi2 ?_)
    refine au 1 rfl ?_
    refine zg rfl (Zi [(.slice (if c18 = Int.toNat (i4) then a16 else Option.map (·.add (Int.toNat (i4) * 3)) a16) (Int.toNat ((n17 : Nat)) - Int.toNat (i4)) (c18 - Int.toNat (i4))), (.slice a5 n6 c7)] rfl (zB (fun v h19 hv => ?_) s))
    obtain ⟨i20, rfl, s⟩ := hv
    refine au 2 rfl ?_
    refine Run.drawM (fun h' => h' = h19) [8] ⟨[0, 0, 0, 6, 9, 0, 0, 96, 144], [511, 511, 511, 505, 502, 511, 511, 415, 367], [0, 0, 0, 6, 15, 0, 0, 96, 255], 256⟩ (.q 0 (.q 1 (.q 2 (.q 3 (.q 4 (.q 5 (.q 6 (.q 7 (.x 8 .nil .no))))))))) zR (by kernel_rfl) rfl ?_
    refine auT 4 rfl ?_
    obtain ⟨hi0, hi1, hi2, s⟩ := s
    refine zqe rfl (yi a16 n17 c18 (IntKind.wrap .i64 ((i4) + ((n6 : Nat)))) ((n17 : Nat)) rfl y5 ⟨_, rfl⟩ rfl hi0 hi1 hi2 ⟨rfl, rfl⟩) ?_
    refine auT 2 rfl ?_
    obtain ⟨hi0, hi1, hi2, s⟩ := s
    refine zqe rfl (yi a1 n2 c3 (i4) ((n2 : Nat)) rfl y5 ⟨_, rfl⟩ rfl hi0 hi1 hi2 ⟨rfl, rfl⟩) ?_
    refine ⟨zo rfl (Zi [(.slice (if c18 = Int.toNat (IntKind.wrap .i64 ((i4) + ((n6 : Nat)))) then a16 else Option.map (·.add (Int.toNat (IntKind.wrap .i64 ((i4) + ((n6 : Nat)))) * 3)) a16) (Int.toNat ((n17 : Nat)) - Int.toNat (IntKind.wrap .i64 ((i4) + ((n6 : Nat))))) (c18 - Int.toNat (IntKind.wrap .i64 ((i4) + ((n6 : Nat)))))), (.slice (if c3 = Int.toNat (i4) then a1 else Option.map (·.add (Int.toNat (i4) * 3)) a1) (Int.toNat ((n2 : Nat)) - Int.toNat (i4)) (c3 - Int.toNat (i4)))] rfl (zB (fun v h21 hv => ?_) s)), trivial⟩
    obtain ⟨i22, rfl, s⟩ := hv
    refine ⟨fun hz => Bool.noConfusion hz, ?_⟩
    refine au 5 rfl ?_
    exact zr (s.imp fun _ q => ⟨_, _, _, rfl, q⟩)
   ·refine au 9 rfl ?_
    obtain ⟨hi0, hi1, hi2, s⟩ := s
    refine zg rfl (yi a1 n2 c3 (0) (IntKind.wrap .i64 (((n2 : Nat)) + ((n6 : Nat)))) rfl y5 rfl ⟨_, rfl⟩ hi0 hi1 hi2 ?_)
    refine au 10 rfl ?_
    obtain ⟨hi0, hi1, hi2, s⟩ := s
    refine zg rfl (yi (if c3 = Int.toNat (0) then a1 else Option.map (·.add (Int.toNat (0) * 3)) a1) (Int.toNat (IntKind.wrap .i64 (((n2 : Nat)) + ((n6 : Nat)))) - Int.toNat (0)) (c3 - Int.toNat (0)) (IntKind.wrap .i64 ((i4) + ((n6 : Nat)))) (((Int.toNat (IntKind.wrap .i64 (((n2 : Nat)) + ((n6 : Nat)))) - Int.toNat (0)) : Nat)) rfl y5 ⟨_, rfl⟩ rfl hi0 hi1 hi2 ?_)
    refine zg rfl (zdI [(.slice a5 n6 c7), (.slice (if (c3 - Int.toNat (0)) = Int.toNat (IntKind.wrap .i64 ((i4) + ((n6 : Nat)))) then (if c3 = Int.toNat (0) then a1 else Option.map (·.add (Int.toNat (0) * 3)) a1) else Option.map (·.add (Int.toNat (IntKind.wrap .i64 ((i4) + ((n6 : Nat)))) * 3)) (if c3 = Int.toNat (0) then a1 else Option.map (·.add (Int.toNat (0) * 3)) a1)) (Int.toNat (((Int.toNat (IntKind.wrap .i64 (((n2 : Nat)) + ((n6 : Nat)))) - Int.toNat (0)) : Nat)) - Int.toNat (IntKind.wrap .i64 ((i4) + ((n6 : Nat))))) ((c3 - Int.toNat (0)) - Int.toNat (IntKind.wrap .i64 ((i4) + ((n6 : Nat))))))] (zfl) rfl rfl (zB (fun v h23 hv => ?_) s))
    obtain ⟨b24, rfl, s⟩ := hv
    cases b24
    ·replace s := s.2 rfl
     refine au 4 rfl ?_
     refine Run.drawM (fun h' => h' = h23) [8] ⟨[0, 0, 0, 6, 9, 0, 0, 96, 144], [511, 511, 511, 505, 502, 511, 511, 415, 367], [0, 0, 0, 6, 15, 0, 0, 96, 255], 256⟩ (.q 0 (.q 1 (.q 2 (.q 3 (.q 4 (.q 5 (.q 6 (.q 7 (.x 8 .nil .no))))))))) zR (by kernel_rfl) rfl ?_
     refine auT 4 rfl ?_
     obtain ⟨hi0, hi1, hi2, s⟩ := s
     refine zqe rfl (yi (if c3 = Int.toNat (0) then a1 else Option.map (·.add (Int.toNat (0) * 3)) a1) (Int.toNat (IntKind.wrap .i64 (((n2 : Nat)) + ((n6 : Nat)))) - Int.toNat (0)) (c3 - Int.toNat (0)) (IntKind.wrap .i64 ((i4) + ((n6 : Nat)))) (((Int.toNat (IntKind.wrap .i64 (((n2 : Nat)) + ((n6 : Nat)))) - Int.toNat (0)) : Nat)) rfl y5 ⟨_, rfl⟩ rfl hi0 hi1 hi2 ⟨rfl, rfl⟩) ?_
     refine auT 2 rfl ?_
     obtain ⟨hi0, hi1, hi2, s⟩ := s
     refine zqe rfl (yi (if c3 = Int.toNat (0) then a1 else Option.map (·.add (Int.toNat (0) * 3)) a1) (Int.toNat (IntKind.wrap .i64 (((n2 : Nat)) + ((n6 : Nat)))) - Int.toNat (0)) (c3 - Int.toNat (0)) (i4) (((Int.toNat (IntKind.wrap .i64 (((n2 : Nat)) + ((n6 : Nat)))) - Int.toNat (0)) : Nat)) rfl y5 ⟨_, rfl⟩ rfl hi0 hi1 hi2 ⟨rfl, rfl⟩) ?_
     refine ⟨zo rfl (Zi [(.slice (if (c3 - Int.toNat (0)) = Int.toNat (IntKind.wrap .i64 ((i4) + ((n6 : Nat)))) then (if c3 = Int.toNat (0) then a1 else Option.map (·.add (Int.toNat (0) * 3)) a1) else Option.map (·.add (Int.toNat (IntKind.wrap .i64 ((i4) + ((n6 : Nat)))) * 3)) (if c3 = Int.toNat (0) then a1 else Option.map (·.add (Int.toNat (0) * 3)) a1)) (Int.toNat (((Int.toNat (IntKind.wrap .i64 (((n2 : Nat)) + ((n6 : Nat)))) - Int.toNat (0)) : Nat)) - Int.toNat (IntKind.wrap .i64 ((i4) + ((n6 : Nat))))) ((c3 - Int.toNat (0)) - Int.toNat (IntKind.wrap .i64 ((i4) + ((n6 : Nat)))))), (.slice (if (c3 - Int.toNat (0)) = Int.toNat (i4) then (if c3 = Int.toNat (0) then a1 else Option.map (·.add (Int.toNat (0) * 3)) a1) else Option.map (·.add (Int.toNat (i4) * 3)) (if c3 = Int.toNat (0) then a1 else Option.map (·.add (Int.toNat (0) * 3)) a1)) (Int.toNat (((Int.toNat (IntKind.wrap .i64 (((n2 : Nat)) + ((n6 : Nat)))) - Int.toNat (0)) : Nat)) - Int.toNat (i4)) ((c3 - Int.toNat (0)) - Int.toNat (i4)))] rfl (zB (fun v h25 hv => ?_) s)), trivial⟩
     obtain ⟨i26, rfl, s⟩ := hv
     refine ⟨fun hz => Bool.noConfusion hz, ?_⟩
     refine au 4 rfl ?_
     obtain ⟨hi0, hi1, hi2, s⟩ := s
     refine zg rfl (yi (if c3 = Int.toNat (0) then a1 else Option.map (·.add (Int.toNat (0) * 3)) a1) (Int.toNat (IntKind.wrap .i64 (((n2 : Nat)) + ((n6 : Nat)))) - Int.toNat (0)) (c3 - Int.toNat (0)) (i4) (((Int.toNat (IntKind.wrap .i64 (((n2 : Nat)) + ((n6 : Nat)))) - Int.toNat (0)) : Nat)) rfl y5 ⟨_, rfl⟩ rfl hi0 hi1 hi2 ?_)
     refine au 1 rfl ?_
     refine zg rfl (Zi [(.slice (if (c3 - Int.toNat (0)) = Int.toNat (i4) then (if c3 = Int.toNat (0) then a1 else Option.map (·.add (Int.toNat (0) * 3)) a1) else Option.map (·.add (Int.toNat (i4) * 3)) (if c3 = Int.toNat (0) then a1 else Option.map (·.add (Int.toNat (0) * 3)) a1)) (Int.toNat (((Int.toNat (IntKind.wrap .i64 (((n2 : Nat)) + ((n6 : Nat)))) - Int.toNat (0)) : Nat)) - Int.toNat (i4)) ((c3 - Int.toNat (0)) - Int.toNat (i4))), (.slice a5 n6 c7)] rfl (zB (fun v h27 hv => ?_) s))
     obtain ⟨i28, rfl, s⟩ := hv
     refine au 6 rfl ?_
     exact zr (s.imp fun _ q => ⟨_, _, _, rfl, q⟩)
    ·replace s := s.1 rfl
     refine au 8 rfl ?_
     obtain ⟨hi0, hi1, hi2, s⟩ := s
     refine zg rfl (yi (if c3 = Int.toNat (0) then a1 else Option.map (·.add (Int.toNat (0) * 3)) a1) (Int.toNat (IntKind.wrap .i64 (((n2 : Nat)) + ((n6 : Nat)))) - Int.toNat (0)) (c3 - Int.toNat (0)) ((n2 : Nat)) (((Int.toNat (IntKind.wrap .i64 (((n2 : Nat)) + ((n6 : Nat)))) - Int.toNat (0)) : Nat)) rfl y5 ⟨_, rfl⟩ rfl hi0 hi1 hi2 ?_)
     refine au 1 rfl ?_
     refine zg rfl (Zi [(.slice (if (c3 - Int.toNat (0)) = Int.toNat ((n2 : Nat)) then (if c3 = Int.toNat (0) then a1 else Option.map (·.add (Int.toNat (0) * 3)) a1) else Option.map (·.add (Int.toNat ((n2 : Nat)) * 3)) (if c3 = Int.toNat (0) then a1 else Option.map (·.add (Int.toNat (0) * 3)) a1)) (Int.toNat (((Int.toNat (IntKind.wrap .i64 (((n2 : Nat)) + ((n6 : Nat)))) - Int.toNat (0)) : Nat)) - Int.toNat ((n2 : Nat))) ((c3 - Int.toNat (0)) - Int.toNat ((n2 : Nat)))), (.slice a5 n6 c7)] rfl (zB (fun v h29 hv => ?_) s))
     obtain ⟨i30, rfl, s⟩ := hv
     refine au 5 rfl ?_
     obtain ⟨hi0, hi1, hi2, s⟩ := s
     refine zg rfl (yi (if c3 = Int.toNat (0) then a1 else Option.map (·.add (Int.toNat (0) * 3)) a1) (Int.toNat (IntKind.wrap .i64 (((n2 : Nat)) + ((n6 : Nat)))) - Int.toNat (0)) (c3 - Int.toNat (0)) (i4) (((Int.toNat (IntKind.wrap .i64 (((n2 : Nat)) + ((n6 : Nat)))) - Int.toNat (0)) : Nat)) rfl y5 ⟨_, rfl⟩ rfl hi0 hi1 hi2 ?_)
     refine au 1 rfl ?_
     refine zcall s rfl rfl zgK ?_
     rintro _ h31 ⟨rfl, s⟩
     refine au 6 rfl ?_
     exact zr (s.imp fun _ q => ⟨_, _, _, rfl, q⟩)
theorem zN.of {B : RO} {a1 : Option Addr} {n2 : Nat} {c3 : Nat} {i4 : Int} {v5 : Value} {h : Heap} {Q : Int → Bool → Heap → Prop} (s : yJ B a1 n2 c3 i4 v5 h Q) : zN B a1 n2 c3 i4 v5 h Q := by
 refine zspec Tryz.func151 [ResultVar.tmp 6, ResultVar.tmp 7] rfl rfl rfl rfl rfl ?_
 refine au 8 rfl ?_
 refine zg rfl (y9 a1 n2 c3 rfl WV ?_)
 refine au 8 rfl ?_
 refine Run.seqJ (fun e h10 => ∃ i9 : Int, Agree [(0, (.slice a1 n2 c3)), (1, (.int .i64 (i4))), (2, v5), (8, (.int .i64 ((n2 : Nat)))), (9, (.int .i64 (i9)))] e ∧ yd B a1 n2 c3 i4 v5 i9 h10 Q) ?_ fun j8 => ?_
 ·rintro e h10 ⟨i9, hag, s⟩
  refine Run.env hag ?_; clear hag
  refine au 5 rfl ?_
  refine zt s rfl rfl rfl zG zF (fun s => ?_) fun s => ?_
  ·refine au 4 rfl ?_
   obtain ⟨A11, e12, hi0, hi1, s⟩ := s
   refine zg rfl (zZ A11 n2 c3 .i64 (i9) (congrArg (fun a => Value.slice a n2 c3) e12) rfl y5 hi0 hi1 ?_)
   obtain ⟨i13, b14, s15, hl, s⟩ := s
   refine zn hl rfl rfl zaV zab rfl ?_
   refine au 1 rfl ?_
   refine zg rfl (Xd (v5) [(.agg #[(.int .i64 (i13)), (.bool b14), (.string s15)]), (.int .i64 (i4))] rfl rfl s (fun nx h' ha => ha.mono fun v h16 hv => ?_))
   obtain ⟨i17, rfl, s⟩ := hv
   refine au 5 rfl ?_
   exact zr (s.imp fun _ q => ⟨_, _, rfl, q⟩)
  ·refine au 13 rfl ?_
   exact zr (s.imp fun _ q => ⟨_, _, rfl, q⟩)
 refine au 1 rfl ?_
 obtain ⟨J24, m22, h0, s⟩ := s
 refine Run.of_fin (h0.imp fun h' h0 => ?_)
 refine Run.loop (σ := Int × Int × Nat) (fun x e h => J24 x.1 x.2.1 x.2.2 h ∧ Agree [(0, (.slice a1 n2 c3)), (1, (.int .i64 (i4))), (2, v5), (8, (.int .i64 ((n2 : Nat)))), (9, (.int .i64 (x.1))), (10, (.int .i64 (x.2.1)))] e) (fun x => x.2.2) ((0), ((n2 : Nat)), m22) ⟨h0, ⟨rfl, rfl, rfl, rfl, rfl, rfl, trivial⟩⟩ ?_; clear h0
 rintro ⟨i18, i19, m21⟩ e h20 ⟨hJ, hag⟩ ih23
 have s := s i18 i19 m21 h20 hJ; clear hJ
 refine Run.env hag ?_; clear hag
 refine au 5 rfl ?_
 refine zt s rfl rfl rfl zG zF (fun s => ?_) fun s => ?_
 ·refine au 9 rfl ?_
  refine zg rfl (vH .i64 .u64 (IntKind.wrap .i64 ((i18) + (i19))) rfl Zx Vm ?_)
  obtain ⟨hi0, s⟩ := s
  refine zg rfl (zhu .u64 .u64 (IntKind.wrap .u64 (IntKind.wrap .i64 ((i18) + (i19)))) (1) rfl rfl hi0 ?_)
  refine zg rfl (vH .u64 .i64 (Int.fdiv (IntKind.wrap .u64 (IntKind.wrap .i64 ((i18) + (i19)))) (2 ^ (min (Int.toNat (1)) (IntKind.bits .u64)))) rfl Vm Zx ?_)
  refine au 7 rfl ?_
  obtain ⟨A25, e26, hi0, hi1, s⟩ := s
  refine zg rfl (zZ A25 n2 c3 .i64 (IntKind.wrap .i64 (Int.fdiv (IntKind.wrap .u64 (IntKind.wrap .i64 ((i18) + (i19)))) (2 ^ (min (Int.toNat (1)) (IntKind.bits .u64))))) (congrArg (fun a => Value.slice a n2 c3) e26) rfl y5 hi0 hi1 ?_)
  obtain ⟨i27, b28, s29, hl, s⟩ := s
  refine zn hl rfl rfl zaV zab rfl ?_
  refine au 1 rfl ?_
  refine zg rfl (Xd (v5) [(.agg #[(.int .i64 (i27)), (.bool b28), (.string s29)]), (.int .i64 (i4))] rfl rfl s (fun nx h' ha => ha.mono fun v h30 hv => ?_))
  obtain ⟨i31, rfl, s⟩ := hv
  refine zt s rfl rfl rfl zG zF (fun s => ?_) fun s => ?_
  ·refine au 8 rfl ?_
   exact Run.of_fin (s.imp fun h' ⟨m', hm, s⟩ => ih23 ((IntKind.wrap .i64 ((IntKind.wrap .i64 (Int.fdiv (IntKind.wrap .u64 (IntKind.wrap .i64 ((i18) + (i19)))) (2 ^ (min (Int.toNat (1)) (IntKind.bits .u64))))) + (1))), (i19), m') _ _ ⟨s, ⟨rfl, rfl, rfl, rfl, rfl, rfl, trivial⟩⟩ hm)
  ·refine au 7 rfl ?_
   exact Run.of_fin (s.imp fun h' ⟨m', hm, s⟩ => ih23 ((i18), (IntKind.wrap .i64 (Int.fdiv (IntKind.wrap .u64 (IntKind.wrap .i64 ((i18) + (i19)))) (2 ^ (min (Int.toNat (1)) (IntKind.bits .u64))))), m') _ _ ⟨s, ⟨rfl, rfl, rfl, rfl, rfl, rfl, trivial⟩⟩ hm)
 ·refine au 3 rfl ?_
  exact Run.of_fin (s.imp fun h' s => j8 _ _ ⟨(i18), ⟨rfl, rfl, rfl, rfl, rfl, trivial⟩, s⟩)
theorem vT.of {B : RO} {i1 : Int} {b2 : Bool} {s3 : ByteArray} {i4 : Int} {h : Heap} {Q : Int → Heap → Prop} (s : We B i1 b2 s3 i4 h Q) : vT B i1 b2 s3 i4 h Q := by
 refine zspec Tryz.func152 [ResultVar.tmp 4] rfl rfl rfl rfl rfl ?_
 refine au 2 rfl ?_
 refine zbn s rfl rfl rfl fun k6 h7 s => ?_
 refine au 7 rfl ?_
 refine zl s rfl rfl zx fun i8 s => ?_
 refine au 1 rfl ?_
 refine zt s rfl rfl rfl zG zF (fun s => ?_) fun s => ?_
 ·refine au 7 rfl ?_
  exact zr (s.imp fun _ q => ⟨_, rfl, q⟩)
 ·refine au 6 rfl ?_
  refine zl s rfl rfl zx fun i9 s => ?_
  refine au 1 rfl ?_
  refine zt s rfl rfl rfl xk xj (fun s => ?_) fun s => ?_
  ·refine au 7 rfl ?_
   exact zr (s.imp fun _ q => ⟨_, rfl, q⟩)
  ·refine au 9 rfl ?_
   exact zr (s.imp fun _ q => ⟨_, rfl, q⟩)
def xP (x : Int × Int) : List Value := [.int .i64 x.1, .int .i64 x.2]
theorem wA (x : Int × Int) : (xP x).length = 2 := rfl
theorem zbR (x : Int × Int) : ∀ y ∈ xP x, isOne y = true := fun y hy => by simp [xP] at hy; rcases hy with rfl | rfl <;> rfl
theorem zdT : slcB PG YH = some (ZY, 2, 16) := by kernel_rfl
theorem zdp : zeroB PG ZY = some [.int .i64 0, .int .i64 0] := by kernel_rfl
theorem ze2 : slT PG YH = true := by kernel_rfl
theorem zdR : intB PG TY.int = some .i64 := by kernel_rfl
def Zq (r : Option (Nat × AObj)) (v : Value) (l : List (Int × Int)) : Prop := Row r v ZY 2 (l.flatMap xP)
def YN (v : Value) : AObj := .vec zbP (zc [v]) 1
structure zaB (L : List (Option (Nat × AObj))) (i k : Nat) (v : Value) (r : Option (Nat × AObj)) : Prop where
 p : L[i]? = some (some (k, YN v))
 q : L[i + 1]? = some r
section
variable {B : RO} {h0 h h' : Heap} {L : List (Option (Nat × AObj))} {r : Option (Nat × AObj)} {i k : Nat} {a : Option Addr} {m c : Nat} {v : Value} {l : List (Int × Int)}
theorem zer {x : Int × Int} {n : Int} {Q : Int → Heap → Prop} (hQ : Q (if x.1 < n then -1 else if n < x.1 then 1 else 0) h) : Xf B x.1 (x.2) n h Q := by
 refine Xf.of ?_
 unfold zaD
 intro k5 a5 b5 h6 e6
 have E := (Keep.nil B h).made a5 b5 e6
 refine ⟨_, E.cell 0 rfl rfl, fun h1 => Fin.ent E.back (Fin.of ?_), fun h1 => ⟨_, E.cell 0 rfl rfl, fun h2 => Fin.ent E.back (Fin.of ?_), fun h2 => Fin.ent E.back (Fin.of ?_)⟩⟩
 ·rw [if_pos h1] at hQ; exact hQ
 ·rw [if_neg h1, if_pos h2] at hQ; exact hQ
 ·rw [if_neg h1, if_neg (fun h => h2 h)] at hQ; exact hQ
theorem zdY {n : Int} {Q : Int → Bool → Heap → Prop} (hr : Reads B h a 2 xP l) (s : SortD l) (hl : l.length ≤ 1000000) (hQ : ∀ p, PosD l n p → Q (p : Nat) (x5 l p n) h) : zY B a l.length c n (Value.func (.func V2) #[] #[]) h Q := by
 refine zY.of ?_
 unfold y8
 refine ⟨fun i j m h' => ∃ lo hi : Nat, i = lo ∧ j = hi ∧ m = hi - lo ∧ lo ≤ hi ∧ hi ≤ l.length ∧ (∀ (q : Nat) (x : Int × Int), q < lo → l[q]? = some x → x.1 < n) ∧ (∀ (q : Nat) (x : Int × Int), hi ≤ q → l[q]? = some x → n ≤ x.1) ∧ h = h', l.length, Fin.of ⟨0, l.length, rfl, rfl, rfl, by omega, Nat.le_refl _, fun q x hq => by omega, fun q x hq hx => by have := (List.getElem?_eq_some_iff.1 hx).1; omega, rfl⟩, ?_⟩
 rintro _ _ _ _ ⟨lo, hi, rfl, rfl, rfl, hlh, hhl, hlo, hhi, rfl⟩
 refine ⟨fun hlt => ⟨by decide, ?_⟩, fun hge => Fin.of ?_⟩
 ·have hmid : IntKind.wrap .i64 (Int.fdiv (IntKind.wrap .u64 (IntKind.wrap .i64 (((lo : Nat) : Int) + ((hi : Nat) : Int)))) (2 ^ (min (Int.toNat (1)) (IntKind.bits .u64)))) = (((lo + hi) / 2 : Nat) : Int) := by
   have e1 : IntKind.wrap .i64 (((lo : Nat) : Int) + ((hi : Nat) : Int)) = ((lo + hi : Nat) : Int) := by rw [w64 (by omega) (by omega)]; omega
   have e2 : IntKind.wrap .u64 ((lo + hi : Nat) : Int) = ((lo + hi : Nat) : Int) := by rw [wu64]; omega
   rw [e1, e2, two1, Int.fdiv_eq_ediv_of_nonneg _ (by decide), w64 (by omega) (by omega)]; omega
  rw [hmid]
  have hml : (lo + hi) / 2 < l.length := by omega
  have hx := List.getElem?_eq_getElem hml
  have hb : lo ≤ (lo + hi) / 2 ∧ (lo + hi) / 2 < hi := by omega
  generalize (lo + hi) / 2 = mid at hml hx hb
  generalize l[mid] = x at hx
  obtain ⟨A, e1, _, e4⟩ := hr mid x hx
  have hw : IntKind.wrap .i64 (((mid : Nat) : Int) + 1) = ((mid + 1 : Nat) : Int) := by rw [w64 (by omega) (by omega)]; omega
  rw [hw]
  refine ⟨A, e1, by omega, by omega, x.1, x.2, e4, ?_⟩
  refine CallV.func zac (zer (x := x) ⟨fun h1 => Fin.of ⟨hi - (mid + 1), by omega, mid + 1, hi, rfl, rfl, rfl, by omega, hhl, fun q y hq hy => ?_, hhi, rfl⟩, fun h1 => Fin.of ⟨mid - lo, by omega, lo, mid, rfl, rfl, rfl, by omega, by omega, hlo, fun q y hq hy => ?_, rfl⟩⟩)
  ·have hx1 : x.1 < n := by
    by_cases h2 : x.1 < n
    ·exact h2
    ·rw [if_neg h2] at h1; split at h1 <;> omega
   by_cases h : q = mid
   ·subst h; rw [hx] at hy; cases hy; exact hx1
   ·have := s.get (show q < mid by omega) hy hx; omega
  ·have hx1 : n ≤ x.1 := by
    by_cases h2 : x.1 < n
    ·rw [if_pos h2] at h1; omega
    ·omega
   by_cases h : q = mid
   ·subst h; rw [hx] at hy; cases hy; exact hx1
   ·have := s.get (show mid < q by omega) hx hy; omega
 ·have : lo = hi := by omega
  subst this
  have K : PosD l n lo := ⟨hhl, hlo, hhi⟩
  have hq := hQ lo K
  unfold yu
  refine ⟨fun hlt2 => ?_, fun hge2 => Fin.of ?_⟩
  ·have hml : lo < l.length := by omega
   have hx := List.getElem?_eq_getElem hml
   generalize l[lo] = x at hx
   obtain ⟨A, e1, _, e4⟩ := hr lo x hx
   have hf : x5 l lo n = (x.1 == n) := by rw [x5, hx]
   rw [hf] at hq
   refine ⟨A, e1, by omega, by omega, x.1, x.2, e4, ?_⟩
   refine CallV.func zac (zer (x := x) (Fin.of ?_))
   have : (((if x.1 < n then -1 else if n < x.1 then 1 else 0 : Int)) == (0 : Int)) = (x.1 == n) := by
    rw [Bool.eq_iff_iff, beq_iff_eq, beq_iff_eq]
    split
    ·omega
    ·split <;> omega
   rw [this]; exact hq
  ·have hf : x5 l lo n = false := by rw [x5, List.getElem?_eq_none (by omega)]
   rw [hf] at hq; exact hq
theorem Zq.len (R : Zq r (.slice a m c) l) : m = l.length := (Row.rd (B := fun _ => none) R wA (by omega)).1
theorem zcv {n : Int} {Q : Int → Bool → Heap → Prop} (E : Keep B h0 L h) (A : zaB L i k v r) (R : Zq r v l) (s : SortD l) (hl : l.length ≤ 1000000) (hQ : ∀ p, PosD l n p → Q (p : Nat) (x5 l p n) h) : xX B (some ⟨k, 0, none⟩) n h Q := by
 refine xX.of ?_
 unfold XE
 obtain ⟨a, m, c, rfl⟩ := Row.slice R
 obtain ⟨rfl, hrd⟩ := Row.rd (B := B) R wA (by omega)
 exact ⟨_, rfl, .inl ⟨a, _, c, E.cell i A.p rfl, zdY (hrd h fun k o e => E.at (i + 1) (by rw [A.q, e])) s hl fun p K => Fin.of (hQ p K)⟩⟩
theorem ziL {n : Int} {Q : Int → Bool → Heap → Prop} (E : Keep B h0 L h) (A : zaB L i k v r) (R : Zq r v l) (s : SortD l) (hl : l.length ≤ 1000000) (hQ : Q ((atD l n).getD 0) (atD l n).isSome h) : wG B (some ⟨k, 0, none⟩) n h Q := by
 refine wG.of ?_
 unfold XT
 refine ⟨fun e => (by cases e), fun _ => zcv E A R s hl fun p K => ⟨fun hf => ?_, fun hf => Fin.of ?_⟩⟩
 ·obtain ⟨x, hx, rfl⟩ := WK hf
  have hpl := (List.getElem?_eq_some_iff.1 hx).1
  rw [zdX K hx rfl] at hQ
  obtain ⟨a, m, c, rfl⟩ := Row.slice R
  obtain ⟨rfl, hrd⟩ := Row.rd (B := B) R wA (by omega)
  obtain ⟨A', e1, _, e4⟩ := hrd h (fun k o e => E.at (i + 1) (by rw [A.q, e])) p x hx
  refine ⟨_, rfl, .inl ⟨a, _, c, E.cell i A.p rfl, A', e1, by omega, by omega, x.2, ?_, Fin.of hQ⟩⟩
  exact e4.2.1
 ·rw [zdW s K hf] at hQ; exact hQ
theorem ziM {a5 : Option Addr} {n n6 c7 : Nat} {i : Int} {Q : Option Addr → Nat → Nat → Heap → Prop} : y0 B a n c i a5 n6 c7 h Q = InsP PG YH 2 zhj TY.int (fun B => vE B) B a n c i a5 n6 c7 h Q := by
 unfold y0 InsP
 congr
theorem ziO {n : Int} {x : Int} {Q : Bool → Heap → Prop} (E : Keep B h0 L h) (A : zaB L i k v r) (R : Zq r v l) (s : SortD l) (hl : l.length ≤ 100000) (hQ : ∀ v' r' h', Zq r' v' (insD l n x) → Keep B h0 ((L.set i (some (k, YN v'))).set (i + 1) r') h' → Q true h') : wH B (some ⟨k, 0, none⟩) n x h Q := by
 refine wH.of ?_
 unfold XU
 have hil : i < L.length := (List.getElem?_eq_some_iff.1 A.p).1
 have hil1 : i + 1 < L.length := (List.getElem?_eq_some_iff.1 A.q).1
 refine ⟨fun e => (by cases e), fun _ => zcv E A R s (by omega) fun p K => ⟨fun hf => ?_, fun hf => ?_⟩⟩
 ·obtain ⟨y, hy, rfl⟩ := WK hf
  have hpl := (List.getElem?_eq_some_iff.1 hy).1
  have hi := zcP (v := x) K hf
  obtain ⟨a, m, c, rfl⟩ := Row.slice R
  have hm := Zq.len R
  subst hm
  have hfl := zI wA l
  rcases R with ⟨_, e1, e2⟩ | ⟨kr, m', c', nn, js, e0, e1, e3, e4, e5⟩
  ·rw [e2] at hfl; simp at hfl; omega
  ·cases e1
   have hq := A.q
   rw [e0] at hq
   have hsp := Xk (cells := xP) l p hpl
   have hly : l[p] = y := by rw [List.getElem?_eq_getElem hpl] at hy; exact Option.some.inj hy
   have htl : ((l.take p).flatMap xP).length = p * 2 := by rw [zI wA, List.length_take]; omega
   have hle : (l.length : Nat) * 2 ≤ nn := Nat.le_trans (Nat.mul_le_mul_right _ e4) e5
   obtain ⟨h32, st, E2⟩ := E.storesV (i + 1) (k := kr) (nn := nn) (t := ZY) (fs := (l.take p).flatMap xP ++ [.int .i64 y.1]) (gs := [.int .i64 y.2] ++ ((l.drop (p + 1)).flatMap xP ++ js)) (by
    rw [hq, hsp, hly]; simp [xP, List.append_assoc]) [.int .i64 x] (by simp [isOne]) (p * 2 + 1) (by rw [List.length_append, htl]; rfl) (by simp; omega)
   refine ⟨_, rfl, .inl ⟨_, _, _, E.cell i A.p rfl, _, rfl, by omega, by omega, ?_⟩⟩
   rw [z8, z8, Nat.zero_add, Int.toNat_natCast]
   have hs : L.set i (some (k, YN (.slice (some ⟨kr, 0, none⟩) l.length c))) = L := by
    obtain ⟨hl, e⟩ := List.getElem?_eq_some_iff.1 A.p
    rw [← e]; exact List.set_getElem_self hl
   have hfin : Q true h32 := by
    refine hQ (.slice (some ⟨kr, 0, none⟩) l.length c) _ h32 (.inr ⟨kr, l.length, c, nn, js, rfl, rfl, ?_, e4, e5⟩) ?_
    ·rw [hi, zI wA, List.length_set]
    ·rw [hs, hi, Xa _ _ _ hpl]
     refine cast ?_ E2
     congr 6
     simp [xP, List.append_assoc]
   obtain ⟨_, h33, s1, s2⟩ := st
   cases s2
   exact ⟨_, s1, Fin.of hfin⟩
 ·have hi := zcO (v := x) K hf
  obtain ⟨a, m, c, rfl⟩ := Row.slice R
  have hm := Zq.len R
  subst hm
  have hfl := zI wA l
  refine ⟨_, rfl, .inl ⟨a, _, c, E.cell i A.p rfl, fun k15 a15 b15 h16 e16 => ?_⟩⟩
  have E1 := E.made a15 b15 e16
  refine yB.of ?_
  rw [ziM]
  refine zho zdT zdp rfl (by omega) (by omega) ze2 zdR (by decide) E1 (i + 1) (zO _ A.q) R ?_ L.length (kx := k15) (ys := xP (n, x)) (by rw [List.getElem?_append_right (Nat.le_refl _), Nat.sub_self]; rfl) rfl (zbR _) (by omega) p K.le (by rw [hfl]; omega) ?_
  ·intro y hy
   obtain ⟨z, _, hz⟩ := List.mem_flatMap.1 hy
   exact zbR z y hz
  ·intro a' c' r' h17 R' E2
   rw [List.set_append_left _ _ hil1] at E2
   have E3 := E2.pop
   have hp3 : (L.set (i + 1) r')[i]? = some (some (k, YN (.slice a l.length c))) := by rw [List.getElem?_set_ne (by omega)]; exact A.p
   obtain ⟨es, E4⟩ := E3.store i 0 (.slice a' (l.length + 1) c') hp3 rfl
   refine ⟨_, rfl, _, es, Fin.of (hQ (.slice a' (l.length + 1) c') r' _ ?_ ?_)⟩
   ·rw [hi]
    unfold Zq
    have e1 : (l.flatMap xP).take (p * 2) = (l.take p).flatMap xP := VX wA l p
    have e2 : (l.flatMap xP).drop (p * 2) = (l.drop p).flatMap xP := by
     have h2 : l.flatMap xP = (l.take p).flatMap xP ++ (l.drop p).flatMap xP := by rw [← List.flatMap_append, List.take_append_drop]
     rw [h2, List.drop_left']
     rw [zI wA, List.length_take, Nat.min_eq_left K.le]
    rw [e1, e2] at R'
    rw [List.flatMap_append, List.flatMap_cons, ← List.append_assoc]
    exact R'
   ·rw [List.set_comm _ _ (by omega)] at E4
    exact E4
end
def yf (x : Int × (Bool × ByteArray)) : List Value := [.int .i64 x.1, .bool x.2.1, .string x.2.2]
theorem yY (x : Int × (Bool × ByteArray)) : (yf x).length = 3 := rfl
theorem WY (x : Int × (Bool × ByteArray)) : ∀ y ∈ yf x, isOne y = true := fun y hy => by simp [yf] at hy; rcases hy with rfl | rfl | rfl <;> rfl
theorem zbb : slcB PG vN = some (xC, 3, 32) := by kernel_rfl
theorem zaH : zeroB PG xC = some [.int .i64 0, .bool false, .string ByteArray.empty] := by kernel_rfl
theorem zby : slT PG vN = true := by kernel_rfl
theorem za9 : intB PG TY.int = some .i64 := by kernel_rfl
def zV (r : Option (Nat × AObj)) (v : Value) (l : List (Int × (Bool × ByteArray))) : Prop := Row r v xC 3 (l.flatMap yf)
def xu (v : Value) : AObj := .vec VQ (zc [v]) 1
structure ZQ (L : List (Option (Nat × AObj))) (i k : Nat) (v : Value) (r : Option (Nat × AObj)) : Prop where
 p : L[i]? = some (some (k, xu v))
 q : L[i + 1]? = some r
section
variable {B : RO} {h0 h h' : Heap} {L : List (Option (Nat × AObj))} {r : Option (Nat × AObj)} {i k : Nat} {a : Option Addr} {m c : Nat} {v : Value} {l : List (Int × (Bool × ByteArray))}
theorem zae {x : Int × (Bool × ByteArray)} {n : Int} {Q : Int → Heap → Prop} (hQ : Q (if x.1 < n then -1 else if n < x.1 then 1 else 0) h) : vT B x.1 x.2.1 x.2.2 n h Q := by
 refine vT.of ?_
 unfold We
 intro k5 a5 b5 h6 e6
 have E := (Keep.nil B h).made a5 b5 e6
 refine ⟨_, E.cell 0 rfl rfl, fun h1 => Fin.ent E.back (Fin.of ?_), fun h1 => ⟨_, E.cell 0 rfl rfl, fun h2 => Fin.ent E.back (Fin.of ?_), fun h2 => Fin.ent E.back (Fin.of ?_)⟩⟩
 ·rw [if_pos h1] at hQ; exact hQ
 ·rw [if_neg h1, if_pos h2] at hQ; exact hQ
 ·rw [if_neg h1, if_neg (fun h => h2 h)] at hQ; exact hQ
theorem zbc {n : Int} {Q : Int → Bool → Heap → Prop} (hr : Reads B h a 3 yf l) (s : SortD l) (hl : l.length ≤ 1000000) (hQ : ∀ p, PosD l n p → Q (p : Nat) (x5 l p n) h) : zN B a l.length c n (Value.func (.func XP) #[] #[]) h Q := by
 refine zN.of ?_
 unfold yJ
 refine ⟨fun i j m h' => ∃ lo hi : Nat, i = lo ∧ j = hi ∧ m = hi - lo ∧ lo ≤ hi ∧ hi ≤ l.length ∧ (∀ (q : Nat) (x : Int × (Bool × ByteArray)), q < lo → l[q]? = some x → x.1 < n) ∧ (∀ (q : Nat) (x : Int × (Bool × ByteArray)), hi ≤ q → l[q]? = some x → n ≤ x.1) ∧ h = h', l.length, Fin.of ⟨0, l.length, rfl, rfl, rfl, by omega, Nat.le_refl _, fun q x hq => by omega, fun q x hq hx => by have := (List.getElem?_eq_some_iff.1 hx).1; omega, rfl⟩, ?_⟩
 rintro _ _ _ _ ⟨lo, hi, rfl, rfl, rfl, hlh, hhl, hlo, hhi, rfl⟩
 refine ⟨fun hlt => ⟨by decide, ?_⟩, fun hge => Fin.of ?_⟩
 ·have hmid : IntKind.wrap .i64 (Int.fdiv (IntKind.wrap .u64 (IntKind.wrap .i64 (((lo : Nat) : Int) + ((hi : Nat) : Int)))) (2 ^ (min (Int.toNat (1)) (IntKind.bits .u64)))) = (((lo + hi) / 2 : Nat) : Int) := by
   have e1 : IntKind.wrap .i64 (((lo : Nat) : Int) + ((hi : Nat) : Int)) = ((lo + hi : Nat) : Int) := by rw [w64 (by omega) (by omega)]; omega
   have e2 : IntKind.wrap .u64 ((lo + hi : Nat) : Int) = ((lo + hi : Nat) : Int) := by rw [wu64]; omega
   rw [e1, e2, two1, Int.fdiv_eq_ediv_of_nonneg _ (by decide), w64 (by omega) (by omega)]; omega
  rw [hmid]
  have hml : (lo + hi) / 2 < l.length := by omega
  have hx := List.getElem?_eq_getElem hml
  have hb : lo ≤ (lo + hi) / 2 ∧ (lo + hi) / 2 < hi := by omega
  generalize (lo + hi) / 2 = mid at hml hx hb
  generalize l[mid] = x at hx
  obtain ⟨A, e1, _, e4⟩ := hr mid x hx
  have hw : IntKind.wrap .i64 (((mid : Nat) : Int) + 1) = ((mid + 1 : Nat) : Int) := by rw [w64 (by omega) (by omega)]; omega
  rw [hw]
  refine ⟨A, e1, by omega, by omega, x.1, x.2.1, x.2.2, e4, ?_⟩
  refine CallV.func X1 (zae (x := x) ⟨fun h1 => Fin.of ⟨hi - (mid + 1), by omega, mid + 1, hi, rfl, rfl, rfl, by omega, hhl, fun q y hq hy => ?_, hhi, rfl⟩, fun h1 => Fin.of ⟨mid - lo, by omega, lo, mid, rfl, rfl, rfl, by omega, by omega, hlo, fun q y hq hy => ?_, rfl⟩⟩)
  ·have hx1 : x.1 < n := by
    by_cases h2 : x.1 < n
    ·exact h2
    ·rw [if_neg h2] at h1; split at h1 <;> omega
   by_cases h : q = mid
   ·subst h; rw [hx] at hy; cases hy; exact hx1
   ·have := s.get (show q < mid by omega) hy hx; omega
  ·have hx1 : n ≤ x.1 := by
    by_cases h2 : x.1 < n
    ·rw [if_pos h2] at h1; omega
    ·omega
   by_cases h : q = mid
   ·subst h; rw [hx] at hy; cases hy; exact hx1
   ·have := s.get (show mid < q by omega) hx hy; omega
 ·have : lo = hi := by omega
  subst this
  have K : PosD l n lo := ⟨hhl, hlo, hhi⟩
  have hq := hQ lo K
  unfold yd
  refine ⟨fun hlt2 => ?_, fun hge2 => Fin.of ?_⟩
  ·have hml : lo < l.length := by omega
   have hx := List.getElem?_eq_getElem hml
   generalize l[lo] = x at hx
   obtain ⟨A, e1, _, e4⟩ := hr lo x hx
   have hf : x5 l lo n = (x.1 == n) := by rw [x5, hx]
   rw [hf] at hq
   refine ⟨A, e1, by omega, by omega, x.1, x.2.1, x.2.2, e4, ?_⟩
   refine CallV.func X1 (zae (x := x) (Fin.of ?_))
   have : (((if x.1 < n then -1 else if n < x.1 then 1 else 0 : Int)) == (0 : Int)) = (x.1 == n) := by
    rw [Bool.eq_iff_iff, beq_iff_eq, beq_iff_eq]
    split
    ·omega
    ·split <;> omega
   rw [this]; exact hq
  ·have hf : x5 l lo n = false := by rw [x5, List.getElem?_eq_none (by omega)]
   rw [hf] at hq; exact hq
theorem zV.len (R : zV r (.slice a m c) l) : m = l.length := (Row.rd (B := fun _ => none) R yY (by omega)).1
theorem Vg {n : Int} {Q : Int → Bool → Heap → Prop} (E : Keep B h0 L h) (A : ZQ L i k v r) (R : zV r v l) (s : SortD l) (hl : l.length ≤ 1000000) (hQ : ∀ p, PosD l n p → Q (p : Nat) (x5 l p n) h) : yZ B (some ⟨k, 0, none⟩) n h Q := by
 refine yZ.of ?_
 unfold Yq
 obtain ⟨a, m, c, rfl⟩ := Row.slice R
 obtain ⟨rfl, hrd⟩ := Row.rd (B := B) R yY (by omega)
 exact ⟨_, rfl, .inl ⟨a, _, c, E.cell i A.p rfl, zbc (hrd h fun k o e => E.at (i + 1) (by rw [A.q, e])) s hl fun p K => Fin.of (hQ p K)⟩⟩
end
open Go Go.RowKit
abbrev DFL := List (Int × (Bool × ByteArray))
section
variable {B : RO} {h0 h h' : Heap} {L : List (Option (Nat × AObj))} {r : Option (Nat × AObj)} {i k k3 : Nat} {a : Option Addr} {m c : Nat} {v : Value} {l : DFL} {n : Int}
theorem zcQ {a5 : Option Addr} {n n6 c7 : Nat} {i : Int} {Q : Option Addr → Nat → Nat → Heap → Prop} : yD B a n c i a5 n6 c7 h Q = InsP PG vN 3 zhj TY.int (fun B => wJ B) B a n c i a5 n6 c7 h Q := by
 unfold yD InsP
 congr
theorem zcT {n : Int} {x : Bool × ByteArray} {Q : Bool → Heap → Prop} (E : Keep B h0 L h) (A : ZQ L i k v r) (R : zV r v l) (s : SortD l) (hl : l.length ≤ 100000) (hQ : ∀ v' r' h', zV r' v' (insD l n x) → Keep B h0 ((L.set i (some (k, xu v'))).set (i + 1) r') h' → Q true h') : xI B (some ⟨k, 0, none⟩) n x.1 x.2 h Q := by
 refine xI.of ?_
 unfold Yx
 have hil : i < L.length := (List.getElem?_eq_some_iff.1 A.p).1
 have hil1 : i + 1 < L.length := (List.getElem?_eq_some_iff.1 A.q).1
 intro k6 a6 b6 h7 e7
 have E0 : Keep B h0 (L ++ [some (k6, .vec yG (zc [.bool x.1, .string x.2]) 2)]) h7 := E.made a6 b6 e7
 have A0 : ZQ (L ++ [some (k6, .vec yG (zc [.bool x.1, .string x.2]) 2)]) i k v r := ⟨zO _ A.p, zO _ A.q⟩
 have c6 : ∀ {h1 : Heap}, h1 k6 = some (.vec yG (zc [.bool x.1, .string x.2]) 2) → za B h1 ⟨k6, 0, none⟩ 0 [.bool x.1, .string x.2] := fun g => ⟨zd g rfl, zd g rfl, trivial⟩
 refine ⟨fun e => (by cases e), fun _ => Vg E0 A0 R s (by omega) fun p K => ⟨fun hf => ?_, fun hf => ?_⟩⟩
 ·obtain ⟨y, hy, rfl⟩ := WK hf
  have hpl := (List.getElem?_eq_some_iff.1 hy).1
  have hi := zcP (v := x) K hf
  obtain ⟨a, m, c, rfl⟩ := Row.slice R
  have hm := zV.len R
  subst hm
  have hfl := zI yY l
  rcases R with ⟨_, e1, e2⟩ | ⟨kr, m', c', nn, js, e0, e1, e3, e4, e5⟩
  ·rw [e2] at hfl; simp at hfl; omega
  ·cases e1
   have hq := A0.q
   rw [e0] at hq
   have hsp := Xk (cells := yf) l p hpl
   have hly : l[p] = y := by rw [List.getElem?_eq_getElem hpl] at hy; exact Option.some.inj hy
   have htl : ((l.take p).flatMap yf).length = p * 3 := by rw [zI yY, List.length_take]; omega
   have hle : (l.length : Nat) * 3 ≤ nn := Nat.le_trans (Nat.mul_le_mul_right _ e4) e5
   obtain ⟨h32, st, E2⟩ := E0.storesV (i + 1) (k := kr) (nn := nn) (t := xC) (fs := (l.take p).flatMap yf ++ [.int .i64 y.1]) (gs := [.bool y.2.1, .string y.2.2] ++ ((l.drop (p + 1)).flatMap yf ++ js)) (by
    rw [hq, hsp, hly]; simp [yf, List.append_assoc]) [.bool x.1, .string x.2] (by simp [isOne]) (p * 3 + 1) (by rw [List.length_append, htl]; rfl) (by simp; omega)
   refine ⟨_, rfl, _, _, _, E0.cell i A0.p rfl, _, _, c6 E0.last, _, rfl, by omega, by omega, h32, ?_, ?_⟩
   ·rw [z8, z8, Nat.zero_add, Int.toNat_natCast]; exact st
   ·have hs : L.set i (some (k, xu (.slice (some ⟨kr, 0, none⟩) l.length c))) = L := by
     obtain ⟨hl, e⟩ := List.getElem?_eq_some_iff.1 A.p
     rw [← e]; exact List.set_getElem_self hl
    rw [List.set_append_left _ _ hil1] at E2
    refine Fin.of (hQ (.slice (some ⟨kr, 0, none⟩) l.length c) _ h32 (.inr ⟨kr, l.length, c, nn, js, rfl, rfl, ?_, e4, e5⟩) ?_)
    ·rw [hi, zI yY, List.length_set]
    ·rw [hs, hi, Xa _ _ _ hpl]
     refine cast ?_ E2.pop
     congr 6
     simp [yf, List.append_assoc]
 ·have hi := zcO (v := x) K hf
  obtain ⟨a, m, c, rfl⟩ := Row.slice R
  have hm := zV.len R
  subst hm
  have hfl := zI yY l
  refine ⟨_, rfl, _, _, _, E0.cell i A0.p rfl, _, _, c6 E0.last, fun k15 a15 b15 h16 e16 => ?_⟩
  have E1 := E0.made a15 b15 e16
  have A1 : ZQ (L ++ [some (k6, .vec yG (zc [.bool x.1, .string x.2]) 2)] ++ [some (k15, .vec xC (zc (yf (n, x))) 3)]) i k (.slice a l.length c) r := ⟨zO _ A0.p, zO _ A0.q⟩
  refine ⟨E1.cell i A1.p rfl, c6 (E1.at L.length (zO _ (by rw [List.getElem?_append_right (Nat.le_refl _), Nat.sub_self]; rfl))), ?_⟩
  refine yg.of ?_
  rw [zcQ]
  refine zho zbb zaH rfl (by omega) (by omega) zby za9 (by decide) E1 (i + 1) A1.q R ?_ (L.length + 1) (kx := k15) (ys := yf (n, x)) (by rw [List.getElem?_append_right (by simp), List.length_append]; simp; rfl) rfl (WY _) (by omega) p K.le (by rw [hfl]; omega) ?_
  ·intro y hy
   obtain ⟨z, _, hz⟩ := List.mem_flatMap.1 hy
   exact WY z y hz
  ·intro a' c' r' h17 R' E2
   rw [List.append_assoc, List.set_append_left _ _ hil1] at E2
   have hp2 : (L.set (i + 1) r' ++ ([some (k6, .vec yG (zc [.bool x.1, .string x.2]) 2)] ++ [some (k15, .vec xC (zc (yf (n, x))) 3)]))[i]? = some (some (k, xu (.slice a l.length c))) := zO _ (by rw [List.getElem?_set_ne (by omega)]; exact A.p)
   have g6 := E2.at L.length (by rw [List.getElem?_append_right (by simp), List.length_set, Nat.sub_self]; rfl)
   refine ⟨E2.cell i hp2 rfl, c6 g6, ?_⟩
   have E3 := E2.popL
   have hp3 : (L.set (i + 1) r')[i]? = some (some (k, xu (.slice a l.length c))) := by rw [List.getElem?_set_ne (by omega)]; exact A.p
   obtain ⟨es, E4⟩ := E3.store i 0 (.slice a' (l.length + 1) c') hp3 rfl
   refine ⟨_, rfl, _, es, Fin.of (hQ (.slice a' (l.length + 1) c') r' _ ?_ ?_)⟩
   ·rw [hi]
    unfold zV
    have e1 : (l.flatMap yf).take (p * 3) = (l.take p).flatMap yf := VX yY l p
    have e2 : (l.flatMap yf).drop (p * 3) = (l.drop p).flatMap yf := by
     have h2 : l.flatMap yf = (l.take p).flatMap yf ++ (l.drop p).flatMap yf := by rw [← List.flatMap_append, List.take_append_drop]
     rw [h2, List.drop_left']
     rw [zI yY, List.length_take, Nat.min_eq_left K.le]
    rw [e1, e2] at R'
    rw [List.flatMap_append, List.flatMap_cons, ← List.append_assoc]
    exact R'
   ·rw [List.set_comm _ _ (by omega)] at E4
    exact E4
def zjB (k3 : Nat) : Value := Value.func (.func ZS) #[] #[(Value.pointer (some ⟨k3, 0, none⟩))]
def encDF (x : Int × (Bool × ByteArray)) : List Value := [.int .i64 x.1, .agg #[.bool x.2.1, .string x.2.2]]
def fdG (k3 k : Nat) (v : Value) (r : Option (Nat × AObj)) (h : Heap) : Prop :=
 h k3 = some (.vec wC [.plain (.pointer (some ⟨k, 0, none⟩))] 1) ∧ h k = some (xu v) ∧ ∀ k o, r = some (k, o) → h k = some o
theorem zlr {k3 kk : Nat} {v : Value} {r : Option (Nat × AObj)} : Ins (fdG k3 kk v r) := by
 rintro h k o hk ⟨g1, g2, g3⟩
 exact ⟨Heap.get_new hk g1, Heap.get_new hk g2, fun k' o' e => Heap.get_new hk (g3 k' o' e)⟩
theorem zkH {p : Option Addr} {Q : Value → Heap → Prop} (hQ : ∀ k, h k = none → B k = none → Q (zjB k) (h.set k (.vec wC [.plain (.pointer p)] 1))) : xG B p h Q := by
 refine xG.of ?_
 unfold Yv
 intro k a1 b1 h4 e4
 subst e4
 exact Fin.of (hQ k a1 b1)
theorem ziI (R : zV r v l) (hlen : l.length ≤ 100000) : Iter PG B (zjB k3) (l.map encDF) (fdG k3 k v r) := by
 refine ⟨_, _, _, rfl, Wr, fun y J X h hy hG h0 hcall => ?_⟩
 have main : x7 B y ⟨k3, 0, none⟩ h (fun h' => Fin B h' (fun h'' => J (l.map encDF).length h'' ∨ X h'')) := by
  refine x7.of ?_
  unfold Yf
  obtain ⟨a, m, c, rfl⟩ := Row.slice R
  obtain ⟨rfl, hrd⟩ := Row.rd (B := B) R yY (by omega)
  obtain ⟨g1, g2, g3⟩ := hG 0 h h0
  refine ⟨_, zd g1 rfl, fun e => (by cases e), fun _ => ⟨_, zd g1 rfl, _, rfl, .inl ⟨a, _, c, zd g2 rfl, ?_⟩⟩⟩
  refine ⟨fun i m' h' => ∃ j : Nat, j ≤ l.length ∧ i = j ∧ m' = l.length - j ∧ J j h', l.length, Fin.of ⟨0, by omega, rfl, by omega, h0⟩, ?_⟩
  rintro _ _ h13 ⟨j, hj, rfl, rfl, hJ⟩
  obtain ⟨g1, g2, g3⟩ := hG j h13 hJ
  refine ⟨fun hlt => ?_, fun hge => Fin.of ?_⟩
  ·have hj' : j < l.length := by omega
   have hx := List.getElem?_eq_getElem hj'
   generalize l[j] = x at hx
   obtain ⟨A, e, _, q⟩ := hrd h13 g3 j _ hx
   refine ⟨A, e, by omega, hlt, x.1, x.2.1, x.2.2, q, fun k24 a24 b24 h25 e25 => ?_⟩
   obtain ⟨g25, l25, -⟩ := Heap.made a24 e25
   refine ⟨_, zv g25 rfl (by simp) (by simp [isOne]) (by simp), ?_⟩
   generalize e26 : h25.set k24 _ = h26
   obtain ⟨g26, -, -⟩ := Heap.put e26
   refine ⟨_, zd g26 rfl, _, _, ⟨zd g26 rfl, zd g26 rfl, trivial⟩, ?_⟩
   have w : Wk B h13 h26 := by
    rw [← e26, e25, Heap.set_set]; exact Wk.new a24 b24
   have hc := hcall j h13 (encDF x) (by rw [List.getElem?_map, hx]; rfl) hJ
   refine CallV.mono ?_ (hc.weaken w)
   rintro v h27 ⟨h28, t1, h29, t2, hor⟩
   rcases hor with ⟨rfl, hJ'⟩ | ⟨rfl, hX⟩
   ·refine ⟨true, rfl, fun _ => ⟨h29, t1.trans t2, l.length - (j + 1), by omega, j + 1, by omega, ?_, rfl, hJ'⟩, fun e => by cases e⟩
    rw [w64 (by omega) (by omega)]; omega
   ·exact ⟨false, rfl, fun e => (by cases e), fun _ => ⟨h29, t1.trans t2, Fin.of (.inr hX)⟩⟩
  ·have : j = l.length := by omega
   subst this
   refine Fin.of (.inl ?_)
   rw [List.length_map]
   exact hJ
 exact Spec.mono main fun v h' q => q.2
end
abbrev FileS := Bool × ByteArray
def slotF (x : FileS × Int) : List Value := [.bool x.1.1, .string x.1.2, .int .i64 x.2]
theorem W3 (x : FileS × Int) : (slotF x).length = 3 := rfl
theorem zj3 (x : FileS × Int) : ∀ y ∈ slotF x, isOne y = true := fun y hy => by simp [slotF] at hy; rcases hy with rfl | rfl | rfl <;> rfl
theorem zft : slcB PG Y8 = some (Yd, 3, 32) := by kernel_rfl
theorem ze3 : zeroB PG Yd = some [.bool false, .string ByteArray.empty, .int .i64 0] := by kernel_rfl
theorem zg1 : slT PG Y8 = true := by kernel_rfl
def FRow (r : Option (Nat × AObj)) (v : Value) (l : List (FileS × Int)) : Prop := Row r v Yd 3 (l.flatMap slotF)
def frO (v : Value) : AObj := .vec zaI (zc [v]) 1
def tomO (kR : Nat) : AObj := .vec zfA (zc [.pointer (some ⟨kR, 0, none⟩)]) 1
def yl (l : List (FileS × Int)) (i : Int) : FileS × Int := if 0 ≤ i then (l[i.toNat]?).getD ((false, ByteArray.empty), 0) else ((false, ByteArray.empty), 0)
theorem WZ {l : List (FileS × Int)} {i : Int} (h0 : 0 ≤ i) (h1 : i.toNat < l.length) : yl l i = l[i.toNat] := by
 rw [yl, if_pos h0, List.getElem?_eq_getElem h1]; rfl
theorem Xj {l : List (FileS × Int)} {i : Int} (hn : ¬ (0 ≤ i ∧ i < (l.length : Int))) : yl l i = ((false, ByteArray.empty), 0) := by
 unfold yl
 split
 ·rw [List.getElem?_eq_none (by omega)]; rfl
 ·rfl
section
variable {B : RO} {h0 h h' : Heap} {L : List (Option (Nat × AObj))} {r : Option (Nat × AObj)} {i kT kR : Nat} {v : Value} {l : List (FileS × Int)}
theorem zlt {n : Int} {b : Bool} {s : ByteArray} {Q : Option Addr → Heap → Prop} (hn : n ≤ 1000)
  (hQ : ∀ k v r h', FRow r v (List.replicate n.toNat ((b, s), 0)) → Keep B h [some (k, frO v), r] h' → Q (some ⟨k, 0, none⟩) h') : wO B n b s h Q := by
 refine wO.of ?_
 unfold Wb
 intro k5 a5 b5 h6 e6 k7 a7 b7 h8 e8
 have E := ((Keep.nil B h).made a5 b5 e6).made a7 b7 e8
 refine ⟨fun i m h' => ∃ (j : Nat) (v : Value) (r : Option (Nat × AObj)), (j : Int) ≤ max n 0 ∧ i = j ∧ m = n.toNat - j ∧ FRow r v (List.replicate j ((b, s), 0)) ∧ Keep B h [some (k5, .vec yG (zc [.bool b, .string s]) 2), some (k7, frO v), r] h', n.toNat, Fin.of ⟨0, _, none, by omega, rfl, by omega, Row.nil _ _, E.gap⟩, ?_⟩
 clear E e8 e6
 rintro _ _ h10 ⟨j, v, r, hj, rfl, rfl, R, E⟩
 refine ⟨fun hlt => ?_, fun hge => Fin.of ?_⟩
 ·obtain ⟨a20, n21, c22, rfl⟩ := Row.slice R
  have hfl := zI W3 (List.replicate j ((b, s), (0 : Int)))
  rw [List.length_replicate] at hfl
  refine ⟨a20, n21, c22, E.cell 1 rfl rfl, _, _, ⟨E.cell 0 rfl rfl, E.cell 0 rfl rfl, trivial⟩, fun k28 a28 b28 h29 e29 => ?_⟩
  have E1 := E.made a28 b28 e29
  refine ⟨E1.cell 1 rfl rfl, ⟨E1.cell 0 rfl rfl, E1.cell 0 rfl rfl, trivial⟩, ?_⟩
  refine E.push1 2 rfl R zft ze3 rfl (by omega) (by omega) zg1 rfl (by simp [isOne]) (by rw [hfl]; simp; omega) a28 b28 e29 fun a' m' c' r' h' R' E' => ?_
  obtain ⟨es, E2⟩ := E'.store 1 0 (.slice a' m' c') rfl rfl
  refine ⟨a', m', c', rfl, E'.cell 1 rfl rfl, ⟨E'.cell 0 rfl rfl, E'.cell 0 rfl rfl, trivial⟩, _, es, Fin.of ⟨n.toNat - (j + 1), by omega, j + 1, _, r', by omega, ?_, rfl, ?_, E2⟩⟩
  ·rw [w64 (by omega) (by omega)]; omega
  ·unfold FRow
   rw [List.replicate_succ', List.flatMap_append]
   exact R'
 ·have : j = n.toNat := by omega
  subst this
  exact hQ _ _ _ _ R (E.sub2 1 2 rfl rfl)
structure FAt (L : List (Option (Nat × AObj))) (i : Nat) (kR : Nat) (v : Value) (r : Option (Nat × AObj)) : Prop where
 p : L[i]? = some (some (kR, frO v))
 q : L[i + 1]? = some r
theorem zjF {n : Int} {Q : Bool → Heap → Prop} (E : Keep B h0 L h) (A : FAt L i kR v r) (R : FRow r v l) (hQ : Q (decide (0 ≤ n ∧ n < (l.length : Int))) h) : xM B (some ⟨kR, 0, none⟩) n h Q := by
 refine xM.of ?_
 unfold Xm
 obtain ⟨a, m, c, rfl⟩ := Row.slice R
 obtain ⟨rfl, -⟩ := Row.rd (B := B) R W3 (by omega)
 refine ⟨fun e => (by cases e), fun _ => ⟨fun h1 => ⟨_, rfl, .inl ⟨a, _, c, E.cell i A.p rfl, Fin.of ?_⟩⟩, fun h1 => Fin.of ?_⟩⟩
 ·have : decide (n < (l.length : Int)) = decide (0 ≤ n ∧ n < (l.length : Int)) := by rw [decide_eq_decide]; exact ⟨fun x => ⟨by omega, x⟩, fun x => x.2⟩
  rw [this]; exact hQ
 ·rw [decide_eq_false (by omega)] at hQ; exact hQ
theorem zlv {n ver : Int} {b : Bool} {s : ByteArray} {Q : Bool → Heap → Prop} (E : Keep B h0 L h) (A : FAt L i kR v r) (R : FRow r v l)
  (hF : ¬ (0 ≤ n ∧ n < (l.length : Int)) → ∀ h', Keep B h0 L h' → Q false h') (hT : 0 ≤ n → n.toNat < l.length → ∀ r' h', FRow r' v (l.set n.toNat ((b, s), ver)) → Keep B h0 (L.set (i + 1) r') h' → Q true h') : xA B (some ⟨kR, 0, none⟩) n b s ver h Q := by
 refine xA.of ?_
 unfold YX
 intro k7 a7 b7 h8 e8
 have E1 := E.made a7 b7 e8
 let o7 : AObj := .vec yG (zc [.bool b, .string s]) 2
 have A1 : FAt (L ++ [some (k7, o7)]) i kR v r := ⟨zO _ A.p, zO _ A.q⟩
 have E1 : Keep B h0 (L ++ [some (k7, o7)]) h8 := E1
 refine zjF E1 A1 R ⟨fun hD => ?_, fun hD => Fin.of (hF (by simpa using hD) _ E1.pop)⟩
 rw [decide_eq_true_eq] at hD
 obtain ⟨a, m, c, rfl⟩ := Row.slice R
 obtain ⟨rfl, -⟩ := Row.rd (B := B) R W3 (by omega)
 obtain ⟨A18, h20, r', e1, st, R', E2⟩ := E1.rowSet (i + 1) A1.q R W3 (by omega) n.toNat (by omega) ((b, s), ver) (zj3 _)
 have g := E1.last
 refine ⟨_, rfl, a, _, c, E1.cell i A1.p rfl, _, _, ⟨zd g rfl, zd g rfl, trivial⟩, A18, e1, hD.1, hD.2, h20, st, Fin.of (hT hD.1 (by omega) r' h20 R' ?_)⟩
 rw [List.set_append_left _ _ (List.getElem?_eq_some_iff.1 A.q).1] at E2
 exact E2.pop
theorem zls {n : Int} {Q : Bool → ByteArray → Int → Heap → Prop} (E : Keep B h0 L h) (A : FAt L i kR v r) (R : FRow r v l)
  (hQ : ∀ h', Keep B h0 L h' → Q (yl l n).1.1 (yl l n).1.2 (yl l n).2 h') : wa B (some ⟨kR, 0, none⟩) n h Q := by
 refine wa.of ?_
 unfold YW
 intro k6 a6 b6 h7 e7
 have E1 := E.made a6 b6 e7
 have g := E1.last
 have A1 : FAt (L ++ [some (k6, AObj.vec yG (zc [.bool false, .string ByteArray.empty]) 2)]) i kR v r := ⟨zO _ A.p, zO _ A.q⟩
 refine zjF E1 A1 R ⟨fun hD => ?_, fun hD => ?_⟩
 ·rw [decide_eq_true_eq] at hD
  obtain ⟨a, m, c, rfl⟩ := Row.slice R
  obtain ⟨rfl, hrd⟩ := Row.rd (B := B) R W3 (by omega)
  have hi : n.toNat < l.length := by omega
  obtain ⟨A27, e1, _, q1, q2, q3, _⟩ := hrd h7 (fun k o e => E1.at (i + 1) (by rw [A1.q, e])) n.toNat _ (List.getElem?_eq_getElem hi)
  have hf := hQ
  rw [WZ hD.1 hi] at hf
  have q3' : cellH B h7 (Addr.add (Addr.add A27 (n.toNat * 3)) 2) = some (.int .i64 l[n.toNat].2) := q3
  refine ⟨_, rfl, a, _, c, E1.cell i A1.p rfl, A27, e1, hD.1, hD.2, _, _, ⟨q1, q2, trivial⟩, _, rfl, a, _, c, E1.cell i A1.p rfl, A27, e1, hD.1, hD.2, _, q3', ?_⟩
  refine ⟨_, zv g rfl (by simp) (by simp [isOne]) (by simp), ?_⟩
  have E2 := E1.putLast (.vec yG (zc [.bool l[n.toNat].1.1, .string l[n.toNat].1.2]) 2)
  have A2 : FAt (L ++ [some (k6, AObj.vec yG (zc [.bool l[n.toNat].1.1, .string l[n.toNat].1.2]) 2)]) i kR (.slice a l.length c) r := ⟨zO _ A.p, zO _ A.q⟩
  obtain ⟨A', e1', _, t1, t2, t3, _⟩ := hrd _ (fun k o e => E2.at (i + 1) (by rw [A2.q, e])) n.toNat _ (List.getElem?_eq_getElem hi)
  rw [e1] at e1'
  cases e1'
  refine ⟨E2.cell i A2.p rfl, ⟨t1, t2, trivial⟩, E2.cell i A2.p rfl, t3, _, _, ⟨zd E2.last rfl, zd E2.last rfl, trivial⟩, Fin.of (hf _ E2.pop)⟩
 ·rw [decide_eq_false_iff_not] at hD
  rw [Xj hD] at hQ
  intro k10 a10 b10 h11 e11
  have E2 := E1.made a10 b10 e11
  have g2 := E2.last
  refine ⟨_, _, ⟨zd g2 rfl, zd g2 rfl, trivial⟩, ?_⟩
  have g6 : h11 k6 = some (.vec yG (zc [.bool false, .string ByteArray.empty]) 2) := E2.at L.length (by rw [List.append_assoc, List.getElem?_append_right (Nat.le_refl _), Nat.sub_self]; rfl)
  refine ⟨_, zv g6 rfl (by simp) (by simp [isOne]) (by simp), ?_⟩
  have E3 : Keep B h0 L (h11.set k6 (.vec yG (zc [.bool false, .string ByteArray.empty]) 2)) := by
   rw [Heap.set_self _ _ _ g6]
   exact E2.pop.pop
  exact ⟨_, _, ⟨zd (Heap.set_same _ _ _) rfl, zd (Heap.set_same _ _ _) rfl, trivial⟩, Fin.of (hQ _ E3)⟩
structure zfB (L : List (Option (Nat × AObj))) (i kT kR : Nat) (v : Value) (r : Option (Nat × AObj)) : Prop where
 p : L[i]? = some (some (kT, tomO kR))
 f : FAt L (i + 1) kR v r
def tomE (kT kR : Nat) (v : Value) (r : Option (Nat × AObj)) : List (Option (Nat × AObj)) := [some (kT, tomO kR), some (kR, frO v), r]
def goodF (b : Bool) (s : ByteArray) : Bool := decide (s.size ≤ 32) && (b || decide (s = ByteArray.mk #[]))
theorem zkL {b : Bool} {s : ByteArray} {Q : Bool → Heap → Prop} (hQ : ∀ h', Wk B h h' → Q (goodF b s) h') : Xt B b s h Q := by
 refine Xt.of ?_
 unfold zci
 intro k4 a4 b4 h5 e5
 have w : Wk B h h5 := by rw [e5]; exact Wk.new a4 b4
 have g : h5 k4 = some (.vec yG (zc [.bool b, .string s]) 2) := by rw [e5]; exact Heap.set_same _ _ _
 have hq := hQ h5 w
 unfold goodF at hq
 refine ⟨_, zd g rfl, fun h1 => ⟨_, zd g rfl, fun hb => Fin.of ?_, fun hb => ⟨_, zd g rfl, Fin.of ?_⟩⟩, fun h1 => Fin.of ?_⟩
 ·subst hb
  rw [decide_eq_true (by omega)] at hq; exact hq
 ·subst hb
  rw [decide_eq_true (by omega)] at hq; exact hq
 ·rw [decide_eq_false (by omega)] at hq; exact hq
def setB (l : List (FileS × Int)) (n : Int) (b : Bool) (s : ByteArray) : Bool := goodF b s && decide (0 ≤ n ∧ n < (l.length : Int))
def setF (l : List (FileS × Int)) (n : Int) (b : Bool) (s : ByteArray) (ver : Int) : List (FileS × Int) := if setB l n b s = true then l.set n.toNat ((b, s), ver) else l
theorem zcV (l : List (FileS × Int)) (n : Int) (b : Bool) (s : ByteArray) (ver : Int) : (setF l n b s ver).length = l.length := by unfold setF; split <;> simp
theorem zlQ {n ver : Int} {b : Bool} {s : ByteArray} {Q : Bool → Heap → Prop} (E : Keep B h0 L h) (A : zfB L i kT kR v r) (R : FRow r v l)
  (hQ : ∀ r' h', FRow r' v (setF l n b s ver) → Keep B h0 (L.set (i + 2) r') h' → Q (setB l n b s) h') : ZR B (some ⟨kT, 0, none⟩) n b s ver h Q := by
 refine ZR.of ?_
 unfold V5
 intro k7 a7 b7 h8 e8
 have E1 := E.made a7 b7 e8
 have g7 := E1.last
 have no : setB l n b s = false → ∀ h', Keep B h0 L h' → Q false h' := fun hn h' E' => by
  have h1 : setF l n b s ver = l := by rw [setF, hn]; rfl
  have h2 : L.set (i + 2) r = L := by
   obtain ⟨hl, rfl⟩ := List.getElem?_eq_some_iff.1 A.f.q
   exact List.set_getElem_self hl
  have := hQ r h' (by rw [h1]; exact R) (by rw [h2]; exact E')
  rw [hn] at this; exact this
 refine ⟨fun e => (by cases e), fun _ => ⟨_, _, ⟨zd g7 rfl, zd g7 rfl, trivial⟩, zkL fun h18 w => ?_⟩⟩
 have E2 := E1.wk w
 have g := E2.last
 refine ⟨fun hg => ?_, fun hg => ?_⟩
 ·have A2 : FAt (L ++ [some (k7, AObj.vec yG (zc [.bool b, .string s]) 2)]) (i + 1) kR v r := ⟨zO _ A.f.p, zO _ A.f.q⟩
  have hset : xA B (some ⟨kR, 0, none⟩) n b s ver h18 (fun b28 h27 => za B h27 ⟨k7, 0, none⟩ 0 [.bool b, .string s] ∧ Fin B h27 (Q b28)) := by
   refine zlv E2 A2 R (fun hn h' E' => ⟨⟨zd E'.last rfl, zd E'.last rfl, trivial⟩, Fin.of (no ?_ h' E'.pop)⟩) fun h1 h2 r' h' R' E' => ?_
   ·rw [setB, decide_eq_false hn, Bool.and_false]
   ·rw [List.set_append_left _ _ (List.getElem?_eq_some_iff.1 A.f.q).1] at E'
    have hb : setB l n b s = true := by rw [setB, hg, decide_eq_true ⟨h1, by omega⟩]; rfl
    have := hQ r' h' (by rw [setF, if_pos hb]; exact R') E'.pop
    rw [hb] at this
    exact ⟨⟨zd E'.last rfl, zd E'.last rfl, trivial⟩, Fin.of this⟩
  refine ⟨⟨zd g rfl, zd g rfl, trivial⟩, _, rfl, ⟨_, E2.cell i (zO _ A.p) rfl, _, _, ⟨zd g rfl, zd g rfl, trivial⟩, hset⟩, ⟨_, _, ⟨zd g rfl, zd g rfl, trivial⟩, _, E2.cell i (zO _ A.p) rfl, hset⟩⟩
 ·have hn : setB l n b s = false := by rw [setB, hg]; rfl
  exact ⟨⟨zd g rfl, zd g rfl, trivial⟩, Fin.of (no hn _ E2.pop), Fin.of (no hn _ E2.pop)⟩
theorem zd8 {n : Int} {Q : Bool → ByteArray → Int → Heap → Prop} (E : Keep B h0 L h) (A : zfB L i kT kR v r) (R : FRow r v l)
  (hQ : ∀ h', Keep B h0 L h' → Q (yl l n).1.1 (yl l n).1.2 (yl l n).2 h') : wV B (some ⟨kT, 0, none⟩) n h Q := by
 refine wV.of ?_
 unfold V4
 intro k6 a6 b6 h7 e7
 have E1 := E.made a6 b6 e7
 refine ⟨fun e => (by cases e), fun _ => ⟨_, rfl, _, E1.cell i (zO _ A.p) rfl, ?_⟩⟩
 refine zls E1 ⟨zO _ A.f.p, zO _ A.f.q⟩ R fun h15 E2 => ?_
 refine ⟨_, zv E2.last rfl (by simp) (by simp [isOne]) (by simp), ?_⟩
 have E3 := E2.putLast (.vec yG (zc [.bool (yl l n).1.1, .string (yl l n).1.2]) 2)
 exact ⟨_, _, ⟨zd E3.last rfl, zd E3.last rfl, trivial⟩, Fin.of (hQ _ E3.pop)⟩
theorem zlP {Q : Option Addr → Heap → Prop} (hQ : ∀ kT kR v r h', FRow r v (List.replicate 6 ((false, ByteArray.empty), 0)) → Keep B h (tomE kT kR v r) h' → Q (some ⟨kT, 0, none⟩) h') : Wa B h Q := by
 refine Wa.of ?_
 unfold zc4
 refine zlt (by decide) fun kR v r h2 R E => ?_
 intro k4 a4 b4 h5 e5
 have E1 := E.made a4 b4 e5
 exact Fin.of (hQ k4 kR v r h5 R (E1.sub3 2 0 1 rfl rfl rfl))
end
theorem zfs : slcB PG Wt = some (Ye, 1, 1) := by kernel_rfl
theorem zfv : zeroB PG Ye = some [.int .u8 0] := by kernel_rfl
theorem zgZ : slT PG Wt = true := by kernel_rfl
theorem TK.str : isStr PG zad = true := by kernel_rfl
theorem NilOK.one {y : Value} (h : NilOK y) : isOne y = true := by
 rcases h with ⟨g, a, b, rfl⟩ | ⟨l, a, b, rfl⟩ <;> rfl
structure wK (l : List (FileS × Int)) : Prop where
 n6 : l.length = 6
 good : ∀ x ∈ l, goodF x.1.1 x.1.2 = true
theorem wK.size {l : List (FileS × Int)} (k : wK l) : ∀ x ∈ l, x.1.2.size ≤ 32 := fun x hx => by
 have := k.good x hx
 unfold goodF at this
 simp only [Bool.and_eq_true, decide_eq_true_eq] at this
 exact this.1
theorem wK.zero : wK (List.replicate 6 ((false, ByteArray.empty), 0)) := ⟨rfl, fun x hx => by
 rw [List.mem_replicate] at hx
 rw [hx.2]; decide⟩
theorem wK.set {l : List (FileS × Int)} (k : wK l) (n : Int) (b : Bool) (s : ByteArray) (ver : Int) : wK (setF l n b s ver) := by
 refine ⟨by rw [zcV]; exact k.n6, fun x hx => ?_⟩
 unfold setF at hx
 split at hx
 ·rename_i h
  unfold setB at h
  rw [Bool.and_eq_true] at h
  rcases List.mem_or_eq_of_mem_set hx with h1 | h1
  ·exact k.good x h1
  ·rw [h1]; exact h.1
 ·exact k.good x hx
structure FSetR where
 i : Int
 b : Bool
 s : ByteArray
 v : Int
def FSetR.cells (x : FSetR) : List Value := [.int .i64 x.i, .bool x.b, .string x.s, .int .i64 x.v]
abbrev FL := List (FileS × Int)
def apF (l : FL) (x : FSetR) : FL := setF l x.i x.b x.s x.v
theorem wK.foldl {l : FL} (k : wK l) (sets : List FSetR) : wK (sets.foldl apF l) := by
 induction sets generalizing l with
 | nil => exact k
 | cons x t ih => exact ih (k.set x.i x.b x.s x.v)
theorem zdn : byteStr PG Wt zad = true := by kernel_rfl
section
variable {B : RO} {h : Heap}
theorem zdB {k : Nat} {x : Int} {u : UInt8} {K : Value → Heap → Prop} (hk : h k = some (.vec Ye (zc [.int .u8 x]) 1)) (hx : x = ((u.toNat : Nat) : Int)) (hK : K (.string (ba [u])) h) :
  semH PG B (convert Wt zad (.slice (some ⟨k, 0, none⟩) 1 1)) h K := by
 subst hx
 refine zdF zdn (W1 (e := Ye) (bs := [u]) (.inr ⟨k, 1, 1, 1, [], rfl, hk, rfl, by omega, by omega⟩) hK)
structure Item where
 kind : Int
 n : Int
 s : ByteArray
def Item.cells (x : Item) : List Value := [.int .i64 x.kind, .int .i64 x.n, .string x.s]
def Item.ok (x : Item) : Prop := -9223372036854775808 ≤ x.n ∧ x.n ≤ 9223372036854775807
def Item.bytes (x : Item) : List UInt8 :=
 if x.kind = 0 then natI x.n else if x.kind = 1 then natB (zig x.n) else if x.kind = 2 then bl x.s else if x.kind = 3 then natB x.s.size ++ bl x.s else []
end
def fileC (x : FileS × Int) : List Value := [.bool x.1.1, .string x.1.2]
theorem zjD (x : FileS × Int) : (fileC x).length = 2 := rfl
def zbS (l : FL) : List Value := l.flatMap fileC
theorem ZZ (l : FL) : (zbS l).length = l.length * 2 := zI zjD l
theorem Addr.add2 (A : Addr) (m n : Nat) : (A.add m).add n = A.add (m + n) := by
 unfold Addr.add
 by_cases hm : m = 0
 ·subst hm; simp
 ·by_cases hn : n = 0
  ·subst hn; simp
  ·simp [hm, hn, Nat.add_assoc]
theorem zfM (b : Bool) (s : ByteArray) : eqL [Value.bool b, Value.string s] [Value.bool b, Value.string s] = true := by
 have e : (s == s) = true := by cases s with | mk d => exact beq_self_eq_true d
 simp [eqL, VS, e]
theorem zct {b b' : Bool} {s s' : ByteArray} (h : eqL [Value.bool b, Value.string s] [Value.bool b', Value.string s'] = true) : (b, s) = (b', s') := by
 simp only [eqL, VS, Bool.and_eq_true, Bool.and_true] at h
 obtain ⟨h1, h2⟩ := h
 have e1 : b = b' := by simpa using h1
 have e2 : s = s' := by
  cases s with
  | mk d => cases s' with
   | mk d' =>
    have h3 : (d == d') = true := h2
    rw [eq_of_beq h3]
 rw [e1, e2]
def shtO (kf : Nat) : AObj := .vec zaJ (zc [.pointer (some ⟨kf, 0, none⟩)]) 1
def fO (f : FileS) : AObj := .vec yG (zc [.bool f.1, .string f.2]) 2
structure ShI where
 kT : Nat
 kR : Nat
 vt : Value
 rt : Option (Nat × AObj)
 ks : Nat
 kf : Nat
def ShI.m (x : ShI) (vd : Value) (rd : Option (Nat × AObj)) : List (Option (Nat × AObj)) := [some (x.kT, tomO x.kR), some (x.kR, frO x.vt), x.rt, some (x.ks, shtO x.kf), some (x.kf, xu vd), rd]
def getS (l : FL) (d : DFL) (n : Int) : FileS × Bool := match atD d n with
 | some f => (f, true)
 | none => ((yl l n).1, false)
theorem X4 {l : FL} {d : DFL} {n : Int} {f : FileS} (h : atD d n = some f) : getS l d n = (f, true) := by rw [getS, h]
theorem X3 {l : FL} {d : DFL} {n : Int} (h : atD d n = none) : getS l d n = ((yl l n).1, false) := by rw [getS, h]
def putS (l : FL) (d : DFL) (n : Int) (f : FileS) : DFL := if (getS l d n).1 = f then d else insD d n f
theorem zcM (l : FL) (d : DFL) (n m : Int) (f : FileS) : getS l (insD d n f) m = if m = n then (f, true) else getS l d m := by
 by_cases h : m = n
 ·rw [if_pos h]
  exact X4 (by rw [zca, if_pos h])
 ·rw [if_neg h]
  unfold getS
  rw [zca, if_neg h]
section
variable {B : RO} {h0 h h' : Heap} {L : List (Option (Nat × AObj))} {r rd : Option (Nat × AObj)} {i k : Nat} {a : Option Addr} {m c : Nat} {v vd : Value} {l : FL} {d : DFL} {n : Int} {x : ShI} {f : FileS}
theorem zcN {Q : Bool → ByteArray → Bool → Heap → Prop} (E : Keep B h0 L h) (A : ZQ L i k v r) (R : zV r v d) (s : SortD d) (hl : d.length ≤ 1000000)
  (hQ : ∀ h', Keep B h0 L h' → Q ((atD d n).getD (false, ByteArray.empty)).1 ((atD d n).getD (false, ByteArray.empty)).2 (atD d n).isSome h') : xH B (some ⟨k, 0, none⟩) n h Q := by
 refine xH.of ?_
 unfold Yw
 intro k6 a6 b6 h7 e7 k8 a8 b8 h9 e9
 have E1 := (E.start.nM a6 b6 e7).nM a8 b8 e9
 refine ⟨fun e => (by cases e), fun _ => Vg (i := i) E1 ⟨zO _ A.p, zO _ A.q⟩ R s hl fun p K => ⟨fun hf => ?_, fun hf => ?_⟩⟩
 ·obtain ⟨y, hy, rfl⟩ := WK hf
  have hpl := (List.getElem?_eq_some_iff.1 hy).1
  rw [zdX K hy rfl] at hQ
  obtain ⟨a, m, c, rfl⟩ := Row.slice R
  obtain ⟨rfl, hrd⟩ := Row.rd (B := B) R yY (by omega)
  obtain ⟨A', e1, _, e4⟩ := hrd h9 (fun k o e => E1.at (i + 1) (by rw [zO _ A.q, e])) p y hy
  obtain ⟨f1, f2, f3, _⟩ := e4
  refine ⟨_, rfl, .inl ⟨a, _, c, E1.cell i (zO _ A.p) rfl, A', e1, by omega, by omega, y.2.1, y.2.2, ⟨?_, ?_, trivial⟩, ?_⟩⟩
  ·rw [Int.toNat_natCast]; exact f2
  ·rw [Int.toNat_natCast, Addr.add2]; exact f3
  ·refine ⟨_, zv (E1.gM 0 rfl) rfl (by simp) (by simp [isOne]) (by simp), ?_⟩
   have E2 := E1.pM (o' := fO y.2) 0 rfl
   exact ⟨_, _, ⟨E2.cM 0 rfl (i := 0) rfl, E2.cM 0 rfl (i := 1) rfl, trivial⟩, Fin.of (hQ _ E2.zM)⟩
 ·rw [zdW s K hf] at hQ
  refine ⟨_, _, ⟨E1.cM 1 rfl (i := 0) rfl, E1.cM 1 rfl (i := 1) rfl, trivial⟩, _, zv (E1.gM 0 rfl) rfl (by simp) (by simp [isOne]) (by simp), ?_⟩
  have E2 := E1.pM (o' := fO (false, ByteArray.empty)) 0 rfl
  exact ⟨_, _, ⟨E2.cM 0 rfl (i := 0) rfl, E2.cM 0 rfl (i := 1) rfl, trivial⟩, Fin.of (hQ _ E2.zM)⟩
theorem VE {Q : Bool → ByteArray → Bool → Heap → Prop} (E : Keep B h0 (L ++ x.m vd rd) h) (R : FRow x.rt x.vt l) (Rd : zV rd vd d) (s : SortD d) (hd : d.length ≤ 1000)
  (hQ : ∀ h', Keep B h0 (L ++ x.m vd rd) h' → Q (getS l d n).1.1 (getS l d n).1.2 (getS l d n).2 h') : yL B (some ⟨x.ks, 0, none⟩) (some ⟨x.kT, 0, none⟩) n h Q := by
 refine yL.of ?_
 unfold Ve
 intro k7 a7 b7 h8 e8
 have E1 := E.nM a7 b7 e8
 refine ⟨fun e => (by cases e), fun _ => ⟨_, rfl, _, E1.cM 3 rfl (i := 0) rfl, ?_⟩⟩
 refine zcN (i := L.length + 4) E1 ⟨upM 4 rfl, upM 5 rfl⟩ Rd s (by omega) fun h27 E2 => ?_
 cases hat : atD d n with
 | some f =>
  rw [X4 hat] at hQ
  refine ⟨fun _ k34 a34 b34 h35 e35 => ?_, fun e => by cases e⟩
  have E3 := E2.nM a34 b34 e35
  refine ⟨_, zv (E3.gM 7 rfl) rfl (by simp) (by simp [isOne]) (by simp), ?_⟩
  have E4 := E3.pM (o' := fO f) 7 rfl
  refine ⟨_, _, ⟨E4.cM 7 rfl (i := 0) rfl, E4.cM 7 rfl (i := 1) rfl, trivial⟩, _, zv (E4.gM 6 rfl) rfl (by simp) (by simp [isOne]) (by simp), ?_⟩
  have E5 := E4.pM (o' := fO f) 6 rfl
  exact ⟨_, _, ⟨E5.cM 6 rfl (i := 0) rfl, E5.cM 6 rfl (i := 1) rfl, trivial⟩, Fin.of (hQ _ (E5.tM 6))⟩
 | none =>
  rw [X3 hat] at hQ
  refine ⟨fun e => (by cases e), fun _ k31 a31 b31 h32 e32 => ?_⟩
  have E3 := E2.nM a31 b31 e32
  refine ⟨_, zv (E3.gM 7 rfl) rfl (by simp) (by simp [isOne]) (by simp), Fin.of ?_⟩
  have E4 := (E3.pM (o' := fO (false, ByteArray.empty)) 7 rfl).tM 7
  unfold vZ
  refine zd8 (i := L.length) E4 ⟨upM 0 rfl, ⟨upM 1 rfl, upM 2 rfl⟩⟩ R fun h11 E5 => ?_
  intro k15 a15 b15 h16 e16
  have E6 := E5.nM a15 b15 e16
  refine ⟨_, zv (E6.gM 7 rfl) rfl (by simp) (by simp [isOne]) (by simp), ?_⟩
  have E7 := E6.pM (o' := fO (yl l n).1) 7 rfl
  refine ⟨_, _, ⟨E7.cM 7 rfl (i := 0) rfl, E7.cM 7 rfl (i := 1) rfl, trivial⟩, _, zv (E7.gM 6 rfl) rfl (by simp) (by simp [isOne]) (by simp), ?_⟩
  have E8 := E7.pM (o' := fO (yl l n).1) 6 rfl
  exact ⟨_, _, ⟨E8.cM 6 rfl (i := 0) rfl, E8.cM 6 rfl (i := 1) rfl, trivial⟩, Fin.of (hQ _ (E8.tM 6))⟩
theorem zlM {Q : Bool → Heap → Prop} (E : Keep B h0 (L ++ x.m vd rd) h) (R : FRow x.rt x.vt l) (Rd : zV rd vd d) (s : SortD d) (hd : d.length ≤ 1000) (hn : 0 ≤ n ∧ n < 6)
  (hQ : ∀ vd' rd' h', zV rd' vd' (putS l d n f) → Keep B h0 (L ++ x.m vd' rd') h' → Q true h') : yM B (some ⟨x.ks, 0, none⟩) (some ⟨x.kT, 0, none⟩) n f.1 f.2 h Q := by
 refine yM.of ?_
 unfold Xs
 intro k7 a7 b7 h8 e8
 have E1 : Keep B h0 ((some (k7, fO f) :: L) ++ x.m vd rd) h8 := by
  have := E.made a7 b7 e8
  refine this.remap (fun j => if j = 0 then (L ++ x.m vd rd).length else j - 1) (fun j y hy => ?_) (fun i j hi hj e => ?_)
  ·cases j with
   | zero =>
    simp only [List.cons_append, List.getElem?_cons_zero] at hy
    simp only [if_true]
    rw [List.getElem?_append_right (Nat.le_refl _), Nat.sub_self]; exact hy
   | succ j =>
    simp only [List.cons_append, List.getElem?_cons_succ] at hy
    simp only [Nat.add_one_ne_zero, if_false, Nat.add_sub_cancel]
    exact zO _ hy
  ·simp only [List.length_append, List.length_cons] at hi hj
   have e : (if i = 0 then (L ++ x.m vd rd).length else i - 1) = (if j = 0 then (L ++ x.m vd rd).length else j - 1) := e
   rw [List.length_append] at e
   split at e <;> split at e <;> omega
 refine ⟨fun e => (by cases e), fun _ => ⟨fun hlt => by omega, fun _ => ⟨fun hge => by omega, fun _ => Fin.of ?_⟩⟩⟩
 unfold YD
 refine VE E1 R Rd s hd fun h11 E2 => ?_
 intro k15 a15 b15 h16 e16
 have E3 := E2.nM a15 b15 e16
 refine ⟨_, zv (E3.gM 6 rfl) rfl (by simp) (by simp [isOne]) (by simp), ?_⟩
 have E4 := E3.pM (o' := fO (getS l d n).1) 6 rfl
 refine ⟨_, _, ⟨E4.cM 6 rfl (i := 0) rfl, E4.cM 6 rfl (i := 1) rfl, trivial⟩, _, _, ⟨E4.cell 0 rfl (j := 0) rfl, E4.cell 0 rfl (j := 1) rfl, trivial⟩, fun he => ?_, fun hne => ?_⟩
 ·have hf : (getS l d n).1 = f := zct he
  unfold putS at hQ
  rw [if_pos hf] at hQ
  refine Fin.of (hQ vd rd _ Rd ?_)
  have E5 : Keep B h0 (some (k7, fO f) :: (L ++ x.m vd rd)) _ := E4.tM 6
  exact E5.remap (fun j => j + 1) (fun j y hy => by simpa using hy) (fun i j _ _ e => by simpa using e)
 ·have hf : ¬ (getS l d n).1 = f := fun e => hne (by rw [← e]; exact zfM _ _)
  unfold putS at hQ
  rw [if_neg hf] at hQ
  refine ⟨_, rfl, _, E4.cM 3 rfl (i := 0) rfl, _, _, ⟨E4.cell 0 rfl (j := 0) rfl, E4.cell 0 rfl (j := 1) rfl, trivial⟩, ?_⟩
  refine zcT (i := (some (k7, fO f) :: L).length + 4) E4 ⟨upM 4 rfl, upM 5 rfl⟩ Rd s (by omega) fun v' r' h65 R' E5 => ?_
  rw [setM, show (some (k7, fO f) :: L).length + 4 + 1 = (some (k7, fO f) :: L).length + 5 from rfl, setM] at E5
  refine ⟨E5.cM 3 rfl (i := 0) rfl, ⟨E5.cell 0 rfl (j := 0) rfl, E5.cell 0 rfl (j := 1) rfl, trivial⟩, Fin.of (hQ v' r' _ R' ?_)⟩
  have E6 : Keep B h0 (some (k7, fO f) :: (L ++ x.m v' r')) _ := E5.tM 6
  exact E6.remap (fun j => j + 1) (fun j y hy => by simpa using hy) (fun i j _ _ e => by simpa using e)
end
section
variable {B : RO} {h0 h h' : Heap} {L : List (Option (Nat × AObj))} {r rd : Option (Nat × AObj)} {v vd : Value} {l z : FL} {d : DFL} {n : Int} {x : ShI} {f : FileS} {from' tj : Int}
theorem zlz {b : Bool} {s : ByteArray} {Q : Bool → ByteArray → Heap → Prop} (hQ : ∀ h', Wk B h h' → Q true s h') : Xu B b s h Q := by
 refine Xu.of ?_
 unfold zcj
 intro k5 a5 b5 h6 e6 k7 a7 b7 h8 e8
 have E := ((Keep.nil B h).made a5 b5 e6).made a7 b7 e8
 refine ⟨_, E.cell 0 rfl rfl, _, zv E.last rfl (by simp) (by simp [isOne]) (by simp), ?_⟩
 have E1 := E.putLast (fO (true, s))
 exact ⟨_, _, ⟨zd E1.last rfl, zd E1.last rfl, trivial⟩, Fin.of (hQ _ E1.w)⟩
theorem zly {Q : Bool → Heap → Prop} (hQ : Q (decide (0 ≤ n ∧ n ≤ 5)) h) : zP B n h Q := by
 refine zP.of ?_
 unfold XQ
 refine ⟨fun h1 => Fin.of ?_, fun h1 => Fin.of ?_⟩
 ·have : decide (0 ≤ n ∧ n ≤ 5) = decide (n ≤ 5) := by simp; omega
  rw [this] at hQ; exact hQ
 ·rw [decide_eq_false (by omega)] at hQ; exact hQ
end
theorem zf8 {P : Program} {B : RO} {h : Heap} {src dst e : TypeId} {s : ByteArray} {K : Value → Heap → Prop} (h1 : P.underlying src = some .string) (h2 : P.underlying dst = some (.slice e)) (h3 : P.underlying e = some (.int .u8)) (he : e = 5)
  (hk : ∀ k c nn js, h k = none → B k = none → s.size ≤ c → c ≤ nn → K (.slice (some ⟨k, 0, none⟩) s.size c) (h.set k (.vec e (zc ((bl s).map byteV ++ js)) nn))) : semH P B (convert src dst (.string s)) h K := by
 unfold convert
 rw [ya h1, ya h2]
 simp only
 rw [ya h3]
 show semH P B (Conv.stringToBytes e s) h K
 unfold Conv.stringToBytes
 refine zay rfl fun q => ?_
 have hcut : s.size ≤ (Question.appendCap s.size 0 e).cut q := by simp [Question.cut]
 generalize (Question.appendCap s.size 0 e).cut q = c at hcut
 refine Zf fun b hb1 hb2 => ?_
 have e1 : ((s.data.map fun b => (Value.int .u8 b.toNat)) ++ Array.replicate (c - s.size) (Value.int .u8 0)).toList = (bl s).map byteV ++ List.replicate (c - s.size) (.int .u8 0) := by
  simp [bl, byteV]
 have e2 : ((s.data.map fun b => (Value.int .u8 b.toNat)) ++ Array.replicate (c - s.size) (Value.int .u8 0)).size = c := by
  simp only [Array.size_append, Array.size_map, Array.size_replicate]
  have : s.data.size = s.size := rfl
  omega
 rw [e1, e2, zS]
 unfold markStringish
 rw [zS]
 refine ⟨some (e, c), by simp [ZC, Heap.set_same], ?_⟩
 refine ⟨⟨e, _, c, Heap.set_same _ _ _, Nat.le_refl _, he⟩, by omega, ?_⟩
 exact hk b c c _ hb1 hb2 hcut (Nat.le_refl _)
theorem ziz : PG.underlying zad = some .string := by kernel_rfl
theorem zfu : PG.underlying Wt = some (.slice Ye) := by kernel_rfl
theorem zjr : PG.underlying Ye = some (.int .u8) := by kernel_rfl
def padT (n : Nat) (l : List UInt8) : List UInt8 := l ++ List.replicate (n - l.length) 0
theorem zbk (n : Nat) (l : List UInt8) : (padT n l).length = max l.length n := by simp [padT]; omega
theorem zai {n : Nat} {l : List UInt8} (h : n ≤ l.length) : padT n l = l := by
 unfold padT; rw [show n - l.length = 0 by omega]; simp
theorem zjM {n : Nat} {l : List UInt8} (h : l.length ≤ n) : padT n l ++ [0] = padT (n + 1) l := by
 unfold padT; rw [show n + 1 - l.length = n - l.length + 1 by omega, List.replicate_succ', List.append_assoc]
theorem zfX {n i : Nat} {l : List UInt8} (h : i < max l.length n) : (padT n l)[i]? = some ((l[i]?).getD 0) := by
 unfold padT
 by_cases hi : i < l.length
 ·rw [List.getElem?_append_left hi, List.getElem?_eq_getElem hi]; rfl
 ·rw [List.getElem?_append_right (by omega), List.getElem?_replicate, if_pos (by omega), List.getElem?_eq_none (by omega)]; rfl
def putT (l : List UInt8) (k : Nat) (c : UInt8) : List UInt8 := (padT (k + 1) l).set k c
def putF (f : FileS) (at' : Int) (c : UInt8) : FileS := if 0 ≤ at' ∧ at' < 32 then (true, ba (putT (bl f.2) at'.toNat c)) else f
def cutT (l : List UInt8) (n : Nat) : List UInt8 := (padT n l).take n
def cutF (f : FileS) (n : Int) : FileS := if f.1 = true ∧ 0 ≤ n ∧ n ≤ 32 then (true, ba (cutT (bl f.2) n.toNat)) else f
theorem zfJ (l : List UInt8) (n : Nat) : (cutT l n).length = n := by unfold cutT; rw [List.length_take, zbk]; omega
theorem zfZ (l : List UInt8) (k : Nat) (c : UInt8) : (putT l k c).length = max l.length (k + 1) := by unfold putT; rw [List.length_set, zbk]
def WX (l : List UInt8) (i : Nat) : UInt8 := (l[i]?).getD 0
theorem zkR {l : List UInt8} {k i : Nat} {c : UInt8} (h : i < max l.length (k + 1)) : (putT l k c)[i]? = some (if i = k then c else WX l i) := by
 unfold putT
 by_cases e : i = k
 ·subst e
  rw [if_pos rfl, List.getElem?_set_self (by rw [zbk]; exact h)]
 ·rw [if_neg e, List.getElem?_set_ne (fun x => e x.symm), zfX h]; rfl
theorem zkC {l : List UInt8} {n i : Nat} (h : i < n) : (cutT l n)[i]? = some (WX l i) := by
 unfold cutT
 rw [List.getElem?_take, if_pos h, zfX (by omega)]; rfl
theorem zfS (l : List UInt8) : l.map byteV = l.flatMap fun c => [byteV c] := by induction l with | nil => rfl | cons c l ih => simp [ih]
section
variable {B : RO} {h h0 : Heap} {L : List (Option (Nat × AObj))} {b : Bool} {s : ByteArray}
def fiO (f : FileS) : AObj := .vec yG (zc [.bool f.1, .string f.2]) 2
def frfO (f : FileS) : AObj := .vec VO (zc [.bool f.1, .string f.2]) 2
theorem zlu {at' v : Int} {c : UInt8} (hv : v = ((c.toNat : Nat) : Int)) (hs : s.size ≤ 1000000) {Q : Bool → ByteArray → Heap → Prop} (hQ : ∀ h', Wk B h h' → Q (putF (b, s) at' c).1 (putF (b, s) at' c).2 h') : X9 B b s at' v h Q := by
 refine X9.of ?_
 unfold zc3
 intro k7 a7 b7 h8 e8 k9 a9 b9 h10 e10
 have E := ((Keep.nil B h).made a7 b7 e8).made a9 b9 e10
 have E : Keep B h [some (k7, fiO (b, s)), some (k9, fiO (false, ByteArray.empty))] h10 := E
 have done : ¬ (0 ≤ at' ∧ at' < 32) → ∃ b45 : Bool, ∃ s46 : ByteArray, za B h10 ⟨k7, 0, none⟩ 0 [(.bool b45), (.string s46)] ∧ ∃ h47 : Heap, zi ⟨k9, 0, none⟩ h10 0 [(.bool b45), (.string s46)] h47 ∧
   ∃ b48 : Bool, ∃ s49 : ByteArray, za B h47 ⟨k9, 0, none⟩ 0 [(.bool b48), (.string s49)] ∧ Fin B h47 (Q (b48) s49) := fun hn => by
  unfold putF at hQ
  rw [if_neg hn] at hQ
  refine ⟨b, s, ⟨E.cell 0 rfl (j := 0) rfl, E.cell 0 rfl (j := 1) rfl, trivial⟩, _, zv (E.at 1 rfl) rfl (by simp) (by simp [isOne]) (by simp), ?_⟩
  have E1 := E.put (o' := fiO (b, s)) 1 rfl
  exact ⟨_, _, ⟨E1.cell 1 rfl (j := 0) rfl, E1.cell 1 rfl (j := 1) rfl, trivial⟩, Fin.of (hQ _ E1.w)⟩
 refine ⟨fun hlt => done (by omega), fun hge => ⟨fun h32 => done (by omega), fun hlt => Fin.of ?_⟩⟩
 clear done
 have hin : 0 ≤ at' ∧ at' < 32 := by omega
 obtain ⟨k, rfl⟩ := Int.eq_ofNat_of_zero_le hin.1
 unfold putF at hQ
 rw [if_pos hin, Int.toNat_natCast] at hQ
 unfold W5
 refine ⟨s, E.cell 0 rfl (j := 1) rfl, zf8 ziz zfu zjr rfl fun kr c0 nn js hk1 hk2 hc1 hc2 => ⟨_, _, _, rfl, ?_⟩⟩
 have E1 := E.new (o := .vec Ye (zc ((bl s).map byteV ++ js)) nn) hk1 hk2
 have R1 : Row (some (kr, .vec Ye (zc ((bl s).map byteV ++ js)) nn)) (.slice (some ⟨kr, 0, none⟩) s.size c0) Ye 1 ((bl s).map byteV) := .inr ⟨kr, s.size, c0, nn, js, rfl, rfl, by simp [wr], hc1, by omega⟩
 refine ⟨fun a n c m h' => ∃ r l, Row r (.slice a n c) Ye 1 (l.map byteV) ∧ l.length = n ∧ l = padT n (bl s) ∧ s.size ≤ n ∧ n ≤ max s.size (k + 1) ∧ m = k + 1 - n ∧ Keep B h [some (k7, fiO (b, s)), some (k9, fiO (false, ByteArray.empty)), r] h', k + 1 - s.size, Fin.of ⟨_, bl s, R1, wr s, (zai (by rw [wr]; omega)).symm, by omega, by omega, rfl, E1⟩, ?_⟩
 clear E1 R1 E
 rintro a n c1 _ h34 ⟨r, l, R, hl, hp, hn1, hn2, rfl, E⟩
 refine ⟨fun hle k39 hk1 hk2 h40 e40 => ?_, fun hgt => Fin.of ?_⟩
 ·refine E.push1 2 rfl R zfs zfv rfl (by omega) (by omega) zgZ (ys := [.int .u8 0]) rfl (by simp [isOne]) (by simp; omega) hk1 hk2 e40 fun a' m' c' r' h'' R' E' => ⟨_, _, _, rfl, Fin.of ?_⟩
  have e1 : m' = n + 1 := by
   have := R'.len
   simp only [List.length_append, List.length_map, List.length_cons, List.length_nil] at this
   omega
  subst e1
  refine ⟨k + 1 - (n + 1), by omega, r', l ++ [0], ?_, by simp [hl], by rw [← zjM (by rw [wr]; omega), ← hp], by omega, by omega, rfl, E'⟩
  rw [List.map_append]; exact R'
 ·have hkn : k < n := by omega
  have hn3 : n = max s.size (k + 1) := by omega
  unfold W6
  rw [zfS] at R
  obtain ⟨A, h25, r', ea, st, R', E2⟩ := E.rowSet 2 rfl R (fun _ => rfl) (by omega) k (by omega) c (by simp [byteV, isOne])
  refine ⟨A, ea, by omega, by omega, h25, ?_, ?_⟩
  ·obtain ⟨_, w, e1, e2⟩ := st
   obtain rfl : h25 = w := e2
   rw [Int.toNat_natCast, hv]; exact e1
  ·rw [← zfS] at R'
   have e3 : l.set k c = putT (bl s) k c := by
    unfold putT
    rw [hp, hn3]
    by_cases e4 : s.size ≤ k + 1
    ·rw [Nat.max_eq_right e4]
    ·rw [Nat.max_eq_left (by omega), zai (by rw [wr]; omega), zai (by rw [wr]; omega)]
   rw [e3] at R'
   refine zdF zdn (W1 (E2.sl 2 rfl R') ⟨_, rfl, _, zv (E2.at 1 rfl) rfl (by simp) (by simp [isOne]) (by simp), ?_⟩)
   have E3 := E2.put (o' := fiO (true, ba (putT (bl s) k c))) 1 rfl
   exact ⟨_, _, ⟨E3.cell 1 rfl (j := 0) rfl, E3.cell 1 rfl (j := 1) rfl, trivial⟩, Fin.of (hQ _ E3.w)⟩
end
theorem zdo : slcB PG WW = some (xO, 2, 16) := by kernel_rfl
theorem zcH : zeroB PG xO = some [.int .i64 0, .int .i64 0] := by kernel_rfl
theorem zdS : slT PG WW = true := by kernel_rfl
def xa (x : Int × Int) : List Value := [.int .i64 x.1, .int .i64 x.2]
theorem xv (x : Int × Int) : (xa x).length = 2 := rfl
def xQ (l : List (Int × Int)) : AObj := .vec Ws [.own xO 2 (l.flatMap xa)] 1
def Z5 (h : Heap) (b : Nat) (a : Option Addr) (m c : Nat) (l : List (Int × Int)) : Prop := FP h b 0 xO 2 (l.flatMap xa) a m c
def VG (h : Heap) (b : Nat) (l : List (Int × Int)) : Prop := FV h b 0 xO 2 (l.flatMap xa)
theorem Ww {h : Heap} {b : Nat} {l : List (Int × Int)} (hb : h b = some (xQ l)) : VG h b l := .inl ⟨_, _, _, hb, rfl⟩
theorem Z5.v {h : Heap} {b m c : Nat} {a : Option Addr} {l : List (Int × Int)} (R : Z5 h b a m c l) : VG h b l := FP.fv R
def ze (l : List (Int × Int)) (i : Int) : Int × Int := if 0 ≤ i then (l[i.toNat]?).getD (0, 0) else (0, 0)
section
variable {B : RO} {h : Heap} {b : Nat} {a : Option Addr} {m c : Nat} {l : List (Int × Int)}
theorem we.row_int {v : Value} {h1 : Heap} (ho : we B h b Ws [.own xO 2 (l.flatMap xa)] 1 0 xO 2 (l.flatMap xa) v h1) : ∃ a m c, v = .slice a m c ∧ Z5 h1 b a m c l := by
 obtain ⟨a, m, c, rfl⟩ := ho.slice
 exact ⟨a, m, c, rfl, ⟨_, _, _, ho.blk, rfl⟩, ho.row⟩
theorem Z5.len (R : Z5 h b a m c l) : m = l.length := (R.2.reads (B := fun _ => none) xv (by omega)).1
theorem Z5.at (R : Z5 h b a m c l) : ∀ i x, l[i]? = some x → ∃ A, a = some A ∧ za B h (A.add (i * 2)) 0 (xa x) := fun i x hx =>
 let ⟨A, e, _, q⟩ := (R.2.reads (B := B) xv (by omega)).2 i x hx
 ⟨A, e, q⟩
theorem ze6 {i : Int} (h0 : 0 ≤ i) (h1 : i.toNat < l.length) : ze l i = l[i.toNat] := by
 rw [ze, if_pos h0, List.getElem?_eq_getElem h1]; rfl
theorem Xi {i : Int} (hn : ¬ (0 ≤ i ∧ i < (l.length : Int))) : ze l i = (0, 0) := by
 unfold ze
 split
 ·rw [List.getElem?_eq_none (by omega)]; rfl
 ·rfl
theorem zkN {i : Int} {Q : Bool → Heap → Prop} (R : Z5 h b a m c l) (hQ : Q (decide (0 ≤ i ∧ i < (l.length : Int))) h) : xY B (some ⟨b, 0, none⟩) i h Q := by
 refine xY.of ?_
 unfold Xp
 have hm := R.len
 refine ⟨(fun e => by cases e), fun _ => ⟨fun h0 => ⟨_, rfl, .inl ⟨a, m, c, R.1.cell, Fin.of ?_⟩⟩, fun h0 => Fin.of ?_⟩⟩
 ·have : decide (i < (m : Int)) = decide (0 ≤ i ∧ i < (l.length : Int)) := by
   rw [decide_eq_decide, hm]; exact ⟨fun x => ⟨by omega, x⟩, fun x => x.2⟩
  rw [this]; exact hQ
 ·rw [decide_eq_false (by omega)] at hQ; exact hQ
theorem zjG {i : Int} {Q : Int → Int → Heap → Prop} (R : Z5 h b a m c l) (hQ : Q (ze l i).1 (ze l i).2 h) : xg B (some ⟨b, 0, none⟩) i h Q := by
 refine xg.of ?_
 unfold WP
 have hm := R.len
 refine zkN R ⟨fun hT => ?_, fun hF => Fin.of ?_⟩
 ·rw [decide_eq_true_eq] at hT
  have hi : i.toNat < l.length := by omega
  rw [ze6 hT.1 hi] at hQ
  obtain ⟨A, e, q⟩ := R.at (B := B) i.toNat _ (List.getElem?_eq_getElem hi)
  refine ⟨_, rfl, a, m, c, R.1.cell, A, e, hT.1, by omega, _, q.1, _, rfl, a, m, c, R.1.cell, A, e, hT.1, by omega, _, q.2.1, Fin.of hQ⟩
 ·rw [decide_eq_false_iff_not] at hF
  rw [Xi hF] at hQ
  exact hQ
theorem Vw {i : Int} {Q : Int → Int → Heap → Prop} (hv : VG h b l) (hQ : Q (ze l i).1 (ze l i).2 h) : xg B (some ⟨b, 0, none⟩) i h Q := by
 refine FV.spec hv fun a m c h1 sh => ?_
 exact Spec.fin (Spec.mono (zjG (Q := fun x y h' => Fin B h' (Q x y)) sh.1 (Fin.ent sh.2.1 (Fin.of hQ))) fun v h' ⟨x, y, e, q⟩ => q.imp fun h'' q' => ⟨x, y, e, q'⟩)
theorem zeb {i : Int} {Q : Int → Heap → Prop} (hb : VG h b l) (hQ : Q (ze l i).2 h) : ww B (some ⟨b, 0, none⟩) i h Q := by
 refine ww.of ?_
 unfold XB
 exact Vw hb (Fin.of hQ)
theorem zjI {i : Int} {Q : Bool → Heap → Prop} (hb : VG h b l) (hQ : Q (decide (0 ≤ i ∧ i < (l.length : Int))) h) : xY B (some ⟨b, 0, none⟩) i h Q := by
 refine xY.of ?_
 unfold Xp
 refine ⟨(fun e => by cases e), fun _ => ⟨fun h0 => ⟨_, rfl, FV.ld hb fun a m c h1 sh => Fin.ent sh.2.1 (Fin.of ?_)⟩, fun h0 => Fin.of ?_⟩⟩
 ·have hm := Z5.len sh.1
  have : decide (i < (m : Int)) = decide (0 ≤ i ∧ i < (l.length : Int)) := by
   rw [decide_eq_decide, hm]; exact ⟨fun x => ⟨by omega, x⟩, fun x => x.2⟩
  rw [this]; exact hQ
 ·rw [decide_eq_false (by omega)] at hQ; exact hQ
theorem zcw {α : Type} {cells : α → List Value} (x : α) : ∀ (l : List α) (i : Nat) (hi : i < l.length), (l.set i x).flatMap cells = (l.take i).flatMap cells ++ cells x ++ (l.drop (i + 1)).flatMap cells
 | [], i, hi => by simp at hi
 | y :: l, 0, _ => by simp
 | y :: l, i + 1, hi => by
  simp only [List.set_cons_succ, List.flatMap_cons, List.take_succ_cons, List.drop_succ_cons]
  rw [zcw x l i (by simpa using hi)]
  simp [List.append_assoc]
theorem ze7 {α : Type} {cells : α → List Value} (l : List α) (i : Nat) (hi : i < l.length) : l.flatMap cells = (l.take i).flatMap cells ++ (cells l[i] ++ (l.drop (i + 1)).flatMap cells) := by
 conv => lhs; rw [← List.take_append_drop i l, List.drop_eq_getElem_cons hi]
 rw [List.flatMap_append, List.flatMap_cons]
theorem zdJ {i : Int} {x : Int} {v : Int} {Q : Bool → Heap → Prop} (hb : h b = some (xQ l))
  (hT : 0 ≤ i → i.toNat < l.length → Q true (h.set b (xQ (l.set i.toNat (x, v))))) (hF : ¬ (0 ≤ i ∧ i < (l.length : Int)) → Q false h) : wE B (some ⟨b, 0, none⟩) i x v h Q := by
 refine wE.of ?_
 unfold WQ
 refine zjI (Ww hb) ⟨fun hD => ?_, fun hD => Fin.of (hF (by simpa using hD))⟩
 rw [decide_eq_true_eq] at hD
 have hi : i.toNat < l.length := by omega
 refine ⟨_, rfl, .inr ⟨_, _, _, _, _, _, rfl, hb, rfl, fun a m c h1 ho => ?_⟩⟩
 obtain ⟨a', m', c', e, R⟩ := ho.row_int
 cases e
 have hm := R.len
 have hbk := ho.blk
 rcases R.2 with ⟨e1, e2⟩ | ⟨k, m2, c2, nn, js, e1, e2, e3, e4, e5⟩
 ·have := zI xv l
  rw [e2] at this; simp at this; omega
 ·cases e1
  have hlen := zI xv (l.take i.toNat)
  rw [List.length_take, Nat.min_eq_left (by omega)] at hlen
  rw [ze7 l _ hi, List.append_assoc, List.append_assoc] at e2
  have hall := zI xv l
  obtain ⟨h', s1, _, s3⟩ := zi.over (xa (x, v)) h1 (i.toNat * 2) 0 _ _ (by simp [xa, isOne]) e2 (by rw [hlen]; omega) (by rw [xv]; omega)
  have s3 := s3 (by simp [xa])
  have hadd : Addr.add ⟨k, 0, none⟩ (i.toNat * 2) = ⟨k, i.toNat * 2, none⟩ := by
   unfold Addr.add; split
   ·rename_i hz; rw [hz]
   ·simp
  refine ⟨⟨k, 0, none⟩, rfl, hD.1, by omega, h', by rw [hadd]; exact s1, ?_⟩
  have hdrop : (xa l[i.toNat] ++ ((l.drop (i.toNat + 1)).flatMap xa ++ js)).drop (xa (x, v)).length = (l.drop (i.toNat + 1)).flatMap xa ++ js := by
   rw [xv, ← xv l[i.toNat], List.drop_left]
  rw [hdrop, ← List.append_assoc, ← zcw (cells := xa) (x, v) l _ hi] at s3
  have hkb : k ≠ b := (ho.new k _ _ rfl).2
  have hset : ((l.set i.toNat (x, v)).flatMap xa).length = (l.flatMap xa).length := by
   rw [zI xv, zI xv, List.length_set]
  have hcl := Ent.close_row (B := B) (h0 := h) (h := h') (b := b) (n := 1) (i := 0) (t := Ws) (e := xO) (sz := 2) (fs := zc [Value.slice (some ⟨k, 0, none⟩) m c]) (v := .slice (some ⟨k, 0, none⟩) m c) (xs := (l.set i.toNat (x, v)).flatMap xa)
   (by
    intro c' o hc' hh
    rw [s3, Heap.set_ne _ _ _ _ (fun e => by
     have := (ho.new k _ _ rfl).1
     rw [e, this] at hh; cases hh)]
    exact ho.sub c' o hc' hh)
   (by rw [s3, Heap.set_ne _ _ _ _ (Ne.symm hkb)]; exact hbk)
   rfl
   (.inr ⟨k, m, c, nn, js, rfl, by rw [s3, Heap.set_same], by rw [hset]; exact e3, e4, e5⟩)
   (fun k' m' c' e => ho.new k' m' c' e)
  exact Fin.ent hcl (Fin.of (hT hD.1 hi))
theorem zdx {n : Int} {x : Int} {Q : Option Addr → Heap → Prop} (hn : n ≤ 1000000) (hQ : ∀ k, h k = none → B k = none → Q (some ⟨k, 0, none⟩) (h.set k (xQ (List.replicate n.toNat (x, 0))))) : Zj B n x h Q := by
 refine Zj.of ?_
 unfold zaC
 intro k a1 b1 h5 e5
 obtain ⟨g5, -, -⟩ := Heap.made a1 e5
 have hcl : Ent B h5 (h.set k (xQ [])) := by
  have := Ent.close_nil (B := B) (e := xO) (sz := 2) (i := 0) g5 rfl
  rw [e5, Heap.set_set] at this
  rw [e5]
  exact this
 refine ⟨fun i m h' => ∃ j : Nat, (j : Int) ≤ max n 0 ∧ i = j ∧ m = n.toNat - j ∧ h' = h.set k (xQ (List.replicate j (x, 0))), n.toNat, Fin.ent hcl (Fin.of ⟨0, by omega, rfl, by omega, rfl⟩), ?_⟩
 rintro _ _ _ ⟨j, hj, rfl, rfl, rfl⟩
 refine ⟨fun hlt => ?_, fun hge => ?_⟩
 ·have hl := zI xv (List.replicate j (x, (0 : Int)))
  rw [List.length_replicate] at hl
  refine zlh (len := 1) (ys := xa (x, 0)) zdo zcH rfl (by omega) (by omega) zdS (Heap.set_same _ _ _) rfl rfl (by simp [xa, isOne]) (by rw [hl, xv]; omega) ?_
  intro a' n' c' h3 h4 s1 s2
  refine ⟨a', n', c', rfl, h4, s1, Fin.ent s2 (Fin.of ⟨n.toNat - (j + 1), by omega, j + 1, by omega, ?_, rfl, ?_⟩)⟩
  ·rw [w64 (by omega) (by omega)]; omega
  ·rw [Heap.set_set]
   unfold xQ
   rw [List.replicate_succ', List.flatMap_append]
   simp
 ·have : j = n.toNat := by omega
  subst this
  exact Fin.of (hQ k a1 b1)
end
end Go.Proofs.YtgldgabefiialaaGreat.H
