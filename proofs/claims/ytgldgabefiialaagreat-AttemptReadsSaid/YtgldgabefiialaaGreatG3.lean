/- What the law's proof stands on, part 3. No condition. -/
import Derived.Test.YtgldgabefiialaaGreatProg
import Derived.KernelRfl
import Derived.Test.YtgldgabefiialaaGreatG2
namespace Go.Proofs.YtgldgabefiialaaGreat.H
open Go
set_option linter.unusedVariables false
set_option maxRecDepth 100000
set_option maxHeartbeats 4000000
noncomputable abbrev PG : Program := Go.Proofs.Tryz.prog
abbrev TY.int : TypeId := 3
abbrev zhj : TypeId := 4
abbrev Ye : TypeId := 5
abbrev zad : TypeId := 9
abbrev Zd : TypeId := 26
abbrev Vf : TypeId := 29
abbrev ye : TypeId := 31
abbrev xD : TypeId := 32
abbrev V1 : TypeId := 34
abbrev zE : TypeId := 38
abbrev zdU : TypeId := 40
abbrev zdr : TypeId := 43
abbrev vL : TypeId := 45
abbrev yj : TypeId := 48
abbrev VO : TypeId := 51
abbrev zw : TypeId := 55
abbrev y1 : TypeId := 56
abbrev y3 : TypeId := 65
abbrev v7 : TypeId := 91
abbrev XH : TypeId := 95
abbrev zfw : TypeId := 100
abbrev zbO : TypeId := 107
abbrev ze5 : TypeId := 110
abbrev yG : TypeId := 119
abbrev zfx : TypeId := 128
abbrev wN : TypeId := 132
abbrev VR : TypeId := 135
abbrev zfz : TypeId := 137
abbrev zbN : TypeId := 144
abbrev ze4 : TypeId := 147
abbrev zfy : TypeId := 152
abbrev ziB : TypeId := 156
abbrev wC : TypeId := 157
abbrev zcr : TypeId := 160
abbrev ZY : TypeId := 163
abbrev YH : TypeId := 164
abbrev zbP : TypeId := 166
abbrev xO : TypeId := 169
abbrev WW : TypeId := 170
abbrev Ws : TypeId := 172
abbrev Ys : TypeId := 174
abbrev zcI : TypeId := 181
abbrev zfA : TypeId := 184
abbrev zaJ : TypeId := 204
abbrev vN : TypeId := 205
abbrev VQ : TypeId := 207
abbrev xC : TypeId := 213
abbrev Yd : TypeId := 216
abbrev Y8 : TypeId := 217
abbrev zaI : TypeId := 219
abbrev Wt : TypeId := 226
theorem zaR : aggB PG 105 = some false := by kernel_rfl
theorem zaS : aggB PG 110 = some false := by kernel_rfl
theorem zD : aggB PG 119 = some true := by kernel_rfl
theorem Vh : aggB PG 135 = some false := by kernel_rfl
theorem zhy : aggB PG 149 = some true := by kernel_rfl
theorem Wi : aggB PG 157 = some false := by kernel_rfl
theorem zaT : aggB PG 163 = some true := by kernel_rfl
theorem Wj : aggB PG 164 = some false := by kernel_rfl
theorem Wl : aggB PG 170 = some false := by kernel_rfl
theorem zc5 : aggB PG 174 = some true := by kernel_rfl
theorem zaU : aggB PG 182 = some false := by kernel_rfl
theorem Wm : aggB PG 205 = some false := by kernel_rfl
theorem zaV : aggB PG 213 = some true := by kernel_rfl
theorem Wn : aggB PG 217 = some false := by kernel_rfl
theorem ZU : aggB PG 26 = some true := by kernel_rfl
theorem yE : aggB PG 29 = some false := by kernel_rfl
theorem zx : aggB PG 3 = some false := by kernel_rfl
theorem zbB : aggB PG 30 = some false := by kernel_rfl
theorem zed : aggB PG 31 = some false := by kernel_rfl
theorem V6 : aggB PG 32 = some false := by kernel_rfl
theorem ZV : aggB PG 38 = some true := by kernel_rfl
theorem XV : aggB PG 39 = some false := by kernel_rfl
theorem VL : aggB PG 4 = some false := by kernel_rfl
theorem Za : aggB PG 40 = some false := by kernel_rfl
theorem Yy : aggB PG 41 = some false := by kernel_rfl
theorem zee : aggB PG 48 = some true := by kernel_rfl
theorem zfj : aggB PG 5 = some false := by kernel_rfl
theorem yQ : aggB PG 51 = some true := by kernel_rfl
theorem zbC : aggB PG 52 = some true := by kernel_rfl
theorem Y4 : aggB PG 55 = some true := by kernel_rfl
theorem zbD : aggB PG 56 = some true := by kernel_rfl
theorem XW : aggB PG 65 = some true := by kernel_rfl
theorem zbE : aggB PG 69 = some false := by kernel_rfl
theorem zbF : aggB PG 88 = some false := by kernel_rfl
theorem yV : aggB PG 9 = some false := by kernel_rfl
theorem XX : aggB PG 91 = some false := by kernel_rfl
theorem Yz : aggB PG 92 = some false := by kernel_rfl
theorem zbG : aggB PG 93 = some false := by kernel_rfl
theorem XY : aggB PG 95 = some true := by kernel_rfl
theorem zhz : arrB PG 130 = some (6, 4, 1, false) := by kernel_rfl
theorem zc6 : arrB PG 156 = some (9, 3, 1, false) := by kernel_rfl
theorem Y5 : arrB PG 26 = some (4, 3, 1, false) := by kernel_rfl
theorem Y6 : arrB PG 49 = some (8, 3, 1, false) := by kernel_rfl
theorem ZW : arrB PG 52 = some (6, 51, 2, true) := by kernel_rfl
theorem Zb : arrB PG 53 = some (3, 3, 1, false) := by kernel_rfl
theorem Zc : arrB PG 56 = some (3, 9, 1, false) := by kernel_rfl
theorem V7 : arrB PG 63 = some (3, 49, 8, true) := by kernel_rfl
theorem zc7 : eqGB PG 119 = false := by kernel_rfl
theorem zef : eqGB PG 26 = false := by kernel_rfl
theorem zeg : eqGB PG 51 = false := by kernel_rfl
theorem zcm : zdu PG 119 = some [.bool, .str] := by kernel_rfl
theorem zc8 : zdu PG 26 = some [.int .i64, .int .i64, .int .i64, .int .i64] := by kernel_rfl
theorem zc9 : zdu PG 51 = some [.bool, .str] := by kernel_rfl
theorem zhA : Goes PG 10 := ⟨Tryz.f10, Tryz.func10, by kernel_rfl, by kernel_rfl⟩
theorem xE : Goes PG 100 := ⟨Tryz.f100, Tryz.func100, by kernel_rfl, by kernel_rfl⟩
theorem YK : Goes PG 101 := ⟨Tryz.f101, Tryz.func101, by kernel_rfl, by kernel_rfl⟩
theorem zgp : Goes PG 102 := ⟨Tryz.f102, Tryz.func102, by kernel_rfl, by kernel_rfl⟩
theorem zgq : Goes PG 103 := ⟨Tryz.f103, Tryz.func103, by kernel_rfl, by kernel_rfl⟩
theorem zgr : Goes PG 104 := ⟨Tryz.f104, Tryz.func104, by kernel_rfl, by kernel_rfl⟩
theorem zgs : Goes PG 105 := ⟨Tryz.f105, Tryz.func105, by kernel_rfl, by kernel_rfl⟩
theorem XF : Goes PG 106 := ⟨Tryz.f106, Tryz.func106, by kernel_rfl, by kernel_rfl⟩
theorem zaW : Goes PG 11 := ⟨Tryz.f11, Tryz.func11, by kernel_rfl, by kernel_rfl⟩
theorem zgt : Goes PG 114 := ⟨Tryz.f114, Tryz.func114, by kernel_rfl, by kernel_rfl⟩
theorem zgu : Goes PG 115 := ⟨Tryz.f115, Tryz.func115, by kernel_rfl, by kernel_rfl⟩
theorem zgv : Goes PG 116 := ⟨Tryz.f116, Tryz.func116, by kernel_rfl, by kernel_rfl⟩
theorem zgw : Goes PG 117 := ⟨Tryz.f117, Tryz.func117, by kernel_rfl, by kernel_rfl⟩
theorem zgx : Goes PG 118 := ⟨Tryz.f118, Tryz.func118, by kernel_rfl, by kernel_rfl⟩
theorem zgy : Goes PG 119 := ⟨Tryz.f119, Tryz.func119, by kernel_rfl, by kernel_rfl⟩
theorem zda : Goes PG 12 := ⟨Tryz.f12, Tryz.func12, by kernel_rfl, by kernel_rfl⟩
theorem zcn : Goes PG 120 := ⟨Tryz.f120, Tryz.func120, by kernel_rfl, by kernel_rfl⟩
theorem Ya : Goes PG 121 := ⟨Tryz.f121, Tryz.func121, by kernel_rfl, by kernel_rfl⟩
theorem YL : Goes PG 122 := ⟨Tryz.f122, Tryz.func122, by kernel_rfl, by kernel_rfl⟩
theorem zgz : Goes PG 123 := ⟨Tryz.f123, Tryz.func123, by kernel_rfl, by kernel_rfl⟩
theorem zgA : Goes PG 124 := ⟨Tryz.f124, Tryz.func124, by kernel_rfl, by kernel_rfl⟩
theorem zgB : Goes PG 125 := ⟨Tryz.f125, Tryz.func125, by kernel_rfl, by kernel_rfl⟩
theorem zgC : Goes PG 127 := ⟨Tryz.f127, Tryz.func127, by kernel_rfl, by kernel_rfl⟩
theorem zaX : Goes PG 13 := ⟨Tryz.f13, Tryz.func13, by kernel_rfl, by kernel_rfl⟩
theorem zgD : Goes PG 132 := ⟨Tryz.f132, Tryz.func132, by kernel_rfl, by kernel_rfl⟩
theorem zgE : Goes PG 133 := ⟨Tryz.f133, Tryz.func133, by kernel_rfl, by kernel_rfl⟩
theorem zgF : Goes PG 134 := ⟨Tryz.f134, Tryz.func134, by kernel_rfl, by kernel_rfl⟩
theorem zgG : Goes PG 135 := ⟨Tryz.f135, Tryz.func135, by kernel_rfl, by kernel_rfl⟩
theorem zco : Goes PG 136 := ⟨Tryz.f136, Tryz.func136, by kernel_rfl, by kernel_rfl⟩
theorem zaY : Goes PG 14 := ⟨Tryz.f14, Tryz.func14, by kernel_rfl, by kernel_rfl⟩
theorem zcp : Goes PG 141 := ⟨Tryz.f141, Tryz.func141, by kernel_rfl, by kernel_rfl⟩
theorem zgH : Goes PG 142 := ⟨Tryz.f142, Tryz.func142, by kernel_rfl, by kernel_rfl⟩
theorem zhB : Goes PG 15 := ⟨Tryz.f15, Tryz.func15, by kernel_rfl, by kernel_rfl⟩
theorem zgI : Goes PG 151 := ⟨Tryz.f151, Tryz.func151, by kernel_rfl, by kernel_rfl⟩
theorem zgJ : Goes PG 152 := ⟨Tryz.f152, Tryz.func152, by kernel_rfl, by kernel_rfl⟩
theorem zgK : Goes PG 154 := ⟨Tryz.f154, Tryz.func154, by kernel_rfl, by kernel_rfl⟩
theorem zaZ : Goes PG 16 := ⟨Tryz.f16, Tryz.func16, by kernel_rfl, by kernel_rfl⟩
theorem Vi : Goes PG 17 := ⟨Tryz.f17, Tryz.func17, by kernel_rfl, by kernel_rfl⟩
theorem zhC : Goes PG 18 := ⟨Tryz.f18, Tryz.func18, by kernel_rfl, by kernel_rfl⟩
theorem xN : Goes PG 19 := ⟨Tryz.f19, Tryz.func19, by kernel_rfl, by kernel_rfl⟩
theorem za0 : Goes PG 20 := ⟨Tryz.f20, Tryz.func20, by kernel_rfl, by kernel_rfl⟩
theorem zdb : Goes PG 21 := ⟨Tryz.f21, Tryz.func21, by kernel_rfl, by kernel_rfl⟩
theorem zdc : Goes PG 22 := ⟨Tryz.f22, Tryz.func22, by kernel_rfl, by kernel_rfl⟩
theorem za1 : Goes PG 24 := ⟨Tryz.f24, Tryz.func24, by kernel_rfl, by kernel_rfl⟩
theorem Vj : Goes PG 25 := ⟨Tryz.f25, Tryz.func25, by kernel_rfl, by kernel_rfl⟩
theorem zhD : Goes PG 26 := ⟨Tryz.f26, Tryz.func26, by kernel_rfl, by kernel_rfl⟩
theorem zhE : Goes PG 27 := ⟨Tryz.f27, Tryz.func27, by kernel_rfl, by kernel_rfl⟩
theorem zhF : Goes PG 28 := ⟨Tryz.f28, Tryz.func28, by kernel_rfl, by kernel_rfl⟩
theorem zhG : Goes PG 29 := ⟨Tryz.f29, Tryz.func29, by kernel_rfl, by kernel_rfl⟩
theorem zhH : Goes PG 30 := ⟨Tryz.f30, Tryz.func30, by kernel_rfl, by kernel_rfl⟩
theorem zhI : Goes PG 31 := ⟨Tryz.f31, Tryz.func31, by kernel_rfl, by kernel_rfl⟩
theorem zdd : Goes PG 32 := ⟨Tryz.f32, Tryz.func32, by kernel_rfl, by kernel_rfl⟩
theorem zhJ : Goes PG 33 := ⟨Tryz.f33, Tryz.func33, by kernel_rfl, by kernel_rfl⟩
theorem zhK : Goes PG 34 := ⟨Tryz.f34, Tryz.func34, by kernel_rfl, by kernel_rfl⟩
theorem zhL : Goes PG 35 := ⟨Tryz.f35, Tryz.func35, by kernel_rfl, by kernel_rfl⟩
theorem zhM : Goes PG 39 := ⟨Tryz.f39, Tryz.func39, by kernel_rfl, by kernel_rfl⟩
theorem za2 : Goes PG 40 := ⟨Tryz.f40, Tryz.func40, by kernel_rfl, by kernel_rfl⟩
theorem Vk : Goes PG 41 := ⟨Tryz.f41, Tryz.func41, by kernel_rfl, by kernel_rfl⟩
theorem zde : Goes PG 42 := ⟨Tryz.f42, Tryz.func42, by kernel_rfl, by kernel_rfl⟩
theorem zhN : Goes PG 43 := ⟨Tryz.f43, Tryz.func43, by kernel_rfl, by kernel_rfl⟩
theorem zdf : Goes PG 44 := ⟨Tryz.f44, Tryz.func44, by kernel_rfl, by kernel_rfl⟩
theorem zhO : Goes PG 45 := ⟨Tryz.f45, Tryz.func45, by kernel_rfl, by kernel_rfl⟩
theorem zhP : Goes PG 46 := ⟨Tryz.f46, Tryz.func46, by kernel_rfl, by kernel_rfl⟩
theorem Wo : Goes PG 47 := ⟨Tryz.f47, Tryz.func47, by kernel_rfl, by kernel_rfl⟩
theorem zhQ : Goes PG 48 := ⟨Tryz.f48, Tryz.func48, by kernel_rfl, by kernel_rfl⟩
theorem za3 : Goes PG 49 := ⟨Tryz.f49, Tryz.func49, by kernel_rfl, by kernel_rfl⟩
theorem zhR : Goes PG 50 := ⟨Tryz.f50, Tryz.func50, by kernel_rfl, by kernel_rfl⟩
theorem zhS : Goes PG 51 := ⟨Tryz.f51, Tryz.func51, by kernel_rfl, by kernel_rfl⟩
theorem zhT : Goes PG 52 := ⟨Tryz.f52, Tryz.func52, by kernel_rfl, by kernel_rfl⟩
theorem zhU : Goes PG 53 := ⟨Tryz.f53, Tryz.func53, by kernel_rfl, by kernel_rfl⟩
theorem zhV : Goes PG 54 := ⟨Tryz.f54, Tryz.func54, by kernel_rfl, by kernel_rfl⟩
theorem zhW : Goes PG 55 := ⟨Tryz.f55, Tryz.func55, by kernel_rfl, by kernel_rfl⟩
theorem zhX : Goes PG 56 := ⟨Tryz.f56, Tryz.func56, by kernel_rfl, by kernel_rfl⟩
theorem zhY : Goes PG 57 := ⟨Tryz.f57, Tryz.func57, by kernel_rfl, by kernel_rfl⟩
theorem Vl : Goes PG 58 := ⟨Tryz.f58, Tryz.func58, by kernel_rfl, by kernel_rfl⟩
theorem za4 : Goes PG 59 := ⟨Tryz.f59, Tryz.func59, by kernel_rfl, by kernel_rfl⟩
theorem zhZ : Goes PG 60 := ⟨Tryz.f60, Tryz.func60, by kernel_rfl, by kernel_rfl⟩
theorem zh0 : Goes PG 61 := ⟨Tryz.f61, Tryz.func61, by kernel_rfl, by kernel_rfl⟩
theorem zh1 : Goes PG 62 := ⟨Tryz.f62, Tryz.func62, by kernel_rfl, by kernel_rfl⟩
theorem zh2 : Goes PG 63 := ⟨Tryz.f63, Tryz.func63, by kernel_rfl, by kernel_rfl⟩
theorem zh3 : Goes PG 64 := ⟨Tryz.f64, Tryz.func64, by kernel_rfl, by kernel_rfl⟩
theorem zh4 : Goes PG 65 := ⟨Tryz.f65, Tryz.func65, by kernel_rfl, by kernel_rfl⟩
theorem zh5 : Goes PG 66 := ⟨Tryz.f66, Tryz.func66, by kernel_rfl, by kernel_rfl⟩
theorem zdg : Goes PG 67 := ⟨Tryz.f67, Tryz.func67, by kernel_rfl, by kernel_rfl⟩
theorem zh6 : Goes PG 68 := ⟨Tryz.f68, Tryz.func68, by kernel_rfl, by kernel_rfl⟩
theorem zh7 : Goes PG 69 := ⟨Tryz.f69, Tryz.func69, by kernel_rfl, by kernel_rfl⟩
theorem zjb : Goes PG 7 := ⟨Tryz.f7, Tryz.func7, by kernel_rfl, by kernel_rfl⟩
theorem Wp : Goes PG 70 := ⟨Tryz.f70, Tryz.func70, by kernel_rfl, by kernel_rfl⟩
theorem wY : Goes PG 71 := ⟨Tryz.f71, Tryz.func71, by kernel_rfl, by kernel_rfl⟩
theorem zh8 : Goes PG 72 := ⟨Tryz.f72, Tryz.func72, by kernel_rfl, by kernel_rfl⟩
theorem zh9 : Goes PG 73 := ⟨Tryz.f73, Tryz.func73, by kernel_rfl, by kernel_rfl⟩
theorem zia : Goes PG 74 := ⟨Tryz.f74, Tryz.func74, by kernel_rfl, by kernel_rfl⟩
theorem zib : Goes PG 75 := ⟨Tryz.f75, Tryz.func75, by kernel_rfl, by kernel_rfl⟩
theorem zic : Goes PG 76 := ⟨Tryz.f76, Tryz.func76, by kernel_rfl, by kernel_rfl⟩
theorem zid : Goes PG 77 := ⟨Tryz.f77, Tryz.func77, by kernel_rfl, by kernel_rfl⟩
theorem zdh : Goes PG 78 := ⟨Tryz.f78, Tryz.func78, by kernel_rfl, by kernel_rfl⟩
theorem zie : Goes PG 79 := ⟨Tryz.f79, Tryz.func79, by kernel_rfl, by kernel_rfl⟩
theorem zdi : Goes PG 81 := ⟨Tryz.f81, Tryz.func81, by kernel_rfl, by kernel_rfl⟩
theorem zif : Goes PG 82 := ⟨Tryz.f82, Tryz.func82, by kernel_rfl, by kernel_rfl⟩
theorem zdj : Goes PG 83 := ⟨Tryz.f83, Tryz.func83, by kernel_rfl, by kernel_rfl⟩
theorem zdk : Goes PG 84 := ⟨Tryz.f84, Tryz.func84, by kernel_rfl, by kernel_rfl⟩
theorem zih : Goes PG 85 := ⟨Tryz.f85, Tryz.func85, by kernel_rfl, by kernel_rfl⟩
theorem zii : Goes PG 86 := ⟨Tryz.f86, Tryz.func86, by kernel_rfl, by kernel_rfl⟩
theorem zij : Goes PG 87 := ⟨Tryz.f87, Tryz.func87, by kernel_rfl, by kernel_rfl⟩
theorem za5 : Goes PG 88 := ⟨Tryz.f88, Tryz.func88, by kernel_rfl, by kernel_rfl⟩
theorem zik : Goes PG 89 := ⟨Tryz.f89, Tryz.func89, by kernel_rfl, by kernel_rfl⟩
theorem zjc : Goes PG 9 := ⟨Tryz.f9, Tryz.func9, by kernel_rfl, by kernel_rfl⟩
theorem YE : Goes PG 90 := ⟨Tryz.f90, Tryz.func90, by kernel_rfl, by kernel_rfl⟩
theorem zil : Goes PG 91 := ⟨Tryz.f91, Tryz.func91, by kernel_rfl, by kernel_rfl⟩
theorem zim : Goes PG 92 := ⟨Tryz.f92, Tryz.func92, by kernel_rfl, by kernel_rfl⟩
theorem zin : Goes PG 93 := ⟨Tryz.f93, Tryz.func93, by kernel_rfl, by kernel_rfl⟩
theorem zio : Goes PG 94 := ⟨Tryz.f94, Tryz.func94, by kernel_rfl, by kernel_rfl⟩
theorem ziq : Goes PG 95 := ⟨Tryz.f95, Tryz.func95, by kernel_rfl, by kernel_rfl⟩
theorem zir : Goes PG 96 := ⟨Tryz.f96, Tryz.func96, by kernel_rfl, by kernel_rfl⟩
theorem zis : Goes PG 97 := ⟨Tryz.f97, Tryz.func97, by kernel_rfl, by kernel_rfl⟩
theorem zit : Goes PG 98 := ⟨Tryz.f98, Tryz.func98, by kernel_rfl, by kernel_rfl⟩
theorem ziu : Goes PG 99 := ⟨Tryz.f99, Tryz.func99, by kernel_rfl, by kernel_rfl⟩
theorem zfk : GoesX PG 126 (Extern.SlicesOverlaps.overlaps #[164, 164] #[4]) := ⟨Tryz.f126, Tryz.func126, by kernel_rfl, by kernel_rfl, by kernel_rfl, by kernel_rfl⟩
theorem zfl : GoesX PG 153 (Extern.SlicesOverlaps.overlaps #[205, 205] #[4]) := ⟨Tryz.f153, Tryz.func153, by kernel_rfl, by kernel_rfl, by kernel_rfl, by kernel_rfl⟩
theorem Vm : intB PG 234 = some .u64 := by kernel_rfl
theorem Zx : intB PG 3 = some .i64 := by kernel_rfl
theorem XK : intB PG 5 = some .u8 := by kernel_rfl
theorem xi : isStr PG 9 = true := by kernel_rfl
theorem zR : PG.follows .mixedOrders = true := by kernel_rfl
theorem zfm : partB PG 65 1 = some (24, 1, false) := by kernel_rfl
theorem zfn : partB PG 95 0 = some (0, 1, false) := by kernel_rfl
theorem zeL : yo PG 107 = some [(0, 1), (1, 1), (2, 7), (9, 1), (10, 1)] := by kernel_rfl
theorem xS : yo PG 119 = some [(0, 1), (1, 1)] := by kernel_rfl
theorem zeM : yo PG 128 = some [(0, 3), (3, 1)] := by kernel_rfl
theorem zeN : yo PG 132 = some [(0, 12), (12, 12), (24, 6)] := by kernel_rfl
theorem zeO : yo PG 137 = some [(0, 1), (1, 1)] := by kernel_rfl
theorem zeP : yo PG 144 = some [(0, 1), (1, 1), (2, 1), (3, 1)] := by kernel_rfl
theorem zeQ : yo PG 147 = some [(0, 1)] := by kernel_rfl
theorem zeR : yo PG 152 = some [(0, 7), (7, 4), (11, 1)] := by kernel_rfl
theorem zeS : yo PG 163 = some [(0, 1), (1, 1)] := by kernel_rfl
theorem zeT : yo PG 166 = some [(0, 1)] := by kernel_rfl
theorem zbv : yo PG 169 = some [(0, 1), (1, 1)] := by kernel_rfl
theorem zeU : yo PG 172 = some [(0, 1)] := by kernel_rfl
theorem zeV : yo PG 174 = some [(0, 1), (1, 1), (2, 1)] := by kernel_rfl
theorem zeW : yo PG 181 = some [(0, 3)] := by kernel_rfl
theorem zeX : yo PG 184 = some [(0, 1)] := by kernel_rfl
theorem zeY : yo PG 204 = some [(0, 1)] := by kernel_rfl
theorem zeZ : yo PG 207 = some [(0, 1)] := by kernel_rfl
theorem ze0 : yo PG 213 = some [(0, 1), (1, 2)] := by kernel_rfl
theorem zbw : yo PG 216 = some [(0, 2), (2, 1)] := by kernel_rfl
theorem ze1 : yo PG 219 = some [(0, 1)] := by kernel_rfl
theorem zfo : yo PG 34 = some [(0, 1), (1, 1), (2, 1), (3, 1)] := by kernel_rfl
theorem zbH : yo PG 38 = some [(0, 1), (1, 1), (2, 1), (3, 1)] := by kernel_rfl
theorem zfp : yo PG 43 = some [(0, 1), (1, 1), (2, 1), (3, 1)] := by kernel_rfl
theorem Y7 : yo PG 51 = some [(0, 1), (1, 1)] := by kernel_rfl
theorem zbI : yo PG 65 = some [(0, 24), (24, 1)] := by kernel_rfl
theorem zbJ : yo PG 95 = some [(0, 1), (1, 1), (2, 1), (3, 4)] := by kernel_rfl
theorem Xh : ptrB PG 157 = true := by kernel_rfl
theorem zdl : ptrB PG 182 = true := by kernel_rfl
theorem V8 : ptrB PG 29 = true := by kernel_rfl
theorem yn : ptrB PG 30 = true := by kernel_rfl
theorem zeh : ptrB PG 39 = true := by kernel_rfl
theorem V9 : ptrB PG 40 = true := by kernel_rfl
theorem XZ : ptrB PG 41 = true := by kernel_rfl
theorem YA : ptrB PG 69 = true := by kernel_rfl
theorem zei : ptrB PG 88 = true := by kernel_rfl
theorem YB : ptrB PG 91 = true := by kernel_rfl
theorem YC : ptrB PG 92 = true := by kernel_rfl
theorem X0 : ptrB PG 93 = true := by kernel_rfl
theorem zej : slT PG 135 = true := by kernel_rfl
theorem WU : slT PG 164 = true := by kernel_rfl
theorem zjd : slT PG 170 = true := by kernel_rfl
theorem WV : slT PG 205 = true := by kernel_rfl
theorem zje : slT PG 217 = true := by kernel_rfl
theorem zjf : slT PG 226 = true := by kernel_rfl
theorem zcE : slT PG 31 = true := by kernel_rfl
theorem zko : slT PG 32 = true := by kernel_rfl
theorem zcF : slT PG 45 = true := by kernel_rfl
theorem Vn : slcB PG 135 = some (174, 3, 24) := by kernel_rfl
theorem y4 : slcB PG 164 = some (163, 2, 16) := by kernel_rfl
theorem Vo : slcB PG 170 = some (169, 2, 16) := by kernel_rfl
theorem y5 : slcB PG 205 = some (213, 3, 32) := by kernel_rfl
theorem Vp : slcB PG 217 = some (216, 3, 32) := by kernel_rfl
theorem Vq : slcB PG 226 = some (5, 1, 1) := by kernel_rfl
theorem xK : slcB PG 31 = some (38, 4, 32) := by kernel_rfl
theorem zbK : slcB PG 32 = some (55, 23, 232) := by kernel_rfl
theorem zek : slcB PG 45 = some (48, 6, 56) := by kernel_rfl
theorem zj : szB PG 119 = some 2 := by kernel_rfl
theorem zjg : szB PG 135 = some 1 := by kernel_rfl
theorem zjh : szB PG 149 = some 4 := by kernel_rfl
theorem zel : szB PG 152 = some 12 := by kernel_rfl
theorem zji : szB PG 156 = some 9 := by kernel_rfl
theorem zaa : szB PG 163 = some 2 := by kernel_rfl
theorem zjj : szB PG 164 = some 1 := by kernel_rfl
theorem zjk : szB PG 169 = some 2 := by kernel_rfl
theorem zjl : szB PG 170 = some 1 := by kernel_rfl
theorem zbL : szB PG 174 = some 3 := by kernel_rfl
theorem zjm : szB PG 205 = some 1 := by kernel_rfl
theorem zab : szB PG 213 = some 3 := by kernel_rfl
theorem zjn : szB PG 216 = some 3 := by kernel_rfl
theorem zjo : szB PG 217 = some 1 := by kernel_rfl
theorem Yb : szB PG 26 = some 4 := by kernel_rfl
theorem zkp : szB PG 29 = some 1 := by kernel_rfl
theorem Zl : szB PG 3 = some 1 := by kernel_rfl
theorem zkq : szB PG 30 = some 1 := by kernel_rfl
theorem zkr : szB PG 31 = some 1 := by kernel_rfl
theorem zfq : szB PG 32 = some 1 := by kernel_rfl
theorem Zy : szB PG 38 = some 4 := by kernel_rfl
theorem zld : szB PG 4 = some 1 := by kernel_rfl
theorem za6 : szB PG 48 = some 6 := by kernel_rfl
theorem zle : szB PG 5 = some 1 := by kernel_rfl
theorem yz : szB PG 51 = some 2 := by kernel_rfl
theorem za7 : szB PG 52 = some 12 := by kernel_rfl
theorem vo : szB PG 55 = some 23 := by kernel_rfl
theorem XL : szB PG 56 = some 3 := by kernel_rfl
theorem YF : szB PG 65 = some 25 := by kernel_rfl
theorem zhi : szB PG 9 = some 1 := by kernel_rfl
theorem Yc : szB PG 95 = some 7 := by kernel_rfl
theorem zgL : zeroB PG 107 = some [(Value.pointer none), (Value.pointer none), (Value.pointer none), (Value.pointer none), (Value.pointer none), (Value.int .i64 (0)), (Value.int .i64 (0)), (Value.int .i64 (0)), (Value.int .i64 (0)), (Value.pointer none), (Value.pointer none)] := by kernel_rfl
theorem zL : zeroB PG 119 = some [(Value.bool false), (Value.string ByteArray.empty)] := by kernel_rfl
theorem zgM : zeroB PG 128 = some [(Value.string ByteArray.empty), (Value.string ByteArray.empty), (Value.string ByteArray.empty), (Value.pointer none)] := by kernel_rfl
theorem zgN : zeroB PG 132 = some [(Value.bool false), (Value.string ByteArray.empty), (Value.bool false), (Value.string ByteArray.empty), (Value.bool false), (Value.string ByteArray.empty), (Value.bool false), (Value.string ByteArray.empty), (Value.bool false), (Value.string ByteArray.empty), (Value.bool false), (Value.string ByteArray.empty), (Value.bool false), (Value.string ByteArray.empty), (Value.bool false), (Value.string ByteArray.empty), (Value.bool false), (Value.string ByteArray.empty), (Value.bool false), (Value.string ByteArray.empty), (Value.bool false), (Value.string ByteArray.empty), (Value.bool false), (Value.string ByteArray.empty), (Value.bool false), (Value.bool false), (Value.bool false), (Value.bool false), (Value.bool false), (Value.bool false)] := by kernel_rfl
theorem zgO : zeroB PG 137 = some [(Value.slice none 0 0), (Value.int .i64 (0))] := by kernel_rfl
theorem zgP : zeroB PG 144 = some [(Value.slice none 0 0), (Value.slice none 0 0), (Value.slice none 0 0), (Value.slice none 0 0)] := by kernel_rfl
theorem zgQ : zeroB PG 147 = some [(Value.slice none 0 0)] := by kernel_rfl
theorem zaq : zeroB PG 152 = some [(Value.pointer none), (Value.pointer none), (Value.pointer none), (Value.int .i64 (0)), (Value.int .i64 (0)), (Value.int .i64 (0)), (Value.int .i64 (0)), (Value.int .i64 (0)), (Value.int .i64 (0)), (Value.int .i64 (0)), (Value.int .i64 (0)), (Value.int .i64 (0))] := by kernel_rfl
theorem zcq : zeroB PG 156 = some [(Value.int .i64 (0)), (Value.int .i64 (0)), (Value.int .i64 (0)), (Value.int .i64 (0)), (Value.int .i64 (0)), (Value.int .i64 (0)), (Value.int .i64 (0)), (Value.int .i64 (0)), (Value.int .i64 (0))] := by kernel_rfl
theorem zar : zeroB PG 163 = some [(Value.int .i64 (0)), (Value.int .i64 (0))] := by kernel_rfl
theorem zgR : zeroB PG 166 = some [(Value.slice none 0 0)] := by kernel_rfl
theorem zas : zeroB PG 169 = some [(Value.int .i64 (0)), (Value.int .i64 (0))] := by kernel_rfl
theorem zgS : zeroB PG 172 = some [(Value.slice none 0 0)] := by kernel_rfl
theorem zat : zeroB PG 174 = some [(Value.int .i64 (0)), (Value.int .i64 (0)), (Value.int .i64 (0))] := by kernel_rfl
theorem zgT : zeroB PG 181 = some [(Value.int .i64 (0)), (Value.int .i64 (0)), (Value.int .i64 (0))] := by kernel_rfl
theorem zgU : zeroB PG 184 = some [(Value.pointer none)] := by kernel_rfl
theorem zgV : zeroB PG 204 = some [(Value.pointer none)] := by kernel_rfl
theorem zgW : zeroB PG 207 = some [(Value.slice none 0 0)] := by kernel_rfl
theorem zau : zeroB PG 213 = some [(Value.int .i64 (0)), (Value.bool false), (Value.string ByteArray.empty)] := by kernel_rfl
theorem zav : zeroB PG 216 = some [(Value.bool false), (Value.string ByteArray.empty), (Value.int .i64 (0))] := by kernel_rfl
theorem zgX : zeroB PG 219 = some [(Value.slice none 0 0)] := by kernel_rfl
theorem ZX : zeroB PG 26 = some [(Value.int .i64 (0)), (Value.int .i64 (0)), (Value.int .i64 (0)), (Value.int .i64 (0))] := by kernel_rfl
theorem ziv : zeroB PG 29 = some [(Value.pointer none)] := by kernel_rfl
theorem zjp : zeroB PG 3 = some [(Value.int .i64 (0))] := by kernel_rfl
theorem ziw : zeroB PG 34 = some [(Value.pointer none), (Value.pointer none), (Value.slice none 0 0), (Value.slice none 0 0)] := by kernel_rfl
theorem x3 : zeroB PG 38 = some [(Value.int .i64 (0)), (Value.int .i64 (0)), (Value.int .i64 (0)), (Value.int .u8 (0))] := by kernel_rfl
theorem zix : zeroB PG 43 = some [(Value.pointer none), (Value.pointer none), (Value.pointer none), (Value.int .i64 (0))] := by kernel_rfl
theorem zdm : zeroB PG 48 = some [(Value.int .i64 (0)), (Value.int .i64 (0)), (Value.int .i64 (0)), (Value.int .i64 (0)), (Value.int .u8 (0)), (Value.string ByteArray.empty)] := by kernel_rfl
theorem zbM : zeroB PG 5 = some [(Value.int .u8 (0))] := by kernel_rfl
theorem YG : zeroB PG 51 = some [(Value.bool false), (Value.string ByteArray.empty)] := by kernel_rfl
theorem yF : zeroB PG 55 = some [(Value.int .i64 (0)), (Value.int .i64 (0)), (Value.int .i64 (0)), (Value.int .i64 (0)), (Value.int .i64 (0)), (Value.int .i64 (0)), (Value.int .i64 (0)), (Value.int .i64 (0)), (Value.bool false), (Value.string ByteArray.empty), (Value.bool false), (Value.string ByteArray.empty), (Value.bool false), (Value.string ByteArray.empty), (Value.bool false), (Value.string ByteArray.empty), (Value.bool false), (Value.string ByteArray.empty), (Value.bool false), (Value.string ByteArray.empty), (Value.int .i64 (0)), (Value.int .i64 (0)), (Value.int .i64 (0))] := by kernel_rfl
theorem Wq : zeroB PG 56 = some [(Value.string ByteArray.empty), (Value.string ByteArray.empty), (Value.string ByteArray.empty)] := by kernel_rfl
theorem Vr : zeroB PG 65 = some (List.replicate 25 (Value.int .i64 (0))) := by kernel_rfl
theorem Vs : zeroB PG 95 = some [(Value.pointer none), (Value.pointer none), (Value.pointer none), (Value.int .i64 (0)), (Value.int .i64 (0)), (Value.int .i64 (0)), (Value.int .i64 (0))] := by kernel_rfl
def FT0 : FT := [(100, 0, 0), (100, 1, 1), (107, 0, 0), (107, 1, 1), (107, 2, 2), (107, 3, 9), (107, 4, 10), (119, 0, 0), (119, 1, 1), (128, 0, 0), (128, 1, 3), (132, 1, 12), (132, 2, 24), (137, 0, 0), (137, 1, 1), (144, 0, 0), (144, 1, 1), (144, 2, 2), (144, 3, 3), (147, 0, 0), (152, 0, 0), (152, 1, 7), (152, 2, 11), (163, 0, 0), (163, 1, 1), (166, 0, 0), (169, 0, 0), (169, 1, 1), (172, 0, 0), (174, 0, 0), (174, 1, 1), (174, 2, 2), (181, 0, 0), (184, 0, 0), (204, 0, 0), (207, 0, 0), (213, 0, 0), (213, 1, 1), (216, 0, 0), (216, 1, 2), (219, 0, 0), (247, 1, 1), (34, 0, 0), (34, 1, 1), (34, 2, 2), (34, 3, 3), (38, 0, 0), (38, 1, 1), (38, 2, 2), (38, 3, 3), (43, 0, 0), (43, 1, 1), (43, 2, 2), (43, 3, 3), (48, 0, 0), (48, 1, 1), (48, 2, 5), (51, 0, 0), (51, 1, 1), (55, 0, 0), (55, 1, 8), (55, 2, 20), (65, 0, 0), (65, 1, 24), (78, 0, 0), (78, 1, 1), (78, 2, 5), (95, 0, 0), (95, 1, 1), (95, 2, 2), (95, 3, 3)]
theorem zi7 : FTok PG FT0 := zlZ (by kernel_rfl)
theorem au {B : RO} {N : Nat} {e : Env} {h : Heap} {Φ : Lv → Env → Heap → Prop} (n : Nat) {t t' : List Item} {L L' : LE} (ha : aut FT0 N n t L = some (t', L')) (hr : Run PG B N t' (updL L' e) h Φ) : Run PG B N t (updL L e) h Φ := zlk zi7 n ha hr
theorem auT {B : RO} {N : Nat} {k : List Item} {e : Env} {h : Heap} {Φ : Lv → Env → Heap → Prop} {ops : Array Oper} {C : Heap → Prop} {z : List Nat} (n : Nat) {t t' : Ord} {L L' : LE} (ha : autT FT0 N ops.toList n t L = some (t', L')) (hr : RunT PG B N ops k Φ C z t' (updL L' e) h) : RunT PG B N ops k Φ C z t (updL L e) h := zkx zi7 n ha hr
abbrev Zr : FuncId := 7
abbrev YT : FuncId := 85
abbrev V2 : FuncId := 115
abbrev ZS : FuncId := 117
abbrev zaQ : FuncId := 133
abbrev W7 : FuncId := 136
abbrev XP : FuncId := 152
theorem zcG : Goes PG Zr := zjb
theorem VM : Goes PG YT := zih
theorem zac : Goes PG V2 := zgu
theorem Wr : Goes PG ZS := zgw
theorem za8 : Goes PG zaQ := zgE
theorem zkh : Goes PG W7 := zco
theorem X1 : Goes PG XP := zgJ
def xU (B : RO) (a1 : Option Addr) (n2 : Nat) (c3 : Nat) (a4 : Option Addr) (n5 : Nat) (c6 : Nat) (h : Heap) (Q : Bool → Heap → Prop) : Prop :=
 Spec PG B 7 #[(Value.slice a1 n2 c3), (Value.slice a4 n5 c6)] h (fun v h' => ∃ b7 : Bool, v = (Value.bool b7) ∧ Q b7 h')
def wb (B : RO) (h : Heap) (Q : Bool → Heap → Prop) : Prop :=
 Spec PG B 9 #[] h (fun v h' => ∃ b1 : Bool, v = (Value.bool b1) ∧ Q b1 h')
def wd (B : RO) (a1 : Option Addr) (n2 : Nat) (c3 : Nat) (i4 : Int) (i5 : Int) (i6 : Int) (i7 : Int) (h : Heap) (Q : Option Addr → Heap → Prop) : Prop :=
 Spec PG B 10 #[(Value.slice a1 n2 c3), (Value.agg #[(Value.int .i64 (i4)), (Value.int .i64 (i5)), (Value.int .i64 (i6)), (Value.int .i64 (i7))])] h (fun v h' => ∃ p8 : Option Addr, v = (Value.pointer p8) ∧ Q p8 h')
def yX (B : RO) (p1 : Option Addr) (i2 : Int) (h : Heap) (Q : Int → Int → Heap → Prop) : Prop :=
 Spec PG B 11 #[(Value.pointer p1), (Value.int .i64 (i2))] h (fun v h' => ∃ i3 : Int, ∃ i4 : Int, v = Value.tuple #[(Value.int .i64 (i3)), (Value.int .i64 (i4))] ∧ Q i3 i4 h')
def yK (B : RO) (p1 : Option Addr) (i2 : Int) (i3 : Int) (i4 : Int) (i5 : Int) (h : Heap) (Q : Heap → Prop) : Prop :=
 Spec PG B 12 #[(Value.pointer p1), (Value.agg #[(Value.int .i64 (i2)), (Value.int .i64 (i3)), (Value.int .i64 (i4)), (Value.int .u8 (i5))])] h (fun v h' => v = Value.tuple #[] ∧ Q  h')
def yH (B : RO) (p1 : Option Addr) (h : Heap) (Q : Bool → Heap → Prop) : Prop :=
 Spec PG B 13 #[(Value.pointer p1)] h (fun v h' => ∃ b2 : Bool, v = (Value.bool b2) ∧ Q b2 h')
def yW (B : RO) (p1 : Option Addr) (h : Heap) (Q : Bool → Heap → Prop) : Prop :=
 Spec PG B 14 #[(Value.pointer p1)] h (fun v h' => ∃ b2 : Bool, v = (Value.bool b2) ∧ Q b2 h')
def wc (B : RO) (a1 : Option Addr) (n2 : Nat) (c3 : Nat) (h : Heap) (Q : Bool → Heap → Prop) : Prop :=
 Spec PG B 15 #[(Value.slice a1 n2 c3)] h (fun v h' => ∃ b4 : Bool, v = (Value.bool b4) ∧ Q b4 h')
def yI (B : RO) (p1 : Option Addr) (h : Heap) (Q : List Value → ByteArray → ByteArray → ByteArray → Heap → Prop) : Prop :=
 Spec PG B 16 #[(Value.pointer p1)] h (fun v h' => ∃ l2 : List Value, ∃ s3 : ByteArray, ∃ s4 : ByteArray, ∃ s5 : ByteArray, v = Value.tuple #[(Value.agg (List.toArray l2)), (Value.agg #[(Value.string s3), (Value.string s4), (Value.string s5)])] ∧ Q l2 s3 s4 s5 h')
def yx (B : RO) (p1 : Option Addr) (i2 : Int) (i3 : Int) (i4 : Int) (i5 : Int) (h : Heap) (Q : Int → Int → Heap → Prop) : Prop :=
 Spec PG B 17 #[(Value.pointer p1), (Value.agg #[(Value.int .i64 (i2)), (Value.int .i64 (i3)), (Value.int .i64 (i4)), (Value.int .u8 (i5))])] h (fun v h' => ∃ i6 : Int, ∃ i7 : Int, v = Value.tuple #[(Value.int .i64 (i6)), (Value.int .i64 (i7))] ∧ Q i6 i7 h')
def vC (B : RO) (p1 : Option Addr) (i2 : Int) (s3 : ByteArray) (h : Heap) (Q : Int → Heap → Prop) : Prop :=
 Spec PG B 18 #[(Value.pointer p1), (Value.int .i64 (i2)), (Value.string s3)] h (fun v h' => ∃ i4 : Int, v = (Value.int .i64 (i4)) ∧ Q i4 h')
def zQ (B : RO) (l1 : List Value) (s2 : ByteArray) (s3 : ByteArray) (s4 : ByteArray) (a5 : Option Addr) (n6 : Nat) (c7 : Nat) (h : Heap) (Q : Int → List Value → Heap → Prop) : Prop :=
 Spec PG B 19 #[(Value.agg (List.toArray l1)), (Value.agg #[(Value.string s2), (Value.string s3), (Value.string s4)]), (Value.slice a5 n6 c7)] h (fun v h' => ∃ i8 : Int, ∃ l9 : List Value, v = Value.tuple #[(Value.int .i64 (i8)), (Value.agg (List.toArray l9))] ∧ Q i8 l9 h')
def xF (B : RO) (p1 : Option Addr) (h : Heap) (Q : List Value → Heap → Prop) : Prop :=
 Spec PG B 20 #[(Value.pointer p1)] h (fun v h' => ∃ l2 : List Value, v = (Value.agg (List.toArray l2)) ∧ Q l2 h')
def xf (B : RO) (p1 : Option Addr) (i2 : Int) (i3 : Int) (h : Heap) (Q : Int → Heap → Prop) : Prop :=
 Spec PG B 21 #[(Value.pointer p1), (Value.int .i64 (i2)), (Value.int .i64 (i3))] h (fun v h' => ∃ i4 : Int, v = (Value.int .i64 (i4)) ∧ Q i4 h')
def xe (B : RO) (p1 : Option Addr) (h : Heap) (Q : Option Addr → Heap → Prop) : Prop :=
 Spec PG B 22 #[(Value.pointer p1)] h (fun v h' => ∃ p2 : Option Addr, v = (Value.pointer p2) ∧ Q p2 h')
def wo (B : RO) (h : Heap) (Q : Option Addr → Heap → Prop) : Prop :=
 Spec PG B 24 #[] h (fun v h' => ∃ p1 : Option Addr, v = (Value.pointer p1) ∧ Q p1 h')
def w8 (B : RO) (p1 : Option Addr) (i2 : Int) (i3 : Int) (i4 : Int) (i5 : Int) (h : Heap) (Q : Option Addr → Heap → Prop) : Prop :=
 Spec PG B 25 #[(Value.pointer p1), (Value.agg #[(Value.int .i64 (i2)), (Value.int .i64 (i3)), (Value.int .i64 (i4)), (Value.int .i64 (i5))])] h (fun v h' => ∃ p6 : Option Addr, v = (Value.pointer p6) ∧ Q p6 h')
def vv (B : RO) (p1 : Option Addr) (i2 : Int) (h : Heap) (Q : Heap → Prop) : Prop :=
 Spec PG B 26 #[(Value.pointer p1), (Value.int .i64 (i2))] h (fun v h' => v = Value.tuple #[] ∧ Q  h')
def vu (B : RO) (p1 : Option Addr) (h : Heap) (Q : Int → Option Addr → Nat → Nat → Bool → Heap → Prop) : Prop :=
 Spec PG B 27 #[(Value.pointer p1)] h (fun v h' => ∃ i2 : Int, ∃ a3 : Option Addr, ∃ n4 : Nat, ∃ c5 : Nat, ∃ b6 : Bool, v = Value.tuple #[(Value.int .i64 (i2)), (Value.slice a3 n4 c5), (Value.bool b6)] ∧ Q i2 a3 n4 c5 b6 h')
def wm (B : RO) (i1 : Int) (i2 : Int) (i3 : Int) (i4 : Int) (h : Heap) (Q : Bool → Heap → Prop) : Prop :=
 Spec PG B 28 #[(Value.agg #[(Value.int .i64 (i1)), (Value.int .i64 (i2)), (Value.int .i64 (i3)), (Value.int .u8 (i4))])] h (fun v h' => ∃ b5 : Bool, v = (Value.bool b5) ∧ Q b5 h')
def vO (B : RO) (p1 : Option Addr) (h : Heap) (Q : Int → Heap → Prop) : Prop :=
 Spec PG B 29 #[(Value.pointer p1)] h (fun v h' => ∃ i2 : Int, v = (Value.int .i64 (i2)) ∧ Q i2 h')
def wM (B : RO) (p1 : Option Addr) (i2 : Int) (i3 : Int) (i4 : Int) (i5 : Int) (h : Heap) (Q : Heap → Prop) : Prop :=
 Spec PG B 30 #[(Value.pointer p1), (Value.agg #[(Value.int .i64 (i2)), (Value.int .i64 (i3)), (Value.int .i64 (i4)), (Value.int .i64 (i5))])] h (fun v h' => v = Value.tuple #[] ∧ Q  h')
def vx (B : RO) (p1 : Option Addr) (h : Heap) (Q : Heap → Prop) : Prop :=
 Spec PG B 31 #[(Value.pointer p1)] h (fun v h' => v = Value.tuple #[] ∧ Q  h')
def x9 (B : RO) (p1 : Option Addr) (h : Heap) (Q : Int → Int → Heap → Prop) : Prop :=
 Spec PG B 32 #[(Value.pointer p1)] h (fun v h' => ∃ i2 : Int, ∃ i3 : Int, v = Value.tuple #[(Value.int .i64 (i2)), (Value.int .i64 (i3))] ∧ Q i2 i3 h')
def vr (B : RO) (p1 : Option Addr) (h : Heap) (Q : Option Addr → Heap → Prop) : Prop :=
 Spec PG B 33 #[(Value.pointer p1)] h (fun v h' => ∃ p2 : Option Addr, v = (Value.pointer p2) ∧ Q p2 h')
def vw (B : RO) (p1 : Option Addr) (h : Heap) (Q : Int → Int → Int → Int → Heap → Prop) : Prop :=
 Spec PG B 34 #[(Value.pointer p1)] h (fun v h' => ∃ i2 : Int, ∃ i3 : Int, ∃ i4 : Int, ∃ i5 : Int, v = (Value.agg #[(Value.int .i64 (i2)), (Value.int .i64 (i3)), (Value.int .i64 (i4)), (Value.int .i64 (i5))]) ∧ Q i2 i3 i4 i5 h')
def ve (B : RO) (p1 : Option Addr) (h : Heap) (Q : Option Addr → Option Addr → Option Addr → Int → Int → Int → Int → Heap → Prop) : Prop :=
 Spec PG B 35 #[(Value.pointer p1)] h (fun v h' => ∃ p2 : Option Addr, ∃ p3 : Option Addr, ∃ p4 : Option Addr, ∃ i5 : Int, ∃ i6 : Int, ∃ i7 : Int, ∃ i8 : Int, v = (Value.agg #[(Value.pointer p2), (Value.pointer p3), (Value.pointer p4), (Value.int .i64 (i5)), (Value.int .i64 (i6)), (Value.int .i64 (i7)), (Value.int .i64 (i8))]) ∧ Q p2 p3 p4 i5 i6 i7 i8 h')
def wG (B : RO) (p1 : Option Addr) (i2 : Int) (h : Heap) (Q : Int → Bool → Heap → Prop) : Prop :=
 Spec PG B 39 #[(Value.pointer p1), (Value.int .i64 (i2))] h (fun v h' => ∃ i3 : Int, ∃ b4 : Bool, v = Value.tuple #[(Value.int .i64 (i3)), (Value.bool b4)] ∧ Q i3 b4 h')
def xm (B : RO) (p1 : Option Addr) (i2 : Int) (i3 : Int) (h : Heap) (Q : Int → Heap → Prop) : Prop :=
 Spec PG B 40 #[(Value.pointer p1), (Value.int .i64 (i2)), (Value.int .i64 (i3))] h (fun v h' => ∃ i4 : Int, v = (Value.int .i64 (i4)) ∧ Q i4 h')
def xg (B : RO) (p1 : Option Addr) (i2 : Int) (h : Heap) (Q : Int → Int → Heap → Prop) : Prop :=
 Spec PG B 41 #[(Value.pointer p1), (Value.int .i64 (i2))] h (fun v h' => ∃ i3 : Int, ∃ i4 : Int, v = Value.tuple #[(Value.int .i64 (i3)), (Value.int .i64 (i4))] ∧ Q i3 i4 h')
def w6 (B : RO) (p1 : Option Addr) (l2 : List Value) (h : Heap) (Q : Bool → Heap → Prop) : Prop :=
 Spec PG B 42 #[(Value.pointer p1), (Value.agg (List.toArray l2))] h (fun v h' => ∃ b3 : Bool, v = (Value.bool b3) ∧ Q b3 h')
def wF (B : RO) (p1 : Option Addr) (h : Heap) (Q : Value → Heap → Prop) : Prop :=
 Spec PG B 43 #[(Value.pointer p1)] h (fun v h' => ∃ v2 : Value, v = v2 ∧ Q v2 h')
def wE (B : RO) (p1 : Option Addr) (i2 : Int) (i3 : Int) (i4 : Int) (h : Heap) (Q : Bool → Heap → Prop) : Prop :=
 Spec PG B 44 #[(Value.pointer p1), (Value.int .i64 (i2)), (Value.int .i64 (i3)), (Value.int .i64 (i4))] h (fun v h' => ∃ b5 : Bool, v = (Value.bool b5) ∧ Q b5 h')
def vD (B : RO) (p1 : Option Addr) (p2 : Option Addr) (i3 : Int) (h : Heap) (Q : Int → Heap → Prop) : Prop :=
 Spec PG B 45 #[(Value.pointer p1), (Value.pointer p2), (Value.int .i64 (i3))] h (fun v h' => ∃ i4 : Int, v = (Value.int .i64 (i4)) ∧ Q i4 h')
def wP (B : RO) (p1 : Option Addr) (i2 : Int) (h : Heap) (Q : Int → Heap → Prop) : Prop :=
 Spec PG B 46 #[(Value.pointer p1), (Value.int .i64 (i2))] h (fun v h' => ∃ i3 : Int, v = (Value.int .i64 (i3)) ∧ Q i3 h')
def xn (B : RO) (p1 : Option Addr) (i2 : Int) (h : Heap) (Q : Int → Int → Heap → Prop) : Prop :=
 Spec PG B 47 #[(Value.pointer p1), (Value.int .i64 (i2))] h (fun v h' => ∃ i3 : Int, ∃ i4 : Int, v = Value.tuple #[(Value.int .i64 (i3)), (Value.int .i64 (i4))] ∧ Q i3 i4 h')
def Zn (B : RO) (p1 : Option Addr) (i2 : Int) (i3 : Int) (i4 : Int) (h : Heap) (Q : Bool → Heap → Prop) : Prop :=
 Spec PG B 48 #[(Value.pointer p1), (Value.int .i64 (i2)), (Value.int .i64 (i3)), (Value.int .i64 (i4))] h (fun v h' => ∃ b5 : Bool, v = (Value.bool b5) ∧ Q b5 h')
def wV (B : RO) (p1 : Option Addr) (i2 : Int) (h : Heap) (Q : Bool → ByteArray → Int → Heap → Prop) : Prop :=
 Spec PG B 49 #[(Value.pointer p1), (Value.int .i64 (i2))] h (fun v h' => ∃ b3 : Bool, ∃ s4 : ByteArray, ∃ i5 : Int, v = Value.tuple #[(Value.agg #[(Value.bool b3), (Value.string s4)]), (Value.int .i64 (i5))] ∧ Q b3 s4 i5 h')
def Zo (B : RO) (p1 : Option Addr) (i2 : Int) (h : Heap) (Q : ByteArray → Heap → Prop) : Prop :=
 Spec PG B 50 #[(Value.pointer p1), (Value.int .i64 (i2))] h (fun v h' => ∃ s3 : ByteArray, v = (Value.string s3) ∧ Q s3 h')
def xV (B : RO) (p1 : Option Addr) (i2 : Int) (i3 : Int) (h : Heap) (Q : Int → Int → Heap → Prop) : Prop :=
 Spec PG B 51 #[(Value.pointer p1), (Value.int .i64 (i2)), (Value.int .i64 (i3))] h (fun v h' => ∃ i4 : Int, ∃ i5 : Int, v = Value.tuple #[(Value.int .i64 (i4)), (Value.int .i64 (i5))] ∧ Q i4 i5 h')
def xL (B : RO) (p1 : Option Addr) (i2 : Int) (i3 : Int) (i4 : Int) (h : Heap) (Q : Int → Heap → Prop) : Prop :=
 Spec PG B 52 #[(Value.pointer p1), (Value.int .i64 (i2)), (Value.int .i64 (i3)), (Value.int .u8 (i4))] h (fun v h' => ∃ i5 : Int, v = (Value.int .i64 (i5)) ∧ Q i5 h')
def xw (B : RO) (p1 : Option Addr) (i2 : Int) (h : Heap) (Q : Int → Heap → Prop) : Prop :=
 Spec PG B 53 #[(Value.pointer p1), (Value.int .i64 (i2))] h (fun v h' => ∃ i3 : Int, v = (Value.int .i64 (i3)) ∧ Q i3 h')
def xy (B : RO) (p1 : Option Addr) (i2 : Int) (h : Heap) (Q : Int → Heap → Prop) : Prop :=
 Spec PG B 54 #[(Value.pointer p1), (Value.int .i64 (i2))] h (fun v h' => ∃ i3 : Int, v = (Value.int .i64 (i3)) ∧ Q i3 h')
def xz (B : RO) (p1 : Option Addr) (i2 : Int) (i3 : Int) (h : Heap) (Q : Int → Heap → Prop) : Prop :=
 Spec PG B 55 #[(Value.pointer p1), (Value.int .i64 (i2)), (Value.int .i64 (i3))] h (fun v h' => ∃ i4 : Int, v = (Value.int .i64 (i4)) ∧ Q i4 h')
def x6 (B : RO) (p1 : Option Addr) (i2 : Int) (i3 : Int) (h : Heap) (Q : Int → Heap → Prop) : Prop :=
 Spec PG B 56 #[(Value.pointer p1), (Value.int .i64 (i2)), (Value.int .i64 (i3))] h (fun v h' => ∃ i4 : Int, v = (Value.int .i64 (i4)) ∧ Q i4 h')
def xW (B : RO) (p1 : Option Addr) (i2 : Int) (h : Heap) (Q : Int → Int → Heap → Prop) : Prop :=
 Spec PG B 57 #[(Value.pointer p1), (Value.int .i64 (i2))] h (fun v h' => ∃ i3 : Int, ∃ i4 : Int, v = Value.tuple #[(Value.int .i64 (i3)), (Value.int .i64 (i4))] ∧ Q i3 i4 h')
def wI (B : RO) (p1 : Option Addr) (i2 : Int) (h : Heap) (Q : Bool → Heap → Prop) : Prop :=
 Spec PG B 58 #[(Value.pointer p1), (Value.int .i64 (i2))] h (fun v h' => ∃ b3 : Bool, v = (Value.bool b3) ∧ Q b3 h')
def yR (B : RO) (b1 : Bool) (s2 : ByteArray) (i3 : Int) (h : Heap) (Q : Int → Heap → Prop) : Prop :=
 Spec PG B 59 #[(Value.agg #[(Value.bool b1), (Value.string s2)]), (Value.int .i64 (i3))] h (fun v h' => ∃ i4 : Int, v = (Value.int .i64 (i4)) ∧ Q i4 h')
def xh (B : RO) (p1 : Option Addr) (i2 : Int) (i3 : Int) (i4 : Int) (h : Heap) (Q : Bool → Heap → Prop) : Prop :=
 Spec PG B 60 #[(Value.pointer p1), (Value.int .i64 (i2)), (Value.int .i64 (i3)), (Value.int .u8 (i4))] h (fun v h' => ∃ b5 : Bool, v = (Value.bool b5) ∧ Q b5 h')
def xb (B : RO) (p1 : Option Addr) (i2 : Int) (h : Heap) (Q : Bool → Heap → Prop) : Prop :=
 Spec PG B 61 #[(Value.pointer p1), (Value.int .i64 (i2))] h (fun v h' => ∃ b3 : Bool, v = (Value.bool b3) ∧ Q b3 h')
def xc (B : RO) (p1 : Option Addr) (i2 : Int) (h : Heap) (Q : Bool → Heap → Prop) : Prop :=
 Spec PG B 62 #[(Value.pointer p1), (Value.int .i64 (i2))] h (fun v h' => ∃ b3 : Bool, v = (Value.bool b3) ∧ Q b3 h')
def xd (B : RO) (p1 : Option Addr) (i2 : Int) (i3 : Int) (h : Heap) (Q : Bool → Heap → Prop) : Prop :=
 Spec PG B 63 #[(Value.pointer p1), (Value.int .i64 (i2)), (Value.int .i64 (i3))] h (fun v h' => ∃ b4 : Bool, v = (Value.bool b4) ∧ Q b4 h')
def xB (B : RO) (p1 : Option Addr) (i2 : Int) (i3 : Int) (h : Heap) (Q : Bool → Heap → Prop) : Prop :=
 Spec PG B 64 #[(Value.pointer p1), (Value.int .i64 (i2)), (Value.int .i64 (i3))] h (fun v h' => ∃ b4 : Bool, v = (Value.bool b4) ∧ Q b4 h')
def ww (B : RO) (p1 : Option Addr) (i2 : Int) (h : Heap) (Q : Int → Heap → Prop) : Prop :=
 Spec PG B 65 #[(Value.pointer p1), (Value.int .i64 (i2))] h (fun v h' => ∃ i3 : Int, v = (Value.int .i64 (i3)) ∧ Q i3 h')
def wH (B : RO) (p1 : Option Addr) (i2 : Int) (i3 : Int) (h : Heap) (Q : Bool → Heap → Prop) : Prop :=
 Spec PG B 66 #[(Value.pointer p1), (Value.int .i64 (i2)), (Value.int .i64 (i3))] h (fun v h' => ∃ b4 : Bool, v = (Value.bool b4) ∧ Q b4 h')
def Zj (B : RO) (i1 : Int) (i2 : Int) (h : Heap) (Q : Option Addr → Heap → Prop) : Prop :=
 Spec PG B 67 #[(Value.int .i64 (i1)), (Value.int .i64 (i2))] h (fun v h' => ∃ p3 : Option Addr, v = (Value.pointer p3) ∧ Q p3 h')
def Wa (B : RO) (h : Heap) (Q : Option Addr → Heap → Prop) : Prop :=
 Spec PG B 68 #[] h (fun v h' => ∃ p1 : Option Addr, v = (Value.pointer p1) ∧ Q p1 h')
def X7 (B : RO) (h : Heap) (Q : Option Addr → Heap → Prop) : Prop :=
 Spec PG B 69 #[] h (fun v h' => ∃ p1 : Option Addr, v = (Value.pointer p1) ∧ Q p1 h')
def vy (B : RO) (i1 : Int) (h : Heap) (Q : Option Addr → Heap → Prop) : Prop :=
 Spec PG B 70 #[(Value.int .i64 (i1))] h (fun v h' => ∃ p2 : Option Addr, v = (Value.pointer p2) ∧ Q p2 h')
def y2 (B : RO) (i1 : Int) (i2 : Int) (i3 : Int) (i4 : Int) (h : Heap) (Q : Option Addr → Option Addr → Option Addr → Int → Int → Int → Int → Heap → Prop) : Prop :=
 Spec PG B 71 #[(Value.agg #[(Value.int .i64 (i1)), (Value.int .i64 (i2)), (Value.int .i64 (i3)), (Value.int .i64 (i4))])] h (fun v h' => ∃ p5 : Option Addr, ∃ p6 : Option Addr, ∃ p7 : Option Addr, ∃ i8 : Int, ∃ i9 : Int, ∃ i10 : Int, ∃ i11 : Int, v = (Value.agg #[(Value.pointer p5), (Value.pointer p6), (Value.pointer p7), (Value.int .i64 (i8)), (Value.int .i64 (i9)), (Value.int .i64 (i10)), (Value.int .i64 (i11))]) ∧ Q p5 p6 p7 i8 i9 i10 i11 h')
def zcf (B : RO) (p1 : Option Addr) (p2 : Option Addr) (p3 : Option Addr) (p4 : Option Addr) (i5 : Int) (i6 : Int) (i7 : Int) (i8 : Int) (i9 : Int) (i10 : Int) (i11 : Int) (i12 : Int) (i13 : Int) (h : Heap) (Q : Bool → Heap → Prop) : Prop :=
 Spec PG B 72 #[(Value.pointer p1), (Value.agg #[(Value.pointer p2), (Value.pointer p3), (Value.pointer p4), (Value.int .i64 (i5)), (Value.int .i64 (i6)), (Value.int .i64 (i7)), (Value.int .i64 (i8)), (Value.int .i64 (i9)), (Value.int .i64 (i10)), (Value.int .i64 (i11)), (Value.int .i64 (i12)), (Value.int .i64 (i13))])] h (fun v h' => ∃ b14 : Bool, v = (Value.bool b14) ∧ Q b14 h')
def zcB (B : RO) (p1 : Option Addr) (h : Heap) (Q : Int → Int → Int → Int → Heap → Prop) : Prop :=
 Spec PG B 73 #[(Value.pointer p1)] h (fun v h' => ∃ i2 : Int, ∃ i3 : Int, ∃ i4 : Int, ∃ i5 : Int, v = (Value.agg #[(Value.int .i64 (i2)), (Value.int .i64 (i3)), (Value.int .i64 (i4)), (Value.int .i64 (i5))]) ∧ Q i2 i3 i4 i5 h')
def zcC (B : RO) (p1 : Option Addr) (h : Heap) (Q : Option Addr → Option Addr → Option Addr → Int → Int → Int → Int → Int → Int → Int → Int → Int → Bool → Heap → Prop) : Prop :=
 Spec PG B 74 #[(Value.pointer p1)] h (fun v h' => ∃ p2 : Option Addr, ∃ p3 : Option Addr, ∃ p4 : Option Addr, ∃ i5 : Int, ∃ i6 : Int, ∃ i7 : Int, ∃ i8 : Int, ∃ i9 : Int, ∃ i10 : Int, ∃ i11 : Int, ∃ i12 : Int, ∃ i13 : Int, ∃ b14 : Bool, v = Value.tuple #[(Value.agg #[(Value.pointer p2), (Value.pointer p3), (Value.pointer p4), (Value.int .i64 (i5)), (Value.int .i64 (i6)), (Value.int .i64 (i7)), (Value.int .i64 (i8)), (Value.int .i64 (i9)), (Value.int .i64 (i10)), (Value.int .i64 (i11)), (Value.int .i64 (i12)), (Value.int .i64 (i13))]), (Value.bool b14)] ∧ Q p2 p3 p4 i5 i6 i7 i8 i9 i10 i11 i12 i13 b14 h')
def zcA (B : RO) (p1 : Option Addr) (i2 : Int) (i3 : Int) (i4 : Int) (i5 : Int) (h : Heap) (Q : Option Addr → Nat → Nat → Heap → Prop) : Prop :=
 Spec PG B 75 #[(Value.pointer p1), (Value.agg #[(Value.int .i64 (i2)), (Value.int .i64 (i3)), (Value.int .i64 (i4)), (Value.int .i64 (i5))])] h (fun v h' => ∃ a6 : Option Addr, ∃ n7 : Nat, ∃ c8 : Nat, v = (Value.slice a6 n7 c8) ∧ Q a6 n7 c8 h')
def zbz (B : RO) (p1 : Option Addr) (h : Heap) (Q : Heap → Prop) : Prop :=
 Spec PG B 76 #[(Value.pointer p1)] h (fun v h' => v = Value.tuple #[] ∧ Q  h')
def zaA (B : RO) (p1 : Option Addr) (h : Heap) (Q : Int → Heap → Prop) : Prop :=
 Spec PG B 77 #[(Value.pointer p1)] h (fun v h' => ∃ i2 : Int, v = (Value.int .i64 (i2)) ∧ Q i2 h')
def wu (B : RO) (p1 : Option Addr) (h : Heap) (Q : Option Addr → Heap → Prop) : Prop :=
 Spec PG B 78 #[(Value.pointer p1)] h (fun v h' => ∃ p2 : Option Addr, v = (Value.pointer p2) ∧ Q p2 h')
def WN (B : RO) (p1 : Option Addr) (h : Heap) (Q : Int → Heap → Prop) : Prop :=
 Spec PG B 79 #[(Value.pointer p1)] h (fun v h' => ∃ i2 : Int, v = (Value.int .i64 (i2)) ∧ Q i2 h')
def xX (B : RO) (p1 : Option Addr) (i2 : Int) (h : Heap) (Q : Int → Bool → Heap → Prop) : Prop :=
 Spec PG B 81 #[(Value.pointer p1), (Value.int .i64 (i2))] h (fun v h' => ∃ i3 : Int, ∃ b4 : Bool, v = Value.tuple #[(Value.int .i64 (i3)), (Value.bool b4)] ∧ Q i3 b4 h')
def Zp (B : RO) (p1 : Option Addr) (l2 : List Value) (i3 : Int) (i4 : Int) (h : Heap) (Q : Bool → Heap → Prop) : Prop :=
 Spec PG B 82 #[(Value.pointer p1), (Value.agg (List.toArray l2)), (Value.int .i64 (i3)), (Value.int .i64 (i4))] h (fun v h' => ∃ b5 : Bool, v = (Value.bool b5) ∧ Q b5 h')
def xY (B : RO) (p1 : Option Addr) (i2 : Int) (h : Heap) (Q : Bool → Heap → Prop) : Prop :=
 Spec PG B 83 #[(Value.pointer p1), (Value.int .i64 (i2))] h (fun v h' => ∃ b3 : Bool, v = (Value.bool b3) ∧ Q b3 h')
def Zk (B : RO) (l1 : List Value) (i2 : Int) (i3 : Int) (h : Heap) (Q : Int → Heap → Prop) : Prop :=
 Spec PG B 84 #[(Value.agg (List.toArray l1)), (Value.int .i64 (i2)), (Value.int .i64 (i3))] h (fun v h' => ∃ i4 : Int, v = (Value.int .i64 (i4)) ∧ Q i4 h')
def vg (B : RO) (v1 : Value) (A2 : Addr) (h : Heap) (Q : Heap → Prop) : Prop :=
 Spec PG B 85 #[v1, (Value.pointer (some A2))] h (fun v h' => v = Value.tuple #[] ∧ Q  h')
def xG (B : RO) (p1 : Option Addr) (h : Heap) (Q : Value → Heap → Prop) : Prop :=
 Spec PG B 86 #[(Value.pointer p1)] h (fun v h' => ∃ v2 : Value, v = v2 ∧ Q v2 h')
def ZR (B : RO) (p1 : Option Addr) (i2 : Int) (b3 : Bool) (s4 : ByteArray) (i5 : Int) (h : Heap) (Q : Bool → Heap → Prop) : Prop :=
 Spec PG B 87 #[(Value.pointer p1), (Value.int .i64 (i2)), (Value.agg #[(Value.bool b3), (Value.string s4)]), (Value.int .i64 (i5))] h (fun v h' => ∃ b6 : Bool, v = (Value.bool b6) ∧ Q b6 h')
def Z4 (B : RO) (i1 : Int) (h : Heap) (Q : Bool → Heap → Prop) : Prop :=
 Spec PG B 88 #[(Value.int .i64 (i1))] h (fun v h' => ∃ b2 : Bool, v = (Value.bool b2) ∧ Q b2 h')
def wa (B : RO) (p1 : Option Addr) (i2 : Int) (h : Heap) (Q : Bool → ByteArray → Int → Heap → Prop) : Prop :=
 Spec PG B 89 #[(Value.pointer p1), (Value.int .i64 (i2))] h (fun v h' => ∃ b3 : Bool, ∃ s4 : ByteArray, ∃ i5 : Int, v = Value.tuple #[(Value.agg #[(Value.bool b3), (Value.string s4)]), (Value.int .i64 (i5))] ∧ Q b3 s4 i5 h')
def z9 (B : RO) (p1 : Option Addr) (i2 : Int) (h : Heap) (Q : Bool → ByteArray → Int → Heap → Prop) : Prop :=
 Spec PG B 90 #[(Value.pointer p1), (Value.int .i64 (i2))] h (fun v h' => ∃ b3 : Bool, ∃ s4 : ByteArray, ∃ i5 : Int, v = Value.tuple #[(Value.agg #[(Value.bool b3), (Value.string s4)]), (Value.int .i64 (i5))] ∧ Q b3 s4 i5 h')
def WO (B : RO) (b1 : Bool) (s2 : ByteArray) (i3 : Int) (h : Heap) (Q : Int → Heap → Prop) : Prop :=
 Spec PG B 91 #[(Value.agg #[(Value.bool b1), (Value.string s2)]), (Value.int .i64 (i3))] h (fun v h' => ∃ i4 : Int, v = (Value.int .i64 (i4)) ∧ Q i4 h')
def vi (B : RO) (p1 : Option Addr) (p2 : Option Addr) (i3 : Int) (i4 : Int) (i5 : Int) (h : Heap) (Q : Bool → Heap → Prop) : Prop :=
 Spec PG B 92 #[(Value.pointer p1), (Value.pointer p2), (Value.int .i64 (i3)), (Value.int .i64 (i4)), (Value.int .u8 (i5))] h (fun v h' => ∃ b6 : Bool, v = (Value.bool b6) ∧ Q b6 h')
def wR (B : RO) (p1 : Option Addr) (p2 : Option Addr) (i3 : Int) (h : Heap) (Q : Bool → Heap → Prop) : Prop :=
 Spec PG B 93 #[(Value.pointer p1), (Value.pointer p2), (Value.int .i64 (i3))] h (fun v h' => ∃ b4 : Bool, v = (Value.bool b4) ∧ Q b4 h')
def wT (B : RO) (p1 : Option Addr) (p2 : Option Addr) (i3 : Int) (h : Heap) (Q : Bool → Heap → Prop) : Prop :=
 Spec PG B 94 #[(Value.pointer p1), (Value.pointer p2), (Value.int .i64 (i3))] h (fun v h' => ∃ b4 : Bool, v = (Value.bool b4) ∧ Q b4 h')
def wU (B : RO) (p1 : Option Addr) (p2 : Option Addr) (i3 : Int) (i4 : Int) (h : Heap) (Q : Bool → Heap → Prop) : Prop :=
 Spec PG B 95 #[(Value.pointer p1), (Value.pointer p2), (Value.int .i64 (i3)), (Value.int .i64 (i4))] h (fun v h' => ∃ b5 : Bool, v = (Value.bool b5) ∧ Q b5 h')
def vQ (B : RO) (p1 : Option Addr) (p2 : Option Addr) (i3 : Int) (i4 : Int) (h : Heap) (Q : Bool → Heap → Prop) : Prop :=
 Spec PG B 96 #[(Value.pointer p1), (Value.pointer p2), (Value.int .i64 (i3)), (Value.int .i64 (i4))] h (fun v h' => ∃ b5 : Bool, v = (Value.bool b5) ∧ Q b5 h')
def Yg (B : RO) (p1 : Option Addr) (i2 : Int) (i3 : Int) (h : Heap) (Q : Int → Heap → Prop) : Prop :=
 Spec PG B 97 #[(Value.pointer p1), (Value.int .i64 (i2)), (Value.int .i64 (i3))] h (fun v h' => ∃ i4 : Int, v = (Value.int .i64 (i4)) ∧ Q i4 h')
def vB (B : RO) (p1 : Option Addr) (i2 : Int) (i3 : Int) (h : Heap) (Q : Int → Heap → Prop) : Prop :=
 Spec PG B 98 #[(Value.pointer p1), (Value.int .i64 (i2)), (Value.int .i64 (i3))] h (fun v h' => ∃ i4 : Int, v = (Value.int .i64 (i4)) ∧ Q i4 h')
def wQ (B : RO) (p1 : Option Addr) (i2 : Int) (h : Heap) (Q : Bool → Heap → Prop) : Prop :=
 Spec PG B 99 #[(Value.pointer p1), (Value.int .i64 (i2))] h (fun v h' => ∃ b3 : Bool, v = (Value.bool b3) ∧ Q b3 h')
def zP (B : RO) (i1 : Int) (h : Heap) (Q : Bool → Heap → Prop) : Prop :=
 Spec PG B 100 #[(Value.int .i64 (i1))] h (fun v h' => ∃ b2 : Bool, v = (Value.bool b2) ∧ Q b2 h')
def z6 (B : RO) (p1 : Option Addr) (i2 : Int) (b3 : Bool) (s4 : ByteArray) (h : Heap) (Q : Heap → Prop) : Prop :=
 Spec PG B 101 #[(Value.pointer p1), (Value.int .i64 (i2)), (Value.agg #[(Value.bool b3), (Value.string s4)])] h (fun v h' => v = Value.tuple #[] ∧ Q  h')
def wy (B : RO) (b1 : Bool) (s2 : ByteArray) (i3 : Int) (i4 : Int) (h : Heap) (Q : Bool → ByteArray → Heap → Prop) : Prop :=
 Spec PG B 102 #[(Value.agg #[(Value.bool b1), (Value.string s2)]), (Value.int .i64 (i3)), (Value.int .u8 (i4))] h (fun v h' => ∃ b5 : Bool, ∃ s6 : ByteArray, v = (Value.agg #[(Value.bool b5), (Value.string s6)]) ∧ Q b5 s6 h')
def wx (B : RO) (b1 : Bool) (s2 : ByteArray) (i3 : Int) (h : Heap) (Q : Bool → ByteArray → Heap → Prop) : Prop :=
 Spec PG B 103 #[(Value.agg #[(Value.bool b1), (Value.string s2)]), (Value.int .i64 (i3))] h (fun v h' => ∃ b4 : Bool, ∃ s5 : ByteArray, v = (Value.agg #[(Value.bool b4), (Value.string s5)]) ∧ Q b4 s5 h')
def yB (B : RO) (a1 : Option Addr) (n2 : Nat) (c3 : Nat) (i4 : Int) (a5 : Option Addr) (n6 : Nat) (c7 : Nat) (h : Heap) (Q : Option Addr → Nat → Nat → Heap → Prop) : Prop :=
 Spec PG B 104 #[(Value.slice a1 n2 c3), (Value.int .i64 (i4)), (Value.slice a5 n6 c7)] h (fun v h' => ∃ a8 : Option Addr, ∃ n9 : Nat, ∃ c10 : Nat, v = (Value.slice a8 n9 c10) ∧ Q a8 n9 c10 h')
def wO (B : RO) (i1 : Int) (b2 : Bool) (s3 : ByteArray) (h : Heap) (Q : Option Addr → Heap → Prop) : Prop :=
 Spec PG B 105 #[(Value.int .i64 (i1)), (Value.agg #[(Value.bool b2), (Value.string s3)])] h (fun v h' => ∃ p4 : Option Addr, v = (Value.pointer p4) ∧ Q p4 h')
def vA (B : RO) (h : Heap) (Q : Option Addr → Heap → Prop) : Prop :=
 Spec PG B 106 #[] h (fun v h' => ∃ p1 : Option Addr, v = (Value.pointer p1) ∧ Q p1 h')
def zY (B : RO) (a1 : Option Addr) (n2 : Nat) (c3 : Nat) (i4 : Int) (v5 : Value) (h : Heap) (Q : Int → Bool → Heap → Prop) : Prop :=
 Spec PG B 114 #[(Value.slice a1 n2 c3), (Value.int .i64 (i4)), v5] h (fun v h' => ∃ i6 : Int, ∃ b7 : Bool, v = Value.tuple #[(Value.int .i64 (i6)), (Value.bool b7)] ∧ Q i6 b7 h')
def Xf (B : RO) (i1 : Int) (i2 : Int) (i3 : Int) (h : Heap) (Q : Int → Heap → Prop) : Prop :=
 Spec PG B 115 #[(Value.agg #[(Value.int .i64 (i1)), (Value.int .i64 (i2))]), (Value.int .i64 (i3))] h (fun v h' => ∃ i4 : Int, v = (Value.int .i64 (i4)) ∧ Q i4 h')
def vP (B : RO) (p1 : Option Addr) (i2 : Int) (i3 : Int) (h : Heap) (Q : Int → Heap → Prop) : Prop :=
 Spec PG B 116 #[(Value.pointer p1), (Value.int .i64 (i2)), (Value.int .i64 (i3))] h (fun v h' => ∃ i4 : Int, v = (Value.int .i64 (i4)) ∧ Q i4 h')
def x7 (B : RO) (v1 : Value) (A2 : Addr) (h : Heap) (Q : Heap → Prop) : Prop :=
 Spec PG B 117 #[v1, (Value.pointer (some A2))] h (fun v h' => v = Value.tuple #[] ∧ Q  h')
def Xt (B : RO) (b1 : Bool) (s2 : ByteArray) (h : Heap) (Q : Bool → Heap → Prop) : Prop :=
 Spec PG B 118 #[(Value.agg #[(Value.bool b1), (Value.string s2)])] h (fun v h' => ∃ b3 : Bool, v = (Value.bool b3) ∧ Q b3 h')
def xA (B : RO) (p1 : Option Addr) (i2 : Int) (b3 : Bool) (s4 : ByteArray) (i5 : Int) (h : Heap) (Q : Bool → Heap → Prop) : Prop :=
 Spec PG B 119 #[(Value.pointer p1), (Value.int .i64 (i2)), (Value.agg #[(Value.bool b3), (Value.string s4)]), (Value.int .i64 (i5))] h (fun v h' => ∃ b6 : Bool, v = (Value.bool b6) ∧ Q b6 h')
def xM (B : RO) (p1 : Option Addr) (i2 : Int) (h : Heap) (Q : Bool → Heap → Prop) : Prop :=
 Spec PG B 120 #[(Value.pointer p1), (Value.int .i64 (i2))] h (fun v h' => ∃ b3 : Bool, v = (Value.bool b3) ∧ Q b3 h')
def yL (B : RO) (p1 : Option Addr) (p2 : Option Addr) (i3 : Int) (h : Heap) (Q : Bool → ByteArray → Bool → Heap → Prop) : Prop :=
 Spec PG B 121 #[(Value.pointer p1), (Value.pointer p2), (Value.int .i64 (i3))] h (fun v h' => ∃ b4 : Bool, ∃ s5 : ByteArray, ∃ b6 : Bool, v = Value.tuple #[(Value.agg #[(Value.bool b4), (Value.string s5)]), (Value.bool b6)] ∧ Q b4 s5 b6 h')
def yM (B : RO) (p1 : Option Addr) (p2 : Option Addr) (i3 : Int) (b4 : Bool) (s5 : ByteArray) (h : Heap) (Q : Bool → Heap → Prop) : Prop :=
 Spec PG B 122 #[(Value.pointer p1), (Value.pointer p2), (Value.int .i64 (i3)), (Value.agg #[(Value.bool b4), (Value.string s5)])] h (fun v h' => ∃ b6 : Bool, v = (Value.bool b6) ∧ Q b6 h')
def X9 (B : RO) (b1 : Bool) (s2 : ByteArray) (i3 : Int) (i4 : Int) (h : Heap) (Q : Bool → ByteArray → Heap → Prop) : Prop :=
 Spec PG B 123 #[(Value.agg #[(Value.bool b1), (Value.string s2)]), (Value.int .i64 (i3)), (Value.int .u8 (i4))] h (fun v h' => ∃ b5 : Bool, ∃ s6 : ByteArray, v = (Value.agg #[(Value.bool b5), (Value.string s6)]) ∧ Q b5 s6 h')
def Xu (B : RO) (b1 : Bool) (s2 : ByteArray) (h : Heap) (Q : Bool → ByteArray → Heap → Prop) : Prop :=
 Spec PG B 124 #[(Value.agg #[(Value.bool b1), (Value.string s2)])] h (fun v h' => ∃ b3 : Bool, ∃ s4 : ByteArray, v = (Value.agg #[(Value.bool b3), (Value.string s4)]) ∧ Q b3 s4 h')
def X8 (B : RO) (b1 : Bool) (s2 : ByteArray) (i3 : Int) (h : Heap) (Q : Bool → ByteArray → Heap → Prop) : Prop :=
 Spec PG B 125 #[(Value.agg #[(Value.bool b1), (Value.string s2)]), (Value.int .i64 (i3))] h (fun v h' => ∃ b4 : Bool, ∃ s5 : ByteArray, v = (Value.agg #[(Value.bool b4), (Value.string s5)]) ∧ Q b4 s5 h')
def vE (B : RO) (a1 : Option Addr) (n2 : Nat) (c3 : Nat) (i4 : Int) (h : Heap) (Q : Heap → Prop) : Prop :=
 Spec PG B 127 #[(Value.slice a1 n2 c3), (Value.int .i64 (i4))] h (fun v h' => v = Value.tuple #[] ∧ Q  h')
def yN (B : RO) (a1 : Option Addr) (n2 : Nat) (c3 : Nat) (v4 : Value) (h : Heap) (Q : Int → Heap → Prop) : Prop :=
 Spec PG B 132 #[(Value.slice a1 n2 c3), v4] h (fun v h' => ∃ i5 : Int, v = (Value.int .i64 (i5)) ∧ Q i5 h')
def ZD (B : RO) (i1 : Int) (i2 : Int) (i3 : Int) (A4 : Addr) (A5 : Addr) (h : Heap) (Q : Bool → Heap → Prop) : Prop :=
 Spec PG B 133 #[(Value.agg #[(Value.int .i64 (i1)), (Value.int .i64 (i2)), (Value.int .i64 (i3))]), (Value.pointer (some A4)), (Value.pointer (some A5))] h (fun v h' => ∃ b6 : Bool, v = (Value.bool b6) ∧ Q b6 h')
def xH (B : RO) (p1 : Option Addr) (i2 : Int) (h : Heap) (Q : Bool → ByteArray → Bool → Heap → Prop) : Prop :=
 Spec PG B 134 #[(Value.pointer p1), (Value.int .i64 (i2))] h (fun v h' => ∃ b3 : Bool, ∃ s4 : ByteArray, ∃ b5 : Bool, v = Value.tuple #[(Value.agg #[(Value.bool b3), (Value.string s4)]), (Value.bool b5)] ∧ Q b3 s4 b5 h')
def xI (B : RO) (p1 : Option Addr) (i2 : Int) (b3 : Bool) (s4 : ByteArray) (h : Heap) (Q : Bool → Heap → Prop) : Prop :=
 Spec PG B 135 #[(Value.pointer p1), (Value.int .i64 (i2)), (Value.agg #[(Value.bool b3), (Value.string s4)])] h (fun v h' => ∃ b5 : Bool, v = (Value.bool b5) ∧ Q b5 h')
def XJ (B : RO) (s1 : ByteArray) (i2 : Int) (h : Heap) (Q : ByteArray → Heap → Prop) : Prop :=
 Spec PG B 136 #[(Value.string s1), (Value.int .i64 (i2))] h (fun v h' => ∃ s3 : ByteArray, v = (Value.string s3) ∧ Q s3 h')
def yZ (B : RO) (p1 : Option Addr) (i2 : Int) (h : Heap) (Q : Int → Bool → Heap → Prop) : Prop :=
 Spec PG B 141 #[(Value.pointer p1), (Value.int .i64 (i2))] h (fun v h' => ∃ i3 : Int, ∃ b4 : Bool, v = Value.tuple #[(Value.int .i64 (i3)), (Value.bool b4)] ∧ Q i3 b4 h')
def yg (B : RO) (a1 : Option Addr) (n2 : Nat) (c3 : Nat) (i4 : Int) (a5 : Option Addr) (n6 : Nat) (c7 : Nat) (h : Heap) (Q : Option Addr → Nat → Nat → Heap → Prop) : Prop :=
 Spec PG B 142 #[(Value.slice a1 n2 c3), (Value.int .i64 (i4)), (Value.slice a5 n6 c7)] h (fun v h' => ∃ a8 : Option Addr, ∃ n9 : Nat, ∃ c10 : Nat, v = (Value.slice a8 n9 c10) ∧ Q a8 n9 c10 h')
def zN (B : RO) (a1 : Option Addr) (n2 : Nat) (c3 : Nat) (i4 : Int) (v5 : Value) (h : Heap) (Q : Int → Bool → Heap → Prop) : Prop :=
 Spec PG B 151 #[(Value.slice a1 n2 c3), (Value.int .i64 (i4)), v5] h (fun v h' => ∃ i6 : Int, ∃ b7 : Bool, v = Value.tuple #[(Value.int .i64 (i6)), (Value.bool b7)] ∧ Q i6 b7 h')
def vT (B : RO) (i1 : Int) (b2 : Bool) (s3 : ByteArray) (i4 : Int) (h : Heap) (Q : Int → Heap → Prop) : Prop :=
 Spec PG B 152 #[(Value.agg #[(Value.int .i64 (i1)), (Value.bool b2), (Value.string s3)]), (Value.int .i64 (i4))] h (fun v h' => ∃ i5 : Int, v = (Value.int .i64 (i5)) ∧ Q i5 h')
def wJ (B : RO) (a1 : Option Addr) (n2 : Nat) (c3 : Nat) (i4 : Int) (h : Heap) (Q : Heap → Prop) : Prop :=
 Spec PG B 154 #[(Value.slice a1 n2 c3), (Value.int .i64 (i4))] h (fun v h' => v = Value.tuple #[] ∧ Q  h')
end Go.Proofs.YtgldgabefiialaaGreat.H
