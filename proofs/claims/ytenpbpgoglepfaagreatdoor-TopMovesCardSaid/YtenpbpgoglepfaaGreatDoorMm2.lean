/- Functions, as the evaluator runs them (printed by gen_evt.py). No condition. -/
import Derived.Test.YtenpbpgoglepfaaGreatDoorMm1
import Derived.IntWalk
import Derived.Deep.MidRow
namespace Go.Proofs.YtenpbpgoglepfaaGreatDoor
open Go.RowKit
set_option maxRecDepth 100000
noncomputable def xf85 : Fn := .x 16 (.seq (.ops [.mov (.k .ni) xo06]) (.seq (.seq (.ops [.mov xt01 xo08, .cmp .lss xt08 (xn 1) xo09, .mov xt09 xo0a, .gd .h0 .ha false (.mov xt01 xo0b) xo0b, .gd .h0 .ha false (.cmp .gtr xt0b (xn 255) xo0c) xo0c, .pick xt0a xTT xt0c xo0d, .mov xt0d xo0e, .gd .h0 .he false (.mov xt02 xo0f) xo0f, .gd .h0 .he false (.cmp .lss xt0f (xn 0) xo10) xo10, .pick xt0e xTT xt10 xo11, .mov xt11 xo12, .gd .h1 .h2 false (.mov xt02 xo13) xo13, .gd .h1 .h2 false (.cmp .gtr xt13 (xn 65536) xo14) xo14, .pick xt12 xTT xt14 xo15]) (.cnd xt15 (.seq (.ops [.ld1 (.k (.p 1 0)) xo16, .mov xt16 xo06]) .ret) .skip)) (.seq (.ops [.mov xt02 xo17, .mks 1 z5 xt17 xt17 xo18, .mov xt18 xo07]) (.seq (.ops [.mov xt07 xo19, .mov xt00 xo1a, .nlc xt1a xo1b, .fld 0 xt1b xo1c, .ld1 xt1c xo1d, .mov xt01 xo1e, .lok (one1 z60) xt1d xt1e false xo1f, .cpy 1 xt19 xt1f xo20]) (.seq (.ops [.mov xt00 xo21, .nlc xt21 xo22, .fld 0 xt22 xo23, .ld1 xt23 xo24, .mov xt01 xo25, .mov xt07 xo26, .mup xt24 xt25 xt26]) (.seq (.ops [.mov (.k .ni) xo06]) .ret)))))) [.t xt06]
noncomputable def xf86 : Fn := .x 16 (.seq (.ops [.mov (.k .ni) xo08]) (.seq (.ops [.mov xt00 xo0c, .nlc xt0c xo0d, .fld 0 xt0d xo0e, .ld1 xt0e xo0f, .mov xt01 xo10, .lok (one1 z60) xt0f xt10 true xo11, .mov xt11 xo0b, .ext 0 xt0b xo12, .ext 1 xt0b xo13, .mov xt12 xo09, .mov xt13 xo0a]) (.seq (.blk 0 (.seq (.ops [.mov xt0a xo15, .not xt15 xo16, .mov xt16 xo14]) (.cnd xt14 (.seq (.ops [.ld1 (.k (.p 10 0)) xo17, .mov xt17 xo08]) .ret) (.seq (.ops [.mov xt02 xo19, .cmp .lss xt19 (xn 0) xo1a, .mov xt1a xo1b, .gd .h1 .hb false (.mov xt02 xo1c) xo1c, .gd .h1 .hb false (.mov xt09 xo1d) xo1d, .gd .h1 .hb false (.len 1 xt1d xo1e) xo1e, .gd .h1 .hb false (.mov xt03 xo1f) xo1f, .gd .h1 .hb false (.len 1 xt1f xo20) xo20, .gd .h1 .hb false (.ar .sub xt1e xt20 xo21) xo21, .gd .h1 .hb false (.cmp .gtr xt1c xt21 xo22) xo22, .pick xt1b xTT xt22 xo23, .mov xt23 xo18]) (.cnd xt18 (.seq (.ops [.ld1 (.k (.p 9 0)) xo24, .mov xt24 xo08]) .ret) .skip))))) (.seq (.ops [.mov xt09 xo25, .mov xt02 xo26, .slc 1 xt25 (some xt26) none none xo27, .mov xt03 xo28, .cpy 1 xt27 xt28 xo29]) (.seq (.ops [.mov (.k .ni) xo08]) .ret))))) [.t xt08]
noncomputable def xf87 : Fn := .x 16 (.seq (.ops [.mov xFF xo04]) (.seq (.ops [.mov xt00 xo05, .nlc xt05 xo06, .fld 0 xt06 xo07, .ld1 xt07 xo08, .eqv 2 false xt08 (.k .np) xo09, .mov xt09 xo0a, .gd .h0 .ha true (.mov xt01 xo0b) xo0b, .gd .h0 .ha true (.mov xt00 xo0c) xo0c, .gd .h0 .ha true (.nlc xt0c xo0d) xo0d, .gd .h0 .ha true (.fld 0 xt0d xo0e) xo0e, .gd .h0 .ha true (.ld1 xt0e xo0f) xo0f, .gd .h0 .ha true (.nlc xt0f xo10) xo10, .gd .h0 .ha true (.fld 1 xt10 xo11) xo11, .gd .h0 .ha true (.ld1 xt11 xo12) xo12, .gd .h0 .ha true (.cmp .gtr xt0b xt12 xo13) xo13, .pick xt0a xt13 xFF xo14, .mov xt14 xo15, .gd .h1 .h5 true (.mov xt01 xo16) xo16, .gd .h1 .h5 true (.cnv .u64 xt16 xo17) xo17, .gd .h1 .h5 true (.mov xt00 xo18) xo18, .gd .h1 .h5 true (.nlc xt18 xo19) xo19, .gd .h1 .h5 true (.fld 0 xt19 xo1a) xo1a, .gd .h1 .h5 true (.ld1 xt1a xo1b) xo1b, .gd .h1 .h5 true (.nlc xt1b xo1c) xo1c, .gd .h1 .h5 true (.fld 1 xt1c xo1d) xo1d, .gd .h1 .h5 true (.ld1 xt1d xo1e) xo1e, .gd .h1 .h5 true (.cnv .u64 xt1e xo1f) xo1f, .gd .h1 .h5 true (.ar .sub xt17 xt1f xo20) xo20, .gd .h1 .h5 true (.cmp .gtr xt20 (.k (.i .u64 (.ofNat 3))) xo21) xo21, .pick xt15 xt21 xFF xo22, .mov xt22 xo04]) .ret)) [.t xt04]
noncomputable def xf88 : Fn := .x 16 (.seq (.ops [.mov xt00 xo10, .call 150 [xt10] xo11, .mov xt11 xo0f, .ext 0 xt0f xo12, .ext 1 xt0f xo13, .mov xt12 xo08, .mov xt13 xo09]) (.seq (.ops [.mov xt08 xo14, .mov xt09 xo15, .bld 4 z153 [(2, 1, xt14), (3, 1, xt15)] xo16, .bls 4 1 (repL 1 z153) [(0, 4, xt16)] xo17, .mov xt17 xo0a]) (.seq (.ops [.mov xt00 xo18, .mov xt01 xo19, .mov xt0a xo1a, .call 70 [xt18, xt19, xt1a] xo1b]) (.seq (.ops [.mov xt02 xo1c, .len 1 xt1c xo1d, .mov (xn 0) xo1e]) (.blk 0 (.loop (.seq (.ops [.cmp .lss xt1e xt1d xo1f]) (.seq (.cnd xt1f .skip (.ex 0)) (.seq (.blk 1 (.seq (.ops [.idx 6 xt1c xt1e xo20, .ldn 6 xt20 xo21, .alc 6 z45 xo0c, .sto 6 xt0c xt21]) (.seq (.ops [.mov xt03 xo23, .fld 1 xt0c xo24, .ld1 xt24 xo25, .call 151 [xt23, xt25] xo26, .mov xt26 xo22, .ext 0 xt22 xo27, .ext 1 xt22 xo28, .alc 4 z266 xo0d, .sto 4 xt0d xt27, .mov xt28 xo0e]) (.seq (.ops [.mov xt0e xo29]) (.cnd xt29 (.ops [.mov xt00 xo2a, .fld 2 xt0c xo2b, .ld1 xt2b xo2c, .fld 3 xt0c xo2d, .ld1 xt2d xo2e, .fld 1 xt0d xo2f, .ld1 xt2f xo30, .fld 2 xt0d xo31, .ld1 xt31 xo32, .fld 3 xt0d xo33, .ld1 xt33 xo34, .mov xt0a xo35, .call 152 [xt2a, xt2c, xt2e, xt30, xt32, xt34, xt35] xo36]) .skip))))) (.ops [.ar .add xt1e (xn 1) xo37, .mov xt37 xo1e])))))))))) []
noncomputable def xf89 : Fn := .x 16 (.seq (.ops [.mov (.k .ns) xo04]) (.seq (.ops [.mov (.k .ns) xo05]) (.seq (.seq (.ops [.mov xt01 xo0b, .len 1 xt0b xo0c, .mov (xn 0) xo0d]) (.blk 0 (.loop (.seq (.ops [.cmp .lss xt0d xt0c xo0e]) (.seq (.cnd xt0e .skip (.ex 0)) (.seq (.blk 1 (.seq (.ops [.idx 6 xt0b xt0d xo0f, .ldn 6 xt0f xo10, .alc 6 z45 xo07, .sto 6 xt07 xt10]) (.seq (.drf [.mk .pure 0 xo12 (.mov xt00 xo12), .mk .pure 1 xo13 (.nlc xt12 xo13), .mk .pure 3 xo14 (.fld 5 xt13 xo14), .mk .read 7 xo15 (.ld1 xt14 xo15), .mk .pure 0 xo16 (.fld 1 xt07 xo16), .mk .read 16 xo17 (.ld1 xt16 xo17), .mk .act 63 xo18 (.call 38 [xt15, xt17] xo18), .mk .pure 127 xo11 (.mov xt18 xo11), .mk .pure 255 xo19 (.ext 0 xt11 xo19), .mk .pure 255 xo1a (.ext 1 xt11 xo1a), .mk .flo 0 xo08 (.alc 6 z97 xo08), .mk .act 1535 .no (.sto 6 xt08 xt19), .mk .pure 4095 xo09 (.mov xt1a xo09)]) (.seq (.drw [.mk .pure 0 xo1b (.mov xt00 xo1b), .mk .pure 1 xo1c (.nlc xt1b xo1c), .mk .pure 3 xo1d (.fld 1 xt1c xo1d), .mk .read 7 xo1e (.ld1 xt1d xo1e), .mk .pure 0 xo1f (.mov xt00 xo1f), .mk .pure 16 xo20 (.nlc xt1f xo20), .mk .pure 48 xo21 (.fld 6 xt20 xo21), .mk .read 112 xo22 (.ld1 xt21 xo22), .mk .pure 0 xo23 (.fld 1 xt07 xo23), .mk .read 256 xo24 (.ld1 xt23 xo24), .mk .read 1008 xo25 (.lok (one1 z3) xt22 xt24 false xo25), .mk .pure 2032 xo26 (.ar .quo xt25 (xn 1000) xo26), .mk .read 4095 xo27 (.lok (one1 z160) xt1e xt26 false xo27), .mk .pure 8191 xo0a (.mov xt27 xo0a)]) (.seq (.ops [.mov xt09 xo28, .mov xt28 xo29, .gd .h2 .h9 true (.mov xt0a xo2a) xo2a, .gd .h2 .h9 true (.eqv 2 false xt2a (.k .np) xo2b) xo2b, .pick xt29 xt2b xFF xo2c]) (.cnd xt2c (.drw [.mk .pure 0 xo2d (.mov xt05 xo2d), .mk .pure 0 xo2e (.fld 1 xt07 xo2e), .mk .read 2 xo2f (.ld1 xt2e xo2f), .mk .read 0 xo30 (.ldn 6 xt08 xo30), .mk .pure 0 xo31 (.mov xt0a xo31), .mk .pure 16 xo32 (.nlc xt31 xo32), .mk .pure 48 xo33 (.fld 3 xt32 xo33), .mk .read 112 xo34 (.ld1 xt33 xo34), .mk .act 254 xo35 (.call 153 [xt2f, xt30, xt34] xo35), .mk .act 510 xo36 (.bls 4 1 (repL 1 z266) [(0, 4, xt35)] xo36), .mk .act 1023 xo37 (.app 4 xt2d xt36 xo37), .mk .pure 2047 xo05 (.mov xt37 xo05)]) .skip)))))) (.ops [.ar .add xt0d (xn 1) xo38, .mov xt38 xo0d]))))))) (.seq (.ops [.mov xt05 xo39, .mov xt39 xo04]) .ret)))) [.t xt04]
noncomputable def xf90 : Fn := .x 16 (.seq (.ops [.mov (.k .ns) xo04]) (.seq (.ops [.mov xt00 xo07, .nlc xt07 xo08, .fld 0 xt08 xo09, .ld1 xt09 xo0a, .mov xt01 xo0b, .lok (one1 z215) xt0a xt0b false xo0c, .mov xt0c xo05]) (.seq (.seq (.ops [.mov xt05 xo0d, .eqv 2 true xt0d (.k .np) xo0e]) (.cnd xt0e (.seq (.ops [.mov (.k .ns) xo04]) .ret) .skip)) (.seq (.ops [.mov xt05 xo0f, .nlc xt0f xo10, .fld 23 xt10 xo11, .fld 3 xt11 xo12, .ld1 xt12 xo13, .mov xt13 xo06]) (.seq (.ops [.mov xt05 xo14, .nlc xt14 xo15, .fld 23 xt15 xo16, .fld 3 xt16 xo17, .sto 1 xt17 (.k .ns)]) (.seq (.ops [.mov xt06 xo18, .mov xt18 xo04]) .ret)))))) [.t xt04]
noncomputable def xf92 : Fn := .x 16 (.seq (.ops [.mov xt00 xo0d, .nlc xt0d xo0e, .fld 1 xt0e xo0f, .ld1 xt0f xo10, .mov xt01 xo11, .lok (one1 z160) xt10 xt11 false xo12, .mov xt12 xo0c]) (.seq (.ops [.mov xt0c xo13, .eqv 2 false xt13 (.k .np) xo14]) (.cnd xt14 (.ops [.mov xt0c xo15, .mov xt0c xo16, .nlc xt16 xo17, .fld 5 xt17 xo18, .ld1 xt18 xo19, .mov xt03 xo1a, .mov xt02 xo1b, .mov xt04 xo1c, .mov xt05 xo1d, .bld 3 z73 [(0, 1, xt1b), (1, 1, xt1c), (2, 1, xt1d)] xo1e, .bld 4 z123 [(0, 1, xt1a), (1, 3, xt1e)] xo1f, .bls 4 1 (repL 1 z123) [(0, 4, xt1f)] xo20, .app 4 xt19 xt20 xo21, .nlc xt15 xo22, .fld 5 xt22 xo23, .sto 1 xt23 xt21]) .skip))) []
noncomputable def xf93 : Fn := .x 5 (.seq (.ops [.alc 3 z33 xo02]) (.seq (.ops [.mov xt00 xo03, .bld 3 z33 [(0, 1, (.k (.i .u8 (.ofNat 117)))), (1, 1, xt03)] xo04, .sto 3 xt02 xt04]) .ret)) [.cn 3 xt02]
noncomputable def xf95 : Fn := .x 16 (.seq (.ops [.mov xt01 xo0c, .len 1 xt0c xo0d, .mov (xn 0) xo0e]) (.blk 0 (.loop (.seq (.ops [.cmp .lss xt0e xt0d xo0f]) (.seq (.cnd xt0f .skip (.ex 0)) (.seq (.blk 1 (.seq (.ops [.idx 4 xt0c xt0e xo10, .ldn 4 xt10 xo11, .alc 4 z272 xo07, .sto 4 xt07 xt11]) (.seq (.drw [.mk .pure 0 xo12 (.fld 1 xt07 xo12), .mk .read 1 xo13 (.ld1 xt12 xo13), .mk .pure 3 xo14 (.ar .quo xt13 (xn 1000) xo14), .mk .pure 0 xo15 (.fld 1 xt07 xo15), .mk .read 8 xo16 (.ld1 xt15 xo16), .mk .pure 24 xo17 (.ar .rem xt16 (xn 1000) xo17), .mk .pure 7 xo08 (.mov xt14 xo08), .mk .pure 127 xo09 (.mov xt17 xo09)]) (.seq (.ops [.mov (xn 0) xo0a]) (.seq (.ops [.mov (.k .ns) xo0b]) (.seq (.seq (.ops [.fld 0 xt07 xo18, .ld1 xt18 xo19]) (.blk 2 (.seq (.ops [.cmp .eql xt19 (xn 3) xo21, .mov xt21 xo20]) (.cnd xt20 (.ops [.mov xt00 xo22, .nlc xt22 xo23, .fld 15 xt23 xo24, .ld1 xt24 xo25, .call 93 [xt25] xo26, .bls 3 1 (repL 1 z33) [(0, 3, xt26)] xo27, .mov (xn 2) xo0a, .mov xt27 xo0b]) (.seq (.ops [.cmp .eql xt19 (xn 2) xo29, .mov xt29 xo28]) (.cnd xt28 (.ops [.mov xt00 xo2a, .call 109 [xt2a] xo2b, .call 93 [xt2b] xo2c, .mov xt09 xo2d, .call 154 [xt2d] xo2e, .bls 3 2 (repL 2 z33) [(0, 3, xt2c), (3, 3, xt2e)] xo2f, .mov (xn 1) xo0a, .mov xt2f xo0b]) (.ops [.mov xt00 xo1a, .call 109 [xt1a] xo1b, .call 93 [xt1b] xo1c, .mov xt09 xo1d, .call 154 [xt1d] xo1e, .bls 3 2 (repL 2 z33) [(0, 3, xt1c), (3, 3, xt1e)] xo1f, .mov xt1f xo0b]))))))) (.seq (.seq (.ops [.mov xt02 xo30, .cmp .eql xt30 (xn 13) xo31, .mov xt31 xo32, .gd .h3 .h2 true (.fld 0 xt07 xo33) xo33, .gd .h3 .h2 true (.ld1 xt33 xo34) xo34, .gd .h3 .h2 true (.cmp .neq xt34 (xn 2) xo35) xo35, .pick xt32 xt35 xFF xo36]) (.cnd xt36 (.drw [.mk .pure 0 xo37 (.mov xt0b xo37), .mk .pure 0 xo38 (.fld 2 xt07 xo38), .mk .read 2 xo39 (.ld1 xt38 xo39), .mk .act 6 xo3a (.call 155 [xt39] xo3a), .mk .pure 0 xo3b (.fld 3 xt07 xo3b), .mk .rdx 16 xo3c (.ld1 xt3b xo3c), .mk .act 62 xo3d (.call 155 [xt3c] xo3d), .mk .act 126 xo3e (.bls 3 2 (repL 2 z33) [(0, 3, xt3a), (3, 3, xt3d)] xo3e), .mk .act 255 xo3f (.app 3 xt37 xt3e xo3f), .mk .pure 511 xo0b (.mov xt3f xo0b)]) .skip)) (.ops [.mov xt00 xo40, .mov xt08 xo41, .mov xt02 xo42, .mov xt0a xo43, .mov xt0b xo44, .call 156 [xt40, xt41, xt42, xt43, xt44] xo45])))))))) (.ops [.ar .add xt0e (xn 1) xo46, .mov xt46 xo0e]))))))) []
noncomputable def xf96 : Fn := .x 16 (.seq (.ops [.mov (.k .ns) xo04]) (.seq (.drw [.mk .pure 0 xo09 (.mov xt01 xo09), .mk .pure 0 xo0a (.mov xt00 xo0a), .mk .pure 2 xo0b (.nlc xt0a xo0b), .mk .pure 6 xo0c (.fld 0 xt0b xo0c), .mk .read 14 xo0d (.ld1 xt0c xo0d), .mk .pure 0 xo0e (.mov xt00 xo0e), .mk .pure 32 xo0f (.nlc xt0e xo0f), .mk .pure 96 xo10 (.fld 1 xt0f xo10), .mk .read 224 xo11 (.ld1 xt10 xo11), .mk .act 511 xo12 (.call 157 [xt09, xt0d, xt11] xo12), .mk .pure 1023 xo08 (.mov xt12 xo08), .mk .pure 2047 xo13 (.ext 0 xt08 xo13), .mk .pure 2047 xo14 (.ext 1 xt08 xo14), .mk .pure 2047 xo15 (.ext 2 xt08 xo15), .mk .pure 4095 xo05 (.mov xt13 xo05), .mk .pure 24575 xo06 (.mov xt14 xo06), .mk .pure 65535 xo07 (.mov xt15 xo07)]) (.seq (.seq (.ops [.mov xt05 xo16, .mov xt00 xo17, .nlc xt17 xo18, .fld 2 xt18 xo19, .ld1 xt19 xo1a, .cmp .eql xt16 xt1a xo1b]) (.cnd xt1b (.seq (.ops [.mov (.k .ns) xo04]) .ret) .skip)) (.seq (.ops [.mov xt00 xo1c, .nlc xt1c xo1d, .fld 2 xt1d xo1e, .mov xt05 xo1f, .mov xt06 xo20, .mov xt07 xo21, .call 159 [xt1e, xt1f, xt20, xt21] xo22, .call 158 [xt22] xo23, .mov xt23 xo04]) .ret)))) [.t xt04]
noncomputable def xf97 : Fn := .x 16 (.seq (.ops [.mov (.k .ns) xo04]) (.seq (.ops [.mov (.k .ns) xo05]) (.seq (.seq (.ops [.mov xt01 xo09, .len 1 xt09 xo0a, .mov (xn 0) xo0b]) (.blk 0 (.loop (.seq (.ops [.cmp .lss xt0b xt0a xo0c]) (.seq (.cnd xt0c .skip (.ex 0)) (.seq (.blk 1 (.seq (.ops [.idx 6 xt09 xt0b xo0d, .ldn 6 xt0d xo0e, .alc 6 z45 xo07, .sto 6 xt07 xt0e]) (.seq (.ops [.mov xt00 xo0f, .fld 0 xt07 xo10, .ld1 xt10 xo11, .call 67 [xt0f, xt11] xo12, .alc 10 z147 xo08, .sto 10 xt08 xt12]) (.ops [.mov xt05 xo13, .fld 0 xt07 xo14, .ld1 xt14 xo15, .fld 2 xt07 xo16, .ld1 xt16 xo17, .fld 3 xt07 xo18, .ld1 xt18 xo19, .fld 4 xt07 xo1a, .ld1 xt1a xo1b, .fld 5 xt07 xo1c, .ld1 xt1c xo1d, .fld 5 xt08 xo1e, .ld1 xt1e xo1f, .fld 6 xt08 xo20, .ld1 xt20 xo21, .bld 7 z282 [(0, 1, xt15), (1, 1, xt17), (2, 1, xt19), (3, 1, xt1b), (4, 1, xt1d), (5, 1, xt1f), (6, 1, xt21)] xo22, .bls 7 1 (repL 1 z282) [(0, 7, xt22)] xo23, .app 7 xt13 xt23 xo24, .mov xt24 xo05])))) (.ops [.ar .add xt0b (xn 1) xo25, .mov xt25 xo0b]))))))) (.seq (.ops [.mov xt05 xo26, .mov xt26 xo04]) .ret)))) [.t xt04]
noncomputable def xf98 : Fn := .x 16 (.seq (.ops [.mov (.k .ns) xo04]) (.seq (.seq (.ops [.mov xt01 xo05, .mov xt00 xo06, .nlc xt06 xo07, .fld 3 xt07 xo08, .ld1 xt08 xo09, .cmp .eql xt05 xt09 xo0a]) (.cnd xt0a (.seq (.ops [.mov (.k .ns) xo04]) .ret) .skip)) (.seq (.ops [.mov xt00 xo0b, .nlc xt0b xo0c, .fld 3 xt0c xo0d, .mov xt01 xo0e, .call 159 [xt0d, xt0e, (xn 0), (xn 0)] xo0f, .call 158 [xt0f] xo10, .mov xt10 xo04]) .ret))) [.t xt04]
noncomputable def xf99 : Fn := .x 16 (.seq (.ops [.mov (xn 0) xo02]) (.seq (.seq (.ops [.mov xt00 xo03, .nlc xt03 xo04, .fld 0 xt04 xo05, .ld1 xt05 xo06, .len 1 xt06 xo07, .cmp .eql xt07 (xn 0) xo08]) (.cnd xt08 (.seq (.ops [.mov (xn 0) xo02]) .ret) .skip)) (.seq (.drw [.mk .pure 0 xo09 (.mov xt00 xo09), .mk .pure 1 xo0a (.nlc xt09 xo0a), .mk .pure 3 xo0b (.fld 0 xt0a xo0b), .mk .read 7 xo0c (.ld1 xt0b xo0c), .mk .pure 0 xo0d (.mov xt00 xo0d), .mk .pure 16 xo0e (.nlc xt0d xo0e), .mk .pure 48 xo0f (.fld 0 xt0e xo0f), .mk .read 112 xo10 (.ld1 xt0f xo10), .mk .read 240 xo11 (.len 1 xt10 xo11), .mk .pure 496 xo12 (.ar .sub xt11 (xn 1) xo12), .mk .pure 1023 xo13 (.idx 1 xt0c xt12 xo13), .mk .read 2047 xo14 (.ld1 xt13 xo14), .mk .pure 4095 xo02 (.mov xt14 xo02)]) .ret))) [.t xt02]
noncomputable def xf105 : Fn := .x 7 (.ops [.mov xt00 xo04, .mov xt01 xo05, .call 163 [xt04, xt05, (.k (.f 164 .nil .nil))] xo06]) []
noncomputable def xf106 : Fn := .x 16 (.seq (.ops [.mov xt01 xo0b, .ar .quo xt0b (xn 1000) xo0c, .mov xt0c xo08]) (.seq (.ops [.mov xt00 xo0d, .nlc xt0d xo0e, .fld 1 xt0e xo0f, .ld1 xt0f xo10, .mov xt08 xo11, .lok (one1 z160) xt10 xt11 false xo12, .mov xt12 xo09]) (.seq (.ops [.mov xt00 xo13, .mov xt08 xo14, .mov xt09 xo15, .mov xt01 xo16, .call 165 [xt15, (xn 17), xt16] xo17, .mov xt02 xo18, .call 166 [xt18] xo19, .mov xt03 xo1a, .call 166 [xt1a] xo1b, .bls 3 2 (repL 2 z33) [(0, 3, xt19), (3, 3, xt1b)] xo1c, .call 92 [xt13, xt14, xt17, (xn 17), (xn 0), xt1c] xo1d]) (.seq (.ops [.mov xt00 xo1e, .call 109 [xt1e] xo1f, .mov xt1f xo0a]) (.seq (.ops [.mov xt00 xo20, .mov xt08 xo21, .mov xt09 xo22, .mov xt01 xo23, .call 165 [xt22, (xn 16), xt23] xo24, .mov xt0a xo25, .call 93 [xt25] xo26, .bls 3 1 (repL 1 z33) [(0, 3, xt26)] xo27, .call 92 [xt20, xt21, xt24, (xn 16), (xn 0), xt27] xo28]) (.ops [.mov xt00 xo29, .nlc xt29 xo2a, .fld 4 xt2a xo2b, .ld1 xt2b xo2c, .mov xt01 xo2d, .mov xt0a xo2e, .call 167 [xt2c, xt2d, xt2e] xo2f])))))) []
noncomputable def xf107 : Fn := .x 9 (.seq (.ops [.box 1 xt00 xo02, .box 1 xt01 xo03, .mov (.k .ns) xo04]) (.seq (.ops [.ld1 xt02 xo05, .call 169 [xt05] xo06, .mkf 170 [] [xt02, xt03] xo07, .call 168 [xt06, xt07] xo08, .mov xt08 xo04]) .ret)) [.t xt04]
noncomputable def xf109 : Fn := .x 14 (.seq (.ops [.mov (xn 0) xo02]) (.seq (.ops [.mov xt00 xo03, .nlc xt03 xo04, .fld 13 xt04 xo05, .ld1 xt05 xo06, .ar .add xt06 (xn 1) xo07, .nlc xt03 xo08, .fld 13 xt08 xo09, .sto 1 xt09 xt07]) (.seq (.ops [.mov xt00 xo0a, .nlc xt0a xo0b, .fld 13 xt0b xo0c, .ld1 xt0c xo0d, .mov xt0d xo02]) .ret))) [.t xt02]
noncomputable def xf111 : Fn := .x 16 (.seq (.ops [.mov (.k (.str [])) xo04, .mov (.k .ni) xo05]) (.seq (.ops [.mov xt00 xo07, .call 171 [xt07] xo08, .fi1 2 xt08 xo09, .mov xt09 xo06]) (.seq (.seq (.ops [.mov xt01 xo0a, .cmp .lss xt0a (xn 0) xo0b, .mov xt0b xo0c, .gd .h0 .hc false (.mov xt01 xo0d) xo0d, .gd .h0 .hc false (.mov xt06 xo0e) xo0e, .gd .h0 .hc false (.len 1 xt0e xo0f) xo0f, .gd .h0 .hc false (.cmp .geq xt0d xt0f xo10) xo10, .pick xt0c xTT xt10 xo11]) (.cnd xt11 (.seq (.drw [.mk .read 0 xo12 (.ld1 (.k (.p 6 0)) xo12), .mk .pure 0 xo04 (.mov (.k (.str [])) xo04), .mk .pure 3 xo05 (.mov xt12 xo05)]) .ret) .skip)) (.seq (.ops [.mov xt06 xo13, .mov xt01 xo14, .idx 1 xt13 xt14 xo15, .ld1 xt15 xo16, .mov xt16 xo04, .mov (.k .ni) xo05]) .ret)))) [.t xt04, .t xt05]
noncomputable def xf112 : Fn := .x 16 (.seq (.ops [.box 3 xt00 xo02, .mov (.k .ns) xo04, .mov (.k .ni) xo05]) (.seq (.seq (.ops [.ldn 3 xt02 xo0b, .mov xt01 xo0c, .call 172 [xt0b, xt0c] xo0d, .mov xt0d xo06]) (.seq (.ops [.mov xt06 xo0e, .eqv 7 false xt0e (.k .ni) xo0f]) (.cnd xt0f (.seq (.ops [.mov xt06 xo10, .mov (.k .ns) xo04, .mov xt10 xo05]) .ret) .skip))) (.seq (.ops [.mov (.k .ns) xo07]) (.seq (.seq (.ops [.fld 2 xt02 xo11, .ld1 xt11 xo12, .len 1 xt12 xo13, .mov (xn 0) xo14]) (.blk 0 (.loop (.seq (.ops [.cmp .lss xt14 xt13 xo15]) (.seq (.cnd xt15 .skip (.ex 0)) (.seq (.blk 1 (.seq (.ops [.idx 3 xt12 xt14 xo16, .ldn 3 xt16 xo17, .alc 3 z33 xo09, .sto 3 xt09 xt17]) (.seq (.ops [.fld 0 xt09 xo18, .ld1 xt18 xo19]) (.blk 2 (.seq (.ops [.cmp .eql xt19 (.k (.i .u8 (.ofNat 115))) xo20, .mov xt20 xo1f]) (.cnd xt1f (.ops [.mov xt07 xo21, .fld 2 xt09 xo22, .ld1 xt22 xo23, .call 173 [xt21, xt23] xo24, .mov xt24 xo07]) (.seq (.ops [.cmp .eql xt19 (.k (.i .u8 (.ofNat 97))) xo26, .mov xt26 xo25]) (.cnd xt25 (.ops [.mov xt07 xo27, .fld 2 xt09 xo28, .ld1 xt28 xo29, .call 174 [xt27, xt29] xo2a, .mov xt2a xo07]) (.ops [.mov xt07 xo1a, .fld 1 xt09 xo1b, .ld1 xt1b xo1c, .cnv .u32 xt1c xo1d, .call 175 [xt1a, xt1d] xo1e, .mov xt1e xo07]))))))))) (.ops [.ar .add xt14 (xn 1) xo2b, .mov xt2b xo14]))))))) (.seq (.ops [.mov xt07 xo2c, .len 1 xt2c xo2d, .ar .add xt2d (xn 8) xo2e, .mov xt2e xo0a]) (.seq (.seq (.ops [.mov xt0a xo2f, .cmp .gtr xt2f (xn 4096) xo30]) (.cnd xt30 (.seq (.drw [.mk .read 0 xo31 (.ld1 (.k (.p 7 0)) xo31), .mk .pure 0 xo04 (.mov (.k .ns) xo04), .mk .pure 3 xo05 (.mov xt31 xo05)]) .ret) .skip)) (.seq (.drw [.mk .pure 0 xo32 (.fld 0 xt02 xo32), .mk .read 1 xo33 (.ld1 xt32 xo33), .mk .pure 3 xo34 (.cnv .u32 xt33 xo34), .mk .act 7 xo35 (.call 175 [(.k .ns), xt34] xo35), .mk .pure 0 xo36 (.mov xt0a xo36), .mk .pure 16 xo37 (.ar .mul xt36 (xn 65536) xo37), .mk .pure 0 xo38 (.fld 1 xt02 xo38), .mk .rdx 64 xo39 (.ld1 xt38 xo39), .mk .pure 240 xo3a (.ar .add xt37 xt39 xo3a), .mk .pure 496 xo3b (.cnv .u32 xt3a xo3b), .mk .act 1023 xo3c (.call 175 [xt35, xt3b] xo3c), .mk .pure 0 xo3d (.mov xt07 xo3d), .mk .act 4095 xo3e (.app 1 xt3c xt3d xo3e), .mk .pure 8191 xo04 (.mov xt3e xo04), .mk .pure 16383 xo05 (.mov (.k .ni) xo05)]) .ret))))))) [.t xt04, .t xt05]
noncomputable def xf113 : Fn := .x 16 (.seq (.ops [.mov (.k .ni) xo04]) (.seq (.blk 0 (.seq (.ops [.mov xt00 xo06, .nlc xt06 xo07, .fld 2 xt07 xo08, .ld1 xt08 xo09, .mov xt09 xo05]) (.cnd xt05 (.seq (.ops [.ld1 (.k (.p 0 0)) xo0a, .mov xt0a xo04]) .ret) (.seq (.drw [.mk .pure 0 xo0c (.mov xt01 xo0c), .mk .read 1 xo0d (.len 1 xt0c xo0d), .mk .pure 0 xo0e (.mov xt00 xo0e), .mk .pure 4 xo0f (.nlc xt0e xo0f), .mk .pure 12 xo10 (.fld 0 xt0f xo10), .mk .read 28 xo11 (.ld1 xt10 xo11), .mk .pure 0 xo12 (.mov xt00 xo12), .mk .pure 64 xo13 (.nlc xt12 xo13), .mk .pure 192 xo14 (.fld 1 xt13 xo14), .mk .read 448 xo15 (.ld1 xt14 xo15), .mk .read 960 xo16 (.len 1 xt15 xo16), .mk .pure 2044 xo17 (.ar .sub xt11 xt16 xo17), .mk .pure 4095 xo18 (.cmp .gtr xt0d xt17 xo18), .mk .pure 8191 xo0b (.mov xt18 xo0b)]) (.cnd xt0b (.seq (.ops [.mov xt00 xo19, .nlc xt19 xo1a, .fld 2 xt1a xo1b, .sto 1 xt1b xTT]) (.seq (.ops [.ld1 (.k (.p 2 0)) xo1c, .mov xt1c xo04]) .ret)) .skip))))) (.seq (.drw [.mk .pure 0 xo1d (.mov xt00 xo1d), .mk .pure 0 xo1e (.mov xt00 xo1e), .mk .pure 2 xo1f (.nlc xt1e xo1f), .mk .pure 6 xo20 (.fld 1 xt1f xo20), .mk .read 14 xo21 (.ld1 xt20 xo21), .mk .pure 0 xo22 (.mov xt00 xo22), .mk .pure 32 xo23 (.nlc xt22 xo23), .mk .pure 96 xo24 (.fld 1 xt23 xo24), .mk .read 224 xo25 (.ld1 xt24 xo25), .mk .read 480 xo26 (.len 1 xt25 xo26), .mk .pure 0 xo27 (.mov xt00 xo27), .mk .pure 1024 xo28 (.nlc xt27 xo28), .mk .pure 3072 xo29 (.fld 1 xt28 xo29), .mk .read 7168 xo2a (.ld1 xt29 xo2a), .mk .read 15360 xo2b (.len 1 xt2a xo2b), .mk .pure 32766 xo2c (.slc 1 xt21 none (some xt26) (some xt2b) xo2c), .mk .pure 0 xo2d (.mov xt01 xo2d), .mk .act 131070 xo2e (.app 1 xt2c xt2d xo2e), .mk .pure 262143 xo2f (.nlc xt1d xo2f), .mk .pure 524287 xo30 (.fld 1 xt2f xo30), .mk .act 1048575 .no (.sto 1 xt30 xt2e)]) (.seq (.ops [.mov (.k .ni) xo04]) .ret)))) [.t xt04]
noncomputable def xf121 : Fn := .x 16 (.seq (.ops [.box 3 xt00 xo02, .mov xFF xo04]) (.seq (.seq (.ops [.fld 0 xt02 xo05, .ld1 xt05 xo06, .mov xt01 xo07, .cmp .neq xt06 xt07 xo08]) (.cnd xt08 (.seq (.ops [.mov xFF xo04]) .ret) .skip)) (.seq (.seq (.ops [.mov xt01 xo09]) (.blk 0 (.seq (.seq (.ops [.cmp .eql xt09 (.k (.i .u8 (.ofNat 105))) xo0b, .mov xt0b xo0a]) (.cnd xt0a .skip (.ops [.cmp .eql xt09 (.k (.i .u8 (.ofNat 102))) xo0c, .mov xt0c xo0a]))) (.cnd xt0a (.seq (.ops [.fld 2 xt02 xo0d, .ld1 xt0d xo0e, .eqv 1 true xt0e (.k (.str [])) xo0f, .mov xt0f xo10, .gd .h1 .h0 true (.fld 1 xt02 xo11) xo11, .gd .h1 .h0 true (.ld1 xt11 xo12) xo12, .gd .h1 .h0 true (.cmp .geq xt12 (.k (.i .i64 (.negSucc 2147483647))) xo13) xo13, .pick xt10 xt13 xFF xo14, .mov xt14 xo15, .gd .h1 .h5 true (.fld 1 xt02 xo16) xo16, .gd .h1 .h5 true (.ld1 xt16 xo17) xo17, .gd .h1 .h5 true (.cmp .lss xt17 (xn 2147483648) xo18) xo18, .pick xt15 xt18 xFF xo19, .mov xt19 xo04]) .ret) (.seq (.seq (.ops [.cmp .eql xt09 (.k (.i .u8 (.ofNat 117))) xo1b, .mov xt1b xo1a]) (.cnd xt1a .skip (.ops [.cmp .eql xt09 (.k (.i .u8 (.ofNat 111))) xo1c, .mov xt1c xo1a]))) (.cnd xt1a (.seq (.ops [.fld 2 xt02 xo1d, .ld1 xt1d xo1e, .eqv 1 true xt1e (.k (.str [])) xo1f, .mov xt1f xo20, .gd .h2 .h0 true (.fld 1 xt02 xo21) xo21, .gd .h2 .h0 true (.ld1 xt21 xo22) xo22, .gd .h2 .h0 true (.cmp .geq xt22 (xn 0) xo23) xo23, .pick xt20 xt23 xFF xo24, .mov xt24 xo25, .gd .h2 .h5 true (.fld 1 xt02 xo26) xo26, .gd .h2 .h5 true (.ld1 xt26 xo27) xo27, .gd .h2 .h5 true (.cmp .lss xt27 (xn 4294967296) xo28) xo28, .pick xt25 xt28 xFF xo29, .mov xt29 xo04]) .ret) (.seq (.ops [.cmp .eql xt09 (.k (.i .u8 (.ofNat 110))) xo2b, .mov xt2b xo2a]) (.cnd xt2a (.seq (.ops [.fld 2 xt02 xo2c, .ld1 xt2c xo2d, .eqv 1 true xt2d (.k (.str [])) xo2e, .mov xt2e xo2f, .gd .h2 .hf true (.fld 1 xt02 xo30) xo30, .gd .h2 .hf true (.ld1 xt30 xo31) xo31, .gd .h2 .hf true (.cmp .geq xt31 (xn 1) xo32) xo32, .pick xt2f xt32 xFF xo33, .mov xt33 xo34, .gd .h3 .h4 true (.fld 1 xt02 xo35) xo35, .gd .h3 .h4 true (.ld1 xt35 xo36) xo36, .gd .h3 .h4 true (.cmp .lss xt36 (xn 4294967296) xo37) xo37, .pick xt34 xt37 xFF xo38, .mov xt38 xo04]) .ret) (.seq (.ops [.cmp .eql xt09 (.k (.i .u8 (.ofNat 115))) xo3a, .mov xt3a xo39]) (.cnd xt39 (.seq (.ops [.fld 1 xt02 xo3b, .ld1 xt3b xo3c, .cmp .eql xt3c (xn 0) xo3d, .mov xt3d xo3e, .gd .h3 .he true (.fld 2 xt02 xo3f) xo3f, .gd .h3 .he true (.ld1 xt3f xo40) xo40, .gd .h3 .he true (.len 0 xt40 xo41) xo41, .gd .h3 .he true (.cmp .leq xt41 (xn 200) xo42) xo42, .pick xt3e xt42 xFF xo43, .mov xt43 xo44, .gd .h4 .h4 true (.fld 2 xt02 xo45) xo45, .gd .h4 .h4 true (.ld1 xt45 xo46) xo46, .gd .h4 .h4 true (.call 183 [xt46] xo47) xo47, .pick xt44 xt47 xFF xo48, .mov xt48 xo04]) .ret) (.seq (.ops [.cmp .eql xt09 (.k (.i .u8 (.ofNat 97))) xo4a, .mov xt4a xo49]) (.cnd xt49 (.seq (.ops [.fld 1 xt02 xo4b, .ld1 xt4b xo4c, .cmp .eql xt4c (xn 0) xo4d, .mov xt4d xo4e, .gd .h4 .he true (.fld 2 xt02 xo4f) xo4f, .gd .h4 .he true (.ld1 xt4f xo50) xo50, .gd .h4 .he true (.len 0 xt50 xo51) xo51, .gd .h4 .he true (.cmp .leq xt51 (xn 200) xo52) xo52, .pick xt4e xt52 xFF xo53, .mov xt53 xo04]) .ret) .skip)))))))))))) (.seq (.ops [.mov xFF xo04]) .ret)))) [.t xt04]
noncomputable def xf122 : Fn := .x 16 (.seq (.ops [.mov (.k .ns) xo02]) (.seq (.ops [.mov xt00 xo04, .len 0 xt04 xo05, .cnv .u32 xt05 xo06, .call 40 [xt06] xo07, .mov xt00 xo08, .aps xt07 xt08 xo09, .mov xt09 xo03]) (.seq (.blk 0 (.loop (.seq (.seq (.ops [.mov xt03 xo0a, .len 1 xt0a xo0b, .ar .rem xt0b (xn 4) xo0c, .cmp .neq xt0c (xn 0) xo0d]) (.cnd xt0d .skip (.ex 0))) (.blk 1 (.ops [.mov xt03 xo0e, .bls 1 1 (repL 1 z5) [(0, 1, (.k (.i .u8 (.ofNat 0))))] xo0f, .app 1 xt0e xt0f xo10, .mov xt10 xo03]))))) (.seq (.ops [.mov xt03 xo11, .mov xt11 xo02]) .ret)))) [.t xt02]
noncomputable def xf124 : Fn := .x 11 (.seq (.ops [.mov xt00 xo03, .len 1 xt03 xo04, .mov xt04 xo02]) (.ops [.mov xt00 xo05, .mov xt02 xo06, .mov xt02 xo07, .cnv .u64 xt07 xo08, .call 186 [xt08] xo09, .call 185 [xt05, (xn 0), xt06, xt09] xo0a])) []
noncomputable def xf127 : Fn := .x 16 (.seq (.ops [.mov (.k .ns) xo04]) (.seq (.ops [.mov xt00 xo0d, .nlc xt0d xo0e, .fld 0 xt0e xo0f, .ld1 xt0f xo10, .mov xt01 xo11, .lok (one1 z215) xt10 xt11 false xo12, .mov xt12 xo05]) (.seq (.seq (.ops [.mov xt05 xo13, .eqv 2 true xt13 (.k .np) xo14, .mov xt14 xo15, .gd .h1 .h5 false (.mov xt05 xo16) xo16, .gd .h1 .h5 false (.nlc xt16 xo17) xo17, .gd .h1 .h5 false (.fld 23 xt17 xo18) xo18, .gd .h1 .h5 false (.fld 1 xt18 xo19) xo19, .gd .h1 .h5 false (.ld1 xt19 xo1a) xo1a, .gd .h1 .h5 false (.cmp .eql xt1a (xn 0) xo1b) xo1b, .pick xt15 xTT xt1b xo1c]) (.cnd xt1c (.seq (.ops [.mov (.k .ns) xo04]) .ret) .skip)) (.seq (.ops [.mov (.k .ns) xo06]) (.seq (.seq (.ops [.mov xt05 xo1d, .nlc xt1d xo1e, .fld 23 xt1e xo1f, .fld 8 xt1f xo20, .ld1 xt20 xo21, .len 1 xt21 xo22, .mov (xn 0) xo23]) (.blk 0 (.loop (.seq (.ops [.cmp .lss xt23 xt22 xo24]) (.seq (.cnd xt24 .skip (.ex 0)) (.seq (.blk 1 (.seq (.ops [.idx 1 xt21 xt23 xo25, .ld1 xt25 xo26, .mov xt26 xo08]) (.seq (.seq (.ops [.mov xt08 xo27, .cmp .eql xt27 (xn 0) xo28]) (.cnd xt28 (.seq (.ops [.mov xt06 xo29, .mov xt01 xo2a, .bld 3 z94 [(0, 1, xt2a)] xo2b, .bls 3 1 (repL 1 z94) [(0, 3, xt2b)] xo2c, .app 3 xt29 xt2c xo2d, .mov xt2d xo06]) (.ex 1)) .skip)) (.seq (.ops [.mov xt05 xo2f, .nlc xt2f xo30, .fld 23 xt30 xo31, .fld 9 xt31 xo32, .ld1 xt32 xo33, .mov xt08 xo34, .call 187 [xt33, xt34] xo35, .mov xt35 xo2e, .ext 0 xt2e xo36, .ext 1 xt2e xo37, .alc 3 z94 xo09, .sto 3 xt09 xt36, .mov xt37 xo0a]) (.seq (.ops [.mov xt00 xo38, .mov xt08 xo39, .call 127 [xt38, xt39] xo3a, .len 1 xt3a xo3b, .mov (xn 0) xo3c]) (.blk 2 (.loop (.seq (.ops [.cmp .lss xt3c xt3b xo3d]) (.seq (.cnd xt3d .skip (.ex 2)) (.seq (.blk 3 (.seq (.ops [.idx 3 xt3a xt3c xo3e, .ldn 3 xt3e xo3f, .alc 3 z94 xo0c, .sto 3 xt0c xt3f]) (.ops [.mov xt06 xo40, .fld 0 xt0c xo41, .ld1 xt41 xo42, .fld 1 xt0c xo43, .ld1 xt43 xo44, .fld 1 xt09 xo45, .ld1 xt45 xo46, .ar .add xt44 xt46 xo47, .fld 2 xt0c xo48, .ld1 xt48 xo49, .fld 2 xt09 xo4a, .ld1 xt4a xo4b, .ar .add xt49 xt4b xo4c, .bld 3 z94 [(0, 1, xt42), (1, 1, xt47), (2, 1, xt4c)] xo4d, .bls 3 1 (repL 1 z94) [(0, 3, xt4d)] xo4e, .app 3 xt40 xt4e xo4f, .mov xt4f xo06]))) (.ops [.ar .add xt3c (xn 1) xo50, .mov xt50 xo3c]))))))))))) (.ops [.ar .add xt23 (xn 1) xo51, .mov xt51 xo23]))))))) (.seq (.ops [.mov xt06 xo52, .mov xt52 xo04]) .ret)))))) [.t xt04]
noncomputable def xf128 : Fn := .x 6 (.seq (.ops [.mov (xn 0) xo02]) (.seq (.ops [.mov xt00 xo03, .mnx true xt03 (xn 16777216) xo04, .mnx false (.k (.i .i64 (.negSucc 16777215))) xt04 xo05, .mov xt05 xo02]) .ret)) [.t xt02]
noncomputable def xf129 : Fn := .x 16 (.seq (.ops [.alc 10 z147 xo06]) (.seq (.ops [.mov xt00 xo08, .nlc xt08 xo09, .fld 0 xt09 xo0a, .ld1 xt0a xo0b, .mov xt01 xo0c, .lok (one1 z215) xt0b xt0c false xo0d, .mov xt0d xo07]) (.seq (.seq (.ops [.mov xt07 xo0e, .eqv 2 true xt0e (.k .np) xo0f]) (.cnd xt0f (.seq (.ops [.bld 10 z147 [] xo10, .sto 10 xt06 xt10]) .ret) .skip)) (.seq (.ops [.mov xt02 xo11, .mov xt07 xo12, .cald xt11 [xt12] xo13, .call 188 [xt13] xo14, .sto 10 xt06 xt14]) .ret)))) [.cn 10 xt06]
noncomputable def xf130 : Fn := .x 7 (.seq (.ops [.alc 10 z147 xo02]) (.seq (.ops [.mov xt00 xo03, .nlc xt03 xo04, .fld 23 xt04 xo05, .ldn 10 xt05 xo06, .sto 10 xt02 xt06]) .ret)) [.cn 10 xt02]
noncomputable def xf131 : Fn := .x 16 (.seq (.drw [.mk .pure 0 xo0d (.mov xt00 xo0d), .mk .pure 1 xo0e (.nlc xt0d xo0e), .mk .pure 3 xo0f (.fld 0 xt0e xo0f), .mk .rdx 7 xo10 (.ld1 xt0f xo10), .mk .pure 0 xo11 (.mov xt00 xo11), .mk .pure 16 xo12 (.nlc xt11 xo12), .mk .pure 48 xo13 (.fld 1 xt12 xo13), .mk .rdx 112 xo14 (.ld1 xt13 xo14), .mk .pure 255 xo15 (.bld 4 z153 [(2, 1, xt10), (3, 1, xt14)] xo15), .mk .act 0 xo06 (.alc 4 z153 xo06), .mk .act 1023 .no (.sto 4 xt06 xt15)]) (.seq (.ops [.mov (.k .ns) xo07]) (.seq (.seq (.ops [.mov xt01 xo16, .len 1 xt16 xo17, .mov (xn 0) xo18]) (.blk 0 (.loop (.seq (.ops [.cmp .lss xt18 xt17 xo19]) (.seq (.cnd xt19 .skip (.ex 0)) (.seq (.blk 1 (.seq (.ops [.idx 4 xt16 xt18 xo1a, .ldn 4 xt1a xo1b, .alc 4 z153 xo09, .sto 4 xt09 xt1b]) (.seq (.drw [.mk .read 0 xo1c (.ldn 4 xt09 xo1c), .mk .act 1 xo1d (.call 190 [xt1c] xo1d), .mk .rdx 0 xo1e (.ldn 4 xt06 xo1e), .mk .act 7 xo1f (.call 189 [xt1d, xt1e] xo1f), .mk .act 15 .no (.sto 4 xt09 xt1f)]) (.seq (.ops [.ldn 4 xt09 xo20, .call 191 [xt20] xo21, .not xt21 xo22, .mov xt22 xo23, .gd .h2 .h3 true (.mov xt07 xo24) xo24, .gd .h2 .h3 true (.ldn 4 xt09 xo25) xo25, .gd .h2 .h3 true (.call 192 [xt24, xt25] xo26) xo26, .gd .h2 .h3 true (.not xt26 xo27) xo27, .pick xt23 xt27 xFF xo28]) (.cnd xt28 (.ops [.mov xt07 xo29, .ldn 4 xt09 xo2a, .bls 4 1 (repL 1 z153) [(0, 4, xt2a)] xo2b, .app 4 xt29 xt2b xo2c, .mov xt2c xo07]) .skip))))) (.ops [.ar .add xt18 (xn 1) xo2d, .mov xt2d xo18]))))))) (.seq (.ops [.mov xt00 xo2e, .nlc xt2e xo2f, .fld 1 xt2f xo30, .ld1 xt30 xo31, .mov (xn 0) xo32]) (.blk 2 (.loop (.seq (.ops [.cmp .lss xt32 xt31 xo33]) (.seq (.cnd xt33 .skip (.ex 2)) (.seq (.blk 3 (.seq (.ops [.mov xt32 xo34, .alc 1 z3 xo0a, .sto 1 xt0a xt34]) (.seq (.ops [.mov xt00 xo35, .ld1 xt0a xo36, .call 193 [xt35, xt36] xo37, .mov xt37 xo0b]) (.seq (.ops [.mov xt0b xo38, .len 1 xt38 xo39, .mov (xn 0) xo3a]) (.blk 4 (.loop (.seq (.ops [.cmp .lss xt3a xt39 xo3b]) (.seq (.cnd xt3b .skip (.ex 4)) (.seq (.blk 5 (.seq (.ops [.mov xt3a xo3c, .alc 1 z3 xo0c, .sto 1 xt0c xt3c]) (.seq (.ops [.mov xt07 xo3d, .mkf 195 [] [xt0c, xt0a] xo3e, .call 194 [xt3d, xt3e] xo3f]) (.cnd xt3f (.drw [.mk .pure 0 xo40 (.mov xt02 xo40), .mk .pure 0 xo41 (.mov xt0b xo41), .mk .read 0 xo42 (.ld1 xt0c xo42), .mk .pure 6 xo43 (.idx 1 xt41 xt42 xo43), .mk .read 0 xo44 (.ld1 xt0c xo44), .mk .read 0 xo45 (.ld1 xt0a xo45), .mk .act 63 xo46 (.cald xt40 [xt43, xt44, xt45] xo46)]) .skip)))) (.ops [.ar .add xt3a (xn 1) xo47, .mov xt47 xo3a])))))))))) (.ops [.ar .add xt32 (xn 1) xo48, .mov xt48 xo32])))))))))) []
noncomputable def xf132 : Fn := .x 10 (.ops [.mov xt00 xo07, .ld1 xt03 xo08, .nlc xt07 xo09, .sto 1 xt09 xt08]) []
noncomputable def xf133 : Fn := .x 16 (.seq (.ops [.mov (xn 0) xo02, .mov (xn 0) xo03, .mov (xn 0) xo04, .mov (.k .ni) xo05]) (.seq (.ops [.mov xt00 xo0a, .call 197 [xt0a, (xn 0)] xo0b, .mov xt0b xo09, .ext 0 xt09 xo0c, .ext 1 xt09 xo0d, .mov xt0c xo06, .mov xt0d xo07]) (.seq (.seq (.ops [.mov xt07 xo0e, .eqv 7 false xt0e (.k .ni) xo0f]) (.cnd xt0f (.seq (.ops [.mov xt07 xo10, .mov (xn 0) xo02, .mov (xn 0) xo03, .mov (xn 0) xo04, .mov xt10 xo05]) .ret) .skip)) (.seq (.ops [.mov xt00 xo12, .call 197 [xt12, (xn 4)] xo13, .mov xt13 xo11, .ext 0 xt11 xo14, .ext 1 xt11 xo15, .mov xt14 xo08, .mov xt15 xo07]) (.seq (.blk 0 (.seq (.ops [.mov xt07 xo17, .eqv 7 false xt17 (.k .ni) xo18, .mov xt18 xo16]) (.cnd xt16 (.seq (.ops [.mov xt07 xo19, .mov (xn 0) xo02, .mov (xn 0) xo03, .mov (xn 0) xo04, .mov xt19 xo05]) .ret) (.seq (.ops [.mov xt08 xo1b, .ar .shr xt1b (.k (.i .u64 (.ofNat 16))) xo1c, .cmp .lss xt1c (.k (.i .u32 (.ofNat 8))) xo1d, .mov xt1d xo1e, .gd .h1 .he false (.mov xt08 xo1f) xo1f, .gd .h1 .he false (.ar .shr xt1f (.k (.i .u64 (.ofNat 16))) xo20) xo20, .gd .h1 .he false (.ar .rem xt20 (.k (.i .u32 (.ofNat 4))) xo21) xo21, .gd .h1 .he false (.cmp .neq xt21 (.k (.i .u32 (.ofNat 0))) xo22) xo22, .pick xt1e xTT xt22 xo23, .mov xt23 xo1a]) (.cnd xt1a (.seq (.drw [.mk .read 0 xo24 (.ld1 (.k (.p 5 0)) xo24), .mk .pure 0 xo02 (.mov (xn 0) xo02), .mk .pure 2 xo03 (.mov (xn 0) xo03), .mk .pure 6 xo04 (.mov (xn 0) xo04), .mk .pure 15 xo05 (.mov xt24 xo05)]) .ret) (.seq (.ops [.mov xt08 xo26, .ar .shr xt26 (.k (.i .u64 (.ofNat 16))) xo27, .cmp .gtr xt27 (.k (.i .u32 (.ofNat 4096))) xo28, .mov xt28 xo25]) (.cnd xt25 (.seq (.drw [.mk .read 0 xo29 (.ld1 (.k (.p 7 0)) xo29), .mk .pure 0 xo02 (.mov (xn 0) xo02), .mk .pure 2 xo03 (.mov (xn 0) xo03), .mk .pure 6 xo04 (.mov (xn 0) xo04), .mk .pure 15 xo05 (.mov xt29 xo05)]) .ret) .skip))))))) (.seq (.ops [.mov xt06 xo2a, .cnv .i64 xt2a xo2b, .mov xt08 xo2c, .ar .rem xt2c (.k (.i .u32 (.ofNat 65536))) xo2d, .cnv .i64 xt2d xo2e, .mov xt08 xo2f, .ar .shr xt2f (.k (.i .u64 (.ofNat 16))) xo30, .cnv .i64 xt30 xo31, .mov xt2b xo02, .mov xt2e xo03, .mov xt31 xo04, .mov (.k .ni) xo05]) .ret)))))) [.t xt02, .t xt03, .t xt04, .t xt05]
noncomputable def xf134 : Fn := .x 12 (.seq (.ops [.mov (xn 0) xo04]) (.seq (.ops [.mov xt00 xo05, .nlc xt05 xo06, .fld 0 xt06 xo07, .ld1 xt07 xo08, .mov xt01 xo09, .lok (.agg z236) xt08 xt09 false xo0a, .fi1 0 xt0a xo0b, .mov xt0b xo04]) .ret)) [.t xt04]
noncomputable def xf135 : Fn := .x 16 (.seq (.ops [.mov (.k .ni) xo04]) (.seq (.ops [.alc 1 z255 xo05]) (.seq (.seq (.ops [.mov xt01 xo06, .eqv 7 true xt06 (.k .ni) xo07, .mov xt07 xo08, .gd .h0 .h8 false (.mov xt01 xo09) xo09, .gd .h0 .h8 false (.mki 257 xt05 xo0a) xo0a, .gd .h0 .h8 false (.call 147 [xt09, xt0a] xo0b) xo0b, .pick xt08 xTT xt0b xo0c]) (.cnd xt0c (.seq (.ops [.mov xt01 xo0d, .mov xt0d xo04]) .ret) .skip)) (.seq (.ops [.mov xt00 xo0e, .mov xt01 xo0f, .call 84 [xt0f] xo10, .mov xt01 xo11, .call 83 [xt0e, xt10, xt11] xo12, .mov xt12 xo04]) .ret)))) [.t xt04]
noncomputable def xf136 : Fn := .x 16 (.seq (.ops [.mov (.k (.str [])) xo04, .mov (.k .ni) xo05]) (.seq (.ops [.mov xt00 xo09, .mov xt01 xo0a, .call 198 [xt09, xt0a] xo0b, .mov xt0b xo08, .ext 0 xt08 xo0c, .ext 1 xt08 xo0d, .alc 3 z321 xo06, .sto 3 xt06 xt0c, .mov xt0d xo07]) (.seq (.seq (.ops [.mov xt07 xo0e, .not xt0e xo0f]) (.cnd xt0f (.seq (.drw [.mk .read 0 xo10 (.ld1 (.k (.p 6 0)) xo10), .mk .pure 0 xo04 (.mov (.k (.str [])) xo04), .mk .pure 3 xo05 (.mov xt10 xo05)]) .ret) .skip)) (.seq (.ops [.fld 0 xt06 xo11, .ld1 xt11 xo12, .mov xt12 xo04, .mov (.k .ni) xo05]) .ret)))) [.t xt04, .t xt05]
noncomputable def xf137 : Fn := .x 16 (.seq (.ops [.box 3 xt00 xo02, .alc 3 z73 xo04, .mov (.k .ni) xo05]) (.seq (.ops [.fld 0 xt02 xo0e, .ld1 xt0e xo0f, .fld 1 xt02 xo10, .ld1 xt10 xo11, .bld 3 z73 [(0, 1, xt0f), (1, 1, xt11)] xo12, .alc 3 z73 xo06, .sto 3 xt06 xt12]) (.seq (.ops [.fld 2 xt02 xo13, .ld1 xt13 xo14, .s2b xt14 xo15, .mov xt15 xo07]) (.seq (.ops [.mov (xn 0) xo08]) (.seq (.seq (.ops [.mov xt01 xo16, .len 0 xt16 xo17, .mov (xn 0) xo18]) (.blk 0 (.loop (.seq (.ops [.cmp .lss xt18 xt17 xo19]) (.seq (.cnd xt19 .skip (.ex 0)) (.seq (.blk 1 (.seq (.ops [.mov xt18 xo1a, .mov xt1a xo09]) (.seq (.ops [.mov xt01 xo1c, .mov xt09 xo1d, .ins xt1c xt1d xo1e, .mov xt07 xo1f, .mov xt08 xo20, .call 199 [xt1e, xt1f, xt20] xo21, .mov xt21 xo1b, .ext 0 xt1b xo22, .ext 1 xt1b xo23, .ext 2 xt1b xo24, .alc 3 z33 xo0a, .sto 3 xt0a xt22, .mov xt23 xo0b, .mov xt24 xo0c]) (.seq (.seq (.ops [.mov xt0c xo25, .eqv 7 false xt25 (.k .ni) xo26]) (.cnd xt26 (.seq (.ops [.bld 3 z73 [] xo27, .mov xt0c xo28, .sto 3 xt04 xt27, .mov xt28 xo05]) .ret) .skip)) (.seq (.ops [.fld 2 xt06 xo29, .ld1 xt29 xo2a, .ldn 3 xt0a xo2b, .bls 3 1 (repL 1 z33) [(0, 3, xt2b)] xo2c, .app 3 xt2a xt2c xo2d, .fld 2 xt06 xo2e, .sto 1 xt2e xt2d]) (.ops [.mov xt0b xo2f, .mov xt2f xo08])))))) (.ops [.ar .add xt18 (xn 1) xo30, .mov xt30 xo18]))))))) (.seq (.seq (.ops [.mov xt08 xo31, .mov xt07 xo32, .len 1 xt32 xo33, .cmp .lss xt31 xt33 xo34]) (.cnd xt34 (.seq (.drw [.mk .pure 0 xo35 (.bld 3 z73 [] xo35), .mk .rdx 0 xo36 (.ld1 (.k (.p 5 0)) xo36), .mk .act 1 .no (.sto 3 xt04 xt35), .mk .pure 7 xo05 (.mov xt36 xo05)]) .ret) .skip)) (.seq (.seq (.ops [.ldn 3 xt06 xo37, .mov xt01 xo38, .call 172 [xt37, xt38] xo39, .mov xt39 xo0d]) (.seq (.ops [.mov xt0d xo3a, .ld1 (.k (.p 1 0)) xo3b, .call 114 [xt3a, xt3b] xo3c]) (.cnd xt3c (.seq (.ops [.bld 3 z73 [] xo3d, .mov xt0d xo3e, .sto 3 xt04 xt3d, .mov xt3e xo05]) .ret) .skip))) (.seq (.ops [.ldn 3 xt06 xo3f, .sto 3 xt04 xt3f, .mov (.k .ni) xo05]) .ret)))))))) [.cn 3 xt04, .t xt05]
noncomputable def xf138 : Fn := .x 12 (.seq (.ops [.mov (xn 0) xo04]) (.seq (.ops [.mov xt00 xo05, .nlc xt05 xo06, .fld 0 xt06 xo07, .ld1 xt07 xo08, .mov xt01 xo09, .lok (.agg z236) xt08 xt09 false xo0a, .fi1 1 xt0a xo0b, .mov xt0b xo04]) .ret)) [.t xt04]
noncomputable def xf139 : Fn := .x 16 (.seq (.ops [.mov (.k .ni) xo04]) (.seq (.ops [.mov xt00 xo07, .nlc xt07 xo08, .fld 6 xt08 xo09, .ld1 xt09 xo0a, .mov xt0a xo05]) (.seq (.seq (.ops [.mov xt00 xo0b, .nlc xt0b xo0c, .fld 4 xt0c xo0d, .ld1 xt0d xo0e, .cmp .eql xt0e (xn 2) xo0f]) (.cnd xt0f (.seq (.drf [.mk .act 0 xo10 (.call 200 [] xo10), .mk .pure 0 xo11 (.mov xt00 xo11), .mk .pure 2 xo12 (.nlc xt11 xo12), .mk .pure 6 xo13 (.fld 8 xt12 xo13), .mk .rdx 14 xo14 (.ld1 xt13 xo14), .mk .pure 30 xo15 (.idx 1 xt14 (xn 0) xo15), .mk .rdx 62 xo16 (.ld1 xt15 xo16), .mk .read 127 xo17 (.lok (.agg z327) xt10 xt16 false xo17), .mk .flo 0 xo06 (.alc 2 z327 xo06), .mk .act 511 .no (.sto 2 xt06 xt17)]) (.seq (.drw [.mk .pure 0 xo18 (.fld 0 xt06 xo18), .mk .read 1 xo19 (.ld1 xt18 xo19), .mk .pure 0 xo1a (.mov xt00 xo1a), .mk .pure 4 xo1b (.nlc xt1a xo1b), .mk .pure 12 xo1c (.fld 8 xt1b xo1c), .mk .read 28 xo1d (.ld1 xt1c xo1d), .mk .pure 60 xo1e (.idx 1 xt1d (xn 2) xo1e), .mk .read 124 xo1f (.ld1 xt1e xo1f), .mk .pure 3 xo01 (.mov xt19 xo01), .mk .pure 511 xo05 (.mov xt1f xo05)]) (.seq (.drw [.mk .pure 0 xo20 (.mov xt01 xo20), .mk .pure 1 xo21 (.cmp .eql xt20 (xn 0) xo21), .mk .pure 3 xo22 (.mov xt21 xo22), .mk .pure 7 xo23 (.gd .h2 .h2 false (.mov xt00 xo23) xo23), .mk .pure 15 xo24 (.gd .h2 .h2 false (.nlc xt23 xo24) xo24), .mk .pure 31 xo25 (.gd .h2 .h2 false (.fld 9 xt24 xo25) xo25), .mk .rdx 63 xo26 (.gd .h2 .h2 false (.ld1 xt25 xo26) xo26), .mk .pure 7 xo27 (.gd .h2 .h2 false (.mov xt01 xo27) xo27), .mk .act 135 xo28 (.gd .h2 .h2 false (.call 201 [xt27] xo28) xo28), .mk .read 511 xo29 (.gd .h2 .h2 false (.eqv 1 false xt26 xt28 xo29) xo29), .mk .pure 1023 xo2a (.pick xt22 xTT xt29 xo2a), .mk .pure 2047 xo2b (.mov xt2a xo2b), .mk .pure 4095 xo2c (.gd .h2 .hb false (.mov xt05 xo2c) xo2c), .mk .pure 8191 xo2d (.gd .h2 .hb false (.cmp .lss xt2c (xn 1) xo2d) xo2d), .mk .pure 16383 xo2e (.pick xt2b xTT xt2d xo2e), .mk .pure 32767 xo2f (.mov xt2e xo2f), .mk .pure 65535 xo30 (.gd .h2 .hf false (.mov xt05 xo30) xo30), .mk .pure 65535 xo31 (.gd .h2 .hf false (.fld 1 xt06 xo31) xo31), .mk .read 196607 xo32 (.gd .h2 .hf false (.ld1 xt31 xo32) xo32), .mk .pure 524287 xo33 (.gd .h2 .hf false (.cmp .gtr xt30 xt32 xo33) xo33), .mk .pure 1048575 xo34 (.pick xt2f xTT xt33 xo34)]) (.cnd xt34 (.seq (.ops [.ld1 (.k (.p 1 0)) xo35, .mov xt35 xo04]) .ret) .skip)))) .skip)) (.seq (.seq (.ops [.mov xt00 xo36, .nlc xt36 xo37, .fld 7 xt37 xo38, .ld1 xt38 xo39, .cmp .eql xt39 (xn 0) xo3a]) (.cnd xt3a (.seq (.ops [.mov (.k .ni) xo04]) .ret) .skip)) (.seq (.drw [.mk .pure 0 xo3b (.mov xt00 xo3b), .mk .pure 1 xo3c (.nlc xt3b xo3c), .mk .pure 3 xo3d (.fld 1 xt3c xo3d), .mk .read 7 xo3e (.ld1 xt3d xo3e), .mk .pure 15 xo3f (.nlc xt3e xo3f), .mk .pure 31 xo40 (.fld 0 xt3f xo40), .mk .read 63 xo41 (.ld1 xt40 xo41), .mk .pure 0 xo42 (.mov xt00 xo42), .mk .pure 128 xo43 (.nlc xt42 xo43), .mk .pure 384 xo44 (.fld 7 xt43 xo44), .mk .read 896 xo45 (.ld1 xt44 xo45), .mk .pure 0 xo46 (.mov xt01 xo46), .mk .pure 0 xo47 (.mov xt05 xo47), .mk .act 8191 xo48 (.call 202 [xt41, xt45, xt46, xt47] xo48), .mk .act 16383 xo49 (.call 135 [(xn 1), xt48] xo49), .mk .pure 32767 xo04 (.mov xt49 xo04)]) .ret))))) [.t xt04]
noncomputable def xf140 : Fn := .x 15 (.seq (.ops [.mov (xn 0) xo04]) (.seq (.ops [.mov xt00 xo08, .mov xt01 xo09, .call 198 [xt08, xt09] xo0a, .mov xt0a xo07, .ext 0 xt07 xo0b, .ext 1 xt07 xo0c, .alc 3 z321 xo05, .sto 3 xt05 xt0b, .mov xt0c xo06]) (.seq (.ops [.fld 1 xt05 xo0d, .ld1 xt0d xo0e, .mov xt0e xo04]) .ret))) [.t xt04]
noncomputable def xf141 : Fn := .x 16 (.seq (.ops [.mov (.k .ni) xo02]) (.seq (.ops [.mov xt00 xo06, .nlc xt06 xo07, .fld 0 xt07 xo08, .ld1 xt08 xo09, .mov xt09 xo03]) (.seq (.seq (.ops [.mov xt00 xo0a, .nlc xt0a xo0b, .fld 4 xt0b xo0c, .ld1 xt0c xo0d]) (.blk 0 (.seq (.ops [.cmp .eql xt0d (xn 1) xo0f, .mov xt0f xo0e]) (.cnd xt0e (.ops [.mov xt00 xo10, .call 203 [xt10] xo11]) (.seq (.ops [.cmp .eql xt0d (xn 2) xo13, .mov xt13 xo12]) (.cnd xt12 (.ops [.mov xt00 xo14, .call 204 [xt14] xo15]) (.seq (.ops [.cmp .eql xt0d (xn 4) xo17, .mov xt17 xo16]) (.cnd xt16 (.seq (.ops [.mov xt00 xo18, .nlc xt18 xo19, .fld 5 xt19 xo1a, .ld1 xt1a xo1b, .cmp .eql xt1b (xn 0) xo1c]) (.cnd xt1c (.seq (.drw [.mk .pure 0 xo1d (.mov xt03 xo1d), .mk .pure 1 xo1e (.nlc xt1d xo1e), .mk .pure 3 xo1f (.fld 3 xt1e xo1f), .mk .rdx 7 xo20 (.ld1 xt1f xo20), .mk .pure 0 xo21 (.mov xt00 xo21), .mk .pure 0 xo22 (.mov xt00 xo22), .mk .pure 32 xo23 (.nlc xt22 xo23), .mk .pure 96 xo24 (.fld 7 xt23 xo24), .mk .read 224 xo25 (.ld1 xt24 xo25), .mk .act 496 xo26 (.call 206 [xt21, xt25] xo26), .mk .act 1023 xo27 (.call 205 [xt20, xt26] xo27), .mk .pure 2047 xo02 (.mov xt27 xo02)]) .ret) .skip)) (.seq (.ops [.cmp .eql xt0d (xn 5) xo29, .mov xt29 xo28]) (.cnd xt28 (.seq (.drw [.mk .pure 0 xo2a (.mov xt00 xo2a), .mk .pure 0 xo2b (.mov xt00 xo2b), .mk .pure 2 xo2c (.nlc xt2b xo2c), .mk .pure 6 xo2d (.fld 8 xt2c xo2d), .mk .rdx 14 xo2e (.ld1 xt2d xo2e), .mk .pure 30 xo2f (.idx 1 xt2e (xn 1) xo2f), .mk .rdx 62 xo30 (.ld1 xt2f xo30), .mk .pure 0 xo31 (.mov xt03 xo31), .mk .pure 128 xo32 (.nlc xt31 xo32), .mk .pure 384 xo33 (.fld 5 xt32 xo33), .mk .rdx 896 xo34 (.ld1 xt33 xo34), .mk .pure 0 xo35 (.mov xt00 xo35), .mk .pure 0 xo36 (.mov xt00 xo36), .mk .pure 4096 xo37 (.nlc xt36 xo37), .mk .pure 12288 xo38 (.fld 7 xt37 xo38), .mk .read 28672 xo39 (.ld1 xt38 xo39), .mk .act 63488 xo3a (.call 206 [xt35, xt39] xo3a), .mk .pure 0 xo3b (.mov xt00 xo3b), .mk .pure 131072 xo3c (.nlc xt3b xo3c), .mk .pure 393216 xo3d (.fld 8 xt3c xo3d), .mk .rdx 917504 xo3e (.ld1 xt3d xo3e), .mk .pure 1966080 xo3f (.idx 1 xt3e (xn 1) xo3f), .mk .rdx 4063232 xo40 (.ld1 xt3f xo40), .mk .pure 0 xo41 (.mov xt00 xo41), .mk .pure 8388608 xo42 (.nlc xt41 xo42), .mk .pure 25165824 xo43 (.fld 8 xt42 xo43), .mk .rdx 58720256 xo44 (.ld1 xt43 xo44), .mk .pure 125829120 xo45 (.idx 1 xt44 (xn 2) xo45), .mk .rdx 260046848 xo46 (.ld1 xt45 xo46), .mk .pure 0 xo47 (.mov xt00 xo47), .mk .pure 536870912 xo48 (.nlc xt47 xo48), .mk .pure 1610612736 xo49 (.fld 1 xt48 xo49), .mk .rdx 3758096384 xo4a (.ld1 xt49 xo4a), .mk .pure 8053063680 xo4b (.nlc xt4a xo4b), .mk .pure 16642998272 xo4c (.fld 3 xt4b xo4c), .mk .rdx 33822867456 xo4d (.ld1 xt4c xo4d), .mk .pure 0 xo4e (.mov xt00 xo4e), .mk .pure 68719476736 xo4f (.nlc xt4e xo4f), .mk .pure 206158430208 xo50 (.fld 8 xt4f xo50), .mk .rdx 481036337152 xo51 (.ld1 xt50 xo51), .mk .pure 1030792151040 xo52 (.idx 1 xt51 (xn 1) xo52), .mk .rdx 2130303778816 xo53 (.ld1 xt52 xo53), .mk .act 4397509769216 xo54 (.call 209 [xt4d, xt53] xo54), .mk .act 8796093022080 xo55 (.call 208 [xt34, xt3a, xt40, xt46, xt54] xo55), .mk .act 17592186044415 xo56 (.call 207 [xt2a, xt30, xt55] xo56), .mk .pure 35184372088831 xo02 (.mov xt56 xo02)]) .ret) (.seq (.ops [.cmp .eql xt0d (xn 6) xo58, .mov xt58 xo57]) (.cnd xt57 (.seq (.ops [.mov xt00 xo59, .call 210 [xt59] xo5a, .mov xt5a xo02]) .ret) (.seq (.ops [.cmp .eql xt0d (xn 7) xo5c, .mov xt5c xo5b]) (.cnd xt5b (.seq (.drw [.mk .pure 0 xo5d (.mov xt00 xo5d), .mk .pure 1 xo5e (.nlc xt5d xo5e), .mk .pure 3 xo5f (.fld 1 xt5e xo5f), .mk .read 7 xo60 (.ld1 xt5f xo60), .mk .pure 15 xo61 (.nlc xt60 xo61), .mk .pure 31 xo62 (.fld 1 xt61 xo62), .mk .read 63 xo63 (.ld1 xt62 xo63), .mk .pure 0 xo64 (.mov xt00 xo64), .mk .pure 128 xo65 (.nlc xt64 xo65), .mk .pure 384 xo66 (.fld 3 xt65 xo66), .mk .read 896 xo67 (.ld1 xt66 xo67), .mk .read 2047 xo68 (.lok (one1 z3) xt63 xt67 false xo68), .mk .pure 4095 xo04 (.mov xt68 xo04)]) (.seq (.ops [.mov xt03 xo69, .nlc xt69 xo6a, .fld 5 xt6a xo6b, .ld1 xt6b xo6c, .mov xt04 xo6d, .call 211 [xt6c, xt6d] xo6e, .mov xt6e xo05]) (.seq (.seq (.ops [.mov xt03 xo6f, .nlc xt6f xo70, .fld 3 xt70 xo71, .ld1 xt71 xo72, .call 145 [xt72] xo73, .mov xt04 xo74, .call 212 [xt73, xt74] xo75, .not xt75 xo76]) (.cnd xt76 (.ops [.mov xt03 xo77, .nlc xt77 xo78, .fld 5 xt78 xo79, .ld1 xt79 xo7a, .mov xt04 xo7b, .call 119 [xt7a, xt7b] xo7c]) .skip)) (.seq (.ops [.mov xt05 xo7d, .mov xt7d xo02]) .ret)))) (.seq (.ops [.cmp .eql xt0d (xn 8) xo7f, .mov xt7f xo7e]) (.cnd xt7e (.seq (.ops [.mov xt00 xo80, .call 213 [xt80] xo81, .mov xt81 xo02]) .ret) (.seq (.ops [.cmp .eql xt0d (xn 9) xo83, .mov xt83 xo82]) (.cnd xt82 (.ops [.mov xt00 xo84, .call 214 [xt84] xo85]) (.seq (.ops [.cmp .eql xt0d (xn 10) xo87, .mov xt87 xo86]) (.cnd xt86 (.seq (.ops [.mov xt00 xo88, .nlc xt88 xo89, .fld 5 xt89 xo8a, .ld1 xt8a xo8b, .cmp .eql xt8b (xn 1) xo8c]) (.cnd xt8c (.seq (.ops [.mov xt00 xo8d, .call 215 [xt8d] xo8e, .mov xt8e xo02]) .ret) .skip)) (.seq (.ops [.cmp .eql xt0d (xn 11) xo90, .mov xt90 xo8f]) (.cnd xt8f (.seq (.ops [.mov xt00 xo91, .call 216 [xt91] xo92, .mov xt92 xo02]) .ret) (.seq (.ops [.cmp .eql xt0d (xn 15) xo94, .mov xt94 xo93]) (.cnd xt93 (.seq (.ops [.mov xt00 xo95, .call 217 [xt95] xo96, .mov xt96 xo02]) .ret) (.seq (.ops [.cmp .eql xt0d (xn 16) xo98, .mov xt98 xo97]) (.cnd xt97 (.seq (.ops [.mov xt00 xo99, .call 218 [xt99] xo9a, .mov xt9a xo02]) .ret) (.seq (.ops [.cmp .eql xt0d (xn 17) xo9c, .mov xt9c xo9b]) (.cnd xt9b (.seq (.ops [.mov xt00 xo9d, .nlc xt9d xo9e, .fld 5 xt9e xo9f, .ld1 xt9f xoa0, .cmp .eql xta0 (xn 0) xoa1]) (.cnd xta1 (.seq (.drw [.mk .pure 0 xoa2 (.mov xt03 xoa2), .mk .pure 1 xoa3 (.nlc xta2 xoa3), .mk .pure 3 xoa4 (.fld 4 xta3 xoa4), .mk .read 7 xoa5 (.ld1 xta4 xoa5), .mk .pure 0 xoa6 (.mov xt00 xoa6), .mk .pure 16 xoa7 (.nlc xta6 xoa7), .mk .pure 48 xoa8 (.fld 1 xta7 xoa8), .mk .read 112 xoa9 (.ld1 xta8 xoa9), .mk .pure 240 xoaa (.nlc xta9 xoaa), .mk .pure 496 xoab (.fld 1 xtaa xoab), .mk .read 1008 xoac (.ld1 xtab xoac), .mk .pure 0 xoad (.mov xt00 xoad), .mk .pure 2048 xoae (.nlc xtad xoae), .mk .pure 6144 xoaf (.fld 3 xtae xoaf), .mk .read 14336 xob0 (.ld1 xtaf xob0), .mk .read 32752 xob1 (.lok (one1 z3) xtac xtb0 false xob1), .mk .act 65535 xob2 (.call 115 [xta5, xtb1] xob2)]) (.drw [.mk .pure 0 xob3 (.mov xt03 xob3), .mk .pure 1 xob4 (.nlc xtb3 xob4), .mk .pure 3 xob5 (.fld 9 xtb4 xob5), .mk .read 7 xob6 (.ld1 xtb5 xob6), .mk .pure 0 xob7 (.mov xt00 xob7), .mk .pure 16 xob8 (.nlc xtb7 xob8), .mk .pure 48 xob9 (.fld 1 xtb8 xob9), .mk .read 112 xoba (.ld1 xtb9 xoba), .mk .pure 240 xobb (.nlc xtba xobb), .mk .pure 496 xobc (.fld 1 xtbb xobc), .mk .read 1008 xobd (.ld1 xtbc xobd), .mk .pure 0 xobe (.mov xt00 xobe), .mk .pure 2048 xobf (.nlc xtbe xobf), .mk .pure 6144 xoc0 (.fld 3 xtbf xoc0), .mk .read 14336 xoc1 (.ld1 xtc0 xoc1), .mk .read 32752 xoc2 (.lok (one1 z3) xtbd xtc1 false xoc2), .mk .act 65535 xoc3 (.call 117 [xtb6, xtc2] xoc3)])) .skip)) .skip)))))))))))))))))))))))))))) (.seq (.ops [.mov (.k .ni) xo02]) .ret)))) [.t xt02]
noncomputable def xf143 : Fn := .x 15 (.seq (.ops [.mov xFF xo04]) (.seq (.ops [.mov xt00 xo08, .mov xt01 xo09, .call 198 [xt08, xt09] xo0a, .mov xt0a xo07, .ext 0 xt07 xo0b, .ext 1 xt07 xo0c, .alc 3 z321 xo05, .sto 3 xt05 xt0b, .mov xt0c xo06]) (.seq (.ops [.fld 2 xt05 xo0d, .ld1 xt0d xo0e, .mov xt0e xo04]) .ret))) [.t xt04]
noncomputable def xf144 : Fn := .x 16 (.seq (.ops [.mov (.k .ns) xo04]) (.seq (.ops [.mkm xo0d, .mov xt0d xo05]) (.seq (.seq (.ops [.mov xt01 xo0e, .len 1 xt0e xo0f, .mov (xn 0) xo10]) (.blk 0 (.loop (.seq (.ops [.cmp .lss xt10 xt0f xo11]) (.seq (.cnd xt11 .skip (.ex 0)) (.seq (.blk 1 (.seq (.ops [.idx 1 xt0e xt10 xo12, .ld1 xt12 xo13, .mov xt13 xo07]) (.seq (.ops [.mov xt07 xo14, .cmp .gtr xt14 (xn 0) xo15]) (.cnd xt15 (.ops [.mov xt05 xo16, .mov xt07 xo17, .mup xt16 xt17 xTT]) .skip)))) (.ops [.ar .add xt10 (xn 1) xo18, .mov xt18 xo10]))))))) (.seq (.ops [.mov xt00 xo19, .nlc xt19 xo1a, .fld 0 xt1a xo1b, .ld1 xt1b xo1c, .call 219 [xt1c] xo1d, .mov xt1d xo08]) (.seq (.rmp [.mov xt05 xo1e] xt1e xo1f xt1f xo20 [.ext 0 xt20 xo21] xt21 xo22 [.ext 0 xt22 xo23, .mov xt23 xo09] 2 3 (.ops [.mov xt08 xo24, .mov xt09 xo25, .del xt24 xt25 .no])) (.seq (.ops [.mov xt08 xo26, .call 220 [xt26] xo27, .call 64 [xt27] xo28, .mov xt28 xo0a]) (.seq (.seq (.ops [.mov xt0a xo29, .len 1 xt29 xo2a, .mov (xn 0) xo2b]) (.blk 4 (.loop (.seq (.ops [.cmp .lss xt2b xt2a xo2c]) (.seq (.cnd xt2c .skip (.ex 4)) (.seq (.blk 5 (.seq (.ops [.idx 1 xt29 xt2b xo2d, .ld1 xt2d xo2e, .mov xt2e xo0c]) (.ops [.mov xt00 xo2f, .nlc xt2f xo30, .fld 1 xt30 xo31, .ld1 xt31 xo32, .mov xt0c xo33, .lok (one1 z3) xt32 xt33 false xo34, .ar .add xt34 (xn 1) xo35, .mup xt32 xt33 xt35]))) (.ops [.ar .add xt2b (xn 1) xo36, .mov xt36 xo2b]))))))) (.seq (.ops [.mov xt00 xo37, .mov xt05 xo38, .nlc xt37 xo39, .fld 0 xt39 xo3a, .sto 1 xt3a xt38]) (.seq (.ops [.mov xt0a xo3b, .mov xt3b xo04]) .ret))))))))) [.t xt04]
noncomputable def xf145 : Fn := .x 16 (.seq (.ops [.mov (.k .ns) xo02]) (.seq (.ops [.mov (.k .ns) xo03]) (.seq (.rmp [.mov xt00 xo06, .nlc xt06 xo07, .fld 0 xt07 xo08, .ld1 xt08 xo09] xt09 xo0a xt0a xo0b [.ext 0 xt0b xo0c] xt0c xo0d [.ext 1 xt0d xo0e, .mov xt0e xo05] 0 1 (.seq (.seq (.ops [.mov xt05 xo0f, .nlc xt0f xo10, .fld 13 xt10 xo11, .fld 0 xt11 xo12, .ld1 xt12 xo13]) (.cnd xt13 (.ops [.mov xt03 xo14, .mov xt05 xo15, .nlc xt15 xo16, .fld 13 xt16 xo17, .fld 1 xt17 xo18, .ld1 xt18 xo19, .bls 1 1 (repL 1 z3) [(0, 1, xt19)] xo1a, .app 1 xt14 xt1a xo1b, .mov xt1b xo03]) .skip)) (.ops [.mov xt03 xo1c, .mov xt05 xo1d, .nlc xt1d xo1e, .fld 23 xt1e xo1f, .fld 1 xt1f xo20, .ld1 xt20 xo21, .bls 1 1 (repL 1 z3) [(0, 1, xt21)] xo22, .app 1 xt1c xt22 xo23, .mov xt23 xo03]))) (.seq (.ops [.mov xt03 xo24, .call 124 [xt24] xo25]) (.seq (.ops [.mov xt03 xo26, .call 221 [xt26] xo27, .call 168 [xt27, (.k (.f 222 .nil .nil))] xo28, .mov xt28 xo02]) .ret))))) [.t xt02]
noncomputable def xf150 : Fn := .x 12 (.seq (.ops [.mov (xn 0) xo02, .mov (xn 0) xo03]) (.seq (.drw [.mk .pure 0 xo04 (.mov xt00 xo04), .mk .pure 1 xo05 (.nlc xt04 xo05), .mk .pure 3 xo06 (.fld 0 xt05 xo06), .mk .read 7 xo07 (.ld1 xt06 xo07), .mk .pure 0 xo08 (.mov xt00 xo08), .mk .pure 16 xo09 (.nlc xt08 xo09), .mk .pure 48 xo0a (.fld 1 xt09 xo0a), .mk .read 112 xo0b (.ld1 xt0a xo0b), .mk .pure 15 xo02 (.mov xt07 xo02), .mk .pure 511 xo03 (.mov xt0b xo03)]) .ret)) [.t xt02, .t xt03]
noncomputable def xf151 : Fn := .x 16 (.seq (.ops [.alc 4 z266 xo04, .mov xFF xo05]) (.seq (.seq (.ops [.mov xt00 xo08, .len 1 xt08 xo09, .mov (xn 0) xo0a]) (.blk 0 (.loop (.seq (.ops [.cmp .lss xt0a xt09 xo0b]) (.seq (.cnd xt0b .skip (.ex 0)) (.seq (.blk 1 (.seq (.ops [.idx 4 xt08 xt0a xo0c, .ldn 4 xt0c xo0d, .alc 4 z266 xo07, .sto 4 xt07 xt0d]) (.seq (.ops [.fld 0 xt07 xo0e, .ld1 xt0e xo0f, .mov xt01 xo10, .cmp .eql xt0f xt10 xo11]) (.cnd xt11 (.seq (.ops [.ldn 4 xt07 xo12, .sto 4 xt04 xt12, .mov xTT xo05]) .ret) .skip)))) (.ops [.ar .add xt0a (xn 1) xo13, .mov xt13 xo0a]))))))) (.seq (.ops [.bld 4 z266 [] xo14, .sto 4 xt04 xt14, .mov xFF xo05]) .ret))) [.cn 4 xt04, .t xt05]
noncomputable def xf152 : Fn := .x 16 (.seq (.ops [.box 1 xt01 xo08, .box 1 xt02 xo09, .box 1 xt03 xo0a, .box 1 xt05 xo0c]) (.seq (.seq (.ops [.ld1 xt0a xo0f, .cmp .lss xt0f (xn 1) xo10, .mov xt10 xo11, .gd .h1 .h1 false (.mov xt04 xo12) xo12, .gd .h1 .h1 false (.cmp .lss xt12 (xn 1) xo13) xo13, .pick xt11 xTT xt13 xo14, .mov xt14 xo15, .gd .h1 .h5 false (.ld1 xt0a xo16) xo16, .gd .h1 .h5 false (.call 227 [xt16] xo17) xo17, .pick xt15 xTT xt17 xo18, .mov xt18 xo19, .gd .h1 .h9 false (.mov xt04 xo1a) xo1a, .gd .h1 .h9 false (.call 227 [xt1a] xo1b) xo1b, .pick xt19 xTT xt1b xo1c, .mov xt1c xo1d, .gd .h1 .hd false (.ld1 xt08 xo1e) xo1e, .gd .h1 .hd false (.call 227 [xt1e] xo1f) xo1f, .pick xt1d xTT xt1f xo20, .mov xt20 xo21, .gd .h2 .h1 false (.ld1 xt09 xo22) xo22, .gd .h2 .h1 false (.call 227 [xt22] xo23) xo23, .pick xt21 xTT xt23 xo24]) (.cnd xt24 .ret .skip)) (.seq (.ops [.ld1 xt08 xo25, .ld1 xt09 xo26, .ld1 xt0a xo27, .mov xt04 xo28, .bld 4 z153 [(0, 1, xt25), (1, 1, xt26), (2, 1, xt27), (3, 1, xt28)] xo29, .alc 4 z153 xo0e, .sto 4 xt0e xt29]) (.ops [.mov xt00 xo2a, .mov xt06 xo2b, .mkf 228 [] [xt09, xt0a, xt08, xt0e, xt0c] xo2c, .call 131 [xt2a, xt2b, xt2c] xo2d])))) []
noncomputable def xf153 : Fn := .x 16 (.seq (.ops [.box 6 xt01 xo04, .alc 4 z266 xo06]) (.seq (.seq (.ops [.mov xt02 xo0a, .eqv 2 true xt0a (.k .np) xo0b, .mov xt0b xo0c, .gd .h0 .hc false (.fld 1 xt04 xo0d) xo0d, .gd .h0 .hc false (.ld1 xt0d xo0e) xo0e, .gd .h0 .hc false (.fld 2 xt04 xo0f) xo0f, .gd .h0 .hc false (.ld1 xt0f xo10) xo10, .gd .h0 .hc false (.fld 3 xt04 xo11) xo11, .gd .h0 .hc false (.ld1 xt11 xo12) xo12, .gd .h0 .hc false (.fld 4 xt04 xo13) xo13, .gd .h0 .hc false (.ld1 xt13 xo14) xo14, .gd .h0 .hc false (.fld 5 xt04 xo15) xo15, .gd .h0 .hc false (.ld1 xt15 xo16) xo16, .gd .h0 .hc false (.call 230 [(xn 65536), xt0e, xt10, xt12, xt14, xt16] xo17) xo17, .gd .h0 .hc false (.eqv 7 false xt17 (.k .ni) xo18) xo18, .pick xt0c xTT xt18 xo19]) (.cnd xt19 (.seq (.ops [.mov xt00 xo1a, .bld 4 z266 [(0, 1, xt1a)] xo1b, .sto 4 xt06 xt1b]) .ret) .skip)) (.seq (.ops [.mov xt00 xo1c, .fld 2 xt04 xo1d, .ld1 xt1d xo1e, .fld 3 xt04 xo1f, .ld1 xt1f xo20, .bld 4 z266 [(0, 1, xt1c), (1, 1, xt1e), (2, 1, xt20)] xo21, .alc 4 z266 xo07, .sto 4 xt07 xt21]) (.seq (.seq (.ops [.fld 3 xt04 xo22, .ld1 xt22 xo23, .mov (xn 0) xo24]) (.blk 0 (.loop (.seq (.ops [.cmp .lss xt24 xt23 xo25]) (.seq (.cnd xt25 .skip (.ex 0)) (.seq (.blk 1 (.seq (.ops [.mov xt24 xo26, .mov xt26 xo08]) (.seq (.ops [.fld 2 xt04 xo27, .ld1 xt27 xo28, .mov (xn 0) xo29]) (.blk 2 (.loop (.seq (.ops [.cmp .lss xt29 xt28 xo2a]) (.seq (.cnd xt2a .skip (.ex 2)) (.seq (.blk 3 (.seq (.ops [.mov xt29 xo2b, .mov xt2b xo09]) (.drw [.mk .pure 0 xo2c (.fld 3 xt07 xo2c), .mk .rdx 1 xo2d (.ld1 xt2c xo2d), .mk .pure 0 xo2e (.mov xt02 xo2e), .mk .pure 0 xo2f (.fld 0 xt04 xo2f), .mk .read 8 xo30 (.ld1 xt2f xo30), .mk .pure 0 xo31 (.fld 1 xt04 xo31), .mk .read 32 xo32 (.ld1 xt31 xo32), .mk .pure 0 xo33 (.fld 4 xt04 xo33), .mk .read 128 xo34 (.ld1 xt33 xo34), .mk .pure 0 xo35 (.mov xt08 xo35), .mk .pure 896 xo36 (.ar .mul xt34 xt35 xo36), .mk .pure 2016 xo37 (.ar .add xt32 xt36 xo37), .mk .pure 0 xo38 (.mov xt09 xo38), .mk .pure 4096 xo39 (.ar .mul (xn 4) xt38 xo39), .mk .pure 16352 xo3a (.ar .add xt37 xt39 xo3a), .mk .act 32764 xo3b (.call 232 [xt2e, xt30, xt3a] xo3b), .mk .pure 0 xo3c (.fld 5 xt04 xo3c), .mk .rdx 65536 xo3d (.ld1 xt3c xo3d), .mk .act 262140 xo3e (.call 231 [xt3b, xt3d] xo3e), .mk .act 524284 xo3f (.bls 1 1 (repL 1 z48) [(0, 1, xt3e)] xo3f), .mk .act 1048575 xo40 (.app 1 xt2d xt3f xo40), .mk .pure 2097151 xo41 (.fld 3 xt07 xo41), .mk .act 4194303 .no (.sto 1 xt41 xt40)]))) (.ops [.ar .add xt29 (xn 1) xo42, .mov xt42 xo29]))))))))) (.ops [.ar .add xt24 (xn 1) xo43, .mov xt43 xo24]))))))) (.seq (.ops [.ldn 4 xt07 xo44, .sto 4 xt06 xt44]) .ret))))) [.cn 4 xt06]
noncomputable def xf154 : Fn := .x 5 (.seq (.ops [.alc 3 z33 xo02]) (.seq (.ops [.mov xt00 xo03, .bld 3 z33 [(0, 1, (.k (.i .u8 (.ofNat 111)))), (1, 1, xt03)] xo04, .sto 3 xt02 xt04]) .ret)) [.cn 3 xt02]
noncomputable def xf155 : Fn := .x 7 (.seq (.ops [.alc 3 z33 xo02]) (.seq (.ops [.mov xt00 xo03, .call 233 [xt03] xo04, .cnv .i64 xt04 xo05, .bld 3 z33 [(0, 1, (.k (.i .u8 (.ofNat 102)))), (1, 1, xt05)] xo06, .sto 3 xt02 xt06]) .ret)) [.cn 3 xt02]
noncomputable def xf156 : Fn := .x 16 (.seq (.ops [.mov xt00 xo0d, .nlc xt0d xo0e, .fld 1 xt0e xo0f, .ld1 xt0f xo10, .mov xt01 xo11, .lok (one1 z160) xt10 xt11 false xo12, .mov xt12 xo0a]) (.seq (.seq (.ops [.mov xt0a xo13, .eqv 2 true xt13 (.k .np) xo14]) (.cnd xt14 .ret .skip)) (.seq (.ops [.mov xt0a xo15, .nlc xt15 xo16, .fld 0 xt16 xo17, .ld1 xt17 xo18, .mov xt02 xo19, .call 107 [xt18, xt19] xo1a, .len 1 xt1a xo1b, .mov (xn 0) xo1c]) (.blk 0 (.loop (.seq (.ops [.cmp .lss xt1c xt1b xo1d]) (.seq (.cnd xt1d .skip (.ex 0)) (.seq (.blk 1 (.seq (.ops [.idx 1 xt1a xt1c xo1e, .ld1 xt1e xo1f, .mov xt1f xo0c]) (.ops [.mov xt00 xo20, .mov xt01 xo21, .mov xt0c xo22, .mov xt02 xo23, .mov xt03 xo24, .mov xt04 xo25, .app 3 (.k .ns) xt25 xo26, .call 92 [xt20, xt21, xt22, xt23, xt24, xt26] xo27]))) (.ops [.ar .add xt1c (xn 1) xo28, .mov xt28 xo1c]))))))))) []
noncomputable def xf157 : Fn := .x 16 (.seq (.ops [.box 1 xt01 xo04, .box 1 xt02 xo05, .alc 1 z3 xo06, .alc 1 z3 xo07, .alc 1 z3 xo08]) (.seq (.seq (.ops [.mov xt00 xo0b, .call 234 [xt0b] xo0c]) (.blk 0 (.rfn xt0c [xo0d, xo0e] (.ops [.alc 7 z282 xo0a, .sto 7 xt0a xt0e]) (.blk 1 (.seq (.ops [.fld 1 xt0a xo0f, .ld1 xt0f xo10, .fld 2 xt0a xo11, .ld1 xt11 xo12, .fld 3 xt0a xo13, .ld1 xt13 xo14, .fld 4 xt0a xo15, .ld1 xt15 xo16, .bld 4 z153 [(0, 1, xt10), (1, 1, xt12), (2, 1, xt14), (3, 1, xt16)] xo17, .ld1 xt04 xo18, .ld1 xt05 xo19, .call 196 [xt17, xt18, xt19] xo1a, .mov xt1a xo1b, .gd .h1 .hb true (.ldn 7 xt0a xo1c) xo1c, .gd .h1 .hb true (.ld1 xt04 xo1d) xo1d, .gd .h1 .hb true (.fld 1 xt0a xo1e) xo1e, .gd .h1 .hb true (.ld1 xt1e xo1f) xo1f, .gd .h1 .hb true (.ar .sub xt1d xt1f xo20) xo20, .gd .h1 .hb true (.ld1 xt05 xo21) xo21, .gd .h1 .hb true (.fld 2 xt0a xo22) xo22, .gd .h1 .hb true (.ld1 xt22 xo23) xo23, .gd .h1 .hb true (.ar .sub xt21 xt23 xo24) xo24, .gd .h1 .hb true (.call 235 [xt1c, xt20, xt24] xo25) xo25, .pick xt1b xt25 xFF xo26]) (.cnd xt26 (.seq (.drw [.mk .pure 0 xo27 (.fld 0 xt0a xo27), .mk .read 1 xo28 (.ld1 xt27 xo28), .mk .rdx 0 xo29 (.ld1 xt04 xo29), .mk .pure 0 xo2a (.fld 1 xt0a xo2a), .mk .rdx 8 xo2b (.ld1 xt2a xo2b), .mk .pure 28 xo2c (.ar .sub xt29 xt2b xo2c), .mk .rdx 0 xo2d (.ld1 xt05 xo2d), .mk .pure 0 xo2e (.fld 2 xt0a xo2e), .mk .rdx 128 xo2f (.ld1 xt2e xo2f), .mk .pure 448 xo30 (.ar .sub xt2d xt2f xo30), .mk .act 3 .no (.sto 1 xt06 xt28), .mk .act 1087 .no (.sto 1 xt07 xt2c), .mk .act 4095 .no (.sto 1 xt08 xt30)]) .ret) .skip))) 294 16 (.seq (.ops [.ld1 xt01 xo04, .len 1 xt04 xo05, .ar .sub xt05 (xn 1) xo06, .mov xt06 xo03]) (.blk 0 (.loop (.seq (.seq (.ops [.mov xt03 xo07, .cmp .geq xt07 (xn 0) xo08]) (.cnd xt08 .skip (.ex 0))) (.seq (.blk 1 (.seq (.ops [.mov xt00 xo0b, .mov xt03 xo0c, .ld1 xt01 xo0d, .mov xt03 xo0e, .idx 7 xt0d xt0e xo0f, .ldn 7 xt0f xo10, .yld xt0b [xt0c, xt10] xo11, .not xt11 xo12]) (.cnd xt12 .ret .skip))) (.ops [.mov xt03 xo09, .ar .sub xt09 (xn 1) xo0a, .mov xt0a xo03]))))))))) (.seq (.ops [.sto 1 xt06 (xn 0), .sto 1 xt07 (xn 0), .sto 1 xt08 (xn 0)]) .ret))) [.c1 xt06, .c1 xt07, .c1 xt08]
noncomputable def xf158 : Fn := .x 12 (.seq (.ops [.mov (.k .ns) xo02]) (.seq (.ops [.alc 1 z188 xo03]) (.seq (.seq (.ops [.mov xt00 xo05]) (.blk 0 (.rfn xt05 [xo06] (.ops [.alc 4 z272 xo04, .sto 4 xt04 xt06]) (.blk 1 (.ops [.ld1 xt03 xo07, .ldn 4 xt04 xo08, .bls 4 1 (repL 1 z272) [(0, 4, xt08)] xo09, .app 4 xt07 xt09 xo0a, .sto 1 xt03 xt0a])) 236 16 (.seq (.ops [.ld1 xt01 xo07, .nlc xt07 xo08, .ld1 xt08 xo09, .mov xt09 xo06]) (.seq (.ops [.ld1 xt01 xo0a, .ld1 xt02 xo0b, .nlc xt0a xo0c, .sto 1 xt0c xt0b]) (.seq (.seq (.ops [.mov xt06 xo0d, .cmp .neq xt0d (xn 0) xo0e, .mov xt0e xo0f, .gd .h0 .hf true (.mov xt00 xo10) xo10, .gd .h0 .hf true (.mov xt06 xo11) xo11, .gd .h0 .hf true (.bld 4 z272 [(0, 1, (xn 2)), (1, 1, xt11)] xo12) xo12, .gd .h0 .hf true (.yld xt10 [xt12] xo13) xo13, .gd .h0 .hf true (.not xt13 xo14) xo14, .pick xt0f xt14 xFF xo15]) (.cnd xt15 .ret .skip)) (.seq (.ops [.ld1 xt02 xo16, .cmp .neq xt16 (xn 0) xo17]) (.cnd xt17 (.ops [.mov xt00 xo18, .ld1 xt02 xo19, .ld1 xt03 xo1a, .ld1 xt04 xo1b, .bld 4 z272 [(0, 1, (xn 1)), (1, 1, xt19), (2, 1, xt1a), (3, 1, xt1b)] xo1c, .yld xt18 [xt1c] xo1d]) .skip)))))))) (.seq (.ops [.ld1 xt03 xo0b, .mov xt0b xo02]) .ret)))) [.t xt02]
noncomputable def xf159 : Fn := .x 10 (.seq (.ops [.box 1 xt00 xo04, .box 1 xt01 xo05, .box 1 xt02 xo06, .box 1 xt03 xo07, .mov (.k .nf) xo08]) (.seq (.ops [.mkf 236 [] [xt04, xt05, xt06, xt07] xo09, .mov xt09 xo08]) .ret)) [.t xt08]
noncomputable def xf161 : Fn := .x 12 (.seq (.ops [.mov xFF xo04]) (.seq (.ops [.mov xt00 xo05, .nlc xt05 xo06, .fld 0 xt06 xo07, .ld1 xt07 xo08, .mov xt01 xo09, .lok (one1 z215) xt08 xt09 false xo0a, .eqv 2 false xt0a (.k .np) xo0b, .mov xt0b xo04]) .ret)) [.t xt04]
noncomputable def xf162 : Fn := .x 16 (.seq (.ops [.mov (xn 0) xo04]) (.seq (.seq (.ops [.mov xt00 xo06, .nlc xt06 xo07, .fld 0 xt07 xo08, .ld1 xt08 xo09, .mov xt01 xo0a, .lok (one1 z215) xt09 xt0a false xo0b, .mov xt0b xo05]) (.seq (.ops [.mov xt05 xo0c, .eqv 2 false xt0c (.k .np) xo0d]) (.cnd xt0d (.seq (.ops [.mov xt05 xo0e, .nlc xt0e xo0f, .fld 1 xt0f xo10, .ld1 xt10 xo11, .mov xt11 xo04]) .ret) .skip))) (.seq (.ops [.mov (xn 0) xo04]) .ret))) [.t xt04]
noncomputable def xf163 : Fn := .x 16 (.ops [.mov xt00 xo06, .mov xt02 xo07, .mov xt00 xo08, .nlc xt08 xo09, .fld 0 xt09 xo0a, .ld1 xt0a xo0b, .mov xt01 xo0c, .cald xt07 [xt0b, xt0c] xo0d, .nlc xt06 xo0e, .fld 0 xt0e xo0f, .sto 1 xt0f xt0d]) []
noncomputable def xf164 : Fn := .x 11 (.seq (.ops [.mov (.k .ns) xo04]) (.seq (.ops [.mov xt00 xo05, .mov xt01 xo06, .call 180 [xt05, xt06] xo07, .mov xt01 xo08, .bls 1 1 (repL 1 z3) [(0, 1, xt08)] xo09, .app 1 xt07 xt09 xo0a, .mov xt0a xo04]) .ret)) [.t xt04]
noncomputable def xf165 : Fn := .x 16 (.seq (.ops [.mov (xn 0) xo06]) (.seq (.seq (.ops [.mov xt00 xo09, .nlc xt09 xo0a, .fld 0 xt0a xo0b, .ld1 xt0b xo0c, .mov xt01 xo0d, .call 107 [xt0c, xt0d] xo0e, .len 1 xt0e xo0f, .mov (xn 0) xo10]) (.blk 0 (.loop (.seq (.ops [.cmp .lss xt10 xt0f xo11]) (.seq (.cnd xt11 .skip (.ex 0)) (.seq (.blk 1 (.seq (.ops [.idx 1 xt0e xt10 xo12, .ld1 xt12 xo13, .mov xt13 xo08]) (.seq (.ops [.mov xt00 xo14, .nlc xt14 xo15, .fld 1 xt15 xo16, .ld1 xt16 xo17, .mov xt08 xo18, .lok (one1 z3) xt17 xt18 false xo19, .mov xt02 xo1a, .cmp .eql xt19 xt1a xo1b]) (.cnd xt1b (.seq (.ops [.mov xt08 xo1c, .mov xt1c xo06]) .ret) .skip)))) (.ops [.ar .add xt10 (xn 1) xo1d, .mov xt1d xo10]))))))) (.seq (.ops [.mov (xn 0) xo06]) .ret))) [.t xt06]
noncomputable def xf166 : Fn := .x 5 (.seq (.ops [.alc 3 z33 xo02]) (.seq (.ops [.mov xt00 xo03, .bld 3 z33 [(0, 1, (.k (.i .u8 (.ofNat 105)))), (1, 1, xt03)] xo04, .sto 3 xt02 xt04]) .ret)) [.cn 3 xt02]
noncomputable def xf167 : Fn := .x 16 (.seq (.ops [.mov (.k .ni) xo06]) (.seq (.seq (.ops [.mov xt00 xo07, .mov xt01 xo08, .call 178 [xt07, xt08] xo09, .not xt09 xo0a]) (.cnd xt0a (.seq (.ops [.ld1 (.k (.p 4 0)) xo0b, .mov xt0b xo06]) .ret) .skip)) (.seq (.drw [.mk .pure 0 xo0c (.mov xt00 xo0c), .mk .pure 1 xo0d (.nlc xt0c xo0d), .mk .pure 3 xo0e (.fld 0 xt0d xo0e), .mk .rdx 7 xo0f (.ld1 xt0e xo0f), .mk .pure 0 xo10 (.mov xt01 xo10), .mk .rdx 31 xo11 (.lok (one1 z298) xt0f xt10 false xo11), .mk .pure 0 xo12 (.mov xt00 xo12), .mk .pure 64 xo13 (.nlc xt12 xo13), .mk .pure 192 xo14 (.fld 0 xt13 xo14), .mk .rdx 448 xo15 (.ld1 xt14 xo15), .mk .pure 0 xo16 (.mov xt01 xo16), .mk .rdx 1984 xo17 (.lok (one1 z298) xt15 xt16 false xo17), .mk .pure 4032 xo18 (.nlc xt17 xo18), .mk .pure 8128 xo19 (.fld 1 xt18 xo19), .mk .rdx 16320 xo1a (.ld1 xt19 xo1a), .mk .pure 0 xo1b (.mov xt02 xo1b), .mk .act 32768 xo1c (.bls 1 1 (repL 1 z3) [(0, 1, xt1b)] xo1c), .mk .act 131008 xo1d (.app 1 xt1a xt1c xo1d), .mk .pure 262143 xo1e (.nlc xt11 xo1e), .mk .pure 524287 xo1f (.fld 1 xt1e xo1f), .mk .act 1048575 .no (.sto 1 xt1f xt1d)]) (.seq (.ops [.mov (.k .ni) xo06]) .ret)))) [.t xt06]
noncomputable def xf168 : Fn := .x 16 (.seq (.ops [.mov (.k .ns) xo04]) (.seq (.ops [.mov xt00 xo08, .mov xt01 xo09, .call 237 [xt08, xt09] xo0a, .mov xt0a xo05]) (.seq (.seq (.ops [.mov xt05 xo0b, .cmp .eql xt0b (.k (.i .i64 (.negSucc 0))) xo0c]) (.cnd xt0c (.seq (.ops [.mov xt00 xo0d, .mov xt0d xo04]) .ret) .skip)) (.seq (.seq (.ops [.mov xt05 xo0e, .ar .add xt0e (xn 1) xo0f, .mov xt0f xo06]) (.blk 0 (.loop (.seq (.seq (.ops [.mov xt06 xo10, .mov xt00 xo11, .len 1 xt11 xo12, .cmp .lss xt10 xt12 xo13]) (.cnd xt13 .skip (.ex 0))) (.seq (.blk 1 (.seq (.ops [.mov xt00 xo16, .mov xt06 xo17, .idx 1 xt16 xt17 xo18, .ld1 xt18 xo19, .mov xt19 xo07]) (.seq (.ops [.mov xt01 xo1a, .mov xt07 xo1b, .cald xt1a [xt1b] xo1c, .not xt1c xo1d]) (.cnd xt1d (.seq (.ops [.mov xt00 xo1e, .mov xt05 xo1f, .mov xt07 xo20, .idx 1 xt1e xt1f xo21, .sto 1 xt21 xt20]) (.ops [.mov xt05 xo22, .ar .add xt22 (xn 1) xo23, .mov xt23 xo05])) .skip)))) (.ops [.mov xt06 xo14, .ar .add xt14 (xn 1) xo15, .mov xt15 xo06])))))) (.seq (.ops [.mov xt00 xo24, .mov xt05 xo25, .slc 1 xt24 (some xt25) none none xo26, .clr 1 z3 xt26 .no]) (.seq (.ops [.mov xt00 xo27, .mov xt05 xo28, .slc 1 xt27 none (some xt28) none xo29, .mov xt29 xo04]) .ret)))))) [.t xt04]
noncomputable def xf169 : Fn := .x 9 (.seq (.ops [.mov (.k .ns) xo02]) (.seq (.ops [.mov xt00 xo03, .nlc xt03 xo04, .fld 0 xt04 xo05, .ld1 xt05 xo06, .call 238 [xt06] xo07, .call 64 [xt07] xo08, .mov xt08 xo02]) .ret)) [.t xt02]
noncomputable def xf170 : Fn := .x 14 (.seq (.ops [.mov xFF xo04]) (.seq (.drw [.mk .read 0 xo05 (.ld1 xt01 xo05), .mk .pure 1 xo06 (.nlc xt05 xo06), .mk .pure 3 xo07 (.fld 0 xt06 xo07), .mk .read 7 xo08 (.ld1 xt07 xo08), .mk .pure 0 xo09 (.mov xt00 xo09), .mk .read 31 xo0a (.lok (.agg z236) xt08 xt09 false xo0a), .mk .pure 63 xo0b (.fi1 0 xt0a xo0b), .mk .read 0 xo0c (.ld1 xt02 xo0c), .mk .pure 255 xo0d (.cmp .neq xt0b xt0c xo0d), .mk .pure 511 xo04 (.mov xt0d xo04)]) .ret)) [.t xt04]
noncomputable def xf171 : Fn := .x 15 (.seq (.ops [.alc 3 z289 xo02]) (.seq (.ops [.call 239 [] xo04, .alc 54 z356 xo03, .sto 54 xt03 xt04]) (.seq (.seq (.ops [.mov xt00 xo05, .cmp .lss xt05 (xn 0) xo06, .mov xt06 xo07, .gd .h0 .h7 false (.mov xt00 xo08) xo08, .gd .h0 .h7 false (.cmp .geq xt08 (xn 18) xo09) xo09, .pick xt07 xTT xt09 xo0a]) (.cnd xt0a (.seq (.ops [.bld 3 z289 [] xo0b, .sto 3 xt02 xt0b]) .ret) .skip)) (.seq (.ops [.mov xt00 xo0c, .ixa 3 18 xt03 xt0c xo0d, .ldn 3 xt0d xo0e, .sto 3 xt02 xt0e]) .ret)))) [.cn 3 xt02]
noncomputable def xf172 : Fn := .x 16 (.seq (.ops [.box 3 xt00 xo02, .mov (.k .ni) xo04]) (.seq (.seq (.ops [.fld 0 xt02 xo07, .ld1 xt07 xo08, .cmp .lss xt08 (xn 1) xo09, .mov xt09 xo0a, .gd .h0 .ha false (.fld 0 xt02 xo0b) xo0b, .gd .h0 .ha false (.ld1 xt0b xo0c) xo0c, .gd .h0 .ha false (.cmp .gtr xt0c (xn 4294967295) xo0d) xo0d, .pick xt0a xTT xt0d xo0e, .mov xt0e xo0f, .gd .h0 .hf false (.fld 1 xt02 xo10) xo10, .gd .h0 .hf false (.ld1 xt10 xo11) xo11, .gd .h0 .hf false (.cmp .lss xt11 (xn 0) xo12) xo12, .pick xt0f xTT xt12 xo13, .mov xt13 xo14, .gd .h1 .h4 false (.fld 1 xt02 xo15) xo15, .gd .h1 .h4 false (.ld1 xt15 xo16) xo16, .gd .h1 .h4 false (.cmp .geq xt16 (xn 65536) xo17) xo17, .pick xt14 xTT xt17 xo18, .mov xt18 xo19, .gd .h1 .h9 false (.fld 2 xt02 xo1a) xo1a, .gd .h1 .h9 false (.ld1 xt1a xo1b) xo1b, .gd .h1 .h9 false (.len 1 xt1b xo1c) xo1c, .gd .h1 .h9 false (.mov xt01 xo1d) xo1d, .gd .h1 .h9 false (.len 0 xt1d xo1e) xo1e, .gd .h1 .h9 false (.cmp .neq xt1c xt1e xo1f) xo1f, .pick xt19 xTT xt1f xo20]) (.cnd xt20 (.seq (.ops [.ld1 (.k (.p 1 0)) xo21, .mov xt21 xo04]) .ret) .skip)) (.seq (.seq (.ops [.fld 2 xt02 xo22, .ld1 xt22 xo23, .len 1 xt23 xo24, .mov (xn 0) xo25]) (.blk 0 (.loop (.seq (.ops [.cmp .lss xt25 xt24 xo26]) (.seq (.cnd xt26 .skip (.ex 0)) (.seq (.blk 1 (.seq (.ops [.mov xt25 xo27, .idx 3 xt23 xt25 xo28, .ldn 3 xt28 xo29, .alc 3 z33 xo06, .mov xt27 xo05, .sto 3 xt06 xt29]) (.seq (.drw [.mk .pure 0 xo2a (.fld 0 xt06 xo2a), .mk .read 1 xo2b (.ld1 xt2a xo2b), .mk .pure 0 xo2c (.mov xt01 xo2c), .mk .pure 0 xo2d (.mov xt05 xo2d), .mk .pure 12 xo2e (.ins xt2c xt2d xo2e), .mk .pure 31 xo2f (.cmp .neq xt2b xt2e xo2f), .mk .pure 63 xo30 (.mov xt2f xo30), .mk .read 127 xo31 (.gd .h3 .h0 false (.ldn 3 xt06 xo31) xo31), .mk .act 255 xo32 (.gd .h3 .h0 false (.call 240 [xt31] xo32) xo32), .mk .pure 511 xo33 (.gd .h3 .h0 false (.not xt32 xo33) xo33), .mk .pure 1023 xo34 (.pick xt30 xTT xt33 xo34)]) (.cnd xt34 (.seq (.ops [.ld1 (.k (.p 1 0)) xo35, .mov xt35 xo04]) .ret) .skip)))) (.ops [.ar .add xt25 (xn 1) xo36, .mov xt36 xo25]))))))) (.seq (.ops [.mov (.k .ni) xo04]) .ret)))) [.t xt04]
noncomputable def xf173 : Fn := .x 9 (.seq (.ops [.mov (.k .ns) xo04]) (.seq (.ops [.mov xt00 xo05, .mov xt01 xo06, .cat xt06 (.k (.str [0])) xo07, .call 241 [xt05, xt07] xo08, .mov xt08 xo04]) .ret)) [.t xt04]
noncomputable def xf175 : Fn := .x 16 (.seq (.ops [.mov (.k .ns) xo04]) (.seq (.ops [.mov xt00 xo05, .mov xt00 xo06, .len 1 xt06 xo07, .mov xt00 xo08, .len 1 xt08 xo09, .slc 1 xt05 none (some xt07) (some xt09) xo0a, .mov xt01 xo0b, .cnv .u8 xt0b xo0c, .mov xt01 xo0d, .ar .shr xt0d (.k (.i .u64 (.ofNat 8))) xo0e, .cnv .u8 xt0e xo0f, .mov xt01 xo10, .ar .shr xt10 (.k (.i .u64 (.ofNat 16))) xo11, .cnv .u8 xt11 xo12, .mov xt01 xo13, .ar .shr xt13 (.k (.i .u64 (.ofNat 24))) xo14, .cnv .u8 xt14 xo15, .bls 1 4 (repL 4 z5) [(0, 1, xt0c), (1, 1, xt0f), (2, 1, xt12), (3, 1, xt15)] xo16, .app 1 xt0a xt16 xo17, .mov xt17 xo04]) .ret)) [.t xt04]
noncomputable def xf178 : Fn := .x 16 (.seq (.ops [.mov xFF xo04]) (.seq (.ops [.mov xt00 xo05, .mov xt01 xo06, .call 179 [xt05, xt06] xo07, .mov xt07 xo08, .gd .h0 .h8 true (.mov xt00 xo09) xo09, .gd .h0 .h8 true (.nlc xt09 xo0a) xo0a, .gd .h0 .h8 true (.fld 0 xt0a xo0b) xo0b, .gd .h0 .h8 true (.ld1 xt0b xo0c) xo0c, .gd .h0 .h8 true (.mov xt01 xo0d) xo0d, .gd .h0 .h8 true (.lok (one1 z298) xt0c xt0d false xo0e) xo0e, .gd .h0 .h8 true (.nlc xt0e xo0f) xo0f, .gd .h0 .h8 true (.fld 0 xt0f xo10) xo10, .gd .h0 .h8 true (.ld1 xt10 xo11) xo11, .gd .h0 .h8 true (.cmp .neq xt11 (xn 0) xo12) xo12, .pick xt08 xt12 xFF xo13, .mov xt13 xo04]) .ret)) [.t xt04]
noncomputable def xf179 : Fn := .x 12 (.seq (.ops [.mov xFF xo04]) (.seq (.ops [.mov xt00 xo05, .nlc xt05 xo06, .fld 0 xt06 xo07, .ld1 xt07 xo08, .mov xt01 xo09, .lok (one1 z298) xt08 xt09 false xo0a, .eqv 2 false xt0a (.k .np) xo0b, .mov xt0b xo04]) .ret)) [.t xt04]
noncomputable def xf180 : Fn := .x 16 (.seq (.ops [.mov (.k .ns) xo04]) (.seq (.ops [.mov xt00 xo09, .len 1 xt09 xo0a, .mks 1 z3 xt0a xt0a xo0b, .mov xt0b xo05]) (.seq (.ops [.mov (xn 0) xo06]) (.seq (.seq (.ops [.mov xt00 xo0c, .len 1 xt0c xo0d, .mov (xn 0) xo0e]) (.blk 0 (.loop (.seq (.ops [.cmp .lss xt0e xt0d xo0f]) (.seq (.cnd xt0f .skip (.ex 0)) (.seq (.blk 1 (.seq (.ops [.idx 1 xt0c xt0e xo10, .ld1 xt10 xo11, .mov xt11 xo08]) (.seq (.ops [.mov xt08 xo12, .mov xt01 xo13, .cmp .neq xt12 xt13 xo14]) (.cnd xt14 (.ops [.mov xt06 xo15, .mov xt05 xo16, .mov xt06 xo17, .slc 1 xt16 (some xt17) none none xo18, .mov xt08 xo19, .bls 1 1 (repL 1 z3) [(0, 1, xt19)] xo1a, .cpy 1 xt18 xt1a xo1b, .ar .add xt15 xt1b xo1c, .mov xt1c xo06]) .skip)))) (.ops [.ar .add xt0e (xn 1) xo1d, .mov xt1d xo0e]))))))) (.seq (.ops [.mov xt05 xo1e, .mov xt06 xo1f, .slc 1 xt1e none (some xt1f) none xo20, .mov xt20 xo04]) .ret))))) [.t xt04]
noncomputable def xf183 : Fn := .x 14 (.seq (.ops [.mov xFF xo02]) (.seq (.seq (.ops [.mov (xn 0) xo03]) (.blk 0 (.loop (.seq (.seq (.ops [.mov xt03 xo04, .mov xt00 xo05, .len 0 xt05 xo06, .cmp .lss xt04 xt06 xo07]) (.cnd xt07 .skip (.ex 0))) (.seq (.blk 1 (.seq (.ops [.mov xt00 xo0a, .mov xt03 xo0b, .ins xt0a xt0b xo0c, .cmp .eql xt0c (.k (.i .u8 (.ofNat 0))) xo0d]) (.cnd xt0d (.seq (.ops [.mov xFF xo02]) .ret) .skip))) (.ops [.mov xt03 xo08, .ar .add xt08 (xn 1) xo09, .mov xt09 xo03])))))) (.seq (.ops [.mov xTT xo02]) .ret))) [.t xt02]
end Go.Proofs.YtenpbpgoglepfaaGreatDoor
namespace Go.Proofs.YtenpbpgoglepfaaGreatDoor
open Go.RowKit
set_option maxRecDepth 100000
noncomputable def xf185 : Fn := .x 16 (.seq (.ops [.mov xTT xo08]) (.seq (.ops [.mov xTT xo09]) (.blk 0 (.loop (.blk 1 (.seq (.ops [.mov xt02 xo13, .mov xt01 xo14, .ar .sub xt13 xt14 xo15, .mov xt15 xo0a]) (.seq (.seq (.ops [.mov xt0a xo16, .cmp .leq xt16 (xn 12) xo17]) (.cnd xt17 (.seq (.ops [.mov xt00 xo18, .mov xt01 xo19, .mov xt02 xo1a, .call 243 [xt18, xt19, xt1a] xo1b]) .ret) .skip)) (.seq (.seq (.ops [.mov xt03 xo1c, .cmp .eql xt1c (xn 0) xo1d]) (.cnd xt1d (.seq (.ops [.mov xt00 xo1e, .mov xt01 xo1f, .mov xt02 xo20, .call 244 [xt1e, xt1f, xt20] xo21]) .ret) .skip)) (.seq (.seq (.ops [.mov xt08 xo22, .not xt22 xo23]) (.cnd xt23 (.seq (.ops [.mov xt00 xo24, .mov xt01 xo25, .mov xt02 xo26, .call 245 [xt24, xt25, xt26] xo27]) (.ops [.mov xt03 xo28, .ar .sub xt28 (xn 1) xo29, .mov xt29 xo03])) .skip)) (.seq (.ops [.mov xt00 xo2b, .mov xt01 xo2c, .mov xt02 xo2d, .call 246 [xt2b, xt2c, xt2d] xo2e, .mov xt2e xo2a, .ext 0 xt2a xo2f, .ext 1 xt2a xo30, .mov xt2f xo0b, .mov xt30 xo0c]) (.seq (.seq (.ops [.mov xt0c xo31, .cmp .eql xt31 (xn 2) xo32]) (.cnd xt32 (.seq (.ops [.mov xt00 xo33, .mov xt01 xo34, .mov xt02 xo35, .call 247 [xt33, xt34, xt35] xo36]) (.seq (.ops [.mov xt02 xo37, .ar .sub xt37 (xn 1) xo38, .mov xt0b xo39, .mov xt01 xo3a, .ar .sub xt39 xt3a xo3b, .ar .sub xt38 xt3b xo3c, .mov xt3c xo0b]) (.ops [.mov (xn 1) xo0c]))) .skip)) (.seq (.seq (.ops [.mov xt08 xo3d, .mov xt3d xo3e, .gd .h3 .he true (.mov xt09 xo3f) xo3f, .pick xt3e xt3f xFF xo40, .mov xt40 xo41, .gd .h4 .h1 true (.mov xt0c xo42) xo42, .gd .h4 .h1 true (.cmp .eql xt42 (xn 1) xo43) xo43, .pick xt41 xt43 xFF xo44]) (.cnd xt44 (.seq (.ops [.mov xt00 xo45, .mov xt01 xo46, .mov xt02 xo47, .call 248 [xt45, xt46, xt47] xo48]) (.cnd xt48 .ret .skip)) .skip)) (.seq (.seq (.drw [.mk .pure 0 xo49 (.mov xt01 xo49), .mk .pure 1 xo4a (.cmp .gtr xt49 (xn 0) xo4a), .mk .pure 3 xo4b (.mov xt4a xo4b), .mk .pure 7 xo4c (.gd .h4 .hb true (.mov xt00 xo4c) xo4c), .mk .pure 7 xo4d (.gd .h4 .hb true (.mov xt01 xo4d) xo4d), .mk .pure 23 xo4e (.gd .h4 .hb true (.ar .sub xt4d (xn 1) xo4e) xo4e), .mk .pure 63 xo4f (.gd .h4 .hb true (.idx 1 xt4c xt4e xo4f) xo4f), .mk .read 127 xo50 (.gd .h4 .hb true (.ld1 xt4f xo50) xo50), .mk .pure 7 xo51 (.gd .h4 .hb true (.mov xt00 xo51) xo51), .mk .pure 7 xo52 (.gd .h4 .hb true (.mov xt0b xo52) xo52), .mk .pure 775 xo53 (.gd .h4 .hb true (.idx 1 xt51 xt52 xo53) xo53), .mk .read 1799 xo54 (.gd .h4 .hb true (.ld1 xt53 xo54) xo54), .mk .act 4095 xo55 (.gd .h4 .hb true (.call 249 [xt50, xt54] xo55) xo55), .mk .pure 8191 xo56 (.gd .h4 .hb true (.not xt55 xo56) xo56), .mk .pure 16383 xo57 (.pick xt4b xt56 xFF xo57)]) (.cnd xt57 (.seq (.ops [.mov xt00 xo58, .mov xt01 xo59, .mov xt02 xo5a, .mov xt0b xo5b, .call 250 [xt58, xt59, xt5a, xt5b] xo5c, .mov xt5c xo0d]) (.seq (.ops [.mov xt0d xo5d, .mov xt5d xo01]) (.ex 1))) .skip)) (.seq (.ops [.mov xt00 xo5f, .mov xt01 xo60, .mov xt02 xo61, .mov xt0b xo62, .call 251 [xt5f, xt60, xt61, xt62] xo63, .mov xt63 xo5e, .ext 0 xt5e xo64, .ext 1 xt5e xo65, .mov xt64 xo0e, .mov xt65 xo0f]) (.seq (.ops [.mov xt0f xo66, .mov xt66 xo09]) (.seq (.ops [.mov xt0e xo67, .mov xt01 xo68, .ar .sub xt67 xt68 xo69, .mov xt02 xo6a, .mov xt0e xo6b, .ar .sub xt6a xt6b xo6c, .mov xt69 xo10, .mov xt6c xo11]) (.seq (.ops [.mov xt0a xo6d, .ar .quo xt6d (xn 8) xo6e, .mov xt6e xo12]) (.seq (.ops [.mov xt10 xo6f, .mov xt11 xo70, .cmp .lss xt6f xt70 xo71]) (.cnd xt71 (.seq (.ops [.mov xt10 xo72, .mov xt12 xo73, .cmp .geq xt72 xt73 xo74, .mov xt74 xo08]) (.seq (.ops [.mov xt00 xo75, .mov xt01 xo76, .mov xt0e xo77, .mov xt03 xo78, .call 185 [xt75, xt76, xt77, xt78] xo79]) (.ops [.mov xt0e xo7a, .ar .add xt7a (xn 1) xo7b, .mov xt7b xo01]))) (.seq (.ops [.mov xt11 xo7c, .mov xt12 xo7d, .cmp .geq xt7c xt7d xo7e, .mov xt7e xo08]) (.seq (.ops [.mov xt00 xo7f, .mov xt0e xo80, .ar .add xt80 (xn 1) xo81, .mov xt02 xo82, .mov xt03 xo83, .call 185 [xt7f, xt81, xt82, xt83] xo84]) (.ops [.mov xt0e xo85, .mov xt85 xo02])))))))))))))))))))))) []
noncomputable def xf186 : Fn := .x 8 (.seq (.ops [.mov (xn 0) xo02]) (.seq (.cnd xFF (.seq (.ops [.mov xt00 xo03, .cnv .u32 xt03 xo04, .call 252 [xt04] xo05, .mov xt05 xo02]) .ret) .skip) (.seq (.ops [.mov xt00 xo06, .call 253 [xt06] xo07, .mov xt07 xo02]) .ret))) [.t xt02]
noncomputable def xf187 : Fn := .x 16 (.seq (.ops [.alc 3 z94 xo04, .mov xFF xo05]) (.seq (.seq (.ops [.mov xt00 xo08, .len 1 xt08 xo09, .mov (xn 0) xo0a]) (.blk 0 (.loop (.seq (.ops [.cmp .lss xt0a xt09 xo0b]) (.seq (.cnd xt0b .skip (.ex 0)) (.seq (.blk 1 (.seq (.ops [.idx 3 xt08 xt0a xo0c, .ldn 3 xt0c xo0d, .alc 3 z94 xo07, .sto 3 xt07 xt0d]) (.seq (.ops [.fld 0 xt07 xo0e, .ld1 xt0e xo0f, .mov xt01 xo10, .cmp .eql xt0f xt10 xo11]) (.cnd xt11 (.seq (.ops [.ldn 3 xt07 xo12, .sto 3 xt04 xt12, .mov xTT xo05]) .ret) .skip)))) (.ops [.ar .add xt0a (xn 1) xo13, .mov xt13 xo0a]))))))) (.seq (.ops [.bld 3 z94 [] xo14, .sto 3 xt04 xt14, .mov xFF xo05]) .ret))) [.cn 3 xt04, .t xt05]
noncomputable def xf188 : Fn := .x 6 (.seq (.ops [.box 10 xt00 xo01, .alc 10 z147 xo02]) (.seq (.ops [.ldn 10 xt01 xo03, .bld 10 z147 [] xo04, .call 254 [xt03, xt04] xo05, .sto 10 xt02 xt05]) .ret)) [.cn 10 xt02]
noncomputable def xf189 : Fn := .x 16 (.seq (.ops [.box 4 xt00 xo02, .box 4 xt01 xo03, .alc 4 z153 xo04]) (.seq (.seq (.ops [.ldn 4 xt02 xo05, .call 191 [xt05] xo06, .mov xt06 xo07, .gd .h0 .h7 false (.ldn 4 xt03 xo08) xo08, .gd .h0 .h7 false (.call 191 [xt08] xo09) xo09, .pick xt07 xTT xt09 xo0a]) (.cnd xt0a (.seq (.ops [.bld 4 z153 [] xo0b, .sto 4 xt04 xt0b]) .ret) .skip)) (.seq (.ops [.fld 0 xt02 xo0c, .ld1 xt0c xo0d, .fld 0 xt03 xo0e, .ld1 xt0e xo0f, .mnx false xt0d xt0f xo10, .fld 1 xt02 xo11, .ld1 xt11 xo12, .fld 1 xt03 xo13, .ld1 xt13 xo14, .mnx false xt12 xt14 xo15, .fld 0 xt02 xo16, .ld1 xt16 xo17, .fld 2 xt02 xo18, .ld1 xt18 xo19, .ar .add xt17 xt19 xo1a, .fld 0 xt03 xo1b, .ld1 xt1b xo1c, .fld 2 xt03 xo1d, .ld1 xt1d xo1e, .ar .add xt1c xt1e xo1f, .mnx true xt1a xt1f xo20, .fld 1 xt02 xo21, .ld1 xt21 xo22, .fld 3 xt02 xo23, .ld1 xt23 xo24, .ar .add xt22 xt24 xo25, .fld 1 xt03 xo26, .ld1 xt26 xo27, .fld 3 xt03 xo28, .ld1 xt28 xo29, .ar .add xt27 xt29 xo2a, .mnx true xt25 xt2a xo2b, .call 255 [xt10, xt15, xt20, xt2b] xo2c, .sto 4 xt04 xt2c]) .ret))) [.cn 4 xt04]
noncomputable def xf190 : Fn := .x 16 (.seq (.ops [.box 4 xt00 xo01, .alc 4 z153 xo02]) (.seq (.ops [.alc 4 z153 xo03]) (.seq (.ops [.fld 0 xt01 xo05, .ld1 xt05 xo06, .fld 2 xt01 xo07, .ld1 xt07 xo08, .call 256 [xt06, xt08] xo09, .mov xt09 xo04, .ext 0 xt04 xo0a, .ext 1 xt04 xo0b, .fld 0 xt03 xo0c, .sto 1 xt0c xt0a, .fld 2 xt03 xo0d, .sto 1 xt0d xt0b]) (.seq (.ops [.fld 1 xt01 xo0f, .ld1 xt0f xo10, .fld 3 xt01 xo11, .ld1 xt11 xo12, .call 256 [xt10, xt12] xo13, .mov xt13 xo0e, .ext 0 xt0e xo14, .ext 1 xt0e xo15, .fld 1 xt03 xo16, .sto 1 xt16 xt14, .fld 3 xt03 xo17, .sto 1 xt17 xt15]) (.seq (.seq (.ops [.ldn 4 xt03 xo18, .call 191 [xt18] xo19]) (.cnd xt19 (.seq (.ops [.bld 4 z153 [] xo1a, .sto 4 xt02 xt1a]) .ret) .skip)) (.seq (.ops [.ldn 4 xt03 xo1b, .sto 4 xt02 xt1b]) .ret)))))) [.cn 4 xt02]
noncomputable def xf191 : Fn := .x 11 (.seq (.ops [.box 4 xt00 xo01, .mov xFF xo02]) (.seq (.ops [.fld 2 xt01 xo03, .ld1 xt03 xo04, .cmp .lss xt04 (xn 1) xo05, .mov xt05 xo06, .gd .h0 .h6 false (.fld 3 xt01 xo07) xo07, .gd .h0 .h6 false (.ld1 xt07 xo08) xo08, .gd .h0 .h6 false (.cmp .lss xt08 (xn 1) xo09) xo09, .pick xt06 xTT xt09 xo0a, .mov xt0a xo02]) .ret)) [.t xt02]
noncomputable def xf192 : Fn := .x 9 (.seq (.ops [.box 4 xt01 xo03, .mov xFF xo04]) (.seq (.ops [.mov xt00 xo05, .ldn 4 xt03 xo06, .call 257 [xt05, xt06] xo07, .cmp .geq xt07 (xn 0) xo08, .mov xt08 xo04]) .ret)) [.t xt04]
noncomputable def xf193 : Fn := .x 16 (.seq (.ops [.mov (.k .ns) xo04]) (.seq (.drw [.mk .pure 0 xo05 (.mov xt00 xo05), .mk .pure 1 xo06 (.nlc xt05 xo06), .mk .pure 3 xo07 (.fld 2 xt06 xo07), .mk .read 7 xo08 (.ld1 xt07 xo08), .mk .pure 0 xo09 (.mov xt01 xo09), .mk .pure 0 xo0a (.mov xt00 xo0a), .mk .pure 32 xo0b (.nlc xt0a xo0b), .mk .pure 96 xo0c (.fld 0 xt0b xo0c), .mk .read 224 xo0d (.ld1 xt0c xo0d), .mk .pure 496 xo0e (.ar .mul xt09 xt0d xo0e), .mk .pure 0 xo0f (.mov xt01 xo0f), .mk .pure 1024 xo10 (.ar .add xt0f (xn 1) xo10), .mk .pure 0 xo11 (.mov xt00 xo11), .mk .pure 4096 xo12 (.nlc xt11 xo12), .mk .pure 12288 xo13 (.fld 0 xt12 xo13), .mk .read 28672 xo14 (.ld1 xt13 xo14), .mk .pure 64512 xo15 (.ar .mul xt10 xt14 xo15), .mk .pure 0 xo16 (.mov xt01 xo16), .mk .pure 131072 xo17 (.ar .add xt16 (xn 1) xo17), .mk .pure 0 xo18 (.mov xt00 xo18), .mk .pure 524288 xo19 (.nlc xt18 xo19), .mk .pure 1572864 xo1a (.fld 0 xt19 xo1a), .mk .read 3670016 xo1b (.ld1 xt1a xo1b), .mk .pure 8257536 xo1c (.ar .mul xt17 xt1b xo1c), .mk .pure 16777215 xo1d (.slc 1 xt08 (some xt0e) (some xt15) (some xt1c) xo1d), .mk .pure 33554431 xo04 (.mov xt1d xo04)]) .ret)) [.t xt04]
noncomputable def xf194 : Fn := .x 9 (.seq (.ops [.mov xFF xo04]) (.seq (.ops [.mov xt00 xo05, .mov xt01 xo06, .call 258 [xt05, xt06] xo07, .cmp .geq xt07 (xn 0) xo08, .mov xt08 xo04]) .ret)) [.t xt04]
noncomputable def xf195 : Fn := .x 9 (.seq (.ops [.box 4 xt00 xo03, .mov xFF xo04]) (.seq (.ops [.ldn 4 xt03 xo05, .ld1 xt01 xo06, .ld1 xt02 xo07, .call 196 [xt05, xt06, xt07] xo08, .mov xt08 xo04]) .ret)) [.t xt04]
noncomputable def xf197 : Fn := .x 16 (.seq (.ops [.mov (.k (.i .u32 (.ofNat 0))) xo04, .mov (.k .ni) xo05]) (.seq (.seq (.ops [.mov xt01 xo06, .cmp .lss xt06 (xn 0) xo07, .mov xt07 xo08, .gd .h0 .h8 false (.mov xt01 xo09) xo09, .gd .h0 .h8 false (.mov xt00 xo0a) xo0a, .gd .h0 .h8 false (.len 1 xt0a xo0b) xo0b, .gd .h0 .h8 false (.cmp .gtr xt09 xt0b xo0c) xo0c, .pick xt08 xTT xt0c xo0d]) (.cnd xt0d (.seq (.drw [.mk .read 0 xo0e (.ld1 (.k (.p 1 0)) xo0e), .mk .pure 0 xo04 (.mov (.k (.i .u32 (.ofNat 0))) xo04), .mk .pure 3 xo05 (.mov xt0e xo05)]) .ret) .skip)) (.seq (.ops [.mov xt00 xo0f, .mov xt01 xo10, .slc 1 xt0f (some xt10) none none xo11, .mov xt11 xo00]) (.seq (.seq (.ops [.mov xt00 xo12, .len 1 xt12 xo13, .cmp .lss xt13 (xn 4) xo14]) (.cnd xt14 (.seq (.drw [.mk .read 0 xo15 (.ld1 (.k (.p 3 0)) xo15), .mk .pure 0 xo04 (.mov (.k (.i .u32 (.ofNat 0))) xo04), .mk .pure 3 xo05 (.mov xt15 xo05)]) .ret) .skip)) (.seq (.drw [.mk .pure 0 xo16 (.mov xt00 xo16), .mk .pure 1 xo17 (.idx 1 xt16 (xn 0) xo17), .mk .read 3 xo18 (.ld1 xt17 xo18), .mk .pure 7 xo19 (.cnv .u32 xt18 xo19), .mk .pure 0 xo1a (.mov xt00 xo1a), .mk .pure 16 xo1b (.idx 1 xt1a (xn 1) xo1b), .mk .read 48 xo1c (.ld1 xt1b xo1c), .mk .pure 112 xo1d (.cnv .u32 xt1c xo1d), .mk .pure 240 xo1e (.ar .shl xt1d (.k (.i .u64 (.ofNat 8))) xo1e), .mk .pure 511 xo1f (.ar .lor xt19 xt1e xo1f), .mk .pure 0 xo20 (.mov xt00 xo20), .mk .pure 1024 xo21 (.idx 1 xt20 (xn 2) xo21), .mk .read 3072 xo22 (.ld1 xt21 xo22), .mk .pure 7168 xo23 (.cnv .u32 xt22 xo23), .mk .pure 15360 xo24 (.ar .shl xt23 (.k (.i .u64 (.ofNat 16))) xo24), .mk .pure 32767 xo25 (.ar .lor xt1f xt24 xo25), .mk .pure 0 xo26 (.mov xt00 xo26), .mk .pure 65536 xo27 (.idx 1 xt26 (xn 3) xo27), .mk .read 196608 xo28 (.ld1 xt27 xo28), .mk .pure 458752 xo29 (.cnv .u32 xt28 xo29), .mk .pure 983040 xo2a (.ar .shl xt29 (.k (.i .u64 (.ofNat 24))) xo2a), .mk .pure 2097151 xo2b (.ar .lor xt25 xt2a xo2b), .mk .pure 4194303 xo04 (.mov xt2b xo04), .mk .pure 8388607 xo05 (.mov (.k .ni) xo05)]) .ret))))) [.t xt04, .t xt05]
noncomputable def xf198 : Fn := .x 16 (.seq (.ops [.alc 3 z321 xo04, .mov xFF xo05]) (.seq (.ops [.mov xt00 xo07, .call 171 [xt07] xo08, .fi1 1 xt08 xo09, .mov xt09 xo06]) (.seq (.seq (.ops [.mov xt01 xo0a, .cmp .lss xt0a (xn 0) xo0b, .mov xt0b xo0c, .gd .h0 .hc false (.mov xt01 xo0d) xo0d, .gd .h0 .hc false (.mov xt06 xo0e) xo0e, .gd .h0 .hc false (.len 1 xt0e xo0f) xo0f, .gd .h0 .hc false (.cmp .geq xt0d xt0f xo10) xo10, .pick xt0c xTT xt10 xo11]) (.cnd xt11 (.seq (.ops [.bld 3 z321 [] xo12, .sto 3 xt04 xt12, .mov xFF xo05]) .ret) .skip)) (.seq (.ops [.mov xt06 xo13, .mov xt01 xo14, .idx 3 xt13 xt14 xo15, .ldn 3 xt15 xo16, .sto 3 xt04 xt16, .mov xTT xo05]) .ret)))) [.cn 3 xt04, .t xt05]
noncomputable def xf199 : Fn := .x 16 (.seq (.ops [.alc 3 z33 xo06, .mov (xn 0) xo07, .mov (.k .ni) xo08]) (.seq (.ops [.mov xt00 xo0c, .bld 3 z33 [(0, 1, xt0c)] xo0d, .alc 3 z33 xo09, .sto 3 xt09 xt0d]) (.seq (.ops [.mov (.k .ni) xo0a]) (.seq (.seq (.ops [.mov xt00 xo0e]) (.blk 0 (.seq (.seq (.ops [.cmp .eql xt0e (.k (.i .u8 (.ofNat 105))) xo13, .mov xt13 xo12]) (.cnd xt12 .skip (.seq (.ops [.cmp .eql xt0e (.k (.i .u8 (.ofNat 102))) xo14, .mov xt14 xo12]) (.cnd xt12 .skip (.seq (.ops [.cmp .eql xt0e (.k (.i .u8 (.ofNat 117))) xo15, .mov xt15 xo12]) (.cnd xt12 .skip (.seq (.ops [.cmp .eql xt0e (.k (.i .u8 (.ofNat 111))) xo16, .mov xt16 xo12]) (.cnd xt12 .skip (.ops [.cmp .eql xt0e (.k (.i .u8 (.ofNat 110))) xo17, .mov xt17 xo12]))))))))) (.cnd xt12 (.seq (.ops [.mov (.k (.i .u32 (.ofNat 0))) xo0b]) (.seq (.ops [.mov xt01 xo19, .mov xt02 xo1a, .call 197 [xt19, xt1a] xo1b, .mov xt1b xo18, .ext 0 xt18 xo1c, .ext 1 xt18 xo1d, .mov xt1c xo0b, .mov xt1d xo0a]) (.seq (.ops [.mov xt0b xo1e, .cnv .i64 xt1e xo1f, .fld 1 xt09 xo20, .sto 1 xt20 xt1f]) (.seq (.seq (.ops [.mov xt00 xo21, .cmp .eql xt21 (.k (.i .u8 (.ofNat 105))) xo22, .mov xt22 xo23, .gd .h2 .h3 false (.mov xt00 xo24) xo24, .gd .h2 .h3 false (.cmp .eql xt24 (.k (.i .u8 (.ofNat 102))) xo25) xo25, .pick xt23 xTT xt25 xo26]) (.cnd xt26 (.ops [.mov xt0b xo27, .cnv .i32 xt27 xo28, .cnv .i64 xt28 xo29, .fld 1 xt09 xo2a, .sto 1 xt2a xt29]) .skip)) (.ops [.mov xt02 xo2b, .ar .add xt2b (xn 4) xo2c, .mov xt2c xo02]))))) (.seq (.ops [.cmp .eql xt0e (.k (.i .u8 (.ofNat 115))) xo2e, .mov xt2e xo2d]) (.cnd xt2d (.ops [.mov xt01 xo30, .mov xt02 xo31, .call 260 [xt30, xt31] xo32, .mov xt32 xo2f, .ext 0 xt2f xo33, .ext 1 xt2f xo34, .ext 2 xt2f xo35, .fld 2 xt09 xo36, .sto 1 xt36 xt33, .mov xt34 xo02, .mov xt35 xo0a]) (.seq (.ops [.cmp .eql xt0e (.k (.i .u8 (.ofNat 97))) xo38, .mov xt38 xo37]) (.cnd xt37 (.ops [.mov xt01 xo3a, .mov xt02 xo3b, .call 261 [xt3a, xt3b] xo3c, .mov xt3c xo39, .ext 0 xt39 xo3d, .ext 1 xt39 xo3e, .ext 2 xt39 xo3f, .fld 2 xt09 xo40, .sto 1 xt40 xt3d, .mov xt3e xo02, .mov xt3f xo0a]) (.seq (.drw [.mk .read 0 xo0f (.ldn 3 xt09 xo0f), .mk .pure 0 xo10 (.mov xt02 xo10), .mk .rdx 0 xo11 (.ld1 (.k (.p 1 0)) xo11), .mk .act 1 .no (.sto 3 xt06 xt0f), .mk .pure 11 xo07 (.mov xt10 xo07), .mk .pure 31 xo08 (.mov xt11 xo08)]) .ret))))))))) (.seq (.seq (.ops [.mov xt0a xo41, .eqv 7 true xt41 (.k .ni) xo42, .mov xt42 xo43, .gd .h4 .h3 true (.ldn 3 xt09 xo44) xo44, .gd .h4 .h3 true (.call 240 [xt44] xo45) xo45, .gd .h4 .h3 true (.not xt45 xo46) xo46, .pick xt43 xt46 xFF xo47]) (.cnd xt47 (.ops [.ld1 (.k (.p 5 0)) xo48, .mov xt48 xo0a]) .skip)) (.seq (.ops [.ldn 3 xt09 xo49, .mov xt02 xo4a, .mov xt0a xo4b, .sto 3 xt06 xt49, .mov xt4a xo07, .mov xt4b xo08]) .ret)))))) [.cn 3 xt06, .t xt07, .t xt08]
noncomputable def xf200 : Fn := .x 8 (.seq (.ops [.mov (.k .nm) xo00]) (.seq (.ops [.mkm xo01, .bld 2 z327 [(0, 1, (xn 4)), (1, 1, (xn 4))] xo02, .mup xt01 (xn 1) xt02, .bld 2 z327 [(0, 1, (xn 5)), (1, 1, (xn 1))] xo03, .mup xt01 (xn 2) xt03, .bld 2 z327 [(0, 1, (xn 10)), (1, 1, (xn 1))] xo04, .mup xt01 (xn 3) xt04, .bld 2 z327 [(0, 1, (xn 12)), (1, 1, (xn 5))] xo05, .mup xt01 (xn 4) xt05, .bld 2 z327 [(0, 1, (xn 15)), (1, 1, (xn 1))] xo06, .mup xt01 (xn 5) xt06, .mov xt01 xo07, .mov xt07 xo00]) .ret)) [.t xt00]
noncomputable def xf201 : Fn := .x 6 (.seq (.ops [.mov (.k (.str [])) xo02]) (.seq (.ops [.mov xt00 xo03, .call 171 [xt03] xo04, .fi1 0 xt04 xo05, .mov xt05 xo02]) .ret)) [.t xt02]
noncomputable def xf202 : Fn := .x 16 (.seq (.ops [.mov (.k .ni) xo08]) (.seq (.seq (.ops [.mov xt02 xo0b, .cmp .lss xt0b (xn 1) xo0c, .mov xt0c xo0d, .gd .h0 .hd false (.mov xt02 xo0e) xo0e, .gd .h0 .hd false (.cmp .gtr xt0e (xn 17) xo0f) xo0f, .pick xt0d xTT xt0f xo10, .mov xt10 xo11, .gd .h1 .h1 false (.mov xt03 xo12) xo12, .gd .h1 .h1 false (.cmp .lss xt12 (xn 1) xo13) xo13, .pick xt11 xTT xt13 xo14]) (.cnd xt14 (.seq (.ops [.ld1 (.k (.p 1 0)) xo15, .mov xt15 xo08]) .ret) .skip)) (.seq (.seq (.ops [.mov xt00 xo17, .nlc xt17 xo18, .fld 0 xt18 xo19, .ld1 xt19 xo1a, .mov xt01 xo1b, .lok (.agg z236) xt1a xt1b true xo1c, .mov xt1c xo16, .ext 0 xt16 xo1d, .ext 1 xt16 xo1e, .alc 2 z236 xo09, .sto 2 xt09 xt1d, .mov xt1e xo0a]) (.seq (.ops [.mov xt0a xo1f, .mov xt1f xo20, .gd .h2 .h0 false (.mov xt01 xo21) xo21, .gd .h2 .h0 false (.cmp .lss xt21 (xn 2) xo22) xo22, .pick xt20 xTT xt22 xo23, .mov xt23 xo24, .gd .h2 .h4 false (.mov xt01 xo25) xo25, .gd .h2 .h4 false (.cmp .gtr xt25 (xn 255) xo26) xo26, .pick xt24 xTT xt26 xo27]) (.cnd xt27 (.seq (.ops [.ld1 (.k (.p 4 0)) xo28, .mov xt28 xo08]) .ret) .skip))) (.seq (.ops [.mov xt00 xo29, .nlc xt29 xo2a, .fld 0 xt2a xo2b, .ld1 xt2b xo2c, .mov xt01 xo2d, .mov xt02 xo2e, .mov xt03 xo2f, .bld 2 z236 [(0, 1, xt2e), (1, 1, xt2f)] xo30, .mup xt2c xt2d xt30]) (.seq (.ops [.mov (.k .ni) xo08]) .ret))))) [.t xt08]
noncomputable def xf203 : Fn := .x 16 (.seq (.ops [.mov xt00 xo06, .nlc xt06 xo07, .fld 0 xt07 xo08, .ld1 xt08 xo09, .mov xt09 xo02]) (.seq (.seq (.ops [.mov xt00 xo0a, .nlc xt0a xo0b, .fld 5 xt0b xo0c, .ld1 xt0c xo0d, .cmp .eql xt0d (xn 0) xo0e]) (.cnd xt0e (.seq (.drw [.mk .pure 0 xo0f (.mov xt02 xo0f), .mk .pure 0 xo10 (.mov xt00 xo10), .mk .pure 2 xo11 (.nlc xt10 xo11), .mk .pure 6 xo12 (.fld 2 xt11 xo12), .mk .rdx 14 xo13 (.ld1 xt12 xo13), .mk .pure 0 xo14 (.mov xt00 xo14), .mk .pure 32 xo15 (.nlc xt14 xo15), .mk .pure 96 xo16 (.fld 7 xt15 xo16), .mk .rdx 224 xo17 (.ld1 xt16 xo17), .mk .pure 0 xo18 (.mov xt02 xo18), .mk .pure 512 xo19 (.nlc xt18 xo19), .mk .pure 1536 xo1a (.fld 13 xt19 xo1a), .mk .read 3584 xo1b (.ld1 xt1a xo1b), .mk .act 7680 xo1c (.call 93 [xt1b] xo1c), .mk .act 15872 xo1d (.bls 3 1 (repL 1 z33) [(0, 3, xt1c)] xo1d), .mk .act 32767 xo1e (.call 92 [xt0f, xt13, xt17, (xn 3), (xn 0), xt1d] xo1e)]) (.seq (.drw [.mk .pure 0 xo1f (.mov xt02 xo1f), .mk .pure 0 xo20 (.mov xt00 xo20), .mk .pure 2 xo21 (.nlc xt20 xo21), .mk .pure 6 xo22 (.fld 2 xt21 xo22), .mk .read 14 xo23 (.ld1 xt22 xo23), .mk .pure 0 xo24 (.mov xt00 xo24), .mk .pure 32 xo25 (.nlc xt24 xo25), .mk .pure 96 xo26 (.fld 7 xt25 xo26), .mk .read 224 xo27 (.ld1 xt26 xo27), .mk .act 511 xo28 (.call 94 [xt1f, xt23, xt27] xo28)]) .ret)) .skip)) (.seq (.ops [.call 200 [] xo29, .mov xt29 xo03]) (.seq (.ops [.mov (xn 1) xo04]) (.blk 0 (.loop (.seq (.seq (.ops [.mov xt04 xo2a, .mov xt03 xo2b, .len 2 xt2b xo2c, .cmp .leq xt2a xt2c xo2d]) (.cnd xt2d .skip (.ex 0))) (.seq (.blk 1 (.seq (.ops [.mov xt03 xo30, .mov xt04 xo31, .lok (.agg z327) xt30 xt31 false xo32, .alc 2 z327 xo05, .sto 2 xt05 xt32]) (.drw [.mk .pure 0 xo33 (.mov xt02 xo33), .mk .pure 0 xo34 (.mov xt00 xo34), .mk .pure 2 xo35 (.nlc xt34 xo35), .mk .pure 6 xo36 (.fld 2 xt35 xo36), .mk .rdx 14 xo37 (.ld1 xt36 xo37), .mk .pure 0 xo38 (.mov xt00 xo38), .mk .pure 32 xo39 (.nlc xt38 xo39), .mk .pure 96 xo3a (.fld 7 xt39 xo3a), .mk .rdx 224 xo3b (.ld1 xt3a xo3b), .mk .pure 0 xo3c (.mov xt04 xo3c), .mk .act 512 xo3d (.call 93 [xt3c] xo3d), .mk .pure 0 xo3e (.fld 0 xt05 xo3e), .mk .rdx 2048 xo3f (.ld1 xt3e xo3f), .mk .act 7680 xo40 (.call 201 [xt3f] xo40), .mk .act 15872 xo41 (.call 262 [xt40] xo41), .mk .pure 0 xo42 (.fld 1 xt05 xo42), .mk .rdx 32768 xo43 (.ld1 xt42 xo43), .mk .act 130560 xo44 (.call 93 [xt43] xo44), .mk .act 261632 xo45 (.bls 3 3 (repL 3 z33) [(0, 3, xt3d), (3, 3, xt41), (6, 3, xt44)] xo45), .mk .act 524287 xo46 (.call 92 [xt33, xt37, xt3b, (xn 2), (xn 0), xt45] xo46)]))) (.ops [.mov xt04 xo2e, .ar .add xt2e (xn 1) xo2f, .mov xt2f xo04]))))))))) []
noncomputable def xf204 : Fn := .x 16 (.seq (.drw [.mk .pure 0 xo04 (.mov xt00 xo04), .mk .pure 1 xo05 (.nlc xt04 xo05), .mk .pure 3 xo06 (.fld 1 xt05 xo06), .mk .read 7 xo07 (.ld1 xt06 xo07), .mk .pure 15 xo08 (.nlc xt07 xo08), .mk .pure 31 xo09 (.fld 0 xt08 xo09), .mk .read 63 xo0a (.ld1 xt09 xo0a), .mk .pure 0 xo0b (.mov xt00 xo0b), .mk .pure 128 xo0c (.nlc xt0b xo0c), .mk .pure 384 xo0d (.fld 7 xt0c xo0d), .mk .read 896 xo0e (.ld1 xt0d xo0e), .mk .act 2047 xo0f (.call 134 [xt0a, xt0e] xo0f)]) (.blk 0 (.seq (.ops [.cmp .eql xt0f (xn 5) xo11, .mov xt11 xo10]) (.cnd xt10 (.seq (.ops [.bld 2 z385 [(0, 1, (xn 0)), (1, 1, (xn 1))] xo12, .mov (xn 0) xo13]) (.blk 1 (.loop (.seq (.ops [.cmp .lss xt13 (xn 2) xo14]) (.seq (.cnd xt14 .skip (.ex 1)) (.seq (.blk 2 (.seq (.ops [.ina 2 xt12 xt13 xo15, .mov xt15 xo03]) (.drw [.mk .pure 0 xo16 (.mov xt00 xo16), .mk .pure 1 xo17 (.nlc xt16 xo17), .mk .pure 3 xo18 (.fld 0 xt17 xo18), .mk .rdx 7 xo19 (.ld1 xt18 xo19), .mk .pure 0 xo1a (.mov xt00 xo1a), .mk .pure 16 xo1b (.nlc xt1a xo1b), .mk .pure 48 xo1c (.fld 2 xt1b xo1c), .mk .rdx 112 xo1d (.ld1 xt1c xo1d), .mk .pure 0 xo1e (.mov xt00 xo1e), .mk .pure 256 xo1f (.nlc xt1e xo1f), .mk .pure 768 xo20 (.fld 7 xt1f xo20), .mk .rdx 1792 xo21 (.ld1 xt20 xo21), .mk .pure 0 xo22 (.mov xt03 xo22), .mk .act 4096 xo23 (.call 93 [xt22] xo23), .mk .act 12288 xo24 (.bls 3 1 (repL 1 z33) [(0, 3, xt23)] xo24), .mk .act 32767 xo25 (.call 92 [xt19, xt1d, xt21, (xn 5), (xn 0), xt24] xo25)]))) (.ops [.ar .add xt13 (xn 1) xo26, .mov xt26 xo13]))))))) (.seq (.ops [.cmp .eql xt0f (xn 12) xo28, .mov xt28 xo27]) (.cnd xt27 (.drw [.mk .pure 0 xo29 (.mov xt00 xo29), .mk .pure 1 xo2a (.nlc xt29 xo2a), .mk .pure 3 xo2b (.fld 0 xt2a xo2b), .mk .rdx 7 xo2c (.ld1 xt2b xo2c), .mk .pure 0 xo2d (.mov xt00 xo2d), .mk .pure 16 xo2e (.nlc xt2d xo2e), .mk .pure 48 xo2f (.fld 2 xt2e xo2f), .mk .rdx 112 xo30 (.ld1 xt2f xo30), .mk .pure 0 xo31 (.mov xt00 xo31), .mk .pure 256 xo32 (.nlc xt31 xo32), .mk .pure 768 xo33 (.fld 7 xt32 xo33), .mk .rdx 1792 xo34 (.ld1 xt33 xo34), .mk .act 0 xo35 (.call 93 [(xn 3)] xo35), .mk .act 4096 xo36 (.bls 3 1 (repL 1 z33) [(0, 3, xt35)] xo36), .mk .act 16383 xo37 (.call 92 [xt2c, xt30, xt34, (xn 12), (xn 0), xt36] xo37)]) .skip)))))) []
noncomputable def xf205 : Fn := .x 16 (.seq (.ops [.mov (.k .ni) xo04]) (.seq (.blk 0 (.seq (.ops [.mov xt01 xo06, .cmp .lss xt06 (xn 1) xo07, .mov xt07 xo05]) (.cnd xt05 (.seq (.ops [.ld1 (.k (.p 1 0)) xo08, .mov xt08 xo04]) .ret) (.seq (.ops [.mov xt00 xo0a, .mov xt01 xo0b, .call 161 [xt0a, xt0b] xo0c, .mov xt0c xo09]) (.cnd xt09 (.seq (.ops [.ld1 (.k (.p 4 0)) xo0d, .mov xt0d xo04]) .ret) (.seq (.ops [.mov xt00 xo0f, .nlc xt0f xo10, .fld 0 xt10 xo11, .ld1 xt11 xo12, .len 2 xt12 xo13, .cmp .geq xt13 (xn 40) xo14, .mov xt14 xo0e]) (.cnd xt0e (.seq (.ops [.ld1 (.k (.p 7 0)) xo15, .mov xt15 xo04]) .ret) .skip))))))) (.seq (.drw [.mk .pure 0 xo16 (.mov xt00 xo16), .mk .pure 1 xo17 (.nlc xt16 xo17), .mk .pure 3 xo18 (.fld 0 xt17 xo18), .mk .rdx 7 xo19 (.ld1 xt18 xo19), .mk .pure 0 xo1a (.mov xt01 xo1a), .mk .pure 0 xo1b (.mov xt01 xo1b), .mk .act 0 xo1c (.call 263 [] xo1c), .mk .pure 96 xo1d (.bld 33 z217 [(0, 1, xt1b), (23, 10, xt1c)] xo1d), .mk .act 224 xo1e (.box 33 xt1d xo1e), .mk .act 511 .no (.mup xt19 xt1a xt1e)]) (.seq (.ops [.mov (.k .ni) xo04]) .ret)))) [.t xt04]
noncomputable def xf206 : Fn := .x 12 (.seq (.ops [.mov (xn 0) xo04]) (.seq (.ops [.mov xt00 xo05, .nlc xt05 xo06, .fld 2 xt06 xo07, .ld1 xt07 xo08, .ar .mul (xn 1000) xt08 xo09, .mov xt01 xo0a, .ar .add xt09 xt0a xo0b, .mov xt0b xo04]) .ret)) [.t xt04]
noncomputable def xf207 : Fn := .x 16 (.seq (.ops [.mov (.k .ni) xo06]) (.seq (.seq (.ops [.mov xt02 xo07, .eqv 7 true xt07 (.k .ni) xo08]) (.cnd xt08 (.drw [.mk .pure 0 xo09 (.mov xt00 xo09), .mk .pure 1 xo0a (.nlc xt09 xo0a), .mk .pure 3 xo0b (.fld 1 xt0a xo0b), .mk .read 7 xo0c (.ld1 xt0b xo0c), .mk .pure 15 xo0d (.nlc xt0c xo0d), .mk .pure 31 xo0e (.fld 1 xt0d xo0e), .mk .read 63 xo0f (.ld1 xt0e xo0f), .mk .pure 0 xo10 (.mov xt00 xo10), .mk .pure 128 xo11 (.nlc xt10 xo11), .mk .pure 384 xo12 (.fld 7 xt11 xo12), .mk .read 896 xo13 (.ld1 xt12 xo13), .mk .pure 0 xo14 (.mov xt01 xo14), .mk .act 4095 .no (.mup xt0f xt13 xt14)]) .skip)) (.seq (.ops [.mov xt02 xo15, .mov xt15 xo06]) .ret))) [.t xt06]
noncomputable def xf208 : Fn := .x 16 (.seq (.ops [.mov (.k .ni) xo0a]) (.seq (.seq (.ops [.mov xt00 xo0e, .nlc xt0e xo0f, .fld 0 xt0f xo10, .ld1 xt10 xo11, .mov xt01 xo12, .lok (.agg z302) xt11 xt12 true xo13, .mov xt13 xo0d, .ext 0 xt0d xo14, .ext 1 xt0d xo15, .alc 2 z302 xo0b, .sto 2 xt0b xt14, .mov xt15 xo0c]) (.seq (.ops [.mov xt0c xo16]) (.cnd xt16 (.seq (.ops [.ld1 (.k (.p 4 0)) xo17, .mov xt17 xo0a]) .ret) .skip))) (.seq (.seq (.ops [.mov xt03 xo18, .cmp .lss xt18 (xn 1) xo19, .mov xt19 xo1a, .gd .h1 .ha false (.mov xt03 xo1b) xo1b, .gd .h1 .ha false (.cmp .gtr xt1b (xn 65536) xo1c) xo1c, .pick xt1a xTT xt1c xo1d]) (.cnd xt1d (.seq (.ops [.ld1 (.k (.p 9 0)) xo1e, .mov xt1e xo0a]) .ret) .skip)) (.seq (.seq (.ops [.mov xt04 xo1f, .mov xt03 xo20, .cmp .lss xt1f xt20 xo21]) (.cnd xt21 (.seq (.ops [.ld1 (.k (.p 10 0)) xo22, .mov xt22 xo0a]) .ret) .skip)) (.seq (.ops [.mov xt00 xo23, .nlc xt23 xo24, .fld 0 xt24 xo25, .ld1 xt25 xo26, .mov xt01 xo27, .mov xt02 xo28, .mov xt03 xo29, .bld 2 z302 [(0, 1, xt28), (1, 1, xt29)] xo2a, .mup xt26 xt27 xt2a]) (.seq (.ops [.mov (.k .ni) xo0a]) .ret)))))) [.t xt0a]
noncomputable def xf209 : Fn := .x 16 (.seq (.ops [.mov (xn 0) xo04]) (.seq (.ops [.mov xt00 xo08, .nlc xt08 xo09, .fld 0 xt09 xo0a, .ld1 xt0a xo0b, .mov xt01 xo0c, .lok (one1 z60) xt0b xt0c true xo0d, .mov xt0d xo07, .ext 0 xt07 xo0e, .ext 1 xt07 xo0f, .mov xt0e xo05, .mov xt0f xo06]) (.seq (.seq (.ops [.mov xt06 xo10, .not xt10 xo11]) (.cnd xt11 (.seq (.ops [.mov (.k (.i .i64 (.negSucc 0))) xo04]) .ret) .skip)) (.seq (.ops [.mov xt05 xo12, .len 1 xt12 xo13, .mov xt13 xo04]) .ret)))) [.t xt04]
noncomputable def xf210 : Fn := .x 16 (.seq (.ops [.mov (.k .ni) xo02]) (.seq (.ops [.mov xt00 xo06, .nlc xt06 xo07, .fld 0 xt07 xo08, .ld1 xt08 xo09, .mov xt09 xo03]) (.seq (.seq (.ops [.mov xt00 xo0a, .nlc xt0a xo0b, .fld 5 xt0b xo0c, .ld1 xt0c xo0d]) (.blk 0 (.seq (.ops [.cmp .eql xt0d (xn 1) xo0f, .mov xt0f xo0e]) (.cnd xt0e (.seq (.drw [.mk .pure 0 xo10 (.mov xt03 xo10), .mk .pure 1 xo11 (.nlc xt10 xo11), .mk .pure 3 xo12 (.fld 5 xt11 xo12), .mk .rdx 7 xo13 (.ld1 xt12 xo13), .mk .pure 0 xo14 (.mov xt00 xo14), .mk .pure 0 xo15 (.mov xt00 xo15), .mk .pure 32 xo16 (.nlc xt15 xo16), .mk .pure 96 xo17 (.fld 3 xt16 xo17), .mk .read 224 xo18 (.ld1 xt17 xo18), .mk .act 496 xo19 (.call 206 [xt14, xt18] xo19), .mk .act 1023 xo1a (.call 120 [xt13, xt19] xo1a), .mk .pure 2047 xo02 (.mov xt1a xo02)]) .ret) (.seq (.ops [.cmp .eql xt0d (xn 2) xo1c, .mov xt1c xo1b]) (.cnd xt1b (.seq (.drw [.mk .pure 0 xo1d (.mov xt03 xo1d), .mk .pure 1 xo1e (.nlc xt1d xo1e), .mk .pure 3 xo1f (.fld 5 xt1e xo1f), .mk .rdx 7 xo20 (.ld1 xt1f xo20), .mk .pure 0 xo21 (.mov xt00 xo21), .mk .pure 0 xo22 (.mov xt00 xo22), .mk .pure 32 xo23 (.nlc xt22 xo23), .mk .pure 96 xo24 (.fld 3 xt23 xo24), .mk .read 224 xo25 (.ld1 xt24 xo25), .mk .act 496 xo26 (.call 206 [xt21, xt25] xo26), .mk .pure 0 xo27 (.mov xt00 xo27), .mk .pure 1024 xo28 (.nlc xt27 xo28), .mk .pure 3072 xo29 (.fld 8 xt28 xo29), .mk .rdx 7168 xo2a (.ld1 xt29 xo2a), .mk .pure 15360 xo2b (.idx 1 xt2a (xn 0) xo2b), .mk .rdx 31744 xo2c (.ld1 xt2b xo2c), .mk .pure 0 xo2d (.mov xt00 xo2d), .mk .pure 65536 xo2e (.nlc xt2d xo2e), .mk .pure 196608 xo2f (.fld 1 xt2e xo2f), .mk .rdx 458752 xo30 (.ld1 xt2f xo30), .mk .pure 983040 xo31 (.nlc xt30 xo31), .mk .pure 2031616 xo32 (.fld 3 xt31 xo32), .mk .rdx 4128768 xo33 (.ld1 xt32 xo33), .mk .pure 0 xo34 (.mov xt00 xo34), .mk .pure 8388608 xo35 (.nlc xt34 xo35), .mk .pure 25165824 xo36 (.fld 1 xt35 xo36), .mk .rdx 58720256 xo37 (.ld1 xt36 xo37), .mk .pure 125829120 xo38 (.nlc xt37 xo38), .mk .pure 260046848 xo39 (.fld 1 xt38 xo39), .mk .rdx 528482304 xo3a (.ld1 xt39 xo3a), .mk .pure 0 xo3b (.mov xt00 xo3b), .mk .pure 1073741824 xo3c (.nlc xt3b xo3c), .mk .pure 3221225472 xo3d (.fld 3 xt3c xo3d), .mk .rdx 7516192768 xo3e (.ld1 xt3d xo3e), .mk .rdx 17171480576 xo3f (.lok (one1 z3) xt3a xt3e false xo3f), .mk .act 34359673840 xo40 (.call 209 [xt33, xt3f] xo40), .mk .act 68719476735 xo41 (.call 264 [xt20, xt26, xt2c, xt40] xo41), .mk .pure 137438953471 xo02 (.mov xt41 xo02)]) .ret) .skip)))))) (.seq (.ops [.mov xt03 xo42, .nlc xt42 xo43, .fld 7 xt43 xo44, .ld1 xt44 xo45, .ar .add xt45 (xn 1) xo46, .mov xt46 xo04]) (.seq (.drw [.mk .pure 0 xo47 (.mov xt03 xo47), .mk .pure 1 xo48 (.nlc xt47 xo48), .mk .pure 3 xo49 (.fld 5 xt48 xo49), .mk .rdx 7 xo4a (.ld1 xt49 xo4a), .mk .pure 0 xo4b (.mov xt04 xo4b), .mk .pure 0 xo4c (.mov xt00 xo4c), .mk .pure 0 xo4d (.mov xt00 xo4d), .mk .pure 64 xo4e (.nlc xt4d xo4e), .mk .pure 192 xo4f (.fld 3 xt4e xo4f), .mk .read 448 xo50 (.ld1 xt4f xo50), .mk .act 992 xo51 (.call 206 [xt4c, xt50] xo51), .mk .pure 0 xo52 (.mov xt00 xo52), .mk .pure 2048 xo53 (.nlc xt52 xo53), .mk .pure 6144 xo54 (.fld 8 xt53 xo54), .mk .rdx 14336 xo55 (.ld1 xt54 xo55), .mk .pure 30720 xo56 (.idx 1 xt55 (xn 1) xo56), .mk .rdx 63488 xo57 (.ld1 xt56 xo57), .mk .pure 0 xo58 (.mov xt00 xo58), .mk .pure 131072 xo59 (.nlc xt58 xo59), .mk .pure 393216 xo5a (.fld 8 xt59 xo5a), .mk .rdx 917504 xo5b (.ld1 xt5a xo5b), .mk .pure 1966080 xo5c (.idx 1 xt5b (xn 2) xo5c), .mk .rdx 4063232 xo5d (.ld1 xt5c xo5d), .mk .pure 0 xo5e (.mov xt00 xo5e), .mk .pure 8388608 xo5f (.nlc xt5e xo5f), .mk .pure 25165824 xo60 (.fld 8 xt5f xo60), .mk .rdx 58720256 xo61 (.ld1 xt60 xo61), .mk .pure 125829120 xo62 (.idx 1 xt61 (xn 3) xo62), .mk .rdx 260046848 xo63 (.ld1 xt62 xo63), .mk .pure 0 xo64 (.mov xt00 xo64), .mk .pure 536870912 xo65 (.nlc xt64 xo65), .mk .pure 1610612736 xo66 (.fld 8 xt65 xo66), .mk .rdx 3758096384 xo67 (.ld1 xt66 xo67), .mk .pure 8053063680 xo68 (.idx 1 xt67 (xn 4) xo68), .mk .rdx 16642998272 xo69 (.ld1 xt68 xo69), .mk .pure 0 xo6a (.mov xt00 xo6a), .mk .pure 34359738368 xo6b (.nlc xt6a xo6b), .mk .pure 103079215104 xo6c (.fld 8 xt6b xo6c), .mk .rdx 240518168576 xo6d (.ld1 xt6c xo6d), .mk .pure 515396075520 xo6e (.idx 1 xt6d (xn 5) xo6e), .mk .rdx 1065151889408 xo6f (.ld1 xt6e xo6f), .mk .act 2199023255551 xo70 (.call 265 [xt4a, xt4b, xt51, xt57, xt5d, xt63, xt69, xt6f] xo70), .mk .pure 4398046511103 xo05 (.mov xt70 xo05)]) (.seq (.seq (.ops [.mov xt05 xo71, .eqv 7 true xt71 (.k .ni) xo72]) (.cnd xt72 (.seq (.ops [.mov xt03 xo73, .mov xt04 xo74, .nlc xt73 xo75, .fld 7 xt75 xo76, .sto 1 xt76 xt74]) (.drw [.mk .pure 0 xo77 (.mov xt03 xo77), .mk .pure 1 xo78 (.nlc xt77 xo78), .mk .pure 3 xo79 (.fld 6 xt78 xo79), .mk .rdx 7 xo7a (.ld1 xt79 xo7a), .mk .pure 0 xo7b (.mov xt04 xo7b), .mk .pure 0 xo7c (.mov xt00 xo7c), .mk .pure 0 xo7d (.mov xt00 xo7d), .mk .pure 64 xo7e (.nlc xt7d xo7e), .mk .pure 192 xo7f (.fld 7 xt7e xo7f), .mk .read 448 xo80 (.ld1 xt7f xo80), .mk .act 992 xo81 (.call 206 [xt7c, xt80] xo81), .mk .act 2047 .no (.mup xt7a xt7b xt81)])) .skip)) (.seq (.ops [.mov xt00 xo82, .mov xt04 xo83, .mov xt05 xo84, .call 207 [xt82, xt83, xt84] xo85, .mov xt85 xo02]) .ret))))))) [.t xt02]
noncomputable def xf213 : Fn := .x 16 (.seq (.ops [.mov (.k .ni) xo02]) (.seq (.drw [.mk .pure 0 xo07 (.mov xt00 xo07), .mk .pure 1 xo08 (.nlc xt07 xo08), .mk .pure 3 xo09 (.fld 0 xt08 xo09), .mk .rdx 7 xo0a (.ld1 xt09 xo0a), .mk .pure 0 xo0b (.mov xt00 xo0b), .mk .pure 0 xo0c (.mov xt00 xo0c), .mk .pure 32 xo0d (.nlc xt0c xo0d), .mk .pure 96 xo0e (.fld 3 xt0d xo0e), .mk .read 224 xo0f (.ld1 xt0e xo0f), .mk .act 496 xo10 (.call 206 [xt0b, xt0f] xo10), .mk .pure 1023 xo03 (.mov xt0a xo03), .mk .pure 2047 xo04 (.mov xt10 xo04)]) (.seq (.seq (.ops [.mov xt00 xo11, .nlc xt11 xo12, .fld 5 xt12 xo13, .ld1 xt13 xo14]) (.blk 0 (.seq (.ops [.cmp .eql xt14 (xn 0) xo16, .mov xt16 xo15]) (.cnd xt15 (.seq (.seq (.ops [.mov xt03 xo17, .nlc xt17 xo18, .fld 4 xt18 xo19, .ld1 xt19 xo1a, .mov xt04 xo1b, .call 179 [xt1a, xt1b] xo1c]) (.cnd xt1c (.seq (.ops [.ld1 (.k (.p 11 0)) xo1d, .mov xt1d xo02]) .ret) .skip)) (.seq (.ops [.mov xt03 xo1e, .mov xt04 xo1f, .call 118 [xt1e, xt1f] xo20]) (.seq (.ops [.mov (.k .ni) xo02]) .ret))) (.seq (.ops [.cmp .eql xt14 (xn 1) xo22, .mov xt22 xo21]) (.cnd xt21 (.seq (.seq (.ops [.mov xt00 xo23, .nlc xt23 xo24, .fld 8 xt24 xo25, .ld1 xt25 xo26, .idx 1 xt26 (xn 1) xo27, .ld1 xt27 xo28, .cmp .neq xt28 (xn 0) xo29, .mov xt29 xo2a, .gd .h2 .ha false (.mov xt00 xo2b) xo2b, .gd .h2 .ha false (.nlc xt2b xo2c) xo2c, .gd .h2 .ha false (.fld 8 xt2c xo2d) xo2d, .gd .h2 .ha false (.ld1 xt2d xo2e) xo2e, .gd .h2 .ha false (.idx 1 xt2e (xn 2) xo2f) xo2f, .gd .h2 .ha false (.ld1 xt2f xo30) xo30, .gd .h2 .ha false (.cmp .neq xt30 (xn 0) xo31) xo31, .pick xt2a xTT xt31 xo32]) (.cnd xt32 (.seq (.ops [.ld1 (.k (.p 1 0)) xo33, .mov xt33 xo02]) .ret) .skip)) (.seq (.seq (.ops [.mov xt00 xo34, .mov xt00 xo35, .nlc xt35 xo36, .fld 8 xt36 xo37, .ld1 xt37 xo38, .idx 1 xt38 (xn 0) xo39, .ld1 xt39 xo3a, .call 267 [xt34, xt3a, (xn 7)] xo3b, .mov xt3b xo05]) (.seq (.ops [.mov xt05 xo3c, .eqv 7 false xt3c (.k .ni) xo3d]) (.cnd xt3d (.seq (.ops [.mov xt05 xo3e, .mov xt3e xo02]) .ret) .skip))) (.seq (.drw [.mk .pure 0 xo3f (.mov xt03 xo3f), .mk .pure 1 xo40 (.nlc xt3f xo40), .mk .pure 3 xo41 (.fld 3 xt40 xo41), .mk .read 7 xo42 (.ld1 xt41 xo42), .mk .pure 0 xo43 (.mov xt04 xo43), .mk .pure 0 xo44 (.mov xt00 xo44), .mk .pure 32 xo45 (.nlc xt44 xo45), .mk .pure 96 xo46 (.fld 1 xt45 xo46), .mk .read 224 xo47 (.ld1 xt46 xo47), .mk .pure 480 xo48 (.nlc xt47 xo48), .mk .pure 992 xo49 (.fld 1 xt48 xo49), .mk .read 2016 xo4a (.ld1 xt49 xo4a), .mk .pure 0 xo4b (.mov xt00 xo4b), .mk .pure 4096 xo4c (.nlc xt4b xo4c), .mk .pure 12288 xo4d (.fld 8 xt4c xo4d), .mk .read 28672 xo4e (.ld1 xt4d xo4e), .mk .pure 61440 xo4f (.idx 1 xt4e (xn 0) xo4f), .mk .read 126976 xo50 (.ld1 xt4f xo50), .mk .read 262112 xo51 (.lok (one1 z3) xt4a xt50 false xo51), .mk .act 524287 xo52 (.call 268 [xt42, xt43, xt51] xo52), .mk .pure 1048575 xo02 (.mov xt52 xo02)]) .ret))) (.seq (.ops [.cmp .eql xt14 (xn 2) xo54, .mov xt54 xo53]) (.cnd xt53 (.seq (.seq (.ops [.mov xt00 xo55, .nlc xt55 xo56, .fld 8 xt56 xo57, .ld1 xt57 xo58, .idx 1 xt58 (xn 2) xo59, .ld1 xt59 xo5a, .cmp .lss xt5a (xn 1) xo5b, .mov xt5b xo5c, .gd .h5 .hc false (.mov xt00 xo5d) xo5d, .gd .h5 .hc false (.nlc xt5d xo5e) xo5e, .gd .h5 .hc false (.fld 8 xt5e xo5f) xo5f, .gd .h5 .hc false (.ld1 xt5f xo60) xo60, .gd .h5 .hc false (.idx 1 xt60 (xn 3) xo61) xo61, .gd .h5 .hc false (.ld1 xt61 xo62) xo62, .gd .h5 .hc false (.cmp .lss xt62 (xn 1) xo63) xo63, .pick xt5c xTT xt63 xo64]) (.cnd xt64 (.seq (.ops [.mov (.k .ni) xo02]) .ret) .skip)) (.seq (.drw [.mk .pure 0 xo65 (.mov xt03 xo65), .mk .pure 1 xo66 (.nlc xt65 xo66), .mk .pure 3 xo67 (.fld 3 xt66 xo67), .mk .read 7 xo68 (.ld1 xt67 xo68), .mk .pure 0 xo69 (.mov xt04 xo69), .mk .pure 0 xo6a (.mov xt00 xo6a), .mk .pure 32 xo6b (.nlc xt6a xo6b), .mk .pure 96 xo6c (.fld 8 xt6b xo6c), .mk .read 224 xo6d (.ld1 xt6c xo6d), .mk .pure 480 xo6e (.idx 1 xt6d (xn 0) xo6e), .mk .read 992 xo6f (.ld1 xt6e xo6f), .mk .pure 0 xo70 (.mov xt00 xo70), .mk .pure 2048 xo71 (.nlc xt70 xo71), .mk .pure 6144 xo72 (.fld 8 xt71 xo72), .mk .read 14336 xo73 (.ld1 xt72 xo73), .mk .pure 30720 xo74 (.idx 1 xt73 (xn 1) xo74), .mk .read 63488 xo75 (.ld1 xt74 xo75), .mk .pure 0 xo76 (.mov xt00 xo76), .mk .pure 131072 xo77 (.nlc xt76 xo77), .mk .pure 393216 xo78 (.fld 8 xt77 xo78), .mk .read 917504 xo79 (.ld1 xt78 xo79), .mk .pure 1966080 xo7a (.idx 1 xt79 (xn 2) xo7a), .mk .read 4063232 xo7b (.ld1 xt7a xo7b), .mk .pure 0 xo7c (.mov xt00 xo7c), .mk .pure 8388608 xo7d (.nlc xt7c xo7d), .mk .pure 25165824 xo7e (.fld 8 xt7d xo7e), .mk .read 58720256 xo7f (.ld1 xt7e xo7f), .mk .pure 125829120 xo80 (.idx 1 xt7f (xn 3) xo80), .mk .read 260046848 xo81 (.ld1 xt80 xo81), .mk .pure 536870880 xo82 (.bld 4 z153 [(0, 1, xt6f), (1, 1, xt75), (2, 1, xt7b), (3, 1, xt81)] xo82), .mk .act 1073741823 xo83 (.call 269 [xt68, xt69, xt82] xo83), .mk .pure 2147483647 xo02 (.mov xt83 xo02)]) .ret)) (.seq (.ops [.cmp .eql xt14 (xn 3) xo85, .mov xt85 xo84]) (.cnd xt84 (.seq (.drw [.mk .pure 0 xo86 (.mov xt03 xo86), .mk .pure 1 xo87 (.nlc xt86 xo87), .mk .pure 3 xo88 (.fld 3 xt87 xo88), .mk .rdx 7 xo89 (.ld1 xt88 xo89), .mk .pure 0 xo8a (.mov xt04 xo8a), .mk .pure 0 xo8b (.mov xt00 xo8b), .mk .pure 0 xo8c (.mov xt00 xo8c), .mk .pure 64 xo8d (.nlc xt8c xo8d), .mk .pure 192 xo8e (.fld 7 xt8d xo8e), .mk .read 448 xo8f (.ld1 xt8e xo8f), .mk .act 992 xo90 (.call 206 [xt8b, xt8f] xo90), .mk .act 2047 xo91 (.call 270 [xt89, xt8a, xt90] xo91), .mk .pure 4095 xo02 (.mov xt91 xo02)]) .ret) (.seq (.ops [.cmp .eql xt14 (xn 4) xo93, .mov xt93 xo92]) (.cnd xt92 (.seq (.seq (.ops [.mov xt00 xo94, .mov xt00 xo95, .nlc xt95 xo96, .fld 8 xt96 xo97, .ld1 xt97 xo98, .idx 1 xt98 (xn 0) xo99, .ld1 xt99 xo9a, .call 267 [xt94, xt9a, (xn 9)] xo9b, .mov xt9b xo06]) (.seq (.ops [.mov xt06 xo9c, .eqv 7 false xt9c (.k .ni) xo9d]) (.cnd xt9d (.seq (.ops [.mov xt06 xo9e, .mov xt9e xo02]) .ret) .skip))) (.seq (.drw [.mk .pure 0 xo9f (.mov xt03 xo9f), .mk .pure 1 xoa0 (.nlc xt9f xoa0), .mk .pure 3 xoa1 (.fld 3 xta0 xoa1), .mk .read 7 xoa2 (.ld1 xta1 xoa2), .mk .pure 0 xoa3 (.mov xt04 xoa3), .mk .pure 0 xoa4 (.mov xt00 xoa4), .mk .pure 32 xoa5 (.nlc xta4 xoa5), .mk .pure 96 xoa6 (.fld 8 xta5 xoa6), .mk .read 224 xoa7 (.ld1 xta6 xoa7), .mk .pure 480 xoa8 (.idx 1 xta7 (xn 0) xoa8), .mk .read 992 xoa9 (.ld1 xta8 xoa9), .mk .pure 2016 xoaa (.cmp .eql xta9 (xn 0) xoaa), .mk .pure 0 xoab (.mov xt00 xoab), .mk .pure 4096 xoac (.nlc xtab xoac), .mk .pure 12288 xoad (.fld 1 xtac xoad), .mk .read 28672 xoae (.ld1 xtad xoae), .mk .pure 61440 xoaf (.nlc xtae xoaf), .mk .pure 126976 xob0 (.fld 2 xtaf xob0), .mk .read 258048 xob1 (.ld1 xtb0 xob1), .mk .pure 0 xob2 (.mov xt00 xob2), .mk .pure 524288 xob3 (.nlc xtb2 xob3), .mk .pure 1572864 xob4 (.fld 8 xtb3 xob4), .mk .read 3670016 xob5 (.ld1 xtb4 xob5), .mk .pure 7864320 xob6 (.idx 1 xtb5 (xn 0) xob6), .mk .read 16252928 xob7 (.ld1 xtb6 xob7), .mk .read 33550336 xob8 (.lok (one1 z145) xtb1 xtb7 false xob8), .mk .act 67108863 xob9 (.call 271 [xta2, xta3, xtaa, xtb8] xob9), .mk .pure 134217727 xo02 (.mov xtb9 xo02)]) .ret)) .skip)))))))))))) (.seq (.ops [.mov xt00 xoba, .mov xt04 xobb, .call 272 [xtba, xtbb] xobc, .mov xtbc xo02]) .ret)))) [.t xt02]
noncomputable def xf215 : Fn := .x 16 (.seq (.ops [.mov (.k .ni) xo02]) (.seq (.seq (.ops [.mov xt00 xo07, .nlc xt07 xo08, .fld 8 xt08 xo09, .ld1 xt09 xo0a, .slc 1 xt0a (some (xn 1)) none none xo0b, .len 1 xt0b xo0c, .mov (xn 0) xo0d]) (.blk 0 (.loop (.seq (.ops [.cmp .lss xt0d xt0c xo0e]) (.seq (.cnd xt0e .skip (.ex 0)) (.seq (.blk 1 (.seq (.ops [.idx 1 xt0b xt0d xo0f, .ld1 xt0f xo10, .mov xt10 xo04]) (.seq (.ops [.mov xt00 xo11, .nlc xt11 xo12, .fld 1 xt12 xo13, .ld1 xt13 xo14, .nlc xt14 xo15, .fld 0 xt15 xo16, .ld1 xt16 xo17, .mov xt04 xo18, .call 276 [xt17, xt18, (xn 8)] xo19, .mov xt19 xo05]) (.seq (.ops [.mov xt05 xo1a, .eqv 7 false xt1a (.k .ni) xo1b]) (.cnd xt1b (.seq (.ops [.mov xt05 xo1c, .mov xt1c xo02]) .ret) .skip))))) (.ops [.ar .add xt0d (xn 1) xo1d, .mov xt1d xo0d]))))))) (.seq (.ops [.mov xt00 xo1e, .mov xt00 xo1f, .nlc xt1f xo20, .fld 8 xt20 xo21, .ld1 xt21 xo22, .idx 1 xt22 (xn 1) xo23, .ld1 xt23 xo24, .call 206 [xt1e, xt24] xo25, .mov xt25 xo06]) (.seq (.seq (.ops [.mov xt00 xo26, .nlc xt26 xo27, .fld 0 xt27 xo28, .ld1 xt28 xo29, .nlc xt29 xo2a, .fld 4 xt2a xo2b, .ld1 xt2b xo2c, .mov xt06 xo2d, .call 179 [xt2c, xt2d] xo2e]) (.cnd xt2e (.seq (.ops [.ld1 (.k (.p 11 0)) xo2f, .mov xt2f xo02]) .ret) .skip)) (.seq (.drw [.mk .pure 0 xo30 (.mov xt00 xo30), .mk .pure 0 xo31 (.mov xt06 xo31), .mk .pure 0 xo32 (.mov xt00 xo32), .mk .pure 4 xo33 (.nlc xt32 xo33), .mk .pure 12 xo34 (.fld 0 xt33 xo34), .mk .rdx 28 xo35 (.ld1 xt34 xo35), .mk .pure 60 xo36 (.nlc xt35 xo36), .mk .pure 124 xo37 (.fld 3 xt36 xo37), .mk .rdx 252 xo38 (.ld1 xt37 xo38), .mk .pure 0 xo39 (.mov xt06 xo39), .mk .pure 0 xo3a (.mov xt00 xo3a), .mk .pure 0 xo3b (.mov xt00 xo3b), .mk .pure 2048 xo3c (.nlc xt3b xo3c), .mk .pure 6144 xo3d (.fld 8 xt3c xo3d), .mk .read 14336 xo3e (.ld1 xt3d xo3e), .mk .pure 30720 xo3f (.idx 1 xt3e (xn 2) xo3f), .mk .read 63488 xo40 (.ld1 xt3f xo40), .mk .act 130048 xo41 (.call 206 [xt3a, xt40] xo41), .mk .act 262140 xo42 (.call 277 [xt38, xt39, xt41] xo42), .mk .act 524287 xo43 (.call 207 [xt30, xt31, xt42] xo43), .mk .pure 1048575 xo02 (.mov xt43 xo02)]) .ret))))) [.t xt02]
noncomputable def xf216 : Fn := .x 16 (.seq (.ops [.mov (.k .ni) xo02]) (.seq (.drw [.mk .pure 0 xo07 (.mov xt00 xo07), .mk .pure 1 xo08 (.nlc xt07 xo08), .mk .pure 3 xo09 (.fld 0 xt08 xo09), .mk .read 7 xo0a (.ld1 xt09 xo0a), .mk .pure 15 xo0b (.nlc xt0a xo0b), .mk .pure 31 xo0c (.fld 3 xt0b xo0c), .mk .read 63 xo0d (.ld1 xt0c xo0d), .mk .pure 0 xo0e (.mov xt00 xo0e), .mk .pure 128 xo0f (.nlc xt0e xo0f), .mk .pure 384 xo10 (.fld 1 xt0f xo10), .mk .read 896 xo11 (.ld1 xt10 xo11), .mk .pure 1920 xo12 (.nlc xt11 xo12), .mk .pure 3968 xo13 (.fld 1 xt12 xo13), .mk .read 8064 xo14 (.ld1 xt13 xo14), .mk .pure 0 xo15 (.mov xt00 xo15), .mk .pure 16384 xo16 (.nlc xt15 xo16), .mk .pure 49152 xo17 (.fld 3 xt16 xo17), .mk .read 114688 xo18 (.ld1 xt17 xo18), .mk .read 262016 xo19 (.lok (one1 z3) xt14 xt18 false xo19), .mk .pure 127 xo03 (.mov xt0d xo03), .mk .pure 1048575 xo04 (.mov xt19 xo04)]) (.seq (.seq (.ops [.mov xt04 xo1a, .cmp .eql xt1a (xn 0) xo1b]) (.cnd xt1b (.seq (.ops [.mov (.k .ni) xo02]) .ret) .skip)) (.seq (.ops [.mov xt03 xo1c, .mkf 278 [xt1c] [] xo1d, .mov xt1d xo05]) (.seq (.seq (.ops [.mov xt00 xo1e, .nlc xt1e xo1f, .fld 5 xt1f xo20, .ld1 xt20 xo21]) (.blk 0 (.seq (.blk 4 (.seq (.blk 3 (.seq (.blk 2 (.seq (.blk 1 (.seq (.seq (.seq (.ops [.cmp .eql xt21 (xn 0) xo23, .mov xt23 xo22]) (.cnd xt22 (.ex 1) .skip)) (.seq (.seq (.ops [.cmp .eql xt21 (xn 1) xo25, .mov xt25 xo24]) (.cnd xt24 (.ex 2) .skip)) (.seq (.seq (.ops [.cmp .eql xt21 (xn 2) xo27, .mov xt27 xo26]) (.cnd xt26 (.ex 3) .skip)) (.seq (.ops [.cmp .eql xt21 (xn 3) xo29, .mov xt29 xo28]) (.cnd xt28 (.ex 4) .skip))))) (.ex 0))) (.seq (.seq (.ops [.mov xt03 xo2a, .mov xt04 xo2b, .call 242 [xt2a, xt2b] xo2c]) (.seq (.ops [.mov (.k .ni) xo02]) .ret)) (.ex 0)))) (.seq (.seq (.drw [.mk .pure 0 xo2d (.mov xt03 xo2d), .mk .pure 0 xo2e (.mov xt04 xo2e), .mk .pure 0 xo2f (.mov xt00 xo2f), .mk .pure 4 xo30 (.nlc xt2f xo30), .mk .pure 12 xo31 (.fld 8 xt30 xo31), .mk .read 28 xo32 (.ld1 xt31 xo32), .mk .pure 60 xo33 (.idx 1 xt32 (xn 0) xo33), .mk .read 124 xo34 (.ld1 xt33 xo34), .mk .pure 0 xo35 (.mov xt00 xo35), .mk .pure 256 xo36 (.nlc xt35 xo36), .mk .pure 768 xo37 (.fld 8 xt36 xo37), .mk .read 1792 xo38 (.ld1 xt37 xo38), .mk .pure 3840 xo39 (.idx 1 xt38 (xn 1) xo39), .mk .read 7936 xo3a (.ld1 xt39 xo3a), .mk .act 16383 xo3b (.call 279 [xt2d, xt2e, xt34, xt3a] xo3b), .mk .pure 32767 xo02 (.mov xt3b xo02)]) .ret) (.ex 0)))) (.ops [.mov xt03 xo3c, .mkf 280 [xt3c] [] xo3d, .mov xt3d xo05]))) (.seq (.seq (.seq (.drw [.mk .pure 0 xo3e (.mov xt00 xo3e), .mk .pure 1 xo3f (.nlc xt3e xo3f), .mk .pure 3 xo40 (.fld 1 xt3f xo40), .mk .read 7 xo41 (.ld1 xt40 xo41), .mk .pure 15 xo42 (.nlc xt41 xo42), .mk .pure 31 xo43 (.fld 0 xt42 xo43), .mk .read 63 xo44 (.ld1 xt43 xo44), .mk .pure 0 xo45 (.mov xt00 xo45), .mk .pure 128 xo46 (.nlc xt45 xo46), .mk .pure 384 xo47 (.fld 8 xt46 xo47), .mk .read 896 xo48 (.ld1 xt47 xo48), .mk .pure 1920 xo49 (.idx 1 xt48 (xn 0) xo49), .mk .read 3968 xo4a (.ld1 xt49 xo4a), .mk .act 8191 xo4b (.call 276 [xt44, xt4a, (xn 8)] xo4b), .mk .pure 16383 xo06 (.mov xt4b xo06)]) (.seq (.ops [.mov xt06 xo4c, .eqv 7 false xt4c (.k .ni) xo4d]) (.cnd xt4d (.seq (.ops [.mov xt06 xo4e, .mov xt4e xo02]) .ret) .skip))) (.seq (.ops [.mov xt05 xo4f, .mov xt04 xo50, .mov xt00 xo51, .mov xt00 xo52, .nlc xt52 xo53, .fld 8 xt53 xo54, .ld1 xt54 xo55, .idx 1 xt55 (xn 0) xo56, .ld1 xt56 xo57, .call 206 [xt51, xt57] xo58, .cald xt4f [xt50, xt58] xo59, .mov xt59 xo02]) .ret)) (.ex 0))))) (.seq (.ops [.mov xt03 xo5a, .mov xt04 xo5b, .mov xt00 xo5c, .nlc xt5c xo5d, .fld 5 xt5d xo5e, .ld1 xt5e xo5f, .cmp .eql xt5f (xn 4) xo60, .call 281 [xt5a, xt5b, xt60] xo61, .mov xt61 xo02]) .ret)))))) [.t xt02]
noncomputable def xf217 : Fn := .x 16 (.seq (.ops [.mov (.k .ni) xo02]) (.seq (.ops [.mov xt00 xo08, .nlc xt08 xo09, .fld 0 xt09 xo0a, .ld1 xt0a xo0b, .mov xt0b xo03]) (.seq (.seq (.ops [.mov xt00 xo0c, .nlc xt0c xo0d, .fld 5 xt0d xo0e, .ld1 xt0e xo0f]) (.blk 0 (.seq (.ops [.cmp .eql xt0f (xn 1) xo11, .mov xt11 xo10]) (.cnd xt10 (.seq (.seq (.drw [.mk .pure 0 xo12 (.mov xt00 xo12), .mk .pure 1 xo13 (.nlc xt12 xo13), .mk .pure 3 xo14 (.fld 1 xt13 xo14), .mk .read 7 xo15 (.ld1 xt14 xo15), .mk .pure 15 xo16 (.nlc xt15 xo16), .mk .pure 31 xo17 (.fld 0 xt16 xo17), .mk .read 63 xo18 (.ld1 xt17 xo18), .mk .pure 0 xo19 (.mov xt00 xo19), .mk .pure 128 xo1a (.nlc xt19 xo1a), .mk .pure 384 xo1b (.fld 8 xt1a xo1b), .mk .read 896 xo1c (.ld1 xt1b xo1c), .mk .pure 1920 xo1d (.idx 1 xt1c (xn 1) xo1d), .mk .read 3968 xo1e (.ld1 xt1d xo1e), .mk .act 8191 xo1f (.call 276 [xt18, xt1e, (xn 8)] xo1f), .mk .pure 16383 xo04 (.mov xt1f xo04)]) (.seq (.ops [.mov xt04 xo20, .eqv 7 false xt20 (.k .ni) xo21]) (.cnd xt21 (.seq (.ops [.mov xt04 xo22, .mov xt22 xo02]) .ret) .skip))) (.seq (.ops [.mov xt00 xo23, .mov xt00 xo24, .nlc xt24 xo25, .fld 8 xt25 xo26, .ld1 xt26 xo27, .idx 1 xt27 (xn 1) xo28, .ld1 xt28 xo29, .call 206 [xt23, xt29] xo2a, .mov xt2a xo05]) (.seq (.seq (.ops [.mov xt03 xo2b, .nlc xt2b xo2c, .fld 3 xt2c xo2d, .ld1 xt2d xo2e, .mov xt05 xo2f, .call 162 [xt2e, xt2f] xo30, .cmp .neq xt30 (xn 0) xo31]) (.cnd xt31 (.seq (.ops [.ld1 (.k (.p 11 0)) xo32, .mov xt32 xo02]) .ret) .skip)) (.seq (.ops [.mov xt00 xo34, .mov xt05 xo35, .call 282 [xt34, xt35] xo36, .mov xt36 xo33, .ext 0 xt33 xo37, .ext 1 xt33 xo38, .mov xt37 xo06, .mov xt38 xo07]) (.seq (.drw [.mk .pure 0 xo39 (.mov xt00 xo39), .mk .pure 0 xo3a (.mov xt05 xo3a), .mk .pure 0 xo3b (.mov xt03 xo3b), .mk .pure 4 xo3c (.nlc xt3b xo3c), .mk .pure 12 xo3d (.fld 4 xt3c xo3d), .mk .rdx 28 xo3e (.ld1 xt3d xo3e), .mk .pure 0 xo3f (.mov xt05 xo3f), .mk .pure 0 xo40 (.mov xt07 xo40), .mk .pure 128 xo41 (.cmp .neq xt40 (xn 0) xo41), .mk .pure 384 xo42 (.mov xt41 xo42), .mk .pure 896 xo43 (.gd .h4 .h2 false (.mov xt03 xo43) xo43), .mk .pure 1920 xo44 (.gd .h4 .h2 false (.nlc xt43 xo44) xo44), .mk .pure 3968 xo45 (.gd .h4 .h2 false (.fld 3 xt44 xo45) xo45), .mk .read 8064 xo46 (.gd .h4 .h2 false (.ld1 xt45 xo46) xo46), .mk .pure 896 xo47 (.gd .h4 .h2 false (.mov xt05 xo47) xo47), .mk .act 32640 xo48 (.gd .h4 .h2 false (.call 67 [xt46, xt47] xo48) xo48), .mk .pure 65408 xo49 (.gd .h4 .h2 false (.fi1 1 xt48 xo49) xo49), .mk .pure 130944 xo4a (.gd .h4 .h2 false (.cmp .neq xt49 (xn 0) xo4a) xo4a), .mk .pure 262016 xo4b (.pick xt42 xTT xt4a xo4b), .mk .act 524284 xo4c (.call 283 [xt3e, xt3f, xt4b] xo4c), .mk .act 1048575 xo4d (.call 207 [xt39, xt3a, xt4c] xo4d), .mk .pure 2097151 xo02 (.mov xt4d xo02)]) .ret))))) (.seq (.ops [.cmp .eql xt0f (xn 2) xo4f, .mov xt4f xo4e]) (.cnd xt4e (.drw [.mk .pure 0 xo50 (.mov xt00 xo50), .mk .pure 1 xo51 (.nlc xt50 xo51), .mk .pure 3 xo52 (.fld 1 xt51 xo52), .mk .read 7 xo53 (.ld1 xt52 xo53), .mk .pure 15 xo54 (.nlc xt53 xo54), .mk .pure 31 xo55 (.fld 4 xt54 xo55), .mk .read 63 xo56 (.ld1 xt55 xo56), .mk .pure 0 xo57 (.mov xt00 xo57), .mk .pure 128 xo58 (.nlc xt57 xo58), .mk .pure 384 xo59 (.fld 8 xt58 xo59), .mk .read 896 xo5a (.ld1 xt59 xo5a), .mk .pure 1920 xo5b (.idx 1 xt5a (xn 0) xo5b), .mk .read 3968 xo5c (.ld1 xt5b xo5c), .mk .act 8191 xo5d (.call 284 [xt56, xt5c] xo5d)]) .skip)))))) (.seq (.ops [.mov (.k .ni) xo02]) .ret)))) [.t xt02]
noncomputable def xf218 : Fn := .x 16 (.seq (.ops [.mov (.k .ni) xo02]) (.seq (.drw [.mk .pure 0 xo05 (.mov xt00 xo05), .mk .pure 1 xo06 (.nlc xt05 xo06), .mk .pure 3 xo07 (.fld 0 xt06 xo07), .mk .read 7 xo08 (.ld1 xt07 xo08), .mk .pure 15 xo09 (.nlc xt08 xo09), .mk .pure 31 xo0a (.fld 4 xt09 xo0a), .mk .read 63 xo0b (.ld1 xt0a xo0b), .mk .pure 0 xo0c (.mov xt00 xo0c), .mk .pure 128 xo0d (.nlc xt0c xo0d), .mk .pure 384 xo0e (.fld 1 xt0d xo0e), .mk .read 896 xo0f (.ld1 xt0e xo0f), .mk .pure 1920 xo10 (.nlc xt0f xo10), .mk .pure 3968 xo11 (.fld 1 xt10 xo11), .mk .read 8064 xo12 (.ld1 xt11 xo12), .mk .pure 0 xo13 (.mov xt00 xo13), .mk .pure 16384 xo14 (.nlc xt13 xo14), .mk .pure 49152 xo15 (.fld 3 xt14 xo15), .mk .read 114688 xo16 (.ld1 xt15 xo16), .mk .read 262016 xo17 (.lok (one1 z3) xt12 xt16 false xo17), .mk .pure 127 xo03 (.mov xt0b xo03), .mk .pure 1048575 xo04 (.mov xt17 xo04)]) (.seq (.seq (.ops [.mov xt00 xo18, .nlc xt18 xo19, .fld 5 xt19 xo1a, .ld1 xt1a xo1b]) (.blk 0 (.seq (.ops [.cmp .eql xt1b (xn 0) xo1d, .mov xt1d xo1c]) (.cnd xt1c (.seq (.ops [.mov xt03 xo1e, .mov xt04 xo1f, .call 116 [xt1e, xt1f] xo20, .mov xt20 xo02]) .ret) (.seq (.ops [.cmp .eql xt1b (xn 1) xo22, .mov xt22 xo21]) (.cnd xt21 (.seq (.ops [.mov xt00 xo23, .mov xt04 xo24, .mov xt03 xo25, .mov xt04 xo26, .call 285 [xt25, xt26] xo27, .call 207 [xt23, xt24, xt27] xo28, .mov xt28 xo02]) .ret) .skip)))))) (.seq (.ops [.mov xt03 xo29, .mov xt04 xo2a, .mov xt00 xo2b, .nlc xt2b xo2c, .fld 8 xt2c xo2d, .ld1 xt2d xo2e, .idx 1 xt2e (xn 0) xo2f, .ld1 xt2f xo30, .call 286 [xt29, xt2a, xt30] xo31, .mov xt31 xo02]) .ret)))) [.t xt02]
noncomputable def xf219 : Fn := .x 9 (.seq (.ops [.mov (.k .nm) xo02]) (.seq (.seq (.ops [.mov xt00 xo03, .eqv 4 true xt03 (.k .nm) xo04]) (.cnd xt04 (.seq (.ops [.mov (.k .nm) xo02]) .ret) .skip)) (.seq (.ops [.mov xt00 xo05, .mki 230 xt05 xo06, .call 287 [xt06] xo07, .nlc (.k .np) .no, .mov xt08 xo02]) .ret))) [.t xt02]
noncomputable def xf220 : Fn := .x 4 (.seq (.ops [.box 1 xt00 xo01, .mov (.k .nf) xo02]) (.seq (.ops [.mkf 288 [] [xt01] xo03, .mov xt03 xo02]) .ret)) [.t xt02]
noncomputable def xf221 : Fn := .x 16 (.seq (.ops [.mov (.k .ns) xo02]) (.seq (.seq (.ops [.mov xt00 xo06, .len 1 xt06 xo07, .cmp .lss xt07 (xn 2) xo08]) (.cnd xt08 (.seq (.ops [.mov xt00 xo09, .mov xt09 xo02]) .ret) .skip)) (.seq (.seq (.ops [.mov (xn 1) xo03]) (.blk 0 (.loop (.seq (.seq (.ops [.mov xt03 xo0a, .mov xt00 xo0b, .len 1 xt0b xo0c, .cmp .lss xt0a xt0c xo0d]) (.cnd xt0d .skip (.ex 0))) (.seq (.blk 1 (.seq (.drw [.mk .pure 0 xo10 (.mov xt00 xo10), .mk .pure 0 xo11 (.mov xt03 xo11), .mk .pure 3 xo12 (.idx 1 xt10 xt11 xo12), .mk .read 7 xo13 (.ld1 xt12 xo13), .mk .pure 0 xo14 (.mov xt00 xo14), .mk .pure 0 xo15 (.mov xt03 xo15), .mk .pure 32 xo16 (.ar .sub xt15 (xn 1) xo16), .mk .pure 112 xo17 (.idx 1 xt14 xt16 xo17), .mk .read 240 xo18 (.ld1 xt17 xo18), .mk .pure 511 xo19 (.cmp .eql xt13 xt18 xo19)]) (.cnd xt19 (.seq (.ops [.mov xt00 xo1a, .mov xt03 xo1b, .slc 1 xt1a (some xt1b) none none xo1c, .mov xt1c xo04]) (.seq (.seq (.ops [.mov (xn 1) xo05]) (.blk 2 (.loop (.seq (.seq (.ops [.mov xt05 xo1d, .mov xt04 xo1e, .len 1 xt1e xo1f, .cmp .lss xt1d xt1f xo20]) (.cnd xt20 .skip (.ex 2))) (.seq (.blk 3 (.seq (.drw [.mk .pure 0 xo23 (.mov xt04 xo23), .mk .pure 0 xo24 (.mov xt05 xo24), .mk .pure 3 xo25 (.idx 1 xt23 xt24 xo25), .mk .read 7 xo26 (.ld1 xt25 xo26), .mk .pure 0 xo27 (.mov xt04 xo27), .mk .pure 0 xo28 (.mov xt05 xo28), .mk .pure 32 xo29 (.ar .sub xt28 (xn 1) xo29), .mk .pure 112 xo2a (.idx 1 xt27 xt29 xo2a), .mk .read 240 xo2b (.ld1 xt2a xo2b), .mk .pure 511 xo2c (.cmp .neq xt26 xt2b xo2c)]) (.cnd xt2c (.seq (.ops [.mov xt00 xo2d, .mov xt03 xo2e, .mov xt04 xo2f, .mov xt05 xo30, .idx 1 xt2f xt30 xo31, .ld1 xt31 xo32, .idx 1 xt2d xt2e xo33, .sto 1 xt33 xt32]) (.ops [.mov xt03 xo34, .ar .add xt34 (xn 1) xo35, .mov xt35 xo03])) .skip))) (.ops [.mov xt05 xo21, .ar .add xt21 (xn 1) xo22, .mov xt22 xo05])))))) (.seq (.ops [.mov xt00 xo36, .mov xt03 xo37, .slc 1 xt36 (some xt37) none none xo38, .clr 1 z3 xt38 .no]) (.seq (.ops [.mov xt00 xo39, .mov xt03 xo3a, .slc 1 xt39 none (some xt3a) none xo3b, .mov xt3b xo02]) .ret)))) .skip))) (.ops [.mov xt03 xo0e, .ar .add xt0e (xn 1) xo0f, .mov xt0f xo03])))))) (.seq (.ops [.mov xt00 xo3c, .mov xt3c xo02]) .ret)))) [.t xt02]
noncomputable def xf222 : Fn := .x 5 (.seq (.ops [.mov xFF xo02]) (.seq (.ops [.mov xt00 xo03, .cmp .leq xt03 (xn 0) xo04, .mov xt04 xo02]) .ret)) [.t xt02]
noncomputable def xf227 : Fn := .x 9 (.seq (.ops [.mov xFF xo02]) (.seq (.ops [.mov xt00 xo03, .cmp .lss xt03 (.k (.i .i64 (.negSucc 16777215))) xo04, .mov xt04 xo05, .gd .h0 .h5 false (.mov xt00 xo06) xo06, .gd .h0 .h5 false (.cmp .gtr xt06 (xn 16777216) xo07) xo07, .pick xt05 xTT xt07 xo08, .mov xt08 xo02]) .ret)) [.t xt02]
noncomputable def xf228 : Fn := .x 16 (.seq (.ops [.mov xt02 xo0c, .ld1 xt03 xo0d, .ar .sub xt0c xt0d xo0e, .ld1 xt04 xo0f, .ar .mul xt0e xt0f xo10, .mov xt01 xo11, .ar .add xt10 xt11 xo12, .ld1 xt05 xo13, .ar .sub xt12 xt13 xo14, .mov xt14 xo0b]) (.seq (.ops [.ldn 4 xt06 xo15, .mov xt01 xo16, .mov xt02 xo17, .call 196 [xt15, xt16, xt17] xo18, .mov xt18 xo19, .gd .h1 .h9 true (.mov xt0b xo1a) xo1a, .gd .h1 .h9 true (.ld1 xt07 xo1b) xo1b, .gd .h1 .h9 true (.len 1 xt1b xo1c) xo1c, .gd .h1 .h9 true (.cmp .lss xt1a xt1c xo1d) xo1d, .pick xt19 xt1d xFF xo1e]) (.cnd xt1e (.drw [.mk .pure 0 xo1f (.mov xt00 xo1f), .mk .pure 0 xo20 (.mov xt00 xo20), .mk .pure 2 xo21 (.nlc xt20 xo21), .mk .read 6 xo22 (.ld1 xt21 xo22), .mk .read 0 xo23 (.ld1 xt07 xo23), .mk .pure 0 xo24 (.mov xt0b xo24), .mk .pure 48 xo25 (.idx 1 xt23 xt24 xo25), .mk .read 112 xo26 (.ld1 xt25 xo26), .mk .act 254 xo27 (.call 229 [xt22, xt26] xo27), .mk .pure 511 xo28 (.nlc xt1f xo28), .mk .act 1023 .no (.sto 1 xt28 xt27)]) .skip))) []
noncomputable def xf229 : Fn := .x 16 (.seq (.ops [.mov (.k (.i .u32 (.ofNat 0))) xo04]) (.seq (.ops [.mov xt00 xo09, .call 291 [xt09] xo0a, .mov xt01 xo0b, .call 291 [xt0b] xo0c, .alc 4 z402 xo05, .alc 4 z402 xo06, .sto 4 xt05 xt0a, .sto 4 xt06 xt0c]) (.seq (.ops [.alc 4 z402 xo07]) (.seq (.seq (.ops [.mov (xn 0) xo0d]) (.blk 0 (.loop (.seq (.ops [.cmp .lss xt0d (xn 4) xo0e]) (.seq (.cnd xt0e .skip (.ex 0)) (.seq (.blk 1 (.seq (.ops [.mov xt0d xo0f, .mov xt0f xo08]) (.drw [.mk .pure 0 xo10 (.mov xt08 xo10), .mk .pure 0 xo11 (.mov xt08 xo11), .mk .pure 2 xo12 (.ixa 1 4 xt06 xt11 xo12), .mk .rdx 6 xo13 (.ld1 xt12 xo13), .mk .pure 0 xo14 (.mov xt08 xo14), .mk .pure 16 xo15 (.ixa 1 4 xt05 xt14 xo15), .mk .read 48 xo16 (.ld1 xt15 xo16), .mk .pure 0 xo17 (.ixa 1 4 xt06 (xn 0) xo17), .mk .read 128 xo18 (.ld1 xt17 xo18), .mk .pure 384 xo19 (.ar .sub (xn 255) xt18 xo19), .mk .act 1008 xo1a (.call 292 [xt16, xt19] xo1a), .mk .pure 2046 xo1b (.ar .add xt13 xt1a xo1b), .mk .pure 4095 xo1c (.ixa 1 4 xt07 xt10 xo1c), .mk .act 8191 .no (.sto 1 xt1c xt1b)]))) (.ops [.ar .add xt0d (xn 1) xo1d, .mov xt1d xo0d]))))))) (.seq (.ops [.ldn 4 xt07 xo1e, .call 293 [xt1e] xo1f, .mov xt1f xo04]) .ret))))) [.t xt04]
noncomputable def xf230 : Fn := .x 16 (.seq (.ops [.mov (.k .ni) xo0c]) (.seq (.blk 0 (.seq (.ops [.mov xt05 xo0e, .cmp .neq xt0e (xn 0) xo0f, .mov xt0f xo10, .gd .h1 .h0 true (.mov xt05 xo11) xo11, .gd .h1 .h0 true (.cmp .neq xt11 (xn 1) xo12) xo12, .pick xt10 xt12 xFF xo13, .mov xt13 xo0d]) (.cnd xt0d (.seq (.ops [.ld1 (.k (.p 8 0)) xo14, .mov xt14 xo0c]) .ret) (.seq (.ops [.mov xt02 xo16, .cmp .lss xt16 (xn 1) xo17, .mov xt17 xo18, .gd .h1 .h8 false (.mov xt03 xo19) xo19, .gd .h1 .h8 false (.cmp .lss xt19 (xn 1) xo1a) xo1a, .pick xt18 xTT xt1a xo1b, .mov xt1b xo1c, .gd .h1 .hc false (.mov xt01 xo1d) xo1d, .gd .h1 .hc false (.cmp .lss xt1d (xn 0) xo1e) xo1e, .pick xt1c xTT xt1e xo1f, .mov xt1f xo20, .gd .h2 .h0 false (.mov xt04 xo21) xo21, .gd .h2 .h0 false (.cmp .lss xt21 (xn 1) xo22) xo22, .pick xt20 xTT xt22 xo23, .mov xt23 xo24, .gd .h2 .h4 false (.mov xt02 xo25) xo25, .gd .h2 .h4 false (.mov xt04 xo26) xo26, .gd .h2 .h4 false (.ar .quo xt26 (xn 4) xo27) xo27, .gd .h2 .h4 false (.cmp .gtr xt25 xt27 xo28) xo28, .pick xt24 xTT xt28 xo29, .mov xt29 xo2a, .gd .h2 .ha false (.mov xt00 xo2b) xo2b, .gd .h2 .ha false (.mov xt01 xo2c) xo2c, .gd .h2 .ha false (.cmp .lss xt2b xt2c xo2d) xo2d, .pick xt2a xTT xt2d xo2e, .mov xt2e xo2f, .gd .h2 .hf false (.mov xt03 xo30) xo30, .gd .h2 .hf false (.mov xt00 xo31) xo31, .gd .h2 .hf false (.mov xt01 xo32) xo32, .gd .h2 .hf false (.ar .sub xt31 xt32 xo33) xo33, .gd .h2 .hf false (.mov xt04 xo34) xo34, .gd .h2 .hf false (.ar .quo xt33 xt34 xo35) xo35, .gd .h2 .hf false (.cmp .gtr xt30 xt35 xo36) xo36, .pick xt2f xTT xt36 xo37, .mov xt37 xo15]) (.cnd xt15 (.seq (.ops [.ld1 (.k (.p 9 0)) xo38, .mov xt38 xo0c]) .ret) .skip))))) (.seq (.ops [.mov (.k .ni) xo0c]) .ret))) [.t xt0c]
noncomputable def xf231 : Fn := .x 13 (.seq (.ops [.mov (.k (.i .u32 (.ofNat 0))) xo04]) (.seq (.seq (.ops [.mov xt01 xo05]) (.blk 0 (.seq (.ops [.cmp .eql xt05 (xn 0) xo07, .mov xt07 xo06]) (.cnd xt06 (.seq (.ops [.mov xt00 xo08, .mov xt08 xo04]) .ret) (.seq (.ops [.cmp .eql xt05 (xn 1) xo0a, .mov xt0a xo09]) (.cnd xt09 (.seq (.ops [.mov xt00 xo0b, .ar .lor xt0b (.k (.i .u32 (.ofNat 4278190080))) xo0c, .mov xt0c xo04]) .ret) .skip)))))) (.seq (.ops [.mov (.k (.i .u32 (.ofNat 0))) xo04]) .ret))) [.t xt04]
noncomputable def xf232 : Fn := .x 16 (.seq (.ops [.mov (.k (.i .u32 (.ofNat 0))) xo06]) (.seq (.ops [.mov xt00 xo0b, .nlc xt0b xo0c, .fld 0 xt0c xo0d, .ld1 xt0d xo0e, .mov xt01 xo0f, .lok (one1 z60) xt0e xt0f false xo10, .mov xt10 xo07]) (.seq (.ops [.mov (.k (.i .u32 (.ofNat 0))) xo08]) (.seq (.seq (.ops [.mov (xn 0) xo11]) (.blk 0 (.loop (.seq (.ops [.cmp .lss xt11 (xn 4) xo12]) (.seq (.cnd xt12 .skip (.ex 0)) (.seq (.blk 1 (.seq (.ops [.mov xt11 xo13, .mov xt13 xo09]) (.seq (.ops [.mov xt02 xo14, .mov xt09 xo15, .ar .add xt14 xt15 xo16, .mov xt16 xo0a]) (.seq (.ops [.mov xt0a xo17, .cmp .geq xt17 (xn 0) xo18, .mov xt18 xo19, .gd .h1 .h9 true (.mov xt0a xo1a) xo1a, .gd .h1 .h9 true (.mov xt07 xo1b) xo1b, .gd .h1 .h9 true (.len 1 xt1b xo1c) xo1c, .gd .h1 .h9 true (.cmp .lss xt1a xt1c xo1d) xo1d, .pick xt19 xt1d xFF xo1e]) (.cnd xt1e (.ops [.mov xt08 xo1f, .mov xt07 xo20, .mov xt0a xo21, .idx 1 xt20 xt21 xo22, .ld1 xt22 xo23, .cnv .u32 xt23 xo24, .mov xt09 xo25, .ar .mul (xn 8) xt25 xo26, .ar .shl xt24 xt26 xo27, .ar .lor xt1f xt27 xo28, .mov xt28 xo08]) .skip))))) (.ops [.ar .add xt11 (xn 1) xo29, .mov xt29 xo11]))))))) (.seq (.ops [.mov xt08 xo2a, .mov xt2a xo06]) .ret))))) [.t xt06]
noncomputable def xf233 : Fn := .x 8 (.seq (.ops [.mov (.k (.i .i32 (.ofNat 0))) xo02]) (.seq (.ops [.mov xt00 xo03, .mnx true xt03 (xn 8388607) xo04, .mnx false (.k (.i .i64 (.negSucc 8388607))) xt04 xo05, .ar .mul xt05 (xn 256) xo06, .cnv .i32 xt06 xo07, .mov xt07 xo02]) .ret)) [.t xt02]
noncomputable def xf234 : Fn := .x 4 (.seq (.ops [.box 1 xt00 xo01, .mov (.k .nf) xo02]) (.seq (.ops [.mkf 294 [] [xt01] xo03, .mov xt03 xo02]) .ret)) [.t xt02]
noncomputable def xf235 : Fn := .x 15 (.seq (.ops [.box 7 xt00 xo03, .box 1 xt01 xo04, .box 1 xt02 xo05, .mov xFF xo06]) (.seq (.ops [.fld 5 xt03 xo07, .ld1 xt07 xo08, .mov xt08 xo09, .gd .h0 .h9 false (.fld 6 xt03 xo0a) xo0a, .gd .h0 .h9 false (.ld1 xt0a xo0b) xo0b, .gd .h0 .h9 false (.mkf 295 [] [xt04, xt05] xo0c) xo0c, .gd .h0 .h9 false (.call 194 [xt0b, xt0c] xo0d) xo0d, .pick xt09 xTT xt0d xo0e, .mov xt0e xo06]) .ret)) [.t xt06]
noncomputable def xf237 : Fn := .x 16 (.seq (.ops [.mov (xn 0) xo04]) (.seq (.seq (.ops [.mov xt00 xo06, .len 1 xt06 xo07, .mov (xn 0) xo08]) (.blk 0 (.loop (.seq (.ops [.cmp .lss xt08 xt07 xo09]) (.seq (.cnd xt09 .skip (.ex 0)) (.seq (.blk 1 (.seq (.ops [.mov xt08 xo0a, .mov xt0a xo05]) (.seq (.ops [.mov xt01 xo0b, .mov xt00 xo0c, .mov xt05 xo0d, .idx 1 xt0c xt0d xo0e, .ld1 xt0e xo0f, .cald xt0b [xt0f] xo10]) (.cnd xt10 (.seq (.ops [.mov xt05 xo11, .mov xt11 xo04]) .ret) .skip)))) (.ops [.ar .add xt08 (xn 1) xo12, .mov xt12 xo08]))))))) (.seq (.ops [.mov (.k (.i .i64 (.negSucc 0))) xo04]) .ret))) [.t xt04]
noncomputable def xf238 : Fn := .x 4 (.seq (.ops [.box 1 xt00 xo01, .mov (.k .nf) xo02]) (.seq (.ops [.mkf 296 [] [xt01] xo03, .mov xt03 xo02]) .ret)) [.t xt02]
noncomputable def xf239 : Fn := .x 16 (.seq (.ops [.alc 54 z356 xo00]) (.seq (.ops [.bld 3 z321 [(2, 1, xTT)] xo02, .alc 3 z321 xo01, .sto 3 xt01 xt02]) (.seq (.ops [.bld 3 z321 [(0, 1, (.k (.str [110]))), (1, 1, (xn 3))] xo03, .bld 3 z321 [(0, 1, (.k (.str [110]))), (1, 1, (xn 2))] xo04, .bls 3 2 (repL 2 z321) [(0, 3, xt03), (3, 3, xt04)] xo05, .bls 1 2 (repL 2 z9) [(0, 1, (.k (.str [111, 117, 115]))), (1, 1, (.k (.str [117])))] xo06, .bld 3 z289 [(0, 1, (.k (.str [119, 108, 95, 100, 105, 115, 112, 108, 97, 121]))), (1, 1, xt05), (2, 1, xt06)] xo07, .bld 3 z321 [(0, 1, (.k (.str [117, 115, 117, 110]))), (1, 1, (xn 0))] xo08, .bls 3 1 (repL 1 z321) [(0, 3, xt08)] xo09, .bls 1 1 (repL 1 z9) [(0, 1, (.k (.str [117, 115, 117])))] xo0a, .bld 3 z289 [(0, 1, (.k (.str [119, 108, 95, 114, 101, 103, 105, 115, 116, 114, 121]))), (1, 1, xt09), (2, 1, xt0a)] xo0b, .bls 1 1 (repL 1 z9) [(0, 1, (.k (.str [117])))] xo0c, .bld 3 z289 [(0, 1, (.k (.str [119, 108, 95, 99, 97, 108, 108, 98, 97, 99, 107]))), (1, 1, (.k .ns)), (2, 1, xt0c)] xo0d, .bld 3 z321 [(0, 1, (.k (.str [110]))), (1, 1, (xn 8))] xo0e, .bld 3 z321 [(0, 1, (.k (.str [110]))), (1, 1, (xn 9))] xo0f, .bls 3 2 (repL 2 z321) [(0, 3, xt0e), (3, 3, xt0f)] xo10, .bld 3 z289 [(0, 1, (.k (.str [119, 108, 95, 99, 111, 109, 112, 111, 115, 105, 116, 111, 114]))), (1, 1, xt10), (2, 1, (.k .ns))] xo11, .bld 3 z321 [(0, 1, (.k (.str [110, 117, 105]))), (1, 1, (xn 6))] xo12, .bls 3 1 (repL 1 z321) [(0, 3, xt12)] xo13, .bls 1 1 (repL 1 z9) [(0, 1, (.k (.str [117])))] xo14, .bld 3 z289 [(0, 1, (.k (.str [119, 108, 95, 115, 104, 109]))), (1, 1, xt13), (2, 1, xt14)] xo15, .bld 3 z321 [(0, 1, (.k (.str [110, 105, 105, 105, 105, 117]))), (1, 1, (xn 7))] xo16, .ldn 3 xt01 xo17, .bld 3 z321 [(0, 1, (.k (.str [105])))] xo18, .bls 3 3 (repL 3 z321) [(0, 3, xt16), (3, 3, xt17), (6, 3, xt18)] xo19, .bld 3 z289 [(0, 1, (.k (.str [119, 108, 95, 115, 104, 109, 95, 112, 111, 111, 108]))), (1, 1, xt19), (2, 1, (.k .ns))] xo1a, .ldn 3 xt01 xo1b, .bls 3 1 (repL 1 z321) [(0, 3, xt1b)] xo1c, .bls 1 1 (repL 1 z9) [(0, 1, (.k (.str [])))] xo1d, .bld 3 z289 [(0, 1, (.k (.str [119, 108, 95, 98, 117, 102, 102, 101, 114]))), (1, 1, xt1c), (2, 1, xt1d)] xo1e, .ldn 3 xt01 xo1f, .bld 3 z321 [(0, 1, (.k (.str [111, 105, 105])))] xo20, .bld 3 z321 [(0, 1, (.k (.str [105, 105, 105, 105])))] xo21, .bld 3 z321 [(0, 1, (.k (.str [110]))), (1, 1, (xn 3))] xo22, .bld 3 z321 [(0, 1, (.k (.str [111])))] xo23, .bld 3 z321 [] xo24, .bls 3 6 (repL 6 z321) [(0, 3, xt1f), (3, 3, xt20), (6, 3, xt21), (9, 3, xt22), (12, 3, xt23), (15, 3, xt24)] xo25, .bld 3 z289 [(0, 1, (.k (.str [119, 108, 95, 115, 117, 114, 102, 97, 99, 101]))), (1, 1, xt25), (2, 1, (.k .ns))] xo26, .ldn 3 xt01 xo27, .bld 3 z321 [(0, 1, (.k (.str [105, 105, 105, 105])))] xo28, .bld 3 z321 [(0, 1, (.k (.str [105, 105, 105, 105])))] xo29, .bls 3 3 (repL 3 z321) [(0, 3, xt27), (3, 3, xt28), (6, 3, xt29)] xo2a, .bld 3 z289 [(0, 1, (.k (.str [119, 108, 95, 114, 101, 103, 105, 111, 110]))), (1, 1, xt2a), (2, 1, (.k .ns))] xo2b, .ldn 3 xt01 xo2c, .bld 3 z321 [(0, 1, (.k (.str [110, 111, 111]))), (1, 1, (xn 11))] xo2d, .bls 3 2 (repL 2 z321) [(0, 3, xt2c), (3, 3, xt2d)] xo2e, .bld 3 z289 [(0, 1, (.k (.str [119, 108, 95, 115, 117, 98, 99, 111, 109, 112, 111, 115, 105, 116, 111, 114]))), (1, 1, xt2e), (2, 1, (.k .ns))] xo2f, .ldn 3 xt01 xo30, .bld 3 z321 [(0, 1, (.k (.str [105, 105])))] xo31, .bld 3 z321 [(0, 1, (.k (.str [111])))] xo32, .bld 3 z321 [(0, 1, (.k (.str [111])))] xo33, .bld 3 z321 [] xo34, .bld 3 z321 [] xo35, .bls 3 6 (repL 6 z321) [(0, 3, xt30), (3, 3, xt31), (6, 3, xt32), (9, 3, xt33), (12, 3, xt34), (15, 3, xt35)] xo36, .bld 3 z289 [(0, 1, (.k (.str [119, 108, 95, 115, 117, 98, 115, 117, 114, 102, 97, 99, 101]))), (1, 1, xt36), (2, 1, (.k .ns))] xo37, .bld 3 z321 [(0, 1, (.k (.str [110]))), (1, 1, (xn 13))] xo38, .bld 3 z321 [(0, 1, (.k (.str [110]))), (1, 1, (xn 14))] xo39, .bls 3 2 (repL 2 z321) [(0, 3, xt38), (3, 3, xt39)] xo3a, .bls 1 1 (repL 1 z9) [(0, 1, (.k (.str [117])))] xo3b, .bld 3 z289 [(0, 1, (.k (.str [119, 108, 95, 115, 101, 97, 116]))), (1, 1, xt3a), (2, 1, xt3b)] xo3c, .ldn 3 xt01 xo3d, .bls 3 1 (repL 1 z321) [(0, 3, xt3d)] xo3e, .bls 1 4 (repL 4 z9) [(0, 1, (.k (.str [117, 111, 102, 102]))), (1, 1, (.k (.str [117, 111]))), (2, 1, (.k (.str [117, 102, 102]))), (3, 1, (.k (.str [117, 117, 117, 117])))] xo3f, .bld 3 z289 [(0, 1, (.k (.str [119, 108, 95, 112, 111, 105, 110, 116, 101, 114]))), (1, 1, xt3e), (2, 1, xt3f)] xo40, .ldn 3 xt01 xo41, .bls 3 1 (repL 1 z321) [(0, 3, xt41)] xo42, .bls 1 3 (repL 3 z9) [(0, 1, (.k (.str [117, 111]))), (1, 1, (.k (.str [117, 111]))), (2, 1, (.k (.str [117, 117, 117, 117])))] xo43, .bld 3 z289 [(0, 1, (.k (.str [119, 108, 95, 107, 101, 121, 98, 111, 97, 114, 100]))), (1, 1, xt42), (2, 1, xt43)] xo44, .ldn 3 xt01 xo45, .bld 3 z321 [(0, 1, (.k (.str [110, 111]))), (1, 1, (xn 16))] xo46, .bld 3 z321 [(0, 1, (.k (.str [117])))] xo47, .bls 3 3 (repL 3 z321) [(0, 3, xt45), (3, 3, xt46), (6, 3, xt47)] xo48, .bls 1 1 (repL 1 z9) [(0, 1, (.k (.str [117])))] xo49, .bld 3 z289 [(0, 1, (.k (.str [120, 100, 103, 95, 119, 109, 95, 98, 97, 115, 101]))), (1, 1, xt48), (2, 1, xt49)] xo4a, .ldn 3 xt01 xo4b, .bld 3 z321 [(0, 1, (.k (.str [110]))), (1, 1, (xn 17))] xo4c, .bld 3 z321 [(0, 1, (.k (.str [117])))] xo4d, .bls 3 3 (repL 3 z321) [(0, 3, xt4b), (3, 3, xt4c), (6, 3, xt4d)] xo4e, .bls 1 1 (repL 1 z9) [(0, 1, (.k (.str [117])))] xo4f, .bld 3 z289 [(0, 1, (.k (.str [120, 100, 103, 95, 115, 117, 114, 102, 97, 99, 101]))), (1, 1, xt4e), (2, 1, xt4f)] xo50, .ldn 3 xt01 xo51, .bld 3 z321 [(0, 1, (.k (.str [115])))] xo52, .bls 3 2 (repL 2 z321) [(0, 3, xt51), (3, 3, xt52)] xo53, .bls 1 2 (repL 2 z9) [(0, 1, (.k (.str [105, 105]))), (1, 1, (.k (.str [])))] xo54, .bld 3 z289 [(0, 1, (.k (.str [120, 100, 103, 95, 116, 111, 112, 108, 101, 118, 101, 108]))), (1, 1, xt53), (2, 1, xt54)] xo55, .bld 54 z356 [(3, 3, xt07), (6, 3, xt0b), (9, 3, xt0d), (12, 3, xt11), (15, 3, xt15), (18, 3, xt1a), (21, 3, xt1e), (24, 3, xt26), (27, 3, xt2b), (30, 3, xt2f), (33, 3, xt37), (36, 3, xt3c), (39, 3, xt40), (42, 3, xt44), (45, 3, xt4a), (48, 3, xt50), (51, 3, xt55)] xo56, .sto 54 xt00 xt56]) .ret))) [.cn 54 xt00]
noncomputable def xf240 : Fn := .x 16 (.seq (.ops [.box 3 xt00 xo01, .mov xFF xo02]) (.seq (.seq (.ops [.fld 0 xt01 xo03, .ld1 xt03 xo04]) (.blk 0 (.seq (.blk 7 (.seq (.blk 6 (.seq (.blk 5 (.seq (.blk 4 (.blk 3 (.seq (.blk 2 (.blk 1 (.seq (.seq (.seq (.ops [.cmp .eql xt04 (.k (.i .u8 (.ofNat 105))) xo06, .mov xt06 xo05]) (.cnd xt05 (.ex 1) .skip)) (.seq (.seq (.ops [.cmp .eql xt04 (.k (.i .u8 (.ofNat 102))) xo08, .mov xt08 xo07]) (.cnd xt07 (.ex 2) .skip)) (.seq (.seq (.ops [.cmp .eql xt04 (.k (.i .u8 (.ofNat 117))) xo0a, .mov xt0a xo09]) (.cnd xt09 (.ex 3) .skip)) (.seq (.seq (.ops [.cmp .eql xt04 (.k (.i .u8 (.ofNat 111))) xo0c, .mov xt0c xo0b]) (.cnd xt0b (.ex 4) .skip)) (.seq (.seq (.ops [.cmp .eql xt04 (.k (.i .u8 (.ofNat 110))) xo0e, .mov xt0e xo0d]) (.cnd xt0d (.ex 5) .skip)) (.seq (.seq (.ops [.cmp .eql xt04 (.k (.i .u8 (.ofNat 115))) xo10, .mov xt10 xo0f]) (.cnd xt0f (.ex 6) .skip)) (.seq (.ops [.cmp .eql xt04 (.k (.i .u8 (.ofNat 97))) xo12, .mov xt12 xo11]) (.cnd xt11 (.ex 7) .skip)))))))) (.ex 0)))) (.seq (.seq (.ops [.fld 2 xt01 xo13, .ld1 xt13 xo14, .eqv 1 true xt14 (.k (.str [])) xo15, .mov xt15 xo16, .gd .h1 .h6 true (.fld 1 xt01 xo17) xo17, .gd .h1 .h6 true (.ld1 xt17 xo18) xo18, .gd .h1 .h6 true (.cmp .geq xt18 (.k (.i .i64 (.negSucc 2147483647))) xo19) xo19, .pick xt16 xt19 xFF xo1a, .mov xt1a xo1b, .gd .h1 .hb true (.fld 1 xt01 xo1c) xo1c, .gd .h1 .hb true (.ld1 xt1c xo1d) xo1d, .gd .h1 .hb true (.cmp .leq xt1d (xn 2147483647) xo1e) xo1e, .pick xt1b xt1e xFF xo1f, .mov xt1f xo02]) .ret) (.ex 0))))) (.seq (.seq (.ops [.fld 2 xt01 xo20, .ld1 xt20 xo21, .eqv 1 true xt21 (.k (.str [])) xo22, .mov xt22 xo23, .gd .h2 .h3 true (.fld 1 xt01 xo24) xo24, .gd .h2 .h3 true (.ld1 xt24 xo25) xo25, .gd .h2 .h3 true (.cmp .geq xt25 (xn 0) xo26) xo26, .pick xt23 xt26 xFF xo27, .mov xt27 xo28, .gd .h2 .h8 true (.fld 1 xt01 xo29) xo29, .gd .h2 .h8 true (.ld1 xt29 xo2a) xo2a, .gd .h2 .h8 true (.cmp .leq xt2a (xn 4294967295) xo2b) xo2b, .pick xt28 xt2b xFF xo2c, .mov xt2c xo02]) .ret) (.ex 0)))) (.seq (.seq (.ops [.fld 2 xt01 xo2d, .ld1 xt2d xo2e, .eqv 1 true xt2e (.k (.str [])) xo2f, .mov xt2f xo30, .gd .h3 .h0 true (.fld 1 xt01 xo31) xo31, .gd .h3 .h0 true (.ld1 xt31 xo32) xo32, .gd .h3 .h0 true (.cmp .geq xt32 (xn 1) xo33) xo33, .pick xt30 xt33 xFF xo34, .mov xt34 xo35, .gd .h3 .h5 true (.fld 1 xt01 xo36) xo36, .gd .h3 .h5 true (.ld1 xt36 xo37) xo37, .gd .h3 .h5 true (.cmp .leq xt37 (xn 4294967295) xo38) xo38, .pick xt35 xt38 xFF xo39, .mov xt39 xo02]) .ret) (.ex 0)))) (.seq (.seq (.ops [.fld 1 xt01 xo3a, .ld1 xt3a xo3b, .cmp .eql xt3b (xn 0) xo3c, .mov xt3c xo3d, .gd .h3 .hd true (.fld 2 xt01 xo3e) xo3e, .gd .h3 .hd true (.ld1 xt3e xo3f) xo3f, .gd .h3 .hd true (.len 0 xt3f xo40) xo40, .gd .h3 .hd true (.cmp .leq xt40 (xn 200) xo41) xo41, .pick xt3d xt41 xFF xo42, .mov xt42 xo43, .gd .h4 .h3 true (.fld 2 xt01 xo44) xo44, .gd .h4 .h3 true (.ld1 xt44 xo45) xo45, .gd .h4 .h3 true (.call 297 [xt45, (.k (.i .u8 (.ofNat 0)))] xo46) xo46, .gd .h4 .h3 true (.cmp .lss xt46 (xn 0) xo47) xo47, .pick xt43 xt47 xFF xo48, .mov xt48 xo02]) .ret) (.ex 0)))) (.seq (.seq (.ops [.fld 1 xt01 xo49, .ld1 xt49 xo4a, .cmp .eql xt4a (xn 0) xo4b, .mov xt4b xo4c, .gd .h4 .hc true (.fld 2 xt01 xo4d) xo4d, .gd .h4 .hc true (.ld1 xt4d xo4e) xo4e, .gd .h4 .hc true (.len 0 xt4e xo4f) xo4f, .gd .h4 .hc true (.cmp .leq xt4f (xn 200) xo50) xo50, .pick xt4c xt50 xFF xo51, .mov xt51 xo02]) .ret) (.ex 0))))) (.seq (.ops [.mov xFF xo02]) .ret))) [.t xt02]
noncomputable def xf241 : Fn := .x 16 (.seq (.ops [.mov (.k .ns) xo04]) (.seq (.ops [.mov xt00 xo05, .mov xt01 xo06, .len 0 xt06 xo07, .cnv .u32 xt07 xo08, .call 175 [xt05, xt08] xo09, .mov xt01 xo0a, .aps xt09 xt0a xo0b, .mov xt0b xo00]) (.seq (.seq (.ops [.mov xt01 xo0c, .len 0 xt0c xo0d, .call 298 [xt0d] xo0e, .mov xt01 xo0f, .len 0 xt0f xo10, .ar .sub xt0e xt10 xo11, .mov (xn 0) xo12]) (.blk 0 (.loop (.seq (.ops [.cmp .lss xt12 xt11 xo13]) (.seq (.cnd xt13 .skip (.ex 0)) (.seq (.blk 1 (.ops [.mov xt00 xo14, .bls 1 1 (repL 1 z5) [(0, 1, (.k (.i .u8 (.ofNat 0))))] xo15, .app 1 xt14 xt15 xo16, .mov xt16 xo00])) (.ops [.ar .add xt12 (xn 1) xo17, .mov xt17 xo12]))))))) (.seq (.ops [.mov xt00 xo18, .mov xt18 xo04]) .ret)))) [.t xt04]
noncomputable def xf243 : Fn := .x 16 (.seq (.ops [.mov xt01 xo08, .ar .add xt08 (xn 1) xo09, .mov xt09 xo06]) (.blk 0 (.loop (.seq (.seq (.ops [.mov xt06 xo0a, .mov xt02 xo0b, .cmp .lss xt0a xt0b xo0c]) (.cnd xt0c .skip (.ex 0))) (.seq (.blk 1 (.seq (.ops [.mov xt06 xo0f, .mov xt0f xo07]) (.blk 2 (.loop (.seq (.seq (.drw [.mk .pure 0 xo10 (.mov xt07 xo10), .mk .pure 0 xo11 (.mov xt01 xo11), .mk .pure 3 xo12 (.cmp .gtr xt10 xt11 xo12), .mk .pure 7 xo13 (.mov xt12 xo13), .mk .pure 15 xo14 (.gd .h1 .h3 true (.mov xt00 xo14) xo14), .mk .pure 15 xo15 (.gd .h1 .h3 true (.mov xt07 xo15) xo15), .mk .pure 63 xo16 (.gd .h1 .h3 true (.idx 1 xt14 xt15 xo16) xo16), .mk .read 127 xo17 (.gd .h1 .h3 true (.ld1 xt16 xo17) xo17), .mk .pure 15 xo18 (.gd .h1 .h3 true (.mov xt00 xo18) xo18), .mk .pure 15 xo19 (.gd .h1 .h3 true (.mov xt07 xo19) xo19), .mk .pure 527 xo1a (.gd .h1 .h3 true (.ar .sub xt19 (xn 1) xo1a) xo1a), .mk .pure 1807 xo1b (.gd .h1 .h3 true (.idx 1 xt18 xt1a xo1b) xo1b), .mk .read 3855 xo1c (.gd .h1 .h3 true (.ld1 xt1b xo1c) xo1c), .mk .act 8191 xo1d (.gd .h1 .h3 true (.call 249 [xt17, xt1c] xo1d) xo1d), .mk .pure 16383 xo1e (.pick xt13 xt1d xFF xo1e)]) (.cnd xt1e .skip (.ex 2))) (.seq (.blk 3 (.drw [.mk .pure 0 xo21 (.mov xt00 xo21), .mk .pure 0 xo22 (.mov xt07 xo22), .mk .pure 0 xo23 (.mov xt00 xo23), .mk .pure 0 xo24 (.mov xt07 xo24), .mk .pure 8 xo25 (.ar .sub xt24 (xn 1) xo25), .mk .pure 0 xo26 (.mov xt00 xo26), .mk .pure 0 xo27 (.mov xt07 xo27), .mk .pure 64 xo28 (.ar .sub xt27 (xn 1) xo28), .mk .pure 224 xo29 (.idx 1 xt26 xt28 xo29), .mk .read 480 xo2a (.ld1 xt29 xo2a), .mk .pure 0 xo2b (.mov xt00 xo2b), .mk .pure 0 xo2c (.mov xt07 xo2c), .mk .pure 3072 xo2d (.idx 1 xt2b xt2c xo2d), .mk .read 7168 xo2e (.ld1 xt2d xo2e), .mk .pure 16355 xo2f (.idx 1 xt21 xt22 xo2f), .mk .act 32739 .no (.sto 1 xt2f xt2a), .mk .pure 65535 xo30 (.idx 1 xt23 xt25 xo30), .mk .act 131071 .no (.sto 1 xt30 xt2e)])) (.ops [.mov xt07 xo1f, .ar .sub xt1f (xn 1) xo20, .mov xt20 xo07]))))))) (.ops [.mov xt06 xo0d, .ar .add xt0d (xn 1) xo0e, .mov xt0e xo06])))))) []
noncomputable def xf249 : Fn := .x 16 (.seq (.ops [.mov xFF xo04]) (.seq (.ops [.mov xt00 xo05, .call 308 [xt05] xo06, .mov xt06 xo07, .gd .h0 .h7 true (.mov xt01 xo08) xo08, .gd .h0 .h7 true (.call 308 [xt08] xo09) xo09, .gd .h0 .h7 true (.not xt09 xo0a) xo0a, .pick xt07 xt0a xFF xo0b, .mov xt0b xo0c, .gd .h0 .hc false (.mov xt00 xo0d) xo0d, .gd .h0 .hc false (.mov xt01 xo0e) xo0e, .gd .h0 .hc false (.cmp .lss xt0d xt0e xo0f) xo0f, .pick xt0c xTT xt0f xo10, .mov xt10 xo04]) .ret)) [.t xt04]
noncomputable def xf253 : Fn := .x 16 (.seq (.ops [.mov (xn 0) xo02]) (.seq (.seq (.ops [.mov xt00 xo03, .cmp .geq xt03 (.k (.i .u64 (.ofNat 4294967296))) xo04]) (.cnd xt04 (.seq (.ops [.mov xt00 xo05, .ar .shr xt05 (.k (.i .u64 (.ofNat 32))) xo06, .mov xt06 xo00]) (.ops [.mov (xn 32) xo02])) .skip)) (.seq (.seq (.ops [.mov xt00 xo07, .cmp .geq xt07 (.k (.i .u64 (.ofNat 65536))) xo08]) (.cnd xt08 (.seq (.ops [.mov xt00 xo09, .ar .shr xt09 (.k (.i .u64 (.ofNat 16))) xo0a, .mov xt0a xo00]) (.ops [.mov xt02 xo0b, .ar .add xt0b (xn 16) xo0c, .mov xt0c xo02])) .skip)) (.seq (.seq (.ops [.mov xt00 xo0d, .cmp .geq xt0d (.k (.i .u64 (.ofNat 256))) xo0e]) (.cnd xt0e (.seq (.ops [.mov xt00 xo0f, .ar .shr xt0f (.k (.i .u64 (.ofNat 8))) xo10, .mov xt10 xo00]) (.ops [.mov xt02 xo11, .ar .add xt11 (xn 8) xo12, .mov xt12 xo02])) .skip)) (.seq (.ops [.mov xt02 xo13, .mov xt00 xo14, .cnv .u8 xt14 xo15, .ins (.k (.str [0, 1, 2, 2, 3, 3, 3, 3, 4, 4, 4, 4, 4, 4, 4, 4, 5, 5, 5, 5, 5, 5, 5, 5, 5, 5, 5, 5, 5, 5, 5, 5, 6, 6, 6, 6, 6, 6, 6, 6, 6, 6, 6, 6, 6, 6, 6, 6, 6, 6, 6, 6, 6, 6, 6, 6, 6, 6, 6, 6, 6, 6, 6, 6, 7, 7, 7, 7, 7, 7, 7, 7, 7, 7, 7, 7, 7, 7, 7, 7, 7, 7, 7, 7, 7, 7, 7, 7, 7, 7, 7, 7, 7, 7, 7, 7, 7, 7, 7, 7, 7, 7, 7, 7, 7, 7, 7, 7, 7, 7, 7, 7, 7, 7, 7, 7, 7, 7, 7, 7, 7, 7, 7, 7, 7, 7, 7, 7, 8, 8, 8, 8, 8, 8, 8, 8, 8, 8, 8, 8, 8, 8, 8, 8, 8, 8, 8, 8, 8, 8, 8, 8, 8, 8, 8, 8, 8, 8, 8, 8, 8, 8, 8, 8, 8, 8, 8, 8, 8, 8, 8, 8, 8, 8, 8, 8, 8, 8, 8, 8, 8, 8, 8, 8, 8, 8, 8, 8, 8, 8, 8, 8, 8, 8, 8, 8, 8, 8, 8, 8, 8, 8, 8, 8, 8, 8, 8, 8, 8, 8, 8, 8, 8, 8, 8, 8, 8, 8, 8, 8, 8, 8, 8, 8, 8, 8, 8, 8, 8, 8, 8, 8, 8, 8, 8, 8, 8, 8, 8, 8, 8, 8, 8, 8, 8, 8, 8, 8, 8, 8, 8, 8, 8, 8, 8, 8])) xt15 xo16, .cnv .i64 xt16 xo17, .ar .add xt13 xt17 xo18, .mov xt18 xo02]) .ret))))) [.t xt02]
noncomputable def xf254 : Fn := .x 16 (.seq (.ops [.box 10 xt00 xo02, .box 10 xt01 xo03, .alc 10 z147 xo04]) (.seq (.drf [.mk .pure 0 xo06 (.fld 0 xt02 xo06), .mk .rdx 1 xo07 (.ld1 xt06 xo07), .mk .pure 0 xo08 (.fld 1 xt02 xo08), .mk .rdx 4 xo09 (.ld1 xt08 xo09), .mk .pure 0 xo0a (.fld 2 xt02 xo0a), .mk .read 16 xo0b (.ld1 xt0a xo0b), .mk .pure 0 xo0c (.fld 2 xt03 xo0c), .mk .read 64 xo0d (.ld1 xt0c xo0d), .mk .act 240 xo0e (.bls 1 2 (repL 2 z145) [(0, 1, xt0b), (1, 1, xt0d)] xo0e), .mk .act 496 xo0f (.call 309 [xt0e] xo0f), .mk .pure 0 xo10 (.fld 3 xt02 xo10), .mk .rdx 1024 xo11 (.ld1 xt10 xo11), .mk .pure 0 xo12 (.fld 3 xt03 xo12), .mk .rdx 4096 xo13 (.ld1 xt12 xo13), .mk .flo 15360 xo14 (.bls 1 2 (repL 2 z52) [(0, 1, xt11), (1, 1, xt13)] xo14), .mk .act 32752 xo15 (.call 310 [xt14] xo15), .mk .pure 0 xo16 (.fld 4 xt02 xo16), .mk .rdx 65536 xo17 (.ld1 xt16 xo17), .mk .pure 0 xo18 (.fld 5 xt02 xo18), .mk .rdx 262144 xo19 (.ld1 xt18 xo19), .mk .pure 0 xo1a (.fld 6 xt02 xo1a), .mk .rdx 1048576 xo1b (.ld1 xt1a xo1b), .mk .flo 3145728 xo1c (.bls 1 1 (repL 1 z145) [(0, 1, xt1b)] xo1c), .mk .act 7405552 xo1d (.call 309 [xt1c] xo1d), .mk .pure 0 xo1e (.fld 7 xt02 xo1e), .mk .rdx 16777216 xo1f (.ld1 xt1e xo1f), .mk .pure 0 xo20 (.fld 8 xt02 xo20), .mk .rdx 67108864 xo21 (.ld1 xt20 xo21), .mk .flo 201326592 xo22 (.bls 1 1 (repL 1 z52) [(0, 1, xt21)] xo22), .mk .act 485556208 xo23 (.call 310 [xt22] xo23), .mk .pure 0 xo24 (.fld 9 xt02 xo24), .mk .rdx 1073741824 xo25 (.ld1 xt24 xo25), .mk .pure 0 xo26 (.fld 9 xt03 xo26), .mk .rdx 4294967296 xo27 (.ld1 xt26 xo27), .mk .act 17128554480 xo28 (.call 311 [xt25, xt27] xo28), .mk .pure 34359738367 xo29 (.bld 10 z147 [(0, 1, xt07), (1, 1, xt09), (2, 1, xt0f), (3, 1, xt15), (4, 1, xt17), (5, 1, xt19), (6, 1, xt1d), (7, 1, xt1f), (8, 1, xt23), (9, 1, xt28)] xo29), .mk .flo 0 xo05 (.alc 10 z147 xo05), .mk .act 137438953471 .no (.sto 10 xt05 xt29)]) (.seq (.seq (.ops [.fld 0 xt03 xo2a, .ld1 xt2a xo2b]) (.cnd xt2b (.drw [.mk .pure 0 xo2c (.fld 1 xt03 xo2c), .mk .rdx 1 xo2d (.ld1 xt2c xo2d), .mk .pure 0 xo2e (.fld 0 xt05 xo2e), .mk .act 4 .no (.sto 1 xt2e xTT), .mk .pure 15 xo2f (.fld 1 xt05 xo2f), .mk .act 31 .no (.sto 1 xt2f xt2d)]) .skip)) (.seq (.seq (.ops [.fld 4 xt03 xo30, .ld1 xt30 xo31]) (.cnd xt31 (.drw [.mk .pure 0 xo32 (.fld 5 xt03 xo32), .mk .rdx 1 xo33 (.ld1 xt32 xo33), .mk .pure 0 xo34 (.fld 6 xt03 xo34), .mk .read 4 xo35 (.ld1 xt34 xo35), .mk .act 12 xo36 (.bls 1 1 (repL 1 z145) [(0, 1, xt35)] xo36), .mk .act 28 xo37 (.call 309 [xt36] xo37), .mk .pure 0 xo38 (.fld 4 xt05 xo38), .mk .act 124 .no (.sto 1 xt38 xTT), .mk .pure 255 xo39 (.fld 5 xt05 xo39), .mk .act 511 .no (.sto 1 xt39 xt33), .mk .pure 1023 xo3a (.fld 6 xt05 xo3a), .mk .act 2047 .no (.sto 1 xt3a xt37)]) .skip)) (.seq (.seq (.ops [.fld 7 xt03 xo3b, .ld1 xt3b xo3c]) (.cnd xt3c (.ops [.fld 8 xt03 xo3d, .ld1 xt3d xo3e, .bls 1 1 (repL 1 z52) [(0, 1, xt3e)] xo3f, .call 310 [xt3f] xo40, .fld 7 xt05 xo41, .sto 1 xt41 xTT, .fld 8 xt05 xo42, .sto 1 xt42 xt40]) .skip)) (.seq (.ops [.ldn 10 xt05 xo43, .sto 10 xt04 xt43]) .ret)))))) [.cn 10 xt04]
noncomputable def xf255 : Fn := .x 16 (.seq (.ops [.alc 4 z153 xo08]) (.seq (.ops [.mov xt00 xo0a, .mov xt01 xo0b, .mov xt02 xo0c, .mov xt00 xo0d, .ar .sub xt0c xt0d xo0e, .mov xt03 xo0f, .mov xt01 xo10, .ar .sub xt0f xt10 xo11, .bld 4 z153 [(0, 1, xt0a), (1, 1, xt0b), (2, 1, xt0e), (3, 1, xt11)] xo12, .alc 4 z153 xo09, .sto 4 xt09 xt12]) (.seq (.seq (.ops [.ldn 4 xt09 xo13, .call 191 [xt13] xo14]) (.cnd xt14 (.seq (.ops [.bld 4 z153 [] xo15, .sto 4 xt08 xt15]) .ret) .skip)) (.seq (.ops [.ldn 4 xt09 xo16, .sto 4 xt08 xt16]) .ret)))) [.cn 4 xt08]
noncomputable def xf256 : Fn := .x 16 (.seq (.ops [.mov (xn 0) xo04, .mov (xn 0) xo05]) (.seq (.seq (.ops [.mov xt00 xo06, .cmp .geq xt06 (xn 16777216) xo07, .mov xt07 xo08, .gd .h0 .h8 false (.mov xt01 xo09) xo09, .gd .h0 .h8 false (.cmp .lss xt09 (xn 1) xo0a) xo0a, .pick xt08 xTT xt0a xo0b]) (.cnd xt0b (.seq (.ops [.mov (xn 0) xo04, .mov (xn 0) xo05]) .ret) .skip)) (.seq (.seq (.ops [.mov xt00 xo0c, .cmp .lss xt0c (.k (.i .i64 (.negSucc 16777215))) xo0d]) (.cnd xt0d (.seq (.ops [.mov xt01 xo0e, .mov xt00 xo0f, .ar .sub (.k (.i .i64 (.negSucc 16777215))) xt0f xo10, .ar .sub xt0e xt10 xo11, .mov xt11 xo01]) (.ops [.mov (.k (.i .i64 (.negSucc 16777215))) xo00])) .skip)) (.seq (.ops [.mov xt00 xo12, .mov xt01 xo13, .mov xt00 xo14, .ar .sub (xn 16777216) xt14 xo15, .mnx true xt13 xt15 xo16, .mov xt12 xo04, .mov xt16 xo05]) .ret)))) [.t xt04, .t xt05]
end Go.Proofs.YtenpbpgoglepfaaGreatDoor
namespace Go.Proofs.YtenpbpgoglepfaaGreatDoor
open Go.RowKit
set_option maxRecDepth 100000
noncomputable def xf257 : Fn := .x 16 (.seq (.ops [.box 4 xt01 xo03, .mov (xn 0) xo04]) (.seq (.seq (.ops [.mov xt00 xo06, .len 1 xt06 xo07, .mov (xn 0) xo08]) (.blk 0 (.loop (.seq (.ops [.cmp .lss xt08 xt07 xo09]) (.seq (.cnd xt09 .skip (.ex 0)) (.seq (.blk 1 (.seq (.ops [.mov xt08 xo0a, .mov xt0a xo05]) (.seq (.drw [.mk .read 0 xo0b (.ldn 4 xt03 xo0b), .mk .pure 0 xo0c (.mov xt00 xo0c), .mk .pure 0 xo0d (.mov xt05 xo0d), .mk .pure 6 xo0e (.idx 4 xt0c xt0d xo0e), .mk .read 14 xo0f (.ldn 4 xt0e xo0f), .mk .pure 31 xo10 (.nlc (.k .np) .no)]) (.cnd xt10 (.seq (.ops [.mov xt05 xo11, .mov xt11 xo04]) .ret) .skip)))) (.ops [.ar .add xt08 (xn 1) xo12, .mov xt12 xo08]))))))) (.seq (.ops [.mov (.k (.i .i64 (.negSucc 0))) xo04]) .ret))) [.t xt04]
noncomputable def xf258 : Fn := .x 16 (.seq (.ops [.mov (xn 0) xo04]) (.seq (.seq (.ops [.mov xt00 xo06, .len 1 xt06 xo07, .mov (xn 0) xo08]) (.blk 0 (.loop (.seq (.ops [.cmp .lss xt08 xt07 xo09]) (.seq (.cnd xt09 .skip (.ex 0)) (.seq (.blk 1 (.seq (.ops [.mov xt08 xo0a, .mov xt0a xo05]) (.seq (.ops [.mov xt01 xo0b, .mov xt00 xo0c, .mov xt05 xo0d, .idx 4 xt0c xt0d xo0e, .ldn 4 xt0e xo0f, .cald xt0b [xt0f] xo10]) (.cnd xt10 (.seq (.ops [.mov xt05 xo11, .mov xt11 xo04]) .ret) .skip)))) (.ops [.ar .add xt08 (xn 1) xo12, .mov xt12 xo08]))))))) (.seq (.ops [.mov (.k (.i .i64 (.negSucc 0))) xo04]) .ret))) [.t xt04]
noncomputable def xf260 : Fn := .x 16 (.seq (.ops [.mov (.k (.str [])) xo04, .mov (xn 0) xo05, .mov (.k .ni) xo06]) (.seq (.ops [.mov xt00 xo0b, .mov xt01 xo0c, .call 312 [xt0b, xt0c, (xn 1)] xo0d, .mov xt0d xo0a, .ext 0 xt0a xo0e, .ext 1 xt0a xo0f, .ext 2 xt0a xo10, .mov xt0e xo07, .mov xt0f xo08, .mov xt10 xo09]) (.seq (.seq (.ops [.mov xt09 xo11, .eqv 7 false xt11 (.k .ni) xo12]) (.cnd xt12 (.seq (.ops [.mov xt09 xo13, .mov (.k (.str [])) xo04, .mov (xn 0) xo05, .mov xt13 xo06]) .ret) .skip)) (.seq (.seq (.ops [.mov xt07 xo14, .call 297 [xt14, (.k (.i .u8 (.ofNat 0)))] xo15, .mov xt07 xo16, .len 0 xt16 xo17, .ar .sub xt17 (xn 1) xo18, .cmp .neq xt15 xt18 xo19]) (.cnd xt19 (.seq (.drw [.mk .read 0 xo1a (.ld1 (.k (.p 5 0)) xo1a), .mk .pure 0 xo04 (.mov (.k (.str [])) xo04), .mk .pure 2 xo05 (.mov (xn 0) xo05), .mk .pure 7 xo06 (.mov xt1a xo06)]) .ret) .skip)) (.seq (.ops [.mov xt07 xo1b, .mov xt07 xo1c, .len 0 xt1c xo1d, .ar .sub xt1d (xn 1) xo1e, .sls xt1b none (some xt1e) xo1f, .mov xt08 xo20, .mov xt1f xo04, .mov xt20 xo05, .mov (.k .ni) xo06]) .ret))))) [.t xt04, .t xt05, .t xt06]
noncomputable def xf262 : Fn := .x 5 (.seq (.ops [.alc 3 z33 xo02]) (.seq (.ops [.mov xt00 xo03, .bld 3 z33 [(0, 1, (.k (.i .u8 (.ofNat 115)))), (2, 1, xt03)] xo04, .sto 3 xt02 xt04]) .ret)) [.cn 3 xt02]
noncomputable def xf263 : Fn := .x 3 (.seq (.ops [.alc 10 z147 xo00]) (.seq (.ops [.bls 1 1 (repL 1 z3) [(0, 1, (xn 0))] xo01, .bld 10 z147 [(5, 1, xTT), (8, 1, xt01)] xo02, .sto 10 xt00 xt02]) .ret)) [.cn 10 xt00]
noncomputable def xf265 : Fn := .x 16 (.seq (.ops [.mov (.k .ni) xo10]) (.seq (.ops [.mov xt00 xo17, .nlc xt17 xo18, .fld 0 xt18 xo19, .ld1 xt19 xo1a, .mov xt02 xo1b, .lok (.agg z302) xt1a xt1b true xo1c, .mov xt1c xo16, .ext 0 xt16 xo1d, .ext 1 xt16 xo1e, .alc 2 z302 xo11, .sto 2 xt11 xt1d, .mov xt1e xo12]) (.seq (.seq (.ops [.mov xt00 xo20, .nlc xt20 xo21, .fld 1 xt21 xo22, .ld1 xt22 xo23, .mov xt01 xo24, .lok (.agg z137) xt23 xt24 true xo25, .mov xt25 xo1f, .ext 0 xt1f xo26, .ext 1 xt1f xo27, .alc 7 z137 xo13, .sto 7 xt13 xt26, .mov xt27 xo14]) (.seq (.ops [.mov xt12 xo28, .not xt28 xo29, .mov xt29 xo2a, .gd .h2 .ha false (.mov xt14 xo2b) xo2b, .pick xt2a xTT xt2b xo2c]) (.cnd xt2c (.seq (.ops [.ld1 (.k (.p 4 0)) xo2d, .mov xt2d xo10]) .ret) .skip))) (.seq (.seq (.ops [.fld 1 xt11 xo2e, .ld1 xt2e xo2f, .mov xt03 xo30, .mov xt04 xo31, .mov xt05 xo32, .mov xt06 xo33, .mov xt07 xo34, .call 230 [xt2f, xt30, xt31, xt32, xt33, xt34] xo35, .mov xt35 xo15]) (.seq (.ops [.mov xt15 xo36, .eqv 7 false xt36 (.k .ni) xo37]) (.cnd xt37 (.seq (.ops [.mov xt15 xo38, .mov xt38 xo10]) .ret) .skip))) (.seq (.drw [.mk .pure 0 xo39 (.mov xt00 xo39), .mk .pure 1 xo3a (.nlc xt39 xo3a), .mk .pure 3 xo3b (.fld 1 xt3a xo3b), .mk .read 7 xo3c (.ld1 xt3b xo3c), .mk .pure 0 xo3d (.mov xt01 xo3d), .mk .pure 0 xo3e (.fld 0 xt11 xo3e), .mk .read 32 xo3f (.ld1 xt3e xo3f), .mk .pure 0 xo40 (.mov xt03 xo40), .mk .pure 0 xo41 (.mov xt04 xo41), .mk .pure 0 xo42 (.mov xt05 xo42), .mk .pure 0 xo43 (.mov xt06 xo43), .mk .pure 0 xo44 (.mov xt07 xo44), .mk .pure 4064 xo45 (.bld 6 z97 [(0, 1, xt3f), (1, 1, xt40), (2, 1, xt41), (3, 1, xt42), (4, 1, xt43), (5, 1, xt44)] xo45), .mk .pure 8160 xo46 (.bld 7 z137 [(0, 6, xt45), (6, 1, xTT)] xo46), .mk .act 16383 .no (.mup xt3c xt3d xt46)]) (.seq (.ops [.mov (.k .ni) xo10]) .ret)))))) [.t xt10]
noncomputable def xf266 : Fn := .x 16 (.seq (.ops [.mov (xn 0) xo04]) (.seq (.seq (.ops [.mov xt00 xo06, .len 1 xt06 xo07, .mov (xn 0) xo08]) (.blk 0 (.loop (.seq (.ops [.cmp .lss xt08 xt07 xo09]) (.seq (.cnd xt09 .skip (.ex 0)) (.seq (.blk 1 (.seq (.ops [.mov xt08 xo0a, .mov xt0a xo05]) (.seq (.ops [.mov xt01 xo0b, .mov xt00 xo0c, .mov xt05 xo0d, .idx 1 xt0c xt0d xo0e, .ld1 xt0e xo0f, .cmp .eql xt0b xt0f xo10]) (.cnd xt10 (.seq (.ops [.mov xt05 xo11, .mov xt11 xo04]) .ret) .skip)))) (.ops [.ar .add xt08 (xn 1) xo12, .mov xt12 xo08]))))))) (.seq (.ops [.mov (.k (.i .i64 (.negSucc 0))) xo04]) .ret))) [.t xt04]
noncomputable def xf267 : Fn := .x 16 (.seq (.ops [.mov (.k .ni) xo06]) (.seq (.seq (.ops [.mov xt01 xo07, .cmp .eql xt07 (xn 0) xo08]) (.cnd xt08 (.seq (.ops [.mov (.k .ni) xo06]) .ret) .skip)) (.seq (.ops [.mov xt00 xo09, .nlc xt09 xo0a, .fld 1 xt0a xo0b, .ld1 xt0b xo0c, .nlc xt0c xo0d, .fld 0 xt0d xo0e, .ld1 xt0e xo0f, .mov xt01 xo10, .mov xt02 xo11, .call 276 [xt0f, xt10, xt11] xo12, .mov xt12 xo06]) .ret))) [.t xt06]
noncomputable def xf268 : Fn := .x 11 (.seq (.ops [.box 1 xt02 xo05, .mov (.k .ni) xo06]) (.seq (.ops [.mov xt00 xo07, .mov xt01 xo08, .mkf 314 [] [xt05] xo09, .call 313 [xt07, xt08, xt09] xo0a, .mov xt0a xo06]) .ret)) [.t xt06]
noncomputable def xf272 : Fn := .x 16 (.seq (.ops [.mov (.k .ni) xo04]) (.seq (.ops [.mov xt00 xo0c, .nlc xt0c xo0d, .fld 0 xt0d xo0e, .ld1 xt0e xo0f, .mov xt0f xo05]) (.seq (.ops [.mov (xn 0) xo06]) (.seq (.seq (.ops [.mov xt05 xo10, .nlc xt10 xo11, .fld 4 xt11 xo12, .ld1 xt12 xo13, .mov xt01 xo14, .call 179 [xt13, xt14] xo15]) (.cnd xt15 (.seq (.ops [.mov xt00 xo17, .mov xt01 xo18, .call 282 [xt17, xt18] xo19, .mov xt19 xo16, .ext 0 xt16 xo1a, .ext 1 xt16 xo1b, .mov xt1a xo07, .mov xt1b xo08]) (.seq (.ops [.mov (.k .ni) xo09]) (.seq (.ops [.mov xt05 xo1d, .nlc xt1d xo1e, .fld 4 xt1e xo1f, .ld1 xt1f xo20, .mov xt01 xo21, .mov xt07 xo22, .mov xt08 xo23, .cmp .neq xt23 (xn 0) xo24, .call 319 [xt20, xt21, xt22, xt24] xo25, .mov xt25 xo1c, .ext 0 xt1c xo26, .ext 1 xt1c xo27, .mov xt26 xo06, .mov xt27 xo09]) (.seq (.ops [.mov xt09 xo28, .eqv 7 false xt28 (.k .ni) xo29]) (.cnd xt29 (.seq (.ops [.mov xt09 xo2a, .mov xt2a xo04]) .ret) .skip))))) .skip)) (.seq (.seq (.ops [.mov xt05 xo2c, .nlc xt2c xo2d, .fld 3 xt2d xo2e, .ld1 xt2e xo2f, .mov xt01 xo30, .call 320 [xt2f, xt30] xo31, .mov xt31 xo2b, .ext 0 xt2b xo32, .ext 1 xt2b xo33, .mov xt32 xo0a, .mov xt33 xo0b]) (.seq (.ops [.mov xt0b xo34, .eqv 7 false xt34 (.k .ni) xo35]) (.cnd xt35 (.seq (.ops [.mov xt0b xo36, .mov xt36 xo04]) .ret) .skip))) (.seq (.seq (.ops [.mov xt06 xo37]) (.blk 0 (.seq (.ops [.cmp .eql xt37 (xn 1) xo39, .mov xt39 xo38]) (.cnd xt38 (.ops [.mov xt05 xo3a, .mov xt01 xo3b, .call 106 [xt3a, xt3b, (xn 0), (xn 0)] xo3c]) (.seq (.ops [.cmp .eql xt37 (xn 2) xo3e, .mov xt3e xo3d]) (.cnd xt3d (.seq (.drw [.mk .pure 0 xo3f (.mov xt05 xo3f), .mk .pure 1 xo40 (.nlc xt3f xo40), .mk .pure 3 xo41 (.fld 10 xt40 xo41), .mk .read 7 xo42 (.ld1 xt41 xo42), .mk .pure 0 xo43 (.mov xt01 xo43), .mk .pure 0 xo44 (.mov xt01 xo44), .mk .pure 0 xo45 (.mov xt05 xo45), .mk .pure 64 xo46 (.nlc xt45 xo46), .mk .pure 192 xo47 (.fld 11 xt46 xo47), .mk .read 448 xo48 (.ld1 xt47 xo48), .mk .pure 960 xo49 (.ar .rem xt48 (xn 7) xo49), .mk .pure 1984 xo4a (.ar .mul xt49 (xn 3) xo4a), .mk .pure 0 xo4b (.mov xt05 xo4b), .mk .pure 4096 xo4c (.nlc xt4b xo4c), .mk .pure 12288 xo4d (.fld 11 xt4c xo4d), .mk .read 28672 xo4e (.ld1 xt4d xo4e), .mk .pure 61440 xo4f (.ar .rem xt4e (xn 5) xo4f), .mk .pure 126976 xo50 (.ar .mul xt4f (xn 2) xo50), .mk .pure 262112 xo51 (.bld 3 z94 [(0, 1, xt44), (1, 1, xt4a), (2, 1, xt50)] xo51), .mk .act 524287 .no (.mup xt42 xt43 xt51)]) (.seq (.ops [.mov xt05 xo52, .nlc xt52 xo53, .fld 11 xt53 xo54, .ld1 xt54 xo55, .ar .add xt55 (xn 1) xo56, .nlc xt52 xo57, .fld 11 xt57 xo58, .sto 1 xt58 xt56]) (.ops [.mov xt05 xo59, .nlc xt59 xo5a, .fld 9 xt5a xo5b, .ld1 xt5b xo5c, .mov xt01 xo5d, .call 105 [xt5c, xt5d] xo5e]))) (.seq (.ops [.cmp .eql xt37 (xn 3) xo60, .mov xt60 xo5f]) (.cnd xt5f (.ops [.mov xt05 xo61, .nlc xt61 xo62, .fld 9 xt62 xo63, .ld1 xt63 xo64, .mov xt01 xo65, .call 117 [xt64, xt65] xo66]) .skip)))))))) (.seq (.ops [.mov (.k .ni) xo04]) .ret))))))) [.t xt04]
noncomputable def xf276 : Fn := .x 16 (.seq (.ops [.mov (.k .ni) xo06]) (.seq (.seq (.ops [.mov xt00 xo0a, .nlc xt0a xo0b, .fld 0 xt0b xo0c, .ld1 xt0c xo0d, .mov xt01 xo0e, .lok (.agg z236) xt0d xt0e true xo0f, .mov xt0f xo09, .ext 0 xt09 xo10, .ext 1 xt09 xo11, .alc 2 z236 xo07, .sto 2 xt07 xt10, .mov xt11 xo08]) (.seq (.ops [.mov xt08 xo12, .not xt12 xo13, .mov xt13 xo14, .gd .h1 .h4 false (.fld 0 xt07 xo15) xo15, .gd .h1 .h4 false (.ld1 xt15 xo16) xo16, .gd .h1 .h4 false (.mov xt02 xo17) xo17, .gd .h1 .h4 false (.cmp .neq xt16 xt17 xo18) xo18, .pick xt14 xTT xt18 xo19]) (.cnd xt19 (.seq (.ops [.ld1 (.k (.p 4 0)) xo1a, .mov xt1a xo06]) .ret) .skip))) (.seq (.ops [.mov (.k .ni) xo06]) .ret))) [.t xt06]
noncomputable def xf277 : Fn := .x 16 (.seq (.ops [.mov (.k .ni) xo06]) (.seq (.drw [.mk .pure 0 xo0a (.mov xt00 xo0a), .mk .pure 1 xo0b (.nlc xt0a xo0b), .mk .pure 3 xo0c (.fld 0 xt0b xo0c), .mk .read 7 xo0d (.ld1 xt0c xo0d), .mk .pure 0 xo0e (.mov xt01 xo0e), .mk .read 31 xo0f (.lok (one1 z215) xt0d xt0e false xo0f), .mk .pure 0 xo10 (.mov xt00 xo10), .mk .pure 64 xo11 (.nlc xt10 xo11), .mk .pure 192 xo12 (.fld 0 xt11 xo12), .mk .read 448 xo13 (.ld1 xt12 xo13), .mk .pure 0 xo14 (.mov xt02 xo14), .mk .read 1984 xo15 (.lok (one1 z215) xt13 xt14 false xo15), .mk .pure 63 xo07 (.mov xt0f xo07), .mk .pure 8191 xo08 (.mov xt15 xo08)]) (.seq (.blk 0 (.seq (.ops [.mov xt07 xo17, .eqv 2 true xt17 (.k .np) xo18, .mov xt18 xo19, .gd .h1 .h9 false (.mov xt08 xo1a) xo1a, .gd .h1 .h9 false (.eqv 2 true xt1a (.k .np) xo1b) xo1b, .pick xt19 xTT xt1b xo1c, .mov xt1c xo16]) (.cnd xt16 (.seq (.ops [.ld1 (.k (.p 4 0)) xo1d, .mov xt1d xo06]) .ret) (.seq (.ops [.mov xt07 xo1f, .nlc xt1f xo20, .fld 1 xt20 xo21, .ld1 xt21 xo22, .cmp .gtr xt22 (xn 0) xo23, .mov xt23 xo1e]) (.cnd xt1e (.seq (.ops [.ld1 (.k (.p 11 0)) xo24, .mov xt24 xo06]) .ret) .skip))))) (.seq (.seq (.ops [.mov xt02 xo25, .mov xt25 xo09]) (.blk 1 (.loop (.seq (.seq (.ops [.mov xt09 xo26, .cmp .gtr xt26 (xn 0) xo27]) (.cnd xt27 .skip (.ex 1))) (.seq (.blk 2 (.seq (.ops [.mov xt09 xo2b, .mov xt01 xo2c, .cmp .eql xt2b xt2c xo2d]) (.cnd xt2d (.seq (.ops [.ld1 (.k (.p 12 0)) xo2e, .mov xt2e xo06]) .ret) .skip))) (.ops [.mov xt00 xo28, .mov xt09 xo29, .call 162 [xt28, xt29] xo2a, .mov xt2a xo09])))))) (.seq (.ops [.mov xt07 xo2f, .mov xt07 xo30, .mov xt02 xo31, .nlc xt2f xo32, .fld 1 xt32 xo33, .sto 1 xt33 xt31, .nlc xt30 xo34, .fld 2 xt34 xo35, .sto 1 xt35 xTT]) (.seq (.ops [.mov xt08 xo36, .mov xt08 xo37, .call 325 [xt37] xo38, .mov xt01 xo39, .call 164 [xt38, xt39] xo3a, .call 324 [xt36, xt3a] xo3b]) (.seq (.ops [.mov xt08 xo3c, .mov xt08 xo3d, .nlc xt3d xo3e, .fld 3 xt3e xo3f, .fld 9 xt3f xo40, .ld1 xt40 xo41, .mov xt01 xo42, .bld 3 z94 [(0, 1, xt42)] xo43, .call 326 [xt41, xt43] xo44, .nlc xt3c xo45, .fld 3 xt45 xo46, .fld 9 xt46 xo47, .sto 1 xt47 xt44]) (.seq (.ops [.mov (.k .ni) xo06]) .ret)))))))) [.t xt06]
noncomputable def xf279 : Fn := .x 16 (.seq (.ops [.mov (.k .ni) xo08]) (.seq (.ops [.mov xt00 xo0d, .mov xt01 xo0e, .call 299 [xt0d, xt0e] xo0f, .mov xt0f xo0c, .ext 0 xt0c xo10, .ext 1 xt0c xo11, .ext 2 xt0c xo12, .mov xt10 xo09, .mov xt11 xo0a, .mov xt12 xo0b]) (.seq (.seq (.ops [.mov xt0b xo13, .eqv 7 false xt13 (.k .ni) xo14]) (.cnd xt14 (.seq (.ops [.mov xt0b xo15, .mov xt15 xo08]) .ret) .skip)) (.seq (.drw [.mk .pure 0 xo16 (.mov xt0a xo16), .mk .pure 0 xo17 (.mov xt0a xo17), .mk .pure 2 xo18 (.nlc xt17 xo18), .mk .pure 6 xo19 (.fld 3 xt18 xo19), .mk .pure 14 xo1a (.fld 9 xt19 xo1a), .mk .rdx 30 xo1b (.ld1 xt1a xo1b), .mk .pure 0 xo1c (.mov xt01 xo1c), .mk .pure 0 xo1d (.mov xt02 xo1d), .mk .act 128 xo1e (.call 329 [xt1d] xo1e), .mk .pure 0 xo1f (.mov xt03 xo1f), .mk .act 896 xo20 (.call 329 [xt1f] xo20), .mk .pure 1984 xo21 (.bld 3 z94 [(0, 1, xt1c), (1, 1, xt1e), (2, 1, xt20)] xo21), .mk .act 4094 xo22 (.call 326 [xt1b, xt21] xo22), .mk .pure 8191 xo23 (.nlc xt16 xo23), .mk .pure 16383 xo24 (.fld 3 xt23 xo24), .mk .pure 32767 xo25 (.fld 9 xt24 xo25), .mk .act 65535 .no (.sto 1 xt25 xt22)]) (.seq (.ops [.mov (.k .ni) xo08]) .ret))))) [.t xt08]
noncomputable def xf281 : Fn := .x 16 (.seq (.ops [.mov (.k .ni) xo06]) (.seq (.ops [.mov xt00 xo0b, .mov xt01 xo0c, .call 299 [xt0b, xt0c] xo0d, .mov xt0d xo0a, .ext 0 xt0a xo0e, .ext 1 xt0a xo0f, .ext 2 xt0a xo10, .mov xt0e xo07, .mov xt0f xo08, .mov xt10 xo09]) (.seq (.seq (.ops [.mov xt09 xo11, .eqv 7 false xt11 (.k .ni) xo12]) (.cnd xt12 (.seq (.ops [.mov xt09 xo13, .mov xt13 xo06]) .ret) .skip)) (.seq (.ops [.mov xt07 xo14, .mov xt02 xo15, .nlc xt14 xo16, .fld 2 xt16 xo17, .sto 1 xt17 xt15]) (.seq (.ops [.mov (.k .ni) xo06]) .ret))))) [.t xt06]
noncomputable def xf282 : Fn := .x 16 (.seq (.ops [.mov xFF xo04, .mov (xn 0) xo05]) (.seq (.ops [.mov xt00 xo08, .nlc xt08 xo09, .fld 0 xt09 xo0a, .ld1 xt0a xo0b, .nlc xt0b xo0c, .fld 3 xt0c xo0d, .ld1 xt0d xo0e, .mov xt0e xo06]) (.seq (.seq (.ops [.mov xt06 xo0f, .mov xt01 xo10, .call 331 [xt0f, xt10] xo11, .mov xt06 xo12, .mov xt01 xo13, .call 332 [xt12, xt13] xo14, .call 254 [xt11, xt14] xo15, .alc 10 z147 xo07, .sto 10 xt07 xt15]) (.seq (.ops [.fld 0 xt07 xo16, .ld1 xt16 xo17]) (.cnd xt17 (.seq (.drw [.mk .pure 0 xo18 (.fld 1 xt07 xo18), .mk .read 1 xo19 (.ld1 xt18 xo19), .mk .pure 0 xo04 (.mov xTT xo04), .mk .pure 7 xo05 (.mov xt19 xo05)]) .ret) .skip))) (.seq (.ops [.mov xt06 xo1a, .mov xt01 xo1b, .call 67 [xt1a, xt1b] xo1c, .fi1 1 xt1c xo1d, .mov xFF xo04, .mov xt1d xo05]) .ret)))) [.t xt04, .t xt05]
noncomputable def xf283 : Fn := .x 16 (.seq (.ops [.mov (.k .ni) xo06]) (.seq (.blk 0 (.seq (.ops [.mov xt00 xo08, .mov xt01 xo09, .call 179 [xt08, xt09] xo0a, .mov xt0a xo07]) (.cnd xt07 (.seq (.ops [.ld1 (.k (.p 11 0)) xo0b, .mov xt0b xo06]) .ret) (.seq (.ops [.mov xt02 xo0d, .mov xt0d xo0c]) (.cnd xt0c (.seq (.ops [.ld1 (.k (.p 13 0)) xo0e, .mov xt0e xo06]) .ret) .skip))))) (.seq (.ops [.mov xt00 xo0f, .nlc xt0f xo10, .fld 0 xt10 xo11, .ld1 xt11 xo12, .mov xt01 xo13, .bld 2 z300 [] xo14, .box 2 xt14 xo15, .mup xt12 xt13 xt15]) (.seq (.ops [.mov (.k .ni) xo06]) .ret)))) [.t xt06]
noncomputable def xf285 : Fn := .x 16 (.seq (.ops [.mov (.k .ni) xo04]) (.seq (.blk 0 (.seq (.ops [.mov xt00 xo06, .mov xt01 xo07, .call 179 [xt06, xt07] xo08, .not xt08 xo09, .mov xt09 xo05]) (.cnd xt05 (.seq (.ops [.ld1 (.k (.p 4 0)) xo0a, .mov xt0a xo04]) .ret) (.seq (.ops [.mov xt00 xo0c, .mov xt01 xo0d, .call 178 [xt0c, xt0d] xo0e, .mov xt0e xo0b]) (.cnd xt0b (.seq (.ops [.ld1 (.k (.p 11 0)) xo0f, .mov xt0f xo04]) .ret) .skip))))) (.seq (.ops [.mov xt00 xo10, .nlc xt10 xo11, .fld 0 xt11 xo12, .ld1 xt12 xo13, .mov xt01 xo14, .lok (one1 z298) xt13 xt14 false xo15, .nlc xt15 xo16, .fld 0 xt16 xo17, .sto 1 xt17 (xn 1)]) (.seq (.ops [.mov (.k .ni) xo04]) .ret)))) [.t xt04]
noncomputable def xf286 : Fn := .x 16 (.seq (.ops [.mov (.k .ni) xo06]) (.seq (.blk 0 (.seq (.ops [.mov xt00 xo0a, .mov xt01 xo0b, .call 179 [xt0a, xt0b] xo0c, .not xt0c xo0d, .mov xt0d xo09]) (.cnd xt09 (.seq (.ops [.ld1 (.k (.p 4 0)) xo0e, .mov xt0e xo06]) .ret) (.seq (.ops [.mov xt00 xo10, .mov xt01 xo11, .call 178 [xt10, xt11] xo12, .not xt12 xo13, .mov xt13 xo0f]) (.cnd xt0f (.seq (.ops [.ld1 (.k (.p 13 0)) xo14, .mov xt14 xo06]) .ret) .skip))))) (.seq (.ops [.mov xt00 xo15, .nlc xt15 xo16, .fld 0 xt16 xo17, .ld1 xt17 xo18, .mov xt01 xo19, .lok (one1 z298) xt18 xt19 false xo1a, .mov xt1a xo07]) (.seq (.ops [.mov xt07 xo1b, .nlc xt1b xo1c, .fld 1 xt1c xo1d, .ld1 xt1d xo1e, .mov xt02 xo1f, .call 266 [xt1e, xt1f] xo20, .mov xt20 xo08]) (.seq (.seq (.ops [.mov xt08 xo21, .cmp .lss xt21 (xn 0) xo22]) (.cnd xt22 (.seq (.ops [.ld1 (.k (.p 14 0)) xo23, .mov xt23 xo06]) .ret) .skip)) (.seq (.ops [.mov xt07 xo24, .mov xt07 xo25, .nlc xt25 xo26, .fld 1 xt26 xo27, .ld1 xt27 xo28, .mov xt08 xo29, .ar .add xt29 (xn 1) xo2a, .slc 1 xt28 (some xt2a) none none xo2b, .call 63 [xt2b] xo2c, .nlc xt24 xo2d, .fld 1 xt2d xo2e, .sto 1 xt2e xt2c]) (.seq (.seq (.ops [.mov xt07 xo2f, .nlc xt2f xo30, .fld 0 xt30 xo31, .ld1 xt31 xo32, .cmp .eql xt32 (xn 2) xo33]) (.cnd xt33 (.ops [.mov xt07 xo34, .nlc xt34 xo35, .fld 0 xt35 xo36, .sto 1 xt36 (xn 3)]) .skip)) (.seq (.ops [.mov (.k .ni) xo06]) .ret)))))))) [.t xt06]
noncomputable def xf291 : Fn := .x 16 (.seq (.ops [.alc 4 z402 xo02]) (.seq (.ops [.alc 4 z402 xo03]) (.seq (.seq (.ops [.mov (xn 0) xo05]) (.blk 0 (.loop (.seq (.ops [.cmp .lss xt05 (xn 4) xo06]) (.seq (.cnd xt06 .skip (.ex 0)) (.seq (.blk 1 (.seq (.ops [.mov xt05 xo07, .mov xt07 xo04]) (.ops [.mov xt04 xo08, .mov xt00 xo09, .mov xt04 xo0a, .ar .mul (xn 8) xt0a xo0b, .ar .sub (xn 24) xt0b xo0c, .ar .shr xt09 xt0c xo0d, .ar .land xt0d (.k (.i .u32 (.ofNat 255))) xo0e, .cnv .i64 xt0e xo0f, .ixa 1 4 xt03 xt08 xo10, .sto 1 xt10 xt0f]))) (.ops [.ar .add xt05 (xn 1) xo11, .mov xt11 xo05]))))))) (.seq (.ops [.ldn 4 xt03 xo12, .sto 4 xt02 xt12]) .ret)))) [.cn 4 xt02]
noncomputable def xf292 : Fn := .x 12 (.seq (.ops [.mov (xn 0) xo04]) (.seq (.ops [.mov xt00 xo05, .call 333 [xt05] xo06, .mov xt01 xo07, .call 333 [xt07] xo08, .ar .mul xt06 xt08 xo09, .ar .add xt09 (xn 127) xo0a, .ar .quo xt0a (xn 255) xo0b, .mov xt0b xo04]) .ret)) [.t xt04]
noncomputable def xf293 : Fn := .x 16 (.seq (.ops [.box 4 xt00 xo01, .mov (.k (.i .u32 (.ofNat 0))) xo02]) (.seq (.ops [.mov (.k (.i .u32 (.ofNat 0))) xo03]) (.seq (.seq (.ops [.mov (xn 0) xo05]) (.blk 0 (.loop (.seq (.ops [.cmp .lss xt05 (xn 4) xo06]) (.seq (.cnd xt06 .skip (.ex 0)) (.seq (.blk 1 (.seq (.ops [.mov xt05 xo07, .mov xt07 xo04]) (.ops [.mov xt03 xo08, .ar .shl xt08 (.k (.i .u64 (.ofNat 8))) xo09, .mov xt04 xo0a, .ixa 1 4 xt01 xt0a xo0b, .ld1 xt0b xo0c, .call 333 [xt0c] xo0d, .cnv .u32 xt0d xo0e, .ar .lor xt09 xt0e xo0f, .mov xt0f xo03]))) (.ops [.ar .add xt05 (xn 1) xo10, .mov xt10 xo05]))))))) (.seq (.ops [.mov xt03 xo11, .mov xt11 xo02]) .ret)))) [.t xt02]
noncomputable def xf297 : Fn := .x 8 (.seq (.ops [.mov (xn 0) xo04]) (.seq (.ops [.mov xt00 xo05, .mov xt01 xo06, .call 334 [xt05, xt06] xo07, .mov xt07 xo04]) .ret)) [.t xt04]
noncomputable def xf298 : Fn := .x 8 (.seq (.ops [.mov (xn 0) xo02]) (.seq (.ops [.mov xt00 xo03, .ar .add xt03 (xn 4) xo04, .ar .sub xt04 (xn 1) xo05, .ar .quo xt05 (xn 4) xo06, .ar .mul xt06 (xn 4) xo07, .mov xt07 xo02]) .ret)) [.t xt02]
noncomputable def xf299 : Fn := .x 16 (.seq (.ops [.mov (.k .np) xo04, .mov (.k .np) xo05, .mov (.k .ni) xo06]) (.seq (.ops [.mov xt00 xo08, .nlc xt08 xo09, .fld 0 xt09 xo0a, .ld1 xt0a xo0b, .mov xt01 xo0c, .lok (one1 z215) xt0b xt0c false xo0d, .mov xt0d xo07]) (.seq (.blk 0 (.seq (.ops [.mov xt07 xo0f, .eqv 2 true xt0f (.k .np) xo10, .mov xt10 xo0e]) (.cnd xt0e (.seq (.drw [.mk .read 0 xo11 (.ld1 (.k (.p 4 0)) xo11), .mk .pure 0 xo04 (.mov (.k .np) xo04), .mk .pure 2 xo05 (.mov (.k .np) xo05), .mk .pure 7 xo06 (.mov xt11 xo06)]) .ret) (.seq (.ops [.mov xt07 xo13, .nlc xt13 xo14, .fld 1 xt14 xo15, .ld1 xt15 xo16, .cmp .eql xt16 (xn 0) xo17, .mov xt17 xo12]) (.cnd xt12 (.seq (.drw [.mk .read 0 xo18 (.ld1 (.k (.p 11 0)) xo18), .mk .pure 0 xo04 (.mov (.k .np) xo04), .mk .pure 2 xo05 (.mov (.k .np) xo05), .mk .pure 7 xo06 (.mov xt18 xo06)]) .ret) .skip))))) (.seq (.drw [.mk .pure 0 xo19 (.mov xt07 xo19), .mk .pure 0 xo1a (.mov xt00 xo1a), .mk .pure 2 xo1b (.nlc xt1a xo1b), .mk .pure 6 xo1c (.fld 0 xt1b xo1c), .mk .read 14 xo1d (.ld1 xt1c xo1d), .mk .pure 0 xo1e (.mov xt07 xo1e), .mk .pure 32 xo1f (.nlc xt1e xo1f), .mk .pure 96 xo20 (.fld 1 xt1f xo20), .mk .read 224 xo21 (.ld1 xt20 xo21), .mk .read 510 xo22 (.lok (one1 z215) xt1d xt21 false xo22), .mk .pure 1 xo04 (.mov xt19 xo04), .mk .pure 2047 xo05 (.mov xt22 xo05), .mk .pure 4095 xo06 (.mov (.k .ni) xo06)]) .ret)))) [.t xt04, .t xt05, .t xt06]
noncomputable def xf308 : Fn := .x 6 (.seq (.ops [.mov xFF xo02]) (.seq (.ops [.mov xt00 xo03, .mov xt00 xo04, .cmp .neq xt03 xt04 xo05, .mov xt05 xo02]) .ret)) [.t xt02]
noncomputable def xf309 : Fn := .x 5 (.seq (.ops [.mov (.k .ns) xo02]) (.seq (.ops [.mov xt00 xo03, .call 337 [xt03] xo04, .mov xt04 xo02]) .ret)) [.t xt02]
noncomputable def xf310 : Fn := .x 5 (.seq (.ops [.mov (.k .ns) xo02]) (.seq (.ops [.mov xt00 xo03, .call 338 [xt03] xo04, .mov xt04 xo02]) .ret)) [.t xt02]
noncomputable def xf311 : Fn := .x 16 (.seq (.ops [.mov (.k .ns) xo04]) (.seq (.ops [.mov xt00 xo08, .bls 1 1 (repL 1 z91) [(0, 1, xt08)] xo09, .call 339 [xt09] xo0a, .mov xt0a xo05]) (.seq (.seq (.ops [.mov xt01 xo0b, .len 1 xt0b xo0c, .mov (xn 0) xo0d]) (.blk 0 (.loop (.seq (.ops [.cmp .lss xt0d xt0c xo0e]) (.seq (.cnd xt0e .skip (.ex 0)) (.seq (.blk 1 (.seq (.ops [.idx 3 xt0b xt0d xo0f, .ldn 3 xt0f xo10, .alc 3 z94 xo07, .sto 3 xt07 xt10]) (.ops [.mov xt05 xo11, .ldn 3 xt07 xo12, .call 326 [xt11, xt12] xo13, .mov xt13 xo05]))) (.ops [.ar .add xt0d (xn 1) xo14, .mov xt14 xo0d]))))))) (.seq (.ops [.mov xt05 xo15, .mov xt15 xo04]) .ret)))) [.t xt04]
noncomputable def xf312 : Fn := .x 16 (.seq (.ops [.mov (.k (.str [])) xo06, .mov (xn 0) xo07, .mov (.k .ni) xo08]) (.seq (.ops [.mov xt00 xo10, .mov xt01 xo11, .call 197 [xt10, xt11] xo12, .mov xt12 xo0f, .ext 0 xt0f xo13, .ext 1 xt0f xo14, .mov xt13 xo09, .mov xt14 xo0a]) (.seq (.blk 0 (.seq (.ops [.mov xt0a xo16, .eqv 7 false xt16 (.k .ni) xo17, .mov xt17 xo15]) (.cnd xt15 (.seq (.ops [.mov xt0a xo18, .mov (.k (.str [])) xo06, .mov (xn 0) xo07, .mov xt18 xo08]) .ret) (.seq (.ops [.mov xt09 xo1a, .mov xt02 xo1b, .cnv .u32 xt1b xo1c, .cmp .lss xt1a xt1c xo1d, .mov xt1d xo19]) (.cnd xt19 (.seq (.drw [.mk .read 0 xo1e (.ld1 (.k (.p 5 0)) xo1e), .mk .pure 0 xo06 (.mov (.k (.str [])) xo06), .mk .pure 2 xo07 (.mov (xn 0) xo07), .mk .pure 7 xo08 (.mov xt1e xo08)]) .ret) (.seq (.ops [.mov xt09 xo20, .cmp .gtr xt20 (.k (.i .u32 (.ofNat 4096))) xo21, .mov xt21 xo1f]) (.cnd xt1f (.seq (.drw [.mk .read 0 xo22 (.ld1 (.k (.p 7 0)) xo22), .mk .pure 0 xo06 (.mov (.k (.str [])) xo06), .mk .pure 2 xo07 (.mov (xn 0) xo07), .mk .pure 7 xo08 (.mov xt22 xo08)]) .ret) .skip))))))) (.seq (.ops [.mov xt09 xo23, .cnv .i64 xt23 xo24, .mov xt24 xo0b]) (.seq (.ops [.mov xt01 xo25, .ar .add xt25 (xn 4) xo26, .mov xt26 xo01]) (.seq (.seq (.ops [.mov xt00 xo27, .len 1 xt27 xo28, .mov xt01 xo29, .ar .sub xt28 xt29 xo2a, .mov xt0b xo2b, .call 298 [xt2b] xo2c, .cmp .lss xt2a xt2c xo2d]) (.cnd xt2d (.seq (.drw [.mk .read 0 xo2e (.ld1 (.k (.p 3 0)) xo2e), .mk .pure 0 xo06 (.mov (.k (.str [])) xo06), .mk .pure 2 xo07 (.mov (xn 0) xo07), .mk .pure 7 xo08 (.mov xt2e xo08)]) .ret) .skip)) (.seq (.ops [.mov xt01 xo2f, .mov xt0b xo30, .call 298 [xt30] xo31, .ar .add xt2f xt31 xo32, .mov xt32 xo0c]) (.seq (.seq (.ops [.mov xt00 xo33, .mov xt01 xo34, .mov xt0b xo35, .ar .add xt34 xt35 xo36, .mov xt0c xo37, .slc 1 xt33 (some xt36) (some xt37) none xo38, .len 1 xt38 xo39, .mov (xn 0) xo3a]) (.blk 1 (.loop (.seq (.ops [.cmp .lss xt3a xt39 xo3b]) (.seq (.cnd xt3b .skip (.ex 1)) (.seq (.blk 2 (.seq (.ops [.idx 1 xt38 xt3a xo3c, .ld1 xt3c xo3d, .mov xt3d xo0e]) (.seq (.ops [.mov xt0e xo3e, .cmp .neq xt3e (.k (.i .u8 (.ofNat 0))) xo3f]) (.cnd xt3f (.seq (.drw [.mk .read 0 xo40 (.ld1 (.k (.p 5 0)) xo40), .mk .pure 0 xo06 (.mov (.k (.str [])) xo06), .mk .pure 2 xo07 (.mov (xn 0) xo07), .mk .pure 7 xo08 (.mov xt40 xo08)]) .ret) .skip)))) (.ops [.ar .add xt3a (xn 1) xo41, .mov xt41 xo3a]))))))) (.seq (.ops [.mov xt00 xo42, .mov xt01 xo43, .mov xt01 xo44, .mov xt0b xo45, .ar .add xt44 xt45 xo46, .slc 1 xt42 (some xt43) (some xt46) none xo47, .b2s xt47 xo48, .mov xt0c xo49, .mov xt48 xo06, .mov xt49 xo07, .mov (.k .ni) xo08]) .ret))))))))) [.t xt06, .t xt07, .t xt08]
noncomputable def xf313 : Fn := .x 16 (.seq (.ops [.mov (.k .ni) xo06]) (.seq (.ops [.mov xt00 xo08, .nlc xt08 xo09, .fld 0 xt09 xo0a, .ld1 xt0a xo0b, .mov xt01 xo0c, .lok (one1 z215) xt0b xt0c false xo0d, .mov xt0d xo07]) (.seq (.seq (.ops [.mov xt07 xo0e, .eqv 2 true xt0e (.k .np) xo0f]) (.cnd xt0f (.seq (.ops [.ld1 (.k (.p 4 0)) xo10, .mov xt10 xo06]) .ret) .skip)) (.seq (.ops [.mov xt02 xo11, .mov xt07 xo12, .nlc xt12 xo13, .fld 3 xt13 xo14, .cald xt11 [xt14] xo15]) (.seq (.ops [.mov (.k .ni) xo06]) .ret))))) [.t xt06]
noncomputable def xf314 : Fn := .x 10 (.drw [.mk .pure 0 xo03 (.mov xt00 xo03), .mk .pure 0 xo04 (.mov xt00 xo04), .mk .rdx 0 xo05 (.ld1 xt01 xo05), .mk .pure 1 xo06 (.nlc xt03 xo06), .mk .pure 9 xo07 (.fld 0 xt06 xo07), .mk .act 25 .no (.sto 1 xt07 xTT), .mk .pure 63 xo08 (.nlc xt04 xo08), .mk .pure 127 xo09 (.fld 1 xt08 xo09), .mk .act 255 .no (.sto 1 xt09 xt05)]) []
noncomputable def xf319 : Fn := .x 16 (.seq (.ops [.mov (xn 0) xo08, .mov (.k .ni) xo09]) (.seq (.seq (.ops [.mov xt00 xo0b, .mov xt01 xo0c, .call 179 [xt0b, xt0c] xo0d, .not xt0d xo0e]) (.cnd xt0e (.seq (.drw [.mk .read 0 xo0f (.ld1 (.k (.p 4 0)) xo0f), .mk .pure 0 xo08 (.mov (xn 0) xo08), .mk .pure 3 xo09 (.mov xt0f xo09)]) .ret) .skip)) (.seq (.ops [.mov xt00 xo10, .nlc xt10 xo11, .fld 0 xt11 xo12, .ld1 xt12 xo13, .mov xt01 xo14, .lok (one1 z298) xt13 xt14 false xo15, .mov xt15 xo0a]) (.seq (.seq (.ops [.mov xt0a xo16, .nlc xt16 xo17, .fld 0 xt17 xo18, .ld1 xt18 xo19]) (.blk 0 (.seq (.blk 5 (.seq (.blk 4 (.seq (.blk 3 (.blk 2 (.seq (.blk 1 (.seq (.seq (.seq (.ops [.cmp .eql xt19 (xn 0) xo1b, .mov xt1b xo1a]) (.cnd xt1a (.ex 1) .skip)) (.seq (.seq (.ops [.cmp .eql xt19 (xn 1) xo1d, .mov xt1d xo1c]) (.cnd xt1c (.ex 2) .skip)) (.seq (.seq (.ops [.cmp .eql xt19 (xn 2) xo1f, .mov xt1f xo1e]) (.cnd xt1e (.ex 3) .skip)) (.seq (.seq (.ops [.cmp .eql xt19 (xn 3) xo21, .mov xt21 xo20]) (.cnd xt20 (.ex 4) .skip)) (.seq (.ops [.cmp .eql xt19 (xn 4) xo23, .mov xt23 xo22]) (.cnd xt22 (.ex 5) .skip)))))) (.ex 0))) (.seq (.seq (.drw [.mk .read 0 xo24 (.ld1 (.k (.p 13 0)) xo24), .mk .pure 0 xo08 (.mov (xn 0) xo08), .mk .pure 3 xo09 (.mov xt24 xo09)]) .ret) (.ex 0))))) (.seq (.seq (.seq (.ops [.mov xt03 xo25]) (.cnd xt25 (.seq (.drw [.mk .read 0 xo26 (.ld1 (.k (.p 13 0)) xo26), .mk .pure 0 xo08 (.mov (xn 0) xo08), .mk .pure 3 xo09 (.mov xt26 xo09)]) .ret) .skip)) (.seq (.ops [.mov xt0a xo27, .nlc xt27 xo28, .fld 0 xt28 xo29, .ld1 xt29 xo2a, .cmp .eql xt2a (xn 1) xo2b]) (.cnd xt2b (.seq (.ops [.mov xt0a xo2c, .nlc xt2c xo2d, .fld 0 xt2d xo2e, .sto 1 xt2e (xn 2)]) (.seq (.ops [.mov (xn 1) xo08, .mov (.k .ni) xo09]) .ret)) .skip))) (.ex 0)))) (.seq (.seq (.ops [.mov xt03 xo2f]) (.cnd xt2f (.seq (.ops [.mov xt0a xo30, .nlc xt30 xo31, .fld 0 xt31 xo32, .sto 1 xt32 (xn 4)]) (.seq (.ops [.mov (xn 2) xo08, .mov (.k .ni) xo09]) .ret)) .skip)) (.ex 0)))) (.seq (.seq (.ops [.mov xt03 xo33, .not xt33 xo34]) (.cnd xt34 (.seq (.ops [.mov xt0a xo35, .mov xt0a xo36, .nlc xt35 xo37, .fld 0 xt37 xo38, .sto 1 xt38 (xn 1), .nlc xt36 xo39, .fld 1 xt39 xo3a, .sto 1 xt3a (.k .ns)]) (.seq (.ops [.mov (xn 3) xo08, .mov (.k .ni) xo09]) .ret)) .skip)) (.ex 0))))) (.seq (.ops [.mov (xn 0) xo08, .mov (.k .ni) xo09]) .ret))))) [.t xt08, .t xt09]
noncomputable def xf320 : Fn := .x 16 (.seq (.ops [.box 1 xt00 xo02, .mov (.k .ns) xo04, .mov (.k .ni) xo05]) (.seq (.ops [.ld1 xt02 xo09, .nlc xt09 xo0a, .fld 0 xt0a xo0b, .ld1 xt0b xo0c, .mov xt01 xo0d, .lok (one1 z215) xt0c xt0d false xo0e, .mov xt0e xo06]) (.seq (.seq (.ops [.mov xt06 xo0f, .eqv 2 true xt0f (.k .np) xo10]) (.cnd xt10 (.seq (.drw [.mk .read 0 xo11 (.ld1 (.k (.p 4 0)) xo11), .mk .pure 0 xo04 (.mov (.k .ns) xo04), .mk .pure 3 xo05 (.mov xt11 xo05)]) .ret) .skip)) (.seq (.drw [.mk .pure 0 xo12 (.mov xt06 xo12), .mk .pure 0 xo13 (.mov xt06 xo13), .mk .pure 2 xo14 (.nlc xt13 xo14), .mk .pure 6 xo15 (.fld 13 xt14 xo15), .mk .read 14 xo16 (.ldn 10 xt15 xo16), .mk .pure 0 xo17 (.mov xt06 xo17), .mk .pure 32 xo18 (.nlc xt17 xo18), .mk .pure 96 xo19 (.fld 3 xt18 xo19), .mk .read 224 xo1a (.ldn 10 xt19 xo1a), .mk .act 510 xo1b (.call 254 [xt16, xt1a] xo1b), .mk .pure 1023 xo1c (.nlc xt12 xo1c), .mk .pure 2047 xo1d (.fld 13 xt1c xo1d), .mk .act 4095 .no (.sto 10 xt1d xt1b)]) (.seq (.ops [.mov xt06 xo1e, .bld 10 z147 [] xo1f, .nlc xt1e xo20, .fld 3 xt20 xo21, .sto 10 xt21 xt1f]) (.seq (.seq (.ops [.ld1 xt02 xo22, .mov xt01 xo23, .call 340 [xt22, xt23] xo24]) (.cnd xt24 (.seq (.ops [.mov (.k .ns) xo04, .mov (.k .ni) xo05]) .ret) .skip)) (.seq (.ops [.alc 1 z52 xo07]) (.seq (.ops [.alc 1 z437 xo08]) (.seq (.ops [.mkf 341 [] [xt02, xt07, xt08] xo25, .sto 1 xt08 xt25]) (.seq (.ops [.ld1 xt07 xo26, .mov xt01 xo27, .bls 1 1 (repL 1 z3) [(0, 1, xt27)] xo28, .app 1 xt26 xt28 xo29, .sto 1 xt07 xt29]) (.seq (.ops [.ld1 xt08 xo2a, .mov xt06 xo2b, .cald xt2a [xt2b] xo2c]) (.seq (.ops [.ld1 xt07 xo2d, .mov xt2d xo04, .mov (.k .ni) xo05]) .ret)))))))))))) [.t xt04, .t xt05]
noncomputable def xf324 : Fn := .x 13 (.ops [.mov xt00 xo04, .mov xt00 xo05, .mov xt01 xo06, .nlc xt04 xo07, .fld 3 xt07 xo08, .fld 7 xt08 xo09, .sto 1 xt09 xTT, .nlc xt05 xo0a, .fld 3 xt0a xo0b, .fld 8 xt0b xo0c, .sto 1 xt0c xt06]) []
noncomputable def xf325 : Fn := .x 16 (.seq (.ops [.mov (.k .ns) xo02]) (.seq (.blk 0 (.seq (.ops [.mov xt00 xo04, .nlc xt04 xo05, .fld 3 xt05 xo06, .fld 7 xt06 xo07, .ld1 xt07 xo08, .mov xt08 xo03]) (.cnd xt03 (.seq (.ops [.mov xt00 xo09, .nlc xt09 xo0a, .fld 3 xt0a xo0b, .fld 8 xt0b xo0c, .ld1 xt0c xo0d, .mov xt0d xo02]) .ret) (.seq (.ops [.mov xt00 xo0f, .nlc xt0f xo10, .fld 13 xt10 xo11, .fld 7 xt11 xo12, .ld1 xt12 xo13, .mov xt13 xo0e]) (.cnd xt0e (.seq (.ops [.mov xt00 xo14, .nlc xt14 xo15, .fld 13 xt15 xo16, .fld 8 xt16 xo17, .ld1 xt17 xo18, .mov xt18 xo02]) .ret) .skip))))) (.seq (.ops [.mov xt00 xo19, .nlc xt19 xo1a, .fld 23 xt1a xo1b, .fld 8 xt1b xo1c, .ld1 xt1c xo1d, .mov xt1d xo02]) .ret))) [.t xt02]
noncomputable def xf326 : Fn := .x 16 (.seq (.ops [.box 3 xt01 xo03, .mov (.k .ns) xo04]) (.seq (.ops [.mov xt00 xo06, .bls 1 1 (repL 1 z91) [(0, 1, xt06)] xo07, .call 339 [xt07] xo08, .mov xt08 xo00]) (.seq (.seq (.ops [.mov xt00 xo09, .len 1 xt09 xo0a, .mov (xn 0) xo0b]) (.blk 0 (.loop (.seq (.ops [.cmp .lss xt0b xt0a xo0c]) (.seq (.cnd xt0c .skip (.ex 0)) (.seq (.blk 1 (.seq (.ops [.mov xt0b xo0d, .mov xt0d xo05]) (.seq (.drw [.mk .pure 0 xo0e (.mov xt00 xo0e), .mk .pure 0 xo0f (.mov xt05 xo0f), .mk .pure 3 xo10 (.idx 3 xt0e xt0f xo10), .mk .pure 7 xo11 (.fld 0 xt10 xo11), .mk .read 15 xo12 (.ld1 xt11 xo12), .mk .pure 0 xo13 (.fld 0 xt03 xo13), .mk .read 32 xo14 (.ld1 xt13 xo14), .mk .pure 127 xo15 (.cmp .eql xt12 xt14 xo15)]) (.cnd xt15 (.seq (.ops [.mov xt00 xo16, .mov xt05 xo17, .ldn 3 xt03 xo18, .idx 3 xt16 xt17 xo19, .sto 3 xt19 xt18]) (.seq (.ops [.mov xt00 xo1a, .mov xt1a xo04]) .ret)) .skip)))) (.ops [.ar .add xt0b (xn 1) xo1b, .mov xt1b xo0b]))))))) (.seq (.ops [.mov xt00 xo1c, .ldn 3 xt03 xo1d, .bls 3 1 (repL 1 z94) [(0, 3, xt1d)] xo1e, .app 3 xt1c xt1e xo1f, .mov xt1f xo04]) .ret)))) [.t xt04]
noncomputable def xf329 : Fn := .x 6 (.seq (.ops [.mov (xn 0) xo02]) (.seq (.ops [.mov xt00 xo03, .mnx true xt03 (xn 16777216) xo04, .mnx false (.k (.i .i64 (.negSucc 16777215))) xt04 xo05, .mov xt05 xo02]) .ret)) [.t xt02]
noncomputable def xf331 : Fn := .x 8 (.seq (.ops [.alc 10 z147 xo04]) (.seq (.ops [.mov xt00 xo05, .mov xt01 xo06, .call 129 [xt05, xt06, (.k (.f 350 .nil .nil))] xo07, .sto 10 xt04 xt07]) .ret)) [.cn 10 xt04]
noncomputable def xf332 : Fn := .x 8 (.seq (.ops [.alc 10 z147 xo04]) (.seq (.ops [.mov xt00 xo05, .mov xt01 xo06, .call 129 [xt05, xt06, (.k (.f 351 .nil .nil))] xo07, .sto 10 xt04 xt07]) .ret)) [.cn 10 xt04]
noncomputable def xf333 : Fn := .x 6 (.seq (.ops [.mov (xn 0) xo02]) (.seq (.ops [.mov xt00 xo03, .mnx true xt03 (xn 255) xo04, .mnx false (xn 0) xt04 xo05, .mov xt05 xo02]) .ret)) [.t xt02]
noncomputable def xf334 : Fn := .x 8 (.seq (.ops [.mov (xn 0) xo04]) (.seq (.ops [.mov xt00 xo05, .mov xt01 xo06, .call 352 [xt05, xt06] xo07, .mov xt07 xo04]) .ret)) [.t xt04]
noncomputable def xf337 : Fn := .x 16 (.seq (.ops [.mov (.k .ns) xo02]) (.seq (.ops [.mov (xn 0) xo03]) (.seq (.seq (.ops [.mov xt00 xo09, .len 1 xt09 xo0a, .mov (xn 0) xo0b]) (.blk 0 (.loop (.seq (.ops [.cmp .lss xt0b xt0a xo0c]) (.seq (.cnd xt0c .skip (.ex 0)) (.seq (.blk 1 (.seq (.ops [.idx 1 xt09 xt0b xo0d, .ld1 xt0d xo0e, .mov xt0e xo05]) (.seq (.ops [.mov xt03 xo0f, .mov xt05 xo10, .len 1 xt10 xo11, .ar .add xt0f xt11 xo12, .mov xt12 xo03]) (.seq (.ops [.mov xt03 xo13, .cmp .lss xt13 (xn 0) xo14]) (.cnd xt14 (.ops [.mki 9 (.k (.str [108, 101, 110, 32, 111, 117, 116, 32, 111, 102, 32, 114, 97, 110, 103, 101])) xo15, .nlc (.k .np) .no]) .skip))))) (.ops [.ar .add xt0b (xn 1) xo16, .mov xt16 xo0b]))))))) (.seq (.ops [.mov xt03 xo17, .call 353 [(.k .ns), xt17] xo18, .mov xt18 xo06]) (.seq (.seq (.ops [.mov xt00 xo19, .len 1 xt19 xo1a, .mov (xn 0) xo1b]) (.blk 2 (.loop (.seq (.ops [.cmp .lss xt1b xt1a xo1c]) (.seq (.cnd xt1c .skip (.ex 2)) (.seq (.blk 3 (.seq (.ops [.idx 1 xt19 xt1b xo1d, .ld1 xt1d xo1e, .mov xt1e xo08]) (.ops [.mov xt06 xo1f, .mov xt08 xo20, .app 4 xt1f xt20 xo21, .mov xt21 xo06]))) (.ops [.ar .add xt1b (xn 1) xo22, .mov xt22 xo1b]))))))) (.seq (.ops [.mov xt06 xo23, .mov xt23 xo02]) .ret)))))) [.t xt02]
noncomputable def xf338 : Fn := .x 16 (.seq (.ops [.mov (.k .ns) xo02]) (.seq (.ops [.mov (xn 0) xo03]) (.seq (.seq (.ops [.mov xt00 xo09, .len 1 xt09 xo0a, .mov (xn 0) xo0b]) (.blk 0 (.loop (.seq (.ops [.cmp .lss xt0b xt0a xo0c]) (.seq (.cnd xt0c .skip (.ex 0)) (.seq (.blk 1 (.seq (.ops [.idx 1 xt09 xt0b xo0d, .ld1 xt0d xo0e, .mov xt0e xo05]) (.seq (.ops [.mov xt03 xo0f, .mov xt05 xo10, .len 1 xt10 xo11, .ar .add xt0f xt11 xo12, .mov xt12 xo03]) (.seq (.ops [.mov xt03 xo13, .cmp .lss xt13 (xn 0) xo14]) (.cnd xt14 (.ops [.mki 9 (.k (.str [108, 101, 110, 32, 111, 117, 116, 32, 111, 102, 32, 114, 97, 110, 103, 101])) xo15, .nlc (.k .np) .no]) .skip))))) (.ops [.ar .add xt0b (xn 1) xo16, .mov xt16 xo0b]))))))) (.seq (.ops [.mov xt03 xo17, .call 354 [(.k .ns), xt17] xo18, .mov xt18 xo06]) (.seq (.seq (.ops [.mov xt00 xo19, .len 1 xt19 xo1a, .mov (xn 0) xo1b]) (.blk 2 (.loop (.seq (.ops [.cmp .lss xt1b xt1a xo1c]) (.seq (.cnd xt1c .skip (.ex 2)) (.seq (.blk 3 (.seq (.ops [.idx 1 xt19 xt1b xo1d, .ld1 xt1d xo1e, .mov xt1e xo08]) (.ops [.mov xt06 xo1f, .mov xt08 xo20, .app 1 xt1f xt20 xo21, .mov xt21 xo06]))) (.ops [.ar .add xt1b (xn 1) xo22, .mov xt22 xo1b]))))))) (.seq (.ops [.mov xt06 xo23, .mov xt23 xo02]) .ret)))))) [.t xt02]
noncomputable def xf339 : Fn := .x 5 (.seq (.ops [.mov (.k .ns) xo02]) (.seq (.ops [.mov xt00 xo03, .call 355 [xt03] xo04, .mov xt04 xo02]) .ret)) [.t xt02]
noncomputable def xf340 : Fn := .x 16 (.seq (.ops [.mov xFF xo04]) (.seq (.seq (.ops [.mov xt00 xo06, .nlc xt06 xo07, .fld 0 xt07 xo08, .ld1 xt08 xo09, .mov xt01 xo0a, .lok (one1 z215) xt09 xt0a false xo0b, .mov xt0b xo05]) (.blk 0 (.loop (.seq (.seq (.ops [.mov xt05 xo0c, .eqv 2 false xt0c (.k .np) xo0d, .mov xt0d xo0e, .gd .h0 .he true (.mov xt05 xo0f) xo0f, .gd .h0 .he true (.nlc xt0f xo10) xo10, .gd .h0 .he true (.fld 1 xt10 xo11) xo11, .gd .h0 .he true (.ld1 xt11 xo12) xo12, .gd .h0 .he true (.cmp .gtr xt12 (xn 0) xo13) xo13, .pick xt0e xt13 xFF xo14]) (.cnd xt14 .skip (.ex 0))) (.seq (.blk 1 (.seq (.ops [.mov xt05 xo1e, .nlc xt1e xo1f, .fld 2 xt1f xo20, .ld1 xt20 xo21]) (.cnd xt21 (.seq (.ops [.mov xTT xo04]) .ret) .skip))) (.drw [.mk .pure 0 xo15 (.mov xt00 xo15), .mk .pure 1 xo16 (.nlc xt15 xo16), .mk .pure 3 xo17 (.fld 0 xt16 xo17), .mk .read 7 xo18 (.ld1 xt17 xo18), .mk .pure 0 xo19 (.mov xt05 xo19), .mk .pure 16 xo1a (.nlc xt19 xo1a), .mk .pure 48 xo1b (.fld 1 xt1a xo1b), .mk .read 112 xo1c (.ld1 xt1b xo1c), .mk .read 255 xo1d (.lok (one1 z215) xt18 xt1c false xo1d), .mk .pure 511 xo05 (.mov xt1d xo05)])))))) (.seq (.ops [.mov xFF xo04]) .ret))) [.t xt04]
noncomputable def xf341 : Fn := .x 16 (.seq (.drw [.mk .pure 0 xo08 (.mov xt00 xo08), .mk .pure 0 xo09 (.mov xt00 xo09), .mk .pure 2 xo0a (.nlc xt09 xo0a), .mk .pure 6 xo0b (.fld 23 xt0a xo0b), .mk .read 14 xo0c (.ldn 10 xt0b xo0c), .mk .pure 0 xo0d (.mov xt00 xo0d), .mk .pure 32 xo0e (.nlc xt0d xo0e), .mk .pure 96 xo0f (.fld 13 xt0e xo0f), .mk .read 224 xo10 (.ldn 10 xt0f xo10), .mk .act 510 xo11 (.call 342 [xt0c, xt10] xo11), .mk .pure 1023 xo12 (.nlc xt08 xo12), .mk .pure 2047 xo13 (.fld 23 xt12 xo13), .mk .act 4095 .no (.sto 10 xt13 xt11)]) (.seq (.ops [.mov xt00 xo14, .bld 10 z147 [] xo15, .nlc xt14 xo16, .fld 13 xt16 xo17, .sto 10 xt17 xt15]) (.seq (.ops [.mov xt00 xo18, .nlc xt18 xo19, .fld 23 xt19 xo1a, .fld 8 xt1a xo1b, .ld1 xt1b xo1c, .len 1 xt1c xo1d, .mov (xn 0) xo1e]) (.blk 0 (.loop (.seq (.ops [.cmp .lss xt1e xt1d xo1f]) (.seq (.cnd xt1f .skip (.ex 0)) (.seq (.blk 1 (.seq (.ops [.idx 1 xt1c xt1e xo20, .ld1 xt20 xo21, .mov xt21 xo06]) (.seq (.ops [.ld1 xt01 xo22, .nlc xt22 xo23, .fld 0 xt23 xo24, .ld1 xt24 xo25, .mov xt06 xo26, .lok (one1 z215) xt25 xt26 false xo27, .mov xt27 xo07]) (.seq (.seq (.ops [.mov xt06 xo28, .cmp .eql xt28 (xn 0) xo29, .mov xt29 xo2a, .gd .h2 .ha false (.mov xt07 xo2b) xo2b, .gd .h2 .ha false (.eqv 2 true xt2b (.k .np) xo2c) xo2c, .pick xt2a xTT xt2c xo2d, .mov xt2d xo2e, .gd .h2 .he false (.ld1 xt01 xo2f) xo2f, .gd .h2 .he false (.mov xt06 xo30) xo30, .gd .h2 .he false (.call 340 [xt2f, xt30] xo31) xo31, .gd .h2 .he false (.not xt31 xo32) xo32, .pick xt2e xTT xt32 xo33]) (.cnd xt33 (.ex 1) .skip)) (.seq (.seq (.ops [.mov xt07 xo34, .nlc xt34 xo35, .fld 13 xt35 xo36, .ldn 10 xt36 xo37, .call 343 [xt37] xo38, .not xt38 xo39]) (.cnd xt39 (.ops [.ld1 xt02 xo3a, .mov xt06 xo3b, .bls 1 1 (repL 1 z3) [(0, 1, xt3b)] xo3c, .app 1 xt3a xt3c xo3d, .sto 1 xt02 xt3d]) .skip)) (.ops [.ld1 xt03 xo3e, .mov xt07 xo3f, .cald xt3e [xt3f] xo40])))))) (.ops [.ar .add xt1e (xn 1) xo41, .mov xt41 xo1e]))))))))) []
noncomputable def xf342 : Fn := .x 14 (.seq (.ops [.box 10 xt00 xo02, .box 10 xt01 xo03, .alc 10 z147 xo04]) (.seq (.ops [.ldn 10 xt02 xo06, .ldn 10 xt03 xo07, .call 254 [xt06, xt07] xo08, .alc 10 z147 xo05, .sto 10 xt05 xt08]) (.seq (.ops [.fld 0 xt05 xo09, .sto 1 xt09 xFF, .fld 2 xt05 xo0a, .sto 1 xt0a (.k .ns), .fld 4 xt05 xo0b, .sto 1 xt0b xFF, .fld 7 xt05 xo0c, .sto 1 xt0c xFF]) (.seq (.ops [.ldn 10 xt05 xo0d, .sto 10 xt04 xt0d]) .ret)))) [.cn 10 xt04]
noncomputable def xf343 : Fn := .x 16 (.seq (.ops [.box 10 xt00 xo01, .mov xFF xo02]) (.seq (.ops [.fld 0 xt01 xo03, .ld1 xt03 xo04, .not xt04 xo05, .mov xt05 xo06, .gd .h0 .h6 true (.fld 2 xt01 xo07) xo07, .gd .h0 .h6 true (.ld1 xt07 xo08) xo08, .gd .h0 .h6 true (.len 1 xt08 xo09) xo09, .gd .h0 .h6 true (.cmp .eql xt09 (xn 0) xo0a) xo0a, .pick xt06 xt0a xFF xo0b, .mov xt0b xo0c, .gd .h0 .hc true (.fld 3 xt01 xo0d) xo0d, .gd .h0 .hc true (.ld1 xt0d xo0e) xo0e, .gd .h0 .hc true (.len 1 xt0e xo0f) xo0f, .gd .h0 .hc true (.cmp .eql xt0f (xn 0) xo10) xo10, .pick xt0c xt10 xFF xo11, .mov xt11 xo12, .gd .h1 .h2 true (.fld 4 xt01 xo13) xo13, .gd .h1 .h2 true (.ld1 xt13 xo14) xo14, .gd .h1 .h2 true (.not xt14 xo15) xo15, .pick xt12 xt15 xFF xo16, .mov xt16 xo17, .gd .h1 .h7 true (.fld 7 xt01 xo18) xo18, .gd .h1 .h7 true (.ld1 xt18 xo19) xo19, .gd .h1 .h7 true (.not xt19 xo1a) xo1a, .pick xt17 xt1a xFF xo1b, .mov xt1b xo1c, .gd .h1 .hc true (.fld 9 xt01 xo1d) xo1d, .gd .h1 .hc true (.ld1 xt1d xo1e) xo1e, .gd .h1 .hc true (.len 1 xt1e xo1f) xo1f, .gd .h1 .hc true (.cmp .eql xt1f (xn 0) xo20) xo20, .pick xt1c xt20 xFF xo21, .mov xt21 xo02]) .ret)) [.t xt02]
noncomputable def xf350 : Fn := .x 7 (.seq (.ops [.alc 10 z147 xo02]) (.seq (.ops [.mov xt00 xo03, .nlc xt03 xo04, .fld 13 xt04 xo05, .ldn 10 xt05 xo06, .sto 10 xt02 xt06]) .ret)) [.cn 10 xt02]
noncomputable def xf351 : Fn := .x 7 (.seq (.ops [.alc 10 z147 xo02]) (.seq (.ops [.mov xt00 xo03, .nlc xt03 xo04, .fld 3 xt04 xo05, .ldn 10 xt05 xo06, .sto 10 xt02 xt06]) .ret)) [.cn 10 xt02]
noncomputable def xf353 : Fn := .x 16 (.seq (.ops [.mov (.k .ns) xo04]) (.seq (.seq (.ops [.mov xt01 xo05, .cmp .lss xt05 (xn 0) xo06]) (.cnd xt06 (.ops [.mki 9 (.k (.str [99, 97, 110, 110, 111, 116, 32, 98, 101, 32, 110, 101, 103, 97, 116, 105, 118, 101])) xo07, .nlc (.k .np) .no]) .skip)) (.seq (.seq (.ops [.mov xt01 xo08, .mov xt00 xo09, .cap xt09 xo0a, .mov xt00 xo0b, .len 1 xt0b xo0c, .ar .sub xt0a xt0c xo0d, .ar .sub xt08 xt0d xo0e, .mov xt0e xo01]) (.seq (.ops [.mov xt01 xo0f, .cmp .gtr xt0f (xn 0) xo10]) (.cnd xt10 (.ops [.mov xt00 xo11, .mov xt00 xo12, .cap xt12 xo13, .slc 4 xt11 none (some xt13) none xo14, .mov xt01 xo15, .apz 4 z153 xt14 xt15 xo16, .mov xt00 xo17, .len 1 xt17 xo18, .slc 4 xt16 none (some xt18) none xo19, .mov xt19 xo00]) .skip))) (.seq (.ops [.mov xt00 xo1a, .mov xt1a xo04]) .ret)))) [.t xt04]
noncomputable def xf354 : Fn := .x 16 (.seq (.ops [.mov (.k .ns) xo04]) (.seq (.seq (.ops [.mov xt01 xo05, .cmp .lss xt05 (xn 0) xo06]) (.cnd xt06 (.ops [.mki 9 (.k (.str [99, 97, 110, 110, 111, 116, 32, 98, 101, 32, 110, 101, 103, 97, 116, 105, 118, 101])) xo07, .nlc (.k .np) .no]) .skip)) (.seq (.seq (.ops [.mov xt01 xo08, .mov xt00 xo09, .cap xt09 xo0a, .mov xt00 xo0b, .len 1 xt0b xo0c, .ar .sub xt0a xt0c xo0d, .ar .sub xt08 xt0d xo0e, .mov xt0e xo01]) (.seq (.ops [.mov xt01 xo0f, .cmp .gtr xt0f (xn 0) xo10]) (.cnd xt10 (.ops [.mov xt00 xo11, .mov xt00 xo12, .cap xt12 xo13, .slc 1 xt11 none (some xt13) none xo14, .mov xt01 xo15, .apz 1 z3 xt14 xt15 xo16, .mov xt00 xo17, .len 1 xt17 xo18, .slc 1 xt16 none (some xt18) none xo19, .mov xt19 xo00]) .skip))) (.seq (.ops [.mov xt00 xo1a, .mov xt1a xo04]) .ret)))) [.t xt04]
noncomputable def xf355 : Fn := .x 16 (.seq (.ops [.mov (.k .ns) xo02]) (.seq (.ops [.mov (xn 0) xo03]) (.seq (.seq (.ops [.mov xt00 xo09, .len 1 xt09 xo0a, .mov (xn 0) xo0b]) (.blk 0 (.loop (.seq (.ops [.cmp .lss xt0b xt0a xo0c]) (.seq (.cnd xt0c .skip (.ex 0)) (.seq (.blk 1 (.seq (.ops [.idx 1 xt09 xt0b xo0d, .ld1 xt0d xo0e, .mov xt0e xo05]) (.seq (.ops [.mov xt03 xo0f, .mov xt05 xo10, .len 1 xt10 xo11, .ar .add xt0f xt11 xo12, .mov xt12 xo03]) (.seq (.ops [.mov xt03 xo13, .cmp .lss xt13 (xn 0) xo14]) (.cnd xt14 (.ops [.mki 9 (.k (.str [108, 101, 110, 32, 111, 117, 116, 32, 111, 102, 32, 114, 97, 110, 103, 101])) xo15, .nlc (.k .np) .no]) .skip))))) (.ops [.ar .add xt0b (xn 1) xo16, .mov xt16 xo0b]))))))) (.seq (.ops [.mov xt03 xo17, .call 361 [(.k .ns), xt17] xo18, .mov xt18 xo06]) (.seq (.seq (.ops [.mov xt00 xo19, .len 1 xt19 xo1a, .mov (xn 0) xo1b]) (.blk 2 (.loop (.seq (.ops [.cmp .lss xt1b xt1a xo1c]) (.seq (.cnd xt1c .skip (.ex 2)) (.seq (.blk 3 (.seq (.ops [.idx 1 xt19 xt1b xo1d, .ld1 xt1d xo1e, .mov xt1e xo08]) (.ops [.mov xt06 xo1f, .mov xt08 xo20, .app 3 xt1f xt20 xo21, .mov xt21 xo06]))) (.ops [.ar .add xt1b (xn 1) xo22, .mov xt22 xo1b]))))))) (.seq (.ops [.mov xt06 xo23, .mov xt23 xo02]) .ret)))))) [.t xt02]
noncomputable def xf361 : Fn := .x 16 (.seq (.ops [.mov (.k .ns) xo04]) (.seq (.seq (.ops [.mov xt01 xo05, .cmp .lss xt05 (xn 0) xo06]) (.cnd xt06 (.ops [.mki 9 (.k (.str [99, 97, 110, 110, 111, 116, 32, 98, 101, 32, 110, 101, 103, 97, 116, 105, 118, 101])) xo07, .nlc (.k .np) .no]) .skip)) (.seq (.seq (.ops [.mov xt01 xo08, .mov xt00 xo09, .cap xt09 xo0a, .mov xt00 xo0b, .len 1 xt0b xo0c, .ar .sub xt0a xt0c xo0d, .ar .sub xt08 xt0d xo0e, .mov xt0e xo01]) (.seq (.ops [.mov xt01 xo0f, .cmp .gtr xt0f (xn 0) xo10]) (.cnd xt10 (.ops [.mov xt00 xo11, .mov xt00 xo12, .cap xt12 xo13, .slc 3 xt11 none (some xt13) none xo14, .mov xt01 xo15, .apz 3 z94 xt14 xt15 xo16, .mov xt00 xo17, .len 1 xt17 xo18, .slc 3 xt16 none (some xt18) none xo19, .mov xt19 xo00]) .skip))) (.seq (.ops [.mov xt00 xo1a, .mov xt1a xo04]) .ret)))) [.t xt04]
end Go.Proofs.YtenpbpgoglepfaaGreatDoor
namespace Go.Proofs.YtenpbpgoglepfaaGreatDoor
open Go.RowKit
set_option linter.unusedVariables false

/-- How many variables the program has; from where on (a loop's start, or nowhere). -/
structure Env where
  ng : Nat
  start : Option Rho
  opq : Nat → Value
instance : Coe Env Nat := ⟨Env.ng⟩
/-- The program's variables lie first; what was known at the start is known. -/
structure Base (NG : Env) (r : Rho) : Prop where
  glob : ∀ g, g < NG.ng → r.has g ∧ r.blk g = g ∧ r.off g = 0
  from_ : ∀ r1, NG.start = some r1 → r1.Le r
  few : ∀ g, g < eqN → r.has g
  inj : ∀ g g', g < eqN → g' < eqN → eqL ≤ g → eqL ≤ g' → r.blk g = r.blk g' → r.off g = r.off g' → g = g'
  opq : r.opq = NG.opq
theorem Base.le {NG : Env} {r r' : Rho} (h : Base NG r) (k : r.Le r') : Base NG r' := ⟨fun g hg => by
  obtain ⟨h1, h2, h3⟩ := h.glob g hg
  obtain ⟨e0, e1, e2, _⟩ := k.same g h1
  exact ⟨e0, e1.trans h2, e2.trans h3⟩, fun r1 h1 => (h.from_ r1 h1).trans k, fun g hg => (k.same g (h.few g hg)).1, fun g g' hg hg' hl hl' e e2 => by
  rw [(k.same g (h.few g hg)).2.1, (k.same g' (h.few g' hg')).2.1] at e
  rw [(k.same g (h.few g hg)).2.2.1, (k.same g' (h.few g' hg')).2.2.1] at e2
  exact h.inj g g' hg hg' hl hl' e e2, k.opq.trans h.opq⟩
noncomputable def slotN (h l : H) : Nat := 16 * h.num + l.num
theorem slotN_inj {h l h' l' : H} (e : slotN h l = slotN h' l') : h = h' ∧ l = l' := by
  unfold slotN at e
  have a := num_lt l
  have b := num_lt l'
  exact ⟨num_inj (by omega), num_inj (by omega)⟩
/-- An activation's slots are as a frame says. -/
structure FrR (N : Nat) (r : Rho) (fr : Fr) (a : Act) : Prop where
  size : a.tmps.size = N
  get : ∀ h l v, a.tmps[slotN h l]? = some v → Rel r (F.get l (F.get h fr)) v
theorem FrR.le {N : Nat} {r r' : Rho} {fr : Fr} {a : Act} (h : FrR N r fr a) (k : r.Le r') : FrR N r' fr a := ⟨h.size, fun x y v e => (h.get x y v e).le k⟩
noncomputable def dB : Option Tmp → D → Bool
  | none, .no => true
  | some t, .to h l => t == slotN h l
  | _, _ => false
theorem put_get' (a : Act) (dst : Option Tmp) (v : Value) (t : Nat) : (a.put dst v).tmps[t]? = if dst = some t then (if t < a.tmps.size then some v else none) else a.tmps[t]? := by
  cases dst with
  | none => simp [Act.put]
  | some d =>
    simp only [Act.put, Array.getElem?_setIfInBounds, Option.some.injEq]
    by_cases h : d = t
    · subst h; simp
    · simp [h]
open Classical in
theorem D.get_put (h l h' l' : H) (v : AV) (fr : Fr) : F.get l' (F.get h' (D.put (.to h l) v fr)) = if h' = h ∧ l' = l then v else F.get l' (F.get h' fr) := by
  show F.get l' (F.get h' (F.mod h (F.mod l (fun _ => v)) fr)) = _
  by_cases e : h' = h
  · subst e
    rw [F.get_mod]
    by_cases e' : l' = l
    · subst e'; rw [F.get_mod]; simp
    · rw [F.get_mod_ne e']; simp [e']
  · rw [F.get_mod_ne e]; simp [e]
theorem put_dfr (a : Act) (dst : Option Tmp) (v : Value) : (a.put dst v).defers = a.defers := by cases dst <;> rfl
theorem FrR.put {N : Nat} {r : Rho} {fr : Fr} {a : Act} (h : FrR N r fr a) {dst : Option Tmp} {d : D} (hd : dB dst d = true) {av : AV} {v : Value} (hv : Rel r av v) : FrR N r (D.put d av fr) (a.put dst v) := by
  refine ⟨?_, fun x y u hu => ?_⟩
  · rw [← h.size]; cases dst <;> simp [Act.put]
  · rw [put_get'] at hu
    cases dst with
    | none =>
      cases d with
      | to _ _ => simp [dB] at hd
      | no => exact h.get x y u (by simpa using hu)
    | some t =>
      cases d with
      | no => simp [dB] at hd
      | to p q =>
        simp only [dB, beq_iff_eq] at hd
        rw [D.get_put]
        by_cases e : x = p ∧ y = q
        · obtain ⟨rfl, rfl⟩ := e
          rw [if_pos (by rw [hd])] at hu
          split at hu
          · cases hu; simpa using hv
          · cases hu
        · rw [if_neg e]
          rw [if_neg (fun e' => e (slotN_inj (by rw [← hd]; exact (Option.some.inj e').symm)))] at hu
          exact h.get x y u hu
/-- Constants. -/
def cB : Value → AV → Bool
  | .bool b, .b c => b == c
  | .int k n, .i k' m => decide (k = k') && decide (n = m)
  | .string s, .str l => s.data.toList.map (fun b => b.toNat) == l
  | .pointer none, .np => true
  | .slice none 0 0, .ns => true
  | .map none, .nm => true
  | .nilFunc, .nf => true
  | .nilIface, .ni => true
  | _, _ => false
def cLB : List Value → AV → Bool
  | [], .nil => true
  | v :: vs, .cons x l => cB v x && cLB vs l
  | _, _ => false
def cAB : Value → AV → Bool
  | .agg cs, .agg l => cLB cs.toList l
  | v, x => cB v x
theorem cB_rel {v : Value} {x : AV} (h : cB v x = true) (r : Rho) : Rel r x v := by
  unfold cB at h
  split at h
  · simp only [beq_iff_eq] at h; simp [Rel, h]
  · simp only [Bool.and_eq_true, decide_eq_true_eq] at h; simp [Rel, h.1, h.2]
  · rename_i s l
    have h : s.data.toList.map (fun b => b.toNat) = l := by simpa using h
    exact ⟨s, rfl, by rw [← h, byt_nat]⟩
  all_goals first | rfl | cases h
theorem natA_rel (r : Rho) (x : Nat) : Rel r (natA x) (.int .u8 (.ofNat (r.byt x))) := by
  unfold natA
  rcases h : Nat.blt x 256 with _ | _
  · have h2 : ¬ x < 256 := by rw [blt_eq] at h; simpa using h
    show Value.int .u8 (.ofNat (r.byt x)) = .int .u8 (.ofNat (r.opn (x - 256)))
    unfold Rho.byt
    rw [if_neg h2]
  · have h2 : x < 256 := by rw [blt_eq] at h; simpa using h
    show Value.int .u8 (.ofNat (r.byt x)) = .int .u8 (.ofNat x)
    rw [byt_low r h2]
theorem cLB_rel (r : Rho) : ∀ {vs : List Value} {x : AV}, cLB vs x = true → RelL r x vs
  | [], x, h => by cases x <;> simp_all [cLB, RelL]
  | v :: vs, x, h => by
    cases x <;> simp only [cLB, Bool.and_eq_true, reduceCtorEq] at h
    exact ⟨v, vs, rfl, cB_rel h.1 r, cLB_rel r h.2⟩
theorem cAB_rel {v : Value} {x : AV} (h : cAB v x = true) (r : Rho) : Rel r x v := by
  unfold cAB at h
  split at h
  · rename_i cs l; exact ⟨cs, rfl, cLB_rel r h⟩
  · exact cB_rel h r
/-- Operands. -/
noncomputable def xB (NG N : Nat) : Operand → X → Bool
  | .tmp t, .t h l => t == slotN h l && decide (t < N)
  | .const v, .k x => cAB v x
  | .global g, .k (.p g' 0) => g == g' && decide (g < NG)
  | .func f, .k (.f g .nil .nil) => f == g
  | _, _ => false
theorem xB_rel {NG : Env} {N : Nat} {o : Operand} {x : X} (h : xB NG N o x = true) {r : Rho} {fr : Fr} {a : Act} (hb : Base NG r) (hf : FrR N r fr a) : Rel r (X.ev x fr) (a.eval o) := by
  unfold xB at h
  split at h
  · rename_i t p q
    simp only [Bool.and_eq_true, beq_iff_eq, decide_eq_true_eq] at h
    show Rel r (F.get q (F.get p fr)) (a.tmps.getD t undef)
    have : t < a.tmps.size := by rw [hf.size]; exact h.2
    rw [Array.getD_eq_getD_getElem?, Array.getElem?_eq_getElem this]
    exact hf.get p q _ (by rw [← h.1]; exact Array.getElem?_eq_getElem this)
  · exact cAB_rel h r
  · rename_i g g'
    simp only [Bool.and_eq_true, beq_iff_eq, decide_eq_true_eq] at h
    obtain ⟨h1, h2, h3⟩ := hb.glob g h.2
    show Rel r (.p g' 0) (.pointer (some ⟨g, 0, none⟩))
    rw [← h.1]
    exact ⟨h1, by rw [h2, h3]⟩
  · rename_i f g
    simp only [beq_iff_eq] at h
    subst h
    exact ⟨#[], #[], rfl, rfl, rfl⟩
  · cases h

section
variable {P : Program} {NG : Env} {B0 N : Nat}
/-- What an operation does. -/
def OpDo (P : Program) (NG : Env) (B0 N : Nat) (o : Oper) (fr : Fr) (s : St) (fr' : Fr) (s' : St) : Prop :=
  ∀ (r : Rho) (w : World) (a : Act), Base NG r → Sim B0 r s w → FrR N r fr a → ∀ (Q : Exit → Act → World → Prop) (K : Act → World → Prop),
    (∀ a' w' r', Sim B0 r' s' w' → Stp r s w r' s' w' → FrR N r' fr' a' → a'.defers = a.defers → K a' w') → o.wp P a w K Q
/-- With what a step goes on; or it fails. -/
def Ct (f : K → R) (D : Fr → St → Prop) : Prop := (∀ k, f k = .bad) ∨ ∃ fr s, (∀ k, f k = k fr s) ∧ D fr s
/-- An instruction stands for an operation. -/
def Snd (P : Program) (NG : Env) (B0 N : Nat) (C : CallE → Prop) (o : Oper) (i : I) : Prop :=
  ∀ c, C c → ∀ fr s, Ct (evI i c fr s) (OpDo P NG B0 N o fr s)
theorem do_val {o : Oper} {d : D} (hd : dB o.dst d = true) {fr : Fr} {s s' : St} {av : AV}
    (h : ∀ (r : Rho) (w : World) (a : Act), Base NG r → Sim B0 r s w → FrR N r fr a → ∃ v w' r', (execOp a.eval o).run P w = .ok (.value v) w' ∧ Rel r' av v ∧ Sim B0 r' s' w' ∧ Stp r s w r' s' w') :
    OpDo P NG B0 N o fr s (D.put d av fr) s' := fun r w a hb hs hf Q K hK => by
  obtain ⟨v, w', r', e, hv, hs', hst⟩ := h r w a hb hs hf
  unfold Oper.wp
  rw [e]
  exact hK _ _ r' hs' hst ((hf.le hst.le).put hd hv) (put_dfr _ _ _)
/-- .. that changes nothing. -/
theorem do_pure {o : Oper} {d : D} (hd : dB o.dst d = true) {fr : Fr} {s : St} {av : AV}
    (h : ∀ (r : Rho) (w : World) (a : Act), Base NG r → Sim B0 r s w → FrR N r fr a → ∃ v, (execOp a.eval o).run P w = .ok (.value v) w ∧ Rel r av v) :
    OpDo P NG B0 N o fr s (D.put d av fr) s := do_val hd fun r w a hb hs hf => by
  obtain ⟨v, e, hv⟩ := h r w a hb hs hf
  exact ⟨v, w, r, e, hv, hs, .refl r s w⟩
/-- .. that answers nothing. -/
theorem do_skip {o : Oper} (hd : o.dst = none) {fr : Fr} {s s' : St}
    (h : ∀ (r : Rho) (w : World) (a : Act), Base NG r → Sim B0 r s w → FrR N r fr a → ∃ w' r', (execOp a.eval o).run P w = .ok .skip w' ∧ Sim B0 r' s' w' ∧ Stp r s w r' s' w') :
    OpDo P NG B0 N o fr s fr s' := fun r w a hb hs hf Q K hK => by
  obtain ⟨w', r', e, hs', hst⟩ := h r w a hb hs hf
  unfold Oper.wp
  rw [e]
  show K (a.put o.dst undef) w'
  rw [hd]
  exact hK _ _ r' hs' hst (hf.le hst.le) rfl
end

section
variable {D : Fr → St → Prop}
theorem Ct.fin {fr : Fr} {s : St} (h : D fr s) : Ct (fun k => k fr s) D := .inr ⟨fr, s, fun _ => rfl, h⟩
theorem Ct.bad : Ct (fun _ => .bad) D := .inl fun _ => rfl
theorem Ct.mono {D' : Fr → St → Prop} {f : K → R} (h : Ct f D) (hd : ∀ fr s, D fr s → D' fr s) : Ct f D' := h.imp id fun ⟨fr, s, h1, h2⟩ => ⟨fr, s, h1, hd _ _ h2⟩
theorem Ct.ite {b : Bool} {f g : K → R} (h : b = true → Ct f D) (h' : b = false → Ct g D) : Ct (fun k => ifB b (f k) (g k)) D := by
  cases b
  · exact h' rfl
  · exact h rfl
theorem Ct.must {b : Bool} {f : K → R} (h : b = true → Ct f D) : Ct (fun k => ifB b (f k) .bad) D := Ct.ite h fun _ => .bad
theorem Ct.strictN {n : Nat} {f : Nat → K → R} (h : Ct (f n) D) : Ct (fun k => Go.Proofs.YtenpbpgoglepfaaGreatDoor.strictN n fun n => f n k) D := by cases n <;> exact h
theorem Ct.strictI {n : Int} {f : Int → K → R} (h : Ct (f n) D) : Ct (fun k => Go.Proofs.YtenpbpgoglepfaaGreatDoor.strictI n fun n => f n k) D := by
  rcases h with h | ⟨fr, s, h, hd⟩
  · exact .inl fun k => (strictI_eq n _).trans (h k)
  · exact .inr ⟨fr, s, fun k => (strictI_eq n _).trans (h k), hd⟩
theorem Ct.natI {n : Int} {f : Nat → K → R} (h : ∀ m, n = .ofNat m → Ct (f m) D) : Ct (fun k => Go.Proofs.YtenpbpgoglepfaaGreatDoor.natI n fun m => f m k) D := by
  cases n with
  | ofNat m => exact h m rfl
  | negSucc _ => exact .bad
theorem Ct.withSt {s : St} {f : Hp → Nat → K → R} (h : Ct (f s.h s.n) D) : Ct (fun k => Go.Proofs.YtenpbpgoglepfaaGreatDoor.withSt s fun h n => f h n k) D := by cases s; exact h
theorem Ct.onI {v : AV} {f : IntKind → Int → K → R} (h : ∀ t n, v = .i t n → Ct (f t n) D) : Ct (fun k => AV.onI v .bad fun t n => f t n k) D := by cases v <;> first | exact .bad | exact h _ _ rfl
theorem Ct.onB {v : AV} {f : Bool → K → R} (h : ∀ t, v = .b t → Ct (f t) D) : Ct (fun k => AV.onB v .bad fun t => f t k) D := by cases v <;> first | exact .bad | exact h _ rfl
theorem Ct.onP {v : AV} {f : Nat → Nat → K → R} (h : ∀ b o, v = .p b o → Ct (f b o) D) : Ct (fun k => AV.onP v .bad fun b o => f b o k) D := by cases v <;> first | exact .bad | exact h _ _ rfl
theorem Ct.onS {v : AV} {f : Nat → Nat → Nat → Nat → Nat → Bool → K → R} (h : ∀ b o z l c e, v = .s b o z l c e → Ct (f b o z l c e) D) : Ct (fun k => AV.onS v .bad fun b o z l c e => f b o z l c e k) D := by cases v <;> first | exact .bad | exact h _ _ _ _ _ _ rfl
theorem Ct.onStr {v : AV} {f : List Nat → K → R} (h : ∀ l, v = .str l → Ct (f l) D) : Ct (fun k => AV.onStr v .bad fun l => f l k) D := by cases v <;> first | exact .bad | exact h _ rfl
theorem Ct.onM {v : AV} {f : Nat → K → R} (h : ∀ b, v = .m b → Ct (f b) D) : Ct (fun k => AV.onM v .bad fun b => f b k) D := by cases v <;> first | exact .bad | exact h _ rfl
theorem Ct.onF {v : AV} {f : Nat → AV → AV → K → R} (h : ∀ g a c, v = .f g a c → Ct (f g a c) D) : Ct (fun k => AV.onF v .bad fun g a c => f g a c k) D := by cases v <;> first | exact .bad | exact h _ _ _ rfl
theorem Ct.onIfc {v : AV} {f : Nat → AV → K → R} (h : ∀ t x, v = .ifc t x → Ct (f t x) D) : Ct (fun k => AV.onIfc v .bad fun t x => f t x k) D := by cases v <;> first | exact .bad | exact h _ _ rfl
theorem Ct.onG {v : AV} {f : AV → K → R} (h : ∀ l, v = .agg l → Ct (f l) D) : Ct (fun k => AV.onG v .bad fun l => f l k) D := by cases v <;> first | exact .bad | exact h _ rfl
theorem Ct.onT {v : AV} {f : AV → K → R} (h : ∀ l, v = .tup l → Ct (f l) D) : Ct (fun k => AV.onT v .bad fun l => f l k) D := by cases v <;> first | exact .bad | exact h _ rfl
theorem Ct.onY {v : AV} {f : Nat → K → R} (h : ∀ b, v = .y b → Ct (f b) D) : Ct (fun k => AV.onY v .bad fun b => f b k) D := by cases v <;> first | exact .bad | exact h _ rfl
theorem Ct.isNs {v : AV} {f g : K → R} (h : v ≠ .ns → Ct f D) (h' : v = .ns → Ct g D) : Ct (fun k => AV.isNs v (f k) (g k)) D := by
  cases v <;> first | exact h (fun e => by cases e) | exact h' rfl
theorem Ct.isNm {v : AV} {f g : K → R} (h : v ≠ .nm → Ct f D) (h' : v = .nm → Ct g D) : Ct (fun k => AV.isNm v (f k) (g k)) D := by
  cases v <;> first | exact h (fun e => by cases e) | exact h' rfl
theorem Ct.isU {v : AV} {f : K → R} (h : v ≠ .u → Ct f D) : Ct (fun k => AV.isU v (f k) .bad) D := by
  cases v <;> first | exact h (fun e => by cases e) | exact .bad
theorem Ct.onR {g : GB} {f : Cs → K → R} (h : ∀ c, g = .ro c ∨ g = .rw c → Ct (f c) D) : Ct (fun k => GB.onR g .bad fun c => f c k) D := by
  cases g with
  | no => exact .bad
  | mp _ => exact .bad
  | lp _ => exact .bad
  | ro c => exact h c (.inl rfl)
  | rw c => exact h c (.inr rfl)
theorem Ct.onW {g : GB} {f : Cs → K → R} (h : ∀ c, g = .rw c → Ct (f c) D) : Ct (fun k => GB.onW g .bad fun c => f c k) D := by
  cases g <;> first | exact .bad | exact h _ rfl
theorem Ct.onMp {g : GB} {f : AV → K → R} (h : ∀ c, g = .mp c → Ct (f c) D) : Ct (fun k => GB.onMp g .bad fun c => f c k) D := by
  cases g <;> first | exact .bad | exact h _ rfl
end
end Go.Proofs.YtenpbpgoglepfaaGreatDoor
namespace Go.Proofs.YtenpbpgoglepfaaGreatDoor
open Go.RowKit
set_option linter.unusedVariables false

theorem run_v {P : Program} {w w' : World} {s : Sem Value} {v : Value} (h : s.run P w = .ok v w') : (do pure (Next.value (← s)) : Sem Next).run P w = .ok (.value v) w' := by
  rw [Sem.run_bind, h]; rfl
theorem run_u {P : Program} {w w' : World} {s : Sem Unit} (h : s.run P w = .ok () w') : (do s; pure Next.skip : Sem Next).run P w = .ok .skip w' := by
  rw [Sem.run_bind, h]; rfl
theorem run_und {P : Program} {t : TypeId} {d : TypeDesc} (h : P.underlying t = some d) (w : World) : (underlying t).run P w = .ok d w := by
  simp only [underlying, Sem.run_bind, run_program, Result.andThen_ok, h, Sem.run_pure]
theorem run_info {P : Program} {t : TypeId} {d : TypeInfo} (h : P.info? t = some d) (w : World) : (typeInfo t).run P w = .ok d w := by
  simp only [typeInfo, Sem.run_bind, run_program, Result.andThen_ok, h, Sem.run_pure]
theorem run_size {P : Program} {t n : Nat} (h : (P.info? t).map (·.size) = some n) (w : World) : (sizeOf t).run P w = .ok n w := by
  cases hq : P.info? t with
  | none => simp [hq] at h
  | some i =>
    simp only [sizeOf, Sem.run_bind, run_info hq, Result.andThen_ok, Sem.run_pure]
    simp [hq] at h
    rw [h]

section
variable {ρ : Operand → Value} {o : Oper}
theorem ex_pick {c a b : Operand} (e : o.op = .pick c a b) : execOp ρ o = (do pure (.value (if ← asBool (ρ c) then ρ a else ρ b))) := by unfold execOp; rw [e]
theorem ex_unOp {q : UnOp} {t : TypeId} {x : Operand} (e : o.op = .unOp q t x) : execOp ρ o = (do pure (.value (← Op.unary q (ρ x)))) := by unfold execOp; rw [e]
theorem ex_binOp {q : BinOp} {t t' : TypeId} {x y : Operand} (e : o.op = .binOp q t x y t') : execOp ρ o = (do pure (.value (← (do eqGuard q t x y (ρ x) (ρ y); binOp q t (ρ x) (ρ y) : Sem Value)))) := by unfold execOp; rw [e]
theorem ex_convert {t t' : TypeId} {x : Operand} (e : o.op = .convert t t' x) : execOp ρ o = (do pure (.value (← convert t t' (ρ x)))) := by unfold execOp; rw [e]
theorem ex_makeInterface {t : TypeId} {x : Operand} (e : o.op = .makeInterface t x) : execOp ρ o = (do pure (.value (← Instr.makeInterface t (ρ x)))) := by unfold execOp; rw [e]
theorem ex_makeFunc {f : Go.Fn} {xs ys : Array Operand} (e : o.op = .makeFunc f xs ys) : execOp ρ o = (do pure (.value (← Instr.makeFunc f (xs.map ρ) (ys.map ρ)))) := by unfold execOp; rw [e]
theorem ex_extract {x : Operand} {n : Nat} (e : o.op = .extract x n) : execOp ρ o = (do pure (.value (← Instr.extract (ρ x) n))) := by unfold execOp; rw [e]
theorem ex_field {t : TypeId} {x : Operand} {n : Nat} (e : o.op = .field t x n) : execOp ρ o = (do pure (.value (← Instr.field t (ρ x) n))) := by unfold execOp; rw [e]
theorem ex_fieldAddr {t : TypeId} {x : Operand} {n : Nat} (e : o.op = .fieldAddr t x n) : execOp ρ o = (do pure (.value (← Instr.fieldAt t (ρ x) n))) := by unfold execOp; rw [e]
theorem ex_index {t : TypeId} {x y : Operand} (e : o.op = .index t x y) : execOp ρ o = (do pure (.value (← Instr.index t (ρ x) (ρ y)))) := by unfold execOp; rw [e]
theorem ex_indexAddr {t : TypeId} {x y : Operand} (e : o.op = .indexAddr t x y) : execOp ρ o = (do pure (.value (← Instr.indexAt t (ρ x) (ρ y)))) := by unfold execOp; rw [e]
theorem ex_slice {t : TypeId} {x : Operand} {a b c : Option Operand} (e : o.op = .slice t x a b c) : execOp ρ o = (do pure (.value (← Instr.sliceAt t (ρ x) (a.map ρ) (b.map ρ) (c.map ρ)))) := by unfold execOp; rw [e]
theorem ex_alloc {t : TypeId} (e : o.op = .alloc t) : execOp ρ o = (do pure (.value (← Instr.alloc t true (.tuple #[])))) := by unfold execOp; rw [e]
theorem ex_box {t : TypeId} {x : Operand} (e : o.op = .box t x) : execOp ρ o = (do pure (.value (← Instr.box t (ρ x)))) := by unfold execOp; rw [e]
theorem ex_build {t : TypeId} {ps : Array (Nat × Operand)} (e : o.op = .build t ps) : execOp ρ o = (do pure (.value (← Instr.build t (ps.map fun (i, x) => (i, ρ x))))) := by unfold execOp; rw [e]
theorem ex_buildSlice {t n : Nat} {ps : Array (Nat × Operand)} (e : o.op = .buildSlice t n ps) : execOp ρ o = (do pure (.value (← Instr.buildSlice t n (ps.map fun (i, x) => (i, ρ x))))) := by unfold execOp; rw [e]
theorem ex_load {t : TypeId} {x : Operand} (e : o.op = .load t x) : execOp ρ o = (do pure (.value (← Instr.loadAt t (ρ x)))) := by unfold execOp; rw [e]
theorem ex_store {t : TypeId} {x y : Operand} (e : o.op = .store t x y) : execOp ρ o = (do Instr.storeAt t (ρ x) (ρ y); pure .skip) := by unfold execOp; rw [e]
theorem ex_makeMap {t : TypeId} {x : Option Operand} (e : o.op = .makeMap t x) : execOp ρ o = (do pure (.value (← Instr.makeMap t (x.map ρ)))) := by unfold execOp; rw [e]
theorem ex_makeSlice {t : TypeId} {x y : Operand} (e : o.op = .makeSlice t x y) : execOp ρ o = (do pure (.value (← Instr.makeSlice t (ρ x) (ρ y)))) := by unfold execOp; rw [e]
theorem ex_lookup {t : TypeId} {x y : Operand} {b : Bool} (e : o.op = .lookup t x y b) : execOp ρ o = (do pure (.value (← Instr.lookup t (ρ x) (ρ y) b))) := by unfold execOp; rw [e]
theorem ex_mapUpdate {t : TypeId} {x y z : Operand} (e : o.op = .mapUpdate t x y z) : execOp ρ o = (do Instr.mapUpdate t (ρ x) (ρ y) (ρ z); pure .skip) := by unfold execOp; rw [e]
theorem ex_insert {t : TypeId} {x y z : Operand} (e : o.op = .insert t x y z) : execOp ρ o = (do Instr.mapUpdate t (ρ x) (ρ y) (ρ z); pure .skip) := by unfold execOp; rw [e]
theorem ex_call {q : Call} (e : o.op = .call q) : execOp ρ o = (do let d ← resolve ρ q o.type; invoke d.target d.args) := by unfold execOp; rw [e]
end
section
variable {P : Program} {NG : Env} {B0 N : Nat} {C : CallE → Prop} {o : Oper}
noncomputable def okMov (NG N : Nat) (o : Oper) (x : X) (d : D) : Bool := dB o.dst d && (match o.op with | .move y => xB NG N y x | .assign y => xB NG N y x | _ => false)
theorem snd_mov {x : X} {d : D} (h : okMov NG N o x d = true) : Snd P NG B0 N C o (.mov x d) := fun c _ fr s => by
  simp only [okMov, Bool.and_eq_true] at h
  obtain ⟨hd, h⟩ := h
  refine Ct.fin (do_pure hd fun r w a hb hs hf => ?_)
  split at h
  · rename_i y e; exact ⟨a.eval y, by unfold execOp; rw [e]; rfl, xB_rel h hb hf⟩
  · rename_i y e; exact ⟨a.eval y, by unfold execOp; rw [e]; rfl, xB_rel h hb hf⟩
  · cases h
noncomputable def okPick (NG N : Nat) (o : Oper) (x y z : X) (d : D) : Bool := dB o.dst d && (match o.op with | .pick c a b => xB NG N c x && xB NG N a y && xB NG N b z | _ => false)
theorem snd_pick {x y z : X} {d : D} (h : okPick NG N o x y z d = true) : Snd P NG B0 N C o (.pick x y z d) := fun c _ fr s => by
  simp only [okPick, Bool.and_eq_true] at h
  obtain ⟨hd, h⟩ := h
  show Ct (hPick x y z d c fr s) _
  unfold hPick
  refine Ct.onB fun t e => Ct.fin (do_pure hd fun r w a hb hs hf => ?_)
  split at h
  · rename_i c' a' b' e'
    simp only [Bool.and_eq_true] at h
    have hc := xB_rel h.1.1 hb hf
    rw [e] at hc
    simp only [Rel] at hc
    refine ⟨if t then a.eval a' else a.eval b', ?_, ?_⟩
    · rw [ex_pick e', hc]
      cases t <;> rfl
    · cases t
      · exact xB_rel h.2 hb hf
      · exact xB_rel h.1.2 hb hf
  · cases h
theorem Ct.putB {b : Bool} {d : D} {fr : Fr} {s : St} {E : Fr → St → Prop} (h : E (D.put d (.b b) fr) s) : Ct (fun k => Go.Proofs.YtenpbpgoglepfaaGreatDoor.putB b d fr s k) E := by
  cases b <;> exact Ct.fin h
noncomputable def okNot (NG N : Nat) (o : Oper) (x : X) (d : D) : Bool := dB o.dst d && (match o.op with | .unOp .not _ y => xB NG N y x | _ => false)
theorem snd_not {x : X} {d : D} (h : okNot NG N o x d = true) : Snd P NG B0 N C o (.not x d) := fun c _ fr s => by
  simp only [okNot, Bool.and_eq_true] at h
  obtain ⟨hd, h⟩ := h
  show Ct (hNot x d c fr s) _
  unfold hNot
  refine Ct.onB fun t e => Ct.putB (do_pure hd fun r w a hb hs hf => ?_)
  split at h
  · rename_i u y e'
    have hc := xB_rel h hb hf
    rw [e] at hc
    simp only [Rel] at hc
    exact ⟨.bool (!t), by rw [ex_unOp e', hc]; rfl, by cases t <;> rfl⟩
  · cases h
theorem kN_eq {k k' : IntKind} (h : Nat.beq (kN k) (kN k') = true) : k = k' := by cases k <;> cases k' <;> first | rfl | cases h
def cmOp : Cm → BinOp
  | .lss => .lss | .leq => .leq | .gtr => .gtr | .geq => .geq | .eql => .eql | .neq => .neq
noncomputable def okCmp (NG N : Nat) (o : Oper) (g : Cm) (x y : X) (d : D) : Bool := dB o.dst d && (match o.op with | .binOp q _ p p' _ => decide (q = cmOp g) && xB NG N p x && xB NG N p' y | _ => false)
theorem run_cmp (w : World) (g : Cm) (t : TypeId) (p p' : Operand) (k : IntKind) (a b : Int) :
    (do eqGuard (cmOp g) t p p' (.int k a) (.int k b); binOp (cmOp g) t (.int k a) (.int k b) : Sem Value).run P w = .ok (.bool (cmE g a b)) w := by
  have e : (eqGuard (cmOp g) t p p' (.int k a) (.int k b)).run P w = .ok () w := by cases g <;> rfl
  rw [Sem.run_bind, e]
  show (binOp (cmOp g) t (.int k a) (.int k b)).run P w = _
  cases g <;> simp only [binOp, cmOp, ne_eq, not_true_eq_false, if_false, Op.intCmp, Sem.run_pure, cmE, ltI_eq, eqI_eq, Result.ok.injEq, Value.bool.injEq, and_true]
  · by_cases h : b < a
    · simp [h, ifB]
    · simp [h, ifB]; omega
  · by_cases h : a < b
    · simp [h, ifB]
    · simp [h, ifB]; omega
  · by_cases h : a = b <;> simp [h]
  · by_cases h : a = b <;> simp [h, ifB]
theorem snd_cmp {g : Cm} {x y : X} {d : D} (h : okCmp NG N o g x y d = true) : Snd P NG B0 N C o (.cmp g x y d) := fun c _ fr s => by
  simp only [okCmp, Bool.and_eq_true] at h
  obtain ⟨hd, h⟩ := h
  show Ct (hCmp g x y d c fr s) _
  unfold hCmp
  refine Ct.onI fun t a e => Ct.onI fun t' b e2 => Ct.must fun hk => Ct.putB (do_pure hd fun r w a' hb hs hf => ?_)
  split at h
  · rename_i q u p p' u' e'
    simp only [Bool.and_eq_true, decide_eq_true_eq] at h
    have h1 := xB_rel h.1.2 hb hf
    have h2 := xB_rel h.2 hb hf
    rw [e] at h1
    rw [e2] at h2
    simp only [Rel] at h1 h2
    obtain rfl := kN_eq hk
    refine ⟨.bool (cmE g a b), ?_, rfl⟩
    rw [ex_binOp e', h1, h2, h.1.1]
    exact run_v (run_cmp w g u p p' t a b)
  · cases h
noncomputable def okCnv (P : Program) (NG N : Nat) (o : Oper) (k : IntKind) (x : X) (d : D) : Bool := dB o.dst d && (match o.op with | .convert q t y => xB NG N y x && (match P.underlying q, P.underlying t with | some _, some (.int k') => decide (k = k') | _, _ => false) | _ => false)
theorem inS_spec {n : Int} {b : Nat} (h : inS n b = true) : -(b : Int) ≤ n ∧ n < b := by
  rcases n with m | m <;> simp only [inS, blt_eq, decide_eq_true_eq] at h <;> simp only [Int.ofNat_eq_natCast, Int.negSucc_eq] <;> omega
theorem inU_spec {n : Int} {b : Nat} (h : inU n b = true) : 0 ≤ n ∧ n < b := by
  rcases n with m | m
  · simp only [inU, blt_eq, decide_eq_true_eq] at h
    simp only [Int.ofNat_eq_natCast]
    omega
  · cases h
theorem wrap_in (k : IntKind) (n : Int) (h : (IntKind.rec (motive := fun _ => Bool) (inS n 128) (inS n 32768) (inS n 2147483648) (inS n 9223372036854775808) (inU n 256) (inU n 65536) (inU n 4294967296) (inU n 18446744073709551616) k : Bool) = true) : k.wrap n = n := by
  cases k
  · have := inS_spec (n := n) (b := 128) h; exact IntWalk.i8_in n (by omega)
  · have := inS_spec (n := n) (b := 32768) h; exact IntWalk.i16_in n (by omega)
  · have := inS_spec (n := n) (b := 2147483648) h; exact IntWalk.i32_in n (by omega)
  · have := inS_spec (n := n) (b := 9223372036854775808) h; exact IntWalk.i64_in n (by omega)
  · have := inU_spec (n := n) (b := 256) h; exact IntWalk.u8_in n (by omega)
  · have := inU_spec (n := n) (b := 65536) h; exact IntWalk.u16_in n (by omega)
  · have := inU_spec (n := n) (b := 4294967296) h; exact IntWalk.u32_in n (by omega)
  · have := inU_spec (n := n) (b := 18446744073709551616) h; exact IntWalk.u64_in n (by omega)
theorem wrapE_eq (k : IntKind) (n : Int) : wrapE k n = k.wrap n := by
  unfold wrapE
  generalize hb : (IntKind.rec (motive := fun _ => Bool) (inS n 128) (inS n 32768) (inS n 2147483648) (inS n 9223372036854775808) (inU n 256) (inU n 65536) (inU n 4294967296) (inU n 18446744073709551616) k : Bool) = b
  cases b
  · rfl
  · exact (wrap_in k n hb).symm
theorem wrap_q {k : IntKind} (hk : Nat.beq (kN k) 0 = false) {m : Nat} (hm : m < 256) : k.wrap (.ofNat m) = .ofNat m := by
  have hm : (Int.ofNat m) < 256 ∧ 0 ≤ Int.ofNat m := ⟨by simp only [Int.ofNat_eq_natCast]; omega, by simp only [Int.ofNat_eq_natCast]; omega⟩
  generalize Int.ofNat m = n at hm
  cases k
  · cases hk
  · exact IntWalk.i16_in n (by omega)
  · exact IntWalk.i32_in n (by omega)
  · exact IntWalk.i64_in n (by omega)
  · exact IntWalk.u8_in n (by omega)
  · exact IntWalk.u16_in n (by omega)
  · exact IntWalk.u32_in n (by omega)
  · exact IntWalk.u64_in n (by omega)
theorem Ct.onQ {D : Fr → St → Prop} {v : AV} {z : K → R} {f : Nat → K → R} (hz : Ct z D) (h : ∀ k j, v = .q k j → Ct (f j) D) : Ct (fun k => AV.onQ v (z k) fun j => f j k) D := by cases v <;> first | exact h _ _ rfl | exact hz
theorem snd_cnv {k : IntKind} {x : X} {d : D} (h : okCnv P NG N o k x d = true) : Snd P NG B0 N C o (.cnv k x d) := fun c _ fr s => by
  simp only [okCnv, Bool.and_eq_true] at h
  obtain ⟨hd, h⟩ := h
  show Ct (hCnv k x d c fr s) _
  unfold hCnv
  refine Ct.onQ (Ct.onI fun t n e => Ct.strictI (Ct.fin (do_pure hd fun r w a hb hs hf => ?_))) fun t j e => Ct.ite (fun _ => Ct.bad) fun hk => Ct.fin (do_pure hd fun r w a hb hs hf => ?_)
  · split at h
    · rename_i q u y e'
      simp only [Bool.and_eq_true] at h
      have h1 := xB_rel h.1 hb hf
      rw [e] at h1
      simp only [Rel] at h1
      obtain ⟨_, h⟩ := h
      split at h
      · rename_i du k' eq1 eq2
        simp only [decide_eq_true_eq] at h
        subst h
        refine ⟨.int k (wrapE k n), ?_, rfl⟩
        rw [ex_convert e', h1, wrapE_eq]
        refine run_v ?_
        simp only [convert, Sem.run_bind, run_und eq1, run_und eq2, Result.andThen_ok]
        rfl
      · cases h
    · cases h
  · split at h
    · rename_i q u y e'
      simp only [Bool.and_eq_true] at h
      have h1 := xB_rel h.1 hb hf
      rw [e] at h1
      simp only [Rel] at h1
      obtain ⟨_, h⟩ := h
      split at h
      · rename_i du k' eq1 eq2
        simp only [decide_eq_true_eq] at h
        subst h
        have ew := wrap_q hk (show r.opn j < 256 from Nat.mod_lt _ (by decide))
        refine ⟨.int k (k.wrap (.ofNat (r.opn j))), ?_, by rw [ew]; rfl⟩
        rw [ex_convert e', h1]
        refine run_v ?_
        simp only [convert, Sem.run_bind, run_und eq1, run_und eq2, Result.andThen_ok]
        rfl
      · cases h
    · cases h
end
end Go.Proofs.YtenpbpgoglepfaaGreatDoor
namespace Go.Proofs.YtenpbpgoglepfaaGreatDoor
open Go.RowKit
set_option linter.unusedVariables false

section
variable {P : Program} {NG : Env} {B0 N : Nat} {C : CallE → Prop} {o : Oper} {E : Fr → St → Prop}
def arOp : Ar → BinOp
  | .add => .add | .sub => .sub | .mul => .mul | .quo => .quo | .rem => .rem | .land => .and | .lor => .or | .shl => .shl | .shr => .shr
theorem Ct.natB {t : IntKind} {a : Int} {f : Nat → K → R} (h : ∀ m, inR t a = true → a = .ofNat m → Ct (f m) E) : Ct (fun k => Go.Proofs.YtenpbpgoglepfaaGreatDoor.natB t a fun m => f m k) E := by
  show Ct (fun k => ifB (inR t a) (Go.Proofs.YtenpbpgoglepfaaGreatDoor.natI a fun m => f m k) .bad) E
  exact Ct.must fun hr => Ct.natI fun m hm => h m hr hm
theorem inR_lt {t : IntKind} {m : Nat} (h : inR t (.ofNat m) = true) : m < 2 ^ (if t.signed then t.bits - 1 else t.bits) := by
  cases t <;> simpa [inR, inS, inU, blt_eq, IntKind.signed, IntKind.bits] using h
theorem inR_of {t : IntKind} {m : Nat} (h : m < 2 ^ (if t.signed then t.bits - 1 else t.bits)) : inR t (.ofNat m) = true := by
  cases t <;> simpa [inR, inS, inU, blt_eq, IntKind.signed, IntKind.bits] using h
theorem bits_mod {t : IntKind} {m : Nat} (h : inR t (.ofNat m) = true) : (BitVec.ofInt t.bits (.ofNat m)).toNat = m := by
  have := inR_lt h
  have h2 : m < 2 ^ t.bits := Nat.lt_of_lt_of_le this (Nat.pow_le_pow_right (by omega) (by split <;> omega))
  rw [Int.ofNat_eq_natCast, BitVec.ofInt_natCast, BitVec.toNat_ofNat, Nat.mod_eq_of_lt h2]
theorem bitsN_eq (t : IntKind) : bitsN t = t.bits := by cases t <;> rfl
/-- What an operation on numbers answers. -/
def arV (P : Program) (g : Ar) (t t' : IntKind) (a b n : Int) : Prop := ∀ (u : TypeId) (w : World), (binOp (arOp g) u (.int t a) (.int t' b)).run P w = .ok (.int t n) w
theorem ct_ar {g : Ar} {t t' : IntKind} {a b : Int} {f : Int → K → R} (hk : okK g t t' = true) (h : ∀ n, arV P g t t' a b n → Ct (f n) E) : Ct (fun k => arE g t a b fun n => f n k) E := by
  cases g
  case add => exact Ct.strictI (h _ fun u w => by obtain rfl := kN_eq hk; simp [binOp, arOp, Op.intArith, wrapE_eq, addI_eq])
  case sub => exact Ct.strictI (h _ fun u w => by obtain rfl := kN_eq hk; simp [binOp, arOp, Op.intArith, wrapE_eq, subI_eq])
  case mul => exact Ct.strictI (h _ fun u w => by obtain rfl := kN_eq hk; simp only [binOp, arOp, ne_eq, not_true_eq_false, if_false, Op.intArith, Sem.run_pure, wrapE_eq]; rfl)
  case quo =>
    refine Ct.ite (b := eqI b 0) (fun _ => Ct.bad) fun hz => Ct.strictI (h _ fun u w => ?_)
    obtain rfl := kN_eq hk
    rw [eqI_eq, decide_eq_false_iff_not] at hz
    simp [binOp, arOp, Op.intDiv, wrapE_eq, hz]
  case rem =>
    refine Ct.ite (b := eqI b 0) (fun _ => Ct.bad) fun hz => Ct.strictI (h _ fun u w => ?_)
    obtain rfl := kN_eq hk
    rw [eqI_eq, decide_eq_false_iff_not] at hz
    simp [binOp, arOp, Op.intDiv, hz]
  case land =>
    refine Ct.natB (t := t) (a := a) fun m h1 e1 => Ct.natB (t := t) (a := b) fun n h2 e2 => Ct.strictI (h _ fun u w => ?_)
    subst e1 e2
    obtain rfl := kN_eq hk
    have hr : t.wrap (Int.ofNat (Nat.land m n)) = Int.ofNat (Nat.land m n) := wrap_in t _ (inR_of (Nat.lt_of_le_of_lt (Nat.and_le_left (n := m) (m := n)) (inR_lt h1)))
    simp only [binOp, arOp, ne_eq, not_true_eq_false, if_false, Op.intBits, Sem.run_pure, BitVec.toNat_and, bits_mod h1, bits_mod h2]
    exact congrArg (fun z => Result.ok (Value.int t z) w) hr
  case lor =>
    refine Ct.natB (t := t) (a := a) fun m h1 e1 => Ct.natB (t := t) (a := b) fun n h2 e2 => Ct.strictI (h _ fun u w => ?_)
    subst e1 e2
    obtain rfl := kN_eq hk
    have hr : t.wrap (Int.ofNat (Nat.lor m n)) = Int.ofNat (Nat.lor m n) := wrap_in t _ (inR_of (Nat.or_lt_two_pow (inR_lt h1) (inR_lt h2)))
    simp only [binOp, arOp, ne_eq, not_true_eq_false, if_false, Op.intBits, Sem.run_pure, BitVec.toNat_or, bits_mod h1, bits_mod h2]
    exact congrArg (fun z => Result.ok (Value.int t z) w) hr
  case shl =>
    refine Ct.natI (n := a) fun m e1 => Ct.natI (n := b) fun n e2 => Ct.must (b := Nat.ble n (bitsN t)) fun hb => Ct.strictI (h _ fun u w => ?_)
    subst e1 e2
    have hb' := Nat.le_of_ble_eq_true hb
    rw [bitsN_eq] at hb'
    simp only [binOp, arOp, Op.shift, Int.ofNat_eq_natCast, Int.toNat_natCast, Nat.min_eq_left hb', wrapE_eq]
    rw [if_neg (by omega)]
    have : ((Nat.mul m (Nat.pow 2 n) : Nat) : Int) = (m : Int) * 2 ^ n := by
      show ((m * 2 ^ n : Nat) : Int) = _
      rw [Int.natCast_mul, Int.natCast_pow]; rfl
    rw [this]; rfl
  case shr =>
    refine Ct.natI (n := a) fun m e1 => Ct.natI (n := b) fun n e2 => Ct.must (b := Nat.ble n (bitsN t)) fun hb => Ct.strictI (h _ fun u w => ?_)
    subst e1 e2
    have hb' := Nat.le_of_ble_eq_true hb
    rw [bitsN_eq] at hb'
    simp only [binOp, arOp, Op.shift, Int.ofNat_eq_natCast, Int.toNat_natCast, Nat.min_eq_left hb']
    rw [if_neg (by omega)]
    have : ((Nat.div m (Nat.pow 2 n) : Nat) : Int) = (m : Int).fdiv (2 ^ n) := by
      show ((m / 2 ^ n : Nat) : Int) = _
      rw [Int.fdiv_eq_ediv_of_nonneg _ (by exact_mod_cast Nat.zero_le (2 ^ n)), Int.natCast_ediv, Int.natCast_pow]; rfl
    rw [this]; rfl
noncomputable def okAr (NG N : Nat) (o : Oper) (g : Ar) (x y : X) (d : D) : Bool := dB o.dst d && (match o.op with | .binOp q _ p p' _ => decide (q = arOp g) && xB NG N p x && xB NG N p' y | .unOp .neg _ p => (match g, x with | .sub, .k (.i _ (.ofNat 0)) => xB NG N p y | _, _ => false) | _ => false)
theorem snd_ar {g : Ar} {x y : X} {d : D} (h : okAr NG N o g x y d = true) : Snd P NG B0 N C o (.ar g x y d) := fun c _ fr s => by
  simp only [okAr, Bool.and_eq_true] at h
  obtain ⟨hd, h⟩ := h
  show Ct (hAr g x y d c fr s) _
  unfold hAr
  refine Ct.onI fun t a e => Ct.onI fun t' b e2 => Ct.must fun hk => ct_ar (P := P) hk fun n hn => Ct.fin (do_pure hd fun r w a' hb hs hf => ?_)
  split at h
  · rename_i q u p p' u' e'
    simp only [Bool.and_eq_true, decide_eq_true_eq] at h
    have h1 := xB_rel h.1.2 hb hf
    have h2 := xB_rel h.2 hb hf
    rw [e] at h1
    rw [e2] at h2
    simp only [Rel] at h1 h2
    refine ⟨.int t n, ?_, rfl⟩
    rw [ex_binOp e', h1, h2, h.1.1]
    refine run_v ?_
    have : (eqGuard (arOp g) u p p' (.int t a) (.int t' b)).run P w = .ok () w := by cases g <;> rfl
    rw [Sem.run_bind, this]
    exact hn u w
  · rename_i u p e'
    split at h
    · rename_i kk
      have h2 := xB_rel h hb hf
      rw [e2] at h2
      simp only [Rel] at h2
      have e3 : AV.i kk (.ofNat 0) = .i t a := e
      cases e3
      obtain rfl := kN_eq hk
      refine ⟨.int _ n, ?_, rfl⟩
      rw [ex_unOp e', h2]
      refine run_v ?_
      have := hn u w
      simp only [binOp, arOp, ne_eq, not_true_eq_false, if_false] at this
      exact this
    · cases h
  · cases h
noncomputable def okNlc (NG N : Nat) (o : Oper) (x : X) (d : D) : Bool := dB o.dst d && (match o.op with | .nilCheck p => xB NG N p x | _ => false)
theorem snd_nlc {x : X} {d : D} (h : okNlc NG N o x d = true) : Snd P NG B0 N C o (.nlc x d) := fun c _ fr s => by
  simp only [okNlc, Bool.and_eq_true] at h
  obtain ⟨hd, h⟩ := h
  show Ct (hNlc x d c fr s) _
  unfold hNlc
  refine Ct.onP fun b q e => Ct.fin (do_pure hd fun r w a hb hs hf => ?_)
  split at h
  · rename_i p e'
    have h1 := xB_rel h hb hf
    rw [e] at h1
    refine ⟨a.eval p, ?_, h1⟩
    simp only [Rel] at h1
    unfold execOp
    rw [e']
    simp only [h1.2]
    rfl
  · cases h
/-- An instruction that always fails stands for whatever. -/
theorem snd_bad {d : D} : Snd P NG B0 N C o (.nlc (.k .np) d) := fun c _ fr s => .inl fun _ => rfl
noncomputable def okFld (P : Program) (NG N : Nat) (o : Oper) (z : Nat) (x : X) (d : D) : Bool := dB o.dst d && (match o.op with | .fieldAddr t p i => xB NG N p x && (match P.underlying t with | some (.struct fs) => (match fs[i]? with | some f => Nat.beq f.offset z && (match (P.info? f.type).map (·.size) with | some (n + 1) => true | _ => false) | none => false) | _ => false) | _ => false)
theorem snd_fld {z : Nat} {x : X} {d : D} (h : okFld P NG N o z x d = true) : Snd P NG B0 N C o (.fld z x d) := fun c _ fr s => by
  simp only [okFld, Bool.and_eq_true] at h
  obtain ⟨hd, h⟩ := h
  show Ct (hFld z x d c fr s) _
  unfold hFld
  refine Ct.onP fun b q e => Ct.strictN (Ct.fin (do_pure hd fun r w a hb hs hf => ?_))
  split at h
  · rename_i t p i e'
    simp only [Bool.and_eq_true] at h
    obtain ⟨h1, h⟩ := h
    have h1 := xB_rel h1 hb hf
    rw [e] at h1
    simp only [Rel] at h1
    split at h
    · rename_i fs hu
      split at h
      · rename_i f hfi
        simp only [Bool.and_eq_true] at h
        obtain ⟨hz, h⟩ := h
        split at h
        · rename_i n hn
          refine ⟨.pointer (some ⟨r.blk b, r.off b + q + z, none⟩), ?_, ⟨h1.1, by simp [Nat.add_assoc]⟩⟩
          rw [ex_fieldAddr e', h1.2]
          refine run_v ?_
          have hz' := Nat.eq_of_beq_eq_true hz
          simp only [Instr.fieldAt, Sem.run_bind, run_und hu, Result.andThen_ok, hfi, Instr.sureAddr, Sem.run_pure, fieldPlace, run_size hn, Nat.succ_ne_zero, if_false, Addr.add_mid, hz']
        · cases h
      · cases h
    · cases h
  · cases h
end
end Go.Proofs.YtenpbpgoglepfaaGreatDoor
namespace Go.Proofs.YtenpbpgoglepfaaGreatDoor
open Go.RowKit
set_option linter.unusedVariables false

section
variable {P : Program} {NG : Env} {B0 N : Nat} {C : CallE → Prop} {o : Oper} {E : Fr → St → Prop}
noncomputable def szB (P : Program) (t n : Nat) : Bool := match (P.info? t).map (·.size) with | some m => Nat.beq m n | none => false
theorem szB_eq {t n : Nat} (h : szB P t n = true) : (P.info? t).map (·.size) = some n := by
  unfold szB at h
  split at h
  · rename_i m e; rw [e, Nat.eq_of_beq_eq_true h]
  · cases h
noncomputable def okIdx (P : Program) (NG N : Nat) (o : Oper) (z : Nat) (x i : X) (d : D) : Bool := dB o.dst d && (match o.op with | .indexAddr t p q => xB NG N p x && xB NG N q i && (match P.underlying t with | some (.slice el) => szB P el z | _ => false) | _ => false)
theorem blt_lt {m n : Nat} (h : Nat.blt m n = true) : m < n := by rw [blt_eq, decide_eq_true_eq] at h; exact h
theorem snd_idx {z : Nat} {x i : X} {d : D} (h : okIdx P NG N o z x i d = true) : Snd P NG B0 N C o (.idx z x i d) := fun c _ fr s => by
  simp only [okIdx, Bool.and_eq_true] at h
  obtain ⟨hd, h⟩ := h
  show Ct (hIdx z x i d c fr s) _
  unfold hIdx
  refine Ct.onS fun b q z' n cp ex e => Ct.onI fun t j e2 => Ct.natI fun m hm => Ct.must fun hlt => Ct.must fun hz => Ct.strictN (Ct.fin (do_pure hd fun r w a hb hs hf => ?_))
  subst hm
  have hlt := blt_lt hlt
  obtain rfl := Nat.eq_of_beq_eq_true hz
  split at h
  · rename_i ty p p' e'
    simp only [Bool.and_eq_true] at h
    have h1 := xB_rel h.1.1 hb hf
    have h2 := xB_rel h.1.2 hb hf
    rw [e] at h1
    rw [e2] at h2
    simp only [Rel] at h1 h2
    obtain ⟨hbn, x0, c0, hv, hx, _, _, _, _⟩ := h1
    obtain ⟨_, h⟩ := h
    split at h
    · rename_i el hu
      have hsz := szB_eq h
      refine ⟨.pointer (some ⟨r.blk b, r.off b + (q + m * z), none⟩), ?_, ⟨hbn, rfl⟩⟩
      rw [ex_indexAddr e', hv, h2]
      refine run_v ?_
      have hx0 := hx (by omega)
      simp only [Instr.indexAt, asIntOf, Sem.run_bind, Sem.run_pure, Result.andThen_ok, run_und hu, Int.ofNat_eq_natCast, Int.toNat_natCast]
      have hc : (0 : Int) ≤ (m : Int) ∧ (m : Int) < (n : Int) := ⟨by omega, by omega⟩
      rw [if_pos hc]
      simp only [Sem.run_bind, run_size hsz, Result.andThen_ok, Sem.run_pure, Addr.add_mid, hx0, Nat.add_assoc]
    · cases h
  · cases h
noncomputable def okIxa (P : Program) (NG N : Nat) (o : Oper) (z n : Nat) (x i : X) (d : D) : Bool := dB o.dst d && (match o.op with | .indexAddr t p q => xB NG N p x && xB NG N q i && (match P.underlying t with | some (.array n' el) => szB P el z && Nat.beq n' n | _ => false) | _ => false)
theorem snd_ixa {z n : Nat} {x i : X} {d : D} (h : okIxa P NG N o z n x i d = true) : Snd P NG B0 N C o (.ixa z n x i d) := fun c _ fr s => by
  simp only [okIxa, Bool.and_eq_true] at h
  obtain ⟨hd, h⟩ := h
  show Ct (hIxa z n x i d c fr s) _
  unfold hIxa
  refine Ct.onP fun b q e => Ct.onI fun t j e2 => Ct.natI fun m hm => Ct.must fun hlt => Ct.strictN (Ct.fin (do_pure hd fun r w a hb hs hf => ?_))
  subst hm
  have hlt := blt_lt hlt
  split at h
  · rename_i ty p p' e'
    simp only [Bool.and_eq_true] at h
    have h1 := xB_rel h.1.1 hb hf
    have h2 := xB_rel h.1.2 hb hf
    rw [e] at h1
    rw [e2] at h2
    simp only [Rel] at h1 h2
    obtain ⟨_, h⟩ := h
    split at h
    · rename_i n' el hu
      simp only [Bool.and_eq_true] at h
      have hsz := szB_eq h.1
      obtain rfl := Nat.eq_of_beq_eq_true h.2
      refine ⟨.pointer (some ⟨r.blk b, r.off b + (q + m * z), none⟩), ?_, ⟨h1.1, rfl⟩⟩
      rw [ex_indexAddr e', h1.2, h2]
      refine run_v ?_
      simp only [Instr.indexAt, asIntOf, Sem.run_bind, Sem.run_pure, Result.andThen_ok, run_und hu, Int.ofNat_eq_natCast, Int.toNat_natCast, Instr.sureAddr]
      have hc : (0 : Int) ≤ (m : Int) ∧ (m : Int) < (n' : Int) := ⟨by omega, by omega⟩
      rw [if_pos hc]
      simp only [Sem.run_bind, run_size hsz, Result.andThen_ok, Sem.run_pure, Addr.add_mid, Nat.add_assoc]
    · cases h
  · cases h
noncomputable def xsB (NG N : Nat) : List Operand → List X → Bool
  | [], [] => true
  | p :: l, x :: m => xB NG N p x && xsB NG N l m
  | _, _ => false
theorem xsB_rel {r : Rho} {fr : Fr} {a : Act} (hb : Base NG r) (hf : FrR N r fr a) : ∀ {l : List Operand} {m : List X}, xsB NG N l m = true → RelL r (evXs m fr) (l.map a.eval)
  | [], [], _ => rfl
  | p :: l, x :: m, h => by
    simp only [xsB, Bool.and_eq_true] at h
    exact ⟨_, _, rfl, xB_rel h.1 hb hf, xsB_rel hb hf h.2⟩
  | [], _ :: _, h => by cases h
  | _ :: _, [], h => by cases h
noncomputable def okMkf (NG N : Nat) (o : Oper) (g : Nat) (fs cs : List X) (d : D) : Bool := dB o.dst d && (match o.op with | .makeFunc (.func g') ps qs => Nat.beq g' g && xsB NG N ps.toList fs && xsB NG N qs.toList cs | _ => false)
theorem snd_mkf {g : Nat} {fs cs : List X} {d : D} (h : okMkf NG N o g fs cs d = true) : Snd P NG B0 N C o (.mkf g fs cs d) := fun c _ fr s => by
  simp only [okMkf, Bool.and_eq_true] at h
  obtain ⟨hd, h⟩ := h
  refine Ct.fin (do_pure hd fun r w a hb hs hf => ?_)
  split at h
  · rename_i g' ps qs e'
    simp only [Bool.and_eq_true] at h
    obtain rfl := Nat.eq_of_beq_eq_true h.1.1
    refine ⟨.func (.func g') (ps.map a.eval) (qs.map a.eval), by rw [ex_makeFunc e']; rfl, ⟨_, _, rfl, ?_, ?_⟩⟩
    · rw [Array.toList_map]; exact xsB_rel hb hf h.1.2
    · rw [Array.toList_map]; exact xsB_rel hb hf h.2
  · cases h
noncomputable def okMki (P : Program) (NG N : Nat) (o : Oper) (t : Nat) (x : X) (d : D) : Bool := dB o.dst d && (match o.op with | .makeInterface t' p => Nat.beq t' t && xB NG N p x && (match P.underlying t' with | some (.interface _) => false | some _ => true | none => false) | _ => false)
theorem snd_mki {t : Nat} {x : X} {d : D} (h : okMki P NG N o t x d = true) : Snd P NG B0 N C o (.mki t x d) := fun c _ fr s => by
  simp only [okMki, Bool.and_eq_true] at h
  obtain ⟨hd, h⟩ := h
  refine Ct.fin (do_pure hd fun r w a hb hs hf => ?_)
  split at h
  · rename_i t' p e'
    simp only [Bool.and_eq_true] at h
    obtain ⟨⟨ht, hx⟩, h⟩ := h
    obtain rfl := Nat.eq_of_beq_eq_true ht
    refine ⟨.iface t' (a.eval p), ?_, ⟨_, rfl, xB_rel hx hb hf⟩⟩
    rw [ex_makeInterface e']
    refine run_v ?_
    split at h
    · cases h
    · rename_i dd hu hn
      simp only [Instr.makeInterface, Sem.run_bind, run_und hn, Result.andThen_ok]
      cases dd <;> first | rfl | exact absurd rfl (hu _)
    · cases h
  · cases h
theorem nthL_rel {r : Rho} : ∀ {l : AV} {vs : List Value} (n : Nat), RelL r l vs → nthL l n ≠ .u → ∃ v, vs[n]? = some v ∧ Rel r (nthL l n) v
  | .nil, _, n, h, hu => absurd rfl hu
  | .cons x l, vs, n, h, hu => by
    obtain ⟨v, vs', rfl, h1, h2⟩ := h
    cases n with
    | zero => exact ⟨v, rfl, h1⟩
    | succ n => exact nthL_rel n h2 hu
  | .u, _, _, h, _ => by simp [RelL] at h
  | .i _ _, _, _, h, _ => by simp [RelL] at h
  | .b _, _, _, h, _ => by simp [RelL] at h
  | .p _ _, _, _, h, _ => by simp [RelL] at h
  | .np, _, _, h, _ => by simp [RelL] at h
  | .s .., _, _, h, _ => by simp [RelL] at h
  | .ns, _, _, h, _ => by simp [RelL] at h
  | .str _, _, _, h, _ => by simp [RelL] at h
  | .m _, _, _, h, _ => by simp [RelL] at h
  | .nm, _, _, h, _ => by simp [RelL] at h
  | .f .., _, _, h, _ => by simp [RelL] at h
  | .nf, _, _, h, _ => by simp [RelL] at h
  | .ifc .., _, _, h, _ => by simp [RelL] at h
  | .ni, _, _, h, _ => by simp [RelL] at h
  | .agg _, _, _, h, _ => by simp [RelL] at h
  | .tup _, _, _, h, _ => by simp [RelL] at h
noncomputable def okExt (NG N : Nat) (o : Oper) (i : Nat) (x : X) (d : D) : Bool := dB o.dst d && (match o.op with | .extract p j => xB NG N p x && Nat.beq j i | _ => false)
theorem snd_ext {i : Nat} {x : X} {d : D} (h : okExt NG N o i x d = true) : Snd P NG B0 N C o (.ext i x d) := fun c _ fr s => by
  simp only [okExt, Bool.and_eq_true] at h
  obtain ⟨hd, h⟩ := h
  show Ct (hExt i x d c fr s) _
  unfold hExt
  refine Ct.onT fun l e => Ct.isU fun hu => Ct.fin (do_pure hd fun r w a hb hs hf => ?_)
  split at h
  · rename_i p j e'
    simp only [Bool.and_eq_true] at h
    have h1 := xB_rel h.1 hb hf
    rw [e] at h1
    obtain ⟨vs, hv, h1⟩ := h1
    obtain rfl := Nat.eq_of_beq_eq_true h.2
    obtain ⟨v, hg, hr⟩ := nthL_rel j h1 hu
    refine ⟨v, ?_, hr⟩
    rw [ex_extract e', hv]
    refine run_v ?_
    rw [Array.getElem?_toList] at hg
    simp only [Instr.extract, hg, Sem.run_pure]
  · cases h
end
end Go.Proofs.YtenpbpgoglepfaaGreatDoor
namespace Go.Proofs.YtenpbpgoglepfaaGreatDoor
open Go.RowKit
set_option linter.unusedVariables false

section
variable {P : Program} {NG : Env} {B0 N : Nat} {C : CallE → Prop} {o : Oper} {E : Fr → St → Prop}
def aggD : TypeDesc → Bool
  | .struct _ | .array _ _ => true
  | _ => false
theorem run_isAgg {t : TypeId} {d : TypeDesc} (h : P.underlying t = some d) (w : World) : (isAgg t).run P w = .ok (aggD d) w := by
  unfold isAgg
  rw [Sem.run_bind, run_und h]
  cases d <;> rfl
noncomputable def aggB (P : Program) (t : TypeId) (b : Bool) : Bool := match P.underlying t with | some d => aggD d == b | none => false
theorem aggB_eq {t : TypeId} {b : Bool} (h : aggB P t b = true) (w : World) : (isAgg t).run P w = .ok b w := by
  unfold aggB at h
  split at h
  · rename_i d hd; rw [run_isAgg hd, ← beq_iff_eq.1 h]
  · cases h
theorem run_part1 {t : TypeId} {cs : Array Value} {off : Nat} {v : Value} (h : aggB P t false = true) (hv : cs[off]? = some v) (w : World) : (part t cs off).run P w = .ok v w := by
  unfold part
  simp only [Sem.run_bind, aggB_eq h, Result.andThen_ok, Bool.false_eq_true, if_false, hv, Sem.run_pure]
theorem run_partN {t n : Nat} {cs : Array Value} {off : Nat} (h : aggB P t true = true) (hs : szB P t n = true) (w : World) : (part t cs off).run P w = .ok (.agg (cs.extract off (off + n))) w := by
  unfold part
  simp only [Sem.run_bind, aggB_eq h, Result.andThen_ok, if_true, run_size (szB_eq hs), Sem.run_pure]
noncomputable def okFi1 (P : Program) (NG N : Nat) (o : Oper) (z : Nat) (x : X) (d : D) : Bool := dB o.dst d && (match o.op with | .field t p i => xB NG N p x && (match P.underlying t with | some (.struct fs) => (match fs[i]? with | some f => Nat.beq f.offset z && aggB P f.type false | none => false) | _ => false) | _ => false)
theorem snd_fi1 {z : Nat} {x : X} {d : D} (h : okFi1 P NG N o z x d = true) : Snd P NG B0 N C o (.fi1 z x d) := fun c _ fr s => by
  simp only [okFi1, Bool.and_eq_true] at h
  obtain ⟨hd, h⟩ := h
  show Ct (hFi1 z x d c fr s) _
  unfold hFi1
  refine Ct.onG fun l e => Ct.isU fun hu => Ct.fin (do_pure hd fun r w a hb hs hf => ?_)
  split at h
  · rename_i t p i e'
    simp only [Bool.and_eq_true] at h
    have h1 := xB_rel h.1 hb hf
    rw [e] at h1
    obtain ⟨vs, hv, h1⟩ := h1
    obtain ⟨v, hg, hr⟩ := nthL_rel z h1 hu
    obtain ⟨_, h⟩ := h
    split at h
    · rename_i fs hun
      split at h
      · rename_i f hfi
        simp only [Bool.and_eq_true] at h
        obtain rfl := Nat.eq_of_beq_eq_true h.1
        refine ⟨v, ?_, hr⟩
        rw [ex_field e', hv]
        refine run_v ?_
        rw [Array.getElem?_toList] at hg
        simp only [Instr.field, Sem.run_bind, run_und hun, Result.andThen_ok, hfi, asAgg, Sem.run_pure, run_part1 h.2 hg]
      · cases h
    · cases h
  · cases h
theorem dropL_rel {r : Rho} : ∀ {l : AV} {vs : List Value} (n : Nat), RelL r l vs → RelL r (dropL l n) (vs.drop n)
  | .nil, vs, n, h => by
    simp only [RelL] at h; subst h; simp only [List.drop_nil]; exact (show RelL r .nil [] from rfl)
  | .cons x l, vs, n, h => by
    obtain ⟨v, vs', rfl, h1, h2⟩ := h
    cases n with
    | zero => exact ⟨v, vs', rfl, h1, h2⟩
    | succ n => exact dropL_rel n h2
  | .u, _, _, h => by simp [RelL] at h
  | .i _ _, _, _, h => by simp [RelL] at h
  | .b _, _, _, h => by simp [RelL] at h
  | .p _ _, _, _, h => by simp [RelL] at h
  | .np, _, _, h => by simp [RelL] at h
  | .s .., _, _, h => by simp [RelL] at h
  | .ns, _, _, h => by simp [RelL] at h
  | .str _, _, _, h => by simp [RelL] at h
  | .m _, _, _, h => by simp [RelL] at h
  | .nm, _, _, h => by simp [RelL] at h
  | .f .., _, _, h => by simp [RelL] at h
  | .nf, _, _, h => by simp [RelL] at h
  | .ifc .., _, _, h => by simp [RelL] at h
  | .ni, _, _, h => by simp [RelL] at h
  | .agg _, _, _, h => by simp [RelL] at h
  | .tup _, _, _, h => by simp [RelL] at h
theorem takeL_rel {r : Rho} : ∀ {l : AV} {vs : List Value} (n : Nat), RelL r l vs → RelL r (takeL l n) (vs.take n)
  | .nil, vs, n, h => by
    simp only [RelL] at h; subst h; simp only [List.take_nil]; exact (show RelL r .nil [] from rfl)
  | .cons x l, vs, n, h => by
    obtain ⟨v, vs', rfl, h1, h2⟩ := h
    cases n with
    | zero => exact (show RelL r .nil [] from rfl)
    | succ n => exact ⟨v, _, rfl, h1, takeL_rel n h2⟩
  | .u, _, _, h => by simp [RelL] at h
  | .i _ _, _, _, h => by simp [RelL] at h
  | .b _, _, _, h => by simp [RelL] at h
  | .p _ _, _, _, h => by simp [RelL] at h
  | .np, _, _, h => by simp [RelL] at h
  | .s .., _, _, h => by simp [RelL] at h
  | .ns, _, _, h => by simp [RelL] at h
  | .str _, _, _, h => by simp [RelL] at h
  | .m _, _, _, h => by simp [RelL] at h
  | .nm, _, _, h => by simp [RelL] at h
  | .f .., _, _, h => by simp [RelL] at h
  | .nf, _, _, h => by simp [RelL] at h
  | .ifc .., _, _, h => by simp [RelL] at h
  | .ni, _, _, h => by simp [RelL] at h
  | .agg _, _, _, h => by simp [RelL] at h
  | .tup _, _, _, h => by simp [RelL] at h
noncomputable def okFin (P : Program) (NG N : Nat) (o : Oper) (z n : Nat) (x : X) (d : D) : Bool := dB o.dst d && (match o.op with | .field t p i => xB NG N p x && (match P.underlying t with | some (.struct fs) => (match fs[i]? with | some f => Nat.beq f.offset z && aggB P f.type true && szB P f.type n | none => false) | _ => false) | _ => false)
theorem snd_fin {z n : Nat} {x : X} {d : D} (h : okFin P NG N o z n x d = true) : Snd P NG B0 N C o (.fin z n x d) := fun c _ fr s => by
  simp only [okFin, Bool.and_eq_true] at h
  obtain ⟨hd, h⟩ := h
  show Ct (hFin z n x d c fr s) _
  unfold hFin
  refine Ct.onG fun l e => Ct.fin (do_pure hd fun r w a hb hs hf => ?_)
  split at h
  · rename_i t p i e'
    simp only [Bool.and_eq_true] at h
    have h1 := xB_rel h.1 hb hf
    rw [e] at h1
    obtain ⟨vs, hv, h1⟩ := h1
    obtain ⟨_, h⟩ := h
    split at h
    · rename_i fs hun
      split at h
      · rename_i f hfi
        simp only [Bool.and_eq_true] at h
        obtain rfl := Nat.eq_of_beq_eq_true h.1.1
        refine ⟨.agg (vs.extract f.offset (f.offset + n)), ?_, ⟨_, rfl, ?_⟩⟩
        · rw [ex_field e', hv]
          refine run_v ?_
          simp only [Instr.field, Sem.run_bind, run_und hun, Result.andThen_ok, hfi, asAgg, Sem.run_pure, run_partN h.1.2 h.2]
        · have e3 : (vs.extract f.offset (f.offset + n)).toList = (vs.toList.drop f.offset).take n := by
            rw [Array.toList_extract, List.extract_eq_take_drop]
            congr 1
            omega
          rw [e3]
          exact takeL_rel n (dropL_rel _ h1)
      · cases h
    · cases h
  · cases h
noncomputable def okIna (P : Program) (NG N : Nat) (o : Oper) (n : Nat) (x i : X) (d : D) : Bool := dB o.dst d && (match o.op with | .index t p q => xB NG N p x && xB NG N q i && (match P.underlying t with | some (.array n' el) => Nat.beq n' n && aggB P el false && szB P el 1 | _ => false) | _ => false)
theorem snd_ina {n : Nat} {x i : X} {d : D} (h : okIna P NG N o n x i d = true) : Snd P NG B0 N C o (.ina n x i d) := fun c _ fr s => by
  simp only [okIna, Bool.and_eq_true] at h
  obtain ⟨hd, h⟩ := h
  show Ct (hIna n x i d c fr s) _
  unfold hIna
  refine Ct.onG fun l e => Ct.onI fun t j e2 => Ct.natI fun m hm => Ct.must fun hlt => Ct.isU fun hu => Ct.fin (do_pure hd fun r w a hb hs hf => ?_)
  subst hm
  have hlt := blt_lt hlt
  split at h
  · rename_i ty p q e'
    simp only [Bool.and_eq_true] at h
    have h1 := xB_rel h.1.1 hb hf
    have h2 := xB_rel h.1.2 hb hf
    rw [e] at h1
    rw [e2] at h2
    obtain ⟨vs, hv, h1⟩ := h1
    simp only [Rel] at h2
    obtain ⟨v, hg, hr⟩ := nthL_rel m h1 hu
    obtain ⟨_, h⟩ := h
    split at h
    · rename_i n' el hun
      simp only [Bool.and_eq_true] at h
      obtain rfl := Nat.eq_of_beq_eq_true h.1.1
      refine ⟨v, ?_, hr⟩
      rw [ex_index e', hv, h2]
      refine run_v ?_
      rw [Array.getElem?_toList] at hg
      have hc : (0 : Int) ≤ (m : Int) ∧ (m : Int) < (n' : Int) := ⟨by omega, by omega⟩
      simp only [Instr.index, asIntOf, Sem.run_bind, Sem.run_pure, Result.andThen_ok, run_und hun, Int.ofNat_eq_natCast, Int.toNat_natCast]
      rw [if_pos hc]
      simp only [Sem.run_bind, run_size (szB_eq h.2), Result.andThen_ok, Nat.mul_one]
      exact run_part1 h.1.2 hg w
    · cases h
  · cases h
noncomputable def okIns (P : Program) (NG N : Nat) (o : Oper) (x i : X) (d : D) : Bool := dB o.dst d && (match o.op with | .index t p q => xB NG N p x && xB NG N q i && (match P.underlying t with | some .string => true | _ => false) | _ => false)
theorem snd_ins {x i : X} {d : D} (h : okIns P NG N o x i d = true) : Snd P NG B0 N C o (.ins x i d) := fun c _ fr s => by
  simp only [okIns, Bool.and_eq_true] at h
  obtain ⟨hd, h⟩ := h
  show Ct (hIns x i d c fr s) _
  unfold hIns
  refine Ct.onStr fun l e => Ct.onI fun t j e2 => Ct.natI fun m hm => ?_
  rcases hl : l[m]? with _ | b
  · exact Ct.bad
  refine Ct.fin (do_pure hd fun r w a hb hs hf => ?_)
  subst hm
  split at h
  · rename_i ty p q e'
    simp only [Bool.and_eq_true] at h
    have h1 := xB_rel h.1.1 hb hf
    have h2 := xB_rel h.1.2 hb hf
    rw [e] at h1
    rw [e2] at h2
    obtain ⟨str, hv, h1⟩ := h1
    simp only [Rel] at h2
    obtain ⟨_, h⟩ := h
    split at h
    · rename_i hun
      have : ∃ u : UInt8, str[m]? = some u ∧ u.toNat = r.byt b := by
        have hl2 : (l.map r.byt)[m]? = some (r.byt b) := by rw [List.getElem?_map, hl]; rfl
        rw [← h1, List.getElem?_map] at hl2
        rcases hu : str.data.toList[m]? with _ | u
        · rw [hu] at hl2; cases hl2
        · rw [hu] at hl2
          refine ⟨u, ?_, by simpa using hl2⟩
          have hm : m < str.size := by
            have := (List.getElem?_eq_some_iff.1 hu).1
            simpa using this
          have e4 := (List.getElem?_eq_some_iff.1 hu).2
          rw [getElem?_pos str m hm, ← e4]
          rfl
      obtain ⟨u, hu, hub⟩ := this
      refine ⟨.int .u8 u.toNat, ?_, by rw [hub]; exact natA_rel r b⟩
      rw [ex_index e', hv, h2]
      refine run_v ?_
      have hc : (0 : Int) ≤ (m : Int) := by omega
      simp only [Instr.index, asIntOf, Sem.run_bind, Sem.run_pure, Result.andThen_ok, run_und hun, Int.ofNat_eq_natCast, Int.toNat_natCast, if_pos hc, hu]
    · cases h
  · cases h
end
end Go.Proofs.YtenpbpgoglepfaaGreatDoor
namespace Go.Proofs.YtenpbpgoglepfaaGreatDoor
open Go.RowKit
set_option linter.unusedVariables false

section
variable {P : Program} {NG : Env} {B0 N : Nat} {C : CallE → Prop} {o : Oper} {E : Fr → St → Prop}
noncomputable def okCat (NG N : Nat) (o : Oper) (x y : X) (d : D) : Bool := dB o.dst d && (match o.op with | .binOp .add _ p p' _ => xB NG N p x && xB NG N p' y | _ => false)
theorem str_size {s : ByteArray} {l : List Nat} {f : Nat → Nat} (h : s.data.toList.map (fun b => b.toNat) = l.map f) : s.size = l.length := by
  rw [← List.length_map (f := f) (as := l), ← h, List.length_map, Array.length_toList]; rfl
theorem snd_cat {x y : X} {d : D} (h : okCat NG N o x y d = true) : Snd P NG B0 N C o (.cat x y d) := fun c _ fr s => by
  simp only [okCat, Bool.and_eq_true] at h
  obtain ⟨hd, h⟩ := h
  show Ct (hCat x y d c fr s) _
  unfold hCat
  refine Ct.onStr fun l e => Ct.onStr fun m e2 => Ct.must fun hl => Ct.fin (do_pure hd fun r w a hb hs hf => ?_)
  split at h
  · rename_i u p p' u' e'
    simp only [Bool.and_eq_true] at h
    have h1 := xB_rel h.1 hb hf
    have h2 := xB_rel h.2 hb hf
    rw [e] at h1
    rw [e2] at h2
    obtain ⟨s1, hv1, h1⟩ := h1
    obtain ⟨s2, hv2, h2⟩ := h2
    have hl := Nat.le_of_ble_eq_true hl
    have hl' : l.length + m.length ≤ 1000000 := hl
    refine ⟨.string (s1 ++ s2), ?_, ⟨_, rfl, ?_⟩⟩
    · rw [ex_binOp e', hv1, hv2]
      refine run_v ?_
      have hg : ¬ (((s1.size + s2.size : Nat) : Int) > IntKind.i64.max) := by
        rw [str_size h1, str_size h2]
        show ¬ (((l.length + m.length : Nat) : Int) > 9223372036854775807)
        omega
      have : (eqGuard .add u p p' (.string s1) (.string s2)).run P w = .ok () w := rfl
      rw [Sem.run_bind, this]
      show (Op.stringOp .add s1 s2).run P w = _
      simp only [Op.stringOp]
      rw [if_neg hg]
      rfl
    · rw [ByteArray.data_append, Array.toList_append, List.map_append, List.map_append, h1, h2]
  · cases h
noncomputable def xoB (NG N : Nat) : Option Operand → Option X → Bool
  | none, none => true
  | some p, some x => xB NG N p x
  | _, _ => false
/-- A bound: what is given, or so much. -/
def Bnd (x : Option X) (e : Nat) (fr : Fr) (n : Nat) : Prop := (x = none ∧ n = e) ∨ ∃ y t, x = some y ∧ X.ev y fr = .i t (.ofNat n)
theorem Ct.optN {x : Option X} {e : Nat} {fr : Fr} {f : Nat → K → R} (h : ∀ n, Bnd x e fr n → Ct (f n) E) : Ct (fun k => Go.Proofs.YtenpbpgoglepfaaGreatDoor.optN x e fr fun n => f n k) E := by
  cases x with
  | none => exact h e (.inl ⟨rfl, rfl⟩)
  | some y => exact Ct.onI (v := X.ev y fr) fun t j e1 => Ct.natI fun m hm => h m (.inr ⟨y, t, rfl, by rw [e1, hm]⟩)
/-- .. as the machine has it. -/
def BndV (p : Option Value) (e n : Nat) : Prop := (p = none ∧ n = e) ∨ ∃ t, p = some (.int t (n : Int))
theorem Bnd.val {x : Option X} {p : Option Operand} {e n : Nat} {fr : Fr} {r : Rho} {a : Act} (h : Bnd x e fr n) (hp : xoB NG N p x = true) (hb : Base NG r) (hf : FrR N r fr a) : BndV (p.map a.eval) e n := by
  rcases h with ⟨rfl, rfl⟩ | ⟨y, t, rfl, e1⟩
  · cases p with
    | none => exact .inl ⟨rfl, rfl⟩
    | some p => cases hp
  · cases p with
    | none => cases hp
    | some p =>
      have h1 := xB_rel hp hb hf
      rw [e1] at h1
      simp only [Rel] at h1
      exact .inr ⟨t, by rw [Option.map_some, h1]; rfl⟩
theorem run_bound {t : IntKind} {n y : Nat} {code : BoundsCode} (h : n ≤ y) (w : World) : (Instr.sliceBound (.int t (n : Int)) y code).run P w = .ok n w := by
  have hc : (0 : Int) ≤ (n : Int) ∧ (n : Int) ≤ (y : Int) := ⟨by omega, by omega⟩
  simp only [Instr.sliceBound, asIntOf, Sem.run_bind, Sem.run_pure, Result.andThen_ok, if_pos hc, Int.toNat_natCast]
def mxV (mx : Option Value) (c m : Nat) : Nat := match mx with | none => c | some _ => m
theorem run_bounds {b : Bool} {len cap cap' l h m : Nat} {lo hi mx : Option Value} (hlo : BndV lo 0 l) (hhi : BndV hi len h) (hmx : BndV mx cap m) (hm : mx ≠ none → hi ≠ none) (h1 : l ≤ h) (h2 : h ≤ m) (h3 : m ≤ cap) (h4 : cap ≤ cap') (w : World) :
    (Instr.sliceBounds b len cap' lo hi mx).run P w = .ok (l, h, mxV mx cap' m) w := by
  unfold Instr.sliceBounds
  rcases hmx with ⟨rfl, rfl⟩ | ⟨tm, rfl⟩
  · rcases hhi with ⟨rfl, rfl⟩ | ⟨th, rfl⟩
    · rcases hlo with ⟨rfl, rfl⟩ | ⟨tl, rfl⟩
      · simp only [Sem.run_bind, Sem.run_pure, Result.andThen_ok, mxV]
      · simp only [Sem.run_bind, Sem.run_pure, Result.andThen_ok, mxV, run_bound h1]
    · rcases hlo with ⟨rfl, rfl⟩ | ⟨tl, rfl⟩
      · simp only [Sem.run_bind, Sem.run_pure, Result.andThen_ok, mxV, run_bound (show h ≤ cap' by omega)]
      · simp only [Sem.run_bind, Sem.run_pure, Result.andThen_ok, mxV, run_bound h1, run_bound (show h ≤ cap' by omega)]
  · rcases hhi with ⟨rfl, rfl⟩ | ⟨th, rfl⟩
    · exact absurd rfl (hm (by simp))
    · rcases hlo with ⟨rfl, rfl⟩ | ⟨tl, rfl⟩
      · simp only [Sem.run_bind, Sem.run_pure, Result.andThen_ok, mxV, run_bound h2, run_bound (show m ≤ cap' by omega)]
      · simp only [Sem.run_bind, Sem.run_pure, Result.andThen_ok, mxV, run_bound h1, run_bound h2, run_bound (show m ≤ cap' by omega)]
noncomputable def okSlc (P : Program) (NG N : Nat) (o : Oper) (z : Nat) (x : X) (lo hi mx : Option X) (d : D) : Bool := dB o.dst d && (match o.op with | .slice t p l h m => xB NG N p x && xoB NG N l lo && xoB NG N h hi && xoB NG N m mx && (m.isNone || h.isSome) && (match P.underlying t with | some (.slice el) => szB P el z | _ => false) | _ => false)
theorem snd_slc {z : Nat} {x : X} {lo hi mx : Option X} {d : D} (hok : okSlc P NG N o z x lo hi mx d = true) : Snd P NG B0 N C o (.slc z x lo hi mx d) := fun c _ fr s => by
  simp only [okSlc, Bool.and_eq_true] at hok
  obtain ⟨hd, hok⟩ := hok
  split at hok
  case h_2 => cases hok
  rename_i ty p pl ph pm e'
  simp only [Bool.and_eq_true] at hok
  obtain ⟨⟨⟨⟨⟨hx, hl⟩, hh⟩, hm⟩, hmh⟩, hok⟩ := hok
  split at hok
  case h_2 => cases hok
  rename_i el hun
  have hsz := szB_eq hok
  have hmh' : ∀ a : Act, pm.map a.eval ≠ none → ph.map a.eval ≠ none := by
    intro a
    cases pm <;> cases ph <;> simp_all
  show Ct (hSlc z x lo hi mx d c fr s) _
  unfold hSlc
  refine Ct.isNs (fun _ => ?_) fun hns => ?_
  · refine Ct.onS fun b q z' len cap ex e => Ct.must fun hz => Ct.optN fun m hm1 => Ct.optN fun h hh1 => Ct.optN fun l hl1 => Ct.must fun c1 => Ct.must fun c2 => Ct.must fun c3 => Ct.strictN (Ct.strictN (Ct.strictN (Ct.fin (do_pure hd fun r w a hb hs hf => ?_))))
    obtain rfl := Nat.eq_of_beq_eq_true hz
    have c1 := Nat.le_of_ble_eq_true c1
    have c2 := Nat.le_of_ble_eq_true c2
    have c3 := Nat.le_of_ble_eq_true c3
    have h1 := xB_rel hx hb hf
    rw [e] at h1
    simp only [Rel] at h1
    obtain ⟨hbn, x0, c0, hv, hx0, hcap, hex, hlc, htot⟩ := h1
    have bl := hl1.val hl hb hf
    have bh := hh1.val hh hb hf
    have bm := hm1.val hm hb hf
    have run := run_bounds (P := P) (b := true) bl bh bm (hmh' a) c1 c2 c3 hcap w
    have hg : (execOp a.eval o).run P w = .ok (.value (.slice (if mxV (pm.map a.eval) c0 m = l then some ⟨r.blk b, x0, none⟩ else some ⟨r.blk b, x0 + l * z, none⟩) (h - l) (mxV (pm.map a.eval) c0 m - l))) w := by
      rw [ex_slice e', hv]
      refine run_v ?_
      simp only [Instr.sliceAt, Sem.run_bind, run_und hun, Result.andThen_ok, Instr.slice, run, run_size hsz, Sem.run_pure, Option.map_some, Addr.add_mid]
    refine ⟨_, hg, ?_⟩
    show Rel r (.s b _ z (h - l) (m - l) _) _
    cases mx with
    | none =>
      have : pm = none := by cases pm with | none => rfl | some _ => cases hm
      subst this
      rw [show mxV (Option.map a.eval none) c0 m = c0 from rfl]
      have hm2 : m = cap := by
        rcases hm1 with ⟨_, rfl⟩ | ⟨y, t, h', _⟩
        · rfl
        · cases h'
      subst hm2
      have e4 : (ifB (noneB none) ex true) = ex := rfl
      rw [e4]
      by_cases hml : c0 = l
      · have : m = l := by omega
        subst this
        have e5 : ifB (Nat.beq m m) q (Nat.add q (Nat.mul m z)) = q := by rw [Nat.beq_refl]; rfl
        rw [e5, if_pos hml]
        refine ⟨hbn, x0, c0 - m, rfl, fun hc => ?_, by omega, fun hc => by rw [hex hc], by omega, ?_⟩
        · omega
        · have : (c0 - m) * z ≤ c0 * z := Nat.mul_le_mul_right z (by omega)
          omega
      · rw [if_neg hml]
        refine ⟨hbn, x0 + l * z, c0 - l, rfl, fun hc => ?_, by omega, fun hc => by rw [hex hc], by omega, ?_⟩
        · have hne : m ≠ l := by omega
          have e5 : ifB (Nat.beq m l) q (Nat.add q (Nat.mul l z)) = q + l * z := by
            rcases hq : Nat.beq m l with _ | _
            · rfl
            · exact absurd (Nat.eq_of_beq_eq_true hq) hne
          rw [e5]
          have : x0 = r.off b + q := by
            exact hx0 (by omega)
          omega
        · have : l * z + (c0 - l) * z = c0 * z := by rw [← Nat.add_mul]; congr 1; omega
          omega
    | some y =>
      obtain ⟨pv, rfl⟩ : ∃ pv, pm = some pv := by cases pm with | none => cases hm | some v => exact ⟨v, rfl⟩
      rw [show mxV (Option.map a.eval (some pv)) c0 m = m from rfl]
      have e4 : (ifB (noneB (some y)) ex true) = true := rfl
      rw [e4]
      by_cases hml : m = l
      · subst hml
        have e5 : ifB (Nat.beq m m) q (Nat.add q (Nat.mul m z)) = q := by rw [Nat.beq_refl]; rfl
        rw [e5, if_pos rfl]
        refine ⟨hbn, x0, m - m, rfl, fun hc => absurd hc (by omega), by omega, fun _ => rfl, by omega, ?_⟩
        rw [Nat.sub_self, Nat.zero_mul]
        omega
      · rw [if_neg hml]
        have e5 : ifB (Nat.beq m l) q (Nat.add q (Nat.mul l z)) = q + l * z := by
          rcases hq : Nat.beq m l with _ | _
          · rfl
          · exact absurd (Nat.eq_of_beq_eq_true hq) hml
        rw [e5]
        have hx1 : x0 = r.off b + q := hx0 (by omega)
        refine ⟨hbn, x0 + l * z, m - l, rfl, fun _ => by omega, by omega, fun _ => rfl, by omega, ?_⟩
        have e6 : l * z + (m - l) * z = m * z := by rw [← Nat.add_mul]; congr 1; omega
        have e7 : m * z ≤ c0 * z := Nat.mul_le_mul_right z (by omega)
        omega
  · refine Ct.optN fun m hm1 => Ct.optN fun h hh1 => Ct.optN fun l hl1 => Ct.must fun c1 => Ct.must fun c2 => Ct.must fun c3 => Ct.fin (do_pure hd fun r w a hb hs hf => ?_)
    obtain rfl := Nat.eq_of_beq_eq_true c1
    obtain rfl := Nat.eq_of_beq_eq_true c2
    obtain rfl := Nat.eq_of_beq_eq_true c3
    have h1 := xB_rel hx hb hf
    rw [hns] at h1
    have hv : a.eval p = .slice none 0 0 := h1
    have run := run_bounds (P := P) (b := true) (hl1.val hl hb hf) (hh1.val hh hb hf) (hm1.val hm hb hf) (hmh' a) (Nat.le_refl 0) (Nat.le_refl 0) (Nat.le_refl 0) (Nat.le_refl 0) w
    have e0 : mxV (pm.map a.eval) 0 0 = 0 := by cases pm <;> rfl
    rw [e0] at run
    refine ⟨.slice none 0 0, ?_, rfl⟩
    rw [ex_slice e', hv]
    refine run_v ?_
    simp only [Instr.sliceAt, Sem.run_bind, run_und hun, Result.andThen_ok, Instr.slice, run, run_size hsz, Sem.run_pure, Option.map_none, if_true, Nat.sub_self]
noncomputable def okSls (P : Program) (NG N : Nat) (o : Oper) (x : X) (lo hi : Option X) (d : D) : Bool := dB o.dst d && (match o.op with | .slice t p l h none => xB NG N p x && xoB NG N l lo && xoB NG N h hi && (match P.underlying t with | some .string => true | _ => false) | _ => false)
theorem snd_sls {x : X} {lo hi : Option X} {d : D} (hok : okSls P NG N o x lo hi d = true) : Snd P NG B0 N C o (.sls x lo hi d) := fun c _ fr s => by
  simp only [okSls, Bool.and_eq_true] at hok
  obtain ⟨hd, hok⟩ := hok
  split at hok
  case h_2 => cases hok
  rename_i ty p pl ph e'
  simp only [Bool.and_eq_true] at hok
  obtain ⟨⟨⟨hx, hl⟩, hh⟩, hok⟩ := hok
  split at hok
  case h_2 => cases hok
  rename_i hun
  show Ct (hSls x lo hi d c fr s) _
  unfold hSls
  refine Ct.onStr fun l e => Ct.optN fun h hh1 => Ct.optN fun q hl1 => Ct.must fun c1 => Ct.must fun c2 => Ct.fin (do_pure hd fun r w a hb hs hf => ?_)
  have c1 := Nat.le_of_ble_eq_true c1
  have c2 := Nat.le_of_ble_eq_true c2
  have h1 := xB_rel hx hb hf
  rw [e] at h1
  obtain ⟨str, hv, h1⟩ := h1
  have hsz := str_size h1
  have bh := hh1.val hh hb hf
  rw [← hsz] at bh
  have run := run_bounds (P := P) (b := false) (mx := none) (hl1.val hl hb hf) bh (.inl ⟨rfl, rfl⟩ : BndV none str.size str.size) (fun h => absurd rfl h) c1 (by omega) (Nat.le_refl _) (Nat.le_refl _) w
  refine ⟨.string (str.extract q h), ?_, ⟨_, rfl, ?_⟩⟩
  · rw [ex_slice e', hv]
    refine run_v ?_
    simp only [Instr.sliceAt, Sem.run_bind, run_und hun, Result.andThen_ok, Instr.slice, Option.map_none, Option.isSome_none, Bool.false_eq_true, if_false, Sem.run_pure, run]
  · rw [List.map_take, List.map_drop, ← h1, ByteArray.data_extract, Array.toList_extract, List.extract_eq_take_drop, List.map_take, List.map_drop]
end
end Go.Proofs.YtenpbpgoglepfaaGreatDoor
