/- THE FUNCTIONS, AS THE ABSTRACT MACHINE SEES THEM: written by program (gen2.py). -/
import Derived.Test.YtfobgbnjicmnaaaGreatDoorKa406A2
set_option linter.all false
set_option linter.unusedVariables false
namespace Go.AM
abbrev LK:=List Value->AH->Prop
abbrev VK:=Value->AH->Prop
def i.f31:Nat:=2
def i.f29:Nat:=4
def i.f137:Nat:=8
def i.f134:Nat:=9
def i.f32:Nat:=10
def i.f135:Nat:=16
def i.f34:Nat:=19
def i.f35:Nat:=20
def i.f33:Nat:=21
def i.f30:Nat:=22
def i.f136:Nat:=39
def i.f108:Nat:=68
def i.f109:Nat:=74
def i.f112:Nat:=76
def i.f146:Nat:=89
def i.f110:Nat:=90
def i.f111:Nat:=97
def i.f25:Nat:=100
def i.f27:Nat:=102
def i.f26:Nat:=104
def i.f180:Nat:=132
def i.f28:Nat:=133
def i.f179:Nat:=154
def i.f105:Nat:=157
def i.f151:Nat:=161
def i.f172:Nat:=162
def i.f106:Nat:=164
def i.f107:Nat:=165
def i.f160:Nat:=175
def i.f157:Nat:=176
def i.f155:Nat:=177
def i.f11:Nat:=178
def i.f169:Nat:=179
def i.f170:Nat:=180
def i.f166:Nat:=181
def i.f174:Nat:=182
def i.f153:Nat:=183
def i.f163:Nat:=185
def i.f178:Nat:=186
def i.f175:Nat:=190
def i.f162:Nat:=191
def i.f161:Nat:=192
def i.f12:Nat:=193
def i.f164:Nat:=195
def i.f187:Nat:=198
def i.f141:Nat:=199
def i.f144:Nat:=200
def i.f21:Nat:=203
def i.f19:Nat:=204
def i.f18:Nat:=205
def i.f142:Nat:=208
def i.f143:Nat:=209
def i.f188:Nat:=218
def i.f138:Nat:=232
def i.f20:Nat:=310
def i.f139:Nat:=313
def i.f113:Nat:=342
def i.f15:Nat:=343
def i.f185:Nat:=344
def i.f36:Nat:=346
def i.f97:Nat:=347
def i.f17:Nat:=348
def i.f51:Nat:=349
def i.f186:Nat:=350
def i.f16:Nat:=355
def i.f122:Nat:=357
def i.f3:Nat:=359
def i.f37:Nat:=361
def i.f150:Nat:=362
def i.f40:Nat:=363
def i.f38:Nat:=364
def i.f149:Nat:=365
def i.f98:Nat:=366
def i.f47:Nat:=367
def i.f49:Nat:=368
def i.f46:Nat:=369
def i.f45:Nat:=370
def i.f100:Nat:=371
def i.f99:Nat:=372
def i.f102:Nat:=373
def i.f48:Nat:=374
def i.f58:Nat:=375
def i.f52:Nat:=377
def i.f114:Nat:=378
def i.f128:Nat:=379
def i.f140:Nat:=380
def i.f127:Nat:=381
def i.f125:Nat:=382
def i.f126:Nat:=383
def i.f6:Nat:=384
def i.f4:Nat:=385
def i.f5:Nat:=386
def i.f176:Nat:=390
def i.f42:Nat:=391
def i.f9:Nat:=392
def i.f43:Nat:=393
def i.f41:Nat:=394
def i.f171:Nat:=395
def i.f10:Nat:=396
def i.f50:Nat:=397
def i.f44:Nat:=398
def i.f101:Nat:=399
def i.f55:Nat:=400
def i.f57:Nat:=401
def i.f56:Nat:=402
def i.f59:Nat:=405
def i.f121:Nat:=408
def i.f124:Nat:=409
def i.f7:Nat:=410
def i.f8:Nat:=411
def i.f159:Nat:=413
def i.f177:Nat:=414
def i.f148:Nat:=415
def i.f13:Nat:=416
def i.f39:Nat:=417
def i.f145:Nat:=418
def i.f158:Nat:=419
def i.f156:Nat:=420
def i.f154:Nat:=421
def i.f168:Nat:=422
def i.f167:Nat:=423
def i.f165:Nat:=424
def i.f173:Nat:=425
def i.f152:Nat:=426
def i.f14:Nat:=427
def i.f104:Nat:=428
def i.f103:Nat:=429
def i.f60:Nat:=430
def i.f53:Nat:=431
def i.f54:Nat:=432
def i.f147:Nat:=436
def i.f0:Nat:=494
def i.f116:Nat:=498
def i.f115:Nat:=499
def i.f119:Nat:=500
def i.f117:Nat:=501
def i.f118:Nat:=502
def i.f62:Nat:=503
def i.f120:Nat:=504
def i.f181:Nat:=505
def i.f129:Nat:=506
def i.f123:Nat:=507
def i.f61:Nat:=508
def i.f2:Nat:=509
def i.f182:Nat:=510
def i.f68:Nat:=511
def i.f183:Nat:=512
def i.f70:Nat:=513
def i.f184:Nat:=514
def i.f90:Nat:=516
def i.f81:Nat:=518
def i.f83:Nat:=519
def i.f95:Nat:=520
def i.f89:Nat:=521
def i.f69:Nat:=522
def i.f91:Nat:=523
def i.f1:Nat:=524
def i.f94:Nat:=525
def i.f66:Nat:=526
def i.f92:Nat:=527
def i.f76:Nat:=528
def i.f84:Nat:=529
def i.f79:Nat:=530
def i.f23:Nat:=531
def i.f72:Nat:=532
def i.f73:Nat:=537
def i.f24:Nat:=538
def i.f63:Nat:=539
def i.f96:Nat:=543
def i.f78:Nat:=544
def i.f85:Nat:=545
def i.f75:Nat:=546
def i.f86:Nat:=547
def i.f80:Nat:=548
def i.f93:Nat:=549
def i.f65:Nat:=550
def i.f77:Nat:=551
def i.f67:Nat:=552
def i.f71:Nat:=553
def i.f82:Nat:=554
def i.f88:Nat:=555
def i.f87:Nat:=556
def i.f132:Nat:=557
def i.f74:Nat:=558
def i.f22:Nat:=561
def i.f130:Nat:=565
def i.f133:Nat:=566
def i.f131:Nat:=567
def i.f64:Nat:=569
def F.f116_j2 (E:Sy) (Q:VK) (t19 t20 t21 t22 t23 t24 t25 t26 t27 t28 t29:Value) (H:AH):Prop :=
 opt (aB t20 2) fun v1=>opt (aC v1 H) fun v2=>eH E.call t19 [(.int .u16 32768)] H fun v3 H1=>aC v1 H1=aC v1 H /\
 eH E.call t26 [v3,(.int .i64 111)] H1 fun v4 H2=>aC v1 H2=aC v1 H /\
 opt (aA .eql v2 v4) fun v5=>gd v5 true (fun k=>opt (aB t21 2) fun v=>k v H2) H2 fun v6 H3=>gd v5 true (fun k=>opt (aC v6 H3) fun v=>k v H3) H3 fun v7 H4=>gd v5 true (fun k=>k t26 H4) H4 fun v8 H5=>gd v5 true (fun k=>k t19 H5) H5 fun v9 H6=>gd v5 true (fun k=>eH E.call v9 [(.int .u16 16384)] H6 fun v h=>k v h) H6 fun v10 H7=>gdC v5 true (aC v6 H7=aC v6 H3) /\
 gd v5 true (fun k=>eH E.call v8 [v10,(.int .i64 0)] H7 fun v h=>k v h) H7 fun v11 H8=>gdC v5 true (aC v6 H8=aC v6 H3) /\
 gd v5 true (fun k=>opt (aA .eql v7 v11) fun v=>k v H8) H8 fun v12 H9=>opt (pick v5 v12 (.bool false)) fun v13=>gd v13 true (fun k=>opt (aB t22 2) fun v=>k v H9) H9 fun v14 H10=>gd v13 true (fun k=>opt (aC v14 H10) fun v=>k v H10) H10 fun v15 H11=>gd v13 true (fun k=>k t27 H11) H11 fun v16 H12=>gd v13 true (fun k=>opt (aA .eql v15 v16) fun v=>k v H12) H12 fun v17 H13=>opt (pick v13 v17 (.bool false)) fun v18=>gd v18 true (fun k=>opt (aB t23 2) fun v=>k v H13) H13 fun v19 H14=>gd v18 true (fun k=>opt (aC v19 H14) fun v=>k v H14) H14 fun v20 H15=>gd v18 true (fun k=>k t26 H15) H15 fun v21 H16=>gd v18 true (fun k=>k t19 H16) H16 fun v22 H17=>gd v18 true (fun k=>k t29 H17) H17 fun v23 H18=>gd v18 true (fun k=>eH E.call v22 [(.int .u16 32768)] H18 fun v h=>k v h) H18 fun v24 H19=>gdC v18 true (aC v19 H19=aC v19 H14) /\
 gd v18 true (fun k=>eH E.call v21 [v24,v23] H19 fun v h=>k v h) H19 fun v25 H20=>gdC v18 true (aC v19 H20=aC v19 H14) /\
 gd v18 true (fun k=>opt (aA .eql v20 v25) fun v=>k v H20) H20 fun v26 H21=>opt (pick v18 v26 (.bool false)) fun v27=>gd v27 true (fun k=>opt (aB t24 2) fun v=>k v H21) H21 fun v28 H22=>gd v27 true (fun k=>opt (aC v28 H22) fun v=>k v H22) H22 fun v29 H23=>gd v27 true (fun k=>k t26 H23) H23 fun v30 H24=>gd v27 true (fun k=>k t19 H24) H24 fun v31 H25=>gd v27 true (fun k=>k t28 H25) H25 fun v32 H26=>gd v27 true (fun k=>eH E.call v31 [(.int .u16 16384)] H26 fun v h=>k v h) H26 fun v33 H27=>gdC v27 true (aC v28 H27=aC v28 H22) /\
 gd v27 true (fun k=>eH E.call v30 [v33,v32] H27 fun v h=>k v h) H27 fun v34 H28=>gdC v27 true (aC v28 H28=aC v28 H22) /\
 gd v27 true (fun k=>opt (aA .eql v29 v34) fun v=>k v H28) H28 fun v35 H29=>opt (pick v27 v35 (.bool false)) fun v36=>gd v36 true (fun k=>opt (aB t25 2) fun v=>k v H29) H29 fun v37 H30=>gd v36 true (fun k=>opt (aC v37 H30) fun v=>k v H30) H30 fun v38 H31=>gd v36 true (fun k=>k t26 H31) H31 fun v39 H32=>gd v36 true (fun k=>k t19 H32) H32 fun v40 H33=>gd v36 true (fun k=>eH E.call v40 [(.int .u16 32768)] H33 fun v h=>k v h) H33 fun v41 H34=>gdC v36 true (aC v37 H34=aC v37 H30) /\
 gd v36 true (fun k=>eH E.call v39 [v41,(.int .i64 111)] H34 fun v h=>k v h) H34 fun v42 H35=>gdC v36 true (aC v37 H35=aC v37 H30) /\
 gd v36 true (fun k=>opt (aA .eql v38 v42) fun v=>k v H35) H35 fun v43 H36=>opt (pick v36 v43 (.bool false)) fun v44=>Q v44 H36
def F.f116_j1 (E:Sy) (Q:VK) (t2 t7 t8:Value) (H:AH):Prop :=
 opt (aE 6 t7 H) fun v1=>mk (bR 1 6 #[(.string ⟨#[]⟩),(.int .u32 0),(.slice none 0 0),(.int .u16 0),(.slice none 0 0),(.slice none 0 0)] [(0,v1)]) H fun v2 H1=>E.call (E.fid i.f119) [v2] H1 fun v3 H2=>opt (ext v3 0) fun v4=>opt (ext v3 1) fun v5=>eH E.call v5 [(.int .u32 157),(.int .u64 1),(.int .u64 0),(.string ⟨#[]⟩),(.string ⟨#[]⟩)] H2 fun v6 H3=>eH E.call v5 [(.int .u32 446),(.int .u64 0),(.int .u64 0),(.string ⟨#[]⟩),(.string ⟨#[]⟩)] H3 fun v7 H4=>opt (mF v7 2) fun v8=>opt (aA .neq v8 (.int .i64 0)) fun v9=>ifB v9 (
 Q (.bool false) H4) (
 opt (aA .rem t2 (.int .u8 4)) fun v10=>opt (aA .add (.int .u8 80) v10) fun v11=>opt (aR .u16 v11) fun v12=>opt (look 0 (.int .u16 0) false t8 v12 H4) fun v13=>bJ [(.int .u16 0)] H4 fun v14 H5=>opt (aQ v14 v13 H5) fun H6=>opt (some (.func (.func (E.fid i.f117)) #[] #[t7,v14])) fun v15=>eH E.call v5 [(.int .u32 41),(.int .u64 0),(.int .u64 0),(.string ⟨#[]⟩),(.string ⟨#[]⟩)] H6 fun v16 H7=>eH E.call v5 [(.int .u32 41),(.int .u64 0),(.int .u64 0),(.string ⟨#[]⟩),(.string ⟨#[]⟩)] H7 fun v17 H8=>opt (aR .u64 v11) fun v18=>eH E.call v5 [(.int .u32 42),(.int .u64 1),v18,(.string ⟨#[]⟩),(.string ⟨#[]⟩)] H8 fun v19 H9=>bJ [(.int .i64 0),(.slice none 0 0),(.int .i64 0),(.bool false)] H9 fun v20 H10=>opt (aG 4 v20 v19 H10) fun H11=>opt (aR .u64 v11) fun v21=>eH E.call v5 [(.int .u32 49),(.int .u64 0),v21,(.string ⟨#[]⟩),(.string ⟨#[]⟩)] H11 fun v22 H12=>bJ [(.int .i64 0),(.slice none 0 0),(.int .i64 0),(.bool false)] H12 fun v23 H13=>opt (aG 4 v23 v22 H13) fun H14=>eH E.call v5 [(.int .u32 50),(.int .u64 0),(.int .u64 0),(.string ⟨#[]⟩),(.string ⟨#[]⟩)] H14 fun v24 H15=>bJ [(.int .i64 0),(.slice none 0 0),(.int .i64 0),(.bool false)] H15 fun v25 H16=>opt (aG 4 v25 v24 H16) fun H17=>opt (aR .u64 v11) fun v26=>eH E.call v5 [(.int .u32 42),(.int .u64 1),v26,(.string ⟨#[]⟩),(.string ⟨#[]⟩)] H17 fun v27 H18=>bJ [(.int .i64 0),(.slice none 0 0),(.int .i64 0),(.bool false)] H18 fun v28 H19=>opt (aG 4 v28 v27 H19) fun H20=>opt (aR .u64 v11) fun v29=>eH E.call v5 [(.int .u32 49),(.int .u64 1),v29,(.string ⟨#[]⟩),(.string ⟨#[]⟩)] H20 fun v30 H21=>bJ [(.int .i64 0),(.slice none 0 0),(.int .i64 0),(.bool false)] H21 fun v31 H22=>opt (aG 4 v31 v30 H22) fun H23=>eH E.call v5 [(.int .u32 3),(.int .u64 0),(.int .u64 0),(.string ⟨#[]⟩),(.string ⟨#[]⟩)] H23 fun v32 H24=>opt (aR .u64 v11) fun v33=>eH E.call v5 [(.int .u32 42),(.int .u64 1),v33,(.string ⟨#[]⟩),(.string ⟨#[]⟩)] H24 fun v34 H25=>bJ [(.int .i64 0),(.slice none 0 0),(.int .i64 0),(.bool false)] H25 fun v35 H26=>opt (aG 4 v35 v34 H26) fun H27=>eH E.call v15 [(.int .u16 16384)] H27 fun v36 H28=>ifB v36 (
 F.f116_j2 E Q v15 v20 v23 v25 v28 v31 v35 (.func (.func (E.fid i.f118)) #[] #[]) (.int .i64 0) (.int .i64 98) (.int .i64 0) H28) (
 F.f116_j2 E Q v15 v20 v23 v25 v28 v31 v35 (.func (.func (E.fid i.f118)) #[] #[]) (.int .i64 22) (.int .i64 0) (.int .i64 111) H28))
def F.f116_l1 (E:Sy) (Q:VK) (t2 t7 t8 t38 t39 t40:Value) (H:AH) (X0:LK):Prop :=
 opt (aA .lss t40 t39) fun v1=>ifB v1 (
 opt (aK 1 t38 t40) fun v2=>opt (aC v2 H) fun v3=>opt (aA .geq t40 (.int .i64 10)) fun v4=>ifB v4 (
 F.f116_j1 E Q t2 t7 t8 H) (
 opt (aA .rem v3 (.int .u8 4)) fun v5=>opt (aA .add (.int .u8 80) v5) fun v6=>opt (aR .u16 v6) fun v7=>opt (aA .quo v3 (.int .u8 4)) fun v8=>opt (aA .rem v8 (.int .u8 3)) fun v9=>opt (aA .add (.int .u8 1) v9) fun v10=>opt (aR .u16 v10) fun v11=>opt (aA .shl v11 (.int .u64 14)) fun v12=>opt (aB t7 3) fun v13=>opt (aC v13 H) fun v14=>opt (aA .and v12 v14) fun v15=>opt (look 0 (.int .u16 0) true t8 v7 H) fun v16=>opt (ext v16 0) fun v17=>opt (ext v16 1) fun v18=>opt (un .not v18) fun v19=>gd v19 true (fun k=>k v15 H) H fun v20 H1=>gd v19 true (fun k=>opt (aA .neq v20 (.int .u16 0)) fun v=>k v H1) H1 fun v21 H2=>opt (pick v19 v21 (.bool false)) fun v22=>ifB v22 (
 opt (cN 0 t8 v7 v15 H2) fun H3=>opt (aB t7 5) fun v23=>opt (aC v23 H3) fun v24=>opt (aX [(0,1),(1,1)] #[(.int .u16 0),(.int .u16 0)] [(0,v7),(1,v15)]) fun v25=>mk (bR 1 2 #[(.int .u16 0),(.int .u16 0)] [(0,v25)]) H3 fun v26 H4=>eK (app 2 4 v24 v26 H4) fun v27 H5=>opt (aB t7 5) fun v28=>opt (aQ v28 v27 H5) fun H6=>opt (aA .add t40 (.int .i64 1)) fun v29=>X0 [t2,t7,t8,t38,t39,v29] H6) (
 opt (aA .add t40 (.int .i64 1)) fun v30=>X0 [t2,t7,t8,t38,t39,v30] H2))) (
 F.f116_j1 E Q t2 t7 t8 H)
def F.f116 (E:Sy) (x0 x1 x2:Value) (H:AH) (Q:VK):Prop :=
 E.call (E.fid i.f115) [] H fun v1 H1=>opt (un .not v1) fun v2=>ifB v2 (
 Q (.bool false) H1) (
 opt (aA .rem x1 (.int .u8 4)) fun v3=>opt (aR .u16 v3) fun v4=>opt (aA .shl v4 (.int .u64 14)) fun v5=>opt (aX [(0,1),(1,1),(2,1),(3,1),(4,1),(5,1)] #[(.string ⟨#[]⟩),(.int .u32 0),(.slice none 0 0),(.int .u16 0),(.slice none 0 0),(.slice none 0 0)] [(0,(.string ⟨#[112]⟩)),(1,(.int .u32 2147418112)),(3,v5)]) fun v6=>bJ [(.string ⟨#[]⟩),(.int .u32 0),(.slice none 0 0),(.int .u16 0),(.slice none 0 0),(.slice none 0 0)] H1 fun v7 H2=>opt (aG 6 v7 v6 H2) fun H3=>lM H3 fun v8 H4=>opt (lenSlc x0) fun v9=>aM (fun l H X0=>F.f116_l1 E Q (nth l 0) (nth l 1) (nth l 2) (nth l 3) (nth l 4) (nth l 5) H X0) [x2,v7,v8,x0,v9,(.int .i64 0)] H4)

def F.f119 (E:Sy) (x0:Value) (H:AH) (Q:VK):Prop :=
 E.call (E.fid i.f62) [x0,(.int .i64 60),(.int .i64 8)] H fun v1 H1=>opt (ext v1 0) fun v2=>opt (ext v1 1) fun v3=>bJ [(.pointer none)] H1 fun v4 H2=>opt (aQ v4 v2 H2) fun H3=>opt (aC v4 H3) fun v5=>opt (some (.func (.func (E.fid i.f120)) #[] #[v4])) fun v6=>Q (.tuple #[v5,v6]) H3

def F.f117 (E:Sy) (x0 x1 x2:Value) (H:AH) (Q:VK):Prop :=
 opt (aB x1 3) fun v1=>opt (aC v1 H) fun v2=>opt (aA .and x0 v2) fun v3=>opt (aC x2 H) fun v4=>opt (aA .andNot v3 v4) fun v5=>opt (aA .eql v5 (.int .u16 0)) fun v6=>Q v6 H

def F.f118 (E:Sy) (x0 x1:Value) (H:AH) (Q:VK):Prop :=
 opt (un .not x0) fun v1=>ifB v1 (
 Q (.int .i64 13) H) (
 Q x1 H)

def F.f62_l1 (E:Sy) (Q:VK) (t8 t24 t25 t26:Value) (H:AH) (X0:LK):Prop :=
 opt (aA .lss t26 t25) fun v1=>ifB v1 (
 opt (aK 6 t24 t26) fun v2=>opt (aE 6 v2 H) fun v3=>bJ [(.string ⟨#[]⟩),(.int .u32 0),(.slice none 0 0),(.int .u16 0),(.slice none 0 0),(.slice none 0 0)] H fun v4 H1=>opt (aG 6 v4 v3 H1) fun H2=>opt (aE 6 v4 H2) fun v5=>opt (aI t8) fun v6=>opt (aB v6 3) fun v7=>opt (aC v7 H2) fun v8=>E.call (E.fid i.f15) [v5,v8] H2 fun v9 H3=>opt (ext v9 0) fun v10=>opt (ext v9 1) fun v11=>opt (aA .neq v11 (.int .i64 0)) fun v12=>ifB v12 (
 Q (.tuple #[(.pointer none),v11]) H3) (
 opt (aI t8) fun v13=>opt (aB v13 4) fun v14=>opt (aC v14 H3) fun v15=>opt (aE 6 v4 H3) fun v16=>opt (aI t8) fun v17=>opt (aB v17 5) fun v18=>opt (aC v18 H3) fun v19=>mk (bR 1 1 #[(.pointer none)] [(0,v10)]) H3 fun v20 H4=>E.call (E.fid i.f123) [v16] H4 fun v21 H5=>H5.get H3.next=H4.get H3.next /\
 aC v18 H5=aC v18 H3 /\
 aC v14 H5=aC v14 H3 /\
 mk (bR 1 6 #[(.string ⟨#[]⟩),(.int .u32 0),(.slice none 0 0),(.int .u16 0),(.slice none 0 0),(.slice none 0 0)] [(0,v21)]) H5 fun v22 H6=>eK (app 6 104 v15 v22 H6) fun v23 H7=>H7.get H3.next=H4.get H3.next /\
 aC v18 H7=aC v18 H3 /\
 eK (app 1 8 v19 v20 H7) fun v24 H8=>opt (aI t8) fun v25=>opt (aB v25 4) fun v26=>opt (aQ v26 v23 H8) fun H9=>opt (aI t8) fun v27=>opt (aB v27 5) fun v28=>opt (aQ v28 v24 H9) fun H10=>opt (aA .add t26 (.int .i64 1)) fun v29=>X0 [t8,t24,t25,v29] H10)) (
 opt (aI t8) fun v30=>opt (aB v30 0) fun v31=>opt (aC v31 H) fun v32=>opt (aI v32) fun v33=>opt (aB v33 0) fun v34=>opt (aC v34 H) fun v35=>E.call (E.fid i.f27) [v35,(.int .u16 1),(.bool true)] H fun v36 H11=>opt (aI t8) fun v37=>opt (aB v37 0) fun v38=>opt (aC v38 H11) fun v39=>opt (aI v39) fun v40=>opt (aB v40 1) fun v41=>opt (aC v41 H11) fun v42=>E.call (E.fid i.f109) [v42,(.int .i64 0),(.bool true)] H11 fun v43 H12=>Q (.tuple #[t8,(.int .i64 0)]) H12)
def F.f62 (E:Sy) (x0 x1 x2:Value) (H:AH) (Q:VK):Prop :=
 opt (lenSlc x0) fun v1=>opt (aA .gtr v1 (.int .i64 16)) fun v2=>ifB v2 (
 Q (.tuple #[(.pointer none),(.int .i64 205)]) H) (
 E.call (E.fid i.f187) [x1] H fun v3 H1=>E.call (E.fid i.f181) [x2] H1 fun v4 H2=>E.call (E.fid i.f129) [] H2 fun v5 H3=>E.call (E.fid i.f113) [] H3 fun v6 H4=>opt (aX [(0,1),(1,1),(2,1),(3,1),(4,1),(5,1),(6,1),(7,1)] #[(.pointer none),(.pointer none),(.pointer none),(.pointer none),(.slice none 0 0),(.slice none 0 0),(.int .i64 0),(.int .i64 0)] [(0,v3),(1,v4),(2,v5),(3,v6)]) fun v7=>mk (eA v7) H4 fun v8 H5=>opt (lenSlc x0) fun v9=>aM (fun l H X0=>F.f62_l1 E Q (nth l 0) (nth l 1) (nth l 2) (nth l 3) H X0) [v8,x0,v9,(.int .i64 0)] H5)

def F.f120 (E:Sy) (x0 x1 x2 x3 x4 x5:Value) (H:AH) (Q:VK):Prop :=
 bJ [(.int .i64 0),(.slice none 0 0),(.int .i64 0),(.bool false)] H fun v1 H1=>opt (aC x5 H1) fun v2=>opt (mU 1 #[(.int .u64 0),(.int .u64 0)] [(0,x1),(1,x2)]) fun v3=>opt (mU 1 #[(.string ⟨#[]⟩),(.string ⟨#[]⟩)] [(0,x3),(1,x4)]) fun v4=>opt (aX [(0,1),(1,1),(2,1),(3,2),(5,2)] #[(.int .u8 0),(.bool false),(.int .u32 0),(.int .u64 0),(.int .u64 0),(.string ⟨#[]⟩),(.string ⟨#[]⟩)] [(0,(.int .u8 1)),(2,x0),(3,v3),(4,v4)]) fun v5=>E.call (E.fid i.f61) [v2,v5] H1 fun v6 H2=>opt (aG 4 v1 v6 H2) fun H3=>opt (aE 4 v1 H3) fun v7=>Q v7 H3

def F.f187 (E:Sy) (x0:Value) (H:AH) (Q:VK):Prop :=
 E.call (E.fid i.f25) [x0] H fun v1 H1=>E.call (E.fid i.f108) [] H1 fun v2 H2=>opt (aX [(0,1),(1,1)] #[(.pointer none),(.pointer none)] [(0,v1),(1,v2)]) fun v3=>mk (eA v3) H2 fun v4 H3=>Q v4 H3

def F.f181 (E:Sy) (x0:Value) (H:AH) (Q:VK):Prop :=
 lM H fun v1 H1=>lM H1 fun v2 H2=>opt (jH max2 [x0,(.int .i64 1)]) fun v3=>opt (jH min2 [v3,(.int .i64 16)]) fun v4=>opt (aX [(0,1),(1,1),(2,1)] #[(.map none),(.map none),(.int .i64 0)] [(0,v1),(1,v2),(2,v4)]) fun v5=>mk (eA v5) H2 fun v6 H3=>opt (aI v6) fun v7=>opt (aB v7 0) fun v8=>opt (aC v8 H3) fun v9=>opt (aX [(0,16)] (zs 16 (.pointer none)).toArray []) fun v10=>mk (eA v10) H3 fun v11 H4=>E.call (E.fid i.f112) [] H4 fun v12 H5=>H5.get H3.next=H4.get H3.next /\
 aC v8 H5=aC v8 H3 /\
 opt (aX [(0,1),(1,1),(2,2),(4,1),(5,1),(6,1),(7,1)] #[(.int .u8 0),(.int .u8 0),(.int .i64 0),(.int .u16 0),(.pointer none),(.bool false),(.slice none 0 0),(.pointer none)] [(0,(.int .u8 1)),(2,v12),(3,v11)]) fun v13=>mk (eA v13) H5 fun v14 H6=>opt (cN 0 v9 (.int .u8 1) v14 H6) fun H7=>Q v6 H7

def F.f129 (E:Sy) (H:AH) (Q:VK):Prop :=
 lM H fun v1 H1=>opt (aX [(0,1)] #[(.map none)] [(0,v1)]) fun v2=>mk (eA v2) H1 fun v3 H2=>Q v3 H2

def F.f113 (E:Sy) (H:AH) (Q:VK):Prop :=
 opt (aX [(0,3),(3,1),(4,1),(5,1),(6,1)] #[(.int .u32 0),(.int .i32 0),(.int .u32 0),(.map none),(.map none),(.int .i64 0),(.int .i64 0)] []) fun v1=>mk (eA v1) H fun v2 H1=>Q v2 H1

def F.f15 (E:Sy) (x0 x1:Value) (H:AH) (Q:VK):Prop :=
 mk (eA x0) H fun v1 H1=>opt (aE 6 v1 H1) fun v2=>E.call (E.fid i.f16) [v2,x1] H1 fun v3 H2=>opt (ext v3 0) fun v4=>opt (ext v3 1) fun v5=>opt (aA .neq v5 (.int .i64 0)) fun v6=>ifB v6 (
 Q (.tuple #[(.pointer none),v5]) H2) (
 E.call (E.fid i.f186) [v4] H2 fun v7 H3=>opt (ext v7 0) fun v8=>opt (ext v7 1) fun v9=>bJ [(.int .i64 0),(.int .i64 0)] H3 fun v10 H4=>opt (aG 2 v10 v9 H4) fun H5=>opt (aE 2 v10 H5) fun v11=>opt (aX [(0,1),(1,1)] #[(.int .i64 0),(.int .i64 0)] []) fun v12=>opt (iS [0,0] .neq v11 v12) fun v13=>ifB v13 (
 opt (aB v10 1) fun v14=>opt (aC v14 H5) fun v15=>Q (.tuple #[(.pointer none),v15]) H5) (
 Q (.tuple #[v8,(.int .i64 0)]) H5))

def F.f123_l1 (E:Sy) (Q:VK) (t1 t2 t3 t7 t8 t9:Value) (H:AH) (X0:LK):Prop :=
 opt (aA .lss t9 t8) fun v1=>ifB v1 (
 opt (aK 3 t7 t9) fun v2=>opt (aE 3 v2 H) fun v3=>bJ [(.int .u32 0),(.int .u32 0),(.slice none 0 0)] H fun v4 H1=>opt (aG 3 v4 v3 H1) fun H2=>opt (aB v4 2) fun v5=>opt (aC v5 H2) fun v6=>eK (app 4 32 (.slice none 0 0) v6 H2) fun v7 H3=>opt (aB v4 2) fun v8=>opt (aQ v8 v7 H3) fun H4=>opt (aE 3 v4 H4) fun v9=>mk (bR 1 3 #[(.int .u32 0),(.int .u32 0),(.slice none 0 0)] [(0,v9)]) H4 fun v10 H5=>eK (app 3 32 t3 v10 H5) fun v11 H6=>opt (aA .add t9 (.int .i64 1)) fun v12=>X0 [t1,t2,v11,t7,t8,v12] H6) (
 opt (aB t1 2) fun v13=>opt (aQ v13 t3 H) fun H7=>opt (aB t1 4) fun v14=>opt (aC v14 H7) fun v15=>eK (app 2 24 (.slice none 0 0) v15 H7) fun v16 H8=>opt (aB t1 4) fun v17=>opt (aQ v17 v16 H8) fun H9=>opt (aB t1 5) fun v18=>opt (aC v18 H9) fun v19=>eK (app 2 4 (.slice none 0 0) v19 H9) fun v20 H10=>opt (aB t1 5) fun v21=>opt (aQ v21 v20 H10) fun H11=>opt (aE 6 t1 H11) fun v22=>opt (aG 6 t2 v22 H11) fun H12=>opt (aE 6 t2 H12) fun v23=>Q v23 H12)
def F.f123 (E:Sy) (x0:Value) (H:AH) (Q:VK):Prop :=
 mk (eA x0) H fun v1 H1=>bJ [(.string ⟨#[]⟩),(.int .u32 0),(.slice none 0 0),(.int .u16 0),(.slice none 0 0),(.slice none 0 0)] H1 fun v2 H2=>opt (aB v1 2) fun v3=>opt (aC v3 H2) fun v4=>opt (lenSlc v4) fun v5=>aM (fun l H X0=>F.f123_l1 E Q (nth l 0) (nth l 1) (nth l 2) (nth l 3) (nth l 4) (nth l 5) H X0) [v1,v2,(.slice none 0 0),v4,v5,(.int .i64 0)] H2

def F.f27 (E:Sy) (x0 x1 x2:Value) (H:AH) (Q:VK):Prop :=
 E.call (E.fid i.f26) [x0,x1] H fun v1 H1=>opt (bW dB .eql v1 (.pointer none)) fun v2=>ifB v2 (
 Q (.int .i64 2) H1) (
 opt (un .not x2) fun v3=>gd v3 true (fun k=>k v1 H1) H1 fun v4 H2=>gd v3 true (fun k=>opt (aI v4) fun v=>k v H2) H2 fun v5 H3=>gd v3 true (fun k=>opt (aB v5 7) fun v=>k v H3) H3 fun v6 H4=>gd v3 true (fun k=>opt (aC v6 H4) fun v=>k v H4) H4 fun v7 H5=>gd v3 true (fun k=>opt (aA .eql v7 (.int .i64 0)) fun v=>k v H5) H5 fun v8 H6=>opt (pick v3 v8 (.bool false)) fun v9=>ifB v9 (
 Q (.int .i64 22) H6) (
 ifB x2 (
 opt (aI v1) fun v10=>opt (aB v10 7) fun v11=>opt (aC v11 H6) fun v12=>opt (aA .add v12 (.int .i64 1)) fun v13=>opt (aI v1) fun v14=>opt (aB v14 7) fun v15=>opt (aQ v15 v13 H6) fun H7=>Q (.int .i64 0) H7) (
 opt (aI v1) fun v16=>opt (aB v16 7) fun v17=>opt (aC v17 H6) fun v18=>opt (aA .sub v18 (.int .i64 1)) fun v19=>opt (aI v1) fun v20=>opt (aB v20 7) fun v21=>opt (aQ v21 v19 H6) fun H8=>E.call (E.fid i.f28) [x0,x1] H8 fun v22 H9=>Q (.int .i64 0) H9)))

def F.f109 (E:Sy) (x0 x1 x2:Value) (H:AH) (Q:VK):Prop :=
 E.call (E.fid i.f110) [x0,x1] H fun v1 H1=>opt (aA .lss v1 (.int .i64 0)) fun v2=>ifB v2 (
 Q (.int .i64 2) H1) (
 ifB x2 (
 opt (aI x0) fun v3=>opt (aB v3 0) fun v4=>opt (aC v4 H1) fun v5=>opt (aK 5 v5 v1) fun v6=>opt (aB v6 4) fun v7=>opt (aC v7 H1) fun v8=>opt (aA .add v8 (.int .i64 1)) fun v9=>opt (aK 5 v5 v1) fun v10=>opt (aB v10 4) fun v11=>opt (aQ v11 v9 H1) fun H2=>Q (.int .i64 0) H2) (
 opt (aI x0) fun v12=>opt (aB v12 0) fun v13=>opt (aC v13 H1) fun v14=>opt (aK 5 v14 v1) fun v15=>opt (aB v15 4) fun v16=>opt (aC v16 H1) fun v17=>opt (aA .eql v17 (.int .i64 0)) fun v18=>ifB v18 (
 Q (.int .i64 22) H1) (
 opt (aI x0) fun v19=>opt (aB v19 0) fun v20=>opt (aC v20 H1) fun v21=>opt (aK 5 v21 v1) fun v22=>opt (aB v22 4) fun v23=>opt (aC v23 H1) fun v24=>opt (aA .sub v24 (.int .i64 1)) fun v25=>opt (aK 5 v21 v1) fun v26=>opt (aB v26 4) fun v27=>opt (aQ v27 v25 H1) fun H3=>Q (.int .i64 0) H3)))

def F.f61_j1 (E:Sy) (Q:VK) (t3 t4 t6:Value) (H:AH):Prop :=
 opt (aB t3 1) fun v1=>opt (aC v1 H) fun v2=>ifB v2 (
 E.call (E.fid i.f2) [(.int .i64 38)] H fun v3 H1=>opt (aG 4 t4 v3 H1) fun H2=>opt (aE 4 t4 H2) fun v4=>Q v4 H2) (
 E.call (E.fid i.f68) [t6] H fun v5 H3=>opt (aG 4 t4 v5 H3) fun H4=>opt (aE 4 t4 H4) fun v6=>Q v6 H4)
def F.f61 (E:Sy) (x0 x1:Value) (H:AH) (Q:VK):Prop :=
 mk (eA x1) H fun v1 H1=>bJ [(.int .i64 0),(.slice none 0 0),(.int .i64 0),(.bool false)] H1 fun v2 H2=>opt (bW dB .eql x0 (.pointer none)) fun v3=>ifB v3 (
 E.call (E.fid i.f2) [(.int .i64 201)] H2 fun v4 H3=>opt (aG 4 v2 v4 H3) fun H4=>opt (aE 4 v2 H4) fun v5=>Q v5 H4) (
 opt (aI x0) fun v6=>opt (aB v6 6) fun v7=>E.call (E.fid i.f180) [v7,(.int .i64 1)] H2 fun v8 H5=>opt (aI x0) fun v9=>opt (aB v9 1) fun v10=>opt (aC v10 H5) fun v11=>opt (aB v1 0) fun v12=>opt (aC v12 H5) fun v13=>E.call (E.fid i.f182) [v11,v13] H5 fun v14 H6=>opt (bW dB .eql v14 (.pointer none)) fun v15=>ifB v15 (
 E.call (E.fid i.f2) [(.int .i64 3)] H6 fun v16 H7=>opt (aG 4 v2 v16 H7) fun H8=>opt (aE 4 v2 H8) fun v17=>Q v17 H8) (
 opt (aE 7 v1 H6) fun v18=>opt (aX [(0,1),(1,1),(2,7)] #[(.pointer none),(.pointer none),(.int .u8 0),(.bool false),(.int .u32 0),(.int .u64 0),(.int .u64 0),(.string ⟨#[]⟩),(.string ⟨#[]⟩)] [(0,x0),(1,v14),(2,v18)]) fun v19=>mk (eA v19) H6 fun v20 H9=>opt (aE 7 v1 H9) fun v21=>E.call (E.fid i.f0) [v21] H9 fun v22 H10=>E.call (E.fid i.f183) [v14,v22] H10 fun v23 H11=>E.call (E.fid i.f134) [v23] H11 fun v24 H12=>opt (aA .eql v24 (.int .u32 2147483648)) fun v25=>ifB v25 (
 E.call (E.fid i.f70) [v20,(.int .i64 (-1))] H12 fun v26 H13=>opt (aX [(0,1),(1,1),(2,1),(3,1)] #[(.int .i64 0),(.slice none 0 0),(.int .i64 0),(.bool false)] [(0,(.int .i64 (-1))),(3,(.bool true))]) fun v27=>opt (aG 4 v2 v27 H13) fun H14=>opt (aE 4 v2 H14) fun v28=>Q v28 H14) (
 opt (aA .eql v24 (.int .u32 327680)) fun v29=>ifB v29 (
 E.call (E.fid i.f135) [v23] H12 fun v30 H15=>E.call (E.fid i.f2) [v30] H15 fun v31 H16=>opt (aG 4 v2 v31 H16) fun H17=>opt (aE 4 v2 H17) fun v32=>Q v32 H17) (
 opt (aA .eql v24 (.int .u32 2147221504)) fun v33=>ifB v33 (
 opt (aI x0) fun v34=>opt (aB v34 7) fun v35=>E.call (E.fid i.f180) [v35,(.int .i64 1)] H12 fun v36 H18=>F.f61_j1 E Q v1 v2 v20 H18) (
 F.f61_j1 E Q v1 v2 v20 H12)))))

def F.f25 (E:Sy) (x0:Value) (H:AH) (Q:VK):Prop :=
 lM H fun v1 H1=>opt (jH max2 [x0,(.int .i64 1)]) fun v2=>opt (jH min2 [v2,(.int .i64 256)]) fun v3=>opt (aX [(0,1),(1,1),(2,1)] #[(.map none),(.int .i64 0),(.int .i64 0)] [(0,v1),(1,v3)]) fun v4=>mk (eA v4) H1 fun v5 H2=>opt (aI v5) fun v6=>opt (aB v6 0) fun v7=>opt (aC v7 H2) fun v8=>lM H2 fun v9 H3=>opt (aX [(0,1),(1,1),(2,1),(3,1),(4,1),(5,1),(6,1),(7,1)] #[(.int .u16 0),(.int .u8 0),(.slice none 0 0),(.map none),(.int .u16 0),(.string ⟨#[]⟩),(.int .i64 0),(.int .i64 0)] [(0,(.int .u16 1)),(1,(.int .u8 2)),(3,v9),(4,(.int .u16 1)),(6,(.int .i64 1))]) fun v10=>mk (eA v10) H3 fun v11 H4=>opt (cN 0 v8 (.int .u16 1) v11 H4) fun H5=>Q v5 H5

def F.f108 (E:Sy) (H:AH) (Q:VK):Prop :=
 opt (aX [(0,1),(1,2),(3,1),(4,1)] #[(.int .i64 0),(.int .i64 0),(.int .u16 0),(.int .u16 0),(.int .i64 0)] [(2,(.int .u16 1))]) fun v1=>mk (bR 1 5 #[(.int .i64 0),(.int .i64 0),(.int .u16 0),(.int .u16 0),(.int .i64 0)] [(0,v1)]) H fun v2 H1=>opt (aX [(0,1),(1,1)] #[(.slice none 0 0),(.int .i64 0)] [(0,v2),(1,(.int .i64 1))]) fun v3=>mk (eA v3) H1 fun v4 H2=>Q v4 H2

def F.f112 (E:Sy) (H:AH) (Q:VK):Prop :=
 bJ [(.int .i64 0),(.int .u16 0)] H fun v1 H1=>opt (aX [(0,1),(1,1)] #[(.int .i64 0),(.int .u16 0)] [(0,(.int .i64 0)),(1,(.int .u16 1))]) fun v2=>opt (aG 2 v1 v2 H1) fun H2=>opt (aE 2 v1 H2) fun v3=>Q v3 H2

def F.f16 (E:Sy) (x0 x1:Value) (H:AH) (Q:VK):Prop :=
 mk (eA x0) H fun v1 H1=>opt (aE 6 v1 H1) fun v2=>E.call (E.fid i.f122) [v2,x1] H1 fun v3 H2=>opt (aA .neq v3 (.int .i64 0)) fun v4=>ifB v4 (
 Q (.tuple #[(.slice none 0 0),v3]) H2) (
 opt (aE 6 v1 H2) fun v5=>E.call (E.fid i.f36) [v5] H2 fun v6 H3=>E.call (E.fid i.f97) [v6] H3 fun v7 H4=>E.call (E.fid i.f17) [v7] H4 fun v8 H5=>E.call (E.fid i.f52) [v8] H5 fun v9 H6=>E.call (E.fid i.f51) [v9] H6 fun v10 H7=>opt (ext v10 0) fun v11=>opt (ext v10 1) fun v12=>E.call (E.fid i.f51) [v8] H7 fun v13 H8=>opt (ext v13 0) fun v14=>opt (ext v13 1) fun v15=>opt (aA .neq v12 (.int .i64 0)) fun v16=>gd v16 false (fun k=>k v15 H8) H8 fun v17 H9=>gd v16 false (fun k=>opt (aA .eql v17 (.int .i64 0)) fun v=>k v H9) H9 fun v18 H10=>gd v16 false (fun k=>k v18 H10) H10 fun v19 H11=>gd v19 true (fun k=>k v14 H11) H11 fun v20 H12=>gd v19 true (fun k=>opt (lenSlc v20) fun v=>k v H12) H12 fun v21 H13=>gd v19 true (fun k=>k v11 H13) H13 fun v22 H14=>gd v19 true (fun k=>opt (lenSlc v22) fun v=>k v H14) H14 fun v23 H15=>gd v19 true (fun k=>opt (aA .lss v21 v23) fun v=>k v H15) H15 fun v24 H16=>gd v16 false (fun k=>opt (pick v19 v24 (.bool false)) fun v=>k v H16) H16 fun v25 H17=>opt (pick v16 (.bool true) v25) fun v26=>ifB v26 (
 Q (.tuple #[v14,v15]) H17) (
 Q (.tuple #[v11,(.int .i64 0)]) H17))

def F.f186 (E:Sy) (x0:Value) (H:AH) (Q:VK):Prop :=
 bJ [(.int .i64 0),(.int .i64 0)] H fun v1 H1=>E.call (E.fid i.f3) [x0] H1 fun v2 H2=>bJ [(.int .i64 0),(.int .i64 0)] H2 fun v3 H3=>opt (aG 2 v3 v2 H3) fun H4=>opt (aE 2 v3 H4) fun v4=>opt (aX [(0,1),(1,1)] #[(.int .i64 0),(.int .i64 0)] []) fun v5=>opt (iS [0,0] .neq v4 v5) fun v6=>ifB v6 (
 opt (aE 2 v3 H4) fun v7=>opt (aG 2 v1 v7 H4) fun H5=>opt (aE 2 v1 H5) fun v8=>Q (.tuple #[(.pointer none),v8]) H5) (
 mk (bR 0 4 #[(.int .u16 0),(.int .u8 0),(.int .u8 0),(.int .u32 0)] []) H4 fun v9 H6=>eK (app 4 8 v9 x0 H6) fun v10 H7=>opt (aX [(0,1),(1,1),(2,1)] #[(.slice none 0 0),(.int .i64 0),(.int .i64 0)] [(0,v10)]) fun v11=>mk (eA v11) H7 fun v12 H8=>opt (aX [(0,1),(1,1)] #[(.int .i64 0),(.int .i64 0)] []) fun v13=>opt (aG 2 v1 v13 H8) fun H9=>opt (aE 2 v1 H9) fun v14=>Q (.tuple #[v12,v14]) H9)

def F.f26 (E:Sy) (x0 x1:Value) (H:AH) (Q:VK):Prop :=
 opt (bW dB .eql x0 (.pointer none)) fun v1=>ifB v1 (
 Q (.pointer none) H) (
 opt (aI x0) fun v2=>opt (aB v2 0) fun v3=>opt (aC v3 H) fun v4=>opt (look 0 (.pointer none) false v4 x1 H) fun v5=>Q v5 H)

def F.f28 (E:Sy) (x0 x1:Value) (H:AH) (Q:VK):Prop :=
 opt (aI x0) fun v1=>opt (aB v1 0) fun v2=>opt (aC v2 H) fun v3=>opt (look 0 (.pointer none) false v3 x1 H) fun v4=>opt (bW dB .neq v4 (.pointer none)) fun v5=>gd v5 true (fun k=>k v4 H) H fun v6 H1=>gd v5 true (fun k=>opt (aI v6) fun v=>k v H1) H1 fun v7 H2=>gd v5 true (fun k=>opt (aB v7 6) fun v=>k v H2) H2 fun v8 H3=>gd v5 true (fun k=>opt (aC v8 H3) fun v=>k v H3) H3 fun v9 H4=>gd v5 true (fun k=>opt (aA .eql v9 (.int .i64 0)) fun v=>k v H4) H4 fun v10 H5=>opt (pick v5 v10 (.bool false)) fun v11=>gd v11 true (fun k=>k v4 H5) H5 fun v12 H6=>gd v11 true (fun k=>opt (aI v12) fun v=>k v H6) H6 fun v13 H7=>gd v11 true (fun k=>opt (aB v13 7) fun v=>k v H7) H7 fun v14 H8=>gd v11 true (fun k=>opt (aC v14 H8) fun v=>k v H8) H8 fun v15 H9=>gd v11 true (fun k=>opt (aA .eql v15 (.int .i64 0)) fun v=>k v H9) H9 fun v16 H10=>opt (pick v11 v16 (.bool false)) fun v17=>ifB v17 (
 opt (aI x0) fun v18=>opt (aB v18 0) fun v19=>opt (aC v19 H10) fun v20=>opt (jV 0 v20 x1 H10) fun H11=>Q (.tuple #[]) H11) (
 Q (.tuple #[]) H10)

def F.f110 (E:Sy) (x0 x1:Value) (H:AH) (Q:VK):Prop :=
 mk (eA x1) H fun v1 H1=>opt (bW dB .eql x0 (.pointer none)) fun v2=>ifB v2 (
 Q (.int .i64 (-1)) H1) (
 opt (aI x0) fun v3=>opt (aB v3 0) fun v4=>opt (aC v4 H1) fun v5=>opt (some (.func (.func (E.fid i.f111)) #[] #[v1])) fun v6=>E.call (E.fid i.f146) [v5,v6] H1 fun v7 H2=>Q v7 H2)

def F.f2 (E:Sy) (x0:Value) (H:AH) (Q:VK):Prop :=
 bJ [(.int .i64 0),(.slice none 0 0),(.int .i64 0),(.bool false)] H fun v1 H1=>opt (aX [(0,1),(1,1),(2,1),(3,1)] #[(.int .i64 0),(.slice none 0 0),(.int .i64 0),(.bool false)] [(0,(.int .i64 (-1))),(2,x0)]) fun v2=>opt (aG 4 v1 v2 H1) fun H2=>opt (aE 4 v1 H2) fun v3=>Q v3 H2

def F.f180 (E:Sy) (x0 x1:Value) (H:AH) (Q:VK):Prop :=
 opt (aI x0) fun v1=>opt (aB v1 0) fun v2=>E.call (E.fid i.f179) [v2,x1] H fun v3 H1=>Q v3 H1

def F.f182 (E:Sy) (x0 x1:Value) (H:AH) (Q:VK):Prop :=
 opt (bW dB .eql x0 (.pointer none)) fun v1=>ifB v1 (
 Q (.pointer none) H) (
 opt (aI x0) fun v2=>opt (aB v2 0) fun v3=>opt (aC v3 H) fun v4=>opt (look 0 (.pointer none) false v4 x1 H) fun v5=>Q v5 H)

def F.f0 (E:Sy) (x0:Value) (H:AH) (Q:VK):Prop :=
 mk (eA x0) H fun v1 H1=>bJ [(.int .u32 0),(.int .u32 0),(.int .u64 0),(.int .u64 0),(.int .u64 0),(.int .u64 0),(.int .u64 0),(.int .u64 0),(.int .u64 0)] H1 fun v2 H2=>opt (aB v1 2) fun v3=>opt (aC v3 H2) fun v4=>opt (aB v1 3) fun v5=>opt (cJ 2 1 v5 (.int .i64 0)) fun v6=>opt (aC v6 H2) fun v7=>opt (aB v1 3) fun v8=>opt (cJ 2 1 v8 (.int .i64 1)) fun v9=>opt (aC v9 H2) fun v10=>opt (mU 1 #[(.int .u64 0),(.int .u64 0),(.int .u64 0),(.int .u64 0),(.int .u64 0),(.int .u64 0)] [(0,v7),(1,v10)]) fun v11=>opt (aX [(0,1),(1,1),(2,1),(3,6)] #[(.int .u32 0),(.int .u32 0),(.int .u64 0),(.int .u64 0),(.int .u64 0),(.int .u64 0),(.int .u64 0),(.int .u64 0),(.int .u64 0)] [(0,v4),(1,(.int .u32 3221225534)),(3,v11)]) fun v12=>bJ [(.int .u32 0),(.int .u32 0),(.int .u64 0),(.int .u64 0),(.int .u64 0),(.int .u64 0),(.int .u64 0),(.int .u64 0),(.int .u64 0)] H2 fun v13 H3=>opt (aG 9 v13 v12 H3) fun H4=>opt (aB v1 1) fun v14=>opt (aC v14 H4) fun v15=>ifB v15 (
 opt (aB v13 1) fun v16=>opt (aQ v16 (.int .u32 3221225535) H4) fun H5=>opt (aE 9 v13 H5) fun v17=>opt (aG 9 v2 v17 H5) fun H6=>opt (aE 9 v2 H6) fun v18=>Q v18 H6) (
 opt (aE 9 v13 H4) fun v19=>opt (aG 9 v2 v19 H4) fun H7=>opt (aE 9 v2 H7) fun v20=>Q v20 H7)

def F.f183 (E:Sy) (x0 x1:Value) (H:AH) (Q:VK):Prop :=
 mk (eA x1) H fun v1 H1=>opt (bW dB .eql x0 (.pointer none)) fun v2=>ifB v2 (
 Q (.int .u32 2147483648) H1) (
 opt (aI x0) fun v3=>opt (aB v3 6) fun v4=>opt (aC v4 H1) fun v5=>opt (aE 9 v1 H1) fun v6=>E.call (E.fid i.f184) [v5,v6] H1 fun v7 H2=>Q v7 H2)

def F.f134_j1 (E:Sy) (Q:VK) (t3 t7:Value) (H:AH):Prop :=
 ifB t7 (
 Q t3 H) (
 Q (.int .u32 2147483648) H)
def F.f134 (E:Sy) (x0:Value) (H:AH) (Q:VK):Prop :=
 opt (aA .andNot x0 (.int .u32 65535)) fun v1=>opt (aA .eql v1 (.int .u32 327680)) fun v2=>ifB v2 (
 F.f134_j1 E Q v1 v2 H) (
 opt (aA .eql v1 (.int .u32 2147221504)) fun v3=>ifB v3 (
 F.f134_j1 E Q v1 v3 H) (
 opt (aA .eql v1 (.int .u32 2147418112)) fun v4=>F.f134_j1 E Q v1 v4 H))

def F.f68 (E:Sy) (x0:Value) (H:AH) (Q:VK):Prop :=
 bJ [(.int .i64 0),(.slice none 0 0),(.int .i64 0),(.bool false)] H fun v1 H1=>opt (aI x0) fun v2=>opt (aB v2 2) fun v3=>opt (aB v3 3) fun v4=>opt (aE 2 v4 H1) fun v5=>bJ [(.int .u64 0),(.int .u64 0)] H1 fun v6 H2=>opt (aG 2 v6 v5 H2) fun H3=>opt (aI x0) fun v7=>opt (aB v7 2) fun v8=>opt (aB v8 2) fun v9=>opt (aC v9 H3) fun v10=>opt (aA .eql v10 (.int .u32 2)) fun v11=>ifB v11 (
 opt (cJ 2 1 v6 (.int .i64 1)) fun v12=>opt (aC v12 H3) fun v13=>E.call (E.fid i.f81) [x0,v13] H3 fun v14 H4=>opt (aG 4 v1 v14 H4) fun H5=>opt (aE 4 v1 H5) fun v15=>Q v15 H5) (
 opt (aA .eql v10 (.int .u32 3)) fun v16=>ifB v16 (
 opt (cJ 2 1 v6 (.int .i64 0)) fun v17=>opt (aC v17 H3) fun v18=>E.call (E.fid i.f90) [x0,v18] H3 fun v19 H6=>opt (aG 4 v1 v19 H6) fun H7=>opt (aE 4 v1 H7) fun v20=>Q v20 H7) (
 opt (aA .eql v10 (.int .u32 0)) fun v21=>ifB v21 (
 opt (cJ 2 1 v6 (.int .i64 0)) fun v22=>opt (aC v22 H3) fun v23=>opt (cJ 2 1 v6 (.int .i64 1)) fun v24=>opt (aC v24 H3) fun v25=>E.call (E.fid i.f83) [x0,v23,v25] H3 fun v26 H8=>opt (aG 4 v1 v26 H8) fun H9=>opt (aE 4 v1 H9) fun v27=>Q v27 H9) (
 opt (aA .eql v10 (.int .u32 1)) fun v28=>ifB v28 (
 opt (cJ 2 1 v6 (.int .i64 0)) fun v29=>opt (aC v29 H3) fun v30=>E.call (E.fid i.f95) [x0,v30] H3 fun v31 H10=>opt (aG 4 v1 v31 H10) fun H11=>opt (aE 4 v1 H11) fun v32=>Q v32 H11) (
 opt (aA .eql v10 (.int .u32 8)) fun v33=>ifB v33 (
 opt (cJ 2 1 v6 (.int .i64 0)) fun v34=>opt (aC v34 H3) fun v35=>opt (cJ 2 1 v6 (.int .i64 1)) fun v36=>opt (aC v36 H3) fun v37=>E.call (E.fid i.f89) [x0,v35,v37] H3 fun v38 H12=>opt (aG 4 v1 v38 H12) fun H13=>opt (aE 4 v1 H13) fun v39=>Q v39 H13) (
 opt (aA .eql v10 (.int .u32 32)) fun v40=>ifB v40 (
 opt (cJ 2 1 v6 (.int .i64 0)) fun v41=>opt (aC v41 H3) fun v42=>E.call (E.fid i.f69) [x0,v42] H3 fun v43 H14=>opt (aG 4 v1 v43 H14) fun H15=>opt (aE 4 v1 H15) fun v44=>Q v44 H15) (
 opt (aA .eql v10 (.int .u32 4)) fun v45=>ifB v45 (
 E.call (E.fid i.f91) [x0] H3 fun v46 H16=>opt (aG 4 v1 v46 H16) fun H17=>opt (aE 4 v1 H17) fun v47=>Q v47 H17) (
 opt (aA .eql v10 (.int .u32 39)) fun v48=>ifB v48 (
 opt (aI x0) fun v49=>opt (aB v49 1) fun v50=>opt (aC v50 H3) fun v51=>opt (aI v51) fun v52=>opt (aB v52 0) fun v53=>opt (aC v53 H3) fun v54=>opt (aR .i64 v54) fun v55=>E.call (E.fid i.f1) [v55] H3 fun v56 H18=>opt (aG 4 v1 v56 H18) fun H19=>opt (aE 4 v1 H19) fun v57=>Q v57 H19) (
 opt (aA .eql v10 (.int .u32 79)) fun v58=>ifB v58 (
 E.call (E.fid i.f94) [x0] H3 fun v59 H20=>opt (aG 4 v1 v59 H20) fun H21=>opt (aE 4 v1 H21) fun v60=>Q v60 H21) (
 opt (aA .eql v10 (.int .u32 80)) fun v61=>ifB v61 (
 E.call (E.fid i.f66) [x0] H3 fun v62 H22=>opt (aG 4 v1 v62 H22) fun H23=>opt (aE 4 v1 H23) fun v63=>Q v63 H23) (
 opt (aA .eql v10 (.int .u32 77)) fun v64=>ifB v64 (
 opt (cJ 2 1 v6 (.int .i64 1)) fun v65=>opt (aC v65 H3) fun v66=>E.call (E.fid i.f92) [x0,v66] H3 fun v67 H24=>opt (aG 4 v1 v67 H24) fun H25=>opt (aE 4 v1 H25) fun v68=>Q v68 H25) (
 opt (aA .eql v10 (.int .u32 78)) fun v69=>ifB v69 (
 E.call (E.fid i.f76) [x0] H3 fun v70 H26=>opt (aG 4 v1 v70 H26) fun H27=>opt (aE 4 v1 H27) fun v71=>Q v71 H27) (
 opt (aA .eql v10 (.int .u32 89)) fun v72=>ifB v72 (
 E.call (E.fid i.f84) [x0] H3 fun v73 H28=>opt (aG 4 v1 v73 H28) fun H29=>opt (aE 4 v1 H29) fun v74=>Q v74 H29) (
 E.call (E.fid i.f79) [x0] H3 fun v75 H30=>opt (aG 4 v1 v75 H30) fun H31=>opt (aE 4 v1 H31) fun v76=>Q v76 H31)))))))))))))

def F.f122_l1 (E:Sy) (Q:VK) (t1 t2 t45 t46 t47:Value) (H:AH) (X0:LK):Prop :=
 opt (aA .lss t47 t46) fun v1=>ifB v1 (
 opt (aK 3 t45 t47) fun v2=>opt (aE 3 v2 H) fun v3=>bJ [(.int .u32 0),(.int .u32 0),(.slice none 0 0)] H fun v4 H1=>opt (aG 3 v4 v3 H1) fun H2=>opt (aE 3 v4 H2) fun v5=>E.call (E.fid i.f127) [v5,t1] H2 fun v6 H3=>opt (aA .neq v6 (.int .i64 0)) fun v7=>ifB v7 (
 Q v6 H3) (
 opt (aA .add t47 (.int .i64 1)) fun v8=>X0 [t1,t2,t45,t46,v8] H3)) (
 opt (aE 6 t2 H) fun v9=>E.call (E.fid i.f125) [v9] H fun v10 H4=>opt (aA .neq v10 (.int .i64 0)) fun v11=>ifB v11 (
 Q v10 H4) (
 opt (aE 6 t2 H4) fun v12=>E.call (E.fid i.f126) [v12] H4 fun v13 H5=>Q v13 H5))
def F.f122 (E:Sy) (x0 x1:Value) (H:AH) (Q:VK):Prop :=
 mk (eA x0) H fun v1 H1=>opt (bW dB .eql x1 (.pointer none)) fun v2=>ifB v2 (
 Q (.int .i64 201) H1) (
 opt (aB v1 0) fun v3=>opt (aC v3 H1) fun v4=>E.call (E.fid i.f114) [v4] H1 fun v5 H2=>opt (un .not v5) fun v6=>ifB v6 (
 Q (.int .i64 202) H2) (
 opt (aB v1 1) fun v7=>opt (aC v7 H2) fun v8=>E.call (E.fid i.f128) [v8] H2 fun v9 H3=>opt (un .not v9) fun v10=>ifB v10 (
 Q (.int .i64 210) H3) (
 opt (aB v1 2) fun v11=>opt (aC v11 H3) fun v12=>opt (lenSlc v12) fun v13=>opt (aA .gtr v13 (.int .i64 64)) fun v14=>gd v14 false (fun k=>opt (aB v1 4) fun v=>k v H3) H3 fun v15 H4=>gd v14 false (fun k=>opt (aC v15 H4) fun v=>k v H4) H4 fun v16 H5=>gd v14 false (fun k=>opt (lenSlc v16) fun v=>k v H5) H5 fun v17 H6=>gd v14 false (fun k=>opt (aA .gtr v17 (.int .i64 32)) fun v=>k v H6) H6 fun v18 H7=>opt (pick v14 (.bool true) v18) fun v19=>gd v19 false (fun k=>opt (aB v1 5) fun v=>k v H7) H7 fun v20 H8=>gd v19 false (fun k=>opt (aC v20 H8) fun v=>k v H8) H8 fun v21 H9=>gd v19 false (fun k=>opt (lenSlc v21) fun v=>k v H9) H9 fun v22 H10=>gd v19 false (fun k=>opt (aA .gtr v22 (.int .i64 32)) fun v=>k v H10) H10 fun v23 H11=>opt (pick v19 (.bool true) v23) fun v24=>ifB v24 (
 Q (.int .i64 205) H11) (
 opt (aB v1 3) fun v25=>opt (aC v25 H11) fun v26=>E.call (E.fid i.f140) [v26] H11 fun v27 H12=>opt (un .not v27) fun v28=>ifB v28 (
 Q (.int .i64 204) H12) (
 opt (aB v1 2) fun v29=>opt (aC v29 H12) fun v30=>opt (lenSlc v30) fun v31=>aM (fun l H X0=>F.f122_l1 E Q (nth l 0) (nth l 1) (nth l 2) (nth l 3) (nth l 4) H X0) [x1,v1,v30,v31,(.int .i64 0)] H12)))))

def F.f36_l2 (E:Sy) (Q:VK) (t2 t3 t32:Value) (H:AH) (X0:LK):Prop :=
 mJ t32 H fun v1 H1=>opt (ext v1 0) fun v2=>ifB v2 (
 opt (oW t32 H1) fun v3=>opt (ext v3 0) fun v4=>opt (ext v3 1) fun v5=>E.call (E.fid i.f150) [v5,(.func (.func (E.fid i.f37)) #[] #[])] H1 fun v6 H2=>opt (aB t3 0) fun v7=>opt (aC v7 H2) fun v8=>E.call (E.fid i.f40) [v5] H2 fun v9 H3=>aC v7 H3=aC v7 H2 /\
 opt (aX [(0,1),(1,1)] #[(.int .u32 0),(.slice none 0 0)] [(0,v4),(1,v9)]) fun v10=>mk (bR 1 2 #[(.int .u32 0),(.slice none 0 0)] [(0,v10)]) H3 fun v11 H4=>eK (app 2 32 v8 v11 H4) fun v12 H5=>opt (aB t3 0) fun v13=>opt (aQ v13 v12 H5) fun H6=>X0 [t2,t3,t32] H6) (
 opt (aB t3 0) fun v14=>opt (aC v14 H1) fun v15=>E.call (E.fid i.f149) [v15,(.func (.func (E.fid i.f38)) #[] #[])] H1 fun v16 H7=>opt (aE 2 t3 H7) fun v17=>opt (aG 2 t2 v17 H7) fun H8=>opt (aE 2 t2 H8) fun v18=>Q v18 H8)
def F.f36_l1 (E:Sy) (Q:VK) (t2 t3 t4 t14 t15 t16:Value) (H:AH) (X0:LK):Prop :=
 opt (aA .lss t16 t15) fun v1=>ifB v1 (
 opt (aK 3 t14 t16) fun v2=>opt (aE 3 v2 H) fun v3=>bJ [(.int .u32 0),(.int .u32 0),(.slice none 0 0)] H fun v4 H1=>opt (aG 3 v4 v3 H1) fun H2=>opt (aB v4 0) fun v5=>opt (aC v5 H2) fun v6=>opt (aB v4 0) fun v7=>opt (aC v7 H2) fun v8=>opt (look 0 (.slice none 0 0) false t4 v8 H2) fun v9=>opt (aE 3 v4 H2) fun v10=>mk (bR 1 3 #[(.int .u32 0),(.int .u32 0),(.slice none 0 0)] [(0,v10)]) H2 fun v11 H3=>eK (app 3 32 v9 v11 H3) fun v12 H4=>aC v5 H4=aC v5 H2 /\
 opt (cN 0 t4 v6 v12 H4) fun H5=>opt (aA .add t16 (.int .i64 1)) fun v13=>X0 [t2,t3,t4,t14,t15,v13] H5) (
 mk (mS t4 H) H fun v14 H6=>aM (fun l H X0=>F.f36_l2 E Q (nth l 0) (nth l 1) (nth l 2) H X0) [t2,t3,v14] H6)
def F.f36 (E:Sy) (x0:Value) (H:AH) (Q:VK):Prop :=
 mk (eA x0) H fun v1 H1=>bJ [(.slice none 0 0),(.int .u32 0)] H1 fun v2 H2=>opt (aB v1 1) fun v3=>opt (aC v3 H2) fun v4=>opt (aX [(0,1),(1,1)] #[(.slice none 0 0),(.int .u32 0)] [(1,v4)]) fun v5=>bJ [(.slice none 0 0),(.int .u32 0)] H2 fun v6 H3=>opt (aG 2 v6 v5 H3) fun H4=>lM H4 fun v7 H5=>opt (aB v1 2) fun v8=>opt (aC v8 H5) fun v9=>opt (lenSlc v9) fun v10=>aM (fun l H X0=>F.f36_l1 E Q (nth l 0) (nth l 1) (nth l 2) (nth l 3) (nth l 4) (nth l 5) H X0) [v2,v6,v7,v9,v10,(.int .i64 0)] H5

def F.f97_l2 (E:Sy) (Q:VK) (t3 t6 t70 t71 t72:Value) (H:AH) (X0:LK):Prop :=
 opt (aA .lss t72 t71) fun v1=>ifB v1 (
 opt (aK 2 t70 t72) fun v2=>opt (aE 2 v2 H) fun v3=>bJ [(.int .u32 0),(.slice none 0 0)] H fun v4 H1=>opt (aG 2 v4 v3 H1) fun H2=>opt (aI t3) fun v5=>opt (aB v5 0) fun v6=>opt (aB v4 0) fun v7=>opt (aC v7 H2) fun v8=>opt (look 0 (.int .i64 0) false t6 v8 H2) fun v9=>E.call (E.fid i.f45) [v6,v9] H2 fun v10 H3=>opt (aB v4 1) fun v11=>opt (aC v11 H3) fun v12=>E.call (E.fid i.f99) [t3,v12] H3 fun v13 H4=>opt (aA .add t72 (.int .i64 1)) fun v14=>X0 [t3,t6,t70,t71,v14] H4) (
 E.call (E.fid i.f102) [t3] H fun v15 H5=>opt (aI t3) fun v16=>opt (aB v16 0) fun v17=>E.call (E.fid i.f48) [v17] H5 fun v18 H6=>Q v18 H6)
def F.f97_l1 (E:Sy) (Q:VK) (t1 t3 t6 t45 t46 t47:Value) (H:AH) (X0:LK):Prop :=
 opt (aA .lss t47 t46) fun v1=>ifB v1 (
 opt (aK 2 t45 t47) fun v2=>opt (aE 2 v2 H) fun v3=>bJ [(.int .u32 0),(.slice none 0 0)] H fun v4 H1=>opt (aG 2 v4 v3 H1) fun H2=>opt (aB v4 0) fun v5=>opt (aC v5 H2) fun v6=>opt (aI t3) fun v7=>opt (aB v7 0) fun v8=>E.call (E.fid i.f47) [v8] H2 fun v9 H3=>aC v5 H3=aC v5 H2 /\
 opt (cN 0 t6 v6 v9 H3) fun H4=>opt (aA .add t47 (.int .i64 1)) fun v10=>X0 [t1,t3,t6,t45,t46,v10] H4) (
 opt (aI t3) fun v11=>opt (aB v11 0) fun v12=>E.call (E.fid i.f32) [(.int .u32 0)] H fun v13 H5=>E.call (E.fid i.f49) [v12,v13] H5 fun v14 H6=>opt (aB t1 0) fun v15=>opt (aC v15 H6) fun v16=>E.call (E.fid i.f100) [t3,v16,t6] H6 fun v17 H7=>opt (aB t1 0) fun v18=>opt (aC v18 H7) fun v19=>opt (lenSlc v19) fun v20=>aM (fun l H X0=>F.f97_l2 E Q (nth l 0) (nth l 1) (nth l 2) (nth l 3) (nth l 4) H X0) [t3,t6,v19,v20,(.int .i64 0)] H7)
def F.f97 (E:Sy) (x0:Value) (H:AH) (Q:VK):Prop :=
 mk (eA x0) H fun v1 H1=>lM H1 fun v2 H2=>opt (aX [(0,2),(2,1),(3,1),(4,1)] #[(.slice none 0 0),(.int .i64 0),(.int .i64 0),(.map none),(.slice none 0 0)] [(2,v2)]) fun v3=>mk (eA v3) H2 fun v4 H3=>opt (aB v1 1) fun v5=>opt (aC v5 H3) fun v6=>E.call (E.fid i.f98) [v4,v6] H3 fun v7 H4=>opt (aI v4) fun v8=>opt (aB v8 2) fun v9=>opt (aQ v9 v7 H4) fun H5=>opt (aI v4) fun v10=>opt (aB v10 0) fun v11=>E.call (E.fid i.f98) [v4,(.int .u32 2147483648)] H5 fun v12 H6=>E.call (E.fid i.f47) [v11] H6 fun v13 H7=>opt (aI v4) fun v14=>opt (aB v14 0) fun v15=>E.call (E.fid i.f32) [(.int .u32 4)] H7 fun v16 H8=>E.call (E.fid i.f49) [v15,v16] H8 fun v17 H9=>opt (aI v4) fun v18=>opt (aB v18 0) fun v19=>E.call (E.fid i.f46) [v19,(.int .u16 16),(.int .u32 3221225534),v13,v12] H9 fun v20 H10=>opt (aI v4) fun v21=>opt (aB v21 0) fun v22=>E.call (E.fid i.f45) [v22,v13] H10 fun v23 H11=>lM H11 fun v24 H12=>opt (aB v1 0) fun v25=>opt (aC v25 H12) fun v26=>opt (lenSlc v26) fun v27=>aM (fun l H X0=>F.f97_l1 E Q (nth l 0) (nth l 1) (nth l 2) (nth l 3) (nth l 4) (nth l 5) H X0) [v1,v4,v24,v26,v27,(.int .i64 0)] H12

def F.f17_j1 (E:Sy) (Q:VK) (X0:LK) (t3 t4 t6 t7 t8 t9:Value) (H:AH):Prop :=
 opt (aE 7 t6 H) fun v1=>mk (bR 1 7 #[(.int .u8 0),(.int .i64 0),(.int .i64 0),(.int .u16 0),(.int .u8 0),(.int .u8 0),(.int .u32 0)] [(0,v1)]) H fun v2 H1=>eK (app 7 32 t3 v2 H1) fun v3 H2=>opt (aA .add t9 (.int .i64 1)) fun v4=>X0 [v3,t4,t7,t8,v4] H2
def F.f17_l1 (E:Sy) (Q:VK) (t3 t4 t7 t8 t9:Value) (H:AH) (X0:LK):Prop :=
 opt (aA .lss t9 t8) fun v1=>ifB v1 (
 opt (aK 7 t7 t9) fun v2=>opt (aE 7 v2 H) fun v3=>bJ [(.int .u8 0),(.int .i64 0),(.int .i64 0),(.int .u16 0),(.int .u8 0),(.int .u8 0),(.int .u32 0)] H fun v4 H1=>opt (aG 7 v4 v3 H1) fun H2=>opt (aB v4 0) fun v5=>opt (aC v5 H2) fun v6=>opt (aA .eql v6 (.int .u8 1)) fun v7=>ifB v7 (
 opt (aX [(0,1),(1,1)] #[(.bool false),(.int .u32 0)] []) fun v8=>opt (aG 2 t4 v8 H2) fun H3=>F.f17_j1 E Q X0 t3 t4 v4 t7 t8 t9 H3) (
 opt (aB v4 0) fun v9=>opt (aC v9 H2) fun v10=>opt (aA .eql v10 (.int .u8 2)) fun v11=>gd v11 true (fun k=>opt (aB v4 3) fun v=>k v H2) H2 fun v12 H4=>gd v11 true (fun k=>opt (aB v12 0) fun v=>k v H4) H4 fun v13 H5=>gd v11 true (fun k=>opt (aC v13 H5) fun v=>k v H5) H5 fun v14 H6=>gd v11 true (fun k=>opt (aA .eql v14 (.int .u16 32)) fun v=>k v H6) H6 fun v15 H7=>opt (pick v11 v15 (.bool false)) fun v16=>ifB v16 (
 opt (aE 2 t4 H7) fun v17=>opt (aB v4 3) fun v18=>opt (aB v18 3) fun v19=>opt (aC v19 H7) fun v20=>opt (aX [(0,1),(1,1)] #[(.bool false),(.int .u32 0)] [(0,(.bool true)),(1,v20)]) fun v21=>opt (iS [2,0] .eql v17 v21) fun v22=>ifB v22 (
 opt (aA .add t9 (.int .i64 1)) fun v23=>X0 [t3,t4,t7,t8,v23] H7) (
 opt (aB v4 3) fun v24=>opt (aB v24 3) fun v25=>opt (aC v25 H7) fun v26=>opt (aX [(0,1),(1,1)] #[(.bool false),(.int .u32 0)] [(0,(.bool true)),(1,v26)]) fun v27=>opt (aG 2 t4 v27 H7) fun H8=>F.f17_j1 E Q X0 t3 t4 v4 t7 t8 t9 H8)) (
 opt (aB v4 0) fun v28=>opt (aC v28 H7) fun v29=>opt (aA .eql v29 (.int .u8 2)) fun v30=>ifB v30 (
 opt (aX [(0,1),(1,1)] #[(.bool false),(.int .u32 0)] []) fun v31=>opt (aG 2 t4 v31 H7) fun H9=>F.f17_j1 E Q X0 t3 t4 v4 t7 t8 t9 H9) (
 F.f17_j1 E Q X0 t3 t4 v4 t7 t8 t9 H7)))) (
 Q t3 H)
def F.f17 (E:Sy) (x0:Value) (H:AH) (Q:VK):Prop :=
 bJ [(.bool false),(.int .u32 0)] H fun v1 H1=>opt (lenSlc x0) fun v2=>aM (fun l H X0=>F.f17_l1 E Q (nth l 0) (nth l 1) (nth l 2) (nth l 3) (nth l 4) H X0) [(.slice none 0 0),v1,x0,v2,(.int .i64 0)] H1

def F.f52_l1 (E:Sy) (Q:VK) (t0:Value) (H:AH) (X0:LK):Prop :=
 E.call (E.fid i.f59) [t0] H fun v1 H1=>opt (lenSlc v1) fun v2=>opt (lenSlc t0) fun v3=>opt (aA .eql v2 v3) fun v4=>ifB v4 (
 Q v1 H1) (
 X0 [v1] H1)
def F.f52 (E:Sy) (x0:Value) (H:AH) (Q:VK):Prop :=
 aM (fun l H X0=>F.f52_l1 E Q (nth l 0) H X0) [x0] H

def F.f51_l2 (E:Sy) (Q:VK) (t4 t7 t8:Value) (H:AH) (X0:LK):Prop :=
 opt (aA .geq t8 (.int .i64 0)) fun v1=>ifB v1 (
 opt (aI t4) fun v2=>opt (aB v2 0) fun v3=>opt (aC v3 H) fun v4=>opt (aK 4 v4 t8) fun v5=>opt (aE 4 v5 H) fun v6=>mk (bR 1 4 #[(.int .u16 0),(.int .u8 0),(.int .u8 0),(.int .u32 0)] [(0,v6)]) H fun v7 H1=>eK (app 4 8 t7 v7 H1) fun v8 H2=>opt (aA .sub t8 (.int .i64 1)) fun v9=>X0 [t4,v8,v9] H2) (
 Q (.tuple #[t7,(.int .i64 0)]) H)
def F.f51_l1 (E:Sy) (Q:VK) (t0 t4 t5:Value) (H:AH) (X0:LK):Prop :=
 opt (aA .geq t5 (.int .i64 0)) fun v1=>ifB v1 (
 opt (aK 7 t0 t5) fun v2=>opt (aE 7 v2 H) fun v3=>E.call (E.fid i.f58) [t4,v3] H fun v4 H1=>opt (aA .neq v4 (.int .i64 0)) fun v5=>ifB v5 (
 Q (.tuple #[(.slice none 0 0),v4]) H1) (
 opt (aI t4) fun v6=>opt (aB v6 0) fun v7=>opt (aC v7 H1) fun v8=>opt (lenSlc v8) fun v9=>opt (aA .gtr v9 (.int .i64 4096)) fun v10=>ifB v10 (
 Q (.tuple #[(.slice none 0 0),(.int .i64 205)]) H1) (
 opt (aA .sub t5 (.int .i64 1)) fun v11=>X0 [t0,t4,v11] H1))) (
 opt (aI t4) fun v12=>opt (aB v12 0) fun v13=>opt (aC v13 H) fun v14=>opt (lenSlc v14) fun v15=>mk (qY 4 8 #[(.int .u16 0),(.int .u8 0),(.int .u8 0),(.int .u32 0)] (.int .i64 0) v15) H fun v16 H2=>opt (aI t4) fun v17=>opt (aB v17 0) fun v18=>opt (aC v18 H2) fun v19=>opt (lenSlc v19) fun v20=>opt (aA .sub v20 (.int .i64 1)) fun v21=>aM (fun l H X0=>F.f51_l2 E Q (nth l 0) (nth l 1) (nth l 2) H X0) [t4,v16,v21] H2)
def F.f51 (E:Sy) (x0:Value) (H:AH) (Q:VK):Prop :=
 lM H fun v1 H1=>opt (aX [(0,1),(1,1)] #[(.slice none 0 0),(.map none)] [(1,v1)]) fun v2=>mk (eA v2) H1 fun v3 H2=>opt (lenSlc x0) fun v4=>opt (aA .sub v4 (.int .i64 1)) fun v5=>aM (fun l H X0=>F.f51_l1 E Q (nth l 0) (nth l 1) (nth l 2) H X0) [x0,v3,v5] H2

def F.f3_l1 (E:Sy) (Q:VK) (t0 t2 t17 t18 t19:Value) (H:AH) (X0:LK):Prop :=
 opt (aA .lss t19 t18) fun v1=>ifB v1 (
 opt (aK 4 t17 t19) fun v2=>opt (aE 4 v2 H) fun v3=>bJ [(.int .u16 0),(.int .u8 0),(.int .u8 0),(.int .u32 0)] H fun v4 H1=>opt (aG 4 v4 v3 H1) fun H2=>opt (aE 4 v4 H2) fun v5=>opt (lenSlc t0) fun v6=>E.call (E.fid i.f6) [v5,t19,v6] H2 fun v7 H3=>opt (aA .neq v7 (.int .i64 0)) fun v8=>ifB v8 (
 opt (aX [(0,1),(1,1)] #[(.int .i64 0),(.int .i64 0)] [(0,t19),(1,v7)]) fun v9=>opt (aG 2 t2 v9 H3) fun H4=>opt (aE 2 t2 H4) fun v10=>Q v10 H4) (
 opt (aA .add t19 (.int .i64 1)) fun v11=>X0 [t0,t2,t17,t18,v11] H3)) (
 opt (lenSlc t0) fun v12=>opt (aA .sub v12 (.int .i64 1)) fun v13=>opt (aK 4 t0 v13) fun v14=>opt (aE 4 v14 H) fun v15=>E.call (E.fid i.f4) [v15] H fun v16 H5=>opt (un .not v16) fun v17=>ifB v17 (
 opt (aX [(0,1),(1,1)] #[(.int .i64 0),(.int .i64 0)] [(0,v13),(1,(.int .i64 209))]) fun v18=>opt (aG 2 t2 v18 H5) fun H6=>opt (aE 2 t2 H6) fun v19=>Q v19 H6) (
 E.call (E.fid i.f5) [t0] H5 fun v20 H7=>opt (aG 2 t2 v20 H7) fun H8=>opt (aE 2 t2 H8) fun v21=>Q v21 H8))
def F.f3 (E:Sy) (x0:Value) (H:AH) (Q:VK):Prop :=
 bJ [(.int .i64 0),(.int .i64 0)] H fun v1 H1=>opt (lenSlc x0) fun v2=>opt (aA .eql v2 (.int .i64 0)) fun v3=>ifB v3 (
 opt (aX [(0,1),(1,1)] #[(.int .i64 0),(.int .i64 0)] [(0,(.int .i64 0)),(1,(.int .i64 203))]) fun v4=>opt (aG 2 v1 v4 H1) fun H2=>opt (aE 2 v1 H2) fun v5=>Q v5 H2) (
 opt (lenSlc x0) fun v6=>opt (aA .gtr v6 (.int .i64 4096)) fun v7=>ifB v7 (
 opt (aX [(0,1),(1,1)] #[(.int .i64 0),(.int .i64 0)] [(0,(.int .i64 4096)),(1,(.int .i64 205))]) fun v8=>opt (aG 2 v1 v8 H1) fun H3=>opt (aE 2 v1 H3) fun v9=>Q v9 H3) (
 opt (lenSlc x0) fun v10=>aM (fun l H X0=>F.f3_l1 E Q (nth l 0) (nth l 1) (nth l 2) (nth l 3) (nth l 4) H X0) [x0,v1,x0,v10,(.int .i64 0)] H1))

def F.f111 (E:Sy) (x0 x1:Value) (H:AH) (Q:VK):Prop :=
 mk (eA x0) H fun v1 H1=>opt (aB v1 0) fun v2=>opt (aC v2 H1) fun v3=>opt (aC x1 H1) fun v4=>opt (aA .eql v3 v4) fun v5=>Q v5 H1

def F.f146_l1 (E:Sy) (Q:VK) (t0 t1 t7 t8:Value) (H:AH) (X0:LK):Prop :=
 opt (aA .lss t8 t7) fun v1=>ifB v1 (
 opt (aK 5 t0 t8) fun v2=>opt (aE 5 v2 H) fun v3=>eH E.call t1 [v3] H fun v4 H1=>ifB v4 (
 Q t8 H1) (
 opt (aA .add t8 (.int .i64 1)) fun v5=>X0 [t0,t1,t7,v5] H1)) (
 Q (.int .i64 (-1)) H)
def F.f146 (E:Sy) (x0 x1:Value) (H:AH) (Q:VK):Prop :=
 opt (lenSlc x0) fun v1=>aM (fun l H X0=>F.f146_l1 E Q (nth l 0) (nth l 1) (nth l 2) (nth l 3) H X0) [x0,x1,v1,(.int .i64 0)] H

def F.f184_l1 (E:Sy) (Q:VK) (t0 t3 t5 t6:Value) (H:AH) (X0:LK):Prop :=
 opt (aA .geq t6 (.int .i64 0)) fun v1=>ifB v1 (
 opt (aK 1 t0 t6) fun v2=>opt (aC v2 H) fun v3=>opt (aE 9 t3 H) fun v4=>E.call (E.fid i.f185) [v3,v4] H fun v5 H1=>opt (ext v5 0) fun v6=>opt (ext v5 1) fun v7=>E.call (E.fid i.f137) [t5,v6] H1 fun v8 H2=>opt (aA .sub t6 (.int .i64 1)) fun v9=>X0 [t0,t3,v8,v9] H2) (
 Q t5 H)
def F.f184 (E:Sy) (x0 x1:Value) (H:AH) (Q:VK):Prop :=
 mk (eA x1) H fun v1 H1=>opt (lenSlc x0) fun v2=>opt (aA .sub v2 (.int .i64 1)) fun v3=>aM (fun l H X0=>F.f184_l1 E Q (nth l 0) (nth l 1) (nth l 2) (nth l 3) H X0) [x0,v1,(.int .u32 2147418112),v3] H1

def F.f90 (E:Sy) (x0 x1:Value) (H:AH) (Q:VK):Prop :=
 bJ [(.int .i64 0),(.slice none 0 0),(.int .i64 0),(.bool false)] H fun v1 H1=>opt (aI x0) fun v2=>opt (aB v2 1) fun v3=>opt (aC v3 H1) fun v4=>opt (aI v4) fun v5=>opt (aB v5 4) fun v6=>opt (aC v6 H1) fun v7=>E.call (E.fid i.f23) [v7,x1] H1 fun v8 H2=>opt (ext v8 0) fun v9=>opt (ext v8 1) fun v10=>bJ [(.int .u8 0),(.int .i64 0),(.int .u16 0),(.int .i64 0),(.int .u16 0),(.int .i64 0),(.bool false)] H2 fun v11 H3=>opt (aG 7 v11 v9 H3) fun H4=>opt (aA .neq v10 (.int .i64 0)) fun v12=>ifB v12 (
 E.call (E.fid i.f2) [v10] H4 fun v13 H5=>opt (aG 4 v1 v13 H5) fun H6=>opt (aE 4 v1 H6) fun v14=>Q v14 H6) (
 opt (aE 7 v11 H4) fun v15=>E.call (E.fid i.f72) [x0,v15] H4 fun v16 H7=>E.call (E.fid i.f1) [(.int .i64 0)] H7 fun v17 H8=>opt (aG 4 v1 v17 H8) fun H9=>opt (aE 4 v1 H9) fun v18=>Q v18 H9)

def F.f1 (E:Sy) (x0:Value) (H:AH) (Q:VK):Prop :=
 bJ [(.int .i64 0),(.slice none 0 0),(.int .i64 0),(.bool false)] H fun v1 H1=>opt (aX [(0,1),(1,1),(2,1),(3,1)] #[(.int .i64 0),(.slice none 0 0),(.int .i64 0),(.bool false)] [(0,x0)]) fun v2=>opt (aG 4 v1 v2 H1) fun H2=>opt (aE 4 v1 H2) fun v3=>Q v3 H2

def F.f79 (E:Sy) (x0:Value) (H:AH) (Q:VK):Prop :=
 bJ [(.int .i64 0),(.slice none 0 0),(.int .i64 0),(.bool false)] H fun v1 H1=>opt (aI x0) fun v2=>opt (aB v2 2) fun v3=>opt (aB v3 3) fun v4=>opt (aE 2 v4 H1) fun v5=>bJ [(.int .u64 0),(.int .u64 0)] H1 fun v6 H2=>opt (aG 2 v6 v5 H2) fun H3=>opt (aI x0) fun v7=>opt (aB v7 2) fun v8=>opt (aB v8 2) fun v9=>opt (aC v9 H3) fun v10=>opt (aA .eql v10 (.int .u32 83)) fun v11=>ifB v11 (
 opt (aI x0) fun v12=>opt (aB v12 2) fun v13=>opt (aB v13 5) fun v14=>opt (cJ 2 1 v14 (.int .i64 0)) fun v15=>opt (aC v15 H3) fun v16=>E.call (E.fid i.f78) [x0,(.int .u8 2),(.int .u16 64),v16,(.string ⟨#[]⟩)] H3 fun v17 H4=>opt (aG 4 v1 v17 H4) fun H5=>opt (aE 4 v1 H5) fun v18=>Q v18 H5) (
 opt (aA .eql v10 (.int .u32 88)) fun v19=>ifB v19 (
 opt (aI x0) fun v20=>opt (aB v20 2) fun v21=>opt (aB v21 5) fun v22=>opt (cJ 2 1 v22 (.int .i64 1)) fun v23=>opt (aC v23 H3) fun v24=>opt (aI x0) fun v25=>opt (aB v25 2) fun v26=>opt (aB v26 5) fun v27=>opt (cJ 2 1 v27 (.int .i64 0)) fun v28=>opt (aC v28 H3) fun v29=>E.call (E.fid i.f78) [x0,(.int .u8 3),(.int .u16 256),v24,v29] H3 fun v30 H6=>opt (aG 4 v1 v30 H6) fun H7=>opt (aE 4 v1 H7) fun v31=>Q v31 H7) (
 opt (aA .eql v10 (.int .u32 87)) fun v32=>ifB v32 (
 E.call (E.fid i.f85) [x0,(.int .u16 32),(.bool false)] H3 fun v33 H8=>opt (aG 4 v1 v33 H8) fun H9=>opt (aE 4 v1 H9) fun v34=>Q v34 H9) (
 opt (aA .eql v10 (.int .u32 84)) fun v35=>ifB v35 (
 E.call (E.fid i.f85) [x0,(.int .u16 16),(.bool true)] H3 fun v36 H10=>opt (aG 4 v1 v36 H10) fun H11=>opt (aE 4 v1 H11) fun v37=>Q v37 H11) (
 opt (aA .eql v10 (.int .u32 86)) fun v38=>ifB v38 (
 E.call (E.fid i.f75) [x0] H3 fun v39 H12=>opt (aG 4 v1 v39 H12) fun H13=>opt (aE 4 v1 H13) fun v40=>Q v40 H13) (
 opt (aA .eql v10 (.int .u32 82)) fun v41=>ifB v41 (
 E.call (E.fid i.f86) [x0] H3 fun v42 H14=>opt (aG 4 v1 v42 H14) fun H15=>opt (aE 4 v1 H15) fun v43=>Q v43 H15) (
 opt (aA .eql v10 (.int .u32 165)) fun v44=>ifB v44 (
 E.call (E.fid i.f80) [x0] H3 fun v45 H16=>opt (aG 4 v1 v45 H16) fun H17=>opt (aE 4 v1 H17) fun v46=>Q v46 H17) (
 opt (aA .eql v10 (.int .u32 166)) fun v47=>ifB v47 (
 E.call (E.fid i.f93) [x0] H3 fun v48 H18=>opt (aG 4 v1 v48 H18) fun H19=>opt (aE 4 v1 H19) fun v49=>Q v49 H19) (
 opt (aA .eql v10 (.int .u32 41)) fun v50=>ifB v50 (
 opt (aX [(0,1),(1,2),(3,1),(4,1),(5,1),(6,1)] #[(.int .u8 0),(.int .i64 0),(.int .u16 0),(.int .i64 0),(.int .u16 0),(.int .i64 0),(.bool false)] [(0,(.int .u8 3)),(4,(.int .i64 (-1)))]) fun v51=>E.call (E.fid i.f63) [x0,v51] H3 fun v52 H20=>opt (aG 4 v1 v52 H20) fun H21=>opt (aE 4 v1 H21) fun v53=>Q v53 H21) (
 opt (aA .eql v10 (.int .u32 49)) fun v54=>ifB v54 (
 opt (cJ 2 1 v6 (.int .i64 0)) fun v55=>opt (aC v55 H3) fun v56=>opt (cJ 2 1 v6 (.int .i64 1)) fun v57=>opt (aC v57 H3) fun v58=>E.call (E.fid i.f65) [x0,v56,v58] H3 fun v59 H22=>opt (aG 4 v1 v59 H22) fun H23=>opt (aE 4 v1 H23) fun v60=>Q v60 H23) (
 opt (aA .eql v10 (.int .u32 50)) fun v61=>ifB v61 (
 opt (cJ 2 1 v6 (.int .i64 0)) fun v62=>opt (aC v62 H3) fun v63=>E.call (E.fid i.f77) [x0,v63] H3 fun v64 H24=>opt (aG 4 v1 v64 H24) fun H25=>opt (aE 4 v1 H25) fun v65=>Q v65 H25) (
 opt (aA .eql v10 (.int .u32 42)) fun v66=>ifB v66 (
 opt (cJ 2 1 v6 (.int .i64 0)) fun v67=>opt (aC v67 H3) fun v68=>opt (cJ 2 1 v6 (.int .i64 1)) fun v69=>opt (aC v69 H3) fun v70=>E.call (E.fid i.f67) [x0,v68,v70] H3 fun v71 H26=>opt (aG 4 v1 v71 H26) fun H27=>opt (aE 4 v1 H27) fun v72=>Q v72 H27) (
 opt (aA .eql v10 (.int .u32 57)) fun v73=>ifB v73 (
 E.call (E.fid i.f71) [x0] H3 fun v74 H28=>opt (aG 4 v1 v74 H28) fun H29=>opt (aE 4 v1 H29) fun v75=>Q v75 H29) (
 opt (aA .eql v10 (.int .u32 60)) fun v76=>ifB v76 (
 opt (cJ 2 1 v6 (.int .i64 0)) fun v77=>opt (aC v77 H3) fun v78=>opt (aA .and v78 (.int .u64 255)) fun v79=>opt (aR .i64 v79) fun v80=>E.call (E.fid i.f70) [x0,v80] H3 fun v81 H30=>E.call (E.fid i.f1) [(.int .i64 0)] H30 fun v82 H31=>opt (aG 4 v1 v82 H31) fun H32=>opt (aE 4 v1 H32) fun v83=>Q v83 H32) (
 opt (aA .eql v10 (.int .u32 157)) fun v84=>ifB v84 (
 opt (cJ 2 1 v6 (.int .i64 0)) fun v85=>opt (aC v85 H3) fun v86=>E.call (E.fid i.f82) [x0,v86] H3 fun v87 H33=>opt (aG 4 v1 v87 H33) fun H34=>opt (aE 4 v1 H34) fun v88=>Q v88 H34) (
 opt (aA .eql v10 (.int .u32 317)) fun v89=>ifB v89 (
 opt (cJ 2 1 v6 (.int .i64 0)) fun v90=>opt (aC v90 H3) fun v91=>E.call (E.fid i.f88) [x0,v91] H3 fun v92 H35=>opt (aG 4 v1 v92 H35) fun H36=>opt (aE 4 v1 H36) fun v93=>Q v93 H36) (
 opt (aA .eql v10 (.int .u32 446)) fun v94=>ifB v94 (
 opt (cJ 2 1 v6 (.int .i64 0)) fun v95=>opt (aC v95 H3) fun v96=>E.call (E.fid i.f87) [x0,v96] H3 fun v97 H37=>opt (aG 4 v1 v97 H37) fun H38=>opt (aE 4 v1 H38) fun v98=>Q v98 H38) (
 E.call (E.fid i.f2) [(.int .i64 38)] H3 fun v99 H39=>opt (aG 4 v1 v99 H39) fun H40=>opt (aE 4 v1 H40) fun v100=>Q v100 H40)))))))))))))))))

def F.f114_l1 (E:Sy) (Q:VK) (t24:Value) (H:AH) (X0:LK):Prop :=
 eK (qT t24 H) fun v1 H1=>opt (ext v1 0) fun v2=>ifB v2 (
 opt (ext v1 2) fun v3=>opt (aA .lss v3 (.int .i32 97)) fun v4=>gd v4 false (fun k=>k v3 H1) H1 fun v5 H2=>gd v4 false (fun k=>opt (aA .gtr v5 (.int .i32 122)) fun v=>k v H2) H2 fun v6 H3=>opt (pick v4 (.bool true) v6) fun v7=>gd v7 true (fun k=>k v3 H3) H3 fun v8 H4=>gd v7 true (fun k=>opt (aA .lss v8 (.int .i32 48)) fun v=>k v H4) H4 fun v9 H5=>gd v7 true (fun k=>k v9 H5) H5 fun v10 H6=>gd v10 false (fun k=>k v3 H6) H6 fun v11 H7=>gd v10 false (fun k=>opt (aA .gtr v11 (.int .i32 57)) fun v=>k v H7) H7 fun v12 H8=>gd v7 true (fun k=>opt (pick v10 (.bool true) v12) fun v=>k v H8) H8 fun v13 H9=>opt (pick v7 v13 (.bool false)) fun v14=>gd v14 true (fun k=>k v3 H9) H9 fun v15 H10=>gd v14 true (fun k=>opt (aA .neq v15 (.int .i32 45)) fun v=>k v H10) H10 fun v16 H11=>opt (pick v14 v16 (.bool false)) fun v17=>gd v17 true (fun k=>k v3 H11) H11 fun v18 H12=>gd v17 true (fun k=>opt (aA .neq v18 (.int .i32 95)) fun v=>k v H12) H12 fun v19 H13=>opt (pick v17 v19 (.bool false)) fun v20=>ifB v20 (
 Q (.bool false) H13) (
 X0 [t24] H13)) (
 Q (.bool true) H1)
def F.f114 (E:Sy) (x0:Value) (H:AH) (Q:VK):Prop :=
 opt (oK x0) fun v1=>opt (aA .lss v1 (.int .i64 1)) fun v2=>gd v2 false (fun k=>k x0 H) H fun v3 H1=>gd v2 false (fun k=>opt (oK v3) fun v=>k v H1) H1 fun v4 H2=>gd v2 false (fun k=>opt (aA .gtr v4 (.int .i64 14)) fun v=>k v H2) H2 fun v5 H3=>opt (pick v2 (.bool true) v5) fun v6=>gd v6 false (fun k=>k x0 H3) H3 fun v7 H4=>gd v6 false (fun k=>opt (nF v7 (.int .i64 0)) fun v=>k v H4) H4 fun v8 H5=>gd v6 false (fun k=>opt (aA .lss v8 (.int .u8 97)) fun v=>k v H5) H5 fun v9 H6=>opt (pick v6 (.bool true) v9) fun v10=>gd v10 false (fun k=>k x0 H6) H6 fun v11 H7=>gd v10 false (fun k=>opt (nF v11 (.int .i64 0)) fun v=>k v H7) H7 fun v12 H8=>gd v10 false (fun k=>opt (aA .gtr v12 (.int .u8 122)) fun v=>k v H8) H8 fun v13 H9=>opt (pick v10 (.bool true) v13) fun v14=>ifB v14 (
 Q (.bool false) H9) (
 mk (rV x0) H9 fun v15 H10=>aM (fun l H X0=>F.f114_l1 E Q (nth l 0) H X0) [v15] H10)

def F.f128_j1 (E:Sy) (Q:VK) (t0 t5:Value) (H:AH):Prop :=
 ifB t5 (
 Q (.bool true) H) (
 opt (aA .and t0 (.int .u32 65535)) fun v1=>E.call (E.fid i.f134) [t0] H fun v2 H1=>opt (aA .eql v2 (.int .u32 327680)) fun v3=>gd v3 true (fun k=>k v1 H1) H1 fun v4 H2=>gd v3 true (fun k=>opt (aA .geq v4 (.int .u32 1)) fun v=>k v H2) H2 fun v5 H3=>opt (pick v3 v5 (.bool false)) fun v6=>gd v6 true (fun k=>k v1 H3) H3 fun v7 H4=>gd v6 true (fun k=>opt (aA .leq v7 (.int .u32 4095)) fun v=>k v H4) H4 fun v8 H5=>opt (pick v6 v8 (.bool false)) fun v9=>Q v9 H5)
def F.f128 (E:Sy) (x0:Value) (H:AH) (Q:VK):Prop :=
 opt (aA .eql x0 (.int .u32 2147483648)) fun v1=>ifB v1 (
 F.f128_j1 E Q x0 v1 H) (
 opt (aA .eql x0 (.int .u32 2147221504)) fun v2=>ifB v2 (
 F.f128_j1 E Q x0 v2 H) (
 opt (aA .eql x0 (.int .u32 2147418112)) fun v3=>F.f128_j1 E Q x0 v3 H))

def F.f140 (E:Sy) (x0:Value) (H:AH) (Q:VK):Prop :=
 opt (aA .andNot x0 (.int .u16 51199)) fun v1=>opt (aA .eql v1 (.int .u16 0)) fun v2=>Q v2 H

def F.f125_l1 (E:Sy) (Q:VK) (t1 t3 t8 t9 t10:Value) (H:AH) (X0:LK):Prop :=
 opt (aA .lss t10 t9) fun v1=>ifB v1 (
 opt (aK 2 t8 t10) fun v2=>opt (aE 2 v2 H) fun v3=>bJ [(.string ⟨#[]⟩),(.int .u16 0)] H fun v4 H1=>opt (aG 2 v4 v3 H1) fun H2=>opt (aB v4 0) fun v5=>opt (aC v5 H2) fun v6=>E.call (E.fid i.f121) [v6] H2 fun v7 H3=>opt (un .not v7) fun v8=>ifB v8 (
 Q (.int .i64 203) H3) (
 opt (aE 6 t1 H3) fun v9=>opt (aB v4 1) fun v10=>opt (aC v10 H3) fun v11=>E.call (E.fid i.f124) [v9,v11,(.int .u16 2047)] H3 fun v12 H4=>opt (un .not v12) fun v13=>ifB v13 (
 Q (.int .i64 204) H4) (
 opt (aB v4 0) fun v14=>opt (aC v14 H4) fun v15=>opt (look 1 (.bool false) false t3 v15 H4) fun v16=>ifB v16 (
 Q (.int .i64 206) H4) (
 opt (aB v4 0) fun v17=>opt (aC v17 H4) fun v18=>opt (cN 1 t3 v18 (.bool true) H4) fun H5=>opt (aA .add t10 (.int .i64 1)) fun v19=>X0 [t1,t3,t8,t9,v19] H5)))) (
 Q (.int .i64 0) H)
def F.f125 (E:Sy) (x0:Value) (H:AH) (Q:VK):Prop :=
 mk (eA x0) H fun v1 H1=>lM H1 fun v2 H2=>opt (aB v1 4) fun v3=>opt (aC v3 H2) fun v4=>opt (lenSlc v4) fun v5=>aM (fun l H X0=>F.f125_l1 E Q (nth l 0) (nth l 1) (nth l 2) (nth l 3) (nth l 4) H X0) [v1,v2,v4,v5,(.int .i64 0)] H2

def F.f126_l1 (E:Sy) (Q:VK) (t1 t3 t8 t9 t10:Value) (H:AH) (X0:LK):Prop :=
 opt (aA .lss t10 t9) fun v1=>ifB v1 (
 opt (aK 2 t8 t10) fun v2=>opt (aE 2 v2 H) fun v3=>bJ [(.int .u16 0),(.int .u16 0)] H fun v4 H1=>opt (aG 2 v4 v3 H1) fun H2=>opt (aE 6 t1 H2) fun v5=>opt (aB v4 1) fun v6=>opt (aC v6 H2) fun v7=>E.call (E.fid i.f124) [v5,v7,(.int .u16 49152)] H2 fun v8 H3=>opt (un .not v8) fun v9=>ifB v9 (
 Q (.int .i64 204) H3) (
 opt (aB v4 0) fun v10=>opt (aC v10 H3) fun v11=>opt (look 0 (.bool false) false t3 v11 H3) fun v12=>ifB v12 (
 Q (.int .i64 206) H3) (
 opt (aB v4 0) fun v13=>opt (aC v13 H3) fun v14=>opt (cN 0 t3 v14 (.bool true) H3) fun H4=>opt (aA .add t10 (.int .i64 1)) fun v15=>X0 [t1,t3,t8,t9,v15] H4))) (
 Q (.int .i64 0) H)
def F.f126 (E:Sy) (x0:Value) (H:AH) (Q:VK):Prop :=
 mk (eA x0) H fun v1 H1=>lM H1 fun v2 H2=>opt (aB v1 5) fun v3=>opt (aC v3 H2) fun v4=>opt (lenSlc v4) fun v5=>aM (fun l H X0=>F.f126_l1 E Q (nth l 0) (nth l 1) (nth l 2) (nth l 3) (nth l 4) H X0) [v1,v2,v4,v5,(.int .i64 0)] H2

def F.f150 (E:Sy) (x0 x1:Value) (H:AH) (Q:VK):Prop :=
 opt (lenSlc x0) fun v1=>E.call (E.fid i.f176) [x0,v1,x1] H fun v2 H1=>Q (.tuple #[]) H1

def F.f37 (E:Sy) (x0 x1:Value) (H:AH) (Q:VK):Prop :=
 mk (eA x0) H fun v1 H1=>mk (eA x1) H1 fun v2 H2=>opt (aB v1 1) fun v3=>opt (aC v3 H2) fun v4=>opt (aB v2 1) fun v5=>opt (aC v5 H2) fun v6=>E.call (E.fid i.f42) [v4] H2 fun v7 H3=>aC v5 H3=aC v5 H2 /\
 E.call (E.fid i.f42) [v6] H3 fun v8 H4=>E.call (E.fid i.f9) [v7,v8] H4 fun v9 H5=>Q v9 H5

def F.f40_l1 (E:Sy) (Q:VK) (t3 t7 t8 t9:Value) (H:AH) (X0:LK):Prop :=
 opt (aA .lss t9 t8) fun v1=>ifB v1 (
 opt (aK 3 t7 t9) fun v2=>opt (aE 3 v2 H) fun v3=>bJ [(.int .u32 0),(.int .u32 0),(.slice none 0 0)] H fun v4 H1=>opt (aG 3 v4 v3 H1) fun H2=>opt (aB v4 2) fun v5=>opt (aC v5 H2) fun v6=>opt (aB v4 1) fun v7=>opt (aC v7 H2) fun v8=>bJ [(.slice none 0 0),(.int .u32 0)] H2 fun v9 H3=>E.call (E.fid i.f43) [v6] H3 fun v10 H4=>H4.get H2.next=H3.get H2.next /\
 aC v7 H4=aC v7 H2 /\
 opt (aX [(0,1),(1,1)] #[(.slice none 0 0),(.int .u32 0)] [(0,v10),(1,v8)]) fun v11=>opt (aG 2 v9 v11 H4) fun H5=>opt (aB v9 0) fun v12=>opt (aC v12 H5) fun v13=>E.call (E.fid i.f41) [v13] H5 fun v14 H6=>ifB v14 (
 opt (aA .add t9 (.int .i64 1)) fun v15=>X0 [t3,t7,t8,v15] H6) (
 opt (aE 2 v9 H6) fun v16=>mk (bR 1 2 #[(.slice none 0 0),(.int .u32 0)] [(0,v16)]) H6 fun v17 H7=>eK (app 2 32 t3 v17 H7) fun v18 H8=>opt (aB v9 0) fun v19=>opt (aC v19 H8) fun v20=>opt (lenSlc v20) fun v21=>opt (aA .eql v21 (.int .i64 0)) fun v22=>ifB v22 (
 Q v18 H8) (
 opt (aA .add t9 (.int .i64 1)) fun v23=>X0 [v18,t7,t8,v23] H8))) (
 Q t3 H)
def F.f40 (E:Sy) (x0:Value) (H:AH) (Q:VK):Prop :=
 opt (lenSlc x0) fun v1=>aM (fun l H X0=>F.f40_l1 E Q (nth l 0) (nth l 1) (nth l 2) (nth l 3) H X0) [(.slice none 0 0),x0,v1,(.int .i64 0)] H

def F.f149 (E:Sy) (x0 x1:Value) (H:AH) (Q:VK):Prop :=
 opt (lenSlc x0) fun v1=>opt (aR .u64 v1) fun v2=>E.call (E.fid i.f105) [v2] H fun v3 H1=>E.call (E.fid i.f171) [x0,(.int .i64 0),v1,v3,x1] H1 fun v4 H2=>Q (.tuple #[]) H2

def F.f38 (E:Sy) (x0 x1:Value) (H:AH) (Q:VK):Prop :=
 mk (eA x0) H fun v1 H1=>mk (eA x1) H1 fun v2 H2=>opt (aB v1 0) fun v3=>opt (aC v3 H2) fun v4=>opt (aB v2 0) fun v5=>opt (aC v5 H2) fun v6=>E.call (E.fid i.f10) [v4,v6] H2 fun v7 H3=>Q v7 H3

def F.f98 (E:Sy) (x0 x1:Value) (H:AH) (Q:VK):Prop :=
 opt (aI x0) fun v1=>opt (aB v1 3) fun v2=>opt (aC v2 H) fun v3=>opt (look 0 (.int .i64 0) true v3 x1 H) fun v4=>opt (ext v4 0) fun v5=>opt (ext v4 1) fun v6=>ifB v6 (
 Q v5 H) (
 opt (aI x0) fun v7=>opt (aB v7 0) fun v8=>E.call (E.fid i.f47) [v8] H fun v9 H1=>opt (aI x0) fun v10=>opt (aB v10 3) fun v11=>opt (aC v11 H1) fun v12=>opt (cN 0 v12 x1 v9 H1) fun H2=>opt (aI x0) fun v13=>opt (aB v13 4) fun v14=>opt (aC v14 H2) fun v15=>mk (bR 1 1 #[(.int .u32 0)] [(0,x1)]) H2 fun v16 H3=>eK (app 1 4 v15 v16 H3) fun v17 H4=>opt (aI x0) fun v18=>opt (aB v18 4) fun v19=>opt (aQ v19 v17 H4) fun H5=>Q v9 H5)

def F.f47 (E:Sy) (x0:Value) (H:AH) (Q:VK):Prop :=
 opt (bW dB .eql x0 (.pointer none)) fun v1=>ifB v1 (
 Q (.int .i64 0) H) (
 opt (aI x0) fun v2=>opt (aB v2 1) fun v3=>opt (aC v3 H) fun v4=>opt (aA .add v4 (.int .i64 1)) fun v5=>opt (aI x0) fun v6=>opt (aB v6 1) fun v7=>opt (aQ v7 v5 H) fun H1=>opt (aI x0) fun v8=>opt (aB v8 1) fun v9=>opt (aC v9 H1) fun v10=>Q v10 H1)

def F.f32 (E:Sy) (x0:Value) (H:AH) (Q:VK):Prop :=
 bJ [(.int .u16 0),(.int .u8 0),(.int .u8 0),(.int .u32 0)] H fun v1 H1=>opt (aX [(0,1),(1,1),(2,1),(3,1)] #[(.int .u16 0),(.int .u8 0),(.int .u8 0),(.int .u32 0)] [(0,(.int .u16 32)),(3,x0)]) fun v2=>opt (aG 4 v1 v2 H1) fun H2=>opt (aE 4 v1 H2) fun v3=>Q v3 H2

def F.f49 (E:Sy) (x0 x1:Value) (H:AH) (Q:VK):Prop :=
 mk (eA x1) H fun v1 H1=>opt (aE 4 v1 H1) fun v2=>opt (aX [(0,1),(1,1),(2,1),(3,4)] #[(.int .u8 0),(.int .i64 0),(.int .i64 0),(.int .u16 0),(.int .u8 0),(.int .u8 0),(.int .u32 0)] [(0,(.int .u8 2)),(3,v2)]) fun v3=>E.call (E.fid i.f50) [x0,v3] H1 fun v4 H2=>Q (.tuple #[]) H2

def F.f46 (E:Sy) (x0 x1 x2 x3 x4:Value) (H:AH) (Q:VK):Prop :=
 E.call (E.fid i.f30) [x1,x2,(.int .u8 0),(.int .u8 0)] H fun v1 H1=>opt (aX [(0,1),(1,1),(2,1),(3,4)] #[(.int .u8 0),(.int .i64 0),(.int .i64 0),(.int .u16 0),(.int .u8 0),(.int .u8 0),(.int .u32 0)] [(0,(.int .u8 3)),(1,x3),(2,x4),(3,v1)]) fun v2=>E.call (E.fid i.f50) [x0,v2] H1 fun v3 H2=>Q (.tuple #[]) H2

def F.f45 (E:Sy) (x0 x1:Value) (H:AH) (Q:VK):Prop :=
 opt (aX [(0,1),(1,1),(2,1),(3,4)] #[(.int .u8 0),(.int .i64 0),(.int .i64 0),(.int .u16 0),(.int .u8 0),(.int .u8 0),(.int .u32 0)] [(0,(.int .u8 1)),(1,x1)]) fun v1=>E.call (E.fid i.f50) [x0,v1] H fun v2 H1=>Q (.tuple #[]) H1

def F.f100 (E:Sy) (x0 x1 x2:Value) (H:AH) (Q:VK):Prop :=
 opt (lenSlc x1) fun v1=>opt (aA .eql v1 (.int .i64 0)) fun v2=>ifB v2 (
 opt (aI x0) fun v3=>opt (aB v3 0) fun v4=>opt (aI x0) fun v5=>opt (aB v5 2) fun v6=>opt (aC v6 H) fun v7=>E.call (E.fid i.f44) [v4,v7] H fun v8 H1=>Q (.tuple #[]) H1) (
 opt (aA .eql v1 (.int .i64 1)) fun v9=>ifB v9 (
 opt (aI x0) fun v10=>opt (aB v10 0) fun v11=>opt (aK 2 x1 (.int .i64 0)) fun v12=>opt (aB v12 0) fun v13=>opt (aC v13 H) fun v14=>opt (aK 2 x1 (.int .i64 0)) fun v15=>opt (aB v15 0) fun v16=>opt (aC v16 H) fun v17=>opt (look 0 (.int .i64 0) false x2 v17 H) fun v18=>opt (aI x0) fun v19=>opt (aB v19 2) fun v20=>opt (aC v20 H) fun v21=>E.call (E.fid i.f46) [v11,(.int .u16 16),v14,v18,v21] H fun v22 H2=>Q (.tuple #[]) H2) (
 opt (lenSlc x1) fun v23=>opt (aA .quo v23 (.int .i64 2)) fun v24=>opt (aI x0) fun v25=>opt (aB v25 0) fun v26=>opt (aI x0) fun v27=>opt (aB v27 0) fun v28=>E.call (E.fid i.f47) [v26] H fun v29 H3=>E.call (E.fid i.f47) [v28] H3 fun v30 H4=>opt (aI x0) fun v31=>opt (aB v31 0) fun v32=>opt (aK 2 x1 v24) fun v33=>opt (aB v33 0) fun v34=>opt (aC v34 H4) fun v35=>E.call (E.fid i.f46) [v32,(.int .u16 48),v35,v30,v29] H4 fun v36 H5=>opt (aI x0) fun v37=>opt (aB v37 0) fun v38=>E.call (E.fid i.f45) [v38,v29] H5 fun v39 H6=>opt (iN 2 x1 none (some v24) none H6) fun v40=>E.call (E.fid i.f100) [x0,v40,x2] H6 fun v41 H7=>opt (aI x0) fun v42=>opt (aB v42 0) fun v43=>E.call (E.fid i.f45) [v43,v30] H7 fun v44 H8=>opt (iN 2 x1 (some v24) none none H8) fun v45=>E.call (E.fid i.f100) [x0,v45,x2] H8 fun v46 H9=>Q (.tuple #[]) H9))

def F.f99_l2 (E:Sy) (Q:VK) (X0:LK) (t0 t5 t6 t10 t11 t12 t21 t22 t23:Value) (H:AH) (X1:LK):Prop :=
 opt (aA .lss t23 t22) fun v1=>ifB v1 (
 opt (aK 4 t21 t23) fun v2=>opt (aE 4 v2 H) fun v3=>bJ [(.int .i64 0),(.int .u8 0),(.int .u64 0),(.int .u64 0)] H fun v4 H1=>opt (aG 4 v4 v3 H1) fun H2=>opt (aI t0) fun v5=>opt (aB v5 0) fun v6=>E.call (E.fid i.f47) [v6] H2 fun v7 H3=>opt (aE 4 v4 H3) fun v8=>E.call (E.fid i.f101) [t0,v8,v7,t6] H3 fun v9 H4=>opt (aI t0) fun v10=>opt (aB v10 0) fun v11=>E.call (E.fid i.f45) [v11,v7] H4 fun v12 H5=>opt (aA .add t23 (.int .i64 1)) fun v13=>X1 [t0,t5,t6,t10,t11,t12,t21,t22,v13] H5) (
 opt (aI t0) fun v14=>opt (aB v14 0) fun v15=>opt (aB t5 1) fun v16=>opt (aC v16 H) fun v17=>E.call (E.fid i.f98) [t0,v17] H fun v18 H6=>E.call (E.fid i.f44) [v15,v18] H6 fun v19 H7=>opt (aI t0) fun v20=>opt (aB v20 0) fun v21=>E.call (E.fid i.f45) [v21,t6] H7 fun v22 H8=>opt (aA .add t12 (.int .i64 1)) fun v23=>X0 [t0,t10,t11,v23] H8)
def F.f99_l1 (E:Sy) (Q:VK) (t0 t10 t11 t12:Value) (H:AH) (X0:LK):Prop :=
 opt (aA .lss t12 t11) fun v1=>ifB v1 (
 opt (aK 2 t10 t12) fun v2=>opt (aE 2 v2 H) fun v3=>bJ [(.slice none 0 0),(.int .u32 0)] H fun v4 H1=>opt (aG 2 v4 v3 H1) fun H2=>opt (aI t0) fun v5=>opt (aB v5 0) fun v6=>E.call (E.fid i.f47) [v6] H2 fun v7 H3=>opt (aB v4 0) fun v8=>opt (aC v8 H3) fun v9=>opt (lenSlc v9) fun v10=>aM (fun l H X1=>F.f99_l2 E Q X0 (nth l 0) (nth l 1) (nth l 2) (nth l 3) (nth l 4) (nth l 5) (nth l 6) (nth l 7) (nth l 8) H X1) [t0,v4,v7,t10,t11,t12,v9,v10,(.int .i64 0)] H3) (
 opt (aI t0) fun v11=>opt (aB v11 0) fun v12=>opt (aI t0) fun v13=>opt (aB v13 2) fun v14=>opt (aC v14 H) fun v15=>E.call (E.fid i.f44) [v12,v15] H fun v16 H4=>Q (.tuple #[]) H4)
def F.f99 (E:Sy) (x0 x1:Value) (H:AH) (Q:VK):Prop :=
 opt (lenSlc x1) fun v1=>aM (fun l H X0=>F.f99_l1 E Q (nth l 0) (nth l 1) (nth l 2) (nth l 3) H X0) [x0,x1,v1,(.int .i64 0)] H

def F.f102_l1 (E:Sy) (Q:VK) (t0 t7 t8 t9:Value) (H:AH) (X0:LK):Prop :=
 opt (aA .lss t9 t8) fun v1=>ifB v1 (
 opt (aK 1 t7 t9) fun v2=>opt (aC v2 H) fun v3=>opt (aI t0) fun v4=>opt (aB v4 0) fun v5=>opt (aI t0) fun v6=>opt (aB v6 3) fun v7=>opt (aC v7 H) fun v8=>opt (look 0 (.int .i64 0) false v8 v3 H) fun v9=>E.call (E.fid i.f45) [v5,v9] H fun v10 H1=>opt (aI t0) fun v11=>opt (aB v11 0) fun v12=>E.call (E.fid i.f34) [v3] H1 fun v13 H2=>E.call (E.fid i.f49) [v12,v13] H2 fun v14 H3=>opt (aA .add t9 (.int .i64 1)) fun v15=>X0 [t0,t7,t8,v15] H3) (
 Q (.tuple #[]) H)
def F.f102 (E:Sy) (x0:Value) (H:AH) (Q:VK):Prop :=
 opt (aI x0) fun v1=>opt (aB v1 4) fun v2=>opt (aC v2 H) fun v3=>opt (lenSlc v3) fun v4=>aM (fun l H X0=>F.f102_l1 E Q (nth l 0) (nth l 1) (nth l 2) (nth l 3) H X0) [x0,v3,v4,(.int .i64 0)] H

def F.f48 (E:Sy) (x0:Value) (H:AH) (Q:VK):Prop :=
 opt (bW dB .eql x0 (.pointer none)) fun v1=>ifB v1 (
 Q (.slice none 0 0) H) (
 mk (bR 0 7 #[(.int .u8 0),(.int .i64 0),(.int .i64 0),(.int .u16 0),(.int .u8 0),(.int .u8 0),(.int .u32 0)] []) H fun v2 H1=>opt (aI x0) fun v3=>opt (aB v3 0) fun v4=>opt (aC v4 H1) fun v5=>eK (app 7 32 v2 v5 H1) fun v6 H2=>Q v6 H2)

def F.f59_j1 (E:Sy) (Q:VK) (X0:LK) (t3 t4 t5 t7 t15 t16 t17:Value) (H:AH):Prop :=
 opt (aE 7 t7 H) fun v1=>mk (bR 1 7 #[(.int .u8 0),(.int .i64 0),(.int .i64 0),(.int .u16 0),(.int .u8 0),(.int .u8 0),(.int .u32 0)] [(0,v1)]) H fun v2 H1=>eK (app 7 32 t5 v2 H1) fun v3 H2=>opt (aA .add t17 (.int .i64 1)) fun v4=>X0 [t3,t4,v3,t15,t16,v4] H2
def F.f59_j2 (E:Sy) (Q:VK) (X0:LK) (t4 t5 t8 t9 t11 t56 t57 t58:Value) (H:AH):Prop :=
 opt (aE 7 t11 H) fun v1=>mk (bR 1 7 #[(.int .u8 0),(.int .i64 0),(.int .i64 0),(.int .u16 0),(.int .u8 0),(.int .u8 0),(.int .u32 0)] [(0,v1)]) H fun v2 H1=>eK (app 7 32 t8 v2 H1) fun v3 H2=>opt (aA .add t58 (.int .i64 1)) fun v4=>X0 [t4,t5,v3,t9,t56,t57,v4] H2
def F.f59_j3 (E:Sy) (Q:VK) (X0:LK) (t4 t5 t8 t9 t11 t56 t57 t58 t87:Value) (H:AH):Prop :=
 ifB t87 (
 opt (aA .add t58 (.int .i64 1)) fun v1=>X0 [t4,t5,t8,t9,t56,t57,v1] H) (
 opt (aB t11 0) fun v2=>opt (aC v2 H) fun v3=>opt (aA .eql v3 (.int .u8 4)) fun v4=>gd v4 false (fun k=>opt (aB t11 0) fun v=>k v H) H fun v5 H1=>gd v4 false (fun k=>opt (aC v5 H1) fun v=>k v H1) H1 fun v6 H2=>gd v4 false (fun k=>opt (aA .eql v6 (.int .u8 2)) fun v=>k v H2) H2 fun v7 H3=>gd v4 false (fun k=>k v7 H3) H3 fun v8 H4=>gd v8 true (fun k=>opt (aB t11 3) fun v=>k v H4) H4 fun v9 H5=>gd v8 true (fun k=>opt (aB v9 0) fun v=>k v H5) H5 fun v10 H6=>gd v8 true (fun k=>opt (aC v10 H6) fun v=>k v H6) H6 fun v11 H7=>gd v8 true (fun k=>E.call (E.fid i.f29) [v11] H7 fun v h=>k v h) H7 fun v12 H8=>gd v8 true (fun k=>opt (aA .eql v12 (.int .u16 6)) fun v=>k v H8) H8 fun v13 H9=>gd v4 false (fun k=>opt (pick v8 v13 (.bool false)) fun v=>k v H9) H9 fun v14 H10=>opt (pick v4 (.bool true) v14) fun v15=>F.f59_j2 E Q X0 t4 t5 t8 v15 t11 t56 t57 t58 H10)
def F.f59_l2 (E:Sy) (Q:VK) (t4 t5 t8 t9 t56 t57 t58:Value) (H:AH) (X0:LK):Prop :=
 opt (aA .lss t58 t57) fun v1=>ifB v1 (
 opt (aK 7 t56 t58) fun v2=>opt (aE 7 v2 H) fun v3=>bJ [(.int .u8 0),(.int .i64 0),(.int .i64 0),(.int .u16 0),(.int .u8 0),(.int .u8 0),(.int .u32 0)] H fun v4 H1=>opt (aG 7 v4 v3 H1) fun H2=>opt (aB v4 0) fun v5=>opt (aC v5 H2) fun v6=>opt (aA .eql v6 (.int .u8 1)) fun v7=>ifB v7 (
 opt (aB v4 1) fun v8=>opt (aC v8 H2) fun v9=>opt (look 0 (.bool false) false t4 v9 H2) fun v10=>opt (un .not v10) fun v11=>ifB v11 (
 opt (aA .add t58 (.int .i64 1)) fun v12=>X0 [t4,t5,t8,t9,t56,t57,v12] H2) (
 F.f59_j2 E Q X0 t4 t5 t8 (.bool false) v4 t56 t57 t58 H2)) (
 ifB t9 (
 F.f59_j3 E Q X0 t4 t5 t8 t9 v4 t56 t57 t58 t9 H2) (
 opt (aB v4 0) fun v13=>opt (aC v13 H2) fun v14=>opt (aA .eql v14 (.int .u8 4)) fun v15=>gd v15 true (fun k=>k t5 H2) H2 fun v16 H3=>gd v15 true (fun k=>k t58 H3) H3 fun v17 H4=>gd v15 true (fun k=>opt (aA .add v17 (.int .i64 1)) fun v=>k v H4) H4 fun v18 H5=>gd v15 true (fun k=>opt (iN 7 v16 (some v18) none none H5) fun v=>k v H5) H5 fun v19 H6=>gd v15 true (fun k=>opt (aB v4 1) fun v=>k v H6) H6 fun v20 H7=>gd v15 true (fun k=>opt (aC v20 H7) fun v=>k v H7) H7 fun v21 H8=>gd v15 true (fun k=>E.call (E.fid i.f54) [v19,v21] H8 fun v h=>k v h) H8 fun v22 H9=>opt (pick v15 v22 (.bool false)) fun v23=>F.f59_j3 E Q X0 t4 t5 t8 t9 v4 t56 t57 t58 v23 H9))) (
 Q t8 H)
def F.f59_l1 (E:Sy) (Q:VK) (t3 t4 t5 t15 t16 t17:Value) (H:AH) (X0:LK):Prop :=
 opt (aA .lss t17 t16) fun v1=>ifB v1 (
 opt (aK 7 t15 t17) fun v2=>opt (aE 7 v2 H) fun v3=>bJ [(.int .u8 0),(.int .i64 0),(.int .i64 0),(.int .u16 0),(.int .u8 0),(.int .u8 0),(.int .u32 0)] H fun v4 H1=>opt (aG 7 v4 v3 H1) fun H2=>opt (aB v4 0) fun v5=>opt (aC v5 H2) fun v6=>opt (aA .eql v6 (.int .u8 4)) fun v7=>ifB v7 (
 opt (aB v4 1) fun v8=>opt (aC v8 H2) fun v9=>E.call (E.fid i.f53) [t3,v9] H2 fun v10 H3=>opt (aB v4 1) fun v11=>opt (aQ v11 v10 H3) fun H4=>opt (aB v4 1) fun v12=>opt (aC v12 H4) fun v13=>opt (cN 0 t4 v13 (.bool true) H4) fun H5=>F.f59_j1 E Q X0 t3 t4 t5 v4 t15 t16 t17 H5) (
 opt (aA .eql v6 (.int .u8 3)) fun v14=>ifB v14 (
 opt (aB v4 1) fun v15=>opt (aC v15 H2) fun v16=>opt (aB v4 2) fun v17=>opt (aC v17 H2) fun v18=>E.call (E.fid i.f53) [t3,v16] H2 fun v19 H6=>aC v17 H6=aC v17 H2 /\
 opt (aB v4 1) fun v20=>E.call (E.fid i.f53) [t3,v18] H6 fun v21 H7=>opt (aQ v20 v19 H7) fun H8=>opt (aB v4 2) fun v22=>opt (aQ v22 v21 H8) fun H9=>opt (aB v4 1) fun v23=>opt (aC v23 H9) fun v24=>opt (aB v4 2) fun v25=>opt (aC v25 H9) fun v26=>opt (cN 0 t4 v24 (.bool true) H9) fun H10=>aC v25 H10=aC v25 H9 /\
 opt (cN 0 t4 v26 (.bool true) H10) fun H11=>F.f59_j1 E Q X0 t3 t4 t5 v4 t15 t16 t17 H11) (
 F.f59_j1 E Q X0 t3 t4 t5 v4 t15 t16 t17 H2))) (
 opt (lenSlc t5) fun v27=>aM (fun l H X0=>F.f59_l2 E Q (nth l 0) (nth l 1) (nth l 2) (nth l 3) (nth l 4) (nth l 5) (nth l 6) H X0) [t4,t5,(.slice none 0 0),(.bool false),t5,v27,(.int .i64 0)] H)
def F.f59 (E:Sy) (x0:Value) (H:AH) (Q:VK):Prop :=
 E.call (E.fid i.f60) [x0] H fun v1 H1=>lM H1 fun v2 H2=>opt (lenSlc x0) fun v3=>aM (fun l H X0=>F.f59_l1 E Q (nth l 0) (nth l 1) (nth l 2) (nth l 3) (nth l 4) (nth l 5) H X0) [v1,v2,(.slice none 0 0),x0,v3,(.int .i64 0)] H2

def F.f58 (E:Sy) (x0 x1:Value) (H:AH) (Q:VK):Prop :=
 mk (eA x1) H fun v1 H1=>opt (aB v1 0) fun v2=>opt (aC v2 H1) fun v3=>opt (aA .eql v3 (.int .u8 1)) fun v4=>ifB v4 (
 opt (aI x0) fun v5=>opt (aB v5 1) fun v6=>opt (aC v6 H1) fun v7=>opt (aB v1 1) fun v8=>opt (aC v8 H1) fun v9=>opt (look 0 (.int .i64 0) true v7 v9 H1) fun v10=>opt (ext v10 0) fun v11=>opt (ext v10 1) fun v12=>ifB v12 (
 Q (.int .i64 206) H1) (
 opt (aI x0) fun v13=>opt (aB v13 1) fun v14=>opt (aC v14 H1) fun v15=>opt (aB v1 1) fun v16=>opt (aC v16 H1) fun v17=>opt (aI x0) fun v18=>opt (aB v18 0) fun v19=>opt (aC v19 H1) fun v20=>opt (lenSlc v20) fun v21=>opt (cN 0 v15 v17 v21 H1) fun H2=>Q (.int .i64 0) H2)) (
 opt (aA .eql v3 (.int .u8 2)) fun v22=>ifB v22 (
 opt (aB v1 3) fun v23=>opt (aB v23 0) fun v24=>opt (aC v24 H1) fun v25=>E.call (E.fid i.f29) [v25] H1 fun v26 H3=>opt (aA .eql v26 (.int .u16 5)) fun v27=>ifB v27 (
 Q (.int .i64 210) H3) (
 opt (aI x0) fun v28=>opt (aB v28 0) fun v29=>opt (aC v29 H3) fun v30=>opt (aB v1 3) fun v31=>opt (aE 4 v31 H3) fun v32=>mk (bR 1 4 #[(.int .u16 0),(.int .u8 0),(.int .u8 0),(.int .u32 0)] [(0,v32)]) H3 fun v33 H4=>eK (app 4 8 v30 v33 H4) fun v34 H5=>opt (aI x0) fun v35=>opt (aB v35 0) fun v36=>opt (aQ v36 v34 H5) fun H6=>Q (.int .i64 0) H6)) (
 opt (aA .eql v3 (.int .u8 4)) fun v37=>ifB v37 (
 opt (aB v1 1) fun v38=>opt (aC v38 H1) fun v39=>E.call (E.fid i.f55) [x0,v39] H1 fun v40 H7=>opt (ext v40 0) fun v41=>opt (ext v40 1) fun v42=>opt (un .not v42) fun v43=>ifB v43 (
 Q (.int .i64 207) H7) (
 E.call (E.fid i.f57) [x0,v41] H7 fun v44 H8=>Q (.int .i64 0) H8)) (
 opt (aA .eql v3 (.int .u8 3)) fun v45=>ifB v45 (
 opt (aE 7 v1 H1) fun v46=>E.call (E.fid i.f56) [x0,v46] H1 fun v47 H9=>Q v47 H9) (
 Q (.int .i64 210) H1))))

def F.f6 (E:Sy) (x0 x1 x2:Value) (H:AH) (Q:VK):Prop :=
 mk (eA x0) H fun v1 H1=>opt (aA .sub x2 x1) fun v2=>opt (aA .sub v2 (.int .i64 1)) fun v3=>opt (aB v1 0) fun v4=>opt (aC v4 H1) fun v5=>E.call (E.fid i.f31) [v5] H1 fun v6 H2=>opt (un .not v6) fun v7=>ifB v7 (
 Q (.int .i64 208) H2) (
 opt (aB v1 0) fun v8=>opt (aC v8 H2) fun v9=>opt (aA .eql v9 (.int .u16 5)) fun v10=>gd v10 true (fun k=>opt (aB v1 3) fun v=>k v H2) H2 fun v11 H3=>gd v10 true (fun k=>opt (aC v11 H3) fun v=>k v H3) H3 fun v12 H4=>gd v10 true (fun k=>opt (aR .u64 v12) fun v=>k v H4) H4 fun v13 H5=>gd v10 true (fun k=>k v3 H5) H5 fun v14 H6=>gd v10 true (fun k=>opt (aR .u64 v14) fun v=>k v H6) H6 fun v15 H7=>gd v10 true (fun k=>opt (aA .geq v13 v15) fun v=>k v H7) H7 fun v16 H8=>opt (pick v10 v16 (.bool false)) fun v17=>ifB v17 (
 Q (.int .i64 207) H8) (
 opt (aB v1 0) fun v18=>opt (aC v18 H8) fun v19=>E.call (E.fid i.f29) [v19] H8 fun v20 H9=>opt (aA .eql v20 (.int .u16 5)) fun v21=>gd v21 true (fun k=>opt (aB v1 0) fun v=>k v H9) H9 fun v22 H10=>gd v21 true (fun k=>opt (aC v22 H10) fun v=>k v H10) H10 fun v23 H11=>gd v21 true (fun k=>opt (aA .neq v23 (.int .u16 5)) fun v=>k v H11) H11 fun v24 H12=>opt (pick v21 v24 (.bool false)) fun v25=>gd v25 true (fun k=>opt (aB v1 1) fun v=>k v H12) H12 fun v26 H13=>gd v25 true (fun k=>opt (aC v26 H13) fun v=>k v H13) H13 fun v27 H14=>gd v25 true (fun k=>opt (aB v1 2) fun v=>k v H14) H14 fun v28 H15=>gd v25 true (fun k=>opt (aC v28 H15) fun v=>k v H15) H15 fun v29 H16=>gd v25 true (fun k=>opt (jH max2 [v27,v29]) fun v=>k v H16) H16 fun v30 H17=>gd v25 true (fun k=>opt (aR .i64 v30) fun v=>k v H17) H17 fun v31 H18=>gd v25 true (fun k=>k v3 H18) H18 fun v32 H19=>gd v25 true (fun k=>opt (aA .geq v31 v32) fun v=>k v H19) H19 fun v33 H20=>opt (pick v25 v33 (.bool false)) fun v34=>ifB v34 (
 Q (.int .i64 207) H20) (
 opt (aB v1 0) fun v35=>opt (aC v35 H20) fun v36=>opt (aA .eql v36 (.int .u16 32)) fun v37=>gd v37 true (fun k=>opt (aB v1 3) fun v=>k v H20) H20 fun v38 H21=>gd v37 true (fun k=>opt (aC v38 H21) fun v=>k v H21) H21 fun v39 H22=>gd v37 true (fun k=>opt (aA .rem v39 (.int .u32 4)) fun v=>k v H22) H22 fun v40 H23=>gd v37 true (fun k=>opt (aA .neq v40 (.int .u32 0)) fun v=>k v H23) H23 fun v41 H24=>gd v37 true (fun k=>k v41 H24) H24 fun v42 H25=>gd v42 false (fun k=>opt (aB v1 3) fun v=>k v H25) H25 fun v43 H26=>gd v42 false (fun k=>opt (aC v43 H26) fun v=>k v H26) H26 fun v44 H27=>gd v42 false (fun k=>opt (aA .gtr v44 (.int .u32 60)) fun v=>k v H27) H27 fun v45 H28=>gd v37 true (fun k=>opt (pick v42 (.bool true) v45) fun v=>k v H28) H28 fun v46 H29=>opt (pick v37 v46 (.bool false)) fun v47=>ifB v47 (
 Q (.int .i64 204) H29) (
 opt (aB v1 0) fun v48=>opt (aC v48 H29) fun v49=>E.call (E.fid i.f7) [v49] H29 fun v50 H30=>gd v50 true (fun k=>opt (aB v1 3) fun v=>k v H30) H30 fun v51 H31=>gd v50 true (fun k=>opt (aC v51 H31) fun v=>k v H31) H31 fun v52 H32=>gd v50 true (fun k=>opt (aA .geq v52 (.int .u32 16)) fun v=>k v H32) H32 fun v53 H33=>opt (pick v50 v53 (.bool false)) fun v54=>ifB v54 (
 Q (.int .i64 204) H33) (
 opt (aB v1 0) fun v55=>opt (aC v55 H33) fun v56=>opt (aA .eql v56 (.int .u16 52)) fun v57=>gd v57 true (fun k=>opt (aB v1 3) fun v=>k v H33) H33 fun v58 H34=>gd v57 true (fun k=>opt (aC v58 H34) fun v=>k v H34) H34 fun v59 H35=>gd v57 true (fun k=>opt (aA .eql v59 (.int .u32 0)) fun v=>k v H35) H35 fun v60 H36=>opt (pick v57 v60 (.bool false)) fun v61=>ifB v61 (
 Q (.int .i64 204) H36) (
 opt (aB v1 0) fun v62=>opt (aC v62 H36) fun v63=>opt (aA .eql v63 (.int .u16 100)) fun v64=>gd v64 false (fun k=>opt (aB v1 0) fun v=>k v H36) H36 fun v65 H37=>gd v64 false (fun k=>opt (aC v65 H37) fun v=>k v H37) H37 fun v66 H38=>gd v64 false (fun k=>opt (aA .eql v66 (.int .u16 116)) fun v=>k v H38) H38 fun v67 H39=>opt (pick v64 (.bool true) v67) fun v68=>gd v68 true (fun k=>opt (aB v1 3) fun v=>k v H39) H39 fun v69 H40=>gd v68 true (fun k=>opt (aC v69 H40) fun v=>k v H40) H40 fun v70 H41=>gd v68 true (fun k=>opt (aA .geq v70 (.int .u32 32)) fun v=>k v H41) H41 fun v71 H42=>opt (pick v68 v71 (.bool false)) fun v72=>ifB v72 (
 Q (.int .i64 204) H42) (
 Q (.int .i64 0) H42)))))))

def F.f4 (E:Sy) (x0:Value) (H:AH) (Q:VK):Prop :=
 mk (eA x0) H fun v1 H1=>opt (aB v1 0) fun v2=>opt (aC v2 H1) fun v3=>E.call (E.fid i.f29) [v3] H1 fun v4 H2=>opt (aA .eql v4 (.int .u16 6)) fun v5=>Q v5 H2

def F.f5_l3 (E:Sy) (Q:VK) (X0:LK) (t2 t3 t7 t24 t25 t26 t58 t59 t60:Value) (H:AH) (X1:LK):Prop :=
 opt (aA .lss t60 t59) fun v1=>ifB v1 (
 opt (aK 1 t58 t60) fun v2=>opt (aC v2 H) fun v3=>opt (aK 1 t3 v3) fun v4=>opt (aC v4 H) fun v5=>opt (aA .and v5 t7) fun v6=>opt (aK 1 t3 v3) fun v7=>opt (aQ v7 v6 H) fun H1=>opt (aA .add t60 (.int .i64 1)) fun v8=>X1 [t2,t3,t7,t24,t25,t26,t58,t59,v8] H1) (
 opt (aA .add t26 (.int .i64 1)) fun v9=>X0 [t2,t3,t24,t25,v9] H)
def F.f5_j1 (E:Sy) (Q:VK) (X0:LK) (t2 t3 t5 t6 t7 t24 t25 t26:Value) (H:AH):Prop :=
 opt (aE 4 t6 H) fun v1=>E.call (E.fid i.f8) [v1,t5] H fun v2 H1=>opt (lenSlc v2) fun v3=>aM (fun l H X1=>F.f5_l3 E Q X0 (nth l 0) (nth l 1) (nth l 2) (nth l 3) (nth l 4) (nth l 5) (nth l 6) (nth l 7) (nth l 8) H X1) [t2,t3,t7,t24,t25,t26,v2,v3,(.int .i64 0)] H1
def F.f5_j3 (E:Sy) (Q:VK) (X0:LK) (t2 t3 t5 t6 t7 t24 t25 t26 t48:Value) (H:AH):Prop :=
 ifB t48 (
 opt (aB t6 3) fun v1=>opt (aC v1 H) fun v2=>opt (aA .shl (.int .u16 1) v2) fun v3=>opt (aA .or t7 v3) fun v4=>F.f5_j1 E Q X0 t2 t3 t5 t6 v4 t24 t25 t26 H) (
 F.f5_j1 E Q X0 t2 t3 t5 t6 t7 t24 t25 t26 H)
def F.f5_j2 (E:Sy) (Q:VK) (X0:LK) (t2 t3 t5 t6 t7 t24 t25 t26 t36 t37:Value) (H:AH):Prop :=
 ifB t37 (
 opt (aB t6 3) fun v1=>opt (aC v1 H) fun v2=>opt (aA .shr t7 v2) fun v3=>opt (aA .and v3 (.int .u16 1)) fun v4=>opt (aA .eql v4 (.int .u16 0)) fun v5=>ifB v5 (
 opt (aX [(0,1),(1,1)] #[(.int .i64 0),(.int .i64 0)] [(0,t5),(1,(.int .i64 2))]) fun v6=>opt (aG 2 t2 v6 H) fun H1=>opt (aE 2 t2 H1) fun v7=>Q v7 H1) (
 F.f5_j1 E Q X0 t2 t3 t5 t6 t7 t24 t25 t26 H)) (
 opt (aA .eql t36 (.int .u16 2)) fun v8=>ifB v8 (
 F.f5_j3 E Q X0 t2 t3 t5 t6 t7 t24 t25 t26 v8 H) (
 opt (aA .eql t36 (.int .u16 3)) fun v9=>F.f5_j3 E Q X0 t2 t3 t5 t6 t7 t24 t25 t26 v9 H))
def F.f5_l2 (E:Sy) (Q:VK) (t2 t3 t24 t25 t26:Value) (H:AH) (X0:LK):Prop :=
 opt (aA .lss t26 t25) fun v1=>ifB v1 (
 opt (aK 4 t24 t26) fun v2=>opt (aE 4 v2 H) fun v3=>bJ [(.int .u16 0),(.int .u8 0),(.int .u8 0),(.int .u32 0)] H fun v4 H1=>opt (aG 4 v4 v3 H1) fun H2=>opt (aK 1 t3 t26) fun v5=>opt (aC v5 H2) fun v6=>opt (aB v4 0) fun v7=>opt (aC v7 H2) fun v8=>opt (aA .eql v8 (.int .u16 96)) fun v9=>ifB v9 (
 F.f5_j2 E Q X0 t2 t3 t26 v4 v6 t24 t25 t26 v8 v9 H2) (
 opt (aA .eql v8 (.int .u16 97)) fun v10=>F.f5_j2 E Q X0 t2 t3 t26 v4 v6 t24 t25 t26 v8 v10 H2)) (
 opt (aX [(0,1),(1,1)] #[(.int .i64 0),(.int .i64 0)] []) fun v11=>opt (aG 2 t2 v11 H) fun H3=>opt (aE 2 t2 H3) fun v12=>Q v12 H3)
def F.f5_l1 (E:Sy) (Q:VK) (t0 t2 t3 t14 t15:Value) (H:AH) (X0:LK):Prop :=
 opt (aA .lss t15 t14) fun v1=>ifB v1 (
 opt (aK 1 t3 t15) fun v2=>opt (aQ v2 (.int .u16 65535) H) fun H1=>opt (aA .add t15 (.int .i64 1)) fun v3=>X0 [t0,t2,t3,t14,v3] H1) (
 opt (aK 1 t3 (.int .i64 0)) fun v4=>opt (aQ v4 (.int .u16 0) H) fun H2=>opt (lenSlc t0) fun v5=>aM (fun l H X0=>F.f5_l2 E Q (nth l 0) (nth l 1) (nth l 2) (nth l 3) (nth l 4) H X0) [t2,t3,t0,v5,(.int .i64 0)] H2)
def F.f5 (E:Sy) (x0:Value) (H:AH) (Q:VK):Prop :=
 bJ [(.int .i64 0),(.int .i64 0)] H fun v1 H1=>opt (lenSlc x0) fun v2=>mk (qY 1 2 #[(.int .u16 0)] v2 v2) H1 fun v3 H2=>opt (lenSlc v3) fun v4=>aM (fun l H X0=>F.f5_l1 E Q (nth l 0) (nth l 1) (nth l 2) (nth l 3) (nth l 4) H X0) [x0,v1,v3,v4,(.int .i64 0)] H2

def F.f23 (E:Sy) (x0 x1:Value) (H:AH) (Q:VK):Prop :=
 bJ [(.int .u8 0),(.int .i64 0),(.int .u16 0),(.int .i64 0),(.int .u16 0),(.int .i64 0),(.bool false)] H fun v1 H1=>opt (bW dB .eql x0 (.pointer none)) fun v2=>ifB v2 (
 opt (aX [(0,1),(1,2),(3,1),(4,1),(5,1),(6,1)] #[(.int .u8 0),(.int .i64 0),(.int .u16 0),(.int .i64 0),(.int .u16 0),(.int .i64 0),(.bool false)] []) fun v3=>opt (aG 7 v1 v3 H1) fun H2=>opt (aE 7 v1 H2) fun v4=>Q (.tuple #[v4,(.int .i64 201)]) H2) (
 E.call (E.fid i.f24) [x0,x1] H1 fun v5 H3=>opt (bW dB .eql v5 (.pointer none)) fun v6=>ifB v6 (
 opt (aX [(0,1),(1,2),(3,1),(4,1),(5,1),(6,1)] #[(.int .u8 0),(.int .i64 0),(.int .u16 0),(.int .i64 0),(.int .u16 0),(.int .i64 0),(.bool false)] []) fun v7=>opt (aG 7 v1 v7 H3) fun H4=>opt (aE 7 v1 H4) fun v8=>Q (.tuple #[v8,(.int .i64 9)]) H4) (
 opt (aI x0) fun v9=>opt (aB v9 0) fun v10=>opt (cJ 16 1 v10 x1) fun v11=>opt (aQ v11 (.pointer none) H3) fun H5=>opt (aI v5) fun v12=>opt (aE 7 v12 H5) fun v13=>opt (aG 7 v1 v13 H5) fun H6=>opt (aE 7 v1 H6) fun v14=>Q (.tuple #[v14,(.int .i64 0)]) H6))

def F.f72 (E:Sy) (x0 x1:Value) (H:AH) (Q:VK):Prop :=
 mk (eA x1) H fun v1 H1=>opt (aB v1 0) fun v2=>opt (aC v2 H1) fun v3=>opt (aA .eql v3 (.int .u8 3)) fun v4=>gd v4 true (fun k=>opt (aB v1 5) fun v=>k v H1) H1 fun v5 H2=>gd v4 true (fun k=>opt (aC v5 H2) fun v=>k v H2) H2 fun v6 H3=>gd v4 true (fun k=>opt (aA .geq v6 (.int .i64 0)) fun v=>k v H3) H3 fun v7 H4=>opt (pick v4 v7 (.bool false)) fun v8=>ifB v8 (
 opt (aI x0) fun v9=>opt (aB v9 0) fun v10=>opt (aC v10 H4) fun v11=>opt (aI v11) fun v12=>opt (aB v12 2) fun v13=>opt (aC v13 H4) fun v14=>opt (aB v1 5) fun v15=>opt (aC v15 H4) fun v16=>opt (aR .u16 v16) fun v17=>opt (aB v1 6) fun v18=>opt (aC v18 H4) fun v19=>E.call (E.fid i.f132) [v14,v17,v19] H4 fun v20 H5=>opt (aE 7 v1 H5) fun v21=>E.call (E.fid i.f74) [x0,v21,(.bool false)] H5 fun v22 H6=>Q (.tuple #[]) H6) (
 opt (aE 7 v1 H4) fun v23=>E.call (E.fid i.f74) [x0,v23,(.bool false)] H4 fun v24 H7=>Q (.tuple #[]) H7)

def F.f73 (E:Sy) (x0 x1 x2 x3:Value) (H:AH) (Q:VK):Prop :=
 opt (aI x0) fun v1=>opt (aB v1 1) fun v2=>opt (aC v2 H) fun v3=>opt (aI v3) fun v4=>opt (aB v4 4) fun v5=>opt (aC v5 H) fun v6=>E.call (E.fid i.f24) [v6,x1] H fun v7 H1=>opt (bW dB .eql v7 (.pointer none)) fun v8=>ifB v8 (
 Q (.tuple #[(.pointer none),(.int .i64 9)]) H1) (
 opt (aI v7) fun v9=>opt (aB v9 0) fun v10=>opt (aC v10 H1) fun v11=>opt (aA .eql v11 (.int .u8 2)) fun v12=>gd v12 true (fun k=>k x2 H1) H1 fun v13 H2=>gd v12 true (fun k=>opt (aA .eql v13 (.int .u8 1)) fun v=>k v H2) H2 fun v14 H3=>opt (pick v12 v14 (.bool false)) fun v15=>ifB v15 (
 Q (.tuple #[(.pointer none),(.int .i64 21)]) H3) (
 opt (aI v7) fun v16=>opt (aB v16 0) fun v17=>opt (aC v17 H3) fun v18=>opt (aA .neq v18 x2) fun v19=>ifB v19 (
 Q (.tuple #[(.pointer none),(.int .i64 22)]) H3) (
 opt (aI v7) fun v20=>opt (aB v20 4) fun v21=>opt (aC v21 H3) fun v22=>E.call (E.fid i.f139) [v22,x3] H3 fun v23 H4=>opt (un .not v23) fun v24=>ifB v24 (
 Q (.tuple #[(.pointer none),(.int .i64 9)]) H4) (
 Q (.tuple #[v7,(.int .i64 0)]) H4))))

def F.f24 (E:Sy) (x0 x1:Value) (H:AH) (Q:VK):Prop :=
 opt (bW dB .eql x0 (.pointer none)) fun v1=>gd v1 false (fun k=>k x1 H) H fun v2 H1=>gd v1 false (fun k=>opt (aA .geq v2 (.int .u64 16)) fun v=>k v H1) H1 fun v3 H2=>opt (pick v1 (.bool true) v3) fun v4=>ifB v4 (
 Q (.pointer none) H2) (
 opt (aI x0) fun v5=>opt (aB v5 0) fun v6=>opt (cJ 16 1 v6 x1) fun v7=>opt (aC v7 H2) fun v8=>Q v8 H2)

def F.f63 (E:Sy) (x0 x1:Value) (H:AH) (Q:VK):Prop :=
 mk (eA x1) H fun v1 H1=>bJ [(.int .i64 0),(.slice none 0 0),(.int .i64 0),(.bool false)] H1 fun v2 H2=>opt (aI x0) fun v3=>opt (aB v3 1) fun v4=>opt (aC v4 H2) fun v5=>opt (aI v5) fun v6=>opt (aB v6 4) fun v7=>opt (aC v7 H2) fun v8=>opt (aE 7 v1 H2) fun v9=>E.call (E.fid i.f22) [v8,v9] H2 fun v10 H3=>opt (ext v10 0) fun v11=>opt (ext v10 1) fun v12=>opt (aA .neq v12 (.int .i64 0)) fun v13=>ifB v13 (
 E.call (E.fid i.f2) [v12] H3 fun v14 H4=>opt (aG 4 v2 v14 H4) fun H5=>opt (aE 4 v2 H5) fun v15=>Q v15 H5) (
 opt (aE 7 v1 H3) fun v16=>E.call (E.fid i.f74) [x0,v16,(.bool true)] H3 fun v17 H6=>E.call (E.fid i.f1) [v11] H6 fun v18 H7=>opt (aG 4 v2 v18 H7) fun H8=>opt (aE 4 v2 H8) fun v19=>Q v19 H8)

def F.f96 (E:Sy) (x0:Value) (H:AH) (Q:VK):Prop :=
 bJ [(.int .i64 0),(.slice none 0 0),(.int .i64 0),(.bool false)] H fun v1 H1=>opt (aA .neq x0 (.int .i64 0)) fun v2=>ifB v2 (
 E.call (E.fid i.f2) [x0] H1 fun v3 H2=>opt (aG 4 v1 v3 H2) fun H3=>opt (aE 4 v1 H3) fun v4=>Q v4 H3) (
 E.call (E.fid i.f1) [(.int .i64 0)] H1 fun v5 H4=>opt (aG 4 v1 v5 H4) fun H5=>opt (aE 4 v1 H5) fun v6=>Q v6 H5)

def F.f65 (E:Sy) (x0 x1 x2:Value) (H:AH) (Q:VK):Prop :=
 bJ [(.int .i64 0),(.slice none 0 0),(.int .i64 0),(.bool false)] H fun v1 H1=>E.call (E.fid i.f73) [x0,x1,(.int .u8 3),(.int .u16 0)] H1 fun v2 H2=>opt (ext v2 0) fun v3=>opt (ext v2 1) fun v4=>opt (aA .neq v4 (.int .i64 0)) fun v5=>ifB v5 (
 E.call (E.fid i.f2) [v4] H2 fun v6 H3=>opt (aG 4 v1 v6 H3) fun H4=>opt (aE 4 v1 H4) fun v7=>Q v7 H4) (
 opt (aA .gtr x2 (.int .u64 65535)) fun v8=>gd v8 false (fun k=>k v3 H2) H2 fun v9 H5=>gd v8 false (fun k=>opt (aI v9) fun v=>k v H5) H5 fun v10 H6=>gd v8 false (fun k=>opt (aB v10 5) fun v=>k v H6) H6 fun v11 H7=>gd v8 false (fun k=>opt (aC v11 H7) fun v=>k v H7) H7 fun v12 H8=>gd v8 false (fun k=>opt (aA .geq v12 (.int .i64 0)) fun v=>k v H8) H8 fun v13 H9=>opt (pick v8 (.bool true) v13) fun v14=>ifB v14 (
 E.call (E.fid i.f2) [(.int .i64 22)] H9 fun v15 H10=>opt (aG 4 v1 v15 H10) fun H11=>opt (aE 4 v1 H11) fun v16=>Q v16 H11) (
 opt (aI x0) fun v17=>opt (aB v17 1) fun v18=>opt (aC v18 H9) fun v19=>opt (aI v19) fun v20=>opt (aB v20 7) fun v21=>opt (aC v21 H9) fun v22=>opt (aR .u16 x2) fun v23=>E.call (E.fid i.f20) [v22,(.int .u16 16384),v23] H9 fun v24 H12=>opt (un .not v24) fun v25=>ifB v25 (
 E.call (E.fid i.f2) [(.int .i64 13)] H12 fun v26 H13=>opt (aG 4 v1 v26 H13) fun H14=>opt (aE 4 v1 H14) fun v27=>Q v27 H14) (
 opt (aI x0) fun v28=>opt (aB v28 0) fun v29=>opt (aC v29 H12) fun v30=>opt (aI v30) fun v31=>opt (aB v31 2) fun v32=>opt (aC v32 H12) fun v33=>opt (aR .u16 x2) fun v34=>E.call (E.fid i.f130) [v33,v34] H12 fun v35 H15=>opt (ext v35 0) fun v36=>opt (ext v35 1) fun v37=>opt (aA .neq v37 (.int .i64 0)) fun v38=>ifB v38 (
 E.call (E.fid i.f2) [v37] H15 fun v39 H16=>opt (aG 4 v1 v39 H16) fun H17=>opt (aE 4 v1 H17) fun v40=>Q v40 H17) (
 opt (aR .i64 v36) fun v41=>opt (aI v3) fun v42=>opt (aB v42 5) fun v43=>opt (aQ v43 v41 H15) fun H18=>opt (aI v3) fun v44=>opt (aB v44 5) fun v45=>opt (aC v45 H18) fun v46=>E.call (E.fid i.f1) [v46] H18 fun v47 H19=>opt (aG 4 v1 v47 H19) fun H20=>opt (aE 4 v1 H20) fun v48=>Q v48 H20))))

def F.f77 (E:Sy) (x0 x1:Value) (H:AH) (Q:VK):Prop :=
 bJ [(.int .i64 0),(.slice none 0 0),(.int .i64 0),(.bool false)] H fun v1 H1=>E.call (E.fid i.f73) [x0,x1,(.int .u8 3),(.int .u16 0)] H1 fun v2 H2=>opt (ext v2 0) fun v3=>opt (ext v2 1) fun v4=>opt (aA .neq v4 (.int .i64 0)) fun v5=>ifB v5 (
 E.call (E.fid i.f2) [v4] H2 fun v6 H3=>opt (aG 4 v1 v6 H3) fun H4=>opt (aE 4 v1 H4) fun v7=>Q v7 H4) (
 opt (aI v3) fun v8=>opt (aB v8 5) fun v9=>opt (aC v9 H2) fun v10=>opt (aA .lss v10 (.int .i64 0)) fun v11=>ifB v11 (
 E.call (E.fid i.f2) [(.int .i64 22)] H2 fun v12 H5=>opt (aG 4 v1 v12 H5) fun H6=>opt (aE 4 v1 H6) fun v13=>Q v13 H6) (
 opt (aI v3) fun v14=>opt (aB v14 6) fun v15=>opt (aC v15 H2) fun v16=>ifB v16 (
 E.call (E.fid i.f1) [(.int .i64 0)] H2 fun v17 H7=>opt (aG 4 v1 v17 H7) fun H8=>opt (aE 4 v1 H8) fun v18=>Q v18 H8) (
 opt (aI v3) fun v19=>opt (aB v19 6) fun v20=>opt (aQ v20 (.bool true) H2) fun H9=>opt (aI x0) fun v21=>opt (aB v21 0) fun v22=>opt (aC v22 H9) fun v23=>opt (aI v23) fun v24=>opt (aB v24 2) fun v25=>opt (aC v25 H9) fun v26=>opt (aI v3) fun v27=>opt (aB v27 5) fun v28=>opt (aC v28 H9) fun v29=>opt (aR .u16 v29) fun v30=>E.call (E.fid i.f133) [v26,v30] H9 fun v31 H10=>E.call (E.fid i.f96) [v31] H10 fun v32 H11=>opt (aG 4 v1 v32 H11) fun H12=>opt (aE 4 v1 H12) fun v33=>Q v33 H12)))

def F.f67 (E:Sy) (x0 x1 x2:Value) (H:AH) (Q:VK):Prop :=
 bJ [(.int .i64 0),(.slice none 0 0),(.int .i64 0),(.bool false)] H fun v1 H1=>E.call (E.fid i.f73) [x0,x1,(.int .u8 3),(.int .u16 0)] H1 fun v2 H2=>opt (ext v2 0) fun v3=>opt (ext v2 1) fun v4=>opt (aA .neq v4 (.int .i64 0)) fun v5=>ifB v5 (
 E.call (E.fid i.f2) [v4] H2 fun v6 H3=>opt (aG 4 v1 v6 H3) fun H4=>opt (aE 4 v1 H4) fun v7=>Q v7 H4) (
 opt (aA .gtr x2 (.int .u64 65535)) fun v8=>ifB v8 (
 E.call (E.fid i.f2) [(.int .i64 22)] H2 fun v9 H5=>opt (aG 4 v1 v9 H5) fun H6=>opt (aE 4 v1 H6) fun v10=>Q v10 H6) (
 opt (aI x0) fun v11=>opt (aB v11 1) fun v12=>opt (aC v12 H2) fun v13=>opt (aI v13) fun v14=>opt (aB v14 7) fun v15=>opt (aC v15 H2) fun v16=>opt (aR .u16 x2) fun v17=>E.call (E.fid i.f20) [v16,(.int .u16 32768),v17] H2 fun v18 H7=>opt (un .not v18) fun v19=>ifB v19 (
 E.call (E.fid i.f2) [(.int .i64 13)] H7 fun v20 H8=>opt (aG 4 v1 v20 H8) fun H9=>opt (aE 4 v1 H9) fun v21=>Q v21 H9) (
 opt (aI x0) fun v22=>opt (aB v22 0) fun v23=>opt (aC v23 H7) fun v24=>opt (aI v24) fun v25=>opt (aB v25 2) fun v26=>opt (aC v26 H7) fun v27=>opt (aR .u16 x2) fun v28=>E.call (E.fid i.f131) [v27,v28] H7 fun v29 H10=>E.call (E.fid i.f96) [v29] H10 fun v30 H11=>opt (aG 4 v1 v30 H11) fun H12=>opt (aE 4 v1 H12) fun v31=>Q v31 H12)))

def F.f82 (E:Sy) (x0 x1:Value) (H:AH) (Q:VK):Prop :=
 bJ [(.int .i64 0),(.slice none 0 0),(.int .i64 0),(.bool false)] H fun v1 H1=>opt (aA .neq x1 (.int .u64 1)) fun v2=>ifB v2 (
 E.call (E.fid i.f2) [(.int .i64 22)] H1 fun v3 H2=>opt (aG 4 v1 v3 H2) fun H3=>opt (aE 4 v1 H3) fun v4=>Q v4 H3) (
 opt (aI x0) fun v5=>opt (aB v5 1) fun v6=>opt (aC v6 H1) fun v7=>opt (aI v7) fun v8=>opt (aB v8 5) fun v9=>opt (aQ v9 (.bool true) H1) fun H4=>E.call (E.fid i.f1) [(.int .i64 0)] H4 fun v10 H5=>opt (aG 4 v1 v10 H5) fun H6=>opt (aE 4 v1 H6) fun v11=>Q v11 H6)

def F.f87 (E:Sy) (x0 x1:Value) (H:AH) (Q:VK):Prop :=
 bJ [(.int .i64 0),(.slice none 0 0),(.int .i64 0),(.bool false)] H fun v1 H1=>E.call (E.fid i.f64) [x0,x1] H1 fun v2 H2=>opt (aA .neq v2 (.int .i64 0)) fun v3=>ifB v3 (
 E.call (E.fid i.f2) [v2] H2 fun v4 H3=>opt (aG 4 v1 v4 H3) fun H4=>opt (aE 4 v1 H4) fun v5=>Q v5 H4) (
 opt (aI x0) fun v6=>opt (aB v6 1) fun v7=>opt (aC v7 H2) fun v8=>opt (aI v8) fun v9=>opt (aB v9 7) fun v10=>opt (aC v10 H2) fun v11=>E.call (E.fid i.f19) [v11] H2 fun v12 H5=>opt (aA .geq v12 (.int .i64 16)) fun v13=>ifB v13 (
 E.call (E.fid i.f2) [(.int .i64 27)] H5 fun v14 H6=>opt (aG 4 v1 v14 H6) fun H7=>opt (aE 4 v1 H7) fun v15=>Q v15 H7) (
 opt (aI x0) fun v16=>opt (aB v16 0) fun v17=>opt (aC v17 H5) fun v18=>opt (aI v18) fun v19=>opt (aB v19 4) fun v20=>opt (aC v20 H5) fun v21=>opt (aK 6 v21 x1) fun v22=>opt (aE 6 v22 H5) fun v23=>opt (aI x0) fun v24=>opt (aB v24 0) fun v25=>opt (aC v25 H5) fun v26=>opt (aI v26) fun v27=>opt (aB v27 0) fun v28=>opt (aC v28 H5) fun v29=>E.call (E.fid i.f112) [] H5 fun v30 H8=>aC v28 H8=aC v28 H5 /\
 aC v25 H8=aC v25 H5 /\
 aE 6 v22 H8=aE 6 v22 H5 /\
 aC v20 H8=aC v20 H5 /\
 aC v17 H8=aC v17 H5 /\
 E.call (E.fid i.f141) [v23,v29,v30] H8 fun v31 H9=>opt (ext v31 0) fun v32=>opt (ext v31 1) fun v33=>opt (aA .neq v33 (.int .i64 0)) fun v34=>ifB v34 (
 E.call (E.fid i.f2) [v33] H9 fun v35 H10=>opt (aG 4 v1 v35 H10) fun H11=>opt (aE 4 v1 H11) fun v36=>Q v36 H11) (
 opt (aI x0) fun v37=>opt (aB v37 1) fun v38=>opt (aC v38 H9) fun v39=>opt (aI v39) fun v40=>opt (aB v40 7) fun v41=>opt (aC v41 H9) fun v42=>E.call (E.fid i.f21) [v42,v32] H9 fun v43 H12=>opt (ext v43 0) fun v44=>opt (ext v43 1) fun v45=>opt (aA .neq v45 (.int .i64 0)) fun v46=>ifB v46 (
 E.call (E.fid i.f2) [v45] H12 fun v47 H13=>opt (aG 4 v1 v47 H13) fun H14=>opt (aE 4 v1 H14) fun v48=>Q v48 H14) (
 opt (aI x0) fun v49=>opt (aB v49 0) fun v50=>opt (aC v50 H12) fun v51=>opt (aI v51) fun v52=>opt (aB v52 0) fun v53=>opt (aC v53 H12) fun v54=>E.call (E.fid i.f142) [v32,v54,(.bool true)] H12 fun v55 H15=>opt (aI x0) fun v56=>opt (aB v56 1) fun v57=>opt (aC v57 H15) fun v58=>opt (aI v58) fun v59=>opt (aB v59 7) fun v60=>opt (aQ v60 v44 H15) fun H16=>E.call (E.fid i.f1) [(.int .i64 0)] H16 fun v61 H17=>opt (aG 4 v1 v61 H17) fun H18=>opt (aE 4 v1 H18) fun v62=>Q v62 H18))))

def F.f124 (E:Sy) (x0 x1 x2:Value) (H:AH) (Q:VK):Prop :=
 mk (eA x0) H fun v1 H1=>opt (aA .neq x1 (.int .u16 0)) fun v2=>gd v2 true (fun k=>opt (aB v1 3) fun v=>k v H1) H1 fun v3 H2=>gd v2 true (fun k=>opt (aC v3 H2) fun v=>k v H2) H2 fun v4 H3=>gd v2 true (fun k=>k x1 H3) H3 fun v5 H4=>gd v2 true (fun k=>E.call (E.fid i.f139) [v4,v5] H4 fun v h=>k v h) H4 fun v6 H5=>opt (pick v2 v6 (.bool false)) fun v7=>gd v7 true (fun k=>k x2 H5) H5 fun v8 H6=>gd v7 true (fun k=>k x1 H6) H6 fun v9 H7=>gd v7 true (fun k=>E.call (E.fid i.f139) [v8,v9] H7 fun v h=>k v h) H7 fun v10 H8=>opt (pick v7 v10 (.bool false)) fun v11=>Q v11 H8

def F.f176_l3 (E:Sy) (Q:VK) (X0:LK) (t0 t1 t2 t6 t7 t8:Value) (H:AH) (X1:LK):Prop :=
 opt (aA .leq t8 t1) fun v1=>ifB v1 (
 opt (aA .add t7 t6) fun v2=>E.call (E.fid i.f177) [t0,t7,v2,t8,t2] H fun v3 H1=>opt (aA .mul (.int .i64 2) t6) fun v4=>opt (aA .add t8 v4) fun v5=>X1 [t0,t1,t2,t6,t8,v5] H1) (
 opt (aA .add t7 t6) fun v6=>opt (aA .lss v6 t1) fun v7=>ifB v7 (
 E.call (E.fid i.f177) [t0,t7,v6,t1,t2] H fun v8 H2=>opt (aA .mul t6 (.int .i64 2)) fun v9=>X0 [t0,t1,t2,v9] H2) (
 opt (aA .mul t6 (.int .i64 2)) fun v10=>X0 [t0,t1,t2,v10] H))
def F.f176_l2 (E:Sy) (Q:VK) (t0 t1 t2 t6:Value) (H:AH) (X0:LK):Prop :=
 opt (aA .lss t6 t1) fun v1=>ifB v1 (
 opt (aA .mul (.int .i64 2) t6) fun v2=>aM (fun l H X1=>F.f176_l3 E Q X0 (nth l 0) (nth l 1) (nth l 2) (nth l 3) (nth l 4) (nth l 5) H X1) [t0,t1,t2,t6,(.int .i64 0),v2] H) (
 Q (.tuple #[]) H)
def F.f176_l1 (E:Sy) (Q:VK) (t0 t1 t2 t6 t7 t8:Value) (H:AH) (X0:LK):Prop :=
 opt (aA .leq t8 t1) fun v1=>ifB v1 (
 E.call (E.fid i.f159) [t0,t7,t8,t2] H fun v2 H1=>opt (aA .add t8 t6) fun v3=>X0 [t0,t1,t2,t6,t8,v3] H1) (
 E.call (E.fid i.f159) [t0,t7,t1,t2] H fun v4 H2=>aM (fun l H X0=>F.f176_l2 E Q (nth l 0) (nth l 1) (nth l 2) (nth l 3) H X0) [t0,t1,t2,t6] H2)
def F.f176 (E:Sy) (x0 x1 x2:Value) (H:AH) (Q:VK):Prop :=
 aM (fun l H X0=>F.f176_l1 E Q (nth l 0) (nth l 1) (nth l 2) (nth l 3) (nth l 4) (nth l 5) H X0) [x0,x1,x2,(.int .i64 20),(.int .i64 0),(.int .i64 20)] H

def F.f42 (E:Sy) (x0:Value) (H:AH) (Q:VK):Prop :=
 opt (mU 1 #[(.int .u32 0),(.int .u32 0),(.int .u32 0),(.int .u32 0)] [(0,(.int .u32 2147483648)),(1,(.int .u32 327680)),(2,(.int .u32 2147221504)),(3,(.int .u32 2147418112))]) fun v1=>bJ [(.int .u32 0),(.int .u32 0),(.int .u32 0),(.int .u32 0)] H fun v2 H1=>opt (aG 4 v2 v1 H1) fun H2=>opt (aCZ 4 1 v2 none none none) fun v3=>E.call (E.fid i.f134) [x0] H2 fun v4 H3=>E.call (E.fid i.f148) [v3,v4] H3 fun v5 H4=>Q v5 H4

def F.f9 (E:Sy) (x0 x1:Value) (H:AH) (Q:VK):Prop :=
 E.call (E.fid i.f13) [x0] H fun v1 H1=>E.call (E.fid i.f13) [x1] H1 fun v2 H2=>ifB v1 (
 ifB v2 (
 Q (.int .i64 0) H2) (
 Q (.int .i64 (-1)) H2)) (
 ifB v2 (
 Q (.int .i64 1) H2) (
 opt (aA .lss x0 x1) fun v3=>ifB v3 (
 Q (.int .i64 (-1)) H2) (
 opt (aA .gtr x0 x1) fun v4=>ifB v4 (
 Q (.int .i64 1) H2) (
 Q (.int .i64 0) H2))))

def F.f43_l1 (E:Sy) (Q:VK) (t3 t6 t7 t8:Value) (H:AH) (X0:LK):Prop :=
 opt (aA .lss t8 t7) fun v1=>ifB v1 (
 opt (aK 4 t6 t8) fun v2=>opt (aE 4 v2 H) fun v3=>bJ [(.int .i64 0),(.int .u8 0),(.int .u64 0),(.int .u64 0)] H fun v4 H1=>opt (aG 4 v4 v3 H1) fun H2=>opt (aE 4 v4 H2) fun v5=>E.call (E.fid i.f39) [v5] H2 fun v6 H3=>opt (un .not v6) fun v7=>gd v7 true (fun k=>k t3 H3) H3 fun v8 H4=>gd v7 true (fun k=>opt (aE 4 v4 H4) fun v=>k v H4) H4 fun v9 H5=>gd v7 true (fun k=>E.call (E.fid i.f145) [v8,v9] H5 fun v h=>k v h) H5 fun v10 H6=>gd v7 true (fun k=>opt (un .not v10) fun v=>k v H6) H6 fun v11 H7=>opt (pick v7 v11 (.bool false)) fun v12=>ifB v12 (
 opt (aE 4 v4 H7) fun v13=>mk (bR 1 4 #[(.int .i64 0),(.int .u8 0),(.int .u64 0),(.int .u64 0)] [(0,v13)]) H7 fun v14 H8=>eK (app 4 32 t3 v14 H8) fun v15 H9=>opt (aA .add t8 (.int .i64 1)) fun v16=>X0 [v15,t6,t7,v16] H9) (
 opt (aA .add t8 (.int .i64 1)) fun v17=>X0 [t3,t6,t7,v17] H7)) (
 Q t3 H)
def F.f43 (E:Sy) (x0:Value) (H:AH) (Q:VK):Prop :=
 opt (lenSlc x0) fun v1=>aM (fun l H X0=>F.f43_l1 E Q (nth l 0) (nth l 1) (nth l 2) (nth l 3) H X0) [(.slice none 0 0),x0,v1,(.int .i64 0)] H

def F.f41_l2 (E:Sy) (Q:VK) (X0:LK) (t0 t4 t7 t8 t9 t33 t34 t35:Value) (H:AH) (X1:LK):Prop :=
 opt (aA .lss t35 t34) fun v1=>ifB v1 (
 opt (aK 4 t33 t35) fun v2=>opt (aE 4 v2 H) fun v3=>bJ [(.int .i64 0),(.int .u8 0),(.int .u64 0),(.int .u64 0)] H fun v4 H1=>opt (aG 4 v4 v3 H1) fun H2=>opt (aB t4 0) fun v5=>opt (aC v5 H2) fun v6=>opt (aB v4 0) fun v7=>opt (aC v7 H2) fun v8=>opt (aA .eql v6 v8) fun v9=>gd v9 true (fun k=>opt (aB t4 1) fun v=>k v H2) H2 fun v10 H3=>gd v9 true (fun k=>opt (aC v10 H3) fun v=>k v H3) H3 fun v11 H4=>gd v9 true (fun k=>opt (aA .eql v11 (.int .u8 1)) fun v=>k v H4) H4 fun v12 H5=>opt (pick v9 v12 (.bool false)) fun v13=>gd v13 true (fun k=>opt (aB v4 1) fun v=>k v H5) H5 fun v14 H6=>gd v13 true (fun k=>opt (aC v14 H6) fun v=>k v H6) H6 fun v15 H7=>gd v13 true (fun k=>opt (aA .eql v15 (.int .u8 1)) fun v=>k v H7) H7 fun v16 H8=>opt (pick v13 v16 (.bool false)) fun v17=>gd v17 true (fun k=>opt (aB t4 3) fun v=>k v H8) H8 fun v18 H9=>gd v17 true (fun k=>opt (aC v18 H9) fun v=>k v H9) H9 fun v19 H10=>gd v17 true (fun k=>opt (aB v4 3) fun v=>k v H10) H10 fun v20 H11=>gd v17 true (fun k=>opt (aC v20 H11) fun v=>k v H11) H11 fun v21 H12=>gd v17 true (fun k=>opt (aA .neq v19 v21) fun v=>k v H12) H12 fun v22 H13=>opt (pick v17 v22 (.bool false)) fun v23=>ifB v23 (
 Q (.bool true) H13) (
 opt (aA .add t35 (.int .i64 1)) fun v24=>X1 [t0,t4,t7,t8,t9,t33,t34,v24] H13)) (
 opt (aA .add t9 (.int .i64 1)) fun v25=>X0 [t0,t7,t8,v25] H)
def F.f41_j1 (E:Sy) (Q:VK) (X0:LK) (t0 t3 t4 t7 t8 t9 t14:Value) (H:AH):Prop :=
 ifB t14 (
 Q (.bool true) H) (
 opt (iN 4 t0 none (some t3) none H) fun v1=>opt (lenSlc v1) fun v2=>aM (fun l H X1=>F.f41_l2 E Q X0 (nth l 0) (nth l 1) (nth l 2) (nth l 3) (nth l 4) (nth l 5) (nth l 6) (nth l 7) H X1) [t0,t4,t7,t8,t9,v1,v2,(.int .i64 0)] H)
def F.f41_l1 (E:Sy) (Q:VK) (t0 t7 t8 t9:Value) (H:AH) (X0:LK):Prop :=
 opt (aA .lss t9 t8) fun v1=>ifB v1 (
 opt (aK 4 t7 t9) fun v2=>opt (aE 4 v2 H) fun v3=>bJ [(.int .i64 0),(.int .u8 0),(.int .u64 0),(.int .u64 0)] H fun v4 H1=>opt (aG 4 v4 v3 H1) fun H2=>opt (aB v4 1) fun v5=>opt (aC v5 H2) fun v6=>opt (aA .eql v6 (.int .u8 3)) fun v7=>gd v7 true (fun k=>opt (aB v4 3) fun v=>k v H2) H2 fun v8 H3=>gd v7 true (fun k=>opt (aC v8 H3) fun v=>k v H3) H3 fun v9 H4=>gd v7 true (fun k=>opt (aA .eql v9 (.int .u64 0)) fun v=>k v H4) H4 fun v10 H5=>opt (pick v7 v10 (.bool false)) fun v11=>ifB v11 (
 F.f41_j1 E Q X0 t0 t9 v4 t7 t8 t9 v11 H5) (
 opt (aB v4 1) fun v12=>opt (aC v12 H5) fun v13=>opt (aA .eql v13 (.int .u8 5)) fun v14=>gd v14 true (fun k=>opt (aB v4 3) fun v=>k v H5) H5 fun v15 H6=>gd v14 true (fun k=>opt (aC v15 H6) fun v=>k v H6) H6 fun v16 H7=>gd v14 true (fun k=>opt (aA .eql v16 (.int .u64 18446744073709551615)) fun v=>k v H7) H7 fun v17 H8=>opt (pick v14 v17 (.bool false)) fun v18=>F.f41_j1 E Q X0 t0 t9 v4 t7 t8 t9 v18 H8)) (
 Q (.bool false) H)
def F.f41 (E:Sy) (x0:Value) (H:AH) (Q:VK):Prop :=
 opt (lenSlc x0) fun v1=>aM (fun l H X0=>F.f41_l1 E Q (nth l 0) (nth l 1) (nth l 2) (nth l 3) H X0) [x0,x0,v1,(.int .i64 0)] H

def F.f105 (E:Sy) (x0:Value) (H:AH) (Q:VK):Prop :=
 ifB (.bool false) (
 opt (aR .u32 x0) fun v1=>E.call (E.fid i.f106) [v1] H fun v2 H1=>Q v2 H1) (
 E.call (E.fid i.f107) [x0] H fun v3 H2=>Q v3 H2)

def F.f171_j3 (E:Sy) (Q:VK) (X0:LK) (t0 t1 t2 t3 t4 t10 t11 t12 t13:Value) (H:AH):Prop :=
 opt (aA .gtr t1 (.int .i64 0)) fun v1=>gd v1 true (fun k=>k t4 H) H fun v2 H1=>gd v1 true (fun k=>k t0 H1) H1 fun v3 H2=>gd v1 true (fun k=>k t1 H2) H2 fun v4 H3=>gd v1 true (fun k=>opt (aA .sub v4 (.int .i64 1)) fun v=>k v H3) H3 fun v5 H4=>gd v1 true (fun k=>opt (aK 2 v3 v5) fun v=>k v H4) H4 fun v6 H5=>gd v1 true (fun k=>opt (aE 2 v6 H5) fun v=>k v H5) H5 fun v7 H6=>gd v1 true (fun k=>k t0 H6) H6 fun v8 H7=>gd v1 true (fun k=>k t13 H7) H7 fun v9 H8=>gd v1 true (fun k=>opt (aK 2 v8 v9) fun v=>k v H8) H8 fun v10 H9=>gd v1 true (fun k=>opt (aE 2 v10 H9) fun v=>k v H9) H9 fun v11 H10=>gd v1 true (fun k=>eH E.call v2 [v7,v11] H10 fun v h=>k v h) H10 fun v12 H11=>gd v1 true (fun k=>opt (aA .lss v12 (.int .i64 0)) fun v=>k v H11) H11 fun v13 H12=>gd v1 true (fun k=>opt (un .not v13) fun v=>k v H12) H12 fun v14 H13=>opt (pick v1 v14 (.bool false)) fun v15=>ifB v15 (
 E.call (E.fid i.f168) [t0,t1,t2,t13,t4] H13 fun v16 H14=>X0 [t0,v16,t2,t3,t4,t10,t11] H14) (
 E.call (E.fid i.f167) [t0,t1,t2,t13,t4] H13 fun v17 H15=>opt (ext v17 0) fun v18=>opt (ext v17 1) fun v19=>opt (aA .sub v18 t1) fun v20=>opt (aA .sub t2 v18) fun v21=>opt (aA .quo t12 (.int .i64 8)) fun v22=>opt (aA .lss v20 v21) fun v23=>ifB v23 (
 opt (aA .geq v20 v22) fun v24=>E.call (E.fid i.f171) [t0,t1,v18,t3,t4] H15 fun v25 H16=>opt (aA .add v18 (.int .i64 1)) fun v26=>X0 [t0,v26,t2,t3,t4,v24,v19] H16) (
 opt (aA .geq v21 v22) fun v27=>opt (aA .add v18 (.int .i64 1)) fun v28=>E.call (E.fid i.f171) [t0,v28,t2,t3,t4] H15 fun v29 H17=>X0 [t0,t1,v18,t3,t4,v27,v19] H17))
def F.f171_j2 (E:Sy) (Q:VK) (X0:LK) (t0 t1 t2 t3 t4 t10 t11 t12 t13 t14:Value) (H:AH):Prop :=
 gd t10 true (fun k=>k t11 H) H fun v1 H1=>opt (pick t10 v1 (.bool false)) fun v2=>gd v2 true (fun k=>k t14 H1) H1 fun v3 H2=>gd v2 true (fun k=>opt (aA .eql v3 (.int .i64 1)) fun v=>k v H2) H2 fun v4 H3=>opt (pick v2 v4 (.bool false)) fun v5=>ifB v5 (
 E.call (E.fid i.f165) [t0,t1,t2,t4] H3 fun v6 H4=>ifB v6 (
 Q (.tuple #[]) H4) (
 F.f171_j3 E Q X0 t0 t1 t2 t3 t4 t10 t11 t12 t13 H4)) (
 F.f171_j3 E Q X0 t0 t1 t2 t3 t4 t10 t11 t12 t13 H3)
def F.f171_j1 (E:Sy) (Q:VK) (X0:LK) (t0 t1 t2 t3 t4 t10 t11 t12:Value) (H:AH):Prop :=
 E.call (E.fid i.f154) [t0,t1,t2,t4] H fun v1 H1=>opt (ext v1 0) fun v2=>opt (ext v1 1) fun v3=>opt (aA .eql v3 (.int .i64 2)) fun v4=>ifB v4 (
 E.call (E.fid i.f173) [t0,t1,t2,t4] H1 fun v5 H2=>opt (aA .sub t2 (.int .i64 1)) fun v6=>opt (aA .sub v2 t1) fun v7=>opt (aA .sub v6 v7) fun v8=>F.f171_j2 E Q X0 t0 t1 t2 t3 t4 t10 t11 t12 v8 (.int .i64 1) H2) (
 F.f171_j2 E Q X0 t0 t1 t2 t3 t4 t10 t11 t12 v2 v3 H1)
def F.f171_l1 (E:Sy) (Q:VK) (t0 t1 t2 t3 t4 t10 t11:Value) (H:AH) (X0:LK):Prop :=
 opt (aA .sub t2 t1) fun v1=>opt (aA .leq v1 (.int .i64 12)) fun v2=>ifB v2 (
 E.call (E.fid i.f158) [t0,t1,t2,t4] H fun v3 H1=>Q (.tuple #[]) H1) (
 opt (aA .eql t3 (.int .i64 0)) fun v4=>ifB v4 (
 E.call (E.fid i.f156) [t0,t1,t2,t4] H fun v5 H2=>Q (.tuple #[]) H2) (
 opt (un .not t10) fun v6=>ifB v6 (
 E.call (E.fid i.f152) [t0,t1,t2,t4] H fun v7 H3=>opt (aA .sub t3 (.int .i64 1)) fun v8=>F.f171_j1 E Q X0 t0 t1 t2 v8 t4 t10 t11 v1 H3) (
 F.f171_j1 E Q X0 t0 t1 t2 t3 t4 t10 t11 v1 H)))
def F.f171 (E:Sy) (x0 x1 x2 x3 x4:Value) (H:AH) (Q:VK):Prop :=
 aM (fun l H X0=>F.f171_l1 E Q (nth l 0) (nth l 1) (nth l 2) (nth l 3) (nth l 4) (nth l 5) (nth l 6) H X0) [x0,x1,x2,x3,x4,(.bool true),(.bool true)] H

def F.f10 (E:Sy) (x0 x1:Value) (H:AH) (Q:VK):Prop :=
 E.call (E.fid i.f14) [x0] H fun v1 H1=>E.call (E.fid i.f14) [x1] H1 fun v2 H2=>ifB v1 (
 ifB v2 (
 Q (.int .i64 0) H2) (
 Q (.int .i64 (-1)) H2)) (
 ifB v2 (
 Q (.int .i64 1) H2) (
 opt (aA .lss x0 x1) fun v3=>ifB v3 (
 Q (.int .i64 (-1)) H2) (
 opt (aA .gtr x0 x1) fun v4=>ifB v4 (
 Q (.int .i64 1) H2) (
 Q (.int .i64 0) H2))))

def F.f50 (E:Sy) (x0 x1:Value) (H:AH) (Q:VK):Prop :=
 mk (eA x1) H fun v1 H1=>opt (bW dB .neq x0 (.pointer none)) fun v2=>ifB v2 (
 opt (aI x0) fun v3=>opt (aB v3 0) fun v4=>opt (aC v4 H1) fun v5=>opt (aE 7 v1 H1) fun v6=>mk (bR 1 7 #[(.int .u8 0),(.int .i64 0),(.int .i64 0),(.int .u16 0),(.int .u8 0),(.int .u8 0),(.int .u32 0)] [(0,v6)]) H1 fun v7 H2=>eK (app 7 32 v5 v7 H2) fun v8 H3=>opt (aI x0) fun v9=>opt (aB v9 0) fun v10=>opt (aQ v10 v8 H3) fun H4=>Q (.tuple #[]) H4) (
 Q (.tuple #[]) H1)

def F.f30 (E:Sy) (x0 x1 x2 x3:Value) (H:AH) (Q:VK):Prop :=
 bJ [(.int .u16 0),(.int .u8 0),(.int .u8 0),(.int .u32 0)] H fun v1 H1=>opt (aA .or (.int .u16 5) x0) fun v2=>opt (aA .or v2 (.int .u16 0)) fun v3=>opt (aX [(0,1),(1,1),(2,1),(3,1)] #[(.int .u16 0),(.int .u8 0),(.int .u8 0),(.int .u32 0)] [(0,v3),(1,x2),(2,x3),(3,x1)]) fun v4=>opt (aG 4 v1 v4 H1) fun H2=>opt (aE 4 v1 H2) fun v5=>Q v5 H2

def F.f44 (E:Sy) (x0 x1:Value) (H:AH) (Q:VK):Prop :=
 opt (aX [(0,1),(1,1),(2,1),(3,4)] #[(.int .u8 0),(.int .i64 0),(.int .i64 0),(.int .u16 0),(.int .u8 0),(.int .u8 0),(.int .u32 0)] [(0,(.int .u8 4)),(1,x1)]) fun v1=>E.call (E.fid i.f50) [x0,v1] H fun v2 H1=>Q (.tuple #[]) H1

def F.f101 (E:Sy) (x0 x1 x2 x3:Value) (H:AH) (Q:VK):Prop :=
 mk (eA x1) H fun v1 H1=>opt (aB v1 3) fun v2=>opt (aC v2 H1) fun v3=>opt (aA .shr v3 (.int .u64 32)) fun v4=>opt (aR .u32 v4) fun v5=>opt (aB v1 3) fun v6=>opt (aC v6 H1) fun v7=>opt (aR .u32 v7) fun v8=>opt (aI x0) fun v9=>opt (aB v9 0) fun v10=>E.call (E.fid i.f47) [v10] H1 fun v11 H2=>opt (aI x0) fun v12=>opt (aB v12 0) fun v13=>opt (aB v1 0) fun v14=>opt (aC v14 H2) fun v15=>E.call (E.fid i.f136) [v15,(.bool true)] H2 fun v16 H3=>E.call (E.fid i.f32) [v16] H3 fun v17 H4=>E.call (E.fid i.f49) [v13,v17] H4 fun v18 H5=>opt (aB v1 1) fun v19=>opt (aC v19 H5) fun v20=>opt (aA .eql v20 (.int .u8 1)) fun v21=>ifB v21 (
 opt (aI x0) fun v22=>opt (aB v22 0) fun v23=>E.call (E.fid i.f46) [v23,(.int .u16 16),v5,v11,x3] H5 fun v24 H6=>opt (aE 4 v1 H6) fun v25=>E.call (E.fid i.f104) [x0,v25,v11] H6 fun v26 H7=>opt (aI x0) fun v27=>opt (aB v27 0) fun v28=>E.call (E.fid i.f46) [v28,(.int .u16 16),v8,x2,x3] H7 fun v29 H8=>Q (.tuple #[]) H8) (
 opt (aA .eql v20 (.int .u8 2)) fun v30=>ifB v30 (
 opt (aI x0) fun v31=>opt (aB v31 0) fun v32=>E.call (E.fid i.f46) [v32,(.int .u16 16),v5,v11,x2] H5 fun v33 H9=>opt (aE 4 v1 H9) fun v34=>E.call (E.fid i.f104) [x0,v34,v11] H9 fun v35 H10=>opt (aI x0) fun v36=>opt (aB v36 0) fun v37=>E.call (E.fid i.f46) [v37,(.int .u16 16),v8,x3,x2] H10 fun v38 H11=>Q (.tuple #[]) H11) (
 opt (aA .eql v20 (.int .u8 5)) fun v39=>ifB v39 (
 opt (aE 4 v1 H5) fun v40=>E.call (E.fid i.f103) [x0,v40,(.int .u16 32),x2,x3] H5 fun v41 H12=>Q (.tuple #[]) H12) (
 opt (aA .eql v20 (.int .u8 6)) fun v42=>ifB v42 (
 opt (aE 4 v1 H5) fun v43=>E.call (E.fid i.f103) [x0,v43,(.int .u16 48),x2,x3] H5 fun v44 H13=>Q (.tuple #[]) H13) (
 opt (aA .eql v20 (.int .u8 3)) fun v45=>ifB v45 (
 opt (aE 4 v1 H5) fun v46=>E.call (E.fid i.f103) [x0,v46,(.int .u16 48),x3,x2] H5 fun v47 H14=>Q (.tuple #[]) H14) (
 opt (aA .eql v20 (.int .u8 4)) fun v48=>ifB v48 (
 opt (aE 4 v1 H5) fun v49=>E.call (E.fid i.f103) [x0,v49,(.int .u16 32),x3,x2] H5 fun v50 H15=>Q (.tuple #[]) H15) (
 opt (aA .eql v20 (.int .u8 7)) fun v51=>ifB v51 (
 opt (aI x0) fun v52=>opt (aB v52 0) fun v53=>opt (aB v1 2) fun v54=>opt (aC v54 H5) fun v55=>opt (aA .shr v55 (.int .u64 32)) fun v56=>opt (aR .u32 v56) fun v57=>E.call (E.fid i.f33) [v57] H5 fun v58 H16=>E.call (E.fid i.f49) [v53,v58] H16 fun v59 H17=>opt (aI x0) fun v60=>opt (aB v60 0) fun v61=>E.call (E.fid i.f46) [v61,(.int .u16 16),v5,v11,x3] H17 fun v62 H18=>opt (aE 4 v1 H18) fun v63=>E.call (E.fid i.f104) [x0,v63,v11] H18 fun v64 H19=>opt (aI x0) fun v65=>opt (aB v65 0) fun v66=>opt (aB v1 2) fun v67=>opt (aC v67 H19) fun v68=>opt (aR .u32 v68) fun v69=>E.call (E.fid i.f33) [v69] H19 fun v70 H20=>E.call (E.fid i.f49) [v66,v70] H20 fun v71 H21=>opt (aI x0) fun v72=>opt (aB v72 0) fun v73=>E.call (E.fid i.f46) [v73,(.int .u16 16),v8,x2,x3] H21 fun v74 H22=>Q (.tuple #[]) H22) (
 opt (aI x0) fun v75=>opt (aB v75 0) fun v76=>E.call (E.fid i.f44) [v76,x3] H5 fun v77 H23=>Q (.tuple #[]) H23)))))))

def F.f34 (E:Sy) (x0:Value) (H:AH) (Q:VK):Prop :=
 bJ [(.int .u16 0),(.int .u8 0),(.int .u8 0),(.int .u32 0)] H fun v1 H1=>opt (aX [(0,1),(1,1),(2,1),(3,1)] #[(.int .u16 0),(.int .u8 0),(.int .u8 0),(.int .u32 0)] [(0,(.int .u16 6)),(3,x0)]) fun v2=>opt (aG 4 v1 v2 H1) fun H2=>opt (aE 4 v1 H2) fun v3=>Q v3 H2

def F.f60_l2 (E:Sy) (Q:VK) (X0:LK) (t0 t3 t5 t6 t8 t9 t10:Value) (H:AH) (X1:LK):Prop :=
 opt (lenSlc t0) fun v1=>opt (aA .lss t6 v1) fun v2=>gd v2 true (fun k=>k t0 H) H fun v3 H1=>gd v2 true (fun k=>k t6 H1) H1 fun v4 H2=>gd v2 true (fun k=>opt (aK 7 v3 v4) fun v=>k v H2) H2 fun v5 H3=>gd v2 true (fun k=>opt (aB v5 0) fun v=>k v H3) H3 fun v6 H4=>gd v2 true (fun k=>opt (aC v6 H4) fun v=>k v H4) H4 fun v7 H5=>gd v2 true (fun k=>opt (aA .eql v7 (.int .u8 1)) fun v=>k v H5) H5 fun v8 H6=>opt (pick v2 v8 (.bool false)) fun v9=>ifB v9 (
 opt (aA .add t6 (.int .i64 1)) fun v10=>X1 [t0,t3,t5,v10,t8,t9,t10] H6) (
 opt (lenSlc t0) fun v11=>opt (aA .lss t6 v11) fun v12=>gd v12 true (fun k=>k t0 H6) H6 fun v13 H7=>gd v12 true (fun k=>k t6 H7) H7 fun v14 H8=>gd v12 true (fun k=>opt (aK 7 v13 v14) fun v=>k v H8) H8 fun v15 H9=>gd v12 true (fun k=>opt (aB v15 0) fun v=>k v H9) H9 fun v16 H10=>gd v12 true (fun k=>opt (aC v16 H10) fun v=>k v H10) H10 fun v17 H11=>gd v12 true (fun k=>opt (aA .eql v17 (.int .u8 4)) fun v=>k v H11) H11 fun v18 H12=>opt (pick v12 v18 (.bool false)) fun v19=>ifB v19 (
 opt (aB t5 1) fun v20=>opt (aC v20 H12) fun v21=>opt (aK 7 t0 t6) fun v22=>opt (aB v22 1) fun v23=>opt (aC v23 H12) fun v24=>opt (cN 0 t3 v21 v24 H12) fun H13=>opt (aA .add t10 (.int .i64 1)) fun v25=>X0 [t0,t3,t8,t9,v25] H13) (
 opt (aA .add t10 (.int .i64 1)) fun v26=>X0 [t0,t3,t8,t9,v26] H12))
def F.f60_l1 (E:Sy) (Q:VK) (t0 t3 t8 t9 t10:Value) (H:AH) (X0:LK):Prop :=
 opt (aA .lss t10 t9) fun v1=>ifB v1 (
 opt (aK 7 t8 t10) fun v2=>opt (aE 7 v2 H) fun v3=>bJ [(.int .u8 0),(.int .i64 0),(.int .i64 0),(.int .u16 0),(.int .u8 0),(.int .u8 0),(.int .u32 0)] H fun v4 H1=>opt (aG 7 v4 v3 H1) fun H2=>opt (aB v4 0) fun v5=>opt (aC v5 H2) fun v6=>opt (aA .neq v6 (.int .u8 1)) fun v7=>ifB v7 (
 opt (aA .add t10 (.int .i64 1)) fun v8=>X0 [t0,t3,t8,t9,v8] H2) (
 aM (fun l H X1=>F.f60_l2 E Q X0 (nth l 0) (nth l 1) (nth l 2) (nth l 3) (nth l 4) (nth l 5) (nth l 6) H X1) [t0,t3,v4,t10,t8,t9,t10] H2)) (
 Q t3 H)
def F.f60 (E:Sy) (x0:Value) (H:AH) (Q:VK):Prop :=
 lM H fun v1 H1=>opt (lenSlc x0) fun v2=>aM (fun l H X0=>F.f60_l1 E Q (nth l 0) (nth l 1) (nth l 2) (nth l 3) (nth l 4) H X0) [x0,v1,x0,v2,(.int .i64 0)] H1

def F.f53_l1 (E:Sy) (Q:VK) (t0 t1 t8 t9:Value) (H:AH) (X0:LK):Prop :=
 opt (aA .lss t9 t8) fun v1=>ifB v1 (
 opt (look 0 (.int .i64 0) true t0 t1 H) fun v2=>opt (ext v2 0) fun v3=>opt (ext v2 1) fun v4=>opt (un .not v4) fun v5=>ifB v5 (
 Q t1 H) (
 opt (aA .add t9 (.int .i64 1)) fun v6=>X0 [t0,v3,t8,v6] H)) (
 Q t1 H)
def F.f53 (E:Sy) (x0 x1:Value) (H:AH) (Q:VK):Prop :=
 opt (rJ x0 H) fun v1=>aM (fun l H X0=>F.f53_l1 E Q (nth l 0) (nth l 1) (nth l 2) (nth l 3) H X0) [x0,x1,v1,(.int .i64 0)] H

def F.f54_l1 (E:Sy) (Q:VK) (t1 t7 t8 t9:Value) (H:AH) (X0:LK):Prop :=
 opt (aA .lss t9 t8) fun v1=>ifB v1 (
 opt (aK 7 t7 t9) fun v2=>opt (aE 7 v2 H) fun v3=>bJ [(.int .u8 0),(.int .i64 0),(.int .i64 0),(.int .u16 0),(.int .u8 0),(.int .u8 0),(.int .u32 0)] H fun v4 H1=>opt (aG 7 v4 v3 H1) fun H2=>opt (aB v4 0) fun v5=>opt (aC v5 H2) fun v6=>opt (aA .neq v6 (.int .u8 1)) fun v7=>ifB v7 (
 Q (.bool false) H2) (
 opt (aB v4 1) fun v8=>opt (aC v8 H2) fun v9=>opt (aA .eql v9 t1) fun v10=>ifB v10 (
 Q (.bool true) H2) (
 opt (aA .add t9 (.int .i64 1)) fun v11=>X0 [t1,t7,t8,v11] H2))) (
 Q (.bool false) H)
def F.f54 (E:Sy) (x0 x1:Value) (H:AH) (Q:VK):Prop :=
 opt (lenSlc x0) fun v1=>aM (fun l H X0=>F.f54_l1 E Q (nth l 0) (nth l 1) (nth l 2) (nth l 3) H X0) [x1,x0,v1,(.int .i64 0)] H

def F.f29 (E:Sy) (x0:Value) (H:AH) (Q:VK):Prop :=
 opt (aA .and x0 (.int .u16 7)) fun v1=>Q v1 H

def F.f55 (E:Sy) (x0 x1:Value) (H:AH) (Q:VK):Prop :=
 opt (aI x0) fun v1=>opt (aB v1 1) fun v2=>opt (aC v2 H) fun v3=>opt (look 0 (.int .i64 0) true v3 x1 H) fun v4=>opt (ext v4 0) fun v5=>opt (ext v4 1) fun v6=>opt (aI x0) fun v7=>opt (aB v7 0) fun v8=>opt (aC v8 H) fun v9=>opt (lenSlc v9) fun v10=>opt (aA .sub v10 v5) fun v11=>Q (.tuple #[v11,v6]) H

def F.f57 (E:Sy) (x0 x1:Value) (H:AH) (Q:VK):Prop :=
 opt (aI x0) fun v1=>opt (aB v1 0) fun v2=>opt (aC v2 H) fun v3=>opt (aR .u32 x1) fun v4=>E.call (E.fid i.f35) [v4] H fun v5 H1=>aC v2 H1=aC v2 H /\
 mk (bR 1 4 #[(.int .u16 0),(.int .u8 0),(.int .u8 0),(.int .u32 0)] [(0,v5)]) H1 fun v6 H2=>eK (app 4 8 v3 v6 H2) fun v7 H3=>opt (aI x0) fun v8=>opt (aB v8 0) fun v9=>opt (aQ v9 v7 H3) fun H4=>Q (.tuple #[]) H4

def F.f56_j2 (E:Sy) (Q:VK) (t0 t3 t5 t7:Value) (H:AH):Prop :=
 opt (aB t3 3) fun v1=>opt (aE 4 v1 H) fun v2=>bJ [(.int .u16 0),(.int .u8 0),(.int .u8 0),(.int .u32 0)] H fun v3 H1=>opt (aG 4 v3 v2 H1) fun H2=>opt (aR .u8 t5) fun v4=>opt (aR .u8 t7) fun v5=>opt (aB v3 1) fun v6=>opt (aQ v6 v4 H2) fun H3=>opt (aB v3 2) fun v7=>opt (aQ v7 v5 H3) fun H4=>opt (aI t0) fun v8=>opt (aB v8 0) fun v9=>opt (aC v9 H4) fun v10=>opt (aE 4 v3 H4) fun v11=>mk (bR 1 4 #[(.int .u16 0),(.int .u8 0),(.int .u8 0),(.int .u32 0)] [(0,v11)]) H4 fun v12 H5=>eK (app 4 8 v10 v12 H5) fun v13 H6=>opt (aI t0) fun v14=>opt (aB v14 0) fun v15=>opt (aQ v15 v13 H6) fun H7=>Q (.int .i64 0) H7
def F.f56_j1 (E:Sy) (Q:VK) (t0 t3 t5 t7:Value) (H:AH):Prop :=
 opt (aA .gtr t5 (.int .i64 253)) fun v1=>ifB v1 (
 E.call (E.fid i.f57) [t0,t5] H fun v2 H1=>opt (aA .add t7 (.int .i64 1)) fun v3=>F.f56_j2 E Q t0 t3 (.int .i64 0) v3 H1) (
 F.f56_j2 E Q t0 t3 t5 t7 H)
def F.f56 (E:Sy) (x0 x1:Value) (H:AH) (Q:VK):Prop :=
 mk (eA x1) H fun v1 H1=>opt (aB v1 1) fun v2=>opt (aC v2 H1) fun v3=>E.call (E.fid i.f55) [x0,v3] H1 fun v4 H2=>opt (ext v4 0) fun v5=>opt (ext v4 1) fun v6=>opt (aB v1 2) fun v7=>opt (aC v7 H2) fun v8=>E.call (E.fid i.f55) [x0,v8] H2 fun v9 H3=>opt (ext v9 0) fun v10=>opt (ext v9 1) fun v11=>opt (aB v1 3) fun v12=>opt (aB v12 0) fun v13=>opt (aC v13 H3) fun v14=>E.call (E.fid i.f29) [v14] H3 fun v15 H4=>opt (aA .neq v15 (.int .u16 5)) fun v16=>gd v16 false (fun k=>opt (aB v1 3) fun v=>k v H4) H4 fun v17 H5=>gd v16 false (fun k=>opt (aB v17 0) fun v=>k v H5) H5 fun v18 H6=>gd v16 false (fun k=>opt (aC v18 H6) fun v=>k v H6) H6 fun v19 H7=>gd v16 false (fun k=>opt (aA .eql v19 (.int .u16 5)) fun v=>k v H7) H7 fun v20 H8=>opt (pick v16 (.bool true) v20) fun v21=>ifB v21 (
 Q (.int .i64 210) H8) (
 opt (un .not v6) fun v22=>gd v22 false (fun k=>k v11 H8) H8 fun v23 H9=>gd v22 false (fun k=>opt (un .not v23) fun v=>k v H9) H9 fun v24 H10=>opt (pick v22 (.bool true) v24) fun v25=>ifB v25 (
 Q (.int .i64 207) H10) (
 opt (aA .gtr v10 (.int .i64 253)) fun v26=>ifB v26 (
 E.call (E.fid i.f57) [x0,v10] H10 fun v27 H11=>opt (aA .add v5 (.int .i64 1)) fun v28=>F.f56_j1 E Q x0 v1 v28 (.int .i64 0) H11) (
 F.f56_j1 E Q x0 v1 v5 v10 H10)))

def F.f31_j3 (E:Sy) (Q:VK) (t0 t44:Value) (H:AH):Prop :=
 ifB t44 (
 E.call (E.fid i.f29) [t0] H fun v1 H1=>opt (aA .eql v1 (.int .u16 5)) fun v2=>Q v2 H1) (
 Q (.bool false) H)
def F.f31_j2 (E:Sy) (Q:VK) (t0 t3:Value) (H:AH):Prop :=
 opt (aA .or t3 (.int .u16 7)) fun v1=>opt (aA .andNot t0 v1) fun v2=>opt (aA .eql v2 (.int .u16 16)) fun v3=>ifB v3 (
 F.f31_j3 E Q t0 v3 H) (
 opt (aA .eql v2 (.int .u16 32)) fun v4=>ifB v4 (
 F.f31_j3 E Q t0 v4 H) (
 opt (aA .eql v2 (.int .u16 48)) fun v5=>ifB v5 (
 F.f31_j3 E Q t0 v5 H) (
 opt (aA .eql v2 (.int .u16 64)) fun v6=>F.f31_j3 E Q t0 v6 H)))
def F.f31_j4 (E:Sy) (Q:VK) (t0 t3 t27:Value) (H:AH):Prop :=
 ifB t27 (
 E.call (E.fid i.f29) [t0] H fun v1 H1=>opt (aA .eql v1 (.int .u16 4)) fun v2=>ifB v2 (
 Q (.bool true) H1) (
 F.f31_j2 E Q t0 t3 H1)) (
 F.f31_j2 E Q t0 t3 H)
def F.f31_j1 (E:Sy) (Q:VK) (t0 t5:Value) (H:AH):Prop :=
 ifB t5 (
 Q (.bool true) H) (
 opt (aA .and t0 (.int .u16 8)) fun v1=>opt (aA .or v1 (.int .u16 7)) fun v2=>opt (aA .andNot t0 v2) fun v3=>opt (aA .eql v3 (.int .u16 0)) fun v4=>ifB v4 (
 F.f31_j4 E Q t0 v1 v4 H) (
 opt (aA .eql v3 (.int .u16 16)) fun v5=>ifB v5 (
 F.f31_j4 E Q t0 v1 v5 H) (
 opt (aA .eql v3 (.int .u16 32)) fun v6=>ifB v6 (
 F.f31_j4 E Q t0 v1 v6 H) (
 opt (aA .eql v3 (.int .u16 48)) fun v7=>ifB v7 (
 F.f31_j4 E Q t0 v1 v7 H) (
 opt (aA .eql v3 (.int .u16 64)) fun v8=>ifB v8 (
 F.f31_j4 E Q t0 v1 v8 H) (
 opt (aA .eql v3 (.int .u16 80)) fun v9=>ifB v9 (
 F.f31_j4 E Q t0 v1 v9 H) (
 opt (aA .eql v3 (.int .u16 96)) fun v10=>ifB v10 (
 F.f31_j4 E Q t0 v1 v10 H) (
 opt (aA .eql v3 (.int .u16 112)) fun v11=>ifB v11 (
 F.f31_j4 E Q t0 v1 v11 H) (
 opt (aA .eql v3 (.int .u16 160)) fun v12=>F.f31_j4 E Q t0 v1 v12 H)))))))))
def F.f31 (E:Sy) (x0:Value) (H:AH) (Q:VK):Prop :=
 opt (aA .eql x0 (.int .u16 32)) fun v1=>ifB v1 (
 F.f31_j1 E Q x0 v1 H) (
 opt (aA .eql x0 (.int .u16 0)) fun v2=>ifB v2 (
 F.f31_j1 E Q x0 v2 H) (
 opt (aA .eql x0 (.int .u16 96)) fun v3=>ifB v3 (
 F.f31_j1 E Q x0 v3 H) (
 opt (aA .eql x0 (.int .u16 128)) fun v4=>ifB v4 (
 F.f31_j1 E Q x0 v4 H) (
 opt (aA .eql x0 (.int .u16 1)) fun v5=>ifB v5 (
 F.f31_j1 E Q x0 v5 H) (
 opt (aA .eql x0 (.int .u16 97)) fun v6=>ifB v6 (
 F.f31_j1 E Q x0 v6 H) (
 opt (aA .eql x0 (.int .u16 129)) fun v7=>ifB v7 (
 F.f31_j1 E Q x0 v7 H) (
 opt (aA .eql x0 (.int .u16 2)) fun v8=>ifB v8 (
 F.f31_j1 E Q x0 v8 H) (
 opt (aA .eql x0 (.int .u16 3)) fun v9=>ifB v9 (
 F.f31_j1 E Q x0 v9 H) (
 opt (aA .eql x0 (.int .u16 6)) fun v10=>ifB v10 (
 F.f31_j1 E Q x0 v10 H) (
 opt (aA .eql x0 (.int .u16 22)) fun v11=>ifB v11 (
 F.f31_j1 E Q x0 v11 H) (
 opt (aA .eql x0 (.int .u16 7)) fun v12=>ifB v12 (
 F.f31_j1 E Q x0 v12 H) (
 opt (aA .eql x0 (.int .u16 135)) fun v13=>ifB v13 (
 F.f31_j1 E Q x0 v13 H) (
 opt (aA .eql x0 (.int .u16 5)) fun v14=>ifB v14 (
 F.f31_j1 E Q x0 v14 H) (
 opt (aA .eql x0 (.int .u16 132)) fun v15=>F.f31_j1 E Q x0 v15 H))))))))))))))

def F.f7_j1 (E:Sy) (Q:VK) (t4:Value) (H:AH):Prop :=
 ifB t4 (
 Q (.bool true) H) (
 Q (.bool false) H)
def F.f7 (E:Sy) (x0:Value) (H:AH) (Q:VK):Prop :=
 opt (aA .eql x0 (.int .u16 96)) fun v1=>ifB v1 (
 F.f7_j1 E Q v1 H) (
 opt (aA .eql x0 (.int .u16 97)) fun v2=>ifB v2 (
 F.f7_j1 E Q v2 H) (
 opt (aA .eql x0 (.int .u16 2)) fun v3=>ifB v3 (
 F.f7_j1 E Q v3 H) (
 opt (aA .eql x0 (.int .u16 3)) fun v4=>F.f7_j1 E Q v4 H)))

def F.f8 (E:Sy) (x0 x1:Value) (H:AH) (Q:VK):Prop :=
 mk (eA x0) H fun v1 H1=>opt (aE 4 v1 H1) fun v2=>E.call (E.fid i.f4) [v2] H1 fun v3 H2=>ifB v3 (
 Q (.slice none 0 0) H2) (
 opt (aB v1 0) fun v4=>opt (aC v4 H2) fun v5=>opt (aA .eql v5 (.int .u16 5)) fun v6=>ifB v6 (
 opt (aA .add x1 (.int .i64 1)) fun v7=>opt (aB v1 3) fun v8=>opt (aC v8 H2) fun v9=>opt (aR .i64 v9) fun v10=>opt (aA .add v7 v10) fun v11=>mk (bR 1 1 #[(.int .i64 0)] [(0,v11)]) H2 fun v12 H3=>Q v12 H3) (
 opt (aB v1 0) fun v13=>opt (aC v13 H2) fun v14=>E.call (E.fid i.f29) [v14] H2 fun v15 H4=>opt (aA .eql v15 (.int .u16 5)) fun v16=>ifB v16 (
 opt (aA .add x1 (.int .i64 1)) fun v17=>opt (aB v1 1) fun v18=>opt (aC v18 H4) fun v19=>opt (aR .i64 v19) fun v20=>opt (aA .add v17 v20) fun v21=>opt (aA .add x1 (.int .i64 1)) fun v22=>opt (aB v1 2) fun v23=>opt (aC v23 H4) fun v24=>opt (aR .i64 v24) fun v25=>opt (aA .add v22 v25) fun v26=>mk (bR 2 1 #[(.int .i64 0)] [(0,v21),(1,v26)]) H4 fun v27 H5=>Q v27 H5) (
 opt (aA .add x1 (.int .i64 1)) fun v28=>mk (bR 1 1 #[(.int .i64 0)] [(0,v28)]) H4 fun v29 H6=>Q v29 H6)))

def F.f132_j2 (E:Sy) (Q:VK) (t0 t1 t7:Value) (H:AH):Prop :=
 opt (aB t7 0) fun v1=>opt (aC v1 H) fun v2=>opt (aA .eql v2 (.int .i64 0)) fun v3=>ifB v3 (
 opt (aI t0) fun v4=>opt (aB v4 0) fun v5=>opt (aC v5 H) fun v6=>opt (jV 0 v6 t1 H) fun H1=>Q (.int .i64 0) H1) (
 opt (aI t0) fun v7=>opt (aB v7 0) fun v8=>opt (aC v8 H) fun v9=>opt (aE 2 t7 H) fun v10=>opt (cN 0 v9 t1 v10 H) fun H2=>Q (.int .i64 0) H2)
def F.f132_j1 (E:Sy) (Q:VK) (t0 t1 t2 t7 t20:Value) (H:AH):Prop :=
 ifB t20 (
 Q (.int .i64 22) H) (
 opt (aB t7 0) fun v1=>opt (aC v1 H) fun v2=>opt (aA .sub v2 (.int .i64 1)) fun v3=>opt (aB t7 0) fun v4=>opt (aQ v4 v3 H) fun H1=>ifB t2 (
 opt (aB t7 1) fun v5=>opt (aC v5 H1) fun v6=>opt (aA .sub v6 (.int .i64 1)) fun v7=>opt (aB t7 1) fun v8=>opt (aQ v8 v7 H1) fun H2=>F.f132_j2 E Q t0 t1 t7 H2) (
 F.f132_j2 E Q t0 t1 t7 H1))
def F.f132 (E:Sy) (x0 x1 x2:Value) (H:AH) (Q:VK):Prop :=
 opt (bW dB .eql x0 (.pointer none)) fun v1=>ifB v1 (
 Q (.int .i64 201) H) (
 opt (aI x0) fun v2=>opt (aB v2 0) fun v3=>opt (aC v3 H) fun v4=>opt (look 0 (.agg #[(.int .i64 0),(.int .i64 0)]) false v4 x1 H) fun v5=>bJ [(.int .i64 0),(.int .i64 0)] H fun v6 H1=>opt (aG 2 v6 v5 H1) fun H2=>opt (aB v6 0) fun v7=>opt (aC v7 H2) fun v8=>opt (aA .eql v8 (.int .i64 0)) fun v9=>ifB v9 (
 Q (.int .i64 2) H2) (
 gd x2 true (fun k=>opt (aB v6 1) fun v=>k v H2) H2 fun v10 H3=>gd x2 true (fun k=>opt (aC v10 H3) fun v=>k v H3) H3 fun v11 H4=>gd x2 true (fun k=>opt (aA .eql v11 (.int .i64 0)) fun v=>k v H4) H4 fun v12 H5=>opt (pick x2 v12 (.bool false)) fun v13=>ifB v13 (
 F.f132_j1 E Q x0 x1 x2 v6 v13 H5) (
 opt (un .not x2) fun v14=>gd v14 true (fun k=>opt (aB v6 1) fun v=>k v H5) H5 fun v15 H6=>gd v14 true (fun k=>opt (aC v15 H6) fun v=>k v H6) H6 fun v16 H7=>gd v14 true (fun k=>opt (aB v6 0) fun v=>k v H7) H7 fun v17 H8=>gd v14 true (fun k=>opt (aC v17 H8) fun v=>k v H8) H8 fun v18 H9=>gd v14 true (fun k=>opt (aA .eql v16 v18) fun v=>k v H9) H9 fun v19 H10=>opt (pick v14 v19 (.bool false)) fun v20=>F.f132_j1 E Q x0 x1 x2 v6 v20 H10)))

def F.f74 (E:Sy) (x0 x1 x2:Value) (H:AH) (Q:VK):Prop :=
 mk (eA x1) H fun v1 H1=>opt (aB v1 0) fun v2=>opt (aC v2 H1) fun v3=>opt (aA .eql v3 (.int .u8 3)) fun v4=>ifB v4 (
 Q (.tuple #[]) H1) (
 opt (aI x0) fun v5=>opt (aB v5 0) fun v6=>opt (aC v6 H1) fun v7=>opt (aI v7) fun v8=>opt (aB v8 0) fun v9=>opt (aC v9 H1) fun v10=>opt (aI v10) fun v11=>opt (aB v11 0) fun v12=>opt (aC v12 H1) fun v13=>opt (aB v1 1) fun v14=>opt (aB v14 1) fun v15=>opt (aC v15 H1) fun v16=>E.call (E.fid i.f27) [v13,v16,x2] H1 fun v17 H2=>opt (aI x0) fun v18=>opt (aB v18 0) fun v19=>opt (aC v19 H2) fun v20=>opt (aI v20) fun v21=>opt (aB v21 0) fun v22=>opt (aC v22 H2) fun v23=>opt (aI v23) fun v24=>opt (aB v24 1) fun v25=>opt (aC v25 H2) fun v26=>opt (aB v1 1) fun v27=>opt (aB v27 0) fun v28=>opt (aC v28 H2) fun v29=>E.call (E.fid i.f109) [v26,v29,x2] H2 fun v30 H3=>Q (.tuple #[]) H3)

def F.f139 (E:Sy) (x0 x1:Value) (H:AH) (Q:VK):Prop :=
 opt (aA .andNot x1 x0) fun v1=>opt (aA .eql v1 (.int .u16 0)) fun v2=>Q v2 H

def F.f22_l1 (E:Sy) (Q:VK) (t0 t3 t13 t14:Value) (H:AH) (X0:LK):Prop :=
 opt (aA .lss t14 (.int .i64 16)) fun v1=>ifB v1 (
 opt (yZ 16 1 t13 t14) fun v2=>opt (bW dB .eql v2 (.pointer none)) fun v3=>ifB v3 (
 opt (aI t0) fun v4=>opt (aB v4 0) fun v5=>opt (cJ 16 1 v5 t14) fun v6=>opt (aQ v6 t3 H) fun H1=>Q (.tuple #[t14,(.int .i64 0)]) H1) (
 opt (aA .add t14 (.int .i64 1)) fun v7=>X0 [t0,t3,t13,v7] H)) (
 Q (.tuple #[(.int .i64 0),(.int .i64 24)]) H)
def F.f22 (E:Sy) (x0 x1:Value) (H:AH) (Q:VK):Prop :=
 mk (eA x1) H fun v1 H1=>opt (bW dB .eql x0 (.pointer none)) fun v2=>ifB v2 (
 Q (.tuple #[(.int .i64 0),(.int .i64 201)]) H1) (
 opt (aI x0) fun v3=>opt (aB v3 0) fun v4=>opt (aE 16 v4 H1) fun v5=>aM (fun l H X0=>F.f22_l1 E Q (nth l 0) (nth l 1) (nth l 2) (nth l 3) H X0) [x0,v1,v5,(.int .i64 0)] H1)

def F.f19 (E:Sy) (x0:Value) (H:AH) (Q:VK):Prop :=
 opt (bW dB .eql x0 (.pointer none)) fun v1=>ifB v1 (
 Q (.int .i64 0) H) (
 opt (aI x0) fun v2=>opt (aB v2 0) fun v3=>opt (aC v3 H) fun v4=>opt (lenSlc v4) fun v5=>Q v5 H)

def F.f20_l1 (E:Sy) (Q:VK) (t1 t2 t14 t15 t16:Value) (H:AH) (X0:LK):Prop :=
 opt (aA .lss t16 t15) fun v1=>ifB v1 (
 opt (aK 1 t14 t16) fun v2=>opt (aC v2 H) fun v3=>E.call (E.fid i.f144) [v3,t1,t2] H fun v4 H1=>opt (un .not v4) fun v5=>ifB v5 (
 Q (.bool false) H1) (
 opt (aA .add t16 (.int .i64 1)) fun v6=>X0 [t1,t2,t14,t15,v6] H1)) (
 Q (.bool true) H)
def F.f20 (E:Sy) (x0 x1 x2:Value) (H:AH) (Q:VK):Prop :=
 opt (bW dB .eql x0 (.pointer none)) fun v1=>ifB v1 (
 Q (.bool true) H) (
 opt (aI x0) fun v2=>opt (aB v2 0) fun v3=>opt (aC v3 H) fun v4=>opt (lenSlc v4) fun v5=>aM (fun l H X0=>F.f20_l1 E Q (nth l 0) (nth l 1) (nth l 2) (nth l 3) (nth l 4) H X0) [x1,x2,v4,v5,(.int .i64 0)] H)

def F.f130_j1 (E:Sy) (Q:VK) (t0 t1:Value) (H:AH):Prop :=
 opt (aI t0) fun v1=>opt (aB v1 0) fun v2=>opt (aC v2 H) fun v3=>opt (look 0 (.agg #[(.int .i64 0),(.int .i64 0)]) false v3 t1 H) fun v4=>opt (mF v4 0) fun v5=>opt (aA .gtr v5 (.int .i64 0)) fun v6=>ifB v6 (
 Q (.tuple #[(.int .u16 0),(.int .i64 98)]) H) (
 opt (aI t0) fun v7=>opt (aB v7 0) fun v8=>opt (aC v8 H) fun v9=>opt (aX [(0,1),(1,1)] #[(.int .i64 0),(.int .i64 0)] [(0,(.int .i64 1))]) fun v10=>opt (cN 0 v9 t1 v10 H) fun H1=>Q (.tuple #[t1,(.int .i64 0)]) H1)
def F.f130_l1 (E:Sy) (Q:VK) (t0 t1:Value) (H:AH) (X0:LK):Prop :=
 opt (aI t0) fun v1=>opt (aB v1 0) fun v2=>opt (aC v2 H) fun v3=>opt (look 0 (.agg #[(.int .i64 0),(.int .i64 0)]) false v3 t1 H) fun v4=>opt (mF v4 0) fun v5=>opt (aA .gtr v5 (.int .i64 0)) fun v6=>ifB v6 (
 opt (aA .add t1 (.int .u16 1)) fun v7=>X0 [t0,v7] H) (
 F.f130_j1 E Q t0 t1 H)
def F.f130 (E:Sy) (x0 x1:Value) (H:AH) (Q:VK):Prop :=
 opt (bW dB .eql x0 (.pointer none)) fun v1=>ifB v1 (
 Q (.tuple #[(.int .u16 0),(.int .i64 201)]) H) (
 opt (aA .eql x1 (.int .u16 0)) fun v2=>ifB v2 (
 aM (fun l H X0=>F.f130_l1 E Q (nth l 0) (nth l 1) H X0) [x0,(.int .u16 1024)] H) (
 F.f130_j1 E Q x0 x1 H))

def F.f133 (E:Sy) (x0 x1:Value) (H:AH) (Q:VK):Prop :=
 opt (bW dB .eql x0 (.pointer none)) fun v1=>ifB v1 (
 Q (.int .i64 201) H) (
 opt (aI x0) fun v2=>opt (aB v2 0) fun v3=>opt (aC v3 H) fun v4=>opt (look 0 (.agg #[(.int .i64 0),(.int .i64 0)]) false v4 x1 H) fun v5=>bJ [(.int .i64 0),(.int .i64 0)] H fun v6 H1=>opt (aG 2 v6 v5 H1) fun H2=>opt (aB v6 1) fun v7=>opt (aC v7 H2) fun v8=>opt (aB v6 0) fun v9=>opt (aC v9 H2) fun v10=>opt (aA .geq v8 v10) fun v11=>ifB v11 (
 Q (.int .i64 22) H2) (
 opt (aB v6 1) fun v12=>opt (aC v12 H2) fun v13=>opt (aA .add v13 (.int .i64 1)) fun v14=>opt (aB v6 1) fun v15=>opt (aQ v15 v14 H2) fun H3=>opt (aI x0) fun v16=>opt (aB v16 0) fun v17=>opt (aC v17 H3) fun v18=>opt (aE 2 v6 H3) fun v19=>opt (cN 0 v18 x1 v19 H3) fun H4=>Q (.int .i64 0) H4))

def F.f131 (E:Sy) (x0 x1:Value) (H:AH) (Q:VK):Prop :=
 opt (bW dB .eql x0 (.pointer none)) fun v1=>ifB v1 (
 Q (.int .i64 201) H) (
 opt (aI x0) fun v2=>opt (aB v2 0) fun v3=>opt (aC v3 H) fun v4=>opt (look 0 (.agg #[(.int .i64 0),(.int .i64 0)]) false v4 x1 H) fun v5=>opt (mF v5 1) fun v6=>opt (aA .eql v6 (.int .i64 0)) fun v7=>ifB v7 (
 Q (.int .i64 111) H) (
 Q (.int .i64 0) H))

def F.f64 (E:Sy) (x0 x1:Value) (H:AH) (Q:VK):Prop :=
 opt (aI x0) fun v1=>opt (aB v1 1) fun v2=>opt (aC v2 H) fun v3=>opt (aI v3) fun v4=>opt (aB v4 5) fun v5=>opt (aC v5 H) fun v6=>opt (un .not v6) fun v7=>ifB v7 (
 Q (.int .i64 13) H) (
 opt (aI x0) fun v8=>opt (aB v8 0) fun v9=>opt (aC v9 H) fun v10=>opt (aI v10) fun v11=>opt (aB v11 4) fun v12=>opt (aC v12 H) fun v13=>opt (lenSlc v13) fun v14=>opt (aR .u64 v14) fun v15=>opt (aA .geq x1 v15) fun v16=>ifB v16 (
 Q (.int .i64 22) H) (
 Q (.int .i64 0) H))

def F.f141_l2 (E:Sy) (Q:VK) (t8 t72 t73 t74:Value) (H:AH) (X0:LK):Prop :=
 opt (aA .lss t74 t73) fun v1=>ifB v1 (
 opt (aK 2 t72 t74) fun v2=>opt (aE 2 v2 H) fun v3=>bJ [(.int .u16 0),(.int .u16 0)] H fun v4 H1=>opt (aG 2 v4 v3 H1) fun H2=>opt (aI t8) fun v5=>opt (aB v5 2) fun v6=>opt (aC v6 H2) fun v7=>opt (aB v4 0) fun v8=>opt (aC v8 H2) fun v9=>opt (look 0 (.int .u16 0) false v7 v9 H2) fun v10=>opt (aB v4 1) fun v11=>opt (aC v11 H2) fun v12=>opt (aA .or v10 v12) fun v13=>opt (cN 0 v7 v9 v13 H2) fun H3=>opt (aA .add t74 (.int .i64 1)) fun v14=>X0 [t8,t72,t73,v14] H3) (
 Q (.tuple #[t8,(.int .i64 0)]) H)
def F.f141_l1 (E:Sy) (Q:VK) (t1 t3 t5 t8 t25 t26 t27:Value) (H:AH) (X0:LK):Prop :=
 opt (aA .lss t27 t26) fun v1=>ifB v1 (
 opt (aK 2 t25 t27) fun v2=>opt (aE 2 v2 H) fun v3=>bJ [(.string ⟨#[]⟩),(.int .u16 0)] H fun v4 H1=>opt (aG 2 v4 v3 H1) fun H2=>opt (aE 2 t5 H2) fun v5=>opt (aB v4 0) fun v6=>opt (aC v6 H2) fun v7=>E.call (E.fid i.f188) [t1,v5,v7,(.bool true)] H2 fun v8 H3=>opt (ext v8 0) fun v9=>opt (ext v8 1) fun v10=>bJ [(.int .i64 0),(.int .u16 0)] H3 fun v11 H4=>opt (aG 2 v11 v9 H4) fun H5=>opt (aA .neq v10 (.int .i64 0)) fun v12=>ifB v12 (
 Q (.tuple #[(.pointer none),v10]) H5) (
 opt (aI t1) fun v13=>opt (aB v13 0) fun v14=>opt (aC v14 H5) fun v15=>opt (aB v11 1) fun v16=>opt (aC v16 H5) fun v17=>E.call (E.fid i.f26) [v15,v17] H5 fun v18 H6=>opt (aI v18) fun v19=>opt (aB v19 1) fun v20=>opt (aC v20 H6) fun v21=>opt (aA .eql v21 (.int .u8 2)) fun v22=>opt (aB v4 1) fun v23=>opt (aC v23 H6) fun v24=>opt (aB v4 1) fun v25=>opt (aC v25 H6) fun v26=>E.call (E.fid i.f138) [v24,v22] H6 fun v27 H7=>aC v25 H7=aC v25 H6 /\
 opt (aA .neq v27 v26) fun v28=>ifB v28 (
 Q (.tuple #[(.pointer none),(.int .i64 22)]) H7) (
 opt (aI t8) fun v29=>opt (aB v29 1) fun v30=>opt (aC v30 H7) fun v31=>opt (aB v11 1) fun v32=>opt (aC v32 H7) fun v33=>opt (look 0 (.int .u16 0) false v31 v33 H7) fun v34=>opt (aB v4 1) fun v35=>opt (aC v35 H7) fun v36=>opt (aA .or v34 v36) fun v37=>opt (cN 0 v31 v33 v37 H7) fun H8=>opt (aA .add t27 (.int .i64 1)) fun v38=>X0 [t1,t3,t5,t8,t25,t26,v38] H8))) (
 opt (aB t3 5) fun v39=>opt (aC v39 H) fun v40=>opt (lenSlc v40) fun v41=>aM (fun l H X0=>F.f141_l2 E Q (nth l 0) (nth l 1) (nth l 2) (nth l 3) H X0) [t8,v40,v41,(.int .i64 0)] H)
def F.f141 (E:Sy) (x0 x1 x2:Value) (H:AH) (Q:VK):Prop :=
 mk (eA x0) H fun v1 H1=>mk (eA x2) H1 fun v2 H2=>opt (bW dB .eql x1 (.pointer none)) fun v3=>ifB v3 (
 Q (.tuple #[(.pointer none),(.int .i64 201)]) H2) (
 opt (aB v1 3) fun v4=>opt (aC v4 H2) fun v5=>lM H2 fun v6 H3=>lM H3 fun v7 H4=>opt (aX [(0,1),(1,1),(2,1)] #[(.int .u16 0),(.map none),(.map none)] [(0,v5),(1,v6),(2,v7)]) fun v8=>mk (eA v8) H4 fun v9 H5=>opt (aB v1 4) fun v10=>opt (aC v10 H5) fun v11=>opt (lenSlc v11) fun v12=>aM (fun l H X0=>F.f141_l1 E Q (nth l 0) (nth l 1) (nth l 2) (nth l 3) (nth l 4) (nth l 5) (nth l 6) H X0) [x1,v1,v2,v9,v11,v12,(.int .i64 0)] H5)

def F.f21 (E:Sy) (x0 x1:Value) (H:AH) (Q:VK):Prop :=
 opt (bW dB .eql x1 (.pointer none)) fun v1=>ifB v1 (
 Q (.tuple #[(.pointer none),(.int .i64 201)]) H) (
 E.call (E.fid i.f19) [x0] H fun v2 H1=>opt (aA .geq v2 (.int .i64 16)) fun v3=>ifB v3 (
 Q (.tuple #[(.pointer none),(.int .i64 27)]) H1) (
 E.call (E.fid i.f18) [x0] H1 fun v4 H2=>mk (bR 1 1 #[(.pointer none)] [(0,x1)]) H2 fun v5 H3=>eK (app 1 8 v4 v5 H3) fun v6 H4=>opt (aX [(0,1)] #[(.slice none 0 0)] [(0,v6)]) fun v7=>mk (eA v7) H4 fun v8 H5=>Q (.tuple #[v8,(.int .i64 0)]) H5))

def F.f142_l1 (E:Sy) (Q:VK) (t1 t2 t15 t16 t17:Value) (H:AH) (X0:LK):Prop :=
 opt (aA .lss t17 t16) fun v1=>ifB v1 (
 opt (aK 1 t15 t17) fun v2=>opt (aC v2 H) fun v3=>opt (aI t1) fun v4=>opt (aB v4 0) fun v5=>opt (aC v5 H) fun v6=>E.call (E.fid i.f27) [v6,v3,t2] H fun v7 H1=>opt (aA .add t17 (.int .i64 1)) fun v8=>X0 [t1,t2,t15,t16,v8] H1) (
 Q (.tuple #[]) H)
def F.f142 (E:Sy) (x0 x1 x2:Value) (H:AH) (Q:VK):Prop :=
 opt (bW dB .eql x0 (.pointer none)) fun v1=>gd v1 false (fun k=>k x1 H) H fun v2 H1=>gd v1 false (fun k=>opt (bW dB .eql v2 (.pointer none)) fun v=>k v H1) H1 fun v3 H2=>opt (pick v1 (.bool true) v3) fun v4=>ifB v4 (
 Q (.tuple #[]) H2) (
 E.call (E.fid i.f143) [x0] H2 fun v5 H3=>opt (lenSlc v5) fun v6=>aM (fun l H X0=>F.f142_l1 E Q (nth l 0) (nth l 1) (nth l 2) (nth l 3) (nth l 4) H X0) [x1,x2,v5,v6,(.int .i64 0)] H3)

def F.f159_l2 (E:Sy) (Q:VK) (X0:LK) (t0 t1 t2 t3 t8 t9:Value) (H:AH) (X1:LK):Prop :=
 opt (aA .gtr t9 t1) fun v1=>gd v1 true (fun k=>k t3 H) H fun v2 H1=>gd v1 true (fun k=>k t0 H1) H1 fun v3 H2=>gd v1 true (fun k=>k t9 H2) H2 fun v4 H3=>gd v1 true (fun k=>opt (aK 3 v3 v4) fun v=>k v H3) H3 fun v5 H4=>gd v1 true (fun k=>opt (aE 3 v5 H4) fun v=>k v H4) H4 fun v6 H5=>gd v1 true (fun k=>k t0 H5) H5 fun v7 H6=>gd v1 true (fun k=>k t9 H6) H6 fun v8 H7=>gd v1 true (fun k=>opt (aA .sub v8 (.int .i64 1)) fun v=>k v H7) H7 fun v9 H8=>gd v1 true (fun k=>opt (aK 3 v7 v9) fun v=>k v H8) H8 fun v10 H9=>gd v1 true (fun k=>opt (aE 3 v10 H9) fun v=>k v H9) H9 fun v11 H10=>gd v1 true (fun k=>eH E.call v2 [v6,v11] H10 fun v h=>k v h) H10 fun v12 H11=>gd v1 true (fun k=>opt (aA .lss v12 (.int .i64 0)) fun v=>k v H11) H11 fun v13 H12=>opt (pick v1 v13 (.bool false)) fun v14=>ifB v14 (
 opt (aA .sub t9 (.int .i64 1)) fun v15=>opt (aA .sub t9 (.int .i64 1)) fun v16=>opt (aK 3 t0 v16) fun v17=>opt (aE 3 v17 H12) fun v18=>opt (aK 3 t0 t9) fun v19=>opt (aE 3 v19 H12) fun v20=>opt (aK 3 t0 t9) fun v21=>opt (aG 3 v21 v18 H12) fun H13=>opt (aK 3 t0 v15) fun v22=>opt (aG 3 v22 v20 H13) fun H14=>opt (aA .sub t9 (.int .i64 1)) fun v23=>X1 [t0,t1,t2,t3,t8,v23] H14) (
 opt (aA .add t8 (.int .i64 1)) fun v24=>X0 [t0,t1,t2,t3,v24] H12)
def F.f159_l1 (E:Sy) (Q:VK) (t0 t1 t2 t3 t8:Value) (H:AH) (X0:LK):Prop :=
 opt (aA .lss t8 t2) fun v1=>ifB v1 (
 aM (fun l H X1=>F.f159_l2 E Q X0 (nth l 0) (nth l 1) (nth l 2) (nth l 3) (nth l 4) (nth l 5) H X1) [t0,t1,t2,t3,t8,t8] H) (
 Q (.tuple #[]) H)
def F.f159 (E:Sy) (x0 x1 x2 x3:Value) (H:AH) (Q:VK):Prop :=
 opt (aA .add x1 (.int .i64 1)) fun v1=>aM (fun l H X0=>F.f159_l1 E Q (nth l 0) (nth l 1) (nth l 2) (nth l 3) (nth l 4) H X0) [x0,x1,x2,x3,v1] H

def F.f148_l1 (E:Sy) (Q:VK) (t0 t1 t7 t8:Value) (H:AH) (X0:LK):Prop :=
 opt (aA .lss t8 t7) fun v1=>ifB v1 (
 opt (aK 1 t0 t8) fun v2=>opt (aC v2 H) fun v3=>opt (aA .eql t1 v3) fun v4=>ifB v4 (
 Q t8 H) (
 opt (aA .add t8 (.int .i64 1)) fun v5=>X0 [t0,t1,t7,v5] H)) (
 Q (.int .i64 (-1)) H)
def F.f148 (E:Sy) (x0 x1:Value) (H:AH) (Q:VK):Prop :=
 opt (lenSlc x0) fun v1=>aM (fun l H X0=>F.f148_l1 E Q (nth l 0) (nth l 1) (nth l 2) (nth l 3) H X0) [x0,x1,v1,(.int .i64 0)] H

def F.f13 (E:Sy) (x0:Value) (H:AH) (Q:VK):Prop :=
 opt (aA .neq x0 x0) fun v1=>Q v1 H

def F.f39 (E:Sy) (x0:Value) (H:AH) (Q:VK):Prop :=
 mk (eA x0) H fun v1 H1=>opt (aB v1 0) fun v2=>opt (aC v2 H1) fun v3=>opt (aA .lss v3 (.int .i64 0)) fun v4=>gd v4 false (fun k=>opt (aB v1 0) fun v=>k v H1) H1 fun v5 H2=>gd v4 false (fun k=>opt (aC v5 H2) fun v=>k v H2) H2 fun v6 H3=>gd v4 false (fun k=>opt (aA .gtr v6 (.int .i64 5)) fun v=>k v H3) H3 fun v7 H4=>opt (pick v4 (.bool true) v7) fun v8=>ifB v8 (
 Q (.bool false) H4) (
 opt (aB v1 1) fun v9=>opt (aC v9 H4) fun v10=>opt (aA .eql v10 (.int .u8 6)) fun v11=>ifB v11 (
 opt (aB v1 3) fun v12=>opt (aC v12 H4) fun v13=>opt (aA .eql v13 (.int .u64 0)) fun v14=>Q v14 H4) (
 opt (aA .eql v10 (.int .u8 4)) fun v15=>ifB v15 (
 opt (aB v1 3) fun v16=>opt (aC v16 H4) fun v17=>opt (aA .eql v17 (.int .u64 18446744073709551615)) fun v18=>Q v18 H4) (
 Q (.bool false) H4)))

def F.f145 (E:Sy) (x0 x1:Value) (H:AH) (Q:VK):Prop :=
 mk (eA x1) H fun v1 H1=>opt (aE 4 v1 H1) fun v2=>E.call (E.fid i.f147) [x0,v2] H1 fun v3 H2=>opt (aA .geq v3 (.int .i64 0)) fun v4=>Q v4 H2

def F.f107_j3 (E:Sy) (Q:VK) (t0 t2:Value) (H:AH):Prop :=
 opt (aR .u8 t0) fun v1=>opt (nF (.string ⟨#[0,1,2,2,3,3,3,3,4,4,4,4,4,4,4,4,5,5,5,5,5,5,5,5,5,5,5,5,5,5,5,5,6,6,6,6,6,6,6,6,6,6,6,6,6,6,6,6,6,6,6,6,6,6,6,6,6,6,6,6,6,6,6,6,7,7,7,7,7,7,7,7,7,7,7,7,7,7,7,7,7,7,7,7,7,7,7,7,7,7,7,7,7,7,7,7,7,7,7,7,7,7,7,7,7,7,7,7,7,7,7,7,7,7,7,7,7,7,7,7,7,7,7,7,7,7,7,7,8,8,8,8,8,8,8,8,8,8,8,8,8,8,8,8,8,8,8,8,8,8,8,8,8,8,8,8,8,8,8,8,8,8,8,8,8,8,8,8,8,8,8,8,8,8,8,8,8,8,8,8,8,8,8,8,8,8,8,8,8,8,8,8,8,8,8,8,8,8,8,8,8,8,8,8,8,8,8,8,8,8,8,8,8,8,8,8,8,8,8,8,8,8,8,8,8,8,8,8,8,8,8,8,8,8,8,8,8,8,8,8,8,8,8,8,8,8,8,8,8,8,8,8,8,8,8,8]⟩) v1) fun v2=>opt (aR .i64 v2) fun v3=>opt (aA .add t2 v3) fun v4=>Q v4 H
def F.f107_j2 (E:Sy) (Q:VK) (t0 t2:Value) (H:AH):Prop :=
 opt (aA .geq t0 (.int .u64 256)) fun v1=>ifB v1 (
 opt (aA .shr t0 (.int .u64 8)) fun v2=>opt (aA .add t2 (.int .i64 8)) fun v3=>F.f107_j3 E Q v2 v3 H) (
 F.f107_j3 E Q t0 t2 H)
def F.f107_j1 (E:Sy) (Q:VK) (t0 t2:Value) (H:AH):Prop :=
 opt (aA .geq t0 (.int .u64 65536)) fun v1=>ifB v1 (
 opt (aA .shr t0 (.int .u64 16)) fun v2=>opt (aA .add t2 (.int .i64 16)) fun v3=>F.f107_j2 E Q v2 v3 H) (
 F.f107_j2 E Q t0 t2 H)
def F.f107 (E:Sy) (x0:Value) (H:AH) (Q:VK):Prop :=
 opt (aA .geq x0 (.int .u64 4294967296)) fun v1=>ifB v1 (
 opt (aA .shr x0 (.int .u64 32)) fun v2=>F.f107_j1 E Q v2 (.int .i64 32) H) (
 F.f107_j1 E Q x0 (.int .i64 0) H)

def F.f158_l2 (E:Sy) (Q:VK) (X0:LK) (t0 t1 t2 t3 t8 t9:Value) (H:AH) (X1:LK):Prop :=
 opt (aA .gtr t9 t1) fun v1=>gd v1 true (fun k=>k t3 H) H fun v2 H1=>gd v1 true (fun k=>k t0 H1) H1 fun v3 H2=>gd v1 true (fun k=>k t9 H2) H2 fun v4 H3=>gd v1 true (fun k=>opt (aK 2 v3 v4) fun v=>k v H3) H3 fun v5 H4=>gd v1 true (fun k=>opt (aE 2 v5 H4) fun v=>k v H4) H4 fun v6 H5=>gd v1 true (fun k=>k t0 H5) H5 fun v7 H6=>gd v1 true (fun k=>k t9 H6) H6 fun v8 H7=>gd v1 true (fun k=>opt (aA .sub v8 (.int .i64 1)) fun v=>k v H7) H7 fun v9 H8=>gd v1 true (fun k=>opt (aK 2 v7 v9) fun v=>k v H8) H8 fun v10 H9=>gd v1 true (fun k=>opt (aE 2 v10 H9) fun v=>k v H9) H9 fun v11 H10=>gd v1 true (fun k=>eH E.call v2 [v6,v11] H10 fun v h=>k v h) H10 fun v12 H11=>gd v1 true (fun k=>opt (aA .lss v12 (.int .i64 0)) fun v=>k v H11) H11 fun v13 H12=>opt (pick v1 v13 (.bool false)) fun v14=>ifB v14 (
 opt (aA .sub t9 (.int .i64 1)) fun v15=>opt (aA .sub t9 (.int .i64 1)) fun v16=>opt (aK 2 t0 v16) fun v17=>opt (aE 2 v17 H12) fun v18=>opt (aK 2 t0 t9) fun v19=>opt (aE 2 v19 H12) fun v20=>opt (aK 2 t0 t9) fun v21=>opt (aG 2 v21 v18 H12) fun H13=>opt (aK 2 t0 v15) fun v22=>opt (aG 2 v22 v20 H13) fun H14=>opt (aA .sub t9 (.int .i64 1)) fun v23=>X1 [t0,t1,t2,t3,t8,v23] H14) (
 opt (aA .add t8 (.int .i64 1)) fun v24=>X0 [t0,t1,t2,t3,v24] H12)
def F.f158_l1 (E:Sy) (Q:VK) (t0 t1 t2 t3 t8:Value) (H:AH) (X0:LK):Prop :=
 opt (aA .lss t8 t2) fun v1=>ifB v1 (
 aM (fun l H X1=>F.f158_l2 E Q X0 (nth l 0) (nth l 1) (nth l 2) (nth l 3) (nth l 4) (nth l 5) H X1) [t0,t1,t2,t3,t8,t8] H) (
 Q (.tuple #[]) H)
def F.f158 (E:Sy) (x0 x1 x2 x3:Value) (H:AH) (Q:VK):Prop :=
 opt (aA .add x1 (.int .i64 1)) fun v1=>aM (fun l H X0=>F.f158_l1 E Q (nth l 0) (nth l 1) (nth l 2) (nth l 3) (nth l 4) H X0) [x0,x1,x2,x3,v1] H

def F.f14 (E:Sy) (x0:Value) (H:AH) (Q:VK):Prop :=
 opt (aA .neq x0 x0) fun v1=>Q v1 H

def F.f136 (E:Sy) (x0 x1:Value) (H:AH) (Q:VK):Prop :=
 opt (jH max2 [x0,(.int .i64 0)]) fun v1=>opt (jH min2 [v1,(.int .i64 5)]) fun v2=>opt (aA .mul (.int .i64 8) v2) fun v3=>opt (aA .add (.int .i64 16) v3) fun v4=>opt (aR .u32 v4) fun v5=>ifB x1 (
 opt (aA .add v5 (.int .u32 4)) fun v6=>Q v6 H) (
 Q v5 H)

def F.f104 (E:Sy) (x0 x1 x2:Value) (H:AH) (Q:VK):Prop :=
 mk (eA x1) H fun v1 H1=>opt (aI x0) fun v2=>opt (aB v2 0) fun v3=>E.call (E.fid i.f45) [v3,x2] H1 fun v4 H2=>opt (aI x0) fun v5=>opt (aB v5 0) fun v6=>opt (aB v1 0) fun v7=>opt (aC v7 H2) fun v8=>E.call (E.fid i.f136) [v8,(.bool false)] H2 fun v9 H3=>E.call (E.fid i.f32) [v9] H3 fun v10 H4=>E.call (E.fid i.f49) [v6,v10] H4 fun v11 H5=>Q (.tuple #[]) H5

def F.f103 (E:Sy) (x0 x1 x2 x3 x4:Value) (H:AH) (Q:VK):Prop :=
 mk (eA x1) H fun v1 H1=>opt (aB v1 3) fun v2=>opt (aC v2 H1) fun v3=>opt (aA .shr v3 (.int .u64 32)) fun v4=>opt (aR .u32 v4) fun v5=>opt (aB v1 3) fun v6=>opt (aC v6 H1) fun v7=>opt (aR .u32 v7) fun v8=>opt (aI x0) fun v9=>opt (aB v9 0) fun v10=>opt (aI x0) fun v11=>opt (aB v11 0) fun v12=>E.call (E.fid i.f47) [v10] H1 fun v13 H2=>E.call (E.fid i.f47) [v12] H2 fun v14 H3=>opt (aI x0) fun v15=>opt (aB v15 0) fun v16=>E.call (E.fid i.f46) [v16,(.int .u16 32),v5,x3,v13] H3 fun v17 H4=>opt (aI x0) fun v18=>opt (aB v18 0) fun v19=>E.call (E.fid i.f45) [v19,v13] H4 fun v20 H5=>opt (aI x0) fun v21=>opt (aB v21 0) fun v22=>E.call (E.fid i.f46) [v22,(.int .u16 16),v5,v14,x4] H5 fun v23 H6=>opt (aE 4 v1 H6) fun v24=>E.call (E.fid i.f104) [x0,v24,v14] H6 fun v25 H7=>opt (aI x0) fun v26=>opt (aB v26 0) fun v27=>E.call (E.fid i.f46) [v27,x2,v8,x3,x4] H7 fun v28 H8=>Q (.tuple #[]) H8

def F.f33 (E:Sy) (x0:Value) (H:AH) (Q:VK):Prop :=
 bJ [(.int .u16 0),(.int .u8 0),(.int .u8 0),(.int .u32 0)] H fun v1 H1=>opt (aX [(0,1),(1,1),(2,1),(3,1)] #[(.int .u16 0),(.int .u8 0),(.int .u8 0),(.int .u32 0)] [(0,(.int .u16 84)),(3,x0)]) fun v2=>opt (aG 4 v1 v2 H1) fun H2=>opt (aE 4 v1 H2) fun v3=>Q v3 H2

def F.f35 (E:Sy) (x0:Value) (H:AH) (Q:VK):Prop :=
 bJ [(.int .u16 0),(.int .u8 0),(.int .u8 0),(.int .u32 0)] H fun v1 H1=>opt (aX [(0,1),(1,1),(2,1),(3,1)] #[(.int .u16 0),(.int .u8 0),(.int .u8 0),(.int .u32 0)] [(0,(.int .u16 5)),(3,x0)]) fun v2=>opt (aG 4 v1 v2 H1) fun H2=>opt (aE 4 v1 H2) fun v3=>Q v3 H2

def F.f144 (E:Sy) (x0 x1 x2:Value) (H:AH) (Q:VK):Prop :=
 opt (bW dB .eql x0 (.pointer none)) fun v1=>ifB v1 (
 Q (.bool true) H) (
 opt (aI x0) fun v2=>opt (aB v2 0) fun v3=>opt (aC v3 H) fun v4=>opt (aA .and x1 v4) fun v5=>opt (aI x0) fun v6=>opt (aB v6 2) fun v7=>opt (aC v7 H) fun v8=>opt (look 0 (.int .u16 0) false v8 x2 H) fun v9=>opt (aA .andNot v5 v9) fun v10=>opt (aA .eql v10 (.int .u16 0)) fun v11=>Q v11 H)

def F.f18 (E:Sy) (x0:Value) (H:AH) (Q:VK):Prop :=
 opt (bW dB .eql x0 (.pointer none)) fun v1=>ifB v1 (
 Q (.slice none 0 0) H) (
 mk (bR 0 1 #[(.pointer none)] []) H fun v2 H1=>opt (aI x0) fun v3=>opt (aB v3 0) fun v4=>opt (aC v4 H1) fun v5=>eK (app 1 8 v2 v5 H1) fun v6 H2=>Q v6 H2)

def F.f143_l1 (E:Sy) (Q:VK) (t3 t11:Value) (H:AH) (X0:LK):Prop :=
 mJ t11 H fun v1 H1=>opt (ext v1 0) fun v2=>ifB v2 (
 opt (oW t11 H1) fun v3=>opt (ext v3 0) fun v4=>mk (bR 1 1 #[(.int .u16 0)] [(0,v4)]) H1 fun v5 H2=>eK (app 1 2 t3 v5 H2) fun v6 H3=>X0 [v6,t11] H3) (
 E.call (E.fid i.f151) [t3] H1 fun v7 H4=>Q t3 H4)
def F.f143 (E:Sy) (x0:Value) (H:AH) (Q:VK):Prop :=
 opt (bW dB .eql x0 (.pointer none)) fun v1=>ifB v1 (
 Q (.slice none 0 0) H) (
 opt (aI x0) fun v2=>opt (aB v2 1) fun v3=>opt (aC v3 H) fun v4=>mk (mS v4 H) H fun v5 H1=>aM (fun l H X0=>F.f143_l1 E Q (nth l 0) (nth l 1) H X0) [(.slice none 0 0),v5] H1)

def F.f147_l1 (E:Sy) (Q:VK) (t0 t3 t7 t8:Value) (H:AH) (X0:LK):Prop :=
 opt (aA .lss t8 t7) fun v1=>ifB v1 (
 opt (aE 4 t3 H) fun v2=>opt (aK 4 t0 t8) fun v3=>opt (aE 4 v3 H) fun v4=>opt (iS [0,0,0,0] .eql v2 v4) fun v5=>ifB v5 (
 Q t8 H) (
 opt (aA .add t8 (.int .i64 1)) fun v6=>X0 [t0,t3,t7,v6] H)) (
 Q (.int .i64 (-1)) H)
def F.f147 (E:Sy) (x0 x1:Value) (H:AH) (Q:VK):Prop :=
 mk (eA x1) H fun v1 H1=>opt (lenSlc x0) fun v2=>aM (fun l H X0=>F.f147_l1 E Q (nth l 0) (nth l 1) (nth l 2) (nth l 3) H X0) [x0,v1,v2,(.int .i64 0)] H1

def F.f163 (E:Sy) (x0:Value) (H:AH) (Q:VK):Prop :=
 opt (aR .u64 x0) fun v1=>E.call (E.fid i.f105) [v1] H fun v2 H1=>opt (aA .shl (.int .u64 1) v2) fun v3=>Q v3 H1

def F.f178 (E:Sy) (x0:Value) (H:AH) (Q:VK):Prop :=
 opt (aI x0) fun v1=>opt (aC v1 H) fun v2=>opt (aI x0) fun v3=>opt (aC v3 H) fun v4=>opt (aA .shl v4 (.int .u64 13)) fun v5=>opt (aA .xor v2 v5) fun v6=>opt (aI x0) fun v7=>opt (aQ v7 v6 H) fun H1=>opt (aI x0) fun v8=>opt (aC v8 H1) fun v9=>opt (aI x0) fun v10=>opt (aC v10 H1) fun v11=>opt (aA .shr v11 (.int .u64 7)) fun v12=>opt (aA .xor v9 v12) fun v13=>opt (aI x0) fun v14=>opt (aQ v14 v13 H1) fun H2=>opt (aI x0) fun v15=>opt (aC v15 H2) fun v16=>opt (aI x0) fun v17=>opt (aC v17 H2) fun v18=>opt (aA .shl v18 (.int .u64 17)) fun v19=>opt (aA .xor v16 v19) fun v20=>opt (aI x0) fun v21=>opt (aQ v21 v20 H2) fun H3=>opt (aI x0) fun v22=>opt (aC v22 H3) fun v23=>Q v23 H3

def F.f151 (E:Sy) (x0:Value) (H:AH) (Q:VK):Prop :=
 opt (lenSlc x0) fun v1=>opt (aR .u64 v1) fun v2=>E.call (E.fid i.f105) [v2] H fun v3 H1=>E.call (E.fid i.f172) [x0,(.int .i64 0),v1,v3] H1 fun v4 H2=>Q (.tuple #[]) H2

def F.f172_j3 (E:Sy) (Q:VK) (X0:LK) (t0 t1 t2 t3 t8 t9 t10 t11:Value) (H:AH):Prop :=
 opt (aA .gtr t1 (.int .i64 0)) fun v1=>gd v1 true (fun k=>k t0 H) H fun v2 H1=>gd v1 true (fun k=>k t1 H1) H1 fun v3 H2=>gd v1 true (fun k=>opt (aA .sub v3 (.int .i64 1)) fun v=>k v H2) H2 fun v4 H3=>gd v1 true (fun k=>opt (aK 1 v2 v4) fun v=>k v H3) H3 fun v5 H4=>gd v1 true (fun k=>opt (aC v5 H4) fun v=>k v H4) H4 fun v6 H5=>gd v1 true (fun k=>k t0 H5) H5 fun v7 H6=>gd v1 true (fun k=>k t11 H6) H6 fun v8 H7=>gd v1 true (fun k=>opt (aK 1 v7 v8) fun v=>k v H7) H7 fun v9 H8=>gd v1 true (fun k=>opt (aC v9 H8) fun v=>k v H8) H8 fun v10 H9=>gd v1 true (fun k=>E.call (E.fid i.f11) [v6,v10] H9 fun v h=>k v h) H9 fun v11 H10=>gd v1 true (fun k=>opt (un .not v11) fun v=>k v H10) H10 fun v12 H11=>opt (pick v1 v12 (.bool false)) fun v13=>ifB v13 (
 E.call (E.fid i.f169) [t0,t1,t2,t11] H11 fun v14 H12=>X0 [t0,v14,t2,t3,t8,t9] H12) (
 E.call (E.fid i.f170) [t0,t1,t2,t11] H11 fun v15 H13=>opt (ext v15 0) fun v16=>opt (ext v15 1) fun v17=>opt (aA .sub v16 t1) fun v18=>opt (aA .sub t2 v16) fun v19=>opt (aA .quo t10 (.int .i64 8)) fun v20=>opt (aA .lss v18 v19) fun v21=>ifB v21 (
 opt (aA .geq v18 v20) fun v22=>E.call (E.fid i.f172) [t0,t1,v16,t3] H13 fun v23 H14=>opt (aA .add v16 (.int .i64 1)) fun v24=>X0 [t0,v24,t2,t3,v22,v17] H14) (
 opt (aA .geq v19 v20) fun v25=>opt (aA .add v16 (.int .i64 1)) fun v26=>E.call (E.fid i.f172) [t0,v26,t2,t3] H13 fun v27 H15=>X0 [t0,t1,v16,t3,v25,v17] H15))
def F.f172_j2 (E:Sy) (Q:VK) (X0:LK) (t0 t1 t2 t3 t8 t9 t10 t11 t12:Value) (H:AH):Prop :=
 gd t8 true (fun k=>k t9 H) H fun v1 H1=>opt (pick t8 v1 (.bool false)) fun v2=>gd v2 true (fun k=>k t12 H1) H1 fun v3 H2=>gd v2 true (fun k=>opt (aA .eql v3 (.int .i64 1)) fun v=>k v H2) H2 fun v4 H3=>opt (pick v2 v4 (.bool false)) fun v5=>ifB v5 (
 E.call (E.fid i.f166) [t0,t1,t2] H3 fun v6 H4=>ifB v6 (
 Q (.tuple #[]) H4) (
 F.f172_j3 E Q X0 t0 t1 t2 t3 t8 t9 t10 t11 H4)) (
 F.f172_j3 E Q X0 t0 t1 t2 t3 t8 t9 t10 t11 H3)
def F.f172_j1 (E:Sy) (Q:VK) (X0:LK) (t0 t1 t2 t3 t8 t9 t10:Value) (H:AH):Prop :=
 E.call (E.fid i.f155) [t0,t1,t2] H fun v1 H1=>opt (ext v1 0) fun v2=>opt (ext v1 1) fun v3=>opt (aA .eql v3 (.int .i64 2)) fun v4=>ifB v4 (
 E.call (E.fid i.f174) [t0,t1,t2] H1 fun v5 H2=>opt (aA .sub t2 (.int .i64 1)) fun v6=>opt (aA .sub v2 t1) fun v7=>opt (aA .sub v6 v7) fun v8=>F.f172_j2 E Q X0 t0 t1 t2 t3 t8 t9 t10 v8 (.int .i64 1) H2) (
 F.f172_j2 E Q X0 t0 t1 t2 t3 t8 t9 t10 v2 v3 H1)
def F.f172_l1 (E:Sy) (Q:VK) (t0 t1 t2 t3 t8 t9:Value) (H:AH) (X0:LK):Prop :=
 opt (aA .sub t2 t1) fun v1=>opt (aA .leq v1 (.int .i64 12)) fun v2=>ifB v2 (
 E.call (E.fid i.f160) [t0,t1,t2] H fun v3 H1=>Q (.tuple #[]) H1) (
 opt (aA .eql t3 (.int .i64 0)) fun v4=>ifB v4 (
 E.call (E.fid i.f157) [t0,t1,t2] H fun v5 H2=>Q (.tuple #[]) H2) (
 opt (un .not t8) fun v6=>ifB v6 (
 E.call (E.fid i.f153) [t0,t1,t2] H fun v7 H3=>opt (aA .sub t3 (.int .i64 1)) fun v8=>F.f172_j1 E Q X0 t0 t1 t2 v8 t8 t9 v1 H3) (
 F.f172_j1 E Q X0 t0 t1 t2 t3 t8 t9 v1 H)))
def F.f172 (E:Sy) (x0 x1 x2 x3:Value) (H:AH) (Q:VK):Prop :=
 aM (fun l H X0=>F.f172_l1 E Q (nth l 0) (nth l 1) (nth l 2) (nth l 3) (nth l 4) (nth l 5) H X0) [x0,x1,x2,x3,(.bool true),(.bool true)] H

def F.f160_l2 (E:Sy) (Q:VK) (X0:LK) (t0 t1 t2 t6 t7:Value) (H:AH) (X1:LK):Prop :=
 opt (aA .gtr t7 t1) fun v1=>gd v1 true (fun k=>k t0 H) H fun v2 H1=>gd v1 true (fun k=>k t7 H1) H1 fun v3 H2=>gd v1 true (fun k=>opt (aK 1 v2 v3) fun v=>k v H2) H2 fun v4 H3=>gd v1 true (fun k=>opt (aC v4 H3) fun v=>k v H3) H3 fun v5 H4=>gd v1 true (fun k=>k t0 H4) H4 fun v6 H5=>gd v1 true (fun k=>k t7 H5) H5 fun v7 H6=>gd v1 true (fun k=>opt (aA .sub v7 (.int .i64 1)) fun v=>k v H6) H6 fun v8 H7=>gd v1 true (fun k=>opt (aK 1 v6 v8) fun v=>k v H7) H7 fun v9 H8=>gd v1 true (fun k=>opt (aC v9 H8) fun v=>k v H8) H8 fun v10 H9=>gd v1 true (fun k=>E.call (E.fid i.f11) [v5,v10] H9 fun v h=>k v h) H9 fun v11 H10=>opt (pick v1 v11 (.bool false)) fun v12=>ifB v12 (
 opt (aA .sub t7 (.int .i64 1)) fun v13=>opt (aA .sub t7 (.int .i64 1)) fun v14=>opt (aK 1 t0 v14) fun v15=>opt (aC v15 H10) fun v16=>opt (aK 1 t0 t7) fun v17=>opt (aC v17 H10) fun v18=>opt (aK 1 t0 t7) fun v19=>opt (aQ v19 v16 H10) fun H11=>opt (aK 1 t0 v13) fun v20=>opt (aQ v20 v18 H11) fun H12=>opt (aA .sub t7 (.int .i64 1)) fun v21=>X1 [t0,t1,t2,t6,v21] H12) (
 opt (aA .add t6 (.int .i64 1)) fun v22=>X0 [t0,t1,t2,v22] H10)
def F.f160_l1 (E:Sy) (Q:VK) (t0 t1 t2 t6:Value) (H:AH) (X0:LK):Prop :=
 opt (aA .lss t6 t2) fun v1=>ifB v1 (
 aM (fun l H X1=>F.f160_l2 E Q X0 (nth l 0) (nth l 1) (nth l 2) (nth l 3) (nth l 4) H X1) [t0,t1,t2,t6,t6] H) (
 Q (.tuple #[]) H)
def F.f160 (E:Sy) (x0 x1 x2:Value) (H:AH) (Q:VK):Prop :=
 opt (aA .add x1 (.int .i64 1)) fun v1=>aM (fun l H X0=>F.f160_l1 E Q (nth l 0) (nth l 1) (nth l 2) (nth l 3) H X0) [x0,x1,x2,v1] H

def F.f157_l2 (E:Sy) (Q:VK) (t0 t6 t7 t10:Value) (H:AH) (X0:LK):Prop :=
 opt (aA .geq t10 (.int .i64 0)) fun v1=>ifB v1 (
 opt (aA .add t6 t10) fun v2=>opt (aA .add t6 t10) fun v3=>opt (aK 1 t0 v3) fun v4=>opt (aC v4 H) fun v5=>opt (aK 1 t0 t6) fun v6=>opt (aC v6 H) fun v7=>opt (aK 1 t0 t6) fun v8=>opt (aQ v8 v5 H) fun H1=>opt (aK 1 t0 v2) fun v9=>opt (aQ v9 v7 H1) fun H2=>E.call (E.fid i.f175) [t0,t7,t10,t6] H2 fun v10 H3=>opt (aA .sub t10 (.int .i64 1)) fun v11=>X0 [t0,t6,t7,v11] H3) (
 Q (.tuple #[]) H)
def F.f157_l1 (E:Sy) (Q:VK) (t0 t6 t7 t8 t9:Value) (H:AH) (X0:LK):Prop :=
 opt (aA .geq t9 (.int .i64 0)) fun v1=>ifB v1 (
 E.call (E.fid i.f175) [t0,t9,t8,t6] H fun v2 H1=>opt (aA .sub t9 (.int .i64 1)) fun v3=>X0 [t0,t6,t7,t8,v3] H1) (
 opt (aA .sub t8 (.int .i64 1)) fun v4=>aM (fun l H X0=>F.f157_l2 E Q (nth l 0) (nth l 1) (nth l 2) (nth l 3) H X0) [t0,t6,t7,v4] H)
def F.f157 (E:Sy) (x0 x1 x2:Value) (H:AH) (Q:VK):Prop :=
 opt (aA .sub x2 x1) fun v1=>opt (aA .sub v1 (.int .i64 1)) fun v2=>opt (aA .quo v2 (.int .i64 2)) fun v3=>aM (fun l H X0=>F.f157_l1 E Q (nth l 0) (nth l 1) (nth l 2) (nth l 3) (nth l 4) H X0) [x0,x1,(.int .i64 0),v1,v3] H

def F.f153_j1 (E:Sy) (Q:VK) (X0:LK) (t0 t1 t6 t7 t8 t9 t10:Value) (H:AH):Prop :=
 opt (aA .add t1 t10) fun v1=>opt (aA .add t1 t10) fun v2=>opt (aK 1 t0 v2) fun v3=>opt (aC v3 H) fun v4=>opt (aK 1 t0 t9) fun v5=>opt (aC v5 H) fun v6=>opt (aK 1 t0 t9) fun v7=>opt (aQ v7 v4 H) fun H1=>opt (aK 1 t0 v1) fun v8=>opt (aQ v8 v6 H1) fun H2=>opt (aA .add t9 (.int .i64 1)) fun v9=>X0 [t0,t1,t6,t7,t8,v9] H2
def F.f153_l1 (E:Sy) (Q:VK) (t0 t1 t6 t7 t8 t9:Value) (H:AH) (X0:LK):Prop :=
 opt (aA .quo t6 (.int .i64 4)) fun v1=>opt (aA .mul v1 (.int .i64 2)) fun v2=>opt (aA .add t1 v2) fun v3=>opt (aA .add v3 (.int .i64 1)) fun v4=>opt (aA .leq t9 v4) fun v5=>ifB v5 (
 E.call (E.fid i.f178) [t7] H fun v6 H1=>opt (aA .sub t8 (.int .u64 1)) fun v7=>opt (aA .and v6 v7) fun v8=>opt (aR .i64 v8) fun v9=>opt (aA .geq v9 t6) fun v10=>ifB v10 (
 opt (aA .sub v9 t6) fun v11=>F.f153_j1 E Q X0 t0 t1 t6 t7 t8 t9 v11 H1) (
 F.f153_j1 E Q X0 t0 t1 t6 t7 t8 t9 v9 H1)) (
 Q (.tuple #[]) H)
def F.f153 (E:Sy) (x0 x1 x2:Value) (H:AH) (Q:VK):Prop :=
 opt (aA .sub x2 x1) fun v1=>opt (aA .geq v1 (.int .i64 8)) fun v2=>ifB v2 (
 opt (aR .u64 v1) fun v3=>bJ [(.int .u64 0)] H fun v4 H1=>opt (aQ v4 v3 H1) fun H2=>E.call (E.fid i.f163) [v1] H2 fun v5 H3=>opt (aA .quo v1 (.int .i64 4)) fun v6=>opt (aA .mul v6 (.int .i64 2)) fun v7=>opt (aA .add x1 v7) fun v8=>opt (aA .sub v8 (.int .i64 1)) fun v9=>aM (fun l H X0=>F.f153_l1 E Q (nth l 0) (nth l 1) (nth l 2) (nth l 3) (nth l 4) (nth l 5) H X0) [x0,x1,v1,v4,v5,v9] H3) (
 Q (.tuple #[]) H)

def F.f155_j1 (E:Sy) (Q:VK) (t9 t11:Value) (H:AH):Prop :=
 opt (aC t9 H) fun v1=>opt (aA .eql v1 (.int .i64 0)) fun v2=>ifB v2 (
 Q (.tuple #[t11,(.int .i64 1)]) H) (
 opt (aA .eql v1 (.int .i64 12)) fun v3=>ifB v3 (
 Q (.tuple #[t11,(.int .i64 2)]) H) (
 Q (.tuple #[t11,(.int .i64 0)]) H))
def F.f155_j2 (E:Sy) (Q:VK) (t0 t9 t10 t11 t12:Value) (H:AH):Prop :=
 E.call (E.fid i.f162) [t0,t10,t11,t12,t9] H fun v1 H1=>F.f155_j1 E Q t9 v1 H1
def F.f155 (E:Sy) (x0 x1 x2:Value) (H:AH) (Q:VK):Prop :=
 opt (aA .sub x2 x1) fun v1=>bJ [(.int .i64 0)] H fun v2 H1=>opt (aA .quo v1 (.int .i64 4)) fun v3=>opt (aA .mul v3 (.int .i64 1)) fun v4=>opt (aA .add x1 v4) fun v5=>opt (aA .quo v1 (.int .i64 4)) fun v6=>opt (aA .mul v6 (.int .i64 2)) fun v7=>opt (aA .add x1 v7) fun v8=>opt (aA .quo v1 (.int .i64 4)) fun v9=>opt (aA .mul v9 (.int .i64 3)) fun v10=>opt (aA .add x1 v10) fun v11=>opt (aA .geq v1 (.int .i64 8)) fun v12=>ifB v12 (
 opt (aA .geq v1 (.int .i64 50)) fun v13=>ifB v13 (
 E.call (E.fid i.f161) [x0,v5,v2] H1 fun v14 H2=>E.call (E.fid i.f161) [x0,v8,v2] H2 fun v15 H3=>E.call (E.fid i.f161) [x0,v11,v2] H3 fun v16 H4=>F.f155_j2 E Q x0 v2 v14 v15 v16 H4) (
 F.f155_j2 E Q x0 v2 v5 v8 v11 H1)) (
 F.f155_j1 E Q v2 v8 H1)

def F.f174_l1 (E:Sy) (Q:VK) (t0 t6 t7:Value) (H:AH) (X0:LK):Prop :=
 opt (aA .lss t6 t7) fun v1=>ifB v1 (
 opt (aK 1 t0 t7) fun v2=>opt (aC v2 H) fun v3=>opt (aK 1 t0 t6) fun v4=>opt (aC v4 H) fun v5=>opt (aK 1 t0 t6) fun v6=>opt (aQ v6 v3 H) fun H1=>opt (aK 1 t0 t7) fun v7=>opt (aQ v7 v5 H1) fun H2=>opt (aA .add t6 (.int .i64 1)) fun v8=>opt (aA .sub t7 (.int .i64 1)) fun v9=>X0 [t0,v8,v9] H2) (
 Q (.tuple #[]) H)
def F.f174 (E:Sy) (x0 x1 x2:Value) (H:AH) (Q:VK):Prop :=
 opt (aA .sub x2 (.int .i64 1)) fun v1=>aM (fun l H X0=>F.f174_l1 E Q (nth l 0) (nth l 1) (nth l 2) H X0) [x0,x1,v1] H

def F.f166_l3 (E:Sy) (Q:VK) (X0:LK) (t0 t1 t2 t7 t8 t10:Value) (H:AH) (X1:LK):Prop :=
 opt (aA .lss t10 t2) fun v1=>ifB v1 (
 opt (aK 1 t0 t10) fun v2=>opt (aC v2 H) fun v3=>opt (aA .sub t10 (.int .i64 1)) fun v4=>opt (aK 1 t0 v4) fun v5=>opt (aC v5 H) fun v6=>E.call (E.fid i.f11) [v3,v6] H fun v7 H1=>opt (un .not v7) fun v8=>ifB v8 (
 opt (aA .add t8 (.int .i64 1)) fun v9=>X0 [t0,t1,t2,t7,v9] H1) (
 opt (aA .sub t10 (.int .i64 1)) fun v10=>opt (aA .sub t10 (.int .i64 1)) fun v11=>opt (aK 1 t0 v11) fun v12=>opt (aC v12 H1) fun v13=>opt (aK 1 t0 t10) fun v14=>opt (aC v14 H1) fun v15=>opt (aK 1 t0 t10) fun v16=>opt (aQ v16 v13 H1) fun H2=>opt (aK 1 t0 v10) fun v17=>opt (aQ v17 v15 H2) fun H3=>opt (aA .add t10 (.int .i64 1)) fun v18=>X1 [t0,t1,t2,t7,t8,v18] H3)) (
 opt (aA .add t8 (.int .i64 1)) fun v19=>X0 [t0,t1,t2,t7,v19] H)
def F.f166_j1 (E:Sy) (Q:VK) (X0:LK) (t0 t1 t2 t7 t8:Value) (H:AH):Prop :=
 opt (aA .sub t2 t7) fun v1=>opt (aA .geq v1 (.int .i64 2)) fun v2=>ifB v2 (
 opt (aA .add t7 (.int .i64 1)) fun v3=>aM (fun l H X1=>F.f166_l3 E Q X0 (nth l 0) (nth l 1) (nth l 2) (nth l 3) (nth l 4) (nth l 5) H X1) [t0,t1,t2,t7,t8,v3] H) (
 opt (aA .add t8 (.int .i64 1)) fun v4=>X0 [t0,t1,t2,t7,v4] H)
def F.f166_l4 (E:Sy) (Q:VK) (X0:LK) (t0 t1 t2 t7 t8 t9:Value) (H:AH) (X1:LK):Prop :=
 opt (aA .geq t9 (.int .i64 1)) fun v1=>ifB v1 (
 opt (aK 1 t0 t9) fun v2=>opt (aC v2 H) fun v3=>opt (aA .sub t9 (.int .i64 1)) fun v4=>opt (aK 1 t0 v4) fun v5=>opt (aC v5 H) fun v6=>E.call (E.fid i.f11) [v3,v6] H fun v7 H1=>opt (un .not v7) fun v8=>ifB v8 (
 F.f166_j1 E Q X0 t0 t1 t2 t7 t8 H1) (
 opt (aA .sub t9 (.int .i64 1)) fun v9=>opt (aA .sub t9 (.int .i64 1)) fun v10=>opt (aK 1 t0 v10) fun v11=>opt (aC v11 H1) fun v12=>opt (aK 1 t0 t9) fun v13=>opt (aC v13 H1) fun v14=>opt (aK 1 t0 t9) fun v15=>opt (aQ v15 v12 H1) fun H2=>opt (aK 1 t0 v9) fun v16=>opt (aQ v16 v14 H2) fun H3=>opt (aA .sub t9 (.int .i64 1)) fun v17=>X1 [t0,t1,t2,t7,t8,v17] H3)) (
 F.f166_j1 E Q X0 t0 t1 t2 t7 t8 H)
def F.f166_l2 (E:Sy) (Q:VK) (X0:LK) (t0 t1 t2 t7 t8:Value) (H:AH) (X1:LK):Prop :=
 opt (aA .lss t7 t2) fun v1=>gd v1 true (fun k=>k t0 H) H fun v2 H1=>gd v1 true (fun k=>k t7 H1) H1 fun v3 H2=>gd v1 true (fun k=>opt (aK 1 v2 v3) fun v=>k v H2) H2 fun v4 H3=>gd v1 true (fun k=>opt (aC v4 H3) fun v=>k v H3) H3 fun v5 H4=>gd v1 true (fun k=>k t0 H4) H4 fun v6 H5=>gd v1 true (fun k=>k t7 H5) H5 fun v7 H6=>gd v1 true (fun k=>opt (aA .sub v7 (.int .i64 1)) fun v=>k v H6) H6 fun v8 H7=>gd v1 true (fun k=>opt (aK 1 v6 v8) fun v=>k v H7) H7 fun v9 H8=>gd v1 true (fun k=>opt (aC v9 H8) fun v=>k v H8) H8 fun v10 H9=>gd v1 true (fun k=>E.call (E.fid i.f11) [v5,v10] H9 fun v h=>k v h) H9 fun v11 H10=>gd v1 true (fun k=>opt (un .not v11) fun v=>k v H10) H10 fun v12 H11=>opt (pick v1 v12 (.bool false)) fun v13=>ifB v13 (
 opt (aA .add t7 (.int .i64 1)) fun v14=>X1 [t0,t1,t2,v14,t8] H11) (
 opt (aA .eql t7 t2) fun v15=>ifB v15 (
 Q (.bool true) H11) (
 opt (aA .sub t2 t1) fun v16=>opt (aA .lss v16 (.int .i64 50)) fun v17=>ifB v17 (
 Q (.bool false) H11) (
 opt (aA .sub t7 (.int .i64 1)) fun v18=>opt (aA .sub t7 (.int .i64 1)) fun v19=>opt (aK 1 t0 v19) fun v20=>opt (aC v20 H11) fun v21=>opt (aK 1 t0 t7) fun v22=>opt (aC v22 H11) fun v23=>opt (aK 1 t0 t7) fun v24=>opt (aQ v24 v21 H11) fun H12=>opt (aK 1 t0 v18) fun v25=>opt (aQ v25 v23 H12) fun H13=>opt (aA .sub t7 t1) fun v26=>opt (aA .geq v26 (.int .i64 2)) fun v27=>ifB v27 (
 opt (aA .sub t7 (.int .i64 1)) fun v28=>aM (fun l H X1=>F.f166_l4 E Q X0 (nth l 0) (nth l 1) (nth l 2) (nth l 3) (nth l 4) (nth l 5) H X1) [t0,t1,t2,t7,t8,v28] H13) (
 F.f166_j1 E Q X0 t0 t1 t2 t7 t8 H13))))
def F.f166_l1 (E:Sy) (Q:VK) (t0 t1 t2 t7 t8:Value) (H:AH) (X0:LK):Prop :=
 opt (aA .lss t8 (.int .i64 5)) fun v1=>ifB v1 (
 aM (fun l H X1=>F.f166_l2 E Q X0 (nth l 0) (nth l 1) (nth l 2) (nth l 3) (nth l 4) H X1) [t0,t1,t2,t7,t8] H) (
 Q (.bool false) H)
def F.f166 (E:Sy) (x0 x1 x2:Value) (H:AH) (Q:VK):Prop :=
 opt (aA .add x1 (.int .i64 1)) fun v1=>aM (fun l H X0=>F.f166_l1 E Q (nth l 0) (nth l 1) (nth l 2) (nth l 3) (nth l 4) H X0) [x0,x1,x2,v1,(.int .i64 0)] H

def F.f11 (E:Sy) (x0 x1:Value) (H:AH) (Q:VK):Prop :=
 E.call (E.fid i.f12) [x0] H fun v1 H1=>gd v1 true (fun k=>k x1 H1) H1 fun v2 H2=>gd v1 true (fun k=>E.call (E.fid i.f12) [v2] H2 fun v h=>k v h) H2 fun v3 H3=>gd v1 true (fun k=>opt (un .not v3) fun v=>k v H3) H3 fun v4 H4=>opt (pick v1 v4 (.bool false)) fun v5=>gd v5 false (fun k=>k x0 H4) H4 fun v6 H5=>gd v5 false (fun k=>k x1 H5) H5 fun v7 H6=>gd v5 false (fun k=>opt (aA .lss v6 v7) fun v=>k v H6) H6 fun v8 H7=>opt (pick v5 (.bool true) v8) fun v9=>Q v9 H7

def F.f169_l3 (E:Sy) (Q:VK) (X0:LK) (t0 t1 t9 t10:Value) (H:AH) (X1:LK):Prop :=
 opt (aA .leq t9 t10) fun v1=>gd v1 true (fun k=>k t0 H) H fun v2 H1=>gd v1 true (fun k=>k t1 H1) H1 fun v3 H2=>gd v1 true (fun k=>opt (aK 1 v2 v3) fun v=>k v H2) H2 fun v4 H3=>gd v1 true (fun k=>opt (aC v4 H3) fun v=>k v H3) H3 fun v5 H4=>gd v1 true (fun k=>k t0 H4) H4 fun v6 H5=>gd v1 true (fun k=>k t10 H5) H5 fun v7 H6=>gd v1 true (fun k=>opt (aK 1 v6 v7) fun v=>k v H6) H6 fun v8 H7=>gd v1 true (fun k=>opt (aC v8 H7) fun v=>k v H7) H7 fun v9 H8=>gd v1 true (fun k=>E.call (E.fid i.f11) [v5,v9] H8 fun v h=>k v h) H8 fun v10 H9=>opt (pick v1 v10 (.bool false)) fun v11=>ifB v11 (
 opt (aA .sub t10 (.int .i64 1)) fun v12=>X1 [t0,t1,t9,v12] H9) (
 opt (aA .gtr t9 t10) fun v13=>ifB v13 (
 Q t9 H9) (
 opt (aK 1 t0 t10) fun v14=>opt (aC v14 H9) fun v15=>opt (aK 1 t0 t9) fun v16=>opt (aC v16 H9) fun v17=>opt (aK 1 t0 t9) fun v18=>opt (aQ v18 v15 H9) fun H10=>opt (aK 1 t0 t10) fun v19=>opt (aQ v19 v17 H10) fun H11=>opt (aA .add t9 (.int .i64 1)) fun v20=>opt (aA .sub t10 (.int .i64 1)) fun v21=>X0 [t0,t1,v20,v21] H11))
def F.f169_l2 (E:Sy) (Q:VK) (X0:LK) (t0 t1 t9 t10:Value) (H:AH) (X1:LK):Prop :=
 opt (aA .leq t9 t10) fun v1=>gd v1 true (fun k=>k t0 H) H fun v2 H1=>gd v1 true (fun k=>k t1 H1) H1 fun v3 H2=>gd v1 true (fun k=>opt (aK 1 v2 v3) fun v=>k v H2) H2 fun v4 H3=>gd v1 true (fun k=>opt (aC v4 H3) fun v=>k v H3) H3 fun v5 H4=>gd v1 true (fun k=>k t0 H4) H4 fun v6 H5=>gd v1 true (fun k=>k t9 H5) H5 fun v7 H6=>gd v1 true (fun k=>opt (aK 1 v6 v7) fun v=>k v H6) H6 fun v8 H7=>gd v1 true (fun k=>opt (aC v8 H7) fun v=>k v H7) H7 fun v9 H8=>gd v1 true (fun k=>E.call (E.fid i.f11) [v5,v9] H8 fun v h=>k v h) H8 fun v10 H9=>gd v1 true (fun k=>opt (un .not v10) fun v=>k v H9) H9 fun v11 H10=>opt (pick v1 v11 (.bool false)) fun v12=>ifB v12 (
 opt (aA .add t9 (.int .i64 1)) fun v13=>X1 [t0,t1,v13,t10] H10) (
 aM (fun l H X1=>F.f169_l3 E Q X0 (nth l 0) (nth l 1) (nth l 2) (nth l 3) H X1) [t0,t1,t9,t10] H10)
def F.f169_l1 (E:Sy) (Q:VK) (t0 t1 t9 t10:Value) (H:AH) (X0:LK):Prop :=
 aM (fun l H X1=>F.f169_l2 E Q X0 (nth l 0) (nth l 1) (nth l 2) (nth l 3) H X1) [t0,t1,t9,t10] H
def F.f169 (E:Sy) (x0 x1 x2 x3:Value) (H:AH) (Q:VK):Prop :=
 opt (aK 1 x0 x3) fun v1=>opt (aC v1 H) fun v2=>opt (aK 1 x0 x1) fun v3=>opt (aC v3 H) fun v4=>opt (aK 1 x0 x1) fun v5=>opt (aQ v5 v2 H) fun H1=>opt (aK 1 x0 x3) fun v6=>opt (aQ v6 v4 H1) fun H2=>opt (aA .add x1 (.int .i64 1)) fun v7=>opt (aA .sub x2 (.int .i64 1)) fun v8=>aM (fun l H X0=>F.f169_l1 E Q (nth l 0) (nth l 1) (nth l 2) (nth l 3) H X0) [x0,x1,v7,v8] H2

def F.f170_l5 (E:Sy) (Q:VK) (X0:LK) (t0 t1 t10 t11:Value) (H:AH) (X1:LK):Prop :=
 opt (aA .leq t10 t11) fun v1=>gd v1 true (fun k=>k t0 H) H fun v2 H1=>gd v1 true (fun k=>k t11 H1) H1 fun v3 H2=>gd v1 true (fun k=>opt (aK 1 v2 v3) fun v=>k v H2) H2 fun v4 H3=>gd v1 true (fun k=>opt (aC v4 H3) fun v=>k v H3) H3 fun v5 H4=>gd v1 true (fun k=>k t0 H4) H4 fun v6 H5=>gd v1 true (fun k=>k t1 H5) H5 fun v7 H6=>gd v1 true (fun k=>opt (aK 1 v6 v7) fun v=>k v H6) H6 fun v8 H7=>gd v1 true (fun k=>opt (aC v8 H7) fun v=>k v H7) H7 fun v9 H8=>gd v1 true (fun k=>E.call (E.fid i.f11) [v5,v9] H8 fun v h=>k v h) H8 fun v10 H9=>gd v1 true (fun k=>opt (un .not v10) fun v=>k v H9) H9 fun v11 H10=>opt (pick v1 v11 (.bool false)) fun v12=>ifB v12 (
 opt (aA .sub t11 (.int .i64 1)) fun v13=>X1 [t0,t1,t10,v13] H10) (
 opt (aA .gtr t10 t11) fun v14=>ifB v14 (
 opt (aK 1 t0 t1) fun v15=>opt (aC v15 H10) fun v16=>opt (aK 1 t0 t11) fun v17=>opt (aC v17 H10) fun v18=>opt (aK 1 t0 t11) fun v19=>opt (aQ v19 v16 H10) fun H11=>opt (aK 1 t0 t1) fun v20=>opt (aQ v20 v18 H11) fun H12=>Q (.tuple #[t11,(.bool false)]) H12) (
 opt (aK 1 t0 t11) fun v21=>opt (aC v21 H10) fun v22=>opt (aK 1 t0 t10) fun v23=>opt (aC v23 H10) fun v24=>opt (aK 1 t0 t10) fun v25=>opt (aQ v25 v22 H10) fun H13=>opt (aK 1 t0 t11) fun v26=>opt (aQ v26 v24 H13) fun H14=>opt (aA .add t10 (.int .i64 1)) fun v27=>opt (aA .sub t11 (.int .i64 1)) fun v28=>X0 [t0,t1,v27,v28] H14))
def F.f170_l4 (E:Sy) (Q:VK) (X0:LK) (t0 t1 t10 t11:Value) (H:AH) (X1:LK):Prop :=
 opt (aA .leq t10 t11) fun v1=>gd v1 true (fun k=>k t0 H) H fun v2 H1=>gd v1 true (fun k=>k t10 H1) H1 fun v3 H2=>gd v1 true (fun k=>opt (aK 1 v2 v3) fun v=>k v H2) H2 fun v4 H3=>gd v1 true (fun k=>opt (aC v4 H3) fun v=>k v H3) H3 fun v5 H4=>gd v1 true (fun k=>k t0 H4) H4 fun v6 H5=>gd v1 true (fun k=>k t1 H5) H5 fun v7 H6=>gd v1 true (fun k=>opt (aK 1 v6 v7) fun v=>k v H6) H6 fun v8 H7=>gd v1 true (fun k=>opt (aC v8 H7) fun v=>k v H7) H7 fun v9 H8=>gd v1 true (fun k=>E.call (E.fid i.f11) [v5,v9] H8 fun v h=>k v h) H8 fun v10 H9=>opt (pick v1 v10 (.bool false)) fun v11=>ifB v11 (
 opt (aA .add t10 (.int .i64 1)) fun v12=>X1 [t0,t1,v12,t11] H9) (
 aM (fun l H X1=>F.f170_l5 E Q X0 (nth l 0) (nth l 1) (nth l 2) (nth l 3) H X1) [t0,t1,t10,t11] H9)
def F.f170_l3 (E:Sy) (Q:VK) (t0 t1 t10 t11:Value) (H:AH) (X0:LK):Prop :=
 aM (fun l H X1=>F.f170_l4 E Q X0 (nth l 0) (nth l 1) (nth l 2) (nth l 3) H X1) [t0,t1,t10,t11] H
def F.f170_l2 (E:Sy) (Q:VK) (t0 t1 t10 t11:Value) (H:AH) (X0:LK):Prop :=
 opt (aA .leq t10 t11) fun v1=>gd v1 true (fun k=>k t0 H) H fun v2 H1=>gd v1 true (fun k=>k t11 H1) H1 fun v3 H2=>gd v1 true (fun k=>opt (aK 1 v2 v3) fun v=>k v H2) H2 fun v4 H3=>gd v1 true (fun k=>opt (aC v4 H3) fun v=>k v H3) H3 fun v5 H4=>gd v1 true (fun k=>k t0 H4) H4 fun v6 H5=>gd v1 true (fun k=>k t1 H5) H5 fun v7 H6=>gd v1 true (fun k=>opt (aK 1 v6 v7) fun v=>k v H6) H6 fun v8 H7=>gd v1 true (fun k=>opt (aC v8 H7) fun v=>k v H7) H7 fun v9 H8=>gd v1 true (fun k=>E.call (E.fid i.f11) [v5,v9] H8 fun v h=>k v h) H8 fun v10 H9=>gd v1 true (fun k=>opt (un .not v10) fun v=>k v H9) H9 fun v11 H10=>opt (pick v1 v11 (.bool false)) fun v12=>ifB v12 (
 opt (aA .sub t11 (.int .i64 1)) fun v13=>X0 [t0,t1,t10,v13] H10) (
 opt (aA .gtr t10 t11) fun v14=>ifB v14 (
 opt (aK 1 t0 t1) fun v15=>opt (aC v15 H10) fun v16=>opt (aK 1 t0 t11) fun v17=>opt (aC v17 H10) fun v18=>opt (aK 1 t0 t11) fun v19=>opt (aQ v19 v16 H10) fun H11=>opt (aK 1 t0 t1) fun v20=>opt (aQ v20 v18 H11) fun H12=>Q (.tuple #[t11,(.bool true)]) H12) (
 opt (aK 1 t0 t11) fun v21=>opt (aC v21 H10) fun v22=>opt (aK 1 t0 t10) fun v23=>opt (aC v23 H10) fun v24=>opt (aK 1 t0 t10) fun v25=>opt (aQ v25 v22 H10) fun H13=>opt (aK 1 t0 t11) fun v26=>opt (aQ v26 v24 H13) fun H14=>opt (aA .add t10 (.int .i64 1)) fun v27=>opt (aA .sub t11 (.int .i64 1)) fun v28=>aM (fun l H X0=>F.f170_l3 E Q (nth l 0) (nth l 1) (nth l 2) (nth l 3) H X0) [t0,t1,v27,v28] H14))
def F.f170_l1 (E:Sy) (Q:VK) (t0 t1 t10 t11:Value) (H:AH) (X0:LK):Prop :=
 opt (aA .leq t10 t11) fun v1=>gd v1 true (fun k=>k t0 H) H fun v2 H1=>gd v1 true (fun k=>k t10 H1) H1 fun v3 H2=>gd v1 true (fun k=>opt (aK 1 v2 v3) fun v=>k v H2) H2 fun v4 H3=>gd v1 true (fun k=>opt (aC v4 H3) fun v=>k v H3) H3 fun v5 H4=>gd v1 true (fun k=>k t0 H4) H4 fun v6 H5=>gd v1 true (fun k=>k t1 H5) H5 fun v7 H6=>gd v1 true (fun k=>opt (aK 1 v6 v7) fun v=>k v H6) H6 fun v8 H7=>gd v1 true (fun k=>opt (aC v8 H7) fun v=>k v H7) H7 fun v9 H8=>gd v1 true (fun k=>E.call (E.fid i.f11) [v5,v9] H8 fun v h=>k v h) H8 fun v10 H9=>opt (pick v1 v10 (.bool false)) fun v11=>ifB v11 (
 opt (aA .add t10 (.int .i64 1)) fun v12=>X0 [t0,t1,v12,t11] H9) (
 aM (fun l H X0=>F.f170_l2 E Q (nth l 0) (nth l 1) (nth l 2) (nth l 3) H X0) [t0,t1,t10,t11] H9)
def F.f170 (E:Sy) (x0 x1 x2 x3:Value) (H:AH) (Q:VK):Prop :=
 opt (aK 1 x0 x3) fun v1=>opt (aC v1 H) fun v2=>opt (aK 1 x0 x1) fun v3=>opt (aC v3 H) fun v4=>opt (aK 1 x0 x1) fun v5=>opt (aQ v5 v2 H) fun H1=>opt (aK 1 x0 x3) fun v6=>opt (aQ v6 v4 H1) fun H2=>opt (aA .add x1 (.int .i64 1)) fun v7=>opt (aA .sub x2 (.int .i64 1)) fun v8=>aM (fun l H X0=>F.f170_l1 E Q (nth l 0) (nth l 1) (nth l 2) (nth l 3) H X0) [x0,x1,v7,v8] H2

def F.f175_j1 (E:Sy) (Q:VK) (X0:LK) (t0 t2 t3 t8 t9:Value) (H:AH):Prop :=
 opt (aA .add t3 t8) fun v1=>opt (aK 1 t0 v1) fun v2=>opt (aC v2 H) fun v3=>opt (aA .add t3 t9) fun v4=>opt (aK 1 t0 v4) fun v5=>opt (aC v5 H) fun v6=>E.call (E.fid i.f11) [v3,v6] H fun v7 H1=>opt (un .not v7) fun v8=>ifB v8 (
 Q (.tuple #[]) H1) (
 opt (aA .add t3 t8) fun v9=>opt (aA .add t3 t9) fun v10=>opt (aA .add t3 t9) fun v11=>opt (aK 1 t0 v11) fun v12=>opt (aC v12 H1) fun v13=>opt (aA .add t3 t8) fun v14=>opt (aK 1 t0 v14) fun v15=>opt (aC v15 H1) fun v16=>opt (aK 1 t0 v9) fun v17=>opt (aQ v17 v13 H1) fun H2=>opt (aK 1 t0 v10) fun v18=>opt (aQ v18 v16 H2) fun H3=>X0 [t0,t2,t3,t9] H3)
def F.f175_l1 (E:Sy) (Q:VK) (t0 t2 t3 t8:Value) (H:AH) (X0:LK):Prop :=
 opt (aA .mul (.int .i64 2) t8) fun v1=>opt (aA .add v1 (.int .i64 1)) fun v2=>opt (aA .geq v2 t2) fun v3=>ifB v3 (
 Q (.tuple #[]) H) (
 opt (aA .add v2 (.int .i64 1)) fun v4=>opt (aA .lss v4 t2) fun v5=>gd v5 true (fun k=>k t0 H) H fun v6 H1=>gd v5 true (fun k=>k t3 H1) H1 fun v7 H2=>gd v5 true (fun k=>k v2 H2) H2 fun v8 H3=>gd v5 true (fun k=>opt (aA .add v7 v8) fun v=>k v H3) H3 fun v9 H4=>gd v5 true (fun k=>opt (aK 1 v6 v9) fun v=>k v H4) H4 fun v10 H5=>gd v5 true (fun k=>opt (aC v10 H5) fun v=>k v H5) H5 fun v11 H6=>gd v5 true (fun k=>k t0 H6) H6 fun v12 H7=>gd v5 true (fun k=>k t3 H7) H7 fun v13 H8=>gd v5 true (fun k=>k v2 H8) H8 fun v14 H9=>gd v5 true (fun k=>opt (aA .add v13 v14) fun v=>k v H9) H9 fun v15 H10=>gd v5 true (fun k=>opt (aA .add v15 (.int .i64 1)) fun v=>k v H10) H10 fun v16 H11=>gd v5 true (fun k=>opt (aK 1 v12 v16) fun v=>k v H11) H11 fun v17 H12=>gd v5 true (fun k=>opt (aC v17 H12) fun v=>k v H12) H12 fun v18 H13=>gd v5 true (fun k=>E.call (E.fid i.f11) [v11,v18] H13 fun v h=>k v h) H13 fun v19 H14=>opt (pick v5 v19 (.bool false)) fun v20=>ifB v20 (
 opt (aA .add v2 (.int .i64 1)) fun v21=>F.f175_j1 E Q X0 t0 t2 t3 t8 v21 H14) (
 F.f175_j1 E Q X0 t0 t2 t3 t8 v2 H14))
def F.f175 (E:Sy) (x0 x1 x2 x3:Value) (H:AH) (Q:VK):Prop :=
 aM (fun l H X0=>F.f175_l1 E Q (nth l 0) (nth l 1) (nth l 2) (nth l 3) H X0) [x0,x2,x3,x1] H

def F.f161 (E:Sy) (x0 x1 x2:Value) (H:AH) (Q:VK):Prop :=
 opt (aA .sub x1 (.int .i64 1)) fun v1=>opt (aA .add x1 (.int .i64 1)) fun v2=>E.call (E.fid i.f162) [x0,v1,x1,v2,x2] H fun v3 H1=>Q v3 H1

def F.f162 (E:Sy) (x0 x1 x2 x3 x4:Value) (H:AH) (Q:VK):Prop :=
 E.call (E.fid i.f164) [x0,x1,x2,x4] H fun v1 H1=>opt (ext v1 0) fun v2=>opt (ext v1 1) fun v3=>E.call (E.fid i.f164) [x0,v3,x3,x4] H1 fun v4 H2=>opt (ext v4 0) fun v5=>opt (ext v4 1) fun v6=>E.call (E.fid i.f164) [x0,v2,v5,x4] H2 fun v7 H3=>opt (ext v7 0) fun v8=>opt (ext v7 1) fun v9=>Q v9 H3

def F.f12 (E:Sy) (x0:Value) (H:AH) (Q:VK):Prop :=
 opt (aA .neq x0 x0) fun v1=>Q v1 H

def F.f164 (E:Sy) (x0 x1 x2 x3:Value) (H:AH) (Q:VK):Prop :=
 opt (aK 1 x0 x2) fun v1=>opt (aC v1 H) fun v2=>opt (aK 1 x0 x1) fun v3=>opt (aC v3 H) fun v4=>E.call (E.fid i.f11) [v2,v4] H fun v5 H1=>ifB v5 (
 opt (aI x3) fun v6=>opt (aC v6 H1) fun v7=>opt (aA .add v7 (.int .i64 1)) fun v8=>opt (aI x3) fun v9=>opt (aQ v9 v8 H1) fun H2=>Q (.tuple #[x2,x1]) H2) (
 Q (.tuple #[x1,x2]) H1)
structure aU (E:Sy):Prop where
  mono:aFA E.call
  f116:∀ x0 x1 x2 H Q,F.f116 E x0 x1 x2 H Q->E.call (E.fid i.f116) [x0,x1,x2] H Q
  f119:∀ x0 H Q,F.f119 E x0 H Q->E.call (E.fid i.f119) [x0] H Q
  f117:∀ x0 x1 x2 H Q,F.f117 E x0 x1 x2 H Q->E.call (E.fid i.f117) [x0,x1,x2] H Q
  f118:∀ x0 x1 H Q,F.f118 E x0 x1 H Q->E.call (E.fid i.f118) [x0,x1] H Q
  f62:∀ x0 x1 x2 H Q,F.f62 E x0 x1 x2 H Q->E.call (E.fid i.f62) [x0,x1,x2] H Q
  f120:∀ x0 x1 x2 x3 x4 x5 H Q,F.f120 E x0 x1 x2 x3 x4 x5 H Q->E.call (E.fid i.f120) [x0,x1,x2,x3,x4,x5] H Q
  f187:∀ x0 H Q,F.f187 E x0 H Q->E.call (E.fid i.f187) [x0] H Q
  f181:∀ x0 H Q,F.f181 E x0 H Q->E.call (E.fid i.f181) [x0] H Q
  f129:∀ H Q,F.f129 E H Q->E.call (E.fid i.f129) [] H Q
  f113:∀ H Q,F.f113 E H Q->E.call (E.fid i.f113) [] H Q
  f15:∀ x0 x1 H Q,F.f15 E x0 x1 H Q->E.call (E.fid i.f15) [x0,x1] H Q
  f123:∀ x0 H Q,F.f123 E x0 H Q->E.call (E.fid i.f123) [x0] H Q
  f27:∀ x0 x1 x2 H Q,F.f27 E x0 x1 x2 H Q->E.call (E.fid i.f27) [x0,x1,x2] H Q
  f109:∀ x0 x1 x2 H Q,F.f109 E x0 x1 x2 H Q->E.call (E.fid i.f109) [x0,x1,x2] H Q
  f61:∀ x0 x1 H Q,F.f61 E x0 x1 H Q->E.call (E.fid i.f61) [x0,x1] H Q
  f25:∀ x0 H Q,F.f25 E x0 H Q->E.call (E.fid i.f25) [x0] H Q
  f108:∀ H Q,F.f108 E H Q->E.call (E.fid i.f108) [] H Q
  f112:∀ H Q,F.f112 E H Q->E.call (E.fid i.f112) [] H Q
  f16:∀ x0 x1 H Q,F.f16 E x0 x1 H Q->E.call (E.fid i.f16) [x0,x1] H Q
  f186:∀ x0 H Q,F.f186 E x0 H Q->E.call (E.fid i.f186) [x0] H Q
  f26:∀ x0 x1 H Q,F.f26 E x0 x1 H Q->E.call (E.fid i.f26) [x0,x1] H Q
  f28:∀ x0 x1 H Q,F.f28 E x0 x1 H Q->E.call (E.fid i.f28) [x0,x1] H Q
  f110:∀ x0 x1 H Q,F.f110 E x0 x1 H Q->E.call (E.fid i.f110) [x0,x1] H Q
  f2:∀ x0 H Q,F.f2 E x0 H Q->E.call (E.fid i.f2) [x0] H Q
  f180:∀ x0 x1 H Q,F.f180 E x0 x1 H Q->E.call (E.fid i.f180) [x0,x1] H Q
  f182:∀ x0 x1 H Q,F.f182 E x0 x1 H Q->E.call (E.fid i.f182) [x0,x1] H Q
  f0:∀ x0 H Q,F.f0 E x0 H Q->E.call (E.fid i.f0) [x0] H Q
  f183:∀ x0 x1 H Q,F.f183 E x0 x1 H Q->E.call (E.fid i.f183) [x0,x1] H Q
  f134:∀ x0 H Q,F.f134 E x0 H Q->E.call (E.fid i.f134) [x0] H Q
  f68:∀ x0 H Q,F.f68 E x0 H Q->E.call (E.fid i.f68) [x0] H Q
  f122:∀ x0 x1 H Q,F.f122 E x0 x1 H Q->E.call (E.fid i.f122) [x0,x1] H Q
  f36:∀ x0 H Q,F.f36 E x0 H Q->E.call (E.fid i.f36) [x0] H Q
  f97:∀ x0 H Q,F.f97 E x0 H Q->E.call (E.fid i.f97) [x0] H Q
  f17:∀ x0 H Q,F.f17 E x0 H Q->E.call (E.fid i.f17) [x0] H Q
  f52:∀ x0 H Q,F.f52 E x0 H Q->E.call (E.fid i.f52) [x0] H Q
  f51:∀ x0 H Q,F.f51 E x0 H Q->E.call (E.fid i.f51) [x0] H Q
  f3:∀ x0 H Q,F.f3 E x0 H Q->E.call (E.fid i.f3) [x0] H Q
  f111:∀ x0 x1 H Q,F.f111 E x0 x1 H Q->E.call (E.fid i.f111) [x0,x1] H Q
  f146:∀ x0 x1 H Q,F.f146 E x0 x1 H Q->E.call (E.fid i.f146) [x0,x1] H Q
  f184:∀ x0 x1 H Q,F.f184 E x0 x1 H Q->E.call (E.fid i.f184) [x0,x1] H Q
  f90:∀ x0 x1 H Q,F.f90 E x0 x1 H Q->E.call (E.fid i.f90) [x0,x1] H Q
  f1:∀ x0 H Q,F.f1 E x0 H Q->E.call (E.fid i.f1) [x0] H Q
  f79:∀ x0 H Q,F.f79 E x0 H Q->E.call (E.fid i.f79) [x0] H Q
  f114:∀ x0 H Q,F.f114 E x0 H Q->E.call (E.fid i.f114) [x0] H Q
  f128:∀ x0 H Q,F.f128 E x0 H Q->E.call (E.fid i.f128) [x0] H Q
  f140:∀ x0 H Q,F.f140 E x0 H Q->E.call (E.fid i.f140) [x0] H Q
  f125:∀ x0 H Q,F.f125 E x0 H Q->E.call (E.fid i.f125) [x0] H Q
  f126:∀ x0 H Q,F.f126 E x0 H Q->E.call (E.fid i.f126) [x0] H Q
  f150:∀ x0 x1 H Q,F.f150 E x0 x1 H Q->E.call (E.fid i.f150) [x0,x1] H Q
  f37:∀ x0 x1 H Q,F.f37 E x0 x1 H Q->E.call (E.fid i.f37) [x0,x1] H Q
  f40:∀ x0 H Q,F.f40 E x0 H Q->E.call (E.fid i.f40) [x0] H Q
  f149:∀ x0 x1 H Q,F.f149 E x0 x1 H Q->E.call (E.fid i.f149) [x0,x1] H Q
  f38:∀ x0 x1 H Q,F.f38 E x0 x1 H Q->E.call (E.fid i.f38) [x0,x1] H Q
  f98:∀ x0 x1 H Q,F.f98 E x0 x1 H Q->E.call (E.fid i.f98) [x0,x1] H Q
  f47:∀ x0 H Q,F.f47 E x0 H Q->E.call (E.fid i.f47) [x0] H Q
  f32:∀ x0 H Q,F.f32 E x0 H Q->E.call (E.fid i.f32) [x0] H Q
  f49:∀ x0 x1 H Q,F.f49 E x0 x1 H Q->E.call (E.fid i.f49) [x0,x1] H Q
  f46:∀ x0 x1 x2 x3 x4 H Q,F.f46 E x0 x1 x2 x3 x4 H Q->E.call (E.fid i.f46) [x0,x1,x2,x3,x4] H Q
  f45:∀ x0 x1 H Q,F.f45 E x0 x1 H Q->E.call (E.fid i.f45) [x0,x1] H Q
  f100:∀ x0 x1 x2 H Q,F.f100 E x0 x1 x2 H Q->E.call (E.fid i.f100) [x0,x1,x2] H Q
  f99:∀ x0 x1 H Q,F.f99 E x0 x1 H Q->E.call (E.fid i.f99) [x0,x1] H Q
  f102:∀ x0 H Q,F.f102 E x0 H Q->E.call (E.fid i.f102) [x0] H Q
  f48:∀ x0 H Q,F.f48 E x0 H Q->E.call (E.fid i.f48) [x0] H Q
  f59:∀ x0 H Q,F.f59 E x0 H Q->E.call (E.fid i.f59) [x0] H Q
  f58:∀ x0 x1 H Q,F.f58 E x0 x1 H Q->E.call (E.fid i.f58) [x0,x1] H Q
  f6:∀ x0 x1 x2 H Q,F.f6 E x0 x1 x2 H Q->E.call (E.fid i.f6) [x0,x1,x2] H Q
  f4:∀ x0 H Q,F.f4 E x0 H Q->E.call (E.fid i.f4) [x0] H Q
  f5:∀ x0 H Q,F.f5 E x0 H Q->E.call (E.fid i.f5) [x0] H Q
  f23:∀ x0 x1 H Q,F.f23 E x0 x1 H Q->E.call (E.fid i.f23) [x0,x1] H Q
  f72:∀ x0 x1 H Q,F.f72 E x0 x1 H Q->E.call (E.fid i.f72) [x0,x1] H Q
  f73:∀ x0 x1 x2 x3 H Q,F.f73 E x0 x1 x2 x3 H Q->E.call (E.fid i.f73) [x0,x1,x2,x3] H Q
  f24:∀ x0 x1 H Q,F.f24 E x0 x1 H Q->E.call (E.fid i.f24) [x0,x1] H Q
  f63:∀ x0 x1 H Q,F.f63 E x0 x1 H Q->E.call (E.fid i.f63) [x0,x1] H Q
  f96:∀ x0 H Q,F.f96 E x0 H Q->E.call (E.fid i.f96) [x0] H Q
  f65:∀ x0 x1 x2 H Q,F.f65 E x0 x1 x2 H Q->E.call (E.fid i.f65) [x0,x1,x2] H Q
  f77:∀ x0 x1 H Q,F.f77 E x0 x1 H Q->E.call (E.fid i.f77) [x0,x1] H Q
  f67:∀ x0 x1 x2 H Q,F.f67 E x0 x1 x2 H Q->E.call (E.fid i.f67) [x0,x1,x2] H Q
  f82:∀ x0 x1 H Q,F.f82 E x0 x1 H Q->E.call (E.fid i.f82) [x0,x1] H Q
  f87:∀ x0 x1 H Q,F.f87 E x0 x1 H Q->E.call (E.fid i.f87) [x0,x1] H Q
  f124:∀ x0 x1 x2 H Q,F.f124 E x0 x1 x2 H Q->E.call (E.fid i.f124) [x0,x1,x2] H Q
  f176:∀ x0 x1 x2 H Q,F.f176 E x0 x1 x2 H Q->E.call (E.fid i.f176) [x0,x1,x2] H Q
  f42:∀ x0 H Q,F.f42 E x0 H Q->E.call (E.fid i.f42) [x0] H Q
  f9:∀ x0 x1 H Q,F.f9 E x0 x1 H Q->E.call (E.fid i.f9) [x0,x1] H Q
  f43:∀ x0 H Q,F.f43 E x0 H Q->E.call (E.fid i.f43) [x0] H Q
  f41:∀ x0 H Q,F.f41 E x0 H Q->E.call (E.fid i.f41) [x0] H Q
  f105:∀ x0 H Q,F.f105 E x0 H Q->E.call (E.fid i.f105) [x0] H Q
  f171:∀ x0 x1 x2 x3 x4 H Q,F.f171 E x0 x1 x2 x3 x4 H Q->E.call (E.fid i.f171) [x0,x1,x2,x3,x4] H Q
  f10:∀ x0 x1 H Q,F.f10 E x0 x1 H Q->E.call (E.fid i.f10) [x0,x1] H Q
  f50:∀ x0 x1 H Q,F.f50 E x0 x1 H Q->E.call (E.fid i.f50) [x0,x1] H Q
  f30:∀ x0 x1 x2 x3 H Q,F.f30 E x0 x1 x2 x3 H Q->E.call (E.fid i.f30) [x0,x1,x2,x3] H Q
  f44:∀ x0 x1 H Q,F.f44 E x0 x1 H Q->E.call (E.fid i.f44) [x0,x1] H Q
  f101:∀ x0 x1 x2 x3 H Q,F.f101 E x0 x1 x2 x3 H Q->E.call (E.fid i.f101) [x0,x1,x2,x3] H Q
  f34:∀ x0 H Q,F.f34 E x0 H Q->E.call (E.fid i.f34) [x0] H Q
  f60:∀ x0 H Q,F.f60 E x0 H Q->E.call (E.fid i.f60) [x0] H Q
  f53:∀ x0 x1 H Q,F.f53 E x0 x1 H Q->E.call (E.fid i.f53) [x0,x1] H Q
  f54:∀ x0 x1 H Q,F.f54 E x0 x1 H Q->E.call (E.fid i.f54) [x0,x1] H Q
  f29:∀ x0 H Q,F.f29 E x0 H Q->E.call (E.fid i.f29) [x0] H Q
  f55:∀ x0 x1 H Q,F.f55 E x0 x1 H Q->E.call (E.fid i.f55) [x0,x1] H Q
  f57:∀ x0 x1 H Q,F.f57 E x0 x1 H Q->E.call (E.fid i.f57) [x0,x1] H Q
  f56:∀ x0 x1 H Q,F.f56 E x0 x1 H Q->E.call (E.fid i.f56) [x0,x1] H Q
  f31:∀ x0 H Q,F.f31 E x0 H Q->E.call (E.fid i.f31) [x0] H Q
  f7:∀ x0 H Q,F.f7 E x0 H Q->E.call (E.fid i.f7) [x0] H Q
  f8:∀ x0 x1 H Q,F.f8 E x0 x1 H Q->E.call (E.fid i.f8) [x0,x1] H Q
  f132:∀ x0 x1 x2 H Q,F.f132 E x0 x1 x2 H Q->E.call (E.fid i.f132) [x0,x1,x2] H Q
  f74:∀ x0 x1 x2 H Q,F.f74 E x0 x1 x2 H Q->E.call (E.fid i.f74) [x0,x1,x2] H Q
  f139:∀ x0 x1 H Q,F.f139 E x0 x1 H Q->E.call (E.fid i.f139) [x0,x1] H Q
  f22:∀ x0 x1 H Q,F.f22 E x0 x1 H Q->E.call (E.fid i.f22) [x0,x1] H Q
  f19:∀ x0 H Q,F.f19 E x0 H Q->E.call (E.fid i.f19) [x0] H Q
  f20:∀ x0 x1 x2 H Q,F.f20 E x0 x1 x2 H Q->E.call (E.fid i.f20) [x0,x1,x2] H Q
  f130:∀ x0 x1 H Q,F.f130 E x0 x1 H Q->E.call (E.fid i.f130) [x0,x1] H Q
  f133:∀ x0 x1 H Q,F.f133 E x0 x1 H Q->E.call (E.fid i.f133) [x0,x1] H Q
  f131:∀ x0 x1 H Q,F.f131 E x0 x1 H Q->E.call (E.fid i.f131) [x0,x1] H Q
  f64:∀ x0 x1 H Q,F.f64 E x0 x1 H Q->E.call (E.fid i.f64) [x0,x1] H Q
  f141:∀ x0 x1 x2 H Q,F.f141 E x0 x1 x2 H Q->E.call (E.fid i.f141) [x0,x1,x2] H Q
  f21:∀ x0 x1 H Q,F.f21 E x0 x1 H Q->E.call (E.fid i.f21) [x0,x1] H Q
  f142:∀ x0 x1 x2 H Q,F.f142 E x0 x1 x2 H Q->E.call (E.fid i.f142) [x0,x1,x2] H Q
  f159:∀ x0 x1 x2 x3 H Q,F.f159 E x0 x1 x2 x3 H Q->E.call (E.fid i.f159) [x0,x1,x2,x3] H Q
  f148:∀ x0 x1 H Q,F.f148 E x0 x1 H Q->E.call (E.fid i.f148) [x0,x1] H Q
  f13:∀ x0 H Q,F.f13 E x0 H Q->E.call (E.fid i.f13) [x0] H Q
  f39:∀ x0 H Q,F.f39 E x0 H Q->E.call (E.fid i.f39) [x0] H Q
  f145:∀ x0 x1 H Q,F.f145 E x0 x1 H Q->E.call (E.fid i.f145) [x0,x1] H Q
  f107:∀ x0 H Q,F.f107 E x0 H Q->E.call (E.fid i.f107) [x0] H Q
  f158:∀ x0 x1 x2 x3 H Q,F.f158 E x0 x1 x2 x3 H Q->E.call (E.fid i.f158) [x0,x1,x2,x3] H Q
  f14:∀ x0 H Q,F.f14 E x0 H Q->E.call (E.fid i.f14) [x0] H Q
  f136:∀ x0 x1 H Q,F.f136 E x0 x1 H Q->E.call (E.fid i.f136) [x0,x1] H Q
  f104:∀ x0 x1 x2 H Q,F.f104 E x0 x1 x2 H Q->E.call (E.fid i.f104) [x0,x1,x2] H Q
  f103:∀ x0 x1 x2 x3 x4 H Q,F.f103 E x0 x1 x2 x3 x4 H Q->E.call (E.fid i.f103) [x0,x1,x2,x3,x4] H Q
  f33:∀ x0 H Q,F.f33 E x0 H Q->E.call (E.fid i.f33) [x0] H Q
  f35:∀ x0 H Q,F.f35 E x0 H Q->E.call (E.fid i.f35) [x0] H Q
  f144:∀ x0 x1 x2 H Q,F.f144 E x0 x1 x2 H Q->E.call (E.fid i.f144) [x0,x1,x2] H Q
  f18:∀ x0 H Q,F.f18 E x0 H Q->E.call (E.fid i.f18) [x0] H Q
  f143:∀ x0 H Q,F.f143 E x0 H Q->E.call (E.fid i.f143) [x0] H Q
  f147:∀ x0 x1 H Q,F.f147 E x0 x1 H Q->E.call (E.fid i.f147) [x0,x1] H Q
  f163:∀ x0 H Q,F.f163 E x0 H Q->E.call (E.fid i.f163) [x0] H Q
  f178:∀ x0 H Q,F.f178 E x0 H Q->E.call (E.fid i.f178) [x0] H Q
  f151:∀ x0 H Q,F.f151 E x0 H Q->E.call (E.fid i.f151) [x0] H Q
  f172:∀ x0 x1 x2 x3 H Q,F.f172 E x0 x1 x2 x3 H Q->E.call (E.fid i.f172) [x0,x1,x2,x3] H Q
  f160:∀ x0 x1 x2 H Q,F.f160 E x0 x1 x2 H Q->E.call (E.fid i.f160) [x0,x1,x2] H Q
  f157:∀ x0 x1 x2 H Q,F.f157 E x0 x1 x2 H Q->E.call (E.fid i.f157) [x0,x1,x2] H Q
  f153:∀ x0 x1 x2 H Q,F.f153 E x0 x1 x2 H Q->E.call (E.fid i.f153) [x0,x1,x2] H Q
  f155:∀ x0 x1 x2 H Q,F.f155 E x0 x1 x2 H Q->E.call (E.fid i.f155) [x0,x1,x2] H Q
  f174:∀ x0 x1 x2 H Q,F.f174 E x0 x1 x2 H Q->E.call (E.fid i.f174) [x0,x1,x2] H Q
  f166:∀ x0 x1 x2 H Q,F.f166 E x0 x1 x2 H Q->E.call (E.fid i.f166) [x0,x1,x2] H Q
  f11:∀ x0 x1 H Q,F.f11 E x0 x1 H Q->E.call (E.fid i.f11) [x0,x1] H Q
  f169:∀ x0 x1 x2 x3 H Q,F.f169 E x0 x1 x2 x3 H Q->E.call (E.fid i.f169) [x0,x1,x2,x3] H Q
  f170:∀ x0 x1 x2 x3 H Q,F.f170 E x0 x1 x2 x3 H Q->E.call (E.fid i.f170) [x0,x1,x2,x3] H Q
  f175:∀ x0 x1 x2 x3 H Q,F.f175 E x0 x1 x2 x3 H Q->E.call (E.fid i.f175) [x0,x1,x2,x3] H Q
  f161:∀ x0 x1 x2 H Q,F.f161 E x0 x1 x2 H Q->E.call (E.fid i.f161) [x0,x1,x2] H Q
  f162:∀ x0 x1 x2 x3 x4 H Q,F.f162 E x0 x1 x2 x3 x4 H Q->E.call (E.fid i.f162) [x0,x1,x2,x3,x4] H Q
  f12:∀ x0 H Q,F.f12 E x0 H Q->E.call (E.fid i.f12) [x0] H Q
  f164:∀ x0 x1 x2 x3 H Q,F.f164 E x0 x1 x2 x3 H Q->E.call (E.fid i.f164) [x0,x1,x2,x3] H Q
  f115:∀ H Q,Q (.bool true) H->E.call (E.fid i.f115) [] H Q
  f179:∀ x0 x1 H Q,iY x0 x1 H Q->E.call (E.fid i.f179) [x0,x1] H Q
end Go.AM
