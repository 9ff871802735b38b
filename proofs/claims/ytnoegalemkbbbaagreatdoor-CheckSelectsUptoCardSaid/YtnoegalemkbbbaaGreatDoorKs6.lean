/- Lemmas for the card. -/
import Derived.Test.YtnoegalemkbbbaaGreatDoorKs5
import Derived.Shelf.Strings.SlTrimAscii
import Derived.Test.YtnoegalemkbbbaaGreatDoorCards
import Derived.Test.YtnoegalemkbbbaaGreatDoorTie
import Derived.Deep.DeepWitnessRowRef
import Derived.Lib.LaidU8T
import Derived.Lib.LaidIn
import Derived.Lib.TrailingZeros
import Derived.Stop.LaidErr
import Derived.Lib.QuoteLoop
import Derived.Lib.RuneCount
import Derived.Lib.Join
set_option linter.unusedVariables false
set_option linter.unusedSimpArgs false
set_option maxRecDepth 100000
set_option maxRecDepth 100000
namespace Go.Proofs.YtnoegalemkbbbaaGreatDoor
open Go.Proofs.Tryz
open Go.Eng
abbrev aT(n:Nat):Nat×TD:=(n,⟨.any,1,false⟩)
def tt:TT:=[aT 0,aT 1,(2,⟨.int .i64,1,false⟩),(3,⟨.int .i64,1,false⟩),(4,⟨.bool,1,false⟩),(5,⟨.int .u8,1,false⟩),(6,⟨.int .u8,1,false⟩),(7,⟨.st [(0,1,false),(1,1,false),(2,1,false),(3,1,false)] [.int .i64 0,.int .i64 0,.bool false,.int .u8 0],4,true⟩),(8,⟨.st [(0,1,false),(1,1,false),(2,1,false),(3,1,false)] [.int .i64 0,.int .i64 0,.bool false,.int .u8 0],4,true⟩),(9,⟨.str,1,false⟩),(10,⟨.str,1,false⟩),(11,⟨.str,1,false⟩),(12,⟨.int .u64,1,false⟩),(13,⟨.st [(0,1,false),(1,1,false)] [.string ⟨⟨[]⟩⟩,.int .u64 0],2,true⟩),(14,⟨.st [(0,1,false),(1,1,false)] [.string ⟨⟨[]⟩⟩,.int .u64 0],2,true⟩),aT 15,aT 16,aT 17,(18,⟨.st [(0,1,false)] [.pointer none],1,true⟩),(19,⟨.st [(0,1,false)] [.pointer none],1,true⟩),aT 20,(21,⟨.int .i32,1,false⟩),(22,⟨.row 48 11,1,false⟩),(23,⟨.row 48 11,1,false⟩),(24,⟨.row 52 11,1,false⟩),(25,⟨.row 52 11,1,false⟩),aT 26,aT 27,aT 28,aT 29,aT 30,aT 31,(32,⟨.row 46 6,1,false⟩),(33,⟨.row 46 6,1,false⟩),aT 34,aT 35,aT 36,(37,⟨.int .i64,1,false⟩),aT 38,aT 39,aT 40,aT 41,aT 42,aT 43,aT 44,(45,⟨.st [(0,1,false),(1,1,false),(2,1,false),(3,1,false),(4,1,false),(5,1,false)] [.int .i64 0,.int .i64 0,.string ⟨⟨[]⟩⟩,.string ⟨⟨[]⟩⟩,.bool false,.int .i64 0],6,true⟩),(46,⟨.st [(0,1,false),(1,1,false),(2,1,false),(3,1,false),(4,1,false),(5,1,false)] [.int .i64 0,.int .i64 0,.string ⟨⟨[]⟩⟩,.string ⟨⟨[]⟩⟩,.bool false,.int .i64 0],6,true⟩),(47,⟨.st [(0,1,false),(1,1,false),(2,1,false),(3,1,false),(4,1,false),(5,6,true)] [.int .i64 0,.int .i64 0,.string ⟨⟨[]⟩⟩,.string ⟨⟨[]⟩⟩,.int .i64 0,.int .i64 0,.int .i64 0,.string ⟨⟨[]⟩⟩,.string ⟨⟨[]⟩⟩,.bool false,.int .i64 0],11,true⟩),(48,⟨.st [(0,1,false),(1,1,false),(2,1,false),(3,1,false),(4,1,false),(5,6,true)] [.int .i64 0,.int .i64 0,.string ⟨⟨[]⟩⟩,.string ⟨⟨[]⟩⟩,.int .i64 0,.int .i64 0,.int .i64 0,.string ⟨⟨[]⟩⟩,.string ⟨⟨[]⟩⟩,.bool false,.int .i64 0],11,true⟩),aT 49,aT 50,(51,⟨.st [(0,1,false),(1,1,false),(2,1,false),(3,1,false),(4,1,false),(5,6,true)] [.int .i64 0,.int .i64 0,.string ⟨⟨[]⟩⟩,.string ⟨⟨[]⟩⟩,.int .i64 0,.int .i64 0,.int .i64 0,.string ⟨⟨[]⟩⟩,.string ⟨⟨[]⟩⟩,.bool false,.int .i64 0],11,true⟩),(52,⟨.st [(0,1,false),(1,1,false),(2,1,false),(3,1,false),(4,1,false),(5,6,true)] [.int .i64 0,.int .i64 0,.string ⟨⟨[]⟩⟩,.string ⟨⟨[]⟩⟩,.int .i64 0,.int .i64 0,.int .i64 0,.string ⟨⟨[]⟩⟩,.string ⟨⟨[]⟩⟩,.bool false,.int .i64 0],11,true⟩),(53,⟨.row 25 1,1,false⟩),aT 54,(55,⟨.row 23 1,1,false⟩),aT 56,(57,⟨.any,2,true⟩),aT 58,(59,⟨.row 33 1,1,false⟩),(60,⟨.row 105 3,1,false⟩),(61,⟨.row 105 3,1,false⟩),aT 62,aT 63,aT 64,aT 65,aT 66,aT 67,aT 68,aT 69,aT 70,aT 71,(72,⟨.st [(0,1,false),(1,1,false),(2,1,false)] [.slice none 0 0,.int .i64 0,.int .i64 0],3,true⟩),(73,⟨.st [(0,1,false),(1,1,false),(2,1,false)] [.slice none 0 0,.int .i64 0,.int .i64 0],3,true⟩),aT 74,aT 75,aT 76,aT 77,aT 78,(79,⟨.row 113 7,1,false⟩),aT 80,aT 81,aT 82,aT 83,aT 84,aT 85,aT 86,aT 87,aT 88,aT 89,aT 90,aT 91,aT 92,aT 93,aT 94,aT 95,aT 96,aT 97,aT 98,aT 99,aT 100,aT 101,aT 102,(103,⟨.row 9 1,1,false⟩),(104,⟨.st [(0,1,false),(1,1,false),(2,1,false)] [.bool false,.string ⟨⟨[]⟩⟩,.int .i64 0],3,true⟩),(105,⟨.st [(0,1,false),(1,1,false),(2,1,false)] [.bool false,.string ⟨⟨[]⟩⟩,.int .i64 0],3,true⟩),aT 106,aT 107,aT 108,(109,⟨.st [(0,1,false),(1,1,false)] [.int .i64 0,.int .i64 0],2,true⟩),(110,⟨.st [(0,1,false),(1,1,false)] [.int .i64 0,.int .i64 0],2,true⟩),aT 111,(112,⟨.st [(0,1,false),(1,6,true)] [.int .i64 0,.int .i64 0,.int .i64 0,.string ⟨⟨[]⟩⟩,.string ⟨⟨[]⟩⟩,.bool false,.int .i64 0],7,true⟩),(113,⟨.st [(0,1,false),(1,6,true)] [.int .i64 0,.int .i64 0,.int .i64 0,.string ⟨⟨[]⟩⟩,.string ⟨⟨[]⟩⟩,.bool false,.int .i64 0],7,true⟩),aT 114,aT 115,aT 116,aT 117,aT 118,aT 119,aT 120,aT 121,aT 122,(123,⟨.row 3 1,1,false⟩),aT 124,aT 125,aT 126,aT 127,aT 128,aT 129,aT 130,aT 131,aT 132,aT 133,aT 134,aT 135,aT 136,aT 137,aT 138,aT 139,aT 140,aT 141,aT 142,aT 143,aT 144,aT 145,aT 146,aT 147,aT 148,aT 149,aT 150,aT 151,(152,⟨.row 123 1,1,false⟩),aT 153,aT 154,aT 155,aT 156,aT 157,aT 158,aT 159,aT 160,aT 161,aT 162,aT 163,aT 164,aT 165,aT 166,aT 167,aT 168,aT 169,aT 170,aT 171,aT 172,aT 173,aT 174,aT 175,aT 176,aT 177,(178,⟨.row 61 1,1,false⟩),aT 179,aT 180,aT 181,aT 182,aT 183,aT 184,aT 185,aT 186,aT 187,aT 188,aT 189,(190,⟨.row 4 1,1,false⟩),aT 191,aT 192,aT 193,aT 194,aT 195,aT 196,aT 197,aT 198,aT 199,aT 200,aT 201,aT 202,aT 203,aT 204,aT 205,aT 206,aT 207,aT 208,(209,⟨.int .u64,1,false⟩),aT 210,aT 211,aT 212,aT 213,aT 214,aT 215,(216,⟨.row 5 1,1,false⟩),aT 217,aT 218,aT 219,aT 220,aT 221,aT 222,aT 223,aT 224,aT 225,aT 226,aT 227,aT 228,aT 229,(230,⟨.int .i64,1,false⟩),aT 231,aT 232,aT 233,aT 234,aT 235,aT 236,(237,⟨.int .u32,1,false⟩),aT 238,(239,⟨.int .u64,1,false⟩),aT 240,aT 241,aT 242,(243,⟨.st [(0,1,false),(1,1,false)] [.pointer none,.slice none 0 0],2,true⟩),(244,⟨.st [(0,1,false),(1,1,false)] [.pointer none,.slice none 0 0],2,true⟩),aT 245,aT 246,aT 247,aT 248,aT 249,aT 250,aT 251,aT 252,aT 253,aT 254,aT 255,aT 256,aT 257,aT 258,aT 259,aT 260,aT 261,aT 262,(263,⟨.int .u64,1,false⟩),aT 264,aT 265,aT 266,aT 267,aT 268,aT 269,aT 270,aT 271,aT 272,aT 273,(274,⟨.int .i64,1,false⟩),aT 275,aT 276,aT 277,aT 278,aT 279,aT 280,aT 281,aT 282,(283,⟨.any,256,true⟩),(284,⟨.st [(0,1,false),(1,1,false)] [.int .u8 0,.int .u8 0],2,true⟩),(285,⟨.st [(0,1,false),(1,1,false)] [.int .u8 0,.int .u8 0],2,true⟩),(286,⟨.any,32,true⟩),aT 287,aT 288,aT 289,aT 290,(291,⟨.any,24,true⟩),aT 292,aT 293,aT 294,(295,⟨.st [(0,1,false),(1,1,false),(2,1,false)] [.string ⟨⟨[]⟩⟩,.string ⟨⟨[]⟩⟩,.nilIface],3,true⟩),(296,⟨.st [(0,1,false),(1,1,false),(2,1,false)] [.string ⟨⟨[]⟩⟩,.string ⟨⟨[]⟩⟩,.nilIface],3,true⟩),aT 297,aT 298,aT 299,aT 300,aT 301,aT 302,(303,⟨.any,20,true⟩),(304,⟨.any,65,true⟩),aT 305,aT 306,aT 307,(308,⟨.st [(0,1,false)] [.string ⟨⟨[]⟩⟩],1,true⟩),(309,⟨.st [(0,1,false)] [.string ⟨⟨[]⟩⟩],1,true⟩),aT 310,aT 311,aT 312,aT 313,aT 314,(315,⟨.st [(0,1,false),(1,1,false),(2,1,false),(3,1,false)] [.int .i64 0,.int .i64 0,.bool false,.string ⟨⟨[]⟩⟩],4,true⟩),(316,⟨.st [(0,1,false),(1,1,false),(2,1,false),(3,1,false)] [.int .i64 0,.int .i64 0,.bool false,.string ⟨⟨[]⟩⟩],4,true⟩),(317,⟨.row 316 4,1,false⟩),aT 318,aT 319,aT 320,aT 321,aT 322,aT 323,(324,⟨.any,256,true⟩),(325,⟨.any,256,true⟩),aT 326,aT 327,aT 328,aT 329,aT 330,aT 331,aT 332,aT 333,aT 334,aT 335,aT 336,aT 337,aT 338,aT 339,aT 340,(341,⟨.any,32,true⟩),(342,⟨.any,64,true⟩),aT 343,aT 344,aT 345,aT 346,aT 347,(348,⟨.st [(0,1,false),(1,1,false),(2,1,false),(3,1,false)] [.pointer none,.pointer none,.pointer none,.string ⟨⟨[]⟩⟩],4,true⟩),(349,⟨.st [(0,1,false),(1,1,false),(2,1,false),(3,1,false)] [.pointer none,.pointer none,.pointer none,.string ⟨⟨[]⟩⟩],4,true⟩),(350,⟨.any,0,true⟩),(351,⟨.any,0,true⟩),(352,⟨.any,0,true⟩),(353,⟨.int .u8,1,false⟩),(354,⟨.int .u8,1,false⟩),aT 355,(356,⟨.int .i32,1,false⟩),(357,⟨.int .i32,1,false⟩),(358,⟨.st [(0,1,false),(1,1,false),(2,1,false),(3,1,false),(4,1,false),(5,1,false),(6,1,false),(7,1,false),(8,1,false),(9,1,false),(10,1,false)] [.int .u64 0,.int .u64 0,.int .u32 0,.int .u8 0,.int .u8 0,.int .u8 0,.int .u8 0,.nilFunc,.pointer none,.int .i32 0,.int .i32 0],11,true⟩),(359,⟨.st [(0,1,false),(1,1,false),(2,1,false),(3,1,false),(4,1,false),(5,1,false),(6,1,false),(7,1,false),(8,1,false),(9,1,false),(10,1,false)] [.int .u64 0,.int .u64 0,.int .u32 0,.int .u8 0,.int .u8 0,.int .u8 0,.int .u8 0,.nilFunc,.pointer none,.int .i32 0,.int .i32 0],11,true⟩)]
theorem AF:DP prog tt:=jV Ac
instance:k7 prog:=⟨tt,AF⟩
open Go.Eng Go.RowKit
theorem RH(s:A0)(i:Int)(w:World)(h0:0<=i)(j:i<=9223372036854775807):Calls prog 187 [str s,i64 i].toArray w λ e w'=>e= .returned (.bool (cont s i))/\Ext w w':=AH AF func187 U ntmps187 [] [] [.v (str s),I i] U (BE w) A3 (λ B b=>A2 b U U U λ w M h=>⟨rfl,h.st.low⟩) U
theorem kX(s:A0)(i:Int)(w:World)(h0:0<=i)(h1:i<len s)(A:len s<=9223372036854775800):Calls prog 159 [str s,i64 i].toArray w λ e w'=>e= .returned (i64 (rune s i))/\Ext w w':=by
 have y:=L7 s i
 refine AH AF func159 U ntmps159 [] [] [.v (str s),I i] U (BE w) A3 (λ B j=>?_) U
 refine A1 U (λ h1=>?_) (λ h1=>?_)<;>simp only[zb]at h1
 ·exact A2 j U U U λ w M b=>⟨by unfold rune;dsimp only;rw[if_pos h1];rfl,b.st.low⟩
 have h:=rune.eq_1 s i
 rw[if_neg h1]at h
 refine AJ U call187 U U (λ _ w M b=>RH s (i+1) w Aa Aa) U ?_
 refine A1 U (λ q=>?_) (λ q=>?_)<;>rw[q]at h
 ·exact A2 j U U U λ w M b=>⟨by rw[h];rfl,b.st.low⟩
 refine AJ U call187 U U (λ _ w M b=>RH s (i+1) w Aa Aa) U <|AJ U call187 U U (λ _ w M b=>RH s (i+2) w Aa Aa) U ?_
 refine A1 U (λ l=>?_) (λ l=>?_)<;>rw[l]at h
 ·have z:i+1<len s:=TI (by simp only[Bool.and_eq_true]at l;exact l.1.2)
  refine A1 U (λ k=>?_) (λ k=>?_)<;>rw[k]at h<;>exact A2 j U U U λ w M b=>⟨by rw[h];rfl,b.st.low⟩
 refine AJ U call187 U U (λ _ w M b=>RH s (i+1) w Aa Aa) U <|AJ U call187 U U (λ _ w M b=>RH s (i+2) w Aa Aa) U <|AJ U call187 U U (λ _ w M b=>RH s (i+3) w Aa Aa) U ?_
 refine A1 U (λ n=>?_) (λ n=>?_)<;>rw[n]at h
 ·have z:i+1<len s:=TI (by simp only[Bool.and_eq_true]at n;exact n.1.1.2)
  refine A1 U (λ k=>?_) (λ k=>?_)<;>rw[k]at h<;>exact A2 j U U U λ w M b=>⟨by rw[h];rfl,b.st.low⟩
 exact A2 j U U U λ w M b=>⟨by rw[h];rfl,b.st.low⟩
theorem X1(s:A0)(w:World)(q:len s<=9223372036854775800):Calls prog 125 [str s].toArray w λ e w'=>e= .returned (.bool (DJ s))/\Ext w w':=by
 have y:=A8 s
 refine AH AF func125 U ntmps125 [] [] [.v (str s)] U (BE w) A3 (λ B n=>B7 (σ:=Int) (λ k=>⟨[],[],[Z 0 (.v (str s)),Z 3 (I k)]⟩) (λ k=>0<=k/\GO s k=DJ s) (λ k=>(len s-k).toNat) 0 U U ⟨Aa,rfl⟩ ?_) U
 rintro k ⟨h,i⟩
 have A:=L9 s k
 have z:=rune_le s k
 refine A1 U (λ b=>?_) (λ b=>?_)<;>simp only[zb]at b
 ·refine AJ U call159 U U (λ _ w M l=>kX s k w h b q) U ?_
  refine A1 U (λ j=>?_) (λ j=>?_)<;>simp only[zb]at j
  ·exact A2 n U U U λ w M l=>⟨by rw[<-i,TJ s k h b Aa];rfl,l.st.low⟩
  ·exact AX (k+rune s k) U U ⟨Aa,by rw[<-i,MK s k h b Aa]⟩ Aa
 exact A2 n U U U λ w M l=>⟨by rw[<-i,W4 s k Aa];rfl,l.st.low⟩
theorem kY(s:A0)(w:World)(z:len s<=9223372036854775807):Calls prog 201 [str s].toArray w λ e w'=>e= .returned (.bool (FK s))/\Ext w w':=by
 have q:=A8 s
 refine AH AF func201 U ntmps201 [] [] [.v (str s)] U (BE w) A3 (λ B n=>B7 (σ:=Int) (λ k=>⟨[],[],[Z 0 (.v (str s)),Z 3 (I k)]⟩) (λ k=>0<=k/\k<=len s/\KF s k=FK s) (λ k=>(len s-k).toNat) 0 U U ⟨Aa,Aa,rfl⟩ ?_) U
 rintro k ⟨i,y,h⟩
 refine A1 U (λ b=>?_) (λ b=>?_)<;>simp only[zb]at b
 ·refine A1 U (λ j=>?_) (λ j=>?_)<;>simp only[zb]at j
  ·exact A2 n U U U λ w M l=>⟨by rw[<-h,iZ s k i b (by simp only[F2,C5,zb];omega)];rfl,l.st.low⟩
  ·exact AX (k+1) U U ⟨Aa,Aa,by rw[<-h,iY s k i b (by simp only[F2,C5,zb];omega)]⟩ Aa
 exact A2 n U U U λ w M l=>⟨by rw[<-h,j3 s k Aa];rfl,l.st.low⟩
theorem kZ(s:A0)(w:World)(z:len s<=9223372036854775807):Calls prog 174 [str s].toArray w λ e w'=>e= .returned (.bool (IY s))/\Ext w w':=by
 have q:=A8 s
 refine AH AF func174 U ntmps174 [] [] [.v (str s)] U (BE w) A3 (λ B n=>B7 (σ:=Int) (λ k=>⟨[],[],[Z 0 (.v (str s)),Z 3 (I k)]⟩) (λ k=>0<=k/\k<=len s/\KG s k=IY s) (λ k=>(len s-k).toNat) 0 U U ⟨Aa,Aa,rfl⟩ ?_) U
 rintro k ⟨i,y,h⟩
 refine A1 U (λ b=>?_) (λ b=>?_)<;>simp only[zb]at b
 ·refine A1 U (λ j=>?_) (λ j=>?_)<;>simp only[zb]at j
  ·exact A2 n U U U λ w M l=>⟨by rw[<-h,j5 s k i b (by simp only[C5,zb];omega)];rfl,l.st.low⟩
  ·exact AX (k+1) U U ⟨Aa,Aa,by rw[<-h,j4 s k i b (by simp only[C5,zb];omega)]⟩ Aa
 exact A2 n U U U λ w M l=>⟨by rw[<-h,aB s k Aa];rfl,l.st.low⟩
theorem zN(n:Nd)(w:World)(l:len n.s<=9223372036854775807):Calls prog 140 [.agg n.cells.toArray].toArray w λ e w'=>e= .returned (.bool (IZ n))/\Ext w w':=by
 have q:=A8 n.s
 refine AH AF func140 U ntmps140 [] [] [.ag (E8 n.cells)] U (BE w) A3 (λ B i=>BM 1 U U U λ y=>AJ U call174 U U (λ _ w M b=>kZ n.s w l) U <|A1 U (λ h1=>?_) (λ h1=>?_) (hO:=by simp only[zb];omega)) U
 ·exact A2 i U U U λ w M b=>⟨by unfold IZ;rw[if_pos h1];rfl,b.st.low⟩
 have h:=IZ.eq_1 n
 rw[if_neg (ne_true_of_eq_false h1)]at h
 refine A1 U (λ j=>?_) (λ j=>?_)<;>rw[j]at h
 ·exact A2 i U U U λ w M b=>⟨by rw[h];rfl,b.st.low⟩
 have k:=GL (show ¬n.s=[] by simpa using j)
 exact A2 i U U U λ w M b=>⟨by rw[h];rfl,b.st.low⟩
theorem l5:prog.follows .mixedOrders=true:=by kernel_rfl
theorem l6:prog.underlying 46=some (.struct (prog.fieldsOf 46)):=by kernel_rfl
theorem zO:(prog.fieldsOf 46).toList=[⟨"Kind",3,0,false,"","",0⟩,⟨"Many",3,1,false,"","",8⟩,⟨"Name",9,2,false,"","",16⟩,⟨"S",9,3,false,"","",32⟩,⟨"Neg",4,4,false,"","",48⟩,⟨"E",3,5,false,"","",56⟩]:=by kernel_rfl
theorem cE(d:Nat)(a b:Nd)(w:World):(Op.equalIn (d+1+1) 46 (.agg (Nd.cells a).toArray) (.agg (Nd.cells b).toArray)).run prog w= .ok (decide (a=b)) w:=by
 rw[run_equalIn_agg w _ _ _ _ l6 Tryz.stoodInHeld46,zO]
 rw[FV (P:=prog) (w:=w) (xs:=(Nd.cells a).toArray) (ys:=(Nd.cells b).toArray) (f:=⟨"Kind",3,0,false,"","",0⟩) Ab (show(part 3 (Nd.cells a).toArray 0).run prog w= .ok (i64 ((a).kind)) w by kernel_rfl) (show(part 3 (Nd.cells b).toArray 0).run prog w= .ok (i64 ((b).kind)) w by kernel_rfl) (L8 underlying3 w d ((a).kind) ((b).kind))]
 rw[FV (P:=prog) (w:=w) (xs:=(Nd.cells a).toArray) (ys:=(Nd.cells b).toArray) (f:=⟨"Many",3,1,false,"","",8⟩) Ab (show(part 3 (Nd.cells a).toArray 1).run prog w= .ok (i64 ((a).many)) w by kernel_rfl) (show(part 3 (Nd.cells b).toArray 1).run prog w= .ok (i64 ((b).many)) w by kernel_rfl) (L8 underlying3 w d ((a).many) ((b).many))]
 rw[FV (P:=prog) (w:=w) (xs:=(Nd.cells a).toArray) (ys:=(Nd.cells b).toArray) (f:=⟨"Name",9,2,false,"","",16⟩) Ab (show(part 9 (Nd.cells a).toArray 2).run prog w= .ok (str ((a).name)) w by kernel_rfl) (show(part 9 (Nd.cells b).toArray 2).run prog w= .ok (str ((b).name)) w by kernel_rfl) (P3 underlying9 w d ((a).name) ((b).name))]
 rw[FV (P:=prog) (w:=w) (xs:=(Nd.cells a).toArray) (ys:=(Nd.cells b).toArray) (f:=⟨"S",9,3,false,"","",32⟩) Ab (show(part 9 (Nd.cells a).toArray 3).run prog w= .ok (str ((a).s)) w by kernel_rfl) (show(part 9 (Nd.cells b).toArray 3).run prog w= .ok (str ((b).s)) w by kernel_rfl) (P3 underlying9 w d ((a).s) ((b).s))]
 rw[FV (P:=prog) (w:=w) (xs:=(Nd.cells a).toArray) (ys:=(Nd.cells b).toArray) (f:=⟨"Neg",4,4,false,"","",48⟩) Ab (show(part 4 (Nd.cells a).toArray 4).run prog w= .ok (.bool ((a).neg)) w by kernel_rfl) (show(part 4 (Nd.cells b).toArray 4).run prog w= .ok (.bool ((b).neg)) w by kernel_rfl) (W3 underlying4 w d ((a).neg) ((b).neg))]
 rw[FV (P:=prog) (w:=w) (xs:=(Nd.cells a).toArray) (ys:=(Nd.cells b).toArray) (f:=⟨"E",3,5,false,"","",56⟩) Ab (show(part 3 (Nd.cells a).toArray 5).run prog w= .ok (i64 ((a).e)) w by kernel_rfl) (show(part 3 (Nd.cells b).toArray 5).run prog w= .ok (i64 ((b).e)) w by kernel_rfl) (L8 underlying3 w d ((a).e) ((b).e))]
 have h:(.ok true w:Result Bool)= .ok (decide True) w:=rfl
 rw[VZ,h]
 simp only[W0]
 have hp:((a).kind=(b).kind/\(a).many=(b).many/\(a).name=(b).name/\(a).s=(b).s/\(a).neg=(b).neg/\(a).e=(b).e/\True)↔a=b:=by cases a;cases b;simp
 rw[decide_eq_decide.2 hp]
theorem RI(x y:Operand)(a b:Nd)(w:World):(do eqGuard .eql 46 x y (.agg (Nd.cells a).toArray) (.agg (Nd.cells b).toArray);binOp .eql 46 (.agg (Nd.cells a).toArray) (.agg (Nd.cells b).toArray):Sem Value).run prog w= .ok (.bool (decide (a=b))) w:=ZW x y w eqGuardType46 (cE 9998 a b w)
open Go.Eng Go.RowKit Go.Sort
structure Gl (w:World):Prop where
 big:5<w.heap.size
 u8:Lib.Utf8Tabs 0 1 w
 pow:Lib.TabIs prog w "internal/strconv.uint64pow10" .u64 Lib.pow10Tab
 deb:w.cell? ⟨7,15,none⟩=some (.int .u8 4)
 err: ∃ev,w.cell? ⟨3,0,none⟩=some ev/\(ev= .nilIface\/ ∃t p,ev= .iface t p)
theorem UH{w w':World}(h:Below w.heap.size w w'){a:Addr}{v:Value}(i:w.cell? a=some v):w'.cell? a=some v:=by
 have b:a.block<w.heap.size:=by
  rcases Nat.lt_or_ge a.block w.heap.size with e|e
  ·exact e
  ·simp[World.cell?,e]at i
 exact(h.cell b).trans i
theorem Gl.low {w w':World}(g:Gl w)(h:Below w.heap.size w w'):Gl w':=by
 have b:=g.big
 have hs:=h.size
 refine⟨Aa,⟨λ c e=>UH h (g.u8.1 c e),λ i hi=>⟨UH h (g.u8.2 i hi).1,UH h (g.u8.2 i hi).2⟩⟩,?_,UH h g.deb,by obtain⟨ev,h1,j⟩:=g.err;exact⟨ev,UH h h1,j⟩⟩
 ·exact var?_below h (show prog.globalNamed "internal/strconv.uint64pow10"=some 5 by kernel_rfl) b g.pow
theorem UI(s p:A0)(w:World):Calls prog 171 [str s,str p].toArray w λ e w'=>e= .returned (.bool (Lib.hasPrefix s p))/\w'=w:=Tryz.strings_HasPrefix ⟨⟨s⟩⟩ ⟨⟨p⟩⟩ w
theorem zP(s cut:A0)(w:World)(h:len cut<4294967281)(i: ∀(j:Nat) (b:UInt8),cut[j]? =some b->b.toNat<128):
  Calls prog 303 [str s,str cut].toArray w λ e w'=>e= .returned (str (s.dropWhile (cut.contains ·)))/\Ext w w':=
 (Any.strings_TrimLeft_laid Tryz.vS Ai ⟨⟨s⟩⟩ ⟨⟨cut⟩⟩ w (by unfold len at h;show cut.length<_;omega) i)
theorem cF(s cut:A0)(w:World)(hs:len s<=9223372036854775807)(h:len cut<4294967281)(i: ∀(j:Nat) (b:UInt8),cut[j]? =some b->b.toNat<128):
  Calls prog 304 [str s,str cut].toArray w λ e w'=>e= .returned (str (Lib.trimRightS s cut))/\Ext w w':=
 (Any.strings_TrimRight_laid Tryz.vU Ai ⟨⟨s⟩⟩ ⟨⟨cut⟩⟩ w (by unfold len at hs;show s.length<=_;omega) (by unfold len at h;show cut.length<_;omega) i)
theorem zQ(s:A0)(w:World)(g:Gl w)(h:0<len s):
  Calls prog 224 [str s].toArray w λ e w'=>e= .returned (.tuple #[.int .i32 (B2 s 0),i64 (runeLen s 0)])/\Ext w w':=by
 have h0: ¬(ByteArray.mk ⟨s⟩).size=0:=by show ¬s.length=0;unfold len at h;omega
 have:=Tryz.utf8_DecodeRuneInString ⟨⟨s⟩⟩ w g.u8
 rw[show Lib.decodeGo ⟨⟨s⟩⟩=Utf8.decode ⟨⟨s⟩⟩ 0 from by unfold Lib.decodeGo;rw[if_neg h0]]at this
 exact this
theorem cG(s:A0)(c:Int)(w:World):Calls prog 198 [str s,.int .u8 c].toArray w λ e w'=>e= .returned (i64 (Lib.indexByte s c.toNat.toUInt8))/\w'=w:=Tryz.strings_IndexByte ⟨⟨s⟩⟩ c w
theorem repeatL_one(c:UInt8): ∀n,Lib.repeatL [c] n=List.replicate n c
 |0=>rfl
 |n+1=>by rw[Lib.repeatL,repeatL_one c n];rfl
theorem l7(c:UInt8)(n:Int)(w:World)(h0:0<=n)(h1:n<=140737488355328):
  Calls prog 291 [str [c],i64 n].toArray w λ e w'=>e= .returned (str (List.replicate n.toNat c))/\Ext w w':=by
 by_cases ha:n=0
 ·subst ha;exact(Tryz.strings_Repeat_zero ⟨⟨[c]⟩⟩ w).mono λ e w' ⟨he,hw⟩=>⟨he,hw▸Ext.refl _⟩
 ·by_cases hb:n=1
  ·subst hb;exact(Tryz.strings_Repeat_one ⟨⟨[c]⟩⟩ w).mono λ e w' ⟨he,hw⟩=>⟨he,hw▸Ext.refl _⟩
  ·have:=Tryz.strings_Repeat_main ⟨⟨[c]⟩⟩ n.toNat w Aa Aa (by show 1*_<=_;omega) (by show 0<1;omega)
   rw[show((n.toNat:Nat):Int)=n from by omega]at this
   refine this.mono λ e w' ⟨he,hw⟩=>⟨?_,hw⟩
   rw[he];show Ending.returned (str (Lib.repeatL [c] n.toNat))=_;rw[repeatL_one]
theorem zR{w w':World}(h:Ext w w')(k:Nat):Ext w (w'.drewN k):=⟨h.os,h.tape,h.output,h.size,h.block⟩
theorem zS(w:World)(os:Array Obj):Ext w (grow w os):=⟨rfl,rfl,rfl,by show w.heap.size<=(w.heap++os).size;rw[Array.size_append];omega,λ _ b=>by show(w.heap++os)[_]? =_;rw[Array.getElem?_append_left b]⟩
theorem l8(n:Int)(w:World)(g:Gl w)(h0: -9223372036854775808<=n)(h1:n<=9223372036854775807):
  Calls prog 200 [i64 n].toArray w λ e w'=>e= .returned (str (Lib.itoa n))/\Ext w w':=
 (Tryz.strconv_Itoa n h0 h1 w g.pow).mono λ e w' ⟨he,k,os,hw⟩=>⟨he,hw▸Ext.trans (zR (Ext.refl w) k) (zS _ os)⟩
theorem zT(s:A0)(v:Int)(w:World)(hs:len s<=9223372036854775806)(h:Lib.atoiAll s= .ok v):
  Calls prog 199 [str s].toArray w λ e w'=>e= .returned (.tuple #[i64 v,.nilIface])/\Ext w w':=
 (Tryz.strconv_Atoi_ok ⟨⟨s⟩⟩ (by show s.length<=_;unfold len at hs;omega) v h w).mono λ e w' ⟨he,hw⟩=>⟨he,by
  rcases hw with hw|⟨t,hw⟩
  ·exact hw▸Ext.refl _
  ·exact hw▸Joins.below_bytesWorld _ _ _ _ (Nat.le_refl _)⟩
theorem zU(g:Nat)(p:Nat->Bool)(s:A0)(w:World)(hg:Gl w)(b: ∀args w,(callFunc g args).run prog w= .ok (.enter g args) w)(hs:len s<=9223372036854775807)
 (hp: ∀(x:Nat) (w:World),x<=1114111->Calls prog g [.int .i32 x].toArray w λ e w'=>e= .returned (.bool (p x))/\w'=w):
 Calls prog 325 [str s,.func (.func g) #[] #[]].toArray w λ e w'=>e= .returned (str (Lib.trimF p ⟨⟨s⟩⟩).data.toList)/\Ext w w':=
by
 have h:PredAtRunes prog g #[] p w:=by
  intro W x hx _
  show Calls prog g (#[encR x]++ #[]) W _
  exact(hp x W hx).mono λ e w' ⟨he,hw⟩=>⟨he,0,hw⟩
 refine(Tryz.strings_TrimFunc_runes g #[] b p ⟨⟨s⟩⟩ w (by show s.length<=_;unfold len at hs;omega) hg.u8 h).mono λ e w' ⟨he,hw⟩=>⟨?_,hw⟩
 rw[he]
open Go.ChangeShapes Go.WideShapes Go.ChangeAt Go.RowKit Go.Eng
theorem own:ownKnob prog.godebug=none:=by kernel_rfl
abbrev Laid:List (String×DataW Unit):=[("math/bits.deBruijn32tab",Rows.laid_math_bits_deBruijn32tab),("math/bits.deBruijn64tab",Rows.laid_math_bits_deBruijn64tab),("internal/strconv.uint64pow10",Rows.laid_internal_strconv_uint64pow10),("unicode/utf8.acceptRanges",Rows.laid_unicode_utf8_acceptRanges),("strconv.ErrRange",Rows.laid_strconv_ErrRange),("strconv.ErrSyntax",Rows.laid_strconv_ErrSyntax),("unicode/utf8.first",Rows.laid_unicode_utf8_first)]
theorem l9{P:Program}{W:World}{name:String}{k:IntKind}{zs:List Int}{g:Nat}{t e:TypeId}{n:Nat}
  (hg:P.globalNamed name=some g) (i:(P.globals[g]?).map (·.type)=some t) (w:P.underlying t=some (.array n e)) (he:P.underlying e=some (.int k)) (j:P.cellsOf e=1) (l:P.cellsOf t=n)
  (h:Lib.VarReads P W name (Lib.tabData k zs)):Lib.TabIs P W name k zs:=by
 obtain⟨y,z,cs,fuel,p,q,s,b,hd⟩:=h
 obtain rfl:=Option.some.inj (hg.symm.trans q)
 obtain rfl:=Option.some.inj (i.symm.trans s)
 unfold Lib.TabIs
 rw[b,<-Lib.cells_of_tab w he j l hd]
theorem zV{P:Program}{W:World}{name:String}{k:IntKind}{zs:List Int}{g:Nat}(h:Lib.TabIs P W name k zs)(hg:P.globalNamed name=some g)(h0:0<zs.length):g<W.heap.size:=lt_of_cell (h.cell hg 0 h0)
theorem zW:U8Extra prog Tryz.iF:=⟨by kernel_rfl,by kernel_rfl,by kernel_rfl,by kernel_rfl,by kernel_rfl,by kernel_rfl,by kernel_rfl⟩
theorem e2:(Rows.laid_internal_strconv_uint64pow10:DataW Unit)=Lib.tabData .u64 Lib.pow10Tab:=by kernel_rfl
theorem e3:(Rows.laid_unicode_utf8_first:DataW Unit)=Lib.firstData:=by kernel_rfl
theorem e4:(Rows.laid_unicode_utf8_acceptRanges:DataW Unit)=Lib.acceptData:=by kernel_rfl
abbrev lA:List Int:=Lib.deBruijn64tab.map (λ n:Nat=>(n:Int))
theorem e5:(Rows.laid_math_bits_deBruijn64tab:DataW Unit)=Lib.tabData .u8 lA:=by kernel_rfl
theorem lB:"*"++"errors.errorString"="*errors.errorString":=by decide
theorem zX(u:TypeId)(h:prog.typeName? 3 u=some "*errors.errorString"):u=307:=
 typeName_ptr_named (nm:="errors.errorString") (by rw[lB];kernel_rfl) Ai Ab u (by rw[lB];exact h)
theorem zY{W:World}(h:laidMet prog Laid W):Gl W:=by
 have b:=Lib.laidMet.reads h (show("internal/strconv.uint64pow10",Rows.laid_internal_strconv_uint64pow10)∈Laid from .tail _ (.tail _ (.head _)))
 have e:=Lib.laidMet.reads h (show("unicode/utf8.first",Rows.laid_unicode_utf8_first)∈Laid from .tail _ (.tail _ (.tail _ (.tail _ (.tail _ (.tail _ (.head _)))))))
 have i:=Lib.laidMet.reads h (show("unicode/utf8.acceptRanges",Rows.laid_unicode_utf8_acceptRanges)∈Laid from .tail _ (.tail _ (.tail _ (.head _))))
 rw[e2]at b
 rw[e3]at e
 rw[e4]at i
 have j:Lib.TabIs prog W "internal/strconv.uint64pow10" .u64 Lib.pow10Tab:=
  l9 (g:=5) Ai Ai underlying303 underlying239 Ai Ai b
 have l:Lib.Utf8Tabs 0 1 W:=utf8Tabs_of_readsT (.of260 Tryz.wI) zW e i
 refine⟨zV j Ai (of_decide_eq_true Ai),l,j,?_,?_⟩
 ·have k:=Lib.laidMet.reads h (show("math/bits.deBruijn64tab",Rows.laid_math_bits_deBruijn64tab)∈Laid from .tail _ (.head _))
  rw[e5]at k
  have n:Lib.TabIs prog W "math/bits.deBruijn64tab" .u8 lA:=l9 (g:=7) Ai Ai underlying342 underlying5 Ai Ai k
  exact n.cell Ai 15 (of_decide_eq_true Ai)
 ·obtain⟨a,s,q,_⟩:=laid_sentinel (te:=309) (ts:=9) (f:=(prog.fieldsOf 309)[0]!) h.tail.tail.tail.tail.tail (show prog.globalNamed "strconv.ErrSyntax"=some 3 by kernel_rfl) Ai underlying223 zX underlying307 Ai Ai Ai underlying9 Ai Ai
  exact⟨_,var?_cell Ai q 0,.inr ⟨_,_,rfl⟩⟩
def lits(l:List (DataW Unit)):List Value:=l.filterMap λ | .lit (.int k z)=>some (.int k z)|_=>none
def partsOf:DataW Unit->List (DataW Unit)| .agg ps=>ps|_=>[]
def X3(d:DataW Unit):Array Value:=(lits (partsOf d)).toArray
def zZ(l:List (DataW Unit)):Array Value:=(l.flatMap λ p=>lits (partsOf p)).toArray
def lC:DataW Unit->A0| .iface _ (.ptr (.agg [.lit (.string s)]))=>s|_=>[]
noncomputable def cH (os:Os):World:=
 let N:=(World.settled prog os).heap.size
 let w0:=World.holding prog os ⟨#[.cells #[str (lC Rows.laid_strconv_ErrRange)] 309,.cells #[str (lC Rows.laid_strconv_ErrSyntax)] 309],#[],[]⟩
 let put (h:Array Obj) (g:Nat) (cs:Array Value):Array Obj:=h.modify g λ
  | .cells _ t frozen=>.cells cs t frozen
  |o=>o
 let h1:=put w0.heap 6 (X3 Rows.laid_math_bits_deBruijn32tab)
 let h2:=put h1 7 (X3 Rows.laid_math_bits_deBruijn64tab)
 let h3:=put h2 5 (X3 Rows.laid_internal_strconv_uint64pow10)
 let h4:=put h3 1 (zZ (partsOf Rows.laid_unicode_utf8_acceptRanges))
 let h5:=put h4 4 #[.iface 307 (.pointer (some ⟨N,0,none⟩))]
 let h6:=put h5 3 #[.iface 307 (.pointer (some ⟨N+1,0,none⟩))]
 let h9:=put h6 0 (X3 Rows.laid_unicode_utf8_first)
 { w0 with heap:=h9}
noncomputable abbrev N0:Nat:=(World.settled prog default).heap.size
set_option maxRecDepth 100000 in
theorem AA0(os:Os)(args:Array Value):laidMet prog Laid ((cH os).forCall (λ _ _=>0) ⟨#[],args,[]⟩).memory:=
 (LaidIn.of_run [6,7,5,1,4,N0,3,N0+1,0] 12 Ai Ai Ai Ai).met
end Go.Proofs.YtnoegalemkbbbaaGreatDoor
namespace Go.Eng
open Go.RowKit
def CS(b:UInt8):Bool:=C5 (b.toNat:Int)
def BC(n:Int):A0:=List.replicate n.toNat 48
def AY(s:A0)(i:Int):Int:=i+len ((A5 s i).takeWhile CS)
def AW(s:A0):A0:=s.dropWhile (([48]:A0).contains ·)
def BG(s:A0):A0:=Lib.trimRightS s [48]
def CG(s:A0):Int:=s.foldl (λ n b=>n*10+((b.toNat:Int)-48)) 0
theorem K1(s:A0)(i:Int)(h0:0<=i)(h1:i<len s): ∃b,A5 s i=b::A5 s (i+1)/\A4 s i=(b.toNat:Int):=by
 have h:i.toNat<s.length:=by unfold len at h1;omega
 refine⟨s[i.toNat],?_,by simp[A4,h]⟩
 unfold A5
 rw[show(i+1).toNat=i.toNat+1 from by omega]
 exact List.drop_eq_getElem_cons h
theorem PH(s:A0)(i:Int)(h1:len s<=i):A5 s i=[]:=by
 unfold A5;rw[List.drop_eq_nil_iff];unfold len at h1;omega
theorem EB(s:A0)(i:Int)(h0:0<=i)(h1:i<=len s):len (A5 s i)=len s-i:=by
 unfold A5 len at*;rw[List.length_drop];omega
theorem AA1{s:A0}{i:Int}(h0:0<=i)(h1:i<len s)(h:C5 (A4 s i)=true):AY s (i+1)=AY s i:=by
 obtain⟨b,e,j⟩:=K1 s i h0 h1
 unfold AY
 rw[e,List.takeWhile_cons,show CS b=true from by unfold CS;rw[<-j];exact h]
 simp[len];omega
theorem AA2{s:A0}{i:Int}(h0:0<=i)(h1:i<len s)(h:C5 (A4 s i)=false):AY s i=i:=by
 obtain⟨b,e,j⟩:=K1 s i h0 h1
 unfold AY
 rw[e,List.takeWhile_cons,show CS b=false from by unfold CS;rw[<-j];exact h]
 simp[len]
theorem AA3{s:A0}{i:Int}(h1:len s<=i):AY s i=i:=by
 unfold AY;rw[PH s i h1];simp[len]
theorem PI(s:A0)(i:Int)(h0:0<=i)(h1:i<=len s):i<=AY s i/\AY s i<=len s:=by
 have b:=EB s i h0 h1
 have e:=(List.takeWhile_sublist CS (l:=A5 s i)).length_le
 unfold AY len at*;omega
theorem lD{s:A0}{i k:Int}(h0:0<=i)(h1:i<=k)(b:k<AY s i):C5 (A4 s k)=true:=by
 by_cases hl:i<len s
 ·by_cases hf:C5 (A4 s i)=true
  ·by_cases hk:i=k
   ·subst hk;exact hf
   ·rw[<-AA1 h0 hl hf]at b
    exact lD (i:=i+1) Aa Aa b
  ·rw[Bool.not_eq_true]at hf
   rw[AA2 h0 hl hf]at b;omega
 ·rw[AA3 Aa]at b;omega
termination_by (len s-i).toNat
def CH(neg:Bool)(s:A0)(e:Int):Nd×Int:=
 if IY s then
  if AW s==[]then(⟨3,0,[],[],false,0⟩,0)
  else if decide (e< -100000000)||decide (100000000<e)then(C3,2)
  else
   if decide (100<len (BG (AW s)))||decide (e+(len (AW s)-len (BG (AW s)))< -1000)||decide (1000<len (BG (AW s))+(e+(len (AW s)-len (BG (AW s)))))then(C3,2)
   else(⟨3,0,[],BG (AW s),neg,e+(len (AW s)-len (BG (AW s)))⟩,0)
 else(C3,4)
def I3(n:Nd):A0:=
 let sign:A0:=if n.neg then [45]else []
 if n.s==[]then [48]
 else if decide (0<=n.e)&&decide (len n.s+n.e<=20)then sign++n.s++BC n.e
 else if decide (n.e<0)&&decide (-20<=n.e)then
  let s:=BC (1-n.e-len n.s)++n.s
  sign++Eng.sub s 0 (len s+n.e)++[46]++A5 s (len s+n.e)
 else sign++n.s++[101]++Lib.itoa n.e
theorem X4{n:Int}(h:n<=0):BC n=[]:=by unfold BC;rw[show n.toNat=0 from by omega];rfl
theorem NX(n:Int)(h:0<=n):len (BC n)=n:=by unfold BC len;rw[List.length_replicate];omega
theorem lE(d:Int):0<=len (BC d)/\d<=len (BC d)/\(len (BC d)<=0\/len (BC d)=d):=by unfold BC len;rw[List.length_replicate];omega
theorem AO{α:Type}(a b:List α):len (a++b)=len a+len b:=by unfold len;simp
theorem AL{α:Type}(a:α)(b:List α):len (a::b)=len b+1:=by unfold len;simp
theorem AA4{α:Type}(a:α)(b:List α):A5 (a::b) 1=b:=rfl
theorem len_nil{α:Type}:len ([]:List α)=0:=rfl
theorem PJ{α:Type}(s:List α)(i j:Int):0<=len (Eng.sub s i j)/\len (Eng.sub s i j)<=len s:=by unfold Eng.sub len;simp;omega
theorem FF{α:Type}{s:List α}{i j:Int}(h0:0<=i)(h1:i<=j)(b:j<=len s):len (Eng.sub s i j)=j-i:=by unfold Eng.sub len at*;simp;omega
theorem lF{α:Type}(s:List α)(i:Int):0<=len (A5 s i)/\len (A5 s i)<=len s:=by unfold A5 len;simp
theorem AA5(s:A0):len (AW s)<=len s:=by
 have:=(List.dropWhile_sublist (([48]:A0).contains ·) (l:=s)).length_le
 unfold AW len;omega
theorem lG(s:A0):len (BG s)<=len s:=by
 have:=(List.dropWhile_sublist (([48]:A0).contains ·) (l:=s.reverse)).length_le
 unfold BG Lib.trimRightS len;simp at*;omega
theorem dropWhile_nil{α:Type}{p:α->Bool}: ∀ {l:List α},l.dropWhile p=[]-> ∀x∈l,p x=true
 |[],_,x,hx=>by cases hx
 |a::l,h,x,hx=>by
  rw[List.dropWhile_cons]at h
  split at h
  ·rename_i b
   rcases List.mem_cons.1 hx with rfl|hx
   ·exact b
   ·exact dropWhile_nil h x hx
  ·cases h
theorem cI{s:A0}{b:UInt8}{l:A0}(h:AW s=b::l):(([48]:A0).contains b)=false:=by
 unfold AW at h
 induction s with
 |nil=>cases h
 |cons a s e=>
  rw[List.dropWhile_cons]at h
  split at h
  ·exact e h
  ·rename_i i;cases h;simpa using i
theorem cJ(s:A0): ¬AW s=[]->0<len (BG (AW s)):=by
 intro h
 cases hd:AW s with
 |nil=>exact absurd hd h
 |cons b l=>
  have e:=cI hd
  have:BG (b::l)≠[]:=by
   unfold BG Lib.trimRightS
   intro i
   rw[List.reverse_eq_nil_iff]at i
   have:=dropWhile_nil i b (by simp)
   rw[this]at e;cases e
  unfold len
  have:=List.length_pos_iff.2 this
  omega
def D3(s signs:A0)(p:Int):Bool:=decide (p<len s)&&decide (0<=Lib.indexByte signs (A4 s p).toNat.toUInt8)
def BJ(s signs:A0)(p:Int):Int:=if D3 s signs p then p+1 else p
theorem lH{s b:A0}{p:Int}(h:D3 s b p=true):p<len s:=by unfold D3 at h;simp only[Bool.and_eq_true,decide_eq_true_eq]at h;exact h.1
theorem cK(s b:A0)(p:Int)(h:p<=len s):p<=BJ s b p/\BJ s b p<=len s:=by
 unfold BJ;split
 ·rename_i h1;have:=lH h1;omega
 ·omega
theorem RJ{s b:A0}{p:Int}(h:D3 s b p=true):BJ s b p=p+1:=by unfold BJ;rw[if_pos h]
theorem RM{s b:A0}{p:Int}(h:D3 s b p=false):BJ s b p=p:=by unfold BJ;rw[if_neg (by rw[h];simp)]
def J6(neg:Bool)(fg:A0)(x:Int)(pw:A0)(side:Int):Nd×Int×Int:=
 if 6<len (AW pw)then(C3,0,2)
 else((CH neg fg (x+side*CG (AW pw))).1,0,(CH neg fg (x+side*CG (AW pw))).2)
def X5(s:A0)(neg:Bool)(fg:A0)(x:Int)(c0:Int):Nd×Int×Int:=
 let m:=D3 s [45] c0
 let c1:=if m then BJ s [45] c0 else BJ s [43] (BJ s [45] c0)
 let c2:=AY s c1
 let pw:=Eng.sub s c1 c2
 if pw=[]\/c2<len s then(C3,c2,1)else J6 neg fg x pw (if m then-1 else 1)
def II(s:A0)(neg:Bool)(fg:A0)(x:Int)(b:Int):Nd×Int×Int:=
 if D3 s [101,69] b then X5 s neg fg x (BJ s [101,69] b)
 else if BJ s [101,69] b<len s then(C3,BJ s [101,69] b,1)else J6 neg fg x [] 1
def GC(s:A0):Nd×Int×Int:=
 let neg:=D3 s [45] 0
 let a0:=BJ s [45] 0
 let b0:=AY s a0
 let fg:=Eng.sub s a0 b0
 if 1<len fg/\A4 fg 0=48 then(C3,a0+1,1)
 else if fg=[]then(C3,b0,1)
 else if D3 s [46] b0 then
  let b2:=AY s (BJ s [46] b0)
  let part:=Eng.sub s (BJ s [46] b0) b2
  if part=[]then(C3,b2,1)else II s neg (fg++part) (-(len part)) b2
 else II s neg fg 0 (BJ s [46] b0)
theorem AA6{s:A0}{i:Int}(h0:0<=i):Eng.sub s i (AY s i)=(A5 s i).takeWhile CS:=by
 have h1:(AY s i).toNat-i.toNat=((A5 s i).takeWhile CS).length:=by unfold AY len;omega
 unfold Eng.sub;rw[h1]
 exact(List.prefix_iff_eq_take.1 (List.takeWhile_prefix CS)).symm
theorem lI{α:Type}{p:α->Bool}: ∀ {l:List α},∀x∈l.takeWhile p,p x=true
 |[],x,hx=>by cases hx
 |a::l,x,hx=>by
  rw[List.takeWhile_cons]at hx
  split at hx
  ·rename_i b
   rcases List.mem_cons.1 hx with rfl|hx
   ·exact b
   ·exact lI x hx
  ·cases hx
theorem X6{s:A0}{i:Int}(h0:0<=i): ∀b∈Eng.sub s i (AY s i),CS b=true:=by rw[AA6 h0];exact lI
theorem AA7{l:A0}(h: ∀b∈l,CS b=true): ∀b∈AW l,CS b=true:=λ b e=>h b ((List.dropWhile_sublist _).subset e)
theorem lJ: ∀(l:A0) (n:Int),(∀b∈l,CS b=true)->0<=n->0<=l.foldl (λ n b=>n*10+((b.toNat:Int)-48)) n/\l.foldl (λ n b=>n*10+((b.toNat:Int)-48)) n<(n+1)*10^l.length
 |[],n,_,h0=>by simp;omega
 |a::l,n,h,h0=>by
  have e:=h a (by simp)
  unfold CS C5 at e
  simp only[Bool.and_eq_true,decide_eq_true_eq]at e
  have:=lJ l (n*10+((a.toNat:Int)-48)) (λ b i=>h b (by simp[i])) Aa
  rw[List.foldl_cons]
  refine⟨this.1,Int.lt_of_lt_of_le this.2 ?_⟩
  have h1:(n+1)*10^ (a::l).length=((n+1)*10)*10^l.length:=by rw[List.length_cons,Int.pow_succ,Int.mul_comm (10^l.length) 10,<-Int.mul_assoc]
  rw[h1]
  exact Int.mul_le_mul_of_nonneg_right Aa (Int.le_of_lt (Int.pow_pos (by decide:(0:Int)<10)))
def C7:List KV:=[⟨34,.int .i32 34,0⟩,⟨92,.int .i32 92,1⟩,⟨47,.int .i32 47,2⟩,⟨98,.int .i32 8,3⟩,⟨102,.int .i32 12,4⟩,⟨110,.int .i32 10,5⟩,⟨114,.int .i32 13,6⟩,⟨116,.int .i32 9,7⟩]
def F6(p:KV):Int:=match p.val with| .int _ x=>x|_=>0
theorem AA8: ∀p∈C7,p.val= .int .i32 (F6 p):=by
 intro p hp
 simp only[C7,List.mem_cons,List.not_mem_nil,or_false]at hp
 rcases hp with rfl|rfl|rfl|rfl|rfl|rfl|rfl|rfl<;>rfl
theorem AA9: ∀p∈C7,p.born<8:=by
 intro p hp
 simp only[C7,List.mem_cons,List.not_mem_nil,or_false]at hp
 rcases hp with rfl|rfl|rfl|rfl|rfl|rfl|rfl|rfl<;>decide
theorem lK:(C7.map (·.born)).Nodup:=by decide
theorem AB0: ∀p∈C7,∀q∈C7,F6 p=F6 q->p=q:=by
 intro p hp q b h
 simp only[C7,List.mem_cons,List.not_mem_nil,or_false]at hp b
 rcases hp with rfl|rfl|rfl|rfl|rfl|rfl|rfl|rfl<;>rcases b with rfl|rfl|rfl|rfl|rfl|rfl|rfl|rfl<;>first|rfl|(exfalso;revert h;decide)
def KI(c:Int):Bool:=c==34||c==92||c==47||c==98||c==102||c==110||c==114||c==116
def MT(c:Int):Int:=if c=98 then 8 else if c=102 then 12 else if c=110 then 10 else if c=114 then 13 else if c=116 then 9 else if KI c then c else 0
theorem AB1(c:Int):(C4 C7 c).getD (.int .i32 0)= .int .i32 (MT c)/\(C4 C7 c).isSome=KI c:=by
 simp only[C7,C4,beq_iff_eq]
 by_cases h1:c=34
 ·subst h1;exact⟨rfl,rfl⟩
 by_cases h2:c=92
 ·subst h2;exact⟨rfl,rfl⟩
 by_cases h3:c=47
 ·subst h3;exact⟨rfl,rfl⟩
 by_cases h4:c=98
 ·subst h4;exact⟨rfl,rfl⟩
 by_cases h5:c=102
 ·subst h5;exact⟨rfl,rfl⟩
 by_cases h6:c=110
 ·subst h6;exact⟨rfl,rfl⟩
 by_cases h7:c=114
 ·subst h7;exact⟨rfl,rfl⟩
 by_cases h8:c=116
 ·subst h8;exact⟨rfl,rfl⟩
 rw[if_neg h1,if_neg h2,if_neg h3,if_neg h4,if_neg h5,if_neg h6,if_neg h7,if_neg h8]
 have:KI c=false:=by simp[KI,h1,h2,h3,h4,h5,h6,h7,h8]
 simp[MT,this,h4,h5,h6,h7,h8]
def K2(r:Int):Bool:=r==34||r==92||r==8||r==12||r==10||r==13||r==9
def K3(r:Int):Int:=if r=8 then 98 else if r=12 then 102 else if r=10 then 110 else if r=13 then 114 else if r=9 then 116 else if K2 r then r else 0
def Lets(seen:Array Nat)(l:List KV):Prop:=
 (l.map (·.key)).Nodup/\(∀p∈C7,seen.contains p.born=true->C4 l (F6 p)=some (.int .u8 p.key))/\ ∀r,(∀p∈C7,seen.contains p.born=true->F6 p≠r)->C4 l r=none
theorem AB2{l:List KV}{x:Int}(h:C4 l x=none): ∀p∈l,p.key≠x:=by
 induction l with
 |nil=>intro p hp;cases hp
 |cons a l b=>
  intro p hp
  unfold C4 at h
  split at h
  ·cases h
  ·rename_i i
   rcases List.mem_cons.1 hp with rfl|hp
   ·intro e;subst e;simp at i
   ·exact b h p hp
theorem AB3{l:List KV}{x:Int}{v:Value}(h:C4 l x=none):LA l x v=none:=by
 induction l with
 |nil=>rfl
 |cons a l b=>
  unfold C4 at h;unfold LA
  split at h
  ·cases h
  ·rename_i e;rw[if_neg e,b h];rfl
theorem lL(l:List KV)(p:KV)(x:Int)(h:C4 l p.key=none):C4 (l++[p]) x=if x==p.key then some p.val else C4 l x:=by
 induction l with
 |nil=>simp[C4]
 |cons a l i=>
  have b: ¬(p.key==a.key)=true:=by intro e;simp[C4,e]at h
  have j:C4 l p.key=none:=by simpa[C4,b]using h
  simp only[List.cons_append,C4,i j]
  by_cases e1:(x==a.key)=true
  ·rw[if_pos e1,if_pos e1]
   have: ¬(x==p.key)=true:=by
    intro e2;apply b
    have k:x=a.key:=by simpa using e1
    have a2:x=p.key:=by simpa using e2
    simp[<-k,<-a2]
   rw[if_neg this]
  ·rw[if_neg e1,if_neg e1]
theorem AB4(l:List KV)(x y:Int)(h:(l.map (·.key)).Nodup):C4 (HZ l x) y=if y==x then none else C4 l y:=by
 induction l with
 |nil=>simp[HZ,C4]
 |cons a l n=>
  rw[List.map_cons,List.nodup_cons]at h
  have i:=n h.2
  unfold HZ
  by_cases e:(x==a.key)=true
  ·rw[if_pos e]
   have q:x=a.key:=by simpa using e
   by_cases f:(y==x)=true
   ·rw[if_pos f]
    have s:y=x:=by simpa using f
    cases hk:C4 l y with
    |none=>rfl
    |some v=>
     exfalso;apply h.1
     have: ∃p∈l,p.key=y:=by
      clear n i h
      induction l with
      |nil=>cases hk
      |cons b l j=>
       unfold C4 at hk
       split at hk
       ·rename_i w;exact⟨b,by simp,by simpa using(by simpa using w:y=b.key).symm⟩
       ·obtain⟨p,hp,k⟩:=j hk;exact⟨p,by simp[hp],k⟩
     obtain⟨p,hp,k⟩:=this
     exact List.mem_map.2 ⟨p,hp,by rw[k,s,q]⟩
   ·rw[if_neg f]
    rw[show C4 (a::l) y=if y==a.key then some a.val else C4 l y from rfl,if_neg (by rw[<-q];exact f)]
  ·rw[if_neg e]
   unfold C4
   by_cases f:(y==a.key)=true
   ·rw[if_pos f,if_pos f]
    have: ¬(y==x)=true:=by
     intro g;apply e
     have z:y=a.key:=by simpa using f
     have a2:y=x:=by simpa using g
     simp[<-z,<-a2]
    rw[if_neg this]
   ·rw[if_neg f,if_neg f];exact i
theorem Lets.step {seen:Array Nat}{l:List KV}{c:Nat}(h:Lets seen l){p:KV}(hp:p∈C7)(z: ¬seen.contains p.born=true):Lets (seen.push p.born) (LB l c (F6 p) (.int .u8 p.key)):=by
 obtain⟨h1,A,n⟩:=h
 have i: ∀q∈C7,seen.contains q.born=true->F6 q≠F6 p:=by
  intro q b hs e
  have:=AB0 q b p hp e
  subst this;exact z hs
 have h0:C4 l (F6 p)=none:=n _ i
 have B:LB l c (F6 p) (.int .u8 p.key)=l++[⟨F6 p,.int .u8 p.key,c⟩]:=by unfold LB;rw[AB3 h0]
 rw[B]
 have j: ∀q:KV,(seen.push p.born).contains q.born=true↔seen.contains q.born=true\/q.born=p.born:=by
  intro q;simp[Array.contains_iff_mem,Array.mem_push]
 refine⟨?_,?_,?_⟩
 ·rw[List.map_append,List.nodup_append]
  refine⟨h1,by simp,?_⟩
  intro x hx y s
  simp only[List.map_cons,List.map_nil,List.mem_singleton]at s
  subst s
  obtain⟨q,b,rfl⟩:=List.mem_map.1 hx
  exact AB2 h0 q b
 ·intro q b hs
  rw[lL _ _ _ h0]
  rcases(j q).1 hs with hs|hs
  ·rw[if_neg (by simpa using i q b hs)];exact A q b hs
  ·have:q=p:=by
    have C:=lK
    simp only[C7,List.mem_cons,List.not_mem_nil,or_false]at hp b
    rcases hp with rfl|rfl|rfl|rfl|rfl|rfl|rfl|rfl<;>rcases b with rfl|rfl|rfl|rfl|rfl|rfl|rfl|rfl<;>first|rfl|(exfalso;revert hs;decide)
   subst this;simp
 ·intro r w
  have k:F6 p≠r:=w p hp ((j p).2 (.inr U))
  rw[lL _ _ _ h0,if_neg (by simpa using λ e=>k e.symm)]
  exact n r λ q b hs=>w q b ((j q).2 (.inl hs))
theorem AB5{seen:Array Nat}{l:List KV}(h:Lets seen l)(b: ∀p∈C7,seen.contains p.born=true)(r:Int):
  (C4 (HZ l 47) r).getD (.int .u8 0)= .int .u8 (K3 r)/\(C4 (HZ l 47) r).isSome=K2 r:=by
 obtain⟨h1,e,i⟩:=h
 rw[AB4 _ _ _ h1]
 have hs: ∀p∈C7,C4 l (F6 p)=some (.int .u8 p.key):=λ p hp=>e p hp (b p hp)
 by_cases e0:r=47
 ·subst e0;exact⟨rfl,rfl⟩
 rw[if_neg (by simpa using e0)]
 by_cases e1:r=34
 ·subst e1;have:=hs ⟨34,.int .i32 34,0⟩ (by simp[C7]);rw[show F6 ⟨34,.int .i32 34,0⟩=34 from rfl]at this;rw[this];exact⟨rfl,rfl⟩
 by_cases e2:r=92
 ·subst e2;have:=hs ⟨92,.int .i32 92,1⟩ (by simp[C7]);rw[show F6 ⟨92,.int .i32 92,1⟩=92 from rfl]at this;rw[this];exact⟨rfl,rfl⟩
 by_cases e3:r=8
 ·subst e3;have:=hs ⟨98,.int .i32 8,3⟩ (by simp[C7]);rw[show F6 ⟨98,.int .i32 8,3⟩=8 from rfl]at this;rw[this];exact⟨rfl,rfl⟩
 by_cases e4:r=12
 ·subst e4;have:=hs ⟨102,.int .i32 12,4⟩ (by simp[C7]);rw[show F6 ⟨102,.int .i32 12,4⟩=12 from rfl]at this;rw[this];exact⟨rfl,rfl⟩
 by_cases e5:r=10
 ·subst e5;have:=hs ⟨110,.int .i32 10,5⟩ (by simp[C7]);rw[show F6 ⟨110,.int .i32 10,5⟩=10 from rfl]at this;rw[this];exact⟨rfl,rfl⟩
 by_cases e6:r=13
 ·subst e6;have:=hs ⟨114,.int .i32 13,6⟩ (by simp[C7]);rw[show F6 ⟨114,.int .i32 13,6⟩=13 from rfl]at this;rw[this];exact⟨rfl,rfl⟩
 by_cases e7:r=9
 ·subst e7;have:=hs ⟨116,.int .i32 9,7⟩ (by simp[C7]);rw[show F6 ⟨116,.int .i32 9,7⟩=9 from rfl]at this;rw[this];exact⟨rfl,rfl⟩
 have j:C4 l r=none:=i r (by
  intro p hp _
  simp only[C7,List.mem_cons,List.not_mem_nil,or_false]at hp
  rcases hp with rfl|rfl|rfl|rfl|rfl|rfl|rfl|rfl<;>simp only[F6]<;>omega)
 have hi:K2 r=false:=by simp[K2,e1,e2,e3,e4,e5,e6,e7]
 rw[j];simp[K3,hi,e3,e4,e5,e6,e7]
theorem lM{α:Type}(f g:α->Bool): ∀l:List α,(l.filter (λ q=> !(f q||g q))).length<=(l.filter (λ q=> !f q)).length/\((∃p∈l,f p=false/\g p=true)->(l.filter (λ q=> !(f q||g q))).length<(l.filter (λ q=> !f q)).length)
 |[]=>⟨Nat.le_refl _,λ⟨p,hp,_⟩=>by cases hp⟩
 |a::l=>by
  obtain⟨h1,h⟩:=lM f g l
  rw[List.filter_cons,List.filter_cons]
  cases hf:f a<;>cases hg:g a<;>simp only[Bool.or_false,Bool.or_true,Bool.false_or,Bool.true_or,Bool.not_false,Bool.not_true,if_true,if_false,Bool.false_eq_true,List.length_cons]
  ·refine⟨Aa,λ⟨p,hp,b,e⟩=>?_⟩
   rcases List.mem_cons.1 hp with rfl|hp
   ·rw[hg]at e;cases e
   ·have:=h ⟨p,hp,b,e⟩;omega
  ·exact⟨Aa,λ _=>by omega⟩
  ·refine⟨Aa,λ⟨p,hp,b,e⟩=>?_⟩
   rcases List.mem_cons.1 hp with rfl|hp
   ·rw[hf]at b;cases b
   ·exact h ⟨p,hp,b,e⟩
  ·refine⟨Aa,λ⟨p,hp,b,e⟩=>?_⟩
   rcases List.mem_cons.1 hp with rfl|hp
   ·rw[hf]at b;cases b
   ·exact h ⟨p,hp,b,e⟩
theorem AB6{seen:Array Nat}{p:KV}(hp:p∈C7)(b: ¬seen.contains p.born=true):(C7.filter (λ q=> !(seen.push p.born).contains q.born)).length<(C7.filter (λ q=> !seen.contains q.born)).length:=by
 have e:(λ q:KV=> !(seen.push p.born).contains q.born)=λ q=> !(seen.contains q.born||q.born==p.born):=by
  funext q;congr 1;rw[Bool.eq_iff_iff];simp[Array.contains_iff_mem,Array.mem_push]
 rw[e]
 exact(lM (λ q:KV=>seen.contains q.born) (λ q=>q.born==p.born) C7).2 ⟨p,hp,by simpa using b,by simp⟩
def LN(b:UInt8):Int:=if 48<=b.toNat/\b.toNat<=57 then b.toNat-48 else if 97<=b.toNat/\b.toNat<=102 then b.toNat-87 else if 65<=b.toNat/\b.toNat<=70 then b.toNat-55 else-1
def EF(l:A0):Bool:=l.all (λ b=>decide (0<=LN b))
def F7(l:A0):Int:=l.foldl (λ n b=>n*16+LN b) 0
def C0(s:A0):Int:=if len s<6 then-1 else if Lib.hasPrefix s [92,117]=false then-1 else if EF (Eng.sub s 2 6)then F7 (Eng.sub s 2 6)else-1
def BW(s:A0):Int×Int:=
 if len s<2 then(0,0)
 else if KI (A4 s 1)then(MT (A4 s 1),2)
 else if C0 s<0\/(56320<=C0 s/\C0 s<57344)then(0,0)
 else if C0 s<55296\/57344<=C0 s then(C0 s,6)
 else if C0 (A5 s 6)<56320\/57344<=C0 (A5 s 6)then(0,0)
 else(65536+(C0 s-55296)*1024+C0 (A5 s 6)-56320,12)
theorem AB7(b:UInt8):LN b<=15:=by unfold LN;(repeat' split)<;>omega
theorem UJ: ∀(l:A0) (n:Int),(∀b∈l,0<=LN b)->0<=n->0<=l.foldl (λ n b=>n*16+LN b) n/\l.foldl (λ n b=>n*16+LN b) n<(n+1)*16^l.length
 |[],n,_,h0=>by simp;omega
 |a::l,n,h,h0=>by
  have i:=h a (by simp)
  have e:=AB7 a
  have:=UJ l (n*16+LN a) (λ b e=>h b (by simp[e])) Aa
  rw[List.foldl_cons]
  refine⟨this.1,Int.lt_of_lt_of_le this.2 ?_⟩
  have h1:(n+1)*16^ (a::l).length=((n+1)*16)*16^l.length:=by rw[List.length_cons,Int.pow_succ,Int.mul_comm (16^l.length) 16,<-Int.mul_assoc]
  rw[h1]
  exact Int.mul_le_mul_of_nonneg_right Aa (Int.le_of_lt (Int.pow_pos (by decide:(0:Int)<16)))
theorem AB8{l:A0}(hl:len l=4)(h:EF l=true):0<=F7 l/\F7 l<=65535:=by
 unfold EF at h
 have:=UJ l 0 (by simpa[List.all_eq_true]using h) Aa
 rw[show l.length=4 from by unfold len at hl;omega]at this
 unfold F7;omega
theorem NY(s:A0): -1<=C0 s/\C0 s<=65535/\(0<=C0 s->6<=len s):=by
 unfold C0
 split
 ·omega
 ·split
  ·omega
  ·split
   ·rename_i h1 e b
    unfold EF at b
    have:=UJ (Eng.sub s 2 6) 0 (by simpa[List.all_eq_true]using b) Aa
    have hl:(Eng.sub s 2 6).length=4:=by have:=FF (s:=s) (i:=2) (j:=6) Aa Aa Aa;unfold len at this;omega
    rw[hl]at this
    unfold F7;omega
   ·omega
theorem AB9(s:A0):0<=(BW s).1/\(BW s).1<=1114111/\0<=(BW s).2/\(BW s).2<=12:=by
 have h1:=NY s
 have b:=NY (A5 s 6)
 have e:=L7 s 1
 have h:0<=MT (A4 s 1)/\MT (A4 s 1)<=255:=by unfold MT;(repeat' split)<;>omega
 unfold BW
 repeat' split
 all_goals (dsimp only;omega)
def DQ(f:Nat)(s:A0)(i:Int)(acc:List Int):A0×Int×Int:=
 match f with
 |0=>([],len s,1)
 |f+1=>
  if i<len s then
   if B2 (A5 s i) 0=34 then(toStr acc,i+1,0)
   else if B2 (A5 s i) 0=92 then
    if(BW (A5 s i)).2=0 then([],i,1)else DQ f s (i+(BW (A5 s i)).2) (acc++Lib.encodeRuneZ (BW (A5 s i)).1)
   else if B2 (A5 s i) 0<32\/(B2 (A5 s i) 0=65533/\runeLen (A5 s i) 0=1)then([],i,1)
   else DQ f s (i+runeLen (A5 s i) 0) (acc++Lib.encodeRuneZ (B2 (A5 s i) 0))
  else([],len s,1)
def B4(s:A0):A0×Int×Int:=if Lib.hasPrefix s [34]then DQ s.length s 1 []else([],0,1)
theorem RN{f:Nat}{s:A0}{i:Int}{acc:List Int}(b:(len s-i).toNat<=f)(h1:i<len s):DQ f s i acc=
  (if B2 (A5 s i) 0=34 then(toStr acc,i+1,0)
   else if B2 (A5 s i) 0=92 then
    if(BW (A5 s i)).2=0 then([],i,1)else DQ (f-1) s (i+(BW (A5 s i)).2) (acc++Lib.encodeRuneZ (BW (A5 s i)).1)
   else if B2 (A5 s i) 0<32\/(B2 (A5 s i) 0=65533/\runeLen (A5 s i) 0=1)then([],i,1)
   else DQ (f-1) s (i+runeLen (A5 s i) 0) (acc++Lib.encodeRuneZ (B2 (A5 s i) 0))):=by
 cases f with
 |zero=>omega
 |succ f=>
     conv=>lhs;unfold DQ
     rw[if_pos h1];rfl
theorem lN{f:Nat}{s:A0}{i:Int}{acc:List Int}(h1: ¬i<len s):DQ f s i acc=([],len s,1):=by
 cases f with
 |zero=>rfl
 |succ f=>unfold DQ;rw[if_neg h1]
theorem AC0:Lets #[] []:=⟨by simp,λ p _ h=>by simp at h,λ r _=>rfl⟩
def NZ(n:Int):Int:=if n<10 then 48+n else 87+n
def E9(r:Int):A0:=if K2 r then [92,(K3 r).toNat.toUInt8]else if r<32 then [92,117,48,48,(NZ (r/16)).toNat.toUInt8,(NZ (r%16)).toNat.toUInt8]else Lib.encodeRune r
theorem UK(s:A0)(p:Int)(h0:0<=p)(h1:p<len s):1<=runeLen s p/\p+runeLen s p<=len s:=by
 have hs:(ByteArray.mk ⟨s⟩).size=s.length:=rfl
 have e:=Lib.decode_width_pos ⟨⟨s⟩⟩ p.toNat (by rw[hs];unfold len at h1;omega)
 have b:(Utf8.decode ⟨⟨s⟩⟩ p.toNat).2<=(ByteArray.mk ⟨s⟩).size-p.toNat:=by rw[Lib.decode_at];exact Lib.decodeN_width_le _ _ _ _ _ (by rw[hs];unfold len at h1;omega)
 rw[hs]at b
 unfold runeLen len at*;omega
def GR(s:A0)(p:Int):A0:=if h:0<=p/\p<len s then E9 (B2 s p)++GR s (p+runeLen s p)else []
termination_by (len s-p).toNat
decreasing_by have:=UK s p h.1 h.2;omega
def DZ(s:A0):A0:=34::GR s 0++[34]
theorem cL{s:A0}{p:Int}(h0:0<=p)(h1:p<len s):GR s p=E9 (B2 s p)++GR s (p+runeLen s p):=by rw[GR,dif_pos ⟨h0,h1⟩]
theorem cM{s:A0}{p:Int}(h1: ¬p<len s):GR s p=[]:=by rw[GR,dif_neg Aa]
theorem cN(s:A0)(p:Int):0<=B2 s p/\B2 s p<=1114111:=by have:=Lib.rune_le ⟨⟨s⟩⟩ p.toNat;unfold B2;omega
theorem AC1(r:Int):0<=K3 r/\K3 r<=255:=by
 unfold K3
 (repeat' split)<;>first|omega|skip
 rename_i h;unfold K2 at h;simp only[Bool.or_eq_true,beq_iff_eq]at h;omega
theorem AC2{r:Int}(h:K2 r=true):ints (E9 r)=[92,K3 r]:=by
 have:=AC1 r
 unfold E9;rw[if_pos h];simp[ints];omega
theorem AC3{r:Int}(h:K2 r=false)(b:r<32)(e:0<=r):ints (E9 r)=ints [92,117,48,48]++ints (A5 [49,(NZ (r/16)).toNat.toUInt8,(NZ (r%16)).toNat.toUInt8] 1):=by
 unfold E9;rw[if_neg (by rw[h];simp),if_pos b];rfl
theorem AC4{r:Int}(h:K2 r=false)(b: ¬r<32):ints (E9 r)=Lib.encodeRuneZ r:=by
 unfold E9;rw[if_neg (by rw[h];simp),if_neg b]
 unfold ints Lib.encodeRune;rw[List.map_map]
 conv=>rhs;rw[<-List.map_id (Lib.encodeRuneZ r)]
 apply List.map_congr_left
 intro x hx
 have:=Lib.encodeRuneZ_byte r x hx
 simp;omega
def LO(b:UInt8):Bool:=NO (b.toNat:Int)
def E4(s:A0)(i:Int):Int:=i+len ((A5 s i).takeWhile LO)
theorem lO(s:A0)(i:Int)(h0:0<=i)(h1:i<=len s):i<=E4 s i/\E4 s i<=len s:=by
 have b:=EB s i h0 h1
 have e:=(List.takeWhile_sublist LO (l:=A5 s i)).length_le
 unfold E4 len at*;omega
def MU(n:Int):A0:=Eng.sub [48,49,50,51,52,53,54,55,56,57,97,98,99,100,101,102] n (n+1)
def MV(c:Int):A0:=
 if c=34 then [92,34]else if c=92 then [92,92]else if c=8 then [92,98]else if c=12 then [92,102]else if c=10 then [92,110]else if c=13 then [92,114]else if c=9 then [92,116]
 else if c<32 then [92,117,48,48]++MU (c/16)++MU (c%16)else toStr [c]
def KJ(b:UInt8):A0:=MV (b.toNat:Int)
def MW(s:A0):A0:=34::s.flatMap KJ++[34]
theorem AC5(c:Int):0<=len (MV c)/\len (MV c)<=6:=by
 have h1:=PJ ([48,49,50,51,52,53,54,55,56,57,97,98,99,100,101,102]:A0) (c/16) (c/16+1)
 have b: ∀n:Int,0<=len (MU n)/\len (MU n)<=1:=by intro n;unfold MU Eng.sub len;simp;omega
 have e:=b (c/16)
 have h:=b (c%16)
 unfold MV toStr
 (repeat' split)<;>(simp only[AO,AL,len_nil,List.map_cons,List.map_nil];omega)
theorem lP{s:A0}{k:Int}(h0:0<=k)(h1:k<len s): ∃b,Eng.sub s 0 (k+1)=Eng.sub s 0 k++[b]/\(b.toNat:Int)=A4 s k:=by
 have h:k.toNat<s.length:=by unfold len at h1;omega
 refine⟨s[k.toNat],?_,by simp[A4,h]⟩
 unfold Eng.sub
 simp only[Int.toNat_zero,List.drop_zero,Nat.sub_zero]
 rw[show(k+1).toNat=k.toNat+1 from by omega,List.take_succ_eq_append_getElem h]
theorem AC6{s:A0}{k:Int}{o:A0}(h0:0<=k)(h1:k<len s)(h:o=34::(Eng.sub s 0 k).flatMap KJ):o++MV (A4 s k)=34::(Eng.sub s 0 (k+1)).flatMap KJ:=by
 obtain⟨b,e,i⟩:=lP h0 h1
 rw[e,h,List.flatMap_append,<-i];simp[KJ]
theorem PK{b:UInt8}:(([48]:A0).contains b)=true↔(b.toNat:Int)=48:=by
 simp only[List.contains_cons,List.contains_nil,Bool.or_false,beq_iff_eq]
 constructor
 ·rintro rfl;rfl
 ·intro h;apply UInt8.toNat_inj.1;show b.toNat=48;omega
theorem lQ{s:A0}(h: ¬(0<len s/\A4 s 0=48)):AW s=s:=by
 cases s with
 |nil=>rfl
 |cons a l=>
  unfold AW
  rw[List.dropWhile_cons,if_neg]
  intro b
  have h1:=PK.1 b
  exact h ⟨by rw[AL];have:=A8 l;omega,by simpa[A4]using h1⟩
theorem AC7{s:A0}(h:0<len s/\A4 s 0=48):AW (A5 s 1)=AW s:=by
 cases s with
 |nil=>exact absurd h.1 Ab
 |cons a l=>
  rw[AA4]
  unfold AW
  conv=>rhs;rw[List.dropWhile_cons,if_pos (PK.2 (by simpa[A4]using h.2))]
theorem cO{s:A0}(h:0<len s): ∃b,s=Eng.sub s 0 (len s-1)++[b]/\(b.toNat:Int)=A4 s (len s-1):=by
 obtain⟨b,h1,e⟩:=lP (s:=s) (k:=len s-1) Aa Aa
 rw[show len s-1+1=len s from by omega,NP s (len s) Aa]at h1
 exact⟨b,h1,e⟩
theorem AC8{s:A0}(h:0<len s)(i:A4 s (len s-1)=48):BG (Eng.sub s 0 (len s-1))=BG s:=by
 obtain⟨b,e,j⟩:=cO h
 generalize Eng.sub s 0 (len s-1)=v at e
 rw[e]
 unfold BG Lib.trimRightS
 rw[List.reverse_append,List.reverse_singleton,List.singleton_append,List.dropWhile_cons,if_pos (PK.2 (by rw[j,i]))]
theorem AC9{s:A0}(h:0<len s)(i: ¬A4 s (len s-1)=48):BG s=s:=by
 obtain⟨b,e,j⟩:=cO h
 generalize Eng.sub s 0 (len s-1)=v at e
 rw[e]
 unfold BG Lib.trimRightS
 rw[List.reverse_append,List.reverse_singleton,List.singleton_append,List.dropWhile_cons,if_neg (λ k=>i (by rw[<-j];exact PK.1 k))]
 simp
theorem cP(x:Int)(n:Nat)(h:x.toNat=n):toStr [x]=[UInt8.ofNat n]:=by subst h;rfl
theorem cQ{k:Int}(h:0<=k):Lib.itoa k=(if 10<=k then Lib.itoa (k/10)else [])++toStr [48+k%10]:=by
 rw[cP _ (48+k.toNat%10) Aa]
 by_cases hk:10<=k
 ·rw[if_pos hk]
  unfold Lib.itoa
  rw[if_neg Aa,if_neg Aa,Lib.decDigits,dif_neg Aa,show(k/10).toNat=k.toNat/10 from by omega]
 ·rw[if_neg hk]
  unfold Lib.itoa
  rw[if_neg Aa,Lib.decDigits,dif_pos Aa,Nat.mod_eq_of_lt Aa];rfl
theorem AD0{a:UInt8}{l:A0}(h:(([48]:A0).contains a)=true):AW (a::l)=AW l:=by unfold AW;rw[List.dropWhile_cons,if_pos h]
def PL(n x0 x1 x2 x3:Nat):Nat:=
 if x0<128 then 1
 else if 194<=x0/\x0<224/\(1<n/\128<=x1/\x1<192)then 2
 else if 224<=x0/\x0<240/\(1<n/\128<=x1/\x1<192)/\(2<n/\128<=x2/\x2<192)then
  if(x0=224/\x1<160)\/(x0=237/\160<=x1)then 0 else 3
 else if 240<=x0/\x0<245/\(1<n/\128<=x1/\x1<192)/\(2<n/\128<=x2/\x2<192)/\(3<n/\128<=x3/\x3<192)then
  if(x0=240/\x1<144)\/(x0=244/\144<=x1)then 0 else 4
 else 0
def cS(n x0 x1 x2 x3 k r l:Nat):Prop:=
 (k=0/\r=65533/\l=1/\128<=x0)\/(k=1/\r=x0/\l=1/\x0<128)\/
 (k=2/\l=2/\2<=n/\128<=r/\r<=2047/\192+r/64=x0/\128+r%64=x1)\/
 (k=3/\l=3/\3<=n/\((2048<=r/\r<55296)\/(57343<r/\r<=65535))/\224+r/4096=x0/\128+r/64%64=x1/\128+r%64=x2)\/
 (k=4/\l=4/\4<=n/\65536<=r/\r<=1114111/\240+r/262144=x0/\128+r/4096%64=x1/\128+r/64%64=x2/\128+r%64=x3)
set_option maxHeartbeats 4000000 in
set_option maxRecDepth 100000 in
theorem cT(n b e h i:Nat)(j:1<=n)(h0:b<256)(h1:e<256)(k:h<256)(l:i<256):cS n b e h i (PL n b e h i) (Lib.decodeN n b e h i).1 (Lib.decodeN n b e h i).2:=by
 unfold PL Lib.decodeN cS
 repeat' split
 all_goals first|exact .inl ⟨rfl,rfl,rfl,Aa⟩|exact .inr (.inl ⟨rfl,rfl,rfl,Aa⟩)|exact .inr (.inr (.inl ⟨rfl,rfl,Aa,by dsimp only;omega,by dsimp only;omega,by dsimp only;omega,by dsimp only;omega⟩))|exact .inr (.inr (.inr (.inl ⟨rfl,rfl,Aa,by dsimp only;omega,by dsimp only;omega,by dsimp only;omega,by dsimp only;omega⟩)))|exact .inr (.inr (.inr (.inr ⟨rfl,rfl,Aa,by dsimp only;omega,by dsimp only;omega,by dsimp only;omega,by dsimp only;omega,by dsimp only;omega,by dsimp only;omega⟩)))|(exfalso;omega)
theorem X7(s:A0)(i:Int)(h0:0<=i)(j:Nat):A4 s (i+j)=((s.getD (i.toNat+j) 0).toNat:Int):=by
 unfold A4;rw[show(i+j).toNat=i.toNat+j from by omega]
theorem lR(s:A0)(i:Int)(j:Nat):(A5 s i).getD j 0=s.getD (i.toNat+j) 0:=by
 unfold A5;simp[List.getD_eq_getElem?_getD,List.getElem?_drop]
theorem lS(l:A0)(j:Nat):(ByteArray.mk ⟨l⟩).get! j=l.getD j 0:=by
 show(Array.mk l)[j]! =_
 simp[List.getD_eq_getElem?_getD]
 rfl
theorem K4{α:Type}(s:List α)(i j:Int)(h0:0<=i)(h1:0<=j):A5 (A5 s i) j=A5 s (i+j):=by
 unfold A5;rw[List.drop_drop,show(i+j).toNat=i.toNat+j.toNat from by omega]
theorem O0(s:A0)(i j:Int)(h0:0<=i)(h1:0<=j):A4 (A5 s i) j=A4 s (i+j):=by
 unfold A4;rw[lR,show(i+j).toNat=i.toNat+j.toNat from by omega]
theorem X8(s:A0)(i:Int)(h0:0<=i):
  Utf8.decode ⟨⟨A5 s i⟩⟩ 0=Lib.decodeN (s.length-i.toNat) (s.getD i.toNat 0).toNat (s.getD (i.toNat+1) 0).toNat (s.getD (i.toNat+2) 0).toNat (s.getD (i.toNat+3) 0).toNat:=by
 rw[Lib.decode_at]
 simp only[lS,lR,Nat.zero_add,Nat.add_zero,Nat.sub_zero]
 congr 1
 show(A5 s i).length=_
 unfold A5;rw[List.length_drop]
theorem RO(s:A0)(i:Int)(h0:0<=i):Utf8.decode ⟨⟨s⟩⟩ i.toNat=Utf8.decode ⟨⟨A5 s i⟩⟩ 0:=by
 rw[X8 s i h0,Lib.decode_at]
 simp only[lS];rfl
theorem RP(s:A0)(i:Int)(h0:0<=i):B2 (A5 s i) 0=B2 s i:=by unfold B2;rw[RO s i h0];rfl
theorem PM(s:A0)(i:Int)(h0:0<=i):runeLen (A5 s i) 0=runeLen s i:=by unfold runeLen;rw[RO s i h0];rfl
theorem X9{s:A0}{i:Int}(h0:0<=i): ∀n:Nat,i+n<=len s->Eng.sub s i (i+n)=(List.range n).map (λ j=>s.getD (i.toNat+j) 0):=by
 intro n h
 unfold Eng.sub
 apply List.ext_getElem?
 intro k
 rw[show(i+n).toNat-i.toNat=n from by omega]
 unfold len at h
 by_cases hk:k<n
 ·rw[List.getElem?_take,if_pos hk,List.getElem?_drop]
  have:i.toNat+k<s.length:=by omega
  simp[hk,this]
 ·rw[List.getElem?_take,if_neg hk]
  simp[hk]
theorem KK(b:UInt8)(x:Int)(h:x=(b.toNat:Int)):UInt8.ofNat x.toNat=b:=by subst h;simp
theorem cU{s:A0}{i:Int}(h0:0<=i)(h1:i<len s):rune s i=(PL (s.length-i.toNat) (s.getD i.toNat 0).toNat (s.getD (i.toNat+1) 0).toNat (s.getD (i.toNat+2) 0).toNat (s.getD (i.toNat+3) 0).toNat:Nat):=by
 have e0:A4 s i=((s.getD i.toNat 0).toNat:Int):=rfl
 have b:A4 s (i+1)=((s.getD (i.toNat+1) 0).toNat:Int):=X7 s i h0 1
 have e2:A4 s (i+2)=((s.getD (i.toNat+2) 0).toNat:Int):=X7 s i h0 2
 have e3:A4 s (i+3)=((s.getD (i.toNat+3) 0).toNat:Int):=X7 s i h0 3
 have hlen:len s=(s.length:Int):=rfl
 unfold rune cont PL
 simp only[e0,b,e2,e3]
 simp only[Bool.and_eq_true,Bool.or_eq_true,decide_eq_true_eq,beq_iff_eq]
 repeat' split
 all_goals first|rfl|(exfalso;omega)
theorem LP{s:A0}{i:Int}(h0:0<=i)(h1:i<len s):
  (rune s i=0/\B2 s i=65533/\runeLen s i=1/\128<=A4 s i)\/
  (1<=rune s i/\runeLen s i=rune s i/\ ¬(B2 s i=65533/\runeLen s i=1)/\toStr (Lib.encodeRuneZ (B2 s i))=Eng.sub s i (i+rune s i)/\(A4 s i<128->rune s i=1/\B2 s i=A4 s i)/\(128<=A4 s i->128<=B2 s i)):=by
 have hlen:len s=(s.length:Int):=rfl
 have b:=cU h0 h1
 have hle:=rune_le s i h1
 have e0:A4 s i=((s.getD i.toNat 0).toNat:Int):=rfl
 have s1:=X9 (s:=s) h0 1
 have s2:=X9 (s:=s) h0 2
 have h:=X9 (s:=s) h0 3
 have j:=X9 (s:=s) h0 4
 simp only[List.range_succ,List.range_zero,List.nil_append,List.map_append,List.map_cons,List.map_nil,List.cons_append,Nat.add_zero]at s1 s2 h j
 have e:B2 s i=((Lib.decodeN (s.length-i.toNat) (s.getD i.toNat 0).toNat (s.getD (i.toNat+1) 0).toNat (s.getD (i.toNat+2) 0).toNat (s.getD (i.toNat+3) 0).toNat).1:Nat):=by
  unfold B2;rw[RO s i h0,X8 s i h0]
 have hl:runeLen s i=((Lib.decodeN (s.length-i.toNat) (s.getD i.toNat 0).toNat (s.getD (i.toNat+1) 0).toNat (s.getD (i.toNat+2) 0).toNat (s.getD (i.toNat+3) 0).toNat).2:Nat):=by
  unfold runeLen;rw[RO s i h0,X8 s i h0]
 have k:=cT (s.length-i.toNat) (s.getD i.toNat 0).toNat (s.getD (i.toNat+1) 0).toNat (s.getD (i.toNat+2) 0).toNat (s.getD (i.toNat+3) 0).toNat Aa (UInt8.toNat_lt _) (UInt8.toNat_lt _) (UInt8.toNat_lt _) (UInt8.toNat_lt _)
 generalize Lib.decodeN (s.length-i.toNat) (s.getD i.toNat 0).toNat (s.getD (i.toNat+1) 0).toNat (s.getD (i.toNat+2) 0).toNat (s.getD (i.toNat+3) 0).toNat=D at*
 generalize PL (s.length-i.toNat) (s.getD i.toNat 0).toNat (s.getD (i.toNat+1) 0).toNat (s.getD (i.toNat+2) 0).toNat (s.getD (i.toNat+3) 0).toNat=K at*
 obtain⟨r,l⟩:=D
 dsimp only at k e hl
 rcases k with⟨rfl,hd,hx⟩|⟨rfl,hd,hx⟩|⟨rfl,hd,hx⟩|⟨rfl,hd,hx⟩|⟨rfl,hd,hx⟩
 ·left;refine⟨Aa,Aa,Aa,Aa⟩
 ·right
  refine⟨Aa,Aa,Aa,?_,λ _=>⟨Aa,Aa⟩,Aa⟩
  rw[e,b,Lib.encodeRuneZ_one Aa Aa]
  rw[show((1:Nat):Int)=1 from rfl]at*
  rw[s1 Aa]
  simp only[toStr,List.map_cons,List.map_nil]
  rw[KK (s.getD i.toNat 0) _ Aa]
 ·right
  refine⟨Aa,Aa,Aa,?_,Aa,Aa⟩
  rw[e,b,Lib.encodeRuneZ_two Aa Aa]
  have:=s2 Aa
  refine Eq.trans ?_ this.symm
  simp only[toStr,List.map_cons,List.map_nil]
  rw[KK (s.getD i.toNat 0) _ Aa,KK (s.getD (i.toNat+1) 0) _ Aa]
 ·right
  refine⟨Aa,Aa,Aa,?_,Aa,Aa⟩
  rw[e,b,Lib.encodeRuneZ_three Aa]
  have:=h Aa
  refine Eq.trans ?_ this.symm
  simp only[toStr,List.map_cons,List.map_nil]
  rw[KK (s.getD i.toNat 0) _ Aa,KK (s.getD (i.toNat+1) 0) _ Aa,KK (s.getD (i.toNat+2) 0) _ Aa]
 ·right
  refine⟨Aa,Aa,Aa,?_,Aa,Aa⟩
  rw[e,b,Lib.encodeRuneZ_four Aa Aa]
  have:=j Aa
  refine Eq.trans ?_ this.symm
  simp only[toStr,List.map_cons,List.map_nil]
  rw[KK (s.getD i.toNat 0) _ Aa,KK (s.getD (i.toNat+1) 0) _ Aa,KK (s.getD (i.toNat+2) 0) _ Aa,KK (s.getD (i.toNat+3) 0) _ Aa]
def lT(s:A0):A0:=s.dropWhile (([48,49,50,51,52,53,54,55,56,57,43,45,46,101,69]:A0).contains ·)
def IJ(b:UInt8):Bool:=([48,49,50,51,52,53,54,55,56,57,43,45,46,101,69]:A0).contains b
theorem drop_take{α:Type}(p:α->Bool): ∀l:List α,l.dropWhile p=l.drop (l.takeWhile p).length
 |[]=>rfl
 |a::l=>by
  rw[List.dropWhile_cons,List.takeWhile_cons]
  split
  ·rw[List.length_cons,List.drop_succ_cons];exact drop_take p l
  ·rfl
def runN(s:A0):A0:=Eng.sub s 0 (len s-len (lT s))
theorem XA(s:A0):runN s=s.takeWhile IJ:=by
 unfold runN lT
 rw[show(λ b=>([48,49,50,51,52,53,54,55,56,57,43,45,46,101,69]:A0).contains b)=IJ from rfl,drop_take]
 have h:=(List.takeWhile_prefix IJ (l:=s)).length_le
 unfold Eng.sub len
 rw[List.length_drop]
 have e:((s.length:Int)-((s.length-(s.takeWhile IJ).length:Nat):Int)).toNat-Int.toNat 0=(s.takeWhile IJ).length:=by omega
 rw[e]
 simp only[Int.toNat_zero,List.drop_zero]
 exact(List.prefix_iff_eq_take.1 (List.takeWhile_prefix IJ)).symm
def EM(s:A0):A0:=(G7.find? (λ m=>Lib.hasPrefix s m)).getD []
theorem RT(s:A0):EM s=[]\/(EM s∈G7/\Lib.hasPrefix s (EM s)=true):=by
 unfold EM
 cases h:G7.find? (λ m=>Lib.hasPrefix s m)with
 |none=>left;rfl
 |some m=>right;exact⟨List.mem_of_find?_eq_some h,by simpa using List.find?_some h⟩
def cV:Tk:=⟨0,[],C3,0⟩
def C1(s:A0):Tk×Int×Int:=
 if A4 s 0=46/\BD (A5 s 1)≠[]then(⟨3,BD (A5 s 1),C3,0⟩,1+len (BD (A5 s 1)),0)
 else if A4 s 0=46/\Lib.hasPrefix (A5 s 1) [34]=true then(⟨3,(B4 (A5 s 1)).1,C3,0⟩,1+(B4 (A5 s 1)).2.1,(B4 (A5 s 1)).2.2)
 else if EM s≠[]then(⟨1,EM s,C3,0⟩,len (EM s),0)
 else if BD s≠[]then(⟨2,BD s,C3,0⟩,len (BD s),0)
 else if A4 s 0=34 then(⟨4,(B4 s).1,C3,0⟩,(B4 s).2.1,(B4 s).2.2)
 else if A4 s 0=45\/C5 (A4 s 0)=true then
  if(GC (runN s)).2.2≠0 then(cV,(GC (runN s)).2.1,(GC (runN s)).2.2)
  else(⟨5,[],(GC (runN s)).1,0⟩,len (runN s),0)
 else(cV,0,1)
def XB(s:A0):Tk:=⟨6,[],C3,len s⟩
def PN(f:Nat)(s:A0)(i:Int)(acc:List Tk):List Tk×Int×Int:=
 match f with
 |0=>(acc++[XB s],0,0)
 |f+1=>
  if i<len s then
   if(C1 (A5 s i)).2.2≠0 then([],i+(C1 (A5 s i)).2.1,(C1 (A5 s i)).2.2)
   else PN f s (E4 s (i+(C1 (A5 s i)).2.1)) (acc++[{ (C1 (A5 s i)).1 with pos:=i}])
  else(acc++[XB s],0,0)
theorem AD1{f:Nat}{s:A0}{i:Int}{acc:List Tk}(b:(len s-i).toNat<=f)(h1:i<len s):PN f s i acc=
  if(C1 (A5 s i)).2.2≠0 then([],i+(C1 (A5 s i)).2.1,(C1 (A5 s i)).2.2)
   else PN (f-1) s (E4 s (i+(C1 (A5 s i)).2.1)) (acc++[{ (C1 (A5 s i)).1 with pos:=i}]):=by
 cases f with
 |zero=>omega
 |succ f=>
    conv=>lhs;unfold PN
    rw[if_pos h1];rfl
theorem AD2{f:Nat}{s:A0}{i:Int}{acc:List Tk}(h1: ¬i<len s):PN f s i acc=(acc++[XB s],0,0):=by
 cases f with
 |zero=>rfl
 |succ f=>unfold PN;rw[if_neg h1]
theorem LQ{s:A0}{i:Int}(h0:0<=i)(h1:i<=len s):i<=CP s i/\CP s i<=len s:=by
 by_cases h:i<len s
 ·by_cases hw:CF (A4 s i) (i==0)=true
  ·have:=LQ (s:=s) (i:=i+1) Aa Aa
   rw[TF h0 h hw]at this;omega
  ·rw[TG h0 h (by simpa using hw)];omega
 ·rw[TH h];omega
termination_by (len s-i).toNat
theorem LR(s:A0):len (BD s)=CP s 0:=by
 have:=LQ (s:=s) (i:=0) Aa (A8 s)
 unfold BD;rw[FF Aa Aa Aa];omega
theorem UL(s:A0):0<=len (BD s)/\len (BD s)<=len s:=by
 have:=LQ (s:=s) (i:=0) Aa (A8 s)
 rw[LR];omega
theorem XC{α:Type}(s:List α)(i:Int)(h0:0<=i):len (A5 s i)=if i<=len s then len s-i else 0:=by
 unfold A5 len;rw[List.length_drop];split<;>omega
theorem XD(s:A0):0<=(BW s).2/\(BW s).2<=len s/\((BW s).2≠0->2<=(BW s).2):=by
 have h1:=NY s
 have e:=NY (A5 s 6)
 have b:=XC s 6 Aa
 have h:=A8 s
 unfold BW
 repeat' split
 all_goals (dsimp only;try (split at b);all_goals omega)
theorem cW{s:A0}{i:Int}(h0:0<=i)(h1:i<len s):1<=runeLen s i/\i+runeLen s i<=len s:=by
 have e:=rune_le s i h1
 rcases LP h0 h1 with⟨_,_,b,_⟩|⟨b,h,_⟩<;>omega
theorem XH{f:Nat}{s:A0}{i:Int}{acc:List Int}(h0:0<=i)(h1:i<=len s):
  0<=(DQ f s i acc).2.1/\(DQ f s i acc).2.1<=len s/\((DQ f s i acc).2.2=0->i<(DQ f s i acc).2.1)/\((DQ f s i acc).2.2=0\/(DQ f s i acc).2.2=1):=by
 induction f generalizing i acc with
 |zero=>unfold DQ;dsimp only;omega
 |succ f e=>
  unfold DQ
  split
  ·rename_i b
   have h:=EB s i h0 h1
   split
   ·dsimp only;omega
   ·split
    ·have he:=XD (A5 s i)
     split
     ·dsimp only;omega
     ·have:=e (i:=i+(BW (A5 s i)).2) (acc:=acc++Lib.encodeRuneZ (BW (A5 s i)).1) Aa Aa
      omega
    ·split
     ·dsimp only;omega
     ·have j:=cW h0 b
      rw[PM s i h0]
      have:=e (i:=i+runeLen s i) (acc:=acc++Lib.encodeRuneZ (B2 (A5 s i) 0)) Aa Aa
      omega
  ·dsimp only;omega
theorem XI{s p:A0}(h:Lib.hasPrefix s p=true):len p<=len s:=by
 have:=(List.isPrefixOf_iff_prefix.1 h).length_le
 unfold len;omega
theorem O1(s:A0):0<=(B4 s).2.1/\(B4 s).2.1<=len s/\((B4 s).2.2=0->2<=(B4 s).2.1)/\((B4 s).2.2=0\/(B4 s).2.2=1):=by
 unfold B4
 split
 ·rename_i h
  have h1:(1:Int)<=len s:=XI h
  have:=XH (f:=s.length) (s:=s) (i:=1) (acc:=[]) Aa h1
  omega
 ·have:=A8 s;dsimp only;omega
def RU(t:Tk):A0:=
 if t.kind=3 then 46::(if ¬BD t.s=t.s\/t.s=[]then DZ t.s else t.s)
 else if t.kind=4 then DZ t.s
 else if t.kind=5 then I3 t.c
 else t.s
def EV(s:A0):A0:=if FK s then s else MW s
end Go.Eng
