/- Lemmas for the card. -/
import Derived.Test.YtnoegalemkbbbaaGreatDoorKt5
import Derived.Shelf.Strings.SlTrimAscii
import Derived.Test.YtnoegalemkbbbaaGreatDoorCards
import Derived.Test.YtnoegalemkbbbaaGreatDoorTie
import Derived.Deep.DeepWitnessRowRef
import Derived.Lib.LaidU8T
import Derived.Lib.LaidIn
import Derived.Lib.TrailingZeros
import Derived.Stop.LaidErr
import Derived.Lib.QuoteLoop
import Derived.Lib.RuneCount
import Derived.Lib.Join
set_option linter.unusedVariables false
set_option linter.unusedSimpArgs false
set_option maxRecDepth 100000
set_option maxRecDepth 100000
namespace Go.Proofs.YtnoegalemkbbbaaGreatDoor
open Go.Proofs.Tryz
open Go.Eng
abbrev aT(n:Nat):Nat×TD:=(n,⟨.any,1,false⟩)
def tt:TT:=[aT 0,aT 1,(2,⟨.int .i64,1,false⟩),(3,⟨.int .i64,1,false⟩),(4,⟨.bool,1,false⟩),(5,⟨.int .u8,1,false⟩),(6,⟨.int .u8,1,false⟩),(7,⟨.st [(0,1,false),(1,1,false),(2,1,false),(3,1,false)] [.int .i64 0,.int .i64 0,.bool false,.int .u8 0],4,true⟩),(8,⟨.st [(0,1,false),(1,1,false),(2,1,false),(3,1,false)] [.int .i64 0,.int .i64 0,.bool false,.int .u8 0],4,true⟩),(9,⟨.str,1,false⟩),(10,⟨.str,1,false⟩),(11,⟨.str,1,false⟩),(12,⟨.int .u64,1,false⟩),(13,⟨.st [(0,1,false),(1,1,false)] [.string ⟨⟨[]⟩⟩,.int .u64 0],2,true⟩),(14,⟨.st [(0,1,false),(1,1,false)] [.string ⟨⟨[]⟩⟩,.int .u64 0],2,true⟩),aT 15,aT 16,aT 17,(18,⟨.st [(0,1,false)] [.pointer none],1,true⟩),(19,⟨.st [(0,1,false)] [.pointer none],1,true⟩),aT 20,(21,⟨.int .i32,1,false⟩),(22,⟨.row 48 11,1,false⟩),(23,⟨.row 48 11,1,false⟩),(24,⟨.row 52 11,1,false⟩),(25,⟨.row 52 11,1,false⟩),aT 26,aT 27,aT 28,aT 29,aT 30,aT 31,(32,⟨.row 46 6,1,false⟩),(33,⟨.row 46 6,1,false⟩),aT 34,aT 35,aT 36,(37,⟨.int .i64,1,false⟩),aT 38,aT 39,aT 40,aT 41,aT 42,aT 43,aT 44,(45,⟨.st [(0,1,false),(1,1,false),(2,1,false),(3,1,false),(4,1,false),(5,1,false)] [.int .i64 0,.int .i64 0,.string ⟨⟨[]⟩⟩,.string ⟨⟨[]⟩⟩,.bool false,.int .i64 0],6,true⟩),(46,⟨.st [(0,1,false),(1,1,false),(2,1,false),(3,1,false),(4,1,false),(5,1,false)] [.int .i64 0,.int .i64 0,.string ⟨⟨[]⟩⟩,.string ⟨⟨[]⟩⟩,.bool false,.int .i64 0],6,true⟩),(47,⟨.st [(0,1,false),(1,1,false),(2,1,false),(3,1,false),(4,1,false),(5,6,true)] [.int .i64 0,.int .i64 0,.string ⟨⟨[]⟩⟩,.string ⟨⟨[]⟩⟩,.int .i64 0,.int .i64 0,.int .i64 0,.string ⟨⟨[]⟩⟩,.string ⟨⟨[]⟩⟩,.bool false,.int .i64 0],11,true⟩),(48,⟨.st [(0,1,false),(1,1,false),(2,1,false),(3,1,false),(4,1,false),(5,6,true)] [.int .i64 0,.int .i64 0,.string ⟨⟨[]⟩⟩,.string ⟨⟨[]⟩⟩,.int .i64 0,.int .i64 0,.int .i64 0,.string ⟨⟨[]⟩⟩,.string ⟨⟨[]⟩⟩,.bool false,.int .i64 0],11,true⟩),aT 49,aT 50,(51,⟨.st [(0,1,false),(1,1,false),(2,1,false),(3,1,false),(4,1,false),(5,6,true)] [.int .i64 0,.int .i64 0,.string ⟨⟨[]⟩⟩,.string ⟨⟨[]⟩⟩,.int .i64 0,.int .i64 0,.int .i64 0,.string ⟨⟨[]⟩⟩,.string ⟨⟨[]⟩⟩,.bool false,.int .i64 0],11,true⟩),(52,⟨.st [(0,1,false),(1,1,false),(2,1,false),(3,1,false),(4,1,false),(5,6,true)] [.int .i64 0,.int .i64 0,.string ⟨⟨[]⟩⟩,.string ⟨⟨[]⟩⟩,.int .i64 0,.int .i64 0,.int .i64 0,.string ⟨⟨[]⟩⟩,.string ⟨⟨[]⟩⟩,.bool false,.int .i64 0],11,true⟩),(53,⟨.row 25 1,1,false⟩),aT 54,(55,⟨.row 23 1,1,false⟩),aT 56,(57,⟨.any,2,true⟩),aT 58,(59,⟨.row 33 1,1,false⟩),(60,⟨.row 105 3,1,false⟩),(61,⟨.row 105 3,1,false⟩),aT 62,aT 63,aT 64,aT 65,aT 66,aT 67,aT 68,aT 69,aT 70,aT 71,(72,⟨.st [(0,1,false),(1,1,false),(2,1,false)] [.slice none 0 0,.int .i64 0,.int .i64 0],3,true⟩),(73,⟨.st [(0,1,false),(1,1,false),(2,1,false)] [.slice none 0 0,.int .i64 0,.int .i64 0],3,true⟩),aT 74,aT 75,aT 76,aT 77,aT 78,(79,⟨.row 113 7,1,false⟩),aT 80,aT 81,aT 82,aT 83,aT 84,aT 85,aT 86,aT 87,aT 88,aT 89,aT 90,aT 91,aT 92,aT 93,aT 94,aT 95,aT 96,aT 97,aT 98,aT 99,aT 100,aT 101,aT 102,(103,⟨.row 9 1,1,false⟩),(104,⟨.st [(0,1,false),(1,1,false),(2,1,false)] [.bool false,.string ⟨⟨[]⟩⟩,.int .i64 0],3,true⟩),(105,⟨.st [(0,1,false),(1,1,false),(2,1,false)] [.bool false,.string ⟨⟨[]⟩⟩,.int .i64 0],3,true⟩),aT 106,aT 107,aT 108,(109,⟨.st [(0,1,false),(1,1,false)] [.int .i64 0,.int .i64 0],2,true⟩),(110,⟨.st [(0,1,false),(1,1,false)] [.int .i64 0,.int .i64 0],2,true⟩),aT 111,(112,⟨.st [(0,1,false),(1,6,true)] [.int .i64 0,.int .i64 0,.int .i64 0,.string ⟨⟨[]⟩⟩,.string ⟨⟨[]⟩⟩,.bool false,.int .i64 0],7,true⟩),(113,⟨.st [(0,1,false),(1,6,true)] [.int .i64 0,.int .i64 0,.int .i64 0,.string ⟨⟨[]⟩⟩,.string ⟨⟨[]⟩⟩,.bool false,.int .i64 0],7,true⟩),aT 114,aT 115,aT 116,aT 117,aT 118,aT 119,aT 120,aT 121,aT 122,(123,⟨.row 3 1,1,false⟩),aT 124,aT 125,aT 126,aT 127,aT 128,aT 129,aT 130,aT 131,aT 132,aT 133,aT 134,aT 135,aT 136,aT 137,aT 138,aT 139,aT 140,aT 141,aT 142,aT 143,aT 144,aT 145,aT 146,aT 147,aT 148,aT 149,aT 150,aT 151,(152,⟨.row 123 1,1,false⟩),aT 153,aT 154,aT 155,aT 156,aT 157,aT 158,aT 159,aT 160,aT 161,aT 162,aT 163,aT 164,aT 165,aT 166,aT 167,aT 168,aT 169,aT 170,aT 171,aT 172,aT 173,aT 174,aT 175,aT 176,aT 177,(178,⟨.row 61 1,1,false⟩),aT 179,aT 180,aT 181,aT 182,aT 183,aT 184,aT 185,aT 186,aT 187,aT 188,aT 189,(190,⟨.row 4 1,1,false⟩),aT 191,aT 192,aT 193,aT 194,aT 195,aT 196,aT 197,aT 198,aT 199,aT 200,aT 201,aT 202,aT 203,aT 204,aT 205,aT 206,aT 207,aT 208,(209,⟨.int .u64,1,false⟩),aT 210,aT 211,aT 212,aT 213,aT 214,aT 215,(216,⟨.row 5 1,1,false⟩),aT 217,aT 218,aT 219,aT 220,aT 221,aT 222,aT 223,aT 224,aT 225,aT 226,aT 227,aT 228,aT 229,(230,⟨.int .i64,1,false⟩),aT 231,aT 232,aT 233,aT 234,aT 235,aT 236,(237,⟨.int .u32,1,false⟩),aT 238,(239,⟨.int .u64,1,false⟩),aT 240,aT 241,aT 242,(243,⟨.st [(0,1,false),(1,1,false)] [.pointer none,.slice none 0 0],2,true⟩),(244,⟨.st [(0,1,false),(1,1,false)] [.pointer none,.slice none 0 0],2,true⟩),aT 245,aT 246,aT 247,aT 248,aT 249,aT 250,aT 251,aT 252,aT 253,aT 254,aT 255,aT 256,aT 257,aT 258,aT 259,aT 260,aT 261,aT 262,(263,⟨.int .u64,1,false⟩),aT 264,aT 265,aT 266,aT 267,aT 268,aT 269,aT 270,aT 271,aT 272,aT 273,(274,⟨.int .i64,1,false⟩),aT 275,aT 276,aT 277,aT 278,aT 279,aT 280,aT 281,aT 282,(283,⟨.any,256,true⟩),(284,⟨.st [(0,1,false),(1,1,false)] [.int .u8 0,.int .u8 0],2,true⟩),(285,⟨.st [(0,1,false),(1,1,false)] [.int .u8 0,.int .u8 0],2,true⟩),(286,⟨.any,32,true⟩),aT 287,aT 288,aT 289,aT 290,(291,⟨.any,24,true⟩),aT 292,aT 293,aT 294,(295,⟨.st [(0,1,false),(1,1,false),(2,1,false)] [.string ⟨⟨[]⟩⟩,.string ⟨⟨[]⟩⟩,.nilIface],3,true⟩),(296,⟨.st [(0,1,false),(1,1,false),(2,1,false)] [.string ⟨⟨[]⟩⟩,.string ⟨⟨[]⟩⟩,.nilIface],3,true⟩),aT 297,aT 298,aT 299,aT 300,aT 301,aT 302,(303,⟨.any,20,true⟩),(304,⟨.any,65,true⟩),aT 305,aT 306,aT 307,(308,⟨.st [(0,1,false)] [.string ⟨⟨[]⟩⟩],1,true⟩),(309,⟨.st [(0,1,false)] [.string ⟨⟨[]⟩⟩],1,true⟩),aT 310,aT 311,aT 312,aT 313,aT 314,(315,⟨.st [(0,1,false),(1,1,false),(2,1,false),(3,1,false)] [.int .i64 0,.int .i64 0,.bool false,.string ⟨⟨[]⟩⟩],4,true⟩),(316,⟨.st [(0,1,false),(1,1,false),(2,1,false),(3,1,false)] [.int .i64 0,.int .i64 0,.bool false,.string ⟨⟨[]⟩⟩],4,true⟩),(317,⟨.row 316 4,1,false⟩),aT 318,aT 319,aT 320,aT 321,aT 322,aT 323,(324,⟨.any,256,true⟩),(325,⟨.any,256,true⟩),aT 326,aT 327,aT 328,aT 329,aT 330,aT 331,aT 332,aT 333,aT 334,aT 335,aT 336,aT 337,aT 338,aT 339,aT 340,(341,⟨.any,32,true⟩),(342,⟨.any,64,true⟩),aT 343,aT 344,aT 345,aT 346,aT 347,(348,⟨.st [(0,1,false),(1,1,false),(2,1,false),(3,1,false)] [.pointer none,.pointer none,.pointer none,.string ⟨⟨[]⟩⟩],4,true⟩),(349,⟨.st [(0,1,false),(1,1,false),(2,1,false),(3,1,false)] [.pointer none,.pointer none,.pointer none,.string ⟨⟨[]⟩⟩],4,true⟩),(350,⟨.any,0,true⟩),(351,⟨.any,0,true⟩),(352,⟨.any,0,true⟩),(353,⟨.int .u8,1,false⟩),(354,⟨.int .u8,1,false⟩),aT 355,(356,⟨.int .i32,1,false⟩),(357,⟨.int .i32,1,false⟩),(358,⟨.st [(0,1,false),(1,1,false),(2,1,false),(3,1,false),(4,1,false),(5,1,false),(6,1,false),(7,1,false),(8,1,false),(9,1,false),(10,1,false)] [.int .u64 0,.int .u64 0,.int .u32 0,.int .u8 0,.int .u8 0,.int .u8 0,.int .u8 0,.nilFunc,.pointer none,.int .i32 0,.int .i32 0],11,true⟩),(359,⟨.st [(0,1,false),(1,1,false),(2,1,false),(3,1,false),(4,1,false),(5,1,false),(6,1,false),(7,1,false),(8,1,false),(9,1,false),(10,1,false)] [.int .u64 0,.int .u64 0,.int .u32 0,.int .u8 0,.int .u8 0,.int .u8 0,.int .u8 0,.nilFunc,.pointer none,.int .i32 0,.int .i32 0],11,true⟩)]
theorem A8:DP prog tt:=lO Ac
instance:lV prog:=⟨tt,A8⟩
open Go.Eng Go.RowKit
theorem S6(s:A0)(i:Int)(w:World)(h0:0<=i)(j:i<=9223372036854775807):Calls prog 187 [str s,i64 i].toArray w λ e w'=>e= .returned (.bool (cont s i))/\Ext w w':=AE A8 func187 U ntmps187 [] [] [.v (str s),I i] U (BB w) A3 (λ B b=>A2 b U U U λ w M h=>⟨rfl,h.st.low⟩) U
theorem mU(s:A0)(i:Int)(w:World)(h0:0<=i)(h1:i<len s)(A:len s<=9223372036854775800):Calls prog 159 [str s,i64 i].toArray w λ e w'=>e= .returned (i64 (rune s i))/\Ext w w':=by
 have y:=LZ s i
 refine AE A8 func159 U ntmps159 [] [] [.v (str s),I i] U (BB w) A3 (λ B j=>?_) U
 refine A1 U (λ h1=>?_) (λ h1=>?_)<;>simp only[zb]at h1
 ·exact A2 j U U U λ w M b=>⟨by unfold rune;dsimp only;rw[if_pos h1];rfl,b.st.low⟩
 have h:=rune.eq_1 s i
 rw[if_neg h1]at h
 refine AB U call187 U U (λ _ w M b=>S6 s (i+1) w Aa Aa) U ?_
 refine A1 U (λ q=>?_) (λ q=>?_)<;>rw[q]at h
 ·exact A2 j U U U λ w M b=>⟨by rw[h];rfl,b.st.low⟩
 refine AB U call187 U U (λ _ w M b=>S6 s (i+1) w Aa Aa) U <|AB U call187 U U (λ _ w M b=>S6 s (i+2) w Aa Aa) U ?_
 refine A1 U (λ l=>?_) (λ l=>?_)<;>rw[l]at h
 ·have z:i+1<len s:=TW (by simp only[Bool.and_eq_true]at l;exact l.1.2)
  refine A1 U (λ k=>?_) (λ k=>?_)<;>rw[k]at h<;>exact A2 j U U U λ w M b=>⟨by rw[h];rfl,b.st.low⟩
 refine AB U call187 U U (λ _ w M b=>S6 s (i+1) w Aa Aa) U <|AB U call187 U U (λ _ w M b=>S6 s (i+2) w Aa Aa) U <|AB U call187 U U (λ _ w M b=>S6 s (i+3) w Aa Aa) U ?_
 refine A1 U (λ n=>?_) (λ n=>?_)<;>rw[n]at h
 ·have z:i+1<len s:=TW (by simp only[Bool.and_eq_true]at n;exact n.1.1.2)
  refine A1 U (λ k=>?_) (λ k=>?_)<;>rw[k]at h<;>exact A2 j U U U λ w M b=>⟨by rw[h];rfl,b.st.low⟩
 exact A2 j U U U λ w M b=>⟨by rw[h];rfl,b.st.low⟩
theorem UQ(s:A0)(w:World)(q:len s<=9223372036854775800):Calls prog 125 [str s].toArray w λ e w'=>e= .returned (.bool (CY s))/\Ext w w':=by
 have y:=A6 s
 refine AE A8 func125 U ntmps125 [] [] [.v (str s)] U (BB w) A3 (λ B n=>AT (σ:=Int) (λ k=>⟨[],[],[Z 0 (.v (str s)),Z 3 (I k)]⟩) (λ k=>0<=k/\GO s k=CY s) (λ k=>(len s-k).toNat) 0 U U ⟨Aa,rfl⟩ ?_) U
 rintro k ⟨h,i⟩
 have A:=M4 s k
 have z:=rune_le s k
 refine A1 U (λ b=>?_) (λ b=>?_)<;>simp only[zb]at b
 ·refine AB U call159 U U (λ _ w M l=>mU s k w h b q) U ?_
  refine A1 U (λ j=>?_) (λ j=>?_)<;>simp only[zb]at j
  ·exact A2 n U U U λ w M l=>⟨by rw[<-i,TX s k h b Aa];rfl,l.st.low⟩
  ·exact AR (k+rune s k) U U ⟨Aa,by rw[<-i,N6 s k h b Aa]⟩ Aa
 exact A2 n U U U λ w M l=>⟨by rw[<-i,WE s k Aa];rfl,l.st.low⟩
theorem mV(s:A0)(w:World)(z:len s<=9223372036854775807):Calls prog 201 [str s].toArray w λ e w'=>e= .returned (.bool (FZ s))/\Ext w w':=by
 have q:=A6 s
 refine AE A8 func201 U ntmps201 [] [] [.v (str s)] U (BB w) A3 (λ B n=>AT (σ:=Int) (λ k=>⟨[],[],[Z 0 (.v (str s)),Z 3 (I k)]⟩) (λ k=>0<=k/\k<=len s/\L3 s k=FZ s) (λ k=>(len s-k).toNat) 0 U U ⟨Aa,Aa,rfl⟩ ?_) U
 rintro k ⟨i,y,h⟩
 refine A1 U (λ b=>?_) (λ b=>?_)<;>simp only[zb]at b
 ·refine A1 U (λ j=>?_) (λ j=>?_)<;>simp only[zb]at j
  ·exact A2 n U U U λ w M l=>⟨by rw[<-h,kO s k i b (by simp only[F7,C1,zb];omega)];rfl,l.st.low⟩
  ·exact AR (k+1) U U ⟨Aa,Aa,by rw[<-h,kN s k i b (by simp only[F7,C1,zb];omega)]⟩ Aa
 exact A2 n U U U λ w M l=>⟨by rw[<-h,kP s k Aa];rfl,l.st.low⟩
theorem mW(s:A0)(w:World)(z:len s<=9223372036854775807):Calls prog 174 [str s].toArray w λ e w'=>e= .returned (.bool (JB s))/\Ext w w':=by
 have q:=A6 s
 refine AE A8 func174 U ntmps174 [] [] [.v (str s)] U (BB w) A3 (λ B n=>AT (σ:=Int) (λ k=>⟨[],[],[Z 0 (.v (str s)),Z 3 (I k)]⟩) (λ k=>0<=k/\k<=len s/\L4 s k=JB s) (λ k=>(len s-k).toNat) 0 U U ⟨Aa,Aa,rfl⟩ ?_) U
 rintro k ⟨i,y,h⟩
 refine A1 U (λ b=>?_) (λ b=>?_)<;>simp only[zb]at b
 ·refine A1 U (λ j=>?_) (λ j=>?_)<;>simp only[zb]at j
  ·exact A2 n U U U λ w M l=>⟨by rw[<-h,kR s k i b (by simp only[C1,zb];omega)];rfl,l.st.low⟩
  ·exact AR (k+1) U U ⟨Aa,Aa,by rw[<-h,kQ s k i b (by simp only[C1,zb];omega)]⟩ Aa
 exact A2 n U U U λ w M l=>⟨by rw[<-h,bJ s k Aa];rfl,l.st.low⟩
theorem AF9(n:Nd)(w:World)(l:len n.s<=9223372036854775807):Calls prog 140 [.agg n.cells.toArray].toArray w λ e w'=>e= .returned (.bool (JC n))/\Ext w w':=by
 have q:=A6 n.s
 refine AE A8 func140 U ntmps140 [] [] [.ag (G9 n.cells)] U (BB w) A3 (λ B i=>BO 1 U U U λ y=>AB U call174 U U (λ _ w M b=>mW n.s w l) U <|A1 U (λ h1=>?_) (λ h1=>?_) (hO:=by simp only[zb];omega)) U
 ·exact A2 i U U U λ w M b=>⟨by unfold JC;rw[if_pos h1];rfl,b.st.low⟩
 have h:=JC.eq_1 n
 rw[if_neg (ne_true_of_eq_false h1)]at h
 refine A1 U (λ j=>?_) (λ j=>?_)<;>rw[j]at h
 ·exact A2 i U U U λ w M b=>⟨by rw[h];rfl,b.st.low⟩
 have k:=GM (show ¬n.s=[] by simpa using j)
 exact A2 i U U U λ w M b=>⟨by rw[h];rfl,b.st.low⟩
theorem mX:prog.follows .mixedOrders=true:=by kernel_rfl
theorem mY:prog.underlying 46=some (.struct (prog.fieldsOf 46)):=by kernel_rfl
theorem AG0:(prog.fieldsOf 46).toList=[⟨"Kind",3,0,false,"","",0⟩,⟨"Many",3,1,false,"","",8⟩,⟨"Name",9,2,false,"","",16⟩,⟨"S",9,3,false,"","",32⟩,⟨"Neg",4,4,false,"","",48⟩,⟨"E",3,5,false,"","",56⟩]:=by kernel_rfl
theorem XD(d:Nat)(a b:Nd)(w:World):(Op.equalIn (d+1+1) 46 (.agg (Nd.cells a).toArray) (.agg (Nd.cells b).toArray)).run prog w= .ok (decide (a=b)) w:=by
 rw[run_equalIn_agg w _ _ _ _ mY Tryz.stoodInHeld46,AG0]
 rw[GY (P:=prog) (w:=w) (xs:=(Nd.cells a).toArray) (ys:=(Nd.cells b).toArray) (f:=⟨"Kind",3,0,false,"","",0⟩) Ab (show(part 3 (Nd.cells a).toArray 0).run prog w= .ok (i64 ((a).kind)) w by kernel_rfl) (show(part 3 (Nd.cells b).toArray 0).run prog w= .ok (i64 ((b).kind)) w by kernel_rfl) (N5 underlying3 w d ((a).kind) ((b).kind))]
 rw[GY (P:=prog) (w:=w) (xs:=(Nd.cells a).toArray) (ys:=(Nd.cells b).toArray) (f:=⟨"Many",3,1,false,"","",8⟩) Ab (show(part 3 (Nd.cells a).toArray 1).run prog w= .ok (i64 ((a).many)) w by kernel_rfl) (show(part 3 (Nd.cells b).toArray 1).run prog w= .ok (i64 ((b).many)) w by kernel_rfl) (N5 underlying3 w d ((a).many) ((b).many))]
 rw[GY (P:=prog) (w:=w) (xs:=(Nd.cells a).toArray) (ys:=(Nd.cells b).toArray) (f:=⟨"Name",9,2,false,"","",16⟩) Ab (show(part 9 (Nd.cells a).toArray 2).run prog w= .ok (str ((a).name)) w by kernel_rfl) (show(part 9 (Nd.cells b).toArray 2).run prog w= .ok (str ((b).name)) w by kernel_rfl) (RF underlying9 w d ((a).name) ((b).name))]
 rw[GY (P:=prog) (w:=w) (xs:=(Nd.cells a).toArray) (ys:=(Nd.cells b).toArray) (f:=⟨"S",9,3,false,"","",32⟩) Ab (show(part 9 (Nd.cells a).toArray 3).run prog w= .ok (str ((a).s)) w by kernel_rfl) (show(part 9 (Nd.cells b).toArray 3).run prog w= .ok (str ((b).s)) w by kernel_rfl) (RF underlying9 w d ((a).s) ((b).s))]
 rw[GY (P:=prog) (w:=w) (xs:=(Nd.cells a).toArray) (ys:=(Nd.cells b).toArray) (f:=⟨"Neg",4,4,false,"","",48⟩) Ab (show(part 4 (Nd.cells a).toArray 4).run prog w= .ok (.bool ((a).neg)) w by kernel_rfl) (show(part 4 (Nd.cells b).toArray 4).run prog w= .ok (.bool ((b).neg)) w by kernel_rfl) (bA underlying4 w d ((a).neg) ((b).neg))]
 rw[GY (P:=prog) (w:=w) (xs:=(Nd.cells a).toArray) (ys:=(Nd.cells b).toArray) (f:=⟨"E",3,5,false,"","",56⟩) Ab (show(part 3 (Nd.cells a).toArray 5).run prog w= .ok (i64 ((a).e)) w by kernel_rfl) (show(part 3 (Nd.cells b).toArray 5).run prog w= .ok (i64 ((b).e)) w by kernel_rfl) (N5 underlying3 w d ((a).e) ((b).e))]
 have h:(.ok true w:Result Bool)= .ok (decide True) w:=rfl
 rw[aX,h]
 simp only[aY]
 have hp:((a).kind=(b).kind/\(a).many=(b).many/\(a).name=(b).name/\(a).s=(b).s/\(a).neg=(b).neg/\(a).e=(b).e/\True)↔a=b:=by cases a;cases b;simp
 rw[decide_eq_decide.2 hp]
theorem S7(x y:Operand)(a b:Nd)(w:World):(do eqGuard .eql 46 x y (.agg (Nd.cells a).toArray) (.agg (Nd.cells b).toArray);binOp .eql 46 (.agg (Nd.cells a).toArray) (.agg (Nd.cells b).toArray):Sem Value).run prog w= .ok (.bool (decide (a=b))) w:=bB x y w eqGuardType46 (XD 9998 a b w)
theorem AG1(x y:Operand)(a b:Nd)(w:World):(do eqGuard .neq 46 x y (.agg (Nd.cells a).toArray) (.agg (Nd.cells b).toArray);binOp .neq 46 (.agg (Nd.cells a).toArray) (.agg (Nd.cells b).toArray):Sem Value).run prog w= .ok (.bool (!(decide (a=b)))) w:=zL x y w eqGuardType46 (XD 9998 a b w)
open Go.Eng Go.RowKit Go.Sort
structure Gl (w:World):Prop where
 big:5<w.heap.size
 u8:Lib.Utf8Tabs 0 1 w
 pow:Lib.TabIs prog w "internal/strconv.uint64pow10" .u64 Lib.pow10Tab
 deb:w.cell? ⟨7,15,none⟩=some (.int .u8 4)
 err: ∃ev,w.cell? ⟨3,0,none⟩=some ev/\(ev= .nilIface\/ ∃t p,ev= .iface t p)
theorem UR{w w':World}(h:Below w.heap.size w w'){a:Addr}{v:Value}(i:w.cell? a=some v):w'.cell? a=some v:=by
 have b:a.block<w.heap.size:=by
  rcases Nat.lt_or_ge a.block w.heap.size with e|e
  ·exact e
  ·simp[World.cell?,e]at i
 exact(h.cell b).trans i
theorem Gl.low {w w':World}(g:Gl w)(h:Below w.heap.size w w'):Gl w':=by
 have b:=g.big
 have k:=h.size
 refine⟨Aa,⟨λ c e=>UR h (g.u8.1 c e),λ i hi=>⟨UR h (g.u8.2 i hi).1,UR h (g.u8.2 i hi).2⟩⟩,?_,UR h g.deb,by obtain⟨ev,h1,j⟩:=g.err;exact⟨ev,UR h h1,j⟩⟩
 ·exact var?_below h (show prog.globalNamed "internal/strconv.uint64pow10"=some 5 by kernel_rfl) b g.pow
theorem US(s p:A0)(w:World):Calls prog 171 [str s,str p].toArray w λ e w'=>e= .returned (.bool (Lib.hasPrefix s p))/\w'=w:=Tryz.strings_HasPrefix ⟨⟨s⟩⟩ ⟨⟨p⟩⟩ w
theorem AG2(s cut:A0)(w:World)(h:len cut<4294967281)(i: ∀(j:Nat) (b:UInt8),cut[j]? =some b->b.toNat<128):
  Calls prog 303 [str s,str cut].toArray w λ e w'=>e= .returned (str (s.dropWhile (cut.contains ·)))/\Ext w w':=
 (Any.strings_TrimLeft_laid Tryz.y8 Ai ⟨⟨s⟩⟩ ⟨⟨cut⟩⟩ w (by unfold len at h;show cut.length<_;omega) i)
theorem dL(s cut:A0)(w:World)(h:len s<=9223372036854775807)(i:len cut<4294967281)(k: ∀(j:Nat) (b:UInt8),cut[j]? =some b->b.toNat<128):
  Calls prog 304 [str s,str cut].toArray w λ e w'=>e= .returned (str (Lib.trimRightS s cut))/\Ext w w':=
 (Any.strings_TrimRight_laid Tryz.yA Ai ⟨⟨s⟩⟩ ⟨⟨cut⟩⟩ w (by unfold len at h;show s.length<=_;omega) (by unfold len at i;show cut.length<_;omega) k)
theorem AG3(s:A0)(w:World)(g:Gl w)(h:0<len s):
  Calls prog 224 [str s].toArray w λ e w'=>e= .returned (.tuple #[.int .i32 (AX s 0),i64 (runeLen s 0)])/\Ext w w':=by
 have h0: ¬(ByteArray.mk ⟨s⟩).size=0:=by show ¬s.length=0;unfold len at h;omega
 have:=Tryz.utf8_DecodeRuneInString ⟨⟨s⟩⟩ w g.u8
 rw[show Lib.decodeGo ⟨⟨s⟩⟩=Utf8.decode ⟨⟨s⟩⟩ 0 from by unfold Lib.decodeGo;rw[if_neg h0]]at this
 exact this
theorem dM(s:A0)(c:Int)(w:World):Calls prog 198 [str s,.int .u8 c].toArray w λ e w'=>e= .returned (i64 (Lib.indexByte s c.toNat.toUInt8))/\w'=w:=Tryz.strings_IndexByte ⟨⟨s⟩⟩ c w
theorem repeatL_one(c:UInt8): ∀n,Lib.repeatL [c] n=List.replicate n c
 |0=>rfl
 |n+1=>by rw[Lib.repeatL,repeatL_one c n];rfl
theorem mZ(c:UInt8)(n:Int)(w:World)(h0:0<=n)(h1:n<=140737488355328):
  Calls prog 291 [str [c],i64 n].toArray w λ e w'=>e= .returned (str (List.replicate n.toNat c))/\Ext w w':=by
 by_cases ha:n=0
 ·subst ha;exact(Tryz.strings_Repeat_zero ⟨⟨[c]⟩⟩ w).mono λ e w' ⟨he,hw⟩=>⟨he,hw▸Ext.refl _⟩
 ·by_cases hb:n=1
  ·subst hb;exact(Tryz.strings_Repeat_one ⟨⟨[c]⟩⟩ w).mono λ e w' ⟨he,hw⟩=>⟨he,hw▸Ext.refl _⟩
  ·have:=Tryz.strings_Repeat_main ⟨⟨[c]⟩⟩ n.toNat w Aa Aa (by show 1*_<=_;omega) (by show 0<1;omega)
   rw[show((n.toNat:Nat):Int)=n from by omega]at this
   refine this.mono λ e w' ⟨he,hw⟩=>⟨?_,hw⟩
   rw[he];show Ending.returned (str (Lib.repeatL [c] n.toNat))=_;rw[repeatL_one]
theorem AG4{w w':World}(h:Ext w w')(k:Nat):Ext w (w'.drewN k):=⟨h.os,h.tape,h.output,h.size,h.block⟩
theorem AG5(w:World)(os:Array Obj):Ext w (grow w os):=⟨rfl,rfl,rfl,by show w.heap.size<=(w.heap++os).size;rw[Array.size_append];omega,λ _ b=>by show(w.heap++os)[_]? =_;rw[Array.getElem?_append_left b]⟩
theorem n5(n:Int)(w:World)(g:Gl w)(h0: -9223372036854775808<=n)(h1:n<=9223372036854775807):
  Calls prog 200 [i64 n].toArray w λ e w'=>e= .returned (str (Lib.itoa n))/\Ext w w':=
 (Tryz.strconv_Itoa n h0 h1 w g.pow).mono λ e w' ⟨he,k,os,hw⟩=>⟨he,hw▸Ext.trans (AG4 (Ext.refl w) k) (AG5 _ os)⟩
theorem AG6(s:A0)(v:Int)(w:World)(b:len s<=9223372036854775806)(h:Lib.atoiAll s= .ok v):
  Calls prog 199 [str s].toArray w λ e w'=>e= .returned (.tuple #[i64 v,.nilIface])/\Ext w w':=
 (Tryz.strconv_Atoi_ok ⟨⟨s⟩⟩ (by show s.length<=_;unfold len at b;omega) v h w).mono λ e w' ⟨he,hw⟩=>⟨he,by
  rcases hw with hw|⟨t,hw⟩
  ·exact hw▸Ext.refl _
  ·exact hw▸Joins.below_bytesWorld _ _ _ _ (Nat.le_refl _)⟩
theorem AG7(g:Nat)(p:Nat->Bool)(s:A0)(w:World)(hg:Gl w)(b: ∀args w,(callFunc g args).run prog w= .ok (.enter g args) w)(h:len s<=9223372036854775807)
 (hp: ∀(x:Nat) (w:World),x<=1114111->Calls prog g [.int .i32 x].toArray w λ e w'=>e= .returned (.bool (p x))/\w'=w):
 Calls prog 325 [str s,.func (.func g) #[] #[]].toArray w λ e w'=>e= .returned (str (Lib.trimF p ⟨⟨s⟩⟩).data.toList)/\Ext w w':=
by
 have i:PredAtRunes prog g #[] p w:=by
  intro W x hx _
  show Calls prog g (#[encR x]++ #[]) W _
  exact(hp x W hx).mono λ e w' ⟨he,hw⟩=>⟨he,0,hw⟩
 refine(Tryz.strings_TrimFunc_runes g #[] b p ⟨⟨s⟩⟩ w (by show s.length<=_;unfold len at h;omega) hg.u8 i).mono λ e w' ⟨he,hw⟩=>⟨?_,hw⟩
 rw[he]
open Go.ChangeShapes Go.WideShapes Go.ChangeAt Go.RowKit Go.Eng
theorem own:ownKnob prog.godebug=none:=by kernel_rfl
abbrev Laid:List (String×DataW Unit):=[("math/bits.deBruijn32tab",Rows.laid_math_bits_deBruijn32tab),("math/bits.deBruijn64tab",Rows.laid_math_bits_deBruijn64tab),("internal/strconv.uint64pow10",Rows.laid_internal_strconv_uint64pow10),("unicode/utf8.acceptRanges",Rows.laid_unicode_utf8_acceptRanges),("strconv.ErrRange",Rows.laid_strconv_ErrRange),("strconv.ErrSyntax",Rows.laid_strconv_ErrSyntax),("unicode/utf8.first",Rows.laid_unicode_utf8_first)]
theorem n7{P:Program}{W:World}{name:String}{k:IntKind}{zs:List Int}{g:Nat}{t e:TypeId}{n:Nat}
  (hg:P.globalNamed name=some g) (i:(P.globals[g]?).map (·.type)=some t) (w:P.underlying t=some (.array n e)) (he:P.underlying e=some (.int k)) (j:P.cellsOf e=1) (l:P.cellsOf t=n)
  (h:Lib.VarReads P W name (Lib.tabData k zs)):Lib.TabIs P W name k zs:=by
 obtain⟨y,z,cs,fuel,p,q,s,b,hd⟩:=h
 obtain rfl:=Option.some.inj (hg.symm.trans q)
 obtain rfl:=Option.some.inj (i.symm.trans s)
 unfold Lib.TabIs
 rw[b,<-Lib.cells_of_tab w he j l hd]
theorem AG8{P:Program}{W:World}{name:String}{k:IntKind}{zs:List Int}{g:Nat}(h:Lib.TabIs P W name k zs)(hg:P.globalNamed name=some g)(h0:0<zs.length):g<W.heap.size:=lt_of_cell (h.cell hg 0 h0)
theorem u8X:U8Extra prog Tryz.jZ:=⟨by kernel_rfl,by kernel_rfl,by kernel_rfl,by kernel_rfl,by kernel_rfl,by kernel_rfl,by kernel_rfl⟩
theorem e2:(Rows.laid_internal_strconv_uint64pow10:DataW Unit)=Lib.tabData .u64 Lib.pow10Tab:=by kernel_rfl
theorem e3:(Rows.laid_unicode_utf8_first:DataW Unit)=Lib.firstData:=by kernel_rfl
theorem e4:(Rows.laid_unicode_utf8_acceptRanges:DataW Unit)=Lib.acceptData:=by kernel_rfl
abbrev n8:List Int:=Lib.deBruijn64tab.map (λ n:Nat=>(n:Int))
theorem e5:(Rows.laid_math_bits_deBruijn64tab:DataW Unit)=Lib.tabData .u8 n8:=by kernel_rfl
theorem n9:"*"++"errors.errorString"="*errors.errorString":=by decide
theorem AH0(u:TypeId)(h:prog.typeName? 3 u=some "*errors.errorString"):u=307:=
 typeName_ptr_named (nm:="errors.errorString") (by rw[n9];kernel_rfl) Ai Ab u (by rw[n9];exact h)
theorem AH1{W:World}(h:laidMet prog Laid W):Gl W:=by
 have b:=Lib.laidMet.reads h (show("internal/strconv.uint64pow10",Rows.laid_internal_strconv_uint64pow10)∈Laid from .tail _ (.tail _ (.head _)))
 have e:=Lib.laidMet.reads h (show("unicode/utf8.first",Rows.laid_unicode_utf8_first)∈Laid from .tail _ (.tail _ (.tail _ (.tail _ (.tail _ (.tail _ (.head _)))))))
 have i:=Lib.laidMet.reads h (show("unicode/utf8.acceptRanges",Rows.laid_unicode_utf8_acceptRanges)∈Laid from .tail _ (.tail _ (.tail _ (.head _))))
 rw[e2]at b
 rw[e3]at e
 rw[e4]at i
 have j:Lib.TabIs prog W "internal/strconv.uint64pow10" .u64 Lib.pow10Tab:=
  n7 (g:=5) Ai Ai underlying303 underlying239 Ai Ai b
 have l:Lib.Utf8Tabs 0 1 W:=utf8Tabs_of_readsT (.of260 Tryz.yR) u8X e i
 refine⟨AG8 j Ai (of_decide_eq_true Ai),l,j,?_,?_⟩
 ·have k:=Lib.laidMet.reads h (show("math/bits.deBruijn64tab",Rows.laid_math_bits_deBruijn64tab)∈Laid from .tail _ (.head _))
  rw[e5]at k
  have n:Lib.TabIs prog W "math/bits.deBruijn64tab" .u8 n8:=n7 (g:=7) Ai Ai underlying342 underlying5 Ai Ai k
  exact n.cell Ai 15 (of_decide_eq_true Ai)
 ·obtain⟨a,s,q,_⟩:=laid_sentinel (te:=309) (ts:=9) (f:=(prog.fieldsOf 309)[0]!) h.tail.tail.tail.tail.tail (show prog.globalNamed "strconv.ErrSyntax"=some 3 by kernel_rfl) Ai underlying223 AH0 underlying307 Ai Ai Ai underlying9 Ai Ai
  exact⟨_,var?_cell Ai q 0,.inr ⟨_,_,rfl⟩⟩
def lits(l:List (DataW Unit)):List Value:=l.filterMap λ | .lit (.int k z)=>some (.int k z)|_=>none
def partsOf:DataW Unit->List (DataW Unit)| .agg ps=>ps|_=>[]
def XH(d:DataW Unit):Array Value:=(lits (partsOf d)).toArray
def AH2(l:List (DataW Unit)):Array Value:=(l.flatMap λ p=>lits (partsOf p)).toArray
def nA:DataW Unit->A0| .iface _ (.ptr (.agg [.lit (.string s)]))=>s|_=>[]
noncomputable def dN (os:Os):World:=
 let N:=(World.settled prog os).heap.size
 let w0:=World.holding prog os ⟨#[.cells #[str (nA Rows.laid_strconv_ErrRange)] 309,.cells #[str (nA Rows.laid_strconv_ErrSyntax)] 309],#[],[]⟩
 let put (h:Array Obj) (g:Nat) (cs:Array Value):Array Obj:=h.modify g λ
  | .cells _ t frozen=>.cells cs t frozen
  |o=>o
 let h1:=put w0.heap 6 (XH Rows.laid_math_bits_deBruijn32tab)
 let h2:=put h1 7 (XH Rows.laid_math_bits_deBruijn64tab)
 let h3:=put h2 5 (XH Rows.laid_internal_strconv_uint64pow10)
 let h4:=put h3 1 (AH2 (partsOf Rows.laid_unicode_utf8_acceptRanges))
 let h5:=put h4 4 #[.iface 307 (.pointer (some ⟨N,0,none⟩))]
 let h6:=put h5 3 #[.iface 307 (.pointer (some ⟨N+1,0,none⟩))]
 let h9:=put h6 0 (XH Rows.laid_unicode_utf8_first)
 { w0 with heap:=h9}
noncomputable abbrev N0:Nat:=(World.settled prog default).heap.size
set_option maxRecDepth 100000 in
theorem AH3(os:Os)(args:Array Value):laidMet prog Laid ((dN os).forCall (λ _ _=>0) ⟨#[],args,[]⟩).memory:=
 (LaidIn.of_run [6,7,5,1,4,N0,3,N0+1,0] 12 Ai Ai Ai Ai).met
end Go.Proofs.YtnoegalemkbbbaaGreatDoor
namespace Go.Eng
open Go.RowKit
def CP(b:UInt8):Bool:=C1 (b.toNat:Int)
def B7(n:Int):A0:=List.replicate n.toNat 48
def AV(s:A0)(i:Int):Int:=i+len ((A5 s i).takeWhile CP)
def AS(s:A0):A0:=s.dropWhile (([48]:A0).contains ·)
def BC(s:A0):A0:=Lib.trimRightS s [48]
def CK(s:A0):Int:=s.foldl (λ n b=>n*10+((b.toNat:Int)-48)) 0
theorem KL(s:A0)(i:Int)(h0:0<=i)(h1:i<len s): ∃b,A5 s i=b::A5 s (i+1)/\A4 s i=(b.toNat:Int):=by
 have h:i.toNat<s.length:=by unfold len at h1;omega
 refine⟨s[i.toNat],?_,by simp[A4,h]⟩
 unfold A5
 rw[show(i+1).toNat=i.toNat+1 from by omega]
 exact List.drop_eq_getElem_cons h
theorem Q2(s:A0)(i:Int)(h1:len s<=i):A5 s i=[]:=by
 unfold A5;rw[List.drop_eq_nil_iff];unfold len at h1;omega
theorem ED(s:A0)(i:Int)(h0:0<=i)(h1:i<=len s):len (A5 s i)=len s-i:=by
 unfold A5 len at*;rw[List.length_drop];omega
theorem AH4{s:A0}{i:Int}(h0:0<=i)(h1:i<len s)(h:C1 (A4 s i)=true):AV s (i+1)=AV s i:=by
 obtain⟨b,e,j⟩:=KL s i h0 h1
 unfold AV
 rw[e,List.takeWhile_cons,show CP b=true from by unfold CP;rw[<-j];exact h]
 simp[len];omega
theorem AH5{s:A0}{i:Int}(h0:0<=i)(h1:i<len s)(h:C1 (A4 s i)=false):AV s i=i:=by
 obtain⟨b,e,j⟩:=KL s i h0 h1
 unfold AV
 rw[e,List.takeWhile_cons,show CP b=false from by unfold CP;rw[<-j];exact h]
 simp[len]
theorem AH6{s:A0}{i:Int}(h1:len s<=i):AV s i=i:=by
 unfold AV;rw[Q2 s i h1];simp[len]
theorem Q3(s:A0)(i:Int)(h0:0<=i)(h1:i<=len s):i<=AV s i/\AV s i<=len s:=by
 have b:=ED s i h0 h1
 have e:=(List.takeWhile_sublist CP (l:=A5 s i)).length_le
 unfold AV len at*;omega
theorem nC{s:A0}{i k:Int}(h0:0<=i)(h1:i<=k)(b:k<AV s i):C1 (A4 s k)=true:=by
 by_cases hl:i<len s
 ·by_cases hf:C1 (A4 s i)=true
  ·by_cases hk:i=k
   ·subst hk;exact hf
   ·rw[<-AH4 h0 hl hf]at b
    exact nC (i:=i+1) Aa Aa b
  ·rw[Bool.not_eq_true]at hf
   rw[AH5 h0 hl hf]at b;omega
 ·rw[AH6 Aa]at b;omega
termination_by (len s-i).toNat
def CL(neg:Bool)(s:A0)(e:Int):Nd×Int:=
 if JB s then
  if AS s==[]then(⟨3,0,[],[],false,0⟩,0)
  else if decide (e< -100000000)||decide (100000000<e)then(B6,2)
  else
   if decide (100<len (BC (AS s)))||decide (e+(len (AS s)-len (BC (AS s)))< -1000)||decide (1000<len (BC (AS s))+(e+(len (AS s)-len (BC (AS s)))))then(B6,2)
   else(⟨3,0,[],BC (AS s),neg,e+(len (AS s)-len (BC (AS s)))⟩,0)
 else(B6,4)
def IC(n:Nd):A0:=
 let sign:A0:=if n.neg then [45]else []
 if n.s==[]then [48]
 else if decide (0<=n.e)&&decide (len n.s+n.e<=20)then sign++n.s++B7 n.e
 else if decide (n.e<0)&&decide (-20<=n.e)then
  let s:=B7 (1-n.e-len n.s)++n.s
  sign++Eng.sub s 0 (len s+n.e)++[46]++A5 s (len s+n.e)
 else sign++n.s++[101]++Lib.itoa n.e
theorem XI{n:Int}(h:n<=0):B7 n=[]:=by unfold B7;rw[show n.toNat=0 from by omega];rfl
theorem OD(n:Int)(h:0<=n):len (B7 n)=n:=by unfold B7 len;rw[List.length_replicate];omega
theorem nD(d:Int):0<=len (B7 d)/\d<=len (B7 d)/\(len (B7 d)<=0\/len (B7 d)=d):=by unfold B7 len;rw[List.length_replicate];omega
theorem AN{α:Type}(a b:List α):len (a++b)=len a+len b:=by unfold len;simp
theorem AH{α:Type}(a:α)(b:List α):len (a::b)=len b+1:=by unfold len;simp
theorem AH7{α:Type}(a:α)(b:List α):A5 (a::b) 1=b:=rfl
theorem len_nil{α:Type}:len ([]:List α)=0:=rfl
theorem Q4{α:Type}(s:List α)(i j:Int):0<=len (Eng.sub s i j)/\len (Eng.sub s i j)<=len s:=by unfold Eng.sub len;simp;omega
theorem FL{α:Type}{s:List α}{i j:Int}(h0:0<=i)(h1:i<=j)(b:j<=len s):len (Eng.sub s i j)=j-i:=by unfold Eng.sub len at*;simp;omega
theorem nE{α:Type}(s:List α)(i:Int):0<=len (A5 s i)/\len (A5 s i)<=len s:=by unfold A5 len;simp
theorem AH8(s:A0):len (AS s)<=len s:=by
 have:=(List.dropWhile_sublist (([48]:A0).contains ·) (l:=s)).length_le
 unfold AS len;omega
theorem nF(s:A0):len (BC s)<=len s:=by
 have:=(List.dropWhile_sublist (([48]:A0).contains ·) (l:=s.reverse)).length_le
 unfold BC Lib.trimRightS len;simp at*;omega
theorem dropWhile_nil{α:Type}{p:α->Bool}: ∀ {l:List α},l.dropWhile p=[]-> ∀x∈l,p x=true
 |[],_,x,hx=>by cases hx
 |a::l,h,x,hx=>by
  rw[List.dropWhile_cons]at h
  split at h
  ·rename_i b
   rcases List.mem_cons.1 hx with rfl|hx
   ·exact b
   ·exact dropWhile_nil h x hx
  ·cases h
theorem dO{s:A0}{b:UInt8}{l:A0}(h:AS s=b::l):(([48]:A0).contains b)=false:=by
 unfold AS at h
 induction s with
 |nil=>cases h
 |cons a s e=>
  rw[List.dropWhile_cons]at h
  split at h
  ·exact e h
  ·rename_i i;cases h;simpa using i
theorem dP(s:A0): ¬AS s=[]->0<len (BC (AS s)):=by
 intro h
 cases hd:AS s with
 |nil=>exact absurd hd h
 |cons b l=>
  have e:=dO hd
  have:BC (b::l)≠[]:=by
   unfold BC Lib.trimRightS
   intro i
   rw[List.reverse_eq_nil_iff]at i
   have:=dropWhile_nil i b (by simp)
   rw[this]at e;cases e
  unfold len
  have:=List.length_pos_iff.2 this
  omega
def D6(s signs:A0)(p:Int):Bool:=decide (p<len s)&&decide (0<=Lib.indexByte signs (A4 s p).toNat.toUInt8)
def BJ(s signs:A0)(p:Int):Int:=if D6 s signs p then p+1 else p
theorem nG{s b:A0}{p:Int}(h:D6 s b p=true):p<len s:=by unfold D6 at h;simp only[Bool.and_eq_true,decide_eq_true_eq]at h;exact h.1
theorem dQ(s b:A0)(p:Int)(h:p<=len s):p<=BJ s b p/\BJ s b p<=len s:=by
 unfold BJ;split
 ·rename_i h1;have:=nG h1;omega
 ·omega
theorem S8{s b:A0}{p:Int}(h:D6 s b p=true):BJ s b p=p+1:=by unfold BJ;rw[if_pos h]
theorem S9{s b:A0}{p:Int}(h:D6 s b p=false):BJ s b p=p:=by unfold BJ;rw[if_neg (by rw[h];simp)]
def JI(neg:Bool)(fg:A0)(x:Int)(pw:A0)(side:Int):Nd×Int×Int:=
 if 6<len (AS pw)then(B6,0,2)
 else((CL neg fg (x+side*CK (AS pw))).1,0,(CL neg fg (x+side*CK (AS pw))).2)
def XJ(s:A0)(neg:Bool)(fg:A0)(x:Int)(c0:Int):Nd×Int×Int:=
 let m:=D6 s [45] c0
 let c1:=if m then BJ s [45] c0 else BJ s [43] (BJ s [45] c0)
 let c2:=AV s c1
 let pw:=Eng.sub s c1 c2
 if pw=[]\/c2<len s then(B6,c2,1)else JI neg fg x pw (if m then-1 else 1)
def IV(s:A0)(neg:Bool)(fg:A0)(x:Int)(b:Int):Nd×Int×Int:=
 if D6 s [101,69] b then XJ s neg fg x (BJ s [101,69] b)
 else if BJ s [101,69] b<len s then(B6,BJ s [101,69] b,1)else JI neg fg x [] 1
def GI(s:A0):Nd×Int×Int:=
 let neg:=D6 s [45] 0
 let a0:=BJ s [45] 0
 let b0:=AV s a0
 let fg:=Eng.sub s a0 b0
 if 1<len fg/\A4 fg 0=48 then(B6,a0+1,1)
 else if fg=[]then(B6,b0,1)
 else if D6 s [46] b0 then
  let b2:=AV s (BJ s [46] b0)
  let part:=Eng.sub s (BJ s [46] b0) b2
  if part=[]then(B6,b2,1)else IV s neg (fg++part) (-(len part)) b2
 else IV s neg fg 0 (BJ s [46] b0)
theorem AH9{s:A0}{i:Int}(h0:0<=i):Eng.sub s i (AV s i)=(A5 s i).takeWhile CP:=by
 have h1:(AV s i).toNat-i.toNat=((A5 s i).takeWhile CP).length:=by unfold AV len;omega
 unfold Eng.sub;rw[h1]
 exact(List.prefix_iff_eq_take.1 (List.takeWhile_prefix CP)).symm
theorem nH{α:Type}{p:α->Bool}: ∀ {l:List α},∀x∈l.takeWhile p,p x=true
 |[],x,hx=>by cases hx
 |a::l,x,hx=>by
  rw[List.takeWhile_cons]at hx
  split at hx
  ·rename_i b
   rcases List.mem_cons.1 hx with rfl|hx
   ·exact b
   ·exact nH x hx
  ·cases hx
theorem XK{s:A0}{i:Int}(h0:0<=i): ∀b∈Eng.sub s i (AV s i),CP b=true:=by rw[AH9 h0];exact nH
theorem AI0{l:A0}(h: ∀b∈l,CP b=true): ∀b∈AS l,CP b=true:=λ b e=>h b ((List.dropWhile_sublist _).subset e)
theorem nI: ∀(l:A0) (n:Int),(∀b∈l,CP b=true)->0<=n->0<=l.foldl (λ n b=>n*10+((b.toNat:Int)-48)) n/\l.foldl (λ n b=>n*10+((b.toNat:Int)-48)) n<(n+1)*10^l.length
 |[],n,_,h0=>by simp;omega
 |a::l,n,h,h0=>by
  have e:=h a (by simp)
  unfold CP C1 at e
  simp only[Bool.and_eq_true,decide_eq_true_eq]at e
  have:=nI l (n*10+((a.toNat:Int)-48)) (λ b i=>h b (by simp[i])) Aa
  rw[List.foldl_cons]
  refine⟨this.1,Int.lt_of_lt_of_le this.2 ?_⟩
  have h1:(n+1)*10^ (a::l).length=((n+1)*10)*10^l.length:=by rw[List.length_cons,Int.pow_succ,Int.mul_comm (10^l.length) 10,<-Int.mul_assoc]
  rw[h1]
  exact Int.mul_le_mul_of_nonneg_right Aa (Int.le_of_lt (Int.pow_pos (by decide:(0:Int)<10)))
def C9:List KV:=[⟨34,.int .i32 34,0⟩,⟨92,.int .i32 92,1⟩,⟨47,.int .i32 47,2⟩,⟨98,.int .i32 8,3⟩,⟨102,.int .i32 12,4⟩,⟨110,.int .i32 10,5⟩,⟨114,.int .i32 13,6⟩,⟨116,.int .i32 9,7⟩]
def FC(p:KV):Int:=match p.val with| .int _ x=>x|_=>0
theorem AI1: ∀p∈C9,p.val= .int .i32 (FC p):=by
 intro p hp
 simp only[C9,List.mem_cons,List.not_mem_nil,or_false]at hp
 rcases hp with rfl|rfl|rfl|rfl|rfl|rfl|rfl|rfl<;>rfl
theorem AI2: ∀p∈C9,p.born<8:=by
 intro p hp
 simp only[C9,List.mem_cons,List.not_mem_nil,or_false]at hp
 rcases hp with rfl|rfl|rfl|rfl|rfl|rfl|rfl|rfl<;>decide
theorem nJ:(C9.map (·.born)).Nodup:=by decide
theorem AI3: ∀p∈C9,∀q∈C9,FC p=FC q->p=q:=by
 intro p hp q b h
 simp only[C9,List.mem_cons,List.not_mem_nil,or_false]at hp b
 rcases hp with rfl|rfl|rfl|rfl|rfl|rfl|rfl|rfl<;>rcases b with rfl|rfl|rfl|rfl|rfl|rfl|rfl|rfl<;>first|rfl|(exfalso;revert h;decide)
def L8(c:Int):Bool:=c==34||c==92||c==47||c==98||c==102||c==110||c==114||c==116
def ND(c:Int):Int:=if c=98 then 8 else if c=102 then 12 else if c=110 then 10 else if c=114 then 13 else if c=116 then 9 else if L8 c then c else 0
theorem AI4(c:Int):(C2 C9 c).getD (.int .i32 0)= .int .i32 (ND c)/\(C2 C9 c).isSome=L8 c:=by
 simp only[C9,C2,beq_iff_eq]
 by_cases h1:c=34
 ·subst h1;exact⟨rfl,rfl⟩
 by_cases h2:c=92
 ·subst h2;exact⟨rfl,rfl⟩
 by_cases h3:c=47
 ·subst h3;exact⟨rfl,rfl⟩
 by_cases h4:c=98
 ·subst h4;exact⟨rfl,rfl⟩
 by_cases h5:c=102
 ·subst h5;exact⟨rfl,rfl⟩
 by_cases h6:c=110
 ·subst h6;exact⟨rfl,rfl⟩
 by_cases h7:c=114
 ·subst h7;exact⟨rfl,rfl⟩
 by_cases h8:c=116
 ·subst h8;exact⟨rfl,rfl⟩
 rw[if_neg h1,if_neg h2,if_neg h3,if_neg h4,if_neg h5,if_neg h6,if_neg h7,if_neg h8]
 have:L8 c=false:=by simp[L8,h1,h2,h3,h4,h5,h6,h7,h8]
 simp[ND,this,h4,h5,h6,h7,h8]
def KM(r:Int):Bool:=r==34||r==92||r==8||r==12||r==10||r==13||r==9
def KN(r:Int):Int:=if r=8 then 98 else if r=12 then 102 else if r=10 then 110 else if r=13 then 114 else if r=9 then 116 else if KM r then r else 0
def Lets(seen:Array Nat)(l:List KV):Prop:=
 (l.map (·.key)).Nodup/\(∀p∈C9,seen.contains p.born=true->C2 l (FC p)=some (.int .u8 p.key))/\ ∀r,(∀p∈C9,seen.contains p.born=true->FC p≠r)->C2 l r=none
theorem AI5{l:List KV}{x:Int}(h:C2 l x=none): ∀p∈l,p.key≠x:=by
 induction l with
 |nil=>intro p hp;cases hp
 |cons a l b=>
  intro p hp
  unfold C2 at h
  split at h
  ·cases h
  ·rename_i i
   rcases List.mem_cons.1 hp with rfl|hp
   ·intro e;subst e;simp at i
   ·exact b h p hp
theorem AI6{l:List KV}{x:Int}{v:Value}(h:C2 l x=none):M5 l x v=none:=by
 induction l with
 |nil=>rfl
 |cons a l b=>
  unfold C2 at h;unfold M5
  split at h
  ·cases h
  ·rename_i e;rw[if_neg e,b h];rfl
theorem nK(l:List KV)(p:KV)(x:Int)(h:C2 l p.key=none):C2 (l++[p]) x=if x==p.key then some p.val else C2 l x:=by
 induction l with
 |nil=>simp[C2]
 |cons a l i=>
  have b: ¬(p.key==a.key)=true:=by intro e;simp[C2,e]at h
  have j:C2 l p.key=none:=by simpa[C2,b]using h
  simp only[List.cons_append,C2,i j]
  by_cases e1:(x==a.key)=true
  ·rw[if_pos e1,if_pos e1]
   have: ¬(x==p.key)=true:=by
    intro e2;apply b
    have k:x=a.key:=by simpa using e1
    have a2:x=p.key:=by simpa using e2
    simp[<-k,<-a2]
   rw[if_neg this]
  ·rw[if_neg e1,if_neg e1]
theorem AI7(l:List KV)(x y:Int)(h:(l.map (·.key)).Nodup):C2 (I7 l x) y=if y==x then none else C2 l y:=by
 induction l with
 |nil=>simp[I7,C2]
 |cons a l n=>
  rw[List.map_cons,List.nodup_cons]at h
  have i:=n h.2
  unfold I7
  by_cases e:(x==a.key)=true
  ·rw[if_pos e]
   have q:x=a.key:=by simpa using e
   by_cases f:(y==x)=true
   ·rw[if_pos f]
    have s:y=x:=by simpa using f
    cases hk:C2 l y with
    |none=>rfl
    |some v=>
     exfalso;apply h.1
     have: ∃p∈l,p.key=y:=by
      clear n i h
      induction l with
      |nil=>cases hk
      |cons b l j=>
       unfold C2 at hk
       split at hk
       ·rename_i w;exact⟨b,by simp,by simpa using(by simpa using w:y=b.key).symm⟩
       ·obtain⟨p,hp,k⟩:=j hk;exact⟨p,by simp[hp],k⟩
     obtain⟨p,hp,k⟩:=this
     exact List.mem_map.2 ⟨p,hp,by rw[k,s,q]⟩
   ·rw[if_neg f]
    rw[show C2 (a::l) y=if y==a.key then some a.val else C2 l y from rfl,if_neg (by rw[<-q];exact f)]
  ·rw[if_neg e]
   unfold C2
   by_cases f:(y==a.key)=true
   ·rw[if_pos f,if_pos f]
    have: ¬(y==x)=true:=by
     intro g;apply e
     have z:y=a.key:=by simpa using f
     have a2:y=x:=by simpa using g
     simp[<-z,<-a2]
    rw[if_neg this]
   ·rw[if_neg f,if_neg f];exact i
theorem Lets.step {seen:Array Nat}{l:List KV}{c:Nat}(h:Lets seen l){p:KV}(hp:p∈C9)(A: ¬seen.contains p.born=true):Lets (seen.push p.born) (M6 l c (FC p) (.int .u8 p.key)):=by
 obtain⟨h1,B,s⟩:=h
 have j: ∀q∈C9,seen.contains q.born=true->FC q≠FC p:=by
  intro q b i e
  have:=AI3 q b p hp e
  subst this;exact A i
 have h0:C2 l (FC p)=none:=s _ j
 have C:M6 l c (FC p) (.int .u8 p.key)=l++[⟨FC p,.int .u8 p.key,c⟩]:=by unfold M6;rw[AI6 h0]
 rw[C]
 have k: ∀q:KV,(seen.push p.born).contains q.born=true↔seen.contains q.born=true\/q.born=p.born:=by
  intro q;simp[Array.contains_iff_mem,Array.mem_push]
 refine⟨?_,?_,?_⟩
 ·rw[List.map_append,List.nodup_append]
  refine⟨h1,by simp,?_⟩
  intro x hx y w
  simp only[List.map_cons,List.map_nil,List.mem_singleton]at w
  subst w
  obtain⟨q,b,rfl⟩:=List.mem_map.1 hx
  exact AI5 h0 q b
 ·intro q b i
  rw[nK _ _ _ h0]
  rcases(k q).1 i with i|i
  ·rw[if_neg (by simpa using j q b i)];exact B q b i
  ·have:q=p:=by
    have D:=nJ
    simp only[C9,List.mem_cons,List.not_mem_nil,or_false]at hp b
    rcases hp with rfl|rfl|rfl|rfl|rfl|rfl|rfl|rfl<;>rcases b with rfl|rfl|rfl|rfl|rfl|rfl|rfl|rfl<;>first|rfl|(exfalso;revert i;decide)
   subst this;simp
 ·intro r z
  have n:FC p≠r:=z p hp ((k p).2 (.inr U))
  rw[nK _ _ _ h0,if_neg (by simpa using λ e=>n e.symm)]
  exact s r λ q b i=>z q b ((k q).2 (.inl i))
theorem AI8{seen:Array Nat}{l:List KV}(h:Lets seen l)(e: ∀p∈C9,seen.contains p.born=true)(r:Int):
  (C2 (I7 l 47) r).getD (.int .u8 0)= .int .u8 (KN r)/\(C2 (I7 l 47) r).isSome=KM r:=by
 obtain⟨h1,i,j⟩:=h
 rw[AI7 _ _ _ h1]
 have b: ∀p∈C9,C2 l (FC p)=some (.int .u8 p.key):=λ p hp=>i p hp (e p hp)
 by_cases e0:r=47
 ·subst e0;exact⟨rfl,rfl⟩
 rw[if_neg (by simpa using e0)]
 by_cases e1:r=34
 ·subst e1;have:=b ⟨34,.int .i32 34,0⟩ (by simp[C9]);rw[show FC ⟨34,.int .i32 34,0⟩=34 from rfl]at this;rw[this];exact⟨rfl,rfl⟩
 by_cases e2:r=92
 ·subst e2;have:=b ⟨92,.int .i32 92,1⟩ (by simp[C9]);rw[show FC ⟨92,.int .i32 92,1⟩=92 from rfl]at this;rw[this];exact⟨rfl,rfl⟩
 by_cases e3:r=8
 ·subst e3;have:=b ⟨98,.int .i32 8,3⟩ (by simp[C9]);rw[show FC ⟨98,.int .i32 8,3⟩=8 from rfl]at this;rw[this];exact⟨rfl,rfl⟩
 by_cases e4:r=12
 ·subst e4;have:=b ⟨102,.int .i32 12,4⟩ (by simp[C9]);rw[show FC ⟨102,.int .i32 12,4⟩=12 from rfl]at this;rw[this];exact⟨rfl,rfl⟩
 by_cases e5:r=10
 ·subst e5;have:=b ⟨110,.int .i32 10,5⟩ (by simp[C9]);rw[show FC ⟨110,.int .i32 10,5⟩=10 from rfl]at this;rw[this];exact⟨rfl,rfl⟩
 by_cases e6:r=13
 ·subst e6;have:=b ⟨114,.int .i32 13,6⟩ (by simp[C9]);rw[show FC ⟨114,.int .i32 13,6⟩=13 from rfl]at this;rw[this];exact⟨rfl,rfl⟩
 by_cases e7:r=9
 ·subst e7;have:=b ⟨116,.int .i32 9,7⟩ (by simp[C9]);rw[show FC ⟨116,.int .i32 9,7⟩=9 from rfl]at this;rw[this];exact⟨rfl,rfl⟩
 have k:C2 l r=none:=j r (by
  intro p hp _
  simp only[C9,List.mem_cons,List.not_mem_nil,or_false]at hp
  rcases hp with rfl|rfl|rfl|rfl|rfl|rfl|rfl|rfl<;>simp only[FC]<;>omega)
 have hi:KM r=false:=by simp[KM,e1,e2,e3,e4,e5,e6,e7]
 rw[k];simp[KN,hi,e3,e4,e5,e6,e7]
theorem nL{α:Type}(f g:α->Bool): ∀l:List α,(l.filter (λ q=> !(f q||g q))).length<=(l.filter (λ q=> !f q)).length/\((∃p∈l,f p=false/\g p=true)->(l.filter (λ q=> !(f q||g q))).length<(l.filter (λ q=> !f q)).length)
 |[]=>⟨Nat.le_refl _,λ⟨p,hp,_⟩=>by cases hp⟩
 |a::l=>by
  obtain⟨h1,h⟩:=nL f g l
  rw[List.filter_cons,List.filter_cons]
  cases hf:f a<;>cases hg:g a<;>simp only[Bool.or_false,Bool.or_true,Bool.false_or,Bool.true_or,Bool.not_false,Bool.not_true,if_true,if_false,Bool.false_eq_true,List.length_cons]
  ·refine⟨Aa,λ⟨p,hp,b,e⟩=>?_⟩
   rcases List.mem_cons.1 hp with rfl|hp
   ·rw[hg]at e;cases e
   ·have:=h ⟨p,hp,b,e⟩;omega
  ·exact⟨Aa,λ _=>by omega⟩
  ·refine⟨Aa,λ⟨p,hp,b,e⟩=>?_⟩
   rcases List.mem_cons.1 hp with rfl|hp
   ·rw[hf]at b;cases b
   ·exact h ⟨p,hp,b,e⟩
  ·refine⟨Aa,λ⟨p,hp,b,e⟩=>?_⟩
   rcases List.mem_cons.1 hp with rfl|hp
   ·rw[hf]at b;cases b
   ·exact h ⟨p,hp,b,e⟩
theorem AI9{seen:Array Nat}{p:KV}(hp:p∈C9)(b: ¬seen.contains p.born=true):(C9.filter (λ q=> !(seen.push p.born).contains q.born)).length<(C9.filter (λ q=> !seen.contains q.born)).length:=by
 have e:(λ q:KV=> !(seen.push p.born).contains q.born)=λ q=> !(seen.contains q.born||q.born==p.born):=by
  funext q;congr 1;rw[Bool.eq_iff_iff];simp[Array.contains_iff_mem,Array.mem_push]
 rw[e]
 exact(nL (λ q:KV=>seen.contains q.born) (λ q=>q.born==p.born) C9).2 ⟨p,hp,by simpa using b,by simp⟩
def MH(b:UInt8):Int:=if 48<=b.toNat/\b.toNat<=57 then b.toNat-48 else if 97<=b.toNat/\b.toNat<=102 then b.toNat-87 else if 65<=b.toNat/\b.toNat<=70 then b.toNat-55 else-1
def EK(l:A0):Bool:=l.all (λ b=>decide (0<=MH b))
def FD(l:A0):Int:=l.foldl (λ n b=>n*16+MH b) 0
def BZ(s:A0):Int:=if len s<6 then-1 else if Lib.hasPrefix s [92,117]=false then-1 else if EK (Eng.sub s 2 6)then FD (Eng.sub s 2 6)else-1
def BW(s:A0):Int×Int:=
 if len s<2 then(0,0)
 else if L8 (A4 s 1)then(ND (A4 s 1),2)
 else if BZ s<0\/(56320<=BZ s/\BZ s<57344)then(0,0)
 else if BZ s<55296\/57344<=BZ s then(BZ s,6)
 else if BZ (A5 s 6)<56320\/57344<=BZ (A5 s 6)then(0,0)
 else(65536+(BZ s-55296)*1024+BZ (A5 s 6)-56320,12)
theorem AJ0(b:UInt8):MH b<=15:=by unfold MH;(repeat' split)<;>omega
theorem UT: ∀(l:A0) (n:Int),(∀b∈l,0<=MH b)->0<=n->0<=l.foldl (λ n b=>n*16+MH b) n/\l.foldl (λ n b=>n*16+MH b) n<(n+1)*16^l.length
 |[],n,_,h0=>by simp;omega
 |a::l,n,h,h0=>by
  have i:=h a (by simp)
  have e:=AJ0 a
  have:=UT l (n*16+MH a) (λ b e=>h b (by simp[e])) Aa
  rw[List.foldl_cons]
  refine⟨this.1,Int.lt_of_lt_of_le this.2 ?_⟩
  have h1:(n+1)*16^ (a::l).length=((n+1)*16)*16^l.length:=by rw[List.length_cons,Int.pow_succ,Int.mul_comm (16^l.length) 16,<-Int.mul_assoc]
  rw[h1]
  exact Int.mul_le_mul_of_nonneg_right Aa (Int.le_of_lt (Int.pow_pos (by decide:(0:Int)<16)))
theorem AJ1{l:A0}(hl:len l=4)(h:EK l=true):0<=FD l/\FD l<=65535:=by
 unfold EK at h
 have:=UT l 0 (by simpa[List.all_eq_true]using h) Aa
 rw[show l.length=4 from by unfold len at hl;omega]at this
 unfold FD;omega
theorem OE(s:A0): -1<=BZ s/\BZ s<=65535/\(0<=BZ s->6<=len s):=by
 unfold BZ
 split
 ·omega
 ·split
  ·omega
  ·split
   ·rename_i h1 e b
    unfold EK at b
    have:=UT (Eng.sub s 2 6) 0 (by simpa[List.all_eq_true]using b) Aa
    have hl:(Eng.sub s 2 6).length=4:=by have:=FL (s:=s) (i:=2) (j:=6) Aa Aa Aa;unfold len at this;omega
    rw[hl]at this
    unfold FD;omega
   ·omega
theorem AJ2(s:A0):0<=(BW s).1/\(BW s).1<=1114111/\0<=(BW s).2/\(BW s).2<=12:=by
 have h1:=OE s
 have b:=OE (A5 s 6)
 have e:=LZ s 1
 have h:0<=ND (A4 s 1)/\ND (A4 s 1)<=255:=by unfold ND;(repeat' split)<;>omega
 unfold BW
 repeat' split
 all_goals (dsimp only;omega)
def DS(f:Nat)(s:A0)(i:Int)(acc:List Int):A0×Int×Int:=
 match f with
 |0=>([],len s,1)
 |f+1=>
  if i<len s then
   if AX (A5 s i) 0=34 then(toStr acc,i+1,0)
   else if AX (A5 s i) 0=92 then
    if(BW (A5 s i)).2=0 then([],i,1)else DS f s (i+(BW (A5 s i)).2) (acc++Lib.encodeRuneZ (BW (A5 s i)).1)
   else if AX (A5 s i) 0<32\/(AX (A5 s i) 0=65533/\runeLen (A5 s i) 0=1)then([],i,1)
   else DS f s (i+runeLen (A5 s i) 0) (acc++Lib.encodeRuneZ (AX (A5 s i) 0))
  else([],len s,1)
def B1(s:A0):A0×Int×Int:=if Lib.hasPrefix s [34]then DS s.length s 1 []else([],0,1)
theorem SA{f:Nat}{s:A0}{i:Int}{acc:List Int}(b:(len s-i).toNat<=f)(h1:i<len s):DS f s i acc=
  (if AX (A5 s i) 0=34 then(toStr acc,i+1,0)
   else if AX (A5 s i) 0=92 then
    if(BW (A5 s i)).2=0 then([],i,1)else DS (f-1) s (i+(BW (A5 s i)).2) (acc++Lib.encodeRuneZ (BW (A5 s i)).1)
   else if AX (A5 s i) 0<32\/(AX (A5 s i) 0=65533/\runeLen (A5 s i) 0=1)then([],i,1)
   else DS (f-1) s (i+runeLen (A5 s i) 0) (acc++Lib.encodeRuneZ (AX (A5 s i) 0))):=by
 cases f with
 |zero=>omega
 |succ f=>
     conv=>lhs;unfold DS
     rw[if_pos h1];rfl
theorem nN{f:Nat}{s:A0}{i:Int}{acc:List Int}(h1: ¬i<len s):DS f s i acc=([],len s,1):=by
 cases f with
 |zero=>rfl
 |succ f=>unfold DS;rw[if_neg h1]
theorem AJ3:Lets #[] []:=⟨by simp,λ p _ h=>by simp at h,λ r _=>rfl⟩
def OF(n:Int):Int:=if n<10 then 48+n else 87+n
def E9(r:Int):A0:=if KM r then [92,(KN r).toNat.toUInt8]else if r<32 then [92,117,48,48,(OF (r/16)).toNat.toUInt8,(OF (r%16)).toNat.toUInt8]else Lib.encodeRune r
theorem UU(s:A0)(p:Int)(h0:0<=p)(h1:p<len s):1<=runeLen s p/\p+runeLen s p<=len s:=by
 have b:(ByteArray.mk ⟨s⟩).size=s.length:=rfl
 have h:=Lib.decode_width_pos ⟨⟨s⟩⟩ p.toNat (by rw[b];unfold len at h1;omega)
 have e:(Utf8.decode ⟨⟨s⟩⟩ p.toNat).2<=(ByteArray.mk ⟨s⟩).size-p.toNat:=by rw[Lib.decode_at];exact Lib.decodeN_width_le _ _ _ _ _ (by rw[b];unfold len at h1;omega)
 rw[b]at e
 unfold runeLen len at*;omega
def GR(s:A0)(p:Int):A0:=if h:0<=p/\p<len s then E9 (AX s p)++GR s (p+runeLen s p)else []
termination_by (len s-p).toNat
decreasing_by have:=UU s p h.1 h.2;omega
def E5(s:A0):A0:=34::GR s 0++[34]
theorem dR{s:A0}{p:Int}(h0:0<=p)(h1:p<len s):GR s p=E9 (AX s p)++GR s (p+runeLen s p):=by rw[GR,dif_pos ⟨h0,h1⟩]
theorem dS{s:A0}{p:Int}(h1: ¬p<len s):GR s p=[]:=by rw[GR,dif_neg Aa]
theorem dU(s:A0)(p:Int):0<=AX s p/\AX s p<=1114111:=by have:=Lib.rune_le ⟨⟨s⟩⟩ p.toNat;unfold AX;omega
theorem AJ4(r:Int):0<=KN r/\KN r<=255:=by
 unfold KN
 (repeat' split)<;>first|omega|skip
 rename_i h;unfold KM at h;simp only[Bool.or_eq_true,beq_iff_eq]at h;omega
theorem AJ5{r:Int}(h:KM r=true):ints (E9 r)=[92,KN r]:=by
 have:=AJ4 r
 unfold E9;rw[if_pos h];simp[ints];omega
theorem AJ6{r:Int}(h:KM r=false)(b:r<32)(e:0<=r):ints (E9 r)=ints [92,117,48,48]++ints (A5 [49,(OF (r/16)).toNat.toUInt8,(OF (r%16)).toNat.toUInt8] 1):=by
 unfold E9;rw[if_neg (by rw[h];simp),if_pos b];rfl
theorem AJ7{r:Int}(h:KM r=false)(b: ¬r<32):ints (E9 r)=Lib.encodeRuneZ r:=by
 unfold E9;rw[if_neg (by rw[h];simp),if_neg b]
 unfold ints Lib.encodeRune;rw[List.map_map]
 conv=>rhs;rw[<-List.map_id (Lib.encodeRuneZ r)]
 apply List.map_congr_left
 intro x hx
 have:=Lib.encodeRuneZ_byte r x hx
 simp;omega
def MI(b:UInt8):Bool:=O4 (b.toNat:Int)
def E6(s:A0)(i:Int):Int:=i+len ((A5 s i).takeWhile MI)
theorem nO(s:A0)(i:Int)(h0:0<=i)(h1:i<=len s):i<=E6 s i/\E6 s i<=len s:=by
 have b:=ED s i h0 h1
 have e:=(List.takeWhile_sublist MI (l:=A5 s i)).length_le
 unfold E6 len at*;omega
def NF(n:Int):A0:=Eng.sub [48,49,50,51,52,53,54,55,56,57,97,98,99,100,101,102] n (n+1)
def NG(c:Int):A0:=
 if c=34 then [92,34]else if c=92 then [92,92]else if c=8 then [92,98]else if c=12 then [92,102]else if c=10 then [92,110]else if c=13 then [92,114]else if c=9 then [92,116]
 else if c<32 then [92,117,48,48]++NF (c/16)++NF (c%16)else toStr [c]
def L9(b:UInt8):A0:=NG (b.toNat:Int)
def NH(s:A0):A0:=34::s.flatMap L9++[34]
theorem AJ8(c:Int):0<=len (NG c)/\len (NG c)<=6:=by
 have h1:=Q4 ([48,49,50,51,52,53,54,55,56,57,97,98,99,100,101,102]:A0) (c/16) (c/16+1)
 have b: ∀n:Int,0<=len (NF n)/\len (NF n)<=1:=by intro n;unfold NF Eng.sub len;simp;omega
 have e:=b (c/16)
 have h:=b (c%16)
 unfold NG toStr
 (repeat' split)<;>(simp only[AN,AH,len_nil,List.map_cons,List.map_nil];omega)
theorem nP{s:A0}{k:Int}(h0:0<=k)(h1:k<len s): ∃b,Eng.sub s 0 (k+1)=Eng.sub s 0 k++[b]/\(b.toNat:Int)=A4 s k:=by
 have h:k.toNat<s.length:=by unfold len at h1;omega
 refine⟨s[k.toNat],?_,by simp[A4,h]⟩
 unfold Eng.sub
 simp only[Int.toNat_zero,List.drop_zero,Nat.sub_zero]
 rw[show(k+1).toNat=k.toNat+1 from by omega,List.take_succ_eq_append_getElem h]
theorem AJ9{s:A0}{k:Int}{o:A0}(h0:0<=k)(h1:k<len s)(h:o=34::(Eng.sub s 0 k).flatMap L9):o++NG (A4 s k)=34::(Eng.sub s 0 (k+1)).flatMap L9:=by
 obtain⟨b,e,i⟩:=nP h0 h1
 rw[e,h,List.flatMap_append,<-i];simp[L9]
theorem Q5{b:UInt8}:(([48]:A0).contains b)=true↔(b.toNat:Int)=48:=by
 simp only[List.contains_cons,List.contains_nil,Bool.or_false,beq_iff_eq]
 constructor
 ·rintro rfl;rfl
 ·intro h;apply UInt8.toNat_inj.1;show b.toNat=48;omega
theorem nQ{s:A0}(h: ¬(0<len s/\A4 s 0=48)):AS s=s:=by
 cases s with
 |nil=>rfl
 |cons a l=>
  unfold AS
  rw[List.dropWhile_cons,if_neg]
  intro b
  have h1:=Q5.1 b
  exact h ⟨by rw[AH];have:=A6 l;omega,by simpa[A4]using h1⟩
theorem AK0{s:A0}(h:0<len s/\A4 s 0=48):AS (A5 s 1)=AS s:=by
 cases s with
 |nil=>exact absurd h.1 Ab
 |cons a l=>
  rw[AH7]
  unfold AS
  conv=>rhs;rw[List.dropWhile_cons,if_pos (Q5.2 (by simpa[A4]using h.2))]
theorem dW{s:A0}(h:0<len s): ∃b,s=Eng.sub s 0 (len s-1)++[b]/\(b.toNat:Int)=A4 s (len s-1):=by
 obtain⟨b,h1,e⟩:=nP (s:=s) (k:=len s-1) Aa Aa
 rw[show len s-1+1=len s from by omega,O5 s (len s) Aa]at h1
 exact⟨b,h1,e⟩
theorem AK1{s:A0}(h:0<len s)(i:A4 s (len s-1)=48):BC (Eng.sub s 0 (len s-1))=BC s:=by
 obtain⟨b,e,j⟩:=dW h
 generalize Eng.sub s 0 (len s-1)=v at e
 rw[e]
 unfold BC Lib.trimRightS
 rw[List.reverse_append,List.reverse_singleton,List.singleton_append,List.dropWhile_cons,if_pos (Q5.2 (by rw[j,i]))]
theorem AK2{s:A0}(h:0<len s)(i: ¬A4 s (len s-1)=48):BC s=s:=by
 obtain⟨b,e,j⟩:=dW h
 generalize Eng.sub s 0 (len s-1)=v at e
 rw[e]
 unfold BC Lib.trimRightS
 rw[List.reverse_append,List.reverse_singleton,List.singleton_append,List.dropWhile_cons,if_neg (λ k=>i (by rw[<-j];exact Q5.1 k))]
 simp
theorem dX(x:Int)(n:Nat)(h:x.toNat=n):toStr [x]=[UInt8.ofNat n]:=by subst h;rfl
theorem dY{k:Int}(h:0<=k):Lib.itoa k=(if 10<=k then Lib.itoa (k/10)else [])++toStr [48+k%10]:=by
 rw[dX _ (48+k.toNat%10) Aa]
 by_cases hk:10<=k
 ·rw[if_pos hk]
  unfold Lib.itoa
  rw[if_neg Aa,if_neg Aa,Lib.decDigits,dif_neg Aa,show(k/10).toNat=k.toNat/10 from by omega]
 ·rw[if_neg hk]
  unfold Lib.itoa
  rw[if_neg Aa,Lib.decDigits,dif_pos Aa,Nat.mod_eq_of_lt Aa];rfl
theorem AK3{a:UInt8}{l:A0}(h:(([48]:A0).contains a)=true):AS (a::l)=AS l:=by unfold AS;rw[List.dropWhile_cons,if_pos h]
def Q6(n x0 x1 x2 x3:Nat):Nat:=
 if x0<128 then 1
 else if 194<=x0/\x0<224/\(1<n/\128<=x1/\x1<192)then 2
 else if 224<=x0/\x0<240/\(1<n/\128<=x1/\x1<192)/\(2<n/\128<=x2/\x2<192)then
  if(x0=224/\x1<160)\/(x0=237/\160<=x1)then 0 else 3
 else if 240<=x0/\x0<245/\(1<n/\128<=x1/\x1<192)/\(2<n/\128<=x2/\x2<192)/\(3<n/\128<=x3/\x3<192)then
  if(x0=240/\x1<144)\/(x0=244/\144<=x1)then 0 else 4
 else 0
def dZ(n x0 x1 x2 x3 k r l:Nat):Prop:=
 (k=0/\r=65533/\l=1/\128<=x0)\/(k=1/\r=x0/\l=1/\x0<128)\/
 (k=2/\l=2/\2<=n/\128<=r/\r<=2047/\192+r/64=x0/\128+r%64=x1)\/
 (k=3/\l=3/\3<=n/\((2048<=r/\r<55296)\/(57343<r/\r<=65535))/\224+r/4096=x0/\128+r/64%64=x1/\128+r%64=x2)\/
 (k=4/\l=4/\4<=n/\65536<=r/\r<=1114111/\240+r/262144=x0/\128+r/4096%64=x1/\128+r/64%64=x2/\128+r%64=x3)
set_option maxHeartbeats 4000000 in
set_option maxRecDepth 100000 in
theorem e8(n b e h i:Nat)(j:1<=n)(h0:b<256)(h1:e<256)(k:h<256)(l:i<256):dZ n b e h i (Q6 n b e h i) (Lib.decodeN n b e h i).1 (Lib.decodeN n b e h i).2:=by
 unfold Q6 Lib.decodeN dZ
 repeat' split
 all_goals first|exact .inl ⟨rfl,rfl,rfl,Aa⟩|exact .inr (.inl ⟨rfl,rfl,rfl,Aa⟩)|exact .inr (.inr (.inl ⟨rfl,rfl,Aa,by dsimp only;omega,by dsimp only;omega,by dsimp only;omega,by dsimp only;omega⟩))|exact .inr (.inr (.inr (.inl ⟨rfl,rfl,Aa,by dsimp only;omega,by dsimp only;omega,by dsimp only;omega,by dsimp only;omega⟩)))|exact .inr (.inr (.inr (.inr ⟨rfl,rfl,Aa,by dsimp only;omega,by dsimp only;omega,by dsimp only;omega,by dsimp only;omega,by dsimp only;omega,by dsimp only;omega⟩)))|(exfalso;omega)
theorem XL(s:A0)(i:Int)(h0:0<=i)(j:Nat):A4 s (i+j)=((s.getD (i.toNat+j) 0).toNat:Int):=by
 unfold A4;rw[show(i+j).toNat=i.toNat+j from by omega]
theorem nR(s:A0)(i:Int)(j:Nat):(A5 s i).getD j 0=s.getD (i.toNat+j) 0:=by
 unfold A5;simp[List.getD_eq_getElem?_getD,List.getElem?_drop]
theorem nS(l:A0)(j:Nat):(ByteArray.mk ⟨l⟩).get! j=l.getD j 0:=by
 show(Array.mk l)[j]! =_
 simp[List.getD_eq_getElem?_getD]
 rfl
theorem KO{α:Type}(s:List α)(i j:Int)(h0:0<=i)(h1:0<=j):A5 (A5 s i) j=A5 s (i+j):=by
 unfold A5;rw[List.drop_drop,show(i+j).toNat=i.toNat+j.toNat from by omega]
theorem OG(s:A0)(i j:Int)(h0:0<=i)(h1:0<=j):A4 (A5 s i) j=A4 s (i+j):=by
 unfold A4;rw[nR,show(i+j).toNat=i.toNat+j.toNat from by omega]
theorem XM(s:A0)(i:Int)(h0:0<=i):
  Utf8.decode ⟨⟨A5 s i⟩⟩ 0=Lib.decodeN (s.length-i.toNat) (s.getD i.toNat 0).toNat (s.getD (i.toNat+1) 0).toNat (s.getD (i.toNat+2) 0).toNat (s.getD (i.toNat+3) 0).toNat:=by
 rw[Lib.decode_at]
 simp only[nS,nR,Nat.zero_add,Nat.add_zero,Nat.sub_zero]
 congr 1
 show(A5 s i).length=_
 unfold A5;rw[List.length_drop]
theorem SB(s:A0)(i:Int)(h0:0<=i):Utf8.decode ⟨⟨s⟩⟩ i.toNat=Utf8.decode ⟨⟨A5 s i⟩⟩ 0:=by
 rw[XM s i h0,Lib.decode_at]
 simp only[nS];rfl
theorem SC(s:A0)(i:Int)(h0:0<=i):AX (A5 s i) 0=AX s i:=by unfold AX;rw[SB s i h0];rfl
theorem Q7(s:A0)(i:Int)(h0:0<=i):runeLen (A5 s i) 0=runeLen s i:=by unfold runeLen;rw[SB s i h0];rfl
theorem XN{s:A0}{i:Int}(h0:0<=i): ∀n:Nat,i+n<=len s->Eng.sub s i (i+n)=(List.range n).map (λ j=>s.getD (i.toNat+j) 0):=by
 intro n h
 unfold Eng.sub
 apply List.ext_getElem?
 intro k
 rw[show(i+n).toNat-i.toNat=n from by omega]
 unfold len at h
 by_cases hk:k<n
 ·rw[List.getElem?_take,if_pos hk,List.getElem?_drop]
  have:i.toNat+k<s.length:=by omega
  simp[hk,this]
 ·rw[List.getElem?_take,if_neg hk]
  simp[hk]
theorem LA(b:UInt8)(x:Int)(h:x=(b.toNat:Int)):UInt8.ofNat x.toNat=b:=by subst h;simp
theorem e9{s:A0}{i:Int}(h0:0<=i)(h1:i<len s):rune s i=(Q6 (s.length-i.toNat) (s.getD i.toNat 0).toNat (s.getD (i.toNat+1) 0).toNat (s.getD (i.toNat+2) 0).toNat (s.getD (i.toNat+3) 0).toNat:Nat):=by
 have e0:A4 s i=((s.getD i.toNat 0).toNat:Int):=rfl
 have b:A4 s (i+1)=((s.getD (i.toNat+1) 0).toNat:Int):=XL s i h0 1
 have e2:A4 s (i+2)=((s.getD (i.toNat+2) 0).toNat:Int):=XL s i h0 2
 have e3:A4 s (i+3)=((s.getD (i.toNat+3) 0).toNat:Int):=XL s i h0 3
 have hlen:len s=(s.length:Int):=rfl
 unfold rune cont Q6
 simp only[e0,b,e2,e3]
 simp only[Bool.and_eq_true,Bool.or_eq_true,decide_eq_true_eq,beq_iff_eq]
 repeat' split
 all_goals first|rfl|(exfalso;omega)
theorem MJ{s:A0}{i:Int}(h0:0<=i)(h1:i<len s):
  (rune s i=0/\AX s i=65533/\runeLen s i=1/\128<=A4 s i)\/
  (1<=rune s i/\runeLen s i=rune s i/\ ¬(AX s i=65533/\runeLen s i=1)/\toStr (Lib.encodeRuneZ (AX s i))=Eng.sub s i (i+rune s i)/\(A4 s i<128->rune s i=1/\AX s i=A4 s i)/\(128<=A4 s i->128<=AX s i)):=by
 have hlen:len s=(s.length:Int):=rfl
 have b:=e9 h0 h1
 have hle:=rune_le s i h1
 have e0:A4 s i=((s.getD i.toNat 0).toNat:Int):=rfl
 have s1:=XN (s:=s) h0 1
 have s2:=XN (s:=s) h0 2
 have h:=XN (s:=s) h0 3
 have j:=XN (s:=s) h0 4
 simp only[List.range_succ,List.range_zero,List.nil_append,List.map_append,List.map_cons,List.map_nil,List.cons_append,Nat.add_zero]at s1 s2 h j
 have e:AX s i=((Lib.decodeN (s.length-i.toNat) (s.getD i.toNat 0).toNat (s.getD (i.toNat+1) 0).toNat (s.getD (i.toNat+2) 0).toNat (s.getD (i.toNat+3) 0).toNat).1:Nat):=by
  unfold AX;rw[SB s i h0,XM s i h0]
 have hl:runeLen s i=((Lib.decodeN (s.length-i.toNat) (s.getD i.toNat 0).toNat (s.getD (i.toNat+1) 0).toNat (s.getD (i.toNat+2) 0).toNat (s.getD (i.toNat+3) 0).toNat).2:Nat):=by
  unfold runeLen;rw[SB s i h0,XM s i h0]
 have k:=e8 (s.length-i.toNat) (s.getD i.toNat 0).toNat (s.getD (i.toNat+1) 0).toNat (s.getD (i.toNat+2) 0).toNat (s.getD (i.toNat+3) 0).toNat Aa (UInt8.toNat_lt _) (UInt8.toNat_lt _) (UInt8.toNat_lt _) (UInt8.toNat_lt _)
 generalize Lib.decodeN (s.length-i.toNat) (s.getD i.toNat 0).toNat (s.getD (i.toNat+1) 0).toNat (s.getD (i.toNat+2) 0).toNat (s.getD (i.toNat+3) 0).toNat=D at*
 generalize Q6 (s.length-i.toNat) (s.getD i.toNat 0).toNat (s.getD (i.toNat+1) 0).toNat (s.getD (i.toNat+2) 0).toNat (s.getD (i.toNat+3) 0).toNat=K at*
 obtain⟨r,l⟩:=D
 dsimp only at k e hl
 rcases k with⟨rfl,hd,hx⟩|⟨rfl,hd,hx⟩|⟨rfl,hd,hx⟩|⟨rfl,hd,hx⟩|⟨rfl,hd,hx⟩
 ·left;refine⟨Aa,Aa,Aa,Aa⟩
 ·right
  refine⟨Aa,Aa,Aa,?_,λ _=>⟨Aa,Aa⟩,Aa⟩
  rw[e,b,Lib.encodeRuneZ_one Aa Aa]
  rw[show((1:Nat):Int)=1 from rfl]at*
  rw[s1 Aa]
  simp only[toStr,List.map_cons,List.map_nil]
  rw[LA (s.getD i.toNat 0) _ Aa]
 ·right
  refine⟨Aa,Aa,Aa,?_,Aa,Aa⟩
  rw[e,b,Lib.encodeRuneZ_two Aa Aa]
  have:=s2 Aa
  refine Eq.trans ?_ this.symm
  simp only[toStr,List.map_cons,List.map_nil]
  rw[LA (s.getD i.toNat 0) _ Aa,LA (s.getD (i.toNat+1) 0) _ Aa]
 ·right
  refine⟨Aa,Aa,Aa,?_,Aa,Aa⟩
  rw[e,b,Lib.encodeRuneZ_three Aa]
  have:=h Aa
  refine Eq.trans ?_ this.symm
  simp only[toStr,List.map_cons,List.map_nil]
  rw[LA (s.getD i.toNat 0) _ Aa,LA (s.getD (i.toNat+1) 0) _ Aa,LA (s.getD (i.toNat+2) 0) _ Aa]
 ·right
  refine⟨Aa,Aa,Aa,?_,Aa,Aa⟩
  rw[e,b,Lib.encodeRuneZ_four Aa Aa]
  have:=j Aa
  refine Eq.trans ?_ this.symm
  simp only[toStr,List.map_cons,List.map_nil]
  rw[LA (s.getD i.toNat 0) _ Aa,LA (s.getD (i.toNat+1) 0) _ Aa,LA (s.getD (i.toNat+2) 0) _ Aa,LA (s.getD (i.toNat+3) 0) _ Aa]
def nT(s:A0):A0:=s.dropWhile (([48,49,50,51,52,53,54,55,56,57,43,45,46,101,69]:A0).contains ·)
def IW(b:UInt8):Bool:=([48,49,50,51,52,53,54,55,56,57,43,45,46,101,69]:A0).contains b
theorem drop_take{α:Type}(p:α->Bool): ∀l:List α,l.dropWhile p=l.drop (l.takeWhile p).length
 |[]=>rfl
 |a::l=>by
  rw[List.dropWhile_cons,List.takeWhile_cons]
  split
  ·rw[List.length_cons,List.drop_succ_cons];exact drop_take p l
  ·rfl
def runN(s:A0):A0:=Eng.sub s 0 (len s-len (nT s))
theorem XO(s:A0):runN s=s.takeWhile IW:=by
 unfold runN nT
 rw[show(λ b=>([48,49,50,51,52,53,54,55,56,57,43,45,46,101,69]:A0).contains b)=IW from rfl,drop_take]
 have h:=(List.takeWhile_prefix IW (l:=s)).length_le
 unfold Eng.sub len
 rw[List.length_drop]
 have e:((s.length:Int)-((s.length-(s.takeWhile IW).length:Nat):Int)).toNat-Int.toNat 0=(s.takeWhile IW).length:=by omega
 rw[e]
 simp only[Int.toNat_zero,List.drop_zero]
 exact(List.prefix_iff_eq_take.1 (List.takeWhile_prefix IW)).symm
def EU(s:A0):A0:=(GG.find? (λ m=>Lib.hasPrefix s m)).getD []
theorem SD(s:A0):EU s=[]\/(EU s∈GG/\Lib.hasPrefix s (EU s)=true):=by
 unfold EU
 cases h:GG.find? (λ m=>Lib.hasPrefix s m)with
 |none=>left;rfl
 |some m=>right;exact⟨List.mem_of_find?_eq_some h,by simpa using List.find?_some h⟩
def eA:Tk:=⟨0,[],B6,0⟩
def C0(s:A0):Tk×Int×Int:=
 if A4 s 0=46/\B8 (A5 s 1)≠[]then(⟨3,B8 (A5 s 1),B6,0⟩,1+len (B8 (A5 s 1)),0)
 else if A4 s 0=46/\Lib.hasPrefix (A5 s 1) [34]=true then(⟨3,(B1 (A5 s 1)).1,B6,0⟩,1+(B1 (A5 s 1)).2.1,(B1 (A5 s 1)).2.2)
 else if EU s≠[]then(⟨1,EU s,B6,0⟩,len (EU s),0)
 else if B8 s≠[]then(⟨2,B8 s,B6,0⟩,len (B8 s),0)
 else if A4 s 0=34 then(⟨4,(B1 s).1,B6,0⟩,(B1 s).2.1,(B1 s).2.2)
 else if A4 s 0=45\/C1 (A4 s 0)=true then
  if(GI (runN s)).2.2≠0 then(eA,(GI (runN s)).2.1,(GI (runN s)).2.2)
  else(⟨5,[],(GI (runN s)).1,0⟩,len (runN s),0)
 else(eA,0,1)
def XR(s:A0):Tk:=⟨6,[],B6,len s⟩
def Q8(f:Nat)(s:A0)(i:Int)(acc:List Tk):List Tk×Int×Int:=
 match f with
 |0=>(acc++[XR s],0,0)
 |f+1=>
  if i<len s then
   if(C0 (A5 s i)).2.2≠0 then([],i+(C0 (A5 s i)).2.1,(C0 (A5 s i)).2.2)
   else Q8 f s (E6 s (i+(C0 (A5 s i)).2.1)) (acc++[{ (C0 (A5 s i)).1 with pos:=i}])
  else(acc++[XR s],0,0)
theorem AK4{f:Nat}{s:A0}{i:Int}{acc:List Tk}(b:(len s-i).toNat<=f)(h1:i<len s):Q8 f s i acc=
  if(C0 (A5 s i)).2.2≠0 then([],i+(C0 (A5 s i)).2.1,(C0 (A5 s i)).2.2)
   else Q8 (f-1) s (E6 s (i+(C0 (A5 s i)).2.1)) (acc++[{ (C0 (A5 s i)).1 with pos:=i}]):=by
 cases f with
 |zero=>omega
 |succ f=>
    conv=>lhs;unfold Q8
    rw[if_pos h1];rfl
theorem AK5{f:Nat}{s:A0}{i:Int}{acc:List Tk}(h1: ¬i<len s):Q8 f s i acc=(acc++[XR s],0,0):=by
 cases f with
 |zero=>rfl
 |succ f=>unfold Q8;rw[if_neg h1]
theorem MK{s:A0}{i:Int}(h0:0<=i)(h1:i<=len s):i<=CX s i/\CX s i<=len s:=by
 by_cases h:i<len s
 ·by_cases hw:CJ (A4 s i) (i==0)=true
  ·have:=MK (s:=s) (i:=i+1) Aa Aa
   rw[TR h0 h hw]at this;omega
  ·rw[TU h0 h (by simpa using hw)];omega
 ·rw[TV h];omega
termination_by (len s-i).toNat
theorem ML(s:A0):len (B8 s)=CX s 0:=by
 have:=MK (s:=s) (i:=0) Aa (A6 s)
 unfold B8;rw[FL Aa Aa Aa];omega
theorem UW(s:A0):0<=len (B8 s)/\len (B8 s)<=len s:=by
 have:=MK (s:=s) (i:=0) Aa (A6 s)
 rw[ML];omega
theorem XU{α:Type}(s:List α)(i:Int)(h0:0<=i):len (A5 s i)=if i<=len s then len s-i else 0:=by
 unfold A5 len;rw[List.length_drop];split<;>omega
theorem XW(s:A0):0<=(BW s).2/\(BW s).2<=len s/\((BW s).2≠0->2<=(BW s).2):=by
 have h1:=OE s
 have e:=OE (A5 s 6)
 have b:=XU s 6 Aa
 have h:=A6 s
 unfold BW
 repeat' split
 all_goals (dsimp only;try (split at b);all_goals omega)
theorem eB{s:A0}{i:Int}(h0:0<=i)(h1:i<len s):1<=runeLen s i/\i+runeLen s i<=len s:=by
 have e:=rune_le s i h1
 rcases MJ h0 h1 with⟨_,_,b,_⟩|⟨b,h,_⟩<;>omega
theorem XX{f:Nat}{s:A0}{i:Int}{acc:List Int}(h0:0<=i)(h1:i<=len s):
  0<=(DS f s i acc).2.1/\(DS f s i acc).2.1<=len s/\((DS f s i acc).2.2=0->i<(DS f s i acc).2.1)/\((DS f s i acc).2.2=0\/(DS f s i acc).2.2=1):=by
 induction f generalizing i acc with
 |zero=>unfold DS;dsimp only;omega
 |succ f e=>
  unfold DS
  split
  ·rename_i b
   have h:=ED s i h0 h1
   split
   ·dsimp only;omega
   ·split
    ·have he:=XW (A5 s i)
     split
     ·dsimp only;omega
     ·have:=e (i:=i+(BW (A5 s i)).2) (acc:=acc++Lib.encodeRuneZ (BW (A5 s i)).1) Aa Aa
      omega
    ·split
     ·dsimp only;omega
     ·have j:=eB h0 b
      rw[Q7 s i h0]
      have:=e (i:=i+runeLen s i) (acc:=acc++Lib.encodeRuneZ (AX (A5 s i) 0)) Aa Aa
      omega
  ·dsimp only;omega
theorem XY{s p:A0}(h:Lib.hasPrefix s p=true):len p<=len s:=by
 have:=(List.isPrefixOf_iff_prefix.1 h).length_le
 unfold len;omega
theorem OH(s:A0):0<=(B1 s).2.1/\(B1 s).2.1<=len s/\((B1 s).2.2=0->2<=(B1 s).2.1)/\((B1 s).2.2=0\/(B1 s).2.2=1):=by
 unfold B1
 split
 ·rename_i h
  have h1:(1:Int)<=len s:=XY h
  have:=XX (f:=s.length) (s:=s) (i:=1) (acc:=[]) Aa h1
  omega
 ·have:=A6 s;dsimp only;omega
def SE(t:Tk):A0:=
 if t.kind=3 then 46::(if ¬B8 t.s=t.s\/t.s=[]then E5 t.s else t.s)
 else if t.kind=4 then E5 t.s
 else if t.kind=5 then IC t.c
 else t.s
def F0(s:A0):A0:=if FZ s then s else NH s
end Go.Eng
