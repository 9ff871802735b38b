/- Lemmas for the card. -/
import Derived.Test.YtmjpjbmeamnfpaaGreatDoorZf5
set_option linter.unusedVariables false
set_option linter.unusedSimpArgs false
set_option maxRecDepth 100000
namespace Go.Proofs.YtmjpjbmeamnfpaaGreatDoor
open Go.Proofs.Tryz
open Go.Eng
abbrev aT(n:Nat):Nat×TD:=(n,⟨.any,1,false⟩)
def tt:TT:=[aT 0,aT 1,(2,⟨.int .i64,1,false⟩),(3,⟨.int .i64,1,false⟩),(4,⟨.bool,1,false⟩),(5,⟨.int .u8,1,false⟩),(6,⟨.int .u8,1,false⟩),(7,⟨.st [(0,1,false),(1,1,false),(2,1,false),(3,1,false)] [.int .i64 0,.int .i64 0,.bool false,.int .u8 0],4,true⟩),(8,⟨.st [(0,1,false),(1,1,false),(2,1,false),(3,1,false)] [.int .i64 0,.int .i64 0,.bool false,.int .u8 0],4,true⟩),(9,⟨.str,1,false⟩),(10,⟨.str,1,false⟩),(11,⟨.str,1,false⟩),(12,⟨.int .u64,1,false⟩),(13,⟨.st [(0,1,false),(1,1,false)] [.string ⟨⟨[]⟩⟩,.int .u64 0],2,true⟩),(14,⟨.st [(0,1,false),(1,1,false)] [.string ⟨⟨[]⟩⟩,.int .u64 0],2,true⟩),aT 15,aT 16,aT 17,(18,⟨.st [(0,1,false)] [.pointer none],1,true⟩),(19,⟨.st [(0,1,false)] [.pointer none],1,true⟩),aT 20,(21,⟨.int .i32,1,false⟩),(22,⟨.row 51 11,1,false⟩),(23,⟨.row 51 11,1,false⟩),aT 24,aT 25,(26,⟨.int .i64,1,false⟩),aT 27,aT 28,aT 29,aT 30,aT 31,(32,⟨.row 9 1,1,false⟩),aT 33,aT 34,(35,⟨.row 48 11,1,false⟩),(36,⟨.row 48 11,1,false⟩),aT 37,aT 38,aT 39,aT 40,aT 41,aT 42,(43,⟨.row 36 1,1,false⟩),aT 44,(45,⟨.st [(0,1,false),(1,1,false),(2,1,false),(3,1,false),(4,1,false),(5,1,false)] [.int .i64 0,.int .i64 0,.string ⟨⟨[]⟩⟩,.string ⟨⟨[]⟩⟩,.bool false,.int .i64 0],6,true⟩),(46,⟨.st [(0,1,false),(1,1,false),(2,1,false),(3,1,false),(4,1,false),(5,1,false)] [.int .i64 0,.int .i64 0,.string ⟨⟨[]⟩⟩,.string ⟨⟨[]⟩⟩,.bool false,.int .i64 0],6,true⟩),(47,⟨.st [(0,1,false),(1,1,false),(2,1,false),(3,1,false),(4,1,false),(5,6,true)] [.int .i64 0,.int .i64 0,.string ⟨⟨[]⟩⟩,.string ⟨⟨[]⟩⟩,.int .i64 0,.int .i64 0,.int .i64 0,.string ⟨⟨[]⟩⟩,.string ⟨⟨[]⟩⟩,.bool false,.int .i64 0],11,true⟩),(48,⟨.st [(0,1,false),(1,1,false),(2,1,false),(3,1,false),(4,1,false),(5,6,true)] [.int .i64 0,.int .i64 0,.string ⟨⟨[]⟩⟩,.string ⟨⟨[]⟩⟩,.int .i64 0,.int .i64 0,.int .i64 0,.string ⟨⟨[]⟩⟩,.string ⟨⟨[]⟩⟩,.bool false,.int .i64 0],11,true⟩),aT 49,(50,⟨.st [(0,1,false),(1,1,false),(2,1,false),(3,1,false),(4,1,false),(5,6,true)] [.int .i64 0,.int .i64 0,.string ⟨⟨[]⟩⟩,.string ⟨⟨[]⟩⟩,.int .i64 0,.int .i64 0,.int .i64 0,.string ⟨⟨[]⟩⟩,.string ⟨⟨[]⟩⟩,.bool false,.int .i64 0],11,true⟩),(51,⟨.st [(0,1,false),(1,1,false),(2,1,false),(3,1,false),(4,1,false),(5,6,true)] [.int .i64 0,.int .i64 0,.string ⟨⟨[]⟩⟩,.string ⟨⟨[]⟩⟩,.int .i64 0,.int .i64 0,.int .i64 0,.string ⟨⟨[]⟩⟩,.string ⟨⟨[]⟩⟩,.bool false,.int .i64 0],11,true⟩),(52,⟨.row 63 9,1,false⟩),aT 53,aT 54,(55,⟨.st [(0,1,false),(1,1,false)] [.int .i64 0,.int .i64 0],2,true⟩),(56,⟨.st [(0,1,false),(1,1,false)] [.int .i64 0,.int .i64 0],2,true⟩),aT 57,aT 58,(59,⟨.st [(0,1,false),(1,1,false),(2,1,false)] [.slice none 0 0,.int .i64 0,.int .i64 0],3,true⟩),(60,⟨.st [(0,1,false),(1,1,false),(2,1,false)] [.slice none 0 0,.int .i64 0,.int .i64 0],3,true⟩),aT 61,(62,⟨.st [(0,1,false),(1,1,false),(2,6,true),(8,1,false)] [.int .i64 0,.string ⟨⟨[]⟩⟩,.int .i64 0,.int .i64 0,.string ⟨⟨[]⟩⟩,.string ⟨⟨[]⟩⟩,.bool false,.int .i64 0,.int .i64 0],9,true⟩),(63,⟨.st [(0,1,false),(1,1,false),(2,6,true),(8,1,false)] [.int .i64 0,.string ⟨⟨[]⟩⟩,.int .i64 0,.int .i64 0,.string ⟨⟨[]⟩⟩,.string ⟨⟨[]⟩⟩,.bool false,.int .i64 0,.int .i64 0],9,true⟩),aT 64,aT 65,aT 66,(67,⟨.st [(0,1,false),(1,1,false),(2,1,false)] [.bool false,.string ⟨⟨[]⟩⟩,.int .i64 0],3,true⟩),(68,⟨.st [(0,1,false),(1,1,false),(2,1,false)] [.bool false,.string ⟨⟨[]⟩⟩,.int .i64 0],3,true⟩),(69,⟨.row 68 3,1,false⟩),(70,⟨.row 68 3,1,false⟩),aT 71,(72,⟨.row 23 1,1,false⟩),aT 73,aT 74,aT 75,aT 76,aT 77,aT 78,aT 79,aT 80,(81,⟨.st [(0,1,false),(1,1,false)] [.int .i64 0,.int .i64 0],2,true⟩),(82,⟨.st [(0,1,false),(1,1,false)] [.int .i64 0,.int .i64 0],2,true⟩),aT 83,aT 84,(85,⟨.st [(0,1,false),(1,1,false),(2,1,false)] [.slice none 0 0,.int .i64 0,.int .i64 0],3,true⟩),(86,⟨.st [(0,1,false),(1,1,false),(2,1,false)] [.slice none 0 0,.int .i64 0,.int .i64 0],3,true⟩),aT 87,aT 88,aT 89,(90,⟨.st [] [],0,true⟩),(91,⟨.st [] [],0,true⟩),(92,⟨.st [] [],0,true⟩),(93,⟨.int .u32,1,false⟩),(94,⟨.any,1,true⟩),(95,⟨.any,1,true⟩),(96,⟨.st [(0,1,false),(1,1,false)] [.int .i32 0,.int .u32 0],2,true⟩),(97,⟨.st [(0,1,false),(1,1,false)] [.int .i32 0,.int .u32 0],2,true⟩),(98,⟨.any,2,true⟩),(99,⟨.any,2,true⟩),(100,⟨.any,3,true⟩),(101,⟨.any,3,true⟩),aT 102,(103,⟨.st [(0,3,true),(3,1,false)] [.int .u32 0,.int .i32 0,.int .u32 0,.map none],4,true⟩),(104,⟨.st [(0,3,true),(3,1,false)] [.int .u32 0,.int .i32 0,.int .u32 0,.map none],4,true⟩),aT 105,aT 106,aT 107,aT 108,aT 109,(110,⟨.row 5 1,1,false⟩),aT 111,aT 112,aT 113,(114,⟨.st [(0,1,false),(1,6,true)] [.int .i64 0,.int .i64 0,.int .i64 0,.string ⟨⟨[]⟩⟩,.string ⟨⟨[]⟩⟩,.bool false,.int .i64 0],7,true⟩),(115,⟨.st [(0,1,false),(1,6,true)] [.int .i64 0,.int .i64 0,.int .i64 0,.string ⟨⟨[]⟩⟩,.string ⟨⟨[]⟩⟩,.bool false,.int .i64 0],7,true⟩),aT 116,aT 117,aT 118,aT 119,(120,⟨.row 115 7,1,false⟩),aT 121,aT 122,aT 123,aT 124,(125,⟨.any,256,true⟩),(126,⟨.any,256,true⟩),aT 127,aT 128,aT 129,aT 130,aT 131,aT 132,aT 133,aT 134,aT 135,aT 136,aT 137,aT 138,aT 139,aT 140,aT 141,aT 142,aT 143,aT 144,aT 145,aT 146,aT 147,aT 148,aT 149,aT 150,aT 151,aT 152,(153,⟨.row 46 6,1,false⟩),(154,⟨.row 46 6,1,false⟩),aT 155,aT 156,aT 157,aT 158,aT 159,aT 160,aT 161,(162,⟨.st [(0,1,false),(1,1,false)] [.pointer none,.slice none 0 0],2,true⟩),(163,⟨.st [(0,1,false),(1,1,false)] [.pointer none,.slice none 0 0],2,true⟩),aT 164,aT 165,aT 166,aT 167,aT 168,aT 169,aT 170,aT 171,aT 172,aT 173,aT 174,aT 175,aT 176,aT 177,aT 178,aT 179,aT 180,aT 181,aT 182,aT 183,aT 184,aT 185,aT 186,aT 187,aT 188,aT 189,aT 190,aT 191,(192,⟨.int .u64,1,false⟩),aT 193,aT 194,aT 195,aT 196,aT 197,aT 198,aT 199,aT 200,aT 201,aT 202,(203,⟨.any,256,true⟩),aT 204,aT 205,aT 206,aT 207,aT 208,aT 209,aT 210,aT 211,aT 212,aT 213,aT 214,aT 215,aT 216,aT 217,aT 218,aT 219,aT 220,aT 221,(222,⟨.int .i64,1,false⟩),aT 223,aT 224,aT 225,aT 226,aT 227,aT 228,aT 229,(230,⟨.int .u64,1,false⟩),(231,⟨.st [(0,1,false),(1,1,false)] [.int .u8 0,.int .u8 0],2,true⟩),(232,⟨.st [(0,1,false),(1,1,false)] [.int .u8 0,.int .u8 0],2,true⟩),(233,⟨.any,32,true⟩),aT 234,aT 235,aT 236,aT 237,aT 238,aT 239,aT 240,aT 241,aT 242,(243,⟨.row 245 2,1,false⟩),(244,⟨.st [(0,1,false),(1,1,false)] [.int .i64 0,.int .i64 0],2,true⟩),(245,⟨.st [(0,1,false),(1,1,false)] [.int .i64 0,.int .i64 0],2,true⟩),aT 246,aT 247,(248,⟨.int .i64,1,false⟩),aT 249,aT 250,aT 251,aT 252,aT 253,aT 254,aT 255,aT 256,aT 257,aT 258,aT 259,aT 260,aT 261,aT 262,aT 263,aT 264,(265,⟨.int .u64,1,false⟩),aT 266,aT 267,aT 268,aT 269,aT 270,aT 271,aT 272,aT 273,(274,⟨.row 280 3,1,false⟩),(275,⟨.row 283 3,1,false⟩),(276,⟨.st [(0,1,false),(1,1,false),(2,1,false)] [.slice none 0 0,.slice none 0 0,.int .i64 0],3,true⟩),(277,⟨.st [(0,1,false),(1,1,false),(2,1,false)] [.slice none 0 0,.slice none 0 0,.int .i64 0],3,true⟩),(278,⟨.int .u16,1,false⟩),(279,⟨.st [(0,1,false),(1,1,false),(2,1,false)] [.int .u16 0,.int .u16 0,.int .u16 0],3,true⟩),(280,⟨.st [(0,1,false),(1,1,false),(2,1,false)] [.int .u16 0,.int .u16 0,.int .u16 0],3,true⟩),aT 281,(282,⟨.st [(0,1,false),(1,1,false),(2,1,false)] [.int .u32 0,.int .u32 0,.int .u32 0],3,true⟩),(283,⟨.st [(0,1,false),(1,1,false),(2,1,false)] [.int .u32 0,.int .u32 0,.int .u32 0],3,true⟩),aT 284,(285,⟨.st [(0,1,false),(1,1,false),(2,1,false)] [.string ⟨⟨[]⟩⟩,.string ⟨⟨[]⟩⟩,.nilIface],3,true⟩),(286,⟨.st [(0,1,false),(1,1,false),(2,1,false)] [.string ⟨⟨[]⟩⟩,.string ⟨⟨[]⟩⟩,.nilIface],3,true⟩),aT 287,aT 288,aT 289,aT 290,aT 291,aT 292,aT 293,aT 294,aT 295,aT 296,aT 297,aT 298,aT 299,aT 300,aT 301,aT 302,aT 303,aT 304,aT 305,(306,⟨.st [(0,1,false)] [.string ⟨⟨[]⟩⟩],1,true⟩),(307,⟨.st [(0,1,false)] [.string ⟨⟨[]⟩⟩],1,true⟩),aT 308,aT 309,aT 310,aT 311,aT 312,aT 313,aT 314,aT 315,aT 316,aT 317,aT 318,aT 319,aT 320,aT 321,aT 322,aT 323,aT 324,(325,⟨.any,24,true⟩),aT 326,aT 327,aT 328,aT 329,(330,⟨.any,20,true⟩),(331,⟨.any,65,true⟩),(332,⟨.st [(0,1,false),(1,1,false),(2,1,false),(3,1,false)] [.int .i64 0,.int .i64 0,.bool false,.string ⟨⟨[]⟩⟩],4,true⟩),(333,⟨.st [(0,1,false),(1,1,false),(2,1,false),(3,1,false)] [.int .i64 0,.int .i64 0,.bool false,.string ⟨⟨[]⟩⟩],4,true⟩),(334,⟨.row 333 4,1,false⟩),aT 335,aT 336,aT 337,aT 338,(339,⟨.any,32,true⟩),(340,⟨.any,64,true⟩),(341,⟨.st [(0,1,false),(1,1,false),(2,1,false),(3,1,false)] [.pointer none,.pointer none,.pointer none,.string ⟨⟨[]⟩⟩],4,true⟩),(342,⟨.st [(0,1,false),(1,1,false),(2,1,false),(3,1,false)] [.pointer none,.pointer none,.pointer none,.string ⟨⟨[]⟩⟩],4,true⟩),(343,⟨.any,0,true⟩),(344,⟨.any,0,true⟩),(345,⟨.any,0,true⟩),(346,⟨.int .u8,1,false⟩),(347,⟨.int .u8,1,false⟩),aT 348,(349,⟨.int .i32,1,false⟩),(350,⟨.int .i32,1,false⟩),(351,⟨.st [(0,1,false),(1,1,false),(2,1,false),(3,1,false),(4,1,false),(5,1,false),(6,1,false),(7,1,false),(8,1,false),(9,1,false),(10,1,false)] [.int .u64 0,.int .u64 0,.int .u32 0,.int .u8 0,.int .u8 0,.int .u8 0,.int .u8 0,.nilFunc,.pointer none,.int .i32 0,.int .i32 0],11,true⟩),(352,⟨.st [(0,1,false),(1,1,false),(2,1,false),(3,1,false),(4,1,false),(5,1,false),(6,1,false),(7,1,false),(8,1,false),(9,1,false),(10,1,false)] [.int .u64 0,.int .u64 0,.int .u32 0,.int .u8 0,.int .u8 0,.int .u8 0,.int .u8 0,.nilFunc,.pointer none,.int .i32 0,.int .i32 0],11,true⟩)]
theorem AP:EH prog tt:=iS (by decide+kernel)
instance:iT prog:=⟨tt,AP⟩
end Go.Proofs.YtmjpjbmeamnfpaaGreatDoor
namespace Go.Eng
open Go.RowKit
theorem j4{P:Program}{σ:Type}{x:Code}{Q:Exit->Act->World->Prop}{a:Act}{w:World}(J:σ->Act->World->Prop)(μ:σ->Nat)(s₀:σ)(h₀:J s₀ a w)
  (round: ∀s a w,J s a w->x.wp P (Exit.then (λ a' w'=> ∃s',J s' a' w'/\μ s'<μ s) Q) a w):(Code.loop x).wp P Q a w:=by
 intro b k cs
 have key: ∀n s a w,μ s=n->J s a w->
   ∃e a' w',Q e a' w'/\Arrives P (lone (b.at a (.code x:: .inLoop x::k)) cs w) b k cs e a' w':=by
  intro n
  induction n using Nat.strongRecOn with
  |_ n ih=>
   intro s a w hn hJ
   obtain⟨e,a₁,w₁,hq,harr⟩:=round s a w hJ b (.inLoop x::k) cs
   cases e with
   |normal=>
    obtain⟨s',hJ',hlt⟩:=hq
    obtain⟨e₂,a₂,w₂,hq₂,harr₂⟩:=ih (μ s') (hn▸hlt) s' a₁ w₁ rfl hJ'
    exact⟨e₂,a₂,w₂,hq₂,.of_steps (Steps.trans harr (.one step_inLoop)) harr₂⟩
   |exit id=>exact⟨_,a₁,w₁,hq,.pass (x:=.inLoop x) U (λ _ _=>.inl (by simp)) harr⟩
   |goto l=>exact⟨_,a₁,w₁,hq,.pass (x:=.inLoop x) U (λ _ _=>.inl (by simp)) harr⟩
   |ret=>exact⟨_,a₁,w₁,hq,.pass (x:=.inLoop x) U (λ _ _=>.inl (by simp)) harr⟩
   |panic ch=>exact⟨_,a₁,w₁,hq,.pass (x:=.inLoop x) U (λ _ _=>.inl (by simp)) harr⟩
   |outgrown=>exact⟨_,a₁,w₁,hq,.pass (x:=.inLoop x) U (λ _ _=>.inl (by simp)) harr⟩
 obtain⟨e,a',w',hq,harr⟩:=key _ s₀ a w rfl h₀
 exact⟨e,a',w',hq,.of_steps (.one step_loop) harr⟩
theorem T5{P:Program}{o:Oper}{a:Act}{w:World}{K K':Act->World->Prop}{Q:Exit->Act->World->Prop}(h:o.wp P a w K' (Exit.then K Q)):o.wp P a w K' Q:=by
 unfold Oper.wp at*
 generalize (execOp a.eval o).run P w=r at*
 cases r with
 |ok n w'=>cases n<;>first|exact h|(simp only[Oper.upon]at h ⊢;exact h)
 |halt s w'=>cases s<;>first|exact h|(simp only[Oper.upon]at h ⊢;exact h)
def DM:Code->Bool
 | .skip=>true
 | .seq x y=>DM x&&DM y
 | .cond _ x y=>DM x&&DM y
 | .loop x=>DM x
 | .block _ x=>DM x
 | .region _ ops _=>ops.toList.all λ o=>match o.op with
  | .defer _=>false
  |_=>true
 | .exit _=>true
 | .ret=>true
 |_=>false
structure Wk (P:Program)where
 wp:Code->(Exit->Act->World->Prop)->Act->World->Prop
 list:Array Oper->(Exit->Act->World->Prop)->List Oper->Act->World->Prop
 mono: ∀ {x:Code} {Q Q':Exit->Act->World->Prop} {a:Act} {w:World},wp x Q a w->(∀e a w,Q e a w->Q' e a w)->wp x Q' a w
 skip: ∀ {Q:Exit->Act->World->Prop} {a:Act} {w:World},Q .normal a w->wp .skip Q a w
 seq: ∀ {x y:Code} {Q:Exit->Act->World->Prop} {a:Act} {w:World},wp x (Exit.then (wp y Q) Q) a w->wp (.seq x y) Q a w
 region: ∀ {id:Nat} {ops:Array Oper} {Q:Exit->Act->World->Prop} {a:Act} {w:World},list ops Q ops.toList a w->wp (.region id ops false) Q a w
 plain:Prop
 draw:plain-> ∀ {id:Nat} {ops:Array Oper} {Q:Exit->Act->World->Prop} {a:Act} {w:World},(Code.region id ops true).wp P Q a w->wp (.region id ops true) Q a w
 drawS: ∀ {id:Nat} {ops:Array Oper} {Q:Exit->Act->World->Prop} {a:Act} {w:World},(∀t,wpOps P ops Q (Region.schedule (P.follows .mixedOrders) ops t) a { w with drawn:=w.drawn+1})->wp (.region id ops true) Q a w
 block: ∀ {id:Nat} {x:Code} {Q:Exit->Act->World->Prop} {a:Act} {w:World},wp x (Exit.inBlock id Q) a w->wp (.block id x) Q a w
 scope: ∀ {x:Code} {Q:Exit->Act->World->Prop} {a:Act} {w:World},wp x (Exit.noGoto Q) a w->wp (.scope x) Q a w
 exit: ∀ {id:Nat} {Q:Exit->Act->World->Prop} {a:Act} {w:World},Q (.exit id) a w->wp (.exit id) Q a w
 ret: ∀ {Q:Exit->Act->World->Prop} {a:Act} {w:World},Q .ret a w->wp .ret Q a w
 cond: ∀ {o:Operand} {x y:Code} {t:Bool} {Q:Exit->Act->World->Prop} {a:Act} {w:World},a.eval o= .bool t->wp (if t=true then x else y) Q a w->wp (.cond o x y) Q a w
 loop: ∀ {σ:Type} {x:Code} {Q:Exit->Act->World->Prop} {a:Act} {w:World} (J:σ->Act->World->Prop) (μ:σ->Nat) (s₀:σ),J s₀ a w->
  (∀s a w,J s a w->wp x (Exit.then (λ a' w'=> ∃s',J s' a' w'/\μ s'<μ s) Q) a w)->wp (.loop x) Q a w
 nil: ∀ {ops:Array Oper} {Q:Exit->Act->World->Prop} {a:Act} {w:World},Q .normal a w->list ops Q [] a w
 one: ∀ {ops:Array Oper} {Q:Exit->Act->World->Prop} {o:Oper} {rest:List Oper} {a:Act} {w:World},wpList P ops (Exit.then (list ops Q rest) Q) [o] a w->list ops Q (o::rest) a w
 want: ∀ {ops:Array Oper} {Q:Exit->Act->World->Prop} {d:Option Tmp} {op:Op} {ty:TypeId} {ps:String} {af:Array Edge} {gd:Option (Nat×Bool)} {rest:List Oper} {a:Act} {w:World},
  Region.wanted ⟨d,op,ty,ps,af,gd⟩ (yielded ops a.tmps)=true->list ops Q (⟨d,op,ty,ps,af,none⟩::rest) a w->list ops Q (⟨d,op,ty,ps,af,gd⟩::rest) a w
def Wk.wide (P:Program):Wk P where
 wp:=λ x Q a w=>x.wp P Q a w
 list:=λ ops Q l a w=>wpList P ops Q l a w
 mono:=wp_mono
 skip:=wp_skip
 seq:=wp_seq
 region:=wp_region_list
 plain:=True
 draw:=λ _=>id
 drawS:=wp_region_draw
 block:=wp_block
 scope:=wp_scope_straight
 exit:=wp_exit
 ret:=wp_ret
 cond:=wp_cond
 loop:=j4
 nil:=wpList_nil
 one:=λ{ops Q o rest a w} h=>by
  unfold wpList at h ⊢
  split at h
  ·rename_i hw;rw[if_pos hw]
   rcases h with h|⟨h1,a',w',h2⟩
   ·exact .inl (T5 h)
   ·exact .inr ⟨h1,a',w',h2⟩
  ·rename_i hw;rw[if_neg hw];exact h
 want:=λ{ops Q d op ty ps af gd rest a w} hw h=>by
  unfold wpList at h ⊢
  rw[hw,if_pos U]
  rw[show Region.wanted ⟨d,op,ty,ps,af,none⟩ (yielded ops a.tmps)=true from rfl,if_pos U]at h
  exact h
theorem Wk.back {P:Program}(W:Wk P){ops:Array Oper}{Q:Exit->Act->World->Prop}{rest:List Oper}{a:Act}{w:World}(h:W.list ops Q rest a w):wpList P ops (Exit.then (W.list ops Q rest) Q) [] a w:=h
universe u
structure XS:Type 1 where
 F:List (Nat×Kn)
 H:List (Nat×HX)
 L:XE
structure Cx where
 P:Program
 N:Nat
 w0:World
 M0:Mem
 M1:Mem
 Hr:List HO
 T:TT
 hT:EH P T
 W:Wk P
structure E5 (c:Cx) (F:List (Nat×Kn)) (H:List (Nat×HX)) (w:World) (M:Mem):Prop where
 st:St c.w0 c.M0 w M (HD H++c.Hr)
 f:BF M F
 le:c.M1.le M
def GY(c:Cx)(s:XS)(a:Act)(w:World):Prop:=AJ a c.N s.L.d/\ ∃M,E5 c s.F s.H w M
inductive Fr:Type 1 where
 |seq (y:Code)
 |block (id:Nat)
 |scope
 |loop (J:XS->Prop)
def post(c:Cx)(B:Exit->Act->World->Prop):List Fr->(Exit->Act->World->Prop)
 |[]=>B
 | .seq y::k=>Exit.then (c.W.wp y (post c B k)) (post c B k)
 | .block id::k=>Exit.inBlock id (post c B k)
 | .scope::k=>Exit.noGoto (post c B k)
 | .loop J::k=>Exit.then (λ a w=> ∃s,J s/\GY c s a w) (post c B k)
inductive Md where
 |code (c:Code)
 |ops (all:Array Oper) (l:List Oper)
 |br (b:Bool) (x y:Code)
 |next
 |exit (id:Nat)
 |ret
def XG(c:Cx)(B:Exit->Act->World->Prop)(k:List Fr)(m:Md)(s:XS):Prop:= ∀a w,GY c s a w->match m with
 | .code x=>c.W.wp x (post c B k) a w
 | .ops all l=>c.W.list all (post c B k) l a w
 | .br b x y=>c.W.wp (if b=true then x else y) (post c B k) a w
 | .next=>post c B k .normal a w
 | .exit id=>post c B k (.exit id) a w
 | .ret=>post c B k .ret a w
structure T6:Type 1 where
 k:List Fr
 m:Md
 s:XS
 O:Prop
 E:List Ck
def IJ(
     all:Array Oper) (L:XE) (gd:Option (Nat×Bool)):Option Gd:=
 match gd with
 |none=>some .t
 |some (
     j,want)=>match nth all.toList j with
  |some o=>match o.dst with
   |some d=>match BE L d with
    |some (g,v)=>match MA v with
     |some b=>match want with
      |true=>match g with
       | .t=>some (.g b)
       | .g a=>some (.g (a&&b))
      |false=>match g with
       | .t=>some (.g (!b))
       | .g a=>some (.g (a&& !b))
     |none=>none
    |none=>none
   |none=>none
  |none=>none
def imp(W:Gd):List Prop->Prop->(Prop->T6)->T6
 |[],O,K=>K O
 |p::ps,O,K=>match W with
  | .t=>imp W ps (p/\O) K
  | .g b=>imp W ps ((b=false\/p)/\O) K
def T7(F:List (Nat×Kn))(H:List (Nat×HX)):List XV->Option (List Ck)
 |[]=>some []
 |x::l=>match T7 F H l with
  |some E=>match x with
   | .v u=>match u.oneCell' with
    |true=>some E
    |false=>none
   | .sl k u=>match OH F H k with
    |some (@Kn.mk α inh kv sz l f g' hg')=>some (.v u kv::E)
    |none=>none
   | .el _ _ _ _ _=>some E
   | .bx _ _ _=>some E
   |_=>none
  |none=>none
def ZZ(T:TT)(F:List (Nat×Kn))(H:List (Nat×HX))(L:XE)(t:TypeId)(x y:Operand):Option (List (Nat×HX)×List Ck):=
 match KX L .t x y with
 |some (
     a,v,E)=>match a with
  | .bx k b o=>match GL H k with
   |some (
       .box b' cs t')=>match HY T t with
    |some ⟨_,n,_⟩=>match cellsOf v with
     |some vs=>match Nat.beq vs.length n with
      |true=>match T7 F H vs with
       |some E1=>match K5 cs o vs with
        |some cs'=>some (EG H k (.box b' cs' t'),.n b b'::(E1++E))
        |none=>none
       |none=>none
      |false=>none
     |none=>none
    |none=>none
   |_=>none
  |_=>none
 |none=>none
def exec(
     T:TT) (N:Nat):Nat->List Fr->Md->List (Nat×Kn)->List (Nat×HX)->XE->Prop->List Ck->T6
 |0,k,m,F,H,L,O,E=>⟨k,m,⟨F,H,L⟩,O,E⟩
 |n+1,k,m,F,H,L,O,E=>match m with
  | .code c=>match c with
   | .skip=>exec T N n k .next F H L O E
   | .seq x y=>exec T N n (.seq y::k) (.code x) F H L O E
   | .region id all draw=>match draw with
    |false=>exec T N n k (.ops all all.toList) F H L O E
    |true=>⟨k,m,⟨F,H,L⟩,O,E⟩
   | .block id x=>exec T N n (.block id::k) (.code x) F H L O E
   | .scope x=>exec T N n (.scope::k) (.code x) F H L O E
   | .exit id=>exec T N n k (.exit id) F H L O E
   | .ret=>⟨[],.ret,⟨F,H,L⟩,O,E⟩
   | .cond x a b=>match BZ L .t x with
    |some (v,E')=>match MA v with
     |some p=>⟨k,.br p a b,⟨F,H,L⟩,O,E'++E⟩
     |none=>⟨k,m,⟨F,H,L⟩,O,E⟩
    |none=>⟨k,m,⟨F,H,L⟩,O,E⟩
   |_=>⟨k,m,⟨F,H,L⟩,O,E⟩
  | .next=>match k with
   | .seq y::k'=>exec T N n k' (.code y) F H L O E
   | .block _::k'=>exec T N n k' .next F H L O E
   | .scope::k'=>exec T N n k' .next F H L O E
   |_=>⟨k,m,⟨F,H,L⟩,O,E⟩
  | .exit id=>match k with
   | .block id'::k'=>match Nat.beq id id' with
    |true=>exec T N n k' .next F H L O E
    |false=>exec T N n k' (.exit id) F H L O E
   | .seq _::k'=>exec T N n k' (.exit id) F H L O E
   | .scope::k'=>exec T N n k' (.exit id) F H L O E
   | .loop _::k'=>exec T N n k' (.exit id) F H L O E
   |[]=>⟨k,m,⟨F,H,L⟩,O,E⟩
  | .ops all l=>match l with
   |[]=>exec T N n k .next F H L O E
   |⟨dst,op,ty,ps,af,gd⟩::rest=>match dst with
    |some d=>match IJ all L gd with
     |some W=>match R6 T F H L W op with
      |some (v,p,E')=>match Nat.blt d N with
       |true=>imp W p O λ O'=>exec T N n k (.ops all rest) F H ((d,W,v)::L) O' (E'++E)
       |false=>⟨k,m,⟨F,H,L⟩,O,E⟩
      |none=>⟨k,m,⟨F,H,L⟩,O,E⟩
     |none=>⟨k,m,⟨F,H,L⟩,O,E⟩
    |none=>match gd with
     |none=>match op with
      | .store t x y=>match ZZ T F H L t x y with
       |some (H',E')=>exec T N n k (.ops all rest) F H' L O (E'++E)
       |none=>⟨k,m,⟨F,H,L⟩,O,E⟩
      |_=>⟨k,m,⟨F,H,L⟩,O,E⟩
     |some _=>⟨k,m,⟨F,H,L⟩,O,E⟩
  |_=>⟨k,m,⟨F,H,L⟩,O,E⟩
def T8{α:Type u}:List (Nat×α)->Option (List (Nat×α))
 |[]=>some []
 |(k,x)::L=>match T8 L with
  |some L'=>some ((k,x)::L')
  |none=>none
theorem a6{α:Type u}: ∀ {L L':List (Nat×α)},T8 L=some L'->L'=L
 |[],_,h=>by cases h;rfl
 |(k,x)::L,L',h=>by
  unfold T8 at h
  split at h
  ·rename_i L2 h2;cases h;rw[a6 h2]
  ·cases h
def VW:XE->Option XE
 |[]=>some []
 |(k,g,v)::L=>match VW L with
  |some L'=>some ((k,g,v)::L')
  |none=>none
theorem j5: ∀ {L L':XE},VW L=some L'->L'=L
 |[],_,h=>by cases h;rfl
 |(k,g,v)::L,L',h=>by
  unfold VW at h
  split at h
  ·rename_i L2 h2;cases h;rw[j5 h2]
  ·cases h
def run(T:TT)(N:Nat)(k:List Fr)(m:Md)(s:XS):T6:=
 match s with
 |⟨F,H,L⟩=>match T8 F with
  |some F'=>match T8 H with
   |some H'=>match VW L with
    |some L'=>exec T N 10000 k m F' H' L' ((0:Int)=0) []
    |none=>exec T N 10000 k m F H L ((0:Int)=0) []
   |none=>exec T N 10000 k m F H L ((0:Int)=0) []
  |none=>exec T N 10000 k m F H L ((0:Int)=0) []
theorem a7{W:Gd}{K:Prop->T6}: ∀ {ps:List Prop} {O:Prop},∃O',imp W ps O K=K O'/\(O'->(W.d=true->HZ ps)/\O)
 |[],O=>⟨O,rfl,λ h=>⟨λ _=>trivial,h⟩⟩
 |p::ps,O=>by
  unfold imp
  cases W with
  |t=>
   obtain⟨O',h1,h2⟩:=a7 (W:=.t) (K:=K) (ps:=ps) (O:=p/\O)
   exact⟨O',h1,λ h=>⟨λ hW=>⟨(h2 h).2.1,(h2 h).1 hW⟩,(h2 h).2.2⟩⟩
  |g b=>
   obtain⟨O',h1,h2⟩:=a7 (W:=.g b) (K:=K) (ps:=ps) (O:=(b=false\/p)/\O)
   exact⟨O',h1,λ h=>⟨λ hW=>⟨(h2 h).2.1.resolve_left (by rw[show b=true from hW];decide),(h2 h).1 hW⟩,(h2 h).2.2⟩⟩
section
variable {c:Cx} {B:Exit->Act->World->Prop} {k:List Fr} {s:XS}
theorem T9(a:Act)(w:World)(h:B .ret a w): ∀k:List Fr,post c B k .ret a w
 |[]=>h
 | .seq _::k=>T9 a w h k
 | .block _::k=>T9 a w h k
 | .scope::k=>T9 a w h k
 | .loop _::k=>T9 a w h k
theorem MC{all:Array Oper}{L:XE}{gd:Option (Nat×Bool)}{W:Gd}(h:IJ all L gd=some W):DB all L.d gd W.d:=by
 unfold IJ at h
 split at h
 ·cases h;exact .none
 ·rename_i j want
  split at h
  ·rename_i o ho
   split at h
   ·rename_i d hd
    split at h
    ·rename_i g v hl
     split at h
     ·rename_i b hb
      have:=OI hb;subst this
      have hl':=HC hl
      have hj:(all[j]?).bind (·.dst)=some d:=by
       rw[HE]at ho
       simp only[Array.getElem?_toList]at ho
       rw[ho];exact hd
      split at h
      ·split at h<;>cases h
       ·exact .pos hj hl'
       ·exact .DY hj hl'
      ·split at h<;>cases h
       ·exact .neg hj hl'
       ·exact .QH hj hl'
     ·cases h
    ·cases h
   ·cases h
  ·cases h
theorem RB{w0 w:World}{M0 M:Mem}{F:List (Nat×Kn)}{H:List (Nat×HX)}{Hr:List HO}(hF:BF M F)(hS:St w0 M0 w M (HD H++Hr)): ∀ {vs:List XV} {E:List Ck},T7 F H vs=some E->AD E-> ∀u∈vs.map XV.d0,u.oneCell'=true
 |[],_,_,_=>λ u hu=>by cases hu
 |x::l,E,h,hE=>by
  unfold T7 at h
  split at h
  ·rename_i E' h1
   split at h
   ·split at h
    ·rename_i hx
     cases h
     intro u hu
     rcases List.mem_cons.1 hu with rfl|hu
     ·exact hx
     ·exact RB hF hS h1 hE u hu
    ·cases h
   ·rename_i k u
    split at h
    ·rename_i α inh kv sz l f g' hg' hK
     simp only[Option.some.injEq]at h;subst h
     intro u' hu
     rcases List.mem_cons.1 hu with rfl|hu
     ·have hh:_=kv:=hE _ (.head _)
      obtain⟨M2,Hs2,hS2,hK2⟩:=R7 hF hS hK
      exact hh▸iL hK2
     ·exact RB hF hS h1 (λ c hc=>hE c (.tail _ hc)) _ hu
    ·cases h
   ·cases h
    intro u hu
    rcases List.mem_cons.1 hu with rfl|hu
    ·rfl
    ·exact RB hF hS h1 hE u hu
   ·cases h
    intro u hu
    rcases List.mem_cons.1 hu with rfl|hu
    ·rfl
    ·exact RB hF hS h1 hE u hu
   ·cases h
  ·cases h
theorem j6{v:XV}{vs:List XV}(h:cellsOf v=some vs):v.d.cells.toList=vs.map XV.d0\/ ∃u,vs=[u]/\v=u/\(∀cs,u≠ .ag cs)/\(∀cs,u≠ .tu cs):=by
 unfold cellsOf at h
 split at h
 ·cases h;left;simp[XV.d,XV.d1,Value.cells]
 ·cases h
 ·rename_i h1 h2
  cases h;right
  exact⟨_,rfl,rfl,h1,h2⟩
theorem xD{H':List (Nat×HX)}{E:List Ck}{t:TypeId}{x y:Operand}{all:Array Oper}{Q:Exit->Act->World->Prop}{rest:List Oper}{ty:TypeId}{ps:String}{af:Array Edge}(h:ZZ c.T s.F s.H s.L t x y=some (H',E))(hE:AD E){w:World}{M:Mem}(hX:E5 c s.F s.H w M)
  (hn: ∀a w,GY c ⟨s.F,H',s.L⟩ a w->wpList c.P all Q rest a w) (a:Act) (w':World) (hsl:AJ a c.N s.L.d) (hw:w'=w:=by rfl):wpList c.P all Q (⟨none,.store t x y,ty,ps,af,none⟩::rest) a w':=by
 subst hw
 unfold ZZ at h
 split at h
 ·rename_i va v E0 h1
  split at h
  ·rename_i k b o
   split at h
   ·rename_i b' cs t' h2
    split at h
    ·rename_i _ n _ h3
     split at h
     ·rename_i vs h4
      split at h
      ·rename_i hl
       have hl':vs.length=n:=Nat.eq_of_beq_eq_true hl
       split at h
       ·rename_i E1 h5
        split at h
        ·rename_i cs' h6
         simp only[Option.some.injEq,Prod.mk.injEq]at h;obtain⟨rfl,rfl⟩:=h
         have hb:b=b':=hE _ (.head _)
         subst hb
         have hE2:AD (E1++E0):=λ c hc=>hE c (.tail _ hc)
         obtain⟨hx,hy⟩:=M6 h1 hE2.app.2
         have h1c:=RB hX.f hX.st h5 hE2.app.1
         have hcells:v.d.cells.toList=vs.map XV.d0:=by
          rcases j6 h4 with h7|⟨u,rfl,rfl,h8,h9⟩
          ·exact h7
          ·have e:v.d=v.d0:=by cases v<;>first|rfl|(exact absurd rfl (h8 _))|(exact absurd rfl (h9 _))
           rw[e,VR (h1c _ (by simp))];rfl
         obtain⟨i,hi,hst2⟩:=IH (Hr:=c.Hr) h2
         obtain⟨e6,hf6⟩:=put_eq _ _ _ _ h6
         refine RL.YK (P:=c.P) (N:=c.N) (ops:=all) (Q:=Q) (rest:=rest) (L:=s.L.d) (cs':=cs'.map XV.d0) (Hs':=HD (EG s.H k (.box b cs' t'))++c.Hr) hX.st hi hx hy (c.hT _ _ h3).size (by rw[hcells,List.length_map];exact hl') (Nat.ble_eq_true_of_le (by rw[List.length_map];show o+n<=cs.length;omega)) (by rw[hcells];exact List.all_eq_true.2 h1c) ?_ ?_ ?_ a hsl
         ·unfold GH;rw[hcells,e6];simp[List.map_take,List.map_drop]
         ·exact(hst2 (.box b cs' t')).symm
         ·intro w2 hS2 a2 hs2
          exact hn a2 w2 ⟨hs2,M,hS2,hX.f,hX.le⟩
        ·cases h
       ·cases h
      ·cases h
     ·cases h
    ·cases h
   ·cases h
  ·cases h
 ·cases h
theorem G8: ∀(n:Nat) (k:List Fr) (m:Md) (F:List (Nat×Kn)) (H:List (Nat×HX)) (L:XE) (O:Prop) (E:List Ck),let t:=exec c.T c.N n k m F H L O E;t.O->AD t.E->XG c B t.k t.m t.s->O/\AD E/\XG c B k m ⟨F,H,L⟩
 |0,k,m,F,H,L,O,E=>λ h1 h2 h3=>⟨h1,h2,h3⟩
 |n+1,k,m,F,H,L,O,E=>by
  intro t h1 h2 h3
  have ht:t=exec c.T c.N (n+1) k m F H L O E:=rfl
  unfold exec at ht
  split at ht
  ·rename_i x
   split at ht
   ·rw[ht]at h1 h2 h3
    obtain⟨r1,r2,r3⟩:=G8 n _ _ _ _ _ _ _ h1 h2 h3
    exact⟨r1,r2,λ a w hs=>c.W.skip (r3 a w hs)⟩
   ·rw[ht]at h1 h2 h3
    obtain⟨r1,r2,r3⟩:=G8 n _ _ _ _ _ _ _ h1 h2 h3
    exact⟨r1,r2,λ a w hs=>c.W.seq (r3 a w hs)⟩
   ·split at ht
    ·rw[ht]at h1 h2 h3
     obtain⟨r1,r2,r3⟩:=G8 n _ _ _ _ _ _ _ h1 h2 h3
     exact⟨r1,r2,λ a w hs=>c.W.region (r3 a w hs)⟩
    ·rw[ht]at h1 h2 h3;exact⟨h1,h2,h3⟩
   ·rw[ht]at h1 h2 h3
    obtain⟨r1,r2,r3⟩:=G8 n _ _ _ _ _ _ _ h1 h2 h3
    exact⟨r1,r2,λ a w hs=>c.W.block (r3 a w hs)⟩
   ·rw[ht]at h1 h2 h3
    obtain⟨r1,r2,r3⟩:=G8 n _ _ _ _ _ _ _ h1 h2 h3
    exact⟨r1,r2,λ a w hs=>c.W.scope (r3 a w hs)⟩
   ·rw[ht]at h1 h2 h3
    obtain⟨r1,r2,r3⟩:=G8 n _ _ _ _ _ _ _ h1 h2 h3
    exact⟨r1,r2,λ a w hs=>c.W.exit (r3 a w hs)⟩
   ·rw[ht]at h1 h2 h3
    exact⟨h1,h2,λ a w hs=>c.W.ret (T9 a w (h3 a w hs) k)⟩
   ·split at ht
    ·rename_i v E' ho
     split at ht
     ·rename_i p hp
      have:=OI hp;subst this
      rw[ht]at h1 h2 h3
      refine⟨h1,(AD.app h2).2,λ a w hs=>c.W.cond (AN ho (AD.app h2).1 a c.N hs.1 U) (h3 a w hs)⟩
     ·rw[ht]at h1 h2 h3;exact⟨h1,h2,h3⟩
    ·rw[ht]at h1 h2 h3;exact⟨h1,h2,h3⟩
   ·rw[ht]at h1 h2 h3;exact⟨h1,h2,h3⟩
  ·split at ht
   ·rw[ht]at h1 h2 h3
    obtain⟨r1,r2,r3⟩:=G8 n _ _ _ _ _ _ _ h1 h2 h3
    exact⟨r1,r2,λ a w hs=>r3 a w hs⟩
   ·rw[ht]at h1 h2 h3
    obtain⟨r1,r2,r3⟩:=G8 n _ _ _ _ _ _ _ h1 h2 h3
    exact⟨r1,r2,λ a w hs=>r3 a w hs⟩
   ·rw[ht]at h1 h2 h3
    obtain⟨r1,r2,r3⟩:=G8 n _ _ _ _ _ _ _ h1 h2 h3
    exact⟨r1,r2,λ a w hs=>r3 a w hs⟩
   ·rw[ht]at h1 h2 h3;exact⟨h1,h2,h3⟩
  ·rename_i id
   split at ht
   ·rename_i id' k'
    split at ht
    ·rename_i hid
     have:=Nat.eq_of_beq_eq_true hid;subst this
     rw[ht]at h1 h2 h3
     obtain⟨r1,r2,r3⟩:=G8 n _ _ _ _ _ _ _ h1 h2 h3
     refine⟨r1,r2,λ a w hs=>?_⟩
     show(if id=id then _ else _)
     rw[if_pos U];exact r3 a w hs
    ·rename_i hid
     have:id≠id':=λ e=>by subst e;rw[Nat.beq_refl]at hid;cases hid
     rw[ht]at h1 h2 h3
     obtain⟨r1,r2,r3⟩:=G8 n _ _ _ _ _ _ _ h1 h2 h3
     refine⟨r1,r2,λ a w hs=>?_⟩
     show(if id=id' then _ else _)
     rw[if_neg this];exact r3 a w hs
   ·rw[ht]at h1 h2 h3
    obtain⟨r1,r2,r3⟩:=G8 n _ _ _ _ _ _ _ h1 h2 h3
    exact⟨r1,r2,λ a w hs=>r3 a w hs⟩
   ·rw[ht]at h1 h2 h3
    obtain⟨r1,r2,r3⟩:=G8 n _ _ _ _ _ _ _ h1 h2 h3
    exact⟨r1,r2,λ a w hs=>r3 a w hs⟩
   ·rw[ht]at h1 h2 h3
    obtain⟨r1,r2,r3⟩:=G8 n _ _ _ _ _ _ _ h1 h2 h3
    exact⟨r1,r2,λ a w hs=>r3 a w hs⟩
   ·rw[ht]at h1 h2 h3;exact⟨h1,h2,h3⟩
  ·rename_i all l
   split at ht
   ·rw[ht]at h1 h2 h3
    obtain⟨r1,r2,r3⟩:=G8 n _ _ _ _ _ _ _ h1 h2 h3
    exact⟨r1,r2,λ a w hs=>c.W.nil (r3 a w hs)⟩
   ·rename_i dst op ty ps af gd rest
    split at ht
    ·rename_i d
     split at ht
     ·rename_i W hW
      split at ht
      ·rename_i v p E' hv
       split at ht
       ·rename_i hd
        obtain⟨O',hi,hO'⟩:=a7 (W:=W) (K:=λ O'=>exec c.T c.N n k (.ops all rest) F H ((d,W,v)::L) O' (E'++E)) (ps:=p) (O:=O)
        rw[ht,hi]at h1 h2 h3
        obtain⟨r1,r2,r3⟩:=G8 n _ _ _ _ _ _ _ h1 h2 h3
        obtain⟨hp,hO⟩:=hO' r1
        refine⟨hO,(AD.app r2).2,λ a w hs=>?_⟩
        obtain⟨hsl,M,hX⟩:=hs
        have hpv:PV c.P (· =w) L.d W.d ⟨some d,op,ty,ps,af,gd⟩ v.d:=T0 c.hT hX.f hX.st AR hv (AD.app r2).1 hp
        exact c.W.one (RL.v (MC hW) hpv hd (λ a' hs'=>c.W.back (r3 a' w ⟨hs',M,hX⟩)) a hsl)
       ·rw[ht]at h1 h2 h3;exact⟨h1,h2,h3⟩
      ·rw[ht]at h1 h2 h3;exact⟨h1,h2,h3⟩
     ·rw[ht]at h1 h2 h3;exact⟨h1,h2,h3⟩
    ·split at ht
     ·split at ht
      ·rename_i tt x y
       split at ht
       ·rename_i H' E' hst
        rw[ht]at h1 h2 h3
        obtain⟨r1,r2,r3⟩:=G8 n _ _ _ _ _ _ _ h1 h2 h3
        refine⟨r1,(AD.app r2).2,λ a w hs=>?_⟩
        obtain⟨hsl,M,hX⟩:=hs
        exact c.W.one (xD hst (AD.app r2).1 hX (λ a' w' hs'=>c.W.back (r3 a' w' hs')) a w hsl)
       ·rw[ht]at h1 h2 h3;exact⟨h1,h2,h3⟩
      ·rw[ht]at h1 h2 h3;exact⟨h1,h2,h3⟩
     ·rw[ht]at h1 h2 h3;exact⟨h1,h2,h3⟩
  ·rw[ht]at h1 h2 h3;exact⟨h1,h2,h3⟩
theorem CX{m:Md}{k':List Fr}{m':Md}{s':XS}{O':Prop}{E':List Ck}(h:run c.T c.N k m s=⟨k',m',s',O',E'⟩)(hE:AD E')(hO:O')(hn:XG c B k' m' s'):XG c B k m s:=by
 unfold run at h
 split at h
 rename_i F H L
 have key: ∀F' H' L',F'=F->H'=H->L'=L->exec c.T c.N 10000 k m F' H' L' ((0:Int)=0) []=⟨k',m',s',O',E'⟩->XG c B k m ⟨F,H,L⟩:=by
  rintro F' H' L' rfl rfl rfl h
  have:=G8 (c:=c) (B:=B) 10000 k m F' H' L' ((0:Int)=0) []
  rw[h]at this
  exact(this hO hE hn).2.2
 split at h
 ·rename_i F' hF
  split at h
  ·rename_i H' hH
   split at h
   ·rename_i L' hL
    exact key F' H' L' (a6 hF) (a6 hH) (j5 hL) h
   ·exact key F H L U U U h
  ·exact key F H L U U U h
 ·exact key F H L U U U h
end
end Go.Eng
namespace Go.Eng
open Go.RowKit
abbrev I(n:Int):XV:=.v (.int .i64 n)
abbrev Z(k:Nat)(v:XV):Nat×Gd×XV:=(k,.t,v)
def NA:Nat->List XV->XE
 |_,[]=>[]
 |k,v::vs=>(k,.t,v)::NA (k+1) vs
theorem RC: ∀(vs:List XV) (k:Nat),(NA k vs).d=MZ k (vs.map XV.d)
 |[],_=>rfl
 |v::vs,k=>by show(k,true,v.d)::XE.d (NA (k+1) vs)=_;rw[RC vs];rfl
def GZ:List Nat->XE->XE
 |[],_=>[]
 |k::ks,L=>match BE L k with
  |some x=>(k,x)::GZ ks L
  |none=>GZ ks L
theorem VX: ∀(ks:List Nat) (L:XE) (t:Nat) (g:Gd) (v:XV),BE (GZ ks L) t=some (g,v)->BE L t=some (g,v)
 |[],_,_,_,_,h=>by simp[GZ,BE]at h
 |k::ks,L,t,g,v,h=>by
  unfold GZ at h
  split at h
  ·rename_i x hx
   obtain⟨g',v'⟩:=x
   unfold BE at h
   split at h
   ·rename_i e
    cases h;have:=Nat.eq_of_beq_eq_true e;subst this;exact hx
   ·exact VX ks L t g v h
  ·exact VX ks L t g v h
theorem j7{a:Act}{N:Nat}{L L':XE}(hs:AJ a N L.d)(h: ∀t g v,BE L' t=some (g,v)->BE L t=some (g,v)):AJ a N L'.d:=
 ⟨hs.size,hs.DE,λ t g v ht=>by
  obtain⟨g',v',h1,rfl,rfl⟩:=PG ht
  exact hs.val t _ _ (HC (h t g' v' h1))⟩
def KZ:List (Nat×Kn)->List (Nat×Kn)->List (Nat×Kn)
 |[],_=>[]
 |(k,x)::F',F=>match KW F k with
  |some y=>(k,y)::KZ F' F
  |none=>KZ F' F
theorem a8{M:Mem}{F:List (Nat×Kn)}(hF:BF M F): ∀F',BF M (KZ F' F)
 |[]=>λ x hx=>by cases hx
 |(k,x)::F'=>by
  unfold KZ
  split
  ·rename_i y hy
   intro z hz
   rcases List.mem_cons.1 hz with rfl|hz
   ·exact hF.get hy
   ·exact a8 hF F' z hz
  ·exact a8 hF F'
def MD:List (Nat×HX)->Nat->Option (HX×List (Nat×HX))
 |[],_=>none
 |(t,d)::H,k=>match Nat.beq t k with
  |true=>some (d,H)
  |false=>match MD H k with
   |some (x,H')=>some (x,(t,d)::H')
   |none=>none
theorem VY: ∀ {H:List (Nat×HX)} {k:Nat} {x:HX} {H':List (Nat×HX)},MD H k=some (x,H')->(x.d::HD H').Perm (HD H)
 |[],_,_,_,h=>by cases h
 |(t,d)::H,k,x,H',h=>by
  unfold MD at h
  split at h
  ·simp only[Option.some.injEq,Prod.mk.injEq]at h;obtain⟨rfl,rfl⟩:=h;exact .refl _
  ·split at h
   ·rename_i x2 H2 h2
    simp only[Option.some.injEq,Prod.mk.injEq]at h;obtain⟨rfl,rfl⟩:=h
    exact(List.Perm.swap _ _ _).trans ((VY h2).cons d.d)
   ·cases h
def L0:List (Nat×HX)->List (Nat×HX)->List (Nat×HX)
 |[],_=>[]
 |(k,_)::H',H=>match MD H k with
  |some (y,H2)=>(k,y)::L0 H' H2
  |none=>L0 H' H
theorem aA: ∀(H' H:List (Nat×HX)),∃R,(HD (L0 H' H)++R).Perm (HD H)
 |[],H=>⟨HD H,.refl _⟩
 |(k,d)::H',H=>by
  unfold L0
  split
  ·rename_i y H2 h2
   obtain⟨R,hR⟩:=aA H' H2
   exact⟨R,(hR.cons y.d).trans (VY h2)⟩
  ·exact aA H' H
def XS.sub (s' s:XS):Prop:=(∀t g v,BE s'.L t=some (g,v)->BE s.L t=some (g,v))/\(∀M,BF M s.F->BF M s'.F)/\ ∃R,(HD s'.H++R).Perm (HD s.H)
def keys:XE->List Nat
 |[]=>[]
 |(k,_)::L=>k::keys L
theorem XS.RD {s s':XS}(h:(⟨KZ s'.F s.F,L0 s'.H s.H,GZ (keys s'.L) s.L⟩:XS)=s'):s'.sub s:=by
 refine⟨λ t g v hv=>?_,λ M hF=>?_,?_⟩
 ·rw[<-h]at hv;exact VX _ _ _ _ _ hv
 ·have:=a8 hF s'.F;rw[<-h];exact this
 ·have:=aA s'.H s.H;rw[<-h];exact this
theorem GY.sub {c:Cx}{s s':XS}{a:Act}{w:World}(h:GY c s a w)(hs:s'.sub s):GY c s' a w:=by
 obtain⟨h1,M,h2,h3,h4⟩:=h
 obtain⟨k1,k2,R,k3⟩:=hs
 refine⟨j7 h1 k1,M,?_,k2 M h3,h4⟩
 have hp:((HD s'.H++c.Hr)++R).Perm (HD s.H++c.Hr):=by
  refine List.Perm.trans ?_ (k3.append_right c.Hr)
  rw[List.append_assoc,List.append_assoc]
  exact(List.perm_append_comm).append_left _
 exact(h2.perm hp).drop _ (List.sublist_append_left _ _)
section
variable {c:Cx} {B:Exit->Act->World->Prop} {k k':List Fr} {m:Md} {s s':XS} {O:Prop} {E:List Ck}
theorem A7{b:Bool}{x y:Code}(h:run c.T c.N k m s=⟨k',.br b x y,s',O,E⟩)(hE:AD E)(hO:O)(ht:b=true->XG c B k' (.code x) s')(hf:b=false->XG c B k' (.code y) s'):XG c B k m s:=by
 refine CX h hE hO λ a w hs=>?_
 cases b
 ·exact hf U a w hs
 ·exact ht U a w hs
def LJ{σ:Type}(Sf:σ->XS)(I:σ->Prop)(μ:σ->Nat)(g:σ):XS->Prop:=λ t=> ∃g',t=Sf g'/\I g'/\μ g'<μ g
theorem CD{σ:Type}{x:Code}(Sf:σ->XS)(I:σ->Prop)(μ:σ->Nat)(g0:σ)(h:run c.T c.N k m s=⟨k',.code (.loop x),s',O,E⟩)(hE:AD E)(hO:O)
  (h0:(⟨KZ (Sf g0).F s'.F,L0 (Sf g0).H s'.H,GZ (keys (Sf g0).L) s'.L⟩:XS)=Sf g0) (hI:I g0)
  (hr: ∀g,I g->XG c B (.loop (LJ Sf I μ g)::k') (.code x) (Sf g)):XG c B k m s:=by
 refine CX h hE hO λ a w hs=>?_
 refine c.W.loop (λ g a w=>I g/\GY c (Sf g) a w) μ g0 ⟨hI,hs.sub (XS.RD h0)⟩ λ g a w ⟨hg,hs⟩=>c.W.mono (hr g hg a w hs) λ e a w q=>?_
 cases e with
 |normal=>obtain⟨t,⟨g',rfl,h1,h2⟩,h3⟩:=q;exact⟨g',⟨h1,h3⟩,h2⟩
 |_=>exact q
theorem C7{σ:Type}{Sf:σ->XS}{I:σ->Prop}{μ:σ->Nat}{g:σ}(g':σ)(h:run c.T c.N k m s=⟨.loop (LJ Sf I μ g)::k',.next,s',O,E⟩)(hE:AD E)(hO:O)
  (h0:(⟨KZ (Sf g').F s'.F,L0 (Sf g').H s'.H,GZ (keys (Sf g').L) s'.L⟩:XS)=Sf g') (hI:I g') (hm:μ g'<μ g):XG c B k m s:=
 CX h hE hO λ a w hs=>⟨_,⟨g',rfl,hI,hm⟩,hs.sub (XS.RD h0)⟩
def PI:Value->XV
 | .agg ⟨cs⟩=>.ag (K6 cs)
 |x=>.v x
def VZ:List Value->Option (List XV)
 |[]=>some []
 |x::l=>match VZ l with
  |some r=>some (PI x::r)
  |none=>none
def vx:Value->Option XV
 | .tuple ⟨l⟩=>match VZ l with
  |some r=>some (.tu r)
  |none=>none
 |x=>some (PI x)
theorem j8: ∀l:List Value,(K6 l).map XV.d0=l
 |[]=>rfl
 |x::l=>by simp[K6,j8 l,XV.d0]
theorem j9(x:Value):(PI x).d1=x:=by
 unfold PI
 split
 ·rename_i cs;simp[XV.d1,j8]
 ·rfl
theorem xE(x:Value):(PI x).d=(PI x).d1:=by
 unfold PI
 split<;>rfl
theorem jA: ∀ {l:List Value} {r:List XV},VZ l=some r->r.map XV.d1=l
 |[],r,h=>by cases h;rfl
 |x::l,r,h=>by
  unfold VZ at h
  split at h
  ·rename_i r' hr;cases h;simp[j9,jA hr]
  ·cases h
theorem aB{x:Value}{v:XV}(h:vx x=some v):v.d=x:=by
 unfold vx at h
 split at h
 ·split at h
  ·rename_i r hr;cases h;simp[XV.d,jA hr]
  ·cases h
 ·cases h;rw[xE,j9]
def J6(L:XE)(W:Gd):List Operand->Option (List XV×List Ck)
 |[]=>some ([],[])
 |x::xs=>match BZ L W x with
  |some (v,E)=>match J6 L W xs with
   |some (vs,E')=>some (v::vs,E++E')
   |none=>none
  |none=>none
theorem NB{L:XE}{W:Gd}: ∀ {xs:List Operand} {vs:List XV} {E:List Ck},J6 L W xs=some (vs,E)->AD E->EE L.d W.d xs (vs.map XV.d)
 |[],vs,E,h,_=>by simp only[J6,Option.some.injEq,Prod.mk.injEq]at h;obtain⟨rfl,rfl⟩:=h;exact .nil
 |x::xs,vs,E,h,hE=>by
  unfold J6 at h
  split at h
  ·rename_i v E1 h1
   split at h
   ·rename_i vs' E2 h2
    simp only[Option.some.injEq,Prod.mk.injEq]at h;obtain⟨rfl,rfl⟩:=h
    exact .cons (AN h1 hE.app.1) (NB h2 hE.app.2)
   ·cases h
  ·cases h
abbrev CT(P:Program)(f:FuncId):Prop:= ∀args w,(callFunc f args).run P w= .ok (.enter f args) w
theorem AY{d:Nat}{f:FuncId}{xs:List Operand}{tys:Array TypeId}{ty:TypeId}{ps:String}{af:Array Edge}{gd:Option (Nat×Bool)}{all:Array Oper}{rest:List Oper}{W:Gd}{vs:List XV}{E2:List Ck}{u:Value}{v:XV}
  (h:run c.T c.N k m s=⟨k',.ops all (⟨some d,.call ⟨.value (.func f),⟨xs⟩,tys⟩,ty,ps,af,gd⟩::rest),s',O,E⟩) (hE:AD E) (hO:O) (ct:CT c.P f) (hg:(IJ all s'.L gd,Nat.blt d c.N)=(some W,true)) (hx:J6 s'.L W xs=some (vs,E2)) (hE2:AD E2)
  (hc:W.d=true-> ∀w M,E5 c s'.F s'.H w M->Calls c.P f (vs.map XV.d).toArray w (λ e w'=>e= .returned u/\Ext w w')) (hv:vx u=some v) (hn:XG c B k' (.ops all rest) ⟨s'.F,s'.H,(d,W,v)::s'.L⟩):XG c B k m s:=by
 refine CX h hE hO λ a w hs=>?_
 obtain⟨h1,M,h2⟩:=hs
 simp only[Prod.mk.injEq]at hg
 have e:(⟨xs⟩:Array Operand)=xs.toArray:=rfl
 rw[e]
 refine c.W.one (RL.D6 h2.st (MC hg.1) ct (NB hx hE2) (λ hW=>hc hW w M h2) hg.2 (λ w' hS'=>?_) a h1)
 intro a' hs'
 rw[<-aB hv]at hs'
 exact c.W.back (hn a' w' ⟨hs',M,hS',h2.f,h2.le⟩)
end
theorem AU{P:Program}{N:Nat}{w0 w:World}{M0 M:Mem}{Hr:List HO}{T:TT}(hT:EH P T){f:FuncId}{fn:Func}{x:Code}{R:Ending->World->Prop}(hf:P.funcs[f]? =some fn)(hb:fn.body=some x)(hn:fn.ntmps=N)
  (F:List (Nat×Kn)) (H:List (Nat×HX)) (vs:List XV) (hl:Nat.ble vs.length N=true) (hS:St w0 M0 w M (HD H++Hr)) (hF:BF M F)
  (h: ∀B,Ends P fn R B->XG ⟨P,N,w0,M0,M,Hr,T,hT,.wide P⟩ B [] (.code x) ⟨F,H,NA 0 vs⟩) {av:List Value} (ha:vs.map XV.d=av):Calls P f av.toArray w R:=by
 subst ha
 refine CW.BH hf hb hn (by rw[List.length_map];exact Nat.le_of_ble_eq_true hl) λ Q hQ a hs=>?_
 have:=h Q hQ a w ⟨by rw[<-RC]at hs;exact hs,M,hS,hF,Mem.le.refl _⟩
 exact this
theorem xF{α:Type}(f:α->List Value)(sz:Nat)(hf: ∀x,(f x).length=sz)(l:List α)(a b j:Nat)(hab:a<=b)(hb:b<=l.length)(hj:j<(b-a)*sz):
  (l.flatMap f)[a*sz+j]? =(((l.drop a).take (b-a)).flatMap f)[j]?:=by
 have e:l=l.take a++((l.drop a).take (b-a)++(l.drop a).drop (b-a)):=by rw[List.take_append_drop,List.take_append_drop]
 have e2:l.flatMap f=(l.take a).flatMap f++(((l.drop a).take (b-a)).flatMap f++((l.drop a).drop (b-a)).flatMap f):=by
  conv=>lhs;rw[e]
  rw[List.flatMap_append,List.flatMap_append]
 have h1:((l.take a).flatMap f).length=a*sz:=by rw[DQ f sz hf,List.length_take,Nat.min_eq_left (by omega)]
 have h2:(((l.drop a).take (b-a)).flatMap f).length=(b-a)*sz:=by rw[DQ f sz hf,List.length_take,List.length_drop,Nat.min_eq_left (by omega)]
 rw[e2,List.getElem?_append_right (by omega),h1,show a*sz+j-a*sz=j from by omega,List.getElem?_append_left (by omega)]
theorem aC{α:Type}{f:α->List Value}{M:Mem}{sz:Nat}{v:Value}{l:List α}(h:Sl M sz l.length v (l.flatMap f))(hf: ∀x,(f x).length=sz){a b:Int}(h0:0<=a)(h1:a<=b)(h2:b<=len l):
  ∃p cap,v= .slice p l.length cap/\l.length<=cap/\Sl M sz (Eng.sub l a b).length (sliced p a.toNat b.toNat cap sz) ((Eng.sub l a b).flatMap f):=by
 obtain⟨p,cap,hv,hc,hm,hp⟩:=h.val
 refine⟨p,cap,hv,hc,?_⟩
 unfold len at h2
 have hl:(Eng.sub l a b).length=b.toNat-a.toNat:=by unfold Eng.sub;rw[List.length_take,List.length_drop];omega
 refine⟨by rw[DQ f sz hf],_,_,by unfold sliced;rw[hl],by rw[hl];omega,by omega,λ hn=>?_⟩
 rw[hl]at hn
 obtain⟨b0,o,hpe,hcell⟩:=hp (by omega)
 refine⟨b0,o+a.toNat*sz,by rw[if_neg (by omega),hpe,Option.map_some,H8],λ j hj=>?_⟩
 rw[DQ f sz hf,hl]at hj
 have hlen:a.toNat*sz+j<(l.flatMap f).length:=by
  rw[DQ f sz hf]
  have:=Nat.mul_le_mul_right sz (show a.toNat+(b.toNat-a.toNat)<=l.length by omega)
  rw[Nat.add_mul]at this;omega
 rw[Nat.add_assoc,hcell _ hlen]
 exact xF f sz hf l a.toNat b.toNat j (by omega) (by omega) hj
section sl
variable {P:Program} {α:Type} {f:α->List Value} {M:Mem} {sz:Nat} {v:Value} {l:List α} {t e:TypeId}
theorem RE(ht:P.underlying t=some (.slice e)):P.elem t=e:=by unfold Program.elem;rw[ht]
theorem xG(h:Sl M sz l.length v (l.flatMap f))(hf: ∀x,(f x).length=sz)(ht:P.underlying t=some (.slice e))(hs: ∀w,(sizeOf e).run P w= .ok sz w)(a b:Int)(hr:0<=a/\a<=b/\b<=len l):
  ∃v',Sl M sz (Eng.sub l a b).length v' ((Eng.sub l a b).flatMap f)/\ ∀(k k':IntKind) w,(Instr.sliceAt t v (some (.int k a)) (some (.int k' b)) none).run P w= .ok v' w:=by
 obtain⟨h0,h1,h2⟩:=hr
 obtain⟨p,cap,hv,hc,hS⟩:=aC h hf h0 h1 h2
 have ht':P.underlying t=some (.slice (P.elem t)):=by rw[RE ht];exact ht
 refine⟨_,hS,λ k k' w=>?_⟩
 rw[hv,run_sliceAt_slice w t _ _ _ _ ht',run_slice_lh w t p _ cap ht' k k' a b h0 h1 (by unfold len at h2;omega),RE ht,hs]
 rfl
theorem xH(h:Sl M sz l.length v (l.flatMap f))(hf: ∀x,(f x).length=sz)(ht:P.underlying t=some (.slice e))(hs: ∀w,(sizeOf e).run P w= .ok sz w)(a b:Int)(hr:0<=a/\a<=b/\b<=len l)(ha:a=0:=by rfl):
  ∃v',Sl M sz (Eng.sub l a b).length v' ((Eng.sub l a b).flatMap f)/\ ∀(k':IntKind) w,(Instr.sliceAt t v none (some (.int k' b)) none).run P w= .ok v' w:=by
 subst ha
 obtain⟨h0,h1,h2⟩:=hr
 obtain⟨p,cap,hv,hc,hS⟩:=aC h hf h0 h1 h2
 have ht':P.underlying t=some (.slice (P.elem t)):=by rw[RE ht];exact ht
 refine⟨_,hS,λ k' w=>?_⟩
 rw[hv,run_sliceAt_slice w t _ _ _ _ ht',run_slice_h w t p _ cap ht' k' b h1 (by unfold len at h2;omega),RE ht,hs]
 rfl
theorem xI(h:Sl M sz l.length v (l.flatMap f))(hf: ∀x,(f x).length=sz)(ht:P.underlying t=some (.slice e))(hs: ∀w,(sizeOf e).run P w= .ok sz w)(a b:Int)(hr:0<=a/\a<=b/\b<=len l)(hb:b=len l:=by rfl):
  ∃v',Sl M sz (Eng.sub l a b).length v' ((Eng.sub l a b).flatMap f)/\ ∀(k:IntKind) w,(Instr.sliceAt t v (some (.int k a)) none none).run P w= .ok v' w:=by
 subst hb
 obtain⟨h0,h1,h2⟩:=hr
 obtain⟨p,cap,hv,hc,hS⟩:=aC h hf h0 h1 h2
 have ht':P.underlying t=some (.slice (P.elem t)):=by rw[RE ht];exact ht
 refine⟨_,hS,λ k w=>?_⟩
 rw[hv,run_sliceAt_slice w t _ _ _ _ ht',run_slice_l w t p _ cap ht' k a h0 h1,RE ht,hs]
 rfl
variable {C:World->Prop} {L:Env} {W:Bool} {d:Option Tmp} {ty:TypeId} {ps:String} {af:Array Edge} {gd:Option (Nat×Bool)} {x y z:Operand} {v':Value} {k k':IntKind} {a b:Int}
theorem PV.xJ (hx:A8 L W x v)(hy:A8 L W y (.int k a))(hz:A8 L W z (.int k' b))(hr: ∀(k k':IntKind) w,(Instr.sliceAt t v (some (.int k a)) (some (.int k' b)) none).run P w= .ok v' w):PV P C L W ⟨d,.slice t x (some y) (some z) none,ty,ps,af,gd⟩ v':=by
 intro ac N hs hW w _
 simp only[execOp,hx ac N hs hW,Option.map_some,Option.map_none,hy ac N hs hW,hz ac N hs hW]
 rw[Sem.run_bind,hr];rfl
theorem PV.xK (hx:A8 L W x v)(hz:A8 L W z (.int k' b))(hr: ∀(k':IntKind) w,(Instr.sliceAt t v none (some (.int k' b)) none).run P w= .ok v' w):PV P C L W ⟨d,.slice t x none (some z) none,ty,ps,af,gd⟩ v':=by
 intro ac N hs hW w _
 simp only[execOp,hx ac N hs hW,Option.map_some,Option.map_none,hz ac N hs hW]
 rw[Sem.run_bind,hr];rfl
theorem PV.xL (hx:A8 L W x v)(hy:A8 L W y (.int k a))(hr: ∀(k:IntKind) w,(Instr.sliceAt t v (some (.int k a)) none none).run P w= .ok v' w):PV P C L W ⟨d,.slice t x (some y) none none,ty,ps,af,gd⟩ v':=by
 intro ac N hs hW w _
 simp only[execOp,hx ac N hs hW,Option.map_some,Option.map_none,hy ac N hs hW]
 rw[Sem.run_bind,hr];rfl
end sl
section
variable {c:Cx} {B:Exit->Act->World->Prop} {k k':List Fr} {m:Md} {s s':XS} {O:Prop} {E:List Ck} {all:Array Oper} {rest:List Oper} {d:Nat} {ty:TypeId} {ps:String} {af:Array Edge}
theorem IK(kk:Nat)(K:Kn)(h: ∀w M,E5 c s.F s.H w M->K.ok M)(hn:XG c B k m ⟨(kk,K)::s.F,s.H,s.L⟩):XG c B k m s:=λ a w ⟨h1,M,h2⟩=>hn a w ⟨h1,M,h2.st,CK (h w M h2) h2.f,h2.le⟩
theorem W0(t kk:Nat){v:Value}{g:Gd}(hl:BE s.L t=some (g,.v v))(hn:XG c B k m ⟨s.F,s.H,(t,g,.sl kk v)::s.L⟩):XG c B k m s:=λ a w ⟨h1,M,h2⟩=>hn a w ⟨⟨h1.size,h1.DE,λ t' g' v' ht=>by
 have ht':look ((t,g.d,v)::s.L.d) t'=some (g',v'):=ht
 by_cases he:t=t'
 ·subst he;rw[KL]at ht';cases ht';exact h1.val _ _ _ (HC hl)
 ·rw[HP he]at ht';exact h1.val _ _ _ ht'⟩,M,h2⟩
theorem H0{o:Oper}(h:run c.T c.N k m s=⟨k',.ops all (o::rest),s',O,E⟩)(hE:AD E)(hO:O)(hn: ∀w M,E5 c s'.F s'.H w M->RL c.P all (Exit.then (c.W.list all (post c B k') rest) (post c B k')) c.N [o] s'.L.d w):XG c B k m s:=
 CX h hE hO λ a w ⟨h1,M,h2⟩=>c.W.one (hn w M h2 a h1)
theorem HF{F:List (Nat×Kn)}{H:List (Nat×HX)}{L:XE}{L':Env}{l:List Oper}{w:World}{M:Mem}(h:XG c B k (.ops all l) ⟨F,H,L⟩)(hX:E5 c F H w M)(hL:L.d=L'):RL c.P all (Exit.then (c.W.list all (post c B k) l) (post c B k)) c.N [] L' w:=
 λ a hs=>c.W.back (h a w ⟨by rw[hL];exact hs,M,hX⟩)
theorem CY{op:Op}{gd:Option (Nat×Bool)}{W:Gd}(v:XV)(h:run c.T c.N k m s=⟨k',.ops all (⟨some d,op,ty,ps,af,gd⟩::rest),s',O,E⟩)(hE:AD E)(hO:O)(hg:(IJ all s'.L gd,Nat.blt d c.N)=(some W,true))
  (hp: ∀w M,E5 c s'.F s'.H w M->PV c.P (· =w) s'.L.d W.d ⟨some d,op,ty,ps,af,gd⟩ v.d) (hn:XG c B k' (.ops all rest) ⟨s'.F,s'.H,(d,W,v)::s'.L⟩):XG c B k m s:=by
 simp only[Prod.mk.injEq]at hg
 exact H0 h hE hO λ w M hX=>RL.v (MC hg.1) (hp w M hX) hg.2 (HF hn hX U)
theorem CU(kk:Nat){t:TypeId}{z:Value}{cs:List XV}(h:run c.T c.N k m s=⟨k',.ops all (⟨some d,.alloc t,ty,ps,af,none⟩::rest),s',O,E⟩)(hE:AD E)(hO:O)(hz: ∀w,(zeroValue t).run c.P w= .ok z w)(hd:(Nat.blt d c.N,R1 z.cells.toList)=(true,some cs))
  (hn: ∀b,XG c B k' (.ops all rest) ⟨s'.F,(kk,.box b cs t)::s'.H,(d,.t,.bx kk b 0)::s'.L⟩):XG c B k m s:=by
 simp only[Prod.mk.injEq]at hd
 refine H0 h hE hO λ w M hX=>RL.alloc hX.st hz hd.1 λ w' b hS=>HF (hn b) ⟨?_,hX.f,hX.le⟩ U
 show St _ _ _ _ (.box b (cs.map XV.d0) t::(HD s'.H++c.Hr))
 rw[VN _ _ hd.2];exact hS
theorem F0(kk:Nat){t:TypeId}{x:Operand}{v:XV}{cs:List XV}{E1 E2:List Ck}(h:run c.T c.N k m s=⟨k',.ops all (⟨some d,.box t x,ty,ps,af,none⟩::rest),s',O,E⟩)(hE:AD E)(hO:O)(hx:BZ s'.L .t x=some (v,E1))(hd:(Nat.blt d c.N,cellsOf v,T7 s'.F s'.H cs)=(true,some cs,some E2))(hE1:AD (E1++E2))
  (hn: ∀b,XG c B k' (.ops all rest) ⟨s'.F,(kk,.box b cs t)::s'.H,(d,.t,.bx kk b 0)::s'.L⟩):XG c B k m s:=by
 simp only[Prod.mk.injEq]at hd
 refine H0 h hE hO λ w M hX=>RL.box hX.st (AN hx hE1.app.1) hd.1 λ w' b hS=>HF (hn b) ⟨?_,hX.f,hX.le⟩ U
 have h1c:=RB hX.f hX.st hd.2.2 hE1.app.2
 have hcells:v.d.cells.toList=cs.map XV.d0:=by
  rcases j6 hd.2.1 with h7|⟨u,rfl,rfl,h8,h9⟩
  ·exact h7
  ·have e:v.d=v.d0:=by cases v<;>first|rfl|(exact absurd rfl (h8 _))|(exact absurd rfl (h9 _))
   rw[e,VR (h1c _ (by simp))];rfl
 show St _ _ _ _ (.box b (cs.map XV.d0) t::(HD s'.H++c.Hr))
 rw[<-hcells];exact hS
theorem TB{α:Type}[Inhabited α](kk t:Nat)(e:TypeId)(sz:Nat)(f:α->List Value)(hf: ∀x,(f x).length=sz)(hl:BE s.L t=some (.t,.v (.slice none 0 0)))
  (hn:XG c B k m ⟨(kk,kn (.slice none 0 0) sz ([]:List α) f)::s.F,(kk,.ho (.own e sz (.slice none 0 0) ([]:List α).length (([]:List α).flatMap f)))::s.H,(t,.t,.sl kk (.slice none 0 0))::s.L⟩):XG c B k m s:=by
 intro a w ⟨h1,M,h2⟩
 refine hn a w ⟨⟨h1.size,h1.DE,λ t' g v ht=>?_⟩,M,h2.st.KN e sz,CK ⟨?_,hf,trivial⟩ h2.f,h2.le⟩
 ·have hl':=HC hl
  by_cases he:t=t'
  ·subst he
   have ht':look ((t,true,Value.slice none 0 0)::s.L.d) t=some (g,v):=ht
   rw[KL]at ht';cases ht'
   exact h1.val _ _ _ hl'
  ·have ht':look ((t,true,Value.slice none 0 0)::s.L.d) t'=some (g,v):=ht
   rw[HP he]at ht'
   exact h1.val _ _ _ ht'
 ·exact Sl.nil M sz
def RF(L:XE):List (Nat×Operand)->Option (List (Nat×XV)×List Ck)
 |[]=>some ([],[])
 |(i,x)::xs=>match BZ L .t x with
  |some (v,E)=>match RF L xs with
   |some (vs,E')=>some ((i,v)::vs,E++E')
   |none=>none
  |none=>none
theorem aD{L:XE}: ∀ {xs:List (Nat×Operand)} {vs:List (Nat×XV)} {E:List Ck},RF L xs=some (vs,E)->AD E->G3 L.d true xs (vs.map λ x=>(x.1,x.2.d))
 |[],vs,E,h,_=>by simp only[RF,Option.some.injEq,Prod.mk.injEq]at h;obtain⟨rfl,rfl⟩:=h;exact .nil
 |(i,x)::xs,vs,E,h,hE=>by
  unfold RF at h
  split at h
  ·rename_i v E1 h1
   split at h
   ·rename_i vs' E2 h2
    simp only[Option.some.injEq,Prod.mk.injEq]at h;obtain⟨rfl,rfl⟩:=h
    exact .cons (AN h1 hE.app.1) (aD h2 hE.app.2)
   ·cases h
  ·cases h
theorem DS{α:Type}[Inhabited α](kk:Nat)(l:List α)(f:α->List Value)(sz:Nat)(e:TypeId){t:TypeId}{n:Nat}{xs:List (Nat×Operand)}{vs:List (Nat×XV)}{E1:List Ck}(hf: ∀x,(f x).length=sz)(h:run c.T c.N k m s=⟨k',.ops all (⟨some d,.buildSlice t n ⟨xs⟩,ty,ps,af,none⟩::rest),s',O,E⟩)(hE:AD E)(hO:O)
  (hx:RF s'.L xs=some (vs,E1)) (hE1:AD E1) (hr: ∀w,(Instr.buildSlice t n (vs.map λ x=>(x.1,x.2.d)).toArray).run c.P w= .ok (.slice (some ⟨w.heap.size,0,none⟩) n n) (w.alloc (.cells (l.flatMap f).toArray e))) (hd:(Nat.blt d c.N,Nat.beq l.length n,Nat.ble n 9223372036854775807)=(true,true,true))
  (hn: ∀v,XG c B k' (.ops all rest) ⟨(kk,kn v sz l f)::s'.F,(kk,.ho (.own e sz v l.length (l.flatMap f)))::s'.H,(d,.t,.sl kk v)::s'.L⟩):XG c B k m s:=by
 simp only[Prod.mk.injEq]at hd
 have hln:=Nat.eq_of_beq_eq_true hd.2.1
 subst hln
 refine H0 h hE hO λ w M hX=>?_
 have e1:(⟨xs⟩:Array (Nat×Operand))=xs.toArray:=rfl
 rw[e1]
 refine RL.buildSlice (cs:=l.flatMap f) hX.st (aD hx hE1) (DQ f sz hf l) hd.2.2 hr hd.1 λ v w' M' hS hle=>HF (hn v) ⟨hS,CK ⟨hS.sl (i:=0) U,hf,trivial⟩ λ x hx=>(hX.f x hx).mono hle,hX.le.trans hle⟩ U
theorem ME(by':Nat){α:Type}[inh:Inhabited α]{l mm:List α}{f:α->List Value}{t e:TypeId}{x y:Operand}{i:TypeInfo}{z v vx:Value}{kk kx sz:Nat}{E1:List Ck}{g1 g2:Mem->Prop}{hg1: ∀M M',M.le M'->g1 M->g1 M'}{hg2: ∀M M',M.le M'->g2 M->g2 M'}
  (h:run c.T c.N k m s=⟨k',.ops all (⟨some d,.call ⟨.builtin .append,#[x,y],#[t,t]⟩,ty,ps,af,none⟩::rest),s',O,E⟩) (hE:AD E) (hO:O) (hx:KX s'.L .t x y=some (.sl kk v,.sl kx vx,E1)) (hE1:AD E1)
  (hk:(KW s'.F kk,KW s'.F kx,GL s'.H kk)=(some (@Kn.mk α inh v sz l f g1 hg1),some (@Kn.mk α inh vx sz mm f g2 hg2),some (.ho (.own e sz v l.length (l.flatMap f)))))
  (ht:c.P.underlying t=some (.slice e)) (hi:c.P.info? e=some i) (hz:i.zero=some z) (hs:(i.size,z.cells.size,i.bytes,Nat.blt 0 by',Nat.blt d c.N)=(sz,sz,by',true,true)) (h1: ∀x,∀u∈f x,u.oneCell'=true) (hb:(len l+len mm)*by'<=140737488355328)
  (hn: ∀v',XG c B k' (.ops all rest) ⟨(kk,kn v' sz (l++mm) f)::s'.F,EG s'.H kk (.ho (.own e sz v' (l++mm).length ((l++mm).flatMap f))),(d,.t,.sl kk v')::s'.L⟩):XG c B k m s:=by
 simp only[Prod.mk.injEq]at hk hs
 obtain⟨hk1,hk2,hk3⟩:=hk
 refine H0 h hE hO λ w M hX=>?_
 obtain⟨j,hj,hset'⟩:=IH (Hr:=c.Hr) hk3
 obtain⟨hx1,hx2⟩:=M6 hx hE1
 refine RL.N2 (f:=f) (l:=l) (m:=mm) (by':=by') hX.st hj hx1 hx2 (hX.f.get hk2).sl ht hi hz hs.1 hs.2.1 h1 hs.2.2.1 hs.2.2.2.1 hb hs.2.2.2.2 (Hs':=λ v'=>HD (EG s'.H kk (.ho (.own e sz v' (l++mm).length ((l++mm).flatMap f))))++c.Hr) (λ v'=>(hset' (.ho (.own e sz v' (l++mm).length ((l++mm).flatMap f)))).symm) λ v' w' M' hS hle=>?_
 refine HF (hn v') ⟨hS,CK ⟨?_,(hX.f.get hk1).sz,trivial⟩ λ x hx=>(hX.f x hx).mono hle,hX.le.trans hle⟩ U
 have h5:(HD (EG s'.H kk (.ho (.own e sz v' (l++mm).length ((l++mm).flatMap f))))++c.Hr)[j]? =some (.own e sz v' (l++mm).length ((l++mm).flatMap f)):=by
  rw[hset'];rw[List.getElem?_set_self (List.getElem?_eq_some_iff.1 hj).1];rfl
 exact hS.sl h5
theorem PJ{α:Type}[inh:Inhabited α](kk:Nat)(a b:Int){l:List α}{f:α->List Value}{t e:TypeId}{x:Operand}{lo hi:Option Operand}{v:Value}{kx sz:Nat}{E1:List Ck}{gd:Option (Nat×Bool)}{g1:Mem->Prop}{hg1: ∀M M',M.le M'->g1 M->g1 M'}
  (h:run c.T c.N k m s=⟨k',.ops all (⟨some d,.slice t x lo hi none,ty,ps,af,none⟩::rest),s',O,E⟩) (hE:AD E) (hO:O) (hx:BZ s'.L .t x=some (.sl kx v,E1)) (hE1:AD E1) (hk:KW s'.F kx=some (@Kn.mk α inh v sz l f g1 hg1))
  (hlo:match lo with|some y=> ∃kd,∃E,BZ s'.L .t y=some (.v (.int kd a),E)/\AD E|none=>a=0) (hhi:match hi with|some y=> ∃kd,∃E,BZ s'.L .t y=some (.v (.int kd b),E)/\AD E|none=>b=len l)
  (ht:c.P.underlying t=some (.slice e)) (hs: ∀w,(sizeOf e).run c.P w= .ok sz w) (hr:0<=a/\a<=b/\b<=len l) (hd:Nat.blt d c.N=true) (hlh:(lo.isSome||hi.isSome)=true)
  (hn: ∀v',XG c B k' (.ops all rest) ⟨(kk,kn v' sz (Eng.sub l a b) f)::s'.F,s'.H,(d,.t,.sl kk v')::s'.L⟩):XG c B k m s:=by
 refine H0 h hE hO λ w M hX=>?_
 have hK:=hX.f.get hk
 have hK1:Sl M sz l.length v (l.flatMap f):=hK.sl
 have hx':=AN hx hE1
 cases lo with
 |some y=>
  obtain⟨kd,E2,h2,hE2⟩:=hlo
  cases hi with
  |some z=>
   obtain⟨kd',E3,h3,hE3⟩:=hhi
   obtain⟨v',h4,h5⟩:=xG (P:=c.P) hK1 hK.sz ht hs a b hr
   exact RL.v .none (.xJ hx' (AN h2 hE2) (AN h3 hE3) h5) hd (HF (hn v') ⟨hX.st,CK ⟨h4,hK.sz,trivial⟩ hX.f,hX.le⟩ U)
  |none=>
   have hb:b=len l:=hhi
   subst hb
   obtain⟨v',h4,h5⟩:=xI (P:=c.P) hK1 hK.sz ht hs a (len l) hr
   exact RL.v .none (.xL hx' (AN h2 hE2) h5) hd (HF (hn v') ⟨hX.st,CK ⟨h4,hK.sz,trivial⟩ hX.f,hX.le⟩ U)
 |none=>
  have ha:a=0:=hlo
  subst ha
  cases hi with
  |some z=>
   obtain⟨kd',E3,h3,hE3⟩:=hhi
   obtain⟨v',h4,h5⟩:=xH (P:=c.P) hK1 hK.sz ht hs 0 b hr
   exact RL.v .none (.xK hx' (AN h3 hE3) h5) hd (HF (hn v') ⟨hX.st,CK ⟨h4,hK.sz,trivial⟩ hX.f,hX.le⟩ U)
  |none=>cases hlh
theorem PK{α:Type}[inh:Inhabited α](kk:Nat)(l:List α)(f:α->List Value)(sz:Nat)(e:TypeId){t:TypeId}{n:Nat}{xs:List (Nat×Operand)}{vs:List (Nat×XV)}{E1:List Ck}(hf: ∀x,(f x).length=sz)(h:run c.T c.N k m s=⟨k',.ops all (⟨some d,.buildSlice t n ⟨xs⟩,ty,ps,af,none⟩::rest),s',O,E⟩)(hE:AD E)(hO:O)
  (hx:RF s'.L xs=some (vs,E1)) (hE1:AD E1) (hr: ∀w,(Instr.buildSlice t n (vs.map λ x=>(x.1,x.2.d)).toArray).run c.P w= .ok (.slice (some ⟨w.heap.size,0,none⟩) n n) (w.alloc (.cells (l.flatMap f).toArray e))) (hd:(Nat.blt d c.N,Nat.beq l.length n,Nat.ble n 9223372036854775807)=(true,true,true))
  (hn: ∀v,XG c B k' (.ops all rest) ⟨s'.F,(kk,.pv e (@kn α inh v sz l f) hf)::s'.H,(d,.t,.sl kk v)::s'.L⟩):XG c B k m s:=by
 simp only[Prod.mk.injEq]at hd
 have hln:=Nat.eq_of_beq_eq_true hd.2.1
 subst hln
 refine H0 h hE hO λ w M hX=>?_
 have e1:(⟨xs⟩:Array (Nat×Operand))=xs.toArray:=rfl
 rw[e1]
 exact RL.wG (cs:=l.flatMap f) hX.st (aD hx hE1) (DQ f sz hf l) hd.2.2 hr hd.1 λ v w' hS=>HF (hn v) ⟨hS,hX.f,hX.le⟩ U
theorem xM{α:Type}[inh:Inhabited α](kk t:Nat)(e:TypeId)(sz:Nat)(f:α->List Value)(hf: ∀x,(f x).length=sz)(hl:BE s.L t=some (.t,.v (.slice none 0 0)))
  (hn:XG c B k m ⟨s.F,(kk,.pv e (@kn α inh (.slice none 0 0) sz [] f) hf)::s.H,(t,.t,.sl kk (.slice none 0 0))::s.L⟩):XG c B k m s:=by
 intro a w ⟨h1,M,h2⟩
 refine hn a w ⟨⟨h1.size,h1.DE,λ t' g v ht=>?_⟩,M,h2.st.iI e sz,h2.f,h2.le⟩
 have hl':=HC hl
 by_cases he:t=t'
 ·subst he
  have ht':look ((t,true,Value.slice none 0 0)::s.L.d) t=some (g,v):=ht
  rw[KL]at ht';cases ht'
  exact h1.val _ _ _ hl'
 ·have ht':look ((t,true,Value.slice none 0 0)::s.L.d) t'=some (g,v):=ht
  rw[HP he]at ht'
  exact h1.val _ _ _ ht'
theorem NC(by':Nat){α:Type}[inh:Inhabited α]{l mm:List α}{f:α->List Value}{t e:TypeId}{x y:Operand}{i:TypeInfo}{z v vx:Value}{kk kx sz:Nat}{E1:List Ck}{hf: ∀x,(f x).length=sz}{g2:Mem->Prop}{hg2: ∀M M',M.le M'->g2 M->g2 M'}
  (h:run c.T c.N k m s=⟨k',.ops all (⟨some d,.call ⟨.builtin .append,#[x,y],#[t,t]⟩,ty,ps,af,none⟩::rest),s',O,E⟩) (hE:AD E) (hO:O) (hx:KX s'.L .t x y=some (.sl kk v,.sl kx vx,E1)) (hE1:AD E1)
  (hk:(KW s'.F kx,GL s'.H kk)=(some (@Kn.mk α inh vx sz mm f g2 hg2),some (.pv e (@kn α inh v sz l f) hf)))
  (ht:c.P.underlying t=some (.slice e)) (hi:c.P.info? e=some i) (hz:i.zero=some z) (hs:(i.size,z.cells.size,i.bytes,Nat.blt 0 by',Nat.blt d c.N)=(sz,sz,by',true,true)) (h1: ∀x,∀u∈f x,u.oneCell'=true) (hb:(len l+len mm)*by'<=140737488355328)
  (hn: ∀v',XG c B k' (.ops all rest) ⟨s'.F,EG s'.H kk (.pv e (@kn α inh v' sz (l++mm) f) hf),(d,.t,.sl kk v')::s'.L⟩):XG c B k m s:=by
 simp only[Prod.mk.injEq]at hs hk
 refine H0 h hE hO λ w M hX=>?_
 obtain⟨j,hj,hset'⟩:=IH (Hr:=c.Hr) hk.2
 obtain⟨hx1,hx2⟩:=M6 hx hE1
 exact RL.wH (f:=f) (l:=l) (m:=mm) (by':=by') hX.st hj hx1 hx2 (hX.f.get hk.1).sl ht hi hz hs.1 hs.2.1 h1 hs.2.2.1 hs.2.2.2.1 hb hs.2.2.2.2 (Hs':=λ v'=>HD (EG s'.H kk (.pv e (@kn α inh v' sz (l++mm) f) hf))++c.Hr) (λ v'=>(hset' (.pv e (@kn α inh v' sz (l++mm) f) hf)).symm) λ v' w' hS=>HF (hn v') ⟨hS,hX.f,hX.le⟩ U
theorem J7{α:Type}[inh:Inhabited α](kk:Nat){e:TypeId}{v:Value}{sz:Nat}{l:List α}{f:α->List Value}{hl: ∀x,(f x).length=sz}{H':List (Nat×HX)}(hk:MD s.H kk=some (.pv e (@kn α inh v sz l f) hl,H'))(hn:XG c B k m ⟨(kk,@kn α inh v sz l f)::s.F,H',s.L⟩):XG c B k m s:=by
 intro a w ⟨h1,M,h2⟩
 have hS:=h2.st.perm (Hs':=HX.d (.pv e (@kn α inh v sz l f) hl)::(HD H'++c.Hr)) (by have:=(VY hk).append_right c.Hr;exact this)
 have hi:(HX.d (.pv e (@kn α inh v sz l f) hl)::(HD H'++c.Hr))[0]? =some (.priv e sz v l.length (l.flatMap f)):=rfl
 obtain⟨M',hS',hle⟩:=hS.show hi
 refine hn a w ⟨h1,M',hS'.erase 0 U,CK ⟨hS'.sl (i:=0) U,hl,trivial⟩ λ x hx=>(h2.f x hx).mono hle,h2.le.trans hle⟩
theorem RG{α:Type}[inh:Inhabited α](y':α){l:List α}{f:α->List Value}{t e:TypeId}{x y:Operand}{v:Value}{kk sz j n:Nat}{i:Int}{E1:List Ck}{u:XV}{hf: ∀x,(f x).length=sz}
  (h:run c.T c.N k m s=⟨k',.ops all (⟨none,.store t x y,ty,ps,af,none⟩::rest),s',O,E⟩) (hE:AD E) (hO:O) (hx:KX s'.L .t x y=some (.el kk v sz i j,u,E1)) (hE1:AD E1) (hk:GL s'.H kk=some (.pv e (@kn α inh v sz l f) hf))
  (ht: ∀w,(sizeOf t).run c.P w= .ok n w) (hu:u.d.cells.toList.length=n) (hc:(Nat.blt 0 n,Nat.ble (j+n) sz,u.d.cells.toList.all (·.oneCell'))=(true,true,true)) (hy:GH (f (at' l i)) j u.d.cells.toList=f y') (hr:0<=i/\i<len l)
  (hn: ∀l',l'=l.set i.toNat y'->XG c B k' (.ops all rest) ⟨s'.F,EG s'.H kk (.pv e (@kn α inh v sz l' f) hf),s'.L⟩):XG c B k m s:=by
 simp only[Prod.mk.injEq]at hc
 refine H0 h hE hO λ w M hX=>?_
 obtain⟨q,hq,hset'⟩:=IH (Hr:=c.Hr) hk
 obtain⟨hx1,hx2⟩:=M6 hx hE1
 obtain⟨hlt,_⟩:=EU l hr.1 hr.2
 have hjn:=Nat.le_of_ble_eq_true hc.2.1
 have hfit:i.toNat*sz+j+n<=(l.flatMap f).length:=by
  rw[DQ f sz hf]
  have:=Nat.mul_le_mul_right sz (show i.toNat+1<=l.length from hlt)
  rw[Nat.add_mul]at this;omega
 refine RL.wI (P:=c.P) (o:=i.toNat*sz+j) (xs':=(l.set i.toNat y').flatMap f) (Hs':=HD (EG s'.H kk (.pv e (@kn α inh v sz (l.set i.toNat y') f) hf))++c.Hr) hX.st hq (by have:=hx1;simp only[XV.d,XV.d1,XV.d0,Nat.add_assoc]at this ⊢;exact this) hx2 ht hu hc.1 hfit hc.2.2 (wJ hf l i.toNat y' j _ hlt hy (by rw[hu];exact hjn)) ?_ λ w' hS=>HF (hn _ U) ⟨hS,hX.f,hX.le⟩ U
 rw[hset']
 show(HD s'.H++c.Hr).set q (.priv e sz v l.length ((l.set i.toNat y').flatMap f))=(HD s'.H++c.Hr).set q (.priv e sz v (l.set i.toNat y').length ((l.set i.toNat y').flatMap f))
 rw[List.length_set]
def RH(J:XS->Prop):List Fr->Nat->Option (List Fr×Code×List Fr)
 |[],_=>none
 |x::k,0=>match x with
  | .seq y=>some (.loop J::k,y,k)
  |_=>none
 |x::k,n+1=>match RH J k n with
  |some (a,y,b)=>some (x::a,y,b)
  |none=>none
theorem aE{J:XS->Prop}: ∀ {k:List Fr} {n:Nat} {a b:List Fr} {y:Code},RH J k n=some (a,y,b)-> ∃p,k=p++ .seq y::b/\a=p++ .loop J::b
 |[],_,_,_,_,h=>by cases h
 |x::k,0,a,b,y',h=>by
  simp only[RH]at h
  split at h
  ·simp only[Option.some.injEq,Prod.mk.injEq]at h;obtain⟨rfl,rfl,rfl⟩:=h;exact⟨[],rfl,rfl⟩
  ·cases h
 |x::k,n+1,a,b,y',h=>by
  simp only[RH]at h
  split at h
  ·rename_i a2 y2 b2 h2
   simp only[Option.some.injEq,Prod.mk.injEq]at h;obtain⟨rfl,rfl,rfl⟩:=h
   obtain⟨p,h3,h4⟩:=aE h2
   exact⟨x::p,by rw[h3];rfl,by rw[h4];rfl⟩
  ·cases h
theorem RI{n n':Act->World->Prop}{Q Q':Exit->Act->World->Prop}(hn: ∀a w,n a w->n' a w)(hq: ∀e a w,Q e a w->Q' e a w)(e:Exit)(a:Act)(w:World)(h:Exit.then n Q e a w):Exit.then n' Q' e a w:=by
 cases e<;>first|exact hn _ _ h|exact hq _ _ _ h
theorem MF{K K':List Fr}(h: ∀e a w,post c B K e a w->post c B K' e a w): ∀(p:List Fr) (e:Exit) (a:Act) (w:World),post c B (p++K) e a w->post c B (p++K') e a w
 |[],e,a,w,q=>h e a w q
 | .seq y::p,e,a,w,q=>RI (λ _ _ h1=>c.W.mono h1 (MF h p)) (MF h p) e a w q
 | .block id::p,e,a,w,q=>by
  cases e with
  |exit id'=>
   show if id'=id then _ else _
   have q':if id'=id then _ else _:=q
   split<;>rename_i hid
   ·rw[if_pos hid]at q';exact MF h p _ a w q'
   ·rw[if_neg hid]at q';exact MF h p _ a w q'
  |_=>exact MF h p _ a w q
 | .scope::p,e,a,w,q=>by cases e<;>first|exact q.elim|exact MF h p _ a w q
 | .loop J::p,e,a,w,q=>RI (λ _ _ h1=>h1) (MF h p) e a w q
theorem ES(n:Nat)(J:XS->Prop){b:Bool}{x y z:Code}{k2 q:List Fr}(h:run c.T c.N k m s=⟨k',.br b x y,s',O,E⟩)(hE:AD E)(hO:O)(hk:RH J k' n=some (k2,z,q))
  (ht:b=true->XG c B k2 (.code x) s') (hf:b=false->XG c B k2 (.code y) s') (h2: ∀s',J s'->XG c B q (.code z) s'):XG c B k m s:=by
 obtain⟨p,rfl,rfl⟩:=aE hk
 have hm: ∀e a w,post c B (.loop J::q) e a w->post c B (.seq z::q) e a w:=λ e a w h=>RI (λ a w ⟨s',hJ,hs⟩=>h2 s' hJ a w hs) (λ _ _ _ h=>h) e a w h
 refine A7 h hE hO (λ hb a w hs=>?_) (λ hb a w hs=>?_)
 ·exact c.W.mono (ht hb a w hs) (MF hm p)
 ·exact c.W.mono (hf hb a w hs) (MF hm p)
theorem B5{J:XS->Prop}(s2:XS)(h:run c.T c.N k m s=⟨.loop J::k',.next,s',O,E⟩)(hE:AD E)(hO:O)(h0:(⟨KZ s2.F s'.F,L0 s2.H s'.H,GZ (keys s2.L) s'.L⟩:XS)=s2)(hJ:J s2):XG c B k m s:=
 CX h hE hO λ a w hs=>⟨s2,hJ,hs.sub (XS.RD h0)⟩
end
end Go.Eng
