/- Lemmas for the card. -/
import Derived.Test.YtnoegalemkbbbaaGreatDoorKp8
set_option linter.unusedVariables false
set_option linter.unusedSimpArgs false
set_option maxRecDepth 100000
set_option maxRecDepth 100000
namespace Go.Proofs.YtnoegalemkbbbaaGreatDoor
open Go.Proofs.Tryz
open Go.Eng
abbrev DK(r:Int):List Int:=Lib.encodeRuneZ r
abbrev IS(v:Value)(l:List Int):HO:=.own 5 1 v l.length (l.flatMap BY)
theorem AN7{w0 q:World}{M0 M:Mem}{Rs:List HO}(l:List Int)(r:Int)(v:Value)(hS:St w0 M0 q M (IS v l::Rs))(hl:len l<=70368744177664)(D:128<=r/\r<=1114111):
    Calls prog 275 [v,.int .i32 r].toArray q (BJ w0 M0 M Rs (λ u:Value=>u) (λ _=>True) (λ u=>[(0,kn u 1 (l++DK r) BY)]) λ u=>[IS u (l++DK r)]):=by
 have A:=A9 l
 refine AH (Hr:=Rs) (DR.AN4 5 AF) func275 U ntmps275 [(0,kn v 1 l BY)] [(0,.ho (IS v l))] [.sl 0 v,.v (.int .i32 r)] U hS (AG ⟨hS.sl (i:=0) U,G3,trivial⟩ A4) (λ B j=>?_) U
 refine A1 U (λ h1=>?_) (λ h1=>?_)<;>simp only[zb]at h1
 ·refine NH 64 U U U Ab <|NI (r/64) U U U underlying21 underlying5 (λ _=>by rw[IntKind.wrap_u8];omega) <|GY (192+r/64) U U U (λ _=>u8_or192 _ Aa Aa) <|NI (r%256) U U U underlying21 underlying5 (λ _=>IntKind.wrap_u8 _) <|GY (r%64) U U U (λ _=>by rw[u8_and63 _ Aa Aa];omega) <|GY (128+r%64) U U U (λ _=>u8_or128 _ Aa Aa) ?_
  rw[show DK r=[192+r/64,128+r%64]from Lib.encodeRuneZ_two Aa Aa]at j
  exact BF 1 [192+r/64,128+r%64] BY 1 5 G3 U U Ah U λ v1=>F5 1 U U U underlying216 type5 U U R3 (by simp only[AM,len_nil];omega) λ v'=>A2 j U U U λ w M' e=>⟨v',M',rfl,trivial,e.le,e.B9 [0] U,AG (e.f.get (k:=0) U) A4⟩
 ·refine CP 0 (λ st=> ∃b:Bool,(b=true↔r<55296\/57343<r/\r<=65535)/\st=⟨[(0,kn v 1 l BY)],[(0,.ho (IS v l))],[Z 0 (.sl 0 v),Z 1 (.v (.int .i32 r)),Z 5 (.v (.int .u32 r)),Z 25 (.v (.bool b))]⟩) U U (λ s=>?_) (λ s=>?_) ?_<;>try simp only[zb]at s
  ·exact AW _ U U ⟨_,by simp only[zb];omega,rfl⟩
  ·exact AW _ U U ⟨_,by simp only[zb];omega,rfl⟩
  rintro _ ⟨b,y,rfl⟩
  refine A1 U (λ n=>?_) (λ n=>?_)
  ·have C:=y.1 n
   refine NH 4096 U U U Ab <|NI (r/4096) U U U underlying21 underlying5 (λ _=>by rw[IntKind.wrap_u8];omega) <|GY (224+r/4096) U U U (λ _=>u8_or224 _ Aa Aa) <|NH 64 U U U Ab <|NI (r/64%256) U U U underlying21 underlying5 (λ _=>IntKind.wrap_u8 _) <|GY (r/64%64) U U U (λ _=>by rw[u8_and63 _ Aa Aa];omega) <|GY (128+r/64%64) U U U (λ _=>u8_or128 _ Aa Aa) <|NI (r%256) U U U underlying21 underlying5 (λ _=>IntKind.wrap_u8 _) <|GY (r%64) U U U (λ _=>by rw[u8_and63 _ Aa Aa];omega) <|GY (128+r%64) U U U (λ _=>u8_or128 _ Aa Aa) ?_
   rw[show DK r=[224+r/4096,128+r/64%64,128+r%64]from Lib.encodeRuneZ_three Aa]at j
   exact BF 1 [224+r/4096,128+r/64%64,128+r%64] BY 1 5 G3 U U Ah U λ v1=>F5 1 U U U underlying216 type5 U U R3 (by simp only[AM,len_nil];omega) λ v'=>A2 j U U U λ w M' e=>⟨v',M',rfl,trivial,e.le,e.B9 [0] U,AG (e.f.get (k:=0) U) A4⟩
  ·have C: ¬(r<55296\/57343<r/\r<=65535):=λ h=>by rw[y.2 h]at n;cases n
   refine A1 U (λ z=>?_) (λ z=>?_)<;>simp only[zb]at z
   ·refine NH 262144 U U U Ab <|NI (r/262144) U U U underlying21 underlying5 (λ _=>by rw[IntKind.wrap_u8];omega) <|GY (240+r/262144) U U U (λ _=>u8_or240 _ Aa Aa) <|NH 4096 U U U Ab <|NI (r/4096%256) U U U underlying21 underlying5 (λ _=>IntKind.wrap_u8 _) <|GY (r/4096%64) U U U (λ _=>by rw[u8_and63 _ Aa Aa];omega) <|GY (128+r/4096%64) U U U (λ _=>u8_or128 _ Aa Aa) <|NH 64 U U U Ab <|NI (r/64%256) U U U underlying21 underlying5 (λ _=>IntKind.wrap_u8 _) <|GY (r/64%64) U U U (λ _=>by rw[u8_and63 _ Aa Aa];omega) <|GY (128+r/64%64) U U U (λ _=>u8_or128 _ Aa Aa) <|NI (r%256) U U U underlying21 underlying5 (λ _=>IntKind.wrap_u8 _) <|GY (r%64) U U U (λ _=>by rw[u8_and63 _ Aa Aa];omega) <|GY (128+r%64) U U U (λ _=>u8_or128 _ Aa Aa) ?_
    rw[show DK r=[240+r/262144,128+r/4096%64,128+r/64%64,128+r%64]from Lib.encodeRuneZ_four Aa Aa]at j
    exact BF 1 [240+r/262144,128+r/4096%64,128+r/64%64,128+r%64] BY 1 5 G3 U U Ah U λ v1=>F5 1 U U U underlying216 type5 U U R3 (by simp only[AM,len_nil];omega) λ v'=>A2 j U U U λ w M' e=>⟨v',M',rfl,trivial,e.le,e.B9 [0] U,AG (e.f.get (k:=0) U) A4⟩
   ·rw[show DK r=[239,191,189]from Lib.encodeRuneZ_bad Aa]at j
    exact BF 1 [239,191,189] BY 1 5 G3 U U Ah U λ v1=>F5 1 U U U underlying216 type5 U U R3 (by simp only[AM,len_nil];omega) λ v'=>A2 j U U U λ w M' e=>⟨v',M',rfl,trivial,e.le,e.B9 [0] U,AG (e.f.get (k:=0) U) A4⟩
theorem AN8{w0 h:World}{M0 M:Mem}{Rs:List HO}(l:List Int)(r:Int)(v:Value)(hS:St w0 M0 h M (IS v l::Rs))(hl:len l<=70368744177664)(n:0<=r/\r<=1114111):
   Calls prog 252 [v,.int .i32 r].toArray h (BJ w0 M0 M Rs (λ u:Value=>u) (λ _=>True) (λ u=>[(0,kn u 1 (l++DK r) BY)]) λ u=>[IS u (l++DK r)]):=by
 have j:=A9 l
 refine AH (Hr:=Rs) AF func252 U ntmps252 [(0,kn v 1 l BY)] [(0,.ho (IS v l))] [.sl 0 v,.v (.int .i32 r)] U hS (AG ⟨hS.sl (i:=0) U,G3,trivial⟩ A4) (λ B e=>?_) U
 refine A1 U (λ h1=>?_) (λ h1=>?_)<;>simp only[zb]at h1
 ·rw[show DK r=[r]from Lib.encodeRuneZ_one Aa Aa]at e
  exact BF 1 [r] BY 1 5 G3 U U Ah U λ v1=>F5 1 U U U underlying216 type5 U U R3 (by simp only[AM,len_nil];omega) λ v'=>A2 e U U U λ w M' b=>⟨v',M',rfl,trivial,b.le,b.B9 [0] U,AG (b.f.get (k:=0) U) A4⟩
 ·exact AS [0] (λ u:Value=>.sl 0 u) [0] (λ u=>[(0,.ho (IS u (l++DK r)))]) U U call275 U U (λ w M hS hF=>AN7 l r v hS hl Aa) λ u _=>A2 e U U U λ w M' b=>⟨u,M',rfl,trivial,b.le,b.B9 [0] U,AG (b.f.get (k:=0) U) A4⟩
abbrev EK(b:Nat):Value:=.pointer (some ⟨b,0,none⟩)
abbrev VA(b:Nat)(a u:Value)(l:List Int):List HO:=[.box b [a,u] 244,IS u l]
abbrev MH(b:Nat)(a u:Value)(l:List Int):List (Nat×HX):=[(1,.box b [.v a,.sl 2 u] 244),(2,.ho (IS u l))]
abbrev eT(w0:World)(M0 M:Mem)(Rs:List HO)(b:Nat)(l:List Int)(u:Value):Ending->World->Prop:=BJ w0 M0 M Rs (λ _:Value=>u) (λ _=>True) (λ _=>[]) λ v=>VA b (EK b) v l
theorem AN9{w:World}{b:Nat}{a v x:Value}{t:TypeId}(h:w.heap[b]? =some (.cells #[a,v] t (0,0))):w.setCell ⟨b,0,none⟩ x=w.setRow b #[x,v]:=by
 unfold World.setCell World.setRow
 congr 1
 apply Array.ext_getElem?
 intro i
 by_cases hi:b=i
 ·subst hi;simp[Array.getElem?_modify,h]
 ·simp[Array.getElem?_modify,hi]
theorem eU{w0 k:World}{M0 M:Mem}{Rs:List HO}(b:Nat)(a v:Value)(hS:St w0 M0 k M (.box b [a,v] tB::Rs))(l:a= .pointer none\/a=EK b):
  Calls prog 251 [EK b].toArray k (BJ w0 M0 M Rs (λ u:Value=>u) (λ _=>True) (λ _=>[]) λ _=>[.box b [EK b,v] tB]):=by
 have j:=(hS.obj (i:=0) U).2.1
 rcases l with rfl|rfl
 ·refine(AN6 b k (by simp[World.cell?,j]) (by simp[World.shape?,j]) (by simp[World.frozen?,j])).mono λ e w' ⟨he,hw⟩=>⟨_,M,he,trivial,λ _ _ _ h=>h,?_,A4⟩
  rw[hw,AN9 j]
  exact hS.jD (i:=0) U [EK b,v]
 ·exact(AN5 b k (by simp[World.cell?,j])).mono λ e w' ⟨he,hw⟩=>⟨_,M,he,trivial,λ _ _ _ h=>h,hw▸hS,A4⟩
theorem YI{w0 e:World}{M0 M:Mem}{Rs:List HO}(b:Nat)(a u:Value)(l:List Int)(x:Int)(hS:St w0 M0 e M (VA b a u l++Rs))(j:a= .pointer none\/a=EK b)(hl:len l<=35184372088832):
  Calls prog 229 [EK b,.int .u8 x].toArray e (eT w0 M0 M Rs b (l++[x]) .nilIface):=AH (Hr:=Rs) AF func229 U ntmps229 [(2,kn u 1 l BY)] (MH b a u l) [.bx 1 b 0,.v (.int .u8 x)] U hS (AG ⟨hS.sl (i:=1) U,G3,trivial⟩ A4) (λ B k=>AS [1] (λ u:Value=>.v u) [] (λ _=>[(1,.box b [.v (EK b),.sl 2 u] tB)]) U U call251 U U (λ w M hS hF=>eU b a u hS j) λ _ _=>BF 3 [x] BY 1 5 G3 U U Ah U λ v3=>F5 1 U U U underlying216 type5 U U R3 (by simp only[AM,len_nil];omega) λ v'=>A2 k U U U λ w M' h=>⟨v',M',rfl,trivial,h.le,h.B9 [1,2] U,A4⟩) U
theorem oE{w0 e:World}{M0 M:Mem}{Rs:List HO}(b:Nat)(a u:Value)(l:List Int)(x:A0)(hS:St w0 M0 e M (VA b a u l++Rs))(j:a= .pointer none\/a=EK b)(hl:len l<=35184372088832)(hx:len x<=35184372088832):
  Calls prog 230 [EK b,str x].toArray e (eT w0 M0 M Rs b (l++ints x) (.tuple #[i64 (len x),.nilIface])):=AH (Hr:=Rs) AF func230 U ntmps230 [(2,kn u 1 l BY)] (MH b a u l) [.bx 1 b 0,.v (str x)] U hS (AG ⟨hS.sl (i:=1) U,G3,trivial⟩ A4) (λ B k=>AS [1] (λ u:Value=>.v u) [] (λ _=>[(1,.box b [.v (EK b),.sl 2 u] tB)]) U U call251 U U (λ w M hS hF=>eU b a u hS j) λ _ _=>AN2 U U U underlying216 underlying9 type5 U U Aa λ v'=>A2 k U U U λ w M' h=>⟨v',M',rfl,trivial,h.le,h.B9 [1,2] U,A4⟩) U
theorem eV(r:Int):1<=len (DK r)/\len (DK r)<=4:=by have:=Lib.encodeRuneZ_length r;unfold len DK;omega
theorem oF{w0 e:World}{M0 M:Mem}{Rs:List HO}(b:Nat)(a u:Value)(l:List Int)(r:Int)(hS:St w0 M0 e M (VA b a u l++Rs))(j:a= .pointer none\/a=EK b)(hl:len l<=35184372088832)(k:0<=r/\r<=1114111):
  Calls prog 227 [EK b,.int .i32 r].toArray e (eT w0 M0 M Rs b (l++DK r) (.tuple #[i64 (len (DK r)),.nilIface])):=by
 have s:=eV r
 have n:=A9 l
 exact AH (Hr:=Rs) AF func227 U ntmps227 [(2,kn u 1 l BY)] (MH b a u l) [.bx 1 b 0,.v (.int .i32 r)] U hS (AG ⟨hS.sl (i:=1) U,G3,trivial⟩ A4) (λ B q=>AS [1] (λ u:Value=>.v u) [] (λ _=>[(1,.box b [.v (EK b),.sl 2 u] tB)]) U U call251 U U (λ w M hS hF=>eU b a u hS j) λ _ _=>AS [2] (λ v:Value=>.sl 2 v) [2] (λ v=>[(2,.ho (IS v (l++DK r)))]) U U call252 U U (λ w M hS hF=>AN8 l r u hS Aa k) λ v _=>A2 q U U U (λ w M' h=>⟨v,M',by rw[AQ,show len l+len (DK r)-len l=len (DK r)from by omega];rfl,trivial,h.le,h.B9 [1,2] U,A4⟩) (hO:=by simp only[AQ];and_intros<;>first|omega|trivial)) U
def GL(c:Int):Int:=((c.toNat|||32:Nat):Int)
theorem AO0{c:Int}(h0:0<=c)(h1:c<=255):bits .or .u8 c 32=GL c:=u8_or c 32 h0 Aa Ab Ab
def oG(c:Int):Bool:=
 decide (GL c<=255)&&(decide (48<=c/\c<=57)||(if 97<=GL c/\GL c<=122 then(if GL c<=102 then decide (GK c=GL c-87)else decide (GK c= -1))else decide (GK c= -1)))
theorem AO1:(List.range 256).all (λ n=>oG (n:Int))=true:=by decide+kernel
theorem AO2{c:Int}(h0:0<=c)(h1:c<=255):(0<=GL c/\GL c<=255)/\(97<=GL c->GL c<=122-> ¬(48<=c/\c<=57)->(GL c<=102->GK c=GL c-87)/\(102<GL c->GK c= -1))/\
  (¬(97<=GL c/\GL c<=122)-> ¬(48<=c/\c<=57)->GK c= -1):=by
 have h:=List.all_eq_true.1 AO1 c.toNat (List.mem_range.2 Aa)
 rw[show((c.toNat:Nat):Int)=c from by omega]at h
 have k:0<=GL c:=by unfold GL;omega
 unfold oG at h
 simp only[Bool.and_eq_true,Bool.or_eq_true,decide_eq_true_eq]at h
 generalize GL c=y at*
 generalize GK c=z at*
 refine⟨⟨k,h.1⟩,λ e l i=>?_,λ e i=>?_⟩
 ·rcases h.2 with b|b
  ·exact absurd b i
  ·rw[if_pos ⟨e,l⟩]at b
   constructor
   ·intro j;rw[if_pos j]at b;simpa using b
   ·intro j;rw[if_neg Aa]at b;simpa using b
 ·rcases h.2 with b|b
  ·exact absurd b i
  ·rw[if_neg e]at b;simpa using b
theorem AO3{c:Int}(h:48<=c/\c<=57):GK c=c-48:=by unfold GK;rw[if_pos h]
theorem ints_at{s:A0}{k:Int}(h0:0<=k)(h1:k<len s):at' (ints s) k=A3 s k:=by
 have h:k.toNat<s.length:=by unfold len at h1;omega
 simp[at',ints,A3,h]
abbrev QA:A0:=[48,49,50,51,52,53,54,55,56,57,97,98,99,100,101,102,103,104,105,106,107,108,109,110,111,112,113,114,115,116,117,118,119,120,121,122]
theorem AO4: ∀n:Nat,n<16->A3 QA (n:Int)=OF (n:Int):=by decide+kernel
theorem oH{n:Int}(h0:0<=n)(h1:n<16):A3 QA n=OF n:=by
 have:=AO4 n.toNat Aa
 rwa [show((n.toNat:Nat):Int)=n from by omega]at this
theorem oI(x:Int)(h0:0<=x)(h1:x<18446744073709551616):bits .and .u64 x 15=x%16:=by
 rw[u64_and x 15 h0 h1 Ab Ab]
 have h:x.toNat&&& 15=x.toNat%16:=Nat.and_two_pow_sub_one_eq_mod x.toNat 4
 show((x.toNat&&& (15:Nat):Nat):Int)=_
 rw[h];omega
theorem AO5{l:A0}{k:Int}(hl:len l=4)(h0:0<=k)(h1:k<4)(h:EI (Eng.sub l 0 k)=true):0<=F8 (Eng.sub l 0 k)/\F8 (Eng.sub l 0 k)<=4095:=
 AL7 h (by rw[FG Aa Aa Aa];omega)
open Go.Eng Go.RowKit
theorem oJ{P:Program}{f:FuncId}{args:Array Value}{w:World}{u:Value}(h:Calls P f args w λ e w'=>e= .returned u/\w'=w):Calls P f args w λ e w'=>e= .returned u/\Ext w w':=h.mono λ e w' ⟨h1,b⟩=>⟨h1,by rw[b];exact .refl _⟩
theorem oK{w0 e:World}{M0 M:Mem}{Rs:List HO}(hS:St w0 M0 e M Rs):
  Calls prog 249 [].toArray e (BJ w0 M0 M Rs (λ b:Nat=>.map (some b)) (λ _=>True) (λ _=>[]) λ b=>[.raw b (BS .u8 C9 8)]):=AH (Hr:=Rs) AF func249 U ntmps249 [] [] [] U hS A4 (λ B i=>oC 1 .u8 U λ b=>NG true 1 1 (C9.take 1) U U U U U underlying271 underlying5 U U <|NG true 1 2 (C9.take 2) U U U U U underlying271 underlying5 U U <|NG true 1 3 (C9.take 3) U U U U U underlying271 underlying5 U U <|NG true 1 4 (C9.take 4) U U U U U underlying271 underlying5 U U <|NG true 1 5 (C9.take 5) U U U U U underlying271 underlying5 U U <|NG true 1 6 (C9.take 6) U U U U U underlying271 underlying5 U U <|NG true 1 7 (C9.take 7) U U U U U underlying271 underlying5 U U <|NG true 1 8 (C9.take 8) U U U U U underlying271 underlying5 U U <|A2 i U U U λ w M' h=>⟨b,M',rfl,trivial,h.le,h.B9 [1] U,A4⟩) U
theorem AO6{w0 k:World}{M0 M:Mem}{Rs:List HO}(hS:St w0 M0 k M Rs):
    Calls prog 228 [].toArray k (BJ w0 M0 M Rs (λ g:Nat×List KV×Nat=>.map (some g.1)) (λ g=> ∀r,(C7 g.2.1 r).getD (.int .u8 0)= .int .u8 (KD r)/\(C7 g.2.1 r).isSome=KC r) (λ _=>[]) λ g=>[.raw g.1 (BS .i32 g.2.1 g.2.2)]):=by
 refine AH (Hr:=Rs) AF func228 U ntmps228 [] [] [] U hS A4 (λ B z=>oC 1 .i32 U λ b=>AS [] (λ b:Nat=>.v (.map (some b))) [] (λ b=>[(5,.ho (.raw b (BS .u8 C9 8)))]) U U call249 U U (λ w M hS hF=>oK hS) λ n _=>AM9 5 6 U U U underlying271 λ r=>?_) U
 refine B5 (σ:=Array Nat×Nat×List KV×Nat) (λ(h,c0,l,cl)=>⟨[],[(1,.ho (.raw b (BS .i32 l cl))),(5,.ho (.raw n (BS .u8 C9 8))),(6,.ho (.raw r (.mapIter (some n) 8 h c0)))],[Z 1 (.v (.map (some b))),Z 6 (.v (.pointer (some ⟨r,0,none⟩)))]⟩)
   (λ(h,c0,l,_)=>8<=c0/\Lets h l) (λ(h,_)=>(C9.filter (λ q=> !h.contains q.born)).length) (#[],8,[],0) U U ⟨Nat.le_refl _,AF2⟩ ?_
 rintro⟨h,c0,l,cl⟩ ⟨A,s⟩
 refine AN0 5 6 U U U U AE1 A (λ p hp i=>?_) (λ j=>?_)
 ·exact A1 rfl (λ e=>AN1 5 6 p (.int .i32 (F7 p)) U U U U U hp mJ (AE0 p hp) <|NG false 1 _ _ U U U U U underlying249 underlying21 U U <|AX (h.push p.born,8,LU l cl (F7 p) (.int .u8 p.key),PH l cl (F7 p) (.int .u8 p.key)) U U ⟨Nat.le_refl _,s.step hp i⟩ (AE8 hp i)) (λ e=>by cases e)
 exact A1 rfl (λ e=>by cases e) (λ _=>AM8 1 (I8 l 47) U U U U underlying249 underlying21 U <|A2 z U U U λ w M' y=>⟨(b,I8 l 47,cl),M',rfl,AE7 s j,y.le,y.B9 [1] U,A4⟩)
theorem AO7(w:World):Calls prog 298 [i64 16].toArray w λ e w'=>e= .returned (.bool true)/\Ext w w':=AH AF func298 U ntmps298 [] [] [I 16] U (BD w) A4 (λ B b=>GY 0 U U U (λ _=>by decide) <|A2 b U U U λ w M h=>⟨rfl,h.st.low⟩) U
theorem AO8(w:World)(hg:Gl w):Calls prog 324 [.int .u64 16].toArray w λ e w'=>e= .returned (i64 4)/\Ext w w':=AH AF func324 U ntmps324 [] [] [.sl 9 (.int .u64 16)] U (BD w) A4 (λ B h=>AU (.v (.bool false)) U U (λ w M b=>.eql (A8 (v:=.sl 9 (.int .u64 16)) (E:=[]) U) (A8 (v:=.v (.int .u64 0)) (E:=[]) U)) <|A1 rfl (λ i=>by cases i) (λ _=>AU (.v (.int .u64 18446744073709551600)) U U (λ w M b=>.j9 (A8 (v:=.sl 9 (.int .u64 16)) (E:=[]) U) (λ _=>by decide)) <|AU (.v (.int .u64 16)) U U (λ w M b=>.eO (A8 (v:=.sl 9 (.int .u64 16)) (E:=[]) U) (A8 (v:=.v (.int .u64 18446744073709551600)) (E:=[]) U) (λ _=>by decide)) <|NH 288230376151711744 U U U Ab <|AU (.v (.pointer (some ⟨7,15,none⟩))) U U (λ w M b=>PV.k6 15 (A8 (v:=.v (.pointer (some ⟨7,0,none⟩))) (E:=[]) U) (A8 (v:=.v (.int .u64 (16*285870213051353865/288230376151711744))) (E:=[]) U) underlying342 sizeOf5 (λ _=>rfl) U) <|AU (.v (.int .u8 4)) U U (λ w M b=>.WE (A8 (v:=.v (.pointer (some ⟨7,15,none⟩))) (E:=[]) U) isAgg5 (λ _ w0 h0=>h0▸(hg.low b.st.low).deb)) <|A2 h U U U λ w M b=>⟨rfl,b.st.low⟩)) U
theorem AO9(w:World)(hg:Gl w):Calls prog 299 [.int .u64 16].toArray w λ e w'=>e= .returned (i64 4)/\Ext w w':=AH AF func299 U ntmps299 [] [] [.v (.int .u64 16)] U (BD w) A4 (λ B h=>A1 rfl (λ i=>by cases i) (λ _=>AJ U call324 U U (λ _ w M b=>AO8 w (hg.low b.st.low)) U <|A2 h U U U λ w M b=>⟨rfl,b.st.low⟩)) U
def OP(r:Int):A0:=[49,(OF (r/16)).toNat.toUInt8,(OF (r%16)).toNat.toUInt8]
theorem AP0(r:Int)(q:Bool)(w:World)(hg:Gl w)(h:0<=r/\r<32)(y:q=false):Calls prog 279 [.slice none 0 0,.int .u64 (r+256),i64 16,.bool q,.bool false].toArray w λ e w'=>e= .returned (.tuple #[.slice none 0 0,str (OP r)])/\Ext w w':=by
 subst y
 refine AH AF func279 U ntmps279 [] [] [.v (.slice none 0 0),.v (.int .u64 (r+256)),I 16,.v (.bool false),.v (.bool false)] U (BD w) A4 (λ B z=>?_) U
 have hd:=oH (n:=(r+256)%16) Aa Aa
 have l:=oH (n:=(r+256)/16%16) Aa Aa
 refine A1 U (λ j=>absurd j Ab) (λ _=>BA 12 U zeroValue304 U λ b=>A1 rfl (λ j=>by cases j) (λ _=>AJ U call298 U U (λ _ w M k=>AO7 w) U <|A1 rfl (λ _=>AJ U call299 U U (λ _ w M k=>AO9 w (hg.low k.st.low)) U ?_) (λ j=>by cases j)))
 let c0:XV:=.v (.int .u8 (A3 QA ((r+256)%16)))
 let s:XV:=.v (.int .u8 (A3 QA ((r+256)/16%16)))
 refine B5 (σ:=List XV×Int×Int) (λ(cs,u,p)=>⟨[],[(12,.box b cs 304)],[Z 1 (.v (.int .u64 u)),Z 3 (.v (.bool false)),Z 4 (.v (.bool false)),Z 10 (.v (.slice none 0 0)),Z 12 (.bx 12 b 0),Z 13 (I p),Z 14 (.v (.int .u64 4)),Z 15 (.v (.int .u64 16)),Z 16 (.v (.int .u64 15))]⟩)
   (λ g=>g=(List.replicate 65 (.v (.int .u8 0)),r+256,65)\/g=(List.replicate 64 (.v (.int .u8 0))++[c0],(r+256)/16,65-1)\/g=(List.replicate 63 (.v (.int .u8 0))++[s,c0],(r+256)/16/16,65-1-1)) (λ g=>g.2.2.toNat) (List.replicate 65 (.v (.int .u8 0)),r+256,65) U U (.inl U) ?_
 rintro _ (rfl|rfl|rfl)
 ·refine A1 U (λ _=>GY ((r+256)%16) U U U (λ _=>oI _ Aa Aa) <|eP 64 U U U underlying304 sizeOf5 U (λ _=>rfl) ?_ (hO:=⟨⟨Aa,by show _<(36:Int);omega⟩,Ab⟩)) (λ j=>by simp only[zb]at j;omega)
  exact NH 16 U U U Ab <|AX (List.replicate 64 (.v (.int .u8 0))++[c0],(r+256)/16,65-1) U U (.inr (.inl U)) (by exact(by decide:(64:Int).toNat<(65:Int).toNat))
 ·refine A1 U (λ _=>GY (((r+256)/16)%16) U U U (λ _=>oI _ Aa Aa) <|eP 63 U U U underlying304 sizeOf5 U (λ _=>rfl) ?_ (hO:=⟨⟨Aa,by show _<(36:Int);omega⟩,Ab⟩)) (λ j=>by simp only[zb]at j;omega)
  exact NH 16 U U U Ab <|AX (List.replicate 63 (.v (.int .u8 0))++[s,c0],(r+256)/16/16,65-1-1) U U (.inr (.inr U)) (by exact(by decide:(63:Int).toNat<(64:Int).toNat))
 refine A1 U (λ j=>by simp only[zb]at j;omega) (λ _=>eP 62 U U U underlying304 sizeOf5 U (λ _=>rfl) ?_ (hO:=⟨⟨Aa,by show _<(36:Int);omega⟩,Ab⟩))
 refine A1 rfl (λ j=>by cases j) (λ _=>A1 rfl (λ j=>by cases j) (λ _=>AU (.v (.slice (some ⟨b,62,none⟩) 3 3)) U U (λ w M k=>PV.z8 62 3 (A8 (v:=.bx 12 b 0) (E:=[]) U) (A8 (v:=I (65-1-1-1)) (E:=[]) U) underlying304 sizeOf5 (λ _=>rfl) U U) <|AU (.v (str (toStr [A3 QA ((r+256)/16/16),A3 QA ((r+256)/16%16),A3 QA ((r+256)%16)]))) U U (λ w M k=>PV.zA k.st H8 (i:=0) U (A8 (v:=.v (.slice (some ⟨b,62,none⟩) 3 3)) (E:=[]) U) U U underlying216 underlying5 underlying9) <|A2 z U U U λ w M k=>⟨?_,k.st.low⟩))
 rw[hd,l,show(r+256)/16/16=1 from by omega,show(r+256)%16=r%16 from by omega,show(r+256)/16%16=r/16 from by omega];rfl
theorem AP1(r:Int)(w:World)(hg:Gl w)(h:0<=r/\r<32):Calls prog 253 [i64 (r+256),i64 16].toArray w λ e w'=>e= .returned (str (OP r))/\Ext w w':=AH AF func253 U ntmps253 [] [] [I (r+256),I 16] U (BD w) A4 (λ B i=>A1 rfl (λ j=>by cases j) (λ _=>AJ U call279 U U (λ _ w M b=>AP0 r _ w (hg.low b.st.low) h (by simp;omega)) U <|A2 i U U U λ w M b=>⟨rfl,b.st.low⟩)) U
theorem AP2(r:Int)(w:World)(hg:Gl w)(h:0<=r/\r<32):Calls prog 231 [i64 (r+256),i64 16].toArray w λ e w'=>e= .returned (str (OP r))/\Ext w w':=AH AF func231 U ntmps231 [] [] [I (r+256),I 16] U (BD w) A4 (λ B i=>AJ U call253 U U (λ _ w M b=>AP1 r w (hg.low b.st.low) h) U <|A2 i U U U λ w M b=>⟨rfl,b.st.low⟩) U
theorem oL{w0 j:World}{M0 M:Mem}{Rs:List HO}(b:Nat)(a v:Value)(bs:A0)(l:List Int)(hS:St w0 M0 j M (VA b a v l++Rs))(w:a= .pointer none\/a=EK b)(hl:l=ints bs):
  Calls prog 225 [EK b].toArray j λ e w'=>e= .returned (str bs)/\Ext w0 w':=by
 subst hl
 have n:=hS.obj (i:=0) U
 have ho:=(hS.obj (i:=1) U).1
 have k:v.ownBlock≠some b:=by
  have:=hS.apart
  rw[List.cons_append,List.pairwise_cons]at this
  exact this.1 (HO.own 5 1 v (ints bs).length ((ints bs).flatMap BY)) (by simp) b U
 have q:(ints bs).flatMap BY=Lib.byteCells bs:=by rw[TZ];unfold ints;rw[List.map_map];rfl
 have e2:(ints bs).length=(Lib.byteCells bs).length:=by rw[<-q,DC BY 1 G3,Nat.mul_one]
 rw[q,e2]at ho
 have s: ∀a',a=a'->Lib.BuilderAt tB 5 w0.heap.size b a' (Lib.byteCells bs) j:=λ a' h=>⟨n.1,v,h▸n.2.1,ho,k⟩
 refine(Tryz.Builder_String_any w0.heap.size b bs j ?_ hS.size).mono λ e w' ⟨he,hw⟩=>⟨he,hS.low.trans hw⟩
 rcases w with h|h
 ·exact .inl (s _ h)
 ·exact .inr (s _ h)
theorem AP3(s:A0)(w:World)(hg:Gl w)(q:len s<=1099511627776):Calls prog 196 [str s].toArray w λ e w'=>e= .returned (str (E5 s))/\Ext w w':=by
 have F:=A9 s
 refine AH AF func196 U ntmps196 [] [] [.v (str s)] U (BD w) A4 (λ B G=>BA 1 U zeroValue244 U λ b=>AS [] (λ g:Nat×List KV×Nat=>.v (.map (some g.1))) [] (λ g=>[(4,.ho (.raw g.1 (BS .i32 g.2.1 g.2.2)))]) U U call228 U U (λ w M hS hF=>AO6 hS) λ g k=>?_) U
 obtain⟨E,H,J⟩:=g
 refine XI 2 5 1 BY G3 <|AS [1,2] (λ _:Value=>.v .nilIface) [] (λ v=>MH b (EK b) v (([]:List Int)++[34])) U U call229 U U (λ w M hS hF=>YI b _ _ (([]:List Int)) (34) hS (.inl U) (by first|omega|(simp only[AQ,AM,len_nil];omega))) λ K _=>AM6 12 U U underlying9 λ r=>?_
 refine B5 (σ:=Int×Value×List Int) (λ(p,u,l)=>⟨[],[(1,.box b [.v (EK b),.sl 2 u] tB),(2,.ho (IS u l)),(4,.ho (.raw E (BS .i32 H J))),(12,.ho (.raw r (.stringIter ⟨⟨s⟩⟩ p.toNat)))],[Z 3 (.bx 1 b 0),Z 4 (.v (.map (some E))),Z 12 (.v (.pointer (some ⟨r,0,none⟩)))]⟩)
   (λ(p,u,l)=>0<=p/\p<=len s/\l++ints (GX s p)=ints (34::GX s 0)/\len l<=6*p+1) (λ(p,_)=>(len s-p).toNat) (0,K,[34]) U U ⟨Aa,Aa,rfl,Ab⟩ ?_
 rintro⟨p,u,l⟩ ⟨h0,h1,hF,hlen⟩
 have L:=UY s p h0
 have h:=dP s p
 have N:=A9 l
 have O:=eV (B2 s p)
 refine AM7 12 U U U h0 (λ A=>?_) (λ C=>?_)
 ·have i:=dN h0 A
  refine A1 rfl (λ _=>oD 4 (.int .u8 (KD (B2 s p))) (KC (B2 s p)) U U U U U underlying249 underlying21 zeroValue5 (k _) <|A1 U (λ y=>?_) (λ y=>?_)) (λ q=>by cases q)
  ·exact AS [1,2] (λ _:Value=>.v .nilIface) [] (λ v=>MH b (EK b) v (l++[92])) U U call229 U U (λ w M hS hF=>YI b _ u (l) (92) hS (.inr U) (by first|omega|(simp only[AQ,AM,len_nil];omega))) λ j _=>AS [1,2] (λ _:Value=>.v .nilIface) [] (λ v=>MH b (EK b) v ((l++[92])++[KD (B2 s p)])) U U call229 U U (λ w M hS hF=>YI b _ j ((l++[92])) (KD (B2 s p)) hS (.inr U) (by first|omega|(simp only[AQ,AM,len_nil];omega))) λ D _=>AX (p+runeLen s p,D,l++[92]++[KD (B2 s p)]) U U ⟨Aa,Aa,by rw[<-hF,i,U1,AF4 y];simp[List.append_assoc],by simp only[AQ,AM,len_nil];omega⟩ Ag
  refine A1 U (λ z=>?_) (λ z=>?_)<;>simp only[zb]at z
  ·exact AS [1,2] (λ _:Value=>.tu [I (len [92,117,48,48]),.v .nilIface]) [] (λ v=>MH b (EK b) v (l++ints [92,117,48,48])) U U call230 U U (λ w M hS hF=>oE b _ u (l) [92,117,48,48] hS (.inr U) (by first|omega|(rw[AQ];show len l+4<=_;omega)) Ab) λ j _=>AJ U call231 U U (λ _ w M n=>AP2 (B2 s p) w (hg.low n.st.low) ⟨h.1,z⟩) U <|AS [1,2] (λ _:Value=>.tu [I (len (A5 (OP (B2 s p)) 1)),.v .nilIface]) [] (λ v=>MH b (EK b) v ((l++ints [92,117,48,48])++ints (A5 (OP (B2 s p)) 1))) U U call230 U U (λ w M hS hF=>oE b _ j ((l++ints [92,117,48,48])) (A5 (OP (B2 s p)) 1) hS (.inr U) (by first|omega|(rw[AQ];show len l+4<=_;omega)) (by show(2:Int)<=_;decide)) (hO:=by and_intros<;>first|omega|(show(1:Int)<=3;decide)|trivial) λ D _=>AX (p+runeLen s p,D,l++ints [92,117,48,48]++ints (A5 (OP (B2 s p)) 1)) U U ⟨Aa,Aa,by rw[<-hF,i,U1,AF5 y z h.1];simp[List.append_assoc,OP],by simp only[AQ,jY];show len l+4+2<=_;omega⟩ Ag
  ·exact AS [1,2] (λ _:Value=>.tu [I (len (DK (B2 s p))),.v .nilIface]) [] (λ v=>MH b (EK b) v (l++DK (B2 s p))) U U call227 U U (λ w M hS hF=>oF b _ u l _ hS (.inr U) Aa h) λ j _=>AX (p+runeLen s p,j,l++DK (B2 s p)) U U ⟨Aa,Aa,by rw[<-hF,i,U1,AF6 y Aa];simp[List.append_assoc],by rw[AQ];omega⟩ Ag
 exact A1 rfl (λ q=>by cases q) (λ _=>AS [1,2] (λ _:Value=>.v .nilIface) [] (λ v=>MH b (EK b) v (l++[34])) U U call229 U U (λ w M hS hF=>YI b _ u (l) (34) hS (.inr U) (by first|omega|(simp only[AQ,AM,len_nil];omega))) λ j _=>lQ (BD w).sat U U U call225 U (λ w M n=>oL b _ j (E5 s) (l++[34]) (n.B9 [1,2] U) (.inr U) (by unfold E5;rw[U1,<-hF,dO C];simp[ints])) U <|A2 G U U U λ w M n=>⟨rfl,n.st.low⟩)
end Go.Proofs.YtnoegalemkbbbaaGreatDoor
namespace Go.Eng
open Go.RowKit
def KZ(r:Int):Int:=if r=43 then 0 else if r=45 then 1 else if r=95 then 2 else-1
theorem YJ(r:Int):KZ r<0↔ ¬(r=43\/r=45\/r=95):=by unfold KZ;(repeat' split)<;>omega
theorem AP4: ∀n:Fin 256,Lib.indexByte [43,45,95] (UInt8.ofNat n.val)=KZ (n.val:Int):=by decide+kernel
theorem ixb{r:Int}(h0:0<=r)(h1:r<256):Lib.indexByte [43,45,95] r.toNat.toUInt8=KZ r:=by
 have:=AP4 ⟨r.toNat,Aa⟩
 have e:((r.toNat:Nat):Int)=r:=by omega
 simp only[e]at this
 exact this
theorem AP6{l:A0}{c:Int}(hl: ∀b∈l,b.toNat<128)(h0:128<=c)(h1:c<=255):Lib.indexByte l c.toNat.toUInt8<0:=by
 rcases Int.lt_or_le (Lib.indexByte l c.toNat.toUInt8) 0 with h|h
 ·exact h
 ·exfalso
  induction l with
  |nil=>exact eF _ h
  |cons a l j=>
   rcases(eG a _ l).1 h with i|i
   ·have:=hl a (by simp)
    subst i
    have e:(c.toNat.toUInt8).toNat=c.toNat:=by simp;omega
    omega
   ·exact j (λ b k=>hl b (by simp[k])) i
theorem AP7(k:Int): ∀b∈A5 ([43,45,95]:A0) k,b.toNat<128:=by
 intro b e
 have:=List.mem_of_mem_drop e
 simp at this
 rcases this with rfl|rfl|rfl<;>decide
theorem oM(k:Int):A3 ([43,45,95]:A0) k<128:=by
 unfold A3
 rcases Nat.lt_or_ge k.toNat 3 with h|h
 ·have:k.toNat=0\/k.toNat=1\/k.toNat=2:=by omega
  rcases this with b|b|b<;>rw[b]<;>decide
 ·have:([43,45,95]:A0).getD k.toNat 0=0:=by simp[List.getD_eq_getElem?_getD,List.getElem?_eq_none (show([43,45,95]:A0).length<=k.toNat from h)]
  rw[this];decide
def SG(l:A0)(p:Int):Prop:= ∀j:Int,0<=j->j<p->KZ (A3 l j)<0
theorem SG.step {l:A0}{p:Int}(h:SG l p)(h0:0<=p)(h1:p<len l)(q:KZ (B2 l p)<0):SG l (p+runeLen l p):=by
 intro j e s
 rcases Int.lt_or_le j p with n|n
 ·exact h j e n
 ·rcases MA h0 h1 with⟨_,_,w,y⟩|⟨w,y,_,z,A,B⟩
  ·have:j=p:=by omega
   subst this;rw[YJ];omega
  ·rcases Int.lt_or_le (A3 l p) 128 with i|i
   ·obtain⟨F,C⟩:=A i
    have:j=p:=by omega
    subst this;rw[<-C];exact q
   ·have hle:=rune_le l p h1
    have hm:=o6 (B i)
    rw[z]at hm
    have k:j.toNat<l.length:=by unfold len at hle;omega
    have b:l[j.toNat]∈Eng.sub l p (p+rune l p):=by
     unfold Eng.sub
     rw[List.mem_take_iff_getElem]
     refine⟨j.toNat-p.toNat,by rw[List.length_drop];omega,?_⟩
     rw[List.getElem_drop];congr 1;omega
    have D:=hm _ b
    have E:A3 l j=(l[j.toNat].toNat:Int):=by simp[A3,k]
    rw[YJ];omega
theorem SG.AP8 {l:A0}{p:Int}(h:SG l p)(hp:len l<=p):l.any (λ b=>([43,45,95]:A0).contains b)=false:=by
 rw[List.any_eq_false]
 intro b k i
 obtain⟨j,n,rfl⟩:=List.getElem_of_mem k
 have:=h (j:Int) Aa (by unfold len at hp;omega)
 rw[YJ]at this
 have e:A3 l (j:Int)=(l[j].toNat:Int):=by simp[A3,n]
 apply this
 simp only[List.contains_cons,List.contains_nil,Bool.or_false,Bool.or_eq_true,beq_iff_eq]at i
 rw[e]
 rcases i with h|h|h<;>rw[h]<;>decide
theorem AP9{l:A0}{p:Int}(h0:0<=p)(h1:p<len l)(k: ¬KZ (B2 l p)<0):l.any (λ b=>([43,45,95]:A0).contains b)=true:=by
 rw[YJ]at k
 have q:B2 l p=43\/B2 l p=45\/B2 l p=95:=by omega
 have j:A3 l p=43\/A3 l p=45\/A3 l p=95:=by
  rcases q with h|h|h
  ·exact .inl ((JK h0 h1 Ab).1 h)
  ·exact .inr (.inl ((JK h0 h1 Ab).1 h))
  ·exact .inr (.inr ((JK h0 h1 Ab).1 h))
 have hp:p.toNat<l.length:=by unfold len at h1;omega
 have e:A3 l p=(l[p.toNat].toNat:Int):=by simp[A3,hp]
 rw[List.any_eq_true]
 refine⟨l[p.toNat],List.getElem_mem hp,?_⟩
 simp only[List.contains_cons,List.contains_nil,Bool.or_false,Bool.or_eq_true,beq_iff_eq]
 rw[e]at j
 have i: ∀(b:UInt8) (n:Nat),(b.toNat:Int)=n->n<256->b=UInt8.ofNat n:=λ b n h s=>by rw[<-UInt8.toNat_inj];simp[Nat.mod_eq_of_lt s];omega
 rcases j with h|h|h
 ·exact .inl (i _ 43 h Aa)
 ·exact .inr (.inl (i _ 45 h Aa))
 ·exact .inr (.inr (i _ 95 h Aa))
theorem AQ0(s:A0)(p:Int):B2 s p<55296\/57343<B2 s p:=by
 have h:(Utf8.decode ⟨⟨s⟩⟩ p.toNat).1<55296\/(57343<(Utf8.decode ⟨⟨s⟩⟩ p.toNat).1/\(Utf8.decode ⟨⟨s⟩⟩ p.toNat).1<=1114111):=by
  rw[Lib.decode_at];exact Lib.decodeN_valid _ _ _ _ _ (UInt8.toNat_lt _)
 unfold B2;omega
end Go.Eng
namespace Go.Proofs.YtnoegalemkbbbaaGreatDoor
open Go.Proofs.Tryz
open Go.Eng
theorem AQ1{s:A0}{p:Int}(h0:0<=p)(h1:p<len s)(h:A3 s p<128):B2 s p=A3 s p:=(jL h0 h1 h).1
theorem AQ2(r:Int)(w:World):Calls prog 341 [.int .i32 r].toArray w λ e w'=>e= .returned (.bool (Lib.validRune r))/\w'=w:=Tryz.utf8_ValidRune r w
theorem AQ3(r:Int)(w:World)(V:0<=r/\r<=1114111/\(r<55296\/57343<r)):
  Calls prog 319 [(str [43,45,95]),(.int .i32 r)].toArray w λ e w'=>e= .returned (i64 (KZ r))/\Ext w w':=by
 refine CW.O7 func319 U ntmps319 (Nat.le_of_ble_eq_true U) λ Q hE=>?_
 have z:len ([43,45,95]:A0)=3:=rfl
 have hx:128<=r->KZ r= -1:=λ h=>by unfold KZ;rw[if_neg Aa,if_neg Aa,if_neg Aa]
 have A:Utf8.valid r=true:=by unfold Utf8.valid;simp;omega
 have k:=λ h=>z6 A (r:=r) h
 have B:=LO (DE r) (len (DE r)-1)
 have hS:St w nM w nM []:=Aj ⟨λ _ _ _ h=>by cases h⟩
 refine CW.weaken [0,1] (L':=[Y 0 (str [43,45,95]),Y 1 (.int .i32 r)]) ?_ U
 refine CW.sr (RL.u (.assign .c) U (RL.nil (CW.id (CW.block ?_))))
 refine CW.sr (RL.m U U (RL.u (.leq .c (.t U)) U (RL.m U U (RL.v (.pos U U) (.move (.t U)) U (RL.v (.pos U U) (.lss (.g U (λ h=>h)) .c) U (RL.u (.and (.t U) (.g U (λ h=>h))) U (RL.a U U (RL.nil (CW.id ?_)))))))))
 refine CW.cond rfl ?_ ?_<;>intro C<;>try simp only[zb]at C
 ·refine CW.sr (RL.m U U (RL.m U U (RL.u (.aO (r:=r) (.t U) underlying21 underlying5 (λ _=>by exact Eng.wrap_u8 Aa)) U ?_)))
  refine RL.aQ .none call198 (.cons (.t U) (.cons (.t U) .nil)) (λ _=>(dI [43,45,95] r _)) U <|RL.a U U <|RL.nil (CW.at [Y 4 (i64 (Lib.indexByte [43,45,95] r.toNat.toUInt8))] U (CW.ret (hE.r1 U U ?_)))
  exact⟨by rw[ixb Aa Aa],hS.low⟩
 ·refine CW.sr (RL.m U U (RL.u (.eql (.t U) .c) U (RL.a U U (RL.nil (CW.id ?_)))))
  refine CW.cond rfl ?_ ?_<;>intro D<;>try simp only[zb]at D
  ·refine CW.seq (CW.sr (RL.m U U ?_))
   refine RL.aX (s:=[43,45,95]) hS (.t U) underlying9 U (λ w1 E F=>RL.nil (CW.id (CW.block ?_)))
   refine CW.loop (σ:=Int) (λ p=>[Y 175 (.pointer (some ⟨E,0,none⟩))]) (λ p wl=>St w nM wl nM [.raw E (.stringIter ⟨⟨[43,45,95]⟩⟩ ((p:Int)).toNat)]/\0<=p/\p<=3) (λ p=>(3-p).toNat) 0 [175] U ?_ ?_
   ·refine⟨F,?_⟩;exact⟨Aa,Aa⟩
   ·rintro p wl ⟨l,h0,h1⟩
    have P:=UY ([43,45,95]:A0) p h0
    refine CW.sr <|RL.aY (s:=[43,45,95]) (p:=p) l (i:=0) U (.t U) Aa U (λ G R b=>?_) (λ S=>?_)
    ·replace b:St w nM R nM [.raw E (.stringIter ⟨⟨[43,45,95]⟩⟩ ((p+runeLen [43,45,95] p:Int)).toNat)]:=b
     refine RL.u (.ex (.t U) U) U (RL.nil (CW.id ?_))
     refine CW.seq (CW.cond rfl (λ _=>CW.skip (CW.id (CW.block (CW.sr (RL.u (.ex (.t U) U) U (RL.u (.ex (.t U) U) U (RL.a U U (RL.a U U (RL.nil (CW.id ?_)))))))))) (λ h=>by cases h))
     refine CW.sr (RL.m U U (RL.u (.eql (.t U) .c) U (RL.nil (CW.id ?_))))
     refine CW.cond rfl ?_ ?_<;>intro H<;>try simp only[zb]at H
     ·refine CW.sr (RL.m U U (RL.a U U (RL.nil (CW.id (CW.ret (hE.r1 U U ?_))))))
      exfalso;have n:=oM p;have T:=AQ1 (s:=[43,45,95]) h0 G n;omega
     ·refine CW.skip λ a hs=>Exists.intro (p+runeLen [43,45,95] p) ⟨hs.GF [175],?_,?_⟩
      ·refine⟨b,?_⟩
       exact⟨Aa,Aa⟩
      ·show Int.toNat _<Int.toNat _;omega
    ·refine RL.u (.ex (.t U) U) U (RL.nil (CW.id ?_))
     refine CW.seq (CW.cond rfl (λ h=>by cases h) (λ _=>(CW.exit (CW.at [] rfl (CW.sr ?_)))))
     refine RL.u (.assign .c) U (RL.nil (CW.id ?_))
     refine CW.ret (hE.r1 U U ?_)
     exact⟨by rw[hx Aa],l.low⟩
  ·refine CW.sr (RL.m U U ?_)
   refine RL.aQ .none call341 (.cons (.t U) .nil) (λ _=>(AQ2 r _)) U <|RL.u (.not (.t U)) U (RL.a U U ?_)
   refine RL.nil (CW.at [Y 0 (str [43,45,95]),Y 1 (.int .i32 r),Y 4 (i64 0),Y 183 (.bool (!(Lib.validRune r)))] U ?_)
   refine CW.cond rfl ?_ ?_<;>intro j<;>try simp only[zb]at j
   ·refine CW.sr (RL.u (.assign .c) U (RL.nil (CW.id (CW.ret (hE.r1 U U ?_)))))
    exfalso;unfold Lib.validRune at j;simp at j;omega
   ·refine CW.scope (CW.sr (RL.m U U (RL.u (.bG (.t U) underlying21 underlying9) U (RL.a U U (RL.nil (CW.id ?_))))))
    refine CW.sr (RL.m U U (RL.u (.TM (.t U) underlying9) U (RL.u (.sub (.t U) .c (λ _=>by omega)) U (RL.a U U (RL.nil (CW.id (CW.sr ?_)))))))
    refine RL.m U U (RL.a U U (RL.nil (CW.id ?_)))
    refine CW.sr (RL.u (.assign .c) U (RL.nil (CW.id (CW.seq ?_))))
    refine CW.block <|CW.yX 1 <|CW.seq (CW.sr (RL.m U U (RL.m U U (RL.u (.TM (.t U) underlying9) U (RL.u (.lss (.t U) (.t U)) U (RL.nil (CW.id ?_)))))))
    refine CW.cond rfl ?_ ?_<;>intro J<;>try simp only[zb]at J
    ·refine CW.skip (CW.id (CW.block (CW.scope (CW.seq ?_))))
     refine CW.seq <|CW.aW hS lU Ac <|RQ.v .none (.move (.t U)) U <|RQ.v .none (.move (.t U)) U <|RQ.v .none (.O2 (.t U) (.t U) underlying9 (λ _=>by omega)) U <|RQ.v .none (.move (.t U)) U <|RQ.v .none (.move (.t U)) U <|RQ.v .none (.O2 (.t U) (.t U) underlying9 (λ _=>by omega)) U <|RQ.v .none (.neq (.t U) (.t U)) U <|RQ.nil (λ a hs W K=>CW.at [Y 0 (str [43,45,95]),Y 1 (.int .i32 r),Y 4 (i64 0),Y 7 (str (DE r)),Y 8 (i64 ((len (DE r))-1)),Y 9 (i64 ((len (DE r))-1)),Y 10 (i64 0),Y 33 (.bool ((A3 [43,45,95] ((len (DE r))-1)) != (A3 (DE r) ((len (DE r))-1))))] U ?_ a hs)
     refine CW.cond rfl ?_ ?_<;>intro L<;>try simp only[zb]at L
     ·refine CW.seq <|CW.aW K lU Ac <|RQ.v .none (.move (.t U)) U <|RQ.v .none (.move (.t U)) U <|RQ.v .none (.add (.t U) .c (λ _=>by omega)) U <|RQ.v .none (.jA (.t U) (.t U) underlying9 (λ _=>by omega)) U <|RQ.v .none (.move (.t U)) U <|RQ.v .none (.move (.t U)) U <|RQ.v .none (.O2 (.t U) (.t U) underlying9 (λ _=>by omega)) U <|RQ.call .none call198 (.cons (.t U) (.cons (.t U) .nil)) (λ _=>(λ X M=>((dI (Eng.A5 [43,45,95] (((len (DE r))-1)+1)) (A3 (DE r) ((len (DE r))-1)) _)).mono (λ e w3 z=>⟨z.1,z.2▸M⟩))) U <|RQ.v .none (.assign (.t U)) U <|RQ.nil (λ a hs w9 q=>CW.at [Y 0 (str [43,45,95]),Y 1 (.int .i32 r),Y 4 (i64 0),Y 7 (str (DE r)),Y 8 (i64 ((len (DE r))-1)),Y 9 (i64 ((len (DE r))-1)),Y 10 (i64 0),Y 11 (i64 (Lib.indexByte (Eng.A5 [43,45,95] (((len (DE r))-1)+1)) (A3 (DE r) ((len (DE r))-1)).toNat.toUInt8))] U ?_ a hs)
      refine CW.seq (CW.sr (RL.m U U (RL.u (.lss (.t U) .c) U (RL.nil (CW.id ?_)))))
      refine CW.cond rfl ?_ ?_<;>intro N<;>try simp only[zb]at N
      ·refine CW.sr (RL.u (.assign .c) U (RL.nil (CW.id (CW.ret (hE.r1 U U ?_)))))
       exact⟨by rw[hx Aa],q.low⟩
      ·exfalso;have y:=(k Aa).2.2;have O:=AP6 (AP7 (len (DE r)-1+1)) y B.2;omega
     ·exfalso;have O:=oM (len (DE r)-1);have y:=(k Aa).2.2;omega
    ·refine CW.exit (CW.at [] U ?_)
     refine CW.seq (CW.sr (RL.u (.assign .c) U (RL.nil (CW.id ?_))))
     refine CW.ret (hE.r1 U U ?_)
     exact⟨by rw[hx Aa],hS.low⟩
theorem AQ4(n:Int)(w:World):
  Calls prog 320 [(i64 n)].toArray w λ e w'=>e= .returned (.bool (decide (8<n)))/\w'=w:=by
 refine CW.O7 func320 U ntmps320 (Nat.le_of_ble_eq_true U) λ Q hE=>CW.weaken [0] (L':=[Y 0 (i64 n)]) ?_ U
 refine CW.sr (RL.u (.assign .c) U (RL.nil (CW.id (CW.sr ?_))))
 refine RL.m U U (RL.u (.gtr (.t U) .c) U (RL.a U U (RL.nil (CW.id ?_))))
 refine CW.ret (hE.r1 U U ?_)
 exact⟨rfl,rfl⟩
theorem AQ5(l:A0)(w:World)(hl:len l<=8):
  Calls prog 295 [(str l),(str [43,45,95])].toArray w λ e w'=> ∃v,e= .returned v/\ ∃x,(0<=x↔l.any (λ b=>([43,45,95]:A0).contains b)=true)/\v=i64 x/\Ext w w':=by
 refine CW.O7 func295 U ntmps295 (Nat.le_of_ble_eq_true U) λ Q hE=>?_
 have N:len ([43,45,95]:A0)=3:=rfl
 have:=A9 l
 have hS:St w nM w nM []:=Aj ⟨λ _ _ _ h=>by cases h⟩
 refine CW.weaken [0,1] (L':=[Y 0 (str l),Y 1 (str [43,45,95])]) ?_ U
 refine CW.sr (RL.u (.assign .c) U (RL.nil (CW.id (CW.seq ?_))))
 refine CW.sr (RL.m U U (RL.u (.aP (.t U) .c) U (RL.nil (CW.id ?_))))
 refine CW.cond rfl ?_ ?_<;>intro n<;>try simp only[zb]at n
 ·exfalso;simp at n
 ·refine CW.skip (CW.id (CW.seq (CW.sr (RL.m U U (RL.u (.TM (.t U) underlying9) U (RL.u (.eql (.t U) .c) U (RL.nil (CW.id ?_))))))))
  refine CW.cond rfl ?_ ?_<;>intro B<;>try simp only[zb]at B
  ·exfalso;omega
  ·refine CW.skip (CW.id (CW.seq (CW.sr (RL.m U U (RL.u (.TM (.t U) underlying9) U ?_)))))
   refine RL.aQ .none call320 (.cons (.t U) .nil) (λ _=>(AQ4 (len l) _)) U <|RL.nil (CW.at [Y 0 (str l),Y 1 (str [43,45,95]),Y 26 (.bool (decide (8<(len l))))] U ?_)
   refine CW.cond rfl ?_ ?_<;>intro C<;>try simp only[zb]at C
   ·exfalso;omega
   ·refine CW.skip (CW.id (CW.seq (CW.sr (RL.m U U ?_))))
    refine RL.aX (s:=l) hS (.t U) underlying9 U (λ w1 A D=>RL.nil (CW.id (CW.block ?_)))
    refine CW.loop (σ:=Int) (λ p=>[Y 1 (str [43,45,95]),Y 45 (.pointer (some ⟨A,0,none⟩))]) (λ p wl=>St w nM wl nM [.raw A (.stringIter ⟨⟨l⟩⟩ ((p:Int)).toNat)]/\0<=p/\p<=len l/\SG l p) (λ p=>(len l-p).toNat) 0 [1,45] U ?_ ?_
    ·refine⟨D,?_⟩;exact⟨Aa,Aa,λ j h0 h1=>by omega⟩
    ·rintro p wl ⟨q,h0,h1,G⟩
     have H:=UY l p h0
     have J:=dP l p
     have K:=AQ0 l p
     refine CW.sr <|RL.aY (s:=l) (p:=p) q (i:=0) U (.t U) Aa U (λ y L k=>?_) (λ M=>?_)
     ·replace k:St w nM L nM [.raw A (.stringIter ⟨⟨l⟩⟩ ((p+runeLen l p:Int)).toNat)]:=k
      refine RL.u (.ex (.t U) U) U (RL.nil (CW.id ?_))
      refine CW.seq (CW.cond rfl (λ _=>CW.skip (CW.id (CW.block (CW.sr (RL.u (.ex (.t U) U) U (RL.u (.ex (.t U) U) U (RL.a U U (RL.a U U (RL.nil (CW.id ?_)))))))))) (λ h=>by cases h))
      refine CW.sr (RL.m U U (RL.m U U ?_))
      refine RL.aR k .none call319 (.cons (.t U) (.cons (.t U) .nil)) (λ _=>(AQ3 (B2 l p) _ (by first|assumption|omega))) U (λ O z=>RL.u (.geq (.t U) .c) U <|RL.nil (CW.at [Y 1 (str [43,45,95]),Y 9 (i64 p),Y 45 (.pointer (some ⟨A,0,none⟩)),Y 53 (.bool (decide (0<=(KZ (B2 l p)))))] U ?_))
      refine CW.cond rfl ?_ ?_<;>intro E<;>try simp only[zb]at E
      ·refine CW.sr (RL.m U U (RL.a U U (RL.nil (CW.id (CW.ret (hE.r1 U U ?_))))))
       have F:=AP9 h0 y Aa
       exact⟨_,rfl,_,⟨λ _=>F,λ _=>h0⟩,rfl,z.low⟩
      ·refine CW.skip λ a hs=>Exists.intro (p+runeLen l p) ⟨hs.GF [1,45],?_,?_⟩
       ·refine⟨z,?_⟩
        exact⟨Aa,Aa,G.step h0 y Aa⟩
       ·show Int.toNat _<Int.toNat _;omega
     ·refine RL.u (.ex (.t U) U) U (RL.nil (CW.id ?_))
      refine CW.seq (CW.cond rfl (λ h=>by cases h) (λ _=>(CW.exit (CW.at [] rfl (CW.sr ?_)))))
      refine RL.u (.assign .c) U (RL.nil (CW.id ?_))
      refine CW.ret (hE.r1 U U ?_)
      have F:=G.AP8 Aa
      exact⟨_,rfl,_,⟨λ h=>absurd h Ab,λ h=>by rw[F]at h;cases h⟩,rfl,q.low⟩
theorem AQ6(l:A0)(w:World)(hl:len l=4):
  Calls prog 272 [(str l),(str [43,45,95])].toArray w λ e w'=>e= .returned (.bool (l.any (λ b=>([43,45,95]:A0).contains b)))/\Ext w w':=by
 refine CW.O7 func272 U ntmps272 (Nat.le_of_ble_eq_true U) λ Q hE=>?_
 have hS:St w nM w nM []:=Aj ⟨λ _ _ _ h=>by cases h⟩
 refine CW.weaken [0,1] (L':=[Y 0 (str l),Y 1 (str [43,45,95])]) ?_ U
 refine CW.sr (RL.u (.assign .c) U (RL.nil (CW.id (CW.sr ?_))))
 refine RL.m U U (RL.m U U ?_)
 refine RL.xW call295 (.cons (.t U) (.cons (.t U) .nil)) (AQ5 l _ Aa) U ?_
 rintro v2 s ⟨j,k,rfl,i⟩
 have n:=hS.ext i
 refine RL.u (.geq (.t U) .c) U (RL.a U U ?_)
 refine RL.nil (CW.at [Y 4 (.bool (decide (0<=j)))] U (CW.ret (hE.r1 U U ?_)))
 have q:decide (0<=j)=l.any (λ b=>([43,45,95]:A0).contains b):=by rw[Bool.eq_iff_iff,decide_eq_true_eq];exact k
 rw[<-q];exact⟨rfl,n.low⟩
open Go.Eng Go.RowKit
theorem eW(x:Int)(w:World)(h0:0<=x)(h1:x<=255):Calls prog 300 [.int .u8 x].toArray w λ e w'=>e= .returned (.int .u8 (GL x))/\Ext w w':=AH AF func300 U ntmps300 [] [] [.v (.int .u8 x)] U (BD w) A4 (λ B b=>GY (GL x) U U U (λ _=>AO0 h0 h1) <|A2 b U U U λ w M h=>⟨rfl,h.st.low⟩) U
def OQ(l:A0):Value:=if EI l then .tuple #[.int .u64 (F8 l),.nilIface]else .tuple #[.int .u64 0,.iface 274 (i64 2)]
theorem oN(l:A0)(w:World)(hl:len l=4):Calls prog 280 [str l,i64 16,i64 16].toArray w λ e w'=>e= .returned (OQ l)/\Ext w w':=by
 have S:len (ints l)=4:=by rw[jY];exact hl
 refine AH AF func280 U ntmps280 [] [] [.v (str l),I 16,I 16] U (BD w) A4 (λ B K=>A1 U (λ b=>?_) (λ _=>?_)) U
 ·rw[eq_of_beq b]at hl;exact absurd hl Ab
 refine A1 rfl (λ _=>A1 rfl (λ b=>by cases b) (λ _=>A1 rfl (λ b=>by cases b) (λ _=>A1 rfl (λ b=>by cases b) (λ _=>A1 rfl (λ _=>AU (.v (.int .u64 65536)) U U (λ w M y=>.oB (A8 (v:=.v (.int .u64 1)) (E:=[]) U) (A8 (v:=.v (.int .u64 16)) (E:=[]) U) (λ _=>by decide) (λ _=>by decide)) <|AN3 9 U U underlying9 underlying216 underlying5 Aa λ v=>?_) (λ b=>by cases b))))) (λ b=>by cases b)
 refine B5 (σ:=Int×Int) (λ(k,n)=>⟨[(9,kn v 1 (ints l) BY)],[],[Z 1 (I 16),Z 8 (.v (.bool false)),Z 9 (.v (str l)),Z 10 (.v (.int .u64 1152921504606846976)),Z 11 (.v (.int .u64 (65536-1))),Z 12 (.v (.bool false)),Z 13 (.v (.int .u64 n)),Z 99 (.sl 9 v),Z 100 (I (len (ints l))),Z 101 (I k)]⟩)
   (λ(k,n)=>0<=k/\k<=4/\EI (Eng.sub l 0 k)=true/\n=F8 (Eng.sub l 0 k)) (λ(k,_)=>(4-k).toNat) (0,0) U U ⟨Aa,Aa,rfl,rfl⟩ ?_
 rintro⟨k,n⟩ ⟨D,T,A,L⟩
 refine A1 U (λ G=>?_) (λ G=>?_)<;>simp only[zb]at G
 ·have F:at' (ints l) k=A3 l k:=ints_at D Aa
  have V:=LO l k
  have H:=AO2 (c:=A3 l k) Aa Aa
  have W:=AO5 hl D Aa A
  have C:GK (A3 l k)<0->OQ l= .tuple #[.int .u64 0,.iface 274 (i64 2)]:=λ X=>by
   have R:=o4 (s:=l) (i:=0) (k:=k) (j:=4) Aa Aa Aa Aa X
   rw[O6 l 4 Aa]at R
   unfold OQ;rw[R];rfl
  refine CP 1 (λ st=> ∃x:Int,(0<=x/\x<=35)/\(x<16->GK (A3 l k)=x)/\(16<=x->GK (A3 l k)<0)/\st=⟨[(9,kn v 1 (ints l) BY)],[],[Z 1 (I 16),Z 8 (.v (.bool false)),Z 9 (.v (str l)),Z 10 (.v (.int .u64 1152921504606846976)),Z 11 (.v (.int .u64 (65536-1))),Z 12 (.v (.bool false)),Z 13 (.v (.int .u64 n)),Z 16 (.v (.int .u8 x)),Z 99 (.sl 9 v),Z 100 (I (len (ints l))),Z 101 (I k)]⟩) U U (λ N=>by simp at N) (λ _=>?_) ?_
  ·refine A1 U (λ q=>?_) (λ q=>?_)<;>simp only[zb]at q<;>rw[F]at q
   ·exact AW _ U U ⟨_,Aa,λ _=>by rw[F];exact AO3 q,λ h=>by omega,rfl⟩
   ·refine AJ U call300 U U (λ _ w M y=>eW _ w Aa Aa) U <|AJ U call300 U U (λ _ w M y=>eW _ w Aa Aa) U ?_
    refine A1 U (λ z=>?_) (λ z=>?_)<;>simp only[zb]at z<;>rw[F]at z
    ·refine AJ U call300 U U (λ _ w M y=>eW _ w Aa Aa) U ?_
     have J:=H.2.1 z.1 z.2 Aa
     exact AW _ U U (hO:=by rw[F];omega) ⟨_,by rw[F];omega,λ h=>by rw[F]at h ⊢;have:=J.1 Aa;omega,λ h=>by rw[F]at h;have:=J.2 Aa;omega,rfl⟩
    ·exact AU (.v (.iface 274 (i64 2))) U U (λ w M y=>.iface (A8 (v:=I 2) (E:=[]) U) underlying274 U) <|A2 K U U U λ w M y=>⟨by rw[C (by have:=H.2.2 Aa Aa;omega)];rfl,y.st.low⟩
  rintro _ ⟨x,hx,O,P,rfl⟩
  refine A1 U (λ q=>?_) (λ q=>?_)<;>simp only[zb]at q
  ·exact AU (.v (.iface 274 (i64 2))) U U (λ w M y=>.iface (A8 (v:=I 2) (E:=[]) U) underlying274 U) <|A2 K U U U λ w M y=>⟨by rw[C (P q)];rfl,y.st.low⟩
  have Q:=O Aa
  refine A1 U (λ b=>by simp only[zb]at b;omega) (λ _=>A1 U (λ b=>by simp only[zb]at b;omega) (λ _=>?_))
  have hs:=o3 (s:=l) (i:=0) Aa D Aa A Aa
  exact AX (k+1,n*16+x) U U ⟨Aa,Aa,hs.1,by rw[hs.2,Q,<-L]⟩ Ag
 have hk:k=4:=by omega
 rw[hk,O6 l 4 Aa]at A L
 exact AJ (u:=.bool false) rfl call301 rfl rfl (λ hW=>by cases hW) rfl <|A1 rfl (λ b=>by cases b) (λ _=>A2 K U U U λ w M y=>⟨by unfold OQ;rw[A,<-L];rfl,y.st.low⟩)
theorem AQ7{w0 k:World}{M0 M:Mem}{Rs:List HO}(l:A0)(hS:St w0 M0 k M Rs)(hg:Gl w0)(hl:len l=4):
    Calls prog 273 [str l,i64 16,i64 16].toArray k (BJ w0 M0 M Rs (λ er:Value=>.tuple #[.int .u64 (if EI l then F8 l else 0),er]) (λ er=>U2 er=EI l/\(er= .nilIface\/ ∃u p,er= .iface u p)) (λ _=>[]) λ _=>[]):=by
 refine AH (Hr:=Rs) AF func273 U ntmps273 [] [] [.v (str l),I 16,I 16] U hS A4 (λ B j=>?_) U
 cases hk:EI l with
 |true=>
  rw[hk]at j
  refine AJ (u:=.tuple #[.int .u64 (F8 l),.nilIface]) U call280 U U (λ _ w M b=>by have:=oN l w hl;rwa [show OQ l=_ from by unfold OQ;rw[hk]]at this) U ?_
  refine AU (.v (.bool false)) U U (λ w M b=>.U3 (A8 (v:=.v .nilIface) (E:=[]) U) (.inl U) Ai) ?_
  refine A1 rfl (λ i=>by cases i) (λ _=>?_)
  exact A2 j U U U λ w M' b=>⟨.nilIface,M',rfl,⟨rfl,.inl U⟩,b.le,b.B9 [] U,A4⟩
 |false=>
  rw[hk]at j
  refine AJ (u:=.tuple #[.int .u64 0,.iface 274 (i64 2)]) U call280 U U (λ _ w M b=>by have:=oN l w hl;rwa [show OQ l=_ from by unfold OQ;rw[hk]]at this) U ?_
  refine AU (.v (.bool true)) U U (λ w M b=>.U3 (A8 (v:=.v (.iface 274 (i64 2))) (E:=[]) U) (.inr ⟨_,_,rfl⟩) Ai) ?_
  refine A1 rfl (λ _=>?_) (λ i=>by cases i)
  refine AS [] (λ n:Nat=>.v (.iface 277 (.pointer (some ⟨n,0,none⟩)))) [] (λ _=>[]) (pu:=λ _=>True) (Fg:=λ _=>[]) U U call234 U U (hu:=λ _=>rfl) (hH:=λ _=>rfl) (λ w M hS hF=>by
   obtain⟨ev,h1,q⟩:=(hg.low hS.low).err
   exact(Tryz.strconv_toError_syntax ⟨⟨[80,97,114,115,101,85,105,110,116]⟩⟩ ⟨⟨l⟩⟩ 16 16 ev w (by show l.length<=_;unfold len at hl;omega) h1 q).mono λ e w' ⟨n,h,_,_,i⟩=>⟨n,M,h,trivial,λ _ _ _ h=>h,hS.ext i,A4⟩) λ n _=>?_
  exact A2 j U U U λ w M' b=>⟨_,M',rfl,⟨rfl,.inr ⟨_,_,rfl⟩⟩,b.le,b.B9 [] U,A4⟩
theorem AQ8{l:A0}(h:l.any (λ b=>[43,45,95].contains b)=true):EI l=false:=by
 rw[List.any_eq_true]at h
 obtain⟨b,i,e⟩:=h
 unfold EI
 rw[List.all_eq_false]
 refine⟨b,i,?_⟩
 simp only[List.contains_cons,List.contains_nil,Bool.or_false,Bool.or_eq_true,beq_iff_eq]at e
 rcases e with rfl|rfl|rfl<;>decide
theorem oO(s:A0)(w:World)(hg:Gl w)(G:len s<=1099511627776):Calls prog 250 [str s].toArray w λ e w'=>e= .returned (i64 (C3 s))/\Ext w w':=by
 have z:=A9 s
 refine AH AF func250 U ntmps250 [] [] [.v (str s)] U (BD w) A4 (λ B y=>AJ U call171 U U (λ _ w M j=>oJ (UW s _ w)) U <|AJ U call272 U U (λ A w M j=>AQ6 (Eng.sub s 2 6) w (by rw[FG Aa Aa (by simp only[Gd.d,zb]at A;omega)];rfl)) U ?_) U
 refine A1 U (λ b=>?_) (λ b=>?_)<;>simp only[zb]at b
 ·have l:C3 s= -1:=by
   unfold C3
   split
   ·rfl
   ·rename_i C;split
    ·rfl
    ·rename_i D;split
     ·rename_i n3;exfalso;rcases b with(h|h)|h
      ·exact C h
      ·exact D h
      ·rw[AQ8 h]at n3;cases n3
     ·rfl
  exact A2 y U U U λ w M j=>⟨by rw[l];rfl,j.st.low⟩
 have n:len (Eng.sub s 2 6)=4:=by rw[FG Aa Aa Aa];rfl
 have l:C3 s=if EI (Eng.sub s 2 6)then F8 (Eng.sub s 2 6)else-1:=by unfold C3;rw[if_neg Aa,if_neg (by rw[b.1.2];simp)]
 refine AS [] (λ er:Value=>.tu [.v (.int .u64 (if EI (Eng.sub s 2 6)then F8 (Eng.sub s 2 6)else 0)),.sl 99 er]) [] (λ _=>[]) U U call273 U U (λ w M hS hF=>AQ7 (Eng.sub s 2 6) hS hg n) λ er q=>AU (.v (.bool (!U2 er))) U U (λ w M j=>.U3 (A8 (v:=.sl 99 er) (E:=[]) U) q.2 Ai) ?_
 refine A1 U (λ i=>?_) (λ i=>?_)<;>rw[q.1]at i
 ·have k:EI (Eng.sub s 2 6)=false:=by simpa using i
  exact A2 y U U U λ w M j=>⟨by rw[l,k];rfl,j.st.low⟩
 have k:EI (Eng.sub s 2 6)=true:=by simpa using i
 have F:=AF0 n k
 rw[if_pos k]at l
 exact A2 y U U U (λ w M j=>⟨by rw[l,k];rfl,j.st.low⟩) (hO:=by rw[if_pos k];omega)
theorem AQ9(s:A0)(w:World)(hg:Gl w)(z:len s<=1099511627776):Calls prog 226 [str s].toArray w λ e w'=>e= .returned (.tuple #[.int .i32 (BZ s).1,i64 (BZ s).2])/\Ext w w':=by
 have h1:=OE s
 have D:=OE (A5 s 6)
 have F:=LO s 1
 have A:=A9 s
 have C:=(mE s 6).2
 refine AH AF func226 U ntmps226 [] [] [.v (str s)] U (BD w) A4 (λ B y=>?_) U
 refine A1 U (λ j=>?_) (λ j=>?_)<;>simp only[zb]at j
 ·exact A2 y U U U λ w M i=>⟨by unfold BZ;rw[if_pos j];rfl,i.st.low⟩
 refine DI [0,3] 3 (λ _ _ _ _ _ h=>h) U Ai U <|AK 0 U U U <|AS [] (λ b:Nat=>.v (.map (some b))) [] (λ b=>[(12,.ho (.raw b (BS .u8 C9 8)))]) U U call249 U U (λ w M hS hF=>oK hS) λ b _=>AD U <|AK 3 U U U <|oD 12 (.int .i32 (N9 (A3 s 1))) (KS (A3 s 1)) U U U U U underlying271 underlying5 zeroValue21 (AE3 _) <|AD U <|BN U U U <|A1 U (λ k=>?_) (λ k=>?_)
 ·exact A2 y U U U λ w M i=>⟨by unfold BZ;rw[if_neg j,if_pos k];rfl,i.st.low⟩
 have he:BZ s=if C3 s<0\/(56320<=C3 s/\C3 s<57344)then(0,0)else if C3 s<55296\/57344<=C3 s then(C3 s,6)else if C3 (A5 s 6)<56320\/57344<=C3 (A5 s 6)then(0,0)else(65536+(C3 s-55296)*1024+C3 (A5 s 6)-56320,12):=by unfold BZ;rw[if_neg j,if_neg (by rw[k];simp)]
 refine AJ U call250 U U (λ _ w M i=>oO s w (hg.low i.st.low) z) U ?_
 refine A1 U (λ l=>?_) (λ l=>?_)<;>simp only[zb]at l
 ·exact A2 y U U U λ w M i=>⟨by rw[he,if_pos l];rfl,i.st.low⟩
 rw[if_neg Aa]at he
 refine A1 U (λ n=>?_) (λ n=>?_)<;>simp only[zb]at n
 ·exact A2 y U U U λ w M i=>⟨by rw[he,if_pos n];rfl,i.st.low⟩
 rw[if_neg Aa]at he
 refine AJ U call250 U U (λ _ w M i=>oO (A5 s 6) w (hg.low i.st.low) Aa) U ?_
 refine A1 U (λ q=>?_) (λ q=>?_)<;>simp only[zb]at q
 ·exact A2 y U U U λ w M i=>⟨by rw[he,if_pos q];rfl,i.st.low⟩
 rw[if_neg Aa]at he
 exact AU (.v (i64 ((C3 s-55296)*1024))) U U (λ w M i=>.oB (A8 (v:=I (C3 s-55296)) (E:=[]) U) (A8 (v:=.v (.int .u64 10)) (E:=[]) U) (λ _=>by decide) (λ _=>(wrap_i64 Aa:IntKind.i64.wrap ((C3 s-55296)*1024)=_))) <|A2 y U U U λ w M i=>⟨by rw[he];rfl,i.st.low⟩
theorem AR0{l:List Int}{r i n:Int}(h:len l<=4*i)(b:1<=n):len (l++DK r)<=4*(i+n):=by have:=eV r;rw[AQ];omega
theorem AR1{l:List Int}(r:Int)(h:ints (toStr l)=l):ints (toStr (l++DK r))=l++DK r:=by
 have b:ints (toStr (DK r))=DK r:=by
  unfold ints toStr
  rw[List.map_map]
  conv=>rhs;rw[<-List.map_id (DK r)]
  apply List.map_congr_left
  intro x hx
  have:=Lib.encodeRuneZ_byte r x hx
  simp;omega
 rw[show toStr (l++DK r)=toStr l++toStr (DK r)from List.map_append,U1,h,b]
theorem AR2(s:A0)(w:World)(hg:Gl w)(W:len s<=1099511627776):Calls prog 194 [str s].toArray w λ e w'=>e= .returned (.tuple #[str (B4 s).1,i64 (B4 s).2.1,i64 (B4 s).2.2])/\Ext w w':=by
 have K:=A9 s
 refine AH AF func194 U ntmps194 [] [] [.v (str s)] U (BD w) A4 (λ B H=>AJ U call171 U U (λ _ w M q=>oJ (UW s _ w)) U ?_) U
 refine A1 U (λ y=>?_) (λ y=>?_)<;>simp only[zb]at y
 ·exact A2 H U U U λ w M q=>⟨by unfold B4;rw[if_neg (by rw[y];simp)];rfl,q.st.low⟩
 refine BA 1 U zeroValue244 U λ b=>XI 2 5 1 BY G3 ?_
 refine B5 (σ:=Nat×Int×Value×Value×List Int) (λ(f,i,a,u,l)=>⟨[],[(1,.box b [.v a,.v u] tB),(2,.ho (IS u l))],[Z 0 (.v (str s)),Z 5 (.bx 1 b 0),Z 6 (I i)]⟩)
   (λ(f,i,a,u,l)=>1<=i/\(a= .pointer none\/a=EK b)/\DT f s i l=B4 s/\len l<=4*i/\(len s-i).toNat<=f/\ints (toStr l)=l) (λ(_,i,_)=>(len s-i).toNat) (s.length,1,.pointer none,.slice none 0 0,[]) U U ⟨Aa,.inl U,by unfold B4;rw[if_pos y],Ab,by unfold len;omega,rfl⟩ ?_
 rintro⟨f,i,a,u,l⟩ ⟨h0,J,hF,hlen,L,E⟩
 have N:=A9 l
 refine A1 U (λ z=>?_) (λ z=>?_)<;>simp only[zb]at z
 ·have O:=ED s i Aa Aa
  have P:=UY (A5 s i) 0 Aa Aa
  have Q:=dP (A5 s i) 0
  have R:=AF1 (A5 s i)
  have j:=RX (acc:=l) L z
  rw[hF]at j
  refine AJ U call224 U U (λ _ w M q=>AC2 (A5 s i) w (hg.low q.st.low) Aa) U ?_
  refine CP 1 (λ st=> ∃(bad:Bool) (r n:Int),(bad=true->B4 s=([],i,1))/\(bad=false->(0<=r/\r<=1114111)/\(1<=n/\n<=1099511627776)/\B4 s=DT (f-1) s (i+n) (l++DK r))/\st=⟨[],[(1,.box b [.v a,.v u] tB),(2,.ho (IS u l))],[Z 0 (.v (str s)),Z 5 (.bx 1 b 0),Z 6 (I i),Z 7 (.v (.int .i32 r)),Z 8 (I n),Z 9 (.v (.bool bad))]⟩) U U (λ k=>?_) (λ k=>?_) ?_<;>try simp only[zb]at k
  ·exact lQ (BD w).sat U U U call225 U (λ w M q=>oL b a u (toStr l) l (q.B9 [1,2] U) J E.symm) U <|A2 H U U U λ w M q=>⟨by rw[j,if_pos k];rfl,q.st.low⟩
  ·rw[if_neg k]at j
   refine A1 U (λ A=>?_) (λ A=>?_)<;>simp only[zb]at A
   ·rw[if_pos A]at j
    exact AJ U call226 U U (λ _ w M q=>AQ9 (A5 s i) w (hg.low q.st.low) Aa) U <|AW _ U U ⟨_,_,_,λ h=>by rw[j,if_pos (eq_of_beq h)],λ h=>⟨Aa,by have:=ne_of_beq_false h;omega,by rw[j,if_neg (ne_of_beq_false h)]⟩,rfl⟩
   ·rw[if_neg A]at j
    refine A1 U (λ C=>?_) (λ C=>?_)<;>simp only[zb]at C
    ·exact AW _ rfl rfl ⟨true,_,_,λ _=>by rw[j,if_pos (.inl C)],λ h=>(by cases h),rfl⟩
    ·exact AW _ U U ⟨_,_,_,λ h=>by simp only[zb]at h;rw[j,if_pos (.inr h)],λ h=>⟨Aa,Aa,by rw[j,if_neg (by simp only[zb]at h;omega)]⟩,rfl⟩
  rintro _ ⟨bad,r,n,F,D,rfl⟩
  refine A1 U (λ k=>?_) (λ k=>?_)
  ·exact A2 H U U U λ w M q=>⟨by rw[F k];rfl,q.st.low⟩
  obtain⟨S,T,G⟩:=D k
  exact AS [1,2] (λ _:Value=>.tu [I (len (DK r)),.v .nilIface]) [] (λ v=>[(1,.box b [.v (EK b),.v v] tB),(2,.ho (IS v (l++DK r)))]) U U call227 U U (λ w M hS hF=>oF b a u l r hS J Aa S) λ V _=>AX (f-1,i+n,EK b,V,l++DK r) U U ⟨Aa,.inr U,G.symm,AR0 hlen T.1,Aa,AR1 r E⟩ Ag
 exact A2 H U U U λ w M q=>⟨by rw[<-hF,mM z];rfl,q.st.low⟩
theorem AR3(c:Int)(w:World):Calls prog 222 [.int .u8 c].toArray w λ e w'=>e= .returned (.bool (F3 c))/\Ext w w':=AH AF func222 U ntmps222 [] [] [.v (.int .u8 c)] U (BD w) A4 (λ B b=>A2 b U U U λ w M h=>⟨rfl,h.st.low⟩) U
theorem AR4(c:Int)(w:World):Calls prog 223 [.int .u8 c].toArray w λ e w'=>e= .returned (.bool (CA c))/\Ext w w':=AH AF func223 U ntmps223 [] [] [.v (.int .u8 c)] U (BD w) A4 (λ B b=>A2 b U U U λ w M h=>⟨rfl,h.st.low⟩) U
theorem oP(s:A0)(w:World)(z:len s<=1099511627776):Calls prog 193 [str s].toArray w λ e w'=>e= .returned (i64 (CZ s 0))/\Ext w w':=by
 have h:=A9 s
 refine AH AF func193 U ntmps193 [] [] [.v (str s)] U (BD w) A4 (λ B y=>B5 (σ:=Int) (λ n=>⟨[],[],[Z 0 (.v (str s)),Z 3 (I n)]⟩) (λ n=>0<=n/\n<=len s/\CZ s n=CZ s 0) (λ n=>(len s-n).toNat) 0 U U ⟨Aa,h,rfl⟩ ?_) U
 rintro n ⟨h0,h1,hw⟩
 refine AJ U call222 U U (λ _ w M i=>AR3 (A3 s n) w) U <|AJ U call223 U U (λ _ w M i=>AR4 (A3 s n) w) U ?_
 refine A1 U (λ b=>?_) (λ b=>?_)<;>simp only[zb]at b
 ·have j:CK (A3 s n) (n==0)=true:=by unfold CK;simp only[zb];exact b.2.imp id λ q=>⟨Aa,q.2⟩
  exact AX (n+1) U U ⟨Aa,Aa,by rw[TU h0 b.1 j,hw]⟩ Ag
 ·have e:CZ s n=n:=by
   by_cases hlt:n<len s
   ·refine TV h0 hlt ?_
    have k:=b.resolve_left Aa
    unfold CK
    simp only[zb]
    refine⟨k.1,?_⟩
    rcases k.2 with l|l
    ·exact .inl Aa
    ·exact .inr l
   ·exact TW hlt
  exact A2 y U U U λ w M i=>⟨by rw[<-hw,e];rfl,i.st.low⟩
theorem AR5(s:A0):Q4 s=(s != []&&CZ s 0==len s):=by
 unfold Q4
 congr 1
 have h:=MB (s:=s) (i:=0) Aa (A9 s)
 rw[Bool.eq_iff_iff,beq_iff_eq,beq_iff_eq]
 constructor
 ·intro e;rw[<-MC,e]
 ·intro e
  unfold BC
  rw[e]
  unfold Eng.sub len;simp
theorem AR6(s:A0)(w:World)(h:len s<=1099511627776):Calls prog 195 [str s].toArray w λ e w'=>e= .returned (.bool (Q4 s))/\Ext w w':=AH AF func195 U ntmps195 [] [] [.v (str s)] U (BD w) A4 (λ B i=>AJ U call193 U U (λ _ w M b=>oP s w h) U <|A2 i U U U λ w M b=>⟨by rw[AR5];rfl,b.st.low⟩) U
theorem Sp.AV (x:Sp):x.cells.length=3:=rfl
theorem Sp.cells_one (x:Sp): ∀u∈x.cells,u.oneCell'=true:=by intro u hu;simp[Sp.cells]at hu;rcases hu with rfl|rfl|rfl<;>rfl
abbrev YK(v:Value)(xs:List Sp):HO:=.own 105 3 v xs.length (xs.flatMap Sp.cells)
end Go.Proofs.YtnoegalemkbbbaaGreatDoor
namespace Go.Eng
open Go.RowKit
theorem PR.SH {α β:Type}{k:α->Int->PR β}{x:α}{j:Int}:(PR.ok x j).bind k=k x j:=rfl
theorem PR.ret {α:Type}(r:PR α):(r.bind λ x j=>.ok x j)=r:=by cases r<;>rfl
theorem PR.assoc {α β γ:Type}(r:PR α)(f:α->Int->PR β)(g:β->Int->PR γ):(r.bind f).bind g=r.bind λ x j=>(f x j).bind g:=by cases r<;>rfl
theorem PR.congr {α β:Type}{r:PR α}{f g:α->Int->PR β}(h: ∀x j,f x j=g x j):r.bind f=r.bind g:=by cases r with|er c p=>rfl|ok x j=>exact h x j
section
variable {c:Cx} {B:Exit->Act->World->Prop} {k k':List Fr} {m:Md} {s s':XS} {O:Prop} {E:List Ck} {all:Array Oper} {rest:List Oper} {d:Nat} {ty:TypeId} {ps:String} {af:Array Edge}
theorem EF{α β γ:Type}(ids n:List Nat)(b:α->γ->XV)(e:α->Int->γ->List (Nat×HX)){i:TypeId}{r:PR α}{kk:α->Int->PR β}{fn:Func}{G:β->Int->Ending->World->Prop}{Rs:List HO}{u:α->γ->Value}{pu:α->Int->γ->Prop}{Fg:α->Int->γ->List (Nat×Kn)}{Hg:α->Int->γ->List HO}
  {q:Operand} {f:FuncId} {y z:List Value} {E1 E2:List Ck} {xs:List Operand} {tys:Array TypeId} {vs:List XV} {A R:List (Nat×HX)} {l:Option Tmp} (C:Ends c.P fn (XA c.w0 c.M0 c.M1 Rs i (r.bind kk) G) B)
  (h:run c.T c.N k m s=⟨k',.ops all (⟨l,.call ⟨.value q,⟨xs⟩,tys⟩,ty,ps,af,none⟩::rest),s',O,E⟩) (D:callee s'.L q=some (f,y,z,E1)) (J:CT c.P f) (hx:JQ s'.L .t xs=some (vs,E2))
  (K:GI ids s'.H=some (A,R)) (S:Rs.Sublist (HD R++c.Hr)) (Q: ∀w M,St c.w0 c.M0 w M (HD A++(HD R++c.Hr))->BH M s'.F->Calls c.P f (y++vs.map XV.d++z).toArray w (XA c.w0 c.M0 M (HD R++c.Hr) i r λ x j=>BJ c.w0 c.M0 M (HD R++c.Hr) (u x) (pu x j) (Fg x j) (Hg x j)))
  (V: ∀x j,r= .ok x j->Ends c.P fn (XA c.w0 c.M0 c.M1 Rs i (kk x j) G) B-> ∀g,pu x j g->XG c B k' (.ops all rest) ⟨PQ n (Fg x j g)++s'.F,e x j g++R,cU l (b x g) s'.L⟩) (hE:AA E:=by exact Ad) (hO:O:=by exact Af) (hd:lE l c.N=true:=by exact rfl) (hE1:AA (E1++E2):=by exact Ad) (hu: ∀x g,(b x g).d=u x g:=by intros;rfl) (hH: ∀x j g,HD (e x j g)=Hg x j g:=by intros;rfl):XG c B k m s:=by
 cases r with
 |er W p=>exact EY ids h (hE:=hE) (hO:=hO) D J hx (hE1:=hE1) K Q λ a w M hs hS hle=>E4 _ (C.p ⟨M,rfl,hS.drop _ S,hle⟩ a hs)
 |ok x j=>exact AS ids (b x) n (e x j) h (hE:=hE) (hO:=hO) D J (hd:=hd) hx (hE1:=hE1) K Q (hu:=hu x) (hH:=hH x j) (V x j U C)
theorem AR7{id:Nat}(hl: ∀Q a w,Q Exit.normal a w->c.W.wp (.label id) Q a w)(h:run c.T c.N k m s=⟨k',.code (.label id),s',O,E⟩)(b:XG c B k' .next s')(hE:AA E:=by exact Ad)(hO:O:=by exact Af):XG c B k m s:=
 CH h hE hO λ a w hs=>hl _ a w (b a w hs)
theorem AR8{σ:Type}{x z:Code}{i q:List Fr}(n:Nat)(J:XS->Prop)(b:σ->XS)(I:σ->Prop)(μ:σ->Nat)(g0:σ)(h:run c.T c.N k m s=⟨k',.code (.loop x),s',O,E⟩)
  (j:RF J k' n=some (i,z,q)) (h0:(⟨JC (b g0).F s'.F,JD (b g0).H s'.H,GH (keys (b g0).L) s'.L⟩:XS)=b g0) (l:I g0)
  (y: ∀g,I g->XG c B (.loop (LJ b I μ g)::i) (.code x) (b g)) (A: ∀s',J s'->XG c B q (.code z) s') (hE:AA E:=by exact Ad) (hO:O:=by exact Af):XG c B k m s:=by
 obtain⟨p,rfl,rfl⟩:=cT j
 have hm: ∀e a w,post c B (.loop J::q) e a w->post c B (.seq z::q) e a w:=λ e a w h=>RG (λ a w ⟨s',C,hs⟩=>A s' C a w hs) (λ _ _ _ h=>h) e a w h
 exact B5 b I μ g0 h (hE:=hE) (hO:=hO) h0 l λ g hg a w hs=>c.W.mono (y g hg a w hs) (M5 hm (.loop (LJ b I μ g)::p))
theorem YL{op:Op}{l:List Oper}{F:List (Nat×Kn)}{H:List (Nat×HX)}{L L':XE}{gd:Option (Nat×Bool)}{W:Gd}(v:XV)(h:JG c.T c.N F H all l L ((0:Int)=0) []=⟨⟨some d,op,ty,ps,af,gd⟩::rest,L',O,E⟩)(hg:(HA all L' gd,Nat.blt d c.N)=(some W,true))
  (hp: ∀w M,D1 c F H w M->PV c.P (λ w'=>Ext w w') L'.d W.d ⟨some d,op,ty,ps,af,gd⟩ v.d) (e:XQ c B k all rest ⟨F,H,(d,W,v)::L'⟩) (hE:AA E:=by exact Ad) (hO:O:=by exact Af):XQ c B k all l ⟨F,H,L⟩:=by
 simp only[Prod.mk.injEq]at hg
 have:=X4 (c:=c) (B:=B) (k:=k) (all:=all) (F:=F) (H:=H) (l:=l) (L:=L) (O:=(0:Int)=0) (E:=[])
 rw[h]at this
 exact(this hO hE λ w M b=>RQ.v (LX hg.1) (hp w M b) hg.2 (e w M b)).2.2
end
end Go.Eng
namespace Go.Proofs.YtnoegalemkbbbaaGreatDoor
open Go.Proofs.Tryz
open Go.Eng
theorem AR9: ∀a:Fin 32,IntKind.i64.wrap (BitVec.ofInt IntKind.i64.bits ((a:Nat):Int)&&& BitVec.ofInt IntKind.i64.bits 1).toNat=(((a:Nat)%2:Nat):Int):=by decide+kernel
theorem AS0(m k:Nat)(h:k<5):((m:Int)).fdiv (2^min ((k:Int)).toNat IntKind.i64.bits)=((m/2^k:Nat):Int):=by
 rw[Int.toNat_natCast,show min k IntKind.i64.bits=k from Nat.min_eq_left (by show k<=64;omega),Int.fdiv_eq_ediv_of_nonneg _ (Int.pow_nonneg Ab),Int.natCast_ediv,Int.natCast_pow];rfl
end Go.Proofs.YtnoegalemkbbbaaGreatDoor
namespace Go.Eng
end Go.Eng
namespace Go.Proofs.YtnoegalemkbbbaaGreatDoor
open Go.Proofs.Tryz
open Go.Eng
abbrev IT(u:Value)(x:Fl):HO:=.priv 52 11 u x.length (x.flatMap Tm.cells)
abbrev DV(u:Value)(x:Fl):HX:=.pv 52 (kn u 11 x Tm.cells) Tm.AV
end Go.Proofs.YtnoegalemkbbbaaGreatDoor
