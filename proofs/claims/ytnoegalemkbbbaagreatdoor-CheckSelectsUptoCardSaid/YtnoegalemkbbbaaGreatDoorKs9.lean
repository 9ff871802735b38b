/- Lemmas for the card. -/
import Derived.Test.YtnoegalemkbbbaaGreatDoorKs8
set_option linter.unusedVariables false
set_option linter.unusedSimpArgs false
set_option maxRecDepth 100000
set_option maxRecDepth 100000
namespace Go.Proofs.YtnoegalemkbbbaaGreatDoor
open Go.Proofs.Tryz
open Go.Eng
abbrev DE(r:Int):List Int:=Lib.encodeRuneZ r
abbrev IK(v:Value)(l:List Int):HO:=.own 5 1 v l.length (l.flatMap BV)
theorem AK5{w0 q:World}{M0 M:Mem}{Rs:List HO}(l:List Int)(r:Int)(v:Value)(hS:St w0 M0 q M (IK v l::Rs))(hl:len l<=70368744177664)(D:128<=r/\r<=1114111):
    Calls prog 275 [v,.int .i32 r].toArray q (BF w0 M0 M Rs (λ u:Value=>u) (λ _=>True) (λ u=>[(0,kn u 1 (l++DE r) BV)]) λ u=>[IK u (l++DE r)]):=by
 have A:=A8 l
 refine AH (Hr:=Rs) (DP.AK2 5 AF) func275 U ntmps275 [(0,kn v 1 l BV)] [(0,.ho (IK v l))] [.sl 0 v,.v (.int .i32 r)] U hS (AD ⟨hS.sl (i:=0) U,FW,trivial⟩ A3) (λ B j=>?_) U
 refine A1 U (λ h1=>?_) (λ h1=>?_)<;>simp only[zb]at h1
 ·refine N1 64 U U U Ab <|N2 (r/64) U U U underlying21 underlying5 (λ _=>by rw[IntKind.wrap_u8];omega) <|GS (192+r/64) U U U (λ _=>u8_or192 _ Aa Aa) <|N2 (r%256) U U U underlying21 underlying5 (λ _=>IntKind.wrap_u8 _) <|GS (r%64) U U U (λ _=>by rw[u8_and63 _ Aa Aa];omega) <|GS (128+r%64) U U U (λ _=>u8_or128 _ Aa Aa) ?_
  rw[show DE r=[192+r/64,128+r%64]from Lib.encodeRuneZ_two Aa Aa]at j
  exact BH 1 [192+r/64,128+r%64] BV 1 5 FW U U Ah U λ v1=>F4 1 U U U underlying216 type5 U U QV (by simp only[AL,len_nil];omega) λ v'=>A2 j U U U λ w M' e=>⟨v',M',rfl,trivial,e.le,e.B6 [0] U,AD (e.f.get (k:=0) U) A3⟩
 ·refine CQ 0 (λ st=> ∃b:Bool,(b=true↔r<55296\/57343<r/\r<=65535)/\st=⟨[(0,kn v 1 l BV)],[(0,.ho (IK v l))],[Z 0 (.sl 0 v),Z 1 (.v (.int .i32 r)),Z 5 (.v (.int .u32 r)),Z 25 (.v (.bool b))]⟩) U U (λ s=>?_) (λ s=>?_) ?_<;>try simp only[zb]at s
  ·exact AT _ U U ⟨_,by simp only[zb];omega,rfl⟩
  ·exact AT _ U U ⟨_,by simp only[zb];omega,rfl⟩
  rintro _ ⟨b,y,rfl⟩
  refine A1 U (λ n=>?_) (λ n=>?_)
  ·have C:=y.1 n
   refine N1 4096 U U U Ab <|N2 (r/4096) U U U underlying21 underlying5 (λ _=>by rw[IntKind.wrap_u8];omega) <|GS (224+r/4096) U U U (λ _=>u8_or224 _ Aa Aa) <|N1 64 U U U Ab <|N2 (r/64%256) U U U underlying21 underlying5 (λ _=>IntKind.wrap_u8 _) <|GS (r/64%64) U U U (λ _=>by rw[u8_and63 _ Aa Aa];omega) <|GS (128+r/64%64) U U U (λ _=>u8_or128 _ Aa Aa) <|N2 (r%256) U U U underlying21 underlying5 (λ _=>IntKind.wrap_u8 _) <|GS (r%64) U U U (λ _=>by rw[u8_and63 _ Aa Aa];omega) <|GS (128+r%64) U U U (λ _=>u8_or128 _ Aa Aa) ?_
   rw[show DE r=[224+r/4096,128+r/64%64,128+r%64]from Lib.encodeRuneZ_three Aa]at j
   exact BH 1 [224+r/4096,128+r/64%64,128+r%64] BV 1 5 FW U U Ah U λ v1=>F4 1 U U U underlying216 type5 U U QV (by simp only[AL,len_nil];omega) λ v'=>A2 j U U U λ w M' e=>⟨v',M',rfl,trivial,e.le,e.B6 [0] U,AD (e.f.get (k:=0) U) A3⟩
  ·have C: ¬(r<55296\/57343<r/\r<=65535):=λ h=>by rw[y.2 h]at n;cases n
   refine A1 U (λ z=>?_) (λ z=>?_)<;>simp only[zb]at z
   ·refine N1 262144 U U U Ab <|N2 (r/262144) U U U underlying21 underlying5 (λ _=>by rw[IntKind.wrap_u8];omega) <|GS (240+r/262144) U U U (λ _=>u8_or240 _ Aa Aa) <|N1 4096 U U U Ab <|N2 (r/4096%256) U U U underlying21 underlying5 (λ _=>IntKind.wrap_u8 _) <|GS (r/4096%64) U U U (λ _=>by rw[u8_and63 _ Aa Aa];omega) <|GS (128+r/4096%64) U U U (λ _=>u8_or128 _ Aa Aa) <|N1 64 U U U Ab <|N2 (r/64%256) U U U underlying21 underlying5 (λ _=>IntKind.wrap_u8 _) <|GS (r/64%64) U U U (λ _=>by rw[u8_and63 _ Aa Aa];omega) <|GS (128+r/64%64) U U U (λ _=>u8_or128 _ Aa Aa) <|N2 (r%256) U U U underlying21 underlying5 (λ _=>IntKind.wrap_u8 _) <|GS (r%64) U U U (λ _=>by rw[u8_and63 _ Aa Aa];omega) <|GS (128+r%64) U U U (λ _=>u8_or128 _ Aa Aa) ?_
    rw[show DE r=[240+r/262144,128+r/4096%64,128+r/64%64,128+r%64]from Lib.encodeRuneZ_four Aa Aa]at j
    exact BH 1 [240+r/262144,128+r/4096%64,128+r/64%64,128+r%64] BV 1 5 FW U U Ah U λ v1=>F4 1 U U U underlying216 type5 U U QV (by simp only[AL,len_nil];omega) λ v'=>A2 j U U U λ w M' e=>⟨v',M',rfl,trivial,e.le,e.B6 [0] U,AD (e.f.get (k:=0) U) A3⟩
   ·rw[show DE r=[239,191,189]from Lib.encodeRuneZ_bad Aa]at j
    exact BH 1 [239,191,189] BV 1 5 FW U U Ah U λ v1=>F4 1 U U U underlying216 type5 U U QV (by simp only[AL,len_nil];omega) λ v'=>A2 j U U U λ w M' e=>⟨v',M',rfl,trivial,e.le,e.B6 [0] U,AD (e.f.get (k:=0) U) A3⟩
theorem AK6{w0 h:World}{M0 M:Mem}{Rs:List HO}(l:List Int)(r:Int)(v:Value)(hS:St w0 M0 h M (IK v l::Rs))(hl:len l<=70368744177664)(n:0<=r/\r<=1114111):
   Calls prog 252 [v,.int .i32 r].toArray h (BF w0 M0 M Rs (λ u:Value=>u) (λ _=>True) (λ u=>[(0,kn u 1 (l++DE r) BV)]) λ u=>[IK u (l++DE r)]):=by
 have j:=A8 l
 refine AH (Hr:=Rs) AF func252 U ntmps252 [(0,kn v 1 l BV)] [(0,.ho (IK v l))] [.sl 0 v,.v (.int .i32 r)] U hS (AD ⟨hS.sl (i:=0) U,FW,trivial⟩ A3) (λ B e=>?_) U
 refine A1 U (λ h1=>?_) (λ h1=>?_)<;>simp only[zb]at h1
 ·rw[show DE r=[r]from Lib.encodeRuneZ_one Aa Aa]at e
  exact BH 1 [r] BV 1 5 FW U U Ah U λ v1=>F4 1 U U U underlying216 type5 U U QV (by simp only[AL,len_nil];omega) λ v'=>A2 e U U U λ w M' b=>⟨v',M',rfl,trivial,b.le,b.B6 [0] U,AD (b.f.get (k:=0) U) A3⟩
 ·exact AP [0] (λ u:Value=>.sl 0 u) [0] (λ u=>[(0,.ho (IK u (l++DE r)))]) U U call275 U U (λ w M hS hF=>AK5 l r v hS hl Aa) λ u _=>A2 e U U U λ w M' b=>⟨u,M',rfl,trivial,b.le,b.B6 [0] U,AD (b.f.get (k:=0) U) A3⟩
abbrev EG(b:Nat):Value:=.pointer (some ⟨b,0,none⟩)
abbrev UX(b:Nat)(a u:Value)(l:List Int):List HO:=[.box b [a,u] 244,IK u l]
abbrev LY(b:Nat)(a u:Value)(l:List Int):List (Nat×HX):=[(1,.box b [.v a,.sl 2 u] 244),(2,.ho (IK u l))]
abbrev dY(w0:World)(M0 M:Mem)(Rs:List HO)(b:Nat)(l:List Int)(u:Value):Ending->World->Prop:=BF w0 M0 M Rs (λ _:Value=>u) (λ _=>True) (λ _=>[]) λ v=>UX b (EG b) v l
theorem AK7{w:World}{b:Nat}{a v x:Value}{t:TypeId}(h:w.heap[b]? =some (.cells #[a,v] t (0,0))):w.setCell ⟨b,0,none⟩ x=w.setRow b #[x,v]:=by
 unfold World.setCell World.setRow
 congr 1
 apply Array.ext_getElem?
 intro i
 by_cases hi:b=i
 ·subst hi;simp[Array.getElem?_modify,h]
 ·simp[Array.getElem?_modify,hi]
theorem dZ{w0 k:World}{M0 M:Mem}{Rs:List HO}(b:Nat)(a v:Value)(hS:St w0 M0 k M (.box b [a,v] tB::Rs))(l:a= .pointer none\/a=EG b):
  Calls prog 251 [EG b].toArray k (BF w0 M0 M Rs (λ u:Value=>u) (λ _=>True) (λ _=>[]) λ _=>[.box b [EG b,v] tB]):=by
 have j:=(hS.obj (i:=0) U).2.1
 rcases l with rfl|rfl
 ·refine(AK4 b k (by simp[World.cell?,j]) (by simp[World.shape?,j]) (by simp[World.frozen?,j])).mono λ e w' ⟨he,hw⟩=>⟨_,M,he,trivial,λ _ _ _ h=>h,?_,A3⟩
  rw[hw,AK7 j]
  exact hS.iP (i:=0) U [EG b,v]
 ·exact(AK3 b k (by simp[World.cell?,j])).mono λ e w' ⟨he,hw⟩=>⟨_,M,he,trivial,λ _ _ _ h=>h,hw▸hS,A3⟩
theorem Y4{w0 e:World}{M0 M:Mem}{Rs:List HO}(b:Nat)(a u:Value)(l:List Int)(x:Int)(hS:St w0 M0 e M (UX b a u l++Rs))(j:a= .pointer none\/a=EG b)(hl:len l<=35184372088832):
  Calls prog 229 [EG b,.int .u8 x].toArray e (dY w0 M0 M Rs b (l++[x]) .nilIface):=AH (Hr:=Rs) AF func229 U ntmps229 [(2,kn u 1 l BV)] (LY b a u l) [.bx 1 b 0,.v (.int .u8 x)] U hS (AD ⟨hS.sl (i:=1) U,FW,trivial⟩ A3) (λ B k=>AP [1] (λ u:Value=>.v u) [] (λ _=>[(1,.box b [.v (EG b),.sl 2 u] tB)]) U U call251 U U (λ w M hS hF=>dZ b a u hS j) λ _ _=>BH 3 [x] BV 1 5 FW U U Ah U λ v3=>F4 1 U U U underlying216 type5 U U QV (by simp only[AL,len_nil];omega) λ v'=>A2 k U U U λ w M' h=>⟨v',M',rfl,trivial,h.le,h.B6 [1,2] U,A3⟩) U
theorem nI{w0 e:World}{M0 M:Mem}{Rs:List HO}(b:Nat)(a u:Value)(l:List Int)(x:A0)(hS:St w0 M0 e M (UX b a u l++Rs))(j:a= .pointer none\/a=EG b)(hl:len l<=35184372088832)(hx:len x<=35184372088832):
  Calls prog 230 [EG b,str x].toArray e (dY w0 M0 M Rs b (l++ints x) (.tuple #[i64 (len x),.nilIface])):=AH (Hr:=Rs) AF func230 U ntmps230 [(2,kn u 1 l BV)] (LY b a u l) [.bx 1 b 0,.v (str x)] U hS (AD ⟨hS.sl (i:=1) U,FW,trivial⟩ A3) (λ B k=>AP [1] (λ u:Value=>.v u) [] (λ _=>[(1,.box b [.v (EG b),.sl 2 u] tB)]) U U call251 U U (λ w M hS hF=>dZ b a u hS j) λ _ _=>AK0 U U U underlying216 underlying9 type5 U U Aa λ v'=>A2 k U U U λ w M' h=>⟨v',M',rfl,trivial,h.le,h.B6 [1,2] U,A3⟩) U
theorem e8(r:Int):1<=len (DE r)/\len (DE r)<=4:=by have:=Lib.encodeRuneZ_length r;unfold len DE;omega
theorem nJ{w0 e:World}{M0 M:Mem}{Rs:List HO}(b:Nat)(a u:Value)(l:List Int)(r:Int)(hS:St w0 M0 e M (UX b a u l++Rs))(j:a= .pointer none\/a=EG b)(hl:len l<=35184372088832)(k:0<=r/\r<=1114111):
  Calls prog 227 [EG b,.int .i32 r].toArray e (dY w0 M0 M Rs b (l++DE r) (.tuple #[i64 (len (DE r)),.nilIface])):=by
 have s:=e8 r
 have n:=A8 l
 exact AH (Hr:=Rs) AF func227 U ntmps227 [(2,kn u 1 l BV)] (LY b a u l) [.bx 1 b 0,.v (.int .i32 r)] U hS (AD ⟨hS.sl (i:=1) U,FW,trivial⟩ A3) (λ B q=>AP [1] (λ u:Value=>.v u) [] (λ _=>[(1,.box b [.v (EG b),.sl 2 u] tB)]) U U call251 U U (λ w M hS hF=>dZ b a u hS j) λ _ _=>AP [2] (λ v:Value=>.sl 2 v) [2] (λ v=>[(2,.ho (IK v (l++DE r)))]) U U call252 U U (λ w M hS hF=>AK6 l r u hS Aa k) λ v _=>A2 q U U U (λ w M' h=>⟨v,M',by rw[AO,show len l+len (DE r)-len l=len (DE r)from by omega];rfl,trivial,h.le,h.B6 [1,2] U,A3⟩) (hO:=by simp only[AO];and_intros<;>first|omega|trivial)) U
def GG(c:Int):Int:=((c.toNat|||32:Nat):Int)
theorem AK8{c:Int}(h0:0<=c)(h1:c<=255):bits .or .u8 c 32=GG c:=u8_or c 32 h0 Aa Ab Ab
def nK(c:Int):Bool:=
 decide (GG c<=255)&&(decide (48<=c/\c<=57)||(if 97<=GG c/\GG c<=122 then(if GG c<=102 then decide (GF c=GG c-87)else decide (GF c= -1))else decide (GF c= -1)))
theorem AK9:(List.range 256).all (λ n=>nK (n:Int))=true:=by decide+kernel
theorem AL0{c:Int}(h0:0<=c)(h1:c<=255):(0<=GG c/\GG c<=255)/\(97<=GG c->GG c<=122-> ¬(48<=c/\c<=57)->(GG c<=102->GF c=GG c-87)/\(102<GG c->GF c= -1))/\
  (¬(97<=GG c/\GG c<=122)-> ¬(48<=c/\c<=57)->GF c= -1):=by
 have h:=List.all_eq_true.1 AK9 c.toNat (List.mem_range.2 Aa)
 rw[show((c.toNat:Nat):Int)=c from by omega]at h
 have k:0<=GG c:=by unfold GG;omega
 unfold nK at h
 simp only[Bool.and_eq_true,Bool.or_eq_true,decide_eq_true_eq]at h
 generalize GG c=y at*
 generalize GF c=z at*
 refine⟨⟨k,h.1⟩,λ e l i=>?_,λ e i=>?_⟩
 ·rcases h.2 with b|b
  ·exact absurd b i
  ·rw[if_pos ⟨e,l⟩]at b
   constructor
   ·intro j;rw[if_pos j]at b;simpa using b
   ·intro j;rw[if_neg Aa]at b;simpa using b
 ·rcases h.2 with b|b
  ·exact absurd b i
  ·rw[if_neg e]at b;simpa using b
theorem AL1{c:Int}(h:48<=c/\c<=57):GF c=c-48:=by unfold GF;rw[if_pos h]
theorem ints_at{s:A0}{k:Int}(h0:0<=k)(h1:k<len s):at' (ints s) k=A4 s k:=by
 have h:k.toNat<s.length:=by unfold len at h1;omega
 simp[at',ints,A4,h]
abbrev PY:A0:=[48,49,50,51,52,53,54,55,56,57,97,98,99,100,101,102,103,104,105,106,107,108,109,110,111,112,113,114,115,116,117,118,119,120,121,122]
theorem AL2: ∀n:Nat,n<16->A4 PY (n:Int)=NZ (n:Int):=by decide+kernel
theorem nL{n:Int}(h0:0<=n)(h1:n<16):A4 PY n=NZ n:=by
 have:=AL2 n.toNat Aa
 rwa [show((n.toNat:Nat):Int)=n from by omega]at this
theorem nN(x:Int)(h0:0<=x)(h1:x<18446744073709551616):bits .and .u64 x 15=x%16:=by
 rw[u64_and x 15 h0 h1 Ab Ab]
 have h:x.toNat&&& 15=x.toNat%16:=Nat.and_two_pow_sub_one_eq_mod x.toNat 4
 show((x.toNat&&& (15:Nat):Nat):Int)=_
 rw[h];omega
theorem AL3{l:A0}{k:Int}(hl:len l=4)(h0:0<=k)(h1:k<4)(h:EF (Eng.sub l 0 k)=true):0<=F7 (Eng.sub l 0 k)/\F7 (Eng.sub l 0 k)<=4095:=
 AI5 h (by rw[FF Aa Aa Aa];omega)
open Go.Eng Go.RowKit
theorem nO{P:Program}{f:FuncId}{args:Array Value}{w:World}{u:Value}(h:Calls P f args w λ e w'=>e= .returned u/\w'=w):Calls P f args w λ e w'=>e= .returned u/\Ext w w':=h.mono λ e w' ⟨h1,b⟩=>⟨h1,by rw[b];exact .refl _⟩
theorem nP{w0 e:World}{M0 M:Mem}{Rs:List HO}(hS:St w0 M0 e M Rs):
  Calls prog 249 [].toArray e (BF w0 M0 M Rs (λ b:Nat=>.map (some b)) (λ _=>True) (λ _=>[]) λ b=>[.raw b (BO .u8 C7 8)]):=AH (Hr:=Rs) AF func249 U ntmps249 [] [] [] U hS A3 (λ B i=>nG 1 .u8 U λ b=>MZ true 1 1 (C7.take 1) U U U U U underlying271 underlying5 U U <|MZ true 1 2 (C7.take 2) U U U U U underlying271 underlying5 U U <|MZ true 1 3 (C7.take 3) U U U U U underlying271 underlying5 U U <|MZ true 1 4 (C7.take 4) U U U U U underlying271 underlying5 U U <|MZ true 1 5 (C7.take 5) U U U U U underlying271 underlying5 U U <|MZ true 1 6 (C7.take 6) U U U U U underlying271 underlying5 U U <|MZ true 1 7 (C7.take 7) U U U U U underlying271 underlying5 U U <|MZ true 1 8 (C7.take 8) U U U U U underlying271 underlying5 U U <|A2 i U U U λ w M' h=>⟨b,M',rfl,trivial,h.le,h.B6 [1] U,A3⟩) U
theorem AL4{w0 k:World}{M0 M:Mem}{Rs:List HO}(hS:St w0 M0 k M Rs):
    Calls prog 228 [].toArray k (BF w0 M0 M Rs (λ g:Nat×List KV×Nat=>.map (some g.1)) (λ g=> ∀r,(C4 g.2.1 r).getD (.int .u8 0)= .int .u8 (K3 r)/\(C4 g.2.1 r).isSome=K2 r) (λ _=>[]) λ g=>[.raw g.1 (BO .i32 g.2.1 g.2.2)]):=by
 refine AH (Hr:=Rs) AF func228 U ntmps228 [] [] [] U hS A3 (λ B z=>nG 1 .i32 U λ b=>AP [] (λ b:Nat=>.v (.map (some b))) [] (λ b=>[(5,.ho (.raw b (BO .u8 C7 8)))]) U U call249 U U (λ w M hS hF=>nP hS) λ n _=>AJ7 5 6 U U U underlying271 λ r=>?_) U
 refine B7 (σ:=Array Nat×Nat×List KV×Nat) (λ(h,c0,l,cl)=>⟨[],[(1,.ho (.raw b (BO .i32 l cl))),(5,.ho (.raw n (BO .u8 C7 8))),(6,.ho (.raw r (.mapIter (some n) 8 h c0)))],[Z 1 (.v (.map (some b))),Z 6 (.v (.pointer (some ⟨r,0,none⟩)))]⟩)
   (λ(h,c0,l,_)=>8<=c0/\Lets h l) (λ(h,_)=>(C7.filter (λ q=> !h.contains q.born)).length) (#[],8,[],0) U U ⟨Nat.le_refl _,AC0⟩ ?_
 rintro⟨h,c0,l,cl⟩ ⟨A,s⟩
 refine AJ8 5 6 U U U U AA9 A (λ p hp i=>?_) (λ j=>?_)
 ·exact A1 rfl (λ e=>AJ9 5 6 p (.int .i32 (F6 p)) U U U U U hp lK (AA8 p hp) <|MZ false 1 _ _ U U U U U underlying249 underlying21 U U <|AX (h.push p.born,8,LB l cl (F6 p) (.int .u8 p.key),P4 l cl (F6 p) (.int .u8 p.key)) U U ⟨Nat.le_refl _,s.step hp i⟩ (AB6 hp i)) (λ e=>by cases e)
 exact A1 rfl (λ e=>by cases e) (λ _=>AJ6 1 (HZ l 47) U U U U underlying249 underlying21 U <|A2 z U U U λ w M' y=>⟨(b,HZ l 47,cl),M',rfl,AB5 s j,y.le,y.B6 [1] U,A3⟩)
theorem AL5(w:World):Calls prog 298 [i64 16].toArray w λ e w'=>e= .returned (.bool true)/\Ext w w':=AH AF func298 U ntmps298 [] [] [I 16] U (BE w) A3 (λ B b=>GS 0 U U U (λ _=>by decide) <|A2 b U U U λ w M h=>⟨rfl,h.st.low⟩) U
theorem AL6(w:World)(hg:Gl w):Calls prog 324 [.int .u64 16].toArray w λ e w'=>e= .returned (i64 4)/\Ext w w':=AH AF func324 U ntmps324 [] [] [.sl 9 (.int .u64 16)] U (BE w) A3 (λ B h=>AR (.v (.bool false)) U U (λ w M b=>.eql (A7 (v:=.sl 9 (.int .u64 16)) (E:=[]) U) (A7 (v:=.v (.int .u64 0)) (E:=[]) U)) <|A1 rfl (λ i=>by cases i) (λ _=>AR (.v (.int .u64 18446744073709551600)) U U (λ w M b=>.iL (A7 (v:=.sl 9 (.int .u64 16)) (E:=[]) U) (λ _=>by decide)) <|AR (.v (.int .u64 16)) U U (λ w M b=>.dS (A7 (v:=.sl 9 (.int .u64 16)) (E:=[]) U) (A7 (v:=.v (.int .u64 18446744073709551600)) (E:=[]) U) (λ _=>by decide)) <|N1 288230376151711744 U U U Ab <|AR (.v (.pointer (some ⟨7,15,none⟩))) U U (λ w M b=>PV.jE 15 (A7 (v:=.v (.pointer (some ⟨7,0,none⟩))) (E:=[]) U) (A7 (v:=.v (.int .u64 (16*285870213051353865/288230376151711744))) (E:=[]) U) underlying342 sizeOf5 (λ _=>rfl) U) <|AR (.v (.int .u8 4)) U U (λ w M b=>.VY (A7 (v:=.v (.pointer (some ⟨7,15,none⟩))) (E:=[]) U) isAgg5 (λ _ w0 h0=>h0▸(hg.low b.st.low).deb)) <|A2 h U U U λ w M b=>⟨rfl,b.st.low⟩)) U
theorem AL7(w:World)(hg:Gl w):Calls prog 299 [.int .u64 16].toArray w λ e w'=>e= .returned (i64 4)/\Ext w w':=AH AF func299 U ntmps299 [] [] [.v (.int .u64 16)] U (BE w) A3 (λ B h=>A1 rfl (λ i=>by cases i) (λ _=>AJ U call324 U U (λ _ w M b=>AL6 w (hg.low b.st.low)) U <|A2 h U U U λ w M b=>⟨rfl,b.st.low⟩)) U
def O8(r:Int):A0:=[49,(NZ (r/16)).toNat.toUInt8,(NZ (r%16)).toNat.toUInt8]
theorem AL8(r:Int)(q:Bool)(w:World)(hg:Gl w)(h:0<=r/\r<32)(y:q=false):Calls prog 279 [.slice none 0 0,.int .u64 (r+256),i64 16,.bool q,.bool false].toArray w λ e w'=>e= .returned (.tuple #[.slice none 0 0,str (O8 r)])/\Ext w w':=by
 subst y
 refine AH AF func279 U ntmps279 [] [] [.v (.slice none 0 0),.v (.int .u64 (r+256)),I 16,.v (.bool false),.v (.bool false)] U (BE w) A3 (λ B z=>?_) U
 have hd:=nL (n:=(r+256)%16) Aa Aa
 have l:=nL (n:=(r+256)/16%16) Aa Aa
 refine A1 U (λ j=>absurd j Ab) (λ _=>B9 12 U zeroValue304 U λ b=>A1 rfl (λ j=>by cases j) (λ _=>AJ U call298 U U (λ _ w M k=>AL5 w) U <|A1 rfl (λ _=>AJ U call299 U U (λ _ w M k=>AL7 w (hg.low k.st.low)) U ?_) (λ j=>by cases j)))
 let c0:XV:=.v (.int .u8 (A4 PY ((r+256)%16)))
 let s:XV:=.v (.int .u8 (A4 PY ((r+256)/16%16)))
 refine B7 (σ:=List XV×Int×Int) (λ(cs,u,p)=>⟨[],[(12,.box b cs 304)],[Z 1 (.v (.int .u64 u)),Z 3 (.v (.bool false)),Z 4 (.v (.bool false)),Z 10 (.v (.slice none 0 0)),Z 12 (.bx 12 b 0),Z 13 (I p),Z 14 (.v (.int .u64 4)),Z 15 (.v (.int .u64 16)),Z 16 (.v (.int .u64 15))]⟩)
   (λ g=>g=(List.replicate 65 (.v (.int .u8 0)),r+256,65)\/g=(List.replicate 64 (.v (.int .u8 0))++[c0],(r+256)/16,65-1)\/g=(List.replicate 63 (.v (.int .u8 0))++[s,c0],(r+256)/16/16,65-1-1)) (λ g=>g.2.2.toNat) (List.replicate 65 (.v (.int .u8 0)),r+256,65) U U (.inl U) ?_
 rintro _ (rfl|rfl|rfl)
 ·refine A1 U (λ _=>GS ((r+256)%16) U U U (λ _=>nN _ Aa Aa) <|dU 64 U U U underlying304 sizeOf5 U (λ _=>rfl) ?_ (hO:=⟨⟨Aa,by show _<(36:Int);omega⟩,Ab⟩)) (λ j=>by simp only[zb]at j;omega)
  exact N1 16 U U U Ab <|AX (List.replicate 64 (.v (.int .u8 0))++[c0],(r+256)/16,65-1) U U (.inr (.inl U)) (by exact(by decide:(64:Int).toNat<(65:Int).toNat))
 ·refine A1 U (λ _=>GS (((r+256)/16)%16) U U U (λ _=>nN _ Aa Aa) <|dU 63 U U U underlying304 sizeOf5 U (λ _=>rfl) ?_ (hO:=⟨⟨Aa,by show _<(36:Int);omega⟩,Ab⟩)) (λ j=>by simp only[zb]at j;omega)
  exact N1 16 U U U Ab <|AX (List.replicate 63 (.v (.int .u8 0))++[s,c0],(r+256)/16/16,65-1-1) U U (.inr (.inr U)) (by exact(by decide:(63:Int).toNat<(64:Int).toNat))
 refine A1 U (λ j=>by simp only[zb]at j;omega) (λ _=>dU 62 U U U underlying304 sizeOf5 U (λ _=>rfl) ?_ (hO:=⟨⟨Aa,by show _<(36:Int);omega⟩,Ab⟩))
 refine A1 rfl (λ j=>by cases j) (λ _=>A1 rfl (λ j=>by cases j) (λ _=>AR (.v (.slice (some ⟨b,62,none⟩) 3 3)) U U (λ w M k=>PV.y5 62 3 (A7 (v:=.bx 12 b 0) (E:=[]) U) (A7 (v:=I (65-1-1-1)) (E:=[]) U) underlying304 sizeOf5 (λ _=>rfl) U U) <|AR (.v (str (toStr [A4 PY ((r+256)/16/16),A4 PY ((r+256)/16%16),A4 PY ((r+256)%16)]))) U U (λ w M k=>PV.y7 k.st GZ (i:=0) U (A7 (v:=.v (.slice (some ⟨b,62,none⟩) 3 3)) (E:=[]) U) U U underlying216 underlying5 underlying9) <|A2 z U U U λ w M k=>⟨?_,k.st.low⟩))
 rw[hd,l,show(r+256)/16/16=1 from by omega,show(r+256)%16=r%16 from by omega,show(r+256)/16%16=r/16 from by omega];rfl
theorem AL9(r:Int)(w:World)(hg:Gl w)(h:0<=r/\r<32):Calls prog 253 [i64 (r+256),i64 16].toArray w λ e w'=>e= .returned (str (O8 r))/\Ext w w':=AH AF func253 U ntmps253 [] [] [I (r+256),I 16] U (BE w) A3 (λ B i=>A1 rfl (λ j=>by cases j) (λ _=>AJ U call279 U U (λ _ w M b=>AL8 r _ w (hg.low b.st.low) h (by simp;omega)) U <|A2 i U U U λ w M b=>⟨rfl,b.st.low⟩)) U
theorem AM0(r:Int)(w:World)(hg:Gl w)(h:0<=r/\r<32):Calls prog 231 [i64 (r+256),i64 16].toArray w λ e w'=>e= .returned (str (O8 r))/\Ext w w':=AH AF func231 U ntmps231 [] [] [I (r+256),I 16] U (BE w) A3 (λ B i=>AJ U call253 U U (λ _ w M b=>AL9 r w (hg.low b.st.low) h) U <|A2 i U U U λ w M b=>⟨rfl,b.st.low⟩) U
theorem nQ{w0 j:World}{M0 M:Mem}{Rs:List HO}(b:Nat)(a v:Value)(bs:A0)(l:List Int)(hS:St w0 M0 j M (UX b a v l++Rs))(w:a= .pointer none\/a=EG b)(hl:l=ints bs):
  Calls prog 225 [EG b].toArray j λ e w'=>e= .returned (str bs)/\Ext w0 w':=by
 subst hl
 have n:=hS.obj (i:=0) U
 have ho:=(hS.obj (i:=1) U).1
 have k:v.ownBlock≠some b:=by
  have:=hS.apart
  rw[List.cons_append,List.pairwise_cons]at this
  exact this.1 (HO.own 5 1 v (ints bs).length ((ints bs).flatMap BV)) (by simp) b U
 have q:(ints bs).flatMap BV=Lib.byteCells bs:=by rw[TL];unfold ints;rw[List.map_map];rfl
 have e2:(ints bs).length=(Lib.byteCells bs).length:=by rw[<-q,D5 BV 1 FW,Nat.mul_one]
 rw[q,e2]at ho
 have s: ∀a',a=a'->Lib.BuilderAt tB 5 w0.heap.size b a' (Lib.byteCells bs) j:=λ a' h=>⟨n.1,v,h▸n.2.1,ho,k⟩
 refine(Tryz.Builder_String_any w0.heap.size b bs j ?_ hS.size).mono λ e w' ⟨he,hw⟩=>⟨he,hS.low.trans hw⟩
 rcases w with h|h
 ·exact .inl (s _ h)
 ·exact .inr (s _ h)
theorem AM1(s:A0)(w:World)(hg:Gl w)(q:len s<=1099511627776):Calls prog 196 [str s].toArray w λ e w'=>e= .returned (str (DZ s))/\Ext w w':=by
 have F:=A8 s
 refine AH AF func196 U ntmps196 [] [] [.v (str s)] U (BE w) A3 (λ B G=>B9 1 U zeroValue244 U λ b=>AP [] (λ g:Nat×List KV×Nat=>.v (.map (some g.1))) [] (λ g=>[(4,.ho (.raw g.1 (BO .i32 g.2.1 g.2.2)))]) U U call228 U U (λ w M hS hF=>AL4 hS) λ g k=>?_) U
 obtain⟨E,H,J⟩:=g
 refine WZ 2 5 1 BV FW <|AP [1,2] (λ _:Value=>.v .nilIface) [] (λ v=>LY b (EG b) v (([]:List Int)++[34])) U U call229 U U (λ w M hS hF=>Y4 b _ _ (([]:List Int)) (34) hS (.inl U) (by first|omega|(simp only[AO,AL,len_nil];omega))) λ K _=>AJ4 12 U U underlying9 λ r=>?_
 refine B7 (σ:=Int×Value×List Int) (λ(p,u,l)=>⟨[],[(1,.box b [.v (EG b),.sl 2 u] tB),(2,.ho (IK u l)),(4,.ho (.raw E (BO .i32 H J))),(12,.ho (.raw r (.stringIter ⟨⟨s⟩⟩ p.toNat)))],[Z 3 (.bx 1 b 0),Z 4 (.v (.map (some E))),Z 12 (.v (.pointer (some ⟨r,0,none⟩)))]⟩)
   (λ(p,u,l)=>0<=p/\p<=len s/\l++ints (GR s p)=ints (34::GR s 0)/\len l<=6*p+1) (λ(p,_)=>(len s-p).toNat) (0,K,[34]) U U ⟨Aa,Aa,rfl,Ab⟩ ?_
 rintro⟨p,u,l⟩ ⟨h0,h1,hF,hlen⟩
 have L:=UK s p h0
 have h:=cN s p
 have N:=A8 l
 have O:=e8 (B2 s p)
 refine AJ5 12 U U U h0 (λ A=>?_) (λ C=>?_)
 ·have i:=cL h0 A
  refine A1 rfl (λ _=>nH 4 (.int .u8 (K3 (B2 s p))) (K2 (B2 s p)) U U U U U underlying249 underlying21 zeroValue5 (k _) <|A1 U (λ y=>?_) (λ y=>?_)) (λ q=>by cases q)
  ·exact AP [1,2] (λ _:Value=>.v .nilIface) [] (λ v=>LY b (EG b) v (l++[92])) U U call229 U U (λ w M hS hF=>Y4 b _ u (l) (92) hS (.inr U) (by first|omega|(simp only[AO,AL,len_nil];omega))) λ j _=>AP [1,2] (λ _:Value=>.v .nilIface) [] (λ v=>LY b (EG b) v ((l++[92])++[K3 (B2 s p)])) U U call229 U U (λ w M hS hF=>Y4 b _ j ((l++[92])) (K3 (B2 s p)) hS (.inr U) (by first|omega|(simp only[AO,AL,len_nil];omega))) λ D _=>AX (p+runeLen s p,D,l++[92]++[K3 (B2 s p)]) U U ⟨Aa,Aa,by rw[<-hF,i,TN,AC2 y];simp[List.append_assoc],by simp only[AO,AL,len_nil];omega⟩ Ag
  refine A1 U (λ z=>?_) (λ z=>?_)<;>simp only[zb]at z
  ·exact AP [1,2] (λ _:Value=>.tu [I (len [92,117,48,48]),.v .nilIface]) [] (λ v=>LY b (EG b) v (l++ints [92,117,48,48])) U U call230 U U (λ w M hS hF=>nI b _ u (l) [92,117,48,48] hS (.inr U) (by first|omega|(rw[AO];show len l+4<=_;omega)) Ab) λ j _=>AJ U call231 U U (λ _ w M n=>AM0 (B2 s p) w (hg.low n.st.low) ⟨h.1,z⟩) U <|AP [1,2] (λ _:Value=>.tu [I (len (A5 (O8 (B2 s p)) 1)),.v .nilIface]) [] (λ v=>LY b (EG b) v ((l++ints [92,117,48,48])++ints (A5 (O8 (B2 s p)) 1))) U U call230 U U (λ w M hS hF=>nI b _ j ((l++ints [92,117,48,48])) (A5 (O8 (B2 s p)) 1) hS (.inr U) (by first|omega|(rw[AO];show len l+4<=_;omega)) (by show(2:Int)<=_;decide)) (hO:=by and_intros<;>first|omega|(show(1:Int)<=3;decide)|trivial) λ D _=>AX (p+runeLen s p,D,l++ints [92,117,48,48]++ints (A5 (O8 (B2 s p)) 1)) U U ⟨Aa,Aa,by rw[<-hF,i,TN,AC3 y z h.1];simp[List.append_assoc,O8],by simp only[AO,jC];show len l+4+2<=_;omega⟩ Ag
  ·exact AP [1,2] (λ _:Value=>.tu [I (len (DE (B2 s p))),.v .nilIface]) [] (λ v=>LY b (EG b) v (l++DE (B2 s p))) U U call227 U U (λ w M hS hF=>nJ b _ u l _ hS (.inr U) Aa h) λ j _=>AX (p+runeLen s p,j,l++DE (B2 s p)) U U ⟨Aa,Aa,by rw[<-hF,i,TN,AC4 y Aa];simp[List.append_assoc],by rw[AO];omega⟩ Ag
 exact A1 rfl (λ q=>by cases q) (λ _=>AP [1,2] (λ _:Value=>.v .nilIface) [] (λ v=>LY b (EG b) v (l++[34])) U U call229 U U (λ w M hS hF=>Y4 b _ u (l) (34) hS (.inr U) (by first|omega|(simp only[AO,AL,len_nil];omega))) λ j _=>kW (BE w).sat U U U call225 U (λ w M n=>nQ b _ j (DZ s) (l++[34]) (n.B6 [1,2] U) (.inr U) (by unfold DZ;rw[TN,<-hF,cM C];simp[ints])) U <|A2 G U U U λ w M n=>⟨rfl,n.st.low⟩)
end Go.Proofs.YtnoegalemkbbbaaGreatDoor
namespace Go.Eng
open Go.RowKit
def KN(r:Int):Int:=if r=43 then 0 else if r=45 then 1 else if r=95 then 2 else-1
theorem Y5(r:Int):KN r<0↔ ¬(r=43\/r=45\/r=95):=by unfold KN;(repeat' split)<;>omega
theorem AM2: ∀n:Fin 256,Lib.indexByte [43,45,95] (UInt8.ofNat n.val)=KN (n.val:Int):=by decide+kernel
theorem ixb{r:Int}(h0:0<=r)(h1:r<256):Lib.indexByte [43,45,95] r.toNat.toUInt8=KN r:=by
 have:=AM2 ⟨r.toNat,Aa⟩
 have e:((r.toNat:Nat):Int)=r:=by omega
 simp only[e]at this
 exact this
theorem AM4{l:A0}{c:Int}(hl: ∀b∈l,b.toNat<128)(h0:128<=c)(h1:c<=255):Lib.indexByte l c.toNat.toUInt8<0:=by
 rcases Int.lt_or_le (Lib.indexByte l c.toNat.toUInt8) 0 with h|h
 ·exact h
 ·exfalso
  induction l with
  |nil=>exact dK _ h
  |cons a l j=>
   rcases(dL a _ l).1 h with i|i
   ·have:=hl a (by simp)
    subst i
    have e:(c.toNat.toUInt8).toNat=c.toNat:=by simp;omega
    omega
   ·exact j (λ b k=>hl b (by simp[k])) i
theorem AM5(k:Int): ∀b∈A5 ([43,45,95]:A0) k,b.toNat<128:=by
 intro b e
 have:=List.mem_of_mem_drop e
 simp at this
 rcases this with rfl|rfl|rfl<;>decide
theorem nR(k:Int):A4 ([43,45,95]:A0) k<128:=by
 unfold A4
 rcases Nat.lt_or_ge k.toNat 3 with h|h
 ·have:k.toNat=0\/k.toNat=1\/k.toNat=2:=by omega
  rcases this with b|b|b<;>rw[b]<;>decide
 ·have:([43,45,95]:A0).getD k.toNat 0=0:=by simp[List.getD_eq_getElem?_getD,List.getElem?_eq_none (show([43,45,95]:A0).length<=k.toNat from h)]
  rw[this];decide
def S7(l:A0)(p:Int):Prop:= ∀j:Int,0<=j->j<p->KN (A4 l j)<0
theorem S7.step {l:A0}{p:Int}(h:S7 l p)(h0:0<=p)(h1:p<len l)(q:KN (B2 l p)<0):S7 l (p+runeLen l p):=by
 intro j e s
 rcases Int.lt_or_le j p with n|n
 ·exact h j e n
 ·rcases LP h0 h1 with⟨_,_,w,y⟩|⟨w,y,_,z,A,B⟩
  ·have:j=p:=by omega
   subst this;rw[Y5];omega
  ·rcases Int.lt_or_le (A4 l p) 128 with i|i
   ·obtain⟨F,C⟩:=A i
    have:j=p:=by omega
    subst this;rw[<-C];exact q
   ·have hle:=rune_le l p h1
    have hm:=n9 (B i)
    rw[z]at hm
    have k:j.toNat<l.length:=by unfold len at hle;omega
    have b:l[j.toNat]∈Eng.sub l p (p+rune l p):=by
     unfold Eng.sub
     rw[List.mem_take_iff_getElem]
     refine⟨j.toNat-p.toNat,by rw[List.length_drop];omega,?_⟩
     rw[List.getElem_drop];congr 1;omega
    have D:=hm _ b
    have E:A4 l j=(l[j.toNat].toNat:Int):=by simp[A4,k]
    rw[Y5];omega
theorem S7.AM6 {l:A0}{p:Int}(h:S7 l p)(hp:len l<=p):l.any (λ b=>([43,45,95]:A0).contains b)=false:=by
 rw[List.any_eq_false]
 intro b k i
 obtain⟨j,n,rfl⟩:=List.getElem_of_mem k
 have:=h (j:Int) Aa (by unfold len at hp;omega)
 rw[Y5]at this
 have e:A4 l (j:Int)=(l[j].toNat:Int):=by simp[A4,n]
 apply this
 simp only[List.contains_cons,List.contains_nil,Bool.or_false,Bool.or_eq_true,beq_iff_eq]at i
 rw[e]
 rcases i with h|h|h<;>rw[h]<;>decide
theorem AM7{l:A0}{p:Int}(h0:0<=p)(h1:p<len l)(k: ¬KN (B2 l p)<0):l.any (λ b=>([43,45,95]:A0).contains b)=true:=by
 rw[Y5]at k
 have q:B2 l p=43\/B2 l p=45\/B2 l p=95:=by omega
 have j:A4 l p=43\/A4 l p=45\/A4 l p=95:=by
  rcases q with h|h|h
  ·exact .inl ((J9 h0 h1 Ab).1 h)
  ·exact .inr (.inl ((J9 h0 h1 Ab).1 h))
  ·exact .inr (.inr ((J9 h0 h1 Ab).1 h))
 have hp:p.toNat<l.length:=by unfold len at h1;omega
 have e:A4 l p=(l[p.toNat].toNat:Int):=by simp[A4,hp]
 rw[List.any_eq_true]
 refine⟨l[p.toNat],List.getElem_mem hp,?_⟩
 simp only[List.contains_cons,List.contains_nil,Bool.or_false,Bool.or_eq_true,beq_iff_eq]
 rw[e]at j
 have i: ∀(b:UInt8) (n:Nat),(b.toNat:Int)=n->n<256->b=UInt8.ofNat n:=λ b n h s=>by rw[<-UInt8.toNat_inj];simp[Nat.mod_eq_of_lt s];omega
 rcases j with h|h|h
 ·exact .inl (i _ 43 h Aa)
 ·exact .inr (.inl (i _ 45 h Aa))
 ·exact .inr (.inr (i _ 95 h Aa))
theorem AM8(s:A0)(p:Int):B2 s p<55296\/57343<B2 s p:=by
 have h:(Utf8.decode ⟨⟨s⟩⟩ p.toNat).1<55296\/(57343<(Utf8.decode ⟨⟨s⟩⟩ p.toNat).1/\(Utf8.decode ⟨⟨s⟩⟩ p.toNat).1<=1114111):=by
  rw[Lib.decode_at];exact Lib.decodeN_valid _ _ _ _ _ (UInt8.toNat_lt _)
 unfold B2;omega
end Go.Eng
namespace Go.Proofs.YtnoegalemkbbbaaGreatDoor
open Go.Proofs.Tryz
open Go.Eng
theorem AM9{s:A0}{p:Int}(h0:0<=p)(h1:p<len s)(h:A4 s p<128):B2 s p=A4 s p:=(iX h0 h1 h).1
theorem AN0(r:Int)(w:World):Calls prog 341 [.int .i32 r].toArray w λ e w'=>e= .returned (.bool (Lib.validRune r))/\w'=w:=Tryz.utf8_ValidRune r w
theorem AN1(r:Int)(w:World)(V:0<=r/\r<=1114111/\(r<55296\/57343<r)):
  Calls prog 319 [(str [43,45,95]),(.int .i32 r)].toArray w λ e w'=>e= .returned (i64 (KN r))/\Ext w w':=by
 refine CW.NQ func319 U ntmps319 (Nat.le_of_ble_eq_true U) λ Q hE=>?_
 have z:len ([43,45,95]:A0)=3:=rfl
 have hx:128<=r->KN r= -1:=λ h=>by unfold KN;rw[if_neg Aa,if_neg Aa,if_neg Aa]
 have A:Utf8.valid r=true:=by unfold Utf8.valid;simp;omega
 have k:=λ h=>xY A (r:=r) h
 have B:=L7 (DB r) (len (DB r)-1)
 have hS:St w nM w nM []:=Aj ⟨λ _ _ _ h=>by cases h⟩
 refine CW.weaken [0,1] (L':=[Y 0 (str [43,45,95]),Y 1 (.int .i32 r)]) ?_ U
 refine CW.sr (RL.u (.assign .c) U (RL.nil (CW.id (CW.block ?_))))
 refine CW.sr (RL.m U U (RL.u (.leq .c (.t U)) U (RL.m U U (RL.v (.pos U U) (.move (.t U)) U (RL.v (.pos U U) (.lss (.g U (λ h=>h)) .c) U (RL.u (.and (.t U) (.g U (λ h=>h))) U (RL.a U U (RL.nil (CW.id ?_)))))))))
 refine CW.cond rfl ?_ ?_<;>intro C<;>try simp only[zb]at C
 ·refine CW.sr (RL.m U U (RL.m U U (RL.u (.ZR (r:=r) (.t U) underlying21 underlying5 (λ _=>by exact Eng.wrap_u8 Aa)) U ?_)))
  refine RL.ZT .none call198 (.cons (.t U) (.cons (.t U) .nil)) (λ _=>(cG [43,45,95] r _)) U <|RL.a U U <|RL.nil (CW.at [Y 4 (i64 (Lib.indexByte [43,45,95] r.toNat.toUInt8))] U (CW.ret (hE.r1 U U ?_)))
  exact⟨by rw[ixb Aa Aa],hS.low⟩
 ·refine CW.sr (RL.m U U (RL.u (.eql (.t U) .c) U (RL.a U U (RL.nil (CW.id ?_)))))
  refine CW.cond rfl ?_ ?_<;>intro D<;>try simp only[zb]at D
  ·refine CW.seq (CW.sr (RL.m U U ?_))
   refine RL.ZZ (s:=[43,45,95]) hS (.t U) underlying9 U (λ w1 E F=>RL.nil (CW.id (CW.block ?_)))
   refine CW.loop (σ:=Int) (λ p=>[Y 175 (.pointer (some ⟨E,0,none⟩))]) (λ p wl=>St w nM wl nM [.raw E (.stringIter ⟨⟨[43,45,95]⟩⟩ ((p:Int)).toNat)]/\0<=p/\p<=3) (λ p=>(3-p).toNat) 0 [175] U ?_ ?_
   ·refine⟨F,?_⟩;exact⟨Aa,Aa⟩
   ·rintro p wl ⟨l,h0,h1⟩
    have P:=UK ([43,45,95]:A0) p h0
    refine CW.sr <|RL.a6 (s:=[43,45,95]) (p:=p) l (i:=0) U (.t U) Aa U (λ G R b=>?_) (λ S=>?_)
    ·replace b:St w nM R nM [.raw E (.stringIter ⟨⟨[43,45,95]⟩⟩ ((p+runeLen [43,45,95] p:Int)).toNat)]:=b
     refine RL.u (.ex (.t U) U) U (RL.nil (CW.id ?_))
     refine CW.seq (CW.cond rfl (λ _=>CW.skip (CW.id (CW.block (CW.sr (RL.u (.ex (.t U) U) U (RL.u (.ex (.t U) U) U (RL.a U U (RL.a U U (RL.nil (CW.id ?_)))))))))) (λ h=>by cases h))
     refine CW.sr (RL.m U U (RL.u (.eql (.t U) .c) U (RL.nil (CW.id ?_))))
     refine CW.cond rfl ?_ ?_<;>intro H<;>try simp only[zb]at H
     ·refine CW.sr (RL.m U U (RL.a U U (RL.nil (CW.id (CW.ret (hE.r1 U U ?_))))))
      exfalso;have n:=nR p;have T:=AM9 (s:=[43,45,95]) h0 G n;omega
     ·refine CW.skip λ a hs=>Exists.intro (p+runeLen [43,45,95] p) ⟨hs.G6 [175],?_,?_⟩
      ·refine⟨b,?_⟩
       exact⟨Aa,Aa⟩
      ·show Int.toNat _<Int.toNat _;omega
    ·refine RL.u (.ex (.t U) U) U (RL.nil (CW.id ?_))
     refine CW.seq (CW.cond rfl (λ h=>by cases h) (λ _=>(CW.exit (CW.at [] rfl (CW.sr ?_)))))
     refine RL.u (.assign .c) U (RL.nil (CW.id ?_))
     refine CW.ret (hE.r1 U U ?_)
     exact⟨by rw[hx Aa],l.low⟩
  ·refine CW.sr (RL.m U U ?_)
   refine RL.ZT .none call341 (.cons (.t U) .nil) (λ _=>(AN0 r _)) U <|RL.u (.not (.t U)) U (RL.a U U ?_)
   refine RL.nil (CW.at [Y 0 (str [43,45,95]),Y 1 (.int .i32 r),Y 4 (i64 0),Y 183 (.bool (!(Lib.validRune r)))] U ?_)
   refine CW.cond rfl ?_ ?_<;>intro j<;>try simp only[zb]at j
   ·refine CW.sr (RL.u (.assign .c) U (RL.nil (CW.id (CW.ret (hE.r1 U U ?_)))))
    exfalso;unfold Lib.validRune at j;simp at j;omega
   ·refine CW.scope (CW.sr (RL.m U U (RL.u (.aF (.t U) underlying21 underlying9) U (RL.a U U (RL.nil (CW.id ?_))))))
    refine CW.sr (RL.m U U (RL.u (.T7 (.t U) underlying9) U (RL.u (.sub (.t U) .c (λ _=>by omega)) U (RL.a U U (RL.nil (CW.id (CW.sr ?_)))))))
    refine RL.m U U (RL.a U U (RL.nil (CW.id ?_)))
    refine CW.sr (RL.u (.assign .c) U (RL.nil (CW.id (CW.seq ?_))))
    refine CW.block <|CW.xV 1 <|CW.seq (CW.sr (RL.m U U (RL.m U U (RL.u (.T7 (.t U) underlying9) U (RL.u (.lss (.t U) (.t U)) U (RL.nil (CW.id ?_)))))))
    refine CW.cond rfl ?_ ?_<;>intro J<;>try simp only[zb]at J
    ·refine CW.skip (CW.id (CW.block (CW.scope (CW.seq ?_))))
     refine CW.seq <|CW.ZY hS l5 Ac <|RQ.v .none (.move (.t U)) U <|RQ.v .none (.move (.t U)) U <|RQ.v .none (.NM (.t U) (.t U) underlying9 (λ _=>by omega)) U <|RQ.v .none (.move (.t U)) U <|RQ.v .none (.move (.t U)) U <|RQ.v .none (.NM (.t U) (.t U) underlying9 (λ _=>by omega)) U <|RQ.v .none (.neq (.t U) (.t U)) U <|RQ.nil (λ a hs W K=>CW.at [Y 0 (str [43,45,95]),Y 1 (.int .i32 r),Y 4 (i64 0),Y 7 (str (DB r)),Y 8 (i64 ((len (DB r))-1)),Y 9 (i64 ((len (DB r))-1)),Y 10 (i64 0),Y 33 (.bool ((A4 [43,45,95] ((len (DB r))-1)) != (A4 (DB r) ((len (DB r))-1))))] U ?_ a hs)
     refine CW.cond rfl ?_ ?_<;>intro L<;>try simp only[zb]at L
     ·refine CW.seq <|CW.ZY K l5 Ac <|RQ.v .none (.move (.t U)) U <|RQ.v .none (.move (.t U)) U <|RQ.v .none (.add (.t U) .c (λ _=>by omega)) U <|RQ.v .none (.iM (.t U) (.t U) underlying9 (λ _=>by omega)) U <|RQ.v .none (.move (.t U)) U <|RQ.v .none (.move (.t U)) U <|RQ.v .none (.NM (.t U) (.t U) underlying9 (λ _=>by omega)) U <|RQ.call .none call198 (.cons (.t U) (.cons (.t U) .nil)) (λ _=>(λ X M=>((cG (Eng.A5 [43,45,95] (((len (DB r))-1)+1)) (A4 (DB r) ((len (DB r))-1)) _)).mono (λ e w3 z=>⟨z.1,z.2▸M⟩))) U <|RQ.v .none (.assign (.t U)) U <|RQ.nil (λ a hs w9 q=>CW.at [Y 0 (str [43,45,95]),Y 1 (.int .i32 r),Y 4 (i64 0),Y 7 (str (DB r)),Y 8 (i64 ((len (DB r))-1)),Y 9 (i64 ((len (DB r))-1)),Y 10 (i64 0),Y 11 (i64 (Lib.indexByte (Eng.A5 [43,45,95] (((len (DB r))-1)+1)) (A4 (DB r) ((len (DB r))-1)).toNat.toUInt8))] U ?_ a hs)
      refine CW.seq (CW.sr (RL.m U U (RL.u (.lss (.t U) .c) U (RL.nil (CW.id ?_)))))
      refine CW.cond rfl ?_ ?_<;>intro N<;>try simp only[zb]at N
      ·refine CW.sr (RL.u (.assign .c) U (RL.nil (CW.id (CW.ret (hE.r1 U U ?_)))))
       exact⟨by rw[hx Aa],q.low⟩
      ·exfalso;have y:=(k Aa).2.2;have O:=AM4 (AM5 (len (DB r)-1+1)) y B.2;omega
     ·exfalso;have O:=nR (len (DB r)-1);have y:=(k Aa).2.2;omega
    ·refine CW.exit (CW.at [] U ?_)
     refine CW.seq (CW.sr (RL.u (.assign .c) U (RL.nil (CW.id ?_))))
     refine CW.ret (hE.r1 U U ?_)
     exact⟨by rw[hx Aa],hS.low⟩
theorem AN2(n:Int)(w:World):
  Calls prog 320 [(i64 n)].toArray w λ e w'=>e= .returned (.bool (decide (8<n)))/\w'=w:=by
 refine CW.NQ func320 U ntmps320 (Nat.le_of_ble_eq_true U) λ Q hE=>CW.weaken [0] (L':=[Y 0 (i64 n)]) ?_ U
 refine CW.sr (RL.u (.assign .c) U (RL.nil (CW.id (CW.sr ?_))))
 refine RL.m U U (RL.u (.gtr (.t U) .c) U (RL.a U U (RL.nil (CW.id ?_))))
 refine CW.ret (hE.r1 U U ?_)
 exact⟨rfl,rfl⟩
theorem AN3(l:A0)(w:World)(hl:len l<=8):
  Calls prog 295 [(str l),(str [43,45,95])].toArray w λ e w'=> ∃v,e= .returned v/\ ∃x,(0<=x↔l.any (λ b=>([43,45,95]:A0).contains b)=true)/\v=i64 x/\Ext w w':=by
 refine CW.NQ func295 U ntmps295 (Nat.le_of_ble_eq_true U) λ Q hE=>?_
 have N:len ([43,45,95]:A0)=3:=rfl
 have:=A8 l
 have hS:St w nM w nM []:=Aj ⟨λ _ _ _ h=>by cases h⟩
 refine CW.weaken [0,1] (L':=[Y 0 (str l),Y 1 (str [43,45,95])]) ?_ U
 refine CW.sr (RL.u (.assign .c) U (RL.nil (CW.id (CW.seq ?_))))
 refine CW.sr (RL.m U U (RL.u (.ZS (.t U) .c) U (RL.nil (CW.id ?_))))
 refine CW.cond rfl ?_ ?_<;>intro n<;>try simp only[zb]at n
 ·exfalso;simp at n
 ·refine CW.skip (CW.id (CW.seq (CW.sr (RL.m U U (RL.u (.T7 (.t U) underlying9) U (RL.u (.eql (.t U) .c) U (RL.nil (CW.id ?_))))))))
  refine CW.cond rfl ?_ ?_<;>intro B<;>try simp only[zb]at B
  ·exfalso;omega
  ·refine CW.skip (CW.id (CW.seq (CW.sr (RL.m U U (RL.u (.T7 (.t U) underlying9) U ?_)))))
   refine RL.ZT .none call320 (.cons (.t U) .nil) (λ _=>(AN2 (len l) _)) U <|RL.nil (CW.at [Y 0 (str l),Y 1 (str [43,45,95]),Y 26 (.bool (decide (8<(len l))))] U ?_)
   refine CW.cond rfl ?_ ?_<;>intro C<;>try simp only[zb]at C
   ·exfalso;omega
   ·refine CW.skip (CW.id (CW.seq (CW.sr (RL.m U U ?_))))
    refine RL.ZZ (s:=l) hS (.t U) underlying9 U (λ w1 A D=>RL.nil (CW.id (CW.block ?_)))
    refine CW.loop (σ:=Int) (λ p=>[Y 1 (str [43,45,95]),Y 45 (.pointer (some ⟨A,0,none⟩))]) (λ p wl=>St w nM wl nM [.raw A (.stringIter ⟨⟨l⟩⟩ ((p:Int)).toNat)]/\0<=p/\p<=len l/\S7 l p) (λ p=>(len l-p).toNat) 0 [1,45] U ?_ ?_
    ·refine⟨D,?_⟩;exact⟨Aa,Aa,λ j h0 h1=>by omega⟩
    ·rintro p wl ⟨q,h0,h1,G⟩
     have H:=UK l p h0
     have J:=cN l p
     have K:=AM8 l p
     refine CW.sr <|RL.a6 (s:=l) (p:=p) q (i:=0) U (.t U) Aa U (λ y L k=>?_) (λ M=>?_)
     ·replace k:St w nM L nM [.raw A (.stringIter ⟨⟨l⟩⟩ ((p+runeLen l p:Int)).toNat)]:=k
      refine RL.u (.ex (.t U) U) U (RL.nil (CW.id ?_))
      refine CW.seq (CW.cond rfl (λ _=>CW.skip (CW.id (CW.block (CW.sr (RL.u (.ex (.t U) U) U (RL.u (.ex (.t U) U) U (RL.a U U (RL.a U U (RL.nil (CW.id ?_)))))))))) (λ h=>by cases h))
      refine CW.sr (RL.m U U (RL.m U U ?_))
      refine RL.ZU k .none call319 (.cons (.t U) (.cons (.t U) .nil)) (λ _=>(AN1 (B2 l p) _ (by first|assumption|omega))) U (λ O z=>RL.u (.geq (.t U) .c) U <|RL.nil (CW.at [Y 1 (str [43,45,95]),Y 9 (i64 p),Y 45 (.pointer (some ⟨A,0,none⟩)),Y 53 (.bool (decide (0<=(KN (B2 l p)))))] U ?_))
      refine CW.cond rfl ?_ ?_<;>intro E<;>try simp only[zb]at E
      ·refine CW.sr (RL.m U U (RL.a U U (RL.nil (CW.id (CW.ret (hE.r1 U U ?_))))))
       have F:=AM7 h0 y Aa
       exact⟨_,rfl,_,⟨λ _=>F,λ _=>h0⟩,rfl,z.low⟩
      ·refine CW.skip λ a hs=>Exists.intro (p+runeLen l p) ⟨hs.G6 [1,45],?_,?_⟩
       ·refine⟨z,?_⟩
        exact⟨Aa,Aa,G.step h0 y Aa⟩
       ·show Int.toNat _<Int.toNat _;omega
     ·refine RL.u (.ex (.t U) U) U (RL.nil (CW.id ?_))
      refine CW.seq (CW.cond rfl (λ h=>by cases h) (λ _=>(CW.exit (CW.at [] rfl (CW.sr ?_)))))
      refine RL.u (.assign .c) U (RL.nil (CW.id ?_))
      refine CW.ret (hE.r1 U U ?_)
      have F:=G.AM6 Aa
      exact⟨_,rfl,_,⟨λ h=>absurd h Ab,λ h=>by rw[F]at h;cases h⟩,rfl,q.low⟩
theorem AN4(l:A0)(w:World)(hl:len l=4):
  Calls prog 272 [(str l),(str [43,45,95])].toArray w λ e w'=>e= .returned (.bool (l.any (λ b=>([43,45,95]:A0).contains b)))/\Ext w w':=by
 refine CW.NQ func272 U ntmps272 (Nat.le_of_ble_eq_true U) λ Q hE=>?_
 have hS:St w nM w nM []:=Aj ⟨λ _ _ _ h=>by cases h⟩
 refine CW.weaken [0,1] (L':=[Y 0 (str l),Y 1 (str [43,45,95])]) ?_ U
 refine CW.sr (RL.u (.assign .c) U (RL.nil (CW.id (CW.sr ?_))))
 refine RL.m U U (RL.m U U ?_)
 refine RL.wU call295 (.cons (.t U) (.cons (.t U) .nil)) (AN3 l _ Aa) U ?_
 rintro v2 s ⟨j,k,rfl,i⟩
 have n:=hS.ext i
 refine RL.u (.geq (.t U) .c) U (RL.a U U ?_)
 refine RL.nil (CW.at [Y 4 (.bool (decide (0<=j)))] U (CW.ret (hE.r1 U U ?_)))
 have q:decide (0<=j)=l.any (λ b=>([43,45,95]:A0).contains b):=by rw[Bool.eq_iff_iff,decide_eq_true_eq];exact k
 rw[<-q];exact⟨rfl,n.low⟩
open Go.Eng Go.RowKit
theorem e9(x:Int)(w:World)(h0:0<=x)(h1:x<=255):Calls prog 300 [.int .u8 x].toArray w λ e w'=>e= .returned (.int .u8 (GG x))/\Ext w w':=AH AF func300 U ntmps300 [] [] [.v (.int .u8 x)] U (BE w) A3 (λ B b=>GS (GG x) U U U (λ _=>AK8 h0 h1) <|A2 b U U U λ w M h=>⟨rfl,h.st.low⟩) U
def O9(l:A0):Value:=if EF l then .tuple #[.int .u64 (F7 l),.nilIface]else .tuple #[.int .u64 0,.iface 274 (i64 2)]
theorem nS(l:A0)(w:World)(hl:len l=4):Calls prog 280 [str l,i64 16,i64 16].toArray w λ e w'=>e= .returned (O9 l)/\Ext w w':=by
 have S:len (ints l)=4:=by rw[jC];exact hl
 refine AH AF func280 U ntmps280 [] [] [.v (str l),I 16,I 16] U (BE w) A3 (λ B K=>A1 U (λ b=>?_) (λ _=>?_)) U
 ·rw[eq_of_beq b]at hl;exact absurd hl Ab
 refine A1 rfl (λ _=>A1 rfl (λ b=>by cases b) (λ _=>A1 rfl (λ b=>by cases b) (λ _=>A1 rfl (λ b=>by cases b) (λ _=>A1 rfl (λ _=>AR (.v (.int .u64 65536)) U U (λ w M y=>.nF (A7 (v:=.v (.int .u64 1)) (E:=[]) U) (A7 (v:=.v (.int .u64 16)) (E:=[]) U) (λ _=>by decide) (λ _=>by decide)) <|AK1 9 U U underlying9 underlying216 underlying5 Aa λ v=>?_) (λ b=>by cases b))))) (λ b=>by cases b)
 refine B7 (σ:=Int×Int) (λ(k,n)=>⟨[(9,kn v 1 (ints l) BV)],[],[Z 1 (I 16),Z 8 (.v (.bool false)),Z 9 (.v (str l)),Z 10 (.v (.int .u64 1152921504606846976)),Z 11 (.v (.int .u64 (65536-1))),Z 12 (.v (.bool false)),Z 13 (.v (.int .u64 n)),Z 99 (.sl 9 v),Z 100 (I (len (ints l))),Z 101 (I k)]⟩)
   (λ(k,n)=>0<=k/\k<=4/\EF (Eng.sub l 0 k)=true/\n=F7 (Eng.sub l 0 k)) (λ(k,_)=>(4-k).toNat) (0,0) U U ⟨Aa,Aa,rfl,rfl⟩ ?_
 rintro⟨k,n⟩ ⟨D,T,A,L⟩
 refine A1 U (λ G=>?_) (λ G=>?_)<;>simp only[zb]at G
 ·have F:at' (ints l) k=A4 l k:=ints_at D Aa
  have V:=L7 l k
  have H:=AL0 (c:=A4 l k) Aa Aa
  have W:=AL3 hl D Aa A
  have C:GF (A4 l k)<0->O9 l= .tuple #[.int .u64 0,.iface 274 (i64 2)]:=λ X=>by
   have R:=n7 (s:=l) (i:=0) (k:=k) (j:=4) Aa Aa Aa Aa X
   rw[NP l 4 Aa]at R
   unfold O9;rw[R];rfl
  refine CQ 1 (λ st=> ∃x:Int,(0<=x/\x<=35)/\(x<16->GF (A4 l k)=x)/\(16<=x->GF (A4 l k)<0)/\st=⟨[(9,kn v 1 (ints l) BV)],[],[Z 1 (I 16),Z 8 (.v (.bool false)),Z 9 (.v (str l)),Z 10 (.v (.int .u64 1152921504606846976)),Z 11 (.v (.int .u64 (65536-1))),Z 12 (.v (.bool false)),Z 13 (.v (.int .u64 n)),Z 16 (.v (.int .u8 x)),Z 99 (.sl 9 v),Z 100 (I (len (ints l))),Z 101 (I k)]⟩) U U (λ N=>by simp at N) (λ _=>?_) ?_
  ·refine A1 U (λ q=>?_) (λ q=>?_)<;>simp only[zb]at q<;>rw[F]at q
   ·exact AT _ U U ⟨_,Aa,λ _=>by rw[F];exact AL1 q,λ h=>by omega,rfl⟩
   ·refine AJ U call300 U U (λ _ w M y=>e9 _ w Aa Aa) U <|AJ U call300 U U (λ _ w M y=>e9 _ w Aa Aa) U ?_
    refine A1 U (λ z=>?_) (λ z=>?_)<;>simp only[zb]at z<;>rw[F]at z
    ·refine AJ U call300 U U (λ _ w M y=>e9 _ w Aa Aa) U ?_
     have J:=H.2.1 z.1 z.2 Aa
     exact AT _ U U (hO:=by rw[F];omega) ⟨_,by rw[F];omega,λ h=>by rw[F]at h ⊢;have:=J.1 Aa;omega,λ h=>by rw[F]at h;have:=J.2 Aa;omega,rfl⟩
    ·exact AR (.v (.iface 274 (i64 2))) U U (λ w M y=>.iface (A7 (v:=I 2) (E:=[]) U) underlying274 U) <|A2 K U U U λ w M y=>⟨by rw[C (by have:=H.2.2 Aa Aa;omega)];rfl,y.st.low⟩
  rintro _ ⟨x,hx,O,P,rfl⟩
  refine A1 U (λ q=>?_) (λ q=>?_)<;>simp only[zb]at q
  ·exact AR (.v (.iface 274 (i64 2))) U U (λ w M y=>.iface (A7 (v:=I 2) (E:=[]) U) underlying274 U) <|A2 K U U U λ w M y=>⟨by rw[C (P q)];rfl,y.st.low⟩
  have Q:=O Aa
  refine A1 U (λ b=>by simp only[zb]at b;omega) (λ _=>A1 U (λ b=>by simp only[zb]at b;omega) (λ _=>?_))
  have hs:=n5 (s:=l) (i:=0) Aa D Aa A Aa
  exact AX (k+1,n*16+x) U U ⟨Aa,Aa,hs.1,by rw[hs.2,Q,<-L]⟩ Ag
 have hk:k=4:=by omega
 rw[hk,NP l 4 Aa]at A L
 exact AJ (u:=.bool false) rfl call301 rfl rfl (λ hW=>by cases hW) rfl <|A1 rfl (λ b=>by cases b) (λ _=>A2 K U U U λ w M y=>⟨by unfold O9;rw[A,<-L];rfl,y.st.low⟩)
theorem AN5{w0 k:World}{M0 M:Mem}{Rs:List HO}(l:A0)(hS:St w0 M0 k M Rs)(hg:Gl w0)(hl:len l=4):
    Calls prog 273 [str l,i64 16,i64 16].toArray k (BF w0 M0 M Rs (λ er:Value=>.tuple #[.int .u64 (if EF l then F7 l else 0),er]) (λ er=>TO er=EF l/\(er= .nilIface\/ ∃u p,er= .iface u p)) (λ _=>[]) λ _=>[]):=by
 refine AH (Hr:=Rs) AF func273 U ntmps273 [] [] [.v (str l),I 16,I 16] U hS A3 (λ B j=>?_) U
 cases hk:EF l with
 |true=>
  rw[hk]at j
  refine AJ (u:=.tuple #[.int .u64 (F7 l),.nilIface]) U call280 U U (λ _ w M b=>by have:=nS l w hl;rwa [show O9 l=_ from by unfold O9;rw[hk]]at this) U ?_
  refine AR (.v (.bool false)) U U (λ w M b=>.TP (A7 (v:=.v .nilIface) (E:=[]) U) (.inl U) Ai) ?_
  refine A1 rfl (λ i=>by cases i) (λ _=>?_)
  exact A2 j U U U λ w M' b=>⟨.nilIface,M',rfl,⟨rfl,.inl U⟩,b.le,b.B6 [] U,A3⟩
 |false=>
  rw[hk]at j
  refine AJ (u:=.tuple #[.int .u64 0,.iface 274 (i64 2)]) U call280 U U (λ _ w M b=>by have:=nS l w hl;rwa [show O9 l=_ from by unfold O9;rw[hk]]at this) U ?_
  refine AR (.v (.bool true)) U U (λ w M b=>.TP (A7 (v:=.v (.iface 274 (i64 2))) (E:=[]) U) (.inr ⟨_,_,rfl⟩) Ai) ?_
  refine A1 rfl (λ _=>?_) (λ i=>by cases i)
  refine AP [] (λ n:Nat=>.v (.iface 277 (.pointer (some ⟨n,0,none⟩)))) [] (λ _=>[]) (pu:=λ _=>True) (Fg:=λ _=>[]) U U call234 U U (hu:=λ _=>rfl) (hH:=λ _=>rfl) (λ w M hS hF=>by
   obtain⟨ev,h1,q⟩:=(hg.low hS.low).err
   exact(Tryz.strconv_toError_syntax ⟨⟨[80,97,114,115,101,85,105,110,116]⟩⟩ ⟨⟨l⟩⟩ 16 16 ev w (by show l.length<=_;unfold len at hl;omega) h1 q).mono λ e w' ⟨n,h,_,_,i⟩=>⟨n,M,h,trivial,λ _ _ _ h=>h,hS.ext i,A3⟩) λ n _=>?_
  exact A2 j U U U λ w M' b=>⟨_,M',rfl,⟨rfl,.inr ⟨_,_,rfl⟩⟩,b.le,b.B6 [] U,A3⟩
theorem AN6{l:A0}(h:l.any (λ b=>[43,45,95].contains b)=true):EF l=false:=by
 rw[List.any_eq_true]at h
 obtain⟨b,i,e⟩:=h
 unfold EF
 rw[List.all_eq_false]
 refine⟨b,i,?_⟩
 simp only[List.contains_cons,List.contains_nil,Bool.or_false,Bool.or_eq_true,beq_iff_eq]at e
 rcases e with rfl|rfl|rfl<;>decide
theorem nT(s:A0)(w:World)(hg:Gl w)(G:len s<=1099511627776):Calls prog 250 [str s].toArray w λ e w'=>e= .returned (i64 (C0 s))/\Ext w w':=by
 have z:=A8 s
 refine AH AF func250 U ntmps250 [] [] [.v (str s)] U (BE w) A3 (λ B y=>AJ U call171 U U (λ _ w M j=>nO (UI s _ w)) U <|AJ U call272 U U (λ A w M j=>AN4 (Eng.sub s 2 6) w (by rw[FF Aa Aa (by simp only[Gd.d,zb]at A;omega)];rfl)) U ?_) U
 refine A1 U (λ b=>?_) (λ b=>?_)<;>simp only[zb]at b
 ·have l:C0 s= -1:=by
   unfold C0
   split
   ·rfl
   ·rename_i C;split
    ·rfl
    ·rename_i D;split
     ·rename_i n3;exfalso;rcases b with(h|h)|h
      ·exact C h
      ·exact D h
      ·rw[AN6 h]at n3;cases n3
     ·rfl
  exact A2 y U U U λ w M j=>⟨by rw[l];rfl,j.st.low⟩
 have n:len (Eng.sub s 2 6)=4:=by rw[FF Aa Aa Aa];rfl
 have l:C0 s=if EF (Eng.sub s 2 6)then F7 (Eng.sub s 2 6)else-1:=by unfold C0;rw[if_neg Aa,if_neg (by rw[b.1.2];simp)]
 refine AP [] (λ er:Value=>.tu [.v (.int .u64 (if EF (Eng.sub s 2 6)then F7 (Eng.sub s 2 6)else 0)),.sl 99 er]) [] (λ _=>[]) U U call273 U U (λ w M hS hF=>AN5 (Eng.sub s 2 6) hS hg n) λ er q=>AR (.v (.bool (!TO er))) U U (λ w M j=>.TP (A7 (v:=.sl 99 er) (E:=[]) U) q.2 Ai) ?_
 refine A1 U (λ i=>?_) (λ i=>?_)<;>rw[q.1]at i
 ·have k:EF (Eng.sub s 2 6)=false:=by simpa using i
  exact A2 y U U U λ w M j=>⟨by rw[l,k];rfl,j.st.low⟩
 have k:EF (Eng.sub s 2 6)=true:=by simpa using i
 have F:=AB8 n k
 rw[if_pos k]at l
 exact A2 y U U U (λ w M j=>⟨by rw[l,k];rfl,j.st.low⟩) (hO:=by rw[if_pos k];omega)
theorem AN7(s:A0)(w:World)(hg:Gl w)(z:len s<=1099511627776):Calls prog 226 [str s].toArray w λ e w'=>e= .returned (.tuple #[.int .i32 (BW s).1,i64 (BW s).2])/\Ext w w':=by
 have h1:=NY s
 have D:=NY (A5 s 6)
 have F:=L7 s 1
 have A:=A8 s
 have C:=(lF s 6).2
 refine AH AF func226 U ntmps226 [] [] [.v (str s)] U (BE w) A3 (λ B y=>?_) U
 refine A1 U (λ j=>?_) (λ j=>?_)<;>simp only[zb]at j
 ·exact A2 y U U U λ w M i=>⟨by unfold BW;rw[if_pos j];rfl,i.st.low⟩
 refine D7 [0,3] 3 (λ _ _ _ _ _ h=>h) U Ai U <|AK 0 U U U <|AP [] (λ b:Nat=>.v (.map (some b))) [] (λ b=>[(12,.ho (.raw b (BO .u8 C7 8)))]) U U call249 U U (λ w M hS hF=>nP hS) λ b _=>AE U <|AK 3 U U U <|nH 12 (.int .i32 (MT (A4 s 1))) (KI (A4 s 1)) U U U U U underlying271 underlying5 zeroValue21 (AB1 _) <|AE U <|BL U U U <|A1 U (λ k=>?_) (λ k=>?_)
 ·exact A2 y U U U λ w M i=>⟨by unfold BW;rw[if_neg j,if_pos k];rfl,i.st.low⟩
 have he:BW s=if C0 s<0\/(56320<=C0 s/\C0 s<57344)then(0,0)else if C0 s<55296\/57344<=C0 s then(C0 s,6)else if C0 (A5 s 6)<56320\/57344<=C0 (A5 s 6)then(0,0)else(65536+(C0 s-55296)*1024+C0 (A5 s 6)-56320,12):=by unfold BW;rw[if_neg j,if_neg (by rw[k];simp)]
 refine AJ U call250 U U (λ _ w M i=>nT s w (hg.low i.st.low) z) U ?_
 refine A1 U (λ l=>?_) (λ l=>?_)<;>simp only[zb]at l
 ·exact A2 y U U U λ w M i=>⟨by rw[he,if_pos l];rfl,i.st.low⟩
 rw[if_neg Aa]at he
 refine A1 U (λ n=>?_) (λ n=>?_)<;>simp only[zb]at n
 ·exact A2 y U U U λ w M i=>⟨by rw[he,if_pos n];rfl,i.st.low⟩
 rw[if_neg Aa]at he
 refine AJ U call250 U U (λ _ w M i=>nT (A5 s 6) w (hg.low i.st.low) Aa) U ?_
 refine A1 U (λ q=>?_) (λ q=>?_)<;>simp only[zb]at q
 ·exact A2 y U U U λ w M i=>⟨by rw[he,if_pos q];rfl,i.st.low⟩
 rw[if_neg Aa]at he
 exact AR (.v (i64 ((C0 s-55296)*1024))) U U (λ w M i=>.nF (A7 (v:=I (C0 s-55296)) (E:=[]) U) (A7 (v:=.v (.int .u64 10)) (E:=[]) U) (λ _=>by decide) (λ _=>(wrap_i64 Aa:IntKind.i64.wrap ((C0 s-55296)*1024)=_))) <|A2 y U U U λ w M i=>⟨by rw[he];rfl,i.st.low⟩
theorem AN8{l:List Int}{r i n:Int}(h:len l<=4*i)(b:1<=n):len (l++DE r)<=4*(i+n):=by have:=e8 r;rw[AO];omega
theorem AN9{l:List Int}(r:Int)(h:ints (toStr l)=l):ints (toStr (l++DE r))=l++DE r:=by
 have b:ints (toStr (DE r))=DE r:=by
  unfold ints toStr
  rw[List.map_map]
  conv=>rhs;rw[<-List.map_id (DE r)]
  apply List.map_congr_left
  intro x hx
  have:=Lib.encodeRuneZ_byte r x hx
  simp;omega
 rw[show toStr (l++DE r)=toStr l++toStr (DE r)from List.map_append,TN,h,b]
theorem AO0(s:A0)(w:World)(hg:Gl w)(W:len s<=1099511627776):Calls prog 194 [str s].toArray w λ e w'=>e= .returned (.tuple #[str (B4 s).1,i64 (B4 s).2.1,i64 (B4 s).2.2])/\Ext w w':=by
 have K:=A8 s
 refine AH AF func194 U ntmps194 [] [] [.v (str s)] U (BE w) A3 (λ B H=>AJ U call171 U U (λ _ w M q=>nO (UI s _ w)) U ?_) U
 refine A1 U (λ y=>?_) (λ y=>?_)<;>simp only[zb]at y
 ·exact A2 H U U U λ w M q=>⟨by unfold B4;rw[if_neg (by rw[y];simp)];rfl,q.st.low⟩
 refine B9 1 U zeroValue244 U λ b=>WZ 2 5 1 BV FW ?_
 refine B7 (σ:=Nat×Int×Value×Value×List Int) (λ(f,i,a,u,l)=>⟨[],[(1,.box b [.v a,.v u] tB),(2,.ho (IK u l))],[Z 0 (.v (str s)),Z 5 (.bx 1 b 0),Z 6 (I i)]⟩)
   (λ(f,i,a,u,l)=>1<=i/\(a= .pointer none\/a=EG b)/\DQ f s i l=B4 s/\len l<=4*i/\(len s-i).toNat<=f/\ints (toStr l)=l) (λ(_,i,_)=>(len s-i).toNat) (s.length,1,.pointer none,.slice none 0 0,[]) U U ⟨Aa,.inl U,by unfold B4;rw[if_pos y],Ab,by unfold len;omega,rfl⟩ ?_
 rintro⟨f,i,a,u,l⟩ ⟨h0,J,hF,hlen,L,E⟩
 have N:=A8 l
 refine A1 U (λ z=>?_) (λ z=>?_)<;>simp only[zb]at z
 ·have O:=EB s i Aa Aa
  have P:=UK (A5 s i) 0 Aa Aa
  have Q:=cN (A5 s i) 0
  have R:=AB9 (A5 s i)
  have j:=RN (acc:=l) L z
  rw[hF]at j
  refine AJ U call224 U U (λ _ w M q=>zQ (A5 s i) w (hg.low q.st.low) Aa) U ?_
  refine CQ 1 (λ st=> ∃(bad:Bool) (r n:Int),(bad=true->B4 s=([],i,1))/\(bad=false->(0<=r/\r<=1114111)/\(1<=n/\n<=1099511627776)/\B4 s=DQ (f-1) s (i+n) (l++DE r))/\st=⟨[],[(1,.box b [.v a,.v u] tB),(2,.ho (IK u l))],[Z 0 (.v (str s)),Z 5 (.bx 1 b 0),Z 6 (I i),Z 7 (.v (.int .i32 r)),Z 8 (I n),Z 9 (.v (.bool bad))]⟩) U U (λ k=>?_) (λ k=>?_) ?_<;>try simp only[zb]at k
  ·exact kW (BE w).sat U U U call225 U (λ w M q=>nQ b a u (toStr l) l (q.B6 [1,2] U) J E.symm) U <|A2 H U U U λ w M q=>⟨by rw[j,if_pos k];rfl,q.st.low⟩
  ·rw[if_neg k]at j
   refine A1 U (λ A=>?_) (λ A=>?_)<;>simp only[zb]at A
   ·rw[if_pos A]at j
    exact AJ U call226 U U (λ _ w M q=>AN7 (A5 s i) w (hg.low q.st.low) Aa) U <|AT _ U U ⟨_,_,_,λ h=>by rw[j,if_pos (eq_of_beq h)],λ h=>⟨Aa,by have:=ne_of_beq_false h;omega,by rw[j,if_neg (ne_of_beq_false h)]⟩,rfl⟩
   ·rw[if_neg A]at j
    refine A1 U (λ C=>?_) (λ C=>?_)<;>simp only[zb]at C
    ·exact AT _ rfl rfl ⟨true,_,_,λ _=>by rw[j,if_pos (.inl C)],λ h=>(by cases h),rfl⟩
    ·exact AT _ U U ⟨_,_,_,λ h=>by simp only[zb]at h;rw[j,if_pos (.inr h)],λ h=>⟨Aa,Aa,by rw[j,if_neg (by simp only[zb]at h;omega)]⟩,rfl⟩
  rintro _ ⟨bad,r,n,F,D,rfl⟩
  refine A1 U (λ k=>?_) (λ k=>?_)
  ·exact A2 H U U U λ w M q=>⟨by rw[F k];rfl,q.st.low⟩
  obtain⟨S,T,G⟩:=D k
  exact AP [1,2] (λ _:Value=>.tu [I (len (DE r)),.v .nilIface]) [] (λ v=>[(1,.box b [.v (EG b),.v v] tB),(2,.ho (IK v (l++DE r)))]) U U call227 U U (λ w M hS hF=>nJ b a u l r hS J Aa S) λ V _=>AX (f-1,i+n,EG b,V,l++DE r) U U ⟨Aa,.inr U,G.symm,AN8 hlen T.1,Aa,AN9 r E⟩ Ag
 exact A2 H U U U λ w M q=>⟨by rw[<-hF,lN z];rfl,q.st.low⟩
theorem AO1(c:Int)(w:World):Calls prog 222 [.int .u8 c].toArray w λ e w'=>e= .returned (.bool (F2 c))/\Ext w w':=AH AF func222 U ntmps222 [] [] [.v (.int .u8 c)] U (BE w) A3 (λ B b=>A2 b U U U λ w M h=>⟨rfl,h.st.low⟩) U
theorem AO2(c:Int)(w:World):Calls prog 223 [.int .u8 c].toArray w λ e w'=>e= .returned (.bool (C5 c))/\Ext w w':=AH AF func223 U ntmps223 [] [] [.v (.int .u8 c)] U (BE w) A3 (λ B b=>A2 b U U U λ w M h=>⟨rfl,h.st.low⟩) U
theorem nU(s:A0)(w:World)(z:len s<=1099511627776):Calls prog 193 [str s].toArray w λ e w'=>e= .returned (i64 (CP s 0))/\Ext w w':=by
 have h:=A8 s
 refine AH AF func193 U ntmps193 [] [] [.v (str s)] U (BE w) A3 (λ B y=>B7 (σ:=Int) (λ n=>⟨[],[],[Z 0 (.v (str s)),Z 3 (I n)]⟩) (λ n=>0<=n/\n<=len s/\CP s n=CP s 0) (λ n=>(len s-n).toNat) 0 U U ⟨Aa,h,rfl⟩ ?_) U
 rintro n ⟨h0,h1,hw⟩
 refine AJ U call222 U U (λ _ w M i=>AO1 (A4 s n) w) U <|AJ U call223 U U (λ _ w M i=>AO2 (A4 s n) w) U ?_
 refine A1 U (λ b=>?_) (λ b=>?_)<;>simp only[zb]at b
 ·have j:CF (A4 s n) (n==0)=true:=by unfold CF;simp only[zb];exact b.2.imp id λ q=>⟨Aa,q.2⟩
  exact AX (n+1) U U ⟨Aa,Aa,by rw[TF h0 b.1 j,hw]⟩ Ag
 ·have e:CP s n=n:=by
   by_cases hlt:n<len s
   ·refine TG h0 hlt ?_
    have k:=b.resolve_left Aa
    unfold CF
    simp only[zb]
    refine⟨k.1,?_⟩
    rcases k.2 with l|l
    ·exact .inl Aa
    ·exact .inr l
   ·exact TH hlt
  exact A2 y U U U λ w M i=>⟨by rw[<-hw,e];rfl,i.st.low⟩
theorem AO3(s:A0):PO s=(s != []&&CP s 0==len s):=by
 unfold PO
 congr 1
 have h:=LQ (s:=s) (i:=0) Aa (A8 s)
 rw[Bool.eq_iff_iff,beq_iff_eq,beq_iff_eq]
 constructor
 ·intro e;rw[<-LR,e]
 ·intro e
  unfold BD
  rw[e]
  unfold Eng.sub len;simp
theorem AO4(s:A0)(w:World)(h:len s<=1099511627776):Calls prog 195 [str s].toArray w λ e w'=>e= .returned (.bool (PO s))/\Ext w w':=AH AF func195 U ntmps195 [] [] [.v (str s)] U (BE w) A3 (λ B i=>AJ U call193 U U (λ _ w M b=>nU s w h) U <|A2 i U U U λ w M b=>⟨by rw[AO3];rfl,b.st.low⟩) U
theorem Sp.AS (x:Sp):x.cells.length=3:=rfl
theorem Sp.cells_one (x:Sp): ∀u∈x.cells,u.oneCell'=true:=by intro u hu;simp[Sp.cells]at hu;rcases hu with rfl|rfl|rfl<;>rfl
abbrev Y6(v:Value)(xs:List Sp):HO:=.own 105 3 v xs.length (xs.flatMap Sp.cells)
end Go.Proofs.YtnoegalemkbbbaaGreatDoor
namespace Go.Eng
open Go.RowKit
theorem PR.S8 {α β:Type}{k:α->Int->PR β}{x:α}{j:Int}:(PR.ok x j).bind k=k x j:=rfl
theorem PR.ret {α:Type}(r:PR α):(r.bind λ x j=>.ok x j)=r:=by cases r<;>rfl
theorem PR.assoc {α β γ:Type}(r:PR α)(f:α->Int->PR β)(g:β->Int->PR γ):(r.bind f).bind g=r.bind λ x j=>(f x j).bind g:=by cases r<;>rfl
theorem PR.congr {α β:Type}{r:PR α}{f g:α->Int->PR β}(h: ∀x j,f x j=g x j):r.bind f=r.bind g:=by cases r with|er c p=>rfl|ok x j=>exact h x j
section
variable {c:Cx} {B:Exit->Act->World->Prop} {k k':List Fr} {m:Md} {s s':XS} {O:Prop} {E:List Ck} {all:Array Oper} {rest:List Oper} {d:Nat} {ty:TypeId} {ps:String} {af:Array Edge}
theorem EC{α β γ:Type}(ids n:List Nat)(b:α->γ->XV)(e:α->Int->γ->List (Nat×HX)){i:TypeId}{r:PR α}{kk:α->Int->PR β}{fn:Func}{G:β->Int->Ending->World->Prop}{Rs:List HO}{u:α->γ->Value}{pu:α->Int->γ->Prop}{Fg:α->Int->γ->List (Nat×Kn)}{Hg:α->Int->γ->List HO}
  {q:Operand} {f:FuncId} {y z:List Value} {E1 E2:List Ck} {xs:List Operand} {tys:Array TypeId} {vs:List XV} {A R:List (Nat×HX)} {l:Option Tmp} (C:Ends c.P fn (WU c.w0 c.M0 c.M1 Rs i (r.bind kk) G) B)
  (h:run c.T c.N k m s=⟨k',.ops all (⟨l,.call ⟨.value q,⟨xs⟩,tys⟩,ty,ps,af,none⟩::rest),s',O,E⟩) (D:callee s'.L q=some (f,y,z,E1)) (J:CT c.P f) (hx:JH s'.L .t xs=some (vs,E2))
  (K:GA ids s'.H=some (A,R)) (S:Rs.Sublist (HD R++c.Hr)) (Q: ∀w M,St c.w0 c.M0 w M (HD A++(HD R++c.Hr))->BI M s'.F->Calls c.P f (y++vs.map XV.d++z).toArray w (WU c.w0 c.M0 M (HD R++c.Hr) i r λ x j=>BF c.w0 c.M0 M (HD R++c.Hr) (u x) (pu x j) (Fg x j) (Hg x j)))
  (V: ∀x j,r= .ok x j->Ends c.P fn (WU c.w0 c.M0 c.M1 Rs i (kk x j) G) B-> ∀g,pu x j g->XG c B k' (.ops all rest) ⟨PC n (Fg x j g)++s'.F,e x j g++R,bT l (b x g) s'.L⟩) (hE:A9 E:=by exact Ad) (hO:O:=by exact Af) (hd:kK l c.N=true:=by exact rfl) (hE1:A9 (E1++E2):=by exact Ad) (hu: ∀x g,(b x g).d=u x g:=by intros;rfl) (hH: ∀x j g,HD (e x j g)=Hg x j g:=by intros;rfl):XG c B k m s:=by
 cases r with
 |er W p=>exact EU ids h (hE:=hE) (hO:=hO) D J hx (hE1:=hE1) K Q λ a w M hs hS hle=>DY _ (C.p ⟨M,rfl,hS.drop _ S,hle⟩ a hs)
 |ok x j=>exact AP ids (b x) n (e x j) h (hE:=hE) (hO:=hO) D J (hd:=hd) hx (hE1:=hE1) K Q (hu:=hu x) (hH:=hH x j) (V x j U C)
theorem AO5{id:Nat}(hl: ∀Q a w,Q Exit.normal a w->c.W.wp (.label id) Q a w)(h:run c.T c.N k m s=⟨k',.code (.label id),s',O,E⟩)(b:XG c B k' .next s')(hE:A9 E:=by exact Ad)(hO:O:=by exact Af):XG c B k m s:=
 CL h hE hO λ a w hs=>hl _ a w (b a w hs)
theorem AO6{σ:Type}{x z:Code}{i q:List Fr}(n:Nat)(J:XS->Prop)(b:σ->XS)(I:σ->Prop)(μ:σ->Nat)(g0:σ)(h:run c.T c.N k m s=⟨k',.code (.loop x),s',O,E⟩)
  (j:R6 J k' n=some (i,z,q)) (h0:(⟨J0 (b g0).F s'.F,J1 (b g0).H s'.H,G8 (keys (b g0).L) s'.L⟩:XS)=b g0) (l:I g0)
  (y: ∀g,I g->XG c B (.loop (LJ b I μ g)::i) (.code x) (b g)) (A: ∀s',J s'->XG c B q (.code z) s') (hE:A9 E:=by exact Ad) (hO:O:=by exact Af):XG c B k m s:=by
 obtain⟨p,rfl,rfl⟩:=bS j
 have hm: ∀e a w,post c B (.loop J::q) e a w->post c B (.seq z::q) e a w:=λ e a w h=>R7 (λ a w ⟨s',C,hs⟩=>A s' C a w hs) (λ _ _ _ h=>h) e a w h
 exact B7 b I μ g0 h (hE:=hE) (hO:=hO) h0 l λ g hg a w hs=>c.W.mono (y g hg a w hs) (LK hm (.loop (LJ b I μ g)::p))
theorem Y7{op:Op}{l:List Oper}{F:List (Nat×Kn)}{H:List (Nat×HX)}{L L':XE}{gd:Option (Nat×Bool)}{W:Gd}(v:XV)(h:J4 c.T c.N F H all l L ((0:Int)=0) []=⟨⟨some d,op,ty,ps,af,gd⟩::rest,L',O,E⟩)(hg:(H3 all L' gd,Nat.blt d c.N)=(some W,true))
  (hp: ∀w M,CZ c F H w M->PV c.P (λ w'=>Ext w w') L'.d W.d ⟨some d,op,ty,ps,af,gd⟩ v.d) (e:XQ c B k all rest ⟨F,H,(d,W,v)::L'⟩) (hE:A9 E:=by exact Ad) (hO:O:=by exact Af):XQ c B k all l ⟨F,H,L⟩:=by
 simp only[Prod.mk.injEq]at hg
 have:=WN (c:=c) (B:=B) (k:=k) (all:=all) (F:=F) (H:=H) (l:=l) (L:=L) (O:=(0:Int)=0) (E:=[])
 rw[h]at this
 exact(this hO hE λ w M b=>RQ.v (LF hg.1) (hp w M b) hg.2 (e w M b)).2.2
end
end Go.Eng
namespace Go.Proofs.YtnoegalemkbbbaaGreatDoor
open Go.Proofs.Tryz
open Go.Eng
theorem AO7: ∀a:Fin 32,IntKind.i64.wrap (BitVec.ofInt IntKind.i64.bits ((a:Nat):Int)&&& BitVec.ofInt IntKind.i64.bits 1).toNat=(((a:Nat)%2:Nat):Int):=by decide+kernel
theorem AO8(m k:Nat)(h:k<5):((m:Int)).fdiv (2^min ((k:Int)).toNat IntKind.i64.bits)=((m/2^k:Nat):Int):=by
 rw[Int.toNat_natCast,show min k IntKind.i64.bits=k from Nat.min_eq_left (by show k<=64;omega),Int.fdiv_eq_ediv_of_nonneg _ (Int.pow_nonneg Ab),Int.natCast_ediv,Int.natCast_pow];rfl
end Go.Proofs.YtnoegalemkbbbaaGreatDoor
namespace Go.Eng
end Go.Eng
namespace Go.Proofs.YtnoegalemkbbbaaGreatDoor
open Go.Proofs.Tryz
open Go.Eng
abbrev HL(u:Value)(x:Fl):HO:=.priv 52 11 u x.length (x.flatMap Tm.cells)
abbrev ED(u:Value)(x:Fl):HX:=.pv 52 (kn u 11 x Tm.cells) Tm.AS
end Go.Proofs.YtnoegalemkbbbaaGreatDoor
