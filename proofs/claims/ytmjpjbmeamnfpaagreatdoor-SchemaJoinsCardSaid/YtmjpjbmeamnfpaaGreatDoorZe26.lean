/-
  Parts Lok In Ps R3 R4 R5 R6 Ra Io Eqt Shelc Rb Fw Fr Rc, put together and made short by wip/py/merge.py (mini.py).
-/
import Derived.Test.YtmjpjbmeamnfpaaGreatDoorZe25
import Derived.Test.YtmjpjbmeamnfpaaGreatDoorZe13
import Derived.Test.YtmjpjbmeamnfpaaGreatDoorZe24
import Derived.Test.YtmjpjbmeamnfpaaGreatDoorZe10
import Derived.Test.YtmjpjbmeamnfpaaGreatDoorZe4
import Derived.Laws.BitsLemmas
import Derived.Test.YtmjpjbmeamnfpaaGreatDoorZe3
import Derived.Test.YtmjpjbmeamnfpaaGreatDoorProg
import Derived.Test.YtmjpjbmeamnfpaaGreatDoorZe20
import Derived.Test.YtmjpjbmeamnfpaaGreatDoorZe18
import Derived.Test.YtmjpjbmeamnfpaaGreatDoorZe14
import Derived.Lib.AtoiTie
import Derived.Lib.AtoiAllCases
import Derived.Shelf.Strings.Builder1
import Derived.Shelf.Strings.Builder2
import Derived.Shelf.Strings.Trim
import Derived.Shelf.Small.Utf8
import Derived.Shelf.Small.Bits
import Derived.Shelf.Small.Strs
import Derived.Shelf.Strings.BuilderF
import Derived.Shelf.Strings.BuilderK
import Derived.Shelf.Strings.BuilderRune
import Derived.Shelf.Utf8.AppendRune
import Derived.Shelf.Utf8.AppendRunePlain
import Derived.Shelf.Strings.Builder2Cap
import Derived.Shelf.Strconv.Atoi
import Derived.Shelf.Strconv.Itoa0
import Derived.Shelf.Strconv.Itoa1
import Derived.Shelf.LaysM
import Derived.Shelf.Strconv.Itoa2
import Derived.Shelf.Strconv.Itoa3
import Derived.Shelf.Strconv.Itoa4
import Derived.Shelf.Strconv.AtoiErrFast
import Derived.Shelf.Strconv.ParseIntEmpty
import Derived.Shelf.Strconv.AtoiFail
import Derived.Shelf.Strconv.Clone
import Derived.Shelf.Strconv.SyntaxError
import Derived.Shelf.LaysC
import Derived.Shelf.Strconv.ToError
import Derived.Shelf.Strconv.Lower
import Derived.Shelf.Strconv.ParseUint10
import Derived.Shelf.Strconv.ParseUint10Empty
import Derived.Shelf.Strconv.ParseUint10Any
import Derived.Shelf.Strconv.ParseInt10
import Derived.Shelf.Strconv.AtoiLong
import Derived.Shelf.Strconv.AtoiInnerAll
import Derived.Shelf.Strconv.RangeError
import Derived.Shelf.Strconv.ToErrorRange
import Derived.Shelf.Strconv.AtoiAll
import Derived.Shelf.Strconv.ErrVarAll
import Derived.Shelf.Strconv.ParseUintEmpty
import Derived.Shelf.Strconv.ParseUint10b64
import Derived.Shelf.Strconv.ParseUint10b32
import Derived.Shelf.Strconv.ParseUint10b16
import Derived.Shelf.Strconv.ParseUint10b8
import Derived.Shelf.Strconv.ParseUint10At
import Derived.Ground.MpProg
import Derived.Shelf.Pu.ParseUintPublic10
import Derived.Shelf.Strings.Search1
import Derived.Shelf.Sort.Plain
import Derived.Shelf.GgClosure.StringsIndexFunc
import Derived.Shelf.GgClosure.StringsTrimFunc
import Derived.Shelf.GgClosure.StringsRunes
import Derived.Shelf.Strings.Prefix
import Derived.Shelf.Strings.Fields
import Derived.Shelf.Unicode.Latin
import Derived.Shelf.Unicode.Decode
import Derived.Shelf.Strings.Runes
import Derived.Shelf.Strings.IndexAny
import Derived.Shelf.Strings.AsciiSet
import Derived.Shelf.Strings.IndexAnyAll
import Derived.Shelf.Bits.Mul64
import Derived.Shelf.Strings.Repeat
import Derived.Shelf.Unicode.DecodeSlow
import Derived.Shelf.Unicode.DecodeAny
import Derived.Shelf.Unicode.Is16White
import Derived.Shelf.Unicode.IsSpaceAny
import Derived.Shelf.Unicode.DecodeLast
import Derived.Shelf.Unicode.Is16WhiteD
import Derived.Shelf.Unicode.IsSpaceAnyD
import Derived.Shelf.Strings.FieldsAny
import Derived.Shelf.Strings.FieldsFuncAny
import Derived.Shelf.Unicode.Is16Any
import Derived.Shelf.Unicode.Is32Any
import Derived.Shelf.Unicode.ExclAny
import Derived.Shelf.Strings.BuilderCap
import Derived.Shelf.Slices.In.SortNone
import Derived.Test.YtmjpjbmeamnfpaaGreatDoorZe12
import Derived.Test.YtmjpjbmeamnfpaaGreatDoorZe0
set_option linter.unusedVariables false
set_option linter.unusedSimpArgs false
namespace Go.Eng
theorem zR{t:Tk}(h:Eng.G9 t=true)(hk:t.kind=5):L6 t.c=true:=by
 unfold Eng.G9 at h
 simp only[hk]at h
 simp at h
 exact h.2
theorem kG{s:A1}(hs:len s<=100000)(h:(BB s).2.2=0):C6 (BB s).1:=by
 obtain⟨l,h1,h2⟩:=ZV h
 have hb:=h1.bd hs
 have hr:=h1.G9
 have hbl:=I6 s 0 (Int.le_refl 0) (A8 s)
 rw[h2]
 dsimp only
 have hll:len (l++[BH s])=len l+1:=by rw[AG];rfl
 refine⟨λ i h0 hi hk=>?_,λ t ht hk=>?_,λ t ht hk=>?_,λ t ht=>?_,?_⟩
 ·rw[hll]at hi ⊢
  rcases Int.lt_or_eq_of_le (show i<=len l by omega)with hl|hl
  ·omega
  ·exact absurd (by rw[fB l (BH s) hl];rfl) hk
 ·rcases List.mem_append.1 ht with ht|ht
  ·obtain⟨_,hf,_⟩:=jZ (zR (hr t ht) hk)
   exact hf
  ·rw[List.mem_singleton.1 ht]at hk;exact absurd hk (by show ¬(6:Int)=5;decide)
 ·rcases List.mem_append.1 ht with ht|ht
  ·have:=hb.1 t ht
   exact⟨this.2.1,by have:=this.2.2 hk;omega⟩
  ·rw[List.mem_singleton.1 ht]at hk;exact absurd hk (by show ¬(6:Int)=5;decide)
 ·rcases List.mem_append.1 ht with ht|ht
  ·exact(hb.1 t ht).1
  ·rw[List.mem_singleton.1 ht];show len ([]:A1)<=_;decide
 ·have:=hb.2 hbl.2
  rw[hll];omega
end Go.Eng
set_option maxRecDepth 100000
namespace Go.Proofs.YtmjpjbmeamnfpaaGreatDoor
open Go.Eng
abbrev PE(bx by' bz:Nat)(x y z:Value):List HO:=[.box bx [x] 36,.box by' [y] 3,.box bz [z] 26]
theorem zS{w0 wv:World}{M0 M:Mem}{Rs:List HO}(bx by' bz:Nat)(x y z:Value)(hS:St w0 M0 wv M (PE bx by' bz x y z++Rs)):
   CallsD Tryz.prog 39 [.pointer (some ⟨bx,0,none⟩),.pointer (some ⟨by',0,none⟩),.pointer (some ⟨bz,0,none⟩)].toArray .returning wv (λ e u' w'=>e= .returned (.tuple #[])/\u'=(FB .returning).2/\ ∃M',St w0 M0 w' M' (PE bx by' bz x y z++Rs)/\M.le M'):=by
 refine jM (Hr:=Rs) AX Tryz.func39 U Tryz.ntmps39 U U U U (λ a w=>rfl) [] [(0,.box bx [.v x] 36),(1,.box by' [.v y] 3),(2,.box bz [.v z] 26)] (.v .nilIface) [.bx 0 bx 0,.bx 1 by' 0,.bx 2 bz 0] U U hS AA (λ B hB=>?_) U
 refine DT (.tu [.ag [I 0,I 0],.v (.bool false)]) U (A0 U) (by omega) U (λ w M hX=>PV.yM (AT (v:=.v .nilIface) (E:=[]) U (A0 U)) Tryz.underlying82 Tryz.zeroValue82) ?_
 refine CL 3 U (A0 U) (by omega) Tryz.zeroValue82 U λ b3=>?_
 refine AB U (A0 U) (by omega) (λ hb1=>?_) (λ hb1=>?_)
 ·cases hb1
 ·exact jN hB U (A0 U) (by omega) λ w M' hX=>⟨M',hX.C5 [0,1,2] U,hX.le⟩
theorem kH{w0 wv:World}{M0 M:Mem}{Rs:List HO}(ec p:Int)(bx by' bz:Nat)(x y z:Value)(hS:St w0 M0 wv M (PE bx by' bz x y z++Rs)):
   CallsD Tryz.prog 39 [.pointer (some ⟨bx,0,none⟩),.pointer (some ⟨by',0,none⟩),.pointer (some ⟨bz,0,none⟩)].toArray (.panicking [L9 82 ec p]) wv (λ e u' w'=>e= .returned (.tuple #[])/\u'=(FB (.panicking [L9 82 ec p])).2/\ ∃M',St w0 M0 w' M' (PE bx by' bz (.slice none 0 0) (i64 p) (i64 ec)++Rs)/\M.le M'):=by
 refine jM (Hr:=Rs) AX Tryz.func39 U Tryz.ntmps39 U U U U (λ a w=>rfl) [] [(0,.box bx [.v x] 36),(1,.box by' [.v y] 3),(2,.box bz [.v z] 26)] (.v (.iface 82 (.agg #[i64 ec,i64 p]))) [.bx 0 bx 0,.bx 1 by' 0,.bx 2 bz 0] U U hS AA (λ B hB=>?_) U
 refine DT (.tu [.ag [I ec,I p],.v (.bool true)]) U (A0 U) (by omega) U (λ w M hX=>PV.yL (v:=.agg #[i64 ec,i64 p]) (AT (v:=.v (.iface 82 (.agg #[i64 ec,i64 p]))) (E:=[]) U (A0 U)) Tryz.underlying82) ?_
 refine CL 3 U (A0 U) (by omega) Tryz.zeroValue82 U λ b3=>?_
 refine AB U (A0 U) (by omega) (λ hb1=>?_) (λ hb1=>?_)
 ·refine KN [4,5,6] 4 (λ _ _ _ _ _ h=>h) U (A0 U) (by omega) EV (by decide+kernel) ?_
  refine CS 4 U (A0 U) (by omega) U U ?_
  refine CE U (A0 U) (by omega) ?_
  refine CS 5 U (A0 U) (by omega) U U ?_
  refine CE U (A0 U) (by omega) ?_
  refine CS 6 U (A0 U) (by omega) U U ?_
  refine CE U (A0 U) (by omega) ?_
  refine HQ U (A0 U) (by omega) U U ?_
  exact jN hB U (A0 U) (by omega) λ w M' hX=>⟨M',hX.C5 [0,1,2] U,hX.le⟩
 ·cases hb1
abbrev zT(w:World)(M:Mem)(r:Fl×Int×Int):Ending->World->Prop:=dN w M (λ h:AO=>.tuple #[h.v,i64 r.2.1,i64 r.2.2]) (λ _=>True) λ h=>[(0,BS h.v r.1)]
theorem IH{rt:Tf->Bool}(hrt:KR rt)(s:A1)(w:World)(M:Mem)(hM:Sat w M)(hg:Gl w)(hb:len s<=100000):
    Calls Tryz.prog 17 [str s].toArray w (zT w M (B2 A4 rt s)):=by
 refine yR (Hr:=[]) AX Tryz.func17 U Tryz.ntmps17 [] [] [.v (str s)] U (St.start hM) AA (λ B hB=>?_) U
 refine CL 0 U (A0 U) (by omega) Tryz.zeroValue36 U λ bx=>?_
 refine CL 1 U (A0 U) (by omega) Tryz.zeroValue3 U λ by'=>?_
 refine CL 2 U (A0 U) (by omega) Tryz.zeroValue26 U λ bz=>?_
 refine HI (λ u:Value=>.tu [.sl 3 u,I (BB s).2.1,I (BB s).2.2]) [3] (Fg:=λ u=>[(0,kn u 9 (BB s).1 Tk.cells)]) (pu:=λ _=>True) U (A0 U) (by omega) U Tryz.call22 U U (A0 U) (λ w M hX=>(vX M s w hX.st.sat (hg.low hX.st.low) (by omega)).mono λ e w' ⟨v,M',he,⟨u,hv,hsl⟩,hgr⟩=>⟨u,M',by rw[he,hv];rfl,trivial,hgr,fc 0 hsl (λ _=>rfl) AA⟩) (λ _=>rfl) λ v _=>?_
 refine AB U (A0 U) (by omega) (λ hb1=>?_) (λ hb1=>?_)<;>simp only[zb]at hb1
 ·have e:B2 A4 rt s=([],(BB s).2.1,(BB s).2.2):=by unfold B2;rw[if_pos hb1]
  rw[e]at hB
  refine KN [2,3,4] 4 (λ _ _ _ _ _ h=>h) U (A0 U) (by omega) EV (by decide+kernel) ?_
  refine CS 2 U (A0 U) (by omega) U U ?_
  refine CE U (A0 U) (by omega) ?_
  refine CS 3 U (A0 U) (by omega) U U ?_
  refine CE U (A0 U) (by omega) ?_
  refine CS 4 U (A0 U) (by omega) U U ?_
  refine CE U (A0 U) (by omega) ?_
  refine HQ U (A0 U) (by omega) U U ?_
  exact AH hB.ends U U (A0 U) (by omega) U (A0 U) λ w M' hX=>⟨⟨none,0,0⟩,M',rfl,trivial,(hX.C5 [] U).done,C0 ⟨Sl.nil M' 11,Tm.BZ,trivial⟩ AA⟩
 have hlx:(BB s).2.2=0:=by omega
 have ok:=kG hb hlx
 have hl1:0<len (BB s).1:=by
  obtain⟨l,_,h2⟩:=ZV hlx
  rw[h2];dsimp only;rw[AG];have:=A8 l;show 0<_+(1:Int);omega
 have ep:B2 A4 rt s=K0 A4 rt (BB s).1:=by unfold B2;rw[if_neg (λ q=>q hlx)]
 rw[ep]at hB
 unfold K0 at hB
 refine DT (.v (.func (.func 39) #[] #[.pointer (some ⟨bx,0,none⟩),.pointer (some ⟨by',0,none⟩),.pointer (some ⟨bz,0,none⟩)])) U (A0 U) (by omega) U (λ w M hX=>PV.makeFunc (xs:=[]) (ys:=[.tmp 2,.tmp 3,.tmp 4]) (vs:=[]) (us:=[.pointer (some ⟨bx,0,none⟩),.pointer (some ⟨by',0,none⟩),.pointer (some ⟨bz,0,none⟩)]) trivial ⟨AT (v:=.bx 0 bx 0) (E:=[]) U (A0 U),AT (v:=.bx 1 by' 0) (E:=[]) U (A0 U),AT (v:=.bx 2 bz 0) (E:=[]) U (A0 U),trivial⟩) ?_
 refine yS (λ _ _ _ _ h=>h) (λ _ _ _ _ _ h=>h) U (A0 U) (by omega) U (A0 U) U ?_
 refine F6 4 U (A0 U) (by omega) U U (A0 U) λ b4=>?_
 have key: ∀ {w:World} {M:Mem} {Rs:List HO} {w0:World} {M0:Mem} {r:PR Tf},AP A4 rt (4*(BB s).1.length+4) (BB s).1 0 0=r->Gl w0->St w0 M0 w M (EJ b4 v 0 0::Rs)->Sl M 9 (BB s).1.length v ((BB s).1.flatMap Tk.cells)->Calls Tryz.prog 40 [.pointer (some ⟨b4,0,none⟩)].toArray w (LS w0 M0 M Rs b4 v 0 r):=λ hr hg hS hl=>by
  subst hr
  exact(ZI hrt _ _ (Nat.le_refl _)).rd ⟨hS,hl,hg,ok,by omega,hl1⟩ (by omega) (by omega) (by unfold len;omega) trivial
 cases hr:AP A4 rt (4*(BB s).1.length+4) (BB s).1 0 0 with
 |er ec p=>
  rw[hr]at hB
  refine F7 [4] U (A0 U) (by omega) U Tryz.call40 U (A0 U) U (λ w M hS hF=>key hr hg hS (hF.get (k:=3) U).sl) λ a w M hs hS hle=>E5 _ (hB.jL hs ?_)
  have hS2:St _ _ w M (PE bx by' bz (.slice none 0 0) (i64 (BB s).2.1) (i64 (BB s).2.2)++[]):=hS.perm (List.reverse_perm [_,_,_])
  refine ZK Tryz.call39 (λ h=>by cases h) rfl (kH ec p bx by' bz _ _ _ hS2) λ w' ⟨M',hS',hle'⟩=>⟨_,UY AX (H:=[(0,.box bx [.v (.slice none 0 0)] 36),(1,.box by' [I p] 3),(2,.box bz [I ec] 26)]) (Hr:=[]) hS' hs rfl rfl (A0 rfl),?_⟩
  exact⟨⟨none,0,0⟩,M',rfl,trivial,(hS'.drop [] (List.nil_sublist _)).done,C0 ⟨Sl.nil M' 11,Tm.BZ,trivial⟩ AA⟩
 |ok x j=>
  have g:=(IG rt ok _).ty 0 0 x j (by omega) hl1 hr
  have hlt:=g.lt
  have hle:=g.le
  have hfew:=ok.few
  rw[hr]at hB
  dsimp only at hB
  refine B9 [4] (λ h:AO=>.sl 5 h.v) [] (λ h=>[(4,AS b4 v j 0),(5,C2 h.v x.flat)]) U (A0 U) (by omega) U Tryz.call40 U U (A0 U) U (λ w M hS hF=>key hr hg hS (hF.get (k:=3) U).sl) (λ _=>rfl) (λ _=>rfl) λ h5 _=>?_
  refine FW 5 U ?_
  refine CF [4] (DA (at' (BB s).1 j)) U (A0 U) (by omega) Tryz.call41 U U (A0 U) U (λ _ w M hS hF=>DR hS (hF.get (k:=3) U).sl (by omega) hle) U ?_
  refine AB U (A0 U) (by omega) (λ hb2=>?_) (λ hb2=>?_)<;>simp only[zb]at hb2
  ·rw[if_neg hb2]at hB
   refine CF [4] (DA (at' (BB s).1 j)) U (A0 U) (by omega) Tryz.call41 U U (A0 U) U (λ _ w M hS hF=>DR hS (hF.get (k:=3) U).sl (by omega) hle) U ?_
   refine F7 [4] U (A0 U) (by omega) U Tryz.call42 U (A0 U) U (λ w M hS hF=>HP (at' (BB s).1 j) 1 hS) λ a w M hs hS hle=>E5 _ (hB.jL hs ?_)
   have hS2:St _ _ w M (PE bx by' bz h5.v (i64 (BB s).2.1) (i64 (BB s).2.2)++[]):=hS.perm (List.reverse_perm [_,_,_])
   refine ZK Tryz.call39 (λ h=>by cases h) rfl (kH 1 (at' (BB s).1 j).pos bx by' bz _ _ _ hS2) λ w' ⟨M',hS',hle'⟩=>⟨_,UY AX (H:=[(0,.box bx [.v (.slice none 0 0)] 36),(1,.box by' [I (at' (BB s).1 j).pos] 3),(2,.box bz [I 1] 26)]) (Hr:=[]) hS' hs rfl rfl (A0 rfl),?_⟩
   exact⟨⟨none,0,0⟩,M',rfl,trivial,(hS'.drop [] (List.nil_sublist _)).done,C0 ⟨Sl.nil M' 11,Tm.BZ,trivial⟩ AA⟩
  ·rw[if_pos (by omega)]at hB
   refine yT hB rfl (A0 rfl) (by omega) λ a w M hs hX=>ZK Tryz.call39 (λ h=>by cases h) rfl (zS bx by' bz _ _ _ (hX.C5 [0,1,2] rfl)) λ w' ⟨M',hS',hle'⟩=>⟨_,UY AX (H:=[(0,.box bx [.sl 5 h5.v] 36),(1,.box by' [I 0] 3),(2,.box bz [I 0] 26)]) (Hr:=[]) hS' hs rfl rfl (A0 rfl),?_⟩
   exact⟨h5,M',rfl,trivial,(hS'.drop [] (List.nil_sublist _)).done,C0 ((hX.f.get (k:=5) U).mono hle') AA⟩
end Go.Proofs.YtmjpjbmeamnfpaaGreatDoor
namespace Go.Eng
open Go.RowKit
def RW(s:A1)(i:Int):A1:=((A3 s i).takeWhile DP).take 7
def RX(s:A1)(i:Int):Int×Int:=
 if RW s i=[]\/(A2 s i=48/\1<len (RW s i))\/1000000<D9 (RW s i)then(-1,i)else(D9 (RW s i),i+len (RW s i))
def V8:Sp:=⟨false,[],0⟩
def kI(s:A1)(i j:Int):Sp×Int:=
 if len s<=j\/A2 s j≠91 then(V8,i)
 else if(RX s (j+1)).1<0\/len s<=(RX s (j+1)).2\/A2 s (RX s (j+1)).2≠93 then(V8,i)
 else(⟨true,[],(RX s (j+1)).1⟩,(RX s (j+1)).2+1)
def ZY(s:A1)(i:Int)(first:Bool):Sp×Int:=
 if i<len s/\A2 s i=46 then
  if B1 (A3 s (i+1))≠[]then(⟨false,B1 (A3 s (i+1)),0⟩,i+1+len (B1 (A3 s (i+1))))
  else if(AM (A3 s (i+1))).2.2=0/\NT (AM (A3 s (i+1))).1=false/\rN (AM (A3 s (i+1))).1=Eng.sub s (i+1) (i+1+(AM (A3 s (i+1))).2.1)then(⟨false,(AM (A3 s (i+1))).1,0⟩,i+1+(AM (A3 s (i+1))).2.1)
  else if first=false then(V8,i)else kI s i (i+1)
 else if first then(V8,i)else kI s i i
def ZZ:Nat->A1->List Sp->Int->List Sp×Int
 |0,_,p,i=>(p,i)
 |f+1,s,p,i=>if(ZY s i (p.isEmpty)).2=i then(p,i)else ZZ f s (p++[(ZY s i (p.isEmpty)).1]) (ZY s i (p.isEmpty)).2
def RY(s:A1)(i:Int):List Sp×Int:=if(ZZ 20 s [] i).1=[]/\i<len s/\A2 s i=46 then([],i+1)else ZZ 20 s [] i
def zU(s:A1):List Sp×Int×Int:=
 if s=[46]then((RY s 0).1,0,0)else if(RY s 0).1=[]then([],0,1)else if(RY s 0).2<len s then([],(RY s 0).2,1)else((RY s 0).1,0,0)
def kJ(s:A1):Bool:=(zU s).2.2==0
def Sp.a6 (x:Sp):Prop:=(x.part=true->x.name=[]/\0<=x.n/\x.n<=1000000)/\(x.part=false->x.n=0/\FH x.name=true)
end Go.Eng
set_option maxRecDepth 100000
namespace Go.Proofs.YtmjpjbmeamnfpaaGreatDoor
open Go.Eng
end Go.Proofs.YtmjpjbmeamnfpaaGreatDoor
set_option maxRecDepth 100000
namespace Go.Proofs.YtmjpjbmeamnfpaaGreatDoor
open Go.Eng
end Go.Proofs.YtmjpjbmeamnfpaaGreatDoor
set_option maxRecDepth 100000
namespace Go.Proofs.YtmjpjbmeamnfpaaGreatDoor
open Go.Eng
end Go.Proofs.YtmjpjbmeamnfpaaGreatDoor
set_option maxRecDepth 100000
namespace Go.Proofs.YtmjpjbmeamnfpaaGreatDoor
open Go.Eng
end Go.Proofs.YtmjpjbmeamnfpaaGreatDoor
set_option maxRecDepth 100000
namespace Go.Proofs.YtmjpjbmeamnfpaaGreatDoor
open Go.Eng
theorem RZ{P:Program}{f:FuncId}{args:Array Value}{w:World}{u:Value}(h:Calls P f args w λ e w'=>e= .returned u/\w'=w):Calls P f args w λ e w'=>e= .returned u/\Ext w w':=h.mono λ e w' ⟨h1,h2⟩=>⟨h1,by rw[h2];exact .refl _⟩
end Go.Proofs.YtmjpjbmeamnfpaaGreatDoor
set_option maxRecDepth 100000
namespace Go.Eng
def GN:Sp:=⟨false,[],0⟩
def F3(s:A1):Sp×Int:=
 if Lib.hasPrefix s [46]=false then(GN,0)
 else if 0<CC (A3 s 1) 0 then(⟨false,Eng.sub s 1 (CC (A3 s 1) 0+1),0⟩,CC (A3 s 1) 0+1)
 else if(AM (A3 s 1)).2.2≠0\/OL (AM (A3 s 1)).1=true\/A4 (AM (A3 s 1)).1≠Eng.sub s 1 (1+(AM (A3 s 1)).2.1)then(GN,0)
 else(⟨false,(AM (A3 s 1)).1,0⟩,(AM (A3 s 1)).2.1+1)
def EF(s:A1):Sp×Int:=
 if Lib.hasPrefix s [91]=false\/Lib.indexByte s 93<2\/8<Lib.indexByte s 93 then(GN,0)
 else match Lib.atoi (Eng.sub s 1 (Lib.indexByte s 93))with
  |none=>(GN,0)
  |some n=>if 1000000<n\/Lib.itoa n≠Eng.sub s 1 (Lib.indexByte s 93)\/n<0 then(GN,0)else(⟨true,[],n⟩,Lib.indexByte s 93+1)
def GO(s:A1)(i:Int):Int:=if i=0/\Lib.hasPrefix s [46]=true then 1 else 0
def ER(s:A1)(i:Int):Sp×Int:=
 if(F3 (A3 s i)).2≠0 then F3 (A3 s i)
 else if 0<i\/0<GO s i then
  if(EF (A3 s (i+GO s i))).2=0 then(GN,0)else((EF (A3 s (i+GO s i))).1,(EF (A3 s (i+GO s i))).2+GO s i)
 else(GN,0)
def II:Nat->A1->List Sp->Int->List Sp×Int
 |0,_,p,i=>(p,i)
 |f+1,s,p,i=>if i<len s then if(ER s i).2=0 then(p,i)else II f s (p++[(ER s i).1]) (i+(ER s i).2)else(p,i)
def H8(s:A1):List Sp×Int×Int:=
 if s=[46]then([],0,0)
 else if(II 20 s [] 0).2<len s\/(II 20 s [] 0).1=[]then([],(II 20 s [] 0).2,1)else((II 20 s [] 0).1,0,0)
def HY(s:A1):List Sp×Bool:=((H8 s).1,decide ((H8 s).2.2=0)&& !((H8 s).1.any λ x=>x.part))
theorem V9{s:A1}{c:UInt8}(h:Lib.hasPrefix s [c]=true):1<=len s:=U5 h
theorem kK(s:A1)(c:UInt8):Lib.indexByte s c<len s:=by
 induction s with
 |nil=>show(-1:Int)<0;decide
 |cons a s ih=>
  unfold Lib.indexByte
  have:=A8 s
  rw[AK]
  split
  ·omega
  ·split<;>omega
theorem kL(s:A1):0<=(F3 s).2/\(F3 s).2<=len s/\len (F3 s).1.name<=4*len s/\(F3 s).1.part=false/\(F3 s).1.n=0:=by
 have hl:=A8 s
 unfold F3
 split
 ·exact⟨by omega,hl,by show(0:Int)<=_;omega,rfl,rfl⟩
 ·rename_i hp
  have h1:=V9 (by simpa using hp)
  have hfl:len (A3 s 1)=len s-1:=CN _ _ (by omega) h1
  have hw:=KF (s:=A3 s 1) (i:=0) (by omega) (by omega)
  have hu:=KG (A3 s 1)
  have hul:=V7 (A3 s 1)
  split
  ·refine⟨by omega,by omega,?_,rfl,rfl⟩
   show len (Eng.sub s 1 _)<=_
   have:len (Eng.sub s 1 (CC (A3 s 1) 0+1))<=len s:=by unfold Eng.sub len;rw[List.length_take,List.length_drop];unfold len at*;omega
   omega
  ·split
   ·exact⟨by omega,hl,by show(0:Int)<=_;omega,rfl,rfl⟩
   ·exact⟨by omega,by omega,by show len (AM (A3 s 1)).1<=_;omega,rfl,rfl⟩
theorem kM(s:A1):0<=(EF s).2/\(EF s).2<=len s/\len (EF s).1.name<=0/\((EF s).1.part=true->0<=(EF s).1.n/\(EF s).1.n<=1000000):=by
 have hl:=A8 s
 have hi:=kK s 93
 have hn:len GN.name<=0:=by decide
 unfold EF
 split
 ·exact⟨by omega,hl,hn,λ h=>by cases h⟩
 ·rename_i hc
  split
  ·exact⟨by omega,hl,hn,λ h=>by cases h⟩
  ·split
   ·exact⟨by omega,hl,hn,λ h=>by cases h⟩
   ·rename_i n _ hd
    exact⟨by omega,by omega,hn,λ _=>⟨show(0:Int)<=n by omega,show n<=(1000000:Int) by omega⟩⟩
end Go.Eng
namespace Go.Proofs.YtmjpjbmeamnfpaaGreatDoor
open Go.Eng
theorem zV(s:A1)(w:World)(hg:Gl w)(hb:len s<=200000000000):
    Calls Tryz.prog 302 [str s].toArray w λ e w'=>e= .returned (.tuple #[.agg (F3 s).1.cells.toArray,i64 (F3 s).2])/\Ext w w':=by
 have hl0:=A8 s
 refine B3 AX Tryz.func302 U Tryz.ntmps302 [] [] [.v (str s)] U (GG w) AA (λ B hB=>?_) U
 refine CL 2 U (A0 U) (by omega) Tryz.zeroValue68 U λ b2=>?_
 refine BE U (A0 U) (by omega) Tryz.call77 U U (A0 U) (λ _ w M hX=>RZ (MC s [46] w)) U ?_
 refine AB U (A0 U) (by omega) (λ hb1=>?_) (λ hb1=>?_)<;>simp only[zb]at hb1
 ·exact AH hB U U (A0 U) (by omega) U (A0 U) λ w M hX=>⟨by unfold F3;rw[if_pos hb1];rfl,hX.st.low⟩
 have h1:=V9 hb1
 have hfl:len (A3 s 1)=len s-1:=CN _ _ (by omega) h1
 have hw:=KF (s:=A3 s 1) (i:=0) (by omega) (by omega)
 have hu:=KG (A3 s 1)
 have hul:=V7 (A3 s 1)
 refine BE U (A0 U) (by simp only[zb]<;>omega) Tryz.call280 U U (A0 U) (λ _ w M hX=>gY (A3 s 1) w (by omega)) U ?_
 refine AB U (A0 U) (by omega) (λ hb2=>?_) (λ hb2=>?_)<;>simp only[zb]at hb2
 ·exact AH hB U U (A0 U) (by simp only[zb]<;>omega) U (A0 U) λ w M hX=>⟨by unfold F3;rw[if_neg (by rw[hb1];decide),if_pos hb2];rfl,hX.st.low⟩
 refine BE U (A0 U) (by simp only[zb]<;>omega) Tryz.call78 U U (A0 U) (λ _ w M hX=>UO (A3 s 1) w (hg.low hX.st.low) (by omega)) U ?_
 refine LC U (A0 U) (by omega) EV (by decide+kernel) ?_
 refine LF U (A0 U) (by simp only[zb]<;>omega) Tryz.call254 U U (A0 U) (λ _ w M hX=>gZ (AM (A3 s 1)).1 w (by omega)) U ?_
 refine LF U (A0 U) (by simp only[zb]<;>omega) Tryz.call255 U U (A0 U) (λ _ w M hX=>gP (AM (A3 s 1)).1 w (hg.low hX.st.low) (by omega)) U ?_
 refine LD U (A0 U) (by simp only[zb]<;>omega) ?_
 refine AB U (A0 U) (by omega) (λ hb3=>?_) (λ hb3=>?_)<;>simp only[zb]at hb3
 ·exact AH hB U U (A0 U) (by omega) U (A0 U) λ w M hX=>⟨by unfold F3;rw[if_neg (by rw[hb1];decide),if_neg (by omega),if_pos (by simpa only[or_assoc]using hb3)];rfl,hX.st.low⟩
 ·have hno: ¬((AM (A3 s 1)).2.2≠0\/OL (AM (A3 s 1)).1=true\/A4 (AM (A3 s 1)).1≠Eng.sub s 1 (1+(AM (A3 s 1)).2.1)):=by
   rintro(q|q|q)
   · exact q hb3.1.1
   · rw[hb3.1.2]at q;cases q
   · exact q hb3.2
  exact AH hB U U (A0 U) (by simp only[zb]<;>omega) U (A0 U) λ w M hX=>⟨by unfold F3;rw[if_neg (by rw[hb1];decide),if_neg (by omega),if_neg hno];rfl,hX.st.low⟩
theorem zW{w0 wv:World}{M0 M:Mem}{Rs:List HO}(s:A1)(hS:St w0 M0 wv M Rs)(hg:Gl w0)(hb:len s<=18):
   Calls Tryz.prog 120 [str s].toArray wv (CX w0 M0 M Rs (λ u:Int×Value=>.tuple #[i64 u.1,u.2]) (λ u=>(∃n,Lib.atoi s=some n/\u=(n,.nilIface)/\ -9223372036854775808<=n/\n<=9223372036854775807)\/(Lib.atoi s=none/\u.1=0/\ ∃t p,u.2= .iface t p)) (λ _=>[]) λ _=>[]):=by
 have hgw:=hg.low hS.low
 have hsl:s.length<=18:=by unfold len at hb;omega
 have hall:=Lib.atoiAll_short s hsl
 cases ha:Lib.atoi s with
 |some n=>
  rw[ha]at hall
  have hbd:=Lib.atoiAll_bounds hall
  exact(WC s n wv (by omega) hall).mono λ e w' ⟨he,hx⟩=>⟨(n,.nilIface),M,he,.inl ⟨n,rfl,rfl,hbd⟩,Mem.le.refl _,hS.ext hx,AA⟩
 |none=>
  rw[ha]at hall
  obtain⟨ev,h1,h2⟩:=hgw.err
  exact(Any.strconv_Atoi_syntax Tryz.aP ⟨⟨s⟩⟩ (by show s.length<=_;omega) hall ev wv h1 h2).mono λ e w' ⟨N,he,_,_,hx⟩=>⟨(0,_),M,he,.inr ⟨rfl,rfl,_,_,rfl⟩,Mem.le.refl _,hS.ext hx,AA⟩
theorem zX(s:A1)(w:World):Calls Tryz.prog 119 [str s,.int .u8 93].toArray w λ e w'=>e= .returned (i64 (Lib.indexByte s 93))/\Ext w w':=RZ (T2 s 93 w)
theorem zY(s:A1)(w:World)(hg:Gl w)(hb:len s<=200000000000):
    Calls Tryz.prog 303 [str s].toArray w λ e w'=>e= .returned (.tuple #[.agg (EF s).1.cells.toArray,i64 (EF s).2])/\Ext w w':=by
 have hl0:=A8 s
 have hix:=kK s 93
 have hix0:=Lib.indexByte_ge s 93
 refine B3 AX Tryz.func303 U Tryz.ntmps303 [] [] [.v (str s)] U (GG w) AA (λ B hB=>?_) U
 refine CL 2 U (A0 U) (by omega) Tryz.zeroValue68 U λ b2=>?_
 refine BE U (A0 U) (by omega) Tryz.call119 U U (A0 U) (λ _ w M hX=>zX s w) U ?_
 refine BE U (A0 U) (by omega) Tryz.call77 U U (A0 U) (λ _ w M hX=>RZ (MC s [91] w)) U ?_
 refine AB U (A0 U) (by omega) (λ hb1=>?_) (λ hb1=>?_)<;>simp only[zb]at hb1
 ·exact AH hB U U (A0 U) (by omega) U (A0 U) λ w M hX=>⟨by unfold EF;rw[if_pos (by simpa only[or_assoc]using hb1)];rfl,hX.st.low⟩
 have hno: ¬(Lib.hasPrefix s [91]=false\/Lib.indexByte s 93<2\/8<Lib.indexByte s 93):=by
  rintro(q|q|q)
  · rw[q]at hb1;cases hb1.1.1
  · omega
  · omega
 obtain⟨z,hz⟩: ∃z,z=Lib.indexByte s 93:=⟨_,rfl⟩
 have hsub:len (Eng.sub s 1 (Lib.indexByte s 93))<=18:=by
  unfold Eng.sub len;rw[List.length_take,List.length_drop];omega
 refine B9 [] (λ u:Int×Value=>.tu [I u.1,.v u.2]) [] (λ _=>[]) (Fg:=λ _=>[]) U (A0 U) (by simp only[zb]<;>omega) U Tryz.call120 U U (A0 U) U (λ w M hS hF=>zW (Eng.sub s 1 (Lib.indexByte s 93)) hS hg hsub) (λ _=>rfl) (λ _=>rfl) λ u hu=>?_
 rcases u with⟨u1,u2⟩
 rcases hu with⟨n,hn,hu,hn0,hn1⟩|⟨hn,hu1,t,p,hu2⟩
 ·cases hu
  refine LC U (A0 U) (by omega) EV (by decide+kernel) ?_
  refine iE (.v (.bool false)) U (A0 U) (by omega) U (λ w M hX=>PV.SZ (AT (v:=.v .nilIface) (E:=[]) U (A0 U)) (.inl U) Tryz.underlying166) ?_
  refine LF U (A0 U) (by simp only[zb]<;>omega) Tryz.call245 U U (A0 U) (λ _ w M hX=>WB u1 w (hg.low hX.st.low) hn0 hn1) U ?_
  refine LD U (A0 U) (by simp only[zb]<;>omega) ?_
  have e:EF s=if 1000000<u1\/Lib.itoa u1≠Eng.sub s 1 (Lib.indexByte s 93)\/u1<0 then(GN,0)else(⟨true,[],u1⟩,Lib.indexByte s 93+1):=by
   unfold EF;rw[if_neg hno,hn]
  refine AB U (A0 U) (by simp only[zb]<;>omega) (λ hb2=>?_) (λ hb2=>?_)<;>simp only[zb]at hb2
  ·exact AH hB U U (A0 U) (by omega) U (A0 U) λ w M hX=>⟨by rw[e,if_pos (by simpa[or_assoc]using hb2)];rfl,hX.st.low⟩
  ·have hn2: ¬(1000000<u1\/Lib.itoa u1≠Eng.sub s 1 (Lib.indexByte s 93)\/u1<0):=by
    rintro(q|q|q)
    · omega
    · exact q hb2.1.2
    · omega
   exact AH hB U U (A0 U) (by simp only[zb]<;>omega) U (A0 U) λ w M hX=>⟨by rw[e,if_neg hn2];rfl,hX.st.low⟩
 ·cases hu1;cases hu2
  have e:EF s=(GN,0):=by unfold EF;rw[if_neg hno,hn]
  refine LC U (A0 U) (by omega) EV (by decide+kernel) ?_
  refine iE (.v (.bool true)) U (A0 U) (by omega) U (λ w M hX=>PV.SZ (AT (v:=.v (.iface t p)) (E:=[]) U (A0 U)) (.inr ⟨t,p,rfl⟩) Tryz.underlying166) ?_
  refine LF U (A0 U) (by simp only[zb]<;>omega) Tryz.call245 U U (A0 U) (λ _ w M hX=>WB 0 w (hg.low hX.st.low) (by omega) (by omega)) U ?_
  refine LD U (A0 U) (by simp only[zb]<;>omega) ?_
  refine AB U (A0 U) (by simp only[zb]<;>omega) (λ hb2=>?_) (λ hb2=>?_)
  ·exact AH hB U U (A0 U) (by omega) U (A0 U) λ w M hX=>⟨by rw[e];rfl,hX.st.low⟩
  ·cases hb2
theorem zZ(s:A1)(i:Int)(h0:0<=i)(h1:i<=len s):0<=(ER s i).2/\i+(ER s i).2<=len s/\len (ER s i).1.name<=4*len s/\((ER s i).1.part=true->0<=(ER s i).1.n/\(ER s i).1.n<=1000000):=by
 have hl:=A8 s
 have hf:=CN s i h0 h1
 have h2:=kL (A3 s i)
 have hsp:len GN.name<=0:=by decide
 unfold ER
 split
 ·exact⟨h2.1,by omega,by omega,λ h=>by rw[h2.2.2.2.1]at h;cases h⟩
 ·split
  ·rename_i hd
   have hdq:0<=GO s i/\i+GO s i<=len s:=by
    unfold GO at*
    split at hd
    ·rename_i hp;rw[if_pos hp];have:=V9 hp.2;omega
    ·rename_i hp;rw[if_neg hp];omega
   have hf2:=CN s (i+GO s i) (by omega) hdq.2
   have h3:=kM (A3 s (i+GO s i))
   split
   ·exact⟨by omega,by omega,show len GN.name<=_ by omega,λ h=>by cases h⟩
   ·exact⟨by omega,by omega,show len (EF (A3 s (i+GO s i))).1.name<=_ by omega,h3.2.2.2⟩
  ·exact⟨by omega,by omega,show len GN.name<=_ by omega,λ h=>by cases h⟩
theorem AA0{w0 wv:World}{M0 M:Mem}{Rs:List HO}(s:A1)(hS:St w0 M0 wv M Rs)(hg:Gl w0)(hb:len s<=200000000000):
    Calls Tryz.prog 286 [str s].toArray wv (CX w0 M0 M Rs (λ u:Value=>.tuple #[u,i64 (H8 s).2.1,i64 (H8 s).2.2]) (λ _=>True) (λ u=>[(1,kn u 3 (H8 s).1 Sp.cells)]) λ _=>[]):=by
 have hl0:=A8 s
 refine B3 (Hr:=Rs) AX Tryz.func286 U Tryz.ntmps286 [] [] [.v (str s)] U hS AA (λ B hB=>?_) U
 unfold H8 at hB
 refine AB U (A0 U) (by omega) (λ hb1=>?_) (λ hb1=>?_)<;>simp only[zb]at hb1
 ·rw[if_pos hb1]at hB
  exact AH hB U U (A0 U) (by omega) U (A0 U) λ w M' hX=>⟨.slice none 0 0,M',rfl,trivial,hX.le,hX.C5 [] U,C0 ⟨Sl.nil M' 3,Sp.BZ,trivial⟩ AA⟩
 rw[if_neg hb1]at hB
 refine wK (λ Q a w h=>wp_label h) U (A0 U) (by omega) ?_
 generalize hR:II 20 s [] 0=R at hB
 refine QF 1 5 68 3 Sp.cells Sp.BZ U ?_
 refine iD (σ:=Int×Value×List Sp×Nat) 1 (λ s'=> ∃(i:Int) (u:Value) (xs:List Sp),0<=i/\i<=len s/\len xs<=20/\R=(xs,i)/\s'=⟨[(1,kn u 3 xs Sp.cells)],[(1,.ho (RF u xs))],[Z 0 (.v (str s)),Z 5 (.sl 1 u),Z 6 (I i)]⟩)
   (λ(i,u,xs,f)=>⟨[(1,kn u 3 xs Sp.cells)],[(1,.ho (RF u xs))],[Z 0 (.v (str s)),Z 5 (.sl 1 u),Z 6 (I i)]⟩)
   (λ(i,u,xs,f)=>0<=i/\i<=len s/\len xs+f=20/\II f s xs i=R) (λ(i,u,xs,f)=>f) (0,.slice none 0 0,[],20) U (A0 U) (by omega) U U ⟨by omega,hl0,rfl,hR⟩ ?_ ?_
 ·rintro⟨i,u,xs,f⟩ ⟨hi0,hi1,hxf,hst⟩
  have hx0:=A8 xs
  refine AB U (A0 U) (by omega) (λ hb2=>?_) (λ hb2=>?_)<;>simp only[zb]at hb2
  ·cases f with
   |zero=>exfalso;omega
   |succ f=>
   rw[II,if_pos hb2.1]at hst
   have hf:=CN s i hi0 hi1
   have hfb:=kL (A3 s i)
   have hsb:=zZ s i hi0 hi1
   refine BE U (A0 U) (by simp only[zb]<;>omega) Tryz.call302 U U (A0 U) (λ _ w M hX=>zV (A3 s i) w (hg.low hX.st.low) (by omega)) U ?_
   refine CL 7 U (A0 U) (by omega) Tryz.zeroValue68 U λ b7=>?_
   refine HH 0 (λ s'=> ∃x:Sp,x=(ER s i).1/\(ER s i).2≠0/\s'=⟨[(1,kn u 3 xs Sp.cells)],[(7,.box b7 [.v (.bool x.part),.v (str x.name),I x.n] 68),(1,.ho (RF u xs))],[Z 0 (.v (str s)),Z 5 (.sl 1 u),Z 6 (I i),Z 7 (.bx 7 b7 0),Z 8 (I ((ER s i).2))]⟩) U (A0 U) (by simp only[zb]<;>omega) U (λ hb3=>?_) (λ hb3=>?_) ?_
   ·simp only[zb]at hb3
    refine BE U (A0 U) (by simp only[zb]<;>omega) Tryz.call77 U U (A0 U) (λ _ w M hX=>RZ (MC s [46] w)) U ?_
    refine HH 0 (λ s'=> ∃dt:Int,dt=GO s i/\s'=⟨[(1,kn u 3 xs Sp.cells)],[(7,.box b7 [.v (.bool (F3 (A3 s i)).1.part),.v (str (F3 (A3 s i)).1.name),I (F3 (A3 s i)).1.n] 68),(1,.ho (RF u xs))],[Z 0 (.v (str s)),Z 5 (.sl 1 u),Z 6 (I i),Z 7 (.bx 7 b7 0),Z 8 (I ((F3 (A3 s i)).2)),Z 9 (I dt)]⟩) U (A0 U) (by simp only[zb]<;>omega) U (λ hb4=>?_) (λ hb4=>?_) ?_
    ·exact BF _ U (A0 U) (by omega) U ⟨1,by simp only[zb]at hb4;unfold GO;rw[if_pos hb4],rfl⟩
    ·exact BF _ U (A0 U) (by omega) U ⟨0,(by
      simp only[zb]at hb4;unfold GO;rw[if_neg]
      rintro⟨q1,q2⟩
      rcases hb4 with h|h
      · exact h q1
      · rw[q2]at h;cases h),rfl⟩
    rintro s' ⟨dt,hdt,rfl⟩
    have hdq:0<=dt/\dt<=1/\i+dt<=len s:=by
     rw[hdt];unfold GO
     split
     · rename_i hp;have:=V9 hp.2;omega
     · omega
    have hf2:=CN s (i+dt) (by omega) hdq.2.2
    have hpb:=kM (A3 s (i+dt))
    have est:ER s i=if 0<i\/0<dt then if(EF (A3 s (i+dt))).2=0 then(GN,0)else((EF (A3 s (i+dt))).1,(EF (A3 s (i+dt))).2+dt)else(GN,0):=by
     unfold ER;rw[if_neg (λ q=>q hb3),<-hdt]
    refine AB U (A0 U) (by simp only[zb]<;>omega) (λ hb4=>?_) (λ hb4=>?_)<;>simp only[zb]at hb4
    ·rw[if_pos hb4]at est
     refine BE U (A0 U) (by simp only[zb]<;>omega) Tryz.call303 U U (A0 U) (λ _ w M hX=>zY (A3 s (i+dt)) w (hg.low hX.st.low) (by omega)) U ?_
     refine AB U (A0 U) (by simp only[zb]<;>omega) (λ hb5=>?_) (λ hb5=>?_)<;>simp only[zb]at hb5
     ·rw[if_pos hb5]at est
      rw[est,if_pos U]at hst
      exact BF _ U (A0 U) (by omega) U ⟨i,u,xs,hi0,hi1,by omega,hst.symm,rfl⟩
     ·rw[if_neg hb5]at est
      exact BF _ U (A0 U) (by simp only[zb]<;>omega) (by rw[est];rfl) ⟨_,rfl,by rw[est];show(EF (A3 s (i+dt))).2+dt≠0;omega,rfl⟩
    ·rw[if_neg (by omega)]at est
     refine AB U (A0 U) (by simp only[zb]<;>omega) (λ hb5=>?_) (λ hb5=>?_)<;>simp only[zb]at hb5
     ·rw[est,if_pos U]at hst
      exact BF _ U (A0 U) (by omega) U ⟨i,u,xs,hi0,hi1,by omega,hst.symm,rfl⟩
     ·exact absurd hb3 hb5
   ·simp only[zb]at hb3
    have est:ER s i=F3 (A3 s i):=by unfold ER;rw[if_pos hb3]
    exact BF _ U (A0 U) (by omega) (by rw[est];rfl) ⟨_,rfl,by rw[est];exact hb3,rfl⟩
   rintro s' ⟨x,hx,hne,rfl⟩
   rw[if_neg hne,<-hx]at hst
   refine EN 6 [x] Sp.cells 3 68 Sp.BZ U (A0 U) (by omega) U (A0 U) (λ w=>by kernel_rfl) U λ v6=>?_
   refine O9 32 U (A0 U) (by omega) U (A0 U) U Tryz.underlying70 Tryz.type68 U U Sp.cells_one (by simp only[AK,len_nil];omega) λ v'=>?_
   exact DO (i+(ER s i).2,v',xs++[x],f) U (A0 U) (by simp only[zb]<;>omega) U ⟨by omega,by omega,by rw[AG];show len xs+1+_=20;omega,hst⟩ (by show f<f+1;omega)
  ·refine BF _ U (A0 U) (by omega) U ⟨i,u,xs,hi0,hi1,by omega,?_,rfl⟩
   rw[<-hst]
   cases f with
   |zero=>rfl
   |succ f=>rw[II,if_neg (by omega)]
 rintro s' ⟨i,u,xs,hi0,hi1,hx20,rfl,rfl⟩
 have hx0:=A8 xs
 refine AB U (A0 U) (by omega) (λ hb2=>?_) (λ hb2=>?_)<;>simp only[zb]at hb2
 ·rw[if_pos (hb2.imp id λ h=>Decidable.byContradiction λ q=>by have:0<len xs:=JG q;omega)]at hB
  exact AH hB U U (A0 U) (by omega) U (A0 U) λ w M' hX=>⟨.slice none 0 0,M',rfl,trivial,hX.le,hX.C5 [] U,C0 ⟨Sl.nil M' 3,Sp.BZ,trivial⟩ AA⟩
 ·rw[if_neg (by
                 rintro(q|q);· omega
                 · dsimp only at q;rw[q]at hb2;exact hb2.2 U)]at hB
  exact AH hB U U (A0 U) (by omega) U (A0 U) λ w M' hX=>⟨u,M',rfl,trivial,hX.le,hX.C5 [] U,C0 (hX.f.get (k:=1) U) AA⟩
end Go.Proofs.YtmjpjbmeamnfpaaGreatDoor
set_option maxRecDepth 100000
namespace Go.Proofs.YtmjpjbmeamnfpaaGreatDoor
open Go.Eng
theorem AA1:Tryz.prog.underlying 48=some (.struct (Tryz.prog.fieldsOf 48)):=by kernel_rfl
theorem AA2:(Tryz.prog.fieldsOf 48).toList=[⟨"Kind",3,0,false,"","",0⟩,⟨"Many",3,1,false,"","",8⟩,⟨"Name",9,2,false,"","",16⟩,⟨"S",9,3,false,"","",32⟩,⟨"N",3,4,false,"","",48⟩,⟨"C",46,5,false,"","",56⟩]:=by kernel_rfl
theorem kN(d:Nat)(a b:Tm)(w:World):(Op.equalIn (d+1+1+1) 48 (.agg (Tm.cells a).toArray) (.agg (Tm.cells b).toArray)).run Tryz.prog w= .ok (decide (a=b)) w:=by
 rw[run_equalIn_agg w _ _ _ _ AA1 Tryz.stoodInHeld48,AA2]
 rw[I1 (P:=Tryz.prog) (w:=w) (xs:=(Tm.cells a).toArray) (ys:=(Tm.cells b).toArray) (f:=⟨"Kind",3,0,false,"","",0⟩) (by decide) (show(part 3 (Tm.cells a).toArray 0).run Tryz.prog w= .ok (i64 ((a).op)) w by kernel_rfl) (show(part 3 (Tm.cells b).toArray 0).run Tryz.prog w= .ok (i64 ((b).op)) w by kernel_rfl) (NN Tryz.underlying3 w (d+1) ((a).op) ((b).op))]
 rw[I1 (P:=Tryz.prog) (w:=w) (xs:=(Tm.cells a).toArray) (ys:=(Tm.cells b).toArray) (f:=⟨"Many",3,1,false,"","",8⟩) (by decide) (show(part 3 (Tm.cells a).toArray 1).run Tryz.prog w= .ok (i64 ((a).many)) w by kernel_rfl) (show(part 3 (Tm.cells b).toArray 1).run Tryz.prog w= .ok (i64 ((b).many)) w by kernel_rfl) (NN Tryz.underlying3 w (d+1) ((a).many) ((b).many))]
 rw[I1 (P:=Tryz.prog) (w:=w) (xs:=(Tm.cells a).toArray) (ys:=(Tm.cells b).toArray) (f:=⟨"Name",9,2,false,"","",16⟩) (by decide) (show(part 9 (Tm.cells a).toArray 2).run Tryz.prog w= .ok (str ((a).name)) w by kernel_rfl) (show(part 9 (Tm.cells b).toArray 2).run Tryz.prog w= .ok (str ((b).name)) w by kernel_rfl) (SN Tryz.underlying9 w (d+1) ((a).name) ((b).name))]
 rw[I1 (P:=Tryz.prog) (w:=w) (xs:=(Tm.cells a).toArray) (ys:=(Tm.cells b).toArray) (f:=⟨"S",9,3,false,"","",32⟩) (by decide) (show(part 9 (Tm.cells a).toArray 3).run Tryz.prog w= .ok (str ((a).s)) w by kernel_rfl) (show(part 9 (Tm.cells b).toArray 3).run Tryz.prog w= .ok (str ((b).s)) w by kernel_rfl) (SN Tryz.underlying9 w (d+1) ((a).s) ((b).s))]
 rw[I1 (P:=Tryz.prog) (w:=w) (xs:=(Tm.cells a).toArray) (ys:=(Tm.cells b).toArray) (f:=⟨"N",3,4,false,"","",48⟩) (by decide) (show(part 3 (Tm.cells a).toArray 4).run Tryz.prog w= .ok (i64 ((a).n)) w by kernel_rfl) (show(part 3 (Tm.cells b).toArray 4).run Tryz.prog w= .ok (i64 ((b).n)) w by kernel_rfl) (NN Tryz.underlying3 w (d+1) ((a).n) ((b).n))]
 rw[I1 (P:=Tryz.prog) (w:=w) (xs:=(Tm.cells a).toArray) (ys:=(Tm.cells b).toArray) (f:=⟨"C",46,5,false,"","",56⟩) (by decide) (show(part 46 (Tm.cells a).toArray 5).run Tryz.prog w= .ok (.agg (Nd.cells ((a).c)).toArray) w by kernel_rfl) (show(part 46 (Tm.cells b).toArray 5).run Tryz.prog w= .ok (.agg (Nd.cells ((b).c)).toArray) w by kernel_rfl) (bY d ((a).c) ((b).c) w)]
 have ht:(.ok true w:Result Bool)= .ok (decide True) w:=rfl
 rw[b8,ht]
 simp only[b9]
 have hp:((a).op=(b).op/\(a).many=(b).many/\(a).name=(b).name/\(a).s=(b).s/\(a).n=(b).n/\(a).c=(b).c/\True)↔a=b:=by cases a;cases b;simp
 rw[decide_eq_decide.2 hp]
theorem AA3(x y:Operand)(a b:Tm)(w:World):(do eqGuard .eql 48 x y (.agg (Tm.cells a).toArray) (.agg (Tm.cells b).toArray);binOp .eql 48 (.agg (Tm.cells a).toArray) (.agg (Tm.cells b).toArray):Sem Value).run Tryz.prog w= .ok (.bool (decide (a=b))) w:=bA x y w Tryz.eqGuardType48 (kN 9997 a b w)
theorem AA4(x y:Operand)(a b:Tm)(w:World):(do eqGuard .neq 48 x y (.agg (Tm.cells a).toArray) (.agg (Tm.cells b).toArray);binOp .neq 48 (.agg (Tm.cells a).toArray) (.agg (Tm.cells b).toArray):Sem Value).run Tryz.prog w= .ok (.bool (!(decide (a=b)))) w:=nH x y w Tryz.eqGuardType48 (kN 9997 a b w)
end Go.Proofs.YtmjpjbmeamnfpaaGreatDoor
namespace Go.Proofs
open Go.Shelf
def Tryz.AA5:Go.Shelf.Ren:=⟨λ |160=>323|232=>211|231=>72|227=>73|234=>212|233=>74|236=>213|235=>75|228=>105|271=>248|151=>107|197=>106|120=>275|152=>146|260=>145|137=>119|119=>192|224=>193|225=>194|217=>155|266=>204|n=>n,λ |9=>9|4=>4|3=>3|5=>5|117=>127|116=>126|0=>0|124=>130|21=>21|105=>157|46=>192|119=>203|139=>233|138=>232|n=>n,λ |3=>1|4=>2|n=>n⟩
theorem Tryz.AA6:Go.Proofs.Lays.n160 Tryz.prog Tryz.AA5:= {
 mixed:=by kernel_rfl
 f119:=Tryz.func192.trans (congrArg some (by kernel_rfl))
 f120:=Tryz.func275.trans (congrArg some (by kernel_rfl))
 f137:=Tryz.func119.trans (congrArg some (by kernel_rfl))
 f151:=Tryz.func107.trans (congrArg some (by kernel_rfl))
 f152:=Tryz.func146.trans (congrArg some (by kernel_rfl))
 f160:=Tryz.func323.trans (congrArg some (by kernel_rfl))
 f197:=Tryz.func106.trans (congrArg some (by kernel_rfl))
 f217:=Tryz.func155.trans (congrArg some (by kernel_rfl))
 f224:=Tryz.func193.trans (congrArg some (by kernel_rfl))
 f225:=Tryz.func194.trans (congrArg some (by kernel_rfl))
 f227:=Tryz.func73.trans (congrArg some (by kernel_rfl))
 f228:=Tryz.func105.trans (congrArg some (by kernel_rfl))
 f231:=Tryz.func72.trans (congrArg some (by kernel_rfl))
 f232:=Tryz.func211.trans (congrArg some (by kernel_rfl))
 f233:=Tryz.func74.trans (congrArg some (by kernel_rfl))
 f234:=Tryz.func212.trans (congrArg some (by kernel_rfl))
 f235:=Tryz.func75.trans (congrArg some (by kernel_rfl))
 f236:=Tryz.func213.trans (congrArg some (by kernel_rfl))
 f260:=Tryz.func145.trans (congrArg some (by kernel_rfl))
 f266:=Tryz.func204.trans (congrArg some (by kernel_rfl))
 f271:=Tryz.func248.trans (congrArg some (by kernel_rfl))
 t0:=Tryz.underlying0
 a0:=Tryz.isAgg0
 z0:=Tryz.sizeOf0
 v0:=Tryz.zeroValue0
 t3:=Tryz.underlying3
 a3:=Tryz.isAgg3
 z3:=Tryz.sizeOf3
 v3:=Tryz.zeroValue3
 t4:=Tryz.underlying4
 a4:=Tryz.isAgg4
 z4:=Tryz.sizeOf4
 v4:=Tryz.zeroValue4
 t5:=Tryz.underlying5
 a5:=Tryz.isAgg5
 z5:=Tryz.sizeOf5
 v5:=Tryz.zeroValue5
 t9:=Tryz.underlying9
 a9:=Tryz.isAgg9
 z9:=Tryz.sizeOf9
 v9:=Tryz.zeroValue9
 t21:=Tryz.underlying21
 a21:=Tryz.isAgg21
 z21:=Tryz.sizeOf21
 v21:=Tryz.zeroValue21
 t46:=Tryz.underlying192
 a46:=Tryz.isAgg192
 z46:=Tryz.sizeOf192
 v46:=Tryz.zeroValue192
 t105:=Tryz.underlying157
 a105:=Tryz.isAgg157
 z105:=Tryz.sizeOf157
 v105:=Tryz.zeroValue157
 t116:=Tryz.underlying126
 a116:=Tryz.isAgg126
 z116:=Tryz.sizeOf126
 t117:=Tryz.underlying127
 a117:=Tryz.isAgg127
 z117:=Tryz.sizeOf127
 v117:=Tryz.zeroValue127
 t119:=Tryz.underlying203
 a119:=Tryz.isAgg203
 z119:=Tryz.sizeOf203
 t124:=Tryz.underlying130
 a124:=Tryz.isAgg130
 z124:=Tryz.sizeOf130
 v124:=Tryz.zeroValue130
 t138:=Tryz.underlying232
 a138:=Tryz.isAgg232
 z138:=Tryz.sizeOf232
 v138:=Tryz.zeroValue232
 t139:=Tryz.underlying233
 a139:=Tryz.isAgg233
 z139:=Tryz.sizeOf233
 v139:=Tryz.zeroValue233
 g3:=by kernel_rfl
 g4:=by kernel_rfl}
open Go.RowKit in
theorem Tryz.strings_Trim_one (s:ByteArray)(c:UInt8)(hc:c.toNat<128)(w:World)(hs:s.size<=9223372036854775807):
 Calls Tryz.prog 323 #[.string s,.string ⟨#[c]⟩] w λ e w'=>e= .returned (.string ⟨(Lib.trimB s.data.toList c).toArray⟩)/\(w'=w\/w'=w.drew):=Any.strings_Trim_one Tryz.AA6 s c hc w hs
end Go.Proofs
set_option maxRecDepth 100000
namespace Go.Proofs.YtmjpjbmeamnfpaaGreatDoor
open Go.Eng
end Go.Proofs.YtmjpjbmeamnfpaaGreatDoor
namespace Go.Eng
open Go.RowKit
mutual
def Tf.size:Tf->Nat
 | .mk _ ps=>1+KX ps
def KX:List Tf->Nat
 |[]=>0
 |x::l=>x.size+KX l
end
mutual
theorem Tf.G8:(x:Tf)->x.flat.length=x.size
 | .mk n ps=>by rw[Tf.flat,Tf.size,List.length_cons,VA ps];omega
theorem VA:(l:List Tf)->(AL l).length=KX l
 |[]=>rfl
 |t::ts=>by rw[AL,KX,List.length_append,Tf.G8 t,VA ts]
end
theorem Tf.size_pos (t:Tf):1<=t.size:=by cases t;rw[Tf.size];omega
def Tf.node (x:Tf):Tm:= { x.t with many:=len x.ps}
theorem Tf.AA7 (x:Tf):x.flat=x.node::AL x.ps:=by cases x;rfl
def FO(v:Fl)(i:Int)(l:List Tf):Prop:=0<=i/\ ∃pre post,v=pre++(AL l++post)/\len pre=i
theorem FO.le {v:Fl}{i:Int}{l:List Tf}(h:FO v i l):i+KX l<=len v:=by
 obtain⟨h0,pre,post,rfl,rfl⟩:=h
 unfold len;simp only[List.length_append,VA];omega
theorem FO.skip {v:Fl}{i:Int}{a b:List Tf}(h:FO v i (a++b)):FO v (i+KX a) b:=by
 obtain⟨h0,pre,post,rfl,rfl⟩:=h
 exact⟨by omega,pre++AL a,post,by rw[HR];simp,by unfold len;rw[List.length_append,VA];omega⟩
theorem FO.rest {v:Fl}{i:Int}{x:Tf}{b:List Tf}(h:FO v i (x::b)):FO v (i+x.size) b:=by
 have:=FO.skip (a:=[x]) h
 rw[KX,KX,Nat.add_zero]at this;exact this
theorem FO.head {v:Fl}{i:Int}{x:Tf}{b:List Tf}(h:FO v i (x::b)):FO v i [x]:=by
 obtain⟨h0,pre,post,rfl,rfl⟩:=h
 exact⟨h0,pre,AL b++post,by simp[AL],rfl⟩
theorem FO.left {v:Fl}{i:Int}{a b:List Tf}(h:FO v i (a++b)):FO v i a:=by
 obtain⟨h0,pre,post,rfl,rfl⟩:=h
 exact⟨h0,pre,AL b++post,by rw[HR];simp,rfl⟩
theorem FO.node {v:Fl}{i:Int}{x:Tf}{b:List Tf}(h:FO v i (x::b)):0<=i/\i<len v/\at' v i=x.node:=by
 have hl:=h.le
 have hz:=x.size_pos
 obtain⟨h0,pre,post,rfl,rfl⟩:=h
 rw[KX]at hl
 refine⟨h0,by omega,?_⟩
 unfold at' len
 rw[Int.toNat_natCast,List.getD_eq_getElem?_getD,List.getElem?_append_right (Nat.le_refl _),Nat.sub_self,AL,Tf.AA7];rfl
mutual
def Tf.zm:Tf->Prop
 | .mk t ps=>t.many=0/\kO ps
def kO:List Tf->Prop
 |[]=>True
 |x::l=>x.zm/\kO l
end
end Go.Eng
namespace Go.Eng
open Go.RowKit
def VB(t:Tm):Bool:=decide (16<=t.op)&&decide (t.op<=19)
def LW(t:Tm):Tm:=⟨t.op,t.many,t.name,[],0,AY⟩
def VC(n:Nd):Nd:= { n with name:=[]}
def AA8(n:Nd):Bool:=
 if n.kind=0\/n.kind=1\/n.kind=2 then decide (VC n=⟨n.kind,0,[],[],false,0⟩)
 else if n.kind=3 then L6 (VC n)
 else if n.kind=4 then FH n.s&&decide (VC n=⟨n.kind,0,[],n.s,false,0⟩)
 else if n.kind=5\/n.kind=6 then decide (0<=n.many)&&decide (VC n=⟨n.kind,n.many,[],[],false,0⟩)
 else false
def AA9(c:Nd):Bool:=decide (c.kind<5)&&(decide (c.name=[])&&decide (c.many=0)&&AA8 c)
def kP(t:Tm):Bool:=
 if t.op=0\/t.op=10\/t.op=11\/t.op=14 then decide (t=LW t)&&decide (t.many=0)
 else if t.op=1 then decide (t= { LW t with s:=t.s})&&decide (t.many=0)&&FH t.s
 else if t.op=2\/t.op=3 then decide (t= { LW t with n:=t.n})&&decide (t.many=0)&&decide (0<=t.n)&&decide (t.n<=1000000)
 else if t.op=4\/t.op=17\/t.op=18 then decide (t=LW t)&&decide (t.many=2)
 else if t.op=5\/t.op=6\/t.op=7\/t.op=19 then decide (t=LW t)&&decide (t.many=1)
 else if t.op=8\/t.op=9 then decide (t=LW t)&&decide (0<=t.many)
 else if t.op=12\/t.op=13\/t.op=15 then decide (t= { LW t with s:=t.s})&&decide (t.many=0)&&kJ t.s
 else if t.op=16 then decide (t= { LW t with s:=t.s,n:=t.n,c:=t.c})&&decide (t.many=0)&&kJ t.s&&decide (0<=t.n)&&decide (t.n<=5)&&AA9 t.c
 else false
def AB0(t:Tm)(dn:List Tf)(x:Tf):Bool:=
 if(VB x.t != (VB t||t.op==7))||(t.op==4&&dn.isEmpty&&x.t.op==4)then false
 else if(t.op≠8/\x.t.name≠[])\/(t.op=8/\(FH x.t.name=false\/x.t.name∈dn.map (·.t.name)))then false
 else true
def kQ(t:Tm):List Tf->List Tf->Bool
 |_,[]=>true
 |dn,x::r=>AB0 t dn x&&kQ t (dn++[x]) r
mutual
def Tf.a7:Tf->Bool
 | .mk t ps=>kP { t with many:=len ps}&&kQ t [] ps&&kR ps
def kR:List Tf->Bool
 |[]=>true
 |x::l=>x.a7&&kR l
end
structure Tf.a6 (x:Tf):Prop where
 zm:x.zm
 ok:x.a7=true
structure AM4 (t:Tm) (dn:List Tf) (x:Tf):Prop where
 c:VB x.t=(VB t||t.op==7)
 p:t.op=4->dn=[]->x.t.op≠4
 n:t.op≠8->x.t.name=[]
 u:t.op=8->FH x.t.name=true
 d:t.op=8->x.t.name ∉ dn.map (·.t.name)
theorem Tf.a6.plain {x:Tf}(h:x.a6):kP x.node=true:=by
 obtain⟨t,ps⟩:=x
 have h2:=h.ok
 rw[Tf.a7,Bool.and_eq_true,Bool.and_eq_true]at h2
 exact h2.1.1
end Go.Eng
set_option maxRecDepth 100000
namespace Go.Proofs.YtmjpjbmeamnfpaaGreatDoor
open Go.Eng
abbrev KY(c:Nd):XV:=.ag [I c.kind,I c.many,.v (str c.name),.v (str c.s),.v (.bool c.neg),I c.e]
end Go.Proofs.YtmjpjbmeamnfpaaGreatDoor
