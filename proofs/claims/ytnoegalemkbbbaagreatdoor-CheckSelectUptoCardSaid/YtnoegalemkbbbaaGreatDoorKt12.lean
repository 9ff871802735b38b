/- Lemmas for the card. -/
import Derived.Test.YtnoegalemkbbbaaGreatDoorKt11
import Derived.Shelf.Sort.Plain
import Derived.Shelf.Slices.In.SortNone
import Derived.Shelf.Unicode.ValidAny
set_option linter.unusedVariables false
set_option linter.unusedSimpArgs false
set_option maxRecDepth 100000
namespace Go.Eng
open Go.RowKit
theorem PR.ret {α:Type}(r:PR α):(r.bind λ x j=>.ok x j)=r:=by cases r<;>rfl
section
variable {c:Cx} {B:Exit->Act->World->Prop} {k k':List Fr} {m:Md} {s s':XS} {O:Prop} {E:List Ck} {all:Array Oper} {rest:List Oper} {d:Nat} {ty:TypeId} {ps:String} {af:Array Edge}
theorem KW{α β γ:Type}(ids n:List Nat)(b:α->γ->XV)(e:α->Int->γ->List (Nat×HX)){i:TypeId}{r:PR α}{kk:α->Int->PR β}{fn:Func}{G:β->Int->Ending->World->Prop}{Rs:List HO}{u:α->γ->Value}{pu:α->Int->γ->Prop}{Fg:α->Int->γ->List (Nat×Kn)}{Hg:α->Int->γ->List HO}
  {q:Operand} {f:FuncId} {y z:List Value} {E1 E2:List Ck} {xs:List Operand} {tys:Array TypeId} {vs:List XV} {A R:List (Nat×HX)} {l:Option Tmp} (C:Ends c.P fn (X6 c.w0 c.M0 c.M1 Rs i (r.bind kk) G) B)
  (h:run c.T c.N k m s=⟨k',.ops all (⟨l,.call ⟨.value q,⟨xs⟩,tys⟩,ty,ps,af,none⟩::rest),s',O,E⟩) (D:callee s'.L q=some (f,y,z,E1)) (J:CT c.P f) (hx:JZ s'.L .t xs=some (vs,E2))
  (K:FK ids s'.H=some (A,R)) (S:Rs.Sublist (HD R++c.Hr)) (Q: ∀w M,St c.w0 c.M0 w M (HD A++(HD R++c.Hr))->BH M s'.F->Calls c.P f (y++vs.map XV.d++z).toArray w (X6 c.w0 c.M0 M (HD R++c.Hr) i r λ x j=>BY c.w0 c.M0 M (HD R++c.Hr) (u x) (pu x j) (Fg x j) (Hg x j)))
  (V: ∀x j,r= .ok x j->Ends c.P fn (X6 c.w0 c.M0 c.M1 Rs i (kk x j) G) B-> ∀g,pu x j g->XG c B k' (.ops all rest) ⟨PX n (Fg x j g)++s'.F,e x j g++R,dA l (b x g) s'.L⟩) (hE:A9 E:=by exact Ad) (hO:O:=by exact Af) (hd:mH l c.N=true:=by exact rfl) (hE1:A9 (E1++E2):=by exact Ad) (hu: ∀x g,(b x g).d=u x g:=by intros;rfl) (hH: ∀x j g,HD (e x j g)=Hg x j g:=by intros;rfl):XG c B k m s:=by
 cases r with
 |er X p=>exact OB ids h (hE:=hE) (hO:=hO) D J hx (hE1:=hE1) K Q λ a w M W hS hle=>K0 _ (C.p ⟨M,rfl,hS.drop _ S,hle⟩ a W)
 |ok x j=>exact AY ids (b x) n (e x j) h (hE:=hE) (hO:=hO) D J (hd:=hd) hx (hE1:=hE1) K Q (hu:=hu x) (hH:=hH x j) (V x j U C)
theorem Ab9{id:Nat}(hl: ∀Q a w,Q Exit.normal a w->c.W.wp (.label id) Q a w)(h:run c.T c.N k m s=⟨k',.code (.label id),s',O,E⟩)(b:XG c B k' .next s')(hE:A9 E:=by exact Ad)(hO:O:=by exact Af):XG c B k m s:=
 C5 h hE hO λ a w e=>hl _ a w (b a w e)
theorem Ac0{σ:Type}{x z:Code}{j q:List Fr}(n:Nat)(J:XS->Prop)(b:σ->XS)(I:σ->Prop)(μ:σ->Nat)(g0:σ)(h:run c.T c.N k m s=⟨k',.code (.loop x),s',O,E⟩)
  (l:RY J k' n=some (j,z,q)) (h0:(⟨JD (b g0).F s'.F,JE (b g0).H s'.H,GH (keys (b g0).L) s'.L⟩:XS)=b g0) (y:I g0)
  (A: ∀g,I g->XG c B (.loop (LJ b I μ g)::j) (.code x) (b g)) (C: ∀s',J s'->XG c B q (.code z) s') (hE:A9 E:=by exact Ad) (hO:O:=by exact Af):XG c B k m s:=by
 obtain⟨p,rfl,rfl⟩:=cZ l
 have hm: ∀e a w,post c B (.loop J::q) e a w->post c B (.seq z::q) e a w:=λ e a w h=>RZ (λ a w ⟨s',D,i⟩=>C s' D a w i) (λ _ _ _ h=>h) e a w h
 exact AT b I μ g0 h (hE:=hE) (hO:=hO) h0 y λ g hg a w i=>c.W.mono (A g hg a w i) (MF hm (.loop (LJ b I μ g)::p))
theorem Z1{op:Op}{l:List Oper}{F:List (Nat×Kn)}{H:List (Nat×HX)}{L L':XE}{gd:Option (Nat×Bool)}{W:Gd}(v:XV)(h:JG c.T c.N F H all l L ((0:Int)=0) []=⟨⟨some d,op,ty,ps,af,gd⟩::rest,L',O,E⟩)(hg:(HN all L' gd,Nat.blt d c.N)=(some W,true))
  (hp: ∀w M,D5 c F H w M->PV c.P (λ w'=>Ext w w') L'.d W.d ⟨some d,op,ty,ps,af,gd⟩ v.d) (e:XQ c B k all rest ⟨F,H,(d,W,v)::L'⟩) (hE:A9 E:=by exact Ad) (hO:O:=by exact Af):XQ c B k all l ⟨F,H,L⟩:=by
 simp only[Prod.mk.injEq]at hg
 have:=WY (c:=c) (B:=B) (k:=k) (all:=all) (F:=F) (H:=H) (l:=l) (L:=L) (O:=(0:Int)=0) (E:=[])
 rw[h]at this
 exact(this hO hE λ w M b=>RQ.v (M9 hg.1) (hp w M b) hg.2 (e w M b)).2.2
end
end Go.Eng
set_option maxRecDepth 100000
namespace Go.Proofs.YtnoegalemkbbbaaGreatDoor
open Go.Proofs.Tryz
open Go.Eng
theorem Ac1: ∀a:Fin 32,IntKind.i64.wrap (BitVec.ofInt IntKind.i64.bits ((a:Nat):Int)&&& BitVec.ofInt IntKind.i64.bits 1).toNat=(((a:Nat)%2:Nat):Int):=by decide+kernel
theorem Ac2(m k:Nat)(h:k<5):((m:Int)).fdiv (2^min ((k:Int)).toNat IntKind.i64.bits)=((m/2^k:Nat):Int):=by
 rw[Int.toNat_natCast,show min k IntKind.i64.bits=k from Nat.min_eq_left (by show k<=64;omega),Int.fdiv_eq_ediv_of_nonneg _ (Int.pow_nonneg Ab),Int.natCast_ediv,Int.natCast_pow];rfl
end Go.Proofs.YtnoegalemkbbbaaGreatDoor
namespace Go.Eng
end Go.Eng
namespace Go.Proofs.YtnoegalemkbbbaaGreatDoor
open Go.Proofs.Tryz
open Go.Eng
abbrev J0(u:Value)(x:Fl):HO:=.priv 52 11 u x.length (x.flatMap Tm.cells)
abbrev IG(u:Value)(x:Fl):HX:=.pv 52 (kn u 11 x Tm.cells) Tm.AO
open Go.Eng Go.RowKit
set_option maxHeartbeats 1000000 in
set_option maxRecDepth 100000 in
theorem Ac3(w:World):Calls prog 241 #[.slice none 0 0,.int .i64 0] w λ e w'=>e= .returned (.slice none 0 0)/\w'=w:=by
 have mixed:prog.follows .mixedOrders=true:=by kernel_rfl
 go_enter func241,ntmps241
 go_wp2
 all_goals (go_ret;exact⟨rfl,rfl⟩)
set_option maxHeartbeats 4000000 in
set_option maxRecDepth 100000 in
theorem Ac4(n:Nat)(w:World)(h0:0<n)(D:n*120<=140737488355328):Calls prog 241 #[.slice none 0 0,.int .i64 n] w λ e w'=>
  ∃cap cur,e= .returned (.slice (some ⟨w.heap.size,0,none⟩) 0 cap)/\cap<=maxLen/\cur.size=cap*11/\w'=w.drew.alloc (.cells cur 52):=by
 obtain⟨i0,j,A,E,b⟩: ∃i,prog.info? 52=some i/\i.zero.isSome=true/\i.size=11/\i.bytes=120:=by
  obtain⟨i,hi,he⟩:=Option.map_eq_some_iff.1 (show(prog.info? 52).map (λ i=>(i.zero.isSome,i.size,i.bytes))=some (true,11,120) by kernel_rfl)
  exact⟨i,hi,by simpa using congrArg (·.1) he,by simpa using congrArg (·.2.1) he,by simpa using congrArg (·.2.2) he⟩
 obtain⟨z,F⟩:=Option.isSome_iff_exists.1 A
 have B:z.cells.size=11:=by
  have:=show(prog.info? 52).bind (λ i=>i.zero.map (λ z=>z.cells.size))=some 11 by kernel_rfl
  rw[j]at this;simp only[Option.bind_some,F,Option.map_some,Option.some.injEq]at this;exact this
 have mixed:prog.follows .mixedOrders=true:=by kernel_rfl
 have us:=λ w=>run_underlying (P:=prog) (w:=w) underlying25
 have K:=λ w=>run_underlying (P:=prog) (w:=w) underlying3
 have h1: ¬((n:Int)<0):=by omega
 have L:wrap64 ((n:Int)-0)=(n:Int):=by unfold wrap64;omega
 have M:(n:Int)>0:=by omega
 have hold:(Builtin.firstCells i0.size 0 (.slice none 0 0)).run prog w.drew= .ok #[] w.drew:=run_firstCells_none w.drew i0.size 0 0 0
 have l: ∀ty,(Builtin.append_ #[25,3] ty #[.slice none 0 0,.int .i64 (n:Int)]).run prog w=
   .ok (.slice (some ⟨w.heap.size,0,none⟩) n (grownCap w n 0 52)) (w.drew.alloc (.cells (#[]++Builtin.zeroCells z.cells n++Builtin.zeroCells z.cells (grownCap w n 0 52-n)) 52)):=λ ty=>by
  have h:=Lib.run_append_grow_zeros w 25 3 ty 52 i0 z .i64 .i64 underlying25 underlying3 j F none 0 0 [] hold n Aa Aa Aa Aa
   (by rw[b];omega) (by rw[Nat.zero_add];exact growslice_fits h0 (by rw[b];omega))
  rw[Nat.zero_add]at h
  exact h
 have C:n<=grownCap w n 0 52:=grownCap_ge w _ _ _
 have q:grownCap w n 0 52<=maxLen:=grownCap_le_maxLen w n 0 52 (by unfold maxLen;omega)
 obtain⟨G,H⟩: ∃G,G=grownCap w n 0 52:=⟨_,rfl⟩
 rw[<-H]at l C q
 have J:G<=9223372036854775807:=by unfold maxLen at q;omega
 have s: ∀k,(Builtin.zeroCells z.cells k).size=k*11:=λ k=>by simp[Builtin.zeroCells,B]
 have y:(#[]++Builtin.zeroCells z.cells n++Builtin.zeroCells z.cells (G-n)).size=G*11:=by rw[Array.size_append,Array.size_append,s,s];simp;omega
 generalize (#[]++Builtin.zeroCells z.cells n++Builtin.zeroCells z.cells (G-n))=cur at l y
 clear hold H j
 go_enter func241,ntmps241
 go_wp2_with (at_builtin;refine Lib.wpList_append_run _ U _ _ _ _ U _ _ U U _ _ (l _) ?_)
 all_goals (go_ret;exact⟨G,rfl,q,_,y,rfl⟩)
theorem Ac5{w b:World}{M0 M:Mem}{Hs:List HO}(n:Int)(hS:St w M0 b M Hs)(h0:0<=n)(j:n<=1099511627776):
  Calls prog 241 [.slice none 0 0,i64 n].toArray b λ e w'=> ∃u,e= .returned u/\St w M0 w' M (.priv 52 11 u 0 []::Hs):=by
 by_cases hn:n=0
 ·subst hn
  exact(Ac3 b).mono λ e w' ⟨he,hw⟩=>⟨_,he,hw▸hS.cC _ _⟩
 ·have hg:=Ac4 n.toNat b Aa Aa
  rw[show((n.toNat:Nat):Int)=n from by omega]at hg
  refine hg.mono λ e w' ⟨cap,cur,he,h,i,hw⟩=>⟨_,he,?_⟩
  subst hw
  exact(hS.ext (Ext.drew b)).AU5 _ 11 cap cur i h
end Go.Proofs.YtnoegalemkbbbaaGreatDoor
namespace Go.Eng
open Go.RowKit
structure SV where
 key:A0
 val:Value
 born:Nat
def SV.GZ (p:SV):MapEntry:= { key:=str p.key,val:=p.val,born:=p.born}
section rl
variable {P:Program} {ops:Array Oper} {Q:Exit->Act->World->Prop} {N:Nat} {rest:List Oper} {L:Env} {w0 w:World} {M0 M:Mem} {Hs:List HO} {d:Nat} {ty:TypeId} {ps:String} {af:Array Edge}
end rl
section pv
variable {P:Program} {C:World->Prop} {L:Env} {W:Bool} {d:Option Tmp} {ty:TypeId} {ps:String} {af:Array Edge} {gd:Option (Nat×Bool)} {w0 w:World} {M0 M:Mem} {Hs:List HO}
end pv
section
variable {c:Cx} {B:Exit->Act->World->Prop} {k k':List Fr} {m:Md} {s s':XS} {O:Prop} {E:List Ck} {all:Array Oper} {rest:List Oper} {d:Nat} {ty:TypeId} {ps:String} {af:Array Edge}
end
def JP(ns:List A0)(n:A0):Int:=(ns.idxOf n:Nat)
theorem Ac6{b:List A0}{n:A0}(h:n∈b):0<=JP b n/\JP b n<len b:=⟨Int.natCast_nonneg _,Int.ofNat_lt.2 (List.idxOf_lt_length_of_mem h)⟩
def KX(ns:List A0)(k:Int)(x:Fl):Fl:=if k<len ns then x.set 0 { at' x 0 with name:=at' ns k}else x
def J1(ns:List A0)(xs:List Fl):List Fl:=xs.mapIdx λ k x=>KX ns k x
theorem Ac7(b:List A0)(k:Int)(x:Fl):(KX b k x).length=x.length:=by unfold KX;split<;>simp
theorem rT(b:List A0)(xs:List Fl)(x:Fl):J1 b (xs++[x])=J1 b xs++[KX b (len xs) x]:=by unfold J1;rw[List.mapIdx_concat];rfl
theorem rU(b:List A0)(xs:List Fl):len (J1 b xs).flatten=len xs.flatten:=by
 have h:(J1 b xs).map List.length=xs.map List.length:=by
  apply List.ext_getElem?
  intro i
  unfold J1
  rw[List.getElem?_map,List.getElem?_map,List.getElem?_mapIdx]
  cases xs[i]? with
  |none=>rfl
  |some x=>simp[Ac7]
 unfold len
 rw[List.length_flatten,List.length_flatten,h]
theorem rV(xs:List Fl):J1 [] xs=xs:=by
 unfold J1
 have:(λ(k:Nat) (x:Fl)=>KX [] k x)=λ _ x=>x:=by funext k x;unfold KX;rw[if_neg (by rw[len_nil];omega)]
 rw[this];apply List.ext_getElem?;intro i;simp
end Go.Eng
namespace Go.Proofs.YtnoegalemkbbbaaGreatDoor
open Go.Proofs.Tryz
open Go.Eng
abbrev QP(w0:World)(M0 M:Mem)(Rs:List HO)(x:Fl):Ending->World->Prop:=BY w0 M0 M Rs (λ h:AJ=>h.v) (λ _=>True) (λ _=>[]) λ h=>[J0 h.v x]
theorem Z2{w0 w:World}{M0 M:Mem}{Rs:List HO}{x:Fl}{e:Ending}(h:BY w0 M0 M Rs (λ u:Value=>u) (λ _=>True) (λ _=>[]) (λ u=>[J0 u x]) e w):QP w0 M0 M Rs x e w:=by
 obtain⟨u,M',h1,q,l,b,s⟩:=h
 have n:=b.told (k:=0) U
 obtain⟨a,c,j,_⟩:=(n.sl (i:=0) rfl).val
 exact⟨⟨a,x.length,c⟩,M',by rw[h1,j],trivial,l,by rw[j]at b;exact b,A3⟩
theorem rW{w0 C:World}{M0 M:Mem}{Rs:List HO}(v:Value)(b:List AJ)(xs:List Fl)(hS:St w0 M0 C M Rs)(hu:(CS v b xs).ok M)(D:len xs.flatten<=1099511627776)(L:len b<=1099511627776):
  Calls prog 209 [v].toArray C (QP w0 M0 M Rs xs.flatten):=by
 have E:=fV hu
 have F:=A6 b
 have s:=A6 xs.flatten
 refine AE (Hr:=Rs) A8 func209 U ntmps209 [(0,CS v b xs)] [] [.sl 0 v] U hS (AA hu A3) (λ B G=>AT (σ:=Int×Int) (λ(k,t)=>⟨[(0,CS v b xs)],[],[Z 0 (.sl 0 v),Z 3 (I t),Z 9 (.sl 0 v),Z 10 (I (len b)),Z 11 (I k)]⟩) (λ(k,t)=>0<=k/\k<=len b/\t=len (JJ xs k)) (λ(k,t)=>(len b-k).toNat) (0,0) U U ⟨Aa,Aa,rfl⟩ ?_) U
 rintro⟨k,t⟩ ⟨h0,h1,z⟩
 have H:=V2 xs k
 have J:=A6 (JJ xs k)
 refine A1 U (λ h=>?_) (λ h=>?_)<;>simp only[zb]at h
 ·have i:=Y0 (xs:=xs) h0 Aa
  have j:=V2 xs (k+1)
  rw[i,AN]at j
  have K:=A6 (at' xs k)
  refine C5 U Ad Aa <|ES 1 (A7 (at' b k).v (at' xs k)) (λ w M l=>EF (l.f.get (k:=0) U) h0 h) (ME 16 1 U ?_)
  refine A1 U (λ n=>?_) (λ n=>?_)<;>simp only[zb]at n
  ·exfalso;omega
  exact AR (k+1,t+len (at' xs k)) U U ⟨Aa,Aa,by rw[i,AN,z]⟩ Ag
 have A:k=len b:=by omega
 subst A
 rw[nY Aa]at z
 subst z
 refine AY [] (λ u:Value=>.sl 2 u) [] (λ u=>[(2,IG u [])]) U U call241 U U (λ w M hS hF=>(Ac5 (len xs.flatten) hS s D).mono λ e w' ⟨u,he,b⟩=>⟨u,M,he,trivial,Mem.le.refl _,b,A3⟩) λ u _=>AT (σ:=Int×Value×Fl) (λ(k,u,y)=>⟨[(0,CS v b xs)],[(2,IG u y)],[Z 6 (.sl 2 u),Z 25 (.sl 0 v),Z 26 (I (len b)),Z 27 (I k)]⟩) (λ(k,u,y)=>0<=k/\k<=len b/\y=JJ xs k) (λ(k,u,y)=>(len b-k).toNat) (0,u,[]) U U ⟨Aa,Aa,rfl⟩ ?_
 rintro⟨k,u,y⟩ ⟨h0,h1,q⟩
 refine A1 U (λ h=>?_) (λ h=>?_)<;>simp only[zb]at h
 ·have i:=Y0 (xs:=xs) h0 Aa
  have j:=V2 xs (k+1)
  rw[i,AN]at j
  refine C5 U Ad Aa <|ES 1 (A7 (at' b k).v (at' xs k)) (λ w M l=>EF (l.f.get (k:=0) U) h0 h) (ME 32 1 U ?_)
  exact IT 120 U U U underlying25 type52 U U Tm.cells_one (by rw[q];omega) λ v'=>AR (k+1,v',y++at' xs k) U U ⟨Aa,Aa,by rw[i,q]⟩ Ag
 rw[nY Aa]at q
 subst q
 exact A2 G U U U λ w M' l=>Z2 ⟨u,M',rfl,trivial,l.le,l.st,A3⟩
theorem gK{w0 h:World}{M0 M:Mem}{Rs:List HO}(v:Value)(x:Fl)(hS:St w0 M0 h M Rs)(hx:(A7 v x).ok M)(h0:x≠[])(j:len x<=1099511627776):
  Calls prog 135 [v].toArray h (QP w0 M0 M Rs x):=by
 refine AE (Hr:=Rs) A8 func135 U ntmps135 [(0,A7 v x)] [] [.sl 0 v] U hS (AA hx A3) (λ B i=>AU (.v (.bool false)) U U (λ w M e=>.qP (e.sl 0 U) (List.length_pos_iff.2 h0) (AF (v:=.sl 0 v) (E:=[]) U) underlying25) <|A1 U (λ b=>?_) (λ b=>?_)) U
 ·cases b
 exact IB 2 ([]:List Tm) Tm.cells 11 52 Tm.AO U U Ah U λ u=>IT 120 U U U underlying25 type52 U U Tm.cells_one (by rw[len_nil];omega) λ v'=>A2 i U U U λ w M' e=>Z2 ⟨v',M',rfl,trivial,e.le,e.st,A3⟩
theorem Ac8{w0 j:World}{M0 M:Mem}{Rs:List HO}(t:Tm)(v:Value)(e:List AJ)(xs:List Fl)(hS:St w0 M0 j M Rs)(hu:(CS v e xs).ok M)(y:len xs.flatten<=1000000000000)(l:len e<=1099511627776):
  Calls prog 177 [.agg t.cells.toArray,v].toArray j (QP w0 M0 M Rs (t::xs.flatten)):=by
 refine AE (Hr:=Rs) A8 func177 U ntmps177 [(0,CS v e xs)] [] [.ag (G9 t.cells),.sl 0 v] U hS (AA hu A3) (λ B n=>?_) U
 have q:=A6 xs.flatten
 refine BO 1 U U U λ b=>EJ [1,3,4,5] 5 (λ _ _ _ _ _ h=>h) U BI Ac <|H3 1 3 U U U ?_ ?_
 ·exact IB 2 [t] Tm.cells 11 52 Tm.AO U U Ah U λ u=>AI U <|AL 3 U U U <|AY [] (λ u:AJ=>.sl 3 u.v) [] (λ u=>[(3,IG u.v xs.flatten)]) U U call209 U U (λ w M hS hF=>rW v e xs hS (hF.get (k:=0) U) Aa l) λ s _=>H0 3 U <|AI U <|AL 4 U U U <|IT 120 U U U underlying25 type52 U U Tm.cells_one (by simp only[AH,len_nil];omega) λ v'=>AI U <|AL 5 U U U <|AI U <|BV U U U <|A2 n U U U λ w M' i=>Z2 ⟨v',M',rfl,trivial,i.le,i.st.drop _ ((List.sublist_cons_self _ _).cons_cons _),A3⟩
 ·exact AY [] (λ u:AJ=>.sl 3 u.v) [] (λ u=>[(3,IG u.v xs.flatten)]) U U call209 U U (λ w M hS hF=>rW v e xs hS (hF.get (k:=0) U) Aa l) λ s _=>H0 3 U <|AI U <|AL 1 U U U <|IB 2 [t] Tm.cells 11 52 Tm.AO U U Ah U λ u=>AI U <|AL 4 U U U <|IT 120 U U U underlying25 type52 U U Tm.cells_one (by simp only[AH,len_nil];omega) λ v'=>AI U <|AL 5 U U U <|AI U <|BV U U U <|A2 n U U U λ w M' i=>Z2 ⟨v',M',rfl,trivial,i.le,i.st.drop _ ((List.sublist_cons_self _ _).cons_cons _),A3⟩
theorem Ac9{w0 L:World}{M0 M:Mem}{Rs:List HO}(t:Tm)(q:Value)(i:List A0)(v:Value)(h:List AJ)(xs:List Fl)(hS:St w0 M0 L M Rs)(N:Sl M 1 i.length q (i.flatMap CO))(hu:(CS v h xs).ok M)(E: ∀x∈xs,x≠[])(hb:len xs.flatten<=100000000000)(hr:len h<=16777216):
  Calls prog 146 [.agg t.cells.toArray,q,v].toArray L (QP w0 M0 M Rs ({ t with many:=len xs}::(J1 i xs).flatten)):=by
 have F:=fV hu
 have O:=A6 h
 have P:=A6 i
 rw[<-F]
 refine AE (Hr:=Rs) A8 func146 U ntmps146 [(0,CS v h xs),(1,kn q 1 i CO)] [] [.ag (G9 t.cells),.sl 1 q,.sl 0 v] U hS (AA hu (fc 1 N FY A3)) (λ B Q=>BO 1 U U U λ b=>C5 U Ad Aa <|cX 6 7 25 1 CA DJ U <|ES 8 (MT [] []) (λ w M y=>⟨Sl.nil M 1,FY,trivial⟩) ?_) U
 refine AT (σ:=Int×Value×List AJ×List Fl) (λ(k,u,gs,ys)=>⟨[(0,CS v h xs),(1,kn q 1 i CO),(6,kn u 1 gs CA),(8,MT gs ys)],[(1,.box b [I t.op,I (len h),.v (str t.name),.v (str t.s),I t.n,I t.c.kind,I t.c.many,.v (str t.c.name),.v (str t.c.s),.v (.bool t.c.neg),I t.c.e] 52),(6,.ho (.own 25 1 u gs.length (gs.flatMap CA)))],[Z 1 (.sl 1 q),Z 3 (.bx 1 b 0),Z 7 (.sl 6 u),Z 13 (.sl 0 v),Z 14 (I (len h)),Z 15 (I k)]⟩)
   (λ(k,u,gs,ys)=>0<=k/\k<=len h/\ys=J1 i (Eng.sub xs 0 k)/\len gs=k) (λ(k,u,gs,ys)=>(len h-k).toNat) (0,.slice none 0 0,[],[]) U U ⟨Aa,Aa,rfl,rfl⟩ ?_
 rintro⟨k,u,gs,ys⟩ ⟨h0,h1,G,R⟩
 refine A1 U (λ A=>?_) (λ A=>?_)<;>simp only[zb]at A
 ·have C:=E _ (at_mem (l:=xs) h0 Aa)
  have S:=GM C
  have H:=Y0 (xs:=xs) h0 Aa
  have J:=V2 xs (k+1)
  have T:=A6 (JJ xs k)
  rw[H,AN]at J
  refine C5 U Ad Aa <|ES 2 (A7 (at' h k).v (at' xs k)) (λ w M y=>EF (y.f.get (k:=0) U) h0 A) (ME 20 2 U ?_)
  refine AY [] (λ u:AJ=>.sl 5 u.v) [] (λ u=>[(5,IG u.v (at' xs k))]) U U call135 U U (λ w M hS hF=>gK (at' h k).v (at' xs k) hS (hF.get (k:=2) U) C Aa) λ D _=>CZ 0 (λ s=> ∃z:Fl,z=KX i k (at' xs k)/\s=⟨[(0,CS v h xs),(1,kn q 1 i CO),(6,kn u 1 gs CA),(8,MT gs ys)],[(5,IG D.v z),(1,.box b [I t.op,I (len h),.v (str t.name),.v (str t.s),I t.n,I t.c.kind,I t.c.many,.v (str t.c.name),.v (str t.c.s),.v (.bool t.c.neg),I t.c.e] 52),(6,.ho (.own 25 1 u gs.length (gs.flatMap CA)))],[Z 1 (.sl 1 q),Z 3 (.bx 1 b 0),Z 7 (.sl 6 u),Z 9 (.sl 5 D.v),Z 13 (.sl 0 v),Z 14 (I (len h)),Z 15 (I k)]⟩) U U (λ j=>?_) (λ j=>?_) ?_
  ·simp only[zb]at j
   exact L6 { at' (at' xs k) 0 with name:=at' i k} rfl U U sizeOf9 U U U Aa λ z K=>AQ _ U U ⟨z,by rw[K];unfold KX;rw[if_pos j];rfl,rfl⟩
  ·simp only[zb]at j
   exact AQ _ U U ⟨_,by unfold KX;rw[if_neg Aa],rfl⟩
  rintro s ⟨z,K,rfl⟩
  refine H0 5 U <|B9 9 [D] CA 1 25 DJ U U Ah U λ v9=>EC 24 U U U underlying53 type25 U U QM (by simp only[AH,len_nil];omega) λ v'=>ES 8 (MT (gs++[D]) (ys++[z])) (λ w M y=>⟨Sl.nil M 1,FY,CB.snoc (y.sl 5 U) (y.f.get (k:=8) U).more⟩) ?_
  exact AR (k+1,v',gs++[D],ys++[z]) U U ⟨Aa,Aa,by
    rw[HQ h0 Aa,rT,G,K]
    have:len (Eng.sub xs 0 k)=k:=by unfold Eng.sub;unfold len at*;rw[List.length_take,List.length_drop];simp only[Int.toNat_zero];omega
    rw[this],by rw[AN];show len gs+1=_;omega⟩ Ag
 have V:k=len h:=by omega
 rw[ID Aa]at G
 subst G
 have W:=rU i xs
 exact AY [] (λ u:AJ=>.sl 3 u.v) [] (λ u=>[(3,IG u.v ({ t with many:=len h}::(J1 i xs).flatten))]) U U call177 U U (λ w M hS hF=>Ac8 { t with many:=len h} u gs (J1 i xs) hS ⟨(hF.get (k:=6) U).sl,DJ,(hF.get (k:=8) U).more⟩ Aa Aa) λ X _=>A2 Q U U U λ w M' y=>⟨X,M',rfl,trivial,y.le,y.C8 [3] U,A3⟩
theorem Ad0{w0 b:World}{M0 M:Mem}{Rs:List HO}(t:Tm)(v:Value)(h:AJ)(x:Tf)(hS:St w0 M0 b M Rs)(e:Sl M 1 [h].length v ([h].flatMap CA))(hx:Sl M 11 x.flat.length h.v (x.flat.flatMap Tm.cells))(j:len x.flat<=100000000000):
  Calls prog 146 [.agg t.cells.toArray,.slice none 0 0,v].toArray b (QP w0 M0 M Rs (Tf.mk t [x]).flat):=by
 have:=Ac9 (Rs:=Rs) t (.slice none 0 0) [] v [h] [x.flat] hS (Sl.nil M 1) ⟨e,DJ,hx,trivial⟩ (λ y i=>by rw[List.mem_singleton.1 i];exact x.SH) (by simp only[List.flatten_cons,List.flatten_nil,AN,len_nil];omega) (by simp only[AH,len_nil];omega)
 rw[rV]at this
 rw[Tf.o3];exact this
end Go.Proofs.YtnoegalemkbbbaaGreatDoor
namespace Go.Eng
structure Tm.small (t:Tm):Prop where
 name:len t.name<=1048576
 s:len t.s<=1073741824
 c:len t.c.s<=1048576
def QQ(x:Fl):Prop:= ∀t∈x,t.small
theorem QQ.named {x:Tf}(h:QQ x.flat){n:A0}(b:len n<=1048576):QQ (x.named n).flat:=by
 cases x with|mk t ps=>
 intro u hu
 rcases List.mem_cons.1 hu with rfl|hu
 ·have:=h { t with many:=len ps} (by unfold Tf.flat;exact List.mem_cons_self)
  exact⟨b,this.s,this.c⟩
 ·exact h u (by unfold Tf.flat;exact List.mem_cons_of_mem _ hu)
end Go.Eng
namespace Go.Proofs.YtnoegalemkbbbaaGreatDoor
open Go.Proofs.Tryz
open Go.Eng
end Go.Proofs.YtnoegalemkbbbaaGreatDoor
namespace Go.Proofs
open Go.Shelf
def Tryz.Ad1:Go.Shelf.Ren:=⟨λ |196=>263|259=>286|n=>n,λ |9=>9|4=>4|3=>3|5=>5|12=>12|119=>283|0=>0|46=>209|139=>286|138=>285|53=>239|n=>n,λ |3=>0|4=>1|n=>n⟩
theorem Tryz.Ad2:Go.Proofs.Lays.n196 prog Tryz.Ad1:= {
 mixed:=by kernel_rfl
 f196:=func263.trans (congrArg some Ai)
 f259:=func286.trans (congrArg some Ai)
 t0:=underlying0
 a0:=isAgg0
 z0:=sizeOf0
 v0:=zeroValue0
 t3:=underlying3
 a3:=isAgg3
 z3:=sizeOf3
 v3:=zeroValue3
 t4:=underlying4
 a4:=isAgg4
 z4:=sizeOf4
 v4:=zeroValue4
 t5:=underlying5
 a5:=isAgg5
 z5:=sizeOf5
 v5:=zeroValue5
 t9:=underlying9
 a9:=isAgg9
 z9:=sizeOf9
 v9:=zeroValue9
 t12:=underlying12
 a12:=isAgg12
 z12:=sizeOf12
 v12:=zeroValue12
 t46:=underlying209
 a46:=isAgg209
 z46:=sizeOf209
 v46:=zeroValue209
 t53:=underlying239
 a53:=isAgg239
 z53:=sizeOf239
 v53:=zeroValue239
 t119:=underlying283
 a119:=isAgg283
 z119:=sizeOf283
 t138:=underlying285
 a138:=isAgg285
 z138:=sizeOf285
 v138:=zeroValue285
 t139:=underlying286
 a139:=isAgg286
 z139:=sizeOf286
 v139:=zeroValue286
 g3:=by kernel_rfl
 g4:=by kernel_rfl}
open Go.RowKit Go.Lib in
theorem Tryz.utf8_ValidString (s:ByteArray)(w:World)(b:s.size<=9223372036854775807)(hT:Lib.Utf8Tabs 0 1 w):
 Calls prog 263 #[.string s] w λ e w'=>e= .returned (.bool (Lib.validD s.data.toList))/\Below w.heap.size w w':=Any.utf8_ValidString Tryz.Ad2 s w b hT
end Go.Proofs
namespace Go.Proofs.YtnoegalemkbbbaaGreatDoor
open Go.Proofs.Tryz
open Go.RowKit Go.Eng Go.Sort
end Go.Proofs.YtnoegalemkbbbaaGreatDoor
namespace Go.Eng
open Go.RowKit
section
variable {c:Cx} {B:Exit->Act->World->Prop} {k k':List Fr} {m:Md} {s s':XS} {O:Prop} {E:List Ck} {all:Array Oper} {rest:List Oper} {d:Nat} {ty:TypeId} {ps:String} {af:Array Edge}
end
def VG(l:List SV)(seen:Array Nat)(vs:List SV):Prop:=seen.toList=vs.map (·.born)/\(∀p∈vs,p∈l)/\vs.Nodup
theorem VG.push {l:List SV}{seen:Array Nat}{vs:List SV}{p:SV}(h:VG l seen vs)(hp:p∈l)(j: ¬seen.contains p.born=true):VG l (seen.push p.born) (vs++[p]):=by
 obtain⟨h1,k,n⟩:=h
 refine⟨by simp[h1],λ q i=>?_,?_⟩
 ·rcases List.mem_append.1 i with i|i
  ·exact k q i
  ·rw[List.mem_singleton.1 i];exact hp
 ·rw[List.nodup_append]
  refine⟨n,by simp,λ a s b w e=>?_⟩
  rw[List.mem_singleton.1 w]at e;subst e
  apply j
  rw[Array.contains_iff_mem,Array.mem_def,h1]
  exact List.mem_map.2 ⟨a,s,rfl⟩
theorem VG.all {l:List SV}{seen:Array Nat}{vs:List SV}(h:VG l seen vs)(k:(l.map (·.born)).Nodup)(e: ∀p∈l,seen.contains p.born=true):vs.Perm l:=by
 obtain⟨h1,b,y⟩:=h
 have inj: ∀ {l:List SV} {p q:SV},(l.map (·.born)).Nodup->p∈l->q∈l->p.born=q.born->p=q:=by
  intro l
  induction l with
  |nil=>intro p q _ hp;cases hp
  |cons a l s=>
   intro p q n hp j he
   rw[List.map_cons,List.nodup_cons]at n
   rcases List.mem_cons.1 hp with h1|h1
   ·rcases List.mem_cons.1 j with b|b
    ·rw[h1,b]
    ·exact absurd (List.mem_map.2 ⟨q,b,by rw[<-he,h1]⟩) n.1
   ·rcases List.mem_cons.1 j with b|b
    ·exact absurd (List.mem_map.2 ⟨p,h1,by rw[he,b]⟩) n.1
    ·exact s n.2 h1 b he
 have i: ∀p∈l,p∈vs:=by
  intro p hp
  have:=e p hp
  rw[Array.contains_iff_mem,Array.mem_def,h1]at this
  obtain⟨q,j,he⟩:=List.mem_map.1 this
  rw[<-inj k (b q j) hp he];exact j
 have w:l.Nodup:=by
  clear e i inj h1 b y
  induction l with
  |nil=>exact .nil
  |cons a l s=>
   rw[List.map_cons,List.nodup_cons]at k
   exact List.nodup_cons.2 ⟨λ z=>k.1 (List.mem_map.2 ⟨a,z,rfl⟩),s k.2⟩
 exact(List.perm_ext_iff_of_nodup y w).2 λ p=>⟨b p,i p⟩
end Go.Eng
namespace Go.Proofs.YtnoegalemkbbbaaGreatDoor
open Go.Proofs.Tryz
open Go.Eng
end Go.Proofs.YtnoegalemkbbbaaGreatDoor
namespace Go.Eng
end Go.Eng
namespace Go.Proofs.YtnoegalemkbbbaaGreatDoor
open Go.Proofs.Tryz
open Go.Eng
end Go.Proofs.YtnoegalemkbbbaaGreatDoor
namespace Go.Eng
open Go.RowKit
theorem Ad3{P:Program}{ops:Array Oper}{Q:Exit->Act->List Frame->World->Prop}{cs:List Frame}(s: ¬LetsOut (λ e a w=>Q e a cs w))(l:List Oper):
  ∀(k:Nat),(∀j,l[j]? =ops[k+j]?)-> ∀a w,wpList P ops (λ e a w=>Q e a cs w) l a w->wpOpsS P ops Q (List.range' k l.length) a cs w:=by
 induction l with
 |nil=>intro k _ a w h;exact h
 |cons o l y=>
  intro k q a w h
  have h0:ops[k]? =some o:=by simpa using(q 0).symm
  have b:=y (k+1) (λ j=>by have:=q (j+1);simpa[Nat.add_assoc,Nat.add_comm 1 j]using this)
  simp only[List.length_cons,List.range'_succ,wpOpsS,h0]
  unfold wpList at h
  by_cases hw:Region.wanted o (yielded ops a.tmps)=true
  ·rw[if_pos hw]at h ⊢
   have h1:=(h.resolve_right λ n=>s n.2)
   have i:=Oper.wp_mono (λ a' w' n=>b a' w' n) h1
   unfold Oper.wp at i
   split
   ·rename_i w' he;rw[he]at i;exact i.elim
   ·exact i
  ·rw[if_neg hw]at h ⊢
   exact b _ _ h
theorem Ad4{P:Program}{Q:Exit->Act->List Frame->World->Prop}{cs cs':List Frame}{id:Nat}{b:Oper}{l:List Oper}{a:Act}{w:World}{v:Value}(hg:b.guard=none)(i:(execOp a.eval b).run P w= .ok .recover w)
  (k:recoverD cs=some (v,cs')\/(recoverD cs=none/\v= .nilIface/\cs'=cs)) (q: ¬LetsOut (λ e a w=>Q e a cs' w)) (h:wpList P (b::l).toArray (λ e a w=>Q e a cs' w) l (a.put b.dst v) w):
  (Code.region id (b::l).toArray false).wpS P Q a cs w:=by
 refine wpS_region ?_
 have hw:Region.wanted b (yielded (b::l).toArray a.tmps)=true:=by unfold Region.wanted;rw[hg]
 have h1:=Ad3 (ops:=(b::l).toArray) q l 1 (λ j=>by simp[Nat.add_comm 1 j]) _ _ h
 rw[show List.range (b::l).toArray.size=0::List.range' 1 l.length from by simp[List.range_eq_range',List.range'_succ]]
 unfold wpOpsS
 rw[show(b::l).toArray[0]? =some b from by simp]
 dsimp only
 rw[if_pos hw,i]
 dsimp only
 rcases k with n|⟨n,rfl,rfl⟩
 ·rw[n];exact h1
 ·rw[n];exact h1
section
variable {P:Program} {C:World->Prop} {L:Env} {W:Bool} {d:Option Tmp} {ty:TypeId} {ps:String} {af:Array Edge} {gd:Option (Nat×Bool)}
theorem PV.Ad5 {b t:TypeId}{x:Operand}{v:Value}{fs:Array Field}(hx:AD L W x (.iface t v))(e:P.underlying t=some (.struct fs)):PV P C L W ⟨d,.typeAssert x b t true,ty,ps,af,gd⟩ (.tuple #[v,.bool true]):=
 .un (f:=λ u=>Instr.typeAssert u b t true) (λ _=>rfl) hx λ _ w _=>by
  simp only[Instr.typeAssert,Sem.run_bind,run_underlying e,Result.andThen_ok]
  simp[Sem.run_pure]
theorem PV.Ad6 {b t:TypeId}{x:Operand}{z:Value}{fs:Array Field}(hx:AD L W x .nilIface)(e:P.underlying t=some (.struct fs))(h: ∀w,(zeroValue t).run P w= .ok z w):PV P C L W ⟨d,.typeAssert x b t true,ty,ps,af,gd⟩ (.tuple #[z,.bool false]):=
 .un (f:=λ u=>Instr.typeAssert u b t true) (λ _=>rfl) hx λ _ w _=>by
  simp only[Instr.typeAssert,Sem.run_bind,run_underlying e,Result.andThen_ok]
  simp[Sem.run_bind,Sem.run_pure,h]
end
def H9:FrameMode->Value×FrameMode
 | .panicking ({ v,recovered:=false,goexit:=false}::older)=>(v,.panicking ({ v,recovered:=true}::older))
 |u=>(.nilIface,u)
theorem Ad7(c:Frame)(cs:List Frame):recoverD (c::cs)=some ((H9 c.mode).1,{ c with mode:=(H9 c.mode).2}::cs)\/(recoverD (c::cs)=none/\(H9 c.mode).1= .nilIface/\ { c with mode:=(H9 c.mode).2}::cs=c::cs):=by
 obtain⟨_,_,_,_,m,_,_⟩:=c
 cases m with
 |panicking e=>
  cases e with
  |nil=>exact .inr ⟨rfl,rfl,rfl⟩
  |cons p b=>
   obtain⟨v,r,g⟩:=p
   cases r<;>cases g<;>first|exact .inl rfl|exact .inr ⟨rfl,rfl,rfl⟩
 |_=>exact .inr ⟨rfl,rfl,rfl⟩
theorem Ad8{P:Program}{f:FuncId}{fn:Func}{id d N:Nat}{j:Oper}{l:List Oper}{y:Code}{vs:List Value}{u:FrameMode}{w:World}{S:World->Prop}(C:P.funcs[f]? =some fn)(D:fn.body=some (.seq (.region id (j::l).toArray false) y))(A:fn.ntmps=N)(hl:vs.length<=N)
  (k:fn.results= #[]) (hg:j.guard=none) (hd:j.dst=some d) (s:Nat.blt d N=true) (n: ∀(a:Act) w,(execOp a.eval j).run P w= .ok .recover w)
  (h: ∀(K:Act->World->Prop) (Q:Exit->Act->World->Prop),(∀a w',y.wp P Q a w'->K a w')->(∀a w',a.defers=[]->S w'->Q .normal a w')->RL P (j::l).toArray (Exit.then K Q) N l ((d,true,(H9 u).1)::N4 0 vs) w):
  CallsD P f vs.toArray u w (λ e i w'=>e= .returned (.tuple #[])/\i=(H9 u).2/\S w'):=by
 refine callsD_of_wpS C D λ b cs hu=>wpS_seq ?_
 subst hu
 have B:=AW.enter vs N hl
 rw[<-A]at B
 refine Ad4 hg (n _ _) (Ad7 b cs) ?_ ?_
 ·rintro⟨a,w',h1⟩
  obtain⟨i,z,_⟩:=h1
  cases z
 ·subst A
  have q:=B.put s true (H9 b.mode).1
  rw[hd]
  have E:=h (λ a w'=>y.wpS P (bodyPostS P fn b cs (λ e i w'=>e= .returned (.tuple #[])/\i=(H9 b.mode).2/\S w')) a ({ b with mode:=(H9 b.mode).2}::cs) w')
   (λ e a w'=>bodyPostS P fn b cs (λ e i w'=>e= .returned (.tuple #[])/\i=(H9 b.mode).2/\S w') e a ({ b with mode:=(H9 b.mode).2}::cs) w')
   (λ a w' h1=>wpS_of_wp h1) (λ a w' h1 z=>⟨h1,_,rfl,_,results_none k _ _ _,rfl,rfl,z⟩) _ q
  refine Eq.mp ?_ E
  congr 1
  funext e a w'
  cases e<;>rfl
def Z3(D:List Deferred)(a:Act):Act:=⟨a.tmps,a.defers++D⟩
section
variable {P:Program} {ops:Array Oper} {D:List Deferred} {Q:Exit->Act->World->Prop} {N:Nat} {L:Env} {w:World}
def rX(P:Program)(D:List Deferred)(c:Code)(Q:Exit->Act->World->Prop)(N:Nat)(L:Env)(w:World):Prop:= ∀a,AW a N L->c.wp P Q (Z3 D a) w
theorem rX.at {y:Code}{Q':Exit->Act->World->Prop}(L':Env)(b:Eng.GF (l6 L') L=L')(h:rX P D y Q' N L' w): ∀a,AW a N L->y.wp P Q' (Z3 D a) w:=λ a e=>h a (b▸e.GF _)
structure OU (P:Program) (fn:Func) (R:Ending->World->Prop) (Q:Exit->Act->World->Prop):Prop where
 all: ∀e a w,bodyPostD P fn R e a w->Q e a w
theorem OU.p {fn:Func}{R:Ending->World->Prop}{b:List PanicEntry}(E:OU P fn R Q)(h: ∀a,AW a N L->Leaves P fn a.tmps R D (.panicking b) w): ∀a,AW a N L->Q (.panic b) (Z3 D a) w:=
 λ a e=>E.all _ _ _ (by show Leaves P fn a.tmps R (a.defers++D) _ w;rw[e.E4];exact h a e)
theorem OU.r {fn:Func}{R:Ending->World->Prop}(E:OU P fn R Q)(h: ∀a,AW a N L->Leaves P fn a.tmps R D .returning w): ∀a,AW a N L->Q .ret (Z3 D a) w:=
 λ a b=>E.all _ _ _ (by show Leaves P fn a.tmps R (a.defers++D) _ w;rw[b.E4];exact h a b)
theorem rY{fn:Func}{R:Ending->World->Prop}{f:FuncId}{tmps:Array Value}{cs:List Value}{u:FrameMode}{S:World->Prop}(i: ∀args w,(callFunc f args).run P w= .ok (.enter f args) w)(hu:u≠ .run)(hm:settle (H9 u).2= .returning)
  (j:CallsD P f cs.toArray u w (λ e b w'=>e= .returned (.tuple #[])/\b=(H9 u).2/\S w')) (h: ∀w',S w'-> ∃v,(results fn tmps).run P w'= .ok v w'/\R (.returned v) w'):
  Leaves P fn tmps R [{ target:=.fn (.func f) cs.toArray,args:= #[]}] u w:=by
 refine leaves_cons hu (args:=cs.toArray) (f:=f) (by simp[invoke,go_sem,i]) (j.mono ?_)
 rintro e b w' ⟨rfl,rfl,hS⟩
 show Leaves P fn tmps R [] (settle (H9 u).2) w'
 rw[hm]
 exact h w' hS
end
def VH(c:Cx)(ds:List Deferred):Cx:= { c with W:=Wk.E4 c.P ds}
def QS(ds:List Deferred)(B:Exit->Act->World->Prop):Exit->Act->World->Prop:=λ e a w=>B e (D0 ds a) w
theorem Z4{c:Cx}{ds:List Deferred}{B:Exit->Act->World->Prop}(hw: ∀x Q a w,x.wp c.P Q a w->c.W.wp x Q a w): ∀(k:List Fr),NB k=true-> ∀e a w,post (VH c ds) (QS ds B) k e a w->post c B k e (D0 ds a) w
 |[],_,e,a,w,h=>h
 | .seq y::k,b,e,a,w,h=>by
  unfold NB at b
  rw[Bool.and_eq_true]at b
  have i:=Z4 (ds:=ds) (B:=B) hw k b.2
  cases e with
  |normal=>
   have h:DC y=true->y.wp c.P (S3 ds (post (VH c ds) (QS ds B) k)) (D0 ds a) w:=h
   refine hw _ _ _ _ (wp_mono (h b.1) λ e a w ⟨a0,e0,q⟩=>?_)
   subst e0;exact i _ _ _ q
  |_=>exact i _ a w h
 | .block id::k,b,e,a,w,h=>by
  have i:=Z4 (ds:=ds) (B:=B) hw k b
  cases e with
  |exit j=>
   have h:if j=id then post (VH c ds) (QS ds B) k .normal a w else post (VH c ds) (QS ds B) k (.exit j) a w:=h
   show if j=id then _ else _
   split<;>rename_i hid
   ·rw[if_pos hid]at h;exact i _ a w h
   ·rw[if_neg hid]at h;exact i _ a w h
  |_=>exact i _ a w h
 | .scope::k,b,e,a,w,h=>by
  have i:=Z4 (ds:=ds) (B:=B) hw k b
  cases e<;>first|exact h.elim|exact i _ a w h
 | .loop J::k,b,_,_,_,_=>by cases b
theorem Ad9{P:Program}{N:Nat}{w0 w:World}{M0 M:Mem}{Hr:List HO}{T:TT}(hT:DP P T){f:FuncId}{fn:Func}{x:Code}{R:Ending->World->Prop}(e:P.funcs[f]? =some fn)(i:fn.body=some x)(j:fn.ntmps=N)
  (F:List (Nat×Kn)) (H:List (Nat×HX)) (vs:List XV) (hl:Nat.ble vs.length N=true) (hS:St w0 M0 w M (HD H++Hr)) (hF:BH M F)
  (h: ∀B,OU P fn R B->XG ⟨P,N,w0,M0,M,Hr,T,hT,.wide P⟩ B [] (.code x) ⟨F,H,N8 0 vs⟩) {av:List Value} (k:vs.map XV.d=av):Calls P f av.toArray w R:=by
 subst k
 refine calls_of_wp_defers e i ?_
 rw[j]
 have b:=AW.enter (vs.map XV.d) N (by rw[List.length_map];exact Nat.le_of_ble_eq_true hl)
 exact h _ ⟨λ _ _ _ h=>h⟩ _ w ⟨by rw[<-RW]at b;exact b,M,hS,hF,Mem.le.refl _⟩
section
variable {c:Cx} {B:Exit->Act->World->Prop} {k k':List Fr} {m:Md} {s s':XS} {O:Prop} {E:List Ck} {all:Array Oper} {ty:TypeId} {ps:String} {af:Array Edge}
abbrev gL(f:FuncId)(cs:List Value):List Deferred:=[{ target:=.fn (.func f) cs.toArray,args:= #[]}]
theorem Ae0{x:Operand}{f:FuncId}{cs:List Value}{tys:Array TypeId}{E1:List Ck}(hw: ∀x Q a w,x.wp c.P Q a w->c.W.wp x Q a w)(hl: ∀ops Q l a w,wpList c.P ops Q l a w->c.W.list ops Q l a w)
  (h:run c.T c.N k m s=⟨k',.ops all [⟨none,.defer ⟨.value x,#[],tys⟩,ty,ps,af,none⟩],s',O,E⟩) (hx:B5 s'.L .t x=some (.v (.func (.func f) #[] ⟨cs⟩),E1)) (n:NB k'=true)
  (q:XG (VH c (gL f cs)) (QS (gL f cs) B) k' .next s') (hE:A9 E:=by exact Ad) (hO:O:=by exact Af) (hE1:A9 E1:=by exact Ad):XG c B k m s:=by
 refine C5 h hE hO λ a w ⟨b,M,i⟩=>hl _ _ _ _ _ <|wpList_plain U λ K y=>?_
 have j:a.eval x= .func (.func f) #[] ⟨cs⟩:=AF hx (hE:=hE1) a c.N b U
 have key:(execOp a.eval ⟨none,.defer ⟨.value x,#[],tys⟩,ty,ps,af,none⟩).run c.P w= .ok (.defer { target:=.fn (.func f) cs.toArray,args:= #[]}) w:=by
  simp only[execOp,resolve,j,Deferred.ofValue,Sem.run_bind,Sem.run_pure,Result.andThen_ok]
  simp
 simp only[Oper.wp,key,Oper.upon_defer]
 refine y _ _ ?_
 have h1:=Z4 hw k' n _ _ _ (q a w ⟨b,M,i.st,i.f,i.le⟩)
 have e:D0 (gL f cs) a= { a with defers:= { target:=.fn (.func f) cs.toArray,args:= #[]}::a.defers}:=by unfold D0;rw[b.E4];rfl
 rw[e]at h1
 exact h1
theorem gM{P:Program}{T:TT}(hT:DP P T){fn:Func}{H:List (Nat×HX)}{Hr:List HO}{w0 w:World}{M0 M:Mem}{L:XE}{a:Act}{N:Nat}{rs:List ResultVar}{vs:List XV}{E2:List Ck}(hS:St w0 M0 w M (HD H++Hr))(b:AW a N L.d)(e:fn.results=⟨rs⟩)(hl:O9 T H L rs=some (vs,E2))(hE2:A9 E2:=by exact Ad):(results fn a.tmps).run P w= .ok (PZ vs) w:=by
 rw[kI,e]
 have h:=dC hT hS b hl hE2
 have i:((⟨rs⟩:Array ResultVar).mapM (KH a.tmps)).run P w= .ok (vs.map XV.d).toArray w:=by
  rw[Array.mapM_eq_mapM_toList]
  refine(Sem.run_bind' P _ _ w).trans ?_
  rw[h];rfl
 rw[Sem.run_bind,i]
 simp only[Result.andThen_ok,Sem.run_pure]
 congr 1
 match vs with
 |[]=>rfl
 |[v]=>rfl
 |_::_::_=>simp[PZ]
theorem Ae1{fn:Func}{R:Ending->World->Prop}{ds:List Deferred}{b:Exit->Act->World->Prop}(e:OU c.P fn R b)(h:run c.T c.N k m s=⟨[],.ret,s',O,E⟩)(i: ∀a w M,AW a c.N s'.L.d->D5 c s'.F s'.H w M->Leaves c.P fn a.tmps R ds .returning w)(hE:A9 E:=by exact Ad)(hO:O:=by exact Af):XG c (QS ds b) k m s:=
 C5 h hE hO λ a w ⟨h1,M,j⟩=>e.all _ _ _ (by
  show Leaves c.P fn a.tmps R (a.defers++ds) .returning w
  rw[h1.E4];exact i a w M h1 j)
theorem OU.pan {P:Program}{N:Nat}{L:XE}{fn:Func}{R:Ending->World->Prop}{Q:Exit->Act->World->Prop}{ds:List Deferred}{b:List PanicEntry}{a:Act}{w:World}(e:OU P fn R Q)(i:AW a N L.d)(h:Leaves P fn a.tmps R ds (.panicking b) w):QS ds Q (.panic b) a w:=
 e.all _ _ _ (by show Leaves P fn a.tmps R (a.defers++ds) _ w;rw[i.E4];exact h)
end
theorem Ae3{P:Program}{o:Oper}{a:Act}{w:World}{K b:Act->World->Prop}{Q:Exit->Act->World->Prop}(h:o.wp P a w b Q):o.wp P a w b (Exit.then K Q):=by
 unfold Oper.wp at*
 generalize (execOp a.eval o).run P w=r at*
 cases r with
 |ok n w'=>cases n<;>first|exact h|(simp only[Oper.upon]at h ⊢;exact h)
 |halt s w'=>cases s<;>first|exact h|(simp only[Oper.upon]at h ⊢;exact h)
theorem rZ{P:Program}{T:TT}(hT:DP P T){f:FuncId}{fn:Func}{id d N:Nat}{b:Oper}{l:List Oper}{y:Code}{u:FrameMode}{w0 w:World}{M0 M:Mem}{Hr:List HO}{S:World->Prop}(A:P.funcs[f]? =some fn)(C:fn.body=some (.seq (.region id (b::l).toArray false) y))(D:fn.ntmps=N)
  (i:fn.results= #[]) (hg:b.guard=none) (hd:b.dst=some d) (k:Nat.blt d N=true) (j: ∀(a:Act) w,(execOp a.eval b).run P w= .ok .recover w) (F:List (Nat×Kn)) (H:List (Nat×HX)) (n:XV) (vs:List XV) (q:n.d=(H9 u).1) (hl:Nat.ble vs.length N=true) (hS:St w0 M0 w M (HD H++Hr)) (hF:BH M F)
  (h: ∀B,(∀a w',a.defers=[]->S w'->B .normal a w')->XG ⟨P,N,w0,M0,M,Hr,T,hT,.wide P⟩ B [.seq y] (.ops (b::l).toArray l) ⟨F,H,(d,.t,n)::N8 0 vs⟩) {av:List Value} (s:vs.map XV.d=av):
  CallsD P f av.toArray u w (λ e E w'=>e= .returned (.tuple #[])/\E=(H9 u).2/\S w'):=by
 subst s
 refine Ad8 A C D (by rw[List.length_map];exact Nat.le_of_ble_eq_true hl) i hg hd k j λ K Q G J a L=>?_
 have h1:=h Q J a w ⟨by
  show AW a N ((d,true,n.d)::XE.d (N8 0 vs))
  rw[RW,q];exact L,M,hS,hF,Mem.le.refl _⟩
 have mono: ∀(l':List Oper) (a:Act) (w:World),wpList P (b::l).toArray (Exit.then (y.wp P Q) Q) l' a w->wpList P (b::l).toArray (Exit.then K Q) l' a w:=by
  intro l'
  induction l' with
  |nil=>intro a w h;exact G _ _ h
  |cons o l' z=>
   intro a w h
   unfold wpList at h ⊢
   split at h<;>rename_i hw
   ·rw[if_pos hw]
    rcases h with h|⟨s,a2,O,R⟩
    ·refine .inl ?_
     have V:=UB h
     have W:=Oper.wp_mono (λ a w X=>z a w X) V
     exact Ae3 W
    ·exact .inr ⟨s,a2,O,R⟩
   ·rw[if_neg hw];exact z _ _ h
 exact mono l a w h1
theorem s0{c:Cx}{B:Exit->Act->World->Prop}{k:List Fr}{m:Md}{s s':XS}{O:Prop}{E:List Ck}{S:World->Prop}(b: ∀a w',a.defers=[]->S w'->B .normal a w')(h:run c.T c.N k m s=⟨[],.next,s',O,E⟩)(e: ∀w M,D5 c s'.F s'.H w M->S w)(hE:A9 E:=by exact Ad)(hO:O:=by exact Af):XG c B k m s:=
 C5 h hE hO λ a w ⟨h1,M,i⟩=>b a w h1.E4 (e w M i)
end Go.Eng
namespace Go.Proofs.YtnoegalemkbbbaaGreatDoor
open Go.Proofs.Tryz
open Go.Eng
end Go.Proofs.YtnoegalemkbbbaaGreatDoor
namespace Go.Eng
def HW:Sp:=⟨false,[],0⟩
def F3(s:A0):Sp×Int:=
 if Lib.hasPrefix s [46]=false then(HW,0)
 else if 0<CX (A5 s 1) 0 then(⟨false,Eng.sub s 1 (CX (A5 s 1) 0+1),0⟩,CX (A5 s 1) 0+1)
 else if(B1 (A5 s 1)).2.2≠0\/Q9 (B1 (A5 s 1)).1=true\/E5 (B1 (A5 s 1)).1≠Eng.sub s 1 (1+(B1 (A5 s 1)).2.1)then(HW,0)
 else(⟨false,(B1 (A5 s 1)).1,0⟩,(B1 (A5 s 1)).2.1+1)
def FE(s:A0):Sp×Int:=
 if Lib.hasPrefix s [91]=false\/Lib.indexByte s 93<2\/8<Lib.indexByte s 93 then(HW,0)
 else match Lib.atoi (Eng.sub s 1 (Lib.indexByte s 93))with
  |none=>(HW,0)
  |some n=>if 1000000<n\/Lib.itoa n≠Eng.sub s 1 (Lib.indexByte s 93)\/n<0 then(HW,0)else(⟨true,[],n⟩,Lib.indexByte s 93+1)
def GV(s:A0)(i:Int):Int:=if i=0/\Lib.hasPrefix s [46]=true then 1 else 0
def EP(s:A0)(i:Int):Sp×Int:=
 if(F3 (A5 s i)).2≠0 then F3 (A5 s i)
 else if 0<i\/0<GV s i then
  if(FE (A5 s (i+GV s i))).2=0 then(HW,0)else((FE (A5 s (i+GV s i))).1,(FE (A5 s (i+GV s i))).2+GV s i)
 else(HW,0)
def FO:Nat->A0->List Sp->Int->List Sp×Int
 |0,_,p,i=>(p,i)
 |f+1,s,p,i=>if i<len s then if(EP s i).2=0 then(p,i)else FO f s (p++[(EP s i).1]) (i+(EP s i).2)else(p,i)
def CI(s:A0):List Sp×Int×Int:=
 if s=[46]then([],0,0)
 else if(FO 20 s [] 0).2<len s\/(FO 20 s [] 0).1=[]then([],(FO 20 s [] 0).2,1)else((FO 20 s [] 0).1,0,0)
def HA(s:A0):List Sp×Bool:=((CI s).1,decide ((CI s).2.2=0)&& !((CI s).1.any λ x=>x.part))
theorem Z5{s:A0}{c:UInt8}(h:Lib.hasPrefix s [c]=true):1<=len s:=XY h
theorem s5(s:A0)(c:UInt8):Lib.indexByte s c<len s:=by
 induction s with
 |nil=>show(-1:Int)<0;decide
 |cons a s b=>
  unfold Lib.indexByte
  have:=A6 s
  rw[AH]
  split
  ·omega
  ·split<;>omega
theorem s6(s:A0):0<=(F3 s).2/\(F3 s).2<=len s/\len (F3 s).1.name<=4*len s/\(F3 s).1.part=false/\(F3 s).1.n=0:=by
 have hl:=A6 s
 unfold F3
 split
 ·exact⟨Aa,hl,by show(0:Int)<=_;omega,rfl,rfl⟩
 ·rename_i hp
  have h1:=Z5 (by simpa using hp)
  have b:len (A5 s 1)=len s-1:=ED _ _ Aa h1
  have hw:=MK (s:=A5 s 1) (i:=0) Aa Aa
  have hu:=OH (A5 s 1)
  have e:=fN (A5 s 1)
  split
  ·refine⟨Aa,Aa,?_,rfl,rfl⟩
   show len (Eng.sub s 1 _)<=_
   have:len (Eng.sub s 1 (CX (A5 s 1) 0+1))<=len s:=by unfold Eng.sub len;rw[List.length_take,List.length_drop];unfold len at*;omega
   omega
  ·split
   ·exact⟨Aa,hl,by show(0:Int)<=_;omega,rfl,rfl⟩
   ·exact⟨Aa,Aa,by show len (B1 (A5 s 1)).1<=_;omega,rfl,rfl⟩
theorem s7(s:A0):0<=(FE s).2/\(FE s).2<=len s/\len (FE s).1.name<=0/\((FE s).1.part=true->0<=(FE s).1.n/\(FE s).1.n<=1000000):=by
 have hl:=A6 s
 have hi:=s5 s 93
 have b:len HW.name<=0:=by decide
 unfold FE
 split
 ·exact⟨Aa,hl,b,λ h=>by cases h⟩
 ·rename_i e
  split
  ·exact⟨Aa,hl,b,λ h=>by cases h⟩
  ·split
   ·exact⟨Aa,hl,b,λ h=>by cases h⟩
   ·rename_i n _ hd
    exact⟨Aa,Aa,b,λ _=>⟨show(0:Int)<=n by omega,show n<=(1000000:Int) by omega⟩⟩
end Go.Eng
namespace Go.Proofs.YtnoegalemkbbbaaGreatDoor
open Go.Proofs.Tryz
open Go.Eng
theorem Ae4(s:A0)(w:World)(hg:Gl w)(C:len s<=200000000000):
    Calls prog 170 [str s].toArray w λ e w'=>e= .returned (.tuple #[.agg (F3 s).1.cells.toArray,i64 (F3 s).2])/\Ext w w':=by
 have y:=A6 s
 refine AE A8 func170 U ntmps170 [] [] [.v (str s)] U (BB w) A3 (λ B l=>AZ 2 U zeroValue105 U λ D=>AB U call171 U U (λ _ w M h=>VC (US s [46] w)) U ?_) U
 refine A1 U (λ b=>?_) (λ b=>?_)<;>simp only[zb]at b
 ·exact A2 l U U U λ w M h=>⟨by unfold F3;rw[if_pos b];rfl,h.st.low⟩
 have h1:=Z5 b
 have z:len (A5 s 1)=len s-1:=ED _ _ Aa h1
 have hw:=MK (s:=A5 s 1) (i:=0) Aa Aa
 have hu:=OH (A5 s 1)
 have A:=fN (A5 s 1)
 refine AB U call193 U U (λ _ w M h=>rC (A5 s 1) w Aa) U ?_
 refine A1 U (λ k=>?_) (λ k=>?_)<;>simp only[zb]at k
 ·exact A2 l U U U λ w M h=>⟨by unfold F3;rw[if_neg (by rw[b];decide),if_pos k];rfl,h.st.low⟩
 refine AB U call194 U U (λ _ w M h=>AY7 (A5 s 1) w (hg.low h.st.low) Aa) U <|DQ U BI Ac <|EZ U call195 U U (λ _ w M h=>AZ3 (B1 (A5 s 1)).1 w Aa) U <|EZ U call196 U U (λ _ w M h=>AX5 (B1 (A5 s 1)).1 w (hg.low h.st.low) Aa) U <|DR U ?_
 refine A1 U (λ j=>?_) (λ j=>?_)<;>simp only[zb]at j
 ·exact A2 l U U U λ w M h=>⟨by unfold F3;rw[if_neg (by rw[b];decide),if_neg Aa,if_pos (by simpa only[or_assoc]using j)];rfl,h.st.low⟩
 ·have n: ¬((B1 (A5 s 1)).2.2≠0\/Q9 (B1 (A5 s 1)).1=true\/E5 (B1 (A5 s 1)).1≠Eng.sub s 1 (1+(B1 (A5 s 1)).2.1)):=by
   rintro(q|q|q)
   · exact q j.1.1
   · rw[j.1.2]at q;cases q
   · exact q j.2
  exact A2 l U U U λ w M h=>⟨by unfold F3;rw[if_neg (by rw[b];decide),if_neg Aa,if_neg n];rfl,h.st.low⟩
theorem Ae5{w0 h:World}{M0 M:Mem}{Rs:List HO}(s:A0)(hS:St w0 M0 h M Rs)(hg:Gl w0)(l:len s<=18):
   Calls prog 199 [str s].toArray h (BY w0 M0 M Rs (λ u:Int×Value=>.tuple #[i64 u.1,u.2]) (λ u=>(∃n,Lib.atoi s=some n/\u=(n,.nilIface)/\ -9223372036854775808<=n/\n<=9223372036854775807)\/(Lib.atoi s=none/\u.1=0/\ ∃t p,u.2= .iface t p)) (λ _=>[]) λ _=>[]):=by
 have i:=hg.low hS.low
 have j:s.length<=18:=by unfold len at l;omega
 have b:=Lib.atoiAll_short s j
 cases ha:Lib.atoi s with
 |some n=>
  rw[ha]at b
  have k:=Lib.atoiAll_bounds b
  exact(AG6 s n h Aa b).mono λ e w' ⟨he,hx⟩=>⟨(n,.nilIface),M,he,.inl ⟨n,rfl,rfl,k⟩,Mem.le.refl _,hS.ext hx,A3⟩
 |none=>
  rw[ha]at b
  obtain⟨ev,h1,q⟩:=i.err
  exact(Any.strconv_Atoi_syntax Tryz.jX ⟨⟨s⟩⟩ (by show s.length<=_;omega) b ev h h1 q).mono λ e w' ⟨N,he,_,_,hx⟩=>⟨(0,_),M,he,.inr ⟨rfl,rfl,_,_,rfl⟩,Mem.le.refl _,hS.ext hx,A3⟩
theorem Ae6(s:A0)(w:World):Calls prog 198 [str s,.int .u8 93].toArray w λ e w'=>e= .returned (i64 (Lib.indexByte s 93))/\Ext w w':=VC (dM s 93 w)
theorem Ae7(s:A0)(w:World)(hg:Gl w)(N:len s<=200000000000):
    Calls prog 172 [str s].toArray w λ e w'=>e= .returned (.tuple #[.agg (FE s).1.cells.toArray,i64 (FE s).2])/\Ext w w':=by
 have K:=A6 s
 have L:=s5 s 93
 have J:=Lib.indexByte_ge s 93
 refine AE A8 func172 U ntmps172 [] [] [.v (str s)] U (BB w) A3 (λ B y=>AZ 2 U zeroValue105 U λ O=>AB U call198 U U (λ _ w M b=>Ae6 s w) U <|AB U call171 U U (λ _ w M b=>VC (US s [91] w)) U ?_) U
 refine A1 U (λ i=>?_) (λ i=>?_)<;>simp only[zb]at i
 ·exact A2 y U U U λ w M b=>⟨by unfold FE;rw[if_pos (by simpa only[or_assoc]using i)];rfl,b.st.low⟩
 have k: ¬(Lib.hasPrefix s [91]=false\/Lib.indexByte s 93<2\/8<Lib.indexByte s 93):=by
  rintro(q|q|q)
  · rw[q]at i;cases i.1.1
  · omega
  · omega
 obtain⟨z,P⟩: ∃z,z=Lib.indexByte s 93:=⟨_,rfl⟩
 have l:len (Eng.sub s 1 (Lib.indexByte s 93))<=18:=by
  unfold Eng.sub len;rw[List.length_take,List.length_drop];omega
 refine AY [] (λ u:Int×Value=>.tu [I u.1,.v u.2]) [] (λ _=>[]) (Fg:=λ _=>[]) U U call199 U U (λ w M hS hF=>Ae5 (Eng.sub s 1 (Lib.indexByte s 93)) hS hg l) λ u hu=>?_
 rcases u with⟨j,Q⟩
 rcases hu with⟨n,A,hu,C,D⟩|⟨A,F,t,p,G⟩
 ·cases hu
  refine DQ U BI Ac <|Z1 (.v (.bool false)) U U (λ w M b=>PV.U2 (AF (v:=.v .nilIface) (E:=[]) U) (.inl U) underlying223) <|EZ U call200 U U (λ _ w M b=>n5 j w (hg.low b.st.low) C D) U <|DR U ?_
  have e:FE s=if 1000000<j\/Lib.itoa j≠Eng.sub s 1 (Lib.indexByte s 93)\/j<0 then(HW,0)else(⟨true,[],j⟩,Lib.indexByte s 93+1):=by
   unfold FE;rw[if_neg k,A]
  refine A1 U (λ h=>?_) (λ h=>?_)<;>simp only[zb]at h
  ·exact A2 y U U U λ w M b=>⟨by rw[e,if_pos (by simpa[or_assoc]using h)];rfl,b.st.low⟩
  ·have H: ¬(1000000<j\/Lib.itoa j≠Eng.sub s 1 (Lib.indexByte s 93)\/j<0):=by
    rintro(q|q|q)
    · omega
    · exact q h.1.2
    · omega
   exact A2 y U U U λ w M b=>⟨by rw[e,if_neg H];rfl,b.st.low⟩
 ·cases F;cases G
  have e:FE s=(HW,0):=by unfold FE;rw[if_neg k,A]
  refine DQ U BI Ac <|Z1 (.v (.bool true)) U U (λ w M b=>PV.U2 (AF (v:=.v (.iface t p)) (E:=[]) U) (.inr ⟨t,p,rfl⟩) underlying223) <|EZ U call200 U U (λ _ w M b=>n5 0 w (hg.low b.st.low) Aa Aa) U <|DR U <|A1 U (λ h=>?_) (λ h=>?_)
  ·exact A2 y U U U λ w M b=>⟨by rw[e];rfl,b.st.low⟩
  ·cases h
theorem Ae8(s:A0)(i:Int)(h0:0<=i)(h1:i<=len s):0<=(EP s i).2/\i+(EP s i).2<=len s/\len (EP s i).1.name<=4*len s/\((EP s i).1.part=true->0<=(EP s i).1.n/\(EP s i).1.n<=1000000):=by
 have hl:=A6 s
 have q:=ED s i h0 h1
 have e:=s6 (A5 s i)
 have j:len HW.name<=0:=by decide
 unfold EP
 split
 ·exact⟨e.1,Aa,Aa,λ h=>by rw[e.2.2.2.1]at h;cases h⟩
 ·split
  ·rename_i hd
   have b:0<=GV s i/\i+GV s i<=len s:=by
    unfold GV at*
    split at hd
    ·rename_i hp;rw[if_pos hp];have:=Z5 hp.2;omega
    ·rename_i hp;rw[if_neg hp];omega
   have k:=ED s (i+GV s i) Aa b.2
   have l:=s7 (A5 s (i+GV s i))
   split
   ·exact⟨Aa,Aa,show len HW.name<=_ by omega,λ h=>by cases h⟩
   ·exact⟨Aa,Aa,show len (FE (A5 s (i+GV s i))).1.name<=_ by omega,l.2.2.2⟩
  ·exact⟨Aa,Aa,show len HW.name<=_ by omega,λ h=>by cases h⟩
theorem s8{w0 P:World}{M0 M:Mem}{Rs:List HO}(s:A0)(hS:St w0 M0 P M Rs)(hg:Gl w0)(hb:len s<=200000000000):
    Calls prog 137 [str s].toArray P (BY w0 M0 M Rs (λ u:Value=>.tuple #[u,i64 (CI s).2.1,i64 (CI s).2.2]) (λ _=>True) (λ u=>[(1,kn u 3 (CI s).1 Sp.cells)]) λ _=>[]):=by
 have K:=A6 s
 refine AE (Hr:=Rs) A8 func137 U ntmps137 [] [] [.v (str s)] U hS A3 (λ B F=>?_) U
 unfold CI at F
 refine A1 U (λ G=>?_) (λ G=>?_)<;>simp only[zb]at G
 ·rw[if_pos G]at F
  exact A2 F U U U λ w M' C=>⟨.slice none 0 0,M',rfl,trivial,C.le,C.C8 [] U,AA ⟨Sl.nil M' 3,Sp.AO,trivial⟩ A3⟩
 rw[if_neg G]at F
 refine Ab9 (λ Q a w h=>wp_label h) U ?_
 generalize hR:FO 20 s [] 0=R at F
 refine cX 1 5 105 3 Sp.cells Sp.AO U ?_
 refine Ac0 (σ:=Int×Value×List Sp×Nat) 1 (λ s'=> ∃(i:Int) (u:Value) (xs:List Sp),0<=i/\i<=len s/\len xs<=20/\R=(xs,i)/\s'=⟨[(1,kn u 3 xs Sp.cells)],[(1,.ho (Z0 u xs))],[Z 0 (.v (str s)),Z 5 (.sl 1 u),Z 6 (I i)]⟩)
   (λ(i,u,xs,f)=>⟨[(1,kn u 3 xs Sp.cells)],[(1,.ho (Z0 u xs))],[Z 0 (.v (str s)),Z 5 (.sl 1 u),Z 6 (I i)]⟩)
   (λ(i,u,xs,f)=>0<=i/\i<=len s/\len xs+f=20/\FO f s xs i=R) (λ(i,u,xs,f)=>f) (0,.slice none 0 0,[],20) U U U ⟨Aa,K,rfl,hR⟩ ?_ ?_
 ·rintro⟨i,u,xs,f⟩ ⟨D,E,T,l⟩
  have L:=A6 xs
  refine A1 U (λ e=>?_) (λ e=>?_)<;>simp only[zb]at e
  ·cases f with
   |zero=>exfalso;omega
   |succ f=>
   rw[FO,if_pos e.1]at l
   have hf:=ED s i D E
   have V:=s6 (A5 s i)
   have W:=Ae8 s i D E
   refine AB U call170 U U (λ _ w M C=>Ae4 (A5 s i) w (hg.low C.st.low) Aa) U <|AZ 7 U zeroValue105 U λ J=>CZ 0 (λ s'=> ∃x:Sp,x=(EP s i).1/\(EP s i).2≠0/\s'=⟨[(1,kn u 3 xs Sp.cells)],[(7,.box J [.v (.bool x.part),.v (str x.name),I x.n] 105),(1,.ho (Z0 u xs))],[Z 0 (.v (str s)),Z 5 (.sl 1 u),Z 6 (I i),Z 7 (.bx 7 J 0),Z 8 (I ((EP s i).2))]⟩) U U (λ A=>?_) (λ A=>?_) ?_
   ·simp only[zb]at A
    refine AB U call171 U U (λ _ w M C=>VC (US s [46] w)) U <|CZ 0 (λ s'=> ∃z:Int,z=GV s i/\s'=⟨[(1,kn u 3 xs Sp.cells)],[(7,.box J [.v (.bool (F3 (A5 s i)).1.part),.v (str (F3 (A5 s i)).1.name),I (F3 (A5 s i)).1.n] 105),(1,.ho (Z0 u xs))],[Z 0 (.v (str s)),Z 5 (.sl 1 u),Z 6 (I i),Z 7 (.bx 7 J 0),Z 8 (I ((F3 (A5 s i)).2)),Z 9 (I z)]⟩) U U (λ j=>?_) (λ j=>?_) ?_
    ·exact AQ _ U U ⟨1,by simp only[zb]at j;unfold GV;rw[if_pos j],rfl⟩
    ·exact AQ _ U U ⟨0,(by
      simp only[zb]at j;unfold GV;rw[if_neg]
      rintro⟨X,q2⟩
      rcases j with h|h
      · exact h X
      · rw[q2]at h;cases h),rfl⟩
    rintro s' ⟨z,H,rfl⟩
    have N:0<=z/\z<=1/\i+z<=len s:=by
     rw[H];unfold GV
     split
     · rename_i hp;have:=Z5 hp.2;omega
     · omega
    have hf2:=ED s (i+z) Aa N.2.2
    have hpb:=s7 (A5 s (i+z))
    have b:EP s i=if 0<i\/0<z then if(FE (A5 s (i+z))).2=0 then(HW,0)else((FE (A5 s (i+z))).1,(FE (A5 s (i+z))).2+z)else(HW,0):=by
     unfold EP;rw[if_neg (λ q=>q A),<-H]
    refine A1 U (λ j=>?_) (λ j=>?_)<;>simp only[zb]at j
    ·rw[if_pos j]at b
     refine AB U call172 U U (λ _ w M C=>Ae7 (A5 s (i+z)) w (hg.low C.st.low) Aa) U ?_
     refine A1 U (λ y=>?_) (λ y=>?_)<;>simp only[zb]at y
     ·rw[if_pos y]at b
      rw[b,if_pos U]at l
      exact AQ _ U U ⟨i,u,xs,D,E,Aa,l.symm,rfl⟩
     ·rw[if_neg y]at b
      exact AQ _ U (by rw[b];rfl) ⟨_,rfl,by rw[b];show(FE (A5 s (i+z))).2+z≠0;omega,rfl⟩
    ·rw[if_neg Aa]at b
     refine A1 U (λ y=>?_) (λ y=>?_)<;>simp only[zb]at y
     ·rw[b,if_pos U]at l
      exact AQ _ U U ⟨i,u,xs,D,E,Aa,l.symm,rfl⟩
     ·exact absurd A y
   ·simp only[zb]at A
    have b:EP s i=F3 (A5 s i):=by unfold EP;rw[if_pos A]
    exact AQ _ U (by rw[b];rfl) ⟨_,rfl,by rw[b];exact A,rfl⟩
   rintro s' ⟨x,hx,O,rfl⟩
   rw[if_neg O,<-hx]at l
   exact B9 6 [x] Sp.cells 3 105 Sp.AO U U Ah U λ v6=>EC 32 U U U underlying61 type105 U U Sp.cells_one (by simp only[AH,len_nil];omega) λ v'=>AR (i+(EP s i).2,v',xs++[x],f) U U ⟨Aa,Aa,by rw[AN];show len xs+1+_=20;omega,l⟩ (by show f<f+1;omega)
  ·refine AQ _ U U ⟨i,u,xs,D,E,Aa,?_,rfl⟩
   rw[<-l]
   cases f with
   |zero=>rfl
   |succ f=>rw[FO,if_neg Aa]
 rintro s' ⟨i,u,xs,D,E,S,rfl,rfl⟩
 have L:=A6 xs
 refine A1 U (λ e=>?_) (λ e=>?_)<;>simp only[zb]at e
 ·rw[if_pos (e.imp id λ h=>Decidable.byContradiction λ q=>by have:0<len xs:=GM q;omega)]at F
  exact A2 F U U U λ w M' C=>⟨.slice none 0 0,M',rfl,trivial,C.le,C.C8 [] U,AA ⟨Sl.nil M' 3,Sp.AO,trivial⟩ A3⟩
 ·rw[if_neg (by
                 rintro(q|q);· omega
                 · dsimp only at q;rw[q]at e;exact e.2 U)]at F
  exact A2 F U U U λ w M' C=>⟨u,M',rfl,trivial,C.le,C.C8 [] U,AA (C.f.get (k:=1) U) A3⟩
theorem Ae9(r:Int)(w:World):
  Calls prog 326 [(.int .i32 r)].toArray w λ e w'=>e= .returned (.bool (C1 r))/\w'=w:=by
 refine CW.O6 func326 U ntmps326 (Nat.le_of_ble_eq_true U) λ Q hE=>CW.weaken [0] (L':=[Y 0 (.int .i32 r)]) ?_ U
 refine CW.sr (RL.u (.assign .c) U (RL.nil (CW.id (CW.sr ?_))))
 refine RL.m U U (RL.u (.geq (.t U) .c) U (RL.m U U (RL.v (.pos U U) (.move (.t U)) U (RL.v (.pos U U) (.leq (.g U (λ h=>h)) .c) U (RL.u (.and (.t U) (.g U (λ h=>h))) U ?_)))))
 refine RL.a U U (RL.nil (CW.id ?_))
 refine CW.ret (hE.r1 U U ?_)
 exact⟨rfl,rfl⟩
theorem Z6{cut:A0}(h: ∀b∈cut,b.toNat<128): ∀(j:Nat) (b:UInt8),cut[j]? =some b->b.toNat<128:=λ _ b e=>h b (List.mem_of_getElem? e)
theorem gN(n:Int)(w:World)(h0:0<=n)(h1:n<=140737488355328):Calls prog 291 [str [48],i64 n].toArray w λ e w'=>e= .returned (str (B7 n))/\Ext w w':=mZ 48 n w h0 h1
theorem s9(s:A0)(w:World)(hg:Gl w)(i:len s<=9223372036854775807):
  Calls prog 302 [(str s)].toArray w λ e w'=>e= .returned (.bool (JB s))/\Ext w w':=by
 refine CW.O6 func302 U ntmps302 (Nat.le_of_ble_eq_true U) λ Q hE=>?_
 have hS:St w nM w nM []:=Aj ⟨λ _ _ _ h=>by cases h⟩
 refine CW.weaken [0] (L':=[Y 0 (str s)]) ?_ U
 refine CW.sr (RL.u (.assign .c) U (RL.nil (CW.id (CW.sr ?_))))
 refine RL.m U U <|RL.aW hS .none call325 (.cons (.t U) (.cons .f .nil)) (λ _=>(AG7 326 D8 s _ (hg.low hS.low) call326 Aa (λ x w _=>Ae9 x w))) U (λ w1 b=>RL.u (.aU (.t U) .c) U (RL.a U U ?_))
 refine RL.nil (CW.at [Y 2 (.bool (((Lib.trimF D8 ⟨⟨s⟩⟩).data.toList)==[]))] U (CW.ret (hE.r1 U U ?_)))
 exact⟨by rw[AP0],b.low⟩
theorem sA(n x:Int)(w:World)(h:0<=n/\n<=1099511627776):
  Calls prog 305 [(i64 n),(i64 x)].toArray w λ e w'=>e= .returned (.bool (decide (-1000<=x)&&decide (x<=1000)&&decide (n+x<=1000)))/\w'=w:=by
 refine CW.O6 func305 U ntmps305 (Nat.le_of_ble_eq_true U) λ Q hE=>CW.weaken [0,1] (L':=[Y 0 (i64 n),Y 1 (i64 x)]) ?_ U
 refine CW.sr (RL.u (.assign .c) U (RL.nil (CW.id (CW.sr ?_))))
 refine RL.m U U (RL.u (.geq (.t U) .c) U (RL.m U U (RL.v (.pos U U) (.move (.t U)) U (RL.v (.pos U U) (.leq (.g U (λ h=>h)) .c) U (RL.u (.and (.t U) (.g U (λ h=>h))) U ?_)))))
 refine RL.m U U (RL.v (.pos U U) (.move (.t U)) U (RL.v (.pos U U) (.move (.t U)) U (RL.v (.pos U U) (.add (.g U (λ h=>h)) (.g U (λ h=>h)) (λ b=>by simp only[zb]at b;omega)) U (RL.v (.pos U U) (.leq (.g U (λ h=>h)) .c) U (RL.u (.and (.t U) (.g U (λ h=>h))) U ?_)))))
 refine RL.a U U (RL.nil (CW.id ?_))
 refine CW.ret (hE.r1 U U ?_)
 exact⟨by first|rfl|simp[Bool.and_assoc],rfl⟩
end Go.Proofs.YtnoegalemkbbbaaGreatDoor
namespace Go.Proofs
open Go.Shelf
def Tryz.Af0:Go.Shelf.Ren:=⟨λ |160=>349|232=>330|231=>327|227=>321|234=>331|233=>328|236=>332|235=>329|228=>322|271=>347|151=>346|197=>224|120=>355|152=>319|260=>248|137=>198|119=>341|224=>342|225=>343|217=>232|266=>254|n=>n,λ |9=>9|4=>4|3=>3|5=>5|117=>326|116=>325|0=>0|124=>332|21=>21|105=>245|46=>209|119=>283|139=>286|138=>285|n=>n,λ |3=>0|4=>1|n=>n⟩
theorem Tryz.Af1:Go.Proofs.Lays.n160 prog Tryz.Af0:= {
 mixed:=by kernel_rfl
 f119:=func341.trans (congrArg some Ai)
 f120:=func355.trans (congrArg some Ai)
 f137:=func198.trans (congrArg some Ai)
 f151:=func346.trans (congrArg some Ai)
 f152:=func319.trans (congrArg some Ai)
 f160:=func349.trans (congrArg some Ai)
 f197:=func224.trans (congrArg some Ai)
 f217:=func232.trans (congrArg some Ai)
 f224:=func342.trans (congrArg some Ai)
 f225:=func343.trans (congrArg some Ai)
 f227:=func321.trans (congrArg some Ai)
 f228:=func322.trans (congrArg some Ai)
 f231:=func327.trans (congrArg some Ai)
 f232:=func330.trans (congrArg some Ai)
 f233:=func328.trans (congrArg some Ai)
 f234:=func331.trans (congrArg some Ai)
 f235:=func329.trans (congrArg some Ai)
 f236:=func332.trans (congrArg some Ai)
 f260:=func248.trans (congrArg some Ai)
 f266:=func254.trans (congrArg some Ai)
 f271:=func347.trans (congrArg some Ai)
 t0:=underlying0
 a0:=isAgg0
 z0:=sizeOf0
 v0:=zeroValue0
 t3:=underlying3
 a3:=isAgg3
 z3:=sizeOf3
 v3:=zeroValue3
 t4:=underlying4
 a4:=isAgg4
 z4:=sizeOf4
 v4:=zeroValue4
 t5:=underlying5
 a5:=isAgg5
 z5:=sizeOf5
 v5:=zeroValue5
 t9:=underlying9
 a9:=isAgg9
 z9:=sizeOf9
 v9:=zeroValue9
 t21:=underlying21
 a21:=isAgg21
 z21:=sizeOf21
 v21:=zeroValue21
 t46:=underlying209
 a46:=isAgg209
 z46:=sizeOf209
 v46:=zeroValue209
 t105:=underlying245
 a105:=isAgg245
 z105:=sizeOf245
 v105:=zeroValue245
 t116:=underlying325
 a116:=isAgg325
 z116:=sizeOf325
 t117:=underlying326
 a117:=isAgg326
 z117:=sizeOf326
 v117:=zeroValue326
 t119:=underlying283
 a119:=isAgg283
 z119:=sizeOf283
 t124:=underlying332
 a124:=isAgg332
 z124:=sizeOf332
 v124:=zeroValue332
 t138:=underlying285
 a138:=isAgg285
 z138:=sizeOf285
 v138:=zeroValue285
 t139:=underlying286
 a139:=isAgg286
 z139:=sizeOf286
 v139:=zeroValue286
 g3:=by kernel_rfl
 g4:=by kernel_rfl}
open Go.RowKit in
theorem Tryz.strings_Trim_one (s:ByteArray)(c:UInt8)(b:c.toNat<128)(w:World)(h:s.size<=9223372036854775807):
 Calls prog 349 #[.string s,.string ⟨#[c]⟩] w λ e w'=>e= .returned (.string ⟨(Lib.trimB s.data.toList c).toArray⟩)/\(w'=w\/w'=w.drew):=Any.strings_Trim_one Tryz.Af1 s c b w h
end Go.Proofs
