/-
  Parts Pb P1 On Refs Toks, put together and made short by wip/py/merge.py (mini.py).
-/
import Derived.Test.YtmjpjbmeamnfpaaGreatDoorZd12
import Derived.Test.YtmjpjbmeamnfpaaGreatDoorZd9
import Derived.Test.YtmjpjbmeamnfpaaGreatDoorZd4
import Derived.Laws.BitsLemmas
import Derived.Test.YtmjpjbmeamnfpaaGreatDoorZd3
import Derived.Test.YtmjpjbmeamnfpaaGreatDoorProg
import Derived.Tactics
import Derived.Tactics2
import Derived.Defers
import Derived.Laws.Pointers
import Derived.Laws.LoneSync
import Derived.RegionTactic
import Derived.RegionCalls
import Derived.ChangeAlike
import Derived.Test.YtmjpjbmeamnfpaaGreatDoorZd10
import Derived.Test.YtmjpjbmeamnfpaaGreatDoorZd0
set_option linter.unusedVariables false
set_option linter.unusedSimpArgs false
namespace Go.Eng
structure DV (l:List Tk):Prop where
 last: ∀i,0<=i->i<len l->(at' l i).kind≠6->i+1<len l
 H0: ∀t∈l,t.kind=5-> ∀b∈t.c.s,DD b=true
 num: ∀t∈l,t.kind=5->len t.c.s<=1048576/\t.c.e<=1000000000
 bd: ∀t∈l,len t.s<=1048576
 few:len l<=1048576
theorem B3{α β:Type}{r:PR α}{k:α->Int->PR β}{y:β}{m:Int}(h:r.bind k= .ok y m): ∃x j,r= .ok x j/\k x j= .ok y m:=by
 cases r with
 |er c p=>cases h
 |ok x j=>exact⟨x,j,rfl,h⟩
theorem CP{α:Type}{l:List Tk}{i e:Int}{x:α}{j:Int}(h:B7 l i e= .ok x j):False:=by cases h
section
variable {l:List Tk} (hl:DV l) {i:Int} (h0:0<=i) (h1:i<len l)
include hl h0 h1
theorem G4{m:A1}(h:AN l i m=true):i+1<len l:=hl.last i h0 h1 λ e=>by
 unfold AN at h;rw[e]at h;simp at h
theorem GS{k:Int}(h:(at' l i).kind=k)(hk:k≠6):i+1<len l:=hl.last i h0 h1 λ e=>hk (by rw[<-h,e])
theorem EI{m:A1}{u:Unit}{j:Int}(h:AV l i m= .ok u j):j=i+1/\j<len l/\AN l i m=true:=by
 unfold AV at h
 split at h
 ·rename_i hm;cases h;exact⟨rfl,G4 hl h0 h1 hm,hm⟩
 ·exact(CP h).elim
theorem GU{d:Int}{m:A1}{u:Unit}{j:Int}(h:CV l d i m= .ok u j):j=i+1/\j<len l/\d<64/\AN l i m=true:=by
 unfold CV at h
 split at h
 ·exact(CP h).elim
 ·rename_i hd
  obtain⟨h2,h3,h4⟩:=EI hl h0 h1 h
  refine⟨h2,h3,?_,h4⟩
  rw[h4]at hd;simp at hd;exact hd
theorem WC{x:Int}{j:Int}(h:GM l i= .ok x j):j=i+1/\j<len l/\x<=1000000/\(at' l i).kind=5:=by
 unfold GM at h
 split at h
 ·exact(CP h).elim
 ·rename_i hc
  split at h
  ·exact(CP h).elim
  ·cases h
   have h5:(at' l i).kind=5:=Decidable.byContradiction λ e=>hc (.inl e)
   exact⟨rfl,GS hl h0 h1 h5 (by decide),by omega,h5⟩
structure GV (l:List Tk) (i:Int) (x:Tf) (j:Int):Prop where
 lt:i<j
 le:j<len l
 pipe:GR x
 name:x.t.name=[]
 size:len x.flat<=4*(j-i)
structure SM (xs:List Tf) (i i0:Int):Prop where
 pipe: ∀x∈xs,GR x/\x.t.name=[]
 size:len (AF xs)+len xs<=4*(i-i0)+1
omit hl h0 h1 in
theorem cG(xs:List Tf)(x:Tf):len (AF (xs++[x]))=len (AF xs)+len x.flat:=by
 rw[H8,AJ];show _+len (x.flat++[])=_;rw[List.append_nil]
omit hl h0 h1 in
theorem SM.snoc {xs:List Tf}{i0 j:Int}{x:Tf}(h:SM xs i i0)(hx:GR x)(hn:x.t.name=[])(hs:len x.flat+1<=4*(j-i)):SM (xs++[x]) j i0:=
 ⟨λ y hy=>by
  rcases List.mem_append.1 hy with hy|hy
  ·exact h.pipe y hy
  ·rw[List.mem_singleton]at hy;subst hy;exact⟨hx,hn⟩,by rw[cG,AJ];have:=h.size;show _+(len xs+1)<=_;omega⟩
def II(xs:List Sp):Prop:=len xs<=20/\ ∀s∈xs,len s.name<=1048576/\(s.part=true->0<=s.n/\s.n<=1000000)
omit hl h0 h1 in
theorem cH{l:List Tk}(hl:DV l){i:Int}(h0:0<=i)(h1:i<len l)(h5:(at' l i).kind=5):0<=JS (at' l i):=by
 have h2:=hl.H0 _ (at_mem h0 h1) h5
 have key: ∀(s:A1) (n:Int),(∀b∈s,DD b=true)->0<=n->0<=s.foldl (λ n c=>10*n+((c.toNat:Int)-48)) n:=by
  intro s
  induction s with
  |nil=>intro n _ h;exact h
  |cons a s ih=>
   intro n h hn
   have ha:=h a (by simp)
   unfold DD C9 at ha
   simp only[Bool.and_eq_true,decide_eq_true_eq]at ha
   exact ih _ (λ b hb=>h b (by simp[hb])) (show(0:Int)<=10*n+((a.toNat:Int)-48) by omega)
 unfold JS SE
 refine key _ 0 (λ b hb=>?_) (by omega)
 rcases List.mem_append.1 hb with hb|hb
 ·exact h2 b hb
 ·rw[(List.mem_replicate.1 hb).2];decide
omit hl h0 h1 in
theorem pQ{l:List Tk}(hl:DV l){i:Int}(h0:0<=i)(h1:i<len l){n j:Int}(h2:GM l i= .ok n j):0<=n:=by
 have h7:=(WC hl h0 h1 h2).2.2.2
 unfold GM at h2
 split at h2
 ·exact(CP h2).elim
 ·split at h2
  ·exact(CP h2).elim
  ·cases h2;exact cH hl h0 h1 h7
omit h0 h1 in
theorem NW{dot:Bool}: ∀(f:Nat) (xs:List Sp) (i:Int) {ys:List Sp} {j:Int},0<=i->i<len l->II xs->F9 dot f l xs i= .ok ys j->i<=j/\j<len l/\II ys
 |0,xs,i,ys,j,_,_,_,h=>(CP h).elim
 |f+1,xs,i,ys,j,h0,h1,hg,h=>by
  unfold F9 at h
  split at h
  ·rename_i hc
   split at h
   ·exact(CP h).elim
   ·rename_i h20
    have h21:len xs<20:=by have:=hg.1;omega
    split at h
    ·rename_i hk
     have h4:=GS hl h0 h1 hk (by decide)
     obtain⟨n,k,h2,h3⟩:=B3 h
     obtain⟨rfl,h5,h6,h7⟩:=WC hl (by omega) h4 h2
     obtain⟨u,m,h8,h9⟩:=B3 h3
     obtain⟨rfl,h10,_⟩:=EI hl (by omega) h5 h8
     have hn:0<=n:=by
      unfold GM at h2
      split at h2
      ·exact(CP h2).elim
      ·split at h2
       ·exact(CP h2).elim
       ·cases h2;exact cH hl (by omega) h4 h7
     obtain⟨k1,k2,k3⟩:=NW f _ _ (by omega) h10 ⟨by rw[AJ];show len xs+1<=20;omega,λ s hs=>by
      rcases List.mem_append.1 hs with hs|hs
      ·exact hg.2 s hs
      ·rw[List.mem_singleton]at hs;subst hs;exact⟨(by show len ([]:A1)<=1048576;decide),λ _=>⟨hn,h6⟩⟩⟩ h9
     exact⟨by omega,k2,k3⟩
    ·rename_i hk
     have h4:i+1<len l:=by
      rcases hc with hm|⟨hm,_⟩
      ·exact G4 hl h0 h1 hm
      ·exact GS hl h0 h1 hm (by decide)
     obtain⟨k1,k2,k3⟩:=NW f _ _ (by omega) h4 ⟨by rw[AJ];show len xs+1<=20;omega,λ s hs=>by
      rcases List.mem_append.1 hs with hs|hs
      ·exact hg.2 s hs
      ·rw[List.mem_singleton]at hs;subst hs;exact⟨hl.bd _ (at_mem h0 h1),λ e=>by cases e⟩⟩ h
     exact⟨by omega,k2,k3⟩
  ·cases h;exact⟨Int.le_refl _,h1,hg⟩
omit hl h0 h1 in
theorem II.nil:II []:=⟨by decide,λ s hs=>by cases hs⟩
theorem pR{q:A1->A1}{s:A1}{j:Int}(h:LW q l i= .ok s j):i<=j/\j<len l:=by
 unfold LW at h
 split at h
 ·rename_i hm
  have h2:=G4 hl h0 h1 hm
  obtain⟨xs,k,h3,h4⟩:=B3 h
  cases h4
  obtain⟨k1,k2,_⟩:=NW hl _ _ _ (by omega) h2 .nil h3
  exact⟨by omega,k2⟩
 ·split at h
  ·exact(CP h).elim
  ·obtain⟨xs,k,h3,h4⟩:=B3 h
   cases h4
   obtain⟨k1,k2,_⟩:=NW hl _ _ _ h0 h1 .nil h3
   exact⟨k1,k2⟩
theorem cI{c:Nd}{j:Int}(h:FB l i= .ok c j):j=i+1/\j<len l:=by
 unfold FB at h
 split at h
 ·rename_i hk;cases h;exact⟨rfl,GS hl h0 h1 hk (by decide)⟩
 ·split at h
  ·rename_i hk;cases h;exact⟨rfl,GS hl h0 h1 hk (by decide)⟩
  ·split at h
   ·rename_i hk;cases h;exact⟨rfl,GS hl h0 h1 hk.1 (by decide)⟩
   ·exact(CP h).elim
end
section
variable {l:List Tk} (hl:DV l) (q:A1->A1)
structure PK (xs:List Tf) (i i0:Int):Prop where
 size:len (AF xs)<=4*(i-i0)
theorem PK.snoc {xs:List Tf}{i i0 j:Int}{x:Tf}(h:PK xs i i0)(hs:len x.flat<=4*(j-i)):PK (xs++[x]) j i0:=⟨by rw[cG];have:=h.size;omega⟩
structure AA6 (l:List Tk) (q:A1->A1) (f:Nat):Prop where
 fil: ∀d i x j,0<=i->i<len l->PA q f l d i= .ok x j->GV l i x j
 pip: ∀d xs i i0 x j,0<=i->i<len l->i0<i->xs≠[]->SM xs i i0->VT q f l d xs i= .ok x j->GV l i0 x j
 pos: ∀d i x j,0<=i->i<len l->PB q f l d i= .ok x j->GV l i x j
 pri: ∀d i x j,0<=i->i<len l->bR q f l d i= .ok x j->GV l i x j
 wor: ∀d i x j,0<=i->i<len l->(at' l i).kind=2->bS q f l d i= .ok x j->GV l i x j
 obs: ∀d xs i i0 x j,0<=i->i<len l->i0<i->PK xs i (i0+1)->VU q f l d xs i= .ok x j->GV l i0 x j
 lis: ∀d xs i i0 x j,0<=i->i<len l->i0<i->PK xs i (i0+1)->VV q f l d xs i= .ok x j->GV l i0 x j
 eit: ∀d i x j,0<=i->i<len l->VW q f l d i= .ok x j->GV l i x j
 eis: ∀d x i i0 y j,0<=i->i<len l->GV l i0 x i->VX q f l d x i= .ok y j->GV l i0 y j
 bot: ∀d i x j,0<=i->i<len l->VY q f l d i= .ok x j->GV l i x j
 bos: ∀d x i i0 y j,0<=i->i<len l->GV l i0 x i->VZ q f l d x i= .ok y j->GV l i0 y j
 sin: ∀d i x j,0<=i->i<len l->W0 q f l d i= .ok x j->GV l i x j
include hl in
end
theorem pS(s:A1):SE s=D0 s:=by
 unfold SE D0
 congr 1
 funext n b
 omega
theorem pT{l:A1}(h: ∀b∈l,DD b=true)(hl:len l<=7):Lib.atoiAll ([48]++l)= .ok (D0 l)/\0<=D0 l/\D0 l<10000000:=by
 have h1:=VL l 0 h (by omega)
 have h2:(10:Int)^l.length<=10^7:=by
  have:(10:Nat)^l.length<=10^7:=Nat.pow_le_pow_right (by omega) (by unfold len at hl;omega)
  exact_mod_cast this
 have h3:=VM l 0 h (by
  have:(10:Nat)^l.length<=10^7:=Nat.pow_le_pow_right (by omega) (by unfold len at hl;omega)
  omega)
 have h4:0<=D0 l/\D0 l<10000000:=by unfold D0;omega
 refine⟨?_,h4⟩
 show Lib.atoiAll (48::l)=_
 have hm:Lib.parseMag (48::l)= .ok (D0 l).toNat:=by
  unfold Lib.parseMag
  rw[if_neg (by simp),Lib.parseUint10,if_pos (by decide),if_neg (by decide),if_neg (by decide)]
  exact h3
 unfold Lib.atoiAll
 dsimp only
 rw[if_neg (by decide: ¬((48:UInt8).toNat=43\/(48:UInt8).toNat=45)),hm]
 dsimp only
 rw[if_neg (by omega),if_neg (by intro hh;exact absurd hh.1 (by decide)),if_neg (by decide)]
 congr 1;omega
theorem pU{l:List Tk}(hl:DV l){i:Int}(h0:0<=i)(h1:i<len l)(h5:(at' l i).kind=5)(he:0<=(at' l i).c.e)(hs:len (at' l i).c.s+(at' l i).c.e<=7):
  Lib.atoiAll (([48]++(at' l i).c.s)++List.replicate (at' l i).c.e.toNat 48)= .ok (JS (at' l i))/\0<=JS (at' l i)/\JS (at' l i)<10000000:=by
 unfold JS
 rw[pS,List.append_assoc]
 refine pT (λ b hb=>?_) (by rw[AJ];unfold len at*;rw[List.length_replicate];omega)
 rcases List.mem_append.1 hb with hb|hb
 ·exact hl.H0 _ (at_mem h0 h1) h5 b hb
 ·rw[(List.mem_replicate.1 hb).2];decide
end Go.Eng
set_option maxRecDepth 100000
namespace Go.Proofs.YtmjpjbmeamnfpaaGreatDoor
open Go.Eng
theorem pV(r:Int)(f:Bool)(w:World):
  Calls Tryz.prog 108 [(.int .i32 r),(.bool f)].toArray w λ e w'=>e= .returned (.bool (BN r f))/\w'=w:=by
 refine CW.BV Tryz.func108 U Tryz.ntmps108 (Nat.le_of_ble_eq_true U) λ Q hE=>?_
 refine CW.weaken [0,1] (L':=[Y 0 (.int .i32 r),Y 1 (.bool f)]) ?_ U
 refine CW.sr (RL.u (.assign .c) U (RL.nil (CW.id (CW.sr ?_))))
 refine RL.m U U (RL.u (.geq (.t U) .c) U (RL.m U U (RL.v (.pos U U) (.move (.t U)) U (RL.v (.pos U U) (.leq (.g U (λ h=>h)) .c) U (RL.u (.and (.t U) (.g U (λ h=>h))) U ?_)))))
 refine RL.m U U (RL.v (.neg U U) (.move (.t U)) U (RL.v (.neg U U) (.geq (.g U (λ h=>h)) .c) U (RL.v (.neg U U) (.move (.g U (λ h=>h))) U (RL.v (.GA U U) (.move (.t U)) U (RL.v (.GA U U) (.leq (.g U (λ h=>h)) .c) U ?_)))))
 refine RL.v (.neg U U) (.and (.g U (λ h=>h)) (.g U (λ h=>h))) U (RL.u (.or (.t U) (.g U (λ h=>h))) U (RL.m U U (RL.v (.neg U U) (.move (.t U)) U (RL.v (.neg U U) (.eql (.g U (λ h=>h)) .c) U (RL.u (.or (.t U) (.g U (λ h=>h))) U ?_)))))
 refine RL.a U U (RL.nil (CW.id ?_))
 refine CW.sr (RL.m U U (RL.m U U (RL.v (.neg U U) (.move (.t U)) U (RL.v (.neg U U) (.not (.g U (λ h=>h))) U (RL.v (.neg U U) (.move (.g U (λ h=>h))) U (RL.v (.GA U U) (.move (.t U)) U (RL.v (.GA U U) (.geq (.g U (λ h=>h)) .c) U (RL.v (.neg U U) (.and (.g U (λ h=>h)) (.g U (λ h=>h))) U (RL.v (.neg U U) (.move (.g U (λ h=>h))) U (RL.v (.GA U U) (.move (.t U)) U (RL.v (.GA U U) (.leq (.g U (λ h=>h)) .c) U (RL.v (.neg U U) (.and (.g U (λ h=>h)) (.g U (λ h=>h))) U (RL.u (.or (.t U) (.g U (λ h=>h))) U (RL.a U U (RL.nil (CW.id ?_))))))))))))))))
 refine CW.ret (hE.r1 U U ?_)
 exact⟨by simp only[BN,GD,C9,Bool.and_assoc],rfl⟩
theorem WD(s:A1)(w:World)(hb:len s<=9223372036854775807):
  Calls Tryz.prog 76 [(str s)].toArray w λ e w'=>e= .returned (str (B9 s))/\Ext w w':=by
 refine CW.BV Tryz.func76 U Tryz.ntmps76 (Nat.le_of_ble_eq_true U) λ Q hE=>?_
 have:=AA s
 have hS:St w nM w nM []:=St.start ⟨λ _ _ _ h=>by cases h⟩
 refine CW.weaken [0] (L':=[Y 0 (str s)]) ?_ U
 refine CW.sr (RL.u (.assign .c) U (RL.nil (CW.id (CW.seq ?_))))
 refine CW.sr (RL.m U U ?_)
 refine RL.QV (s:=s) hS (.t U) Tryz.underlying9 U (λ w1 b2 hS3=>?_)
 replace hS3:St w nM w1 nM [.raw b2 (.stringIter ⟨⟨s⟩⟩ ((0:Int)).toNat)]:=hS3
 refine RL.nil (CW.id (CW.block ?_))
 refine CW.loop (σ:=Int) (λ p=>[Y 0 (str s),Y 6 (.pointer (some ⟨b2,0,none⟩))]) (λ p wl=>St w nM wl nM [.raw b2 (.stringIter ⟨⟨s⟩⟩ ((p:Int)).toNat)]/\0<=p/\p<=len s/\CG s p=CG s 0) (λ p=>(len s-p).toNat) 0 [0,6] U ?_ ?_
 ·refine⟨hS3,?_⟩;exact⟨by omega,by omega,rfl⟩
 ·rintro p wl ⟨hS4,hp0,hp1,hpF⟩
  refine CW.sr ?_
  refine RL.QW (s:=s) (p:=p) hS4 (i:=0) U (.t U) (by omega) U (λ hlt w5 hS6=>?_) (λ hge=>?_)
  ·replace hS6:St w nM w5 nM [.raw b2 (.stringIter ⟨⟨s⟩⟩ ((p+runeLen s p:Int)).toNat)]:=hS6
   refine RL.u (.ex (.t U) U) U (RL.nil (CW.id ?_))
   refine CW.seq (CW.cond rfl (λ _=>?_) (λ h=>by cases h))
   refine CW.skip (CW.id (CW.block (CW.sr (RL.u (.ex (.t U) U) U (RL.u (.ex (.t U) U) U (RL.a U U (RL.a U U (RL.nil (CW.id ?_)))))))))
   refine CW.sr (RL.m U U (RL.m U U (RL.u (.eql (.t U) .c) U ?_)))
   refine RL.F1 .none Tryz.call108 (.cons (.t U) (.cons (.t U) .nil)) (λ _=>(pV (AM s p) (p==0) _)) U ?_
   refine RL.u (.not (.t U)) U ?_
   refine RL.nil (CW.at [Y 0 (str s),Y 3 (i64 p),Y 6 (.pointer (some ⟨b2,0,none⟩)),Y 15 (.bool (!(BN (AM s p) (p==0))))] U ?_)
   refine CW.cond rfl ?_ ?_<;>intro hb2<;>try simp only[zb]at hb2
   ·have hw:=YX (f:=p==0) hp0 hlt
    refine CW.sr (RL.m U U (RL.m U U (RL.u (.QK (.t U) (.t U) Tryz.underlying9 (λ _=>by omega)) U (RL.a U U (RL.nil (CW.id (CW.ret (hE.r1 U U ?_))))))))
    exact⟨by rw[B9,<-hpF,MQ hp0 hlt (by rw[<-hw.1];exact hb2)],hS6.low⟩
   ·have hw:=YX (f:=p==0) hp0 hlt
    have hl1:runeLen s p=1:=hw.2 (by rw[<-hw.1];exact hb2)
    refine CW.skip λ a hs=>Exists.intro (p+runeLen s p) ⟨hs.BC [0,6],?_,?_⟩
    ·refine⟨hS6,?_⟩
     exact⟨by omega,by omega,by rw[<-hpF,hl1,OD hp0 hlt (by rw[<-hw.1];exact hb2)]⟩
    ·show Int.toNat _<Int.toNat _;omega
  ·refine RL.u (.ex (.t U) U) U (RL.nil (CW.id ?_))
   refine CW.seq (CW.cond rfl (λ h=>by cases h) (λ _=>(CW.exit (CW.at [Y 0 (str s)] rfl (CW.sr ?_)))))
   refine RL.m U U (RL.a U U (RL.nil (CW.id ?_)))
   refine CW.ret (hE.r1 U U ?_)
   exact⟨by rw[B9,<-hpF,MR hge,KD _ _ (by omega)],hS4.low⟩
end Go.Proofs.YtmjpjbmeamnfpaaGreatDoor
set_option maxRecDepth 100000
namespace Go.Proofs.YtmjpjbmeamnfpaaGreatDoor
open Go.Eng
theorem cJ(w:World):(callFunc 264 #[]).run Tryz.prog w= .ok (.value (.tuple #[])) w:=run_call_mark0 Tryz.func264 (by kernel_rfl) (by kernel_rfl) (by kernel_rfl) .disable (by kernel_rfl) w
theorem cK(w:World):(callFunc 266 #[]).run Tryz.prog w= .ok (.value (.tuple #[])) w:=run_call_mark0 Tryz.func266 (by kernel_rfl) (by kernel_rfl) (by kernel_rfl) .enable (by kernel_rfl) w
theorem pW(a:Addr)(w:World):(callFunc 267 #[.pointer (some a)]).run Tryz.prog w= .ok (.value (.tuple #[])) w:=run_call_marked Tryz.func267 (by kernel_rfl) (by kernel_rfl) (by kernel_rfl) .acquire (by kernel_rfl) a w
theorem pX(a:Addr)(w:World):(callFunc 269 #[.pointer (some a)]).run Tryz.prog w= .ok (.value (.tuple #[])) w:=run_call_marked Tryz.func269 (by kernel_rfl) (by kernel_rfl) (by kernel_rfl) .releaseMerge (by kernel_rfl) a w
theorem pY(a:Addr)(x:Value)(u:FrameMode)(w:World)(hc:w.cell? a=some x)(hz:w.frozen? a=false):
  CallsD Tryz.prog 202 #[.pointer (some a),.bool true] u w λ e u' w'=>u'=u/\(e= .returned (.tuple #[])/\w'=w.drew.setCell a (.int .u32 1)):=by
 have hc':w.drew.cell? a=some x:=by go_simp
 have hz':w.drew.frozen? a=false:=by go_simp
 have hst:=run_call_store (P:=Tryz.prog) Tryz.func239 (by kernel_rfl) (by kernel_rfl) (by kernel_rfl) (by kernel_rfl) (k:=.u32) (y:=1) hc' hz'
 go_enter_d Tryz.func202,Tryz.ntmps202
 go_wp2
 go_region_calls
 all_goals (go_end0;exact⟨rfl,rfl⟩)
theorem pZ(a:Addr)(u:FrameMode)(w:World)(hc:w.cell? a=some (.int .i32 1))(hz:w.frozen? a=false):
  CallsD Tryz.prog 201 #[.pointer (some a)] u w λ e u' w'=>u'=u/\(e= .returned (.tuple #[])/\w'=w.setCell a (.int .i32 0)):=by
 have hd:=cJ
 have he:=cK
 have hr:=pX
 have hadd:=run_call_add (P:=Tryz.prog) Tryz.func270 (by kernel_rfl) (by kernel_rfl) (by kernel_rfl) .i32 (by kernel_rfl) (y:= -1) (s:=0) hc hz (by simp[go_sem];rfl)
 have hcv:=run_convert_to_unsafe (P:=Tryz.prog) (src:=297) (dst:=237) Tryz.underlying297 Tryz.underlying237 (by kernel_rfl) hc
 go_enter_d Tryz.func201,Tryz.ntmps201
 go_wp2
 go_end0
 go_wp2
 go_end0
 exact⟨rfl,rfl⟩
theorem qA(a:Addr)(w:World)(hc:w.cell? a=some (.int .i32 0))(hz:w.frozen? a=false):
  Calls Tryz.prog 200 #[.pointer (some a)] w λ e w'=>e= .returned (.tuple #[])/\w'=w.setCell a (.int .i32 1):=by
 have hd:=cJ
 have he:=cK
 have ha:=pW
 have hcas:=run_call_cas_hit (P:=Tryz.prog) Tryz.func265 (by kernel_rfl) (by kernel_rfl) (by kernel_rfl) .i32 (by kernel_rfl) (y:=1) hc hz
 have hc':(w.setCell a (.int .i32 1)).cell? a=some (.int .i32 1):=World.cell?_setCell_same w a _ hc
 have hcv:=run_convert_to_unsafe (P:=Tryz.prog) (src:=297) (dst:=237) Tryz.underlying297 Tryz.underlying237 (by kernel_rfl) hc'
 go_enter Tryz.func200,Tryz.ntmps200
 go_wp2
 first|go_end0|(simp only[Exit.inBlock,Exit.then];refine bodyPost_ret (results_none U _ _ _) U ?_)|refine bodyPost_ret (results_none U _ _ _) U ?_
 go_wp2
 go_end0
 exact⟨rfl,rfl⟩
set_option maxHeartbeats 1600000 in
theorem qB(g:Nat)(fv:Array Value)(b:Nat)(w:World)(R:World->Prop)(cg: ∀args w,(callFunc g args).run Tryz.prog w= .ok (.enter g args) w)
  (h0:w.cell? ⟨b,0,none⟩=some (.int .u32 0)) (h1:w.cell? ⟨b,1,none⟩=some (.int .i32 0)) (f1:w.frozen? ⟨b,1,none⟩=false)
  (hclo:Calls Tryz.prog g fv (w.setCell ⟨b,1,none⟩ (.int .i32 1)) λ e w'=>e= .returned (.tuple #[])/\w'.cell? ⟨b,0,none⟩=some (.int .u32 0)/\w'.frozen? ⟨b,0,none⟩=false/\w'.cell? ⟨b,1,none⟩=some (.int .i32 1)/\w'.frozen? ⟨b,1,none⟩=false/\R w'):
  Calls Tryz.prog 152 #[.pointer (some ⟨b,0,none⟩),.func (.func g) #[] fv] w λ e w'=>e= .returned (.tuple #[])/\ ∃w1,R w1/\w1.cell? ⟨b,0,none⟩=some (.int .u32 0)/\w1.frozen? ⟨b,0,none⟩=false/\w1.cell? ⟨b,1,none⟩=some (.int .i32 1)/\w1.frozen? ⟨b,1,none⟩=false/\w'=(w1.drew.setCell ⟨b,0,none⟩ (.int .u32 1)).setCell ⟨b,1,none⟩ (.int .i32 0):=by
 have hl:=run_call_load (P:=Tryz.prog) Tryz.func199 (by kernel_rfl) (by kernel_rfl) (by kernel_rfl) .u32 (by kernel_rfl) (w:=w.setCell ⟨b,1,none⟩ (.int .i32 1)) (a:=⟨b,0,none⟩) (x:=0) ((World.cell?_setCell_other _ ⟨b,1,none⟩ ⟨b,0,none⟩ _ (by simp)).trans h0)
 have hnot: ∀(x:Bool) (w:World),(Op.unary .not (.bool x)).run Tryz.prog w= .ok (.bool (!x)) w:=λ _ _=>rfl
 go_enter_defers Tryz.func152,Tryz.ntmps152
 go_wp2_with (first|(go_at_call 200;refine(qA ⟨b,1,none⟩ _ (by go_simp) (by go_simp)).mono ?_;rintro e w' ⟨rfl,rfl⟩)|(go_at_call 151;go_in))
 refine hclo.mono ?_
 rintro e w' ⟨rfl,c0,z0,c1,z1,hR⟩
 rename_i hk
 refine hk _ _ ?_
 go_wp2
 refine leaves_cons (f:=202) (args:= #[.pointer (some ⟨b,0,none⟩),.bool true]) (by simp) (by simp[go_sem]) ?_
 refine(pY ⟨b,0,none⟩ (.int .u32 0) .returning _ c0 z0).mono ?_
 rintro e u' w'' ⟨rfl,rfl,rfl⟩
 refine leaves_cons (f:=201) (args:= #[.pointer (some ⟨b,1,none⟩)]) (by simp[settle]) (by simp[go_sem]) ?_
 refine(pZ ⟨b,1,none⟩ _ _ ?_ (by simp[z1])).mono ?_
 ·refine(World.cell?_setCell_other _ ⟨b,0,none⟩ ⟨b,1,none⟩ _ (by simp)).trans ?_
  rw[World.cell?_drew];exact c1
 rintro e u' w'' ⟨rfl,rfl,rfl⟩
 have hfin:(Ending.returned (.tuple #[])=Ending.returned (.tuple #[]))/\ ∃w1,R w1/\w1.cell? ⟨b,0,none⟩=some (.int .u32 0)/\w1.frozen? ⟨b,0,none⟩=false/\w1.cell? ⟨b,1,none⟩=some (.int .i32 1)/\w1.frozen? ⟨b,1,none⟩=false/\(w'.drew.setCell ⟨b,0,none⟩ (.int .u32 1)).setCell ⟨b,1,none⟩ (.int .i32 0)=(w1.drew.setCell ⟨b,0,none⟩ (.int .u32 1)).setCell ⟨b,1,none⟩ (.int .i32 0):=⟨rfl,w',hR,c0,z0,c1,z1,rfl⟩
 simpa[Leaves,settle,results,Tryz.results152]using hfin
set_option maxHeartbeats 1600000 in
theorem qC(g:Nat)(fv:Array Value)(b:Nat)(w:World)(R:World->Prop)(cg: ∀args w,(callFunc g args).run Tryz.prog w= .ok (.enter g args) w)
  (h0:w.cell? ⟨b,0,none⟩=some (.int .u32 0)) (h1:w.cell? ⟨b,1,none⟩=some (.int .i32 0)) (f1:w.frozen? ⟨b,1,none⟩=false)
  (hclo:Calls Tryz.prog g fv (w.setCell ⟨b,1,none⟩ (.int .i32 1)) λ e w'=>e= .returned (.tuple #[])/\w'.cell? ⟨b,0,none⟩=some (.int .u32 0)/\w'.frozen? ⟨b,0,none⟩=false/\w'.cell? ⟨b,1,none⟩=some (.int .i32 1)/\w'.frozen? ⟨b,1,none⟩=false/\R w'):
  Calls Tryz.prog 113 #[.pointer (some ⟨b,0,none⟩),.func (.func g) #[] fv] w λ e w'=>e= .returned (.tuple #[])/\ ∃w1,R w1/\w1.cell? ⟨b,0,none⟩=some (.int .u32 0)/\w1.frozen? ⟨b,0,none⟩=false/\w1.cell? ⟨b,1,none⟩=some (.int .i32 1)/\w1.frozen? ⟨b,1,none⟩=false/\w'=(w1.drew.setCell ⟨b,0,none⟩ (.int .u32 1)).setCell ⟨b,1,none⟩ (.int .i32 0):=by
 have hl:=run_call_load (P:=Tryz.prog) Tryz.func199 (by kernel_rfl) (by kernel_rfl) (by kernel_rfl) .u32 (by kernel_rfl) h0
 have hnot: ∀(x:Bool) (w:World),(Op.unary .not (.bool x)).run Tryz.prog w= .ok (.bool (!x)) w:=λ _ _=>rfl
 go_enter Tryz.func113,Tryz.ntmps113
 go_wp2_with (first|(go_at_call 152;refine(qB g fv b _ R cg h0 h1 f1 hclo).mono ?_;rintro e w' ⟨rfl,hw⟩)|(go_at_call 151;go_in))
 go_end0
 exact⟨rfl,hw⟩
theorem qD(a:Addr)(d:Int)(hd: ¬d=0)(fv:Value)(w:World)(h0:w.cell? a=some (.int .u32 d)):
  Calls Tryz.prog 113 #[.pointer (some a),fv] w λ e w'=>e= .returned (.tuple #[])/\w'=w:=by
 have hl:=run_call_load (P:=Tryz.prog) Tryz.func199 (by kernel_rfl) (by kernel_rfl) (by kernel_rfl) .u32 (by kernel_rfl) h0
 have hnot: ∀(x:Bool) (w:World),(Op.unary .not (.bool x)).run Tryz.prog w= .ok (.bool (!x)) w:=λ _ _=>rfl
 have hd':(d != 0)=true:=by simp[hd]
 go_enter Tryz.func113,Tryz.ntmps113
 go_wp2
 go_end0
 exact⟨rfl,rfl⟩
end Go.Proofs.YtmjpjbmeamnfpaaGreatDoor
namespace Go.Eng
open Go.RowKit
theorem WE{s:A1}{p:Int}(c:UInt8):((A2 s p).toNat.toUInt8=c)↔A2 s p=(c.toNat:Int):=by
 unfold A2
 rw[Int.toNat_natCast,<-UInt8.toNat_inj]
 simp;omega
theorem WG(x:UInt8): ¬0<=Lib.indexByte [] x:=by unfold Lib.indexByte;decide
theorem WH(c x:UInt8)(l:List UInt8):0<=Lib.indexByte (c::l) x↔c=x\/0<=Lib.indexByte l x:=by
 have hm: ∀l:List UInt8,-1<=Lib.indexByte l x:=by
  intro l
  induction l with
  |nil=>unfold Lib.indexByte;decide
  |cons a l ih=>unfold Lib.indexByte;(repeat' split)<;>omega
 have:=hm l
 rw[Lib.indexByte]
 by_cases h:c=x
 ·rw[if_pos (by simpa using h)];exact⟨λ _=>.inl h,λ _=>Int.le_refl _⟩
 ·rw[if_neg (by simpa using h)]
  by_cases h2:Lib.indexByte l x= -1
  ·rw[if_pos (by simpa using h2)];exact⟨λ h3=>by omega,λ h3=>h3.elim (λ h4=>absurd h4 h) (λ h4=>by omega)⟩
  ·rw[if_neg (by simpa using h2)];exact⟨λ _=>.inr (by omega),λ _=>by omega⟩
theorem SN{s:A1}{c:UInt8}{p:Int}:BO s [c] p=true↔p<len s/\A2 s p=(c.toNat:Int):=by
 unfold BO
 simp only[Bool.and_eq_true,decide_eq_true_eq,WH,WG,or_false]
 rw[<-WE c,eq_comm (a:=c)]
theorem qE{s:A1}{c d:UInt8}{p:Int}:BO s [c,d] p=true↔p<len s/\(A2 s p=(c.toNat:Int)\/A2 s p=(d.toNat:Int)):=by
 unfold BO
 simp only[Bool.and_eq_true,decide_eq_true_eq,WH,WG,or_false]
 rw[<-WE c,<-WE d,eq_comm (a:=c),eq_comm (a:=d)]
def HV(s:A1):Int×Int×Bool:=
 let a:Int:=if 0<len s/\A2 s 0=45 then 1 else 0
 if AG s a=a then(a,a,false)else if A2 s a=48 then(a,a+1,true)else(a,AG s a,true)
def DW(s:A1)(i:Int):Int×A1×Int:=
 if i=len s\/ ¬(A2 s i=101\/A2 s i=69)then(0,[],i)
 else if i+1<len s/\(A2 s (i+1)=43\/A2 s (i+1)=45)then
  (if A2 s (i+1)=45 then-1 else 1,Eng.sub s (i+1+1) (AG s (i+1+1)),AG s (i+1+1))
 else(1,Eng.sub s (i+1) (AG s (i+1)),AG s (i+1))
def EW(s:A1)(fg:A1)(e:Int)(i:Int):Nd×Int×Int:=
 let p:=DW s i
 if p.2.2<len s\/(p.1≠0/\p.2.1=[])then(B2,p.2.2,1)
 else if 6<len (AU p.2.1)then(B2,0,2)
 else((E5 (A2 s 0==45) fg (e+p.1*D0 (AU p.2.1))).1,0,(E5 (A2 s 0==45) fg (e+p.1*D0 (AU p.2.1))).2)
def PL(s:A1):Nd×Int×Int:=
 let wh:=HV s
 if wh.2.2=false then(B2,wh.1,1)
 else if wh.2.1<len s/\A2 s wh.2.1=46 then
  if AG s (wh.2.1+1)=wh.2.1+1 then(B2,AG s (wh.2.1+1),1)
  else EW s (Eng.sub s wh.1 wh.2.1++Eng.sub s (wh.2.1+1) (AG s (wh.2.1+1))) (wh.2.1+1-AG s (wh.2.1+1)) (AG s (wh.2.1+1))
 else EW s (Eng.sub s wh.1 wh.2.1) 0 wh.2.1
theorem cL{α:Type}{s:List α}{i j:Int}(h0:0<=i)(h1:i<=j)(h2:j<=len s):Eng.sub s i j=[]↔j=i:=by
 constructor
 ·intro h
  have:=H5 h0 h1 h2
  rw[h,len_nil]at this;omega
 ·rintro rfl;unfold Eng.sub;simp
theorem SO{s:A1}{i j k:Int}(h0:0<=i)(h1:0<=k)(h2:i+k<j)(h3:j<=len s):A2 (Eng.sub s i j) k=A2 s (i+k):=by
 unfold A2 Eng.sub
 rw[List.getD_eq_getElem?_getD,List.getElem?_take,if_pos (by omega),List.getElem?_drop,<-List.getD_eq_getElem?_getD,show i.toNat+k.toNat=(i+k).toNat from by omega]
theorem WI{s fg:A1}{x b c2 side:Int}{pw:A1}(hp:DW s b=(side,pw,c2))(h0:side≠0):EW s fg x b=if pw=[]\/c2<len s then(B2,c2,1)else IB (A2 s 0==45) fg x pw side:=by
 unfold EW IB
 rw[hp]
 dsimp only
 by_cases c3:pw=[]\/c2<len s
 ·rw[if_pos c3,if_pos (by rcases c3 with c3|c3;exact .inr ⟨h0,c3⟩;exact .inl c3)]
 ·rw[if_neg c3,if_neg (by rintro(c4|⟨_,c4⟩);exact c3 (.inr c4);exact c3 (.inl c4))]
theorem cM{s:A1}{neg:Bool}{fg:A1}{x b:Int}(hneg:neg=(A2 s 0==45))(h0:0<=b)(h1:b<=len s):
  G0 s neg fg x b=EW s fg x b:=by
 subst hneg
 have e1:= @qE s 101 69 b
 have e2:= @SN s 45 (b+1)
 have e3:= @SN s 43 (b+1)
 simp only[show((101:UInt8).toNat:Int)=101 from rfl,show((69:UInt8).toNat:Int)=69 from rfl,show((45:UInt8).toNat:Int)=45 from rfl,show((43:UInt8).toNat:Int)=43 from rfl]at e1 e2 e3
 unfold G0
 by_cases c1:BO s [101,69] b=true
 ·have c1':=e1.1 c1
  have hn0: ¬(b=len s\/ ¬(A2 s b=101\/A2 s b=69)):=by rintro(h|h);omega;exact h c1'.2
  rw[if_pos c1,P4 c1]
  unfold LQ
  by_cases c2:BO s [45] (b+1)=true
  ·have c2':=e2.1 c2
   have hp:DW s b=(-1,Eng.sub s (b+1+1) (AG s (b+1+1)),AG s (b+1+1)):=by
    unfold DW;rw[if_neg hn0,if_pos ⟨c2'.1,.inr c2'.2⟩,if_pos c2'.2]
   rw[WI hp (by decide),P4 c2]
   simp only[c2,if_true]
  ·rw[LP (by simpa using c2)]
   by_cases c4:BO s [43] (b+1)=true
   ·have c4':=e3.1 c4
    have hp:DW s b=(1,Eng.sub s (b+1+1) (AG s (b+1+1)),AG s (b+1+1)):=by
     unfold DW;rw[if_neg hn0,if_pos ⟨c4'.1,.inl c4'.2⟩,if_neg (by omega)]
    rw[WI hp (by decide),P4 c4]
    simp only[c2,Bool.false_eq_true,if_false]
   ·rw[LP (by simpa using c4)]
    have hn: ¬(b+1<len s/\(A2 s (b+1)=43\/A2 s (b+1)=45)):=by
     rintro⟨h2,h3|h3⟩
     ·exact c4 (e3.2 ⟨h2,h3⟩)
     ·exact c2 (e2.2 ⟨h2,h3⟩)
    have hp:DW s b=(1,Eng.sub s (b+1) (AG s (b+1)),AG s (b+1)):=by
     unfold DW;rw[if_neg hn0,if_neg hn]
    rw[WI hp (by decide)]
    simp only[c2,Bool.false_eq_true,if_false]
 ·have hn:b=len s\/ ¬(A2 s b=101\/A2 s b=69):=by
   by_cases h:b=len s
   ·exact .inl h
   ·exact .inr λ h2=>c1 (e1.2 ⟨by omega,h2⟩)
  have hp:DW s b=(0,[],b):=by unfold DW;rw[if_pos hn]
  rw[if_neg c1,LP (by simpa using c1)]
  unfold EW IB
  rw[hp]
  dsimp only
  by_cases c3:b<len s
  ·rw[if_pos c3,if_pos (.inl c3)]
  ·rw[if_neg c3,if_neg (show ¬(b<len s\/((0:Int)≠0/\([]:A1)=[]))from by rintro(h|h);exact c3 h;exact h.1 rfl)]
   simp only[show AU []=[]from rfl,len_nil,show ¬((6:Int)<0)from by decide,if_false,show D0 []=0 from rfl,Int.mul_zero]
theorem qF{s:A1}{a:Int}(ha:AW s [45] 0=a):BQ s=
 if 1<len (Eng.sub s a (AG s a))/\A2 (Eng.sub s a (AG s a)) 0=48 then(B2,a+1,1)
 else if Eng.sub s a (AG s a)=[]then(B2,AG s a,1)
 else if BO s [46] (AG s a)then
  if Eng.sub s (AW s [46] (AG s a)) (AG s (AW s [46] (AG s a)))=[]then(B2,AG s (AW s [46] (AG s a)),1)
  else G0 s (BO s [45] 0) (Eng.sub s a (AG s a)++Eng.sub s (AW s [46] (AG s a)) (AG s (AW s [46] (AG s a)))) (-(len (Eng.sub s (AW s [46] (AG s a)) (AG s (AW s [46] (AG s a)))))) (AG s (AW s [46] (AG s a)))
 else G0 s (BO s [45] 0) (Eng.sub s a (AG s a)) 0 (AW s [46] (AG s a)):=by subst ha;rfl
theorem WJ{s:A1}{a b:Int}(hw:HV s=(a,b,true)):PL s=
  if b<len s/\A2 s b=46 then
   if AG s (b+1)=b+1 then(B2,AG s (b+1),1)
   else EW s (Eng.sub s a b++Eng.sub s (b+1) (AG s (b+1))) (b+1-AG s (b+1)) (AG s (b+1))
  else EW s (Eng.sub s a b) 0 b:=by
 unfold PL;rw[hw];simp only[Bool.true_eq_false,if_false]
theorem cN{s:A1}{a b:Int}{neg:Bool}(hneg:neg=(A2 s 0==45))(h0:0<=a)(h1:a<=b)(h2:b<=len s):
  (if BO s [46] b then
   if Eng.sub s (AW s [46] b) (AG s (AW s [46] b))=[]then(B2,AG s (AW s [46] b),1)
   else G0 s neg (Eng.sub s a b++Eng.sub s (AW s [46] b) (AG s (AW s [46] b))) (-(len (Eng.sub s (AW s [46] b) (AG s (AW s [46] b))))) (AG s (AW s [46] b))
  else G0 s neg (Eng.sub s a b) 0 (AW s [46] b))=
  if b<len s/\A2 s b=46 then
   if AG s (b+1)=b+1 then(B2,AG s (b+1),1)
   else EW s (Eng.sub s a b++Eng.sub s (b+1) (AG s (b+1))) (b+1-AG s (b+1)) (AG s (b+1))
  else EW s (Eng.sub s a b) 0 b:=by
 have h46:= @SN s 46 b
 simp only[show((46:UInt8).toNat:Int)=46 from rfl]at h46
 by_cases c3:BO s [46] b=true
 ·have c3':=h46.1 c3
  rw[if_pos c3,if_pos c3',P4 c3]
  have hb2:=IA s (b+1) (by omega) (by omega)
  have hnil2:=cL (s:=s) (i:=b+1) (j:=AG s (b+1)) (by omega) hb2.1 hb2.2
  by_cases c4:AG s (b+1)=b+1
  ·rw[if_pos c4,if_pos (hnil2.2 c4)]
  ·rw[if_neg c4,if_neg (λ h=>c4 (hnil2.1 h))]
   rw[cM hneg (by omega) hb2.2,H5 (by omega) hb2.1 hb2.2]
   congr 1;omega
 ·rw[if_neg c3,if_neg (λ h=>c3 (h46.2 h)),LP (by simpa using c3)]
  rw[cM hneg (by omega) (by omega)]
theorem qG(s:A1):PL s=BQ s:=by
 have h45:= @SN s 45 0
 simp only[show((45:UInt8).toNat:Int)=45 from rfl]at h45
 have hl:=AA s
 have hneg:BO s [45] 0=(A2 s 0==45):=by
  rw[Bool.eq_iff_iff,h45,beq_iff_eq]
  refine⟨λ h=>h.2,λ h=>⟨?_,h⟩⟩
  rcases Int.lt_or_le 0 (len s)with h2|h2
  ·exact h2
  ·have:s=[]:=by cases s with|nil=>rfl|cons a l=>rw[AL]at h2;have:=AA l;omega
   subst this;revert h;decide
 have ha:(if 0<len s/\A2 s 0=45 then(1:Int)else 0)=AW s [45] 0:=by
  unfold AW
  by_cases c:BO s [45] 0=true
  ·rw[if_pos c,if_pos (h45.1 c)];rfl
  ·rw[if_neg c,if_neg (λ h=>c (h45.2 h))]
 have hab:=KQ s [45] 0 hl
 generalize hA:AW s [45] 0=a at*
 have hw:HV s=if AG s a=a then(a,a,false)else if A2 s a=48 then(a,a+1,true)else(a,AG s a,true):=by unfold HV;simp only[ha]
 have hb:=IA s a hab.1 hab.2
 have hnil:=cL hab.1 hb.1 hb.2
 have hfl:=H5 hab.1 hb.1 hb.2
 rw[qF hA]
 by_cases c0:AG s a=a
 ·rw[if_pos c0]at hw
  have hs:=hnil.2 c0
  rw[hs,if_neg (by rw[len_nil];omega),if_pos U,c0]
  unfold PL;rw[hw];rfl
 ·rw[if_neg c0]at hw
  have hs: ¬Eng.sub s a (AG s a)=[]:=λ h=>c0 (hnil.1 h)
  have hb0:A2 (Eng.sub s a (AG s a)) 0=A2 s a:=by rw[SO hab.1 (by omega) (by omega) hb.2,Int.add_zero]
  by_cases c1:A2 s a=48
  ·rw[if_pos c1]at hw
   by_cases c2:1<len (Eng.sub s a (AG s a))
   ·have hfig:= @aY s a (a+1) hab.1 (by omega) (by omega)
    unfold C9 at hfig
    simp only[Bool.and_eq_true,decide_eq_true_eq]at hfig
    have hp:DW s (a+1)=(0,[],a+1):=by unfold DW;rw[if_pos (.inr (by omega))]
    rw[if_pos ⟨c2,by rw[hb0,c1]⟩,WJ hw,if_neg (by omega)]
    unfold EW;rw[hp];dsimp only
    rw[if_pos (.inl (by omega))]
   ·have he:AG s a=a+1:=by omega
    rw[he]at c2 hs hb
    rw[he,if_neg (λ h=>c2 h.1),if_neg hs,cN hneg hab.1 (by omega) (by omega),WJ hw]
  ·rw[if_neg c1]at hw
   rw[if_neg (λ h=>c1 (by rw[<-hb0];exact h.2)),if_neg hs,cN hneg hab.1 (by omega) (by omega),WJ hw]
theorem qH{s:A1}{i:Int}(h0:0<=i)(h1:i<=len s):(-1<=(DW s i).1/\(DW s i).1<=1)/\(0<=len (DW s i).2.1/\len (DW s i).2.1<=len s)/\(i<=(DW s i).2.2/\(DW s i).2.2<=len s)/\ ∀b∈(DW s i).2.1,DD b=true:=by
 unfold DW
 split
 ·refine⟨by dsimp only;omega,⟨Int.le_refl _,AA s⟩,by dsimp only;omega,by intro b hb;cases hb⟩
 ·rename_i hn
  have hlt:i<len s:=by
   rcases Int.lt_or_le i (len s)with h|h
   ·exact h
   ·exact absurd (.inl (by omega)) hn
  split
  ·rename_i h2
   have hr:=IA s (i+1+1) (by omega) (by omega)
   refine⟨by dsimp only;split<;>omega,P3 _ _ _,by dsimp only;omega,P5 (by omega)⟩
  ·have hr:=IA s (i+1) (by omega) (by omega)
   refine⟨by dsimp only;omega,P3 _ _ _,by dsimp only;omega,P5 (by omega)⟩
theorem qI(s:A1):0<=(HV s).1/\(HV s).1<=len s/\(HV s).1<=(HV s).2.1/\(HV s).2.1<=len s/\((HV s).2.2=true->0<len s):=by
 have hl:=AA s
 have key: ∀a:Int,0<=a->a<=len s->(let w:=if AG s a=a then(a,a,false)else if A2 s a=48 then(a,a+1,true)else(a,AG s a,true);0<=w.1/\w.1<=len s/\w.1<=w.2.1/\w.2.1<=len s/\(w.2.2=true->0<len s)):=by
  intro a h0 h1
  have hr:=IA s a h0 h1
  dsimp only
  split
  ·exact⟨h0,h1,Int.le_refl _,h1,λ h=>by cases h⟩
  ·split
   ·refine⟨h0,h1,?_,?_,λ _=>?_⟩<;>(try dsimp only)<;>omega
   ·refine⟨h0,h1,?_,?_,λ _=>?_⟩<;>(try dsimp only)<;>omega
 unfold HV
 exact key _ (by split<;>omega) (by split<;>omega)
theorem qJ(s:A1):0<=(BQ s).2.1/\(BQ s).2.1<=len s/\((BQ s).2.2=0\/(BQ s).2.2=1\/(BQ s).2.2=2\/(BQ s).2.2=4):=by
 have hmk: ∀(neg:Bool) (fg:A1) (x:Int),(E5 neg fg x).2=0\/(E5 neg fg x).2=2\/(E5 neg fg x).2=4:=by
  intro neg fg x;unfold E5;(repeat' split)<;>simp
 have hw:=qI s
 have hl:=AA s
 have hx: ∀(fg:A1) (e i:Int),0<=i->i<=len s->0<=(EW s fg e i).2.1/\(EW s fg e i).2.1<=len s/\((EW s fg e i).2.2=0\/(EW s fg e i).2.2=1\/(EW s fg e i).2.2=2\/(EW s fg e i).2.2=4):=by
  intro fg e i h0 h1
  have hp:=qH h0 h1
  unfold EW
  dsimp only
  split
  ·exact⟨by dsimp only;omega,by dsimp only;omega,.inr (.inl U)⟩
  ·split
   ·exact⟨Int.le_refl _,hl,.inr (.inr (.inl U))⟩
   ·refine⟨Int.le_refl _,hl,?_⟩
    dsimp only
    have:=hmk (A2 s 0==45) fg (e+(DW s i).1*D0 (AU (DW s i).2.1))
    rcases this with h|h|h<;>rw[h]<;>simp
 rw[<-qG]
 unfold PL
 dsimp only
 split
 ·exact⟨by dsimp only;omega,by dsimp only;omega,.inr (.inl U)⟩
 ·split
  ·rename_i h2
   have hr:=IA s ((HV s).2.1+1) (by omega) (by omega)
   split
   ·exact⟨by dsimp only;omega,by dsimp only;omega,.inr (.inl U)⟩
   ·exact hx _ _ _ (by omega) (by omega)
  ·exact hx _ _ _ (by omega) (by omega)
def WK(e:Int×Int):A1×Int:=if e.2=0 then([],0)else(toStr (Lib.encodeRuneZ e.1),e.2)
def NX(s:A1)(i:Int):A1×Int:=if A2 s i=92 then WK (BD (A3 s i))else(Eng.sub s i (i+rune s i),rune s i)
def PM(f:Nat)(s:A1)(i:Int)(o:A1):Prop:= ∃acc,o=toStr acc/\DE f s i acc=AQ s
theorem WL(a b:List Int):toStr (a++b)=toStr a++toStr b:=List.map_append
theorem JZ{s:A1}{i:Int}(h0:0<=i)(h1:i<len s){c:Int}(hc:c<128):AM s i=c↔A2 s i=c:=by
 rcases NL h0 h1 with⟨_,h2,_,h3⟩|⟨_,_,_,_,h2,h3⟩<;>omega
theorem cO{s:A1}{i:Int}(h0:0<=i)(h1:i<len s){c:Int}(hc:c<=128):AM s i<c↔A2 s i<c:=by
 rcases NL h0 h1 with⟨_,h2,_,h3⟩|⟨_,_,_,_,h2,h3⟩<;>omega
theorem cP{s:A1}{i:Int}(h0:0<=i)(h1:i<len s):rune s i=0↔(AM s i=65533/\runeLen s i=1):=by
 rcases NL h0 h1 with⟨h2,h3,h4,_⟩|⟨h2,h3,h4,_,_⟩
 ·exact⟨λ _=>⟨h3,h4⟩,λ _=>h2⟩
 ·exact⟨λ h=>by omega,λ h=>absurd h h4⟩
theorem PM.bad {f:Nat}{s o:A1}{i:Int}(h:PM f s i o)(hf:(len s-i).toNat<=f)(h0:0<=i)(h1:i<len s)(h2: ¬A2 s i=34)(h3:(NX s i).2=0\/A2 s i<32):AQ s=([],i,1):=by
 obtain⟨acc,rfl,h⟩:=h
 rw[<-h,KR hf h1,bM s i h0,S9 s i h0,if_neg (by rw[JZ h0 h1 (by decide)];exact h2)]
 unfold NX WK at h3
 by_cases h4:A2 s i=92
 ·rw[if_pos (by rw[JZ h0 h1 (by decide)];exact h4)]
  rw[if_pos h4]at h3
  have:(BD (A3 s i)).2=0:=by
   rcases h3 with h3|h3
   ·split at h3
    ·assumption
    ·exact h3
   ·omega
  rw[if_pos this]
 ·rw[if_neg (by rw[JZ h0 h1 (by decide)];exact h4)]
  rw[if_neg h4]at h3
  dsimp only at h3
  rw[if_pos]
  rcases h3 with h3|h3
  ·exact .inr ((cP h0 h1).1 h3)
  ·exact .inl ((cO h0 h1 (by decide)).2 h3)
theorem PM.step {f:Nat}{s o:A1}{i:Int}(h:PM f s i o)(hf:(len s-i).toNat<=f)(h0:0<=i)(h1:i<len s)(h2: ¬A2 s i=34)(h3: ¬((NX s i).2=0\/A2 s i<32)):
  PM (f-1) s (i+(NX s i).2) (o++(NX s i).1):=by
 obtain⟨acc,rfl,h⟩:=h
 rw[KR hf h1,bM s i h0,S9 s i h0,if_neg (by rw[JZ h0 h1 (by decide)];exact h2)]at h
 unfold NX WK at*
 by_cases h4:A2 s i=92
 ·rw[if_pos (by rw[JZ h0 h1 (by decide)];exact h4)]at h
  rw[if_pos h4]at h3 ⊢
  by_cases h5:(BD (A3 s i)).2=0
  ·rw[if_pos h5]at h3;exact absurd (.inl U) h3
  ·rw[if_neg h5]at h ⊢
   exact⟨_,(WL _ _).symm,h⟩
 ·rw[if_neg (by rw[JZ h0 h1 (by decide)];exact h4)]at h
  rw[if_neg h4]at h3 ⊢
  dsimp only at h3 ⊢
  rw[if_neg]at h
  ·rcases NL h0 h1 with⟨h5,_⟩|⟨_,h5,_,h6,_⟩
   ·exact absurd (.inl h5) h3
   ·rw[h5]at h
    exact⟨_,by rw[WL,h6],h⟩
  ·rintro(h5|h5)
   ·exact h3 (.inr ((cO h0 h1 (by decide)).1 h5))
   ·exact h3 (.inl ((cP h0 h1).2 h5))
def cQ:A1:=[34,92,47,98,102,110,114,116]
def WM(c k:Int):Prop:= ∀j:Int,0<=j->j<k->c≠A2 cQ j
theorem WM.step {c k:Int}(h:WM c k)(h2: ¬c=A2 cQ k):WM c (k+1):=by
 intro j h3 h4
 by_cases h5:j=k
 ·subst h5;exact h2
 ·exact h j h3 (by omega)
def EX(c:Int):Int:=if 48<=c/\c<=57 then c-48 else if 97<=c/\c<=102 then c-87 else if 65<=c/\c<=70 then c-55 else-1
theorem WN(b:UInt8):J9 b=EX (b.toNat:Int):=by unfold J9 EX;(repeat' split)<;>omega
theorem qK{s:A1}{i k:Int}(h:0<=i)(h0:i<=k)(h1:k<len s): ∃b,Eng.sub s i (k+1)=Eng.sub s i k++[b]/\(b.toNat:Int)=A2 s k:=by
 have h2:k.toNat<s.length:=by unfold len at h1;omega
 refine⟨s[k.toNat],?_,by simp[A2,h2]⟩
 unfold Eng.sub
 have h3:k.toNat-i.toNat<(s.drop i.toNat).length:=by rw[List.length_drop];omega
 rw[show(k+1).toNat-i.toNat=(k.toNat-i.toNat)+1 from by omega,List.take_succ_eq_append_getElem h3,List.getElem_drop]
 congr 3;omega
theorem cS{s:A1}{i k:Int}(h:0<=i)(h0:i<=k)(h1:k<len s)(h2:EA (Eng.sub s i k)=true)(h3:0<=EX (A2 s k)):
  EA (Eng.sub s i (k+1))=true/\FJ (Eng.sub s i (k+1))=FJ (Eng.sub s i k)*16+EX (A2 s k):=by
 obtain⟨b,h4,h5⟩:=qK h h0 h1
 rw[h4,<-h5,<-WN]
 rw[<-h5,<-WN]at h3
 unfold EA FJ at*
 rw[List.all_append,h2,List.foldl_append]
 simp[h3]
theorem cT{s:A1}{i k j:Int}(h:0<=i)(h0:i<=k)(h1:k<j)(h2:j<=len s)(h3:EX (A2 s k)<0):EA (Eng.sub s i j)=false:=by
 unfold EA
 rw[List.all_eq_false]
 have hk:k.toNat<s.length:=by unfold len at h2;omega
 refine⟨s[k.toNat],?_,?_⟩
 ·unfold Eng.sub
  rw[List.mem_take_iff_getElem]
  refine⟨k.toNat-i.toNat,by rw[List.length_drop];omega,?_⟩
  rw[List.getElem_drop];congr 1;omega
 ·rw[WN]
  have:((s[k.toNat]).toNat:Int)=A2 s k:=by simp[A2,hk]
  rw[this];simp;omega
theorem qL{l:A1}(h:EA l=true)(hl:len l<=3):0<=FJ l/\FJ l<=4095:=by
 unfold EA at h
 have:=S2 l 0 (by simpa[List.all_eq_true]using h) (by omega)
 have h2:(16:Int)^l.length<=16^3:=by
  have:(16:Nat)^l.length<=16^3:=Nat.pow_le_pow_right (by omega) (by unfold len at hl;omega)
  exact_mod_cast this
 unfold FJ;omega
theorem qM{r:Int}(h:128<=r): ∀b∈toStr (Lib.encodeRuneZ r),128<=b.toNat:=by
 have key: ∀x∈Lib.encodeRuneZ r,128<=x:=by
  intro x hx
  unfold Lib.encodeRuneZ at hx
  (repeat' split at hx)<;>simp at hx<;>omega
 intro b hb
 unfold toStr at hb
 obtain⟨x,hx,rfl⟩:=List.mem_map.1 hb
 have h1:=key x hx
 have h2:=Lib.encodeRuneZ_byte r x hx
 simp;omega
theorem cU{α:Type}(s:List α)(i j:Int)(h0:0<=i)(h1:i<=j):A3 s i=Eng.sub s i j++A3 s j:=by
 unfold A3 Eng.sub
 have:s.drop j.toNat=(s.drop i.toNat).drop (j.toNat-i.toNat):=by rw[List.drop_drop];congr 1;omega
 rw[this,List.take_append_drop]
end Go.Eng
namespace Go.Eng
open Go.RowKit
theorem cV{t:A1}{i:Int}(h0:0<=i):IY t i=true↔ ¬t=[]/\ ∀j:Int,i<=j->j<len t->BN (A2 t j) (j==0)=true:=by
 by_cases hlt:i<len t
 ·have hc:(GD (A2 t i)||i != 0&&C9 (A2 t i))=BN (A2 t i) (i==0):=rfl
  by_cases hw:BN (A2 t i) (i==0)=true
  ·rw[<-kF t i h0 hlt (by rw[hc];exact hw),cV (i:=i+1) (by omega)]
   refine and_congr_right λ _=>⟨λ h j h1 h2=>?_,λ h j h1 h2=>h j (by omega) h2⟩
   by_cases e:j=i
   ·subst e;exact hw
   ·exact h j (by omega) h2
  ·rw[kG t i h0 hlt (by rw[hc];exact hw)]
   exact⟨λ h=>(by cases h),λ h=>absurd (h.2 i (Int.le_refl _) hlt) hw⟩
 ·rw[kH t i hlt,bne_iff_ne]
  exact Iff.intro (λ h=>And.intro h (λ j h1 h2=>by omega)) (λ h=>h.1)
termination_by (len t-i).toNat
theorem cW{t:A1}:MT t=true↔ ¬t=[]/\ ∀j:Int,0<=j->j<len t->BN (A2 t j) (j==0)=true:=cV (Int.le_refl 0)
def NY(s:A1)(i k:Int):Prop:= ∀j:Int,0<=j->j<k-i->BN (A2 s (i+j)) (j==0)=true
theorem NY.start (s:A1)(i:Int):NY s i i:=λ j h0 h1=>by omega
theorem qN{s:A1}{i k:Int}(h0:0<=i)(h1:i<=k)(h2:k<len s)(ha:NY s i k):MT (Eng.sub s i (k+1))=BN (A2 s k) (k-i==0):=by
 have hl:=H5 (s:=s) (i:=i) (j:=k+1) h0 (by omega) (by omega)
 rw[Bool.eq_iff_iff,cW]
 constructor
 ·rintro⟨_,h⟩
  have:=h (k-i) (by omega) (by omega)
  rw[SO h0 (by omega) (by omega) (by omega),show i+(k-i)=k from by omega]at this
  exact this
 ·intro h
  refine⟨λ e=>by rw[e,len_nil]at hl;omega,λ j h3 h4=>?_⟩
  rw[SO h0 h3 (by omega) (by omega)]
  by_cases e:j=k-i
  ·subst e;rw[show i+(k-i)=k from by omega];exact h
  ·exact ha j h3 (by omega)
theorem NY.step {s:A1}{i k:Int}(h0:0<=i)(h1:i<=k)(h2:k<len s)(ha:NY s i k)(h:MT (Eng.sub s i (k+1))=true):NY s i (k+1):=by
 rw[qN h0 h1 h2 ha]at h
 intro j h3 h4
 by_cases e:j=k-i
 ·subst e;rw[show i+(k-i)=k from by omega];exact h
 ·exact ha j h3 (by omega)
theorem qO: ∀n:Fin 256,JR (UInt8.ofNat n.val)=decide ((48<=n.val/\n.val<=57)\/n.val=43\/n.val=45\/n.val=46\/n.val=101\/n.val=69):=by decide+kernel
theorem qP(b:UInt8):JR b=true↔(48<=b.toNat/\b.toNat<=57)\/b.toNat=43\/b.toNat=45\/b.toNat=46\/b.toNat=101\/b.toNat=69:=by
 have:=qO ⟨b.toNat,b.toNat_lt⟩
 simp only[UInt8.ofNat_toNat]at this
 rw[this,decide_eq_true_eq]
theorem cX{s:A1}{i:Int}{t:A1}(h0:0<=i)(h1:i<=len s):S5 s i t=Lib.hasPrefix (A3 s i) t:=by
 have hl:=DK s i h0 h1
 have ht:=AA t
 rw[<-Lib.hasPrefix_of_take]
 unfold S5
 have e:Eng.sub s i (i+len t)=(A3 s i).take t.length:=by
  unfold Eng.sub A3;congr 1;unfold len;omega
 rw[e]
 congr 1
 rw[Bool.eq_iff_iff,decide_eq_true_eq,decide_eq_true_eq]
 unfold len at*;omega
def HW(s:A1)(i k:Int):Prop:=(Eng.sub AB 0 k).find? (λ m=>Lib.hasPrefix (A3 s i) m)=none
theorem HW.start (s:A1)(i:Int):HW s i 0:=rfl
theorem HW.step {s:A1}{i k:Int}(h:HW s i k)(h0:0<=i)(h1:i<=len s)(hk0:0<=k)(hk1:k<17)(h2:S5 s i (at' AB k)=false):HW s i (k+1):=by
 unfold HW at*
 rw[sub_succ AB k hk0 hk1,List.find?_append,h]
 rw[cX h0 h1]at h2
 rw[Option.none_or,List.find?_cons,show AB.getD k.toNat default=at' AB k from rfl,h2];rfl
theorem HW.found {s:A1}{i k:Int}(h:HW s i k)(h0:0<=i)(h1:i<=len s)(hk0:0<=k)(hk1:k<17)(h2:S5 s i (at' AB k)=true):C3 (A3 s i)=at' AB k:=by
 unfold HW at h
 rw[cX h0 h1]at h2
 have e:AB=Eng.sub AB 0 k++A3 AB k:=by
  have:=cU AB 0 k (Int.le_refl _) hk0
  exact this
 have hk:k.toNat<AB.length:=by show k.toNat<17;omega
 have e2:A3 AB k=at' AB k::A3 AB (k+1):=by
  unfold A3 at'
  rw[show(k+1).toNat=k.toNat+1 from by omega,List.drop_eq_getElem_cons hk]
  simp[hk]
 have e3:AB.find? (λ m=>Lib.hasPrefix (A3 s i) m)=some (at' AB k):=by
  conv=>lhs;rw[e]
  rw[List.find?_append,h,e2,List.find?_cons,h2];rfl
 unfold C3;rw[e3];rfl
theorem HW.SP {s:A1}{i k:Int}(h:HW s i k)(hk:17<=k):C3 (A3 s i)=[]:=by
 unfold HW at h
 rw[KD AB k (by show(17:Int)<=k;omega)]at h
 unfold C3;rw[h];rfl
theorem qQ{k:Int}(hk0:0<=k)(hk1:k<17):1<=len (at' AB k)/\len (at' AB k)<=2:=by
 have:k=0\/k=1\/k=2\/k=3\/k=4\/k=5\/k=6\/k=7\/k=8\/k=9\/k=10\/k=11\/k=12\/k=13\/k=14\/k=15\/k=16:=by omega
 rcases this with rfl|rfl|rfl|rfl|rfl|rfl|rfl|rfl|rfl|rfl|rfl|rfl|rfl|rfl|rfl|rfl|rfl<;>decide
section tok
variable {s:A1} {i:Int}
end tok
theorem qR{s:A1}(h1:0<len s)(h:A2 s 0=45\/C9 (A2 s 0)=true):1<=len (runN s):=by
 rw[oJ]
 cases s with
 |nil=>exact absurd h1 (by decide)
 |cons b l=>
  have hb:JR b=true:=by
   rw[qP]
   have e:A2 (b::l) 0=(b.toNat:Int):=rfl
   rw[e]at h
   unfold C9 at h
   simp only[Bool.and_eq_true,decide_eq_true_eq]at h
   omega
  rw[List.takeWhile_cons,hb]
  simp[len];omega
theorem cY{s:A1}(h1:0<len s):0<=(A6 s).2.1/\(A6 s).2.1<=len s/\((A6 s).2.2=0->1<=(A6 s).2.1)/\((A6 s).2.2=0\/(A6 s).2.2=1\/(A6 s).2.2=2\/(A6 s).2.2=4):=by
 have hf:=DK s 1 (by omega) (by omega)
 have hw1:=P8 (A3 s 1)
 have hw0:=P8 s
 have hu1:=LV (A3 s 1)
 have hu0:=LV s
 have hr:=qJ (runN s)
 have hrl:len (runN s)<=len s:=by unfold runN;exact(P3 _ _ _).2
 have hrl0:=AA (runN s)
 unfold A6
 split
 ·exact⟨by dsimp only;omega,by dsimp only;omega,λ _=>by dsimp only;omega,.inl U⟩
 ·split
  ·refine⟨by dsimp only;omega,by dsimp only;omega,λ _=>by dsimp only;omega,?_⟩
   dsimp only;omega
  ·split
   ·rename_i hm
    have hp:len (C3 s)<=len s:=by
     rcases VQ s with h|h
     ·exact absurd h hm
     ·exact SC h.2
    have:=JI hm
    exact⟨by dsimp only;omega,by dsimp only;omega,λ _=>by dsimp only;omega,.inl U⟩
   ·split
    ·rename_i hn
     have:=JI hn
     exact⟨by dsimp only;omega,by dsimp only;omega,λ _=>by dsimp only;omega,.inl U⟩
    ·split
     ·refine⟨by dsimp only;omega,by dsimp only;omega,λ h=>by dsimp only at h ⊢;omega,?_⟩
      dsimp only;omega
     ·split
      ·rename_i hd
       have hp:=qR h1 hd
       split
       ·rename_i he
        exact⟨by dsimp only;omega,by dsimp only;omega,λ h=>absurd h he,by dsimp only;omega⟩
       ·exact⟨by dsimp only;omega,by dsimp only;omega,λ h=>by dsimp only;omega,.inl U⟩
      ·exact⟨Int.le_refl _,by dsimp only;omega,λ h=>absurd h (by decide),.inr (.inl U)⟩
def WO(t:Tk):Prop:=len t.s<=1048576/\len t.c.s<=1048576/\(t.kind=5-> -1000000<=t.c.e/\t.c.e<=1000000)
theorem qS(r:Int):0<=len (IE r)/\len (IE r)<=6:=by
 have:=Lib.encodeRuneZ_length r
 unfold IE
 split
 ·simp only[AL,len_nil];omega
 ·split
  ·simp only[AL,len_nil];omega
  ·unfold Lib.encodeRune len;rw[List.length_map];omega
theorem cZ(s:A1)(i:Int)(h0:0<=i)(h1:i<=len s):len (IF s i)<=6*(len s-i):=by
 by_cases h:i<len s
 ·have hb:=SB h0 h
  have ih:=cZ s (i+runeLen s i) (by omega) (by omega)
  have:=qS (AM s i)
  rw[S3 h0 h,AJ];omega
 ·rw[bH h,len_nil];omega
termination_by (len s-i).toNat
decreasing_by have hb:=SB h0 h;omega
theorem dA(s:A1):2<=len (AH s)/\len (AH s)<=6*len s+2:=by
 have:=cZ s 0 (Int.le_refl 0) (AA s)
 have h0:=AA (IF s 0)
 unfold AH
 rw[AJ,AL,AL,len_nil];omega
end Go.Eng
