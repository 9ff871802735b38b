/-
  Parts Pb P1 On Refs, put together and made short by wip/py/merge.py (mini.py).
-/
import Derived.Test.YtmjpjbmeamnfpaaGreatDoorZe12
import Derived.Test.YtmjpjbmeamnfpaaGreatDoorZe9
import Derived.Test.YtmjpjbmeamnfpaaGreatDoorZe4
import Derived.Laws.BitsLemmas
import Derived.Test.YtmjpjbmeamnfpaaGreatDoorZe3
import Derived.Test.YtmjpjbmeamnfpaaGreatDoorProg
import Derived.Tactics
import Derived.Tactics2
import Derived.Defers
import Derived.Laws.Pointers
import Derived.Laws.LoneSync
import Derived.RegionTactic
import Derived.RegionCalls
import Derived.ChangeAlike
import Derived.Test.YtmjpjbmeamnfpaaGreatDoorZe10
import Derived.Test.YtmjpjbmeamnfpaaGreatDoorZe0
set_option linter.unusedVariables false
set_option linter.unusedSimpArgs false
namespace Go.Eng
structure C6 (l:List Tk):Prop where
 last: ∀i,0<=i->i<len l->(at' l i).kind≠6->i+1<len l
 HE: ∀t∈l,t.kind=5-> ∀b∈t.c.s,DP b=true
 num: ∀t∈l,t.kind=5->len t.c.s<=1048576/\t.c.e<=1000000000
 bd: ∀t∈l,len t.s<=1048576
 few:len l<=1048576
theorem BA{α β:Type}{r:PR α}{k:α->Int->PR β}{y:β}{m:Int}(h:r.bind k= .ok y m): ∃x j,r= .ok x j/\k x j= .ok y m:=by
 cases r with
 |er c p=>cases h
 |ok x j=>exact⟨x,j,rfl,h⟩
theorem CO{α:Type}{l:List Tk}{i e:Int}{x:α}{j:Int}(h:B8 l i e= .ok x j):False:=by cases h
section
variable {l:List Tk} (hl:C6 l) {i:Int} (h0:0<=i) (h1:i<len l)
include hl h0 h1
theorem DW{m:A1}(h:A9 l i m=true):i+1<len l:=hl.last i h0 h1 λ e=>by
 unfold A9 at h;rw[e]at h;simp at h
theorem EZ{k:Int}(h:(at' l i).kind=k)(hk:k≠6):i+1<len l:=hl.last i h0 h1 λ e=>hk (by rw[<-h,e])
theorem DS{m:A1}{u:Unit}{j:Int}(h:AR l i m= .ok u j):j=i+1/\j<len l/\A9 l i m=true:=by
 unfold AR at h
 split at h
 ·rename_i hm;cases h;exact⟨rfl,DW hl h0 h1 hm,hm⟩
 ·exact(CO h).elim
theorem E6{d:Int}{m:A1}{u:Unit}{j:Int}(h:C9 l d i m= .ok u j):j=i+1/\j<len l/\d<64/\A9 l i m=true:=by
 unfold C9 at h
 split at h
 ·exact(CO h).elim
 ·rename_i hd
  obtain⟨h2,h3,h4⟩:=DS hl h0 h1 h
  refine⟨h2,h3,?_,h4⟩
  rw[h4]at hd;simp at hd;exact hd
theorem R7{x:Int}{j:Int}(h:DU l i= .ok x j):j=i+1/\j<len l/\x<=1000000/\(at' l i).kind=5:=by
 unfold DU at h
 split at h
 ·exact(CO h).elim
 ·rename_i hc
  split at h
  ·exact(CO h).elim
  ·cases h
   have h5:(at' l i).kind=5:=Decidable.byContradiction λ e=>hc (.inl e)
   exact⟨rfl,EZ hl h0 h1 h5 (by decide),by omega,h5⟩
structure H7 (l:List Tk) (i:Int) (x:Tf) (j:Int):Prop where
 lt:i<j
 le:j<len l
 pipe:H6 x
 name:x.t.name=[]
 size:len x.flat<=4*(j-i)
structure UG (xs:List Tf) (i i0:Int):Prop where
 pipe: ∀x∈xs,H6 x/\x.t.name=[]
 size:len (AL xs)+len xs<=4*(i-i0)+1
omit hl h0 h1 in
theorem fF(xs:List Tf)(x:Tf):len (AL (xs++[x]))=len (AL xs)+len x.flat:=by
 rw[HR,AG];show _+len (x.flat++[])=_;rw[List.append_nil]
omit hl h0 h1 in
theorem UG.snoc {xs:List Tf}{i0 j:Int}{x:Tf}(h:UG xs i i0)(hx:H6 x)(hn:x.t.name=[])(hs:len x.flat+1<=4*(j-i)):UG (xs++[x]) j i0:=
 ⟨λ y hy=>by
  rcases List.mem_append.1 hy with hy|hy
  ·exact h.pipe y hy
  ·rw[List.mem_singleton]at hy;subst hy;exact⟨hx,hn⟩,by rw[fF,AG];have:=h.size;show _+(len xs+1)<=_;omega⟩
def J5(xs:List Sp):Prop:=len xs<=20/\ ∀s∈xs,len s.name<=1048576/\(s.part=true->0<=s.n/\s.n<=1000000)
omit hl h0 h1 in
theorem fG{l:List Tk}(hl:C6 l){i:Int}(h0:0<=i)(h1:i<len l)(h5:(at' l i).kind=5):0<=GI (at' l i):=by
 have h2:=hl.HE _ (at_mem h0 h1) h5
 have key: ∀(s:A1) (n:Int),(∀b∈s,DP b=true)->0<=n->0<=s.foldl (λ n c=>10*n+((c.toNat:Int)-48)) n:=by
  intro s
  induction s with
  |nil=>intro n _ h;exact h
  |cons a s ih=>
   intro n h hn
   have ha:=h a (by simp)
   unfold DP C7 at ha
   simp only[Bool.and_eq_true,decide_eq_true_eq]at ha
   exact ih _ (λ b hb=>h b (by simp[hb])) (show(0:Int)<=10*n+((a.toNat:Int)-48) by omega)
 unfold GI U7
 refine key _ 0 (λ b hb=>?_) (by omega)
 rcases List.mem_append.1 hb with hb|hb
 ·exact h2 b hb
 ·rw[(List.mem_replicate.1 hb).2];decide
omit hl h0 h1 in
theorem sX{l:List Tk}(hl:C6 l){i:Int}(h0:0<=i)(h1:i<len l){n j:Int}(h2:DU l i= .ok n j):0<=n:=by
 have h7:=(R7 hl h0 h1 h2).2.2.2
 unfold DU at h2
 split at h2
 ·exact(CO h2).elim
 ·split at h2
  ·exact(CO h2).elim
  ·cases h2;exact fG hl h0 h1 h7
omit h0 h1 in
theorem P2{dot:Bool}: ∀(f:Nat) (xs:List Sp) (i:Int) {ys:List Sp} {j:Int},0<=i->i<len l->J5 xs->DQ dot f l xs i= .ok ys j->i<=j/\j<len l/\J5 ys
 |0,xs,i,ys,j,_,_,_,h=>(CO h).elim
 |f+1,xs,i,ys,j,h0,h1,hg,h=>by
  unfold DQ at h
  split at h
  ·rename_i hc
   split at h
   ·exact(CO h).elim
   ·rename_i h20
    have h21:len xs<20:=by have:=hg.1;omega
    split at h
    ·rename_i hk
     have h4:=EZ hl h0 h1 hk (by decide)
     obtain⟨n,k,h2,h3⟩:=BA h
     obtain⟨rfl,h5,h6,h7⟩:=R7 hl (by omega) h4 h2
     obtain⟨u,m,h8,h9⟩:=BA h3
     obtain⟨rfl,h10,_⟩:=DS hl (by omega) h5 h8
     have hn:0<=n:=by
      unfold DU at h2
      split at h2
      ·exact(CO h2).elim
      ·split at h2
       ·exact(CO h2).elim
       ·cases h2;exact fG hl (by omega) h4 h7
     obtain⟨k1,k2,k3⟩:=P2 f _ _ (by omega) h10 ⟨by rw[AG];show len xs+1<=20;omega,λ s hs=>by
      rcases List.mem_append.1 hs with hs|hs
      ·exact hg.2 s hs
      ·rw[List.mem_singleton]at hs;subst hs;exact⟨(by show len ([]:A1)<=1048576;decide),λ _=>⟨hn,h6⟩⟩⟩ h9
     exact⟨by omega,k2,k3⟩
    ·rename_i hk
     have h4:i+1<len l:=by
      rcases hc with hm|⟨hm,_⟩
      ·exact DW hl h0 h1 hm
      ·exact EZ hl h0 h1 hm (by decide)
     obtain⟨k1,k2,k3⟩:=P2 f _ _ (by omega) h4 ⟨by rw[AG];show len xs+1<=20;omega,λ s hs=>by
      rcases List.mem_append.1 hs with hs|hs
      ·exact hg.2 s hs
      ·rw[List.mem_singleton]at hs;subst hs;exact⟨hl.bd _ (at_mem h0 h1),λ e=>by cases e⟩⟩ h
     exact⟨by omega,k2,k3⟩
  ·cases h;exact⟨Int.le_refl _,h1,hg⟩
omit hl h0 h1 in
theorem J5.nil:J5 []:=⟨by decide,λ s hs=>by cases hs⟩
theorem fH{q:A1->A1}{s:A1}{j:Int}(h:GJ q l i= .ok s j):i<=j/\j<len l:=by
 unfold GJ at h
 split at h
 ·rename_i hm
  have h2:=DW hl h0 h1 hm
  obtain⟨xs,k,h3,h4⟩:=BA h
  cases h4
  obtain⟨k1,k2,_⟩:=P2 hl _ _ _ (by omega) h2 .nil h3
  exact⟨by omega,k2⟩
 ·split at h
  ·exact(CO h).elim
  ·obtain⟨xs,k,h3,h4⟩:=BA h
   cases h4
   obtain⟨k1,k2,_⟩:=P2 hl _ _ _ h0 h1 .nil h3
   exact⟨k1,k2⟩
theorem fI{c:Nd}{j:Int}(h:D0 l i= .ok c j):j=i+1/\j<len l:=by
 unfold D0 at h
 split at h
 ·rename_i hk;cases h;exact⟨rfl,EZ hl h0 h1 hk (by decide)⟩
 ·split at h
  ·rename_i hk;cases h;exact⟨rfl,EZ hl h0 h1 hk (by decide)⟩
  ·split at h
   ·rename_i hk;cases h;exact⟨rfl,EZ hl h0 h1 hk.1 (by decide)⟩
   ·exact(CO h).elim
end
section
variable {l:List Tk} (hl:C6 l) (q:A1->A1)
structure R8 (xs:List Tf) (i i0:Int):Prop where
 size:len (AL xs)<=4*(i-i0)
theorem R8.snoc {xs:List Tf}{i i0 j:Int}{x:Tf}(h:R8 xs i i0)(hs:len x.flat<=4*(j-i)):R8 (xs++[x]) j i0:=⟨by rw[fF];have:=h.size;omega⟩
structure AM2 (l:List Tk) (q:A1->A1) (f:Nat):Prop where
 fil: ∀d i x j,0<=i->i<len l->LK q f l d i= .ok x j->H7 l i x j
 pip: ∀d xs i i0 x j,0<=i->i<len l->i0<i->xs≠[]->UG xs i i0->ON q f l d xs i= .ok x j->H7 l i0 x j
 pos: ∀d i x j,0<=i->i<len l->LM q f l d i= .ok x j->H7 l i x j
 pri: ∀d i x j,0<=i->i<len l->QT q f l d i= .ok x j->H7 l i x j
 wor: ∀d i x j,0<=i->i<len l->(at' l i).kind=2->QU q f l d i= .ok x j->H7 l i x j
 obs: ∀d xs i i0 x j,0<=i->i<len l->i0<i->R8 xs i (i0+1)->OO q f l d xs i= .ok x j->H7 l i0 x j
 lis: ∀d xs i i0 x j,0<=i->i<len l->i0<i->R8 xs i (i0+1)->OP q f l d xs i= .ok x j->H7 l i0 x j
 eit: ∀d i x j,0<=i->i<len l->OQ q f l d i= .ok x j->H7 l i x j
 eis: ∀d x i i0 y j,0<=i->i<len l->H7 l i0 x i->OR q f l d x i= .ok y j->H7 l i0 y j
 bot: ∀d i x j,0<=i->i<len l->OS q f l d i= .ok x j->H7 l i x j
 bos: ∀d x i i0 y j,0<=i->i<len l->H7 l i0 x i->OT q f l d x i= .ok y j->H7 l i0 y j
 sin: ∀d i x j,0<=i->i<len l->OU q f l d i= .ok x j->H7 l i x j
include hl in
end
theorem sY(s:A1):U7 s=D9 s:=by
 unfold U7 D9
 congr 1
 funext n b
 omega
theorem sZ{l:A1}(h: ∀b∈l,DP b=true)(hl:len l<=7):Lib.atoiAll ([48]++l)= .ok (D9 l)/\0<=D9 l/\D9 l<10000000:=by
 have h1:=XU l 0 h (by omega)
 have h2:(10:Int)^l.length<=10^7:=by
  have:(10:Nat)^l.length<=10^7:=Nat.pow_le_pow_right (by omega) (by unfold len at hl;omega)
  exact_mod_cast this
 have h3:=XW l 0 h (by
  have:(10:Nat)^l.length<=10^7:=Nat.pow_le_pow_right (by omega) (by unfold len at hl;omega)
  omega)
 have h4:0<=D9 l/\D9 l<10000000:=by unfold D9;omega
 refine⟨?_,h4⟩
 show Lib.atoiAll (48::l)=_
 have hm:Lib.parseMag (48::l)= .ok (D9 l).toNat:=by
  unfold Lib.parseMag
  rw[if_neg (by simp),Lib.parseUint10,if_pos (by decide),if_neg (by decide),if_neg (by decide)]
  exact h3
 unfold Lib.atoiAll
 dsimp only
 rw[if_neg (by decide: ¬((48:UInt8).toNat=43\/(48:UInt8).toNat=45)),hm]
 dsimp only
 rw[if_neg (by omega),if_neg (by intro hh;exact absurd hh.1 (by decide)),if_neg (by decide)]
 congr 1;omega
theorem tA{l:List Tk}(hl:C6 l){i:Int}(h0:0<=i)(h1:i<len l)(h5:(at' l i).kind=5)(he:0<=(at' l i).c.e)(hs:len (at' l i).c.s+(at' l i).c.e<=7):
  Lib.atoiAll (([48]++(at' l i).c.s)++List.replicate (at' l i).c.e.toNat 48)= .ok (GI (at' l i))/\0<=GI (at' l i)/\GI (at' l i)<10000000:=by
 unfold GI
 rw[sY,List.append_assoc]
 refine sZ (λ b hb=>?_) (by rw[AG];unfold len at*;rw[List.length_replicate];omega)
 rcases List.mem_append.1 hb with hb|hb
 ·exact hl.HE _ (at_mem h0 h1) h5 b hb
 ·rw[(List.mem_replicate.1 hb).2];decide
end Go.Eng
set_option maxRecDepth 100000
namespace Go.Proofs.YtmjpjbmeamnfpaaGreatDoor
open Go.Eng
theorem tC(r:Int)(f:Bool)(w:World):
  Calls Tryz.prog 108 [(.int .i32 r),(.bool f)].toArray w λ e w'=>e= .returned (.bool (BN r f))/\w'=w:=by
 refine CW.C4 Tryz.func108 U Tryz.ntmps108 (Nat.le_of_ble_eq_true U) λ Q hE=>?_
 refine CW.weaken [0,1] (L':=[Y 0 (.int .i32 r),Y 1 (.bool f)]) ?_ U
 refine CW.sr (RL.u (.assign .c) U (RL.nil (CW.id (CW.sr ?_))))
 refine RL.m U U (RL.u (.geq (.t U) .c) U (RL.m U U (RL.v (.pos U U) (.move (.t U)) U (RL.v (.pos U U) (.leq (.g U (λ h=>h)) .c) U (RL.u (.and (.t U) (.g U (λ h=>h))) U ?_)))))
 refine RL.m U U (RL.v (.neg U U) (.move (.t U)) U (RL.v (.neg U U) (.geq (.g U (λ h=>h)) .c) U (RL.v (.neg U U) (.move (.g U (λ h=>h))) U (RL.v (.GQ U U) (.move (.t U)) U (RL.v (.GQ U U) (.leq (.g U (λ h=>h)) .c) U ?_)))))
 refine RL.v (.neg U U) (.and (.g U (λ h=>h)) (.g U (λ h=>h))) U (RL.u (.or (.t U) (.g U (λ h=>h))) U (RL.m U U (RL.v (.neg U U) (.move (.t U)) U (RL.v (.neg U U) (.eql (.g U (λ h=>h)) .c) U (RL.u (.or (.t U) (.g U (λ h=>h))) U ?_)))))
 refine RL.a U U (RL.nil (CW.id ?_))
 refine CW.sr (RL.m U U (RL.m U U (RL.v (.neg U U) (.move (.t U)) U (RL.v (.neg U U) (.not (.g U (λ h=>h))) U (RL.v (.neg U U) (.move (.g U (λ h=>h))) U (RL.v (.GQ U U) (.move (.t U)) U (RL.v (.GQ U U) (.geq (.g U (λ h=>h)) .c) U (RL.v (.neg U U) (.and (.g U (λ h=>h)) (.g U (λ h=>h))) U (RL.v (.neg U U) (.move (.g U (λ h=>h))) U (RL.v (.GQ U U) (.move (.t U)) U (RL.v (.GQ U U) (.leq (.g U (λ h=>h)) .c) U (RL.v (.neg U U) (.and (.g U (λ h=>h)) (.g U (λ h=>h))) U (RL.u (.or (.t U) (.g U (λ h=>h))) U (RL.a U U (RL.nil (CW.id ?_))))))))))))))))
 refine CW.ret (hE.r1 U U ?_)
 exact⟨by simp only[BN,E4,C7,Bool.and_assoc],rfl⟩
theorem YA(s:A1)(w:World)(hb:len s<=9223372036854775807):
  Calls Tryz.prog 76 [(str s)].toArray w λ e w'=>e= .returned (str (B1 s))/\Ext w w':=by
 refine CW.C4 Tryz.func76 U Tryz.ntmps76 (Nat.le_of_ble_eq_true U) λ Q hE=>?_
 have:=A8 s
 have hS:St w nM w nM []:=St.start ⟨λ _ _ _ h=>by cases h⟩
 refine CW.weaken [0] (L':=[Y 0 (str s)]) ?_ U
 refine CW.sr (RL.u (.assign .c) U (RL.nil (CW.id (CW.seq ?_))))
 refine CW.sr (RL.m U U ?_)
 refine RL.SQ (s:=s) hS (.t U) Tryz.underlying9 U (λ w1 b2 hS3=>?_)
 replace hS3:St w nM w1 nM [.raw b2 (.stringIter ⟨⟨s⟩⟩ ((0:Int)).toNat)]:=hS3
 refine RL.nil (CW.id (CW.block ?_))
 refine CW.loop (σ:=Int) (λ p=>[Y 0 (str s),Y 6 (.pointer (some ⟨b2,0,none⟩))]) (λ p wl=>St w nM wl nM [.raw b2 (.stringIter ⟨⟨s⟩⟩ ((p:Int)).toNat)]/\0<=p/\p<=len s/\CC s p=CC s 0) (λ p=>(len s-p).toNat) 0 [0,6] U ?_ ?_
 ·refine⟨hS3,?_⟩;exact⟨by omega,by omega,rfl⟩
 ·rintro p wl ⟨hS4,hp0,hp1,hpF⟩
  refine CW.sr ?_
  refine RL.SR (s:=s) (p:=p) hS4 (i:=0) U (.t U) (by omega) U (λ hlt w5 hS6=>?_) (λ hge=>?_)
  ·replace hS6:St w nM w5 nM [.raw b2 (.stringIter ⟨⟨s⟩⟩ ((p+runeLen s p:Int)).toNat)]:=hS6
   refine RL.u (.ex (.t U) U) U (RL.nil (CW.id ?_))
   refine CW.seq (CW.cond rfl (λ _=>?_) (λ h=>by cases h))
   refine CW.skip (CW.id (CW.block (CW.sr (RL.u (.ex (.t U) U) U (RL.u (.ex (.t U) U) U (RL.a U U (RL.a U U (RL.nil (CW.id ?_)))))))))
   refine CW.sr (RL.m U U (RL.m U U (RL.u (.eql (.t U) .c) U ?_)))
   refine RL.FG .none Tryz.call108 (.cons (.t U) (.cons (.t U) .nil)) (λ _=>(tC (AQ s p) (p==0) _)) U ?_
   refine RL.u (.not (.t U)) U ?_
   refine RL.nil (CW.at [Y 0 (str s),Y 3 (i64 p),Y 6 (.pointer (some ⟨b2,0,none⟩)),Y 15 (.bool (!(BN (AQ s p) (p==0))))] U ?_)
   refine CW.cond rfl ?_ ?_<;>intro hb2<;>try simp only[zb]at hb2
   ·have hw:=bI (f:=p==0) hp0 hlt
    refine CW.sr (RL.m U U (RL.m U U (RL.u (.SG (.t U) (.t U) Tryz.underlying9 (λ _=>by omega)) U (RL.a U U (RL.nil (CW.id (CW.ret (hE.r1 U U ?_))))))))
    exact⟨by rw[B1,<-hpF,NQ hp0 hlt (by rw[<-hw.1];exact hb2)],hS6.low⟩
   ·have hw:=bI (f:=p==0) hp0 hlt
    have hl1:runeLen s p=1:=hw.2 (by rw[<-hw.1];exact hb2)
    refine CW.skip λ a hs=>Exists.intro (p+runeLen s p) ⟨hs.BL [0,6],?_,?_⟩
    ·refine⟨hS6,?_⟩
     exact⟨by omega,by omega,by rw[<-hpF,hl1,NP hp0 hlt (by rw[<-hw.1];exact hb2)]⟩
    ·show Int.toNat _<Int.toNat _;omega
  ·refine RL.u (.ex (.t U) U) U (RL.nil (CW.id ?_))
   refine CW.seq (CW.cond rfl (λ h=>by cases h) (λ _=>(CW.exit (CW.at [Y 0 (str s)] rfl (CW.sr ?_)))))
   refine RL.m U U (RL.a U U (RL.nil (CW.id ?_)))
   refine CW.ret (hE.r1 U U ?_)
   exact⟨by rw[B1,<-hpF,NR hge,JM _ _ (by omega)],hS4.low⟩
end Go.Proofs.YtmjpjbmeamnfpaaGreatDoor
set_option maxRecDepth 100000
namespace Go.Proofs.YtmjpjbmeamnfpaaGreatDoor
open Go.Eng
theorem fJ(w:World):(callFunc 264 #[]).run Tryz.prog w= .ok (.value (.tuple #[])) w:=run_call_mark0 Tryz.func264 (by kernel_rfl) (by kernel_rfl) (by kernel_rfl) .disable (by kernel_rfl) w
theorem fK(w:World):(callFunc 266 #[]).run Tryz.prog w= .ok (.value (.tuple #[])) w:=run_call_mark0 Tryz.func266 (by kernel_rfl) (by kernel_rfl) (by kernel_rfl) .enable (by kernel_rfl) w
theorem tD(a:Addr)(w:World):(callFunc 267 #[.pointer (some a)]).run Tryz.prog w= .ok (.value (.tuple #[])) w:=run_call_marked Tryz.func267 (by kernel_rfl) (by kernel_rfl) (by kernel_rfl) .acquire (by kernel_rfl) a w
theorem tE(a:Addr)(w:World):(callFunc 269 #[.pointer (some a)]).run Tryz.prog w= .ok (.value (.tuple #[])) w:=run_call_marked Tryz.func269 (by kernel_rfl) (by kernel_rfl) (by kernel_rfl) .releaseMerge (by kernel_rfl) a w
theorem tF(a:Addr)(x:Value)(u:FrameMode)(w:World)(hc:w.cell? a=some x)(hz:w.frozen? a=false):
  CallsD Tryz.prog 202 #[.pointer (some a),.bool true] u w λ e u' w'=>u'=u/\(e= .returned (.tuple #[])/\w'=w.drew.setCell a (.int .u32 1)):=by
 have hc':w.drew.cell? a=some x:=by go_simp
 have hz':w.drew.frozen? a=false:=by go_simp
 have hst:=run_call_store (P:=Tryz.prog) Tryz.func239 (by kernel_rfl) (by kernel_rfl) (by kernel_rfl) (by kernel_rfl) (k:=.u32) (y:=1) hc' hz'
 go_enter_d Tryz.func202,Tryz.ntmps202
 go_wp2
 go_region_calls
 all_goals (go_end0;exact⟨rfl,rfl⟩)
theorem tG(a:Addr)(u:FrameMode)(w:World)(hc:w.cell? a=some (.int .i32 1))(hz:w.frozen? a=false):
  CallsD Tryz.prog 201 #[.pointer (some a)] u w λ e u' w'=>u'=u/\(e= .returned (.tuple #[])/\w'=w.setCell a (.int .i32 0)):=by
 have hd:=fJ
 have he:=fK
 have hr:=tE
 have hadd:=run_call_add (P:=Tryz.prog) Tryz.func270 (by kernel_rfl) (by kernel_rfl) (by kernel_rfl) .i32 (by kernel_rfl) (y:= -1) (s:=0) hc hz (by simp[go_sem];rfl)
 have hcv:=run_convert_to_unsafe (P:=Tryz.prog) (src:=297) (dst:=237) Tryz.underlying297 Tryz.underlying237 (by kernel_rfl) hc
 go_enter_d Tryz.func201,Tryz.ntmps201
 go_wp2
 go_end0
 go_wp2
 go_end0
 exact⟨rfl,rfl⟩
theorem tH(a:Addr)(w:World)(hc:w.cell? a=some (.int .i32 0))(hz:w.frozen? a=false):
  Calls Tryz.prog 200 #[.pointer (some a)] w λ e w'=>e= .returned (.tuple #[])/\w'=w.setCell a (.int .i32 1):=by
 have hd:=fJ
 have he:=fK
 have ha:=tD
 have hcas:=run_call_cas_hit (P:=Tryz.prog) Tryz.func265 (by kernel_rfl) (by kernel_rfl) (by kernel_rfl) .i32 (by kernel_rfl) (y:=1) hc hz
 have hc':(w.setCell a (.int .i32 1)).cell? a=some (.int .i32 1):=World.cell?_setCell_same w a _ hc
 have hcv:=run_convert_to_unsafe (P:=Tryz.prog) (src:=297) (dst:=237) Tryz.underlying297 Tryz.underlying237 (by kernel_rfl) hc'
 go_enter Tryz.func200,Tryz.ntmps200
 go_wp2
 first|go_end0|(simp only[Exit.inBlock,Exit.then];refine bodyPost_ret (results_none U _ _ _) U ?_)|refine bodyPost_ret (results_none U _ _ _) U ?_
 go_wp2
 go_end0
 exact⟨rfl,rfl⟩
set_option maxHeartbeats 1600000 in
theorem tI(g:Nat)(fv:Array Value)(b:Nat)(w:World)(R:World->Prop)(cg: ∀args w,(callFunc g args).run Tryz.prog w= .ok (.enter g args) w)
  (h0:w.cell? ⟨b,0,none⟩=some (.int .u32 0)) (h1:w.cell? ⟨b,1,none⟩=some (.int .i32 0)) (f1:w.frozen? ⟨b,1,none⟩=false)
  (hclo:Calls Tryz.prog g fv (w.setCell ⟨b,1,none⟩ (.int .i32 1)) λ e w'=>e= .returned (.tuple #[])/\w'.cell? ⟨b,0,none⟩=some (.int .u32 0)/\w'.frozen? ⟨b,0,none⟩=false/\w'.cell? ⟨b,1,none⟩=some (.int .i32 1)/\w'.frozen? ⟨b,1,none⟩=false/\R w'):
  Calls Tryz.prog 152 #[.pointer (some ⟨b,0,none⟩),.func (.func g) #[] fv] w λ e w'=>e= .returned (.tuple #[])/\ ∃w1,R w1/\w1.cell? ⟨b,0,none⟩=some (.int .u32 0)/\w1.frozen? ⟨b,0,none⟩=false/\w1.cell? ⟨b,1,none⟩=some (.int .i32 1)/\w1.frozen? ⟨b,1,none⟩=false/\w'=(w1.drew.setCell ⟨b,0,none⟩ (.int .u32 1)).setCell ⟨b,1,none⟩ (.int .i32 0):=by
 have hl:=run_call_load (P:=Tryz.prog) Tryz.func199 (by kernel_rfl) (by kernel_rfl) (by kernel_rfl) .u32 (by kernel_rfl) (w:=w.setCell ⟨b,1,none⟩ (.int .i32 1)) (a:=⟨b,0,none⟩) (x:=0) ((World.cell?_setCell_other _ ⟨b,1,none⟩ ⟨b,0,none⟩ _ (by simp)).trans h0)
 have hnot: ∀(x:Bool) (w:World),(Op.unary .not (.bool x)).run Tryz.prog w= .ok (.bool (!x)) w:=λ _ _=>rfl
 go_enter_defers Tryz.func152,Tryz.ntmps152
 go_wp2_with (first|(go_at_call 200;refine(tH ⟨b,1,none⟩ _ (by go_simp) (by go_simp)).mono ?_;rintro e w' ⟨rfl,rfl⟩)|(go_at_call 151;go_in))
 refine hclo.mono ?_
 rintro e w' ⟨rfl,c0,z0,c1,z1,hR⟩
 rename_i hk
 refine hk _ _ ?_
 go_wp2
 refine leaves_cons (f:=202) (args:= #[.pointer (some ⟨b,0,none⟩),.bool true]) (by simp) (by simp[go_sem]) ?_
 refine(tF ⟨b,0,none⟩ (.int .u32 0) .returning _ c0 z0).mono ?_
 rintro e u' w'' ⟨rfl,rfl,rfl⟩
 refine leaves_cons (f:=201) (args:= #[.pointer (some ⟨b,1,none⟩)]) (by simp[settle]) (by simp[go_sem]) ?_
 refine(tG ⟨b,1,none⟩ _ _ ?_ (by simp[z1])).mono ?_
 ·refine(World.cell?_setCell_other _ ⟨b,0,none⟩ ⟨b,1,none⟩ _ (by simp)).trans ?_
  rw[World.cell?_drew];exact c1
 rintro e u' w'' ⟨rfl,rfl,rfl⟩
 have hfin:(Ending.returned (.tuple #[])=Ending.returned (.tuple #[]))/\ ∃w1,R w1/\w1.cell? ⟨b,0,none⟩=some (.int .u32 0)/\w1.frozen? ⟨b,0,none⟩=false/\w1.cell? ⟨b,1,none⟩=some (.int .i32 1)/\w1.frozen? ⟨b,1,none⟩=false/\(w'.drew.setCell ⟨b,0,none⟩ (.int .u32 1)).setCell ⟨b,1,none⟩ (.int .i32 0)=(w1.drew.setCell ⟨b,0,none⟩ (.int .u32 1)).setCell ⟨b,1,none⟩ (.int .i32 0):=⟨rfl,w',hR,c0,z0,c1,z1,rfl⟩
 simpa[Leaves,settle,results,Tryz.results152]using hfin
set_option maxHeartbeats 1600000 in
theorem tJ(g:Nat)(fv:Array Value)(b:Nat)(w:World)(R:World->Prop)(cg: ∀args w,(callFunc g args).run Tryz.prog w= .ok (.enter g args) w)
  (h0:w.cell? ⟨b,0,none⟩=some (.int .u32 0)) (h1:w.cell? ⟨b,1,none⟩=some (.int .i32 0)) (f1:w.frozen? ⟨b,1,none⟩=false)
  (hclo:Calls Tryz.prog g fv (w.setCell ⟨b,1,none⟩ (.int .i32 1)) λ e w'=>e= .returned (.tuple #[])/\w'.cell? ⟨b,0,none⟩=some (.int .u32 0)/\w'.frozen? ⟨b,0,none⟩=false/\w'.cell? ⟨b,1,none⟩=some (.int .i32 1)/\w'.frozen? ⟨b,1,none⟩=false/\R w'):
  Calls Tryz.prog 113 #[.pointer (some ⟨b,0,none⟩),.func (.func g) #[] fv] w λ e w'=>e= .returned (.tuple #[])/\ ∃w1,R w1/\w1.cell? ⟨b,0,none⟩=some (.int .u32 0)/\w1.frozen? ⟨b,0,none⟩=false/\w1.cell? ⟨b,1,none⟩=some (.int .i32 1)/\w1.frozen? ⟨b,1,none⟩=false/\w'=(w1.drew.setCell ⟨b,0,none⟩ (.int .u32 1)).setCell ⟨b,1,none⟩ (.int .i32 0):=by
 have hl:=run_call_load (P:=Tryz.prog) Tryz.func199 (by kernel_rfl) (by kernel_rfl) (by kernel_rfl) .u32 (by kernel_rfl) h0
 have hnot: ∀(x:Bool) (w:World),(Op.unary .not (.bool x)).run Tryz.prog w= .ok (.bool (!x)) w:=λ _ _=>rfl
 go_enter Tryz.func113,Tryz.ntmps113
 go_wp2_with (first|(go_at_call 152;refine(tI g fv b _ R cg h0 h1 f1 hclo).mono ?_;rintro e w' ⟨rfl,hw⟩)|(go_at_call 151;go_in))
 go_end0
 exact⟨rfl,hw⟩
theorem tK(a:Addr)(d:Int)(hd: ¬d=0)(fv:Value)(w:World)(h0:w.cell? a=some (.int .u32 d)):
  Calls Tryz.prog 113 #[.pointer (some a),fv] w λ e w'=>e= .returned (.tuple #[])/\w'=w:=by
 have hl:=run_call_load (P:=Tryz.prog) Tryz.func199 (by kernel_rfl) (by kernel_rfl) (by kernel_rfl) .u32 (by kernel_rfl) h0
 have hnot: ∀(x:Bool) (w:World),(Op.unary .not (.bool x)).run Tryz.prog w= .ok (.bool (!x)) w:=λ _ _=>rfl
 have hd':(d != 0)=true:=by simp[hd]
 go_enter Tryz.func113,Tryz.ntmps113
 go_wp2
 go_end0
 exact⟨rfl,rfl⟩
end Go.Proofs.YtmjpjbmeamnfpaaGreatDoor
namespace Go.Eng
open Go.RowKit
theorem YB{s:A1}{p:Int}(c:UInt8):((A2 s p).toNat.toUInt8=c)↔A2 s p=(c.toNat:Int):=by
 unfold A2
 rw[Int.toNat_natCast,<-UInt8.toNat_inj]
 simp;omega
theorem YC(x:UInt8): ¬0<=Lib.indexByte [] x:=by unfold Lib.indexByte;decide
theorem YD(c x:UInt8)(l:List UInt8):0<=Lib.indexByte (c::l) x↔c=x\/0<=Lib.indexByte l x:=by
 have hm: ∀l:List UInt8,-1<=Lib.indexByte l x:=by
  intro l
  induction l with
  |nil=>unfold Lib.indexByte;decide
  |cons a l ih=>unfold Lib.indexByte;(repeat' split)<;>omega
 have:=hm l
 rw[Lib.indexByte]
 by_cases h:c=x
 ·rw[if_pos (by simpa using h)];exact⟨λ _=>.inl h,λ _=>Int.le_refl _⟩
 ·rw[if_neg (by simpa using h)]
  by_cases h2:Lib.indexByte l x= -1
  ·rw[if_pos (by simpa using h2)];exact⟨λ h3=>by omega,λ h3=>h3.elim (λ h4=>absurd h4 h) (λ h4=>by omega)⟩
  ·rw[if_neg (by simpa using h2)];exact⟨λ _=>.inr (by omega),λ _=>by omega⟩
theorem UH{s:A1}{c:UInt8}{p:Int}:BV s [c] p=true↔p<len s/\A2 s p=(c.toNat:Int):=by
 unfold BV
 simp only[Bool.and_eq_true,decide_eq_true_eq,YD,YC,or_false]
 rw[<-YB c,eq_comm (a:=c)]
theorem tL{s:A1}{c d:UInt8}{p:Int}:BV s [c,d] p=true↔p<len s/\(A2 s p=(c.toNat:Int)\/A2 s p=(d.toNat:Int)):=by
 unfold BV
 simp only[Bool.and_eq_true,decide_eq_true_eq,YD,YC,or_false]
 rw[<-YB c,<-YB d,eq_comm (a:=c),eq_comm (a:=d)]
def ID(s:A1):Int×Int×Bool:=
 let a:Int:=if 0<len s/\A2 s 0=45 then 1 else 0
 if AJ s a=a then(a,a,false)else if A2 s a=48 then(a,a+1,true)else(a,AJ s a,true)
def EC(s:A1)(i:Int):Int×A1×Int:=
 if i=len s\/ ¬(A2 s i=101\/A2 s i=69)then(0,[],i)
 else if i+1<len s/\(A2 s (i+1)=43\/A2 s (i+1)=45)then
  (if A2 s (i+1)=45 then-1 else 1,Eng.sub s (i+1+1) (AJ s (i+1+1)),AJ s (i+1+1))
 else(1,Eng.sub s (i+1) (AJ s (i+1)),AJ s (i+1))
def F8(s:A1)(fg:A1)(e:Int)(i:Int):Nd×Int×Int:=
 let p:=EC s i
 if p.2.2<len s\/(p.1≠0/\p.2.1=[])then(AY,p.2.2,1)
 else if 6<len (AZ p.2.1)then(AY,0,2)
 else((EG (A2 s 0==45) fg (e+p.1*D9 (AZ p.2.1))).1,0,(EG (A2 s 0==45) fg (e+p.1*D9 (AZ p.2.1))).2)
def R9(s:A1):Nd×Int×Int:=
 let wh:=ID s
 if wh.2.2=false then(AY,wh.1,1)
 else if wh.2.1<len s/\A2 s wh.2.1=46 then
  if AJ s (wh.2.1+1)=wh.2.1+1 then(AY,AJ s (wh.2.1+1),1)
  else F8 s (Eng.sub s wh.1 wh.2.1++Eng.sub s (wh.2.1+1) (AJ s (wh.2.1+1))) (wh.2.1+1-AJ s (wh.2.1+1)) (AJ s (wh.2.1+1))
 else F8 s (Eng.sub s wh.1 wh.2.1) 0 wh.2.1
theorem fL{α:Type}{s:List α}{i j:Int}(h0:0<=i)(h1:i<=j)(h2:j<=len s):Eng.sub s i j=[]↔j=i:=by
 constructor
 ·intro h
  have:=FX h0 h1 h2
  rw[h,len_nil]at this;omega
 ·rintro rfl;unfold Eng.sub;simp
theorem P3{s:A1}{i j k:Int}(h0:0<=i)(h1:0<=k)(h2:i+k<j)(h3:j<=len s):A2 (Eng.sub s i j) k=A2 s (i+k):=by
 unfold A2 Eng.sub
 rw[List.getD_eq_getElem?_getD,List.getElem?_take,if_pos (by omega),List.getElem?_drop,<-List.getD_eq_getElem?_getD,show i.toNat+k.toNat=(i+k).toNat from by omega]
theorem YE{s fg:A1}{x b c2 side:Int}{pw:A1}(hp:EC s b=(side,pw,c2))(h0:side≠0):F8 s fg x b=if pw=[]\/c2<len s then(AY,c2,1)else IZ (A2 s 0==45) fg x pw side:=by
 unfold F8 IZ
 rw[hp]
 dsimp only
 by_cases c3:pw=[]\/c2<len s
 ·rw[if_pos c3,if_pos (by rcases c3 with c3|c3;exact .inr ⟨h0,c3⟩;exact .inl c3)]
 ·rw[if_neg c3,if_neg (by rintro(c4|⟨_,c4⟩);exact c3 (.inr c4);exact c3 (.inl c4))]
theorem fM{s:A1}{neg:Bool}{fg:A1}{x b:Int}(hneg:neg=(A2 s 0==45))(h0:0<=b)(h1:b<=len s):
  GH s neg fg x b=F8 s fg x b:=by
 subst hneg
 have e1:= @tL s 101 69 b
 have e2:= @UH s 45 (b+1)
 have e3:= @UH s 43 (b+1)
 simp only[show((101:UInt8).toNat:Int)=101 from rfl,show((69:UInt8).toNat:Int)=69 from rfl,show((45:UInt8).toNat:Int)=45 from rfl,show((43:UInt8).toNat:Int)=43 from rfl]at e1 e2 e3
 unfold GH
 by_cases c1:BV s [101,69] b=true
 ·have c1':=e1.1 c1
  have hn0: ¬(b=len s\/ ¬(A2 s b=101\/A2 s b=69)):=by rintro(h|h);omega;exact h c1'.2
  rw[if_pos c1,QL c1]
  unfold MR
  by_cases c2:BV s [45] (b+1)=true
  ·have c2':=e2.1 c2
   have hp:EC s b=(-1,Eng.sub s (b+1+1) (AJ s (b+1+1)),AJ s (b+1+1)):=by
    unfold EC;rw[if_neg hn0,if_pos ⟨c2'.1,.inr c2'.2⟩,if_pos c2'.2]
   rw[YE hp (by decide),QL c2]
   simp only[c2,if_true]
  ·rw[MQ (by simpa using c2)]
   by_cases c4:BV s [43] (b+1)=true
   ·have c4':=e3.1 c4
    have hp:EC s b=(1,Eng.sub s (b+1+1) (AJ s (b+1+1)),AJ s (b+1+1)):=by
     unfold EC;rw[if_neg hn0,if_pos ⟨c4'.1,.inl c4'.2⟩,if_neg (by omega)]
    rw[YE hp (by decide),QL c4]
    simp only[c2,Bool.false_eq_true,if_false]
   ·rw[MQ (by simpa using c4)]
    have hn: ¬(b+1<len s/\(A2 s (b+1)=43\/A2 s (b+1)=45)):=by
     rintro⟨h2,h3|h3⟩
     ·exact c4 (e3.2 ⟨h2,h3⟩)
     ·exact c2 (e2.2 ⟨h2,h3⟩)
    have hp:EC s b=(1,Eng.sub s (b+1) (AJ s (b+1)),AJ s (b+1)):=by
     unfold EC;rw[if_neg hn0,if_neg hn]
    rw[YE hp (by decide)]
    simp only[c2,Bool.false_eq_true,if_false]
 ·have hn:b=len s\/ ¬(A2 s b=101\/A2 s b=69):=by
   by_cases h:b=len s
   ·exact .inl h
   ·exact .inr λ h2=>c1 (e1.2 ⟨by omega,h2⟩)
  have hp:EC s b=(0,[],b):=by unfold EC;rw[if_pos hn]
  rw[if_neg c1,MQ (by simpa using c1)]
  unfold F8 IZ
  rw[hp]
  dsimp only
  by_cases c3:b<len s
  ·rw[if_pos c3,if_pos (.inl c3)]
  ·rw[if_neg c3,if_neg (show ¬(b<len s\/((0:Int)≠0/\([]:A1)=[]))from by rintro(h|h);exact c3 h;exact h.1 rfl)]
   simp only[show AZ []=[]from rfl,len_nil,show ¬((6:Int)<0)from by decide,if_false,show D9 []=0 from rfl,Int.mul_zero]
theorem tM{s:A1}{a:Int}(ha:B4 s [45] 0=a):BY s=
 if 1<len (Eng.sub s a (AJ s a))/\A2 (Eng.sub s a (AJ s a)) 0=48 then(AY,a+1,1)
 else if Eng.sub s a (AJ s a)=[]then(AY,AJ s a,1)
 else if BV s [46] (AJ s a)then
  if Eng.sub s (B4 s [46] (AJ s a)) (AJ s (B4 s [46] (AJ s a)))=[]then(AY,AJ s (B4 s [46] (AJ s a)),1)
  else GH s (BV s [45] 0) (Eng.sub s a (AJ s a)++Eng.sub s (B4 s [46] (AJ s a)) (AJ s (B4 s [46] (AJ s a)))) (-(len (Eng.sub s (B4 s [46] (AJ s a)) (AJ s (B4 s [46] (AJ s a)))))) (AJ s (B4 s [46] (AJ s a)))
 else GH s (BV s [45] 0) (Eng.sub s a (AJ s a)) 0 (B4 s [46] (AJ s a)):=by subst ha;rfl
theorem YF{s:A1}{a b:Int}(hw:ID s=(a,b,true)):R9 s=
  if b<len s/\A2 s b=46 then
   if AJ s (b+1)=b+1 then(AY,AJ s (b+1),1)
   else F8 s (Eng.sub s a b++Eng.sub s (b+1) (AJ s (b+1))) (b+1-AJ s (b+1)) (AJ s (b+1))
  else F8 s (Eng.sub s a b) 0 b:=by
 unfold R9;rw[hw];simp only[Bool.true_eq_false,if_false]
theorem fN{s:A1}{a b:Int}{neg:Bool}(hneg:neg=(A2 s 0==45))(h0:0<=a)(h1:a<=b)(h2:b<=len s):
  (if BV s [46] b then
   if Eng.sub s (B4 s [46] b) (AJ s (B4 s [46] b))=[]then(AY,AJ s (B4 s [46] b),1)
   else GH s neg (Eng.sub s a b++Eng.sub s (B4 s [46] b) (AJ s (B4 s [46] b))) (-(len (Eng.sub s (B4 s [46] b) (AJ s (B4 s [46] b))))) (AJ s (B4 s [46] b))
  else GH s neg (Eng.sub s a b) 0 (B4 s [46] b))=
  if b<len s/\A2 s b=46 then
   if AJ s (b+1)=b+1 then(AY,AJ s (b+1),1)
   else F8 s (Eng.sub s a b++Eng.sub s (b+1) (AJ s (b+1))) (b+1-AJ s (b+1)) (AJ s (b+1))
  else F8 s (Eng.sub s a b) 0 b:=by
 have h46:= @UH s 46 b
 simp only[show((46:UInt8).toNat:Int)=46 from rfl]at h46
 by_cases c3:BV s [46] b=true
 ·have c3':=h46.1 c3
  rw[if_pos c3,if_pos c3',QL c3]
  have hb2:=IY s (b+1) (by omega) (by omega)
  have hnil2:=fL (s:=s) (i:=b+1) (j:=AJ s (b+1)) (by omega) hb2.1 hb2.2
  by_cases c4:AJ s (b+1)=b+1
  ·rw[if_pos c4,if_pos (hnil2.2 c4)]
  ·rw[if_neg c4,if_neg (λ h=>c4 (hnil2.1 h))]
   rw[fM hneg (by omega) hb2.2,FX (by omega) hb2.1 hb2.2]
   congr 1;omega
 ·rw[if_neg c3,if_neg (λ h=>c3 (h46.2 h)),MQ (by simpa using c3)]
  rw[fM hneg (by omega) (by omega)]
theorem tN(s:A1):R9 s=BY s:=by
 have h45:= @UH s 45 0
 simp only[show((45:UInt8).toNat:Int)=45 from rfl]at h45
 have hl:=A8 s
 have hneg:BV s [45] 0=(A2 s 0==45):=by
  rw[Bool.eq_iff_iff,h45,beq_iff_eq]
  refine⟨λ h=>h.2,λ h=>⟨?_,h⟩⟩
  rcases Int.lt_or_le 0 (len s)with h2|h2
  ·exact h2
  ·have:s=[]:=by cases s with|nil=>rfl|cons a l=>rw[AK]at h2;have:=A8 l;omega
   subst this;revert h;decide
 have ha:(if 0<len s/\A2 s 0=45 then(1:Int)else 0)=B4 s [45] 0:=by
  unfold B4
  by_cases c:BV s [45] 0=true
  ·rw[if_pos c,if_pos (h45.1 c)];rfl
  ·rw[if_neg c,if_neg (λ h=>c (h45.2 h))]
 have hab:=LI s [45] 0 hl
 generalize hA:B4 s [45] 0=a at*
 have hw:ID s=if AJ s a=a then(a,a,false)else if A2 s a=48 then(a,a+1,true)else(a,AJ s a,true):=by unfold ID;simp only[ha]
 have hb:=IY s a hab.1 hab.2
 have hnil:=fL hab.1 hb.1 hb.2
 have hfl:=FX hab.1 hb.1 hb.2
 rw[tM hA]
 by_cases c0:AJ s a=a
 ·rw[if_pos c0]at hw
  have hs:=hnil.2 c0
  rw[hs,if_neg (by rw[len_nil];omega),if_pos U,c0]
  unfold R9;rw[hw];rfl
 ·rw[if_neg c0]at hw
  have hs: ¬Eng.sub s a (AJ s a)=[]:=λ h=>c0 (hnil.1 h)
  have hb0:A2 (Eng.sub s a (AJ s a)) 0=A2 s a:=by rw[P3 hab.1 (by omega) (by omega) hb.2,Int.add_zero]
  by_cases c1:A2 s a=48
  ·rw[if_pos c1]at hw
   by_cases c2:1<len (Eng.sub s a (AJ s a))
   ·have hfig:= @e8 s a (a+1) hab.1 (by omega) (by omega)
    unfold C7 at hfig
    simp only[Bool.and_eq_true,decide_eq_true_eq]at hfig
    have hp:EC s (a+1)=(0,[],a+1):=by unfold EC;rw[if_pos (.inr (by omega))]
    rw[if_pos ⟨c2,by rw[hb0,c1]⟩,YF hw,if_neg (by omega)]
    unfold F8;rw[hp];dsimp only
    rw[if_pos (.inl (by omega))]
   ·have he:AJ s a=a+1:=by omega
    rw[he]at c2 hs hb
    rw[he,if_neg (λ h=>c2 h.1),if_neg hs,fN hneg hab.1 (by omega) (by omega),YF hw]
  ·rw[if_neg c1]at hw
   rw[if_neg (λ h=>c1 (by rw[<-hb0];exact h.2)),if_neg hs,fN hneg hab.1 (by omega) (by omega),YF hw]
theorem tO{s:A1}{i:Int}(h0:0<=i)(h1:i<=len s):(-1<=(EC s i).1/\(EC s i).1<=1)/\(0<=len (EC s i).2.1/\len (EC s i).2.1<=len s)/\(i<=(EC s i).2.2/\(EC s i).2.2<=len s)/\ ∀b∈(EC s i).2.1,DP b=true:=by
 unfold EC
 split
 ·refine⟨by dsimp only;omega,⟨Int.le_refl _,A8 s⟩,by dsimp only;omega,by intro b hb;cases hb⟩
 ·rename_i hn
  have hlt:i<len s:=by
   rcases Int.lt_or_le i (len s)with h|h
   ·exact h
   ·exact absurd (.inl (by omega)) hn
  split
  ·rename_i h2
   have hr:=IY s (i+1+1) (by omega) (by omega)
   refine⟨by dsimp only;split<;>omega,QK _ _ _,by dsimp only;omega,QM (by omega)⟩
  ·have hr:=IY s (i+1) (by omega) (by omega)
   refine⟨by dsimp only;omega,QK _ _ _,by dsimp only;omega,QM (by omega)⟩
theorem tP(s:A1):0<=(ID s).1/\(ID s).1<=len s/\(ID s).1<=(ID s).2.1/\(ID s).2.1<=len s/\((ID s).2.2=true->0<len s):=by
 have hl:=A8 s
 have key: ∀a:Int,0<=a->a<=len s->(let w:=if AJ s a=a then(a,a,false)else if A2 s a=48 then(a,a+1,true)else(a,AJ s a,true);0<=w.1/\w.1<=len s/\w.1<=w.2.1/\w.2.1<=len s/\(w.2.2=true->0<len s)):=by
  intro a h0 h1
  have hr:=IY s a h0 h1
  dsimp only
  split
  ·exact⟨h0,h1,Int.le_refl _,h1,λ h=>by cases h⟩
  ·split
   ·refine⟨h0,h1,?_,?_,λ _=>?_⟩<;>(try dsimp only)<;>omega
   ·refine⟨h0,h1,?_,?_,λ _=>?_⟩<;>(try dsimp only)<;>omega
 unfold ID
 exact key _ (by split<;>omega) (by split<;>omega)
theorem tQ(s:A1):0<=(BY s).2.1/\(BY s).2.1<=len s/\((BY s).2.2=0\/(BY s).2.2=1\/(BY s).2.2=2\/(BY s).2.2=4):=by
 have hmk: ∀(neg:Bool) (fg:A1) (x:Int),(EG neg fg x).2=0\/(EG neg fg x).2=2\/(EG neg fg x).2=4:=by
  intro neg fg x;unfold EG;(repeat' split)<;>simp
 have hw:=tP s
 have hl:=A8 s
 have hx: ∀(fg:A1) (e i:Int),0<=i->i<=len s->0<=(F8 s fg e i).2.1/\(F8 s fg e i).2.1<=len s/\((F8 s fg e i).2.2=0\/(F8 s fg e i).2.2=1\/(F8 s fg e i).2.2=2\/(F8 s fg e i).2.2=4):=by
  intro fg e i h0 h1
  have hp:=tO h0 h1
  unfold F8
  dsimp only
  split
  ·exact⟨by dsimp only;omega,by dsimp only;omega,.inr (.inl U)⟩
  ·split
   ·exact⟨Int.le_refl _,hl,.inr (.inr (.inl U))⟩
   ·refine⟨Int.le_refl _,hl,?_⟩
    dsimp only
    have:=hmk (A2 s 0==45) fg (e+(EC s i).1*D9 (AZ (EC s i).2.1))
    rcases this with h|h|h<;>rw[h]<;>simp
 rw[<-tN]
 unfold R9
 dsimp only
 split
 ·exact⟨by dsimp only;omega,by dsimp only;omega,.inr (.inl U)⟩
 ·split
  ·rename_i h2
   have hr:=IY s ((ID s).2.1+1) (by omega) (by omega)
   split
   ·exact⟨by dsimp only;omega,by dsimp only;omega,.inr (.inl U)⟩
   ·exact hx _ _ _ (by omega) (by omega)
  ·exact hx _ _ _ (by omega) (by omega)
def YG(e:Int×Int):A1×Int:=if e.2=0 then([],0)else(toStr (Lib.encodeRuneZ e.1),e.2)
def P4(s:A1)(i:Int):A1×Int:=if A2 s i=92 then YG (B5 (A3 s i))else(Eng.sub s i (i+rune s i),rune s i)
def RB(f:Nat)(s:A1)(i:Int)(o:A1):Prop:= ∃acc,o=toStr acc/\CZ f s i acc=AM s
theorem YH(a b:List Int):toStr (a++b)=toStr a++toStr b:=List.map_append
theorem J6{s:A1}{i:Int}(h0:0<=i)(h1:i<len s){c:Int}(hc:c<128):AQ s i=c↔A2 s i=c:=by
 rcases MU h0 h1 with⟨_,h2,_,h3⟩|⟨_,_,_,_,h2,h3⟩<;>omega
theorem fO{s:A1}{i:Int}(h0:0<=i)(h1:i<len s){c:Int}(hc:c<=128):AQ s i<c↔A2 s i<c:=by
 rcases MU h0 h1 with⟨_,h2,_,h3⟩|⟨_,_,_,_,h2,h3⟩<;>omega
theorem YI{s:A1}{i:Int}(h0:0<=i)(h1:i<len s):rune s i=0↔(AQ s i=65533/\runeLen s i=1):=by
 rcases MU h0 h1 with⟨h2,h3,h4,_⟩|⟨h2,h3,h4,_,_⟩
 ·exact⟨λ _=>⟨h3,h4⟩,λ _=>h2⟩
 ·exact⟨λ h=>by omega,λ h=>absurd h h4⟩
theorem RB.bad {f:Nat}{s o:A1}{i:Int}(h:RB f s i o)(hf:(len s-i).toNat<=f)(h0:0<=i)(h1:i<len s)(h2: ¬A2 s i=34)(h3:(P4 s i).2=0\/A2 s i<32):AM s=([],i,1):=by
 obtain⟨acc,rfl,h⟩:=h
 rw[<-h,KE hf h1,U2 s i h0,OJ s i h0,if_neg (by rw[J6 h0 h1 (by decide)];exact h2)]
 unfold P4 YG at h3
 by_cases h4:A2 s i=92
 ·rw[if_pos (by rw[J6 h0 h1 (by decide)];exact h4)]
  rw[if_pos h4]at h3
  have:(B5 (A3 s i)).2=0:=by
   rcases h3 with h3|h3
   ·split at h3
    ·assumption
    ·exact h3
   ·omega
  rw[if_pos this]
 ·rw[if_neg (by rw[J6 h0 h1 (by decide)];exact h4)]
  rw[if_neg h4]at h3
  dsimp only at h3
  rw[if_pos]
  rcases h3 with h3|h3
  ·exact .inr ((YI h0 h1).1 h3)
  ·exact .inl ((fO h0 h1 (by decide)).2 h3)
theorem RB.step {f:Nat}{s o:A1}{i:Int}(h:RB f s i o)(hf:(len s-i).toNat<=f)(h0:0<=i)(h1:i<len s)(h2: ¬A2 s i=34)(h3: ¬((P4 s i).2=0\/A2 s i<32)):
  RB (f-1) s (i+(P4 s i).2) (o++(P4 s i).1):=by
 obtain⟨acc,rfl,h⟩:=h
 rw[KE hf h1,U2 s i h0,OJ s i h0,if_neg (by rw[J6 h0 h1 (by decide)];exact h2)]at h
 unfold P4 YG at*
 by_cases h4:A2 s i=92
 ·rw[if_pos (by rw[J6 h0 h1 (by decide)];exact h4)]at h
  rw[if_pos h4]at h3 ⊢
  by_cases h5:(B5 (A3 s i)).2=0
  ·rw[if_pos h5]at h3;exact absurd (.inl U) h3
  ·rw[if_neg h5]at h ⊢
   exact⟨_,(YH _ _).symm,h⟩
 ·rw[if_neg (by rw[J6 h0 h1 (by decide)];exact h4)]at h
  rw[if_neg h4]at h3 ⊢
  dsimp only at h3 ⊢
  rw[if_neg]at h
  ·rcases MU h0 h1 with⟨h5,_⟩|⟨_,h5,_,h6,_⟩
   ·exact absurd (.inl h5) h3
   ·rw[h5]at h
    exact⟨_,by rw[YH,h6],h⟩
  ·rintro(h5|h5)
   ·exact h3 (.inr ((fO h0 h1 (by decide)).1 h5))
   ·exact h3 (.inl ((YI h0 h1).2 h5))
theorem P5{s:A1}{c:UInt8}:Lib.hasPrefix s [c]=true↔ ¬s=[]/\A2 s 0=(c.toNat:Int):=by
 cases s with
 |nil=>simp[Lib.hasPrefix]
 |cons a l=>
  have:A2 (a::l) 0=(a.toNat:Int):=rfl
  rw[this]
  simp only[Lib.hasPrefix,List.isPrefixOf,List.isPrefixOf_nil_left,Bool.and_true,beq_iff_eq,reduceCtorEq,not_false_eq_true,true_and]
  rw[<-UInt8.toNat_inj];omega
def fP:A1:=[34,92,47,98,102,110,114,116]
def YJ(c k:Int):Prop:= ∀j:Int,0<=j->j<k->c≠A2 fP j
theorem YJ.step {c k:Int}(h:YJ c k)(h2: ¬c=A2 fP k):YJ c (k+1):=by
 intro j h3 h4
 by_cases h5:j=k
 ·subst h5;exact h2
 ·exact h j h3 (by omega)
def F9(c:Int):Int:=if 48<=c/\c<=57 then c-48 else if 97<=c/\c<=102 then c-87 else if 65<=c/\c<=70 then c-55 else-1
theorem YK(b:UInt8):JX b=F9 (b.toNat:Int):=by unfold JX F9;(repeat' split)<;>omega
theorem tR{s:A1}{i k:Int}(h:0<=i)(h0:i<=k)(h1:k<len s): ∃b,Eng.sub s i (k+1)=Eng.sub s i k++[b]/\(b.toNat:Int)=A2 s k:=by
 have h2:k.toNat<s.length:=by unfold len at h1;omega
 refine⟨s[k.toNat],?_,by simp[A2,h2]⟩
 unfold Eng.sub
 have h3:k.toNat-i.toNat<(s.drop i.toNat).length:=by rw[List.length_drop];omega
 rw[show(k+1).toNat-i.toNat=(k.toNat-i.toNat)+1 from by omega,List.take_succ_eq_append_getElem h3,List.getElem_drop]
 congr 3;omega
theorem fQ{s:A1}{i k:Int}(h:0<=i)(h0:i<=k)(h1:k<len s)(h2:EH (Eng.sub s i k)=true)(h3:0<=F9 (A2 s k)):
  EH (Eng.sub s i (k+1))=true/\FM (Eng.sub s i (k+1))=FM (Eng.sub s i k)*16+F9 (A2 s k):=by
 obtain⟨b,h4,h5⟩:=tR h h0 h1
 rw[h4,<-h5,<-YK]
 rw[<-h5,<-YK]at h3
 unfold EH FM at*
 rw[List.all_append,h2,List.foldl_append]
 simp[h3]
theorem fR{s:A1}{i k j:Int}(h:0<=i)(h0:i<=k)(h1:k<j)(h2:j<=len s)(h3:F9 (A2 s k)<0):EH (Eng.sub s i j)=false:=by
 unfold EH
 rw[List.all_eq_false]
 have hk:k.toNat<s.length:=by unfold len at h2;omega
 refine⟨s[k.toNat],?_,?_⟩
 ·unfold Eng.sub
  rw[List.mem_take_iff_getElem]
  refine⟨k.toNat-i.toNat,by rw[List.length_drop];omega,?_⟩
  rw[List.getElem_drop];congr 1;omega
 ·rw[YK]
  have:((s[k.toNat]).toNat:Int)=A2 s k:=by simp[A2,hk]
  rw[this];simp;omega
theorem tS{l:A1}(h:EH l=true)(hl:len l<=3):0<=FM l/\FM l<=4095:=by
 unfold EH at h
 have:=TV l 0 (by simpa[List.all_eq_true]using h) (by omega)
 have h2:(16:Int)^l.length<=16^3:=by
  have:(16:Nat)^l.length<=16^3:=Nat.pow_le_pow_right (by omega) (by unfold len at hl;omega)
  exact_mod_cast this
 unfold FM;omega
theorem fS{s:A1}{i:Int}(h0:0<=i)(h1:i+6<=len s)(h2:A2 s i=92)(h3:A2 s (i+1)=117):
  BJ (A3 s i)=if EH (Eng.sub s (i+2) (i+6))then FM (Eng.sub s (i+2) (i+6))else-1:=by
 have e:Eng.sub (A3 s i) 2 6=Eng.sub s (i+2) (i+6):=by
  unfold Eng.sub A3;rw[List.drop_drop];congr 1
  ·omega
  ·congr 1;omega
 unfold BJ
 rw[if_neg (by rw[CN s i h0 (by omega)];omega),e,if_neg]
 obtain⟨a,ha,hb⟩:=MO s i h0 (by omega)
 obtain⟨c,hc,hd⟩:=MO s (i+1) (by omega) (by omega)
 rw[ha,hc]
 have ea:a=92:=by rw[<-UInt8.toNat_inj];show a.toNat=92;omega
 have ec:c=117:=by rw[<-UInt8.toNat_inj];show c.toNat=117;omega
 rw[ea,ec];simp[Lib.hasPrefix]
theorem tT{s:A1}{i:Int}(h0:0<=i)(h:len s<i+6\/ ¬A2 s i=92\/ ¬A2 s (i+1)=117):BJ (A3 s i)= -1:=by
 unfold BJ
 by_cases h1:len (A3 s i)<6
 ·rw[if_pos h1]
 ·rw[if_neg h1]
  have h2:=eQ s i h0
  have h3:i+6<=len s:=by split at h2<;>omega
  rw[if_pos]
  obtain⟨a,ha,hb⟩:=MO s i h0 (by omega)
  obtain⟨c,hc,hd⟩:=MO s (i+1) (by omega) (by omega)
  rw[ha,hc]
  cases hp:Lib.hasPrefix (a::c::A3 s (i+1+1)) [92,117]with
  |false=>rfl
  |true=>
   exfalso
   simp[Lib.hasPrefix]at hp
   obtain⟨rfl,rfl⟩:=hp
   rcases h with h|h|h
   ·omega
   ·exact h (by rw[hb];rfl)
   ·exact h (by rw[hd];rfl)
theorem tU{r:Int}(h:128<=r): ∀b∈toStr (Lib.encodeRuneZ r),128<=b.toNat:=by
 have key: ∀x∈Lib.encodeRuneZ r,128<=x:=by
  intro x hx
  unfold Lib.encodeRuneZ at hx
  (repeat' split at hx)<;>simp at hx<;>omega
 intro b hb
 unfold toStr at hb
 obtain⟨x,hx,rfl⟩:=List.mem_map.1 hb
 have h1:=key x hx
 have h2:=Lib.encodeRuneZ_byte r x hx
 simp;omega
theorem YL{α:Type}(s:List α)(i j:Int)(h0:0<=i)(h1:i<=j):A3 s i=Eng.sub s i j++A3 s j:=by
 unfold A3 Eng.sub
 have:s.drop j.toNat=(s.drop i.toNat).drop (j.toNat-i.toNat):=by rw[List.drop_drop];congr 1;omega
 rw[this,List.take_append_drop]
end Go.Eng
