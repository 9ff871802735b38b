/-
  Parts Sf Sg Sh Si JSJoins, put together and made short by wip/py/merge.py (mini.py).
-/
import Derived.Test.YtmjpjbmeamnfpaaGreatDoorZe29
import Derived.Test.YtmjpjbmeamnfpaaGreatDoorZe5
import Derived.JoinedCond
import Derived.Test.YtmjpjbmeamnfpaaGreatDoorZe0
set_option linter.unusedVariables false
set_option linter.unusedSimpArgs false
namespace Go.Eng
abbrev kTk(s:A1)(i:Int):Tk:=⟨4,s,AY,i⟩
theorem AG6:LZ [91] [AE [91] 0]:=λ r l h=>by
 have a0:At ([91]++r) 0 (91::r):=⟨Int.le_refl 0,A8 _,rfl⟩
 rw[HA a0 U]
 exact Lx.G6 (u:=[91]) (t:=⟨1,[91],AY,0⟩) a0 (by simp) (IL (by decide) _) h
theorem AG7:LZ [123,63,58,32] [AE [123] 0,AE [63] 1,AE [58] 2]:=λ r l h=>by
 have a0:At ([123,63,58,32]++r) 0 (123::63::58::32::r):=⟨Int.le_refl 0,A8 _,rfl⟩
 have a1:=a0.one
 have a2:=a1.one
 have a3:=a2.one
 rw[HA a0 U]
 refine Lx.G6 (u:=[123]) (t:=⟨1,[123],AY,0⟩) a0 (by simp) (IL (by decide) _) ?_
 rw[show(0:Int)+len [(123:UInt8)]=0+1 from rfl,HA a1 U]
 refine Lx.G6 (u:=[63]) (t:=⟨1,[63],AY,0⟩) a1 (by simp) (AF5 _) ?_
 rw[show(0:Int)+1+len [(63:UInt8)]=0+1+1 from rfl,HA a2 U]
 refine Lx.G6 (u:=[58]) (t:=⟨1,[58],AY,0⟩) a2 (by simp) (IL (by decide) _) ?_
 rw[show(0:Int)+1+1+len [(58:UInt8)]=0+1+1+1 from rfl,PJ a3]
 exact h
theorem AG8:LZ [116,117,112,40] [EK EW 0,AE [40] 3]:=λ r l h=>by
 have a0:At ([116,117,112,40]++r) 0 (116::117::112::40::r):=⟨Int.le_refl 0,A8 _,rfl⟩
 have a3:At ([116,117,112,40]++r) (0+3) (40::r):=At.add (u:=[116,117,112]) a0
 rw[HA a0 U]
 refine Lx.G6 (u:=[116,117,112]) (r:=40::r) (t:=⟨2,EW,AY,0⟩) a0 (by simp) (aE (c:=116) (w:=[117,112]) (YM.1 (by decide+kernel)).2 (λ c r' e=>by cases e;decide)) ?_
 rw[show(0:Int)+len [(116:UInt8),117,112]=0+3 from rfl,HA a3 U]
 exact Lx.G6 (u:=[40]) (t:=⟨1,[40],AY,0⟩) a3 (by simp) (IL (by decide) _) h
theorem AG9:A7 [34,120,34]=(⟨4,[120],AY,0⟩,3,0):=by decide+kernel
theorem AH0:LZ [123,34,120,34,58,32] [AE [123] 0,kTk [120] 1,AE [58] 4]:=λ r l h=>by
 have a0:At ([123,34,120,34,58,32]++r) 0 (123::34::120::34::58::32::r):=⟨Int.le_refl 0,A8 _,rfl⟩
 have a1:=a0.one
 have a2:At ([123,34,120,34,58,32]++r) (0+1+3) (58::32::r):=At.add (u:=[34,120,34]) a1
 have a3:=a2.one
 rw[HA a0 U]
 refine Lx.G6 (u:=[123]) (t:=⟨1,[123],AY,0⟩) a0 (by simp) (IL (by decide) _) ?_
 rw[show(0:Int)+len [(123:UInt8)]=0+1 from rfl,HA a1 U]
 refine Lx.G6 (u:=[34,120,34]) (r:=58::32::r) (t:=⟨4,[120],AY,0⟩) a1 (by simp) (ZT (u:=[34,120,34]) (v:=[]) (by simp) (by rw[List.append_nil];exact AG9) (.inr (.inl ⟨by simp,by rw[FN];rfl⟩))) ?_
 rw[show(0:Int)+1+len [(34:UInt8),120,34]=0+1+3 from rfl,HA a2 U]
 refine Lx.G6 (u:=[58]) (t:=⟨1,[58],AY,0⟩) a2 (by simp) (IL (by decide) _) ?_
 rw[show(0:Int)+1+3+len [(58:UInt8)]=0+1+3+1 from rfl,PJ a3]
 exact h
theorem lN{c:UInt8}(h:BN (c.toNat:Int) true=true): ∀j:Int,0<=j->j<len ([c]:A1)->BN (A2 [c] j) (j==0)=true:=by
 intro j h0 h1
 have h1:j<1:=h1
 have:j=0:=by omega
 subst this;rw[FN];exact h
theorem AH1:LZ [123,121,58,32] [AE [123] 0,EK [121] 1,AE [58] 2]:=λ r l h=>by
 have a0:At ([123,121,58,32]++r) 0 (123::121::58::32::r):=⟨Int.le_refl 0,A8 _,rfl⟩
 have a1:=a0.one
 have a2:=a1.one
 have a3:=a2.one
 rw[HA a0 U]
 refine Lx.G6 (u:=[123]) (t:=⟨1,[123],AY,0⟩) a0 (by simp) (IL (by decide) _) ?_
 rw[show(0:Int)+len [(123:UInt8)]=0+1 from rfl,HA a1 U]
 refine Lx.G6 (u:=[121]) (r:=58::32::r) (t:=⟨2,[121],AY,0⟩) a1 (by simp) (aE (c:=121) (w:=[]) (lN rfl) (λ c r' e=>by cases e;decide)) ?_
 rw[show(0:Int)+1+len [(121:UInt8)]=0+1+1 from rfl,HA a2 U]
 refine Lx.G6 (u:=[58]) (t:=⟨1,[58],AY,0⟩) a2 (by simp) (IL (by decide) _) ?_
 rw[show(0:Int)+1+1+len [(58:UInt8)]=0+1+1+1 from rfl,PJ a3]
 exact h
theorem AH2:VO [44,32] λ e=>[AE [44] e]:=λ w r l h=>by
 have a0:At (w++([44,32]++r)) (len w) (44::32::r):=lK _ _
 have a1:=a0.one
 refine Lx.G6 (u:=[44]) (t:=⟨1,[44],AY,0⟩) a0 (by simp) (IL (by decide) _) ?_
 rw[show len w+len [(44:UInt8)]=len w+1 from rfl,PJ a1,show len w+1+1=len w+len [(44:UInt8),32]from by show _=len w+2;omega]
 exact h
theorem lO{c:UInt8}(hc:c=120\/c=121):VO [44,32,c,58,32] λ e=>[AE [44] e,EK [c] (e+2),AE [58] (e+3)]:=λ w r l h=>by
 have a0:At (w++([44,32,c,58,32]++r)) (len w) (44::32::c::58::32::r):=lK _ _
 have a1:=a0.one
 have a2:=a1.one
 have a3:=a2.one
 have a4:=a3.one
 have hcb:FY c=false/\BN (c.toNat:Int) true=true:=by rcases hc with rfl|rfl<;>exact⟨rfl,rfl⟩
 refine Lx.G6 (u:=[44]) (t:=⟨1,[44],AY,0⟩) a0 (by simp) (IL (by decide) _) ?_
 rw[show len w+len [(44:UInt8)]=len w+1 from rfl,PJ a1,HA a2 hcb.1]
 have:=Lx.G6 (u:=[c]) (r:=58::32::r) (t:=⟨2,[c],AY,0⟩) (l:=AE [58] (len w+3)::l) a2 (by simp) (aE (c:=c) (w:=[]) (lN hcb.2) (λ c r' e=>by cases e;decide)) (by
  rw[show len w+1+1+len [c]=len w+1+1+1 from rfl,HA a3 U]
  have:=Lx.G6 (u:=[58]) (r:=32::r) (t:=⟨1,[58],AY,0⟩) (l:=l) a3 (by simp) (IL (by decide) _) (by
   rw[show len w+1+1+1+len [(58:UInt8)]=len w+1+1+1+1 from rfl,PJ a4,show len w+1+1+1+1+1=len w+len [44,32,c,58,32]from by show _=len w+5;omega]
   exact h)
  rw[show len w+3=len w+1+1+1 by omega]
  exact this)
 rw[show len w+2=len w+1+1 by omega]
 exact this
theorem AH3{x:Tf}{n:A1}:(x.named n).t.name=n:=by cases x;rfl
section
variable {rt:Tf->Bool} {L B:List Tk} {n m:Int} {e:Tk} {p0 p1 p2 p3 p4 p5 p6 p7:Int}
theorem AH4(h:TA L 0 (AE [91] p0::B))(h2:TA L (n+1) (AE [93] p1::e::[]))(f:Nat):
  (∀x,AP A4 rt f L 1 1= .ok x (n+1)->AP A4 rt (f+1) L 0 0= .ok (.mk (AN 5) [x]) (n+2))/\(∀p,AP A4 rt f L 1 1= .er 3 p->AP A4 rt (f+1) L 0 0= .er 3 p):=by
 have e1:AP A4 rt (f+1) L 0 0=(AP A4 rt f L 1 1).bind λ x k=>(AR L k [93]).bind λ _ m=>.ok (.mk (AN 5) [x]) m:=by
  rw[AP,h.at,if_neg (show ¬(AE [91] p0).kind=2 from(by decide: ¬(1:Int)=2)),h.A9,VI (d:=0) (m:=[91]) h U U];rfl
 rw[e1]
 refine⟨λ x hx=>?_,λ p hx=>by rw[hx];rfl⟩
 rw[hx]
 show(AR L (n+1) [93]).bind _=_
 rw[NC (m:=[93]) h2]
 show PR.ok _ _=PR.ok _ _
 congr 1;omega
theorem AH5(h:TA L 0 (AE [123] p0::AE [63] p1::AE [58] p2::B))(h2:TA L (n+3) (AE [125] p3::e::[]))(f:Nat):
  (∀x,AP A4 rt f L 1 3= .ok x (n+3)->AP A4 rt (f+2) L 0 0= .ok (.mk (AN 3) [x]) (n+4))/\(∀p,AP A4 rt f L 1 3= .er 3 p->AP A4 rt (f+2) L 0 0= .er 3 p):=by
 have a1:=h.one
 have a2:=a1.one
 have e1:AP A4 rt (f+2) L 0 0=(AP A4 rt f L 1 3).bind λ x k=>(AR L k [125]).bind λ _ m=>.ok (.mk (AN 3) [x]) m:=by
  rw[AP,h.at,if_neg (show ¬(AE [123] p0).kind=2 from(by decide: ¬(1:Int)=2)),h.A9,if_pos (show((AE [123] p0).kind==1&&(AE [123] p0).s==[123])=true from rfl),VI (d:=0) (m:=[123]) h U U,if_neg (by decide)]
  show D1 A4 rt (f+1) L 1 [] 1=_
  rw[D1,if_neg (by rw[show(1:Int)=0+1 from rfl,a1.A9];exact Bool.false_ne_true)]
  show(if A9 L 1 [63]=true then _ else _)=_
  rw[if_pos (by rw[show(1:Int)=0+1 from rfl,a1.A9];rfl),if_pos (by rw[show(1:Int)+1=0+1+1 from rfl,a2.A9];rfl)];rfl
 rw[e1]
 refine⟨λ x hx=>?_,λ p hx=>by rw[hx];rfl⟩
 rw[hx]
 show(AR L (n+3) [125]).bind _=_
 rw[NC (m:=[125]) h2]
 show PR.ok _ _=PR.ok _ _
 congr 1;omega
theorem AH6{q:A1->A1}{f:Nat}{l:List Tk}{d i:Int}(h:A9 l i [41]=true): ∃p,AP q rt f l d i= .er 1 p:=by
 have hk:(at' l i).kind=1/\(at' l i).s=[41]:=by unfold A9 at h;simpa using h
 cases f with
 |zero=>exact⟨_,rfl⟩
 |succ f=>
  have h1:A9 l i [123]=false:=by unfold A9;rw[hk.2];simp
  have h2:A9 l i [91]=false:=by unfold A9;rw[hk.2];simp
  rw[AP,if_neg (by rw[hk.1];decide),h1,if_neg (by decide)]
  have e:C9 l d i [91]=B8 l i 1:=by unfold C9 AR;rw[h2];rfl
  rw[e];exact⟨_,rfl⟩
theorem AH7(h:TA L 0 (EK EW p0::AE [40] p1::B)){C:List Tk}(hm:TA L (n+2) (AE [44] p2::C))(h2:TA L (m+n+3) (AE [41] p3::e::[]))(f:Nat):
  (∀x y,AP A4 rt (f+2) L 1 2= .ok x (n+2)->AP A4 rt (f+1) L 1 (n+3)= .ok y (m+n+3)->AP A4 rt (f+5) L 0 0= .ok (.mk (AN 4) [x,y]) (m+n+4))/\
  (∀p,AP A4 rt (f+2) L 1 2= .er 3 p->AP A4 rt (f+5) L 0 0= .er 3 p)/\(∀x p,AP A4 rt (f+2) L 1 2= .ok x (n+2)->AP A4 rt (f+1) L 1 (n+3)= .er 3 p->AP A4 rt (f+5) L 0 0= .er 3 p):=by
 have a1:=h.one
 have e1:AP A4 rt (f+5) L 0 0=(D6 A4 rt (f+3) L 1 [] 2).bind λ x k=>(AR L k [41]).bind λ _ m=>.ok x m:=by
  rw[AP,h.at,if_pos (show(EK EW p0).kind=2 from rfl),HN,h.at,if_neg (show ¬(EK EW p0).s=KK from(by decide: ¬EW=KK)),if_pos (show(EK EW p0).s=EW from rfl),VI (d:=0) (m:=[40]) a1 U U,if_neg (by decide)];rfl
 have e2: ∀r:PR Tf,AP A4 rt (f+2) L 1 2=r->(∀p,r≠ .er 1 p)->D6 A4 rt (f+3) L 1 [] 2=r.bind λ x m=>D6 A4 rt (f+2) L 1 [x] m:=by
  intro r hr hn
  have hno: ¬A9 L 2 [41]=true:=λ q=>by
   obtain⟨p,hp⟩:=AH6 (rt:=rt) (q:=A4) (f:=f+2) (d:=1) q
   rw[hr]at hp;exact hn p hp
  rw[D6,if_neg hno]
  show(AP A4 rt (f+2) L 1 2).bind _=_
  rw[hr];rfl
 have e3: ∀x,D6 A4 rt (f+2) L 1 [x] (n+2)=(AP A4 rt (f+1) L 1 (n+3)).bind λ y k=>D6 A4 rt (f+1) L 1 [x,y] k:=by
  intro x
  rw[D6,if_neg (by rw[hm.A9];exact Bool.false_ne_true)]
  show((AR L (n+2) [44]).bind _)=_
  rw[NC (m:=[44]) hm,show n+2+1=n+3 by omega];rfl
 refine⟨λ x y hx hy=>?_,λ p hx=>?_,λ x p hx hy=>?_⟩
 ·rw[e1,e2 _ hx (λ p q=>by cases q)]
  show(D6 A4 rt (f+2) L 1 [x] (n+2)).bind _=_
  rw[e3,hy]
  show(D6 A4 rt (f+1) L 1 [x,y] (m+n+3)).bind _=_
  rw[D6,if_pos (by rw[h2.A9];rfl)]
  show(AR L (m+n+3) [41]).bind _=_
  rw[NC (m:=[41]) h2]
  show PR.ok _ _=PR.ok _ _
  congr 1;omega
 ·rw[e1,e2 _ hx (λ p q=>by cases q)];rfl
 ·rw[e1,e2 _ hx (λ p q=>by cases q)]
  show(D6 A4 rt (f+2) L 1 [x] (n+2)).bind _=_
  rw[e3,hy];rfl
theorem AH8{k1 k2:Tk}(hk1:k1.kind=2\/k1.kind=4)(hk2:k2.kind=2\/k2.kind=4)(hne:k2.s≠k1.s)(h:TA L 0 (AE [123] p0::k1::AE [58] p1::B)){C:List Tk}(hm:TA L (n+3) (AE [44] p2::k2::AE [58] p3::C))(h2:TA L (m+n+6) (AE [125] p4::e::[]))(f:Nat):
  (∀x y,AP A4 rt (f+2) L 1 3= .ok x (n+3)->AP A4 rt (f+1) L 1 (n+6)= .ok y (m+n+6)->AP A4 rt (f+4) L 0 0= .ok (H3 0 [x.named k1.s,y.named k2.s]) (m+n+7))/\
  (∀p,AP A4 rt (f+2) L 1 3= .er 3 p->AP A4 rt (f+4) L 0 0= .er 3 p)/\(∀x p,AP A4 rt (f+2) L 1 3= .ok x (n+3)->AP A4 rt (f+1) L 1 (n+6)= .er 3 p->AP A4 rt (f+4) L 0 0= .er 3 p):=by
 have a1:TA L 1 _:=h.one
 have a2:TA L 2 _:=a1.one
 have b1:TA L (n+4) (k2::AE [58] p3::C):=by have:=hm.one;rw[show n+3+1=n+4 by omega]at this;exact this
 have b2:TA L (n+5) (AE [58] p3::C):=by have:=b1.one;rw[show n+4+1=n+5 by omega]at this;exact this
 have nm: ∀(k:Tk) (m:A1),k.kind=2\/k.kind=4->(k.kind==1&&k.s==m)=false:=λ k m h=>by rcases h with h|h<;>rw[h]<;>rfl
 have e1:AP A4 rt (f+4) L 0 0=(AP A4 rt (f+2) L 1 3).bind λ x m=>D1 A4 rt (f+2) L 1 [x.named k1.s] m:=by
  rw[AP,h.at,if_neg (show ¬(AE [123] p0).kind=2 from(by decide: ¬(1:Int)=2)),h.A9,if_pos (show((AE [123] p0).kind==1&&(AE [123] p0).s==[123])=true from rfl),VI (d:=0) (m:=[123]) h U U,if_neg (by decide)]
  show D1 A4 rt (f+3) L 1 [] 1=_
  rw[D1,if_neg (by rw[a1.A9,nm k1 _ hk1];exact Bool.false_ne_true)]
  show(if A9 L 1 [63]=true then _ else _)=_
  rw[if_neg (by rw[a1.A9,nm k1 _ hk1];exact Bool.false_ne_true),a1.at,if_neg (by
   rintro(⟨q1,q2⟩|q)
   ·rcases hk1 with h|h
    ·exact q1 h
    ·exact q2 h
   ·cases q)]
  show(AR L 2 [58]).bind _=_
  rw[NC (m:=[58]) a2];rfl
 have e2: ∀x:Tf,D1 A4 rt (f+2) L 1 [x.named k1.s] (n+3)=(AP A4 rt (f+1) L 1 (n+6)).bind λ y k=>D1 A4 rt (f+1) L 1 [x.named k1.s,y.named k2.s] k:=by
  intro x
  rw[D1,if_neg (by rw[hm.A9];exact Bool.false_ne_true)]
  show(AR L (n+3) [44]).bind _=_
  rw[NC (m:=[44]) hm,show n+3+1=n+4 by omega]
  show(if A9 L (n+4) [63]=true then _ else _)=_
  rw[if_neg (by rw[b1.A9,nm k2 _ hk2];exact Bool.false_ne_true),b1.at,if_neg (by
   rintro(⟨q1,q2⟩|q)
   ·rcases hk2 with h|h
    ·exact q1 h
    ·exact q2 h
   ·rw[List.map_cons,List.map_nil,List.mem_singleton,AH3]at q;exact hne q)]
  rw[show n+4+1=n+5 by omega,NC (m:=[58]) b2,show n+5+1=n+6 by omega];rfl
 refine⟨λ x y hx hy=>?_,λ p hx=>?_,λ x p hx hy=>?_⟩
 ·rw[e1,hx]
  show D1 A4 rt (f+2) L 1 [x.named k1.s] (n+3)=_
  rw[e2,hy]
  show D1 A4 rt (f+1) L 1 [x.named k1.s,y.named k2.s] (m+n+6)=_
  rw[D1,if_pos (by rw[h2.A9];rfl)]
  congr 1;omega
 ·rw[e1,hx];rfl
 ·rw[e1,hx]
  show D1 A4 rt (f+2) L 1 [x.named k1.s] (n+3)=_
  rw[e2,hy];rfl
end
end Go.Eng
namespace Go.Eng
section
variable {rt:Tf->Bool}
theorem VP{L:List Tk}{X:Tf}{j:Int}{e:Tk}{r:List Tk}(h:AP A4 rt (4*L.length+4) L 0 0= .ok X j)(he:TA L j (e::r))(h6:e.kind=6):K0 A4 rt L=(X.flat,0,0):=by
 unfold K0;rw[h];dsimp only;rw[he.at,if_pos h6]
theorem PK{L:List Tk}{p:Int}(h:AP A4 rt (4*L.length+4) L 0 0= .er 3 p):K0 A4 rt L=([],p,3):=by unfold K0;rw[h]
theorem VQ{s:A1}{L:List Tk}(h:BB s=(L,0,0)):B2 A4 rt s=K0 A4 rt L:=by unfold B2;rw[h];simp
theorem TA.part (A l r:List Tk):TA (A++(l++r)) (len A+len l) r:=by
 have h1:TA (A++(l++r)) 0 (A++(l++r)):=⟨Int.le_refl 0,rfl⟩
 have h2:=(TA.add h1).add
 rw[Int.zero_add]at h2;exact h2
abbrev L0(l:List Tk)(s:A1):Nat:=4*(l++[BH s]).length+4
abbrev FF(rt:Tf->Bool)(l:List Tk)(s:A1):PR Tf:=AP A4 rt (L0 l s) (l++[BH s]) 1 0
theorem M5(l:List Tk)(k:Int):len (l.map (BW k))=len l:=by unfold len;rw[List.length_map]
theorem PL{m:A1}{i:Int}(h:m∈PG):(AE m i).s∈PG:=h
theorem PM{l L A r:List Tk}{s:A1}{t:Tk}{k:Int}(hk:C6 (l++[BH s]))(hl: ∀t∈l,t.kind≠6)(hL:L=A++(l.map (BW k)++t::r))(ht:t.kind=1/\t.s∈PG){F:Nat}(hF:L0 l s<=F):
  (∀x,FF rt l s= .ok x (len l)->AP A4 rt F L 1 (len A)= .ok x (len l+len A))/\(∀p,FF rt l s= .er 3 p-> ∃p',AP A4 rt F L 1 (len A)= .er 3 p'):=by
 have v:=AG4 (l:=l) (A:=A) (r:=r) (e:=BH s) (t:=t) (k:=k) U hl (.inr ht)
 rw[<-hL]at v
 have h0:(0:Int)<len (l++[BH s]):=by rw[AG];have:=A8 l;show(0:Int)<_+1;omega
 have m:=(aI rt hk v false (L0 l s)).ty F 1 1 0 hF (λ _=>rfl) (Int.le_refl 0) h0
 rw[Int.zero_add]at m
 refine⟨λ x hx=>?_,λ p hp=>m.2 U p hp⟩
 rcases m.1 x _ hx with h|⟨h,_⟩
 ·exact h
 ·cases h
theorem AH9{a:A1}{la:List Tk}(hx:Lx a (AV a 0) la)(hk:C6 (la++[BH a])):
  (∀x,FF rt la a= .ok x (len la)->B2 A4 rt (CB [91] a [93])=((Tf.mk (AN 5) [x]).flat,0,0))/\(∀p,FF rt la a= .er 3 p-> ∃p',B2 A4 rt (CB [91] a [93])=([],p',3)):=by
 obtain⟨k,e,hlex⟩:=lL (c:=93) (by decide) AG6 hx
 obtain⟨L,hL⟩: ∃L,L=[AE [91] 0]++(la.map (BW k)++AE [93] e::[BH (CB [91] a [93])]):=⟨_,rfl⟩
 rw[<-hL]at hlex
 rw[VQ hlex]
 have hlen:4*L.length+4=(4*(la.length+3)+3)+1:=by rw[hL];simp
 have hv:=PM (rt:=rt) hk hx.kind hL ⟨rfl,PL (by decide)⟩ (F:=4*(la.length+3)+3) (by unfold L0;simp;omega)
 have hp:=TA.part [AE [91] 0] (la.map (BW k)) (AE [93] e::[BH (CB [91] a [93])])
 rw[<-hL,M5,show len [AE [91] 0]+len la=len la+1 from by rw[show len [AE [91] 0]=1 from rfl];omega]at hp
 have hj:=AH4 (rt:=rt) (L:=L) (n:=len la) (B:=la.map (BW k)++AE [93] e::[BH (CB [91] a [93])]) (by rw[hL];exact⟨Int.le_refl 0,rfl⟩) hp (4*(la.length+3)+3)
 have hpe:=hp.one
 rw[show len la+1+1=len la+2 by omega]at hpe
 refine⟨λ x h=>?_,λ p h=>?_⟩
 ·exact VP (by rw[hlen];exact hj.1 x (hv.1 x h)) hpe U
 ·obtain⟨p',h2⟩:=hv.2 p h
  exact⟨p',PK (by rw[hlen];exact hj.2 p' h2)⟩
theorem AI0{a:A1}{la:List Tk}(hx:Lx a (AV a 0) la)(hk:C6 (la++[BH a])):
  (∀x,FF rt la a= .ok x (len la)->B2 A4 rt (CB [123,63,58,32] a [125])=((Tf.mk (AN 3) [x]).flat,0,0))/\(∀p,FF rt la a= .er 3 p-> ∃p',B2 A4 rt (CB [123,63,58,32] a [125])=([],p',3)):=by
 obtain⟨k,e,hlex⟩:=lL (c:=125) (by decide) AG7 hx
 obtain⟨L,hL⟩: ∃L,L=[AE [123] 0,AE [63] 1,AE [58] 2]++(la.map (BW k)++AE [125] e::[BH (CB [123,63,58,32] a [125])]):=⟨_,rfl⟩
 rw[<-hL]at hlex
 rw[VQ hlex]
 have hlen:4*L.length+4=(4*(la.length+5)+2)+2:=by rw[hL];simp
 have hv:=PM (rt:=rt) hk hx.kind hL ⟨rfl,PL (by decide)⟩ (F:=4*(la.length+5)+2) (by unfold L0;simp;omega)
 have hp:=TA.part [AE [123] 0,AE [63] 1,AE [58] 2] (la.map (BW k)) (AE [125] e::[BH (CB [123,63,58,32] a [125])])
 rw[<-hL,M5,show len [AE [123] 0,AE [63] 1,AE [58] 2]+len la=len la+3 from by rw[show len [AE [123] 0,AE [63] 1,AE [58] 2]=3 from rfl];omega]at hp
 have hj:=AH5 (rt:=rt) (L:=L) (n:=len la) (B:=la.map (BW k)++AE [125] e::[BH (CB [123,63,58,32] a [125])]) (by rw[hL];exact⟨Int.le_refl 0,rfl⟩) hp (4*(la.length+5)+2)
 have hpe:=hp.one
 rw[show len la+3+1=len la+4 by omega]at hpe
 refine⟨λ x h=>?_,λ p h=>?_⟩
 ·exact VP (by rw[hlen];exact hj.1 x (hv.1 x h)) hpe U
 ·obtain⟨p',h2⟩:=hv.2 p h
  exact⟨p',PK (by rw[hlen];exact hj.2 p' h2)⟩
abbrev K5(a b:A1):A1:=[116,117,112,40]++(a++(44::[32]++(b++[41])))
theorem AI1{a b:A1}{la lb:List Tk}(hx:Lx a (AV a 0) la)(hk:C6 (la++[BH a]))(hy:Lx b (AV b 0) lb)(hk2:C6 (lb++[BH b])):
  (∀x y,FF rt la a= .ok x (len la)->FF rt lb b= .ok y (len lb)->B2 A4 rt (K5 a b)=((Tf.mk (AN 4) [x,y]).flat,0,0))/\(∀p,FF rt la a= .er 3 p-> ∃p',B2 A4 rt (K5 a b)=([],p',3))/\
  (∀x p,FF rt la a= .ok x (len la)->FF rt lb b= .er 3 p-> ∃p',B2 A4 rt (K5 a b)=([],p',3)):=by
 obtain⟨k,e,k2,e2,hlex⟩:=lM (c:=41) (by decide) AG8 AH2 hx hy
 obtain⟨E,hE⟩: ∃E,E=BH (K5 a b):=⟨_,rfl⟩
 obtain⟨L,hL⟩: ∃L,L=[EK EW 0,AE [40] 3]++(la.map (BW k)++AE [44] e::(lb.map (BW k2)++AE [41] e2::[E])):=⟨_,rfl⟩
 have hlex:BB (K5 a b)=(L,0,0):=by rw[hL,hE];exact hlex
 rw[VQ hlex]
 have hL2:L=([EK EW 0,AE [40] 3]++(la.map (BW k)++[AE [44] e]))++(lb.map (BW k2)++AE [41] e2::[E]):=by rw[hL];simp
 have hlA2:len ([EK EW 0,AE [40] 3]++(la.map (BW k)++[AE [44] e]))=len la+3:=by rw[AG,AG,M5];show(2:Int)+(_+1)=_;omega
 have hlA:len [EK EW 0,AE [40] 3]=2:=rfl
 have hlen:4*L.length+4=(4*(la.length+lb.length+5)-1)+5:=by rw[hL];simp;omega
 have hv:=PM (rt:=rt) hk hx.kind hL ⟨rfl,PL (by decide)⟩ (F:=(4*(la.length+lb.length+5)-1)+2) (by unfold L0;simp;omega)
 have hv2:=PM (rt:=rt) hk2 hy.kind hL2 ⟨rfl,PL (by decide)⟩ (F:=(4*(la.length+lb.length+5)-1)+1) (by unfold L0;simp;omega)
 rw[hlA]at hv
 rw[hlA2]at hv2
 have hp:=TA.part [EK EW 0,AE [40] 3] (la.map (BW k)) (AE [44] e::(lb.map (BW k2)++AE [41] e2::[E]))
 rw[<-hL,M5,hlA,show 2+len la=len la+2 by omega]at hp
 have hp2:=TA.part ([EK EW 0,AE [40] 3]++(la.map (BW k)++[AE [44] e])) (lb.map (BW k2)) (AE [41] e2::[E])
 rw[<-hL2,M5,hlA2,show len la+3+len lb=len lb+len la+3 by omega]at hp2
 have hj:=AH7 (rt:=rt) (L:=L) (n:=len la) (m:=len lb) (B:=la.map (BW k)++AE [44] e::(lb.map (BW k2)++AE [41] e2::[E])) (by rw[hL];exact⟨Int.le_refl 0,rfl⟩) hp hp2 (4*(la.length+lb.length+5)-1)
 have hpe:=hp2.one
 rw[show len lb+len la+3+1=len lb+len la+4 by omega]at hpe
 have h6:E.kind=6:=by rw[hE];rfl
 refine⟨λ x y h h2=>?_,λ p h=>?_,λ x p h h2=>?_⟩
 ·exact VP (by rw[hlen];exact hj.1 x y (hv.1 x h) (by have:=hv2.1 y h2;rw[show len lb+(len la+3)=len lb+len la+3 by omega]at this;exact this)) hpe h6
 ·obtain⟨p',h2⟩:=hv.2 p h
  exact⟨p',PK (by rw[hlen];exact hj.2.1 p' h2)⟩
 ·obtain⟨p',h3⟩:=hv2.2 p h2
  exact⟨p',PK (by rw[hlen];exact hj.2.2 x p' (hv.1 x h) h3)⟩
theorem lP{p m:A1}{q0 q1:Int}{k1:Tk}{c:UInt8}{a b:A1}{la lb:List Tk}(hP:LZ p [AE [123] q0,k1,AE [58] q1])(hM:VO (44::m) λ e=>[AE [44] e,EK [c] (e+2),AE [58] (e+3)])(hk1:k1.kind=2\/k1.kind=4)(hne:[c]≠k1.s)(hx:Lx a (AV a 0) la)(hk:C6 (la++[BH a]))(hy:Lx b (AV b 0) lb)(hk2:C6 (lb++[BH b])):
  (∀x y,FF rt la a= .ok x (len la)->FF rt lb b= .ok y (len lb)->B2 A4 rt (p++(a++(44::m++(b++[125]))))=((H3 0 [x.named k1.s,y.named [c]]).flat,0,0))/\(∀r,FF rt la a= .er 3 r-> ∃p',B2 A4 rt (p++(a++(44::m++(b++[125]))))=([],p',3))/\
  (∀x r,FF rt la a= .ok x (len la)->FF rt lb b= .er 3 r-> ∃p',B2 A4 rt (p++(a++(44::m++(b++[125]))))=([],p',3)):=by
 obtain⟨k,e,k2,e2,hlex⟩:=lM (c:=125) (by decide) hP hM hx hy
 obtain⟨T,hT⟩: ∃T,T=p++(a++(44::m++(b++[125]))):=⟨_,rfl⟩
 rw[<-hT]at hlex ⊢
 obtain⟨E,hE⟩: ∃E,E=BH T:=⟨_,rfl⟩
 obtain⟨L,hL⟩: ∃L,L=[AE [123] q0,k1,AE [58] q1]++(la.map (BW k)++AE [44] e::(EK [c] (e+2)::AE [58] (e+3)::(lb.map (BW k2)++AE [125] e2::[E]))):=⟨_,rfl⟩
 have hlex:BB T=(L,0,0):=by rw[hL,hE];exact hlex
 rw[VQ hlex]
 have hL2:L=([AE [123] q0,k1,AE [58] q1]++(la.map (BW k)++[AE [44] e,EK [c] (e+2),AE [58] (e+3)]))++(lb.map (BW k2)++AE [125] e2::[E]):=by rw[hL];simp
 have hlA2:len ([AE [123] q0,k1,AE [58] q1]++(la.map (BW k)++[AE [44] e,EK [c] (e+2),AE [58] (e+3)]))=len la+6:=by rw[AG,AG,M5];show(3:Int)+(_+3)=_;omega
 have hlA:len [AE [123] q0,k1,AE [58] q1]=3:=rfl
 have hlen:4*L.length+4=(4*(la.length+lb.length+8))+4:=by rw[hL];simp;omega
 have hv:=PM (rt:=rt) hk hx.kind hL ⟨rfl,PL (by decide)⟩ (F:=(4*(la.length+lb.length+8))+2) (by unfold L0;simp;omega)
 have hv2:=PM (rt:=rt) hk2 hy.kind hL2 ⟨rfl,PL (by decide)⟩ (F:=(4*(la.length+lb.length+8))+1) (by unfold L0;simp;omega)
 rw[hlA]at hv
 rw[hlA2]at hv2
 have hp:=TA.part [AE [123] q0,k1,AE [58] q1] (la.map (BW k)) (AE [44] e::(EK [c] (e+2)::AE [58] (e+3)::(lb.map (BW k2)++AE [125] e2::[E])))
 rw[<-hL,M5,hlA,show 3+len la=len la+3 by omega]at hp
 have hp2:=TA.part ([AE [123] q0,k1,AE [58] q1]++(la.map (BW k)++[AE [44] e,EK [c] (e+2),AE [58] (e+3)])) (lb.map (BW k2)) (AE [125] e2::[E])
 rw[<-hL2,M5,hlA2,show len la+6+len lb=len lb+len la+6 by omega]at hp2
 have hj:=AH8 (rt:=rt) (L:=L) (n:=len la) (m:=len lb) (k2:=EK [c] (e+2)) hk1 (.inl U) hne (B:=la.map (BW k)++AE [44] e::(EK [c] (e+2)::AE [58] (e+3)::(lb.map (BW k2)++AE [125] e2::[E]))) (by rw[hL];exact⟨Int.le_refl 0,rfl⟩) hp hp2 (4*(la.length+lb.length+8))
 have hpe:=hp2.one
 rw[show len lb+len la+6+1=len lb+len la+7 by omega]at hpe
 have h6:E.kind=6:=by rw[hE];rfl
 refine⟨λ x y h h2=>?_,λ p h=>?_,λ x p h h2=>?_⟩
 ·exact VP (by rw[hlen];exact hj.1 x y (hv.1 x h) (by have:=hv2.1 y h2;rw[show len lb+(len la+6)=len lb+len la+6 by omega]at this;exact this)) hpe h6
 ·obtain⟨p',h2⟩:=hv.2 p h
  exact⟨p',PK (by rw[hlen];exact hj.2.1 p' h2)⟩
 ·obtain⟨p',h3⟩:=hv2.2 p h2
  exact⟨p',PK (by rw[hlen];exact hj.2.2 x p' (hv.1 x h) h3)⟩
abbrev S9(a b:A1):A1:=[123,34,120,34,58,32]++(a++(44::[32,121,58,32]++(b++[125])))
abbrev SA(a b:A1):A1:=[123,121,58,32]++(b++(44::[32,120,58,32]++(a++[125])))
theorem AI2{a b:A1}(hs:len a+len b<=400)(ha:(B2 A4 rt a).2.2=0)(hb:(B2 A4 rt b).2.2=0):
  ∃x y:Tf,B2 A4 rt a=(x.flat,0,0)/\B2 A4 rt b=(y.flat,0,0)/\len x.flat<=1048576/\len y.flat<=1048576/\
   ((∃p1 p2 p3 p4 p5,B2 A4 rt (CB [91] a [93])=([],p1,3)/\B2 A4 rt (CB [123,63,58,32] a [125])=([],p2,3)/\B2 A4 rt (K5 a b)=([],p3,3)/\B2 A4 rt (S9 a b)=([],p4,3)/\B2 A4 rt (SA a b)=([],p5,3))\/
    (B2 A4 rt (CB [91] a [93])=((Tf.mk (AN 5) [x]).flat,0,0)/\B2 A4 rt (CB [123,63,58,32] a [125])=((Tf.mk (AN 3) [x]).flat,0,0)/\
     ((∃p3 p4 p5,B2 A4 rt (K5 a b)=([],p3,3)/\B2 A4 rt (S9 a b)=([],p4,3)/\B2 A4 rt (SA a b)=([],p5,3))\/
      (B2 A4 rt (K5 a b)=((Tf.mk (AN 4) [x,y]).flat,0,0)/\B2 A4 rt (S9 a b)=((Tf.mk { AN 2 with n:=0} [x.named [120],y.named [121]]).flat,0,0)/\B2 A4 rt (SA a b)=((Tf.mk { AN 2 with n:=0} [x.named [120],y.named [121]]).flat,0,0))))):=by
 have hla:=A8 a
 have hlb:=A8 b
 obtain⟨la,x,hx,_,hk,hr,hpa,hna⟩:=lJ (by omega) ha
 obtain⟨lb,y,hy,_,hk2,hr2,hpb,hnb⟩:=lJ (by omega) hb
 have deep: ∀ {l:List Tk} {s:A1} {x:Tf},C6 (l++[BH s])->AP A4 rt (4*(l++[BH s]).length+4) (l++[BH s]) 0 0= .ok x (len l)->FF rt l s= .ok x (len l)\/ ∃p,FF rt l s= .er 3 p:=by
  intro l s x hk hr
  have h0:(0:Int)<len (l++[BH s]):=by rw[AG];have:=A8 l;show(0:Int)<_+1;omega
  have m:=((aI rt hk (Vy.self _) true _).ty (4*(l++[BH s]).length+4) 0 1 0 (Nat.le_refl _) (λ h=>by cases h) (Int.le_refl 0) h0).1 x (len l) hr
  rw[Int.add_zero,Int.add_zero]at m
  rcases m with m|⟨_,m⟩
  ·exact .inl m
  ·exact .inr m
 have o1:=lP (rt:=rt) AH0 (lO (c:=121) (.inr U)) (.inr U) (by decide) hx hk hy hk2
 have o2:=lP (rt:=rt) AH1 (lO (c:=120) (.inl U)) (.inl U) (by decide) hy hk2 hx hk
 have tl:=AI1 (rt:=rt) hx hk hy hk2
 have ll:=AH9 (rt:=rt) hx hk
 have dl:=AI0 (rt:=rt) hx hk
 have s1:H3 0 [x.named [120],y.named [121]]=Tf.mk { AN 2 with n:=0} [x.named [120],y.named [121]]:=by cases x;cases y;rfl
 have s2:H3 0 [y.named [121],x.named [120]]=Tf.mk { AN 2 with n:=0} [x.named [120],y.named [121]]:=by cases x;cases y;rfl
 refine⟨x,y,hpa,hpb,hna,hnb,?_⟩
 rcases deep hk hr with da|⟨p,da⟩
 ·right
  refine⟨ll.1 x da,dl.1 x da,?_⟩
  rcases deep hk2 hr2 with db|⟨p,db⟩
  ·right
   exact⟨tl.1 x y da db,by rw[<-s1];exact o1.1 x y da db,by rw[<-s2];exact o2.1 y x db da⟩
  ·left
   obtain⟨p3,h3⟩:=tl.2.2 x p da db
   obtain⟨p4,h4⟩:=o1.2.2 x p da db
   obtain⟨p5,h5⟩:=o2.2.1 p db
   exact⟨p3,p4,p5,h3,h4,h5⟩
 ·left
  obtain⟨p1,h1⟩:=ll.2 p da
  obtain⟨p2,h2⟩:=dl.2 p da
  obtain⟨p3,h3⟩:=tl.2.1 p da
  obtain⟨p4,h4⟩:=o1.2.1 p da
  rcases deep hk2 hr2 with db|⟨p',db⟩
  ·obtain⟨p5,h5⟩:=o2.2.2 y p db da
   exact⟨p1,p2,p3,p4,p5,h1,h2,h3,h4,h5⟩
  ·obtain⟨p5,h5⟩:=o2.2.1 p' db
   exact⟨p1,p2,p3,p4,p5,h1,h2,h3,h4,h5⟩
end
end Go.Eng
set_option maxRecDepth 100000
namespace Go.Eng
theorem AI3{α:Type}(y x:List α)(z:α):(y++x).set (len y).toNat z=y++x.set 0 z:=by
 rw[show(len y).toNat=y.length+0 by unfold len;omega,List.set_append_right _ _ (by omega)];simp
theorem AI4{α:Type}[Inhabited α](y x:List α):at' (y++x) (len y)=at' x 0:=by
 have:=VN y x (i:=0) (Int.le_refl 0)
 rw[Int.zero_add]at this;exact this
end Go.Eng
namespace Go.Proofs.YtmjpjbmeamnfpaaGreatDoor
open Go.Eng
theorem lQ{α:Type}[Inhabited α](a:List α){k:Int}(h0:0<=k)(h1:k<len a):Eng.sub a 0 (k+1)=Eng.sub a 0 k++[at' a k]:=sub_succ a k h0 h1
theorem AI5(M:Mem)(a b:Fl)(va vb:Value)(w:World)(hM:Sat w M)(ha:Sl M 11 a.length va (a.flatMap Tm.cells))(hb:Sl M 11 b.length vb (b.flatMap Tm.cells)):
    Calls Tryz.prog 19 [va,vb].toArray w λ e w'=>e= .returned (.bool (decide (a=b)))/\Ext w w':=by
 have hla:len a<=9223372036854775807:=ha.le
 refine B3 (Hr:=[]) AX Tryz.func19 U Tryz.ntmps19 [(0,BS va a),(1,BS vb b)] [] [.sl 0 va,.sl 1 vb] U (St.start hM) (fc 0 ha Tm.BZ (fc 1 hb Tm.BZ AA)) (λ B hB=>?_) U
 refine AB U (A0 U) (by omega) (λ hb1=>?_) (λ hb1=>?_)<;>simp only[zb]at hb1
 ·exact AH hB U U (A0 U) (by omega) U (A0 U) λ w M hX=>⟨by rw[decide_eq_false (λ e=>hb1 (by rw[e]))];rfl,hX.st.low⟩
 refine EA (λ k:Int=>⟨[(0,BS va a),(1,BS vb b)],[],[Z 0 (.sl 0 va),Z 1 (.sl 1 vb),Z 5 (I k)]⟩) (λ k=>0<=k/\k<=len a/\Eng.sub a 0 k=Eng.sub b 0 k) (λ k=>(len a-k).toNat) 0 U (A0 U) (by omega) U ⟨by omega,by have:=A8 a;omega,rfl⟩ ?_
 rintro k ⟨hk0,hk1,hke⟩
 refine AB U (A0 U) (by omega) (λ hb2=>?_) (λ hb2=>?_)<;>simp only[zb]at hb2
 ·have hkb:k<len b:=by omega
  refine KN [8] 2 (λ _ _ _ _ _ h=>h) U (A0 U) (by omega) EV (by decide+kernel) ?_
  refine CS 8 U (A0 U) (by omega) U U ?_
  refine DT (.v (.bool (!decide (at' a k=at' b k)))) U (A0 U) (by omega) U (λ w M hX=>PV.bin (AT (v:=S2 (at' a k)) U (A0 U)) (AT (v:=S2 (at' b k)) U (A0 U)) (λ _ w _=>AA4 _ _ _ _ w)) ?_
  refine CE U (A0 U) (by omega) ?_
  refine HQ U (A0 U) (by omega) U U ?_
  refine AB U (A0 U) (by omega) (λ hb3=>?_) (λ hb3=>?_)
  ·have hne: ¬at' a k=at' b k:=by simpa[zb]using hb3
   exact AH hB U U (A0 U) (by omega) U (A0 U) λ w M hX=>⟨by rw[decide_eq_false (λ e=>hne (by rw[e]))];rfl,hX.st.low⟩
  ·have heq:at' a k=at' b k:=by simpa[zb]using hb3
   exact DO (k+1) U (A0 U) (by omega) U ⟨by omega,by omega,by rw[lQ a hk0 hb2,lQ b hk0 hkb,hke,heq]⟩ (by show Int.toNat _<Int.toNat _;omega)
 ·have hab:a=b:=by rw[JM a k (by omega),JM b k (by omega)]at hke;exact hke
  exact AH hB U U (A0 U) (by omega) U (A0 U) λ w M hX=>⟨by rw[decide_eq_true hab];rfl,hX.st.low⟩
theorem SB{x y:Fl}(h:x=y)(M:Mem)(va vb:Value)(w:World)(hM:Sat w M)(ha:Sl M 11 x.length va (x.flatMap Tm.cells))(hb:Sl M 11 y.length vb (y.flatMap Tm.cells)):
  Calls Tryz.prog 19 [va,vb].toArray w λ e w'=>e= .returned (.bool true)/\Ext w w':=
 (AI5 M x y va vb w hM ha hb).mono λ e w' q=>by rw[decide_eq_true h]at q;exact q
theorem VR{w0 wv:World}{M0 M:Mem}{Rs:List HO}(t:Tm)(vn:Value)(ns:List A1)(v:Value)(hs:List AO)(xs:List Fl)(hS:St w0 M0 wv M Rs)(hn:Sl M 1 ns.length vn (ns.flatMap AW))(hu:(G0 v hs xs).ok M)(hne: ∀x∈xs,x≠[])(hb:len xs.flatten<=100000000000)(hr:len hs<=1048576):
  Calls Tryz.prog 20 [.agg t.cells.toArray,vn,v].toArray wv (LU w0 M0 M Rs ({ t with many:=len xs}::(E8 ns xs).flatten)):=by
 have hlr:=Y9 hu
 have hln:=A8 hs
 have hnl:=A8 ns
 rw[<-hlr]
 refine B3 (Hr:=Rs) AX Tryz.func20 U Tryz.ntmps20 [(0,G0 v hs xs),(1,kn vn 1 ns AW)] [] [.ag (HF t.cells),.sl 1 vn,.sl 0 v] U hS (C0 hu (fc 1 hn DN AA)) (λ B hB=>?_) U
 refine F6 3 U (A0 U) (by omega) U U (A0 U) λ b=>?_
 refine ML 7 [{ t with many:=len hs}] Tm.cells 11 48 Tm.BZ U (A0 U) (by omega) U (A0 U) (λ w=>by kernel_rfl) U λ u=>?_
 refine EA (σ:=Int×Value×Fl) (λ(k,u,y)=>⟨[(0,G0 v hs xs),(1,kn vn 1 ns AW)],[(7,C2 u y)],[Z 1 (.sl 1 vn),Z 2 (.sl 0 v),Z 7 (.sl 7 u),Z 8 (I k)]⟩)
   (λ(k,u,y)=>0<=k/\k<=len hs/\y= { t with many:=len hs}::(E8 ns (Eng.sub xs 0 k)).flatten) (λ(k,u,y)=>(len hs-k).toNat) (0,u,[{ t with many:=len hs}]) U (A0 U) (by omega) U ⟨by omega,by omega,rfl⟩ ?_
 rintro⟨k,u,y⟩ ⟨h0,h1,hy⟩
 refine AB U (A0 U) (by omega) (λ hb1=>?_) (λ hb1=>?_)<;>simp only[zb]at hb1
 ·have hxm:=hne _ (at_mem (l:=xs) h0 (by omega))
  have hxp:=JG hxm
  have hyl:len y=1+len (H5 xs k):=by
   have:=ZD ns (Eng.sub xs 0 k)
   rw[hy,AK,this]
   have e:Eng.sub xs 0 k=xs.take k.toNat:=by unfold Eng.sub;simp
   rw[e];unfold H5;omega
  have hft:=UB (xs:=xs) h0 (by omega)
  have hf2:=R5 xs (k+1)
  have hf3:=A8 (H5 xs k)
  rw[hft,AG]at hf2
  refine CH U (A0 U) (by omega) ?_
  refine I4 2 (BS (at' hs k).v (at' xs k)) (λ w M hX=>UC (hX.f.get (k:=0) U) h0 hb1) (QE 28 2 U ?_)
  refine KB 120 U (A0 U) (by omega) U (A0 U) U Tryz.underlying36 Tryz.type48 U U Tm.cells_one (by omega) λ v'=>?_
  refine CH U (A0 U) (by simp only[zb]<;>omega) ?_
  refine QE 38 2 U ?_
  refine HH 1 (λ s=> ∃z:Fl,z=y++HT ns k (at' xs k)/\s=⟨[(0,G0 v hs xs),(1,kn vn 1 ns AW)],[(7,C2 v' z)],[Z 1 (.sl 1 vn),Z 2 (.sl 0 v),Z 7 (.sl 7 v'),Z 8 (I k)]⟩) U (A0 U) (by simp only[zb]<;>omega) U (λ hb2=>?_) (λ hb2=>?_) ?_
  ·simp only[zb]at hb2
   have hln2:len (y++at' xs k)=len y+len (at' xs k):=AG _ _
   refine CL 10 U (A0 U) (by simp only[zb]<;>omega) Tryz.zeroValue48 U λ b10=>?_
   refine OA { at' (y++at' xs k) (len y)with name:=at' ns k} rfl (A0 U) (by simp only[zb]<;>omega) U (A0 U) U Tryz.sizeOf48 U U U (by omega) λ z hz=>?_
   refine BF _ U (A0 U) (by omega) U ⟨z,?_,rfl⟩
   rw[hz,AI3,AI4];unfold HT;rw[if_pos (by omega)]
  ·simp only[zb]at hb2
   exact BF _ U (A0 U) (by omega) U ⟨_,by unfold HT;rw[if_neg (by omega)],rfl⟩
  rintro s ⟨z,hz,rfl⟩
  refine DO (k+1,v',z) U (A0 U) (by omega) U ⟨by omega,by omega,?_⟩ (by show Int.toNat _<Int.toNat _;omega)
  have hsl:len (Eng.sub xs 0 k)=k:=by unfold Eng.sub;unfold len at*;rw[List.length_take,List.length_drop];simp only[Int.toNat_zero];omega
  rw[OZ h0 (by omega),j0,hsl,hz,hy]
  simp
 have hke:k=len hs:=by omega
 rw[LP (by omega)]at hy
 subst hy
 exact AH hB U U (A0 U) (by omega) U (A0 U) λ w M' hX=>RN ⟨u,M',rfl,trivial,hX.le,hX.st,AA⟩
end Go.Proofs.YtmjpjbmeamnfpaaGreatDoor
set_option maxRecDepth 100000
namespace Go.Proofs.YtmjpjbmeamnfpaaGreatDoor
open Go.Eng
abbrev NF(a:A1):A1:=[91]++a++[93]
abbrev NG(a:A1):A1:=[123,63,58,32]++a++[125]
abbrev NH(a b:A1):A1:=[116,117,112,40]++a++[44,32]++b++[41]
abbrev NI(a b:A1):A1:=[123,34,120,34,58,32]++a++[44,32,121,58,32]++b++[125]
abbrev NJ(a b:A1):A1:=[123,121,58,32]++b++[44,32,120,58,32]++a++[125]
abbrev sF(s:A1):Fl×Int×Int:=B2 A4 DC s
theorem AI6{a b:A1}(hs:len a+len b<=400)(ha:(sF a).2.2=0)(hb:(sF b).2.2=0):
  ∃(x y:Tf) (r1 r2 r3 r4 r5:Fl) (p1 p2 p3 p4 p5 eg ei:Int),sF a=(x.flat,0,0)/\sF b=(y.flat,0,0)/\(len x.flat<=1048576/\len y.flat<=1048576)/\sF (NF a)=(r1,p1,eg)/\sF (NG a)=(r2,p2,eg)/\sF (NH a b)=(r3,p3,ei)/\sF (NI a b)=(r4,p4,ei)/\sF (NJ a b)=(r5,p5,ei)/\
   (ei=3\/(ei=0/\r1=(Tf.mk (AN 5) [x]).flat/\r2=(Tf.mk (AN 3) [x]).flat/\r3=(Tf.mk (AN 4) [x,y]).flat/\r4=(Tf.mk { AN 2 with n:=0} [x.named [120],y.named [121]]).flat/\r5=(Tf.mk { AN 2 with n:=0} [x.named [120],y.named [121]]).flat)):=by
 obtain⟨x,y,h1,h2,hx1,hy1,h⟩:=AI2 (rt:=DC) hs ha hb
 have g1:NF a=CB [91] a [93]:=by simp[NF,CB]
 have g2:NG a=CB [123,63,58,32] a [125]:=by simp[NG,CB]
 have g3:NH a b=K5 a b:=by simp[NH,K5]
 have g4:NI a b=S9 a b:=by simp[NI,S9]
 have g5:NJ a b=SA a b:=by simp[NJ,SA]
 rw[g1,g2,g3,g4,g5]
 rcases h with⟨p1,p2,p3,p4,p5,e1,e2,e3,e4,e5⟩|⟨e1,e2,⟨p3,p4,p5,e3,e4,e5⟩|⟨e3,e4,e5⟩⟩
 ·exact⟨x,y,_,_,_,_,_,_,_,_,_,_,_,_,h1,h2,⟨hx1,hy1⟩,e1,e2,e3,e4,e5,.inl U⟩
 ·exact⟨x,y,_,_,_,_,_,_,_,_,_,_,_,_,h1,h2,⟨hx1,hy1⟩,e1,e2,e3,e4,e5,.inl U⟩
 ·exact⟨x,y,_,_,_,_,_,_,_,_,_,_,_,_,h1,h2,⟨hx1,hy1⟩,e1,e2,e3,e4,e5,.inr ⟨rfl,rfl,rfl,rfl,rfl,rfl⟩⟩
theorem AI7(x y:Tf):({ AN 2 with many:=len [x.flat,y.flat]}::(E8 [[120],[121]] [x.flat,y.flat]).flatten:Fl)=(Tf.mk { AN 2 with n:=0} [x.named [120],y.named [121]]).flat:=by
 rw[Tf.R6];cases x;cases y;rfl
theorem aM(o:Int)(xs:List Tf):({ AN o with many:=len (xs.map Tf.flat)}::(E8 [] (xs.map Tf.flat)).flatten:Fl)=(Tf.mk (AN o) xs).flat:=by
 rw[Tf.R6,ZE];unfold len;rw[List.length_map]
theorem AI8(a b:A1)(w:World)(hg:Gl w)(hla:len a<=281474976710656)(hlb:len b<=281474976710656):
    Calls Tryz.prog 7 [str a,str b].toArray w λ e w'=>e= .returned (.bool true)/\Ext w w':=by
 have ha0:=A8 a
 have hb0:=A8 b
 refine B3 AX Tryz.func7 U Tryz.ntmps7 [] [] [.v (str a),.v (str b)] U (GG w) AA (λ B hB=>?_) U
 refine AB U (A0 U) (by omega) (λ hb1=>?_) (λ hb1=>?_)<;>simp only[zb]at hb1
 ·refine BE U (A0 U) (by omega) Tryz.call16 U U (A0 U) (λ _ w M hX=>VJ w (hg.low hX.st.low)) U ?_
  exact AH hB U U (A0 U) (by omega) U (A0 U) λ w M hX=>⟨rfl,hX.st.low⟩
 by_cases h0:(sF a).2.2=0/\(sF b).2.2=0
 ·obtain⟨x,y,r1,r2,r3,r4,r5,p1,p2,p3,p4,p5,eg,ei,ea,eb,hxy,f1,f2,f3,f4,f5,hor⟩:=AI6 (by omega) h0.1 h0.2
  have hl1:len (NF a)<=100000:=by simp only[NF,AG,AK,len_nil];omega
  have hl2:len (NG a)<=100000:=by simp only[NG,AG,AK,len_nil];omega
  have hl3:len (NH a b)<=100000:=by simp only[NH,AG,AK,len_nil];omega
  have hl4:len (NI a b)<=100000:=by simp only[NI,AG,AK,len_nil];omega
  have hl5:len (NJ a b)<=100000:=by simp only[NJ,AG,AK,len_nil];omega
  refine HI (λ h:AO=>.tu [.sl 3 h.v,I 0,I 0]) [3] (Fg:=λ h=>[(0,BS h.v x.flat)]) (pu:=λ _=>True) U (A0 U) (by omega) U Tryz.call17 U U (A0 U) (λ w M hX=>by have:=IH IK a w M hX.st.sat (hg.low hX.st.low) (by omega);rw[show B2 A4 DC a=_ from ea]at this;exact this) (λ _=>rfl) λ h3 _=>?_
  refine HI (λ h:AO=>.tu [.sl 4 h.v,I 0,I 0]) [4] (Fg:=λ h=>[(0,BS h.v y.flat)]) (pu:=λ _=>True) U (A0 U) (by omega) U Tryz.call17 U U (A0 U) (λ w M hX=>by have:=IH IK b w M hX.st.sat (hg.low hX.st.low) (by omega);rw[show B2 A4 DC b=_ from eb]at this;exact this) (λ _=>rfl) λ h4 _=>?_
  refine AB U (A0 U) (by omega) (λ hb2=>?_) (λ hb2=>?_)
  ·cases hb2
  refine HI (λ h:AO=>.tu [.sl 5 h.v,I p1,I eg]) [5] (Fg:=λ h=>[(0,BS h.v r1)]) (pu:=λ _=>True) U (A0 U) (by simp only[AG,AK,len_nil];and_intros<;>first|omega|trivial) U Tryz.call17 U U (A0 U) (λ w M hX=>by have:=IH IK (NF a) w M hX.st.sat (hg.low hX.st.low) hl1;rw[show B2 A4 DC (NF a)=_ from f1]at this;exact this) (λ _=>rfl) λ h5 _=>?_
  refine HI (λ h:AO=>.tu [.sl 6 h.v,I p2,I eg]) [6] (Fg:=λ h=>[(0,BS h.v r2)]) (pu:=λ _=>True) U (A0 U) (by simp only[AG,AK,len_nil];and_intros<;>first|omega|trivial) U Tryz.call17 U U (A0 U) (λ w M hX=>by have:=IH IK (NG a) w M hX.st.sat (hg.low hX.st.low) hl2;rw[show B2 A4 DC (NG a)=_ from f2]at this;exact this) (λ _=>rfl) λ h6 _=>?_
  refine HI (λ h:AO=>.tu [.sl 7 h.v,I p3,I ei]) [7] (Fg:=λ h=>[(0,BS h.v r3)]) (pu:=λ _=>True) U (A0 U) (by simp only[AG,AK,len_nil];and_intros<;>first|omega|trivial) U Tryz.call17 U U (A0 U) (λ w M hX=>by have:=IH IK (NH a b) w M hX.st.sat (hg.low hX.st.low) hl3;rw[show B2 A4 DC (NH a b)=_ from f3]at this;exact this) (λ _=>rfl) λ h7 _=>?_
  refine HI (λ h:AO=>.tu [.sl 8 h.v,I p4,I ei]) [8] (Fg:=λ h=>[(0,BS h.v r4)]) (pu:=λ _=>True) U (A0 U) (by simp only[AG,AK,len_nil];and_intros<;>first|omega|trivial) U Tryz.call17 U U (A0 U) (λ w M hX=>by have:=IH IK (NI a b) w M hX.st.sat (hg.low hX.st.low) hl4;rw[show B2 A4 DC (NI a b)=_ from f4]at this;exact this) (λ _=>rfl) λ h8 _=>?_
  refine HI (λ h:AO=>.tu [.sl 9 h.v,I p5,I ei]) [9] (Fg:=λ h=>[(0,BS h.v r5)]) (pu:=λ _=>True) U (A0 U) (by simp only[AG,AK,len_nil];and_intros<;>first|omega|trivial) U Tryz.call17 U U (A0 U) (λ w M hX=>by have:=IH IK (NJ a b) w M hX.st.sat (hg.low hX.st.low) hl5;rw[show B2 A4 DC (NJ a b)=_ from f5]at this;exact this) (λ _=>rfl) λ h9 _=>?_
  refine AB U (A0 U) (by omega) (λ hb3=>?_) (λ hb3=>?_)
  ·simp at hb3
  refine AB U (A0 U) (by omega) (λ hb4=>?_) (λ hb4=>?_)<;>simp only[zb]at hb4
  ·have e3:ei=3:=hor.resolve_right (λ h=>hb4 h.1)
   subst e3
   refine BE U (A0 U) (by omega) Tryz.call16 U U (A0 U) (λ _ w M hX=>VJ w (hg.low hX.st.low)) U ?_
   exact AH hB U U (A0 U) (by omega) U (A0 U) λ w M hX=>⟨rfl,hX.st.low⟩
  have hok:=hor.resolve_left (by omega)
  obtain⟨rfl,rfl,rfl,rfl,rfl,rfl⟩:=hok
  have hfl:len [x.flat,y.flat].flatten<=100000000000:=by simp only[List.flatten_cons,List.flatten_nil,AG,len_nil];omega
  have hne: ∀z∈[x.flat,y.flat],z≠[]:=λ z hz=>by simp at hz;rcases hz with rfl|rfl;exact x.P0;exact y.P0
  have hl2:len [h3,h4]=2:=rfl
  have hl1':len [h3]=1:=rfl
  have hne1: ∀z∈[x].map Tf.flat,z≠[]:=λ z hz=>by simp at hz;rw[hz];exact x.P0
  have hfl1:len ([x].map Tf.flat).flatten<=100000000000:=by show len (x.flat++[])<=_;rw[List.append_nil];omega
  refine EN 20 [h3,h4] DB 1 36 EX U (A0 U) (by omega) U (A0 U) (λ w=>by kernel_rfl) U λ v20=>?_
  refine EN 21 [[120],[121]] AW 1 9 DN U (A0 U) (by omega) U (A0 U) (λ w=>by kernel_rfl) U λ v21=>?_
  refine B9 [] (λ u:AO=>.sl 22 u.v) [] (λ u=>[(22,C2 u.v (Tf.mk { AN 2 with n:=0} [x.named [120],y.named [121]]).flat)]) U (A0 U) (by omega) U Tryz.call20 U U (A0 U) U (λ w M hS hF=>by rw[<-AI7];exact VR (AN 2) v21 [[120],[121]] v20 [h3,h4] [x.flat,y.flat] hS (hF.get (k:=21) U).sl ⟨(hF.get (k:=20) U).sl,EX,(hF.get (k:=3) U).sl,(hF.get (k:=4) U).sl,trivial⟩ hne hfl (by omega)) (λ _=>rfl) (λ _=>rfl) λ h22 _=>?_
  refine FW 22 U ?_
  refine MK (gd:=none) 23 0 1 U (A0 U) (by omega) U (A0 U) U U ⟨.i64,_,rfl,A0 U⟩ Tryz.underlying43 Tryz.sizeOf36 (by omega) U U λ v23=>?_
  rw[show Eng.sub [h3,h4] 0 1=[h3]from rfl]
  refine B9 [] (λ u:AO=>.sl 24 u.v) [] (λ u=>[(24,C2 u.v (Tf.mk (AN 5) [x]).flat)]) U (A0 U) (by omega) U Tryz.call20 U U (A0 U) U (λ w M hS hF=>by rw[<-aM 5 [x]];exact VR (AN 5) (.slice none 0 0) [] v23 [h3] ([x].map Tf.flat) hS (Sl.nil M 1) ⟨(hF.get (k:=23) U).sl,EX,(hF.get (k:=3) U).sl,trivial⟩ hne1 hfl1 (by omega)) (λ _=>rfl) (λ _=>rfl) λ h24 _=>?_
  refine FW 24 U ?_
  refine BE U (A0 U) (by omega) Tryz.call19 U U (A0 U) (λ _ w M hX=>SB U M h5.v h24.v w hX.st.sat (hX.sl 5 U) (hX.sl 24 U)) U ?_
  refine IX (.v (.slice none 0 0)) U (A0 U) (by omega) U (λ _=>?_) (λ h=>absurd h (by decide))
  refine MK (gd:=none) 25 0 1 U (A0 U) (by omega) U (A0 U) U U ⟨.i64,_,rfl,A0 U⟩ Tryz.underlying43 Tryz.sizeOf36 (by omega) U U λ v25=>?_
  rw[show Eng.sub [h3,h4] 0 1=[h3]from rfl]
  refine IX (.v (.slice none 0 0)) U (A0 U) (by omega) U (λ _=>?_) (λ h=>absurd h (by decide))
  refine B9 [] (λ u:AO=>.sl 26 u.v) [] (λ u=>[(26,C2 u.v (Tf.mk (AN 3) [x]).flat)]) U (A0 U) (by omega) U Tryz.call20 U U (A0 U) U (λ w M hS hF=>by rw[<-aM 3 [x]];exact VR (AN 3) (.slice none 0 0) [] v25 [h3] ([x].map Tf.flat) hS (Sl.nil M 1) ⟨(hF.get (k:=25) U).sl,EX,(hF.get (k:=3) U).sl,trivial⟩ hne1 hfl1 (by omega)) (λ _=>rfl) (λ _=>rfl) λ h26 _=>?_
  refine FW 26 U ?_
  refine BE U (A0 U) (by omega) Tryz.call19 U U (A0 U) (λ _ w M hX=>SB U M h6.v h26.v w hX.st.sat (hX.sl 6 U) (hX.sl 26 U)) U ?_
  refine AB U (A0 U) (by omega) (λ hb5=>?_) (λ hb5=>?_)
  ·exact absurd hb5 (by decide)
  refine BE U (A0 U) (by omega) Tryz.call16 U U (A0 U) (λ _ w M hX=>VJ w (hg.low hX.st.low)) U ?_
  refine IX (.v (.slice none 0 0)) U (A0 U) (by omega) U (λ _=>?_) (λ h=>absurd h (by decide))
  refine B9 [] (λ u:AO=>.sl 27 u.v) [] (λ u=>[(27,C2 u.v (Tf.mk (AN 4) [x,y]).flat)]) U (A0 U) (by omega) U Tryz.call20 U U (A0 U) U (λ w M hS hF=>by rw[<-aM 4 [x,y]];exact VR (AN 4) (.slice none 0 0) [] v20 [h3,h4] ([x,y].map Tf.flat) hS (Sl.nil M 1) ⟨(hF.get (k:=20) U).sl,EX,(hF.get (k:=3) U).sl,(hF.get (k:=4) U).sl,trivial⟩ hne hfl (by omega)) (λ _=>rfl) (λ _=>rfl) λ h27 _=>?_
  refine FW 27 U ?_
  refine BE U (A0 U) (by omega) Tryz.call19 U U (A0 U) (λ _ w M hX=>SB U M h7.v h27.v w hX.st.sat (hX.sl 7 U) (hX.sl 27 U)) U ?_
  refine BE U (A0 U) (by omega) Tryz.call19 U U (A0 U) (λ _ w M hX=>SB U M h8.v h22.v w hX.st.sat (hX.sl 8 U) (hX.sl 22 U)) U ?_
  refine BE U (A0 U) (by omega) Tryz.call19 U U (A0 U) (λ _ w M hX=>SB U M h9.v h22.v w hX.st.sat (hX.sl 9 U) (hX.sl 22 U)) U ?_
  exact AH hB U U (A0 U) (by omega) U (A0 U) λ w M hX=>⟨rfl,hX.st.low⟩
 ·refine HI (λ h:AO=>.tu [.sl 3 h.v,I (sF a).2.1,I (sF a).2.2]) [3] U (A0 U) (by omega) U Tryz.call17 U U (A0 U) (λ w M hX=>IH IK a w M hX.st.sat (hg.low hX.st.low) (by omega)) (λ _=>rfl) λ h3 _=>?_
  refine HI (λ h:AO=>.tu [.sl 4 h.v,I (sF b).2.1,I (sF b).2.2]) [4] U (A0 U) (by omega) U Tryz.call17 U U (A0 U) (λ w M hX=>IH IK b w M hX.st.sat (hg.low hX.st.low) (by omega)) (λ _=>rfl) λ h4 _=>?_
  refine AB U (A0 U) (by omega) (λ hb2=>?_) (λ hb2=>?_)<;>simp only[zb]at hb2
  ·refine BE U (A0 U) (by omega) Tryz.call16 U U (A0 U) (λ _ w M hX=>VJ w (hg.low hX.st.low)) U ?_
   exact AH hB U U (A0 U) (by omega) U (A0 U) λ w M hX=>⟨rfl,hX.st.low⟩
  ·exact absurd hb2 h0
end Go.Proofs.YtmjpjbmeamnfpaaGreatDoor
set_option maxRecDepth 100000
namespace Go.Proofs.YtmjpjbmeamnfpaaGreatDoor.schemaJoins
open Go.ChangeShapes Go.WideShapes Go.ChangeAt Go.RowKit Go.Eng
noncomputable abbrev jP:=Tryz.prog
noncomputable abbrev jf:FuncId:=7
noncomputable abbrev FP:=Tryz.f7
noncomputable abbrev js:=Rows.schemaJoinsSpec
noncomputable abbrev jc:=Rows.schemaJoinsRow
theorem jk0:jc.wf (OpenSpec.ofChange js)=true:=by kernel_rfl
theorem jk1:laidOutB jP=true:=by kernel_rfl
theorem jk2:mapsRowed jP=true:=by kernel_rfl
theorem jk3:FP.params.all (jP.readableRec ·)=true:=by kernel_rfl
theorem jk4:namedTie jP jc.named js.vars=true:=by kernel_rfl
theorem jk5:(jc.stops==[])=true:=by kernel_rfl
theorem jk6:(jP.stops==[])=true:=by kernel_rfl
theorem jk7:(jc.knobs==[])=true:=by kernel_rfl
theorem jk8:(jP.stopKnobs==[])=true:=by kernel_rfl
theorem jk9:(jc.inPlace==jP.inPlace jf)=true:=by kernel_rfl
theorem AJ9:(jc.unfollowed==jP.unfollowed jf)=true:=by kernel_rfl
theorem AK0:(jc.recurses==jP.recurses jf)=true:=by kernel_rfl
theorem AK1:(jc.named==jP.varsNamed jf)=true:=by kernel_rfl
theorem AK2:(jc.maps==(FP.params.toList++js.plain.varTypes jP).any (jP.mapsRec ·))=true:=by kernel_rfl
theorem AK3:(jc.ifaces==(FP.params.toList++js.plain.varTypes jP).any (jP.ifacesRec ·))=true:=by kernel_rfl
theorem AK4:(jc.mapsOut==jP.mapsAmong FP.resultTypes.toList)=true:=by kernel_rfl
theorem AK5:(jc.loops==(FP.params.toList++js.plain.varTypes jP).any (jP.loopsFrom ·))=true:=by kernel_rfl
theorem AK6:(jc.wideKeys==(FP.params.toList++js.plain.varTypes jP++FP.resultTypes.toList).any (jP.wideKeysFrom ·))=true:=by kernel_rfl
theorem AK7:js.vars.all (jP.varReadable ·)=true:=by kernel_rfl
theorem AK8:FP.resultTypes.all (λ t=>jP.readableRec t&&decide (t<jP.types.size))=true:=by kernel_rfl
theorem AK9:(jc.ifacesOut==FP.resultTypes.toList.any (jP.ifacesRec ·))=true:=by kernel_rfl
theorem AL0:(jc.loopsOut==FP.resultTypes.toList.any (jP.loopsFrom ·))=true:=by kernel_rfl
theorem AL1:(jc.plainKeys==jP.plainKeys)=true:=by kernel_rfl
theorem AL2:jc.shortTexts.isNone=true:=by kernel_rfl
theorem AL3:jP.stopsHeard=true:=by kernel_rfl
theorem AL4:jP.mayEnter=true:=by kernel_rfl
theorem AL5:(jc.lifted==jP.liftsFinal)=true:=by kernel_rfl
theorem AL6:(jP.make==some jc.make)=true:=by kernel_rfl
theorem AL7:(jc.kinds==(if jc.domain.isEmpty then []else FP.params.toList.map λ t=>match jP.underlying t with|some (.int k)=>some k|_=>none))=true:=by kernel_rfl
theorem AL8:(jc.pinned==jc.pinnedBy)=true:=by kernel_rfl
theorem AL9:(jc.veiled==(FP.params.toList++js.plain.varTypes jP++FP.resultTypes.toList).any (jP.veiledRec ·))=true:=by kernel_rfl
theorem AM0:jc.veiledFits jP FP.params.toList (FP.params.toList++js.plain.varTypes jP++FP.resultTypes.toList)=true:=by kernel_rfl
theorem CQ{a b:Bool}(h:a=true)(h2:b=true):(a&&b)=true:=by rw[h,h2];rfl
theorem aN:joinedFacts jP jf FP js jc=true:=(CQ (CQ (CQ (CQ (CQ (CQ (CQ (CQ (CQ (CQ (CQ (CQ (CQ (CQ (CQ (CQ (CQ (CQ (CQ (CQ (CQ (CQ (CQ (CQ (CQ (CQ (CQ (CQ (CQ (CQ (CQ jk0 jk1) jk2) jk3) jk4) jk5) jk6) jk7) jk8) jk9) AJ9) AK0) AK1) AK2) AK3) AK4) AK5) AK6) AK7) AK8) AK9) AL0) AL1) AL2) AL3) AL4) AL5) AL6) AL7) AL8) AL9) AM0)
end Go.Proofs.YtmjpjbmeamnfpaaGreatDoor.schemaJoins
